/- Plain laws of events: when they are valid; no program. -/
import Derived.Test.YtmodpleonhniaaaGreatDoorRecEvent
namespace Go.Proofs.YtmodpleonhniaaaGreatDoor
set_option linter.unusedVariables false
open Go.RowKit
/-- the k-th event is right -/
def egB (es : List (Int × Int × Int × Int)) (k : Nat) : Bool :=
  decide (0 ≤ (glEvent es k).1) && (decide ((glEvent es k).1 < (glEvent es k).2.1) && (decide ((glEvent es k).2.1 ≤ 5000000000) && (inR (glEvent es k).2.2.1 0 107 && (inR (glEvent es k).2.2.2 1 127 && (decide (k = 0) || decide ((glEvent es (k - 1)).2.1 ≤ (glEvent es k).1))))))
def evB (es : List (Int × Int × Int × Int)) : Bool := decide (es.length ≤ 60) && (List.range es.length).all (egB es)
theorem ev_bad {es : List (Int × Int × Int × Int)} {k : Nat} (hk : k < es.length) (h : egB es k = false) : evB es = false := by
  unfold evB
  rw [Bool.and_eq_false_iff]
  exact .inr (List.all_eq_false.2 ⟨k, List.mem_range.2 hk, by simp [h]⟩)
theorem ev_all {es : List (Int × Int × Int × Int)} (h : ∀ k, k < es.length → egB es k = true) : evB es = decide (es.length ≤ 60) := by
  unfold evB
  rw [show (List.range es.length).all (egB es) = true from List.all_eq_true.2 fun k hk => h k (List.mem_range.1 hk), Bool.and_true]
theorem ev_no {es : List (Int × Int × Int × Int)} (h : ¬ es.length ≤ 60) : evB es = false := by
  unfold evB; rw [decide_eq_false h]; rfl
theorem evB_iff {es : List (Int × Int × Int × Int)} : evB es = true ↔ es.length ≤ 60 ∧ ∀ k, k < es.length → 0 ≤ (glEvent es k).1 ∧ (glEvent es k).1 < (glEvent es k).2.1 ∧ (glEvent es k).2.1 ≤ 5000000000 ∧ (0 ≤ (glEvent es k).2.2.1 ∧ (glEvent es k).2.2.1 ≤ 107) ∧ (1 ≤ (glEvent es k).2.2.2 ∧ (glEvent es k).2.2.2 ≤ 127) ∧ (0 < k → (glEvent es (k - 1)).2.1 ≤ (glEvent es k).1) := by
  simp only [evB, egB, Bool.and_eq_true, inR_iff, decide_eq_true_eq, List.all_eq_true, List.mem_range, Bool.or_eq_true]
  constructor
  · rintro ⟨h1, h3⟩
    refine ⟨h1, fun k hk => ?_⟩
    obtain ⟨a, b, c, d, e, f⟩ := h3 k hk
    exact ⟨a, b, c, d, e, fun h0 => by rcases f with f | f; omega; exact f⟩
  · rintro ⟨h1, h3⟩
    refine ⟨h1, fun k hk => ?_⟩
    obtain ⟨a, b, c, d, e, f⟩ := h3 k hk
    refine ⟨a, b, c, d, e, ?_⟩
    rcases Nat.eq_zero_or_pos k with h | h
    · exact .inl h
    · exact .inr (f h)
end Go.Proofs.YtmodpleonhniaaaGreatDoor
