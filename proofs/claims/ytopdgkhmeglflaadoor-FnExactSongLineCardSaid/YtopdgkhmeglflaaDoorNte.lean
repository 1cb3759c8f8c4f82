/- Plain laws of voices: when they are valid; no program. -/
import Derived.Test.YtopdgkhmeglflaaDoorNte1
namespace Go.Proofs.YtopdgkhmeglflaaDoor
set_option linter.unusedVariables false
open Go.RowKit
set_option linter.unusedSimpArgs false
def restN (z : Nt) : Bool := z.1
def stepN (z : Nt) : Int := z.2.1
def altN (z : Nt) : Int := z.2.2.1
def octN (z : Nt) : Int := z.2.2.2.1
def tickN' (z : Nt) : Int := z.2.2.2.2.1
def tiedN (z : Nt) : Bool := z.2.2.2.2.2
/-- the k-th note of a voice is right -/
def vgB (v : List Nt) (k : Nat) : Bool :=
  nvB (glNote v k) && (!(glNote v k).2.2.2.2.2 || (decide (k + 1 < v.length) && (!(glNote v (k + 1)).1 && decide ((glNote v (k + 1)).2.1 = (glNote v k).2.1 ∧ (glNote v (k + 1)).2.2.1 = (glNote v k).2.2.1 ∧ (glNote v (k + 1)).2.2.2.1 = (glNote v k).2.2.2.1))))
def vvB (v : List Nt) : Bool := decide (v.length ≤ 60) && (List.range v.length).all (vgB v)
theorem vv_bad {v : List Nt} {k : Nat} (hk : k < v.length) (h : vgB v k = false) : vvB v = false := by
  unfold vvB
  rw [Bool.and_eq_false_iff]
  exact .inr (List.all_eq_false.2 ⟨k, List.mem_range.2 hk, by simp [h]⟩)
theorem vv_all {v : List Nt} (h : ∀ k, k < v.length → vgB v k = true) : vvB v = decide (v.length ≤ 60) := by
  unfold vvB
  rw [show (List.range v.length).all (vgB v) = true from List.all_eq_true.2 fun k hk => h k (List.mem_range.1 hk), Bool.and_true]
theorem vv_no {v : List Nt} (h : ¬ v.length ≤ 60) : vvB v = false := by
  unfold vvB; rw [decide_eq_false h]; rfl
theorem vvB_iff {v : List Nt} : vvB v = true ↔ v.length ≤ 60 ∧ ∀ k, k < v.length → nvB (glNote v k) = true ∧ ((glNote v k).2.2.2.2.2 = true → k + 1 < v.length ∧ (glNote v (k + 1)).1 = false ∧ (glNote v (k + 1)).2.1 = (glNote v k).2.1 ∧ (glNote v (k + 1)).2.2.1 = (glNote v k).2.2.1 ∧ (glNote v (k + 1)).2.2.2.1 = (glNote v k).2.2.2.1) := by
  simp only [vvB, vgB, Bool.and_eq_true, decide_eq_true_eq, List.all_eq_true, List.mem_range, Bool.or_eq_true, Bool.not_eq_true']
  constructor
  · rintro ⟨h1, h3⟩
    refine ⟨h1, fun k hk => ?_⟩
    obtain ⟨a, b⟩ := h3 k hk
    refine ⟨a, fun h => ?_⟩
    rcases b with b | b
    · rw [h] at b; cases b
    · exact b
  · rintro ⟨h1, h3⟩
    refine ⟨h1, fun k hk => ?_⟩
    obtain ⟨a, b⟩ := h3 k hk
    refine ⟨a, ?_⟩
    cases h : (glNote v k).2.2.2.2.2
    · exact .inl rfl
    · exact .inr (b h)
end Go.Proofs.YtopdgkhmeglflaaDoor
