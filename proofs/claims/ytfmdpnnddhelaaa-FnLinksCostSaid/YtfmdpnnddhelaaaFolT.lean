/- The table of a beginning. No condition. -/
import Derived.Test.YtfmdpnnddhelaaaFol3
namespace Go.Proofs.Ytfmdpnnddhelaaa
set_option linter.unusedVariables false
open Go.RowKit
theorem gi_take {a : List Int} {k i : Nat} (h : i < k) : gi (a.take k) i = gi a i := by
  simp [gi, List.getD, h]
theorem D_take (a b : List Int) (k : Nat) : ∀ i j : Nat, i ≤ k → D (a.take k) b i j = D a b i j := by
  intro i
  induction i with
  | zero => intro j _; rfl
  | succ i ih =>
    intro j h
    induction j with
    | zero => rfl
    | succ j ihj => rw [D_ss, D_ss, ih j (by omega), ih (j + 1) (by omega), ihj, gi_take (by omega)]
theorem okK_take {a : List Int} (h : okK a = true) (k : Nat) : okK (a.take k) = true := by
  simp only [okK, Bool.and_eq_true, decide_eq_true_eq] at h ⊢
  refine ⟨by rw [List.length_take]; omega, ?_⟩
  rw [List.all_eq_true] at h ⊢
  exact fun z hz => h.2 z (List.mem_of_mem_take hz)
theorem folL_take {a b : List Int} (ha : okK a = true) (hb : okK b = true) {k : Nat} (hk : k ≤ a.length) : folL (a.take k) b = D a b k b.length := by
  unfold folL
  rw [if_pos ⟨okK_take ha k, hb⟩, List.length_take, Nat.min_eq_left hk, D_take a b k k _ (Nat.le_refl _)]
end Go.Proofs.Ytfmdpnnddhelaaa
