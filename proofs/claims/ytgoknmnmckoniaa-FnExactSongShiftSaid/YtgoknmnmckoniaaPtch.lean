/- Contracts on pitches: copy, compare, valid. No condition. -/
import Derived.Test.YtgoknmnmckoniaaSam2
import Derived.Test.YtgoknmnmckoniaaNum
import Derived.Deep.RegionHeld3
namespace Go.Proofs.Ytgoknmnmckoniaa
open Go.RowKit
set_option linter.unusedSimpArgs false
set_option linter.unusedVariables false
theorem below_froz {w w' : World} (hb : Below w.heap.size w w') : ∀ b o : Nat, b < w.heap.size → w'.frozen? ⟨b, o, none⟩ = w.frozen? ⟨b, o, none⟩ := fun b o h => hb.frozen (p := ⟨b, o, none⟩) h
def eqP3 (a b c x y z : Int) : Bool := decide (a = x ∧ b = y ∧ c = z)
theorem eqP3_t {a b c x y z : Int} (h : eqP3 a b c x y z = true) : a = x ∧ b = y ∧ c = z := by simpa [eqP3] using h
theorem eqP3_f {a b c x y z : Int} (h : eqP3 a b c x y z = false) : ¬(a = x ∧ b = y ∧ c = z) := by simpa [eqP3] using h
def pvB (a b c : Int) : Bool := inR a 0 6 && inR b (-2) 2 && inR c 0 8
theorem pvB_iff {a b c : Int} : pvB a b c = true ↔ (0 ≤ a ∧ a ≤ 6) ∧ (-2 ≤ b ∧ b ≤ 2) ∧ (0 ≤ c ∧ c ≤ 8) := by simp [pvB, inR, and_assoc]
theorem laws_toPitch (a b c : Int) (w : World) : Calls Try.prog 75 #[.agg #[.int .i64 a, .int .i64 b, .int .i64 c]] w fun e w' => e = .returned (.agg #[.int .i64 a, .int .i64 b, .int .i64 c]) ∧ Below w.heap.size w w' := by
  go_enter Try.func75, Try.ntmps75
  go_wp2
  refine bodyPost_ret (v := .agg #[.int .i64 a, .int .i64 b, .int .i64 c]) (by simp [results, Try.results75, go_sem]) rfl ⟨rfl, ?_⟩
  repeat (first | exact Below.refl _ _ | refine Below.setCell ?_ (by simp; try omega) _ | refine Below.alloc ?_ (by simp; try omega) _)
theorem laws_eqPitch (a b c x y z : Int) (w : World) : Calls Try.prog 76 #[.agg #[.int .i64 a, .int .i64 b, .int .i64 c], .agg #[.int .i64 x, .int .i64 y, .int .i64 z]] w (RetB w (eqP3 a b c x y z)) := by
  by_cases h0 : a = x
  case neg =>
    have e0 : (a != x) = true := by simp [h0]
    have hfin : Hid (eqP3 a b c x y z = false) := by unfold Hid eqP3; simp [h0]
    clear h0
    go_enter Try.func76, Try.ntmps76
    go_wp2
    go_ret
    exact ⟨ret_bool hfin.out.symm, by (repeat (first | exact Below.refl _ _ | refine Below.alloc ?_ (by simp; try omega) _ | refine below_drewN ?_ _ | refine Below.drew ?_))⟩
  subst h0
  have e0 : (a != a) = false := by simp
  by_cases h1 : b = y
  case neg =>
    have e1 : (b != y) = true := by simp [h1]
    have hfin : Hid (eqP3 a b c a y z = false) := by unfold Hid eqP3; simp [h1]
    clear h1
    go_enter Try.func76, Try.ntmps76
    go_wp2
    go_ret
    exact ⟨ret_bool hfin.out.symm, by (repeat (first | exact Below.refl _ _ | refine Below.alloc ?_ (by simp; try omega) _ | refine below_drewN ?_ _ | refine Below.drew ?_))⟩
  subst h1
  have e1 : (b != b) = false := by simp
  by_cases h2 : c = z
  case neg =>
    have e2 : (c != z) = true := by simp [h2]
    have hfin : Hid (eqP3 a b c a b z = false) := by unfold Hid eqP3; simp [h2]
    clear h2
    go_enter Try.func76, Try.ntmps76
    go_wp2
    go_ret
    exact ⟨ret_bool hfin.out.symm, by (repeat (first | exact Below.refl _ _ | refine Below.alloc ?_ (by simp; try omega) _ | refine below_drewN ?_ _ | refine Below.drew ?_))⟩
  subst h2
  have e2 : (c != c) = false := by simp
  have hfin : Hid (eqP3 a b c a b c = true) := by unfold Hid eqP3; simp
  go_enter Try.func76, Try.ntmps76
  go_wp2
  go_ret
  exact ⟨ret_bool hfin.out.symm, by (repeat (first | exact Below.refl _ _ | refine Below.alloc ?_ (by simp; try omega) _ | refine below_drewN ?_ _ | refine Below.drew ?_))⟩
end Go.Proofs.Ytgoknmnmckoniaa
