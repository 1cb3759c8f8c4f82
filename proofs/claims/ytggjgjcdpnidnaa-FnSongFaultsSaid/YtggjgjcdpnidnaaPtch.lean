/- Contracts on pitches: copy, compare, valid. No condition. -/
import Derived.Test.YtggjgjcdpnidnaaSam2
import Derived.Test.YtggjgjcdpnidnaaNum
import Derived.Deep.RegionHeld3
namespace Go.Proofs.Ytggjgjcdpnidnaa
open Go.RowKit
set_option linter.unusedSimpArgs false
set_option linter.unusedVariables false
theorem below_froz {w w' : World} (hb : Below w.heap.size w w') : ∀ b o : Nat, b < w.heap.size → w'.frozen? ⟨b, o, none⟩ = w.frozen? ⟨b, o, none⟩ := fun b o h => hb.frozen (p := ⟨b, o, none⟩) h
def eqP3 (a b c x y z : Int) : Bool := decide (a = x ∧ b = y ∧ c = z)
theorem eqP3_t {a b c x y z : Int} (h : eqP3 a b c x y z = true) : a = x ∧ b = y ∧ c = z := by simpa [eqP3] using h
theorem eqP3_f {a b c x y z : Int} (h : eqP3 a b c x y z = false) : ¬(a = x ∧ b = y ∧ c = z) := by simpa [eqP3] using h
def pvB (a b c : Int) : Bool := inR a 0 6 && inR b (-2) 2 && inR c 0 8
theorem pvB_iff {a b c : Int} : pvB a b c = true ↔ (0 ≤ a ∧ a ≤ 6) ∧ (-2 ≤ b ∧ b ≤ 2) ∧ (0 ≤ c ∧ c ≤ 8) := by simp [pvB, inR, and_assoc]
end Go.Proofs.Ytggjgjcdpnidnaa
