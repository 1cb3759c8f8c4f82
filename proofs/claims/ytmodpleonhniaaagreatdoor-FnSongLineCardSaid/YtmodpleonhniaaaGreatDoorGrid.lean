/- Contracts of NearestGrid, of the program and of the reference. No condition. -/
import Derived.Test.YtmodpleonhniaaaGreatDoorMrg1
namespace Go.Proofs.YtmodpleonhniaaaGreatDoor
set_option linter.unusedVariables false
open Go.RowKit
set_option linter.unusedSimpArgs false
/-- the nearest multiple -/
def rnd (n g : Int) : Int := (2 * n + g) / (2 * g) * g
def ngL (t g : Int) : Int := if inR t 0 50000 = true ∧ inR g 1 768 = true then rnd t g else -1
theorem rnd_bd {n g : Int} (hn : 0 ≤ n ∧ n ≤ 50000) (hg : 1 ≤ g ∧ g ≤ 768) : 0 ≤ (2 * n + g) / (2 * g) ∧ (2 * n + g) / (2 * g) ≤ 50768 ∧ 0 ≤ rnd n g ∧ rnd n g ≤ 50768 := by
  have h0 : 0 ≤ (2 * n + g) / (2 * g) := Int.ediv_nonneg (by omega) (by omega)
  have h1 : (2 * n + g) / (2 * g) * (2 * g) ≤ 2 * n + g := Int.ediv_mul_le _ (by omega)
  have h2 : (2 * n + g) / (2 * g) * (2 * g) = 2 * rnd n g := by unfold rnd; rw [Int.mul_left_comm]
  have h3 : 0 ≤ rnd n g := Int.mul_nonneg h0 (by omega)
  have h4 : (2 * n + g) / (2 * g) ≤ rnd n g := by
    unfold rnd
    have := Int.mul_le_mul_of_nonneg_left (show 1 ≤ g by omega) h0
    omega
  omega
end Go.Proofs.YtmodpleonhniaaaGreatDoor
