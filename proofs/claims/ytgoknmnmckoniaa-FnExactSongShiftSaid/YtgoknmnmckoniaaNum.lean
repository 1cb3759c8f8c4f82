/- Contracts of the small functions on ints: within and l1In. No condition. -/
import Derived.Test.YtgoknmnmckoniaaBase
import Derived.Test.YtgoknmnmckoniaaProg
namespace Go.Proofs.Ytgoknmnmckoniaa
set_option linter.unusedVariables false
open Go.RowKit

/-- lo ≤ n ≤ hi -/
def inR (n lo hi : Int) : Bool := decide (lo ≤ n) && decide (n ≤ hi)
theorem inR_iff {n lo hi : Int} : inR n lo hi = true ↔ lo ≤ n ∧ n ≤ hi := by simp [inR]
theorem inR_t {n lo hi : Int} (h : lo ≤ n ∧ n ≤ hi) : inR n lo hi = true := inR_iff.2 h
theorem inR_f {n lo hi : Int} (h : n < lo ∨ hi < n) : inR n lo hi = false := by
  cases e : inR n lo hi with
  | false => rfl
  | true => have := inR_iff.1 e; omega
theorem inR_not {n lo hi : Int} (h : inR n lo hi = false) : n < lo ∨ hi < n := by
  by_cases a : lo ≤ n ∧ n ≤ hi
  · rw [inR_t a] at h; cases h
  · omega

theorem impl_within (n lo hi : Int) (w : World) : Calls Try.prog 54 #[.int .i64 n, .int .i64 lo, .int .i64 hi] w fun e w' => e = .returned (.bool (inR n lo hi)) ∧ w = w' := by
  by_cases h : lo ≤ n
  · go_enter Try.func54, Try.ntmps54
    go_wp2
    go_ret
    exact ⟨by simp [inR, h], rfl⟩
  · have h2 : decide (lo ≤ n) = false := by simpa using h
    go_enter Try.func54, Try.ntmps54
    go_wp2
    go_ret
    exact ⟨by simp [inR]; omega, rfl⟩
theorem spec_l1In (n lo hi : Int) (w : World) : Calls Try.prog 38 #[.int .i64 n, .int .i64 lo, .int .i64 hi] w fun e w' => e = .returned (.bool (inR n lo hi)) ∧ w = w' := by
  by_cases h : lo ≤ n
  · go_enter Try.func38, Try.ntmps38
    go_wp2
    go_ret
    exact ⟨by simp [inR, h], rfl⟩
  · have h2 : decide (lo ≤ n) = false := by simpa using h
    go_enter Try.func38, Try.ntmps38
    go_wp2
    go_ret
    exact ⟨by simp [inR]; omega, rfl⟩
theorem mul_le_cap' {x y X Y : Int} (hx : 0 ≤ x ∧ x ≤ X) (hy : 0 ≤ y ∧ y ≤ Y) : 0 ≤ x * y ∧ x * y ≤ X * Y :=
  ⟨Int.mul_nonneg hx.1 hy.1, Int.mul_le_mul hx.2 hy.2 hy.1 (by omega)⟩
end Go.Proofs.Ytgoknmnmckoniaa
