/- Contracts of NearestGrid, of the program and of the reference. No condition. -/
import Derived.Test.YtgnbnedjocolcaaNum
namespace Go.Proofs.Ytgnbnedjocolcaa
set_option linter.unusedVariables false
open Go.RowKit
set_option linter.unusedSimpArgs false
/-- the nearest multiple -/
def rnd (n g : Int) : Int := (2 * n + g) / (2 * g) * g
def ngL (t g : Int) : Int := if inR t 0 50000 = true ∧ inR g 1 768 = true then rnd t g else -1
theorem rnd_bd {n g : Int} (hn : 0 ≤ n ∧ n ≤ 50000) (hg : 1 ≤ g ∧ g ≤ 768) : 0 ≤ (2 * n + g) / (2 * g) ∧ (2 * n + g) / (2 * g) ≤ 50768 ∧ 0 ≤ rnd n g ∧ rnd n g ≤ 50768 := by
  have h0 : 0 ≤ (2 * n + g) / (2 * g) := Int.ediv_nonneg (by omega) (by omega)
  have h1 : (2 * n + g) / (2 * g) * (2 * g) ≤ 2 * n + g := Int.ediv_mul_le _ (by omega)
  have h2 : (2 * n + g) / (2 * g) * (2 * g) = 2 * rnd n g := by unfold rnd; rw [Int.mul_left_comm]
  have h3 : 0 ≤ rnd n g := Int.mul_nonneg h0 (by omega)
  have h4 : (2 * n + g) / (2 * g) ≤ rnd n g := by
    unfold rnd
    have := Int.mul_le_mul_of_nonneg_left (show 1 ≤ g by omega) h0
    omega
  omega
theorem impl_NearestGrid (t g : Int) (w : World) : Calls Try.prog 9 #[.int .i64 t, .int .i64 g] w fun e w' => e = .returned (.int .i64 (ngL t g)) ∧ w = w' := by
  cases ht : inR t 0 50000
  · have hfin : Hid (ngL t g = -1) := by unfold Hid; rw [ngL, ht]; simp
    go_enter Try.func9, Try.ntmps9
    go_wp2_with (go_at_call 28; refine (impl_within _ _ _ _).mono ?_; rintro e w' ⟨rfl, rfl⟩)
    go_ret
    exact ⟨ret_int hfin.out.symm, rfl⟩
  cases hg : inR g 1 768
  · have hfin : Hid (ngL t g = -1) := by unfold Hid; rw [ngL, ht, hg]; simp
    go_enter Try.func9, Try.ntmps9
    go_wp2_with (go_at_call 28; refine (impl_within _ _ _ _).mono ?_; rintro e w' ⟨rfl, rfl⟩)
    go_ret
    exact ⟨ret_int hfin.out.symm, rfl⟩
  · have hfin : Hid (ngL t g = rnd t g) := by unfold Hid; rw [ngL, if_pos ⟨ht, hg⟩]
    have h1 := inR_iff.1 ht
    have h2 := inR_iff.1 hg
    have hb := rnd_bd h1 h2
    have hne : 2 * g ≠ 0 := by omega
    have htd : (2 * t + g).tdiv (2 * g) = (2 * t + g) / (2 * g) := Int.tdiv_eq_ediv_of_nonneg (by omega)
    have hw1 : IntKind.i64.wrap ((2 * t + g) / (2 * g)) = (2 * t + g) / (2 * g) := IntWalk.i64_in _ (by omega)
    have hw2 : IntKind.i64.wrap ((2 * t + g) / (2 * g) * g) = (2 * t + g) / (2 * g) * g := IntWalk.i64_in _ (by unfold rnd at hb; omega)
    go_enter Try.func9, Try.ntmps9
    go_wp2_with (go_at_call 28; refine (impl_within _ _ _ _).mono ?_; rintro e w' ⟨rfl, rfl⟩)
    go_ret
    exact ⟨by rw [hfin.out]; exact ret_int (by unfold rnd; first | rfl | omega), rfl⟩
theorem spec_l20Round (t g : Int) (w : World) (h1 : 0 ≤ t ∧ t ≤ 50000) (h2 : 1 ≤ g ∧ g ≤ 768) : Calls Try.prog 30 #[.int .i64 t, .int .i64 g] w fun e w' => e = .returned (.int .i64 (rnd t g)) ∧ w = w' := by
  have hb := rnd_bd h1 h2
  have hne : 2 * g ≠ 0 := by omega
  have htd : (2 * t + g).tdiv (2 * g) = (2 * t + g) / (2 * g) := Int.tdiv_eq_ediv_of_nonneg (by omega)
  have hw1 : IntKind.i64.wrap ((2 * t + g) / (2 * g)) = (2 * t + g) / (2 * g) := IntWalk.i64_in _ (by omega)
  have hw2 : IntKind.i64.wrap ((2 * t + g) / (2 * g) * g) = (2 * t + g) / (2 * g) * g := IntWalk.i64_in _ (by unfold rnd at hb; omega)
  go_enter Try.func30, Try.ntmps30
  go_wp2
  go_ret
  exact ⟨ret_int (by unfold rnd; first | rfl | omega), rfl⟩
theorem spec_NearestGrid (t g : Int) (w : World) : Calls Try.prog 10 #[.int .i64 t, .int .i64 g] w fun e w' => e = .returned (.int .i64 (ngL t g)) ∧ w = w' := by
  cases ht : inR t 0 50000
  · have hfin : Hid (ngL t g = -1) := by unfold Hid; rw [ngL, ht]; simp
    go_enter Try.func10, Try.ntmps10
    go_wp2_with (go_at_call 29; refine (spec_l1In _ _ _ _).mono ?_; rintro e w' ⟨rfl, rfl⟩)
    go_ret
    exact ⟨ret_int hfin.out.symm, rfl⟩
  cases hg : inR g 1 768
  · have hfin : Hid (ngL t g = -1) := by unfold Hid; rw [ngL, ht, hg]; simp
    go_enter Try.func10, Try.ntmps10
    go_wp2_with (go_at_call 29; refine (spec_l1In _ _ _ _).mono ?_; rintro e w' ⟨rfl, rfl⟩)
    go_ret
    exact ⟨ret_int hfin.out.symm, rfl⟩
  · have hfin : Hid (ngL t g = rnd t g) := by unfold Hid; rw [ngL, if_pos ⟨ht, hg⟩]
    have h1 := inR_iff.1 ht
    have h2 := inR_iff.1 hg
    go_enter Try.func10, Try.ntmps10
    go_wp2_with (first | (go_at_call 29; refine (spec_l1In _ _ _ _).mono ?_; rintro e w' ⟨rfl, rfl⟩) | (go_at_call 30; refine (spec_l20Round _ _ _ (by omega) (by omega)).mono ?_; rintro e w' ⟨rfl, rfl⟩))
    go_ret
    exact ⟨ret_int hfin.out.symm, rfl⟩
end Go.Proofs.Ytgnbnedjocolcaa
