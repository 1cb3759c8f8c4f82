/- Contracts of PitchValid and NoteValid, of the program and of the reference. No condition. -/
import Derived.Test.YtopdgkhmeglflaaDoorMrg1
import Derived.Test.YtopdgkhmeglflaaDoorRecNote
import Derived.Outline
namespace Go.Proofs.YtopdgkhmeglflaaDoor
open Go.RowKit
set_option linter.unusedSimpArgs false
set_option linter.unusedVariables false
set_option maxRecDepth 100000
abbrev Nt := Bool × Int × Int × Int × Int × Bool
/-- a note is valid -/
def nvB (z : Nt) : Bool := inR z.2.2.2.2.1 1 768 && (if z.1 = true then decide (z.2.1 = 0 ∧ z.2.2.1 = 0 ∧ z.2.2.2.1 = 0) && !z.2.2.2.2.2 else pvB z.2.1 z.2.2.1 z.2.2.2.1)
theorem impl_PitchValid (a b c : Int) (w : World) : Calls Tryd.prog 68 #[.agg #[.int .i64 a, .int .i64 b, .int .i64 c]] w (RetB w (pvB a b c)) := by
  cases ha : inR a 0 6
  · have HF : Hid (pvB a b c = false) := by unfold Hid pvB; rw [ha]; rfl
    go_enter Tryd.func68, Tryd.ntmps68
    go_wp2_with (go_at_call 46; refine (impl_within _ _ _ _).mono ?_; rintro e w' ⟨rfl, rfl⟩)
    go_ret
    exact ⟨ret_bool HF.out.symm, by (repeat (first | exact Below.refl _ _ | refine Below.alloc ?_ (by simp; try omega) _ | refine below_drewN ?_ _ | refine Below.drew ?_))⟩
  cases hb : inR b (-2) 2
  · have HF : Hid (pvB a b c = false) := by unfold Hid pvB; rw [ha, hb]; rfl
    go_enter Tryd.func68, Tryd.ntmps68
    go_wp2_with (go_at_call 46; refine (impl_within _ _ _ _).mono ?_; rintro e w' ⟨rfl, rfl⟩)
    go_ret
    exact ⟨ret_bool HF.out.symm, by (repeat (first | exact Below.refl _ _ | refine Below.alloc ?_ (by simp; try omega) _ | refine below_drewN ?_ _ | refine Below.drew ?_))⟩
  have HF : Hid (pvB a b c = inR c 0 8) := by unfold Hid pvB; rw [ha, hb]; rfl
  go_enter Tryd.func68, Tryd.ntmps68
  go_wp2_with (go_at_call 46; refine (impl_within _ _ _ _).mono ?_; rintro e w' ⟨rfl, rfl⟩)
  go_ret
  exact ⟨ret_bool HF.out.symm, by (repeat (first | exact Below.refl _ _ | refine Below.alloc ?_ (by simp; try omega) _ | refine below_drewN ?_ _ | refine Below.drew ?_))⟩
theorem spec_PitchValid (a b c : Int) (w : World) : Calls Tryd.prog 52 #[.agg #[.int .i64 a, .int .i64 b, .int .i64 c]] w (RetB w (pvB a b c)) := by
  cases ha : inR a 0 6
  · have HF : Hid (pvB a b c = false) := by unfold Hid pvB; rw [ha]; rfl
    go_enter Tryd.func52, Tryd.ntmps52
    go_wp2_with (go_at_call 16; refine (spec_l1In _ _ _ _).mono ?_; rintro e w' ⟨rfl, rfl⟩)
    go_ret
    exact ⟨ret_bool HF.out.symm, by (repeat (first | exact Below.refl _ _ | refine Below.alloc ?_ (by simp; try omega) _ | refine below_drewN ?_ _ | refine Below.drew ?_))⟩
  cases hb : inR b (-2) 2
  · have HF : Hid (pvB a b c = false) := by unfold Hid pvB; rw [ha, hb]; rfl
    go_enter Tryd.func52, Tryd.ntmps52
    go_wp2_with (go_at_call 16; refine (spec_l1In _ _ _ _).mono ?_; rintro e w' ⟨rfl, rfl⟩)
    go_ret
    exact ⟨ret_bool HF.out.symm, by (repeat (first | exact Below.refl _ _ | refine Below.alloc ?_ (by simp; try omega) _ | refine below_drewN ?_ _ | refine Below.drew ?_))⟩
  have HF : Hid (pvB a b c = inR c 0 8) := by unfold Hid pvB; rw [ha, hb]; rfl
  go_enter Tryd.func52, Tryd.ntmps52
  go_wp2_with (go_at_call 16; refine (spec_l1In _ _ _ _).mono ?_; rintro e w' ⟨rfl, rfl⟩)
  go_ret
  exact ⟨ret_bool HF.out.symm, by (repeat (first | exact Below.refl _ _ | refine Below.alloc ?_ (by simp; try omega) _ | refine below_drewN ?_ _ | refine Below.drew ?_))⟩
set_option maxHeartbeats 1000000 in
theorem impl_NoteValid (r : Bool) (a b c t : Int) (d : Bool) (w : World) : Calls Tryd.prog 57 #[.agg #[.bool r, .int .i64 a, .int .i64 b, .int .i64 c, .int .i64 t, .bool d]] w (RetB w (nvB (r, a, b, c, t, d))) := by
  cases ht : inR t 1 768
  · have HF : Hid (nvB (r, a, b, c, t, d) = false) := by unfold Hid nvB; simp only [ht]; rfl
    go_enter Tryd.func57, Tryd.ntmps57
    go_wp2_with (go_at_call 46; refine (impl_within _ _ _ _).mono ?_; rintro e w' ⟨rfl, rfl⟩)
    go_ret
    exact ⟨ret_bool HF.out.symm, by (repeat (first | exact Below.refl _ _ | refine Below.alloc ?_ (by simp; try omega) _ | refine below_drewN ?_ _ | refine Below.drew ?_))⟩
  cases r
  · have HF : Hid (nvB (false, a, b, c, t, d) = pvB a b c) := by unfold Hid nvB; simp [ht]
    go_enter Tryd.func57, Tryd.ntmps57
    go_wp2_with (go_at_call 46; refine (impl_within _ _ _ _).mono ?_; rintro e w' ⟨rfl, rfl⟩)
    refine (impl_PitchValid a b c _).mono ?_
    rintro e w1 ⟨rfl, b1⟩
    have HB := Lib.hid b1; clear b1
    go_wp2_with fail
    go_ret
    exact ⟨ret_bool HF.out.symm, ((Below.refl _ _).alloc (Nat.le_refl _) _).trans (HB.out.mono (by simp))⟩
  · have HF : Hid (nvB (true, a, b, c, t, d) = (decide (a = 0 ∧ b = 0 ∧ c = 0) && !d)) := by unfold Hid nvB; simp [ht]
    go_enter Tryd.func57, Tryd.ntmps57
    go_wp2_with (go_at_call 46; refine (impl_within _ _ _ _).mono ?_; rintro e w' ⟨rfl, rfl⟩)
    all_goals
      go_ret
      exact ⟨ret_bool (by rw [HF.out]; simp [*]), by (repeat (first | exact Below.refl _ _ | refine Below.alloc ?_ (by simp; try omega) _ | refine below_drewN ?_ _ | refine Below.drew ?_))⟩
set_option maxHeartbeats 1000000 in
theorem spec_NoteValid (r : Bool) (a b c t : Int) (d : Bool) (w : World) : Calls Tryd.prog 50 #[.agg #[.bool r, .int .i64 a, .int .i64 b, .int .i64 c, .int .i64 t, .bool d]] w (RetB w (nvB (r, a, b, c, t, d))) := by
  have hz0 : pvB 0 0 0 = true := by decide
  cases r
  · cases ht : inR t 1 768
    · have HF : Hid (nvB (false, a, b, c, t, d) = false) := by unfold Hid nvB; simp only [ht]; rfl
      go_enter Tryd.func50, Tryd.ntmps50
      go_wp2_with (go_at_call 16; refine (spec_l1In _ _ _ _).mono ?_; rintro e w' ⟨rfl, rfl⟩)
      go_ret
      exact ⟨ret_bool HF.out.symm, by (repeat (first | exact Below.refl _ _ | refine Below.alloc ?_ (by simp; try omega) _ | refine below_drewN ?_ _ | refine Below.drew ?_))⟩
    · have HF : Hid (nvB (false, a, b, c, t, d) = pvB a b c) := by unfold Hid nvB; simp [ht]
      go_enter Tryd.func50, Tryd.ntmps50
      go_wp2_with (go_at_call 16; refine (spec_l1In _ _ _ _).mono ?_; rintro e w' ⟨rfl, rfl⟩)
      refine (spec_PitchValid a b c _).mono ?_
      rintro e w1 ⟨rfl, b1⟩
      have HB := Lib.hid b1; clear b1
      go_wp2_with fail
      go_ret
      exact ⟨ret_bool HF.out.symm, ((Below.refl _ _).alloc (Nat.le_refl _) _).trans (HB.out.mono (by simp))⟩
  cases d
  · by_cases h0 : a = 0 ∧ b = 0 ∧ c = 0
    · obtain ⟨rfl, rfl, rfl⟩ := h0
      cases ht : inR t 1 768
      · have HF : Hid (nvB (true, 0, 0, 0, t, false) = false) := by unfold Hid nvB; simp only [ht]; rfl
        go_enter Tryd.func50, Tryd.ntmps50
        go_wp2_with (go_at_call 16; refine (spec_l1In _ _ _ _).mono ?_; rintro e w' ⟨rfl, rfl⟩)
        go_ret
        exact ⟨ret_bool HF.out.symm, by (repeat (first | exact Below.refl _ _ | refine Below.alloc ?_ (by simp; try omega) _ | refine below_drewN ?_ _ | refine Below.drew ?_))⟩
      · have HF : Hid (nvB (true, 0, 0, 0, t, false) = true) := by unfold Hid nvB; simp [ht]
        go_enter Tryd.func50, Tryd.ntmps50
        go_wp2_with (go_at_call 16; refine (spec_l1In _ _ _ _).mono ?_; rintro e w' ⟨rfl, rfl⟩)
        refine (spec_PitchValid 0 0 0 _).mono ?_
        rw [hz0]
        rintro e w1 ⟨rfl, b1⟩
        have HB := Lib.hid b1; clear b1
        go_wp2_with fail
        go_ret
        exact ⟨ret_bool HF.out.symm, ((Below.refl _ _).alloc (Nat.le_refl _) _).trans (HB.out.mono (by simp))⟩
    · have HF : Hid (nvB (true, a, b, c, t, false) = false) := by unfold Hid nvB; simp only [decide_eq_false h0]; simp
      have H0 := Lib.hid h0; clear h0
      go_enter Tryd.func50, Tryd.ntmps50
      go_wp2_with fail
      all_goals first
        | (go_ret; exact ⟨ret_bool HF.out.symm, by (repeat (first | exact Below.refl _ _ | refine Below.alloc ?_ (by simp; try omega) _ | refine below_drewN ?_ _ | refine Below.drew ?_))⟩)
        | (exfalso; exact H0.out ⟨by assumption, by assumption, by assumption⟩)
  · have HF : Hid (nvB (true, a, b, c, t, true) = false) := by unfold Hid nvB; simp
    go_enter Tryd.func50, Tryd.ntmps50
    go_wp2_with fail
    go_ret
    exact ⟨ret_bool HF.out.symm, by (repeat (first | exact Below.refl _ _ | refine Below.alloc ?_ (by simp; try omega) _ | refine below_drewN ?_ _ | refine Below.drew ?_))⟩
end Go.Proofs.YtopdgkhmeglflaaDoor
