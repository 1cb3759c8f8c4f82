/- alive() returns true: the key of one pitch. No condition. -/
import Derived.Test.YtmodpleonhniaaaGreatDoorMrg1
import Derived.Deep.RegionHeld3
namespace Go.Proofs.YtmodpleonhniaaaGreatDoor
set_option linter.unusedVariables false
open Go.RowKit
theorem impl_PitchValid1 (w : World) : Calls Tryz.prog 50 #[.agg #[.int .i64 5, .int .i64 0, .int .i64 4]] w (RetB w true) := by
  go_enter Tryz.func50, Tryz.ntmps50
  go_wp2_with (go_at_call 42; refine (impl_within _ _ _ _).mono ?_; rintro e w' ⟨rfl, rfl⟩)
  go_ret
  exact ⟨ret_bool (by decide), by (repeat (first | exact Below.refl _ _ | refine Below.alloc ?_ (by simp; try omega) _ | refine below_drewN ?_ _ | refine Below.drew ?_))⟩
theorem impl_stepHalves5 (w : World) : Calls Tryz.prog 51 #[.int .i64 5] w fun e w' => e = .returned (.int .i64 9) ∧ w = w' := by
  have hix : ∀ w : World, (Instr.index 94 (.agg #[.int .i64 0, .int .i64 2, .int .i64 4, .int .i64 5, .int .i64 7, .int .i64 9, .int .i64 11]) (.int .i64 5)).run Tryz.prog w = .ok (.int .i64 9) w := fun _ => by kernel_rfl
  go_enter Tryz.func51, Tryz.ntmps51
  go_wp2
  go_ret
  exact ⟨rfl, rfl⟩
theorem impl_PitchKey1 (w : World) : Calls Tryz.prog 25 #[.agg #[.int .i64 5, .int .i64 0, .int .i64 4]] w (RetI w 57) := by
  go_enter Tryz.func25, Tryz.ntmps25
  go_wp2_with (first | (go_at_call 50; refine (impl_PitchValid1 _).mono ?_; rintro e w1 ⟨rfl, b1⟩))
  have hb0 : Below w.heap.size w (w.alloc (.cells #[.int .i64 5, .int .i64 0, .int .i64 4] 57)) := (Below.refl _ _).alloc (Nat.le_refl _) _
  have d0 : w1.cell? ⟨w.heap.size, 0, none⟩ = some (.int .i64 5) := (b1.cell (by simp)).trans (by simp [go_sem])
  have d1 : w1.cell? ⟨w.heap.size, 1, none⟩ = some (.int .i64 0) := (b1.cell (by simp)).trans (by simp [go_sem])
  have d2 : w1.cell? ⟨w.heap.size, 2, none⟩ = some (.int .i64 4) := (b1.cell (by simp)).trans (by simp [go_sem])
  have HB := Lib.hid (hb0.trans (b1.mono (by simp))); clear b1 hb0
  go_region_held3 (fun w' => w'.cell? ⟨w.heap.size, 0, none⟩ = some (.int .i64 5) ∧ w'.cell? ⟨w.heap.size, 1, none⟩ = some (.int .i64 0) ∧ w'.cell? ⟨w.heap.size, 2, none⟩ = some (.int .i64 4)) (first | exact ⟨d0, d1, d2⟩) (first | (go_at_call 51; refine (impl_stepHalves5 _).mono ?_; rintro e w' ⟨rfl, rfl⟩))
  go_wp2
  go_ret
  exact ⟨rfl, HB.out.drew⟩
theorem laws_alive (w : World) : Calls Tryz.prog 8 #[] w (RetB w true) := by
  go_enter Tryz.func8, Tryz.ntmps8
  go_wp2_with fail
  refine (impl_PitchKey1 _).mono ?_
  rintro e w1 ⟨rfl, b1⟩
  go_wp2_with fail
  go_ret
  exact ⟨rfl, b1⟩
end Go.Proofs.YtmodpleonhniaaaGreatDoor
