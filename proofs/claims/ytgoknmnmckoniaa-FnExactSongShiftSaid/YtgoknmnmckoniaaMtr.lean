/- Contracts of meters and keys: MeterValid, BarTicks, isKey. No condition. -/
import Derived.Test.YtgoknmnmckoniaaVs
import Derived.BigRegion
namespace Go.Proofs.Ytgoknmnmckoniaa
open Go.RowKit
set_option linter.unusedSimpArgs false
set_option linter.unusedVariables false
set_option maxRecDepth 100000
theorem impl_isKey (f : Int) (w : World) : Calls Try.prog 50 #[.int .i64 f] w fun e w' => e = .returned (.bool (inR f (-7) 7)) ∧ w = w' := by
  go_enter Try.func50, Try.ntmps50
  go_wp2_with (go_at_call 54; refine (impl_within _ _ _ _).mono ?_; rintro e w' ⟨rfl, rfl⟩)
  go_ret
  exact ⟨rfl, rfl⟩
set_option maxHeartbeats 1000000 in
theorem impl_MeterValid (b u : Int) (w : World) : Calls Try.prog 51 #[.agg #[.int .i64 b, .int .i64 u]] w (RetB w (mvB b u)) := by
  have HB := Lib.hid ((Below.refl w.heap.size w).alloc (Nat.le_refl _) (.cells #[.int .i64 b, .int .i64 u] 31))
  cases hb : inR b 1 12
  · have HF : Hid (mvB b u = false) := Lib.hid (by unfold mvB; simp [hb])
    go_enter Try.func51, Try.ntmps51
    go_wp2_with (go_at_call 54; refine (impl_within _ _ _ _).mono ?_; rintro e w' ⟨rfl, rfl⟩)
    go_ret
    exact ⟨ret_bool (by rw [HF.out]), HB.out⟩
  · have hu : ((u == 2) = true) ∨ ((u == 2) = false ∧ (u == 4) = true) ∨ ((u == 2) = false ∧ (u == 4) = false ∧ (u == 8) = true) ∨ ((u == 2) = false ∧ (u == 4) = false ∧ (u == 8) = false ∧ (u == 16) = true) ∨ ((u == 2) = false ∧ (u == 4) = false ∧ (u == 8) = false ∧ (u == 16) = false) := by
      cases u == 2 <;> cases u == 4 <;> cases u == 8 <;> cases u == 16 <;> simp
    have HF : Hid (mvB b u = ((u == 2) || ((u == 4) || ((u == 8) || (u == 16))))) := Lib.hid (by unfold mvB; rw [hb]; rfl)
    rcases hu with h1 | ⟨h1, h2⟩ | ⟨h1, h2, h3⟩ | ⟨h1, h2, h3, h4⟩ | ⟨h1, h2, h3, h4⟩
    all_goals
      rw [HF.out]
      go_enter Try.func51, Try.ntmps51
      go_wp2_with (go_at_call 54; refine (impl_within _ _ _ _).mono ?_; rintro e w' ⟨rfl, rfl⟩)
      go_ret
      exact ⟨ret_bool (by simp [*]), HB.out⟩
set_option maxHeartbeats 1000000 in
theorem spec_MeterValid (b u : Int) (w : World) : Calls Try.prog 39 #[.agg #[.int .i64 b, .int .i64 u]] w (RetB w (mvB b u)) := by
  have HB := Lib.hid ((Below.refl w.heap.size w).alloc (Nat.le_refl _) (.cells #[.int .i64 b, .int .i64 u] 31))
  cases hb : inR b 1 12
  · have HF : Hid (mvB b u = false) := Lib.hid (by unfold mvB; simp [hb])
    go_enter Try.func39, Try.ntmps39
    go_wp2_with (go_at_call 38; refine (spec_l1In _ _ _ _).mono ?_; rintro e w' ⟨rfl, rfl⟩)
    go_ret
    exact ⟨ret_bool (by rw [HF.out]), HB.out⟩
  · have hu : ((u == 2) = true) ∨ ((u == 2) = false ∧ (u == 4) = true) ∨ ((u == 2) = false ∧ (u == 4) = false ∧ (u == 8) = true) ∨ ((u == 2) = false ∧ (u == 4) = false ∧ (u == 8) = false ∧ (u == 16) = true) ∨ ((u == 2) = false ∧ (u == 4) = false ∧ (u == 8) = false ∧ (u == 16) = false) := by
      cases u == 2 <;> cases u == 4 <;> cases u == 8 <;> cases u == 16 <;> simp
    have HF : Hid (mvB b u = ((u == 2) || ((u == 4) || ((u == 8) || (u == 16))))) := Lib.hid (by unfold mvB; rw [hb]; rfl)
    rcases hu with h1 | ⟨h1, h2⟩ | ⟨h1, h2, h3⟩ | ⟨h1, h2, h3, h4⟩ | ⟨h1, h2, h3, h4⟩
    all_goals
      rw [HF.out]
      go_enter Try.func39, Try.ntmps39
      go_wp2_with (go_at_call 38; refine (spec_l1In _ _ _ _).mono ?_; rintro e w' ⟨rfl, rfl⟩)
      go_ret
      exact ⟨ret_bool (by simp [*]), HB.out⟩
end Go.Proofs.Ytgoknmnmckoniaa
