/- Contracts of meters and keys: MeterValid, BarTicks, isKey. No condition. -/
import Derived.Test.YtmodpleonhniaaaGreatDoorVs
import Derived.BigRegion
namespace Go.Proofs.YtmodpleonhniaaaGreatDoor
open Go.RowKit
set_option linter.unusedSimpArgs false
set_option linter.unusedVariables false
set_option maxRecDepth 100000
theorem impl_isKey (f : Int) (w : World) : Calls Tryz.prog 34 #[.int .i64 f] w fun e w' => e = .returned (.bool (inR f (-7) 7)) ∧ w = w' := by
  go_enter Tryz.func34, Tryz.ntmps34
  go_wp2_with (go_at_call 42; refine (impl_within _ _ _ _).mono ?_; rintro e w' ⟨rfl, rfl⟩)
  go_ret
  exact ⟨rfl, rfl⟩
set_option maxHeartbeats 1000000 in
theorem impl_MeterValid (b u : Int) (w : World) : Calls Tryz.prog 35 #[.agg #[.int .i64 b, .int .i64 u]] w (RetB w (mvB b u)) := by
  have HB := Lib.hid ((Below.refl w.heap.size w).alloc (Nat.le_refl _) (.cells #[.int .i64 b, .int .i64 u] 24))
  cases hb : inR b 1 12
  · have HF : Hid (mvB b u = false) := Lib.hid (by unfold mvB; simp [hb])
    go_enter Tryz.func35, Tryz.ntmps35
    go_wp2_with (go_at_call 42; refine (impl_within _ _ _ _).mono ?_; rintro e w' ⟨rfl, rfl⟩)
    go_ret
    exact ⟨ret_bool (by rw [HF.out]), HB.out⟩
  · have hu : ((u == 2) = true) ∨ ((u == 2) = false ∧ (u == 4) = true) ∨ ((u == 2) = false ∧ (u == 4) = false ∧ (u == 8) = true) ∨ ((u == 2) = false ∧ (u == 4) = false ∧ (u == 8) = false ∧ (u == 16) = true) ∨ ((u == 2) = false ∧ (u == 4) = false ∧ (u == 8) = false ∧ (u == 16) = false) := by
      cases u == 2 <;> cases u == 4 <;> cases u == 8 <;> cases u == 16 <;> simp
    have HF : Hid (mvB b u = ((u == 2) || ((u == 4) || ((u == 8) || (u == 16))))) := Lib.hid (by unfold mvB; rw [hb]; rfl)
    rcases hu with h1 | ⟨h1, h2⟩ | ⟨h1, h2, h3⟩ | ⟨h1, h2, h3, h4⟩ | ⟨h1, h2, h3, h4⟩
    all_goals
      rw [HF.out]
      go_enter Tryz.func35, Tryz.ntmps35
      go_wp2_with (go_at_call 42; refine (impl_within _ _ _ _).mono ?_; rintro e w' ⟨rfl, rfl⟩)
      go_ret
      exact ⟨ret_bool (by simp [*]), HB.out⟩
set_option maxHeartbeats 1000000 in
theorem spec_MeterValid (b u : Int) (w : World) : Calls Tryz.prog 23 #[.agg #[.int .i64 b, .int .i64 u]] w (RetB w (mvB b u)) := by
  have HB := Lib.hid ((Below.refl w.heap.size w).alloc (Nat.le_refl _) (.cells #[.int .i64 b, .int .i64 u] 24))
  cases hb : inR b 1 12
  · have HF : Hid (mvB b u = false) := Lib.hid (by unfold mvB; simp [hb])
    go_enter Tryz.func23, Tryz.ntmps23
    go_wp2_with (go_at_call 20; refine (spec_l1In _ _ _ _).mono ?_; rintro e w' ⟨rfl, rfl⟩)
    go_ret
    exact ⟨ret_bool (by rw [HF.out]), HB.out⟩
  · have hu : ((u == 2) = true) ∨ ((u == 2) = false ∧ (u == 4) = true) ∨ ((u == 2) = false ∧ (u == 4) = false ∧ (u == 8) = true) ∨ ((u == 2) = false ∧ (u == 4) = false ∧ (u == 8) = false ∧ (u == 16) = true) ∨ ((u == 2) = false ∧ (u == 4) = false ∧ (u == 8) = false ∧ (u == 16) = false) := by
      cases u == 2 <;> cases u == 4 <;> cases u == 8 <;> cases u == 16 <;> simp
    have HF : Hid (mvB b u = ((u == 2) || ((u == 4) || ((u == 8) || (u == 16))))) := Lib.hid (by unfold mvB; rw [hb]; rfl)
    rcases hu with h1 | ⟨h1, h2⟩ | ⟨h1, h2, h3⟩ | ⟨h1, h2, h3, h4⟩ | ⟨h1, h2, h3, h4⟩
    all_goals
      rw [HF.out]
      go_enter Tryz.func23, Tryz.ntmps23
      go_wp2_with (go_at_call 20; refine (spec_l1In _ _ _ _).mono ?_; rintro e w' ⟨rfl, rfl⟩)
      go_ret
      exact ⟨ret_bool (by simp [*]), HB.out⟩
theorem impl_BarTicks (b u : Int) (w : World) : Calls Tryz.prog 61 #[.agg #[.int .i64 b, .int .i64 u]] w (RetI w (btL b u)) := by
  have HB := Lib.hid ((Below.refl w.heap.size w).alloc (Nat.le_refl _) (.cells #[.int .i64 b, .int .i64 u] 24))
  have HK := Lib.hid (Blk.new w 24 #[.int .i64 b, .int .i64 u])
  have hz : (w.alloc (.cells #[.int .i64 b, .int .i64 u] 24)).heap.size = w.heap.size + 1 := by simp
  have HZ := Lib.hid hz; clear hz
  cases hm : mvB b u
  · have HF : Hid (btL b u = -1) := Lib.hid (if_neg (by rw [hm]; decide)); have HM := Lib.hid hm; clear hm
    go_enter Tryz.func61, Tryz.ntmps61
    go_wp2_with fail
    refine (impl_MeterValid _ _ _).mono ?_
    rw [HM.out]
    rintro e w1 ⟨rfl, b1⟩
    have HB1 := Lib.hid (HB.out.trans (b1.mono (by have := HZ.out; omega))); clear b1
    go_wp2_with fail
    go_ret
    exact ⟨ret_int HF.out.symm, HB1.out⟩
  · have HF := Lib.hid (btL_bd hm).1; have HM := Lib.hid hm
    obtain ⟨h1, h2⟩ := mvB_iff.1 hm
    clear hm
    have hu0 : u ≠ 0 := by omega
    have hd : (b * 192).tdiv u = b * 192 / u := Int.tdiv_eq_ediv_of_nonneg (by omega)
    have hbd : 0 ≤ b * 192 / u ∧ b * 192 / u ≤ 4000 := by rcases h2 with rfl | rfl | rfl | rfl <;> omega
    have hu1 : u ≠ -1 := by omega
    go_enter Tryz.func61, Tryz.ntmps61
    go_wp2_with fail
    refine (impl_MeterValid _ _ _).mono ?_
    rw [HM.out]
    rintro e w1 ⟨rfl, b1⟩
    have HB1 := Lib.hid (HB.out.trans (b1.mono (by have := HZ.out; omega)))
    have HK1 := HK.out.below b1 (by have := HZ.out; omega)
    have c0 := HK1.cell 0; have c1 := HK1.cell 1
    clear b1 HK1 h2
    generalize hq : b * 192 / u = q at *
    have hw : IntKind.i64.wrap q = q := IntWalk.i64_in _ (by omega)
    have hw2 : IntKind.i64.wrap (b * 192) = b * 192 := IntWalk.i64_in _ (by omega)
    go_wp2_with fail
    go_ret
    exact ⟨ret_int HF.out.symm, HB1.out⟩
theorem spec_BarTicks (b u : Int) (w : World) : Calls Tryz.prog 67 #[.agg #[.int .i64 b, .int .i64 u]] w (RetI w (btL b u)) := by
  have HB := Lib.hid ((Below.refl w.heap.size w).alloc (Nat.le_refl _) (.cells #[.int .i64 b, .int .i64 u] 24))
  have HK := Lib.hid (Blk.new w 24 #[.int .i64 b, .int .i64 u])
  have hz : (w.alloc (.cells #[.int .i64 b, .int .i64 u] 24)).heap.size = w.heap.size + 1 := by simp
  have HZ := Lib.hid hz; clear hz
  cases hm : mvB b u
  · have HF : Hid (btL b u = -1) := Lib.hid (if_neg (by rw [hm]; decide)); have HM := Lib.hid hm; clear hm
    go_enter Tryz.func67, Tryz.ntmps67
    go_wp2_with fail
    refine (spec_MeterValid _ _ _).mono ?_
    rw [HM.out]
    rintro e w1 ⟨rfl, b1⟩
    have HB1 := Lib.hid (HB.out.trans (b1.mono (by have := HZ.out; omega))); clear b1
    go_wp2_with fail
    go_ret
    exact ⟨ret_int HF.out.symm, HB1.out⟩
  · have HF := Lib.hid (btL_bd hm).1; have HM := Lib.hid hm
    obtain ⟨h1, h2⟩ := mvB_iff.1 hm
    clear hm
    have hu0 : u ≠ 0 := by omega
    have hd : (b * 192).tdiv u = b * 192 / u := Int.tdiv_eq_ediv_of_nonneg (by omega)
    have hbd : 0 ≤ b * 192 / u ∧ b * 192 / u ≤ 4000 := by rcases h2 with rfl | rfl | rfl | rfl <;> omega
    have hu1 : u ≠ -1 := by omega
    go_enter Tryz.func67, Tryz.ntmps67
    go_wp2_with fail
    refine (spec_MeterValid _ _ _).mono ?_
    rw [HM.out]
    rintro e w1 ⟨rfl, b1⟩
    have HB1 := Lib.hid (HB.out.trans (b1.mono (by have := HZ.out; omega)))
    have HK1 := HK.out.below b1 (by have := HZ.out; omega)
    have c0 := HK1.cell 0; have c1 := HK1.cell 1
    clear b1 HK1 h2
    generalize hq : b * 192 / u = q at *
    have hw : IntKind.i64.wrap q = q := IntWalk.i64_in _ (by omega)
    have hw2 : IntKind.i64.wrap (b * 192) = b * 192 := IntWalk.i64_in _ (by omega)
    go_wp2_with fail
    go_ret
    exact ⟨ret_int HF.out.symm, HB1.out⟩
end Go.Proofs.YtmodpleonhniaaaGreatDoor
