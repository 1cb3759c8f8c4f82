/- Contracts of PitchText, of the program and of the reference. No condition. -/
import Derived.Test.YtmodpleonhniaaaGreatDoorStrB
import Derived.Test.YtmodpleonhniaaaGreatDoorMrg1
import Derived.Deep.Cut
namespace Go.Proofs.YtmodpleonhniaaaGreatDoor
open Go.RowKit
set_option linter.unusedSimpArgs false
set_option linter.unusedVariables false
set_option maxRecDepth 100000
def letL (s : Int) : UInt8 := [67, 68, 69, 70, 71, 65, 66].getD s.toNat 0
/-- the text of a pitch -/
def ptL (s a o : Int) : List UInt8 := if pvB s a o = true then [letL s] ++ List.replicate a.toNat 35 ++ List.replicate (-a).toNat 98 ++ [dgt o.toNat] else []
theorem let_ex {s : Int} (h : 0 ≤ s ∧ s ≤ 6) : (ByteArray.mk #[67, 68, 69, 70, 71, 65, 66]).extract s.toNat (s + 1).toNat = stV [letL s] := by
  rcases (show s = 0 ∨ s = 1 ∨ s = 2 ∨ s = 3 ∨ s = 4 ∨ s = 5 ∨ s = 6 by omega) with rfl | rfl | rfl | rfl | rfl | rfl | rfl <;> rfl
theorem rep_one (x : UInt8) (l : List UInt8) (k : Nat) : l ++ List.replicate (k + 1) x = (l ++ List.replicate k x) ++ [x] := by
  rw [List.replicate_succ', List.append_assoc]
set_option maxHeartbeats 2000000 in
theorem spec_PitchText (s a o : Int) (w : World) : Calls Tryz.prog 71 #[.agg #[.int .i64 s, .int .i64 a, .int .i64 o]] w (RetS w (ptL s a o)) := by
  have HK := Lib.hid (Blk.new w 57 #[.int .i64 s, .int .i64 a, .int .i64 o])
  have HB := Lib.hid ((Below.refl w.heap.size w).alloc (Nat.le_refl _) (.cells #[.int .i64 s, .int .i64 a, .int .i64 o] 57))
  have z0 : w.heap.size + 1 ≤ (w.alloc (.cells #[.int .i64 s, .int .i64 a, .int .i64 o] 57)).heap.size := by simp
  cases hv : pvB s a o
  · have HF : Hid (ptL s a o = []) := Lib.hid (if_neg (by rw [hv]; simp))
    have HV := Lib.hid hv; clear hv
    go_enter Tryz.func71, Tryz.ntmps71
    go_upto_region 1 with fail
    generalize w.alloc (.cells #[.int .i64 s, .int .i64 a, .int .i64 o] 57) = w0 at *
    have p0 := HK.out.cell 0; have p1 := HK.out.cell 1; have p2 := HK.out.cell 2
    go_wp2_with fail
    refine (spec_PitchValid s a o _).mono ?_
    rw [HV.out]
    rintro e w1 ⟨rfl, b1⟩
    have HB2 := Lib.hid (HB.out.trans (b1.mono (by omega))); clear b1
    go_wp2_with fail
    go_ret
    exact ⟨ret_st (by rw [HF.out]; rfl), HB2.out⟩
  · have hp := pvB_iff.1 hv
    have HF : Hid (ptL s a o = [letL s] ++ List.replicate a.toNat 35 ++ List.replicate (-a).toNat 98 ++ [dgt o.toNat]) := Lib.hid (if_pos hv)
    have HV := Lib.hid hv; clear hv
    go_enter Tryz.func71, Tryz.ntmps71
    go_upto_region 1 with fail
    generalize w.alloc (.cells #[.int .i64 s, .int .i64 a, .int .i64 o] 57) = w0 at *
    have p0 := HK.out.cell 0; have p1 := HK.out.cell 1; have p2 := HK.out.cell 2
    go_wp2_with fail
    refine (spec_PitchValid s a o _).mono ?_
    rw [HV.out]
    rintro e w1 ⟨rfl, b1⟩
    have z1 := b1.size
    clear p0 p1 p2
    replace HK := Lib.hid (HK.out.below b1 (by omega)); replace HB := Lib.hid (HB.out.trans (b1.mono (by omega))); clear b1
    have p0 := HK.out.cell 0; have p1 := HK.out.cell 1; have p2 := HK.out.cell 2
    have hx := let_ex hp.1
    have hpa := hp.2.1; have hpo := hp.2.2; have hps := hp.1.1; have hps2 := hp.1.2
    have hws : IntKind.i64.wrap (s + 1) = s + 1 := IntWalk.i64_in _ (by omega)
    clear hp
    go_wp2_with fail
    clear p0 p1 p2 hx
    go_loopw [3, 4] (fun v i wr => ∃ (k : Nat) (l : List UInt8), k ≤ a.toNat ∧ i = .int .i64 k ∧ v = .string (stV l) ∧ l = [letL s] ++ List.replicate k 35 ∧ wr = w1) (fun _ i _ => a.toNat - (intOf i).toNat)
    case atStart => exact ⟨0, [letL s], Nat.zero_le _, rfl, rfl, by simp, rfl⟩
    case round =>
      obtain ⟨k, l, hk, rfl, rfl, hl, rfl⟩ := hrel
      have p1 := HK.out.cell 1
      have HL := Lib.hid hl
      have hll : l.length ≤ 5 := by rw [hl]; simp; omega
      clear hl
      by_cases hlt : k < a.toNat
      · have hi : ((k : Int) < a) = True := eq_true (by omega)
        have hst : stV l ++ ByteArray.mk #[35] = stV (l ++ [35]) := stV_app l [35]
        have hz := stV_size l
        have hz2 : (ByteArray.mk #[35]).size = 1 := rfl
        have hz3 : ¬ (9223372036854775807 : Int) < (l.length : Int) + 1 := by omega
        go_wp2_with fail
        go_roundw
        case rel => exact ⟨k + 1, l ++ [35], by omega, by go_num, rfl, by rw [rep_one, HL.out], (by first | trivial | rfl)⟩
        case measure => simp [intOf]; omega
      · have hi : ((k : Int) < a) = False := eq_false (by omega)
        have HL1 : Hid (l = [letL s] ++ List.replicate a.toNat 35) := Lib.hid (by rw [HL.out, show k = a.toNat by omega])
        clear HL
        go_wp2_with fail
        clear p1 hi
        generalize hlk : l = l1 at *
        clear hlk
        go_loopw [3, 5] (fun v i w2 => ∃ (j : Nat) (l2 : List UInt8), j ≤ (-a).toNat ∧ i = .int .i64 j ∧ v = .string (stV l2) ∧ l2 = l1 ++ List.replicate j 98 ∧ w2 = wr) (fun _ i _ => (-a).toNat - (intOf i).toNat)
        case atStart => exact ⟨0, l1, Nat.zero_le _, rfl, rfl, by simp, rfl⟩
        case round =>
          obtain ⟨j, l2, hj, rfl, rfl, hl2, rfl⟩ := hrel
          have p1 := HK.out.cell 1; have p2 := HK.out.cell 2
          have HL2 := Lib.hid hl2
          have hll2 : l2.length ≤ 10 := by rw [hl2]; simp; omega
          clear hl2
          have hwn : IntKind.i64.wrap (-a) = -a := IntWalk.i64_in _ (by omega)
          have hz := stV_size l2
          by_cases hlt2 : j < (-a).toNat
          · have hi : ((j : Int) < -a) = True := eq_true (by omega)
            have hst : stV l2 ++ ByteArray.mk #[98] = stV (l2 ++ [98]) := stV_app l2 [98]
            have hz2 : (ByteArray.mk #[98]).size = 1 := rfl
            have hz3 : ¬ (9223372036854775807 : Int) < (l2.length : Int) + 1 := by omega
            go_wp2_with fail
            go_roundw
            case rel => exact ⟨j + 1, l2 ++ [98], by omega, by go_num, rfl, by rw [rep_one, HL2.out], (by first | trivial | rfl)⟩
            case measure => simp [intOf]; omega
          · have hi : ((j : Int) < -a) = False := eq_false (by omega)
            have hfin : Hid (ptL s a o = l2 ++ [dgt o.toNat]) := Lib.hid (by rw [HF.out, HL2.out, HL1.out, show j = (-a).toNat by omega])
            have hdg : ((dgt o.toNat).toNat : Int) = 48 + o := by rw [dig_nat]; omega
            have hc := fun W => conv_one W (dgt o.toNat) (48 + o) hdg
            have hst := stV_app l2 [dgt o.toNat]
            have hz2 : (stV [dgt o.toNat]).size = 1 := rfl
            have hz3 : ¬ (9223372036854775807 : Int) < (l2.length : Int) + 1 := by omega
            have hw8 : IntKind.u8.wrap (48 + o) = 48 + o := by
              rcases (show o = 0 ∨ o = 1 ∨ o = 2 ∨ o = 3 ∨ o = 4 ∨ o = 5 ∨ o = 6 ∨ o = 7 ∨ o = 8 by omega) with rfl | rfl | rfl | rfl | rfl | rfl | rfl | rfl | rfl <;> rfl
            clear hdg
            go_wp2_with fail
            go_ret
            exact ⟨ret_st (by rw [hfin.out]), HB.out.alloc (by omega) _⟩
end Go.Proofs.YtmodpleonhniaaaGreatDoor
