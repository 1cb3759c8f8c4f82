/- The walk of FnPlainVoice: it returns true. Condition: at most 2^20 bytes. -/
import Derived.Test.YtgnbnedjocolcaaDrawR
import Derived.Test.YtgnbnedjocolcaaQns
import Derived.Test.YtgnbnedjocolcaaVlw
import Derived.Test.YtgnbnedjocolcaaAlive
namespace Go.Proofs.Ytgnbnedjocolcaa.fnPlainVoice
set_option linter.unusedVariables false
open Go.RowKit
set_option linter.unusedSimpArgs false
set_option maxRecDepth 100000 in
set_option maxHeartbeats 4000000 in
theorem core (w : World) (A_z : Option Addr) (c_z : Nat) (z : List Int) (r_z : RdY w w.heap.size A_z z) (f_z : WfY z) (k_z : z.length ≤ c_z) (hbig : z.length ≤ 1048576) :
    Calls Try.prog 5 #[.slice A_z z.length c_z] w (RetB w true) := by
  have hi1 : (z.length : Int) ≤ 1048576 := by omega
  go_enter Try.func5, Try.ntmps5
  go_wp2_with fail
  refine (spec_DrawPlainVoice A_z c_z z w r_z f_z hbig k_z).mono ?_
  rintro e w1 ⟨A1, c1, v, rfl, hv, hV, b1⟩
  have z1 := b1.size
  have HV := Lib.hid hV; have HB := Lib.hid b1; clear b1 r_z f_z hV
  have HF : Hid ((plainL v).2 = false → (plainL v).1 = []) := Lib.hid (fun h => by
    unfold plainL at h ⊢
    split at h
    · cases h
    · rename_i h2; rw [if_neg h2])
  have HT : Hid ((plainL v).2 = true → vvB v = true ∧ keysB v = true) := Lib.hid (fun h => by
    unfold plainL at h
    split at h
    · assumption
    · cases h)
  have hpl := plainL_len v
  have HGV : Hid (∀ u b, plainL v = (u, b) → ∀ ts, tvB ts = true → b = true → ticksL v ≤ 50000 ∧ plainL u = (u, true) ∧ vvB u = true ∧ quanL (perfL v ts 64) ts 1 = (u, true)) := Lib.hid (fun u b hu ts ht hb => by
    subst hb
    obtain ⟨h1, h2⟩ := HT.out (by rw [hu])
    obtain ⟨p1, p2, p3, p4⟩ := plain_right h1 h2
    rw [hu] at p1
    have p5 : u = (qL (keysL v)).1 := congrArg Prod.fst p1
    have hn : ticksL v ≤ 50000 := by have := tk_bd h1; omega
    refine ⟨hn, by rw [p5]; exact p4, by rw [p5]; exact p2, by rw [quan_perf h1 ht (by decide) hn h2, hu]⟩)
  rcases hP : plainL v with ⟨u, ok⟩
  rw [hP] at HF HT hpl
  have HP := Lib.hid hP; clear hP
  have hVT : ok = true → vtL v = ticksL v := fun h => if_pos (HT.out h).1
  have HVT := Lib.hid hVT; clear hVT
  dsimp only at hpl
  cases ok
  · obtain rfl : u = [] := HF.out rfl
    go_wp2_with fail
    refine (impl_PlainVoice _ _ _ _ HV.out (by omega)).mono ?_
    rw [HP.out]
    rintro e w2 ⟨A2, c2, rfl, o2, b2⟩
    have z2 := b2.size
    replace HV := Lib.hid (RdNote.more (RdNote.below HV.out b2 (by omega)) z2)
    replace HB := Lib.hid (HB.out.trans (b2.mono (by omega)))
    have HX := Lib.hid (show RdNote w2 w2.heap.size A2 _ from RdR.of_own o2)
    clear o2 b2
    go_wp2_with fail
    refine (spec_PlainVoice _ _ _ _ HV.out (by omega)).mono ?_
    rw [HP.out]
    rintro e w3 ⟨A3, c3, rfl, o3, b3⟩
    have z3 := b3.size
    replace HV := Lib.hid (RdNote.more (RdNote.below HV.out b3 (by omega)) z3)
    replace HX := Lib.hid (RdNote.more (RdNote.below HX.out b3 (by omega)) z3)
    replace HB := Lib.hid (HB.out.trans (b3.mono (by omega)))
    have HY := Lib.hid (show RdNote w3 w3.heap.size A3 _ from RdR.of_own o3)
    clear o3 b3
    go_wp2_with fail
    refine (laws_sameVoice A2 A3 c2 c3 _ _ _ rfl HX.out HY.out (by simp)).mono ?_
    rintro e w4 ⟨rfl, b4⟩
    have z4 := b4.size
    replace HV := Lib.hid (RdNote.more (RdNote.below HV.out b4 (by omega)) z4)
    replace HX := Lib.hid (RdNote.more (RdNote.below HX.out b4 (by omega)) z4)
    replace HY := Lib.hid (RdNote.more (RdNote.below HY.out b4 (by omega)) z4)
    replace HB := Lib.hid (HB.out.trans (b4.mono (by omega)))
    clear b4
    go_wp2_with fail
    refine (laws_alive _).mono ?_
    rintro e w5 ⟨rfl, b5⟩
    have z5 := b5.size
    replace HV := Lib.hid (RdNote.more (RdNote.below HV.out b5 (by omega)) z5)
    replace HX := Lib.hid (RdNote.more (RdNote.below HX.out b5 (by omega)) z5)
    replace HY := Lib.hid (RdNote.more (RdNote.below HY.out b5 (by omega)) z5)
    replace HB := Lib.hid (HB.out.trans (b5.mono (by omega)))
    clear b5
    go_wp2_with fail
    go_ret
    exact ⟨rfl, HB.out⟩
  · have hbb : ((true : Bool) != true) = false := rfl
    go_wp2_with fail
    refine (impl_PlainVoice _ _ _ _ HV.out (by omega)).mono ?_
    rw [HP.out]
    rintro e w2 ⟨A2, c2, rfl, o2, b2⟩
    have z2 := b2.size
    replace HV := Lib.hid (RdNote.more (RdNote.below HV.out b2 (by omega)) z2)
    replace HB := Lib.hid (HB.out.trans (b2.mono (by omega)))
    have HX := Lib.hid (show RdNote w2 w2.heap.size A2 _ from RdR.of_own o2)
    clear o2 b2
    go_wp2_with fail
    refine (spec_PlainVoice _ _ _ _ HV.out (by omega)).mono ?_
    rw [HP.out]
    rintro e w3 ⟨A3, c3, rfl, o3, b3⟩
    have z3 := b3.size
    replace HV := Lib.hid (RdNote.more (RdNote.below HV.out b3 (by omega)) z3)
    replace HX := Lib.hid (RdNote.more (RdNote.below HX.out b3 (by omega)) z3)
    replace HB := Lib.hid (HB.out.trans (b3.mono (by omega)))
    have HY := Lib.hid (show RdNote w3 w3.heap.size A3 _ from RdR.of_own o3)
    clear o3 b3
    go_wp2_with fail
    refine (laws_sameVoice A2 A3 c2 c3 _ _ _ rfl HX.out HY.out (by omega)).mono ?_
    rintro e w4 ⟨rfl, b4⟩
    have z4 := b4.size
    replace HV := Lib.hid (RdNote.more (RdNote.below HV.out b4 (by omega)) z4)
    replace HX := Lib.hid (RdNote.more (RdNote.below HX.out b4 (by omega)) z4)
    replace HY := Lib.hid (RdNote.more (RdNote.below HY.out b4 (by omega)) z4)
    replace HB := Lib.hid (HB.out.trans (b4.mono (by omega)))
    clear b4
    have HL := Lib.hid (HGV.out u true HP.out [(0, 10416), (100, 5000)] (by decide) rfl)
    have htk : decide (50000 < vtL v) = false := decide_eq_false (by rw [show vtL v = ticksL v by first | exact HVT.out rfl | exact HVT.out trivial]; have := HL.out.1; omega)
    have htk2 : (50000 < vtL v) = False := eq_false (by rw [show vtL v = ticksL v by first | exact HVT.out rfl | exact HVT.out trivial]; have := HL.out.1; omega)
    go_wp2_with fail
    refine (impl_VoiceTicks _ _ _ _ HV.out (by omega)).mono ?_
    rintro e w5 ⟨rfl, b5⟩
    have z5 := b5.size
    replace HV := Lib.hid (RdNote.more (RdNote.below HV.out b5 (by omega)) z5)
    replace HX := Lib.hid (RdNote.more (RdNote.below HX.out b5 (by omega)) z5)
    replace HY := Lib.hid (RdNote.more (RdNote.below HY.out b5 (by omega)) z5)
    replace HB := Lib.hid (HB.out.trans (b5.mono (by omega)))
    clear b5
    generalize vtL v = vt at *
    go_upto_region 11 with fail
    have HTS : Hid (RdTempo (w5.alloc (.cells #[.int .i64 0, .int .i64 10416, .int .i64 100, .int .i64 5000] 40)) (w5.alloc (.cells #[.int .i64 0, .int .i64 10416, .int .i64 100, .int .i64 5000] 40)).heap.size (some ⟨w5.heap.size, 0, none⟩) [(0, 10416), (100, 5000)]) := Lib.hid ⟨by decide, fun _ => ⟨w5.heap.size, 0, rfl, by simp, fun j u hu => by rw [Nat.zero_add]; exact ((Blk.new w5 40 _).cell j).trans (by simpa [fl, encTempo] using hu)⟩⟩
    have zz : w5.heap.size ≤ (w5.alloc (.cells #[.int .i64 0, .int .i64 10416, .int .i64 100, .int .i64 5000] 40)).heap.size := by simp
    replace HB := Lib.hid (HB.out.alloc (show w.heap.size ≤ w5.heap.size by omega) (.cells #[.int .i64 0, .int .i64 10416, .int .i64 100, .int .i64 5000] 40))
    replace HV := Lib.hid (RdNote.more (RdNote.al HV.out (Nat.le_refl _) (.cells #[.int .i64 0, .int .i64 10416, .int .i64 100, .int .i64 5000] 40)) zz)
    replace HX := Lib.hid (RdNote.more (RdNote.al HX.out (Nat.le_refl _) (.cells #[.int .i64 0, .int .i64 10416, .int .i64 100, .int .i64 5000] 40)) zz)
    clear HY
    generalize hwl : w5.alloc (.cells #[.int .i64 0, .int .i64 10416, .int .i64 100, .int .i64 5000] 40) = wl at *
    have hl9 : w.heap.size ≤ wl.heap.size := by omega
    go_wp2_with fail
    refine (impl_Perform _ _ _ 2 _ [(0, 10416), (100, 5000)] 64 _ HV.out HTS.out (by omega) (by decide)).mono ?_
    rintro e w6 ⟨A6, c6, rfl, o6, b6⟩
    have z6 := b6.size
    replace HV := Lib.hid (RdNote.more (RdNote.below HV.out b6 (by omega)) z6)
    replace HX := Lib.hid (RdNote.more (RdNote.below HX.out b6 (by omega)) z6)
    replace HTS := Lib.hid (RdTempo.more (RdTempo.below HTS.out b6 (by omega)) z6)
    replace HB := Lib.hid (HB.out.trans (b6.mono (by omega)))
    have HE := Lib.hid (show RdEvent w6 w6.heap.size A6 _ from RdR.of_own o6)
    clear o6 b6
    have hel := perfL_len v [(0, 10416), (100, 5000)] 64
    generalize hEV : perfL v [(0, 10416), (100, 5000)] 64 = E at *
    go_wp2_with fail
    refine (impl_Quantize _ _ _ 2 _ [(0, 10416), (100, 5000)] 1 _ HE.out HTS.out (by omega) (by decide)).mono ?_
    rw [HL.out.2.2.2]
    rintro e w7 ⟨A7, c7, rfl, o7, b7⟩
    have z7 := b7.size
    replace HV := Lib.hid (RdNote.more (RdNote.below HV.out b7 (by omega)) z7)
    replace HX := Lib.hid (RdNote.more (RdNote.below HX.out b7 (by omega)) z7)
    replace HTS := Lib.hid (RdTempo.more (RdTempo.below HTS.out b7 (by omega)) z7)
    replace HE := Lib.hid (RdEvent.more (RdEvent.below HE.out b7 (by omega)) z7)
    replace HB := Lib.hid (HB.out.trans (b7.mono (by omega)))
    have HW := Lib.hid (show RdNote w7 w7.heap.size A7 _ from RdR.of_own o7)
    clear o7 b7
    go_wp2_with fail
    refine (impl_PlainVoice _ _ _ _ HX.out (by omega)).mono ?_
    rw [HL.out.2.1]
    rintro e w8 ⟨A8, c8, rfl, o8, b8⟩
    have z8 := b8.size
    replace HV := Lib.hid (RdNote.more (RdNote.below HV.out b8 (by omega)) z8)
    replace HX := Lib.hid (RdNote.more (RdNote.below HX.out b8 (by omega)) z8)
    replace HTS := Lib.hid (RdTempo.more (RdTempo.below HTS.out b8 (by omega)) z8)
    replace HE := Lib.hid (RdEvent.more (RdEvent.below HE.out b8 (by omega)) z8)
    replace HW := Lib.hid (RdNote.more (RdNote.below HW.out b8 (by omega)) z8)
    replace HB := Lib.hid (HB.out.trans (b8.mono (by omega)))
    have HA := Lib.hid (show RdNote w8 w8.heap.size A8 _ from RdR.of_own o8)
    clear o8 b8
    go_wp2_with fail
    refine (impl_VoiceValid _ _ _ _ HX.out (by omega)).mono ?_
    rw [HL.out.2.2.1]
    rintro e w9 ⟨rfl, b9⟩
    have z9 := b9.size
    replace HV := Lib.hid (RdNote.more (RdNote.below HV.out b9 (by omega)) z9)
    replace HX := Lib.hid (RdNote.more (RdNote.below HX.out b9 (by omega)) z9)
    replace HTS := Lib.hid (RdTempo.more (RdTempo.below HTS.out b9 (by omega)) z9)
    replace HE := Lib.hid (RdEvent.more (RdEvent.below HE.out b9 (by omega)) z9)
    replace HW := Lib.hid (RdNote.more (RdNote.below HW.out b9 (by omega)) z9)
    replace HA := Lib.hid (RdNote.more (RdNote.below HA.out b9 (by omega)) z9)
    replace HB := Lib.hid (HB.out.trans (b9.mono (by omega)))
    clear b9
    go_wp2_with fail
    refine (laws_sameVoice A7 A2 c7 c2 _ _ _ rfl HW.out HX.out (by omega)).mono ?_
    rintro e w10 ⟨rfl, b10⟩
    have z10 := b10.size
    replace HV := Lib.hid (RdNote.more (RdNote.below HV.out b10 (by omega)) z10)
    replace HX := Lib.hid (RdNote.more (RdNote.below HX.out b10 (by omega)) z10)
    replace HTS := Lib.hid (RdTempo.more (RdTempo.below HTS.out b10 (by omega)) z10)
    replace HE := Lib.hid (RdEvent.more (RdEvent.below HE.out b10 (by omega)) z10)
    replace HW := Lib.hid (RdNote.more (RdNote.below HW.out b10 (by omega)) z10)
    replace HA := Lib.hid (RdNote.more (RdNote.below HA.out b10 (by omega)) z10)
    replace HB := Lib.hid (HB.out.trans (b10.mono (by omega)))
    clear b10
    go_wp2_with fail
    refine (laws_sameVoice A8 A2 c8 c2 _ _ _ rfl HA.out HX.out (by omega)).mono ?_
    rintro e w11 ⟨rfl, b11⟩
    have z11 := b11.size
    replace HV := Lib.hid (RdNote.more (RdNote.below HV.out b11 (by omega)) z11)
    replace HX := Lib.hid (RdNote.more (RdNote.below HX.out b11 (by omega)) z11)
    replace HTS := Lib.hid (RdTempo.more (RdTempo.below HTS.out b11 (by omega)) z11)
    replace HE := Lib.hid (RdEvent.more (RdEvent.below HE.out b11 (by omega)) z11)
    replace HW := Lib.hid (RdNote.more (RdNote.below HW.out b11 (by omega)) z11)
    replace HA := Lib.hid (RdNote.more (RdNote.below HA.out b11 (by omega)) z11)
    replace HB := Lib.hid (HB.out.trans (b11.mono (by omega)))
    clear b11
    go_wp2_with fail
    go_ret
    exact ⟨rfl, HB.out⟩
end Go.Proofs.Ytgnbnedjocolcaa.fnPlainVoice
