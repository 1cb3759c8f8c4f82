/- The contract of the reference's SongLine. Condition: at most 2^20 tempos, voices, notes, bytes of the line. -/
import Derived.Test.YtmodpleonhniaaaGreatDoorLnD
namespace Go.Proofs.YtmodpleonhniaaaGreatDoor
open Go.RowKit
set_option linter.unusedSimpArgs false
set_option linter.unusedVariables false
set_option maxRecDepth 100000
set_option maxHeartbeats 4000000 in
theorem spec_SongLine (f : Int) (m : Bool) (b u : Int) (C A : Option Addr) (d c : Nat) (ts : List (Int × Int)) (vs : List (List Nt)) (l : List UInt8) (w : World) (hT : RdTempo w w.heap.size C ts) (hV : RdVs w w.heap.size A vs) (hlt : ts.length ≤ 1048576) (hlv : LenV vs) (hl : l.length ≤ 1048576) :
    Calls Tryz.prog 6 #[.agg #[.int .i64 f, .bool m, .int .i64 b, .int .i64 u, .slice C ts.length d, .slice A vs.length c], .string (stV l)] w (RetS w (lnL f b u ts vs l)) := by
  have HLV : Hid (LenV vs) := Lib.hid hlv
  have hlv1 : vs.length ≤ 1048576 := hlv.1
  cases hs : svB f b u ts vs
  · have HF : Hid (lnL f b u ts vs l = []) := Lib.hid (if_neg (by rw [hs]; decide)); have HS := Lib.hid hs; clear hs
    have HK := Lib.hid (Blk.new w 28 #[.int .i64 f, .bool m, .int .i64 b, .int .i64 u, .slice C ts.length d, .slice A vs.length c])
    have HT := Lib.hid (RdTempo.more (RdTempo.al hT (Nat.le_refl _) (.cells #[.int .i64 f, .bool m, .int .i64 b, .int .i64 u, .slice C ts.length d, .slice A vs.length c] 28)) (show w.heap.size ≤ (w.alloc (.cells #[.int .i64 f, .bool m, .int .i64 b, .int .i64 u, .slice C ts.length d, .slice A vs.length c] 28)).heap.size by simp))
    have HV := Lib.hid (RdVs.more (RdVs.al hV (Nat.le_refl _) (.cells #[.int .i64 f, .bool m, .int .i64 b, .int .i64 u, .slice C ts.length d, .slice A vs.length c] 28)) (show w.heap.size ≤ (w.alloc (.cells #[.int .i64 f, .bool m, .int .i64 b, .int .i64 u, .slice C ts.length d, .slice A vs.length c] 28)).heap.size by simp))
    have HB := Lib.hid ((Below.refl w.heap.size w).alloc (Nat.le_refl _) (.cells #[.int .i64 f, .bool m, .int .i64 b, .int .i64 u, .slice C ts.length d, .slice A vs.length c] 28))
    have z0 : w.heap.size + 1 ≤ (w.alloc (.cells #[.int .i64 f, .bool m, .int .i64 b, .int .i64 u, .slice C ts.length d, .slice A vs.length c] 28)).heap.size := by simp
    clear hT hV
    go_enter Tryz.func6, Tryz.ntmps6
    go_upto_region 1 with fail
    generalize w.alloc (.cells #[.int .i64 f, .bool m, .int .i64 b, .int .i64 u, .slice C ts.length d, .slice A vs.length c] 28) = w0 at *
    have c0 := HK.out.cell 0; have c1 := HK.out.cell 1; have c2 := HK.out.cell 2; have c3 := HK.out.cell 3; have c4 := HK.out.cell 4; have c5 := HK.out.cell 5
    go_wp2_with fail
    refine (spec_SongValid f m b u _ _ _ _ ts vs _ HT.out HV.out hlt HLV.out).mono ?_
    rw [HS.out]
    rintro e w1 ⟨rfl, b1⟩
    have z1 := b1.size
    clear c0 c1 c2 c3 c4 c5
    replace HK := Lib.hid (HK.out.below b1 (by omega)); replace HT := Lib.hid (RdTempo.more (RdTempo.below HT.out b1 (by omega)) z1); replace HV := Lib.hid (RdVs.more (RdVs.below HV.out b1 (by omega)) z1); replace HB := Lib.hid (HB.out.trans (b1.mono (by omega)))
    clear b1
    have c0 := HK.out.cell 0; have c1 := HK.out.cell 1; have c2 := HK.out.cell 2; have c3 := HK.out.cell 3; have c4 := HK.out.cell 4; have c5 := HK.out.cell 5
    go_wp2_with fail
    go_ret
    exact ⟨ret_st (by rw [HF.out]; rfl), HB.out⟩
  have HF : Hid (lnL f b u ts vs l = laL f b u ts vs l) := Lib.hid (if_pos hs)
  obtain ⟨N1, hN1⟩ : ∃ N : Nat, sbL f b u ts vs = (N : Int) := ⟨_, (Int.toNat_of_nonneg (sb_bd hs).1).symm⟩
  obtain ⟨N2, hN2⟩ : ∃ N : Nat, smL f b u ts vs = (N : Int) := ⟨_, (Int.toNat_of_nonneg (sm_bd hs).1).symm⟩
  have y1 : N1 ≤ 50000 := by have := (sb_bd hs).2; omega
  have y2 : N2 ≤ 5000000000 := by have := (sm_bd hs).2; omega
  have y3 := ftL_len f b u ts vs
  have y4 : vs.length ≤ 4 := (svB_iff.1 hs).2.2.2.1
  have HLA : Hid (laL f b u ts vs l = if l = barsW then Lib.decDigits N1 else if l = faultsW then Lib.decDigits (ftL f b u ts vs).length else if l = timeW then Lib.decDigits N2 else if l.length = 7 ∧ l.take 6 = voiceW ∧ inR (lnV l) 0 ((vs.length : Int) - 1) = true then vxL (glV vs (lnV l).toNat) else [63]) := Lib.hid (by
    have y : l = timeW ∧ 0 ≤ smL f b u ts vs ↔ l = timeW := ⟨fun h => h.1, fun h => ⟨h, by omega⟩⟩
    unfold laL; rw [hN1, hN2] at *; simp only [Int.toNat_natCast, y])
  have HN1 := Lib.hid hN1; have HN2 := Lib.hid hN2; have HS := Lib.hid hs
  clear hN1 hN2 hs
  generalize hfl : ftL f b u ts vs = L9 at *
  have HFL := Lib.hid hfl; clear hfl
  
  by_cases e1 : l = barsW
  · have HA : Hid (laL f b u ts vs l = Lib.decDigits N1) := Lib.hid (by rw [HLA.out, if_pos e1])
    clear HLA
    have p1 : ((stV l).toList == [98, 97, 114, 115]) = true := stV_yes e1
    clear e1
    have HK := Lib.hid (Blk.new w 28 #[.int .i64 f, .bool m, .int .i64 b, .int .i64 u, .slice C ts.length d, .slice A vs.length c])
    have HT := Lib.hid (RdTempo.more (RdTempo.al hT (Nat.le_refl _) (.cells #[.int .i64 f, .bool m, .int .i64 b, .int .i64 u, .slice C ts.length d, .slice A vs.length c] 28)) (show w.heap.size ≤ (w.alloc (.cells #[.int .i64 f, .bool m, .int .i64 b, .int .i64 u, .slice C ts.length d, .slice A vs.length c] 28)).heap.size by simp))
    have HV := Lib.hid (RdVs.more (RdVs.al hV (Nat.le_refl _) (.cells #[.int .i64 f, .bool m, .int .i64 b, .int .i64 u, .slice C ts.length d, .slice A vs.length c] 28)) (show w.heap.size ≤ (w.alloc (.cells #[.int .i64 f, .bool m, .int .i64 b, .int .i64 u, .slice C ts.length d, .slice A vs.length c] 28)).heap.size by simp))
    have HB := Lib.hid ((Below.refl w.heap.size w).alloc (Nat.le_refl _) (.cells #[.int .i64 f, .bool m, .int .i64 b, .int .i64 u, .slice C ts.length d, .slice A vs.length c] 28))
    have z0 : w.heap.size + 1 ≤ (w.alloc (.cells #[.int .i64 f, .bool m, .int .i64 b, .int .i64 u, .slice C ts.length d, .slice A vs.length c] 28)).heap.size := by simp
    clear hT hV
    go_enter Tryz.func6, Tryz.ntmps6
    go_upto_region 1 with fail
    generalize w.alloc (.cells #[.int .i64 f, .bool m, .int .i64 b, .int .i64 u, .slice C ts.length d, .slice A vs.length c] 28) = w0 at *
    have c0 := HK.out.cell 0; have c1 := HK.out.cell 1; have c2 := HK.out.cell 2; have c3 := HK.out.cell 3; have c4 := HK.out.cell 4; have c5 := HK.out.cell 5
    go_wp2_with fail
    refine (spec_SongValid f m b u _ _ _ _ ts vs _ HT.out HV.out hlt HLV.out).mono ?_
    rw [HS.out]
    rintro e w1 ⟨rfl, b1⟩
    have z1 := b1.size
    clear c0 c1 c2 c3 c4 c5
    replace HK := Lib.hid (HK.out.below b1 (by omega)); replace HT := Lib.hid (RdTempo.more (RdTempo.below HT.out b1 (by omega)) z1); replace HV := Lib.hid (RdVs.more (RdVs.below HV.out b1 (by omega)) z1); replace HB := Lib.hid (HB.out.trans (b1.mono (by omega)))
    clear b1
    have c0 := HK.out.cell 0; have c1 := HK.out.cell 1; have c2 := HK.out.cell 2; have c3 := HK.out.cell 3; have c4 := HK.out.cell 4; have c5 := HK.out.cell 5
    go_wp2_with fail
    refine (spec_SongBars f m b u _ _ _ _ ts vs _ HT.out HV.out hlt HLV.out).mono ?_
    rw [HN1.out]
    rintro e w2 ⟨rfl, b2⟩
    have z2 := b2.size
    clear c0 c1 c2 c3 c4 c5
    replace HK := Lib.hid (HK.out.below b2 (by omega)); replace HT := Lib.hid (RdTempo.more (RdTempo.below HT.out b2 (by omega)) z2); replace HV := Lib.hid (RdVs.more (RdVs.below HV.out b2 (by omega)) z2); replace HB := Lib.hid (HB.out.trans (b2.mono (by omega)))
    clear b2
    have c0 := HK.out.cell 0; have c1 := HK.out.cell 1; have c2 := HK.out.cell 2; have c3 := HK.out.cell 3; have c4 := HK.out.cell 4; have c5 := HK.out.cell 5
    go_wp2_with fail
    refine (spec_l8Number N1 _ (by omega)).mono ?_
    rintro e w3 ⟨rfl, b3⟩
    have z3 := b3.size
    clear c0 c1 c2 c3 c4 c5
    replace HK := Lib.hid (HK.out.below b3 (by omega)); replace HT := Lib.hid (RdTempo.more (RdTempo.below HT.out b3 (by omega)) z3); replace HV := Lib.hid (RdVs.more (RdVs.below HV.out b3 (by omega)) z3); replace HB := Lib.hid (HB.out.trans (b3.mono (by omega)))
    clear b3
    have c0 := HK.out.cell 0; have c1 := HK.out.cell 1; have c2 := HK.out.cell 2; have c3 := HK.out.cell 3; have c4 := HK.out.cell 4; have c5 := HK.out.cell 5
    go_wp2_with fail
    go_ret
    exact ⟨ret_st (by rw [HF.out, HA.out]), HB.out⟩
  have p1 : ((stV l).toList == [98, 97, 114, 115]) = false := stV_no e1
  by_cases e2 : l = faultsW
  · have HA : Hid (laL f b u ts vs l = Lib.decDigits L9.length) := Lib.hid (by rw [HLA.out, if_neg e1, if_pos e2])
    clear HLA e1
    have p2 : ((stV l).toList == [102, 97, 117, 108, 116, 115]) = true := stV_yes e2
    clear e2
    have HK := Lib.hid (Blk.new w 28 #[.int .i64 f, .bool m, .int .i64 b, .int .i64 u, .slice C ts.length d, .slice A vs.length c])
    have HT := Lib.hid (RdTempo.more (RdTempo.al hT (Nat.le_refl _) (.cells #[.int .i64 f, .bool m, .int .i64 b, .int .i64 u, .slice C ts.length d, .slice A vs.length c] 28)) (show w.heap.size ≤ (w.alloc (.cells #[.int .i64 f, .bool m, .int .i64 b, .int .i64 u, .slice C ts.length d, .slice A vs.length c] 28)).heap.size by simp))
    have HV := Lib.hid (RdVs.more (RdVs.al hV (Nat.le_refl _) (.cells #[.int .i64 f, .bool m, .int .i64 b, .int .i64 u, .slice C ts.length d, .slice A vs.length c] 28)) (show w.heap.size ≤ (w.alloc (.cells #[.int .i64 f, .bool m, .int .i64 b, .int .i64 u, .slice C ts.length d, .slice A vs.length c] 28)).heap.size by simp))
    have HB := Lib.hid ((Below.refl w.heap.size w).alloc (Nat.le_refl _) (.cells #[.int .i64 f, .bool m, .int .i64 b, .int .i64 u, .slice C ts.length d, .slice A vs.length c] 28))
    have z0 : w.heap.size + 1 ≤ (w.alloc (.cells #[.int .i64 f, .bool m, .int .i64 b, .int .i64 u, .slice C ts.length d, .slice A vs.length c] 28)).heap.size := by simp
    clear hT hV
    go_enter Tryz.func6, Tryz.ntmps6
    go_upto_region 1 with fail
    generalize w.alloc (.cells #[.int .i64 f, .bool m, .int .i64 b, .int .i64 u, .slice C ts.length d, .slice A vs.length c] 28) = w0 at *
    have c0 := HK.out.cell 0; have c1 := HK.out.cell 1; have c2 := HK.out.cell 2; have c3 := HK.out.cell 3; have c4 := HK.out.cell 4; have c5 := HK.out.cell 5
    go_wp2_with fail
    refine (spec_SongValid f m b u _ _ _ _ ts vs _ HT.out HV.out hlt HLV.out).mono ?_
    rw [HS.out]
    rintro e w1 ⟨rfl, b1⟩
    have z1 := b1.size
    clear c0 c1 c2 c3 c4 c5
    replace HK := Lib.hid (HK.out.below b1 (by omega)); replace HT := Lib.hid (RdTempo.more (RdTempo.below HT.out b1 (by omega)) z1); replace HV := Lib.hid (RdVs.more (RdVs.below HV.out b1 (by omega)) z1); replace HB := Lib.hid (HB.out.trans (b1.mono (by omega)))
    clear b1
    have c0 := HK.out.cell 0; have c1 := HK.out.cell 1; have c2 := HK.out.cell 2; have c3 := HK.out.cell 3; have c4 := HK.out.cell 4; have c5 := HK.out.cell 5
    go_wp2_with fail
    refine (spec_SongFaults f m b u _ _ _ _ ts vs _ HT.out HV.out hlt HLV.out).mono ?_
    rw [HFL.out]
    rintro e w2 ⟨A2, kc2, rfl, o2, b2⟩
    have z2 := b2.size
    clear o2
    clear c0 c1 c2 c3 c4 c5
    replace HK := Lib.hid (HK.out.below b2 (by omega)); replace HT := Lib.hid (RdTempo.more (RdTempo.below HT.out b2 (by omega)) z2); replace HV := Lib.hid (RdVs.more (RdVs.below HV.out b2 (by omega)) z2); replace HB := Lib.hid (HB.out.trans (b2.mono (by omega)))
    clear b2
    have c0 := HK.out.cell 0; have c1 := HK.out.cell 1; have c2 := HK.out.cell 2; have c3 := HK.out.cell 3; have c4 := HK.out.cell 4; have c5 := HK.out.cell 5
    go_wp2_with fail
    refine (spec_l8Number L9.length _ (by omega)).mono ?_
    rintro e w3 ⟨rfl, b3⟩
    have z3 := b3.size
    clear c0 c1 c2 c3 c4 c5
    replace HK := Lib.hid (HK.out.below b3 (by omega)); replace HT := Lib.hid (RdTempo.more (RdTempo.below HT.out b3 (by omega)) z3); replace HV := Lib.hid (RdVs.more (RdVs.below HV.out b3 (by omega)) z3); replace HB := Lib.hid (HB.out.trans (b3.mono (by omega)))
    clear b3
    have c0 := HK.out.cell 0; have c1 := HK.out.cell 1; have c2 := HK.out.cell 2; have c3 := HK.out.cell 3; have c4 := HK.out.cell 4; have c5 := HK.out.cell 5
    go_wp2_with fail
    go_ret
    exact ⟨ret_st (by rw [HF.out, HA.out]), HB.out⟩
  have p2 : ((stV l).toList == [102, 97, 117, 108, 116, 115]) = false := stV_no e2
  by_cases e3 : l = timeW
  · have HA : Hid (laL f b u ts vs l = Lib.decDigits N2) := Lib.hid (by rw [HLA.out, if_neg e1, if_neg e2, if_pos e3])
    clear HLA e1 e2
    have p3 : ((stV l).toList == [116, 105, 109, 101]) = true := stV_yes e3
    clear e3
    have hge : ((0 : Int) ≤ (N2 : Int)) = True := eq_true (by omega)
    have HK := Lib.hid (Blk.new w 28 #[.int .i64 f, .bool m, .int .i64 b, .int .i64 u, .slice C ts.length d, .slice A vs.length c])
    have HT := Lib.hid (RdTempo.more (RdTempo.al hT (Nat.le_refl _) (.cells #[.int .i64 f, .bool m, .int .i64 b, .int .i64 u, .slice C ts.length d, .slice A vs.length c] 28)) (show w.heap.size ≤ (w.alloc (.cells #[.int .i64 f, .bool m, .int .i64 b, .int .i64 u, .slice C ts.length d, .slice A vs.length c] 28)).heap.size by simp))
    have HV := Lib.hid (RdVs.more (RdVs.al hV (Nat.le_refl _) (.cells #[.int .i64 f, .bool m, .int .i64 b, .int .i64 u, .slice C ts.length d, .slice A vs.length c] 28)) (show w.heap.size ≤ (w.alloc (.cells #[.int .i64 f, .bool m, .int .i64 b, .int .i64 u, .slice C ts.length d, .slice A vs.length c] 28)).heap.size by simp))
    have HB := Lib.hid ((Below.refl w.heap.size w).alloc (Nat.le_refl _) (.cells #[.int .i64 f, .bool m, .int .i64 b, .int .i64 u, .slice C ts.length d, .slice A vs.length c] 28))
    have z0 : w.heap.size + 1 ≤ (w.alloc (.cells #[.int .i64 f, .bool m, .int .i64 b, .int .i64 u, .slice C ts.length d, .slice A vs.length c] 28)).heap.size := by simp
    clear hT hV
    go_enter Tryz.func6, Tryz.ntmps6
    go_upto_region 1 with fail
    generalize w.alloc (.cells #[.int .i64 f, .bool m, .int .i64 b, .int .i64 u, .slice C ts.length d, .slice A vs.length c] 28) = w0 at *
    have c0 := HK.out.cell 0; have c1 := HK.out.cell 1; have c2 := HK.out.cell 2; have c3 := HK.out.cell 3; have c4 := HK.out.cell 4; have c5 := HK.out.cell 5
    go_wp2_with fail
    refine (spec_SongValid f m b u _ _ _ _ ts vs _ HT.out HV.out hlt HLV.out).mono ?_
    rw [HS.out]
    rintro e w1 ⟨rfl, b1⟩
    have z1 := b1.size
    clear c0 c1 c2 c3 c4 c5
    replace HK := Lib.hid (HK.out.below b1 (by omega)); replace HT := Lib.hid (RdTempo.more (RdTempo.below HT.out b1 (by omega)) z1); replace HV := Lib.hid (RdVs.more (RdVs.below HV.out b1 (by omega)) z1); replace HB := Lib.hid (HB.out.trans (b1.mono (by omega)))
    clear b1
    have c0 := HK.out.cell 0; have c1 := HK.out.cell 1; have c2 := HK.out.cell 2; have c3 := HK.out.cell 3; have c4 := HK.out.cell 4; have c5 := HK.out.cell 5
    go_wp2_with fail
    refine (spec_SongTime f m b u _ _ _ _ ts vs _ HT.out HV.out hlt HLV.out).mono ?_
    rw [HN2.out]
    rintro e w2 ⟨rfl, b2⟩
    have z2 := b2.size
    clear c0 c1 c2 c3 c4 c5
    replace HK := Lib.hid (HK.out.below b2 (by omega)); replace HT := Lib.hid (RdTempo.more (RdTempo.below HT.out b2 (by omega)) z2); replace HV := Lib.hid (RdVs.more (RdVs.below HV.out b2 (by omega)) z2); replace HB := Lib.hid (HB.out.trans (b2.mono (by omega)))
    clear b2
    have c0 := HK.out.cell 0; have c1 := HK.out.cell 1; have c2 := HK.out.cell 2; have c3 := HK.out.cell 3; have c4 := HK.out.cell 4; have c5 := HK.out.cell 5
    go_wp2_with fail
    refine (spec_SongTime f m b u _ _ _ _ ts vs _ HT.out HV.out hlt HLV.out).mono ?_
    rw [HN2.out]
    rintro e w3 ⟨rfl, b3⟩
    have z3 := b3.size
    clear c0 c1 c2 c3 c4 c5
    replace HK := Lib.hid (HK.out.below b3 (by omega)); replace HT := Lib.hid (RdTempo.more (RdTempo.below HT.out b3 (by omega)) z3); replace HV := Lib.hid (RdVs.more (RdVs.below HV.out b3 (by omega)) z3); replace HB := Lib.hid (HB.out.trans (b3.mono (by omega)))
    clear b3
    have c0 := HK.out.cell 0; have c1 := HK.out.cell 1; have c2 := HK.out.cell 2; have c3 := HK.out.cell 3; have c4 := HK.out.cell 4; have c5 := HK.out.cell 5
    go_wp2_with fail
    refine (spec_l8Number N2 _ (by omega)).mono ?_
    rintro e w4 ⟨rfl, b4⟩
    have z4 := b4.size
    clear c0 c1 c2 c3 c4 c5
    replace HK := Lib.hid (HK.out.below b4 (by omega)); replace HT := Lib.hid (RdTempo.more (RdTempo.below HT.out b4 (by omega)) z4); replace HV := Lib.hid (RdVs.more (RdVs.below HV.out b4 (by omega)) z4); replace HB := Lib.hid (HB.out.trans (b4.mono (by omega)))
    clear b4
    have c0 := HK.out.cell 0; have c1 := HK.out.cell 1; have c2 := HK.out.cell 2; have c3 := HK.out.cell 3; have c4 := HK.out.cell 4; have c5 := HK.out.cell 5
    go_wp2_with fail
    go_ret
    exact ⟨ret_st (by rw [HF.out, HA.out]), HB.out⟩
  have p3 : ((stV l).toList == [116, 105, 109, 101]) = false := stV_no e3
  replace HLA := Lib.hid (HLA.out.trans (by rw [if_neg e1, if_neg e2, if_neg e3]))
  clear e1 e2 e3
  have hz := stV_size l
  by_cases e4 : l.length = 7
  case neg =>
    have HA : Hid (laL f b u ts vs l = [63]) := Lib.hid (by rw [HLA.out, if_neg (fun h => e4 h.1)])
    have h7 : ((l.length : Int) == 7) = false := beq_false_of_ne (by omega)
    clear HLA e4
    skip
    have HK := Lib.hid (Blk.new w 28 #[.int .i64 f, .bool m, .int .i64 b, .int .i64 u, .slice C ts.length d, .slice A vs.length c])
    have HT := Lib.hid (RdTempo.more (RdTempo.al hT (Nat.le_refl _) (.cells #[.int .i64 f, .bool m, .int .i64 b, .int .i64 u, .slice C ts.length d, .slice A vs.length c] 28)) (show w.heap.size ≤ (w.alloc (.cells #[.int .i64 f, .bool m, .int .i64 b, .int .i64 u, .slice C ts.length d, .slice A vs.length c] 28)).heap.size by simp))
    have HV := Lib.hid (RdVs.more (RdVs.al hV (Nat.le_refl _) (.cells #[.int .i64 f, .bool m, .int .i64 b, .int .i64 u, .slice C ts.length d, .slice A vs.length c] 28)) (show w.heap.size ≤ (w.alloc (.cells #[.int .i64 f, .bool m, .int .i64 b, .int .i64 u, .slice C ts.length d, .slice A vs.length c] 28)).heap.size by simp))
    have HB := Lib.hid ((Below.refl w.heap.size w).alloc (Nat.le_refl _) (.cells #[.int .i64 f, .bool m, .int .i64 b, .int .i64 u, .slice C ts.length d, .slice A vs.length c] 28))
    have z0 : w.heap.size + 1 ≤ (w.alloc (.cells #[.int .i64 f, .bool m, .int .i64 b, .int .i64 u, .slice C ts.length d, .slice A vs.length c] 28)).heap.size := by simp
    clear hT hV
    go_enter Tryz.func6, Tryz.ntmps6
    go_upto_region 1 with fail
    generalize w.alloc (.cells #[.int .i64 f, .bool m, .int .i64 b, .int .i64 u, .slice C ts.length d, .slice A vs.length c] 28) = w0 at *
    have c0 := HK.out.cell 0; have c1 := HK.out.cell 1; have c2 := HK.out.cell 2; have c3 := HK.out.cell 3; have c4 := HK.out.cell 4; have c5 := HK.out.cell 5
    go_wp2_with fail
    refine (spec_SongValid f m b u _ _ _ _ ts vs _ HT.out HV.out hlt HLV.out).mono ?_
    rw [HS.out]
    rintro e w1 ⟨rfl, b1⟩
    have z1 := b1.size
    clear c0 c1 c2 c3 c4 c5
    replace HK := Lib.hid (HK.out.below b1 (by omega)); replace HT := Lib.hid (RdTempo.more (RdTempo.below HT.out b1 (by omega)) z1); replace HV := Lib.hid (RdVs.more (RdVs.below HV.out b1 (by omega)) z1); replace HB := Lib.hid (HB.out.trans (b1.mono (by omega)))
    clear b1
    have c0 := HK.out.cell 0; have c1 := HK.out.cell 1; have c2 := HK.out.cell 2; have c3 := HK.out.cell 3; have c4 := HK.out.cell 4; have c5 := HK.out.cell 5
    go_wp2_with fail
    go_ret
    exact ⟨ret_st (by rw [HF.out, HA.out]; rfl), HB.out⟩
  have h7 : ((l.length : Int) == 7) = true := by simp [e4]
  have hx6 : (stV l).extract 0 6 = stV (l.take 6) := by rw [Go.Lib.extract_eq]; simp [stV]
  by_cases e5 : l.take 6 = voiceW
  case neg =>
    have HA : Hid (laL f b u ts vs l = [63]) := Lib.hid (by rw [HLA.out, if_neg (fun h => e5 h.2.1)])
    have p5 : ((stV (l.take 6)).toList == [118, 111, 105, 99, 101, 32]) = false := stV_no e5
    have h6 : (6 : Int) ≤ (l.length : Int) := by omega
    clear HLA e5 e4
    skip
    have HK := Lib.hid (Blk.new w 28 #[.int .i64 f, .bool m, .int .i64 b, .int .i64 u, .slice C ts.length d, .slice A vs.length c])
    have HT := Lib.hid (RdTempo.more (RdTempo.al hT (Nat.le_refl _) (.cells #[.int .i64 f, .bool m, .int .i64 b, .int .i64 u, .slice C ts.length d, .slice A vs.length c] 28)) (show w.heap.size ≤ (w.alloc (.cells #[.int .i64 f, .bool m, .int .i64 b, .int .i64 u, .slice C ts.length d, .slice A vs.length c] 28)).heap.size by simp))
    have HV := Lib.hid (RdVs.more (RdVs.al hV (Nat.le_refl _) (.cells #[.int .i64 f, .bool m, .int .i64 b, .int .i64 u, .slice C ts.length d, .slice A vs.length c] 28)) (show w.heap.size ≤ (w.alloc (.cells #[.int .i64 f, .bool m, .int .i64 b, .int .i64 u, .slice C ts.length d, .slice A vs.length c] 28)).heap.size by simp))
    have HB := Lib.hid ((Below.refl w.heap.size w).alloc (Nat.le_refl _) (.cells #[.int .i64 f, .bool m, .int .i64 b, .int .i64 u, .slice C ts.length d, .slice A vs.length c] 28))
    have z0 : w.heap.size + 1 ≤ (w.alloc (.cells #[.int .i64 f, .bool m, .int .i64 b, .int .i64 u, .slice C ts.length d, .slice A vs.length c] 28)).heap.size := by simp
    clear hT hV
    go_enter Tryz.func6, Tryz.ntmps6
    go_upto_region 1 with fail
    generalize w.alloc (.cells #[.int .i64 f, .bool m, .int .i64 b, .int .i64 u, .slice C ts.length d, .slice A vs.length c] 28) = w0 at *
    have c0 := HK.out.cell 0; have c1 := HK.out.cell 1; have c2 := HK.out.cell 2; have c3 := HK.out.cell 3; have c4 := HK.out.cell 4; have c5 := HK.out.cell 5
    go_wp2_with fail
    refine (spec_SongValid f m b u _ _ _ _ ts vs _ HT.out HV.out hlt HLV.out).mono ?_
    rw [HS.out]
    rintro e w1 ⟨rfl, b1⟩
    have z1 := b1.size
    clear c0 c1 c2 c3 c4 c5
    replace HK := Lib.hid (HK.out.below b1 (by omega)); replace HT := Lib.hid (RdTempo.more (RdTempo.below HT.out b1 (by omega)) z1); replace HV := Lib.hid (RdVs.more (RdVs.below HV.out b1 (by omega)) z1); replace HB := Lib.hid (HB.out.trans (b1.mono (by omega)))
    clear b1
    have c0 := HK.out.cell 0; have c1 := HK.out.cell 1; have c2 := HK.out.cell 2; have c3 := HK.out.cell 3; have c4 := HK.out.cell 4; have c5 := HK.out.cell 5
    go_wp2_with fail
    go_ret
    exact ⟨ret_st (by rw [HF.out, HA.out]; rfl), HB.out⟩
  have HLB : Hid (laL f b u ts vs l = if inR (lnV l) 0 ((vs.length : Int) - 1) = true then vxL (glV vs (lnV l).toNat) else [63]) := Lib.hid (HLA.out.trans (by simp only [e4, e5, true_and]))
  have p5 : ((stV (l.take 6)).toList == [118, 111, 105, 99, 101, 32]) = true := stV_yes e5
  have h6 : (6 : Int) ≤ (l.length : Int) := by omega
  clear HLA e5
  obtain ⟨g6, hg6⟩ : ∃ g, g = l.getD 6 0 := ⟨_, rfl⟩
  have hg : ∀ h : 6 < (stV l).size, (stV l)[6]'h = g6 := fun h => by rw [hg6]; show l.toArray[6] = _; simp [e4]; rfl
  have hgn : lnV l = (g6.toNat : Int) - 48 := by rw [hg6]; rfl
  have hb : g6.toNat < 256 := g6.toNat_lt
  clear hg6
  cases e6 : inR (lnV l) 0 ((vs.length : Int) - 1)
  case false =>
    have HA : Hid (laL f b u ts vs l = [63]) := Lib.hid (by rw [HLB.out, if_neg (by rw [e6]; decide)])
    have HE := Lib.hid (hgn ▸ e6)
    clear HLB e6 hgn
    skip
    have HK := Lib.hid (Blk.new w 28 #[.int .i64 f, .bool m, .int .i64 b, .int .i64 u, .slice C ts.length d, .slice A vs.length c])
    have HT := Lib.hid (RdTempo.more (RdTempo.al hT (Nat.le_refl _) (.cells #[.int .i64 f, .bool m, .int .i64 b, .int .i64 u, .slice C ts.length d, .slice A vs.length c] 28)) (show w.heap.size ≤ (w.alloc (.cells #[.int .i64 f, .bool m, .int .i64 b, .int .i64 u, .slice C ts.length d, .slice A vs.length c] 28)).heap.size by simp))
    have HV := Lib.hid (RdVs.more (RdVs.al hV (Nat.le_refl _) (.cells #[.int .i64 f, .bool m, .int .i64 b, .int .i64 u, .slice C ts.length d, .slice A vs.length c] 28)) (show w.heap.size ≤ (w.alloc (.cells #[.int .i64 f, .bool m, .int .i64 b, .int .i64 u, .slice C ts.length d, .slice A vs.length c] 28)).heap.size by simp))
    have HB := Lib.hid ((Below.refl w.heap.size w).alloc (Nat.le_refl _) (.cells #[.int .i64 f, .bool m, .int .i64 b, .int .i64 u, .slice C ts.length d, .slice A vs.length c] 28))
    have z0 : w.heap.size + 1 ≤ (w.alloc (.cells #[.int .i64 f, .bool m, .int .i64 b, .int .i64 u, .slice C ts.length d, .slice A vs.length c] 28)).heap.size := by simp
    clear hT hV
    go_enter Tryz.func6, Tryz.ntmps6
    go_upto_region 1 with fail
    generalize w.alloc (.cells #[.int .i64 f, .bool m, .int .i64 b, .int .i64 u, .slice C ts.length d, .slice A vs.length c] 28) = w0 at *
    have c0 := HK.out.cell 0; have c1 := HK.out.cell 1; have c2 := HK.out.cell 2; have c3 := HK.out.cell 3; have c4 := HK.out.cell 4; have c5 := HK.out.cell 5
    go_wp2_with fail
    refine (spec_SongValid f m b u _ _ _ _ ts vs _ HT.out HV.out hlt HLV.out).mono ?_
    rw [HS.out]
    rintro e w1 ⟨rfl, b1⟩
    have z1 := b1.size
    clear c0 c1 c2 c3 c4 c5
    replace HK := Lib.hid (HK.out.below b1 (by omega)); replace HT := Lib.hid (RdTempo.more (RdTempo.below HT.out b1 (by omega)) z1); replace HV := Lib.hid (RdVs.more (RdVs.below HV.out b1 (by omega)) z1); replace HB := Lib.hid (HB.out.trans (b1.mono (by omega)))
    clear b1
    have c0 := HK.out.cell 0; have c1 := HK.out.cell 1; have c2 := HK.out.cell 2; have c3 := HK.out.cell 3; have c4 := HK.out.cell 4; have c5 := HK.out.cell 5
    go_wp2_with fail
    refine (spec_l1In _ _ _ _).mono ?_
    rw [HE.out]
    rintro e w' ⟨rfl, rfl⟩
    go_wp2_with fail
    go_ret
    exact ⟨ret_st (by rw [HF.out, HA.out]; rfl), HB.out⟩
  obtain ⟨k, hk⟩ : ∃ k : Nat, lnV l = (k : Int) := ⟨_, (Int.toNat_of_nonneg (inR_iff.1 e6).1).symm⟩
  have HGK : Hid ((g6.toNat : Int) - 48 = (k : Int)) := Lib.hid (by rw [← hk, hgn])
  have HA : Hid (laL f b u ts vs l = vxL (glV vs k)) := Lib.hid (by rw [HLB.out, if_pos e6, hk, Int.toNat_natCast])
  rw [hk] at e6
  have HE := Lib.hid e6
  have hkl : k < vs.length := by have := (inR_iff.1 e6).2; omega
  clear HLB e6 hgn hk
  skip
  have HK := Lib.hid (Blk.new w 28 #[.int .i64 f, .bool m, .int .i64 b, .int .i64 u, .slice C ts.length d, .slice A vs.length c])
  have HT := Lib.hid (RdTempo.more (RdTempo.al hT (Nat.le_refl _) (.cells #[.int .i64 f, .bool m, .int .i64 b, .int .i64 u, .slice C ts.length d, .slice A vs.length c] 28)) (show w.heap.size ≤ (w.alloc (.cells #[.int .i64 f, .bool m, .int .i64 b, .int .i64 u, .slice C ts.length d, .slice A vs.length c] 28)).heap.size by simp))
  have HV := Lib.hid (RdVs.more (RdVs.al hV (Nat.le_refl _) (.cells #[.int .i64 f, .bool m, .int .i64 b, .int .i64 u, .slice C ts.length d, .slice A vs.length c] 28)) (show w.heap.size ≤ (w.alloc (.cells #[.int .i64 f, .bool m, .int .i64 b, .int .i64 u, .slice C ts.length d, .slice A vs.length c] 28)).heap.size by simp))
  have HB := Lib.hid ((Below.refl w.heap.size w).alloc (Nat.le_refl _) (.cells #[.int .i64 f, .bool m, .int .i64 b, .int .i64 u, .slice C ts.length d, .slice A vs.length c] 28))
  have z0 : w.heap.size + 1 ≤ (w.alloc (.cells #[.int .i64 f, .bool m, .int .i64 b, .int .i64 u, .slice C ts.length d, .slice A vs.length c] 28)).heap.size := by simp
  clear hT hV
  go_enter Tryz.func6, Tryz.ntmps6
  go_upto_region 1 with fail
  generalize w.alloc (.cells #[.int .i64 f, .bool m, .int .i64 b, .int .i64 u, .slice C ts.length d, .slice A vs.length c] 28) = w0 at *
  have c0 := HK.out.cell 0; have c1 := HK.out.cell 1; have c2 := HK.out.cell 2; have c3 := HK.out.cell 3; have c4 := HK.out.cell 4; have c5 := HK.out.cell 5
  go_wp2_with fail
  refine (spec_SongValid f m b u _ _ _ _ ts vs _ HT.out HV.out hlt HLV.out).mono ?_
  rw [HS.out]
  rintro e w1 ⟨rfl, b1⟩
  have z1 := b1.size
  clear c0 c1 c2 c3 c4 c5
  replace HK := Lib.hid (HK.out.below b1 (by omega)); replace HT := Lib.hid (RdTempo.more (RdTempo.below HT.out b1 (by omega)) z1); replace HV := Lib.hid (RdVs.more (RdVs.below HV.out b1 (by omega)) z1); replace HB := Lib.hid (HB.out.trans (b1.mono (by omega)))
  clear b1
  have c0 := HK.out.cell 0; have c1 := HK.out.cell 1; have c2 := HK.out.cell 2; have c3 := HK.out.cell 3; have c4 := HK.out.cell 4; have c5 := HK.out.cell 5
  go_wp2_with fail
  rw [HGK.out]
  refine (spec_l1In _ _ _ _).mono ?_
  rw [HE.out]
  rintro e w' ⟨rfl, rfl⟩
  obtain ⟨b8, off, C8, d8, rfl, hb8, hc8, hn8⟩ := HV.out.at_ hkl
  have HN := Lib.hid hn8; clear hn8
  have hvl := HLV.out.at_ hkl
  have hi1 : ((k : Int) < (vs.length : Int)) = True := eq_true (by omega)
  have hin : (k : Int).toNat = k := by omega
  go_wp2_with fail
  refine (spec_VoiceText C8 d8 (glV vs k) _ HN.out hvl).mono ?_
  rintro e w9 ⟨rfl, b9⟩
  replace HB := Lib.hid (HB.out.trans (b9.mono (by omega)))
  clear b9
  go_wp2_with fail
  go_ret
  exact ⟨ret_st (by rw [HF.out, HA.out]), HB.out⟩
end Go.Proofs.YtmodpleonhniaaaGreatDoor
