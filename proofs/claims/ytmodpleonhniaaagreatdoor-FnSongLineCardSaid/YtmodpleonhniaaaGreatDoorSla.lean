/- The contract of the program's lineAnswer. Condition: the song is valid; at most 2^20 tempos, voices, notes, bytes of the line; the table of powers of ten is laid (Tb). -/
import Derived.Test.YtmodpleonhniaaaGreatDoorLnD
import Derived.Test.YtmodpleonhniaaaGreatDoorVxt
import Derived.Test.YtmodpleonhniaaaGreatDoorInv
namespace Go.Proofs.YtmodpleonhniaaaGreatDoor
open Go.RowKit
set_option linter.unusedSimpArgs false
set_option linter.unusedVariables false
set_option maxRecDepth 100000
theorem retS_post {P : Program} {f : FuncId} {args : Array Value} {w : World} {l : List UInt8} (h : Calls P f args w (RetS w l)) : Calls P f args w fun e w' => ∃ v, e = .returned v ∧ FEq (.string (stV l)) v w' ∧ Below w.heap.size w w' :=
  h.mono fun _ _ ⟨he, hb⟩ => ⟨_, he, rfl, hb⟩
/-- what lineAnswer answers, of a valid song -/
def laO (f b u : Int) (ts : List (Int × Int)) (vs : List (List Nt)) (l : List UInt8) : Option (List UInt8) :=
  if l = barsW then some (Lib.decDigits (sbL f b u ts vs).toNat)
  else if l = faultsW then some (Lib.decDigits (ftL f b u ts vs).length)
  else if l = timeW then some (Lib.decDigits (smL f b u ts vs).toNat)
  else if l.length = 7 ∧ l.take 6 = voiceW ∧ inR (lnV l) 0 ((vs.length : Int) - 1) = true then some (vxL (glV vs (lnV l).toNat))
  else none
theorem la_O {f b u : Int} {ts : List (Int × Int)} {vs : List (List Nt)} (hs : svB f b u ts vs = true) (l : List UInt8) : lnL f b u ts vs l = (laO f b u ts vs l).getD [63] := by
  have h0 := (sm_bd hs).1
  unfold lnL laL laO
  rw [if_pos hs]
  simp only [h0, and_true]
  repeat' split
  all_goals rfl
theorem pre_iff {l : List UInt8} : Lib.hasPrefix l voiceW = true ↔ ∃ d, l = voiceW ++ d := by
  unfold Lib.hasPrefix
  rw [List.isPrefixOf_iff_prefix]
  exact ⟨fun ⟨d, h⟩ => ⟨d, h.symm⟩, fun ⟨d, h⟩ => ⟨d, h.symm⟩⟩
theorem cut_yes (d : List UInt8) (w : World) : Calls Tryz.prog 41 #[.string (stV (voiceW ++ d)), .string ⟨#[118, 111, 105, 99, 101, 32]⟩] w fun e w' => e = .returned (.tuple #[.string (stV d), .bool true]) ∧ w = w' := by
  have h : Lib.hasPrefix (voiceW ++ d) voiceW = true := pre_iff.2 ⟨d, rfl⟩
  refine (Tryz.strings_CutPrefix _ _ w).mono ?_
  rintro e w' ⟨rfl, rfl⟩
  refine ⟨?_, rfl⟩
  have e1 : (stV (voiceW ++ d)).data.toList = voiceW ++ d := by simp [stV]
  rw [e1]
  show Ending.returned (.tuple #[.string ⟨(Lib.trimPrefix (voiceW ++ d) voiceW).toArray⟩, .bool (Lib.hasPrefix (voiceW ++ d) voiceW)]) = _
  rw [h, Lib.trimPrefix, if_pos h, List.drop_left]; rfl
theorem cut_no {l : List UInt8} (h : Lib.hasPrefix l voiceW = false) (w : World) : Calls Tryz.prog 41 #[.string (stV l), .string ⟨#[118, 111, 105, 99, 101, 32]⟩] w fun e w' => e = .returned (.tuple #[.string (stV l), .bool false]) ∧ w = w' := by
  refine (Tryz.strings_CutPrefix _ _ w).mono ?_
  rintro e w' ⟨rfl, rfl⟩
  refine ⟨?_, rfl⟩
  have e1 : (stV l).data.toList = l := by simp [stV]
  rw [e1]
  show Ending.returned (.tuple #[.string ⟨(Lib.trimPrefix l voiceW).toArray⟩, .bool (Lib.hasPrefix l voiceW)]) = _
  rw [h, Lib.trimPrefix, if_neg (by rw [h]; decide)]; rfl
def RetLA (w : World) (o : Option (List UInt8)) (e : Ending) (w' : World) : Prop := e = .returned (.tuple #[.string (stV (o.getD [])), .bool o.isSome]) ∧ Below w.heap.size w w'
theorem ret_la {x y : ByteArray} {p q : Bool} (h1 : x = y) (h2 : p = q) : Ending.returned (.tuple #[.string x, .bool p]) = .returned (.tuple #[.string y, .bool q]) := by rw [h1, h2]
set_option maxHeartbeats 4000000 in
theorem impl_lineAnswer (f : Int) (m : Bool) (b u : Int) (C A : Option Addr) (d c : Nat) (ts : List (Int × Int)) (vs : List (List Nt)) (l : List UInt8) (w : World) (hT : RdTempo w w.heap.size C ts) (hV : RdVs w w.heap.size A vs) (hlt : ts.length ≤ 1048576) (hlv : LenV vs) (hl : l.length ≤ 1048576) (hs : svB f b u ts vs = true) (htb : Tb w) :
    Calls Tryz.prog 15 #[.agg #[.int .i64 f, .bool m, .int .i64 b, .int .i64 u, .slice C ts.length d, .slice A vs.length c], .string (stV l)] w (RetLA w (laO f b u ts vs l)) := by
  have HLV : Hid (LenV vs) := Lib.hid hlv
  have hlv1 : vs.length ≤ 1048576 := hlv.1
  have HTB := Lib.hid htb; clear htb
  obtain ⟨N1, hN1⟩ : ∃ N : Nat, sbL f b u ts vs = (N : Int) := ⟨_, (Int.toNat_of_nonneg (sb_bd hs).1).symm⟩
  obtain ⟨N2, hN2⟩ : ∃ N : Nat, smL f b u ts vs = (N : Int) := ⟨_, (Int.toNat_of_nonneg (sm_bd hs).1).symm⟩
  have y1 : N1 ≤ 50000 := by have := (sb_bd hs).2; omega
  have y2 : N2 ≤ 5000000000 := by have := (sm_bd hs).2; omega
  have y3 := ftL_len f b u ts vs
  have y4 : vs.length ≤ 4 := (svB_iff.1 hs).2.2.2.1
  have HLA : Hid (laO f b u ts vs l = if l = barsW then some (Lib.decDigits N1) else if l = faultsW then some (Lib.decDigits (ftL f b u ts vs).length) else if l = timeW then some (Lib.decDigits N2) else if l.length = 7 ∧ l.take 6 = voiceW ∧ inR (lnV l) 0 ((vs.length : Int) - 1) = true then some (vxL (glV vs (lnV l).toNat)) else none) := Lib.hid (by
    unfold laO; rw [hN1, hN2] at *; simp only [Int.toNat_natCast])
  have HN1 := Lib.hid hN1; have HN2 := Lib.hid hN2; have HS := Lib.hid hs
  clear hN1 hN2 hs
  generalize hfl : ftL f b u ts vs = L9 at *
  have HFL := Lib.hid hfl; clear hfl
  by_cases e1 : l = barsW
  · have HA : Hid (laO f b u ts vs l = some (Lib.decDigits N1)) := Lib.hid (by rw [HLA.out, if_pos e1])
    clear HLA
    have p1 : ((stV l).toList == [98, 97, 114, 115]) = true := stV_yes e1
    clear e1
    have HK := Lib.hid (Blk.new w 28 #[.int .i64 f, .bool m, .int .i64 b, .int .i64 u, .slice C ts.length d, .slice A vs.length c])
    have HT := Lib.hid (RdTempo.more (RdTempo.al hT (Nat.le_refl _) (.cells #[.int .i64 f, .bool m, .int .i64 b, .int .i64 u, .slice C ts.length d, .slice A vs.length c] 28)) (show w.heap.size ≤ (w.alloc (.cells #[.int .i64 f, .bool m, .int .i64 b, .int .i64 u, .slice C ts.length d, .slice A vs.length c] 28)).heap.size by simp))
    have HV := Lib.hid (RdVs.more (RdVs.al hV (Nat.le_refl _) (.cells #[.int .i64 f, .bool m, .int .i64 b, .int .i64 u, .slice C ts.length d, .slice A vs.length c] 28)) (show w.heap.size ≤ (w.alloc (.cells #[.int .i64 f, .bool m, .int .i64 b, .int .i64 u, .slice C ts.length d, .slice A vs.length c] 28)).heap.size by simp))
    have HB := Lib.hid ((Below.refl w.heap.size w).alloc (Nat.le_refl _) (.cells #[.int .i64 f, .bool m, .int .i64 b, .int .i64 u, .slice C ts.length d, .slice A vs.length c] 28))
    have z0 : w.heap.size + 1 ≤ (w.alloc (.cells #[.int .i64 f, .bool m, .int .i64 b, .int .i64 u, .slice C ts.length d, .slice A vs.length c] 28)).heap.size := by simp
    clear hT hV
    go_enter Tryz.func15, Tryz.ntmps15
    go_upto_region 1 with fail
    generalize w.alloc (.cells #[.int .i64 f, .bool m, .int .i64 b, .int .i64 u, .slice C ts.length d, .slice A vs.length c] 28) = w0 at *
    have c0 := HK.out.cell 0; have c1 := HK.out.cell 1; have c2 := HK.out.cell 2; have c3 := HK.out.cell 3; have c4 := HK.out.cell 4; have c5 := HK.out.cell 5
    go_wp2_with fail
    refine (impl_SongBars f m b u _ _ _ _ ts vs _ HT.out HV.out hlt HLV.out).mono ?_
    rw [HN1.out]
    rintro e w1 ⟨rfl, b1⟩
    have z1 := b1.size
    clear c0 c1 c2 c3 c4 c5
    replace HK := Lib.hid (HK.out.below b1 (by omega)); replace HT := Lib.hid (RdTempo.more (RdTempo.below HT.out b1 (by omega)) z1); replace HV := Lib.hid (RdVs.more (RdVs.below HV.out b1 (by omega)) z1); replace HB := Lib.hid (HB.out.trans (b1.mono (by omega)))
    clear b1
    have c0 := HK.out.cell 0; have c1 := HK.out.cell 1; have c2 := HK.out.cell 2; have c3 := HK.out.cell 3; have c4 := HK.out.cell 4; have c5 := HK.out.cell 5
    go_wp2_with fail
    refine (itoa_ret N1 (by omega) _ (HTB.out _ HB.out)).mono ?_
    rintro e w2 ⟨rfl, b2⟩
    have z2 := b2.size
    clear c0 c1 c2 c3 c4 c5
    replace HK := Lib.hid (HK.out.below b2 (by omega)); replace HT := Lib.hid (RdTempo.more (RdTempo.below HT.out b2 (by omega)) z2); replace HV := Lib.hid (RdVs.more (RdVs.below HV.out b2 (by omega)) z2); replace HB := Lib.hid (HB.out.trans (b2.mono (by omega)))
    clear b2
    have c0 := HK.out.cell 0; have c1 := HK.out.cell 1; have c2 := HK.out.cell 2; have c3 := HK.out.cell 3; have c4 := HK.out.cell 4; have c5 := HK.out.cell 5
    go_wp2_with fail
    go_ret2
    exact ⟨ret_la (by rw [HA.out]; rfl) (by rw [HA.out]; rfl), HB.out⟩
  have p1 : ((stV l).toList == [98, 97, 114, 115]) = false := stV_no e1
  by_cases e2 : l = faultsW
  · have HA : Hid (laO f b u ts vs l = some (Lib.decDigits L9.length)) := Lib.hid (by rw [HLA.out, if_neg e1, if_pos e2])
    clear HLA e1
    have p2 : ((stV l).toList == [102, 97, 117, 108, 116, 115]) = true := stV_yes e2
    clear e2
    have HK := Lib.hid (Blk.new w 28 #[.int .i64 f, .bool m, .int .i64 b, .int .i64 u, .slice C ts.length d, .slice A vs.length c])
    have HT := Lib.hid (RdTempo.more (RdTempo.al hT (Nat.le_refl _) (.cells #[.int .i64 f, .bool m, .int .i64 b, .int .i64 u, .slice C ts.length d, .slice A vs.length c] 28)) (show w.heap.size ≤ (w.alloc (.cells #[.int .i64 f, .bool m, .int .i64 b, .int .i64 u, .slice C ts.length d, .slice A vs.length c] 28)).heap.size by simp))
    have HV := Lib.hid (RdVs.more (RdVs.al hV (Nat.le_refl _) (.cells #[.int .i64 f, .bool m, .int .i64 b, .int .i64 u, .slice C ts.length d, .slice A vs.length c] 28)) (show w.heap.size ≤ (w.alloc (.cells #[.int .i64 f, .bool m, .int .i64 b, .int .i64 u, .slice C ts.length d, .slice A vs.length c] 28)).heap.size by simp))
    have HB := Lib.hid ((Below.refl w.heap.size w).alloc (Nat.le_refl _) (.cells #[.int .i64 f, .bool m, .int .i64 b, .int .i64 u, .slice C ts.length d, .slice A vs.length c] 28))
    have z0 : w.heap.size + 1 ≤ (w.alloc (.cells #[.int .i64 f, .bool m, .int .i64 b, .int .i64 u, .slice C ts.length d, .slice A vs.length c] 28)).heap.size := by simp
    clear hT hV
    go_enter Tryz.func15, Tryz.ntmps15
    go_upto_region 1 with fail
    generalize w.alloc (.cells #[.int .i64 f, .bool m, .int .i64 b, .int .i64 u, .slice C ts.length d, .slice A vs.length c] 28) = w0 at *
    have c0 := HK.out.cell 0; have c1 := HK.out.cell 1; have c2 := HK.out.cell 2; have c3 := HK.out.cell 3; have c4 := HK.out.cell 4; have c5 := HK.out.cell 5
    go_wp2_with fail
    refine (impl_SongFaults f m b u _ _ _ _ ts vs _ HT.out HV.out hlt HLV.out).mono ?_
    rw [HFL.out]
    rintro e w1 ⟨A1, kc1, rfl, o1, b1⟩
    have z1 := b1.size
    clear o1
    clear c0 c1 c2 c3 c4 c5
    replace HK := Lib.hid (HK.out.below b1 (by omega)); replace HT := Lib.hid (RdTempo.more (RdTempo.below HT.out b1 (by omega)) z1); replace HV := Lib.hid (RdVs.more (RdVs.below HV.out b1 (by omega)) z1); replace HB := Lib.hid (HB.out.trans (b1.mono (by omega)))
    clear b1
    have c0 := HK.out.cell 0; have c1 := HK.out.cell 1; have c2 := HK.out.cell 2; have c3 := HK.out.cell 3; have c4 := HK.out.cell 4; have c5 := HK.out.cell 5
    go_wp2_with fail
    refine (itoa_ret L9.length (by omega) _ (HTB.out _ HB.out)).mono ?_
    rintro e w2 ⟨rfl, b2⟩
    have z2 := b2.size
    clear c0 c1 c2 c3 c4 c5
    replace HK := Lib.hid (HK.out.below b2 (by omega)); replace HT := Lib.hid (RdTempo.more (RdTempo.below HT.out b2 (by omega)) z2); replace HV := Lib.hid (RdVs.more (RdVs.below HV.out b2 (by omega)) z2); replace HB := Lib.hid (HB.out.trans (b2.mono (by omega)))
    clear b2
    have c0 := HK.out.cell 0; have c1 := HK.out.cell 1; have c2 := HK.out.cell 2; have c3 := HK.out.cell 3; have c4 := HK.out.cell 4; have c5 := HK.out.cell 5
    go_wp2_with fail
    go_ret2
    exact ⟨ret_la (by rw [HA.out]; rfl) (by rw [HA.out]; rfl), HB.out⟩
  have p2 : ((stV l).toList == [102, 97, 117, 108, 116, 115]) = false := stV_no e2
  by_cases e3 : l = timeW
  · have HA : Hid (laO f b u ts vs l = some (Lib.decDigits N2)) := Lib.hid (by rw [HLA.out, if_neg e1, if_neg e2, if_pos e3])
    clear HLA e1 e2
    have p3 : ((stV l).toList == [116, 105, 109, 101]) = true := stV_yes e3
    clear e3
    have hge : (0 : Int) ≤ (N2 : Int) := by omega
    have HK := Lib.hid (Blk.new w 28 #[.int .i64 f, .bool m, .int .i64 b, .int .i64 u, .slice C ts.length d, .slice A vs.length c])
    have HT := Lib.hid (RdTempo.more (RdTempo.al hT (Nat.le_refl _) (.cells #[.int .i64 f, .bool m, .int .i64 b, .int .i64 u, .slice C ts.length d, .slice A vs.length c] 28)) (show w.heap.size ≤ (w.alloc (.cells #[.int .i64 f, .bool m, .int .i64 b, .int .i64 u, .slice C ts.length d, .slice A vs.length c] 28)).heap.size by simp))
    have HV := Lib.hid (RdVs.more (RdVs.al hV (Nat.le_refl _) (.cells #[.int .i64 f, .bool m, .int .i64 b, .int .i64 u, .slice C ts.length d, .slice A vs.length c] 28)) (show w.heap.size ≤ (w.alloc (.cells #[.int .i64 f, .bool m, .int .i64 b, .int .i64 u, .slice C ts.length d, .slice A vs.length c] 28)).heap.size by simp))
    have HB := Lib.hid ((Below.refl w.heap.size w).alloc (Nat.le_refl _) (.cells #[.int .i64 f, .bool m, .int .i64 b, .int .i64 u, .slice C ts.length d, .slice A vs.length c] 28))
    have z0 : w.heap.size + 1 ≤ (w.alloc (.cells #[.int .i64 f, .bool m, .int .i64 b, .int .i64 u, .slice C ts.length d, .slice A vs.length c] 28)).heap.size := by simp
    clear hT hV
    go_enter Tryz.func15, Tryz.ntmps15
    go_upto_region 1 with fail
    generalize w.alloc (.cells #[.int .i64 f, .bool m, .int .i64 b, .int .i64 u, .slice C ts.length d, .slice A vs.length c] 28) = w0 at *
    have c0 := HK.out.cell 0; have c1 := HK.out.cell 1; have c2 := HK.out.cell 2; have c3 := HK.out.cell 3; have c4 := HK.out.cell 4; have c5 := HK.out.cell 5
    go_upto_region 7 with fail
    refine regionL_draws rfl 60 [some 22, some 23, some 24, some 25, some 26, some 27, some 4, some 5]
      [FEq (.agg #[.int .i64 f, .bool m, .int .i64 b, .int .i64 u, .slice C ts.length d, .slice A vs.length c]), FEq (.int .i64 ((N2 : Int))), FEq (.string (stV (Lib.decDigits N2))), FEq (.agg #[.int .i64 f, .bool m, .int .i64 b, .int .i64 u, .slice C ts.length d, .slice A vs.length c]), FEq (.int .i64 ((N2 : Int))), FEq (.bool true), FEq (.string (stV (Lib.decDigits N2))), FEq (.bool true)] (by kernel_rfl) (by kernel_rfl) ?_ ?_ ?_
    · exact stayLs_cons stayL_eq (stayLs_cons stayL_eq (stayLs_cons stayL_eq (stayLs_cons stayL_eq (stayLs_cons stayL_eq (stayLs_cons stayL_eq (stayLs_cons stayL_eq (stayLs_cons stayL_eq stayLs_nil)))))))
    · refine AllI.cons ?_ (AllI.cons ?_ (AllI.cons ?_ (AllI.cons ?_ (AllI.cons ?_ (AllI.cons ?_ (AllI.cons ?_ (AllI.cons ?_ trivial)))))))
      · intro kk bb ff ww hkk hf hd hp hq hJ
        refine .inl ⟨wanted_none rfl, ?_⟩
        have q2 : FEq (.pointer (some ⟨w.heap.size, 0, none⟩)) (ff 2) ww := (hf 2 (by decide)).trans rfl
        unfold FEq at q2
        have c0 : ww.cell? ⟨w.heap.size, 0, none⟩ = some (.int .i64 f) := (hJ.cell (p := ⟨w.heap.size, 0, none⟩) (show w.heap.size < _ by omega)).trans c0
        have c1 : ww.cell? ⟨w.heap.size, 1, none⟩ = some (.bool m) := (hJ.cell (p := ⟨w.heap.size, 1, none⟩) (show w.heap.size < _ by omega)).trans c1
        have c2 : ww.cell? ⟨w.heap.size, 2, none⟩ = some (.int .i64 b) := (hJ.cell (p := ⟨w.heap.size, 2, none⟩) (show w.heap.size < _ by omega)).trans c2
        have c3 : ww.cell? ⟨w.heap.size, 3, none⟩ = some (.int .i64 u) := (hJ.cell (p := ⟨w.heap.size, 3, none⟩) (show w.heap.size < _ by omega)).trans c3
        have c4 : ww.cell? ⟨w.heap.size, 4, none⟩ = some (.slice C ts.length d) := (hJ.cell (p := ⟨w.heap.size, 4, none⟩) (show w.heap.size < _ by omega)).trans c4
        have c5 : ww.cell? ⟨w.heap.size, 5, none⟩ = some (.slice A vs.length c) := (hJ.cell (p := ⟨w.heap.size, 5, none⟩) (show w.heap.size < _ by omega)).trans c5
        refine sl_val (.agg #[.int .i64 f, .bool m, .int .i64 b, .int .i64 u, .slice C ts.length d, .slice A vs.length c]) hJ ?_ rfl
        simp only [execOp, ev_tmp _ _ (show 2 < 60 by decide), ev_const, q2]
        simp [go_sem, c0, c1, c2, c3, c4, c5]
      · intro kk bb ff ww hkk hf hd hp hq hJ
        refine .inl ⟨wanted_none rfl, ?_⟩
        obtain ⟨p0, -⟩ := hd
        have q22 : FEq (.agg #[.int .i64 f, .bool m, .int .i64 b, .int .i64 u, .slice C ts.length d, .slice A vs.length c]) (ff 22) ww := p0 rfl
        unfold FEq at q22
        refine sl_enter 40 #[.agg #[.int .i64 f, .bool m, .int .i64 b, .int .i64 u, .slice C ts.length d, .slice A vs.length c]] hJ ?_ ?_
        · simp only [execOp, ev_tmp _ _ (show 22 < 60 by decide), ev_const, q22, ev_func, resolve, List.map_toArray, List.map_cons, List.map_nil]
          simp [go_sem]
        · skip
          have h := retI_post (impl_SongTime f m b u C A d c ts vs ww (RdTempo.more (RdTempo.below HT.out hJ (Nat.le_refl _)) hJ.size) (RdVs.more (RdVs.below HV.out hJ (Nat.le_refl _)) hJ.size) hlt HLV.out)
          rw [HN2.out] at h
          exact h
      · intro kk bb ff ww hkk hf hd hp hq hJ
        refine .inl ⟨wanted_none rfl, ?_⟩
        obtain ⟨p0, p1, -⟩ := hd
        have q23 : FEq (.int .i64 ((N2 : Int))) (ff 23) ww := p0 rfl
        unfold FEq at q23
        refine sl_enter 37 #[.int .i64 ((N2 : Int))] hJ ?_ ?_
        · simp only [execOp, ev_tmp _ _ (show 23 < 60 by decide), ev_const, q23, ev_func, resolve, List.map_toArray, List.map_cons, List.map_nil]
          simp [go_sem]
        · skip
          exact retS_post (itoa_ret N2 (by omega) ww (HTB.out _ (HB.out.trans (hJ.mono (by omega)))))
      · intro kk bb ff ww hkk hf hd hp hq hJ
        refine .inl ⟨wanted_none rfl, ?_⟩
        have q2 : FEq (.pointer (some ⟨w.heap.size, 0, none⟩)) (ff 2) ww := (hf 2 (by decide)).trans rfl
        unfold FEq at q2
        have c0 : ww.cell? ⟨w.heap.size, 0, none⟩ = some (.int .i64 f) := (hJ.cell (p := ⟨w.heap.size, 0, none⟩) (show w.heap.size < _ by omega)).trans c0
        have c1 : ww.cell? ⟨w.heap.size, 1, none⟩ = some (.bool m) := (hJ.cell (p := ⟨w.heap.size, 1, none⟩) (show w.heap.size < _ by omega)).trans c1
        have c2 : ww.cell? ⟨w.heap.size, 2, none⟩ = some (.int .i64 b) := (hJ.cell (p := ⟨w.heap.size, 2, none⟩) (show w.heap.size < _ by omega)).trans c2
        have c3 : ww.cell? ⟨w.heap.size, 3, none⟩ = some (.int .i64 u) := (hJ.cell (p := ⟨w.heap.size, 3, none⟩) (show w.heap.size < _ by omega)).trans c3
        have c4 : ww.cell? ⟨w.heap.size, 4, none⟩ = some (.slice C ts.length d) := (hJ.cell (p := ⟨w.heap.size, 4, none⟩) (show w.heap.size < _ by omega)).trans c4
        have c5 : ww.cell? ⟨w.heap.size, 5, none⟩ = some (.slice A vs.length c) := (hJ.cell (p := ⟨w.heap.size, 5, none⟩) (show w.heap.size < _ by omega)).trans c5
        refine sl_val (.agg #[.int .i64 f, .bool m, .int .i64 b, .int .i64 u, .slice C ts.length d, .slice A vs.length c]) hJ ?_ rfl
        simp only [execOp, ev_tmp _ _ (show 2 < 60 by decide), ev_const, q2]
        simp [go_sem, c0, c1, c2, c3, c4, c5]
      · intro kk bb ff ww hkk hf hd hp hq hJ
        refine .inl ⟨wanted_none rfl, ?_⟩
        obtain ⟨p0, p1, -⟩ := hd
        have q25 : FEq (.agg #[.int .i64 f, .bool m, .int .i64 b, .int .i64 u, .slice C ts.length d, .slice A vs.length c]) (ff 25) ww := p0 rfl
        unfold FEq at q25
        refine sl_enter 40 #[.agg #[.int .i64 f, .bool m, .int .i64 b, .int .i64 u, .slice C ts.length d, .slice A vs.length c]] hJ ?_ ?_
        · simp only [execOp, ev_tmp _ _ (show 25 < 60 by decide), ev_const, q25, ev_func, resolve, List.map_toArray, List.map_cons, List.map_nil]
          simp [go_sem]
        · skip
          have h := retI_post (impl_SongTime f m b u C A d c ts vs ww (RdTempo.more (RdTempo.below HT.out hJ (Nat.le_refl _)) hJ.size) (RdVs.more (RdVs.below HV.out hJ (Nat.le_refl _)) hJ.size) hlt HLV.out)
          rw [HN2.out] at h
          exact h
      · intro kk bb ff ww hkk hf hd hp hq hJ
        refine .inl ⟨wanted_none rfl, ?_⟩
        obtain ⟨p0, -, -⟩ := hd
        have q26 : FEq (.int .i64 ((N2 : Int))) (ff 26) ww := p0 rfl
        unfold FEq at q26
        refine sl_val (.bool true) hJ ?_ rfl
        simp only [execOp, ev_tmp _ _ (show 26 < 60 by decide), ev_const, q26]
        simp [go_sem, hge]
      · intro kk bb ff ww hkk hf hd hp hq hJ
        refine .inl ⟨wanted_none rfl, ?_⟩
        obtain ⟨p0, p1, p2, p3, p4, -, -, -, -⟩ := hd
        have q : FEq (.string (stV (Lib.decDigits N2))) (ff 24) ww := p0 rfl
        exact sl_val (ff 24) hJ (by simp only [execOp, ev_tmp _ _ (show 24 < 60 by decide)]; rfl) q
      · intro kk bb ff ww hkk hf hd hp hq hJ
        refine .inl ⟨wanted_none rfl, ?_⟩
        obtain ⟨p0, p1, p2, p3, p4, p5, p6, p7, p8, -⟩ := hd
        have q : FEq (.bool true) (ff 27) ww := p0 rfl
        exact sl_val (ff 27) hJ (by simp only [execOp, ev_tmp _ _ (show 27 < 60 by decide)]; rfl) q
    intro ff w1 hf hd hJ
    have hfr : fr 60 ff = #[ff 0, ff 1, ff 2, ff 3, ff 4, ff 5, ff 6, ff 7, ff 8, ff 9, ff 10, ff 11, ff 12, ff 13, ff 14, ff 15, ff 16, ff 17, ff 18, ff 19, ff 20, ff 21, ff 22, ff 23, ff 24, ff 25, ff 26, ff 27, ff 28, ff 29, ff 30, ff 31, ff 32, ff 33, ff 34, ff 35, ff 36, ff 37, ff 38, ff 39, ff 40, ff 41, ff 42, ff 43, ff 44, ff 45, ff 46, ff 47, ff 48, ff 49, ff 50, ff 51, ff 52, ff 53, ff 54, ff 55, ff 56, ff 57, ff 58, ff 59] := rfl
    rw [hfr]; clear hfr
    dsimp only
    have q0_ := hf 0 (by decide)
    have q1_ := hf 1 (by decide)
    have q2_ := hf 2 (by decide)
    have q3_ := hf 3 (by decide)
    have q4_ : FEq (.string (stV (Lib.decDigits N2))) (ff 4) w1 := hd 6 (by decide)
    unfold FEq at q4_
    have q5_ : FEq (.bool true) (ff 5) w1 := hd 7 (by decide)
    unfold FEq at q5_
    have q6_ := hf 6 (by decide)
    have q7_ := hf 7 (by decide)
    have q8_ := hf 8 (by decide)
    have q9_ := hf 9 (by decide)
    have q10_ := hf 10 (by decide)
    have q11_ := hf 11 (by decide)
    have q12_ := hf 12 (by decide)
    have q13_ := hf 13 (by decide)
    have q14_ := hf 14 (by decide)
    have q15_ := hf 15 (by decide)
    have q16_ := hf 16 (by decide)
    have q17_ := hf 17 (by decide)
    have q18_ := hf 18 (by decide)
    have q19_ := hf 19 (by decide)
    have q20_ := hf 20 (by decide)
    have q21_ := hf 21 (by decide)
    have q22_ : FEq (.agg #[.int .i64 f, .bool m, .int .i64 b, .int .i64 u, .slice C ts.length d, .slice A vs.length c]) (ff 22) w1 := hd 0 (by decide)
    unfold FEq at q22_
    have q23_ : FEq (.int .i64 ((N2 : Int))) (ff 23) w1 := hd 1 (by decide)
    unfold FEq at q23_
    have q24_ : FEq (.string (stV (Lib.decDigits N2))) (ff 24) w1 := hd 2 (by decide)
    unfold FEq at q24_
    have q25_ : FEq (.agg #[.int .i64 f, .bool m, .int .i64 b, .int .i64 u, .slice C ts.length d, .slice A vs.length c]) (ff 25) w1 := hd 3 (by decide)
    unfold FEq at q25_
    have q26_ : FEq (.int .i64 ((N2 : Int))) (ff 26) w1 := hd 4 (by decide)
    unfold FEq at q26_
    have q27_ : FEq (.bool true) (ff 27) w1 := hd 5 (by decide)
    unfold FEq at q27_
    have q28_ := hf 28 (by decide)
    have q29_ := hf 29 (by decide)
    have q30_ := hf 30 (by decide)
    have q31_ := hf 31 (by decide)
    have q32_ := hf 32 (by decide)
    have q33_ := hf 33 (by decide)
    have q34_ := hf 34 (by decide)
    have q35_ := hf 35 (by decide)
    have q36_ := hf 36 (by decide)
    have q37_ := hf 37 (by decide)
    have q38_ := hf 38 (by decide)
    have q39_ := hf 39 (by decide)
    have q40_ := hf 40 (by decide)
    have q41_ := hf 41 (by decide)
    have q42_ := hf 42 (by decide)
    have q43_ := hf 43 (by decide)
    have q44_ := hf 44 (by decide)
    have q45_ := hf 45 (by decide)
    have q46_ := hf 46 (by decide)
    have q47_ := hf 47 (by decide)
    have q48_ := hf 48 (by decide)
    have q49_ := hf 49 (by decide)
    have q50_ := hf 50 (by decide)
    have q51_ := hf 51 (by decide)
    have q52_ := hf 52 (by decide)
    have q53_ := hf 53 (by decide)
    have q54_ := hf 54 (by decide)
    have q55_ := hf 55 (by decide)
    have q56_ := hf 56 (by decide)
    have q57_ := hf 57 (by decide)
    have q58_ := hf 58 (by decide)
    have q59_ := hf 59 (by decide)
    simp only [Array.getD_eq_getD_getElem?, List.getElem?_toArray, List.getElem?_cons_zero, List.getElem?_cons_succ, Option.getD_some] at q0_ q1_ q2_ q3_ q6_ q7_ q8_ q9_ q10_ q11_ q12_ q13_ q14_ q15_ q16_ q17_ q18_ q19_ q20_ q21_ q28_ q29_ q30_ q31_ q32_ q33_ q34_ q35_ q36_ q37_ q38_ q39_ q40_ q41_ q42_ q43_ q44_ q45_ q46_ q47_ q48_ q49_ q50_ q51_ q52_ q53_ q54_ q55_ q56_ q57_ q58_ q59_
    rw [q0_, q1_, q2_, q3_, q4_, q5_, q6_, q7_, q8_, q9_, q10_, q11_, q12_, q13_, q14_, q15_, q16_, q17_, q18_, q19_, q20_, q21_, q22_, q23_, q24_, q25_, q26_, q27_, q28_, q29_, q30_, q31_, q32_, q33_, q34_, q35_, q36_, q37_, q38_, q39_, q40_, q41_, q42_, q43_, q44_, q45_, q46_, q47_, q48_, q49_, q50_, q51_, q52_, q53_, q54_, q55_, q56_, q57_, q58_, q59_]
    clear q0_ q1_ q2_ q3_ q4_ q5_ q6_ q7_ q8_ q9_ q10_ q11_ q12_ q13_ q14_ q15_ q16_ q17_ q18_ q19_ q20_ q21_ q22_ q23_ q24_ q25_ q26_ q27_ q28_ q29_ q30_ q31_ q32_ q33_ q34_ q35_ q36_ q37_ q38_ q39_ q40_ q41_ q42_ q43_ q44_ q45_ q46_ q47_ q48_ q49_ q50_ q51_ q52_ q53_ q54_ q55_ q56_ q57_ q58_ q59_ hf hd
    clear ff
    have b_ : Below _ _ w1 := hJ
    clear hJ
    have HB9 := Lib.hid (HB.out.trans (b_.mono (by omega)))
    clear b_ c0 c1 c2 c3 c4 c5
    go_wp2_with fail
    go_ret2
    exact ⟨ret_la (by rw [HA.out]; rfl) (by rw [HA.out]; rfl), HB9.out⟩
  have p3 : ((stV l).toList == [116, 105, 109, 101]) = false := stV_no e3
  replace HLA := Lib.hid (HLA.out.trans (by rw [if_neg e1, if_neg e2, if_neg e3]))
  clear e1 e2 e3
  have hzl := stV_size l
  cases hp : Lib.hasPrefix l voiceW
  case false =>
    have HA : Hid (laO f b u ts vs l = none) := Lib.hid (by
      rw [HLA.out, if_neg ?_]
      intro h
      have := pre_iff.2 ⟨l.drop 6, by rw [← h.2.1, List.take_append_drop]⟩
      rw [hp] at this; cases this)
    have HC := Lib.hid (cut_no hp)
    clear HLA hp
    have HK := Lib.hid (Blk.new w 28 #[.int .i64 f, .bool m, .int .i64 b, .int .i64 u, .slice C ts.length d, .slice A vs.length c])
    have HT := Lib.hid (RdTempo.more (RdTempo.al hT (Nat.le_refl _) (.cells #[.int .i64 f, .bool m, .int .i64 b, .int .i64 u, .slice C ts.length d, .slice A vs.length c] 28)) (show w.heap.size ≤ (w.alloc (.cells #[.int .i64 f, .bool m, .int .i64 b, .int .i64 u, .slice C ts.length d, .slice A vs.length c] 28)).heap.size by simp))
    have HV := Lib.hid (RdVs.more (RdVs.al hV (Nat.le_refl _) (.cells #[.int .i64 f, .bool m, .int .i64 b, .int .i64 u, .slice C ts.length d, .slice A vs.length c] 28)) (show w.heap.size ≤ (w.alloc (.cells #[.int .i64 f, .bool m, .int .i64 b, .int .i64 u, .slice C ts.length d, .slice A vs.length c] 28)).heap.size by simp))
    have HB := Lib.hid ((Below.refl w.heap.size w).alloc (Nat.le_refl _) (.cells #[.int .i64 f, .bool m, .int .i64 b, .int .i64 u, .slice C ts.length d, .slice A vs.length c] 28))
    have z0 : w.heap.size + 1 ≤ (w.alloc (.cells #[.int .i64 f, .bool m, .int .i64 b, .int .i64 u, .slice C ts.length d, .slice A vs.length c] 28)).heap.size := by simp
    clear hT hV
    go_enter Tryz.func15, Tryz.ntmps15
    go_upto_region 1 with fail
    generalize w.alloc (.cells #[.int .i64 f, .bool m, .int .i64 b, .int .i64 u, .slice C ts.length d, .slice A vs.length c] 28) = w0 at *
    have c0 := HK.out.cell 0; have c1 := HK.out.cell 1; have c2 := HK.out.cell 2; have c3 := HK.out.cell 3; have c4 := HK.out.cell 4; have c5 := HK.out.cell 5
    obtain ⟨dg, hdg⟩ : ∃ d, d = l := ⟨_, rfl⟩
    subst hdg
    go_wp2_with fail
    refine (HC.out _).mono ?_
    rintro e w' ⟨rfl, rfl⟩
    go_upto_region 9 with fail
    generalize w0 = w1 at *
    refine regionL_draws rfl 60 [some 33, some 34, some 35, some 36, some 37, some 38, some 39, some 40, some 41, some 42, some 43, some 44, some 45, some 46, some 47, some 48, some 49, some 50, some 51]
      [FEq (.bool false), FEq (.bool true), FEq (.bool true), FEq (undef), FEq (undef), FEq (undef), FEq (.bool true), FEq (.bool true), FEq (undef), FEq (undef), FEq (undef), FEq (undef), FEq (undef), FEq (undef), FEq (undef), FEq (undef), FEq (undef), FEq (undef), FEq (.bool true)] (by kernel_rfl) (by kernel_rfl) ?_ ?_ ?_
    · exact stayLs_cons stayL_eq (stayLs_cons stayL_eq (stayLs_cons stayL_eq (stayLs_cons stayL_eq (stayLs_cons stayL_eq (stayLs_cons stayL_eq (stayLs_cons stayL_eq (stayLs_cons stayL_eq (stayLs_cons stayL_eq (stayLs_cons stayL_eq (stayLs_cons stayL_eq (stayLs_cons stayL_eq (stayLs_cons stayL_eq (stayLs_cons stayL_eq (stayLs_cons stayL_eq (stayLs_cons stayL_eq (stayLs_cons stayL_eq (stayLs_cons stayL_eq (stayLs_cons stayL_eq stayLs_nil))))))))))))))))))
    · refine AllI.cons ?_ (AllI.cons ?_ (AllI.cons ?_ (AllI.cons ?_ (AllI.cons ?_ (AllI.cons ?_ (AllI.cons ?_ (AllI.cons ?_ (AllI.cons ?_ (AllI.cons ?_ (AllI.cons ?_ (AllI.cons ?_ (AllI.cons ?_ (AllI.cons ?_ (AllI.cons ?_ (AllI.cons ?_ (AllI.cons ?_ (AllI.cons ?_ (AllI.cons ?_ trivial))))))))))))))))))
      · intro kk bb ff ww hkk hf hd hp hq hJ
        refine .inl ⟨wanted_none rfl, ?_⟩
        have q : FEq (.bool false) (ff 7) ww := (hf 7 (by decide)).trans rfl
        exact sl_val (ff 7) hJ (by simp only [execOp, ev_tmp _ _ (show 7 < 60 by decide)]; rfl) q
      · intro kk bb ff ww hkk hf hd hp hq hJ
        refine .inl ⟨wanted_none rfl, ?_⟩
        obtain ⟨p0, -⟩ := hd
        have q33 : FEq (.bool false) (ff 33) ww := p0 rfl
        unfold FEq at q33
        refine sl_val (.bool true) hJ ?_ rfl
        simp only [execOp, ev_tmp _ _ (show 33 < 60 by decide), ev_const, q33]
        simp [go_sem]
      · intro kk bb ff ww hkk hf hd hp hq hJ
        refine .inl ⟨wanted_none rfl, ?_⟩
        obtain ⟨p0, -⟩ := hd
        have q : FEq (.bool true) (ff 34) ww := p0 rfl
        exact sl_val (ff 34) hJ (by simp only [execOp, ev_tmp _ _ (show 34 < 60 by decide)]; rfl) q
      · intro kk bb ff ww hkk hf hd hp hq hJ
        obtain ⟨p0, -⟩ := hd
        have qg : FEq (.bool true) (ff 35) ww := p0 rfl
        exact .inr ⟨(wanted_off (b := true) (want := false) (j := 2) (d := 35) qg (by decide) rfl rfl rfl), Below.refl _ _, hJ, rfl⟩
      · intro kk bb ff ww hkk hf hd hp hq hJ
        obtain ⟨p0, p1, -⟩ := hd
        have qg : FEq (.bool true) (ff 35) ww := p1 rfl
        exact .inr ⟨(wanted_off (b := true) (want := false) (j := 2) (d := 35) qg (by decide) rfl rfl rfl), Below.refl _ _, hJ, rfl⟩
      · intro kk bb ff ww hkk hf hd hp hq hJ
        obtain ⟨p0, p1, -⟩ := hd
        have qg : FEq (.bool true) (ff 35) ww := p1 rfl
        exact .inr ⟨(wanted_off (b := true) (want := false) (j := 2) (d := 35) qg (by decide) rfl rfl rfl), Below.refl _ _, hJ, rfl⟩
      · intro kk bb ff ww hkk hf hd hp hq hJ
        refine .inl ⟨wanted_none rfl, ?_⟩
        obtain ⟨p0, p1, -⟩ := hd
        have q35 : FEq (.bool true) (ff 35) ww := p0 rfl
        unfold FEq at q35
        refine sl_val (.bool true) hJ ?_ rfl
        simp only [execOp, ev_tmp _ _ (show 35 < 60 by decide), ev_tmp _ _ (show 38 < 60 by decide), ev_const, q35]
        simp [go_sem]
      · intro kk bb ff ww hkk hf hd hp hq hJ
        refine .inl ⟨wanted_none rfl, ?_⟩
        obtain ⟨p0, p1, -⟩ := hd
        have q : FEq (.bool true) (ff 39) ww := p0 rfl
        exact sl_val (ff 39) hJ (by simp only [execOp, ev_tmp _ _ (show 39 < 60 by decide)]; rfl) q
      · intro kk bb ff ww hkk hf hd hp hq hJ
        obtain ⟨p0, -⟩ := hd
        have qg : FEq (.bool true) (ff 40) ww := p0 rfl
        exact .inr ⟨(wanted_off (b := true) (want := false) (j := 7) (d := 40) qg (by decide) rfl rfl rfl), Below.refl _ _, hJ, rfl⟩
      · intro kk bb ff ww hkk hf hd hp hq hJ
        obtain ⟨p0, p1, -⟩ := hd
        have qg : FEq (.bool true) (ff 40) ww := p1 rfl
        exact .inr ⟨(wanted_off (b := true) (want := false) (j := 7) (d := 40) qg (by decide) rfl rfl rfl), Below.refl _ _, hJ, rfl⟩
      · intro kk bb ff ww hkk hf hd hp hq hJ
        obtain ⟨p0, p1, -⟩ := hd
        have qg : FEq (.bool true) (ff 40) ww := p1 rfl
        exact .inr ⟨(wanted_off (b := true) (want := false) (j := 7) (d := 40) qg (by decide) rfl rfl rfl), Below.refl _ _, hJ, rfl⟩
      · intro kk bb ff ww hkk hf hd hp hq hJ
        obtain ⟨p0, p1, -⟩ := hd
        have qg : FEq (.bool true) (ff 40) ww := p1 rfl
        exact .inr ⟨(wanted_off (b := true) (want := false) (j := 7) (d := 40) qg (by decide) rfl rfl rfl), Below.refl _ _, hJ, rfl⟩
      · intro kk bb ff ww hkk hf hd hp hq hJ
        obtain ⟨p0, -⟩ := hd
        have qg : FEq (.bool true) (ff 40) ww := p0 rfl
        exact .inr ⟨(wanted_off (b := true) (want := false) (j := 7) (d := 40) qg (by decide) rfl rfl rfl), Below.refl _ _, hJ, rfl⟩
      · intro kk bb ff ww hkk hf hd hp hq hJ
        obtain ⟨p0, p1, -⟩ := hd
        have qg : FEq (.bool true) (ff 40) ww := p1 rfl
        exact .inr ⟨(wanted_off (b := true) (want := false) (j := 7) (d := 40) qg (by decide) rfl rfl rfl), Below.refl _ _, hJ, rfl⟩
      · intro kk bb ff ww hkk hf hd hp hq hJ
        obtain ⟨p0, p1, -⟩ := hd
        have qg : FEq (.bool true) (ff 40) ww := p1 rfl
        exact .inr ⟨(wanted_off (b := true) (want := false) (j := 7) (d := 40) qg (by decide) rfl rfl rfl), Below.refl _ _, hJ, rfl⟩
      · intro kk bb ff ww hkk hf hd hp hq hJ
        obtain ⟨p0, p1, -⟩ := hd
        have qg : FEq (.bool true) (ff 40) ww := p1 rfl
        exact .inr ⟨(wanted_off (b := true) (want := false) (j := 7) (d := 40) qg (by decide) rfl rfl rfl), Below.refl _ _, hJ, rfl⟩
      · intro kk bb ff ww hkk hf hd hp hq hJ
        obtain ⟨p0, p1, p2, p3, -⟩ := hd
        have qg : FEq (.bool true) (ff 40) ww := p2 rfl
        exact .inr ⟨(wanted_off (b := true) (want := false) (j := 7) (d := 40) qg (by decide) rfl rfl rfl), Below.refl _ _, hJ, rfl⟩
      · intro kk bb ff ww hkk hf hd hp hq hJ
        obtain ⟨p0, p1, -⟩ := hd
        have qg : FEq (.bool true) (ff 40) ww := p1 rfl
        exact .inr ⟨(wanted_off (b := true) (want := false) (j := 7) (d := 40) qg (by decide) rfl rfl rfl), Below.refl _ _, hJ, rfl⟩
      · intro kk bb ff ww hkk hf hd hp hq hJ
        refine .inl ⟨wanted_none rfl, ?_⟩
        obtain ⟨p0, p1, -⟩ := hd
        have q40 : FEq (.bool true) (ff 40) ww := p0 rfl
        unfold FEq at q40
        refine sl_val (.bool true) hJ ?_ rfl
        simp only [execOp, ev_tmp _ _ (show 40 < 60 by decide), ev_tmp _ _ (show 50 < 60 by decide), ev_const, q40]
        simp [go_sem]
    intro ff w2 hf hd hJ
    have hfr : fr 60 ff = #[ff 0, ff 1, ff 2, ff 3, ff 4, ff 5, ff 6, ff 7, ff 8, ff 9, ff 10, ff 11, ff 12, ff 13, ff 14, ff 15, ff 16, ff 17, ff 18, ff 19, ff 20, ff 21, ff 22, ff 23, ff 24, ff 25, ff 26, ff 27, ff 28, ff 29, ff 30, ff 31, ff 32, ff 33, ff 34, ff 35, ff 36, ff 37, ff 38, ff 39, ff 40, ff 41, ff 42, ff 43, ff 44, ff 45, ff 46, ff 47, ff 48, ff 49, ff 50, ff 51, ff 52, ff 53, ff 54, ff 55, ff 56, ff 57, ff 58, ff 59] := rfl
    rw [hfr]; clear hfr
    dsimp only
    have q0_ := hf 0 (by decide)
    have q1_ := hf 1 (by decide)
    have q2_ := hf 2 (by decide)
    have q3_ := hf 3 (by decide)
    have q4_ := hf 4 (by decide)
    have q5_ := hf 5 (by decide)
    have q6_ := hf 6 (by decide)
    have q7_ := hf 7 (by decide)
    have q8_ := hf 8 (by decide)
    have q9_ := hf 9 (by decide)
    have q10_ := hf 10 (by decide)
    have q11_ := hf 11 (by decide)
    have q12_ := hf 12 (by decide)
    have q13_ := hf 13 (by decide)
    have q14_ := hf 14 (by decide)
    have q15_ := hf 15 (by decide)
    have q16_ := hf 16 (by decide)
    have q17_ := hf 17 (by decide)
    have q18_ := hf 18 (by decide)
    have q19_ := hf 19 (by decide)
    have q20_ := hf 20 (by decide)
    have q21_ := hf 21 (by decide)
    have q22_ := hf 22 (by decide)
    have q23_ := hf 23 (by decide)
    have q24_ := hf 24 (by decide)
    have q25_ := hf 25 (by decide)
    have q26_ := hf 26 (by decide)
    have q27_ := hf 27 (by decide)
    have q28_ := hf 28 (by decide)
    have q29_ := hf 29 (by decide)
    have q30_ := hf 30 (by decide)
    have q31_ := hf 31 (by decide)
    have q32_ := hf 32 (by decide)
    have q33_ : FEq (.bool false) (ff 33) w2 := hd 0 (by decide)
    unfold FEq at q33_
    have q34_ : FEq (.bool true) (ff 34) w2 := hd 1 (by decide)
    unfold FEq at q34_
    have q35_ : FEq (.bool true) (ff 35) w2 := hd 2 (by decide)
    unfold FEq at q35_
    have q36_ : FEq (undef) (ff 36) w2 := hd 3 (by decide)
    unfold FEq at q36_
    have q37_ : FEq (undef) (ff 37) w2 := hd 4 (by decide)
    unfold FEq at q37_
    have q38_ : FEq (undef) (ff 38) w2 := hd 5 (by decide)
    unfold FEq at q38_
    have q39_ : FEq (.bool true) (ff 39) w2 := hd 6 (by decide)
    unfold FEq at q39_
    have q40_ : FEq (.bool true) (ff 40) w2 := hd 7 (by decide)
    unfold FEq at q40_
    have q41_ : FEq (undef) (ff 41) w2 := hd 8 (by decide)
    unfold FEq at q41_
    have q42_ : FEq (undef) (ff 42) w2 := hd 9 (by decide)
    unfold FEq at q42_
    have q43_ : FEq (undef) (ff 43) w2 := hd 10 (by decide)
    unfold FEq at q43_
    have q44_ : FEq (undef) (ff 44) w2 := hd 11 (by decide)
    unfold FEq at q44_
    have q45_ : FEq (undef) (ff 45) w2 := hd 12 (by decide)
    unfold FEq at q45_
    have q46_ : FEq (undef) (ff 46) w2 := hd 13 (by decide)
    unfold FEq at q46_
    have q47_ : FEq (undef) (ff 47) w2 := hd 14 (by decide)
    unfold FEq at q47_
    have q48_ : FEq (undef) (ff 48) w2 := hd 15 (by decide)
    unfold FEq at q48_
    have q49_ : FEq (undef) (ff 49) w2 := hd 16 (by decide)
    unfold FEq at q49_
    have q50_ : FEq (undef) (ff 50) w2 := hd 17 (by decide)
    unfold FEq at q50_
    have q51_ : FEq (.bool true) (ff 51) w2 := hd 18 (by decide)
    unfold FEq at q51_
    have q52_ := hf 52 (by decide)
    have q53_ := hf 53 (by decide)
    have q54_ := hf 54 (by decide)
    have q55_ := hf 55 (by decide)
    have q56_ := hf 56 (by decide)
    have q57_ := hf 57 (by decide)
    have q58_ := hf 58 (by decide)
    have q59_ := hf 59 (by decide)
    simp only [Array.getD_eq_getD_getElem?, List.getElem?_toArray, List.getElem?_cons_zero, List.getElem?_cons_succ, Option.getD_some] at q0_ q1_ q2_ q3_ q4_ q5_ q6_ q7_ q8_ q9_ q10_ q11_ q12_ q13_ q14_ q15_ q16_ q17_ q18_ q19_ q20_ q21_ q22_ q23_ q24_ q25_ q26_ q27_ q28_ q29_ q30_ q31_ q32_ q52_ q53_ q54_ q55_ q56_ q57_ q58_ q59_
    rw [q0_, q1_, q2_, q3_, q4_, q5_, q6_, q7_, q8_, q9_, q10_, q11_, q12_, q13_, q14_, q15_, q16_, q17_, q18_, q19_, q20_, q21_, q22_, q23_, q24_, q25_, q26_, q27_, q28_, q29_, q30_, q31_, q32_, q33_, q34_, q35_, q36_, q37_, q38_, q39_, q40_, q41_, q42_, q43_, q44_, q45_, q46_, q47_, q48_, q49_, q50_, q51_, q52_, q53_, q54_, q55_, q56_, q57_, q58_, q59_]
    clear q0_ q1_ q2_ q3_ q4_ q5_ q6_ q7_ q8_ q9_ q10_ q11_ q12_ q13_ q14_ q15_ q16_ q17_ q18_ q19_ q20_ q21_ q22_ q23_ q24_ q25_ q26_ q27_ q28_ q29_ q30_ q31_ q32_ q33_ q34_ q35_ q36_ q37_ q38_ q39_ q40_ q41_ q42_ q43_ q44_ q45_ q46_ q47_ q48_ q49_ q50_ q51_ q52_ q53_ q54_ q55_ q56_ q57_ q58_ q59_ hf hd
    clear ff
    have b_ : Below _ _ w2 := hJ
    clear hJ
    have HB9 := Lib.hid (HB.out.trans (b_.mono (by omega)))
    clear b_ c0 c1 c2 c3 c4 c5
    go_wp2_with fail
    go_ret2
    exact ⟨ret_la (by rw [HA.out]; rfl) (by rw [HA.out]; rfl), HB9.out⟩
  obtain ⟨dg, rfl⟩ := pre_iff.1 hp
  have HC := Lib.hid (cut_yes dg)
  clear hp
  have hdl : dg.length ≤ 1048576 := by rw [List.length_append] at hl; omega
  have hln7 : (voiceW ++ dg).length = dg.length + 6 := by rw [List.length_append]; exact Nat.add_comm _ _
  have hz1 := stV_size dg
  by_cases e4 : dg.length = 1
  case neg =>
    have HA : Hid (laO f b u ts vs (voiceW ++ dg) = none) := Lib.hid (by rw [HLA.out, if_neg (fun h => e4 (by omega))])
    have hln : ((dg.length : Int) != 1) = true := by simp; omega
    clear HLA
    generalize voiceW ++ dg = l at *
    have HK := Lib.hid (Blk.new w 28 #[.int .i64 f, .bool m, .int .i64 b, .int .i64 u, .slice C ts.length d, .slice A vs.length c])
    have HT := Lib.hid (RdTempo.more (RdTempo.al hT (Nat.le_refl _) (.cells #[.int .i64 f, .bool m, .int .i64 b, .int .i64 u, .slice C ts.length d, .slice A vs.length c] 28)) (show w.heap.size ≤ (w.alloc (.cells #[.int .i64 f, .bool m, .int .i64 b, .int .i64 u, .slice C ts.length d, .slice A vs.length c] 28)).heap.size by simp))
    have HV := Lib.hid (RdVs.more (RdVs.al hV (Nat.le_refl _) (.cells #[.int .i64 f, .bool m, .int .i64 b, .int .i64 u, .slice C ts.length d, .slice A vs.length c] 28)) (show w.heap.size ≤ (w.alloc (.cells #[.int .i64 f, .bool m, .int .i64 b, .int .i64 u, .slice C ts.length d, .slice A vs.length c] 28)).heap.size by simp))
    have HB := Lib.hid ((Below.refl w.heap.size w).alloc (Nat.le_refl _) (.cells #[.int .i64 f, .bool m, .int .i64 b, .int .i64 u, .slice C ts.length d, .slice A vs.length c] 28))
    have z0 : w.heap.size + 1 ≤ (w.alloc (.cells #[.int .i64 f, .bool m, .int .i64 b, .int .i64 u, .slice C ts.length d, .slice A vs.length c] 28)).heap.size := by simp
    clear hT hV
    go_enter Tryz.func15, Tryz.ntmps15
    go_upto_region 1 with fail
    generalize w.alloc (.cells #[.int .i64 f, .bool m, .int .i64 b, .int .i64 u, .slice C ts.length d, .slice A vs.length c] 28) = w0 at *
    have c0 := HK.out.cell 0; have c1 := HK.out.cell 1; have c2 := HK.out.cell 2; have c3 := HK.out.cell 3; have c4 := HK.out.cell 4; have c5 := HK.out.cell 5
    go_wp2_with fail
    refine (HC.out _).mono ?_
    rintro e w' ⟨rfl, rfl⟩
    go_upto_region 9 with fail
    generalize w0 = w1 at *
    refine regionL_draws rfl 60 [some 33, some 34, some 35, some 36, some 37, some 38, some 39, some 40, some 41, some 42, some 43, some 44, some 45, some 46, some 47, some 48, some 49, some 50, some 51]
      [FEq (.bool true), FEq (.bool false), FEq (.bool false), FEq (.string (stV dg)), FEq (.int .i64 (((dg.length : Nat) : Int))), FEq (.bool true), FEq (.bool true), FEq (.bool true), FEq (undef), FEq (undef), FEq (undef), FEq (undef), FEq (undef), FEq (undef), FEq (undef), FEq (undef), FEq (undef), FEq (undef), FEq (.bool true)] (by kernel_rfl) (by kernel_rfl) ?_ ?_ ?_
    · exact stayLs_cons stayL_eq (stayLs_cons stayL_eq (stayLs_cons stayL_eq (stayLs_cons stayL_eq (stayLs_cons stayL_eq (stayLs_cons stayL_eq (stayLs_cons stayL_eq (stayLs_cons stayL_eq (stayLs_cons stayL_eq (stayLs_cons stayL_eq (stayLs_cons stayL_eq (stayLs_cons stayL_eq (stayLs_cons stayL_eq (stayLs_cons stayL_eq (stayLs_cons stayL_eq (stayLs_cons stayL_eq (stayLs_cons stayL_eq (stayLs_cons stayL_eq (stayLs_cons stayL_eq stayLs_nil))))))))))))))))))
    · refine AllI.cons ?_ (AllI.cons ?_ (AllI.cons ?_ (AllI.cons ?_ (AllI.cons ?_ (AllI.cons ?_ (AllI.cons ?_ (AllI.cons ?_ (AllI.cons ?_ (AllI.cons ?_ (AllI.cons ?_ (AllI.cons ?_ (AllI.cons ?_ (AllI.cons ?_ (AllI.cons ?_ (AllI.cons ?_ (AllI.cons ?_ (AllI.cons ?_ (AllI.cons ?_ trivial))))))))))))))))))
      · intro kk bb ff ww hkk hf hd hp hq hJ
        refine .inl ⟨wanted_none rfl, ?_⟩
        have q : FEq (.bool true) (ff 7) ww := (hf 7 (by decide)).trans rfl
        exact sl_val (ff 7) hJ (by simp only [execOp, ev_tmp _ _ (show 7 < 60 by decide)]; rfl) q
      · intro kk bb ff ww hkk hf hd hp hq hJ
        refine .inl ⟨wanted_none rfl, ?_⟩
        obtain ⟨p0, -⟩ := hd
        have q33 : FEq (.bool true) (ff 33) ww := p0 rfl
        unfold FEq at q33
        refine sl_val (.bool false) hJ ?_ rfl
        simp only [execOp, ev_tmp _ _ (show 33 < 60 by decide), ev_const, q33]
        simp [go_sem]
      · intro kk bb ff ww hkk hf hd hp hq hJ
        refine .inl ⟨wanted_none rfl, ?_⟩
        obtain ⟨p0, -⟩ := hd
        have q : FEq (.bool false) (ff 34) ww := p0 rfl
        exact sl_val (ff 34) hJ (by simp only [execOp, ev_tmp _ _ (show 34 < 60 by decide)]; rfl) q
      · intro kk bb ff ww hkk hf hd hp hq hJ
        obtain ⟨p0, -⟩ := hd
        have qg : FEq (.bool false) (ff 35) ww := p0 rfl
        refine .inl ⟨(wanted_on (b := false) (want := false) (j := 2) (d := 35) qg (by decide) rfl rfl rfl), ?_⟩
        have q : FEq (.string (stV dg)) (ff 6) ww := (hf 6 (by decide)).trans rfl
        exact sl_val (ff 6) hJ (by simp only [execOp, ev_tmp _ _ (show 6 < 60 by decide)]; rfl) q
      · intro kk bb ff ww hkk hf hd hp hq hJ
        obtain ⟨p0, p1, -⟩ := hd
        have qg : FEq (.bool false) (ff 35) ww := p1 rfl
        refine .inl ⟨(wanted_on (b := false) (want := false) (j := 2) (d := 35) qg (by decide) rfl rfl rfl), ?_⟩
        have q36 : FEq (.string (stV dg)) (ff 36) ww := p0 rfl
        unfold FEq at q36
        refine sl_val (.int .i64 (((dg.length : Nat) : Int))) hJ ?_ rfl
        simp only [execOp, ev_tmp _ _ (show 36 < 60 by decide), ev_const, q36, List.map_toArray, List.map_cons, List.map_nil, resolve]
        simp [go_sem, hz1]
      · intro kk bb ff ww hkk hf hd hp hq hJ
        obtain ⟨p0, p1, -⟩ := hd
        have qg : FEq (.bool false) (ff 35) ww := p1 rfl
        refine .inl ⟨(wanted_on (b := false) (want := false) (j := 2) (d := 35) qg (by decide) rfl rfl rfl), ?_⟩
        have q37 : FEq (.int .i64 (((dg.length : Nat) : Int))) (ff 37) ww := p0 rfl
        unfold FEq at q37
        refine sl_val (.bool true) hJ ?_ rfl
        simp only [execOp, ev_tmp _ _ (show 37 < 60 by decide), ev_const, q37]
        simp [go_sem, hln]
      · intro kk bb ff ww hkk hf hd hp hq hJ
        refine .inl ⟨wanted_none rfl, ?_⟩
        obtain ⟨p0, p1, -⟩ := hd
        have q35 : FEq (.bool false) (ff 35) ww := p0 rfl
        unfold FEq at q35
        have q38 : FEq (.bool true) (ff 38) ww := p1 rfl
        unfold FEq at q38
        refine sl_val (.bool true) hJ ?_ rfl
        simp only [execOp, ev_tmp _ _ (show 35 < 60 by decide), ev_tmp _ _ (show 38 < 60 by decide), ev_const, q35, q38]
        simp [go_sem]
      · intro kk bb ff ww hkk hf hd hp hq hJ
        refine .inl ⟨wanted_none rfl, ?_⟩
        obtain ⟨p0, p1, -⟩ := hd
        have q : FEq (.bool true) (ff 39) ww := p0 rfl
        exact sl_val (ff 39) hJ (by simp only [execOp, ev_tmp _ _ (show 39 < 60 by decide)]; rfl) q
      · intro kk bb ff ww hkk hf hd hp hq hJ
        obtain ⟨p0, -⟩ := hd
        have qg : FEq (.bool true) (ff 40) ww := p0 rfl
        exact .inr ⟨(wanted_off (b := true) (want := false) (j := 7) (d := 40) qg (by decide) rfl rfl rfl), Below.refl _ _, hJ, rfl⟩
      · intro kk bb ff ww hkk hf hd hp hq hJ
        obtain ⟨p0, p1, -⟩ := hd
        have qg : FEq (.bool true) (ff 40) ww := p1 rfl
        exact .inr ⟨(wanted_off (b := true) (want := false) (j := 7) (d := 40) qg (by decide) rfl rfl rfl), Below.refl _ _, hJ, rfl⟩
      · intro kk bb ff ww hkk hf hd hp hq hJ
        obtain ⟨p0, p1, -⟩ := hd
        have qg : FEq (.bool true) (ff 40) ww := p1 rfl
        exact .inr ⟨(wanted_off (b := true) (want := false) (j := 7) (d := 40) qg (by decide) rfl rfl rfl), Below.refl _ _, hJ, rfl⟩
      · intro kk bb ff ww hkk hf hd hp hq hJ
        obtain ⟨p0, p1, -⟩ := hd
        have qg : FEq (.bool true) (ff 40) ww := p1 rfl
        exact .inr ⟨(wanted_off (b := true) (want := false) (j := 7) (d := 40) qg (by decide) rfl rfl rfl), Below.refl _ _, hJ, rfl⟩
      · intro kk bb ff ww hkk hf hd hp hq hJ
        obtain ⟨p0, -⟩ := hd
        have qg : FEq (.bool true) (ff 40) ww := p0 rfl
        exact .inr ⟨(wanted_off (b := true) (want := false) (j := 7) (d := 40) qg (by decide) rfl rfl rfl), Below.refl _ _, hJ, rfl⟩
      · intro kk bb ff ww hkk hf hd hp hq hJ
        obtain ⟨p0, p1, -⟩ := hd
        have qg : FEq (.bool true) (ff 40) ww := p1 rfl
        exact .inr ⟨(wanted_off (b := true) (want := false) (j := 7) (d := 40) qg (by decide) rfl rfl rfl), Below.refl _ _, hJ, rfl⟩
      · intro kk bb ff ww hkk hf hd hp hq hJ
        obtain ⟨p0, p1, -⟩ := hd
        have qg : FEq (.bool true) (ff 40) ww := p1 rfl
        exact .inr ⟨(wanted_off (b := true) (want := false) (j := 7) (d := 40) qg (by decide) rfl rfl rfl), Below.refl _ _, hJ, rfl⟩
      · intro kk bb ff ww hkk hf hd hp hq hJ
        obtain ⟨p0, p1, -⟩ := hd
        have qg : FEq (.bool true) (ff 40) ww := p1 rfl
        exact .inr ⟨(wanted_off (b := true) (want := false) (j := 7) (d := 40) qg (by decide) rfl rfl rfl), Below.refl _ _, hJ, rfl⟩
      · intro kk bb ff ww hkk hf hd hp hq hJ
        obtain ⟨p0, p1, p2, p3, -⟩ := hd
        have qg : FEq (.bool true) (ff 40) ww := p2 rfl
        exact .inr ⟨(wanted_off (b := true) (want := false) (j := 7) (d := 40) qg (by decide) rfl rfl rfl), Below.refl _ _, hJ, rfl⟩
      · intro kk bb ff ww hkk hf hd hp hq hJ
        obtain ⟨p0, p1, -⟩ := hd
        have qg : FEq (.bool true) (ff 40) ww := p1 rfl
        exact .inr ⟨(wanted_off (b := true) (want := false) (j := 7) (d := 40) qg (by decide) rfl rfl rfl), Below.refl _ _, hJ, rfl⟩
      · intro kk bb ff ww hkk hf hd hp hq hJ
        refine .inl ⟨wanted_none rfl, ?_⟩
        obtain ⟨p0, p1, -⟩ := hd
        have q40 : FEq (.bool true) (ff 40) ww := p0 rfl
        unfold FEq at q40
        refine sl_val (.bool true) hJ ?_ rfl
        simp only [execOp, ev_tmp _ _ (show 40 < 60 by decide), ev_tmp _ _ (show 50 < 60 by decide), ev_const, q40]
        simp [go_sem]
    intro ff w2 hf hd hJ
    have hfr : fr 60 ff = #[ff 0, ff 1, ff 2, ff 3, ff 4, ff 5, ff 6, ff 7, ff 8, ff 9, ff 10, ff 11, ff 12, ff 13, ff 14, ff 15, ff 16, ff 17, ff 18, ff 19, ff 20, ff 21, ff 22, ff 23, ff 24, ff 25, ff 26, ff 27, ff 28, ff 29, ff 30, ff 31, ff 32, ff 33, ff 34, ff 35, ff 36, ff 37, ff 38, ff 39, ff 40, ff 41, ff 42, ff 43, ff 44, ff 45, ff 46, ff 47, ff 48, ff 49, ff 50, ff 51, ff 52, ff 53, ff 54, ff 55, ff 56, ff 57, ff 58, ff 59] := rfl
    rw [hfr]; clear hfr
    dsimp only
    have q0_ := hf 0 (by decide)
    have q1_ := hf 1 (by decide)
    have q2_ := hf 2 (by decide)
    have q3_ := hf 3 (by decide)
    have q4_ := hf 4 (by decide)
    have q5_ := hf 5 (by decide)
    have q6_ := hf 6 (by decide)
    have q7_ := hf 7 (by decide)
    have q8_ := hf 8 (by decide)
    have q9_ := hf 9 (by decide)
    have q10_ := hf 10 (by decide)
    have q11_ := hf 11 (by decide)
    have q12_ := hf 12 (by decide)
    have q13_ := hf 13 (by decide)
    have q14_ := hf 14 (by decide)
    have q15_ := hf 15 (by decide)
    have q16_ := hf 16 (by decide)
    have q17_ := hf 17 (by decide)
    have q18_ := hf 18 (by decide)
    have q19_ := hf 19 (by decide)
    have q20_ := hf 20 (by decide)
    have q21_ := hf 21 (by decide)
    have q22_ := hf 22 (by decide)
    have q23_ := hf 23 (by decide)
    have q24_ := hf 24 (by decide)
    have q25_ := hf 25 (by decide)
    have q26_ := hf 26 (by decide)
    have q27_ := hf 27 (by decide)
    have q28_ := hf 28 (by decide)
    have q29_ := hf 29 (by decide)
    have q30_ := hf 30 (by decide)
    have q31_ := hf 31 (by decide)
    have q32_ := hf 32 (by decide)
    have q33_ : FEq (.bool true) (ff 33) w2 := hd 0 (by decide)
    unfold FEq at q33_
    have q34_ : FEq (.bool false) (ff 34) w2 := hd 1 (by decide)
    unfold FEq at q34_
    have q35_ : FEq (.bool false) (ff 35) w2 := hd 2 (by decide)
    unfold FEq at q35_
    have q36_ : FEq (.string (stV dg)) (ff 36) w2 := hd 3 (by decide)
    unfold FEq at q36_
    have q37_ : FEq (.int .i64 (((dg.length : Nat) : Int))) (ff 37) w2 := hd 4 (by decide)
    unfold FEq at q37_
    have q38_ : FEq (.bool true) (ff 38) w2 := hd 5 (by decide)
    unfold FEq at q38_
    have q39_ : FEq (.bool true) (ff 39) w2 := hd 6 (by decide)
    unfold FEq at q39_
    have q40_ : FEq (.bool true) (ff 40) w2 := hd 7 (by decide)
    unfold FEq at q40_
    have q41_ : FEq (undef) (ff 41) w2 := hd 8 (by decide)
    unfold FEq at q41_
    have q42_ : FEq (undef) (ff 42) w2 := hd 9 (by decide)
    unfold FEq at q42_
    have q43_ : FEq (undef) (ff 43) w2 := hd 10 (by decide)
    unfold FEq at q43_
    have q44_ : FEq (undef) (ff 44) w2 := hd 11 (by decide)
    unfold FEq at q44_
    have q45_ : FEq (undef) (ff 45) w2 := hd 12 (by decide)
    unfold FEq at q45_
    have q46_ : FEq (undef) (ff 46) w2 := hd 13 (by decide)
    unfold FEq at q46_
    have q47_ : FEq (undef) (ff 47) w2 := hd 14 (by decide)
    unfold FEq at q47_
    have q48_ : FEq (undef) (ff 48) w2 := hd 15 (by decide)
    unfold FEq at q48_
    have q49_ : FEq (undef) (ff 49) w2 := hd 16 (by decide)
    unfold FEq at q49_
    have q50_ : FEq (undef) (ff 50) w2 := hd 17 (by decide)
    unfold FEq at q50_
    have q51_ : FEq (.bool true) (ff 51) w2 := hd 18 (by decide)
    unfold FEq at q51_
    have q52_ := hf 52 (by decide)
    have q53_ := hf 53 (by decide)
    have q54_ := hf 54 (by decide)
    have q55_ := hf 55 (by decide)
    have q56_ := hf 56 (by decide)
    have q57_ := hf 57 (by decide)
    have q58_ := hf 58 (by decide)
    have q59_ := hf 59 (by decide)
    simp only [Array.getD_eq_getD_getElem?, List.getElem?_toArray, List.getElem?_cons_zero, List.getElem?_cons_succ, Option.getD_some] at q0_ q1_ q2_ q3_ q4_ q5_ q6_ q7_ q8_ q9_ q10_ q11_ q12_ q13_ q14_ q15_ q16_ q17_ q18_ q19_ q20_ q21_ q22_ q23_ q24_ q25_ q26_ q27_ q28_ q29_ q30_ q31_ q32_ q52_ q53_ q54_ q55_ q56_ q57_ q58_ q59_
    rw [q0_, q1_, q2_, q3_, q4_, q5_, q6_, q7_, q8_, q9_, q10_, q11_, q12_, q13_, q14_, q15_, q16_, q17_, q18_, q19_, q20_, q21_, q22_, q23_, q24_, q25_, q26_, q27_, q28_, q29_, q30_, q31_, q32_, q33_, q34_, q35_, q36_, q37_, q38_, q39_, q40_, q41_, q42_, q43_, q44_, q45_, q46_, q47_, q48_, q49_, q50_, q51_, q52_, q53_, q54_, q55_, q56_, q57_, q58_, q59_]
    clear q0_ q1_ q2_ q3_ q4_ q5_ q6_ q7_ q8_ q9_ q10_ q11_ q12_ q13_ q14_ q15_ q16_ q17_ q18_ q19_ q20_ q21_ q22_ q23_ q24_ q25_ q26_ q27_ q28_ q29_ q30_ q31_ q32_ q33_ q34_ q35_ q36_ q37_ q38_ q39_ q40_ q41_ q42_ q43_ q44_ q45_ q46_ q47_ q48_ q49_ q50_ q51_ q52_ q53_ q54_ q55_ q56_ q57_ q58_ q59_ hf hd
    clear ff
    have b_ : Below _ _ w2 := hJ
    clear hJ
    have HB9 := Lib.hid (HB.out.trans (b_.mono (by omega)))
    clear b_ c0 c1 c2 c3 c4 c5
    go_wp2_with fail
    go_ret2
    exact ⟨ret_la (by rw [HA.out]; rfl) (by rw [HA.out]; rfl), HB9.out⟩
  have hln : ((dg.length : Int) != 1) = false := by simp [e4]
  obtain ⟨g0, rfl⟩ : ∃ g, dg = [g] := List.length_eq_one_iff.1 e4
  have hgn : lnV (voiceW ++ [g0]) = (g0.toNat : Int) - 48 := rfl
  have HLB : Hid (laO f b u ts vs (voiceW ++ [g0]) = if inR ((g0.toNat : Int) - 48) 0 ((vs.length : Int) - 1) = true then some (vxL (glV vs ((g0.toNat : Int) - 48).toNat)) else none) := Lib.hid (HLA.out.trans (by rw [hgn]; simp only [show (voiceW ++ [g0]).length = 7 from rfl, show (voiceW ++ [g0]).take 6 = voiceW from rfl, true_and]))
  have hb : g0.toNat < 256 := g0.toNat_lt
  clear HLA hgn hln7 e4
  generalize voiceW ++ [g0] = l at *
  generalize hdg : [g0] = dg at *
  have hg : ∀ h : 0 < (stV dg).size, (stV dg)[0]'h = g0 := fun h => by subst hdg; rfl
  have hl1 : (dg.length : Int) = 1 := by rw [← hdg]; rfl
  have hne : dg ≠ [] := by rw [← hdg]; simp
  have hl2 : (0 : Int) < (dg.length : Int) := by omega
  clear hdg
  have hcv : IntKind.i64.wrap (g0.toNat : Int) = (g0.toNat : Int) := IntWalk.i64_in _ (by omega)
  have hsb : IntKind.i64.wrap ((g0.toNat : Int) - 48) = (g0.toNat : Int) - 48 := IntWalk.i64_in _ (by omega)
  have hsv : IntKind.i64.wrap ((vs.length : Int) - 1) = (vs.length : Int) - 1 := IntWalk.i64_in _ (by omega)
  cases e6 : inR ((g0.toNat : Int) - 48) 0 ((vs.length : Int) - 1)
  case false =>
    have HA : Hid (laO f b u ts vs l = none) := Lib.hid (by rw [HLB.out, if_neg (by rw [e6]; decide)])
    have HE := Lib.hid e6
    clear HLB e6
    have HK := Lib.hid (Blk.new w 28 #[.int .i64 f, .bool m, .int .i64 b, .int .i64 u, .slice C ts.length d, .slice A vs.length c])
    have HT := Lib.hid (RdTempo.more (RdTempo.al hT (Nat.le_refl _) (.cells #[.int .i64 f, .bool m, .int .i64 b, .int .i64 u, .slice C ts.length d, .slice A vs.length c] 28)) (show w.heap.size ≤ (w.alloc (.cells #[.int .i64 f, .bool m, .int .i64 b, .int .i64 u, .slice C ts.length d, .slice A vs.length c] 28)).heap.size by simp))
    have HV := Lib.hid (RdVs.more (RdVs.al hV (Nat.le_refl _) (.cells #[.int .i64 f, .bool m, .int .i64 b, .int .i64 u, .slice C ts.length d, .slice A vs.length c] 28)) (show w.heap.size ≤ (w.alloc (.cells #[.int .i64 f, .bool m, .int .i64 b, .int .i64 u, .slice C ts.length d, .slice A vs.length c] 28)).heap.size by simp))
    have HB := Lib.hid ((Below.refl w.heap.size w).alloc (Nat.le_refl _) (.cells #[.int .i64 f, .bool m, .int .i64 b, .int .i64 u, .slice C ts.length d, .slice A vs.length c] 28))
    have z0 : w.heap.size + 1 ≤ (w.alloc (.cells #[.int .i64 f, .bool m, .int .i64 b, .int .i64 u, .slice C ts.length d, .slice A vs.length c] 28)).heap.size := by simp
    clear hT hV
    go_enter Tryz.func15, Tryz.ntmps15
    go_upto_region 1 with fail
    generalize w.alloc (.cells #[.int .i64 f, .bool m, .int .i64 b, .int .i64 u, .slice C ts.length d, .slice A vs.length c] 28) = w0 at *
    have c0 := HK.out.cell 0; have c1 := HK.out.cell 1; have c2 := HK.out.cell 2; have c3 := HK.out.cell 3; have c4 := HK.out.cell 4; have c5 := HK.out.cell 5
    go_wp2_with fail
    refine (HC.out _).mono ?_
    rintro e w' ⟨rfl, rfl⟩
    go_upto_region 9 with fail
    generalize w0 = w1 at *
    refine regionL_draws rfl 60 [some 33, some 34, some 35, some 36, some 37, some 38, some 39, some 40, some 41, some 42, some 43, some 44, some 45, some 46, some 47, some 48, some 49, some 50, some 51]
      [FEq (.bool true), FEq (.bool false), FEq (.bool false), FEq (.string (stV dg)), FEq (.int .i64 (((dg.length : Nat) : Int))), FEq (.bool false), FEq (.bool false), FEq (.bool false), FEq (.string (stV dg)), FEq (.int .u8 (g0.toNat : Int)), FEq (.int .i64 ((g0.toNat : Int))), FEq (.int .i64 ((g0.toNat : Int) - 48)), FEq (.pointer (some ⟨w.heap.size, 5, none⟩)), FEq (.slice A vs.length c), FEq (.int .i64 (((vs.length : Nat) : Int))), FEq (.int .i64 ((vs.length : Int) - 1)), FEq (.bool false), FEq (.bool true), FEq (.bool true)] (by kernel_rfl) (by kernel_rfl) ?_ ?_ ?_
    · exact stayLs_cons stayL_eq (stayLs_cons stayL_eq (stayLs_cons stayL_eq (stayLs_cons stayL_eq (stayLs_cons stayL_eq (stayLs_cons stayL_eq (stayLs_cons stayL_eq (stayLs_cons stayL_eq (stayLs_cons stayL_eq (stayLs_cons stayL_eq (stayLs_cons stayL_eq (stayLs_cons stayL_eq (stayLs_cons stayL_eq (stayLs_cons stayL_eq (stayLs_cons stayL_eq (stayLs_cons stayL_eq (stayLs_cons stayL_eq (stayLs_cons stayL_eq (stayLs_cons stayL_eq stayLs_nil))))))))))))))))))
    · refine AllI.cons ?_ (AllI.cons ?_ (AllI.cons ?_ (AllI.cons ?_ (AllI.cons ?_ (AllI.cons ?_ (AllI.cons ?_ (AllI.cons ?_ (AllI.cons ?_ (AllI.cons ?_ (AllI.cons ?_ (AllI.cons ?_ (AllI.cons ?_ (AllI.cons ?_ (AllI.cons ?_ (AllI.cons ?_ (AllI.cons ?_ (AllI.cons ?_ (AllI.cons ?_ trivial))))))))))))))))))
      · intro kk bb ff ww hkk hf hd hp hq hJ
        refine .inl ⟨wanted_none rfl, ?_⟩
        have q : FEq (.bool true) (ff 7) ww := (hf 7 (by decide)).trans rfl
        exact sl_val (ff 7) hJ (by simp only [execOp, ev_tmp _ _ (show 7 < 60 by decide)]; rfl) q
      · intro kk bb ff ww hkk hf hd hp hq hJ
        refine .inl ⟨wanted_none rfl, ?_⟩
        obtain ⟨p0, -⟩ := hd
        have q33 : FEq (.bool true) (ff 33) ww := p0 rfl
        unfold FEq at q33
        refine sl_val (.bool false) hJ ?_ rfl
        simp only [execOp, ev_tmp _ _ (show 33 < 60 by decide), ev_const, q33]
        simp [go_sem]
      · intro kk bb ff ww hkk hf hd hp hq hJ
        refine .inl ⟨wanted_none rfl, ?_⟩
        obtain ⟨p0, -⟩ := hd
        have q : FEq (.bool false) (ff 34) ww := p0 rfl
        exact sl_val (ff 34) hJ (by simp only [execOp, ev_tmp _ _ (show 34 < 60 by decide)]; rfl) q
      · intro kk bb ff ww hkk hf hd hp hq hJ
        obtain ⟨p0, -⟩ := hd
        have qg : FEq (.bool false) (ff 35) ww := p0 rfl
        refine .inl ⟨(wanted_on (b := false) (want := false) (j := 2) (d := 35) qg (by decide) rfl rfl rfl), ?_⟩
        have q : FEq (.string (stV dg)) (ff 6) ww := (hf 6 (by decide)).trans rfl
        exact sl_val (ff 6) hJ (by simp only [execOp, ev_tmp _ _ (show 6 < 60 by decide)]; rfl) q
      · intro kk bb ff ww hkk hf hd hp hq hJ
        obtain ⟨p0, p1, -⟩ := hd
        have qg : FEq (.bool false) (ff 35) ww := p1 rfl
        refine .inl ⟨(wanted_on (b := false) (want := false) (j := 2) (d := 35) qg (by decide) rfl rfl rfl), ?_⟩
        have q36 : FEq (.string (stV dg)) (ff 36) ww := p0 rfl
        unfold FEq at q36
        refine sl_val (.int .i64 (((dg.length : Nat) : Int))) hJ ?_ rfl
        simp only [execOp, ev_tmp _ _ (show 36 < 60 by decide), ev_const, q36, List.map_toArray, List.map_cons, List.map_nil, resolve]
        simp [go_sem, hz1]
      · intro kk bb ff ww hkk hf hd hp hq hJ
        obtain ⟨p0, p1, -⟩ := hd
        have qg : FEq (.bool false) (ff 35) ww := p1 rfl
        refine .inl ⟨(wanted_on (b := false) (want := false) (j := 2) (d := 35) qg (by decide) rfl rfl rfl), ?_⟩
        have q37 : FEq (.int .i64 (((dg.length : Nat) : Int))) (ff 37) ww := p0 rfl
        unfold FEq at q37
        refine sl_val (.bool false) hJ ?_ rfl
        simp only [execOp, ev_tmp _ _ (show 37 < 60 by decide), ev_const, q37]
        simp [go_sem, hln]
      · intro kk bb ff ww hkk hf hd hp hq hJ
        refine .inl ⟨wanted_none rfl, ?_⟩
        obtain ⟨p0, p1, -⟩ := hd
        have q35 : FEq (.bool false) (ff 35) ww := p0 rfl
        unfold FEq at q35
        have q38 : FEq (.bool false) (ff 38) ww := p1 rfl
        unfold FEq at q38
        refine sl_val (.bool false) hJ ?_ rfl
        simp only [execOp, ev_tmp _ _ (show 35 < 60 by decide), ev_tmp _ _ (show 38 < 60 by decide), ev_const, q35, q38]
        simp [go_sem]
      · intro kk bb ff ww hkk hf hd hp hq hJ
        refine .inl ⟨wanted_none rfl, ?_⟩
        obtain ⟨p0, p1, -⟩ := hd
        have q : FEq (.bool false) (ff 39) ww := p0 rfl
        exact sl_val (ff 39) hJ (by simp only [execOp, ev_tmp _ _ (show 39 < 60 by decide)]; rfl) q
      · intro kk bb ff ww hkk hf hd hp hq hJ
        obtain ⟨p0, -⟩ := hd
        have qg : FEq (.bool false) (ff 40) ww := p0 rfl
        refine .inl ⟨(wanted_on (b := false) (want := false) (j := 7) (d := 40) qg (by decide) rfl rfl rfl), ?_⟩
        have q : FEq (.string (stV dg)) (ff 6) ww := (hf 6 (by decide)).trans rfl
        exact sl_val (ff 6) hJ (by simp only [execOp, ev_tmp _ _ (show 6 < 60 by decide)]; rfl) q
      · intro kk bb ff ww hkk hf hd hp hq hJ
        obtain ⟨p0, p1, -⟩ := hd
        have qg : FEq (.bool false) (ff 40) ww := p1 rfl
        refine .inl ⟨(wanted_on (b := false) (want := false) (j := 7) (d := 40) qg (by decide) rfl rfl rfl), ?_⟩
        have q41 : FEq (.string (stV dg)) (ff 41) ww := p0 rfl
        unfold FEq at q41
        refine sl_val (.int .u8 (g0.toNat : Int)) hJ ?_ rfl
        simp only [execOp, ev_tmp _ _ (show 41 < 60 by decide), ev_const, q41]
        simp [go_sem, hg, hz1, hne]
      · intro kk bb ff ww hkk hf hd hp hq hJ
        obtain ⟨p0, p1, -⟩ := hd
        have qg : FEq (.bool false) (ff 40) ww := p1 rfl
        refine .inl ⟨(wanted_on (b := false) (want := false) (j := 7) (d := 40) qg (by decide) rfl rfl rfl), ?_⟩
        have q42 : FEq (.int .u8 (g0.toNat : Int)) (ff 42) ww := p0 rfl
        unfold FEq at q42
        refine sl_val (.int .i64 ((g0.toNat : Int))) hJ ?_ rfl
        simp only [execOp, ev_tmp _ _ (show 42 < 60 by decide), ev_const, q42]
        simp [go_sem, hcv]
      · intro kk bb ff ww hkk hf hd hp hq hJ
        obtain ⟨p0, p1, -⟩ := hd
        have qg : FEq (.bool false) (ff 40) ww := p1 rfl
        refine .inl ⟨(wanted_on (b := false) (want := false) (j := 7) (d := 40) qg (by decide) rfl rfl rfl), ?_⟩
        have q43 : FEq (.int .i64 ((g0.toNat : Int))) (ff 43) ww := p0 rfl
        unfold FEq at q43
        refine sl_val (.int .i64 ((g0.toNat : Int) - 48)) hJ ?_ rfl
        simp only [execOp, ev_tmp _ _ (show 43 < 60 by decide), ev_const, q43]
        simp [go_sem, hsb]
      · intro kk bb ff ww hkk hf hd hp hq hJ
        obtain ⟨p0, -⟩ := hd
        have qg : FEq (.bool false) (ff 40) ww := p0 rfl
        refine .inl ⟨(wanted_on (b := false) (want := false) (j := 7) (d := 40) qg (by decide) rfl rfl rfl), ?_⟩
        have q2 : FEq (.pointer (some ⟨w.heap.size, 0, none⟩)) (ff 2) ww := (hf 2 (by decide)).trans rfl
        unfold FEq at q2
        refine sl_val (.pointer (some ⟨w.heap.size, 5, none⟩)) hJ ?_ rfl
        simp only [execOp, ev_tmp _ _ (show 2 < 60 by decide), ev_const, q2]
        simp [go_sem]
      · intro kk bb ff ww hkk hf hd hp hq hJ
        obtain ⟨p0, p1, -⟩ := hd
        have qg : FEq (.bool false) (ff 40) ww := p1 rfl
        refine .inl ⟨(wanted_on (b := false) (want := false) (j := 7) (d := 40) qg (by decide) rfl rfl rfl), ?_⟩
        have q45 : FEq (.pointer (some ⟨w.heap.size, 5, none⟩)) (ff 45) ww := p0 rfl
        unfold FEq at q45
        have c5 : ww.cell? ⟨w.heap.size, 5, none⟩ = some (.slice A vs.length c) := (hJ.cell (p := ⟨w.heap.size, 5, none⟩) (show w.heap.size < _ by omega)).trans c5
        refine sl_val (.slice A vs.length c) hJ ?_ rfl
        simp only [execOp, ev_tmp _ _ (show 45 < 60 by decide), ev_const, q45]
        simp [go_sem, c5]
      · intro kk bb ff ww hkk hf hd hp hq hJ
        obtain ⟨p0, p1, -⟩ := hd
        have qg : FEq (.bool false) (ff 40) ww := p1 rfl
        refine .inl ⟨(wanted_on (b := false) (want := false) (j := 7) (d := 40) qg (by decide) rfl rfl rfl), ?_⟩
        have q46 : FEq (.slice A vs.length c) (ff 46) ww := p0 rfl
        unfold FEq at q46
        refine sl_val (.int .i64 ((vs.length : Nat) : Int)) hJ ?_ rfl
        simp only [execOp, ev_tmp _ _ (show 46 < 60 by decide), ev_const, q46, List.map_toArray, List.map_cons, List.map_nil, resolve]
        simp [go_sem]
      · intro kk bb ff ww hkk hf hd hp hq hJ
        obtain ⟨p0, p1, -⟩ := hd
        have qg : FEq (.bool false) (ff 40) ww := p1 rfl
        refine .inl ⟨(wanted_on (b := false) (want := false) (j := 7) (d := 40) qg (by decide) rfl rfl rfl), ?_⟩
        have q47 : FEq (.int .i64 (((vs.length : Nat) : Int))) (ff 47) ww := p0 rfl
        unfold FEq at q47
        refine sl_val (.int .i64 ((vs.length : Int) - 1)) hJ ?_ rfl
        simp only [execOp, ev_tmp _ _ (show 47 < 60 by decide), ev_const, q47]
        simp [go_sem, hsv]
      · intro kk bb ff ww hkk hf hd hp hq hJ
        obtain ⟨p0, p1, p2, p3, -⟩ := hd
        have qg : FEq (.bool false) (ff 40) ww := p2 rfl
        refine .inl ⟨(wanted_on (b := false) (want := false) (j := 7) (d := 40) qg (by decide) rfl rfl rfl), ?_⟩
        have q44 : FEq (.int .i64 ((g0.toNat : Int) - 48)) (ff 44) ww := p0 rfl
        unfold FEq at q44
        have q48 : FEq (.int .i64 ((vs.length : Int) - 1)) (ff 48) ww := p1 rfl
        unfold FEq at q48
        refine sl_enter 42 #[.int .i64 ((g0.toNat : Int) - 48), .int .i64 (0), .int .i64 ((vs.length : Int) - 1)] hJ ?_ ?_
        · simp only [execOp, ev_tmp _ _ (show 44 < 60 by decide), ev_tmp _ _ (show 48 < 60 by decide), ev_const, q44, q48, ev_func, resolve, List.map_toArray, List.map_cons, List.map_nil]
          simp [go_sem]
        · skip
          have h := retQ_post (impl_within ((g0.toNat : Int) - 48) 0 ((vs.length : Int) - 1) ww)
          rw [HE.out] at h
          exact h
      · intro kk bb ff ww hkk hf hd hp hq hJ
        obtain ⟨p0, p1, -⟩ := hd
        have qg : FEq (.bool false) (ff 40) ww := p1 rfl
        refine .inl ⟨(wanted_on (b := false) (want := false) (j := 7) (d := 40) qg (by decide) rfl rfl rfl), ?_⟩
        have q49 : FEq (.bool false) (ff 49) ww := p0 rfl
        unfold FEq at q49
        refine sl_val (.bool true) hJ ?_ rfl
        simp only [execOp, ev_tmp _ _ (show 49 < 60 by decide), ev_const, q49]
        simp [go_sem]
      · intro kk bb ff ww hkk hf hd hp hq hJ
        refine .inl ⟨wanted_none rfl, ?_⟩
        obtain ⟨p0, p1, -⟩ := hd
        have q40 : FEq (.bool false) (ff 40) ww := p0 rfl
        unfold FEq at q40
        have q50 : FEq (.bool true) (ff 50) ww := p1 rfl
        unfold FEq at q50
        refine sl_val (.bool true) hJ ?_ rfl
        simp only [execOp, ev_tmp _ _ (show 40 < 60 by decide), ev_tmp _ _ (show 50 < 60 by decide), ev_const, q40, q50]
        simp [go_sem]
    intro ff w2 hf hd hJ
    have hfr : fr 60 ff = #[ff 0, ff 1, ff 2, ff 3, ff 4, ff 5, ff 6, ff 7, ff 8, ff 9, ff 10, ff 11, ff 12, ff 13, ff 14, ff 15, ff 16, ff 17, ff 18, ff 19, ff 20, ff 21, ff 22, ff 23, ff 24, ff 25, ff 26, ff 27, ff 28, ff 29, ff 30, ff 31, ff 32, ff 33, ff 34, ff 35, ff 36, ff 37, ff 38, ff 39, ff 40, ff 41, ff 42, ff 43, ff 44, ff 45, ff 46, ff 47, ff 48, ff 49, ff 50, ff 51, ff 52, ff 53, ff 54, ff 55, ff 56, ff 57, ff 58, ff 59] := rfl
    rw [hfr]; clear hfr
    dsimp only
    have q0_ := hf 0 (by decide)
    have q1_ := hf 1 (by decide)
    have q2_ := hf 2 (by decide)
    have q3_ := hf 3 (by decide)
    have q4_ := hf 4 (by decide)
    have q5_ := hf 5 (by decide)
    have q6_ := hf 6 (by decide)
    have q7_ := hf 7 (by decide)
    have q8_ := hf 8 (by decide)
    have q9_ := hf 9 (by decide)
    have q10_ := hf 10 (by decide)
    have q11_ := hf 11 (by decide)
    have q12_ := hf 12 (by decide)
    have q13_ := hf 13 (by decide)
    have q14_ := hf 14 (by decide)
    have q15_ := hf 15 (by decide)
    have q16_ := hf 16 (by decide)
    have q17_ := hf 17 (by decide)
    have q18_ := hf 18 (by decide)
    have q19_ := hf 19 (by decide)
    have q20_ := hf 20 (by decide)
    have q21_ := hf 21 (by decide)
    have q22_ := hf 22 (by decide)
    have q23_ := hf 23 (by decide)
    have q24_ := hf 24 (by decide)
    have q25_ := hf 25 (by decide)
    have q26_ := hf 26 (by decide)
    have q27_ := hf 27 (by decide)
    have q28_ := hf 28 (by decide)
    have q29_ := hf 29 (by decide)
    have q30_ := hf 30 (by decide)
    have q31_ := hf 31 (by decide)
    have q32_ := hf 32 (by decide)
    have q33_ : FEq (.bool true) (ff 33) w2 := hd 0 (by decide)
    unfold FEq at q33_
    have q34_ : FEq (.bool false) (ff 34) w2 := hd 1 (by decide)
    unfold FEq at q34_
    have q35_ : FEq (.bool false) (ff 35) w2 := hd 2 (by decide)
    unfold FEq at q35_
    have q36_ : FEq (.string (stV dg)) (ff 36) w2 := hd 3 (by decide)
    unfold FEq at q36_
    have q37_ : FEq (.int .i64 (((dg.length : Nat) : Int))) (ff 37) w2 := hd 4 (by decide)
    unfold FEq at q37_
    have q38_ : FEq (.bool false) (ff 38) w2 := hd 5 (by decide)
    unfold FEq at q38_
    have q39_ : FEq (.bool false) (ff 39) w2 := hd 6 (by decide)
    unfold FEq at q39_
    have q40_ : FEq (.bool false) (ff 40) w2 := hd 7 (by decide)
    unfold FEq at q40_
    have q41_ : FEq (.string (stV dg)) (ff 41) w2 := hd 8 (by decide)
    unfold FEq at q41_
    have q42_ : FEq (.int .u8 (g0.toNat : Int)) (ff 42) w2 := hd 9 (by decide)
    unfold FEq at q42_
    have q43_ : FEq (.int .i64 ((g0.toNat : Int))) (ff 43) w2 := hd 10 (by decide)
    unfold FEq at q43_
    have q44_ : FEq (.int .i64 ((g0.toNat : Int) - 48)) (ff 44) w2 := hd 11 (by decide)
    unfold FEq at q44_
    have q45_ : FEq (.pointer (some ⟨w.heap.size, 5, none⟩)) (ff 45) w2 := hd 12 (by decide)
    unfold FEq at q45_
    have q46_ : FEq (.slice A vs.length c) (ff 46) w2 := hd 13 (by decide)
    unfold FEq at q46_
    have q47_ : FEq (.int .i64 (((vs.length : Nat) : Int))) (ff 47) w2 := hd 14 (by decide)
    unfold FEq at q47_
    have q48_ : FEq (.int .i64 ((vs.length : Int) - 1)) (ff 48) w2 := hd 15 (by decide)
    unfold FEq at q48_
    have q49_ : FEq (.bool false) (ff 49) w2 := hd 16 (by decide)
    unfold FEq at q49_
    have q50_ : FEq (.bool true) (ff 50) w2 := hd 17 (by decide)
    unfold FEq at q50_
    have q51_ : FEq (.bool true) (ff 51) w2 := hd 18 (by decide)
    unfold FEq at q51_
    have q52_ := hf 52 (by decide)
    have q53_ := hf 53 (by decide)
    have q54_ := hf 54 (by decide)
    have q55_ := hf 55 (by decide)
    have q56_ := hf 56 (by decide)
    have q57_ := hf 57 (by decide)
    have q58_ := hf 58 (by decide)
    have q59_ := hf 59 (by decide)
    simp only [Array.getD_eq_getD_getElem?, List.getElem?_toArray, List.getElem?_cons_zero, List.getElem?_cons_succ, Option.getD_some] at q0_ q1_ q2_ q3_ q4_ q5_ q6_ q7_ q8_ q9_ q10_ q11_ q12_ q13_ q14_ q15_ q16_ q17_ q18_ q19_ q20_ q21_ q22_ q23_ q24_ q25_ q26_ q27_ q28_ q29_ q30_ q31_ q32_ q52_ q53_ q54_ q55_ q56_ q57_ q58_ q59_
    rw [q0_, q1_, q2_, q3_, q4_, q5_, q6_, q7_, q8_, q9_, q10_, q11_, q12_, q13_, q14_, q15_, q16_, q17_, q18_, q19_, q20_, q21_, q22_, q23_, q24_, q25_, q26_, q27_, q28_, q29_, q30_, q31_, q32_, q33_, q34_, q35_, q36_, q37_, q38_, q39_, q40_, q41_, q42_, q43_, q44_, q45_, q46_, q47_, q48_, q49_, q50_, q51_, q52_, q53_, q54_, q55_, q56_, q57_, q58_, q59_]
    clear q0_ q1_ q2_ q3_ q4_ q5_ q6_ q7_ q8_ q9_ q10_ q11_ q12_ q13_ q14_ q15_ q16_ q17_ q18_ q19_ q20_ q21_ q22_ q23_ q24_ q25_ q26_ q27_ q28_ q29_ q30_ q31_ q32_ q33_ q34_ q35_ q36_ q37_ q38_ q39_ q40_ q41_ q42_ q43_ q44_ q45_ q46_ q47_ q48_ q49_ q50_ q51_ q52_ q53_ q54_ q55_ q56_ q57_ q58_ q59_ hf hd
    clear ff
    have b_ : Below _ _ w2 := hJ
    clear hJ
    have HB9 := Lib.hid (HB.out.trans (b_.mono (by omega)))
    clear b_ c0 c1 c2 c3 c4 c5
    go_wp2_with fail
    go_ret2
    exact ⟨ret_la (by rw [HA.out]; rfl) (by rw [HA.out]; rfl), HB9.out⟩
  obtain ⟨k, hk⟩ : ∃ k : Nat, (g0.toNat : Int) - 48 = (k : Int) := ⟨_, (Int.toNat_of_nonneg (inR_iff.1 e6).1).symm⟩
  have HA : Hid (laO f b u ts vs l = some (vxL (glV vs k))) := Lib.hid (by rw [HLB.out, if_pos e6, hk, Int.toNat_natCast])
  have hkl : k < vs.length := by have := (inR_iff.1 e6).2; omega
  have hsb8 : IntKind.u8.wrap ((g0.toNat : Int) - 48) = (k : Int) := by
    rw [hk]; clear hk
    rcases (show k = 0 ∨ k = 1 ∨ k = 2 ∨ k = 3 by omega) with h | h | h | h <;> (rw [h]; rfl)
  have HE := Lib.hid e6
  clear HLB e6
  have HK := Lib.hid (Blk.new w 28 #[.int .i64 f, .bool m, .int .i64 b, .int .i64 u, .slice C ts.length d, .slice A vs.length c])
  have HT := Lib.hid (RdTempo.more (RdTempo.al hT (Nat.le_refl _) (.cells #[.int .i64 f, .bool m, .int .i64 b, .int .i64 u, .slice C ts.length d, .slice A vs.length c] 28)) (show w.heap.size ≤ (w.alloc (.cells #[.int .i64 f, .bool m, .int .i64 b, .int .i64 u, .slice C ts.length d, .slice A vs.length c] 28)).heap.size by simp))
  have HV := Lib.hid (RdVs.more (RdVs.al hV (Nat.le_refl _) (.cells #[.int .i64 f, .bool m, .int .i64 b, .int .i64 u, .slice C ts.length d, .slice A vs.length c] 28)) (show w.heap.size ≤ (w.alloc (.cells #[.int .i64 f, .bool m, .int .i64 b, .int .i64 u, .slice C ts.length d, .slice A vs.length c] 28)).heap.size by simp))
  have HB := Lib.hid ((Below.refl w.heap.size w).alloc (Nat.le_refl _) (.cells #[.int .i64 f, .bool m, .int .i64 b, .int .i64 u, .slice C ts.length d, .slice A vs.length c] 28))
  have z0 : w.heap.size + 1 ≤ (w.alloc (.cells #[.int .i64 f, .bool m, .int .i64 b, .int .i64 u, .slice C ts.length d, .slice A vs.length c] 28)).heap.size := by simp
  clear hT hV
  go_enter Tryz.func15, Tryz.ntmps15
  go_upto_region 1 with fail
  generalize w.alloc (.cells #[.int .i64 f, .bool m, .int .i64 b, .int .i64 u, .slice C ts.length d, .slice A vs.length c] 28) = w0 at *
  have c0 := HK.out.cell 0; have c1 := HK.out.cell 1; have c2 := HK.out.cell 2; have c3 := HK.out.cell 3; have c4 := HK.out.cell 4; have c5 := HK.out.cell 5
  go_wp2_with fail
  refine (HC.out _).mono ?_
  rintro e w' ⟨rfl, rfl⟩
  go_upto_region 9 with fail
  generalize w0 = w1 at *
  refine regionL_draws rfl 60 [some 33, some 34, some 35, some 36, some 37, some 38, some 39, some 40, some 41, some 42, some 43, some 44, some 45, some 46, some 47, some 48, some 49, some 50, some 51]
    [FEq (.bool true), FEq (.bool false), FEq (.bool false), FEq (.string (stV dg)), FEq (.int .i64 (((dg.length : Nat) : Int))), FEq (.bool false), FEq (.bool false), FEq (.bool false), FEq (.string (stV dg)), FEq (.int .u8 (g0.toNat : Int)), FEq (.int .i64 ((g0.toNat : Int))), FEq (.int .i64 ((g0.toNat : Int) - 48)), FEq (.pointer (some ⟨w.heap.size, 5, none⟩)), FEq (.slice A vs.length c), FEq (.int .i64 (((vs.length : Nat) : Int))), FEq (.int .i64 ((vs.length : Int) - 1)), FEq (.bool true), FEq (.bool false), FEq (.bool false)] (by kernel_rfl) (by kernel_rfl) ?_ ?_ ?_
  · exact stayLs_cons stayL_eq (stayLs_cons stayL_eq (stayLs_cons stayL_eq (stayLs_cons stayL_eq (stayLs_cons stayL_eq (stayLs_cons stayL_eq (stayLs_cons stayL_eq (stayLs_cons stayL_eq (stayLs_cons stayL_eq (stayLs_cons stayL_eq (stayLs_cons stayL_eq (stayLs_cons stayL_eq (stayLs_cons stayL_eq (stayLs_cons stayL_eq (stayLs_cons stayL_eq (stayLs_cons stayL_eq (stayLs_cons stayL_eq (stayLs_cons stayL_eq (stayLs_cons stayL_eq stayLs_nil))))))))))))))))))
  · refine AllI.cons ?_ (AllI.cons ?_ (AllI.cons ?_ (AllI.cons ?_ (AllI.cons ?_ (AllI.cons ?_ (AllI.cons ?_ (AllI.cons ?_ (AllI.cons ?_ (AllI.cons ?_ (AllI.cons ?_ (AllI.cons ?_ (AllI.cons ?_ (AllI.cons ?_ (AllI.cons ?_ (AllI.cons ?_ (AllI.cons ?_ (AllI.cons ?_ (AllI.cons ?_ trivial))))))))))))))))))
    · intro kk bb ff ww hkk hf hd hp hq hJ
      refine .inl ⟨wanted_none rfl, ?_⟩
      have q : FEq (.bool true) (ff 7) ww := (hf 7 (by decide)).trans rfl
      exact sl_val (ff 7) hJ (by simp only [execOp, ev_tmp _ _ (show 7 < 60 by decide)]; rfl) q
    · intro kk bb ff ww hkk hf hd hp hq hJ
      refine .inl ⟨wanted_none rfl, ?_⟩
      obtain ⟨p0, -⟩ := hd
      have q33 : FEq (.bool true) (ff 33) ww := p0 rfl
      unfold FEq at q33
      refine sl_val (.bool false) hJ ?_ rfl
      simp only [execOp, ev_tmp _ _ (show 33 < 60 by decide), ev_const, q33]
      simp [go_sem]
    · intro kk bb ff ww hkk hf hd hp hq hJ
      refine .inl ⟨wanted_none rfl, ?_⟩
      obtain ⟨p0, -⟩ := hd
      have q : FEq (.bool false) (ff 34) ww := p0 rfl
      exact sl_val (ff 34) hJ (by simp only [execOp, ev_tmp _ _ (show 34 < 60 by decide)]; rfl) q
    · intro kk bb ff ww hkk hf hd hp hq hJ
      obtain ⟨p0, -⟩ := hd
      have qg : FEq (.bool false) (ff 35) ww := p0 rfl
      refine .inl ⟨(wanted_on (b := false) (want := false) (j := 2) (d := 35) qg (by decide) rfl rfl rfl), ?_⟩
      have q : FEq (.string (stV dg)) (ff 6) ww := (hf 6 (by decide)).trans rfl
      exact sl_val (ff 6) hJ (by simp only [execOp, ev_tmp _ _ (show 6 < 60 by decide)]; rfl) q
    · intro kk bb ff ww hkk hf hd hp hq hJ
      obtain ⟨p0, p1, -⟩ := hd
      have qg : FEq (.bool false) (ff 35) ww := p1 rfl
      refine .inl ⟨(wanted_on (b := false) (want := false) (j := 2) (d := 35) qg (by decide) rfl rfl rfl), ?_⟩
      have q36 : FEq (.string (stV dg)) (ff 36) ww := p0 rfl
      unfold FEq at q36
      refine sl_val (.int .i64 (((dg.length : Nat) : Int))) hJ ?_ rfl
      simp only [execOp, ev_tmp _ _ (show 36 < 60 by decide), ev_const, q36, List.map_toArray, List.map_cons, List.map_nil, resolve]
      simp [go_sem, hz1]
    · intro kk bb ff ww hkk hf hd hp hq hJ
      obtain ⟨p0, p1, -⟩ := hd
      have qg : FEq (.bool false) (ff 35) ww := p1 rfl
      refine .inl ⟨(wanted_on (b := false) (want := false) (j := 2) (d := 35) qg (by decide) rfl rfl rfl), ?_⟩
      have q37 : FEq (.int .i64 (((dg.length : Nat) : Int))) (ff 37) ww := p0 rfl
      unfold FEq at q37
      refine sl_val (.bool false) hJ ?_ rfl
      simp only [execOp, ev_tmp _ _ (show 37 < 60 by decide), ev_const, q37]
      simp [go_sem, hln]
    · intro kk bb ff ww hkk hf hd hp hq hJ
      refine .inl ⟨wanted_none rfl, ?_⟩
      obtain ⟨p0, p1, -⟩ := hd
      have q35 : FEq (.bool false) (ff 35) ww := p0 rfl
      unfold FEq at q35
      have q38 : FEq (.bool false) (ff 38) ww := p1 rfl
      unfold FEq at q38
      refine sl_val (.bool false) hJ ?_ rfl
      simp only [execOp, ev_tmp _ _ (show 35 < 60 by decide), ev_tmp _ _ (show 38 < 60 by decide), ev_const, q35, q38]
      simp [go_sem]
    · intro kk bb ff ww hkk hf hd hp hq hJ
      refine .inl ⟨wanted_none rfl, ?_⟩
      obtain ⟨p0, p1, -⟩ := hd
      have q : FEq (.bool false) (ff 39) ww := p0 rfl
      exact sl_val (ff 39) hJ (by simp only [execOp, ev_tmp _ _ (show 39 < 60 by decide)]; rfl) q
    · intro kk bb ff ww hkk hf hd hp hq hJ
      obtain ⟨p0, -⟩ := hd
      have qg : FEq (.bool false) (ff 40) ww := p0 rfl
      refine .inl ⟨(wanted_on (b := false) (want := false) (j := 7) (d := 40) qg (by decide) rfl rfl rfl), ?_⟩
      have q : FEq (.string (stV dg)) (ff 6) ww := (hf 6 (by decide)).trans rfl
      exact sl_val (ff 6) hJ (by simp only [execOp, ev_tmp _ _ (show 6 < 60 by decide)]; rfl) q
    · intro kk bb ff ww hkk hf hd hp hq hJ
      obtain ⟨p0, p1, -⟩ := hd
      have qg : FEq (.bool false) (ff 40) ww := p1 rfl
      refine .inl ⟨(wanted_on (b := false) (want := false) (j := 7) (d := 40) qg (by decide) rfl rfl rfl), ?_⟩
      have q41 : FEq (.string (stV dg)) (ff 41) ww := p0 rfl
      unfold FEq at q41
      refine sl_val (.int .u8 (g0.toNat : Int)) hJ ?_ rfl
      simp only [execOp, ev_tmp _ _ (show 41 < 60 by decide), ev_const, q41]
      simp [go_sem, hg, hz1, hne]
    · intro kk bb ff ww hkk hf hd hp hq hJ
      obtain ⟨p0, p1, -⟩ := hd
      have qg : FEq (.bool false) (ff 40) ww := p1 rfl
      refine .inl ⟨(wanted_on (b := false) (want := false) (j := 7) (d := 40) qg (by decide) rfl rfl rfl), ?_⟩
      have q42 : FEq (.int .u8 (g0.toNat : Int)) (ff 42) ww := p0 rfl
      unfold FEq at q42
      refine sl_val (.int .i64 ((g0.toNat : Int))) hJ ?_ rfl
      simp only [execOp, ev_tmp _ _ (show 42 < 60 by decide), ev_const, q42]
      simp [go_sem, hcv]
    · intro kk bb ff ww hkk hf hd hp hq hJ
      obtain ⟨p0, p1, -⟩ := hd
      have qg : FEq (.bool false) (ff 40) ww := p1 rfl
      refine .inl ⟨(wanted_on (b := false) (want := false) (j := 7) (d := 40) qg (by decide) rfl rfl rfl), ?_⟩
      have q43 : FEq (.int .i64 ((g0.toNat : Int))) (ff 43) ww := p0 rfl
      unfold FEq at q43
      refine sl_val (.int .i64 ((g0.toNat : Int) - 48)) hJ ?_ rfl
      simp only [execOp, ev_tmp _ _ (show 43 < 60 by decide), ev_const, q43]
      simp [go_sem, hsb]
    · intro kk bb ff ww hkk hf hd hp hq hJ
      obtain ⟨p0, -⟩ := hd
      have qg : FEq (.bool false) (ff 40) ww := p0 rfl
      refine .inl ⟨(wanted_on (b := false) (want := false) (j := 7) (d := 40) qg (by decide) rfl rfl rfl), ?_⟩
      have q2 : FEq (.pointer (some ⟨w.heap.size, 0, none⟩)) (ff 2) ww := (hf 2 (by decide)).trans rfl
      unfold FEq at q2
      refine sl_val (.pointer (some ⟨w.heap.size, 5, none⟩)) hJ ?_ rfl
      simp only [execOp, ev_tmp _ _ (show 2 < 60 by decide), ev_const, q2]
      simp [go_sem]
    · intro kk bb ff ww hkk hf hd hp hq hJ
      obtain ⟨p0, p1, -⟩ := hd
      have qg : FEq (.bool false) (ff 40) ww := p1 rfl
      refine .inl ⟨(wanted_on (b := false) (want := false) (j := 7) (d := 40) qg (by decide) rfl rfl rfl), ?_⟩
      have q45 : FEq (.pointer (some ⟨w.heap.size, 5, none⟩)) (ff 45) ww := p0 rfl
      unfold FEq at q45
      have c5 : ww.cell? ⟨w.heap.size, 5, none⟩ = some (.slice A vs.length c) := (hJ.cell (p := ⟨w.heap.size, 5, none⟩) (show w.heap.size < _ by omega)).trans c5
      refine sl_val (.slice A vs.length c) hJ ?_ rfl
      simp only [execOp, ev_tmp _ _ (show 45 < 60 by decide), ev_const, q45]
      simp [go_sem, c5]
    · intro kk bb ff ww hkk hf hd hp hq hJ
      obtain ⟨p0, p1, -⟩ := hd
      have qg : FEq (.bool false) (ff 40) ww := p1 rfl
      refine .inl ⟨(wanted_on (b := false) (want := false) (j := 7) (d := 40) qg (by decide) rfl rfl rfl), ?_⟩
      have q46 : FEq (.slice A vs.length c) (ff 46) ww := p0 rfl
      unfold FEq at q46
      refine sl_val (.int .i64 ((vs.length : Nat) : Int)) hJ ?_ rfl
      simp only [execOp, ev_tmp _ _ (show 46 < 60 by decide), ev_const, q46, List.map_toArray, List.map_cons, List.map_nil, resolve]
      simp [go_sem]
    · intro kk bb ff ww hkk hf hd hp hq hJ
      obtain ⟨p0, p1, -⟩ := hd
      have qg : FEq (.bool false) (ff 40) ww := p1 rfl
      refine .inl ⟨(wanted_on (b := false) (want := false) (j := 7) (d := 40) qg (by decide) rfl rfl rfl), ?_⟩
      have q47 : FEq (.int .i64 (((vs.length : Nat) : Int))) (ff 47) ww := p0 rfl
      unfold FEq at q47
      refine sl_val (.int .i64 ((vs.length : Int) - 1)) hJ ?_ rfl
      simp only [execOp, ev_tmp _ _ (show 47 < 60 by decide), ev_const, q47]
      simp [go_sem, hsv]
    · intro kk bb ff ww hkk hf hd hp hq hJ
      obtain ⟨p0, p1, p2, p3, -⟩ := hd
      have qg : FEq (.bool false) (ff 40) ww := p2 rfl
      refine .inl ⟨(wanted_on (b := false) (want := false) (j := 7) (d := 40) qg (by decide) rfl rfl rfl), ?_⟩
      have q44 : FEq (.int .i64 ((g0.toNat : Int) - 48)) (ff 44) ww := p0 rfl
      unfold FEq at q44
      have q48 : FEq (.int .i64 ((vs.length : Int) - 1)) (ff 48) ww := p1 rfl
      unfold FEq at q48
      refine sl_enter 42 #[.int .i64 ((g0.toNat : Int) - 48), .int .i64 (0), .int .i64 ((vs.length : Int) - 1)] hJ ?_ ?_
      · simp only [execOp, ev_tmp _ _ (show 44 < 60 by decide), ev_tmp _ _ (show 48 < 60 by decide), ev_const, q44, q48, ev_func, resolve, List.map_toArray, List.map_cons, List.map_nil]
        simp [go_sem]
      · skip
        have h := retQ_post (impl_within ((g0.toNat : Int) - 48) 0 ((vs.length : Int) - 1) ww)
        rw [HE.out] at h
        exact h
    · intro kk bb ff ww hkk hf hd hp hq hJ
      obtain ⟨p0, p1, -⟩ := hd
      have qg : FEq (.bool false) (ff 40) ww := p1 rfl
      refine .inl ⟨(wanted_on (b := false) (want := false) (j := 7) (d := 40) qg (by decide) rfl rfl rfl), ?_⟩
      have q49 : FEq (.bool true) (ff 49) ww := p0 rfl
      unfold FEq at q49
      refine sl_val (.bool false) hJ ?_ rfl
      simp only [execOp, ev_tmp _ _ (show 49 < 60 by decide), ev_const, q49]
      simp [go_sem]
    · intro kk bb ff ww hkk hf hd hp hq hJ
      refine .inl ⟨wanted_none rfl, ?_⟩
      obtain ⟨p0, p1, -⟩ := hd
      have q40 : FEq (.bool false) (ff 40) ww := p0 rfl
      unfold FEq at q40
      have q50 : FEq (.bool false) (ff 50) ww := p1 rfl
      unfold FEq at q50
      refine sl_val (.bool false) hJ ?_ rfl
      simp only [execOp, ev_tmp _ _ (show 40 < 60 by decide), ev_tmp _ _ (show 50 < 60 by decide), ev_const, q40, q50]
      simp [go_sem]
  intro ff w2 hf hd hJ
  have hfr : fr 60 ff = #[ff 0, ff 1, ff 2, ff 3, ff 4, ff 5, ff 6, ff 7, ff 8, ff 9, ff 10, ff 11, ff 12, ff 13, ff 14, ff 15, ff 16, ff 17, ff 18, ff 19, ff 20, ff 21, ff 22, ff 23, ff 24, ff 25, ff 26, ff 27, ff 28, ff 29, ff 30, ff 31, ff 32, ff 33, ff 34, ff 35, ff 36, ff 37, ff 38, ff 39, ff 40, ff 41, ff 42, ff 43, ff 44, ff 45, ff 46, ff 47, ff 48, ff 49, ff 50, ff 51, ff 52, ff 53, ff 54, ff 55, ff 56, ff 57, ff 58, ff 59] := rfl
  rw [hfr]; clear hfr
  dsimp only
  have q0_ := hf 0 (by decide)
  have q1_ := hf 1 (by decide)
  have q2_ := hf 2 (by decide)
  have q3_ := hf 3 (by decide)
  have q4_ := hf 4 (by decide)
  have q5_ := hf 5 (by decide)
  have q6_ := hf 6 (by decide)
  have q7_ := hf 7 (by decide)
  have q8_ := hf 8 (by decide)
  have q9_ := hf 9 (by decide)
  have q10_ := hf 10 (by decide)
  have q11_ := hf 11 (by decide)
  have q12_ := hf 12 (by decide)
  have q13_ := hf 13 (by decide)
  have q14_ := hf 14 (by decide)
  have q15_ := hf 15 (by decide)
  have q16_ := hf 16 (by decide)
  have q17_ := hf 17 (by decide)
  have q18_ := hf 18 (by decide)
  have q19_ := hf 19 (by decide)
  have q20_ := hf 20 (by decide)
  have q21_ := hf 21 (by decide)
  have q22_ := hf 22 (by decide)
  have q23_ := hf 23 (by decide)
  have q24_ := hf 24 (by decide)
  have q25_ := hf 25 (by decide)
  have q26_ := hf 26 (by decide)
  have q27_ := hf 27 (by decide)
  have q28_ := hf 28 (by decide)
  have q29_ := hf 29 (by decide)
  have q30_ := hf 30 (by decide)
  have q31_ := hf 31 (by decide)
  have q32_ := hf 32 (by decide)
  have q33_ : FEq (.bool true) (ff 33) w2 := hd 0 (by decide)
  unfold FEq at q33_
  have q34_ : FEq (.bool false) (ff 34) w2 := hd 1 (by decide)
  unfold FEq at q34_
  have q35_ : FEq (.bool false) (ff 35) w2 := hd 2 (by decide)
  unfold FEq at q35_
  have q36_ : FEq (.string (stV dg)) (ff 36) w2 := hd 3 (by decide)
  unfold FEq at q36_
  have q37_ : FEq (.int .i64 (((dg.length : Nat) : Int))) (ff 37) w2 := hd 4 (by decide)
  unfold FEq at q37_
  have q38_ : FEq (.bool false) (ff 38) w2 := hd 5 (by decide)
  unfold FEq at q38_
  have q39_ : FEq (.bool false) (ff 39) w2 := hd 6 (by decide)
  unfold FEq at q39_
  have q40_ : FEq (.bool false) (ff 40) w2 := hd 7 (by decide)
  unfold FEq at q40_
  have q41_ : FEq (.string (stV dg)) (ff 41) w2 := hd 8 (by decide)
  unfold FEq at q41_
  have q42_ : FEq (.int .u8 (g0.toNat : Int)) (ff 42) w2 := hd 9 (by decide)
  unfold FEq at q42_
  have q43_ : FEq (.int .i64 ((g0.toNat : Int))) (ff 43) w2 := hd 10 (by decide)
  unfold FEq at q43_
  have q44_ : FEq (.int .i64 ((g0.toNat : Int) - 48)) (ff 44) w2 := hd 11 (by decide)
  unfold FEq at q44_
  have q45_ : FEq (.pointer (some ⟨w.heap.size, 5, none⟩)) (ff 45) w2 := hd 12 (by decide)
  unfold FEq at q45_
  have q46_ : FEq (.slice A vs.length c) (ff 46) w2 := hd 13 (by decide)
  unfold FEq at q46_
  have q47_ : FEq (.int .i64 (((vs.length : Nat) : Int))) (ff 47) w2 := hd 14 (by decide)
  unfold FEq at q47_
  have q48_ : FEq (.int .i64 ((vs.length : Int) - 1)) (ff 48) w2 := hd 15 (by decide)
  unfold FEq at q48_
  have q49_ : FEq (.bool true) (ff 49) w2 := hd 16 (by decide)
  unfold FEq at q49_
  have q50_ : FEq (.bool false) (ff 50) w2 := hd 17 (by decide)
  unfold FEq at q50_
  have q51_ : FEq (.bool false) (ff 51) w2 := hd 18 (by decide)
  unfold FEq at q51_
  have q52_ := hf 52 (by decide)
  have q53_ := hf 53 (by decide)
  have q54_ := hf 54 (by decide)
  have q55_ := hf 55 (by decide)
  have q56_ := hf 56 (by decide)
  have q57_ := hf 57 (by decide)
  have q58_ := hf 58 (by decide)
  have q59_ := hf 59 (by decide)
  simp only [Array.getD_eq_getD_getElem?, List.getElem?_toArray, List.getElem?_cons_zero, List.getElem?_cons_succ, Option.getD_some] at q0_ q1_ q2_ q3_ q4_ q5_ q6_ q7_ q8_ q9_ q10_ q11_ q12_ q13_ q14_ q15_ q16_ q17_ q18_ q19_ q20_ q21_ q22_ q23_ q24_ q25_ q26_ q27_ q28_ q29_ q30_ q31_ q32_ q52_ q53_ q54_ q55_ q56_ q57_ q58_ q59_
  rw [q0_, q1_, q2_, q3_, q4_, q5_, q6_, q7_, q8_, q9_, q10_, q11_, q12_, q13_, q14_, q15_, q16_, q17_, q18_, q19_, q20_, q21_, q22_, q23_, q24_, q25_, q26_, q27_, q28_, q29_, q30_, q31_, q32_, q33_, q34_, q35_, q36_, q37_, q38_, q39_, q40_, q41_, q42_, q43_, q44_, q45_, q46_, q47_, q48_, q49_, q50_, q51_, q52_, q53_, q54_, q55_, q56_, q57_, q58_, q59_]
  clear q0_ q1_ q2_ q3_ q4_ q5_ q6_ q7_ q8_ q9_ q10_ q11_ q12_ q13_ q14_ q15_ q16_ q17_ q18_ q19_ q20_ q21_ q22_ q23_ q24_ q25_ q26_ q27_ q28_ q29_ q30_ q31_ q32_ q33_ q34_ q35_ q36_ q37_ q38_ q39_ q40_ q41_ q42_ q43_ q44_ q45_ q46_ q47_ q48_ q49_ q50_ q51_ q52_ q53_ q54_ q55_ q56_ q57_ q58_ q59_ hf hd
  clear ff
  have b_ : Below _ _ w2 := hJ
  clear hJ
  have HB9 := Lib.hid (HB.out.trans (b_.mono (by omega)))
  have z9 := b_.size
  clear c0 c1 c2 c3 c4 c5
  replace HK := Lib.hid (HK.out.below b_ (by omega)); replace HT := Lib.hid (RdTempo.more (RdTempo.below HT.out b_ (by omega)) z9); replace HV := Lib.hid (RdVs.more (RdVs.below HV.out b_ (by omega)) z9); replace HB := HB9
  clear b_ HB9
  have c0 := HK.out.cell 0; have c1 := HK.out.cell 1; have c2 := HK.out.cell 2; have c3 := HK.out.cell 3; have c4 := HK.out.cell 4; have c5 := HK.out.cell 5
  obtain ⟨b8, off, C8, d8, rfl, hb8, hc8, hn8⟩ := HV.out.at_ hkl
  have HN := Lib.hid hn8; clear hn8
  have hvl := HLV.out.at_ hkl
  have hi1 : ((k : Int) < (vs.length : Int)) = True := eq_true (by omega)
  have hin : (k : Int).toNat = k := by omega
  go_upto_region 11 with fail
  refine regionL_draws rfl 60 [some 52, some 53, some 54, some 55, some 56, some 57, some 58, some 59, some 4, some 5]
    [FEq (.pointer (some ⟨w.heap.size, 5, none⟩)), FEq (.slice (some ⟨b8, off, none⟩) vs.length c), FEq (.string (stV dg)), FEq (.int .u8 (g0.toNat : Int)), FEq (.int .u8 (k : Int)), FEq (.pointer (some ⟨b8, off + k, none⟩)), FEq (.slice C8 (glV vs k).length d8), FEq (.string (stV (vxL (glV vs k)))), FEq (.string (stV (vxL (glV vs k)))), FEq (.bool true)] (by kernel_rfl) (by kernel_rfl) ?_ ?_ ?_
  · exact stayLs_cons stayL_eq (stayLs_cons stayL_eq (stayLs_cons stayL_eq (stayLs_cons stayL_eq (stayLs_cons stayL_eq (stayLs_cons stayL_eq (stayLs_cons stayL_eq (stayLs_cons stayL_eq (stayLs_cons stayL_eq (stayLs_cons stayL_eq stayLs_nil)))))))))
  · refine AllI.cons ?_ (AllI.cons ?_ (AllI.cons ?_ (AllI.cons ?_ (AllI.cons ?_ (AllI.cons ?_ (AllI.cons ?_ (AllI.cons ?_ (AllI.cons ?_ (AllI.cons ?_ trivial)))))))))
    · intro kk bb ff ww hkk hf hd hp hq hJ
      refine .inl ⟨wanted_none rfl, ?_⟩
      have q2 : FEq (.pointer (some ⟨w.heap.size, 0, none⟩)) (ff 2) ww := (hf 2 (by decide)).trans rfl
      unfold FEq at q2
      refine sl_val (.pointer (some ⟨w.heap.size, 5, none⟩)) hJ ?_ rfl
      simp only [execOp, ev_tmp _ _ (show 2 < 60 by decide), ev_const, q2]
      simp [go_sem]
    · intro kk bb ff ww hkk hf hd hp hq hJ
      refine .inl ⟨wanted_none rfl, ?_⟩
      obtain ⟨p0, -⟩ := hd
      have q52 : FEq (.pointer (some ⟨w.heap.size, 5, none⟩)) (ff 52) ww := p0 rfl
      unfold FEq at q52
      have c5 : ww.cell? ⟨w.heap.size, 5, none⟩ = some (.slice (some ⟨b8, off, none⟩) vs.length c) := (hJ.cell (p := ⟨w.heap.size, 5, none⟩) (show w.heap.size < _ by omega)).trans c5
      refine sl_val (.slice (some ⟨b8, off, none⟩) vs.length c) hJ ?_ rfl
      simp only [execOp, ev_tmp _ _ (show 52 < 60 by decide), ev_const, q52]
      simp [go_sem, c5]
    · intro kk bb ff ww hkk hf hd hp hq hJ
      refine .inl ⟨wanted_none rfl, ?_⟩
      have q : FEq (.string (stV dg)) (ff 6) ww := (hf 6 (by decide)).trans rfl
      exact sl_val (ff 6) hJ (by simp only [execOp, ev_tmp _ _ (show 6 < 60 by decide)]; rfl) q
    · intro kk bb ff ww hkk hf hd hp hq hJ
      refine .inl ⟨wanted_none rfl, ?_⟩
      obtain ⟨p0, -⟩ := hd
      have q54 : FEq (.string (stV dg)) (ff 54) ww := p0 rfl
      unfold FEq at q54
      refine sl_val (.int .u8 (g0.toNat : Int)) hJ ?_ rfl
      simp only [execOp, ev_tmp _ _ (show 54 < 60 by decide), ev_const, q54]
      simp [go_sem, hg, hz1, hne]
    · intro kk bb ff ww hkk hf hd hp hq hJ
      refine .inl ⟨wanted_none rfl, ?_⟩
      obtain ⟨p0, -⟩ := hd
      have q55 : FEq (.int .u8 (g0.toNat : Int)) (ff 55) ww := p0 rfl
      unfold FEq at q55
      refine sl_val (.int .u8 (k : Int)) hJ ?_ rfl
      simp only [execOp, ev_tmp _ _ (show 55 < 60 by decide), ev_const, q55]
      simp [go_sem, hsb8]
    · intro kk bb ff ww hkk hf hd hp hq hJ
      refine .inl ⟨wanted_none rfl, ?_⟩
      obtain ⟨p0, p1, -⟩ := hd
      have q53 : FEq (.slice (some ⟨b8, off, none⟩) vs.length c) (ff 53) ww := p0 rfl
      unfold FEq at q53
      have q56 : FEq (.int .u8 (k : Int)) (ff 56) ww := p1 rfl
      unfold FEq at q56
      refine sl_val (.pointer (some ⟨b8, off + k, none⟩)) hJ ?_ rfl
      simp only [execOp, ev_tmp _ _ (show 53 < 60 by decide), ev_tmp _ _ (show 56 < 60 by decide), ev_const, q53, q56]
      simp [go_sem, hi1, hin]
    · intro kk bb ff ww hkk hf hd hp hq hJ
      refine .inl ⟨wanted_none rfl, ?_⟩
      obtain ⟨p0, -⟩ := hd
      have q57 : FEq (.pointer (some ⟨b8, off + k, none⟩)) (ff 57) ww := p0 rfl
      unfold FEq at q57
      have c8 : ww.cell? ⟨b8, off + k, none⟩ = some (.slice C8 (glV vs k).length d8) := (hJ.cell (p := ⟨b8, off + k, none⟩) (show b8 < _ by omega)).trans hc8
      refine sl_val (.slice C8 (glV vs k).length d8) hJ ?_ rfl
      simp only [execOp, ev_tmp _ _ (show 57 < 60 by decide), ev_const, q57]
      simp [go_sem, c8]
    · intro kk bb ff ww hkk hf hd hp hq hJ
      refine .inl ⟨wanted_none rfl, ?_⟩
      obtain ⟨p0, -⟩ := hd
      have q58 : FEq (.slice C8 (glV vs k).length d8) (ff 58) ww := p0 rfl
      unfold FEq at q58
      refine sl_enter 43 #[.slice C8 (glV vs k).length d8] hJ ?_ ?_
      · simp only [execOp, ev_tmp _ _ (show 58 < 60 by decide), ev_const, q58, ev_func, resolve, List.map_toArray, List.map_cons, List.map_nil]
        simp [go_sem]
      · skip
        exact retS_post (impl_VoiceText C8 d8 (glV vs k) ww (RdNote.more (RdNote.below HN.out hJ (by omega)) (Nat.le_trans (by omega) hJ.size)) hvl (HTB.out.next (HB.out.trans (hJ.mono (by omega)))))
    · intro kk bb ff ww hkk hf hd hp hq hJ
      refine .inl ⟨wanted_none rfl, ?_⟩
      obtain ⟨p0, p1, p2, p3, p4, p5, p6, p7, p8, p9, -⟩ := hd
      have q : FEq (.string (stV (vxL (glV vs k)))) (ff 59) ww := p0 rfl
      exact sl_val (ff 59) hJ (by simp only [execOp, ev_tmp _ _ (show 59 < 60 by decide)]; rfl) q
    · intro kk bb ff ww hkk hf hd hp hq hJ
      refine .inl ⟨wanted_none rfl, ?_⟩
      obtain ⟨p0, p1, p2, p3, p4, p5, p6, p7, p8, p9, -⟩ := hd
      exact sl_val (.bool true) hJ (by simp only [execOp, ev_const]; rfl) rfl
  intro ff w3 hf hd hJ
  have hfr : fr 60 ff = #[ff 0, ff 1, ff 2, ff 3, ff 4, ff 5, ff 6, ff 7, ff 8, ff 9, ff 10, ff 11, ff 12, ff 13, ff 14, ff 15, ff 16, ff 17, ff 18, ff 19, ff 20, ff 21, ff 22, ff 23, ff 24, ff 25, ff 26, ff 27, ff 28, ff 29, ff 30, ff 31, ff 32, ff 33, ff 34, ff 35, ff 36, ff 37, ff 38, ff 39, ff 40, ff 41, ff 42, ff 43, ff 44, ff 45, ff 46, ff 47, ff 48, ff 49, ff 50, ff 51, ff 52, ff 53, ff 54, ff 55, ff 56, ff 57, ff 58, ff 59] := rfl
  rw [hfr]; clear hfr
  dsimp only
  have q0_ := hf 0 (by decide)
  have q1_ := hf 1 (by decide)
  have q2_ := hf 2 (by decide)
  have q3_ := hf 3 (by decide)
  have q4_ : FEq (.string (stV (vxL (glV vs k)))) (ff 4) w3 := hd 8 (by decide)
  unfold FEq at q4_
  have q5_ : FEq (.bool true) (ff 5) w3 := hd 9 (by decide)
  unfold FEq at q5_
  have q6_ := hf 6 (by decide)
  have q7_ := hf 7 (by decide)
  have q8_ := hf 8 (by decide)
  have q9_ := hf 9 (by decide)
  have q10_ := hf 10 (by decide)
  have q11_ := hf 11 (by decide)
  have q12_ := hf 12 (by decide)
  have q13_ := hf 13 (by decide)
  have q14_ := hf 14 (by decide)
  have q15_ := hf 15 (by decide)
  have q16_ := hf 16 (by decide)
  have q17_ := hf 17 (by decide)
  have q18_ := hf 18 (by decide)
  have q19_ := hf 19 (by decide)
  have q20_ := hf 20 (by decide)
  have q21_ := hf 21 (by decide)
  have q22_ := hf 22 (by decide)
  have q23_ := hf 23 (by decide)
  have q24_ := hf 24 (by decide)
  have q25_ := hf 25 (by decide)
  have q26_ := hf 26 (by decide)
  have q27_ := hf 27 (by decide)
  have q28_ := hf 28 (by decide)
  have q29_ := hf 29 (by decide)
  have q30_ := hf 30 (by decide)
  have q31_ := hf 31 (by decide)
  have q32_ := hf 32 (by decide)
  have q33_ := hf 33 (by decide)
  have q34_ := hf 34 (by decide)
  have q35_ := hf 35 (by decide)
  have q36_ := hf 36 (by decide)
  have q37_ := hf 37 (by decide)
  have q38_ := hf 38 (by decide)
  have q39_ := hf 39 (by decide)
  have q40_ := hf 40 (by decide)
  have q41_ := hf 41 (by decide)
  have q42_ := hf 42 (by decide)
  have q43_ := hf 43 (by decide)
  have q44_ := hf 44 (by decide)
  have q45_ := hf 45 (by decide)
  have q46_ := hf 46 (by decide)
  have q47_ := hf 47 (by decide)
  have q48_ := hf 48 (by decide)
  have q49_ := hf 49 (by decide)
  have q50_ := hf 50 (by decide)
  have q51_ := hf 51 (by decide)
  have q52_ : FEq (.pointer (some ⟨w.heap.size, 5, none⟩)) (ff 52) w3 := hd 0 (by decide)
  unfold FEq at q52_
  have q53_ : FEq (.slice (some ⟨b8, off, none⟩) vs.length c) (ff 53) w3 := hd 1 (by decide)
  unfold FEq at q53_
  have q54_ : FEq (.string (stV dg)) (ff 54) w3 := hd 2 (by decide)
  unfold FEq at q54_
  have q55_ : FEq (.int .u8 (g0.toNat : Int)) (ff 55) w3 := hd 3 (by decide)
  unfold FEq at q55_
  have q56_ : FEq (.int .u8 (k : Int)) (ff 56) w3 := hd 4 (by decide)
  unfold FEq at q56_
  have q57_ : FEq (.pointer (some ⟨b8, off + k, none⟩)) (ff 57) w3 := hd 5 (by decide)
  unfold FEq at q57_
  have q58_ : FEq (.slice C8 (glV vs k).length d8) (ff 58) w3 := hd 6 (by decide)
  unfold FEq at q58_
  have q59_ : FEq (.string (stV (vxL (glV vs k)))) (ff 59) w3 := hd 7 (by decide)
  unfold FEq at q59_
  simp only [Array.getD_eq_getD_getElem?, List.getElem?_toArray, List.getElem?_cons_zero, List.getElem?_cons_succ, Option.getD_some] at q0_ q1_ q2_ q3_ q6_ q7_ q8_ q9_ q10_ q11_ q12_ q13_ q14_ q15_ q16_ q17_ q18_ q19_ q20_ q21_ q22_ q23_ q24_ q25_ q26_ q27_ q28_ q29_ q30_ q31_ q32_ q33_ q34_ q35_ q36_ q37_ q38_ q39_ q40_ q41_ q42_ q43_ q44_ q45_ q46_ q47_ q48_ q49_ q50_ q51_
  rw [q0_, q1_, q2_, q3_, q4_, q5_, q6_, q7_, q8_, q9_, q10_, q11_, q12_, q13_, q14_, q15_, q16_, q17_, q18_, q19_, q20_, q21_, q22_, q23_, q24_, q25_, q26_, q27_, q28_, q29_, q30_, q31_, q32_, q33_, q34_, q35_, q36_, q37_, q38_, q39_, q40_, q41_, q42_, q43_, q44_, q45_, q46_, q47_, q48_, q49_, q50_, q51_, q52_, q53_, q54_, q55_, q56_, q57_, q58_, q59_]
  clear q0_ q1_ q2_ q3_ q4_ q5_ q6_ q7_ q8_ q9_ q10_ q11_ q12_ q13_ q14_ q15_ q16_ q17_ q18_ q19_ q20_ q21_ q22_ q23_ q24_ q25_ q26_ q27_ q28_ q29_ q30_ q31_ q32_ q33_ q34_ q35_ q36_ q37_ q38_ q39_ q40_ q41_ q42_ q43_ q44_ q45_ q46_ q47_ q48_ q49_ q50_ q51_ q52_ q53_ q54_ q55_ q56_ q57_ q58_ q59_ hf hd
  clear ff
  have b_ : Below _ _ w3 := hJ
  clear hJ
  have HB8 := Lib.hid (HB.out.trans (b_.mono (by omega)))
  clear b_ c0 c1 c2 c3 c4 c5
  go_wp2_with fail
  go_ret2
  exact ⟨ret_la (by rw [HA.out]; rfl) (by rw [HA.out]; rfl), HB8.out⟩
end Go.Proofs.YtmodpleonhniaaaGreatDoor
