/- The walk of FnSongLine: it returns true. Condition: at most 2^20 bytes; Go's tables and errors as the initialisers lay them. -/
import Derived.Test.YtmodpleonhniaaaGreatDoorDrawZ
import Derived.Test.YtmodpleonhniaaaGreatDoorSln
import Derived.Test.YtmodpleonhniaaaGreatDoorSll
import Derived.Test.YtmodpleonhniaaaGreatDoorRvx
import Derived.Test.YtmodpleonhniaaaGreatDoorVlw
import Derived.Test.YtmodpleonhniaaaGreatDoorAlive
namespace Go.Proofs.YtmodpleonhniaaaGreatDoor.fnSongLine
open Go.RowKit
set_option linter.unusedSimpArgs false
set_option linter.unusedVariables false
theorem ln_v0 {f b u : Int} {ts : List (Int × Int)} {vs : List (List Nt)} (hs : svB f b u ts vs = true) : lnL f b u ts vs [118, 111, 105, 99, 101, 32, 48] = if 0 < vs.length then vxL (glV vs 0) else [63] := by
  have hv : lnV [118, 111, 105, 99, 101, 32, 48] = 0 := by decide
  unfold lnL laL
  rw [if_pos hs, if_neg (by decide), if_neg (by decide), if_neg (fun h => absurd h.1 (by decide)), hv]
  by_cases h0 : 0 < vs.length
  · rw [if_pos h0, if_pos ⟨by decide, by decide, inR_iff.2 ⟨by omega, by omega⟩⟩]; rfl
  · rw [if_neg h0, if_neg (fun h => by have := (inR_iff.1 h.2.2).2; omega)]
theorem ln_x {f b u : Int} {ts : List (Int × Int)} {vs : List (List Nt)} (hs : svB f b u ts vs = true) : lnL f b u ts vs [120] = [63] := by
  unfold lnL laL
  rw [if_pos hs, if_neg (by decide), if_neg (by decide), if_neg (fun h => absurd h.1 (by decide)), if_neg (fun h => absurd h.1 (by decide))]
set_option maxRecDepth 100000 in
set_option maxHeartbeats 4000000 in
theorem core (w : World) (A_z : Option Addr) (c_z : Nat) (z : List Int) (r_z : RdY w w.heap.size A_z z) (f_z : WfY z) (k_z : z.length ≤ c_z) (hbig : z.length ≤ 1048576) (htb : Tb w) (hmx : Mx w) (hes : Es w) :
    Calls Tryz.prog 3 #[.slice A_z z.length c_z] w (RetB w true) := by
  have HTB := Lib.hid htb; have HMX := Lib.hid hmx; have HES := Lib.hid hes; clear htb hmx hes
  have hi1 : (z.length : Int) ≤ 1048576 := by omega
  go_enter Tryz.func3, Tryz.ntmps3
  go_wp2_with fail
  refine (spec_DrawSongLine A_z c_z z w r_z f_z hbig k_z).mono ?_
  rintro e wd ⟨f, m, b, u, C, d, ts, A, c, vs, l, rfl, hl7, hts, hvs, h61, hT, hV, hB⟩
  have hzd := hB.size
  have HK := Lib.hid (Blk.new wd 28 #[.int .i64 f, .bool m, .int .i64 b, .int .i64 u, .slice C ts.length d, .slice A vs.length c])
  have HT := Lib.hid (RdTempo.more (RdTempo.al hT (Nat.le_refl _) (.cells #[.int .i64 f, .bool m, .int .i64 b, .int .i64 u, .slice C ts.length d, .slice A vs.length c] 28)) (show wd.heap.size ≤ (wd.alloc (.cells #[.int .i64 f, .bool m, .int .i64 b, .int .i64 u, .slice C ts.length d, .slice A vs.length c] 28)).heap.size by simp))
  have HV := Lib.hid (RdVs.more (RdVs.al hV (Nat.le_refl _) (.cells #[.int .i64 f, .bool m, .int .i64 b, .int .i64 u, .slice C ts.length d, .slice A vs.length c] 28)) (show wd.heap.size ≤ (wd.alloc (.cells #[.int .i64 f, .bool m, .int .i64 b, .int .i64 u, .slice C ts.length d, .slice A vs.length c] 28)).heap.size by simp))
  have HB := Lib.hid (hB.alloc hzd (.cells #[.int .i64 f, .bool m, .int .i64 b, .int .i64 u, .slice C ts.length d, .slice A vs.length c] 28))
  have z0 : wd.heap.size + 1 ≤ (wd.alloc (.cells #[.int .i64 f, .bool m, .int .i64 b, .int .i64 u, .slice C ts.length d, .slice A vs.length c] 28)).heap.size := by simp
  have hlt : ts.length ≤ 1048576 := by omega
  have HLV : Hid (LenV vs) := Lib.hid ⟨by omega, fun v hv => Nat.le_trans (h61 v hv) (by decide)⟩
  have hll : l.length ≤ 1048576 := by omega
  clear hT hV hB r_z f_z h61
  go_upto_region 4 with fail
  generalize wd.alloc (.cells #[.int .i64 f, .bool m, .int .i64 b, .int .i64 u, .slice C ts.length d, .slice A vs.length c] 28) = w0 at *
  have c0 := HK.out.cell 0; have c1 := HK.out.cell 1; have c2 := HK.out.cell 2; have c3 := HK.out.cell 3; have c4 := HK.out.cell 4; have c5 := HK.out.cell 5
  cases hs : svB f b u ts vs
  · have HG : Hid (lnL f b u ts vs l = []) := Lib.hid (if_neg (by rw [hs]; decide)); have HS := Lib.hid hs; clear hs
    have e9 : ((stV []).toList != (stV []).toList) = false := by simp
    have e8 : ((stV []).toList == []) = true := stV_yes rfl
    go_wp2_with fail
    refine (impl_SongLine f m b u _ _ _ _ ts vs l _ HT.out HV.out hlt HLV.out hll (HTB.out.next HB.out)).mono ?_
    rw [HG.out]
    rintro e w1 ⟨rfl, b1⟩
    have z1 := b1.size
    clear c0 c1 c2 c3 c4 c5
    replace HK := Lib.hid (HK.out.below b1 (by omega)); replace HT := Lib.hid (RdTempo.more (RdTempo.below HT.out b1 (by omega)) z1); replace HV := Lib.hid (RdVs.more (RdVs.below HV.out b1 (by omega)) z1); replace HB := Lib.hid (HB.out.trans (b1.mono (by omega)))
    clear b1
    have c0 := HK.out.cell 0; have c1 := HK.out.cell 1; have c2 := HK.out.cell 2; have c3 := HK.out.cell 3; have c4 := HK.out.cell 4; have c5 := HK.out.cell 5
    go_wp2_with fail
    refine (spec_SongLine f m b u _ _ _ _ ts vs l _ HT.out HV.out hlt HLV.out hll).mono ?_
    rw [HG.out]
    rintro e w2 ⟨rfl, b2⟩
    have z2 := b2.size
    clear c0 c1 c2 c3 c4 c5
    replace HK := Lib.hid (HK.out.below b2 (by omega)); replace HT := Lib.hid (RdTempo.more (RdTempo.below HT.out b2 (by omega)) z2); replace HV := Lib.hid (RdVs.more (RdVs.below HV.out b2 (by omega)) z2); replace HB := Lib.hid (HB.out.trans (b2.mono (by omega)))
    clear b2
    have c0 := HK.out.cell 0; have c1 := HK.out.cell 1; have c2 := HK.out.cell 2; have c3 := HK.out.cell 3; have c4 := HK.out.cell 4; have c5 := HK.out.cell 5
    go_wp2_with fail
    refine (spec_SongValid f m b u _ _ _ _ ts vs _ HT.out HV.out hlt HLV.out).mono ?_
    rw [HS.out]
    rintro e w3 ⟨rfl, b3⟩
    have z3 := b3.size
    clear c0 c1 c2 c3 c4 c5
    replace HK := Lib.hid (HK.out.below b3 (by omega)); replace HT := Lib.hid (RdTempo.more (RdTempo.below HT.out b3 (by omega)) z3); replace HV := Lib.hid (RdVs.more (RdVs.below HV.out b3 (by omega)) z3); replace HB := Lib.hid (HB.out.trans (b3.mono (by omega)))
    clear b3
    have c0 := HK.out.cell 0; have c1 := HK.out.cell 1; have c2 := HK.out.cell 2; have c3 := HK.out.cell 3; have c4 := HK.out.cell 4; have c5 := HK.out.cell 5
    go_wp2_with fail
    refine (laws_alive _).mono ?_
    rintro e w4 ⟨rfl, b4⟩
    have z4 := b4.size
    clear c0 c1 c2 c3 c4 c5
    replace HK := Lib.hid (HK.out.below b4 (by omega)); replace HT := Lib.hid (RdTempo.more (RdTempo.below HT.out b4 (by omega)) z4); replace HV := Lib.hid (RdVs.more (RdVs.below HV.out b4 (by omega)) z4); replace HB := Lib.hid (HB.out.trans (b4.mono (by omega)))
    clear b4
    have c0 := HK.out.cell 0; have c1 := HK.out.cell 1; have c2 := HK.out.cell 2; have c3 := HK.out.cell 3; have c4 := HK.out.cell 4; have c5 := HK.out.cell 5
    go_wp2_with fail
    go_ret
    exact ⟨rfl, HB.out⟩
  have HG0 := Lib.hid (ln_v0 hs); have HGX := Lib.hid (ln_x hs)
  have HS := Lib.hid hs
  have HA := Lib.hid (svB_iff.1 hs).2.2.2.2
  clear hs
  generalize hG : lnL f b u ts vs l = L9 at *
  have HG := Lib.hid hG; clear hG
  have e9 : ((stV L9).toList != (stV L9).toList) = false := by simp
  have e7 : ((stV [63]).toList == [63]) = true := stV_yes rfl
  go_wp2_with fail
  refine (impl_SongLine f m b u _ _ _ _ ts vs l _ HT.out HV.out hlt HLV.out hll (HTB.out.next HB.out)).mono ?_
  rw [HG.out]
  rintro e w1 ⟨rfl, b1⟩
  have z1 := b1.size
  clear c0 c1 c2 c3 c4 c5
  replace HK := Lib.hid (HK.out.below b1 (by omega)); replace HT := Lib.hid (RdTempo.more (RdTempo.below HT.out b1 (by omega)) z1); replace HV := Lib.hid (RdVs.more (RdVs.below HV.out b1 (by omega)) z1); replace HB := Lib.hid (HB.out.trans (b1.mono (by omega)))
  clear b1
  have c0 := HK.out.cell 0; have c1 := HK.out.cell 1; have c2 := HK.out.cell 2; have c3 := HK.out.cell 3; have c4 := HK.out.cell 4; have c5 := HK.out.cell 5
  go_wp2_with fail
  refine (spec_SongLine f m b u _ _ _ _ ts vs l _ HT.out HV.out hlt HLV.out hll).mono ?_
  rw [HG.out]
  rintro e w2 ⟨rfl, b2⟩
  have z2 := b2.size
  clear c0 c1 c2 c3 c4 c5
  replace HK := Lib.hid (HK.out.below b2 (by omega)); replace HT := Lib.hid (RdTempo.more (RdTempo.below HT.out b2 (by omega)) z2); replace HV := Lib.hid (RdVs.more (RdVs.below HV.out b2 (by omega)) z2); replace HB := Lib.hid (HB.out.trans (b2.mono (by omega)))
  clear b2
  have c0 := HK.out.cell 0; have c1 := HK.out.cell 1; have c2 := HK.out.cell 2; have c3 := HK.out.cell 3; have c4 := HK.out.cell 4; have c5 := HK.out.cell 5
  go_wp2_with fail
  refine (spec_SongValid f m b u _ _ _ _ ts vs _ HT.out HV.out hlt HLV.out).mono ?_
  rw [HS.out]
  rintro e w3 ⟨rfl, b3⟩
  have z3 := b3.size
  clear c0 c1 c2 c3 c4 c5
  replace HK := Lib.hid (HK.out.below b3 (by omega)); replace HT := Lib.hid (RdTempo.more (RdTempo.below HT.out b3 (by omega)) z3); replace HV := Lib.hid (RdVs.more (RdVs.below HV.out b3 (by omega)) z3); replace HB := Lib.hid (HB.out.trans (b3.mono (by omega)))
  clear b3
  have c0 := HK.out.cell 0; have c1 := HK.out.cell 1; have c2 := HK.out.cell 2; have c3 := HK.out.cell 3; have c4 := HK.out.cell 4; have c5 := HK.out.cell 5
  by_cases h0 : 0 < vs.length
  case neg =>
    have HR : Hid (lnL f b u ts vs [118, 111, 105, 99, 101, 32, 48] = [63]) := Lib.hid (by rw [HG0.out, if_neg h0])
    have hz0 : ((vs.length : Int) == 0) = true := by rw [show vs.length = 0 by omega]; rfl
    clear HG0
    go_wp2_with fail
    refine (impl_SongLine f m b u _ _ _ _ ts vs [118, 111, 105, 99, 101, 32, 48] _ HT.out HV.out hlt HLV.out (by decide) (HTB.out.next HB.out)).mono ?_
    rw [HR.out]
    rintro e w4 ⟨rfl, b4⟩
    have z4 := b4.size
    clear c0 c1 c2 c3 c4 c5
    replace HK := Lib.hid (HK.out.below b4 (by omega)); replace HT := Lib.hid (RdTempo.more (RdTempo.below HT.out b4 (by omega)) z4); replace HV := Lib.hid (RdVs.more (RdVs.below HV.out b4 (by omega)) z4); replace HB := Lib.hid (HB.out.trans (b4.mono (by omega)))
    clear b4
    have c0 := HK.out.cell 0; have c1 := HK.out.cell 1; have c2 := HK.out.cell 2; have c3 := HK.out.cell 3; have c4 := HK.out.cell 4; have c5 := HK.out.cell 5
    go_wp2_with fail
    refine (impl_ReadVoice_q _ (HMX.out.next HB.out) (HES.out.next HB.out)).mono ?_
    rintro e w5 ⟨rfl, b5⟩
    have z5 := b5.size
    clear c0 c1 c2 c3 c4 c5
    replace HK := Lib.hid (HK.out.below b5 (by omega)); replace HT := Lib.hid (RdTempo.more (RdTempo.below HT.out b5 (by omega)) z5); replace HV := Lib.hid (RdVs.more (RdVs.below HV.out b5 (by omega)) z5); replace HB := Lib.hid (HB.out.trans (b5.mono (by omega)))
    clear b5
    have c0 := HK.out.cell 0; have c1 := HK.out.cell 1; have c2 := HK.out.cell 2; have c3 := HK.out.cell 3; have c4 := HK.out.cell 4; have c5 := HK.out.cell 5
    go_wp2_with fail
    refine (impl_SongLine f m b u _ _ _ _ ts vs [120] _ HT.out HV.out hlt HLV.out (by decide) (HTB.out.next HB.out)).mono ?_
    rw [HGX.out]
    rintro e w6 ⟨rfl, b6⟩
    have z6 := b6.size
    clear c0 c1 c2 c3 c4 c5
    replace HK := Lib.hid (HK.out.below b6 (by omega)); replace HT := Lib.hid (RdTempo.more (RdTempo.below HT.out b6 (by omega)) z6); replace HV := Lib.hid (RdVs.more (RdVs.below HV.out b6 (by omega)) z6); replace HB := Lib.hid (HB.out.trans (b6.mono (by omega)))
    clear b6
    have c0 := HK.out.cell 0; have c1 := HK.out.cell 1; have c2 := HK.out.cell 2; have c3 := HK.out.cell 3; have c4 := HK.out.cell 4; have c5 := HK.out.cell 5
    go_wp2_with fail
    go_ret
    exact ⟨rfl, HB.out⟩
  have HR : Hid (lnL f b u ts vs [118, 111, 105, 99, 101, 32, 48] = vxL (glV vs 0)) := Lib.hid (by rw [HG0.out, if_pos h0])
  have HV0 := Lib.hid (HA.out 0 h0)
  have hz0 : ((vs.length : Int) == 0) = false := beq_false_of_ne (by omega)
  have hz1 : ((0 : Int) < (vs.length : Int)) = True := eq_true (by omega)
  clear HG0
  go_wp2_with fail
  refine (impl_SongLine f m b u _ _ _ _ ts vs [118, 111, 105, 99, 101, 32, 48] _ HT.out HV.out hlt HLV.out (by decide) (HTB.out.next HB.out)).mono ?_
  rw [HR.out]
  rintro e w4 ⟨rfl, b4⟩
  have z4 := b4.size
  clear c0 c1 c2 c3 c4 c5
  replace HK := Lib.hid (HK.out.below b4 (by omega)); replace HT := Lib.hid (RdTempo.more (RdTempo.below HT.out b4 (by omega)) z4); replace HV := Lib.hid (RdVs.more (RdVs.below HV.out b4 (by omega)) z4); replace HB := Lib.hid (HB.out.trans (b4.mono (by omega)))
  clear b4
  have c0 := HK.out.cell 0; have c1 := HK.out.cell 1; have c2 := HK.out.cell 2; have c3 := HK.out.cell 3; have c4 := HK.out.cell 4; have c5 := HK.out.cell 5
  go_wp2_with fail
  refine (impl_ReadVoice (glV vs 0) _ HV0.out (HTB.out.next HB.out) (HMX.out.next HB.out)).mono ?_
  rintro e w20 ⟨A20, c20, rfl, o20, b20⟩
  have z20 := b20.size
  have RW := Lib.hid (Row.mk_ o20); clear o20
  clear c0 c1 c2 c3 c4 c5
  replace HK := Lib.hid (HK.out.below b20 (by omega)); replace HT := Lib.hid (RdTempo.more (RdTempo.below HT.out b20 (by omega)) z20); replace HV := Lib.hid (RdVs.more (RdVs.below HV.out b20 (by omega)) z20); replace HB := Lib.hid (HB.out.trans (b20.mono (by omega)))
  clear b20
  have c0 := HK.out.cell 0; have c1 := HK.out.cell 1; have c2 := HK.out.cell 2; have c3 := HK.out.cell 3; have c4 := HK.out.cell 4; have c5 := HK.out.cell 5
  go_wp2_with fail
  refine (impl_SongLine f m b u _ _ _ _ ts vs [120] _ HT.out HV.out hlt HLV.out (by decide) (HTB.out.next HB.out)).mono ?_
  rw [HGX.out]
  rintro e w21 ⟨rfl, b21⟩
  have z21 := b21.size
  replace RW := Lib.hid (RW.out.below b21 (by omega))
  clear c0 c1 c2 c3 c4 c5
  replace HK := Lib.hid (HK.out.below b21 (by omega)); replace HT := Lib.hid (RdTempo.more (RdTempo.below HT.out b21 (by omega)) z21); replace HV := Lib.hid (RdVs.more (RdVs.below HV.out b21 (by omega)) z21); replace HB := Lib.hid (HB.out.trans (b21.mono (by omega)))
  clear b21
  have c0 := HK.out.cell 0; have c1 := HK.out.cell 1; have c2 := HK.out.cell 2; have c3 := HK.out.cell 3; have c4 := HK.out.cell 4; have c5 := HK.out.cell 5
  obtain ⟨b8, off, C8, d8, rfl, hb8, hc8, hn8⟩ := HV.out.at_ (k := 0) h0
  rw [Nat.add_zero] at hc8
  have HN := Lib.hid hn8; clear hn8
  have HNX : Hid (RdNote w21 w21.heap.size A20 (glV vs 0)) := Lib.hid (RdNote.more RW.out.rdR (by omega))
  have HL0 : Hid ((glV vs 0).length ≤ 1048576) := Lib.hid (HLV.out.at_ h0)
  go_wp2_with fail
  refine (laws_sameVoice _ _ _ _ _ (glV vs 0) _ rfl HNX.out HN.out HL0.out).mono ?_
  rintro e w30 ⟨rfl, b30⟩
  replace HB := Lib.hid (HB.out.trans (b30.mono (by omega)))
  clear b30
  go_wp2_with fail
  go_ret
  exact ⟨rfl, HB.out⟩
end Go.Proofs.YtmodpleonhniaaaGreatDoor.fnSongLine
