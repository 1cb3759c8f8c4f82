/- The walk of FnExactSongLine: it returns true. Condition: the table of powers of ten is laid (Tb). -/
import Derived.Test.YtopdgkhmeglflaaDoorRecSong2
import Derived.Test.YtopdgkhmeglflaaDoorSln
import Derived.Test.YtopdgkhmeglflaaDoorSll
import Derived.Test.YtopdgkhmeglflaaDoorOpenSong
namespace Go.Proofs.YtopdgkhmeglflaaDoor.fnExactSongLine
open Go.RowKit
set_option linter.unusedSimpArgs false
set_option linter.unusedVariables false
set_option maxHeartbeats 4000000 in
theorem core (f : Int) (m : Bool) (b u : Int) (C A : Option Addr) (d c : Nat) (ts : List (Int × Int)) (vs : List (List Nt)) (l : List UInt8) (w : World) (hT : RdTempo w w.heap.size C ts) (hV : RdVs w w.heap.size A vs) (h_2 : ts.length + vs.length + totV vs ≤ 1048576) (hl : l.length ≤ 1048576) (htb : Tb w) :
    Calls Tryd.prog 3 #[.agg #[.int .i64 f, .bool m, .int .i64 b, .int .i64 u, .slice C ts.length d, .slice A vs.length c], .string (stV l)] w (RetB w true) := by
  have HTB := Lib.hid htb; clear htb
  have hlt : ts.length ≤ 1048576 := by omega
  have hlv : LenV vs := len_of_tot (n := 1048576) (by omega)
  have hd9 : decide ((1048576 : Int) - (ts.length : Int) - (vs.length : Int) - (totV vs : Int) < 0) = false := decide_eq_false (by omega)
  generalize hGL : lnL f b u ts vs l = L9 at *
  have HG := Lib.hid hGL; clear hGL
  have hzl := stV_size l
  have e9 : ((stV L9).toList != (stV L9).toList) = false := by simp
  have HK := Lib.hid (Blk.new w 27 #[.int .i64 f, .bool m, .int .i64 b, .int .i64 u, .slice C ts.length d, .slice A vs.length c])
  have HT := Lib.hid (RdTempo.more (RdTempo.al hT (Nat.le_refl _) (.cells #[.int .i64 f, .bool m, .int .i64 b, .int .i64 u, .slice C ts.length d, .slice A vs.length c] 27)) (show w.heap.size ≤ (w.alloc (.cells #[.int .i64 f, .bool m, .int .i64 b, .int .i64 u, .slice C ts.length d, .slice A vs.length c] 27)).heap.size by simp))
  have HV := Lib.hid (RdVs.more (RdVs.al hV (Nat.le_refl _) (.cells #[.int .i64 f, .bool m, .int .i64 b, .int .i64 u, .slice C ts.length d, .slice A vs.length c] 27)) (show w.heap.size ≤ (w.alloc (.cells #[.int .i64 f, .bool m, .int .i64 b, .int .i64 u, .slice C ts.length d, .slice A vs.length c] 27)).heap.size by simp))
  have HB := Lib.hid ((Below.refl w.heap.size w).alloc (Nat.le_refl _) (.cells #[.int .i64 f, .bool m, .int .i64 b, .int .i64 u, .slice C ts.length d, .slice A vs.length c] 27))
  have z0 : w.heap.size + 1 ≤ (w.alloc (.cells #[.int .i64 f, .bool m, .int .i64 b, .int .i64 u, .slice C ts.length d, .slice A vs.length c] 27)).heap.size := by simp
  clear hT hV
  go_enter Tryd.func3, Tryd.ntmps3
  go_upto_region 1 with fail
  generalize w.alloc (.cells #[.int .i64 f, .bool m, .int .i64 b, .int .i64 u, .slice C ts.length d, .slice A vs.length c] 27) = w0 at *
  have c0 := HK.out.cell 0; have c1 := HK.out.cell 1; have c2 := HK.out.cell 2; have c3 := HK.out.cell 3; have c4 := HK.out.cell 4; have c5 := HK.out.cell 5
  go_wp2_with fail
  refine (laws_szSong f m b u C A d c ts vs _ HT.out HV.out hlt hlv 1048576 (by omega) (by omega)).mono ?_
  rintro e w1 ⟨rfl, b1⟩
  have z1 := b1.size
  clear c0 c1 c2 c3 c4 c5
  replace HK := Lib.hid (HK.out.below b1 (by omega)); replace HT := Lib.hid (RdTempo.more (RdTempo.below HT.out b1 (by omega)) z1); replace HV := Lib.hid (RdVs.more (RdVs.below HV.out b1 (by omega)) z1); replace HB := Lib.hid (HB.out.trans (b1.mono (by omega)))
  clear b1
  have c0 := HK.out.cell 0; have c1 := HK.out.cell 1; have c2 := HK.out.cell 2; have c3 := HK.out.cell 3; have c4 := HK.out.cell 4; have c5 := HK.out.cell 5
  go_wp2_with fail
  refine (laws_toSong f m b u C A d c ts vs _ HT.out HV.out hlt hlv).mono ?_
  rintro e w2 ⟨CC2, AA2, dd2, cc2, mid2, hs2, rfl, o2, b2⟩
  have z2 := b2.size
  clear c0 c1 c2 c3 c4 c5
  replace HK := Lib.hid (HK.out.below b2 (by omega)); replace HT := Lib.hid (RdTempo.more (RdTempo.below HT.out b2 (by omega)) z2); replace HV := Lib.hid (RdVs.more (RdVs.below HV.out b2 (by omega)) z2); replace HB := Lib.hid (HB.out.trans (b2.mono (by omega)))
  clear b2
  have c0 := HK.out.cell 0; have c1 := HK.out.cell 1; have c2 := HK.out.cell 2; have c3 := HK.out.cell 3; have c4 := HK.out.cell 4; have c5 := HK.out.cell 5
  have HS1 := Lib.hid o2; clear o2
  go_wp2_with fail
  refine (spec_SongLine f m b u _ _ _ _ ts vs l _ (HS1.out.rdT (by omega)) (HS1.out.rdV (by omega)) hlt hlv hl).mono ?_
  rw [HG.out]
  rintro e w3 ⟨rfl, b3⟩
  have z3 := b3.size
  replace HS1 := Lib.hid (HS1.out.below b3 (by omega))
  clear c0 c1 c2 c3 c4 c5
  replace HK := Lib.hid (HK.out.below b3 (by omega)); replace HT := Lib.hid (RdTempo.more (RdTempo.below HT.out b3 (by omega)) z3); replace HV := Lib.hid (RdVs.more (RdVs.below HV.out b3 (by omega)) z3); replace HB := Lib.hid (HB.out.trans (b3.mono (by omega)))
  clear b3
  have c0 := HK.out.cell 0; have c1 := HK.out.cell 1; have c2 := HK.out.cell 2; have c3 := HK.out.cell 3; have c4 := HK.out.cell 4; have c5 := HK.out.cell 5
  clear HS1
  go_wp2_with fail
  refine (laws_toSong f m b u C A d c ts vs _ HT.out HV.out hlt hlv).mono ?_
  rintro e w4 ⟨CC4, AA4, dd4, cc4, mid4, hs4, rfl, o4, b4⟩
  have z4 := b4.size
  clear c0 c1 c2 c3 c4 c5
  replace HK := Lib.hid (HK.out.below b4 (by omega)); replace HT := Lib.hid (RdTempo.more (RdTempo.below HT.out b4 (by omega)) z4); replace HV := Lib.hid (RdVs.more (RdVs.below HV.out b4 (by omega)) z4); replace HB := Lib.hid (HB.out.trans (b4.mono (by omega)))
  clear b4
  have c0 := HK.out.cell 0; have c1 := HK.out.cell 1; have c2 := HK.out.cell 2; have c3 := HK.out.cell 3; have c4 := HK.out.cell 4; have c5 := HK.out.cell 5
  have HX := Lib.hid o4; clear o4
  have b5 : Below w4.heap.size w4 (w4.alloc (.cells #[.int .i64 f, .bool m, .int .i64 b, .int .i64 u, .slice CC4 ts.length dd4, .slice AA4 vs.length cc4] 34)) := (Below.refl _ _).alloc (Nat.le_refl _) _
  have z5 : w4.heap.size + 1 ≤ (w4.alloc (.cells #[.int .i64 f, .bool m, .int .i64 b, .int .i64 u, .slice CC4 ts.length dd4, .slice AA4 vs.length cc4] 34)).heap.size := by simp
  have HQ := Lib.hid (Blk.new w4 34 #[.int .i64 f, .bool m, .int .i64 b, .int .i64 u, .slice CC4 ts.length dd4, .slice AA4 vs.length cc4])
  replace HX := Lib.hid (HX.out.below b5 (by omega))
  clear c0 c1 c2 c3 c4 c5
  replace HK := Lib.hid (HK.out.below b5 (by omega)); replace HT := Lib.hid (RdTempo.more (RdTempo.below HT.out b5 (by omega)) (show w4.heap.size ≤ (w4.alloc (.cells #[.int .i64 f, .bool m, .int .i64 b, .int .i64 u, .slice CC4 ts.length dd4, .slice AA4 vs.length cc4] 34)).heap.size by omega)); replace HV := Lib.hid (RdVs.more (RdVs.below HV.out b5 (by omega)) (show w4.heap.size ≤ (w4.alloc (.cells #[.int .i64 f, .bool m, .int .i64 b, .int .i64 u, .slice CC4 ts.length dd4, .slice AA4 vs.length cc4] 34)).heap.size by omega)); replace HB := Lib.hid (HB.out.trans (b5.mono (by omega)))
  clear b5
  go_upto_region 9 with fail
  generalize (w4.alloc (.cells #[.int .i64 f, .bool m, .int .i64 b, .int .i64 u, .slice CC4 ts.length dd4, .slice AA4 vs.length cc4] 34)) = w5 at *
  have c0 := HK.out.cell 0; have c1 := HK.out.cell 1; have c2 := HK.out.cell 2; have c3 := HK.out.cell 3; have c4 := HK.out.cell 4; have c5 := HK.out.cell 5
  have x0 := HQ.out.cell 0; have x1 := HQ.out.cell 1; have x2 := HQ.out.cell 2; have x3 := HQ.out.cell 3; have x4 := HQ.out.cell 4; have x5 := HQ.out.cell 5
  go_wp2_with fail
  refine (impl_SongLine f m b u _ _ _ _ ts vs l _ (HX.out.rdT (by omega)) (HX.out.rdV (by omega)) hlt hlv hl (HTB.out.next HB.out)).mono ?_
  rw [HG.out]
  rintro e w6 ⟨rfl, b6⟩
  have z6 := b6.size
  replace HX := Lib.hid (HX.out.below b6 (by omega))
  replace HQ := Lib.hid (HQ.out.below b6 (by omega))
  clear x0 x1 x2 x3 x4 x5
  clear c0 c1 c2 c3 c4 c5
  replace HK := Lib.hid (HK.out.below b6 (by omega)); replace HT := Lib.hid (RdTempo.more (RdTempo.below HT.out b6 (by omega)) z6); replace HV := Lib.hid (RdVs.more (RdVs.below HV.out b6 (by omega)) z6); replace HB := Lib.hid (HB.out.trans (b6.mono (by omega)))
  clear b6
  have c0 := HK.out.cell 0; have c1 := HK.out.cell 1; have c2 := HK.out.cell 2; have c3 := HK.out.cell 3; have c4 := HK.out.cell 4; have c5 := HK.out.cell 5
  have x0 := HQ.out.cell 0; have x1 := HQ.out.cell 1; have x2 := HQ.out.cell 2; have x3 := HQ.out.cell 3; have x4 := HQ.out.cell 4; have x5 := HQ.out.cell 5
  go_wp2_with fail
  go_region_held3 (fun w' => w'.cell? ⟨w4.heap.size, 0, none⟩ = some (.int .i64 f) ∧ w'.cell? ⟨w4.heap.size, 1, none⟩ = some (.bool m) ∧ w'.cell? ⟨w4.heap.size, 2, none⟩ = some (.int .i64 b) ∧ w'.cell? ⟨w4.heap.size, 3, none⟩ = some (.int .i64 u) ∧ w'.cell? ⟨w4.heap.size, 4, none⟩ = some (.slice CC4 ts.length dd4) ∧ w'.cell? ⟨w4.heap.size, 5, none⟩ = some (.slice AA4 vs.length cc4) ∧ w'.cell? ⟨w.heap.size, 0, none⟩ = some (.int .i64 f) ∧ w'.cell? ⟨w.heap.size, 1, none⟩ = some (.bool m) ∧ w'.cell? ⟨w.heap.size, 2, none⟩ = some (.int .i64 b) ∧ w'.cell? ⟨w.heap.size, 3, none⟩ = some (.int .i64 u) ∧ w'.cell? ⟨w.heap.size, 4, none⟩ = some (.slice C ts.length d) ∧ w'.cell? ⟨w.heap.size, 5, none⟩ = some (.slice A vs.length c)) (first | exact ⟨HQ.out.cell 0, HQ.out.cell 1, HQ.out.cell 2, HQ.out.cell 3, HQ.out.cell 4, HQ.out.cell 5, HK.out.cell 0, HK.out.cell 1, HK.out.cell 2, HK.out.cell 3, HK.out.cell 4, HK.out.cell 5⟩ | exact ⟨KX7.out.cell 0, KX7.out.cell 1, KX7.out.cell 2, KX7.out.cell 3, KX7.out.cell 4, KX7.out.cell 5, K7.out.cell 0, K7.out.cell 1, K7.out.cell 2, K7.out.cell 3, K7.out.cell 4, K7.out.cell 5⟩ | exact ⟨KX8.out.cell 0, KX8.out.cell 1, KX8.out.cell 2, KX8.out.cell 3, KX8.out.cell 4, KX8.out.cell 5, K8.out.cell 0, K8.out.cell 1, K8.out.cell 2, K8.out.cell 3, K8.out.cell 4, K8.out.cell 5⟩) (first | (go_at_call 6; refine (laws_toSong f m b u C A d c ts vs _ (show RdTempo w6.drew w6.drew.heap.size C ts from HT.out) (show RdVs w6.drew w6.drew.heap.size A vs from HV.out) hlt hlv).mono ?_; rintro e w7 ⟨CC7, AA7, dd7, cc7, mid7, hs7, rfl, o7, b7⟩; have z7 : w6.heap.size ≤ w7.heap.size := b7.size; have sd : w6.drew.heap.size = w6.heap.size := rfl; have KX7 := Lib.hid (HQ.out.drew.below b7 (by omega)); have K7 := Lib.hid (HK.out.drew.below b7 (by omega)); have SX7 := Lib.hid (HX.out.below (below_drew_left b7) (by omega)); have SO7 := Lib.hid o7) | (go_at_call 8; refine (laws_eqSong f m b u _ _ _ _ _ _ _ _ ts vs _ (SX7.out.rdT (by omega)) (SX7.out.rdV (by omega)) (SO7.out.rdT (Nat.le_refl _)) (SO7.out.rdV (Nat.le_refl _)) hlt hlv).mono ?_; rintro e w8 ⟨rfl, b8⟩; have z8 : w7.heap.size ≤ w8.heap.size := b8.size; have KX8 := Lib.hid (KX7.out.below b8 (by omega)); have K8 := Lib.hid (K7.out.below b8 (by omega))))
  have bb : Below w6.heap.size w6 w8 := (below_drew_left b7).trans (b8.mono (by omega))
  have zz8 := bb.size
  clear b7 b8 o7 SX7 SO7 KX7 K7 KX8 K8
  replace HX := Lib.hid (HX.out.below bb (by omega))
  replace HQ := Lib.hid (HQ.out.below bb (by omega))
  clear x0 x1 x2 x3 x4 x5
  clear c0 c1 c2 c3 c4 c5
  replace HK := Lib.hid (HK.out.below bb (by omega)); replace HT := Lib.hid (RdTempo.more (RdTempo.below HT.out bb (by omega)) zz8); replace HV := Lib.hid (RdVs.more (RdVs.below HV.out bb (by omega)) zz8); replace HB := Lib.hid (HB.out.trans (bb.mono (by omega)))
  clear bb
  have c0 := HK.out.cell 0; have c1 := HK.out.cell 1; have c2 := HK.out.cell 2; have c3 := HK.out.cell 3; have c4 := HK.out.cell 4; have c5 := HK.out.cell 5
  have x0 := HQ.out.cell 0; have x1 := HQ.out.cell 1; have x2 := HQ.out.cell 2; have x3 := HQ.out.cell 3; have x4 := HQ.out.cell 4; have x5 := HQ.out.cell 5
  go_wp2_with fail
  go_ret
  exact ⟨rfl, HB.out⟩
theorem walk (w : World) (f : Int) (m : Bool) (b u : Int) (C A : Option Addr) (d c : Nat) (ts : List (Int × Int)) (vs : List (List Nt)) (hT : RdTempo w w.heap.size C ts) (hV : RdVs w w.heap.size A vs) (m_t : ts.length ≤ maxLen) (m_v : vs.length ≤ maxLen) (m_w : ∀ x ∈ vs, x.length ≤ maxLen) (l : List UInt8) (m_l : l.length ≤ maxLen) (htb : Tb w) :
    Calls Tryd.prog 3 #[.agg #[.int .i64 f, .bool m, .int .i64 b, .int .i64 u, .slice C ts.length d, .slice A vs.length c], .string (stV l)] w (RetB w true) := by
  have hzl := stV_size l
  by_cases hl : l.length ≤ 1048576
  case neg =>
    unfold maxLen at m_l
    clear hT hV
    have HB := Lib.hid ((Below.refl w.heap.size w).alloc (Nat.le_refl _) (.cells #[.int .i64 f, .bool m, .int .i64 b, .int .i64 u, .slice C ts.length d, .slice A vs.length c] 27))
    go_enter Tryd.func3, Tryd.ntmps3
    go_wp2_with fail
    go_ret
    exact ⟨rfl, HB.out⟩
  by_cases l_t : ts.length ≤ 1048576
  case neg =>
    unfold maxLen at m_t
    clear hT hV
    have HB := Lib.hid ((Below.refl w.heap.size w).alloc (Nat.le_refl _) (.cells #[.int .i64 f, .bool m, .int .i64 b, .int .i64 u, .slice C ts.length d, .slice A vs.length c] 27))
    go_enter Tryd.func3, Tryd.ntmps3
    go_wp2_with fail
    refine (laws_szSong_no1 _ _ _ _ _ _ _ _ _ _ _ _ (by omega) (by omega) (by omega)).mono ?_; rintro e w1 ⟨rfl, b1⟩
    replace HB := Lib.hid (HB.out.trans (b1.mono (by simp))); clear b1
    go_wp2_with fail
    go_ret
    exact ⟨rfl, HB.out⟩
  by_cases h_2 : ts.length + vs.length + totV vs ≤ 1048576
  case neg =>
    have HB := Lib.hid ((Below.refl w.heap.size w).alloc (Nat.le_refl _) (.cells #[.int .i64 f, .bool m, .int .i64 b, .int .i64 u, .slice C ts.length d, .slice A vs.length c] 27))
    have HV := Lib.hid (RdVs.more (RdVs.al hV (Nat.le_refl _) (.cells #[.int .i64 f, .bool m, .int .i64 b, .int .i64 u, .slice C ts.length d, .slice A vs.length c] 27)) (show w.heap.size ≤ (w.alloc (.cells #[.int .i64 f, .bool m, .int .i64 b, .int .i64 u, .slice C ts.length d, .slice A vs.length c] 27)).heap.size by simp))
    have HM := Lib.hid m_v; have HW := Lib.hid m_w
    clear hT hV m_v m_w
    go_enter Tryd.func3, Tryd.ntmps3
    go_wp2_with fail
    refine (laws_szSong_no2 _ _ _ _ _ _ _ _ _ vs _ HV.out _ (by omega) (by omega) (by omega) (by omega) HM.out HW.out).mono ?_; rintro e w1 ⟨rfl, b1⟩
    replace HB := Lib.hid (HB.out.trans (b1.mono (by simp))); clear b1
    go_wp2_with fail
    go_ret
    exact ⟨rfl, HB.out⟩
  exact core f m b u C A d c ts vs l w hT hV h_2 hl htb
end Go.Proofs.YtopdgkhmeglflaaDoor.fnExactSongLine
