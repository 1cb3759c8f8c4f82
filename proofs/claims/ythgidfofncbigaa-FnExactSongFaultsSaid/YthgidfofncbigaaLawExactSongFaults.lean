/-
  FnExactSongFaults returns true for every input and leaves its arguments as they were. No condition.
-/
import Derived.Test.YthgidfofncbigaaRecSong2
import Derived.Test.YthgidfofncbigaaFlt
import Derived.Test.YthgidfofncbigaaOpenSong
import Derived.Test.YthgidfofncbigaaFrame
namespace Go.Proofs.Ythgidfofncbigaa.fnExactSongFaults
open Go.ChangeShapes Go.WideShapes Go.ChangeAt Go.RowKit
open Go.ChangeMaps (open_string shut_string)
set_option linter.unusedVariables false

set_option maxHeartbeats 4000000 in
theorem core (f : Int) (m : Bool) (b u : Int) (C A : Option Addr) (d c : Nat) (ts : List (Int × Int)) (vs : List (List Nt)) (w : World) (hT : RdTempo w w.heap.size C ts) (hV : RdVs w w.heap.size A vs) (h_2 : ts.length + vs.length + totV vs ≤ 1048576) :
    Calls Try.prog 6 #[.agg #[.int .i64 f, .bool m, .int .i64 b, .int .i64 u, .slice C ts.length d, .slice A vs.length c]] w (RetB w true) := by
  have hlt : ts.length ≤ 1048576 := by omega
  have hlv : LenV vs := len_of_tot (n := 1048576) (by omega)
  have hd9 : decide ((1048576 : Int) - (ts.length : Int) - (vs.length : Int) - (totV vs : Int) < 0) = false := decide_eq_false (by omega)
  have hl9 : (ftL f b u ts vs).length ≤ 1048576 := by have := ftL_len f b u ts vs; omega
  generalize hGL : ftL f b u ts vs = L9 at *
  have HG := Lib.hid hGL; clear hGL
  have hn9 : decide ((1 : Int) + 2 * (ts.length : Int) + 6 * (totV vs : Int) < 0) = false := decide_eq_false (by omega)
  have hm9 : decide ((1 : Int) + (L9.length : Int) < 0) = false := decide_eq_false (by omega)
  have he9 : ((1 : Int) + (L9.length : Int) != 1 + (L9.length : Int)) = false := by simp
  have HT0 := Lib.hid (RdTempo.al hT (Nat.le_refl _) (.cells #[.int .i64 f, .bool m, .int .i64 b, .int .i64 u, .slice C ts.length d, .slice A vs.length c] 27)); have HV0 := Lib.hid (RdVs.al hV (Nat.le_refl _) (.cells #[.int .i64 f, .bool m, .int .i64 b, .int .i64 u, .slice C ts.length d, .slice A vs.length c] 27))
  have HK := Lib.hid (Blk.new w 27 #[.int .i64 f, .bool m, .int .i64 b, .int .i64 u, .slice C ts.length d, .slice A vs.length c])
  have HT := Lib.hid (RdTempo.more (RdTempo.al hT (Nat.le_refl _) (.cells #[.int .i64 f, .bool m, .int .i64 b, .int .i64 u, .slice C ts.length d, .slice A vs.length c] 27)) (show w.heap.size ≤ (w.alloc (.cells #[.int .i64 f, .bool m, .int .i64 b, .int .i64 u, .slice C ts.length d, .slice A vs.length c] 27)).heap.size by simp))
  have HV := Lib.hid (RdVs.more (RdVs.al hV (Nat.le_refl _) (.cells #[.int .i64 f, .bool m, .int .i64 b, .int .i64 u, .slice C ts.length d, .slice A vs.length c] 27)) (show w.heap.size ≤ (w.alloc (.cells #[.int .i64 f, .bool m, .int .i64 b, .int .i64 u, .slice C ts.length d, .slice A vs.length c] 27)).heap.size by simp))
  have HB := Lib.hid ((Below.refl w.heap.size w).alloc (Nat.le_refl _) (.cells #[.int .i64 f, .bool m, .int .i64 b, .int .i64 u, .slice C ts.length d, .slice A vs.length c] 27))
  have z0 : w.heap.size + 1 ≤ (w.alloc (.cells #[.int .i64 f, .bool m, .int .i64 b, .int .i64 u, .slice C ts.length d, .slice A vs.length c] 27)).heap.size := by simp
  clear hT hV
  go_enter Try.func6, Try.ntmps6
  go_upto_region 1 with fail
  generalize w.alloc (.cells #[.int .i64 f, .bool m, .int .i64 b, .int .i64 u, .slice C ts.length d, .slice A vs.length c] 27) = w0 at *
  have c0 := HK.out.cell 0; have c1 := HK.out.cell 1; have c2 := HK.out.cell 2; have c3 := HK.out.cell 3; have c4 := HK.out.cell 4; have c5 := HK.out.cell 5
  go_wp2_with fail
  refine (laws_szSong f m b u C A d c ts vs _ HT.out HV.out hlt hlv 1048576 (by omega) (by omega)).mono ?_
  rintro e w1 ⟨rfl, b1⟩
  have z1 := b1.size
  clear c0 c1 c2 c3 c4 c5
  replace HK := Lib.hid (HK.out.below b1 (by omega)); replace HT := Lib.hid (RdTempo.more (RdTempo.below HT.out b1 (by omega)) z1); replace HV := Lib.hid (RdVs.more (RdVs.below HV.out b1 (by omega)) z1); replace HB := Lib.hid (HB.out.trans (b1.mono (by omega)))
  replace HT0 := Lib.hid (RdTempo.below HT0.out b1 (by omega)); replace HV0 := Lib.hid (RdVs.below HV0.out b1 (by omega))
  clear b1
  have c0 := HK.out.cell 0; have c1 := HK.out.cell 1; have c2 := HK.out.cell 2; have c3 := HK.out.cell 3; have c4 := HK.out.cell 4; have c5 := HK.out.cell 5
  go_wp2_with fail
  refine (laws_toSong f m b u C A d c ts vs _ HT.out HV.out hlt hlv).mono ?_
  rintro e w2 ⟨CC2, AA2, dd2, cc2, mid2, hs2, rfl, o2, b2⟩
  have z2 := b2.size
  clear c0 c1 c2 c3 c4 c5
  replace HK := Lib.hid (HK.out.below b2 (by omega)); replace HT := Lib.hid (RdTempo.more (RdTempo.below HT.out b2 (by omega)) z2); replace HV := Lib.hid (RdVs.more (RdVs.below HV.out b2 (by omega)) z2); replace HB := Lib.hid (HB.out.trans (b2.mono (by omega)))
  replace HT0 := Lib.hid (RdTempo.below HT0.out b2 (by omega)); replace HV0 := Lib.hid (RdVs.below HV0.out b2 (by omega))
  clear b2
  have c0 := HK.out.cell 0; have c1 := HK.out.cell 1; have c2 := HK.out.cell 2; have c3 := HK.out.cell 3; have c4 := HK.out.cell 4; have c5 := HK.out.cell 5
  have HS1 := Lib.hid o2; clear o2
  go_wp2_with fail
  refine (spec_SongFaults f m b u _ _ _ _ ts vs _ (HS1.out.rdT (by omega)) (HS1.out.rdV (by omega)) hlt hlv).mono ?_
  rw [HG.out]
  rintro e w3 ⟨A3, kc3, rfl, o3, b3⟩
  have z3 := b3.size
  have RW_ := Lib.hid (Row.mk_ o3); clear o3
  replace HS1 := Lib.hid (HS1.out.below b3 (by omega))
  clear c0 c1 c2 c3 c4 c5
  replace HK := Lib.hid (HK.out.below b3 (by omega)); replace HT := Lib.hid (RdTempo.more (RdTempo.below HT.out b3 (by omega)) z3); replace HV := Lib.hid (RdVs.more (RdVs.below HV.out b3 (by omega)) z3); replace HB := Lib.hid (HB.out.trans (b3.mono (by omega)))
  replace HT0 := Lib.hid (RdTempo.below HT0.out b3 (by omega)); replace HV0 := Lib.hid (RdVs.below HV0.out b3 (by omega))
  clear b3
  have c0 := HK.out.cell 0; have c1 := HK.out.cell 1; have c2 := HK.out.cell 2; have c3 := HK.out.cell 3; have c4 := HK.out.cell 4; have c5 := HK.out.cell 5
  have RW := RW_; clear RW_
  clear HS1
  go_wp2_with fail
  refine (laws_toSong f m b u C A d c ts vs _ HT.out HV.out hlt hlv).mono ?_
  rintro e w4 ⟨CC4, AA4, dd4, cc4, mid4, hs4, rfl, o4, b4⟩
  have z4 := b4.size
  replace RW := Lib.hid (RW.out.below b4 (by omega))
  clear c0 c1 c2 c3 c4 c5
  replace HK := Lib.hid (HK.out.below b4 (by omega)); replace HT := Lib.hid (RdTempo.more (RdTempo.below HT.out b4 (by omega)) z4); replace HV := Lib.hid (RdVs.more (RdVs.below HV.out b4 (by omega)) z4); replace HB := Lib.hid (HB.out.trans (b4.mono (by omega)))
  replace HT0 := Lib.hid (RdTempo.below HT0.out b4 (by omega)); replace HV0 := Lib.hid (RdVs.below HV0.out b4 (by omega))
  clear b4
  have c0 := HK.out.cell 0; have c1 := HK.out.cell 1; have c2 := HK.out.cell 2; have c3 := HK.out.cell 3; have c4 := HK.out.cell 4; have c5 := HK.out.cell 5
  have HX := Lib.hid o4; clear o4
  have b5 : Below w4.heap.size w4 (w4.alloc (.cells #[.int .i64 f, .bool m, .int .i64 b, .int .i64 u, .slice CC4 ts.length dd4, .slice AA4 vs.length cc4] 34)) := (Below.refl _ _).alloc (Nat.le_refl _) _
  have z5 : w4.heap.size + 1 ≤ (w4.alloc (.cells #[.int .i64 f, .bool m, .int .i64 b, .int .i64 u, .slice CC4 ts.length dd4, .slice AA4 vs.length cc4] 34)).heap.size := by simp
  have HQ := Lib.hid (Blk.new w4 34 #[.int .i64 f, .bool m, .int .i64 b, .int .i64 u, .slice CC4 ts.length dd4, .slice AA4 vs.length cc4])
  replace HX := Lib.hid (HX.out.below b5 (by omega))
  replace RW := Lib.hid (RW.out.below b5 (by omega))
  clear c0 c1 c2 c3 c4 c5
  replace HK := Lib.hid (HK.out.below b5 (by omega)); replace HT := Lib.hid (RdTempo.more (RdTempo.below HT.out b5 (by omega)) (show w4.heap.size ≤ (w4.alloc (.cells #[.int .i64 f, .bool m, .int .i64 b, .int .i64 u, .slice CC4 ts.length dd4, .slice AA4 vs.length cc4] 34)).heap.size by omega)); replace HV := Lib.hid (RdVs.more (RdVs.below HV.out b5 (by omega)) (show w4.heap.size ≤ (w4.alloc (.cells #[.int .i64 f, .bool m, .int .i64 b, .int .i64 u, .slice CC4 ts.length dd4, .slice AA4 vs.length cc4] 34)).heap.size by omega)); replace HB := Lib.hid (HB.out.trans (b5.mono (by omega)))
  replace HT0 := Lib.hid (RdTempo.below HT0.out b5 (by omega)); replace HV0 := Lib.hid (RdVs.below HV0.out b5 (by omega))
  clear b5
  go_upto_region 7 with fail
  generalize (w4.alloc (.cells #[.int .i64 f, .bool m, .int .i64 b, .int .i64 u, .slice CC4 ts.length dd4, .slice AA4 vs.length cc4] 34)) = w5 at *
  have c0 := HK.out.cell 0; have c1 := HK.out.cell 1; have c2 := HK.out.cell 2; have c3 := HK.out.cell 3; have c4 := HK.out.cell 4; have c5 := HK.out.cell 5
  have x0 := HQ.out.cell 0; have x1 := HQ.out.cell 1; have x2 := HQ.out.cell 2; have x3 := HQ.out.cell 3; have x4 := HQ.out.cell 4; have x5 := HQ.out.cell 5
  go_wp2_with fail
  refine (impl_SongFaults f m b u _ _ _ _ ts vs _ (HX.out.rdT (by omega)) (HX.out.rdV (by omega)) hlt hlv).mono ?_
  rw [HG.out]
  rintro e w6 ⟨A6, kc6, rfl, o6, b6⟩
  have z6 := b6.size
  have RG_ := Lib.hid (Row.mk_ o6); clear o6
  replace HX := Lib.hid (HX.out.below b6 (by omega))
  replace HQ := Lib.hid (HQ.out.below b6 (by omega))
  replace RW := Lib.hid (RW.out.below b6 (by omega))
  clear x0 x1 x2 x3 x4 x5
  clear c0 c1 c2 c3 c4 c5
  replace HK := Lib.hid (HK.out.below b6 (by omega)); replace HT := Lib.hid (RdTempo.more (RdTempo.below HT.out b6 (by omega)) z6); replace HV := Lib.hid (RdVs.more (RdVs.below HV.out b6 (by omega)) z6); replace HB := Lib.hid (HB.out.trans (b6.mono (by omega)))
  replace HT0 := Lib.hid (RdTempo.below HT0.out b6 (by omega)); replace HV0 := Lib.hid (RdVs.below HV0.out b6 (by omega))
  clear b6
  have c0 := HK.out.cell 0; have c1 := HK.out.cell 1; have c2 := HK.out.cell 2; have c3 := HK.out.cell 3; have c4 := HK.out.cell 4; have c5 := HK.out.cell 5
  have x0 := HQ.out.cell 0; have x1 := HQ.out.cell 1; have x2 := HQ.out.cell 2; have x3 := HQ.out.cell 3; have x4 := HQ.out.cell 4; have x5 := HQ.out.cell 5
  have RG := RG_; clear RG_
  go_wp2_with fail
  refine (laws_eqIntS _ _ _ _ L9 L9 _ (RG.out.rdI.more (by omega)) (RW.out.rdI.more (by omega)) hl9 hl9).mono ?_
  rw [sameI_refl]
  rintro e w7 ⟨rfl, b7⟩
  have z7 := b7.size
  replace HX := Lib.hid (HX.out.below b7 (by omega))
  replace HQ := Lib.hid (HQ.out.below b7 (by omega))
  replace RW := Lib.hid (RW.out.below b7 (by omega))
  replace RG := Lib.hid (RG.out.below b7 (by omega))
  clear x0 x1 x2 x3 x4 x5
  clear c0 c1 c2 c3 c4 c5
  replace HK := Lib.hid (HK.out.below b7 (by omega)); replace HT := Lib.hid (RdTempo.more (RdTempo.below HT.out b7 (by omega)) z7); replace HV := Lib.hid (RdVs.more (RdVs.below HV.out b7 (by omega)) z7); replace HB := Lib.hid (HB.out.trans (b7.mono (by omega)))
  replace HT0 := Lib.hid (RdTempo.below HT0.out b7 (by omega)); replace HV0 := Lib.hid (RdVs.below HV0.out b7 (by omega))
  clear b7
  have c0 := HK.out.cell 0; have c1 := HK.out.cell 1; have c2 := HK.out.cell 2; have c3 := HK.out.cell 3; have c4 := HK.out.cell 4; have c5 := HK.out.cell 5
  have x0 := HQ.out.cell 0; have x1 := HQ.out.cell 1; have x2 := HQ.out.cell 2; have x3 := HQ.out.cell 3; have x4 := HQ.out.cell 4; have x5 := HQ.out.cell 5
  go_wp2_with fail
  go_region_held3 (fun w' => w'.cell? ⟨w4.heap.size, 0, none⟩ = some (.int .i64 f) ∧ w'.cell? ⟨w4.heap.size, 1, none⟩ = some (.bool m) ∧ w'.cell? ⟨w4.heap.size, 2, none⟩ = some (.int .i64 b) ∧ w'.cell? ⟨w4.heap.size, 3, none⟩ = some (.int .i64 u) ∧ w'.cell? ⟨w4.heap.size, 4, none⟩ = some (.slice CC4 ts.length dd4) ∧ w'.cell? ⟨w4.heap.size, 5, none⟩ = some (.slice AA4 vs.length cc4) ∧ w'.cell? ⟨w.heap.size, 0, none⟩ = some (.int .i64 f) ∧ w'.cell? ⟨w.heap.size, 1, none⟩ = some (.bool m) ∧ w'.cell? ⟨w.heap.size, 2, none⟩ = some (.int .i64 b) ∧ w'.cell? ⟨w.heap.size, 3, none⟩ = some (.int .i64 u) ∧ w'.cell? ⟨w.heap.size, 4, none⟩ = some (.slice C ts.length d) ∧ w'.cell? ⟨w.heap.size, 5, none⟩ = some (.slice A vs.length c)) (first | exact ⟨HQ.out.cell 0, HQ.out.cell 1, HQ.out.cell 2, HQ.out.cell 3, HQ.out.cell 4, HQ.out.cell 5, HK.out.cell 0, HK.out.cell 1, HK.out.cell 2, HK.out.cell 3, HK.out.cell 4, HK.out.cell 5⟩ | exact ⟨KX8.out.cell 0, KX8.out.cell 1, KX8.out.cell 2, KX8.out.cell 3, KX8.out.cell 4, KX8.out.cell 5, K8.out.cell 0, K8.out.cell 1, K8.out.cell 2, K8.out.cell 3, K8.out.cell 4, K8.out.cell 5⟩ | exact ⟨KX9.out.cell 0, KX9.out.cell 1, KX9.out.cell 2, KX9.out.cell 3, KX9.out.cell 4, KX9.out.cell 5, K9.out.cell 0, K9.out.cell 1, K9.out.cell 2, K9.out.cell 3, K9.out.cell 4, K9.out.cell 5⟩) (first | (go_at_call 9; refine (laws_toSong f m b u C A d c ts vs _ (show RdTempo w7.drew w7.drew.heap.size C ts from HT.out) (show RdVs w7.drew w7.drew.heap.size A vs from HV.out) hlt hlv).mono ?_; rintro e w8 ⟨CC8, AA8, dd8, cc8, mid8, hs8, rfl, o8, b8⟩; have z8 : w7.heap.size ≤ w8.heap.size := b8.size; have sd : w7.drew.heap.size = w7.heap.size := rfl; have KX8 := Lib.hid (HQ.out.drew.below b8 (by omega)); have K8 := Lib.hid (HK.out.drew.below b8 (by omega)); have SX8 := Lib.hid (HX.out.below (below_drew_left b8) (by omega)); have SO8 := Lib.hid o8) | (go_at_call 11; refine (laws_eqSong f m b u _ _ _ _ _ _ _ _ ts vs _ (SX8.out.rdT (by omega)) (SX8.out.rdV (by omega)) (SO8.out.rdT (Nat.le_refl _)) (SO8.out.rdV (Nat.le_refl _)) hlt hlv).mono ?_; rintro e w9 ⟨rfl, b9⟩; have z9 : w8.heap.size ≤ w9.heap.size := b9.size; have KX9 := Lib.hid (KX8.out.below b9 (by omega)); have K9 := Lib.hid (K8.out.below b9 (by omega))))
  have bb : Below w7.heap.size w7 w9 := (below_drew_left b8).trans (b9.mono (by omega))
  have zz9 := bb.size
  clear b8 b9 o8 SX8 SO8 KX8 K8 KX9 K9
  replace HX := Lib.hid (HX.out.below bb (by omega))
  replace HQ := Lib.hid (HQ.out.below bb (by omega))
  replace RW := Lib.hid (RW.out.below bb (by omega))
  replace RG := Lib.hid (RG.out.below bb (by omega))
  clear x0 x1 x2 x3 x4 x5
  clear c0 c1 c2 c3 c4 c5
  replace HK := Lib.hid (HK.out.below bb (by omega)); replace HT := Lib.hid (RdTempo.more (RdTempo.below HT.out bb (by omega)) zz9); replace HV := Lib.hid (RdVs.more (RdVs.below HV.out bb (by omega)) zz9); replace HB := Lib.hid (HB.out.trans (bb.mono (by omega)))
  replace HT0 := Lib.hid (RdTempo.below HT0.out bb (by omega)); replace HV0 := Lib.hid (RdVs.below HV0.out bb (by omega))
  clear bb
  have c0 := HK.out.cell 0; have c1 := HK.out.cell 1; have c2 := HK.out.cell 2; have c3 := HK.out.cell 3; have c4 := HK.out.cell 4; have c5 := HK.out.cell 5
  have x0 := HQ.out.cell 0; have x1 := HQ.out.cell 1; have x2 := HQ.out.cell 2; have x3 := HQ.out.cell 3; have x4 := HQ.out.cell 4; have x5 := HQ.out.cell 5
  go_wp2_with fail
  refine (laws_markSong f m b u _ _ _ _ _ _ vs _ 1 _ _ _ _ HX.out (by omega) hlt hlv (by omega) (by omega)).mono ?_
  rintro e w10 ⟨rfl, o10, i10⟩
  have z10 := i10.size
  replace HX := Lib.hid o10; clear o10
  have j10 : Below w.heap.size w9 w10 := i10.below (by omega) (by omega)
  replace RW := Lib.hid (i10.row RW.out (by first | exact .inl (by omega) | exact .inr (by omega)))
  replace RG := Lib.hid (i10.row RG.out (by first | exact .inl (by omega) | exact .inr (by omega)))
  replace HQ := Lib.hid (i10.blk HQ.out (by first | exact .inl (by omega) | exact .inr (by omega)))
  clear x0 x1 x2 x3 x4 x5
  clear c0 c1 c2 c3 c4 c5
  replace HK := Lib.hid (i10.blk HK.out (.inl (by omega)))
  replace HT0 := Lib.hid (RdTempo.below HT0.out j10 (Nat.le_refl _)); replace HV0 := Lib.hid (RdVs.below HV0.out j10 (Nat.le_refl _))
  replace HT := Lib.hid (RdTempo.more HT0.out (show w.heap.size ≤ w10.heap.size by omega)); replace HV := Lib.hid (RdVs.more HV0.out (show w.heap.size ≤ w10.heap.size by omega))
  replace HB := Lib.hid (HB.out.trans j10)
  clear i10 j10
  have c0 := HK.out.cell 0; have c1 := HK.out.cell 1; have c2 := HK.out.cell 2; have c3 := HK.out.cell 3; have c4 := HK.out.cell 4; have c5 := HK.out.cell 5
  have x0 := HQ.out.cell 0; have x1 := HQ.out.cell 1; have x2 := HQ.out.cell 2; have x3 := HQ.out.cell 3; have x4 := HQ.out.cell 4; have x5 := HQ.out.cell 5
  clear x0 x1 x2 x3 x4 x5 HQ
  clear HX
  go_wp2_with fail
  refine (laws_eqIntS _ _ _ _ L9 L9 _ (RG.out.rdI.more (by omega)) (RW.out.rdI.more (by omega)) hl9 hl9).mono ?_
  rw [sameI_refl]
  rintro e w11 ⟨rfl, b11⟩
  have z11 := b11.size
  replace RW := Lib.hid (RW.out.below b11 (by omega))
  replace RG := Lib.hid (RG.out.below b11 (by omega))
  clear c0 c1 c2 c3 c4 c5
  replace HK := Lib.hid (HK.out.below b11 (by omega)); replace HT := Lib.hid (RdTempo.more (RdTempo.below HT.out b11 (by omega)) z11); replace HV := Lib.hid (RdVs.more (RdVs.below HV.out b11 (by omega)) z11); replace HB := Lib.hid (HB.out.trans (b11.mono (by omega)))
  replace HT0 := Lib.hid (RdTempo.below HT0.out b11 (by omega)); replace HV0 := Lib.hid (RdVs.below HV0.out b11 (by omega))
  clear b11
  have c0 := HK.out.cell 0; have c1 := HK.out.cell 1; have c2 := HK.out.cell 2; have c3 := HK.out.cell 3; have c4 := HK.out.cell 4; have c5 := HK.out.cell 5
  go_wp2_with fail
  refine (laws_markIntS _ _ _ _ 1 _ _ RG.out.1 hl9 (by omega) (by omega)).mono ?_
  rintro e w12 ⟨rfl, o12, g12⟩
  have z12 := g12.size
  have hob := fun g e9 => RG.out.ob g e9
  rw [ob_slice] at g12
  have i12 := InB.of_grown g12 hob
  replace RG := Lib.hid (RG.out.self o12); clear hob o12 g12
  have j12 : Below w.heap.size w11 w12 := i12.below (by omega) (by omega)
  replace RW := Lib.hid (i12.row RW.out (by first | exact .inl (by omega) | exact .inr (by omega)))
  clear c0 c1 c2 c3 c4 c5
  replace HK := Lib.hid (i12.blk HK.out (.inl (by omega)))
  replace HT0 := Lib.hid (RdTempo.below HT0.out j12 (Nat.le_refl _)); replace HV0 := Lib.hid (RdVs.below HV0.out j12 (Nat.le_refl _))
  replace HT := Lib.hid (RdTempo.more HT0.out (show w.heap.size ≤ w12.heap.size by omega)); replace HV := Lib.hid (RdVs.more HV0.out (show w.heap.size ≤ w12.heap.size by omega))
  replace HB := Lib.hid (HB.out.trans j12)
  clear i12 j12
  have c0 := HK.out.cell 0; have c1 := HK.out.cell 1; have c2 := HK.out.cell 2; have c3 := HK.out.cell 3; have c4 := HK.out.cell 4; have c5 := HK.out.cell 5
  go_wp2_with fail
  refine (laws_heldIntS _ _ _ 1 _ (Rd.more RG.out.rd (by omega)) hl9 (by omega) (by omega)).mono ?_
  rintro e w' ⟨rfl, rfl⟩
  go_wp2_with fail
  refine (laws_toSong f m b u C A d c ts vs _ HT.out HV.out hlt hlv).mono ?_
  rintro e w13 ⟨CC13, AA13, dd13, cc13, mid13, hs13, rfl, o13, b13⟩
  have z13 := b13.size
  replace RW := Lib.hid (RW.out.below b13 (by omega))
  replace RG := Lib.hid (RG.out.below b13 (by omega))
  clear c0 c1 c2 c3 c4 c5
  replace HK := Lib.hid (HK.out.below b13 (by omega)); replace HT := Lib.hid (RdTempo.more (RdTempo.below HT.out b13 (by omega)) z13); replace HV := Lib.hid (RdVs.more (RdVs.below HV.out b13 (by omega)) z13); replace HB := Lib.hid (HB.out.trans (b13.mono (by omega)))
  replace HT0 := Lib.hid (RdTempo.below HT0.out b13 (by omega)); replace HV0 := Lib.hid (RdVs.below HV0.out b13 (by omega))
  clear b13
  have c0 := HK.out.cell 0; have c1 := HK.out.cell 1; have c2 := HK.out.cell 2; have c3 := HK.out.cell 3; have c4 := HK.out.cell 4; have c5 := HK.out.cell 5
  have HS2 := Lib.hid o13; clear o13
  go_wp2_with fail
  refine (impl_SongFaults f m b u _ _ _ _ ts vs _ (HS2.out.rdT (by omega)) (HS2.out.rdV (by omega)) hlt hlv).mono ?_
  rw [HG.out]
  rintro e w14 ⟨A14, kc14, rfl, o14, b14⟩
  have z14 := b14.size
  have RH_ := Lib.hid (Row.mk_ o14); clear o14
  replace HS2 := Lib.hid (HS2.out.below b14 (by omega))
  replace RW := Lib.hid (RW.out.below b14 (by omega))
  replace RG := Lib.hid (RG.out.below b14 (by omega))
  clear c0 c1 c2 c3 c4 c5
  replace HK := Lib.hid (HK.out.below b14 (by omega)); replace HT := Lib.hid (RdTempo.more (RdTempo.below HT.out b14 (by omega)) z14); replace HV := Lib.hid (RdVs.more (RdVs.below HV.out b14 (by omega)) z14); replace HB := Lib.hid (HB.out.trans (b14.mono (by omega)))
  replace HT0 := Lib.hid (RdTempo.below HT0.out b14 (by omega)); replace HV0 := Lib.hid (RdVs.below HV0.out b14 (by omega))
  clear b14
  have c0 := HK.out.cell 0; have c1 := HK.out.cell 1; have c2 := HK.out.cell 2; have c3 := HK.out.cell 3; have c4 := HK.out.cell 4; have c5 := HK.out.cell 5
  have RH := RH_; clear RH_
  clear HS2
  go_wp2_with fail
  refine (laws_eqIntS _ _ _ _ L9 L9 _ (RH.out.rdI.more (by omega)) (RW.out.rdI.more (by omega)) hl9 hl9).mono ?_
  rw [sameI_refl]
  rintro e w15 ⟨rfl, b15⟩
  have z15 := b15.size
  replace RW := Lib.hid (RW.out.below b15 (by omega))
  replace RG := Lib.hid (RG.out.below b15 (by omega))
  replace RH := Lib.hid (RH.out.below b15 (by omega))
  clear c0 c1 c2 c3 c4 c5
  replace HK := Lib.hid (HK.out.below b15 (by omega)); replace HT := Lib.hid (RdTempo.more (RdTempo.below HT.out b15 (by omega)) z15); replace HV := Lib.hid (RdVs.more (RdVs.below HV.out b15 (by omega)) z15); replace HB := Lib.hid (HB.out.trans (b15.mono (by omega)))
  replace HT0 := Lib.hid (RdTempo.below HT0.out b15 (by omega)); replace HV0 := Lib.hid (RdVs.below HV0.out b15 (by omega))
  clear b15
  have c0 := HK.out.cell 0; have c1 := HK.out.cell 1; have c2 := HK.out.cell 2; have c3 := HK.out.cell 3; have c4 := HK.out.cell 4; have c5 := HK.out.cell 5
  go_wp2_with fail
  refine (laws_heldIntS _ _ _ 1 _ (Rd.more RG.out.rd (by omega)) hl9 (by omega) (by omega)).mono ?_
  rintro e w' ⟨rfl, rfl⟩
  go_wp2_with fail
  go_ret
  exact ⟨rfl, HB.out⟩
theorem walk (w : World) (f : Int) (m : Bool) (b u : Int) (C A : Option Addr) (d c : Nat) (ts : List (Int × Int)) (vs : List (List Nt)) (hT : RdTempo w w.heap.size C ts) (hV : RdVs w w.heap.size A vs) (m_t : ts.length ≤ maxLen) (m_v : vs.length ≤ maxLen) (m_w : ∀ x ∈ vs, x.length ≤ maxLen) :
    Calls Try.prog 6 #[.agg #[.int .i64 f, .bool m, .int .i64 b, .int .i64 u, .slice C ts.length d, .slice A vs.length c]] w (RetB w true) := by
  by_cases l_t : ts.length ≤ 1048576
  case neg =>
    unfold maxLen at m_t
    clear hT hV
    have HB := Lib.hid ((Below.refl w.heap.size w).alloc (Nat.le_refl _) (.cells #[.int .i64 f, .bool m, .int .i64 b, .int .i64 u, .slice C ts.length d, .slice A vs.length c] 27))
    go_enter Try.func6, Try.ntmps6
    go_wp2_with fail
    refine (laws_szSong_no1 _ _ _ _ _ _ _ _ _ _ _ _ (by omega) (by omega) (by omega)).mono ?_; rintro e w1 ⟨rfl, b1⟩
    replace HB := Lib.hid (HB.out.trans (b1.mono (by simp))); clear b1
    go_wp2_with fail
    go_ret
    exact ⟨rfl, HB.out⟩
  by_cases h_2 : ts.length + vs.length + totV vs ≤ 1048576
  case neg =>
    have HB := Lib.hid ((Below.refl w.heap.size w).alloc (Nat.le_refl _) (.cells #[.int .i64 f, .bool m, .int .i64 b, .int .i64 u, .slice C ts.length d, .slice A vs.length c] 27))
    have HV := Lib.hid (RdVs.more (RdVs.al hV (Nat.le_refl _) (.cells #[.int .i64 f, .bool m, .int .i64 b, .int .i64 u, .slice C ts.length d, .slice A vs.length c] 27)) (show w.heap.size ≤ (w.alloc (.cells #[.int .i64 f, .bool m, .int .i64 b, .int .i64 u, .slice C ts.length d, .slice A vs.length c] 27)).heap.size by simp))
    have HM := Lib.hid m_v; have HW := Lib.hid m_w
    clear hT hV m_v m_w
    go_enter Try.func6, Try.ntmps6
    go_wp2_with fail
    refine (laws_szSong_no2 _ _ _ _ _ _ _ _ _ vs _ HV.out _ (by omega) (by omega) (by omega) (by omega) HM.out HW.out).mono ?_; rintro e w1 ⟨rfl, b1⟩
    replace HB := Lib.hid (HB.out.trans (b1.mono (by simp))); clear b1
    go_wp2_with fail
    go_ret
    exact ⟨rfl, HB.out⟩
  exact core f m b u C A d c ts vs w hT hV h_2

set_option maxRecDepth 100000 in
theorem lifted (os : Os) (started : os.Started) (H : Type) (enc : TypeId × Value → H) :
    ReturnsInHanded {} Try.checked os 6 .any (Rows.fnExactSongFaultsSpec.pre6 enc Try.prog Try.f6 Rows.fnExactSongFaultsRow.domain false) (Rows.fnExactSongFaultsSpec.post enc Try.prog Try.f6 false true false false) := by
  refine returnsInHanded_of_change (C := Try.checked) own started (by kernel_rfl) Try.func6
    (ChangeSpec.witness6 (enc := enc) (C := Try.checked) false ⟨#[], #[.agg #[.int .i64 0, .bool false, .int .i64 0, .int .i64 0, .slice none 0 0, .slice none 0 0]], []⟩ 8 (by kernel_rfl) (by kernel_rfl) (by kernel_rfl) (by kernel_rfl)) ?_
  intro W base args ds gs before hval0 hW hcnd _
  have hval : ∀ (j : Nat) t v, Try.f6.params[j]? = some t → args[j]? = some v → Value.okWide Try.prog W .any base t v := hval0
  have hW' := hW
  obtain ⟨p, q, hA0, hV, rfl, hfz, hnd⟩ := hW
  have hA : DataW.TrodAll enc Try.prog W 0 (fun _ => true) true Try.f6.params.toList args.toList ds p := hA0
  rw [Try.params6] at hA hval
  obtain ⟨v0, vs0, d0, ds0, p0, q0, hargs, rfl, rfl, h0, r0⟩ := trodAll_cons hA
  obtain ⟨rfl, rfl, rfl⟩ := trodAll_nil r0
  obtain rfl : args = #[v0] := by cases args; simp_all
  obtain ⟨rfl, rfl⟩ := trodVars_none hV
  have k0 := h0
  have lt0 : ∀ x ∈ p0, x.block < W.heap.size := by obtain ⟨m, hm⟩ := k0; exact DataW.trod_lt m _ _ _ hm
  obtain ⟨f, m, b, u, C, A, d, c, ts, vs, rfl, hT, hV, m_t, m_v, m_w⟩ := open_song (hval 0 27 v0 rfl rfl) h0
  clear hA0 hval0
  refine (walk W f m b u C A d c ts vs hT hV m_t m_v m_w).mono fun e W' hwk => ?_
  obtain ⟨he, bel⟩ := hwk
  subst he
  exact ⟨_, rfl, _, _, _, [], _, [], hW', trodAll_mk1 (shut_bool Try.underlying4 _), (trodAll_cons_mk (Below.trod laidOut (by kernel_rfl) (of_decide_eq_true (by kernel_rfl)) k0 bel lt0) trodAll_mk0), rfl, bel.frame _, fun h => by cases h⟩

theorem over : Rows.fnExactSongFaultsRow.holds Try.pinned (OpenSpec.ofChange Rows.fnExactSongFaultsSpec) :=
  OpenClaim.holds_of_wide 6 Try.f6 rfl rfl rfl rfl rfl rfl rfl ⟨rfl, rfl, rfl, rfl, rfl⟩ rfl rfl rfl rfl rfl (by kernel_rfl) Try.func6 (by kernel_rfl)
    (of_decide_eq_true (by kernel_rfl)) (by unfold Func.isWrapper; first | (rw [if_pos (by decide +kernel)]; kernel_rfl) | (rw [if_neg (by decide +kernel)]; exact ⟨rfl, rfl⟩))
    (fun os started H enc _ => lifted os started H enc)

/-- The statement. -/
theorem proved : Rows.FnExactSongFaultsSaid := over
#print axioms proved
end Go.Proofs.Ythgidfofncbigaa.fnExactSongFaults
