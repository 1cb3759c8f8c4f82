/- The walk of FnTurnPattern: it returns true. Condition: at most 2^20 bytes. -/
import Derived.Test.YtelajonddhoafaaStrk
import Derived.Test.YtelajonddhoafaaDrawP
import Derived.Test.YtelajonddhoafaaInvP
import Derived.Test.YtelajonddhoafaaTurn
import Derived.Test.YtelajonddhoafaaText
import Derived.Test.YtelajonddhoafaaAlive
import Derived.Test.YtelajonddhoafaaSam2
import Derived.Test.YtelajonddhoafaaRegW
namespace Go.Proofs.Ytelajonddhoafaa.fnTurnPattern
set_option linter.unusedVariables false
open Go.RowKit
set_option linter.unusedSimpArgs false
set_option maxRecDepth 100000 in
set_option maxHeartbeats 4000000 in
theorem core (w : World) (A_z : Option Addr) (c_z : Nat) (z : List Int) (r_z : RdY w w.heap.size A_z z) (f_z : WfY z) (k_z : z.length ≤ c_z) (hbig : z.length ≤ 1048576) :
    Calls Try.prog 7 #[.slice A_z z.length c_z] w (RetB w true) := by
  have hi1 : (z.length : Int) ≤ 1048576 := by omega
  go_enter Try.func7, Try.ntmps7
  go_wp2_with fail
  refine (spec_DrawTurnPattern A_z c_z z w r_z f_z hbig k_z).mono ?_
  rintro e w1 ⟨A, c, zs, t, rfl, hl, hcap, ht, hrd, b1⟩
  have z1 := b1.size
  have HB := Lib.hid b1; clear b1 r_z f_z
  have P_p := Lib.hid hrd; clear hrd
  have hLl := turnL_len zs t
  have hyes := turnL_yes (zs := zs) (t := t)
  generalize hL : turnL zs t = L at *
  have HL := Lib.hid hL; clear hL
  have HN : Hid ((L.length : Int) = ((L.length : Nat) : Int)) := rfl
  generalize hSx : strV (textL L) = Sx at *
  have HSX := Lib.hid hSx; clear hSx
  have b2 : Below w1.heap.size w1 (w1.alloc (.cells #[.slice A zs.length c] 25)) := (Below.refl _ _).alloc (Nat.le_refl _) _
  have z2 : w1.heap.size + 1 ≤ (w1.alloc (.cells #[.slice A zs.length c] 25)).heap.size := by simp
  have Q_p : (w1.alloc (.cells #[.slice A zs.length c] 25)).cell? ⟨w1.heap.size, 0, none⟩ = some (.slice A zs.length c) := by simp [go_sem]
  replace P_p := Lib.hid (P_p.out.below b2 (by omega))
  replace HB := Lib.hid (HB.out.trans (b2.mono (by omega)))
  clear b2
  go_wp2_with fail
  generalize (w1.alloc (.cells #[.slice A zs.length c] 25)) = w2 at *
  refine (impl_TurnPattern _ _ _ _ _ (P_p.out.more (by omega)) (by omega)).mono ?_
  rw [HL.out]
  rintro e w3 ⟨A3, c3, rfl, o3, b3⟩
  have z3 := b3.size
  have R_x := Lib.hid (Row.mk_ o3)
  clear o3
  replace P_p := Lib.hid (P_p.out.below b3 (by omega))
  replace Q_p := (b3.cell (p := ⟨w1.heap.size, 0, none⟩) (show w1.heap.size < w2.heap.size by omega)).trans Q_p
  replace HB := Lib.hid (HB.out.trans (b3.mono (by omega)))
  clear b3
  have b4 : Below w3.heap.size w3 (w3.alloc (.cells #[.slice A3 L.length c3] 25)) := (Below.refl _ _).alloc (Nat.le_refl _) _
  have z4 : w3.heap.size + 1 ≤ (w3.alloc (.cells #[.slice A3 L.length c3] 25)).heap.size := by simp
  have Q_x : (w3.alloc (.cells #[.slice A3 L.length c3] 25)).cell? ⟨w3.heap.size, 0, none⟩ = some (.slice A3 L.length c3) := by simp [go_sem]
  replace R_x := Lib.hid (R_x.out.below b4 (by omega))
  replace P_p := Lib.hid (P_p.out.below b4 (by omega))
  replace Q_p := (b4.cell (p := ⟨w1.heap.size, 0, none⟩) (show w1.heap.size < w3.heap.size by omega)).trans Q_p
  replace HB := Lib.hid (HB.out.trans (b4.mono (by omega)))
  clear b4
  go_wp2_with fail
  generalize (w3.alloc (.cells #[.slice A3 L.length c3] 25)) = w4 at *
  refine (spec_TurnPattern _ _ _ _ _ (P_p.out.more (by omega)) (by omega)).mono ?_
  rw [HL.out]
  rintro e w5 ⟨A5, c5, rfl, o5, b5⟩
  have z5 := b5.size
  have R_y := Lib.hid (Row.mk_ o5)
  clear o5
  replace R_x := Lib.hid (R_x.out.below b5 (by omega))
  replace P_p := Lib.hid (P_p.out.below b5 (by omega))
  replace Q_p := (b5.cell (p := ⟨w1.heap.size, 0, none⟩) (show w1.heap.size < w4.heap.size by omega)).trans Q_p
  replace Q_x := (b5.cell (p := ⟨w3.heap.size, 0, none⟩) (show w3.heap.size < w4.heap.size by omega)).trans Q_x
  replace HB := Lib.hid (HB.out.trans (b5.mono (by omega)))
  clear b5
  have b6 : Below w5.heap.size w5 (w5.alloc (.cells #[.slice A5 L.length c5] 25)) := (Below.refl _ _).alloc (Nat.le_refl _) _
  have z6 : w5.heap.size + 1 ≤ (w5.alloc (.cells #[.slice A5 L.length c5] 25)).heap.size := by simp
  have Q_y : (w5.alloc (.cells #[.slice A5 L.length c5] 25)).cell? ⟨w5.heap.size, 0, none⟩ = some (.slice A5 L.length c5) := by simp [go_sem]
  replace R_x := Lib.hid (R_x.out.below b6 (by omega))
  replace R_y := Lib.hid (R_y.out.below b6 (by omega))
  replace P_p := Lib.hid (P_p.out.below b6 (by omega))
  replace Q_p := (b6.cell (p := ⟨w1.heap.size, 0, none⟩) (show w1.heap.size < w5.heap.size by omega)).trans Q_p
  replace Q_x := (b6.cell (p := ⟨w3.heap.size, 0, none⟩) (show w3.heap.size < w5.heap.size by omega)).trans Q_x
  replace HB := Lib.hid (HB.out.trans (b6.mono (by omega)))
  clear b6
  go_upto_region 6 with (fail)
  generalize (w5.alloc (.cells #[.slice A5 L.length c5] 25)) = w6 at *
  refine regionL_draws rfl 67 [some 22, some 23, some 24, some 25, some 26, some 27, some 28, some 29, some 30, some 31, some 32, some 33, some 34, some 35]
    [FEq (.agg #[.slice A3 L.length c3]), FEq (.string Sx), FEq (.agg #[.slice A5 L.length c5]), FEq (.string Sx), FEq (.bool false), FEq (.bool false), FEq (.pointer (some ⟨w3.heap.size, 0, none⟩)), FEq (.slice A3 L.length c3), FEq (.int .i64 (((L.length : Nat) : Int))), FEq (.pointer (some ⟨w5.heap.size, 0, none⟩)), FEq (.slice A5 L.length c5), FEq (.int .i64 (((L.length : Nat) : Int))), FEq (.bool false), FEq (.bool false)] (by kernel_rfl) (by kernel_rfl) ?_ ?_ ?_
  · exact stayLs_cons stayL_eq (stayLs_cons stayL_eq (stayLs_cons stayL_eq (stayLs_cons stayL_eq (stayLs_cons stayL_eq (stayLs_cons stayL_eq (stayLs_cons stayL_eq (stayLs_cons stayL_eq (stayLs_cons stayL_eq (stayLs_cons stayL_eq (stayLs_cons stayL_eq (stayLs_cons stayL_eq (stayLs_cons stayL_eq (stayLs_cons stayL_eq stayLs_nil)))))))))))))
  · refine AllI.cons ?_ (AllI.cons ?_ (AllI.cons ?_ (AllI.cons ?_ (AllI.cons ?_ (AllI.cons ?_ (AllI.cons ?_ (AllI.cons ?_ (AllI.cons ?_ (AllI.cons ?_ (AllI.cons ?_ (AllI.cons ?_ (AllI.cons ?_ (AllI.cons ?_ trivial)))))))))))))
    · intro kk bb ff ww hkk hf hd hp hq hJ
      refine .inl ⟨wanted_none rfl, ?_⟩
      have q5 : FEq (.pointer (some ⟨w3.heap.size, 0, none⟩)) (ff 5) ww := (hf 5 (by decide)).trans rfl
      unfold FEq at q5
      have c0 : ww.cell? ⟨w3.heap.size, 0, none⟩ = some (.slice A3 L.length c3) := (hJ.cell (p := ⟨w3.heap.size, 0, none⟩) (show w3.heap.size < _ by omega)).trans Q_x
      refine sl_val (.agg #[.slice A3 L.length c3]) hJ ?_ rfl
      simp only [execOp, ev_tmp _ _ (show 5 < 67 by decide), ev_const, q5]
      simp [go_sem, c0]
    · intro kk bb ff ww hkk hf hd hp hq hJ
      refine .inl ⟨wanted_none rfl, ?_⟩
      obtain ⟨p0, -⟩ := hd
      have q22 : FEq (.agg #[.slice A3 L.length c3]) (ff 22) ww := p0 rfl
      unfold FEq at q22
      refine sl_enter 14 #[.agg #[.slice A3 L.length c3]] hJ ?_ ?_
      · simp only [execOp, ev_tmp _ _ (show 22 < 67 by decide), ev_const, q22, ev_func, resolve, List.map_toArray, List.map_cons, List.map_nil]
        simp [go_sem]
      · skip
        have h := retS_post (impl_PatternText A3 c3 L ww ((R_x.out.below hJ (by omega)).rd.more (by have := hJ.size; omega)) (by omega))
        rw [HSX.out] at h
        exact h
    · intro kk bb ff ww hkk hf hd hp hq hJ
      refine .inl ⟨wanted_none rfl, ?_⟩
      have q6 : FEq (.pointer (some ⟨w5.heap.size, 0, none⟩)) (ff 6) ww := (hf 6 (by decide)).trans rfl
      unfold FEq at q6
      have c0 : ww.cell? ⟨w5.heap.size, 0, none⟩ = some (.slice A5 L.length c5) := (hJ.cell (p := ⟨w5.heap.size, 0, none⟩) (show w5.heap.size < _ by omega)).trans Q_y
      refine sl_val (.agg #[.slice A5 L.length c5]) hJ ?_ rfl
      simp only [execOp, ev_tmp _ _ (show 6 < 67 by decide), ev_const, q6]
      simp [go_sem, c0]
    · intro kk bb ff ww hkk hf hd hp hq hJ
      refine .inl ⟨wanted_none rfl, ?_⟩
      obtain ⟨p0, p1, -⟩ := hd
      have q24 : FEq (.agg #[.slice A5 L.length c5]) (ff 24) ww := p0 rfl
      unfold FEq at q24
      refine sl_enter 15 #[.agg #[.slice A5 L.length c5]] hJ ?_ ?_
      · simp only [execOp, ev_tmp _ _ (show 24 < 67 by decide), ev_const, q24, ev_func, resolve, List.map_toArray, List.map_cons, List.map_nil]
        simp [go_sem]
      · skip
        have h := retS_post (spec_PatternText A5 c5 L ww ((R_y.out.below hJ (by omega)).rd.more (by have := hJ.size; omega)) (by omega))
        rw [HSX.out] at h
        exact h
    · intro kk bb ff ww hkk hf hd hp hq hJ
      refine .inl ⟨wanted_none rfl, ?_⟩
      obtain ⟨p0, p1, -⟩ := hd
      have q23 : FEq (.string Sx) (ff 23) ww := p0 rfl
      unfold FEq at q23
      have q25 : FEq (.string Sx) (ff 25) ww := p1 rfl
      unfold FEq at q25
      refine sl_val (.bool false) hJ ?_ rfl
      simp only [execOp, ev_tmp _ _ (show 23 < 67 by decide), ev_tmp _ _ (show 25 < 67 by decide), ev_const, q23, q25]
      simp [go_sem]
    · intro kk bb ff ww hkk hf hd hp hq hJ
      refine .inl ⟨wanted_none rfl, ?_⟩
      obtain ⟨p0, p1, -⟩ := hd
      have q : FEq (.bool false) (ff 26) ww := p0 rfl
      exact sl_val (ff 26) hJ (by simp only [execOp, ev_tmp _ _ (show 26 < 67 by decide)]; rfl) q
    · intro kk bb ff ww hkk hf hd hp hq hJ
      obtain ⟨p0, -⟩ := hd
      have qg : FEq (.bool false) (ff 27) ww := p0 rfl
      refine .inl ⟨(wanted_on (b := false) (want := false) (j := 5) (d := 27) qg (by decide) rfl rfl rfl), ?_⟩
      have q5 : FEq (.pointer (some ⟨w3.heap.size, 0, none⟩)) (ff 5) ww := (hf 5 (by decide)).trans rfl
      unfold FEq at q5
      refine sl_val (.pointer (some ⟨w3.heap.size, 0, none⟩)) hJ ?_ rfl
      simp only [execOp, ev_tmp _ _ (show 5 < 67 by decide), ev_const, q5]
      simp [go_sem]
    · intro kk bb ff ww hkk hf hd hp hq hJ
      obtain ⟨p0, p1, -⟩ := hd
      have qg : FEq (.bool false) (ff 27) ww := p1 rfl
      refine .inl ⟨(wanted_on (b := false) (want := false) (j := 5) (d := 27) qg (by decide) rfl rfl rfl), ?_⟩
      have q28 : FEq (.pointer (some ⟨w3.heap.size, 0, none⟩)) (ff 28) ww := p0 rfl
      unfold FEq at q28
      have c0 : ww.cell? ⟨w3.heap.size, 0, none⟩ = some (.slice A3 L.length c3) := (hJ.cell (p := ⟨w3.heap.size, 0, none⟩) (show w3.heap.size < _ by omega)).trans Q_x
      refine sl_val (.slice A3 L.length c3) hJ ?_ rfl
      simp only [execOp, ev_tmp _ _ (show 28 < 67 by decide), ev_const, q28]
      simp [go_sem, c0]
    · intro kk bb ff ww hkk hf hd hp hq hJ
      obtain ⟨p0, p1, -⟩ := hd
      have qg : FEq (.bool false) (ff 27) ww := p1 rfl
      refine .inl ⟨(wanted_on (b := false) (want := false) (j := 5) (d := 27) qg (by decide) rfl rfl rfl), ?_⟩
      have q29 : FEq (.slice A3 L.length c3) (ff 29) ww := p0 rfl
      unfold FEq at q29
      refine sl_val (.int .i64 ((L.length : Nat) : Int)) hJ ?_ rfl
      simp only [execOp, ev_tmp _ _ (show 29 < 67 by decide), ev_const, q29, List.map_toArray, List.map_cons, List.map_nil, resolve]
      simp [go_sem]
    · intro kk bb ff ww hkk hf hd hp hq hJ
      obtain ⟨p0, -⟩ := hd
      have qg : FEq (.bool false) (ff 27) ww := p0 rfl
      refine .inl ⟨(wanted_on (b := false) (want := false) (j := 5) (d := 27) qg (by decide) rfl rfl rfl), ?_⟩
      have q6 : FEq (.pointer (some ⟨w5.heap.size, 0, none⟩)) (ff 6) ww := (hf 6 (by decide)).trans rfl
      unfold FEq at q6
      refine sl_val (.pointer (some ⟨w5.heap.size, 0, none⟩)) hJ ?_ rfl
      simp only [execOp, ev_tmp _ _ (show 6 < 67 by decide), ev_const, q6]
      simp [go_sem]
    · intro kk bb ff ww hkk hf hd hp hq hJ
      obtain ⟨p0, p1, -⟩ := hd
      have qg : FEq (.bool false) (ff 27) ww := p1 rfl
      refine .inl ⟨(wanted_on (b := false) (want := false) (j := 5) (d := 27) qg (by decide) rfl rfl rfl), ?_⟩
      have q31 : FEq (.pointer (some ⟨w5.heap.size, 0, none⟩)) (ff 31) ww := p0 rfl
      unfold FEq at q31
      have c0 : ww.cell? ⟨w5.heap.size, 0, none⟩ = some (.slice A5 L.length c5) := (hJ.cell (p := ⟨w5.heap.size, 0, none⟩) (show w5.heap.size < _ by omega)).trans Q_y
      refine sl_val (.slice A5 L.length c5) hJ ?_ rfl
      simp only [execOp, ev_tmp _ _ (show 31 < 67 by decide), ev_const, q31]
      simp [go_sem, c0]
    · intro kk bb ff ww hkk hf hd hp hq hJ
      obtain ⟨p0, p1, -⟩ := hd
      have qg : FEq (.bool false) (ff 27) ww := p1 rfl
      refine .inl ⟨(wanted_on (b := false) (want := false) (j := 5) (d := 27) qg (by decide) rfl rfl rfl), ?_⟩
      have q32 : FEq (.slice A5 L.length c5) (ff 32) ww := p0 rfl
      unfold FEq at q32
      refine sl_val (.int .i64 ((L.length : Nat) : Int)) hJ ?_ rfl
      simp only [execOp, ev_tmp _ _ (show 32 < 67 by decide), ev_const, q32, List.map_toArray, List.map_cons, List.map_nil, resolve]
      simp [go_sem]
    · intro kk bb ff ww hkk hf hd hp hq hJ
      obtain ⟨p0, p1, p2, -⟩ := hd
      have qg : FEq (.bool false) (ff 27) ww := p2 rfl
      refine .inl ⟨(wanted_on (b := false) (want := false) (j := 5) (d := 27) qg (by decide) rfl rfl rfl), ?_⟩
      have q30 : FEq (.int .i64 (((L.length : Nat) : Int))) (ff 30) ww := p0 rfl
      unfold FEq at q30
      have q33 : FEq (.int .i64 (((L.length : Nat) : Int))) (ff 33) ww := p1 rfl
      unfold FEq at q33
      refine sl_val (.bool false) hJ ?_ rfl
      simp only [execOp, ev_tmp _ _ (show 30 < 67 by decide), ev_tmp _ _ (show 33 < 67 by decide), ev_const, q30, q33]
      simp [go_sem]
    · intro kk bb ff ww hkk hf hd hp hq hJ
      refine .inl ⟨wanted_none rfl, ?_⟩
      obtain ⟨p0, p1, -⟩ := hd
      have q27 : FEq (.bool false) (ff 27) ww := p0 rfl
      unfold FEq at q27
      have q34 : FEq (.bool false) (ff 34) ww := p1 rfl
      unfold FEq at q34
      refine sl_val (.bool false) hJ ?_ rfl
      simp only [execOp, ev_tmp _ _ (show 27 < 67 by decide), ev_tmp _ _ (show 34 < 67 by decide), ev_const, q27, q34]
      simp [go_sem]
  intro ff w7 hf hd hJ
  have hfr : fr 67 ff = #[ff 0, ff 1, ff 2, ff 3, ff 4, ff 5, ff 6, ff 7, ff 8, ff 9, ff 10, ff 11, ff 12, ff 13, ff 14, ff 15, ff 16, ff 17, ff 18, ff 19, ff 20, ff 21, ff 22, ff 23, ff 24, ff 25, ff 26, ff 27, ff 28, ff 29, ff 30, ff 31, ff 32, ff 33, ff 34, ff 35, ff 36, ff 37, ff 38, ff 39, ff 40, ff 41, ff 42, ff 43, ff 44, ff 45, ff 46, ff 47, ff 48, ff 49, ff 50, ff 51, ff 52, ff 53, ff 54, ff 55, ff 56, ff 57, ff 58, ff 59, ff 60, ff 61, ff 62, ff 63, ff 64, ff 65, ff 66] := rfl
  rw [hfr]; clear hfr
  dsimp only
  have q0_ := hf 0 (by decide)
  have q1_ := hf 1 (by decide)
  have q2_ := hf 2 (by decide)
  have q3_ := hf 3 (by decide)
  have q4_ := hf 4 (by decide)
  have q5_ := hf 5 (by decide)
  have q6_ := hf 6 (by decide)
  have q7_ := hf 7 (by decide)
  have q8_ := hf 8 (by decide)
  have q9_ := hf 9 (by decide)
  have q10_ := hf 10 (by decide)
  have q11_ := hf 11 (by decide)
  have q12_ := hf 12 (by decide)
  have q13_ := hf 13 (by decide)
  have q14_ := hf 14 (by decide)
  have q15_ := hf 15 (by decide)
  have q16_ := hf 16 (by decide)
  have q17_ := hf 17 (by decide)
  have q18_ := hf 18 (by decide)
  have q19_ := hf 19 (by decide)
  have q20_ := hf 20 (by decide)
  have q21_ := hf 21 (by decide)
  have q22_ : FEq (.agg #[.slice A3 L.length c3]) (ff 22) w7 := hd 0 (by decide)
  unfold FEq at q22_
  have q23_ : FEq (.string Sx) (ff 23) w7 := hd 1 (by decide)
  unfold FEq at q23_
  have q24_ : FEq (.agg #[.slice A5 L.length c5]) (ff 24) w7 := hd 2 (by decide)
  unfold FEq at q24_
  have q25_ : FEq (.string Sx) (ff 25) w7 := hd 3 (by decide)
  unfold FEq at q25_
  have q26_ : FEq (.bool false) (ff 26) w7 := hd 4 (by decide)
  unfold FEq at q26_
  have q27_ : FEq (.bool false) (ff 27) w7 := hd 5 (by decide)
  unfold FEq at q27_
  have q28_ : FEq (.pointer (some ⟨w3.heap.size, 0, none⟩)) (ff 28) w7 := hd 6 (by decide)
  unfold FEq at q28_
  have q29_ : FEq (.slice A3 L.length c3) (ff 29) w7 := hd 7 (by decide)
  unfold FEq at q29_
  have q30_ : FEq (.int .i64 (((L.length : Nat) : Int))) (ff 30) w7 := hd 8 (by decide)
  unfold FEq at q30_
  have q31_ : FEq (.pointer (some ⟨w5.heap.size, 0, none⟩)) (ff 31) w7 := hd 9 (by decide)
  unfold FEq at q31_
  have q32_ : FEq (.slice A5 L.length c5) (ff 32) w7 := hd 10 (by decide)
  unfold FEq at q32_
  have q33_ : FEq (.int .i64 (((L.length : Nat) : Int))) (ff 33) w7 := hd 11 (by decide)
  unfold FEq at q33_
  have q34_ : FEq (.bool false) (ff 34) w7 := hd 12 (by decide)
  unfold FEq at q34_
  have q35_ : FEq (.bool false) (ff 35) w7 := hd 13 (by decide)
  unfold FEq at q35_
  have q36_ := hf 36 (by decide)
  have q37_ := hf 37 (by decide)
  have q38_ := hf 38 (by decide)
  have q39_ := hf 39 (by decide)
  have q40_ := hf 40 (by decide)
  have q41_ := hf 41 (by decide)
  have q42_ := hf 42 (by decide)
  have q43_ := hf 43 (by decide)
  have q44_ := hf 44 (by decide)
  have q45_ := hf 45 (by decide)
  have q46_ := hf 46 (by decide)
  have q47_ := hf 47 (by decide)
  have q48_ := hf 48 (by decide)
  have q49_ := hf 49 (by decide)
  have q50_ := hf 50 (by decide)
  have q51_ := hf 51 (by decide)
  have q52_ := hf 52 (by decide)
  have q53_ := hf 53 (by decide)
  have q54_ := hf 54 (by decide)
  have q55_ := hf 55 (by decide)
  have q56_ := hf 56 (by decide)
  have q57_ := hf 57 (by decide)
  have q58_ := hf 58 (by decide)
  have q59_ := hf 59 (by decide)
  have q60_ := hf 60 (by decide)
  have q61_ := hf 61 (by decide)
  have q62_ := hf 62 (by decide)
  have q63_ := hf 63 (by decide)
  have q64_ := hf 64 (by decide)
  have q65_ := hf 65 (by decide)
  have q66_ := hf 66 (by decide)
  simp only [Array.getD_eq_getD_getElem?, List.getElem?_toArray, List.getElem?_cons_zero, List.getElem?_cons_succ, Option.getD_some] at q0_ q1_ q2_ q3_ q4_ q5_ q6_ q7_ q8_ q9_ q10_ q11_ q12_ q13_ q14_ q15_ q16_ q17_ q18_ q19_ q20_ q21_ q36_ q37_ q38_ q39_ q40_ q41_ q42_ q43_ q44_ q45_ q46_ q47_ q48_ q49_ q50_ q51_ q52_ q53_ q54_ q55_ q56_ q57_ q58_ q59_ q60_ q61_ q62_ q63_ q64_ q65_ q66_
  rw [q0_, q1_, q2_, q3_, q4_, q5_, q6_, q7_, q8_, q9_, q10_, q11_, q12_, q13_, q14_, q15_, q16_, q17_, q18_, q19_, q20_, q21_, q22_, q23_, q24_, q25_, q26_, q27_, q28_, q29_, q30_, q31_, q32_, q33_, q34_, q35_, q36_, q37_, q38_, q39_, q40_, q41_, q42_, q43_, q44_, q45_, q46_, q47_, q48_, q49_, q50_, q51_, q52_, q53_, q54_, q55_, q56_, q57_, q58_, q59_, q60_, q61_, q62_, q63_, q64_, q65_, q66_]
  clear q0_ q1_ q2_ q3_ q4_ q5_ q6_ q7_ q8_ q9_ q10_ q11_ q12_ q13_ q14_ q15_ q16_ q17_ q18_ q19_ q20_ q21_ q22_ q23_ q24_ q25_ q26_ q27_ q28_ q29_ q30_ q31_ q32_ q33_ q34_ q35_ q36_ q37_ q38_ q39_ q40_ q41_ q42_ q43_ q44_ q45_ q46_ q47_ q48_ q49_ q50_ q51_ q52_ q53_ q54_ q55_ q56_ q57_ q58_ q59_ q60_ q61_ q62_ q63_ q64_ q65_ q66_ hf hd
  clear ff
  have b_ : Below _ _ w7 := hJ
  clear hJ
  have b7 : Below w6.heap.size w6 w7 := b_
  clear b_
  have z7 := b7.size
  replace R_x := Lib.hid (R_x.out.below b7 (by omega))
  replace R_y := Lib.hid (R_y.out.below b7 (by omega))
  replace P_p := Lib.hid (P_p.out.below b7 (by omega))
  replace Q_p := (b7.cell (p := ⟨w1.heap.size, 0, none⟩) (show w1.heap.size < w6.heap.size by omega)).trans Q_p
  replace Q_x := (b7.cell (p := ⟨w3.heap.size, 0, none⟩) (show w3.heap.size < w6.heap.size by omega)).trans Q_x
  replace Q_y := (b7.cell (p := ⟨w5.heap.size, 0, none⟩) (show w5.heap.size < w6.heap.size by omega)).trans Q_y
  replace HB := Lib.hid (HB.out.trans (b7.mono (by omega)))
  clear b7
  by_cases h0 : L.length = 0
  · have h1 : ((L.length : Int) == 0) = true := by simp [h0]
    clear h0
    go_wp2_with fail
    refine (laws_alive _).mono ?_
    rintro e wz ⟨rfl, bz⟩
    replace HB := Lib.hid (HB.out.trans (bz.mono (by omega)))
    clear bz
    go_wp2_with fail
    go_ret
    exact ⟨rfl, HB.out⟩
  have h1 : ((L.length : Int) == 0) = false := by simpa using h0
  obtain ⟨hv, hb, hLe⟩ := hyes (by rintro rfl; simp at h0)
  have hback : turnL L (-(t)) = zs := by rw [hLe]; exact turnL_back hv hb
  have hall : turnL zs ((zs.length : Nat) : Int) = zs := turnL_all hv
  have hst : strk L = strk zs := by rw [hLe]; exact turn_strk zs t
  have HBK := Lib.hid hback; have HAL := Lib.hid hall; have HST := Lib.hid hst
  clear hback hall hst hLe hyes h0 hv
  generalize hS : strV (textL zs) = St at *
  have HSS := Lib.hid hS; clear hS
  go_wp2_with fail
  refine (impl_PatternText _ _ _ _ (P_p.out.more (by omega)) (by omega)).mono ?_
  rw [HSS.out]
  rintro e w8 ⟨rfl, b8⟩
  have z8 := b8.size
  replace R_x := Lib.hid (R_x.out.below b8 (by omega))
  replace R_y := Lib.hid (R_y.out.below b8 (by omega))
  replace P_p := Lib.hid (P_p.out.below b8 (by omega))
  replace Q_p := (b8.cell (p := ⟨w1.heap.size, 0, none⟩) (show w1.heap.size < w7.heap.size by omega)).trans Q_p
  replace Q_x := (b8.cell (p := ⟨w3.heap.size, 0, none⟩) (show w3.heap.size < w7.heap.size by omega)).trans Q_x
  replace Q_y := (b8.cell (p := ⟨w5.heap.size, 0, none⟩) (show w5.heap.size < w7.heap.size by omega)).trans Q_y
  replace HB := Lib.hid (HB.out.trans (b8.mono (by omega)))
  clear b8
  go_upto_region 11 with (fail)
  clear h1
  refine regionL_draws rfl 67 [some 43, some 44, some 45, some 46, some 47, some 48, some 49, some 50, some 51, some 52, some 53, some 54, some 55, some 56, some 57, some 58, some 59, some 60, some 61, some 62, some 63, some 64, some 65, some 66, some 2]
    [FEq (.agg #[.slice A3 L.length c3]), FEq (.int .i64 (((strk zs : Nat) : Int))), FEq (.agg #[.slice A zs.length c]), FEq (.int .i64 (((strk zs : Nat) : Int))), FEq (.bool true), FEq (.bool true), FEq (.agg #[.slice A3 L.length c3]), FEq (.int .i64 (t)), FEq (.int .i64 (-(t))), FRdB (zs), FEq (.string St), FEq (.string St), FEq (.bool true), FEq (.bool true), FEq (.bool true), FEq (.agg #[.slice A zs.length c]), FEq (.pointer (some ⟨w1.heap.size, 0, none⟩)), FEq (.slice A zs.length c), FEq (.int .i64 (((zs.length : Nat) : Int))), FRdB (zs), FEq (.string St), FEq (.string St), FEq (.bool true), FEq (.bool true), FEq (.bool true)] (by kernel_rfl) (by kernel_rfl) ?_ ?_ ?_
  · exact stayLs_cons stayL_eq (stayLs_cons stayL_eq (stayLs_cons stayL_eq (stayLs_cons stayL_eq (stayLs_cons stayL_eq (stayLs_cons stayL_eq (stayLs_cons stayL_eq (stayLs_cons stayL_eq (stayLs_cons stayL_eq (stayLs_cons stayL_rdb (stayLs_cons stayL_eq (stayLs_cons stayL_eq (stayLs_cons stayL_eq (stayLs_cons stayL_eq (stayLs_cons stayL_eq (stayLs_cons stayL_eq (stayLs_cons stayL_eq (stayLs_cons stayL_eq (stayLs_cons stayL_eq (stayLs_cons stayL_rdb (stayLs_cons stayL_eq (stayLs_cons stayL_eq (stayLs_cons stayL_eq (stayLs_cons stayL_eq (stayLs_cons stayL_eq stayLs_nil))))))))))))))))))))))))
  · refine AllI.cons ?_ (AllI.cons ?_ (AllI.cons ?_ (AllI.cons ?_ (AllI.cons ?_ (AllI.cons ?_ (AllI.cons ?_ (AllI.cons ?_ (AllI.cons ?_ (AllI.cons ?_ (AllI.cons ?_ (AllI.cons ?_ (AllI.cons ?_ (AllI.cons ?_ (AllI.cons ?_ (AllI.cons ?_ (AllI.cons ?_ (AllI.cons ?_ (AllI.cons ?_ (AllI.cons ?_ (AllI.cons ?_ (AllI.cons ?_ (AllI.cons ?_ (AllI.cons ?_ (AllI.cons ?_ trivial))))))))))))))))))))))))
    · intro kk bb ff ww hkk hf hd hp hq hJ
      refine .inl ⟨wanted_none rfl, ?_⟩
      have q5 : FEq (.pointer (some ⟨w3.heap.size, 0, none⟩)) (ff 5) ww := (hf 5 (by decide)).trans rfl
      unfold FEq at q5
      have c0 : ww.cell? ⟨w3.heap.size, 0, none⟩ = some (.slice A3 L.length c3) := (hJ.cell (p := ⟨w3.heap.size, 0, none⟩) (show w3.heap.size < _ by omega)).trans Q_x
      refine sl_val (.agg #[.slice A3 L.length c3]) hJ ?_ rfl
      simp only [execOp, ev_tmp _ _ (show 5 < 67 by decide), ev_const, q5]
      simp [go_sem, c0]
    · intro kk bb ff ww hkk hf hd hp hq hJ
      refine .inl ⟨wanted_none rfl, ?_⟩
      obtain ⟨p0, -⟩ := hd
      have q43 : FEq (.agg #[.slice A3 L.length c3]) (ff 43) ww := p0 rfl
      unfold FEq at q43
      refine sl_enter 20 #[.agg #[.slice A3 L.length c3]] hJ ?_ ?_
      · simp only [execOp, ev_tmp _ _ (show 43 < 67 by decide), ev_const, q43, ev_func, resolve, List.map_toArray, List.map_cons, List.map_nil]
        simp [go_sem]
      · skip
        have h := retI_post (laws_strokes A3 c3 L ww ((R_x.out.below hJ (by omega)).rd.more (by have := hJ.size; omega)) (by omega))
        rw [HST.out] at h
        exact h
    · intro kk bb ff ww hkk hf hd hp hq hJ
      refine .inl ⟨wanted_none rfl, ?_⟩
      have q3 : FEq (.pointer (some ⟨w1.heap.size, 0, none⟩)) (ff 3) ww := (hf 3 (by decide)).trans rfl
      unfold FEq at q3
      have c0 : ww.cell? ⟨w1.heap.size, 0, none⟩ = some (.slice A zs.length c) := (hJ.cell (p := ⟨w1.heap.size, 0, none⟩) (show w1.heap.size < _ by omega)).trans Q_p
      refine sl_val (.agg #[.slice A zs.length c]) hJ ?_ rfl
      simp only [execOp, ev_tmp _ _ (show 3 < 67 by decide), ev_const, q3]
      simp [go_sem, c0]
    · intro kk bb ff ww hkk hf hd hp hq hJ
      refine .inl ⟨wanted_none rfl, ?_⟩
      obtain ⟨p0, p1, -⟩ := hd
      have q45 : FEq (.agg #[.slice A zs.length c]) (ff 45) ww := p0 rfl
      unfold FEq at q45
      refine sl_enter 20 #[.agg #[.slice A zs.length c]] hJ ?_ ?_
      · simp only [execOp, ev_tmp _ _ (show 45 < 67 by decide), ev_const, q45, ev_func, resolve, List.map_toArray, List.map_cons, List.map_nil]
        simp [go_sem]
      · skip
        exact retI_post (laws_strokes A c zs ww ((P_p.out.below hJ (by omega)).more (by have := hJ.size; omega)) (by omega))
    · intro kk bb ff ww hkk hf hd hp hq hJ
      refine .inl ⟨wanted_none rfl, ?_⟩
      obtain ⟨p0, p1, -⟩ := hd
      have q44 : FEq (.int .i64 (((strk zs : Nat) : Int))) (ff 44) ww := p0 rfl
      unfold FEq at q44
      have q46 : FEq (.int .i64 (((strk zs : Nat) : Int))) (ff 46) ww := p1 rfl
      unfold FEq at q46
      refine sl_val (.bool true) hJ ?_ rfl
      simp only [execOp, ev_tmp _ _ (show 44 < 67 by decide), ev_tmp _ _ (show 46 < 67 by decide), ev_const, q44, q46]
      simp [go_sem]
    · intro kk bb ff ww hkk hf hd hp hq hJ
      refine .inl ⟨wanted_none rfl, ?_⟩
      obtain ⟨p0, p1, -⟩ := hd
      have q : FEq (.bool true) (ff 47) ww := p0 rfl
      exact sl_val (ff 47) hJ (by simp only [execOp, ev_tmp _ _ (show 47 < 67 by decide)]; rfl) q
    · intro kk bb ff ww hkk hf hd hp hq hJ
      obtain ⟨p0, -⟩ := hd
      have qg : FEq (.bool true) (ff 48) ww := p0 rfl
      refine .inl ⟨(wanted_on (b := true) (want := true) (j := 5) (d := 48) qg (by decide) rfl rfl rfl), ?_⟩
      have q5 : FEq (.pointer (some ⟨w3.heap.size, 0, none⟩)) (ff 5) ww := (hf 5 (by decide)).trans rfl
      unfold FEq at q5
      have c0 : ww.cell? ⟨w3.heap.size, 0, none⟩ = some (.slice A3 L.length c3) := (hJ.cell (p := ⟨w3.heap.size, 0, none⟩) (show w3.heap.size < _ by omega)).trans Q_x
      refine sl_val (.agg #[.slice A3 L.length c3]) hJ ?_ rfl
      simp only [execOp, ev_tmp _ _ (show 5 < 67 by decide), ev_const, q5]
      simp [go_sem, c0]
    · intro kk bb ff ww hkk hf hd hp hq hJ
      obtain ⟨p0, -⟩ := hd
      have qg : FEq (.bool true) (ff 48) ww := p0 rfl
      refine .inl ⟨(wanted_on (b := true) (want := true) (j := 5) (d := 48) qg (by decide) rfl rfl rfl), ?_⟩
      have q : FEq (.int .i64 (t)) (ff 4) ww := (hf 4 (by decide)).trans rfl
      exact sl_val (ff 4) hJ (by simp only [execOp, ev_tmp _ _ (show 4 < 67 by decide)]; rfl) q
    · intro kk bb ff ww hkk hf hd hp hq hJ
      obtain ⟨p0, p1, -⟩ := hd
      have qg : FEq (.bool true) (ff 48) ww := p1 rfl
      refine .inl ⟨(wanted_on (b := true) (want := true) (j := 5) (d := 48) qg (by decide) rfl rfl rfl), ?_⟩
      have q50 : FEq (.int .i64 (t)) (ff 50) ww := p0 rfl
      unfold FEq at q50
      have hwr : IntKind.i64.wrap (-(t)) = -(t) := IntWalk.i64_in _ (by omega)
      refine sl_val (.int .i64 (-(t))) hJ ?_ rfl
      simp only [execOp, ev_tmp _ _ (show 50 < 67 by decide), ev_const, q50]
      simp [go_sem, hwr]
    · intro kk bb ff ww hkk hf hd hp hq hJ
      obtain ⟨p0, p1, p2, p3, -⟩ := hd
      have qg : FEq (.bool true) (ff 48) ww := p2 rfl
      refine .inl ⟨(wanted_on (b := true) (want := true) (j := 5) (d := 48) qg (by decide) rfl rfl rfl), ?_⟩
      have q49 : FEq (.agg #[.slice A3 L.length c3]) (ff 49) ww := p0 rfl
      unfold FEq at q49
      have q51 : FEq (.int .i64 (-(t))) (ff 51) ww := p1 rfl
      unfold FEq at q51
      refine sl_enter 25 #[.agg #[.slice A3 L.length c3], .int .i64 (-(t))] hJ ?_ ?_
      · simp only [execOp, ev_tmp _ _ (show 49 < 67 by decide), ev_tmp _ _ (show 51 < 67 by decide), ev_const, q49, q51, ev_func, resolve, List.map_toArray, List.map_cons, List.map_nil]
        simp [go_sem]
      · skip
        have h := retP_post (impl_TurnPattern A3 c3 L (-(t)) ww ((R_x.out.below hJ (by omega)).rd.more (by have := hJ.size; omega)) (by omega))
        rw [HBK.out] at h
        exact h
    · intro kk bb ff ww hkk hf hd hp hq hJ
      obtain ⟨p0, p1, p2, -⟩ := hd
      have qg : FEq (.bool true) (ff 48) ww := p2 rfl
      refine .inl ⟨(wanted_on (b := true) (want := true) (j := 5) (d := 48) qg (by decide) rfl rfl rfl), ?_⟩
      have q52 : FRdB (zs) (ff 52) ww := p0 rfl
      obtain ⟨A52, c52, q52, rd52⟩ := q52
      refine sl_enter 14 #[.agg #[.slice A52 (zs).length c52]] hJ ?_ ?_
      · simp only [execOp, ev_tmp _ _ (show 52 < 67 by decide), ev_const, q52, ev_func, resolve, List.map_toArray, List.map_cons, List.map_nil]
        simp [go_sem]
      · skip
        have h := retS_post (impl_PatternText A52 c52 zs ww rd52 (by omega))
        rw [HSS.out] at h
        exact h
    · intro kk bb ff ww hkk hf hd hp hq hJ
      obtain ⟨p0, -⟩ := hd
      have qg : FEq (.bool true) (ff 48) ww := p0 rfl
      refine .inl ⟨(wanted_on (b := true) (want := true) (j := 5) (d := 48) qg (by decide) rfl rfl rfl), ?_⟩
      have q : FEq (.string St) (ff 7) ww := (hf 7 (by decide)).trans rfl
      exact sl_val (ff 7) hJ (by simp only [execOp, ev_tmp _ _ (show 7 < 67 by decide)]; rfl) q
    · intro kk bb ff ww hkk hf hd hp hq hJ
      obtain ⟨p0, p1, p2, -⟩ := hd
      have qg : FEq (.bool true) (ff 48) ww := p2 rfl
      refine .inl ⟨(wanted_on (b := true) (want := true) (j := 5) (d := 48) qg (by decide) rfl rfl rfl), ?_⟩
      have q53 : FEq (.string St) (ff 53) ww := p0 rfl
      unfold FEq at q53
      have q54 : FEq (.string St) (ff 54) ww := p1 rfl
      unfold FEq at q54
      refine sl_val (.bool true) hJ ?_ rfl
      simp only [execOp, ev_tmp _ _ (show 53 < 67 by decide), ev_tmp _ _ (show 54 < 67 by decide), ev_const, q53, q54]
      simp [go_sem]
    · intro kk bb ff ww hkk hf hd hp hq hJ
      refine .inl ⟨wanted_none rfl, ?_⟩
      obtain ⟨p0, p1, -⟩ := hd
      have q48 : FEq (.bool true) (ff 48) ww := p0 rfl
      unfold FEq at q48
      have q55 : FEq (.bool true) (ff 55) ww := p1 rfl
      unfold FEq at q55
      refine sl_val (.bool true) hJ ?_ rfl
      simp only [execOp, ev_tmp _ _ (show 48 < 67 by decide), ev_tmp _ _ (show 55 < 67 by decide), ev_const, q48, q55]
      simp [go_sem]
    · intro kk bb ff ww hkk hf hd hp hq hJ
      refine .inl ⟨wanted_none rfl, ?_⟩
      obtain ⟨p0, p1, -⟩ := hd
      have q : FEq (.bool true) (ff 56) ww := p0 rfl
      exact sl_val (ff 56) hJ (by simp only [execOp, ev_tmp _ _ (show 56 < 67 by decide)]; rfl) q
    · intro kk bb ff ww hkk hf hd hp hq hJ
      obtain ⟨p0, -⟩ := hd
      have qg : FEq (.bool true) (ff 57) ww := p0 rfl
      refine .inl ⟨(wanted_on (b := true) (want := true) (j := 14) (d := 57) qg (by decide) rfl rfl rfl), ?_⟩
      have q3 : FEq (.pointer (some ⟨w1.heap.size, 0, none⟩)) (ff 3) ww := (hf 3 (by decide)).trans rfl
      unfold FEq at q3
      have c0 : ww.cell? ⟨w1.heap.size, 0, none⟩ = some (.slice A zs.length c) := (hJ.cell (p := ⟨w1.heap.size, 0, none⟩) (show w1.heap.size < _ by omega)).trans Q_p
      refine sl_val (.agg #[.slice A zs.length c]) hJ ?_ rfl
      simp only [execOp, ev_tmp _ _ (show 3 < 67 by decide), ev_const, q3]
      simp [go_sem, c0]
    · intro kk bb ff ww hkk hf hd hp hq hJ
      obtain ⟨p0, -⟩ := hd
      have qg : FEq (.bool true) (ff 57) ww := p0 rfl
      refine .inl ⟨(wanted_on (b := true) (want := true) (j := 14) (d := 57) qg (by decide) rfl rfl rfl), ?_⟩
      have q3 : FEq (.pointer (some ⟨w1.heap.size, 0, none⟩)) (ff 3) ww := (hf 3 (by decide)).trans rfl
      unfold FEq at q3
      refine sl_val (.pointer (some ⟨w1.heap.size, 0, none⟩)) hJ ?_ rfl
      simp only [execOp, ev_tmp _ _ (show 3 < 67 by decide), ev_const, q3]
      simp [go_sem]
    · intro kk bb ff ww hkk hf hd hp hq hJ
      obtain ⟨p0, p1, -⟩ := hd
      have qg : FEq (.bool true) (ff 57) ww := p1 rfl
      refine .inl ⟨(wanted_on (b := true) (want := true) (j := 14) (d := 57) qg (by decide) rfl rfl rfl), ?_⟩
      have q59 : FEq (.pointer (some ⟨w1.heap.size, 0, none⟩)) (ff 59) ww := p0 rfl
      unfold FEq at q59
      have c0 : ww.cell? ⟨w1.heap.size, 0, none⟩ = some (.slice A zs.length c) := (hJ.cell (p := ⟨w1.heap.size, 0, none⟩) (show w1.heap.size < _ by omega)).trans Q_p
      refine sl_val (.slice A zs.length c) hJ ?_ rfl
      simp only [execOp, ev_tmp _ _ (show 59 < 67 by decide), ev_const, q59]
      simp [go_sem, c0]
    · intro kk bb ff ww hkk hf hd hp hq hJ
      obtain ⟨p0, p1, -⟩ := hd
      have qg : FEq (.bool true) (ff 57) ww := p1 rfl
      refine .inl ⟨(wanted_on (b := true) (want := true) (j := 14) (d := 57) qg (by decide) rfl rfl rfl), ?_⟩
      have q60 : FEq (.slice A zs.length c) (ff 60) ww := p0 rfl
      unfold FEq at q60
      refine sl_val (.int .i64 ((zs.length : Nat) : Int)) hJ ?_ rfl
      simp only [execOp, ev_tmp _ _ (show 60 < 67 by decide), ev_const, q60, List.map_toArray, List.map_cons, List.map_nil, resolve]
      simp [go_sem]
    · intro kk bb ff ww hkk hf hd hp hq hJ
      obtain ⟨p0, p1, p2, p3, -⟩ := hd
      have qg : FEq (.bool true) (ff 57) ww := p2 rfl
      refine .inl ⟨(wanted_on (b := true) (want := true) (j := 14) (d := 57) qg (by decide) rfl rfl rfl), ?_⟩
      have q58 : FEq (.agg #[.slice A zs.length c]) (ff 58) ww := p0 rfl
      unfold FEq at q58
      have q61 : FEq (.int .i64 (((zs.length : Nat) : Int))) (ff 61) ww := p1 rfl
      unfold FEq at q61
      refine sl_enter 25 #[.agg #[.slice A zs.length c], .int .i64 (((zs.length : Nat) : Int))] hJ ?_ ?_
      · simp only [execOp, ev_tmp _ _ (show 58 < 67 by decide), ev_tmp _ _ (show 61 < 67 by decide), ev_const, q58, q61, ev_func, resolve, List.map_toArray, List.map_cons, List.map_nil]
        simp [go_sem]
      · skip
        have h := retP_post (impl_TurnPattern A c zs ((zs.length : Nat) : Int) ww ((P_p.out.below hJ (by omega)).more (by have := hJ.size; omega)) (by omega))
        rw [HAL.out] at h
        exact h
    · intro kk bb ff ww hkk hf hd hp hq hJ
      obtain ⟨p0, p1, p2, -⟩ := hd
      have qg : FEq (.bool true) (ff 57) ww := p2 rfl
      refine .inl ⟨(wanted_on (b := true) (want := true) (j := 14) (d := 57) qg (by decide) rfl rfl rfl), ?_⟩
      have q62 : FRdB (zs) (ff 62) ww := p0 rfl
      obtain ⟨A62, c62, q62, rd62⟩ := q62
      refine sl_enter 14 #[.agg #[.slice A62 (zs).length c62]] hJ ?_ ?_
      · simp only [execOp, ev_tmp _ _ (show 62 < 67 by decide), ev_const, q62, ev_func, resolve, List.map_toArray, List.map_cons, List.map_nil]
        simp [go_sem]
      · skip
        have h := retS_post (impl_PatternText A62 c62 zs ww rd62 (by omega))
        rw [HSS.out] at h
        exact h
    · intro kk bb ff ww hkk hf hd hp hq hJ
      obtain ⟨p0, -⟩ := hd
      have qg : FEq (.bool true) (ff 57) ww := p0 rfl
      refine .inl ⟨(wanted_on (b := true) (want := true) (j := 14) (d := 57) qg (by decide) rfl rfl rfl), ?_⟩
      have q : FEq (.string St) (ff 7) ww := (hf 7 (by decide)).trans rfl
      exact sl_val (ff 7) hJ (by simp only [execOp, ev_tmp _ _ (show 7 < 67 by decide)]; rfl) q
    · intro kk bb ff ww hkk hf hd hp hq hJ
      obtain ⟨p0, p1, p2, -⟩ := hd
      have qg : FEq (.bool true) (ff 57) ww := p2 rfl
      refine .inl ⟨(wanted_on (b := true) (want := true) (j := 14) (d := 57) qg (by decide) rfl rfl rfl), ?_⟩
      have q63 : FEq (.string St) (ff 63) ww := p0 rfl
      unfold FEq at q63
      have q64 : FEq (.string St) (ff 64) ww := p1 rfl
      unfold FEq at q64
      refine sl_val (.bool true) hJ ?_ rfl
      simp only [execOp, ev_tmp _ _ (show 63 < 67 by decide), ev_tmp _ _ (show 64 < 67 by decide), ev_const, q63, q64]
      simp [go_sem]
    · intro kk bb ff ww hkk hf hd hp hq hJ
      refine .inl ⟨wanted_none rfl, ?_⟩
      obtain ⟨p0, p1, -⟩ := hd
      have q57 : FEq (.bool true) (ff 57) ww := p0 rfl
      unfold FEq at q57
      have q65 : FEq (.bool true) (ff 65) ww := p1 rfl
      unfold FEq at q65
      refine sl_val (.bool true) hJ ?_ rfl
      simp only [execOp, ev_tmp _ _ (show 57 < 67 by decide), ev_tmp _ _ (show 65 < 67 by decide), ev_const, q57, q65]
      simp [go_sem]
    · intro kk bb ff ww hkk hf hd hp hq hJ
      refine .inl ⟨wanted_none rfl, ?_⟩
      obtain ⟨p0, p1, p2, p3, p4, p5, p6, p7, p8, p9, p10, p11, p12, p13, p14, p15, p16, p17, p18, p19, p20, p21, p22, p23, p24, p25, -⟩ := hd
      have q : FEq (.bool true) (ff 66) ww := p0 rfl
      exact sl_val (ff 66) hJ (by simp only [execOp, ev_tmp _ _ (show 66 < 67 by decide)]; rfl) q
  intro ff w9 hf hd hJ
  have hfr : fr 67 ff = #[ff 0, ff 1, ff 2, ff 3, ff 4, ff 5, ff 6, ff 7, ff 8, ff 9, ff 10, ff 11, ff 12, ff 13, ff 14, ff 15, ff 16, ff 17, ff 18, ff 19, ff 20, ff 21, ff 22, ff 23, ff 24, ff 25, ff 26, ff 27, ff 28, ff 29, ff 30, ff 31, ff 32, ff 33, ff 34, ff 35, ff 36, ff 37, ff 38, ff 39, ff 40, ff 41, ff 42, ff 43, ff 44, ff 45, ff 46, ff 47, ff 48, ff 49, ff 50, ff 51, ff 52, ff 53, ff 54, ff 55, ff 56, ff 57, ff 58, ff 59, ff 60, ff 61, ff 62, ff 63, ff 64, ff 65, ff 66] := rfl
  rw [hfr]; clear hfr
  dsimp only
  have q0_ := hf 0 (by decide)
  have q1_ := hf 1 (by decide)
  have q2_ : FEq (.bool true) (ff 2) w9 := hd 24 (by decide)
  unfold FEq at q2_
  have q3_ := hf 3 (by decide)
  have q4_ := hf 4 (by decide)
  have q5_ := hf 5 (by decide)
  have q6_ := hf 6 (by decide)
  have q7_ := hf 7 (by decide)
  have q8_ := hf 8 (by decide)
  have q9_ := hf 9 (by decide)
  have q10_ := hf 10 (by decide)
  have q11_ := hf 11 (by decide)
  have q12_ := hf 12 (by decide)
  have q13_ := hf 13 (by decide)
  have q14_ := hf 14 (by decide)
  have q15_ := hf 15 (by decide)
  have q16_ := hf 16 (by decide)
  have q17_ := hf 17 (by decide)
  have q18_ := hf 18 (by decide)
  have q19_ := hf 19 (by decide)
  have q20_ := hf 20 (by decide)
  have q21_ := hf 21 (by decide)
  have q22_ := hf 22 (by decide)
  have q23_ := hf 23 (by decide)
  have q24_ := hf 24 (by decide)
  have q25_ := hf 25 (by decide)
  have q26_ := hf 26 (by decide)
  have q27_ := hf 27 (by decide)
  have q28_ := hf 28 (by decide)
  have q29_ := hf 29 (by decide)
  have q30_ := hf 30 (by decide)
  have q31_ := hf 31 (by decide)
  have q32_ := hf 32 (by decide)
  have q33_ := hf 33 (by decide)
  have q34_ := hf 34 (by decide)
  have q35_ := hf 35 (by decide)
  have q36_ := hf 36 (by decide)
  have q37_ := hf 37 (by decide)
  have q38_ := hf 38 (by decide)
  have q39_ := hf 39 (by decide)
  have q40_ := hf 40 (by decide)
  have q41_ := hf 41 (by decide)
  have q42_ := hf 42 (by decide)
  have q43_ : FEq (.agg #[.slice A3 L.length c3]) (ff 43) w9 := hd 0 (by decide)
  unfold FEq at q43_
  have q44_ : FEq (.int .i64 (((strk zs : Nat) : Int))) (ff 44) w9 := hd 1 (by decide)
  unfold FEq at q44_
  have q45_ : FEq (.agg #[.slice A zs.length c]) (ff 45) w9 := hd 2 (by decide)
  unfold FEq at q45_
  have q46_ : FEq (.int .i64 (((strk zs : Nat) : Int))) (ff 46) w9 := hd 3 (by decide)
  unfold FEq at q46_
  have q47_ : FEq (.bool true) (ff 47) w9 := hd 4 (by decide)
  unfold FEq at q47_
  have q48_ : FEq (.bool true) (ff 48) w9 := hd 5 (by decide)
  unfold FEq at q48_
  have q49_ : FEq (.agg #[.slice A3 L.length c3]) (ff 49) w9 := hd 6 (by decide)
  unfold FEq at q49_
  have q50_ : FEq (.int .i64 (t)) (ff 50) w9 := hd 7 (by decide)
  unfold FEq at q50_
  have q51_ : FEq (.int .i64 (-(t))) (ff 51) w9 := hd 8 (by decide)
  unfold FEq at q51_
  have q53_ : FEq (.string St) (ff 53) w9 := hd 10 (by decide)
  unfold FEq at q53_
  have q54_ : FEq (.string St) (ff 54) w9 := hd 11 (by decide)
  unfold FEq at q54_
  have q55_ : FEq (.bool true) (ff 55) w9 := hd 12 (by decide)
  unfold FEq at q55_
  have q56_ : FEq (.bool true) (ff 56) w9 := hd 13 (by decide)
  unfold FEq at q56_
  have q57_ : FEq (.bool true) (ff 57) w9 := hd 14 (by decide)
  unfold FEq at q57_
  have q58_ : FEq (.agg #[.slice A zs.length c]) (ff 58) w9 := hd 15 (by decide)
  unfold FEq at q58_
  have q59_ : FEq (.pointer (some ⟨w1.heap.size, 0, none⟩)) (ff 59) w9 := hd 16 (by decide)
  unfold FEq at q59_
  have q60_ : FEq (.slice A zs.length c) (ff 60) w9 := hd 17 (by decide)
  unfold FEq at q60_
  have q61_ : FEq (.int .i64 (((zs.length : Nat) : Int))) (ff 61) w9 := hd 18 (by decide)
  unfold FEq at q61_
  have q63_ : FEq (.string St) (ff 63) w9 := hd 20 (by decide)
  unfold FEq at q63_
  have q64_ : FEq (.string St) (ff 64) w9 := hd 21 (by decide)
  unfold FEq at q64_
  have q65_ : FEq (.bool true) (ff 65) w9 := hd 22 (by decide)
  unfold FEq at q65_
  have q66_ : FEq (.bool true) (ff 66) w9 := hd 23 (by decide)
  unfold FEq at q66_
  simp only [Array.getD_eq_getD_getElem?, List.getElem?_toArray, List.getElem?_cons_zero, List.getElem?_cons_succ, Option.getD_some] at q0_ q1_ q3_ q4_ q5_ q6_ q7_ q8_ q9_ q10_ q11_ q12_ q13_ q14_ q15_ q16_ q17_ q18_ q19_ q20_ q21_ q22_ q23_ q24_ q25_ q26_ q27_ q28_ q29_ q30_ q31_ q32_ q33_ q34_ q35_ q36_ q37_ q38_ q39_ q40_ q41_ q42_
  rw [q0_, q1_, q2_, q3_, q4_, q5_, q6_, q7_, q8_, q9_, q10_, q11_, q12_, q13_, q14_, q15_, q16_, q17_, q18_, q19_, q20_, q21_, q22_, q23_, q24_, q25_, q26_, q27_, q28_, q29_, q30_, q31_, q32_, q33_, q34_, q35_, q36_, q37_, q38_, q39_, q40_, q41_, q42_, q43_, q44_, q45_, q46_, q47_, q48_, q49_, q50_, q51_, q53_, q54_, q55_, q56_, q57_, q58_, q59_, q60_, q61_, q63_, q64_, q65_, q66_]
  clear q0_ q1_ q2_ q3_ q4_ q5_ q6_ q7_ q8_ q9_ q10_ q11_ q12_ q13_ q14_ q15_ q16_ q17_ q18_ q19_ q20_ q21_ q22_ q23_ q24_ q25_ q26_ q27_ q28_ q29_ q30_ q31_ q32_ q33_ q34_ q35_ q36_ q37_ q38_ q39_ q40_ q41_ q42_ q43_ q44_ q45_ q46_ q47_ q48_ q49_ q50_ q51_ q53_ q54_ q55_ q56_ q57_ q58_ q59_ q60_ q61_ q63_ q64_ q65_ q66_ hf hd
  generalize ff 52 = v52_
  generalize ff 62 = v62_
  clear ff
  have b_ : Below _ _ w9 := hJ
  clear hJ
  have b9 : Below w8.heap.size w8 w9 := b_
  clear b_
  have z9 := b9.size
  replace R_x := Lib.hid (R_x.out.below b9 (by omega))
  replace R_y := Lib.hid (R_y.out.below b9 (by omega))
  replace P_p := Lib.hid (P_p.out.below b9 (by omega))
  replace Q_p := (b9.cell (p := ⟨w1.heap.size, 0, none⟩) (show w1.heap.size < w8.heap.size by omega)).trans Q_p
  replace Q_x := (b9.cell (p := ⟨w3.heap.size, 0, none⟩) (show w3.heap.size < w8.heap.size by omega)).trans Q_x
  replace Q_y := (b9.cell (p := ⟨w5.heap.size, 0, none⟩) (show w5.heap.size < w8.heap.size by omega)).trans Q_y
  replace HB := Lib.hid (HB.out.trans (b9.mono (by omega)))
  clear b9
  go_wp2_with fail
  go_ret
  exact ⟨rfl, HB.out⟩
end Go.Proofs.Ytelajonddhoafaa.fnTurnPattern
