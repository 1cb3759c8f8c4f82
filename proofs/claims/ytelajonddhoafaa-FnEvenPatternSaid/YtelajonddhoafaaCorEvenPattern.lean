/- The walk of FnEvenPattern: it returns true. Condition: at most 2^20 bytes. -/
import Derived.Test.YtelajonddhoafaaStrk
import Derived.Test.YtelajonddhoafaaEvnP
import Derived.Test.YtelajonddhoafaaDrawP
import Derived.Test.YtelajonddhoafaaInvP
import Derived.Test.YtelajonddhoafaaEven
import Derived.Test.YtelajonddhoafaaText
import Derived.Test.YtelajonddhoafaaGaps
import Derived.Test.YtelajonddhoafaaAlive
import Derived.Test.YtelajonddhoafaaSam2
import Derived.Test.YtelajonddhoafaaRegW
namespace Go.Proofs.Ytelajonddhoafaa.fnEvenPattern
set_option linter.unusedVariables false
open Go.RowKit
set_option linter.unusedSimpArgs false
set_option maxRecDepth 100000 in
set_option maxHeartbeats 4000000 in
theorem core (w : World) (A_z : Option Addr) (c_z : Nat) (z : List Int) (r_z : RdY w w.heap.size A_z z) (f_z : WfY z) (k_z : z.length ≤ c_z) (hbig : z.length ≤ 1048576) :
    Calls Try.prog 5 #[.slice A_z z.length c_z] w (RetB w true) := by
  have hi1 : (z.length : Int) ≤ 1048576 := by omega
  go_enter Try.func5, Try.ntmps5
  go_wp2_with fail
  refine (spec_DrawEvenPattern A_z c_z z w r_z f_z hbig k_z).mono ?_
  rintro e w1 ⟨s, n, rfl, hs, hn, b1⟩
  have z1 := b1.size
  have HB := Lib.hid b1; clear b1 r_z f_z
  have hLl := evenL_len s n
  have hyes := even_facts s n
  generalize hL : evenL s n = L at *
  have HL := Lib.hid hL; clear hL
  generalize hSx : strV (textL L) = Sx at *
  have HSX := Lib.hid hSx; clear hSx
  go_wp2_with fail
  refine (impl_EvenPattern _ _ _).mono ?_
  rw [HL.out]
  rintro e w2 ⟨A2, c2, rfl, o2, b2⟩
  have z2 := b2.size
  have R_x := Lib.hid (Row.mk_ o2)
  clear o2
  replace HB := Lib.hid (HB.out.trans (b2.mono (by omega)))
  clear b2
  have b3 : Below w2.heap.size w2 (w2.alloc (.cells #[.slice A2 L.length c2] 25)) := (Below.refl _ _).alloc (Nat.le_refl _) _
  have z3 : w2.heap.size + 1 ≤ (w2.alloc (.cells #[.slice A2 L.length c2] 25)).heap.size := by simp
  have Q_x : (w2.alloc (.cells #[.slice A2 L.length c2] 25)).cell? ⟨w2.heap.size, 0, none⟩ = some (.slice A2 L.length c2) := by simp [go_sem]
  replace R_x := Lib.hid (R_x.out.below b3 (by omega))
  replace HB := Lib.hid (HB.out.trans (b3.mono (by omega)))
  clear b3
  go_upto_region 5 with (fail)
  generalize (w2.alloc (.cells #[.slice A2 L.length c2] 25)) = w3 at *
  refine regionL_draws rfl 98 [some 22, some 23, some 24, some 25, some 26, some 27, some 28, some 29, some 30, some 31, some 32, some 33, some 34, some 35, some 36, some 37, some 38, some 39]
    [FEq (.agg #[.slice A2 L.length c2]), FEq (.string Sx), FEq (.int .i64 (s)), FEq (.int .i64 (n)), FRdB (L), FEq (.string Sx), FEq (.bool false), FEq (.bool false), FEq (.pointer (some ⟨w2.heap.size, 0, none⟩)), FEq (.slice A2 L.length c2), FEq (.int .i64 (((L.length : Nat) : Int))), FEq (.int .i64 (s)), FEq (.int .i64 (n)), FRdB (L), FSlc L.length, FEq (.int .i64 (((L.length : Nat) : Int))), FEq (.bool false), FEq (.bool false)] (by kernel_rfl) (by kernel_rfl) ?_ ?_ ?_
  · exact stayLs_cons stayL_eq (stayLs_cons stayL_eq (stayLs_cons stayL_eq (stayLs_cons stayL_eq (stayLs_cons stayL_rdb (stayLs_cons stayL_eq (stayLs_cons stayL_eq (stayLs_cons stayL_eq (stayLs_cons stayL_eq (stayLs_cons stayL_eq (stayLs_cons stayL_eq (stayLs_cons stayL_eq (stayLs_cons stayL_eq (stayLs_cons stayL_rdb (stayLs_cons stayL_slc (stayLs_cons stayL_eq (stayLs_cons stayL_eq (stayLs_cons stayL_eq stayLs_nil)))))))))))))))))
  · refine AllI.cons ?_ (AllI.cons ?_ (AllI.cons ?_ (AllI.cons ?_ (AllI.cons ?_ (AllI.cons ?_ (AllI.cons ?_ (AllI.cons ?_ (AllI.cons ?_ (AllI.cons ?_ (AllI.cons ?_ (AllI.cons ?_ (AllI.cons ?_ (AllI.cons ?_ (AllI.cons ?_ (AllI.cons ?_ (AllI.cons ?_ (AllI.cons ?_ trivial)))))))))))))))))
    · intro kk bb ff ww hkk hf hd hp hq hJ
      refine .inl ⟨wanted_none rfl, ?_⟩
      have q5 : FEq (.pointer (some ⟨w2.heap.size, 0, none⟩)) (ff 5) ww := (hf 5 (by decide)).trans rfl
      unfold FEq at q5
      have c0 : ww.cell? ⟨w2.heap.size, 0, none⟩ = some (.slice A2 L.length c2) := (hJ.cell (p := ⟨w2.heap.size, 0, none⟩) (show w2.heap.size < _ by omega)).trans Q_x
      refine sl_val (.agg #[.slice A2 L.length c2]) hJ ?_ rfl
      simp only [execOp, ev_tmp _ _ (show 5 < 98 by decide), ev_const, q5]
      simp [go_sem, c0]
    · intro kk bb ff ww hkk hf hd hp hq hJ
      refine .inl ⟨wanted_none rfl, ?_⟩
      obtain ⟨p0, -⟩ := hd
      have q22 : FEq (.agg #[.slice A2 L.length c2]) (ff 22) ww := p0 rfl
      unfold FEq at q22
      refine sl_enter 14 #[.agg #[.slice A2 L.length c2]] hJ ?_ ?_
      · simp only [execOp, ev_tmp _ _ (show 22 < 98 by decide), ev_const, q22, ev_func, resolve, List.map_toArray, List.map_cons, List.map_nil]
        simp [go_sem]
      · skip
        have h := retS_post (impl_PatternText A2 c2 L ww ((R_x.out.below hJ (by omega)).rd.more (by have := hJ.size; omega)) (by omega))
        rw [HSX.out] at h
        exact h
    · intro kk bb ff ww hkk hf hd hp hq hJ
      refine .inl ⟨wanted_none rfl, ?_⟩
      have q : FEq (.int .i64 (s)) (ff 3) ww := (hf 3 (by decide)).trans rfl
      exact sl_val (ff 3) hJ (by simp only [execOp, ev_tmp _ _ (show 3 < 98 by decide)]; rfl) q
    · intro kk bb ff ww hkk hf hd hp hq hJ
      refine .inl ⟨wanted_none rfl, ?_⟩
      have q : FEq (.int .i64 (n)) (ff 4) ww := (hf 4 (by decide)).trans rfl
      exact sl_val (ff 4) hJ (by simp only [execOp, ev_tmp _ _ (show 4 < 98 by decide)]; rfl) q
    · intro kk bb ff ww hkk hf hd hp hq hJ
      refine .inl ⟨wanted_none rfl, ?_⟩
      obtain ⟨p0, p1, p2, -⟩ := hd
      have q24 : FEq (.int .i64 (s)) (ff 24) ww := p0 rfl
      unfold FEq at q24
      have q25 : FEq (.int .i64 (n)) (ff 25) ww := p1 rfl
      unfold FEq at q25
      refine sl_enter 18 #[.int .i64 (s), .int .i64 (n)] hJ ?_ ?_
      · simp only [execOp, ev_tmp _ _ (show 24 < 98 by decide), ev_tmp _ _ (show 25 < 98 by decide), ev_const, q24, q25, ev_func, resolve, List.map_toArray, List.map_cons, List.map_nil]
        simp [go_sem]
      · skip
        have h := retP_post (spec_EvenPattern s n ww)
        rw [HL.out] at h
        exact h
    · intro kk bb ff ww hkk hf hd hp hq hJ
      refine .inl ⟨wanted_none rfl, ?_⟩
      obtain ⟨p0, p1, -⟩ := hd
      have q26 : FRdB (L) (ff 26) ww := p0 rfl
      obtain ⟨A26, c26, q26, rd26⟩ := q26
      refine sl_enter 15 #[.agg #[.slice A26 L.length c26]] hJ ?_ ?_
      · simp only [execOp, ev_tmp _ _ (show 26 < 98 by decide), ev_const, q26, ev_func, resolve, List.map_toArray, List.map_cons, List.map_nil]
        simp [go_sem]
      · skip
        have h := retS_post (spec_PatternText A26 c26 L ww rd26 (by omega))
        rw [HSX.out] at h
        exact h
    · intro kk bb ff ww hkk hf hd hp hq hJ
      refine .inl ⟨wanted_none rfl, ?_⟩
      obtain ⟨p0, p1, -⟩ := hd
      have q23 : FEq (.string Sx) (ff 23) ww := p0 rfl
      unfold FEq at q23
      have q27 : FEq (.string Sx) (ff 27) ww := p1 rfl
      unfold FEq at q27
      refine sl_val (.bool false) hJ ?_ rfl
      simp only [execOp, ev_tmp _ _ (show 23 < 98 by decide), ev_tmp _ _ (show 27 < 98 by decide), ev_const, q23, q27]
      simp [go_sem]
    · intro kk bb ff ww hkk hf hd hp hq hJ
      refine .inl ⟨wanted_none rfl, ?_⟩
      obtain ⟨p0, p1, -⟩ := hd
      have q : FEq (.bool false) (ff 28) ww := p0 rfl
      exact sl_val (ff 28) hJ (by simp only [execOp, ev_tmp _ _ (show 28 < 98 by decide)]; rfl) q
    · intro kk bb ff ww hkk hf hd hp hq hJ
      obtain ⟨p0, -⟩ := hd
      have qg : FEq (.bool false) (ff 29) ww := p0 rfl
      refine .inl ⟨(wanted_on (b := false) (want := false) (j := 7) (d := 29) qg (by decide) rfl rfl rfl), ?_⟩
      have q5 : FEq (.pointer (some ⟨w2.heap.size, 0, none⟩)) (ff 5) ww := (hf 5 (by decide)).trans rfl
      unfold FEq at q5
      refine sl_val (.pointer (some ⟨w2.heap.size, 0, none⟩)) hJ ?_ rfl
      simp only [execOp, ev_tmp _ _ (show 5 < 98 by decide), ev_const, q5]
      simp [go_sem]
    · intro kk bb ff ww hkk hf hd hp hq hJ
      obtain ⟨p0, p1, -⟩ := hd
      have qg : FEq (.bool false) (ff 29) ww := p1 rfl
      refine .inl ⟨(wanted_on (b := false) (want := false) (j := 7) (d := 29) qg (by decide) rfl rfl rfl), ?_⟩
      have q30 : FEq (.pointer (some ⟨w2.heap.size, 0, none⟩)) (ff 30) ww := p0 rfl
      unfold FEq at q30
      have c0 : ww.cell? ⟨w2.heap.size, 0, none⟩ = some (.slice A2 L.length c2) := (hJ.cell (p := ⟨w2.heap.size, 0, none⟩) (show w2.heap.size < _ by omega)).trans Q_x
      refine sl_val (.slice A2 L.length c2) hJ ?_ rfl
      simp only [execOp, ev_tmp _ _ (show 30 < 98 by decide), ev_const, q30]
      simp [go_sem, c0]
    · intro kk bb ff ww hkk hf hd hp hq hJ
      obtain ⟨p0, p1, -⟩ := hd
      have qg : FEq (.bool false) (ff 29) ww := p1 rfl
      refine .inl ⟨(wanted_on (b := false) (want := false) (j := 7) (d := 29) qg (by decide) rfl rfl rfl), ?_⟩
      have q31 : FEq (.slice A2 L.length c2) (ff 31) ww := p0 rfl
      unfold FEq at q31
      refine sl_val (.int .i64 ((L.length : Nat) : Int)) hJ ?_ rfl
      simp only [execOp, ev_tmp _ _ (show 31 < 98 by decide), ev_const, q31, List.map_toArray, List.map_cons, List.map_nil, resolve]
      simp [go_sem]
    · intro kk bb ff ww hkk hf hd hp hq hJ
      obtain ⟨p0, -⟩ := hd
      have qg : FEq (.bool false) (ff 29) ww := p0 rfl
      refine .inl ⟨(wanted_on (b := false) (want := false) (j := 7) (d := 29) qg (by decide) rfl rfl rfl), ?_⟩
      have q : FEq (.int .i64 (s)) (ff 3) ww := (hf 3 (by decide)).trans rfl
      exact sl_val (ff 3) hJ (by simp only [execOp, ev_tmp _ _ (show 3 < 98 by decide)]; rfl) q
    · intro kk bb ff ww hkk hf hd hp hq hJ
      obtain ⟨p0, -⟩ := hd
      have qg : FEq (.bool false) (ff 29) ww := p0 rfl
      refine .inl ⟨(wanted_on (b := false) (want := false) (j := 7) (d := 29) qg (by decide) rfl rfl rfl), ?_⟩
      have q : FEq (.int .i64 (n)) (ff 4) ww := (hf 4 (by decide)).trans rfl
      exact sl_val (ff 4) hJ (by simp only [execOp, ev_tmp _ _ (show 4 < 98 by decide)]; rfl) q
    · intro kk bb ff ww hkk hf hd hp hq hJ
      obtain ⟨p0, p1, p2, p3, -⟩ := hd
      have qg : FEq (.bool false) (ff 29) ww := p2 rfl
      refine .inl ⟨(wanted_on (b := false) (want := false) (j := 7) (d := 29) qg (by decide) rfl rfl rfl), ?_⟩
      have q33 : FEq (.int .i64 (s)) (ff 33) ww := p0 rfl
      unfold FEq at q33
      have q34 : FEq (.int .i64 (n)) (ff 34) ww := p1 rfl
      unfold FEq at q34
      refine sl_enter 18 #[.int .i64 (s), .int .i64 (n)] hJ ?_ ?_
      · simp only [execOp, ev_tmp _ _ (show 33 < 98 by decide), ev_tmp _ _ (show 34 < 98 by decide), ev_const, q33, q34, ev_func, resolve, List.map_toArray, List.map_cons, List.map_nil]
        simp [go_sem]
      · skip
        have h := retP_post (spec_EvenPattern s n ww)
        rw [HL.out] at h
        exact h
    · intro kk bb ff ww hkk hf hd hp hq hJ
      obtain ⟨p0, p1, -⟩ := hd
      have qg : FEq (.bool false) (ff 29) ww := p1 rfl
      refine .inl ⟨(wanted_on (b := false) (want := false) (j := 7) (d := 29) qg (by decide) rfl rfl rfl), ?_⟩
      have q35 : FRdB (L) (ff 35) ww := p0 rfl
      obtain ⟨A35, c35, q35, rd35⟩ := q35
      refine sl_val (.slice A35 L.length c35) hJ ?_ ⟨_, _, rfl⟩
      have hfd : (Instr.field 25 (.agg #[.slice A35 L.length c35]) 0).run Try.prog ww = .ok (.slice A35 L.length c35) ww := by kernel_rfl
      simp only [execOp, ev_tmp _ _ (show 35 < 98 by decide), ev_const, q35]
      simp only [Sem.run_bind, hfd, Result.andThen_ok, Sem.run_pure]
    · intro kk bb ff ww hkk hf hd hp hq hJ
      obtain ⟨p0, p1, -⟩ := hd
      have qg : FEq (.bool false) (ff 29) ww := p1 rfl
      refine .inl ⟨(wanted_on (b := false) (want := false) (j := 7) (d := 29) qg (by decide) rfl rfl rfl), ?_⟩
      have q36 : FSlc L.length (ff 36) ww := p0 rfl
      obtain ⟨A36, c36, q36⟩ := q36
      refine sl_val (.int .i64 ((L.length : Nat) : Int)) hJ ?_ rfl
      simp only [execOp, ev_tmp _ _ (show 36 < 98 by decide), ev_const, q36, List.map_toArray, List.map_cons, List.map_nil, resolve]
      simp [go_sem]
    · intro kk bb ff ww hkk hf hd hp hq hJ
      obtain ⟨p0, p1, p2, -⟩ := hd
      have qg : FEq (.bool false) (ff 29) ww := p2 rfl
      refine .inl ⟨(wanted_on (b := false) (want := false) (j := 7) (d := 29) qg (by decide) rfl rfl rfl), ?_⟩
      have q32 : FEq (.int .i64 (((L.length : Nat) : Int))) (ff 32) ww := p0 rfl
      unfold FEq at q32
      have q37 : FEq (.int .i64 (((L.length : Nat) : Int))) (ff 37) ww := p1 rfl
      unfold FEq at q37
      refine sl_val (.bool false) hJ ?_ rfl
      simp only [execOp, ev_tmp _ _ (show 32 < 98 by decide), ev_tmp _ _ (show 37 < 98 by decide), ev_const, q32, q37]
      simp [go_sem]
    · intro kk bb ff ww hkk hf hd hp hq hJ
      refine .inl ⟨wanted_none rfl, ?_⟩
      obtain ⟨p0, p1, -⟩ := hd
      have q29 : FEq (.bool false) (ff 29) ww := p0 rfl
      unfold FEq at q29
      have q38 : FEq (.bool false) (ff 38) ww := p1 rfl
      unfold FEq at q38
      refine sl_val (.bool false) hJ ?_ rfl
      simp only [execOp, ev_tmp _ _ (show 29 < 98 by decide), ev_tmp _ _ (show 38 < 98 by decide), ev_const, q29, q38]
      simp [go_sem]
  intro ff w4 hf hd hJ
  have hfr : fr 98 ff = #[ff 0, ff 1, ff 2, ff 3, ff 4, ff 5, ff 6, ff 7, ff 8, ff 9, ff 10, ff 11, ff 12, ff 13, ff 14, ff 15, ff 16, ff 17, ff 18, ff 19, ff 20, ff 21, ff 22, ff 23, ff 24, ff 25, ff 26, ff 27, ff 28, ff 29, ff 30, ff 31, ff 32, ff 33, ff 34, ff 35, ff 36, ff 37, ff 38, ff 39, ff 40, ff 41, ff 42, ff 43, ff 44, ff 45, ff 46, ff 47, ff 48, ff 49, ff 50, ff 51, ff 52, ff 53, ff 54, ff 55, ff 56, ff 57, ff 58, ff 59, ff 60, ff 61, ff 62, ff 63, ff 64, ff 65, ff 66, ff 67, ff 68, ff 69, ff 70, ff 71, ff 72, ff 73, ff 74, ff 75, ff 76, ff 77, ff 78, ff 79, ff 80, ff 81, ff 82, ff 83, ff 84, ff 85, ff 86, ff 87, ff 88, ff 89, ff 90, ff 91, ff 92, ff 93, ff 94, ff 95, ff 96, ff 97] := rfl
  rw [hfr]; clear hfr
  dsimp only
  have q0_ := hf 0 (by decide)
  have q1_ := hf 1 (by decide)
  have q2_ := hf 2 (by decide)
  have q3_ := hf 3 (by decide)
  have q4_ := hf 4 (by decide)
  have q5_ := hf 5 (by decide)
  have q6_ := hf 6 (by decide)
  have q7_ := hf 7 (by decide)
  have q8_ := hf 8 (by decide)
  have q9_ := hf 9 (by decide)
  have q10_ := hf 10 (by decide)
  have q11_ := hf 11 (by decide)
  have q12_ := hf 12 (by decide)
  have q13_ := hf 13 (by decide)
  have q14_ := hf 14 (by decide)
  have q15_ := hf 15 (by decide)
  have q16_ := hf 16 (by decide)
  have q17_ := hf 17 (by decide)
  have q18_ := hf 18 (by decide)
  have q19_ := hf 19 (by decide)
  have q20_ := hf 20 (by decide)
  have q21_ := hf 21 (by decide)
  have q22_ : FEq (.agg #[.slice A2 L.length c2]) (ff 22) w4 := hd 0 (by decide)
  unfold FEq at q22_
  have q23_ : FEq (.string Sx) (ff 23) w4 := hd 1 (by decide)
  unfold FEq at q23_
  have q24_ : FEq (.int .i64 (s)) (ff 24) w4 := hd 2 (by decide)
  unfold FEq at q24_
  have q25_ : FEq (.int .i64 (n)) (ff 25) w4 := hd 3 (by decide)
  unfold FEq at q25_
  have q27_ : FEq (.string Sx) (ff 27) w4 := hd 5 (by decide)
  unfold FEq at q27_
  have q28_ : FEq (.bool false) (ff 28) w4 := hd 6 (by decide)
  unfold FEq at q28_
  have q29_ : FEq (.bool false) (ff 29) w4 := hd 7 (by decide)
  unfold FEq at q29_
  have q30_ : FEq (.pointer (some ⟨w2.heap.size, 0, none⟩)) (ff 30) w4 := hd 8 (by decide)
  unfold FEq at q30_
  have q31_ : FEq (.slice A2 L.length c2) (ff 31) w4 := hd 9 (by decide)
  unfold FEq at q31_
  have q32_ : FEq (.int .i64 (((L.length : Nat) : Int))) (ff 32) w4 := hd 10 (by decide)
  unfold FEq at q32_
  have q33_ : FEq (.int .i64 (s)) (ff 33) w4 := hd 11 (by decide)
  unfold FEq at q33_
  have q34_ : FEq (.int .i64 (n)) (ff 34) w4 := hd 12 (by decide)
  unfold FEq at q34_
  have q37_ : FEq (.int .i64 (((L.length : Nat) : Int))) (ff 37) w4 := hd 15 (by decide)
  unfold FEq at q37_
  have q38_ : FEq (.bool false) (ff 38) w4 := hd 16 (by decide)
  unfold FEq at q38_
  have q39_ : FEq (.bool false) (ff 39) w4 := hd 17 (by decide)
  unfold FEq at q39_
  have q40_ := hf 40 (by decide)
  have q41_ := hf 41 (by decide)
  have q42_ := hf 42 (by decide)
  have q43_ := hf 43 (by decide)
  have q44_ := hf 44 (by decide)
  have q45_ := hf 45 (by decide)
  have q46_ := hf 46 (by decide)
  have q47_ := hf 47 (by decide)
  have q48_ := hf 48 (by decide)
  have q49_ := hf 49 (by decide)
  have q50_ := hf 50 (by decide)
  have q51_ := hf 51 (by decide)
  have q52_ := hf 52 (by decide)
  have q53_ := hf 53 (by decide)
  have q54_ := hf 54 (by decide)
  have q55_ := hf 55 (by decide)
  have q56_ := hf 56 (by decide)
  have q57_ := hf 57 (by decide)
  have q58_ := hf 58 (by decide)
  have q59_ := hf 59 (by decide)
  have q60_ := hf 60 (by decide)
  have q61_ := hf 61 (by decide)
  have q62_ := hf 62 (by decide)
  have q63_ := hf 63 (by decide)
  have q64_ := hf 64 (by decide)
  have q65_ := hf 65 (by decide)
  have q66_ := hf 66 (by decide)
  have q67_ := hf 67 (by decide)
  have q68_ := hf 68 (by decide)
  have q69_ := hf 69 (by decide)
  have q70_ := hf 70 (by decide)
  have q71_ := hf 71 (by decide)
  have q72_ := hf 72 (by decide)
  have q73_ := hf 73 (by decide)
  have q74_ := hf 74 (by decide)
  have q75_ := hf 75 (by decide)
  have q76_ := hf 76 (by decide)
  have q77_ := hf 77 (by decide)
  have q78_ := hf 78 (by decide)
  have q79_ := hf 79 (by decide)
  have q80_ := hf 80 (by decide)
  have q81_ := hf 81 (by decide)
  have q82_ := hf 82 (by decide)
  have q83_ := hf 83 (by decide)
  have q84_ := hf 84 (by decide)
  have q85_ := hf 85 (by decide)
  have q86_ := hf 86 (by decide)
  have q87_ := hf 87 (by decide)
  have q88_ := hf 88 (by decide)
  have q89_ := hf 89 (by decide)
  have q90_ := hf 90 (by decide)
  have q91_ := hf 91 (by decide)
  have q92_ := hf 92 (by decide)
  have q93_ := hf 93 (by decide)
  have q94_ := hf 94 (by decide)
  have q95_ := hf 95 (by decide)
  have q96_ := hf 96 (by decide)
  have q97_ := hf 97 (by decide)
  simp only [Array.getD_eq_getD_getElem?, List.getElem?_toArray, List.getElem?_cons_zero, List.getElem?_cons_succ, Option.getD_some] at q0_ q1_ q2_ q3_ q4_ q5_ q6_ q7_ q8_ q9_ q10_ q11_ q12_ q13_ q14_ q15_ q16_ q17_ q18_ q19_ q20_ q21_ q40_ q41_ q42_ q43_ q44_ q45_ q46_ q47_ q48_ q49_ q50_ q51_ q52_ q53_ q54_ q55_ q56_ q57_ q58_ q59_ q60_ q61_ q62_ q63_ q64_ q65_ q66_ q67_ q68_ q69_ q70_ q71_ q72_ q73_ q74_ q75_ q76_ q77_ q78_ q79_ q80_ q81_ q82_ q83_ q84_ q85_ q86_ q87_ q88_ q89_ q90_ q91_ q92_ q93_ q94_ q95_ q96_ q97_
  rw [q0_, q1_, q2_, q3_, q4_, q5_, q6_, q7_, q8_, q9_, q10_, q11_, q12_, q13_, q14_, q15_, q16_, q17_, q18_, q19_, q20_, q21_, q22_, q23_, q24_, q25_, q27_, q28_, q29_, q30_, q31_, q32_, q33_, q34_, q37_, q38_, q39_, q40_, q41_, q42_, q43_, q44_, q45_, q46_, q47_, q48_, q49_, q50_, q51_, q52_, q53_, q54_, q55_, q56_, q57_, q58_, q59_, q60_, q61_, q62_, q63_, q64_, q65_, q66_, q67_, q68_, q69_, q70_, q71_, q72_, q73_, q74_, q75_, q76_, q77_, q78_, q79_, q80_, q81_, q82_, q83_, q84_, q85_, q86_, q87_, q88_, q89_, q90_, q91_, q92_, q93_, q94_, q95_, q96_, q97_]
  clear q0_ q1_ q2_ q3_ q4_ q5_ q6_ q7_ q8_ q9_ q10_ q11_ q12_ q13_ q14_ q15_ q16_ q17_ q18_ q19_ q20_ q21_ q22_ q23_ q24_ q25_ q27_ q28_ q29_ q30_ q31_ q32_ q33_ q34_ q37_ q38_ q39_ q40_ q41_ q42_ q43_ q44_ q45_ q46_ q47_ q48_ q49_ q50_ q51_ q52_ q53_ q54_ q55_ q56_ q57_ q58_ q59_ q60_ q61_ q62_ q63_ q64_ q65_ q66_ q67_ q68_ q69_ q70_ q71_ q72_ q73_ q74_ q75_ q76_ q77_ q78_ q79_ q80_ q81_ q82_ q83_ q84_ q85_ q86_ q87_ q88_ q89_ q90_ q91_ q92_ q93_ q94_ q95_ q96_ q97_ hf hd
  generalize ff 26 = v26_
  generalize ff 35 = v35_
  generalize ff 36 = v36_
  clear ff
  have b_ : Below _ _ w4 := hJ
  clear hJ
  have b4 : Below w3.heap.size w3 w4 := b_
  clear b_
  have z4 := b4.size
  replace R_x := Lib.hid (R_x.out.below b4 (by omega))
  replace Q_x := (b4.cell (p := ⟨w2.heap.size, 0, none⟩) (show w2.heap.size < w3.heap.size by omega)).trans Q_x
  replace HB := Lib.hid (HB.out.trans (b4.mono (by omega)))
  clear b4
  by_cases h0 : L.length = 0
  · have h1 : ((L.length : Int) == 0) = true := by simp [h0]
    clear h0
    go_wp2_with fail
    refine (laws_alive _).mono ?_
    rintro e wz ⟨rfl, bz⟩
    replace HB := Lib.hid (HB.out.trans (bz.mono (by omega)))
    clear bz
    go_wp2_with fail
    go_ret
    exact ⟨rfl, HB.out⟩
  have h1 : ((L.length : Int) == 0) = false := by simpa using h0
  obtain ⟨hLn, hsn, hst, hmx, hsum, hsb, hg2⟩ := hyes (by rintro rfl; simp at h0)
  generalize hG : gapsL L = G at *
  have HGL := Lib.hid hG; have HST := Lib.hid hst; have HSM := Lib.hid hsum; have HSB := Lib.hid hsb; have HMX := Lib.hid hmx; have HLN := Lib.hid hLn; have HG2 := Lib.hid hg2
  have hGl : G.length ≤ 32 := by rw [← hG]; exact gapsL_len _
  clear hG hst hsum hsb hmx hLn h0 hyes hg2
  go_wp2_with fail
  refine (impl_PatternGaps _ _ _ _ (R_x.out.rd.more (by omega)) (by omega)).mono ?_
  rw [HGL.out]
  rintro e w5 ⟨A5, c5, rfl, o5, b5⟩
  have z5 := b5.size
  have R_g := Lib.hid (Row.mk_ o5)
  clear o5
  replace R_x := Lib.hid (R_x.out.below b5 (by omega))
  replace Q_x := (b5.cell (p := ⟨w2.heap.size, 0, none⟩) (show w2.heap.size < w4.heap.size by omega)).trans Q_x
  replace HB := Lib.hid (HB.out.trans (b5.mono (by omega)))
  clear b5
  have HGR := Lib.hid (RdI.of_own R_g.out.1)
  clear R_g
  go_wp2_with fail
  clear h1
  go_loop [7, 8, 9, 10] (fun le mo sm i => ∃ k : Nat, k ≤ G.length ∧ i = .int .i64 k ∧ le = .int .i64 (minI n (G.take k)) ∧ mo = .int .i64 (maxI (G.take k)) ∧ sm = .int .i64 (sumI (G.take k))) (fun _ _ _ i => G.length - (intOf i).toNat)
  case atStart => exact ⟨0, Nat.zero_le _, rfl, rfl, rfl, rfl⟩
  case round =>
    obtain ⟨k, hk, rfl, rfl, rfl, rfl⟩ := hrel
    have hsk := HSB.out k hk
    by_cases hlt : k < G.length
    · obtain ⟨b, off, rfl, hbB, hc⟩ := HGR.out.at_ hlt
      have hs1 := HSB.out (k + 1) (by omega)
      have hgk := HG2.out k hlt
      rw [sumI_succ hlt, minI_succ hlt, maxI_succ hlt] at hs1
      have HS := Lib.hid (sumI_succ hlt); have HM := Lib.hid (minI_succ (n := n) hlt); have HX := Lib.hid (maxI_succ hlt)
      have hi1 : (k : Int) < (G.length : Int) := by omega
      generalize gi G k = x at *
      generalize sumI (G.take k) = sm at *
      generalize minI n (G.take k) = mi at *
      generalize maxI (G.take k) = ma at *
      go_wp2
      all_goals
        go_round
        case rel => exact ⟨k + 1, by omega, by go_num, by rw [HM.out]; exact congrArg (Value.int IntKind.i64) (by split <;> omega), by rw [HX.out]; exact congrArg (Value.int IntKind.i64) (by split <;> omega), by rw [HS.out]⟩
        case measure => simp [intOf]; omega
    · obtain rfl : G.length = k := by omega
      rw [List.take_length] at *
      generalize hma : maxI G = ma at *
      generalize hmi : minI n G = mi at *
      generalize hsm : sumI G = sm at *
      have hHM := HMX.out
      have hsq : s ≠ 0 → sm = n := HSM.out
      clear hma hmi hsm HMX HSM HSB
      go_wp2_with fail
      refine (laws_strokes _ _ _ _ (R_x.out.rd.more (by omega)) (by omega)).mono ?_
      rw [HST.out]
      rintro e w6 ⟨rfl, b6⟩
      have z6 := b6.size
      have c0 : w6.cell? ⟨w2.heap.size, 0, none⟩ = some (.slice A2 L.length c2) := (b6.cell (p := ⟨w2.heap.size, 0, none⟩) (show w2.heap.size < w5.heap.size by omega)).trans Q_x
      replace HB := Lib.hid (HB.out.trans (b6.mono (by omega)))
      clear b6 Q_x
      have hb1 : ((L.length : Int) == n) = true := by rw [HLN.out]; simp
      by_cases h0 : s = 0
      · have hb2 : (s == 0) = true := by simp [h0]
        clear h0 hHM hsq
        go_wp2_with fail
        go_ret
        exact ⟨rfl, HB.out⟩
      · have hb2 : (s == 0) = false := by simp [h0]
        have hb3 : decide (ma - mi ≤ 1) = true := decide_eq_true (hHM h0)
        have hb4 : (sm == n) = true := by rw [hsq h0]; simp
        clear h0 hHM hsq
        go_wp2_with fail
        go_ret
        exact ⟨rfl, HB.out⟩
end Go.Proofs.Ytelajonddhoafaa.fnEvenPattern
