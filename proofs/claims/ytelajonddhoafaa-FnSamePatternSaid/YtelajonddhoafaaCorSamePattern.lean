/- The walk of FnSamePattern: it returns true. Condition: at most 2^20 bytes. -/
import Derived.Test.YtelajonddhoafaaStrk
import Derived.Test.YtelajonddhoafaaDrawP
import Derived.Test.YtelajonddhoafaaInvP
import Derived.Test.YtelajonddhoafaaTurn
import Derived.Test.YtelajonddhoafaaSame
import Derived.Test.YtelajonddhoafaaAlive
import Derived.Test.YtelajonddhoafaaSam2
import Derived.Test.YtelajonddhoafaaRegW
namespace Go.Proofs.Ytelajonddhoafaa.fnSamePattern
set_option linter.unusedVariables false
open Go.RowKit
set_option linter.unusedSimpArgs false
set_option maxRecDepth 100000 in
set_option maxHeartbeats 4000000 in
theorem core (w : World) (A_z : Option Addr) (c_z : Nat) (z : List Int) (r_z : RdY w w.heap.size A_z z) (f_z : WfY z) (k_z : z.length ≤ c_z) (hbig : z.length ≤ 1048576) :
    Calls Try.prog 8 #[.slice A_z z.length c_z] w (RetB w true) := by
  have hi1 : (z.length : Int) ≤ 1048576 := by omega
  go_enter Try.func8, Try.ntmps8
  go_wp2_with fail
  refine (spec_DrawSamePattern A_z c_z z w r_z f_z hbig k_z).mono ?_
  rintro e w1 ⟨A, C, c, d, xs, ys, rfl, ⟨hl, hl2⟩, hrx, hry, b1⟩
  have z1 := b1.size
  have HB := Lib.hid b1; clear b1 r_z f_z
  have P_a := Lib.hid hrx; have P_b := Lib.hid hry; clear hrx hry
  have hsy : samePatL ys xs = samePatL xs ys := same_symm _ _
  have hln := same_len (a := xs) (b := ys)
  have htn := same_turned xs
  generalize hT : turnL xs 3 = T at *
  have hTl : T.length ≤ 32 := by rw [← hT]; exact turnL_len _ _
  have HT := Lib.hid hT; clear hT
  generalize hpv : patL xs = pv at *
  generalize hv : samePatL xs ys = v at *
  have HV := Lib.hid hv; have HSY := Lib.hid hsy; have HTN := Lib.hid htn; have HPV := Lib.hid hpv; clear hv hsy htn hpv
  have HLN := Lib.hid hln; clear hln
  have b2 : Below w1.heap.size w1 ((w1.alloc (.cells #[.slice A xs.length c] 25)).alloc (.cells #[.slice C ys.length d] 25)) := by (repeat (first | exact Below.refl _ _ | refine Below.alloc ?_ (by simp; try omega) _ | refine below_drewN ?_ _ | refine Below.drew ?_))
  have z2 : w1.heap.size + 2 ≤ ((w1.alloc (.cells #[.slice A xs.length c] 25)).alloc (.cells #[.slice C ys.length d] 25)).heap.size := by simp
  have Q_a : ((w1.alloc (.cells #[.slice A xs.length c] 25)).alloc (.cells #[.slice C ys.length d] 25)).cell? ⟨w1.heap.size, 0, none⟩ = some (.slice A xs.length c) := by simp [go_sem]
  have Q_b : ((w1.alloc (.cells #[.slice A xs.length c] 25)).alloc (.cells #[.slice C ys.length d] 25)).cell? ⟨w1.heap.size + 1, 0, none⟩ = some (.slice C ys.length d) := by simp [go_sem]
  replace P_a := Lib.hid (P_a.out.below b2 (by omega))
  replace P_b := Lib.hid (P_b.out.below b2 (by omega))
  replace HB := Lib.hid (HB.out.trans (b2.mono (by omega)))
  clear b2
  go_wp2_with fail
  generalize ((w1.alloc (.cells #[.slice A xs.length c] 25)).alloc (.cells #[.slice C ys.length d] 25)) = w2 at *
  refine (impl_SamePattern _ _ _ _ _ _ _ (P_a.out.more (by omega)) (P_b.out.more (by omega)) (by omega) (by omega)).mono ?_
  rw [HV.out]
  rintro e w3 ⟨rfl, b3⟩
  have z3 := b3.size
  replace P_a := Lib.hid (P_a.out.below b3 (by omega))
  replace P_b := Lib.hid (P_b.out.below b3 (by omega))
  replace Q_a := (b3.cell (p := ⟨w1.heap.size, 0, none⟩) (show w1.heap.size < w2.heap.size by omega)).trans Q_a
  replace Q_b := (b3.cell (p := ⟨w1.heap.size + 1, 0, none⟩) (show w1.heap.size + 1 < w2.heap.size by omega)).trans Q_b
  replace HB := Lib.hid (HB.out.trans (b3.mono (by omega)))
  clear b3
  go_wp2_with fail
  refine (spec_SamePattern _ _ _ _ _ _ _ (P_a.out.more (by omega)) (P_b.out.more (by omega)) (by omega) (by omega)).mono ?_
  rw [HV.out]
  rintro e w4 ⟨rfl, b4⟩
  have z4 := b4.size
  replace P_a := Lib.hid (P_a.out.below b4 (by omega))
  replace P_b := Lib.hid (P_b.out.below b4 (by omega))
  replace Q_a := (b4.cell (p := ⟨w1.heap.size, 0, none⟩) (show w1.heap.size < w3.heap.size by omega)).trans Q_a
  replace Q_b := (b4.cell (p := ⟨w1.heap.size + 1, 0, none⟩) (show w1.heap.size + 1 < w3.heap.size by omega)).trans Q_b
  replace HB := Lib.hid (HB.out.trans (b4.mono (by omega)))
  clear b4
  cases v
  · go_wp2_with fail
    refine (impl_SamePattern _ _ _ _ _ _ _ (P_b.out.more (by omega)) (P_a.out.more (by omega)) (by omega) (by omega)).mono ?_
    rw [HSY.out]
    rintro e w5 ⟨rfl, b5⟩
    have z5 := b5.size
    replace P_a := Lib.hid (P_a.out.below b5 (by omega))
    replace P_b := Lib.hid (P_b.out.below b5 (by omega))
    replace Q_a := (b5.cell (p := ⟨w1.heap.size, 0, none⟩) (show w1.heap.size < w4.heap.size by omega)).trans Q_a
    replace Q_b := (b5.cell (p := ⟨w1.heap.size + 1, 0, none⟩) (show w1.heap.size + 1 < w4.heap.size by omega)).trans Q_b
    replace HB := Lib.hid (HB.out.trans (b5.mono (by omega)))
    clear b5
    go_upto_region 7 with (fail)
    refine regionL_draws rfl 59 [some 29, some 30, some 31, some 32, some 33, some 34, some 35, some 36, some 37, some 38, some 39, some 40, some 41, some 42, some 43, some 44, some 45, some 46, some 47, some 48, some 49, some 50, some 51, some 52, some 53, some 54, some 55, some 56, some 57, some 58, some 2]
      [FEq (.bool false), FEq (.bool true), FEq (.bool true), FEq (undef), FEq (undef), FEq (undef), FEq (undef), FEq (undef), FEq (undef), FEq (undef), FEq (undef), FEq (undef), FEq (undef), FEq (undef), FEq (undef), FEq (undef), FEq (undef), FEq (.bool true), FEq (.bool true), FEq (.agg #[.slice A xs.length c]), FEq (.agg #[.slice A xs.length c]), FRdB (T), FEq (.bool pv), FEq (.agg #[.slice A xs.length c]), FEq (.bool pv), FEq (.bool true), FEq (.bool true), FEq (.bool true), FEq (.bool true), FEq (.bool true), FEq (.bool true)] (by kernel_rfl) (by kernel_rfl) ?_ ?_ ?_
    · exact stayLs_cons stayL_eq (stayLs_cons stayL_eq (stayLs_cons stayL_eq (stayLs_cons stayL_eq (stayLs_cons stayL_eq (stayLs_cons stayL_eq (stayLs_cons stayL_eq (stayLs_cons stayL_eq (stayLs_cons stayL_eq (stayLs_cons stayL_eq (stayLs_cons stayL_eq (stayLs_cons stayL_eq (stayLs_cons stayL_eq (stayLs_cons stayL_eq (stayLs_cons stayL_eq (stayLs_cons stayL_eq (stayLs_cons stayL_eq (stayLs_cons stayL_eq (stayLs_cons stayL_eq (stayLs_cons stayL_eq (stayLs_cons stayL_eq (stayLs_cons stayL_rdb (stayLs_cons stayL_eq (stayLs_cons stayL_eq (stayLs_cons stayL_eq (stayLs_cons stayL_eq (stayLs_cons stayL_eq (stayLs_cons stayL_eq (stayLs_cons stayL_eq (stayLs_cons stayL_eq (stayLs_cons stayL_eq stayLs_nil))))))))))))))))))))))))))))))
    · refine AllI.cons ?_ (AllI.cons ?_ (AllI.cons ?_ (AllI.cons ?_ (AllI.cons ?_ (AllI.cons ?_ (AllI.cons ?_ (AllI.cons ?_ (AllI.cons ?_ (AllI.cons ?_ (AllI.cons ?_ (AllI.cons ?_ (AllI.cons ?_ (AllI.cons ?_ (AllI.cons ?_ (AllI.cons ?_ (AllI.cons ?_ (AllI.cons ?_ (AllI.cons ?_ (AllI.cons ?_ (AllI.cons ?_ (AllI.cons ?_ (AllI.cons ?_ (AllI.cons ?_ (AllI.cons ?_ (AllI.cons ?_ (AllI.cons ?_ (AllI.cons ?_ (AllI.cons ?_ (AllI.cons ?_ (AllI.cons ?_ trivial))))))))))))))))))))))))))))))
      · intro kk bb ff ww hkk hf hd hp hq hJ
        refine .inl ⟨wanted_none rfl, ?_⟩
        have q : FEq (.bool false) (ff 5) ww := (hf 5 (by decide)).trans rfl
        exact sl_val (ff 5) hJ (by simp only [execOp, ev_tmp _ _ (show 5 < 59 by decide)]; rfl) q
      · intro kk bb ff ww hkk hf hd hp hq hJ
        refine .inl ⟨wanted_none rfl, ?_⟩
        obtain ⟨p0, -⟩ := hd
        have q29 : FEq (.bool false) (ff 29) ww := p0 rfl
        unfold FEq at q29
        refine sl_val (.bool true) hJ ?_ rfl
        simp only [execOp, ev_tmp _ _ (show 29 < 59 by decide), ev_const, q29]
        simp [go_sem]
      · intro kk bb ff ww hkk hf hd hp hq hJ
        refine .inl ⟨wanted_none rfl, ?_⟩
        obtain ⟨p0, -⟩ := hd
        have q : FEq (.bool true) (ff 30) ww := p0 rfl
        exact sl_val (ff 30) hJ (by simp only [execOp, ev_tmp _ _ (show 30 < 59 by decide)]; rfl) q
      · intro kk bb ff ww hkk hf hd hp hq hJ
        obtain ⟨p0, -⟩ := hd
        have qg : FEq (.bool true) (ff 31) ww := p0 rfl
        exact .inr ⟨(wanted_off (b := true) (want := false) (j := 2) (d := 31) qg (by decide) rfl rfl rfl), Below.refl _ _, hJ, rfl⟩
      · intro kk bb ff ww hkk hf hd hp hq hJ
        obtain ⟨p0, p1, -⟩ := hd
        have qg : FEq (.bool true) (ff 31) ww := p1 rfl
        exact .inr ⟨(wanted_off (b := true) (want := false) (j := 2) (d := 31) qg (by decide) rfl rfl rfl), Below.refl _ _, hJ, rfl⟩
      · intro kk bb ff ww hkk hf hd hp hq hJ
        obtain ⟨p0, p1, -⟩ := hd
        have qg : FEq (.bool true) (ff 31) ww := p1 rfl
        exact .inr ⟨(wanted_off (b := true) (want := false) (j := 2) (d := 31) qg (by decide) rfl rfl rfl), Below.refl _ _, hJ, rfl⟩
      · intro kk bb ff ww hkk hf hd hp hq hJ
        obtain ⟨p0, -⟩ := hd
        have qg : FEq (.bool true) (ff 31) ww := p0 rfl
        exact .inr ⟨(wanted_off (b := true) (want := false) (j := 2) (d := 31) qg (by decide) rfl rfl rfl), Below.refl _ _, hJ, rfl⟩
      · intro kk bb ff ww hkk hf hd hp hq hJ
        obtain ⟨p0, p1, -⟩ := hd
        have qg : FEq (.bool true) (ff 31) ww := p1 rfl
        exact .inr ⟨(wanted_off (b := true) (want := false) (j := 2) (d := 31) qg (by decide) rfl rfl rfl), Below.refl _ _, hJ, rfl⟩
      · intro kk bb ff ww hkk hf hd hp hq hJ
        obtain ⟨p0, p1, -⟩ := hd
        have qg : FEq (.bool true) (ff 31) ww := p1 rfl
        exact .inr ⟨(wanted_off (b := true) (want := false) (j := 2) (d := 31) qg (by decide) rfl rfl rfl), Below.refl _ _, hJ, rfl⟩
      · intro kk bb ff ww hkk hf hd hp hq hJ
        obtain ⟨p0, p1, p2, -⟩ := hd
        have qg : FEq (.bool true) (ff 31) ww := p2 rfl
        exact .inr ⟨(wanted_off (b := true) (want := false) (j := 2) (d := 31) qg (by decide) rfl rfl rfl), Below.refl _ _, hJ, rfl⟩
      · intro kk bb ff ww hkk hf hd hp hq hJ
        obtain ⟨p0, p1, p2, -⟩ := hd
        have qg : FEq (.bool true) (ff 31) ww := p1 rfl
        exact .inr ⟨(wanted_off (b := true) (want := false) (j := 2) (d := 31) qg (by decide) rfl rfl rfl), Below.refl _ _, hJ, rfl⟩
      · intro kk bb ff ww hkk hf hd hp hq hJ
        obtain ⟨p0, -⟩ := hd
        have qg : FEq (undef) (ff 39) ww := p0 rfl
        exact .inr ⟨(wanted_undef (want := true) (j := 10) (d := 39) qg (by decide) rfl rfl), Below.refl _ _, hJ, rfl⟩
      · intro kk bb ff ww hkk hf hd hp hq hJ
        obtain ⟨p0, p1, p2, -⟩ := hd
        have qg : FEq (undef) (ff 39) ww := p1 rfl
        exact .inr ⟨(wanted_undef (want := true) (j := 10) (d := 39) qg (by decide) rfl rfl), Below.refl _ _, hJ, rfl⟩
      · intro kk bb ff ww hkk hf hd hp hq hJ
        obtain ⟨p0, -⟩ := hd
        have qg : FEq (undef) (ff 39) ww := p0 rfl
        exact .inr ⟨(wanted_undef (want := true) (j := 10) (d := 39) qg (by decide) rfl rfl), Below.refl _ _, hJ, rfl⟩
      · intro kk bb ff ww hkk hf hd hp hq hJ
        obtain ⟨p0, p1, p2, -⟩ := hd
        have qg : FEq (undef) (ff 39) ww := p2 rfl
        exact .inr ⟨(wanted_undef (want := true) (j := 10) (d := 39) qg (by decide) rfl rfl), Below.refl _ _, hJ, rfl⟩
      · intro kk bb ff ww hkk hf hd hp hq hJ
        obtain ⟨p0, p1, p2, -⟩ := hd
        have qg : FEq (undef) (ff 39) ww := p2 rfl
        exact .inr ⟨(wanted_undef (want := true) (j := 10) (d := 39) qg (by decide) rfl rfl), Below.refl _ _, hJ, rfl⟩
      · intro kk bb ff ww hkk hf hd hp hq hJ
        obtain ⟨p0, p1, p2, -⟩ := hd
        have qg : FEq (.bool true) (ff 31) ww := p2 rfl
        exact .inr ⟨(wanted_off (b := true) (want := false) (j := 2) (d := 31) qg (by decide) rfl rfl rfl), Below.refl _ _, hJ, rfl⟩
      · intro kk bb ff ww hkk hf hd hp hq hJ
        refine .inl ⟨wanted_none rfl, ?_⟩
        obtain ⟨p0, p1, -⟩ := hd
        have q31 : FEq (.bool true) (ff 31) ww := p0 rfl
        unfold FEq at q31
        refine sl_val (.bool true) hJ ?_ rfl
        simp only [execOp, ev_tmp _ _ (show 31 < 59 by decide), ev_tmp _ _ (show 45 < 59 by decide), ev_const, q31]
        simp [go_sem]
      · intro kk bb ff ww hkk hf hd hp hq hJ
        refine .inl ⟨wanted_none rfl, ?_⟩
        obtain ⟨p0, p1, -⟩ := hd
        have q : FEq (.bool true) (ff 46) ww := p0 rfl
        exact sl_val (ff 46) hJ (by simp only [execOp, ev_tmp _ _ (show 46 < 59 by decide)]; rfl) q
      · intro kk bb ff ww hkk hf hd hp hq hJ
        obtain ⟨p0, -⟩ := hd
        have qg : FEq (.bool true) (ff 47) ww := p0 rfl
        refine .inl ⟨(wanted_on (b := true) (want := true) (j := 18) (d := 47) qg (by decide) rfl rfl rfl), ?_⟩
        have q3 : FEq (.pointer (some ⟨w1.heap.size, 0, none⟩)) (ff 3) ww := (hf 3 (by decide)).trans rfl
        unfold FEq at q3
        have c0 : ww.cell? ⟨w1.heap.size, 0, none⟩ = some (.slice A xs.length c) := (hJ.cell (p := ⟨w1.heap.size, 0, none⟩) (show w1.heap.size < _ by omega)).trans Q_a
        refine sl_val (.agg #[.slice A xs.length c]) hJ ?_ rfl
        simp only [execOp, ev_tmp _ _ (show 3 < 59 by decide), ev_const, q3]
        simp [go_sem, c0]
      · intro kk bb ff ww hkk hf hd hp hq hJ
        obtain ⟨p0, -⟩ := hd
        have qg : FEq (.bool true) (ff 47) ww := p0 rfl
        refine .inl ⟨(wanted_on (b := true) (want := true) (j := 18) (d := 47) qg (by decide) rfl rfl rfl), ?_⟩
        have q3 : FEq (.pointer (some ⟨w1.heap.size, 0, none⟩)) (ff 3) ww := (hf 3 (by decide)).trans rfl
        unfold FEq at q3
        have c0 : ww.cell? ⟨w1.heap.size, 0, none⟩ = some (.slice A xs.length c) := (hJ.cell (p := ⟨w1.heap.size, 0, none⟩) (show w1.heap.size < _ by omega)).trans Q_a
        refine sl_val (.agg #[.slice A xs.length c]) hJ ?_ rfl
        simp only [execOp, ev_tmp _ _ (show 3 < 59 by decide), ev_const, q3]
        simp [go_sem, c0]
      · intro kk bb ff ww hkk hf hd hp hq hJ
        obtain ⟨p0, p1, p2, -⟩ := hd
        have qg : FEq (.bool true) (ff 47) ww := p1 rfl
        refine .inl ⟨(wanted_on (b := true) (want := true) (j := 18) (d := 47) qg (by decide) rfl rfl rfl), ?_⟩
        have q49 : FEq (.agg #[.slice A xs.length c]) (ff 49) ww := p0 rfl
        unfold FEq at q49
        refine sl_enter 25 #[.agg #[.slice A xs.length c], .int .i64 (3)] hJ ?_ ?_
        · simp only [execOp, ev_tmp _ _ (show 49 < 59 by decide), ev_const, q49, ev_func, resolve, List.map_toArray, List.map_cons, List.map_nil]
          simp [go_sem]
        · skip
          have h := retP_post (impl_TurnPattern A c xs 3 ww ((P_a.out.below hJ (by omega)).more (by have := hJ.size; omega)) (by omega))
          rw [HT.out] at h
          exact h
      · intro kk bb ff ww hkk hf hd hp hq hJ
        obtain ⟨p0, p1, p2, p3, -⟩ := hd
        have qg : FEq (.bool true) (ff 47) ww := p3 rfl
        refine .inl ⟨(wanted_on (b := true) (want := true) (j := 18) (d := 47) qg (by decide) rfl rfl rfl), ?_⟩
        have q48 : FEq (.agg #[.slice A xs.length c]) (ff 48) ww := p0 rfl
        unfold FEq at q48
        have q50 : FRdB (T) (ff 50) ww := p1 rfl
        obtain ⟨A50, c50, q50, rd50⟩ := q50
        refine sl_enter 28 #[.agg #[.slice A xs.length c], .agg #[.slice A50 T.length c50]] hJ ?_ ?_
        · simp only [execOp, ev_tmp _ _ (show 48 < 59 by decide), ev_tmp _ _ (show 50 < 59 by decide), ev_const, q48, q50, ev_func, resolve, List.map_toArray, List.map_cons, List.map_nil]
          simp [go_sem]
        · skip
          have h := retB_post (impl_SamePattern A A50 c c50 xs T ww ((P_a.out.below hJ (by omega)).more (by have := hJ.size; omega)) rd50 (by omega) (by omega))
          rw [HTN.out] at h
          exact h
      · intro kk bb ff ww hkk hf hd hp hq hJ
        obtain ⟨p0, -⟩ := hd
        have qg : FEq (.bool true) (ff 47) ww := p0 rfl
        refine .inl ⟨(wanted_on (b := true) (want := true) (j := 18) (d := 47) qg (by decide) rfl rfl rfl), ?_⟩
        have q3 : FEq (.pointer (some ⟨w1.heap.size, 0, none⟩)) (ff 3) ww := (hf 3 (by decide)).trans rfl
        unfold FEq at q3
        have c0 : ww.cell? ⟨w1.heap.size, 0, none⟩ = some (.slice A xs.length c) := (hJ.cell (p := ⟨w1.heap.size, 0, none⟩) (show w1.heap.size < _ by omega)).trans Q_a
        refine sl_val (.agg #[.slice A xs.length c]) hJ ?_ rfl
        simp only [execOp, ev_tmp _ _ (show 3 < 59 by decide), ev_const, q3]
        simp [go_sem, c0]
      · intro kk bb ff ww hkk hf hd hp hq hJ
        obtain ⟨p0, p1, p2, -⟩ := hd
        have qg : FEq (.bool true) (ff 47) ww := p2 rfl
        refine .inl ⟨(wanted_on (b := true) (want := true) (j := 18) (d := 47) qg (by decide) rfl rfl rfl), ?_⟩
        have q52 : FEq (.agg #[.slice A xs.length c]) (ff 52) ww := p0 rfl
        unfold FEq at q52
        refine sl_enter 11 #[.agg #[.slice A xs.length c]] hJ ?_ ?_
        · simp only [execOp, ev_tmp _ _ (show 52 < 59 by decide), ev_const, q52, ev_func, resolve, List.map_toArray, List.map_cons, List.map_nil]
          simp [go_sem]
        · skip
          have h := retB_post (spec_PatternValid_b A c xs ww)
          rw [HPV.out] at h
          exact h
      · intro kk bb ff ww hkk hf hd hp hq hJ
        obtain ⟨p0, p1, p2, -⟩ := hd
        have qg : FEq (.bool true) (ff 47) ww := p2 rfl
        refine .inl ⟨(wanted_on (b := true) (want := true) (j := 18) (d := 47) qg (by decide) rfl rfl rfl), ?_⟩
        have q51 : FEq (.bool pv) (ff 51) ww := p0 rfl
        unfold FEq at q51
        have q53 : FEq (.bool pv) (ff 53) ww := p1 rfl
        unfold FEq at q53
        refine sl_val (.bool true) hJ ?_ rfl
        simp only [execOp, ev_tmp _ _ (show 51 < 59 by decide), ev_tmp _ _ (show 53 < 59 by decide), ev_const, q51, q53]
        simp [go_sem]
      · intro kk bb ff ww hkk hf hd hp hq hJ
        refine .inl ⟨wanted_none rfl, ?_⟩
        obtain ⟨p0, p1, -⟩ := hd
        have q47 : FEq (.bool true) (ff 47) ww := p0 rfl
        unfold FEq at q47
        have q54 : FEq (.bool true) (ff 54) ww := p1 rfl
        unfold FEq at q54
        refine sl_val (.bool true) hJ ?_ rfl
        simp only [execOp, ev_tmp _ _ (show 47 < 59 by decide), ev_tmp _ _ (show 54 < 59 by decide), ev_const, q47, q54]
        simp [go_sem]
      · intro kk bb ff ww hkk hf hd hp hq hJ
        refine .inl ⟨wanted_none rfl, ?_⟩
        obtain ⟨p0, p1, -⟩ := hd
        have q : FEq (.bool true) (ff 55) ww := p0 rfl
        exact sl_val (ff 55) hJ (by simp only [execOp, ev_tmp _ _ (show 55 < 59 by decide)]; rfl) q
      · intro kk bb ff ww hkk hf hd hp hq hJ
        obtain ⟨p0, p1, -⟩ := hd
        have qg : FEq (.bool true) (ff 56) ww := p0 rfl
        refine .inl ⟨(wanted_on (b := true) (want := true) (j := 27) (d := 56) qg (by decide) rfl rfl rfl), ?_⟩
        refine sl_enter 12 #[] hJ ?_ ?_
        · simp only [execOp, ev_const, ev_func, resolve, List.map_toArray, List.map_cons, List.map_nil]
          simp [go_sem]
        · skip
          exact retB_post (laws_alive ww)
      · intro kk bb ff ww hkk hf hd hp hq hJ
        refine .inl ⟨wanted_none rfl, ?_⟩
        obtain ⟨p0, p1, -⟩ := hd
        have q56 : FEq (.bool true) (ff 56) ww := p0 rfl
        unfold FEq at q56
        have q57 : FEq (.bool true) (ff 57) ww := p1 rfl
        unfold FEq at q57
        refine sl_val (.bool true) hJ ?_ rfl
        simp only [execOp, ev_tmp _ _ (show 56 < 59 by decide), ev_tmp _ _ (show 57 < 59 by decide), ev_const, q56, q57]
        simp [go_sem]
      · intro kk bb ff ww hkk hf hd hp hq hJ
        refine .inl ⟨wanted_none rfl, ?_⟩
        obtain ⟨p0, p1, p2, p3, p4, p5, p6, p7, p8, p9, p10, p11, p12, p13, p14, p15, p16, p17, p18, p19, p20, p21, p22, p23, p24, p25, p26, p27, p28, p29, p30, p31, -⟩ := hd
        have q : FEq (.bool true) (ff 58) ww := p0 rfl
        exact sl_val (ff 58) hJ (by simp only [execOp, ev_tmp _ _ (show 58 < 59 by decide)]; rfl) q
    intro ff w6 hf hd hJ
    have hfr : fr 59 ff = #[ff 0, ff 1, ff 2, ff 3, ff 4, ff 5, ff 6, ff 7, ff 8, ff 9, ff 10, ff 11, ff 12, ff 13, ff 14, ff 15, ff 16, ff 17, ff 18, ff 19, ff 20, ff 21, ff 22, ff 23, ff 24, ff 25, ff 26, ff 27, ff 28, ff 29, ff 30, ff 31, ff 32, ff 33, ff 34, ff 35, ff 36, ff 37, ff 38, ff 39, ff 40, ff 41, ff 42, ff 43, ff 44, ff 45, ff 46, ff 47, ff 48, ff 49, ff 50, ff 51, ff 52, ff 53, ff 54, ff 55, ff 56, ff 57, ff 58] := rfl
    rw [hfr]; clear hfr
    dsimp only
    have q0_ := hf 0 (by decide)
    have q1_ := hf 1 (by decide)
    have q2_ : FEq (.bool true) (ff 2) w6 := hd 30 (by decide)
    unfold FEq at q2_
    have q3_ := hf 3 (by decide)
    have q4_ := hf 4 (by decide)
    have q5_ := hf 5 (by decide)
    have q6_ := hf 6 (by decide)
    have q7_ := hf 7 (by decide)
    have q8_ := hf 8 (by decide)
    have q9_ := hf 9 (by decide)
    have q10_ := hf 10 (by decide)
    have q11_ := hf 11 (by decide)
    have q12_ := hf 12 (by decide)
    have q13_ := hf 13 (by decide)
    have q14_ := hf 14 (by decide)
    have q15_ := hf 15 (by decide)
    have q16_ := hf 16 (by decide)
    have q17_ := hf 17 (by decide)
    have q18_ := hf 18 (by decide)
    have q19_ := hf 19 (by decide)
    have q20_ := hf 20 (by decide)
    have q21_ := hf 21 (by decide)
    have q22_ := hf 22 (by decide)
    have q23_ := hf 23 (by decide)
    have q24_ := hf 24 (by decide)
    have q25_ := hf 25 (by decide)
    have q26_ := hf 26 (by decide)
    have q27_ := hf 27 (by decide)
    have q28_ := hf 28 (by decide)
    have q29_ : FEq (.bool false) (ff 29) w6 := hd 0 (by decide)
    unfold FEq at q29_
    have q30_ : FEq (.bool true) (ff 30) w6 := hd 1 (by decide)
    unfold FEq at q30_
    have q31_ : FEq (.bool true) (ff 31) w6 := hd 2 (by decide)
    unfold FEq at q31_
    have q32_ : FEq (undef) (ff 32) w6 := hd 3 (by decide)
    unfold FEq at q32_
    have q33_ : FEq (undef) (ff 33) w6 := hd 4 (by decide)
    unfold FEq at q33_
    have q34_ : FEq (undef) (ff 34) w6 := hd 5 (by decide)
    unfold FEq at q34_
    have q35_ : FEq (undef) (ff 35) w6 := hd 6 (by decide)
    unfold FEq at q35_
    have q36_ : FEq (undef) (ff 36) w6 := hd 7 (by decide)
    unfold FEq at q36_
    have q37_ : FEq (undef) (ff 37) w6 := hd 8 (by decide)
    unfold FEq at q37_
    have q38_ : FEq (undef) (ff 38) w6 := hd 9 (by decide)
    unfold FEq at q38_
    have q39_ : FEq (undef) (ff 39) w6 := hd 10 (by decide)
    unfold FEq at q39_
    have q40_ : FEq (undef) (ff 40) w6 := hd 11 (by decide)
    unfold FEq at q40_
    have q41_ : FEq (undef) (ff 41) w6 := hd 12 (by decide)
    unfold FEq at q41_
    have q42_ : FEq (undef) (ff 42) w6 := hd 13 (by decide)
    unfold FEq at q42_
    have q43_ : FEq (undef) (ff 43) w6 := hd 14 (by decide)
    unfold FEq at q43_
    have q44_ : FEq (undef) (ff 44) w6 := hd 15 (by decide)
    unfold FEq at q44_
    have q45_ : FEq (undef) (ff 45) w6 := hd 16 (by decide)
    unfold FEq at q45_
    have q46_ : FEq (.bool true) (ff 46) w6 := hd 17 (by decide)
    unfold FEq at q46_
    have q47_ : FEq (.bool true) (ff 47) w6 := hd 18 (by decide)
    unfold FEq at q47_
    have q48_ : FEq (.agg #[.slice A xs.length c]) (ff 48) w6 := hd 19 (by decide)
    unfold FEq at q48_
    have q49_ : FEq (.agg #[.slice A xs.length c]) (ff 49) w6 := hd 20 (by decide)
    unfold FEq at q49_
    have q51_ : FEq (.bool pv) (ff 51) w6 := hd 22 (by decide)
    unfold FEq at q51_
    have q52_ : FEq (.agg #[.slice A xs.length c]) (ff 52) w6 := hd 23 (by decide)
    unfold FEq at q52_
    have q53_ : FEq (.bool pv) (ff 53) w6 := hd 24 (by decide)
    unfold FEq at q53_
    have q54_ : FEq (.bool true) (ff 54) w6 := hd 25 (by decide)
    unfold FEq at q54_
    have q55_ : FEq (.bool true) (ff 55) w6 := hd 26 (by decide)
    unfold FEq at q55_
    have q56_ : FEq (.bool true) (ff 56) w6 := hd 27 (by decide)
    unfold FEq at q56_
    have q57_ : FEq (.bool true) (ff 57) w6 := hd 28 (by decide)
    unfold FEq at q57_
    have q58_ : FEq (.bool true) (ff 58) w6 := hd 29 (by decide)
    unfold FEq at q58_
    simp only [Array.getD_eq_getD_getElem?, List.getElem?_toArray, List.getElem?_cons_zero, List.getElem?_cons_succ, Option.getD_some] at q0_ q1_ q3_ q4_ q5_ q6_ q7_ q8_ q9_ q10_ q11_ q12_ q13_ q14_ q15_ q16_ q17_ q18_ q19_ q20_ q21_ q22_ q23_ q24_ q25_ q26_ q27_ q28_
    rw [q0_, q1_, q2_, q3_, q4_, q5_, q6_, q7_, q8_, q9_, q10_, q11_, q12_, q13_, q14_, q15_, q16_, q17_, q18_, q19_, q20_, q21_, q22_, q23_, q24_, q25_, q26_, q27_, q28_, q29_, q30_, q31_, q32_, q33_, q34_, q35_, q36_, q37_, q38_, q39_, q40_, q41_, q42_, q43_, q44_, q45_, q46_, q47_, q48_, q49_, q51_, q52_, q53_, q54_, q55_, q56_, q57_, q58_]
    clear q0_ q1_ q2_ q3_ q4_ q5_ q6_ q7_ q8_ q9_ q10_ q11_ q12_ q13_ q14_ q15_ q16_ q17_ q18_ q19_ q20_ q21_ q22_ q23_ q24_ q25_ q26_ q27_ q28_ q29_ q30_ q31_ q32_ q33_ q34_ q35_ q36_ q37_ q38_ q39_ q40_ q41_ q42_ q43_ q44_ q45_ q46_ q47_ q48_ q49_ q51_ q52_ q53_ q54_ q55_ q56_ q57_ q58_ hf hd
    generalize ff 50 = v50_
    clear ff
    have b_ : Below _ _ w6 := hJ
    clear hJ
    have b6 : Below w5.heap.size w5 w6 := b_
    clear b_
    have z6 := b6.size
    replace P_a := Lib.hid (P_a.out.below b6 (by omega))
    replace P_b := Lib.hid (P_b.out.below b6 (by omega))
    replace Q_a := (b6.cell (p := ⟨w1.heap.size, 0, none⟩) (show w1.heap.size < w5.heap.size by omega)).trans Q_a
    replace Q_b := (b6.cell (p := ⟨w1.heap.size + 1, 0, none⟩) (show w1.heap.size + 1 < w5.heap.size by omega)).trans Q_b
    replace HB := Lib.hid (HB.out.trans (b6.mono (by omega)))
    clear b6
    go_wp2_with fail
    go_ret
    exact ⟨rfl, HB.out⟩
  · go_wp2_with fail
    refine (impl_SamePattern _ _ _ _ _ _ _ (P_b.out.more (by omega)) (P_a.out.more (by omega)) (by omega) (by omega)).mono ?_
    rw [HSY.out]
    rintro e w5 ⟨rfl, b5⟩
    have z5 := b5.size
    replace P_a := Lib.hid (P_a.out.below b5 (by omega))
    replace P_b := Lib.hid (P_b.out.below b5 (by omega))
    replace Q_a := (b5.cell (p := ⟨w1.heap.size, 0, none⟩) (show w1.heap.size < w4.heap.size by omega)).trans Q_a
    replace Q_b := (b5.cell (p := ⟨w1.heap.size + 1, 0, none⟩) (show w1.heap.size + 1 < w4.heap.size by omega)).trans Q_b
    replace HB := Lib.hid (HB.out.trans (b5.mono (by omega)))
    clear b5
    have HLE := Lib.hid (HLN.out (by first | rfl | trivial)).1; have HST := Lib.hid (HLN.out (by first | rfl | trivial)).2
    go_upto_region 7 with (fail)
    refine regionL_draws rfl 59 [some 29, some 30, some 31, some 32, some 33, some 34, some 35, some 36, some 37, some 38, some 39, some 40, some 41, some 42, some 43, some 44, some 45, some 46, some 47, some 48, some 49, some 50, some 51, some 52, some 53, some 54, some 55, some 56, some 57, some 58, some 2]
      [FEq (.bool true), FEq (.bool false), FEq (.bool false), FEq (.pointer (some ⟨w1.heap.size, 0, none⟩)), FEq (.slice A xs.length c), FEq (.int .i64 (((xs.length : Nat) : Int))), FEq (.pointer (some ⟨w1.heap.size + 1, 0, none⟩)), FEq (.slice C ys.length d), FEq (.int .i64 (((ys.length : Nat) : Int))), FEq (.bool true), FEq (.bool true), FEq (.agg #[.slice A xs.length c]), FEq (.int .i64 (((strk ys : Nat) : Int))), FEq (.agg #[.slice C ys.length d]), FEq (.int .i64 (((strk ys : Nat) : Int))), FEq (.bool true), FEq (.bool true), FEq (.bool true), FEq (.bool true), FEq (.agg #[.slice A xs.length c]), FEq (.agg #[.slice A xs.length c]), FRdB (T), FEq (.bool pv), FEq (.agg #[.slice A xs.length c]), FEq (.bool pv), FEq (.bool true), FEq (.bool true), FEq (.bool true), FEq (.bool true), FEq (.bool true), FEq (.bool true)] (by kernel_rfl) (by kernel_rfl) ?_ ?_ ?_
    · exact stayLs_cons stayL_eq (stayLs_cons stayL_eq (stayLs_cons stayL_eq (stayLs_cons stayL_eq (stayLs_cons stayL_eq (stayLs_cons stayL_eq (stayLs_cons stayL_eq (stayLs_cons stayL_eq (stayLs_cons stayL_eq (stayLs_cons stayL_eq (stayLs_cons stayL_eq (stayLs_cons stayL_eq (stayLs_cons stayL_eq (stayLs_cons stayL_eq (stayLs_cons stayL_eq (stayLs_cons stayL_eq (stayLs_cons stayL_eq (stayLs_cons stayL_eq (stayLs_cons stayL_eq (stayLs_cons stayL_eq (stayLs_cons stayL_eq (stayLs_cons stayL_rdb (stayLs_cons stayL_eq (stayLs_cons stayL_eq (stayLs_cons stayL_eq (stayLs_cons stayL_eq (stayLs_cons stayL_eq (stayLs_cons stayL_eq (stayLs_cons stayL_eq (stayLs_cons stayL_eq (stayLs_cons stayL_eq stayLs_nil))))))))))))))))))))))))))))))
    · refine AllI.cons ?_ (AllI.cons ?_ (AllI.cons ?_ (AllI.cons ?_ (AllI.cons ?_ (AllI.cons ?_ (AllI.cons ?_ (AllI.cons ?_ (AllI.cons ?_ (AllI.cons ?_ (AllI.cons ?_ (AllI.cons ?_ (AllI.cons ?_ (AllI.cons ?_ (AllI.cons ?_ (AllI.cons ?_ (AllI.cons ?_ (AllI.cons ?_ (AllI.cons ?_ (AllI.cons ?_ (AllI.cons ?_ (AllI.cons ?_ (AllI.cons ?_ (AllI.cons ?_ (AllI.cons ?_ (AllI.cons ?_ (AllI.cons ?_ (AllI.cons ?_ (AllI.cons ?_ (AllI.cons ?_ (AllI.cons ?_ trivial))))))))))))))))))))))))))))))
      · intro kk bb ff ww hkk hf hd hp hq hJ
        refine .inl ⟨wanted_none rfl, ?_⟩
        have q : FEq (.bool true) (ff 5) ww := (hf 5 (by decide)).trans rfl
        exact sl_val (ff 5) hJ (by simp only [execOp, ev_tmp _ _ (show 5 < 59 by decide)]; rfl) q
      · intro kk bb ff ww hkk hf hd hp hq hJ
        refine .inl ⟨wanted_none rfl, ?_⟩
        obtain ⟨p0, -⟩ := hd
        have q29 : FEq (.bool true) (ff 29) ww := p0 rfl
        unfold FEq at q29
        refine sl_val (.bool false) hJ ?_ rfl
        simp only [execOp, ev_tmp _ _ (show 29 < 59 by decide), ev_const, q29]
        simp [go_sem]
      · intro kk bb ff ww hkk hf hd hp hq hJ
        refine .inl ⟨wanted_none rfl, ?_⟩
        obtain ⟨p0, -⟩ := hd
        have q : FEq (.bool false) (ff 30) ww := p0 rfl
        exact sl_val (ff 30) hJ (by simp only [execOp, ev_tmp _ _ (show 30 < 59 by decide)]; rfl) q
      · intro kk bb ff ww hkk hf hd hp hq hJ
        obtain ⟨p0, -⟩ := hd
        have qg : FEq (.bool false) (ff 31) ww := p0 rfl
        refine .inl ⟨(wanted_on (b := false) (want := false) (j := 2) (d := 31) qg (by decide) rfl rfl rfl), ?_⟩
        have q3 : FEq (.pointer (some ⟨w1.heap.size, 0, none⟩)) (ff 3) ww := (hf 3 (by decide)).trans rfl
        unfold FEq at q3
        refine sl_val (.pointer (some ⟨w1.heap.size, 0, none⟩)) hJ ?_ rfl
        simp only [execOp, ev_tmp _ _ (show 3 < 59 by decide), ev_const, q3]
        simp [go_sem]
      · intro kk bb ff ww hkk hf hd hp hq hJ
        obtain ⟨p0, p1, -⟩ := hd
        have qg : FEq (.bool false) (ff 31) ww := p1 rfl
        refine .inl ⟨(wanted_on (b := false) (want := false) (j := 2) (d := 31) qg (by decide) rfl rfl rfl), ?_⟩
        have q32 : FEq (.pointer (some ⟨w1.heap.size, 0, none⟩)) (ff 32) ww := p0 rfl
        unfold FEq at q32
        have c0 : ww.cell? ⟨w1.heap.size, 0, none⟩ = some (.slice A xs.length c) := (hJ.cell (p := ⟨w1.heap.size, 0, none⟩) (show w1.heap.size < _ by omega)).trans Q_a
        refine sl_val (.slice A xs.length c) hJ ?_ rfl
        simp only [execOp, ev_tmp _ _ (show 32 < 59 by decide), ev_const, q32]
        simp [go_sem, c0]
      · intro kk bb ff ww hkk hf hd hp hq hJ
        obtain ⟨p0, p1, -⟩ := hd
        have qg : FEq (.bool false) (ff 31) ww := p1 rfl
        refine .inl ⟨(wanted_on (b := false) (want := false) (j := 2) (d := 31) qg (by decide) rfl rfl rfl), ?_⟩
        have q33 : FEq (.slice A xs.length c) (ff 33) ww := p0 rfl
        unfold FEq at q33
        refine sl_val (.int .i64 ((xs.length : Nat) : Int)) hJ ?_ rfl
        simp only [execOp, ev_tmp _ _ (show 33 < 59 by decide), ev_const, q33, List.map_toArray, List.map_cons, List.map_nil, resolve]
        simp [go_sem]
      · intro kk bb ff ww hkk hf hd hp hq hJ
        obtain ⟨p0, -⟩ := hd
        have qg : FEq (.bool false) (ff 31) ww := p0 rfl
        refine .inl ⟨(wanted_on (b := false) (want := false) (j := 2) (d := 31) qg (by decide) rfl rfl rfl), ?_⟩
        have q4 : FEq (.pointer (some ⟨w1.heap.size + 1, 0, none⟩)) (ff 4) ww := (hf 4 (by decide)).trans rfl
        unfold FEq at q4
        refine sl_val (.pointer (some ⟨w1.heap.size + 1, 0, none⟩)) hJ ?_ rfl
        simp only [execOp, ev_tmp _ _ (show 4 < 59 by decide), ev_const, q4]
        simp [go_sem]
      · intro kk bb ff ww hkk hf hd hp hq hJ
        obtain ⟨p0, p1, -⟩ := hd
        have qg : FEq (.bool false) (ff 31) ww := p1 rfl
        refine .inl ⟨(wanted_on (b := false) (want := false) (j := 2) (d := 31) qg (by decide) rfl rfl rfl), ?_⟩
        have q35 : FEq (.pointer (some ⟨w1.heap.size + 1, 0, none⟩)) (ff 35) ww := p0 rfl
        unfold FEq at q35
        have c0 : ww.cell? ⟨w1.heap.size + 1, 0, none⟩ = some (.slice C ys.length d) := (hJ.cell (p := ⟨w1.heap.size + 1, 0, none⟩) (show w1.heap.size + 1 < _ by omega)).trans Q_b
        refine sl_val (.slice C ys.length d) hJ ?_ rfl
        simp only [execOp, ev_tmp _ _ (show 35 < 59 by decide), ev_const, q35]
        simp [go_sem, c0]
      · intro kk bb ff ww hkk hf hd hp hq hJ
        obtain ⟨p0, p1, -⟩ := hd
        have qg : FEq (.bool false) (ff 31) ww := p1 rfl
        refine .inl ⟨(wanted_on (b := false) (want := false) (j := 2) (d := 31) qg (by decide) rfl rfl rfl), ?_⟩
        have q36 : FEq (.slice C ys.length d) (ff 36) ww := p0 rfl
        unfold FEq at q36
        refine sl_val (.int .i64 ((ys.length : Nat) : Int)) hJ ?_ rfl
        simp only [execOp, ev_tmp _ _ (show 36 < 59 by decide), ev_const, q36, List.map_toArray, List.map_cons, List.map_nil, resolve]
        simp [go_sem]
      · intro kk bb ff ww hkk hf hd hp hq hJ
        obtain ⟨p0, p1, p2, -⟩ := hd
        have qg : FEq (.bool false) (ff 31) ww := p2 rfl
        refine .inl ⟨(wanted_on (b := false) (want := false) (j := 2) (d := 31) qg (by decide) rfl rfl rfl), ?_⟩
        have q34 : FEq (.int .i64 (((xs.length : Nat) : Int))) (ff 34) ww := p0 rfl
        unfold FEq at q34
        have q37 : FEq (.int .i64 (((ys.length : Nat) : Int))) (ff 37) ww := p1 rfl
        unfold FEq at q37
        refine sl_val (.bool true) hJ ?_ rfl
        simp only [execOp, ev_tmp _ _ (show 34 < 59 by decide), ev_tmp _ _ (show 37 < 59 by decide), ev_const, q34, q37]
        have h := HLE.out
        simp [go_sem, h]
      · intro kk bb ff ww hkk hf hd hp hq hJ
        obtain ⟨p0, p1, p2, -⟩ := hd
        have qg : FEq (.bool false) (ff 31) ww := p1 rfl
        refine .inl ⟨(wanted_on (b := false) (want := false) (j := 2) (d := 31) qg (by decide) rfl rfl rfl), ?_⟩
        have q : FEq (.bool true) (ff 38) ww := p0 rfl
        exact sl_val (ff 38) hJ (by simp only [execOp, ev_tmp _ _ (show 38 < 59 by decide)]; rfl) q
      · intro kk bb ff ww hkk hf hd hp hq hJ
        obtain ⟨p0, -⟩ := hd
        have qg : FEq (.bool true) (ff 39) ww := p0 rfl
        refine .inl ⟨(wanted_on (b := true) (want := true) (j := 10) (d := 39) qg (by decide) rfl rfl rfl), ?_⟩
        have q3 : FEq (.pointer (some ⟨w1.heap.size, 0, none⟩)) (ff 3) ww := (hf 3 (by decide)).trans rfl
        unfold FEq at q3
        have c0 : ww.cell? ⟨w1.heap.size, 0, none⟩ = some (.slice A xs.length c) := (hJ.cell (p := ⟨w1.heap.size, 0, none⟩) (show w1.heap.size < _ by omega)).trans Q_a
        refine sl_val (.agg #[.slice A xs.length c]) hJ ?_ rfl
        simp only [execOp, ev_tmp _ _ (show 3 < 59 by decide), ev_const, q3]
        simp [go_sem, c0]
      · intro kk bb ff ww hkk hf hd hp hq hJ
        obtain ⟨p0, p1, p2, -⟩ := hd
        have qg : FEq (.bool true) (ff 39) ww := p1 rfl
        refine .inl ⟨(wanted_on (b := true) (want := true) (j := 10) (d := 39) qg (by decide) rfl rfl rfl), ?_⟩
        have q40 : FEq (.agg #[.slice A xs.length c]) (ff 40) ww := p0 rfl
        unfold FEq at q40
        refine sl_enter 20 #[.agg #[.slice A xs.length c]] hJ ?_ ?_
        · simp only [execOp, ev_tmp _ _ (show 40 < 59 by decide), ev_const, q40, ev_func, resolve, List.map_toArray, List.map_cons, List.map_nil]
          simp [go_sem]
        · skip
          have h := retI_post (laws_strokes A c xs ww ((P_a.out.below hJ (by omega)).more (by have := hJ.size; omega)) (by omega))
          rw [HST.out] at h
          exact h
      · intro kk bb ff ww hkk hf hd hp hq hJ
        obtain ⟨p0, -⟩ := hd
        have qg : FEq (.bool true) (ff 39) ww := p0 rfl
        refine .inl ⟨(wanted_on (b := true) (want := true) (j := 10) (d := 39) qg (by decide) rfl rfl rfl), ?_⟩
        have q4 : FEq (.pointer (some ⟨w1.heap.size + 1, 0, none⟩)) (ff 4) ww := (hf 4 (by decide)).trans rfl
        unfold FEq at q4
        have c0 : ww.cell? ⟨w1.heap.size + 1, 0, none⟩ = some (.slice C ys.length d) := (hJ.cell (p := ⟨w1.heap.size + 1, 0, none⟩) (show w1.heap.size + 1 < _ by omega)).trans Q_b
        refine sl_val (.agg #[.slice C ys.length d]) hJ ?_ rfl
        simp only [execOp, ev_tmp _ _ (show 4 < 59 by decide), ev_const, q4]
        simp [go_sem, c0]
      · intro kk bb ff ww hkk hf hd hp hq hJ
        obtain ⟨p0, p1, p2, -⟩ := hd
        have qg : FEq (.bool true) (ff 39) ww := p2 rfl
        refine .inl ⟨(wanted_on (b := true) (want := true) (j := 10) (d := 39) qg (by decide) rfl rfl rfl), ?_⟩
        have q42 : FEq (.agg #[.slice C ys.length d]) (ff 42) ww := p0 rfl
        unfold FEq at q42
        refine sl_enter 20 #[.agg #[.slice C ys.length d]] hJ ?_ ?_
        · simp only [execOp, ev_tmp _ _ (show 42 < 59 by decide), ev_const, q42, ev_func, resolve, List.map_toArray, List.map_cons, List.map_nil]
          simp [go_sem]
        · skip
          exact retI_post (laws_strokes C d ys ww ((P_b.out.below hJ (by omega)).more (by have := hJ.size; omega)) (by omega))
      · intro kk bb ff ww hkk hf hd hp hq hJ
        obtain ⟨p0, p1, p2, -⟩ := hd
        have qg : FEq (.bool true) (ff 39) ww := p2 rfl
        refine .inl ⟨(wanted_on (b := true) (want := true) (j := 10) (d := 39) qg (by decide) rfl rfl rfl), ?_⟩
        have q41 : FEq (.int .i64 (((strk ys : Nat) : Int))) (ff 41) ww := p0 rfl
        unfold FEq at q41
        have q43 : FEq (.int .i64 (((strk ys : Nat) : Int))) (ff 43) ww := p1 rfl
        unfold FEq at q43
        refine sl_val (.bool true) hJ ?_ rfl
        simp only [execOp, ev_tmp _ _ (show 41 < 59 by decide), ev_tmp _ _ (show 43 < 59 by decide), ev_const, q41, q43]
        simp [go_sem]
      · intro kk bb ff ww hkk hf hd hp hq hJ
        obtain ⟨p0, p1, p2, -⟩ := hd
        have qg : FEq (.bool false) (ff 31) ww := p2 rfl
        refine .inl ⟨(wanted_on (b := false) (want := false) (j := 2) (d := 31) qg (by decide) rfl rfl rfl), ?_⟩
        have q39 : FEq (.bool true) (ff 39) ww := p0 rfl
        unfold FEq at q39
        have q44 : FEq (.bool true) (ff 44) ww := p1 rfl
        unfold FEq at q44
        refine sl_val (.bool true) hJ ?_ rfl
        simp only [execOp, ev_tmp _ _ (show 39 < 59 by decide), ev_tmp _ _ (show 44 < 59 by decide), ev_const, q39, q44]
        simp [go_sem]
      · intro kk bb ff ww hkk hf hd hp hq hJ
        refine .inl ⟨wanted_none rfl, ?_⟩
        obtain ⟨p0, p1, -⟩ := hd
        have q31 : FEq (.bool false) (ff 31) ww := p0 rfl
        unfold FEq at q31
        have q45 : FEq (.bool true) (ff 45) ww := p1 rfl
        unfold FEq at q45
        refine sl_val (.bool true) hJ ?_ rfl
        simp only [execOp, ev_tmp _ _ (show 31 < 59 by decide), ev_tmp _ _ (show 45 < 59 by decide), ev_const, q31, q45]
        simp [go_sem]
      · intro kk bb ff ww hkk hf hd hp hq hJ
        refine .inl ⟨wanted_none rfl, ?_⟩
        obtain ⟨p0, p1, -⟩ := hd
        have q : FEq (.bool true) (ff 46) ww := p0 rfl
        exact sl_val (ff 46) hJ (by simp only [execOp, ev_tmp _ _ (show 46 < 59 by decide)]; rfl) q
      · intro kk bb ff ww hkk hf hd hp hq hJ
        obtain ⟨p0, -⟩ := hd
        have qg : FEq (.bool true) (ff 47) ww := p0 rfl
        refine .inl ⟨(wanted_on (b := true) (want := true) (j := 18) (d := 47) qg (by decide) rfl rfl rfl), ?_⟩
        have q3 : FEq (.pointer (some ⟨w1.heap.size, 0, none⟩)) (ff 3) ww := (hf 3 (by decide)).trans rfl
        unfold FEq at q3
        have c0 : ww.cell? ⟨w1.heap.size, 0, none⟩ = some (.slice A xs.length c) := (hJ.cell (p := ⟨w1.heap.size, 0, none⟩) (show w1.heap.size < _ by omega)).trans Q_a
        refine sl_val (.agg #[.slice A xs.length c]) hJ ?_ rfl
        simp only [execOp, ev_tmp _ _ (show 3 < 59 by decide), ev_const, q3]
        simp [go_sem, c0]
      · intro kk bb ff ww hkk hf hd hp hq hJ
        obtain ⟨p0, -⟩ := hd
        have qg : FEq (.bool true) (ff 47) ww := p0 rfl
        refine .inl ⟨(wanted_on (b := true) (want := true) (j := 18) (d := 47) qg (by decide) rfl rfl rfl), ?_⟩
        have q3 : FEq (.pointer (some ⟨w1.heap.size, 0, none⟩)) (ff 3) ww := (hf 3 (by decide)).trans rfl
        unfold FEq at q3
        have c0 : ww.cell? ⟨w1.heap.size, 0, none⟩ = some (.slice A xs.length c) := (hJ.cell (p := ⟨w1.heap.size, 0, none⟩) (show w1.heap.size < _ by omega)).trans Q_a
        refine sl_val (.agg #[.slice A xs.length c]) hJ ?_ rfl
        simp only [execOp, ev_tmp _ _ (show 3 < 59 by decide), ev_const, q3]
        simp [go_sem, c0]
      · intro kk bb ff ww hkk hf hd hp hq hJ
        obtain ⟨p0, p1, p2, -⟩ := hd
        have qg : FEq (.bool true) (ff 47) ww := p1 rfl
        refine .inl ⟨(wanted_on (b := true) (want := true) (j := 18) (d := 47) qg (by decide) rfl rfl rfl), ?_⟩
        have q49 : FEq (.agg #[.slice A xs.length c]) (ff 49) ww := p0 rfl
        unfold FEq at q49
        refine sl_enter 25 #[.agg #[.slice A xs.length c], .int .i64 (3)] hJ ?_ ?_
        · simp only [execOp, ev_tmp _ _ (show 49 < 59 by decide), ev_const, q49, ev_func, resolve, List.map_toArray, List.map_cons, List.map_nil]
          simp [go_sem]
        · skip
          have h := retP_post (impl_TurnPattern A c xs 3 ww ((P_a.out.below hJ (by omega)).more (by have := hJ.size; omega)) (by omega))
          rw [HT.out] at h
          exact h
      · intro kk bb ff ww hkk hf hd hp hq hJ
        obtain ⟨p0, p1, p2, p3, -⟩ := hd
        have qg : FEq (.bool true) (ff 47) ww := p3 rfl
        refine .inl ⟨(wanted_on (b := true) (want := true) (j := 18) (d := 47) qg (by decide) rfl rfl rfl), ?_⟩
        have q48 : FEq (.agg #[.slice A xs.length c]) (ff 48) ww := p0 rfl
        unfold FEq at q48
        have q50 : FRdB (T) (ff 50) ww := p1 rfl
        obtain ⟨A50, c50, q50, rd50⟩ := q50
        refine sl_enter 28 #[.agg #[.slice A xs.length c], .agg #[.slice A50 T.length c50]] hJ ?_ ?_
        · simp only [execOp, ev_tmp _ _ (show 48 < 59 by decide), ev_tmp _ _ (show 50 < 59 by decide), ev_const, q48, q50, ev_func, resolve, List.map_toArray, List.map_cons, List.map_nil]
          simp [go_sem]
        · skip
          have h := retB_post (impl_SamePattern A A50 c c50 xs T ww ((P_a.out.below hJ (by omega)).more (by have := hJ.size; omega)) rd50 (by omega) (by omega))
          rw [HTN.out] at h
          exact h
      · intro kk bb ff ww hkk hf hd hp hq hJ
        obtain ⟨p0, -⟩ := hd
        have qg : FEq (.bool true) (ff 47) ww := p0 rfl
        refine .inl ⟨(wanted_on (b := true) (want := true) (j := 18) (d := 47) qg (by decide) rfl rfl rfl), ?_⟩
        have q3 : FEq (.pointer (some ⟨w1.heap.size, 0, none⟩)) (ff 3) ww := (hf 3 (by decide)).trans rfl
        unfold FEq at q3
        have c0 : ww.cell? ⟨w1.heap.size, 0, none⟩ = some (.slice A xs.length c) := (hJ.cell (p := ⟨w1.heap.size, 0, none⟩) (show w1.heap.size < _ by omega)).trans Q_a
        refine sl_val (.agg #[.slice A xs.length c]) hJ ?_ rfl
        simp only [execOp, ev_tmp _ _ (show 3 < 59 by decide), ev_const, q3]
        simp [go_sem, c0]
      · intro kk bb ff ww hkk hf hd hp hq hJ
        obtain ⟨p0, p1, p2, -⟩ := hd
        have qg : FEq (.bool true) (ff 47) ww := p2 rfl
        refine .inl ⟨(wanted_on (b := true) (want := true) (j := 18) (d := 47) qg (by decide) rfl rfl rfl), ?_⟩
        have q52 : FEq (.agg #[.slice A xs.length c]) (ff 52) ww := p0 rfl
        unfold FEq at q52
        refine sl_enter 11 #[.agg #[.slice A xs.length c]] hJ ?_ ?_
        · simp only [execOp, ev_tmp _ _ (show 52 < 59 by decide), ev_const, q52, ev_func, resolve, List.map_toArray, List.map_cons, List.map_nil]
          simp [go_sem]
        · skip
          have h := retB_post (spec_PatternValid_b A c xs ww)
          rw [HPV.out] at h
          exact h
      · intro kk bb ff ww hkk hf hd hp hq hJ
        obtain ⟨p0, p1, p2, -⟩ := hd
        have qg : FEq (.bool true) (ff 47) ww := p2 rfl
        refine .inl ⟨(wanted_on (b := true) (want := true) (j := 18) (d := 47) qg (by decide) rfl rfl rfl), ?_⟩
        have q51 : FEq (.bool pv) (ff 51) ww := p0 rfl
        unfold FEq at q51
        have q53 : FEq (.bool pv) (ff 53) ww := p1 rfl
        unfold FEq at q53
        refine sl_val (.bool true) hJ ?_ rfl
        simp only [execOp, ev_tmp _ _ (show 51 < 59 by decide), ev_tmp _ _ (show 53 < 59 by decide), ev_const, q51, q53]
        simp [go_sem]
      · intro kk bb ff ww hkk hf hd hp hq hJ
        refine .inl ⟨wanted_none rfl, ?_⟩
        obtain ⟨p0, p1, -⟩ := hd
        have q47 : FEq (.bool true) (ff 47) ww := p0 rfl
        unfold FEq at q47
        have q54 : FEq (.bool true) (ff 54) ww := p1 rfl
        unfold FEq at q54
        refine sl_val (.bool true) hJ ?_ rfl
        simp only [execOp, ev_tmp _ _ (show 47 < 59 by decide), ev_tmp _ _ (show 54 < 59 by decide), ev_const, q47, q54]
        simp [go_sem]
      · intro kk bb ff ww hkk hf hd hp hq hJ
        refine .inl ⟨wanted_none rfl, ?_⟩
        obtain ⟨p0, p1, -⟩ := hd
        have q : FEq (.bool true) (ff 55) ww := p0 rfl
        exact sl_val (ff 55) hJ (by simp only [execOp, ev_tmp _ _ (show 55 < 59 by decide)]; rfl) q
      · intro kk bb ff ww hkk hf hd hp hq hJ
        obtain ⟨p0, p1, -⟩ := hd
        have qg : FEq (.bool true) (ff 56) ww := p0 rfl
        refine .inl ⟨(wanted_on (b := true) (want := true) (j := 27) (d := 56) qg (by decide) rfl rfl rfl), ?_⟩
        refine sl_enter 12 #[] hJ ?_ ?_
        · simp only [execOp, ev_const, ev_func, resolve, List.map_toArray, List.map_cons, List.map_nil]
          simp [go_sem]
        · skip
          exact retB_post (laws_alive ww)
      · intro kk bb ff ww hkk hf hd hp hq hJ
        refine .inl ⟨wanted_none rfl, ?_⟩
        obtain ⟨p0, p1, -⟩ := hd
        have q56 : FEq (.bool true) (ff 56) ww := p0 rfl
        unfold FEq at q56
        have q57 : FEq (.bool true) (ff 57) ww := p1 rfl
        unfold FEq at q57
        refine sl_val (.bool true) hJ ?_ rfl
        simp only [execOp, ev_tmp _ _ (show 56 < 59 by decide), ev_tmp _ _ (show 57 < 59 by decide), ev_const, q56, q57]
        simp [go_sem]
      · intro kk bb ff ww hkk hf hd hp hq hJ
        refine .inl ⟨wanted_none rfl, ?_⟩
        obtain ⟨p0, p1, p2, p3, p4, p5, p6, p7, p8, p9, p10, p11, p12, p13, p14, p15, p16, p17, p18, p19, p20, p21, p22, p23, p24, p25, p26, p27, p28, p29, p30, p31, -⟩ := hd
        have q : FEq (.bool true) (ff 58) ww := p0 rfl
        exact sl_val (ff 58) hJ (by simp only [execOp, ev_tmp _ _ (show 58 < 59 by decide)]; rfl) q
    intro ff w6 hf hd hJ
    have hfr : fr 59 ff = #[ff 0, ff 1, ff 2, ff 3, ff 4, ff 5, ff 6, ff 7, ff 8, ff 9, ff 10, ff 11, ff 12, ff 13, ff 14, ff 15, ff 16, ff 17, ff 18, ff 19, ff 20, ff 21, ff 22, ff 23, ff 24, ff 25, ff 26, ff 27, ff 28, ff 29, ff 30, ff 31, ff 32, ff 33, ff 34, ff 35, ff 36, ff 37, ff 38, ff 39, ff 40, ff 41, ff 42, ff 43, ff 44, ff 45, ff 46, ff 47, ff 48, ff 49, ff 50, ff 51, ff 52, ff 53, ff 54, ff 55, ff 56, ff 57, ff 58] := rfl
    rw [hfr]; clear hfr
    dsimp only
    have q0_ := hf 0 (by decide)
    have q1_ := hf 1 (by decide)
    have q2_ : FEq (.bool true) (ff 2) w6 := hd 30 (by decide)
    unfold FEq at q2_
    have q3_ := hf 3 (by decide)
    have q4_ := hf 4 (by decide)
    have q5_ := hf 5 (by decide)
    have q6_ := hf 6 (by decide)
    have q7_ := hf 7 (by decide)
    have q8_ := hf 8 (by decide)
    have q9_ := hf 9 (by decide)
    have q10_ := hf 10 (by decide)
    have q11_ := hf 11 (by decide)
    have q12_ := hf 12 (by decide)
    have q13_ := hf 13 (by decide)
    have q14_ := hf 14 (by decide)
    have q15_ := hf 15 (by decide)
    have q16_ := hf 16 (by decide)
    have q17_ := hf 17 (by decide)
    have q18_ := hf 18 (by decide)
    have q19_ := hf 19 (by decide)
    have q20_ := hf 20 (by decide)
    have q21_ := hf 21 (by decide)
    have q22_ := hf 22 (by decide)
    have q23_ := hf 23 (by decide)
    have q24_ := hf 24 (by decide)
    have q25_ := hf 25 (by decide)
    have q26_ := hf 26 (by decide)
    have q27_ := hf 27 (by decide)
    have q28_ := hf 28 (by decide)
    have q29_ : FEq (.bool true) (ff 29) w6 := hd 0 (by decide)
    unfold FEq at q29_
    have q30_ : FEq (.bool false) (ff 30) w6 := hd 1 (by decide)
    unfold FEq at q30_
    have q31_ : FEq (.bool false) (ff 31) w6 := hd 2 (by decide)
    unfold FEq at q31_
    have q32_ : FEq (.pointer (some ⟨w1.heap.size, 0, none⟩)) (ff 32) w6 := hd 3 (by decide)
    unfold FEq at q32_
    have q33_ : FEq (.slice A xs.length c) (ff 33) w6 := hd 4 (by decide)
    unfold FEq at q33_
    have q34_ : FEq (.int .i64 (((xs.length : Nat) : Int))) (ff 34) w6 := hd 5 (by decide)
    unfold FEq at q34_
    have q35_ : FEq (.pointer (some ⟨w1.heap.size + 1, 0, none⟩)) (ff 35) w6 := hd 6 (by decide)
    unfold FEq at q35_
    have q36_ : FEq (.slice C ys.length d) (ff 36) w6 := hd 7 (by decide)
    unfold FEq at q36_
    have q37_ : FEq (.int .i64 (((ys.length : Nat) : Int))) (ff 37) w6 := hd 8 (by decide)
    unfold FEq at q37_
    have q38_ : FEq (.bool true) (ff 38) w6 := hd 9 (by decide)
    unfold FEq at q38_
    have q39_ : FEq (.bool true) (ff 39) w6 := hd 10 (by decide)
    unfold FEq at q39_
    have q40_ : FEq (.agg #[.slice A xs.length c]) (ff 40) w6 := hd 11 (by decide)
    unfold FEq at q40_
    have q41_ : FEq (.int .i64 (((strk ys : Nat) : Int))) (ff 41) w6 := hd 12 (by decide)
    unfold FEq at q41_
    have q42_ : FEq (.agg #[.slice C ys.length d]) (ff 42) w6 := hd 13 (by decide)
    unfold FEq at q42_
    have q43_ : FEq (.int .i64 (((strk ys : Nat) : Int))) (ff 43) w6 := hd 14 (by decide)
    unfold FEq at q43_
    have q44_ : FEq (.bool true) (ff 44) w6 := hd 15 (by decide)
    unfold FEq at q44_
    have q45_ : FEq (.bool true) (ff 45) w6 := hd 16 (by decide)
    unfold FEq at q45_
    have q46_ : FEq (.bool true) (ff 46) w6 := hd 17 (by decide)
    unfold FEq at q46_
    have q47_ : FEq (.bool true) (ff 47) w6 := hd 18 (by decide)
    unfold FEq at q47_
    have q48_ : FEq (.agg #[.slice A xs.length c]) (ff 48) w6 := hd 19 (by decide)
    unfold FEq at q48_
    have q49_ : FEq (.agg #[.slice A xs.length c]) (ff 49) w6 := hd 20 (by decide)
    unfold FEq at q49_
    have q51_ : FEq (.bool pv) (ff 51) w6 := hd 22 (by decide)
    unfold FEq at q51_
    have q52_ : FEq (.agg #[.slice A xs.length c]) (ff 52) w6 := hd 23 (by decide)
    unfold FEq at q52_
    have q53_ : FEq (.bool pv) (ff 53) w6 := hd 24 (by decide)
    unfold FEq at q53_
    have q54_ : FEq (.bool true) (ff 54) w6 := hd 25 (by decide)
    unfold FEq at q54_
    have q55_ : FEq (.bool true) (ff 55) w6 := hd 26 (by decide)
    unfold FEq at q55_
    have q56_ : FEq (.bool true) (ff 56) w6 := hd 27 (by decide)
    unfold FEq at q56_
    have q57_ : FEq (.bool true) (ff 57) w6 := hd 28 (by decide)
    unfold FEq at q57_
    have q58_ : FEq (.bool true) (ff 58) w6 := hd 29 (by decide)
    unfold FEq at q58_
    simp only [Array.getD_eq_getD_getElem?, List.getElem?_toArray, List.getElem?_cons_zero, List.getElem?_cons_succ, Option.getD_some] at q0_ q1_ q3_ q4_ q5_ q6_ q7_ q8_ q9_ q10_ q11_ q12_ q13_ q14_ q15_ q16_ q17_ q18_ q19_ q20_ q21_ q22_ q23_ q24_ q25_ q26_ q27_ q28_
    rw [q0_, q1_, q2_, q3_, q4_, q5_, q6_, q7_, q8_, q9_, q10_, q11_, q12_, q13_, q14_, q15_, q16_, q17_, q18_, q19_, q20_, q21_, q22_, q23_, q24_, q25_, q26_, q27_, q28_, q29_, q30_, q31_, q32_, q33_, q34_, q35_, q36_, q37_, q38_, q39_, q40_, q41_, q42_, q43_, q44_, q45_, q46_, q47_, q48_, q49_, q51_, q52_, q53_, q54_, q55_, q56_, q57_, q58_]
    clear q0_ q1_ q2_ q3_ q4_ q5_ q6_ q7_ q8_ q9_ q10_ q11_ q12_ q13_ q14_ q15_ q16_ q17_ q18_ q19_ q20_ q21_ q22_ q23_ q24_ q25_ q26_ q27_ q28_ q29_ q30_ q31_ q32_ q33_ q34_ q35_ q36_ q37_ q38_ q39_ q40_ q41_ q42_ q43_ q44_ q45_ q46_ q47_ q48_ q49_ q51_ q52_ q53_ q54_ q55_ q56_ q57_ q58_ hf hd
    generalize ff 50 = v50_
    clear ff
    have b_ : Below _ _ w6 := hJ
    clear hJ
    have b6 : Below w5.heap.size w5 w6 := b_
    clear b_
    have z6 := b6.size
    replace P_a := Lib.hid (P_a.out.below b6 (by omega))
    replace P_b := Lib.hid (P_b.out.below b6 (by omega))
    replace Q_a := (b6.cell (p := ⟨w1.heap.size, 0, none⟩) (show w1.heap.size < w5.heap.size by omega)).trans Q_a
    replace Q_b := (b6.cell (p := ⟨w1.heap.size + 1, 0, none⟩) (show w1.heap.size + 1 < w5.heap.size by omega)).trans Q_b
    replace HB := Lib.hid (HB.out.trans (b6.mono (by omega)))
    clear b6
    go_wp2_with fail
    go_ret
    exact ⟨rfl, HB.out⟩
end Go.Proofs.Ytelajonddhoafaa.fnSamePattern
