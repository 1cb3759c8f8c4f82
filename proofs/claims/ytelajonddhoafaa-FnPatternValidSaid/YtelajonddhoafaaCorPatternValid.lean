/- The walk of FnPatternValid: it returns true. Condition: at most 2^20 bytes. -/
import Derived.Test.YtelajonddhoafaaPat
import Derived.Test.YtelajonddhoafaaDrawB
import Derived.Test.YtelajonddhoafaaInv
import Derived.Test.YtelajonddhoafaaAlive
import Derived.Test.YtelajonddhoafaaSam2
import Derived.Test.YtelajonddhoafaaRegW
import Derived.Deep.Cut
namespace Go.Proofs.Ytelajonddhoafaa.fnPatternValid
set_option linter.unusedVariables false
open Go.RowKit
set_option linter.unusedSimpArgs false
set_option maxRecDepth 100000 in
set_option maxHeartbeats 4000000 in
theorem core (w : World) (A_z : Option Addr) (c_z : Nat) (z : List Int) (r_z : RdY w w.heap.size A_z z) (f_z : WfY z) (k_z : z.length ≤ c_z) (hbig : z.length ≤ 1048576) :
    Calls Try.prog 3 #[.slice A_z z.length c_z] w (RetB w true) := by
  have hi1 : (z.length : Int) ≤ 1048576 := by omega
  go_enter Try.func3, Try.ntmps3
  go_wp2_with fail
  refine (spec_DrawPatternValid A_z c_z z w r_z f_z hbig k_z).mono ?_
  rintro e w1 ⟨A, c, zs, rfl, hl, hcap, hrd, b1⟩
  have z1 := b1.size
  have HB := Lib.hid b1; clear b1 r_z f_z
  have hA0 : 1 ≤ zs.length → ∃ b off, A = some ⟨b, off, none⟩ := fun h => by
    obtain ⟨b, off, e, _⟩ := hrd.2 (by omega)
    exact ⟨b, off, e⟩
  clear hrd
  have hpl : patL zs = inR zs.length 1 32 := rfl
  generalize hn : zs.length = n at *
  clear hpl
  have HN := Lib.hid hn; clear hn
  have HV0 : Hid (inR ((0 : Nat) : Int) 1 32 = false) := by unfold Hid; decide
  have Q0 : (w1.alloc (.cells #[.slice A n c] 25)).cell? ⟨w1.heap.size, 0, none⟩ = some (.slice A n c) := by simp [go_sem]
  have HB2 := Lib.hid (HB.out.alloc z1 (.cells #[.slice A n c] 25))
  have zz : w1.heap.size + 1 ≤ (w1.alloc (.cells #[.slice A n c] 25)).heap.size := by simp
  go_wp2_with fail
  generalize (w1.alloc (.cells #[.slice A n c] 25)) = w2 at *
  have HQ := Lib.hid Q0; clear Q0
  replace HB := HB2; clear HB2
  cases hv : inR n 1 32
  all_goals
    have HV := Lib.hid hv
    refine (impl_PatternValid_n _ _ _ _).mono ?_; rw [HV.out]; rintro e w3 ⟨rfl, b_⟩
    have z3 := b_.size
    replace HB := Lib.hid (HB.out.trans (b_.mono (by omega)))
    have Q := (b_.cell (p := ⟨w1.heap.size, 0, none⟩) (show w1.heap.size < _ by omega)).trans HQ.out
    clear b_ hv
    go_wp2_with fail
    refine (spec_PatternValid_n _ _ _ _).mono ?_; rw [HV.out]; rintro e w4 ⟨rfl, b_⟩
    have z4 := b_.size
    replace HB := Lib.hid (HB.out.trans (b_.mono (by omega)))
    replace Q := (b_.cell (p := ⟨w1.heap.size, 0, none⟩) (show w1.heap.size < _ by omega)).trans Q
    clear b_ HQ
    go_upto_region 7 with (fail)
  · refine regionL_draws rfl 38 [some 16, some 17, some 18, some 19, some 20, some 21, some 22, some 23, some 24, some 25, some 26, some 27, some 28, some 29, some 30, some 31, some 32, some 33, some 34, some 35, some 36, some 37, some 2]
      [FEq (.bool false), FEq (.bool true), FEq (.bool true), FEq (undef), FEq (undef), FEq (undef), FEq (undef), FEq (undef), FEq (undef), FEq (undef), FEq (undef), FEq (undef), FEq (undef), FEq (.bool true), FEq (.bool true), FEq (.agg #[.slice none 0 0]), FEq (.bool false), FEq (.bool true), FEq (.bool true), FEq (.bool true), FEq (.bool true), FEq (.bool true), FEq (.bool true)] (by kernel_rfl) (by kernel_rfl) ?_ ?_ ?_
    · exact stayLs_cons stayL_eq (stayLs_cons stayL_eq (stayLs_cons stayL_eq (stayLs_cons stayL_eq (stayLs_cons stayL_eq (stayLs_cons stayL_eq (stayLs_cons stayL_eq (stayLs_cons stayL_eq (stayLs_cons stayL_eq (stayLs_cons stayL_eq (stayLs_cons stayL_eq (stayLs_cons stayL_eq (stayLs_cons stayL_eq (stayLs_cons stayL_eq (stayLs_cons stayL_eq (stayLs_cons stayL_eq (stayLs_cons stayL_eq (stayLs_cons stayL_eq (stayLs_cons stayL_eq (stayLs_cons stayL_eq (stayLs_cons stayL_eq (stayLs_cons stayL_eq (stayLs_cons stayL_eq stayLs_nil))))))))))))))))))))))
    · refine AllI.cons ?_ (AllI.cons ?_ (AllI.cons ?_ (AllI.cons ?_ (AllI.cons ?_ (AllI.cons ?_ (AllI.cons ?_ (AllI.cons ?_ (AllI.cons ?_ (AllI.cons ?_ (AllI.cons ?_ (AllI.cons ?_ (AllI.cons ?_ (AllI.cons ?_ (AllI.cons ?_ (AllI.cons ?_ (AllI.cons ?_ (AllI.cons ?_ (AllI.cons ?_ (AllI.cons ?_ (AllI.cons ?_ (AllI.cons ?_ (AllI.cons ?_ trivial))))))))))))))))))))))
      · intro kk bb ff ww hkk hf hd hp hJ
        refine .inl ⟨wanted_none rfl, ?_⟩
        have q : FEq (.bool false) (ff 4) ww := (hf 4 (by decide)).trans rfl
        exact sl_val (ff 4) hJ (by simp only [execOp, ev_tmp _ _ (show 4 < 38 by decide)]; rfl) q
      · intro kk bb ff ww hkk hf hd hp hJ
        refine .inl ⟨wanted_none rfl, ?_⟩
        obtain ⟨p0, -⟩ := hd
        have q16 : FEq (.bool false) (ff 16) ww := p0 rfl
        unfold FEq at q16
        refine sl_val (.bool true) hJ ?_ rfl
        simp only [execOp, ev_tmp _ _ (show 16 < 38 by decide), ev_const, q16]
        simp [go_sem]
      · intro kk bb ff ww hkk hf hd hp hJ
        refine .inl ⟨wanted_none rfl, ?_⟩
        obtain ⟨p0, -⟩ := hd
        have q : FEq (.bool true) (ff 17) ww := p0 rfl
        exact sl_val (ff 17) hJ (by simp only [execOp, ev_tmp _ _ (show 17 < 38 by decide)]; rfl) q
      · intro kk bb ff ww hkk hf hd hp hJ
        obtain ⟨p0, -⟩ := hd
        have qg : FEq (.bool true) (ff 18) ww := p0 rfl
        exact .inr ⟨(wanted_off (b := true) (want := false) (j := 2) (d := 18) qg (by decide) rfl rfl rfl), Below.refl _ _, hJ, rfl⟩
      · intro kk bb ff ww hkk hf hd hp hJ
        obtain ⟨p0, p1, -⟩ := hd
        have qg : FEq (.bool true) (ff 18) ww := p1 rfl
        exact .inr ⟨(wanted_off (b := true) (want := false) (j := 2) (d := 18) qg (by decide) rfl rfl rfl), Below.refl _ _, hJ, rfl⟩
      · intro kk bb ff ww hkk hf hd hp hJ
        obtain ⟨p0, p1, -⟩ := hd
        have qg : FEq (.bool true) (ff 18) ww := p1 rfl
        exact .inr ⟨(wanted_off (b := true) (want := false) (j := 2) (d := 18) qg (by decide) rfl rfl rfl), Below.refl _ _, hJ, rfl⟩
      · intro kk bb ff ww hkk hf hd hp hJ
        obtain ⟨p0, p1, -⟩ := hd
        have qg : FEq (.bool true) (ff 18) ww := p1 rfl
        exact .inr ⟨(wanted_off (b := true) (want := false) (j := 2) (d := 18) qg (by decide) rfl rfl rfl), Below.refl _ _, hJ, rfl⟩
      · intro kk bb ff ww hkk hf hd hp hJ
        obtain ⟨p0, p1, p2, -⟩ := hd
        have qg : FEq (.bool true) (ff 18) ww := p1 rfl
        exact .inr ⟨(wanted_off (b := true) (want := false) (j := 2) (d := 18) qg (by decide) rfl rfl rfl), Below.refl _ _, hJ, rfl⟩
      · intro kk bb ff ww hkk hf hd hp hJ
        obtain ⟨p0, -⟩ := hd
        have qg : FEq (.bool true) (ff 18) ww := p0 rfl
        exact .inr ⟨(wanted_off (b := true) (want := false) (j := 2) (d := 18) qg (by decide) rfl rfl rfl), Below.refl _ _, hJ, rfl⟩
      · intro kk bb ff ww hkk hf hd hp hJ
        obtain ⟨p0, p1, -⟩ := hd
        have qg : FEq (.bool true) (ff 18) ww := p1 rfl
        exact .inr ⟨(wanted_off (b := true) (want := false) (j := 2) (d := 18) qg (by decide) rfl rfl rfl), Below.refl _ _, hJ, rfl⟩
      · intro kk bb ff ww hkk hf hd hp hJ
        obtain ⟨p0, p1, -⟩ := hd
        have qg : FEq (.bool true) (ff 18) ww := p1 rfl
        exact .inr ⟨(wanted_off (b := true) (want := false) (j := 2) (d := 18) qg (by decide) rfl rfl rfl), Below.refl _ _, hJ, rfl⟩
      · intro kk bb ff ww hkk hf hd hp hJ
        obtain ⟨p0, p1, -⟩ := hd
        have qg : FEq (.bool true) (ff 18) ww := p1 rfl
        exact .inr ⟨(wanted_off (b := true) (want := false) (j := 2) (d := 18) qg (by decide) rfl rfl rfl), Below.refl _ _, hJ, rfl⟩
      · intro kk bb ff ww hkk hf hd hp hJ
        obtain ⟨p0, p1, p2, -⟩ := hd
        have qg : FEq (.bool true) (ff 18) ww := p2 rfl
        exact .inr ⟨(wanted_off (b := true) (want := false) (j := 2) (d := 18) qg (by decide) rfl rfl rfl), Below.refl _ _, hJ, rfl⟩
      · intro kk bb ff ww hkk hf hd hp hJ
        refine .inl ⟨wanted_none rfl, ?_⟩
        obtain ⟨p0, p1, -⟩ := hd
        have q18 : FEq (.bool true) (ff 18) ww := p0 rfl
        unfold FEq at q18
        refine sl_val (.bool true) hJ ?_ rfl
        simp only [execOp, ev_tmp _ _ (show 18 < 38 by decide), ev_tmp _ _ (show 28 < 38 by decide), ev_const, q18]
        simp [go_sem]
      · intro kk bb ff ww hkk hf hd hp hJ
        refine .inl ⟨wanted_none rfl, ?_⟩
        obtain ⟨p0, p1, -⟩ := hd
        have q : FEq (.bool true) (ff 29) ww := p0 rfl
        exact sl_val (ff 29) hJ (by simp only [execOp, ev_tmp _ _ (show 29 < 38 by decide)]; rfl) q
      · intro kk bb ff ww hkk hf hd hp hJ
        obtain ⟨p0, -⟩ := hd
        have qg : FEq (.bool true) (ff 30) ww := p0 rfl
        refine .inl ⟨(wanted_on (b := true) (want := true) (j := 14) (d := 30) qg (by decide) rfl rfl rfl), ?_⟩
        refine sl_val (.agg #[.slice none 0 0]) hJ ?_ rfl
        simp only [execOp, ev_const, List.map_toArray, List.map_nil]
        simp [go_sem]
      · intro kk bb ff ww hkk hf hd hp hJ
        obtain ⟨p0, p1, p2, -⟩ := hd
        have qg : FEq (.bool true) (ff 30) ww := p1 rfl
        refine .inl ⟨(wanted_on (b := true) (want := true) (j := 14) (d := 30) qg (by decide) rfl rfl rfl), ?_⟩
        have q31 : FEq (.agg #[.slice none 0 0]) (ff 31) ww := p0 rfl
        unfold FEq at q31
        refine sl_enter 10 #[.agg #[.slice none 0 0]] hJ ?_ ?_
        · simp only [execOp, ev_tmp _ _ (show 31 < 38 by decide), ev_const, q31, ev_func, resolve, List.map_toArray, List.map_cons, List.map_nil]
          simp [go_sem]
        · skip
          have h := retB_post (impl_PatternValid_n none 0 0 ww)
          rw [HV0.out] at h
          exact h
      · intro kk bb ff ww hkk hf hd hp hJ
        obtain ⟨p0, p1, -⟩ := hd
        have qg : FEq (.bool true) (ff 30) ww := p1 rfl
        refine .inl ⟨(wanted_on (b := true) (want := true) (j := 14) (d := 30) qg (by decide) rfl rfl rfl), ?_⟩
        have q32 : FEq (.bool false) (ff 32) ww := p0 rfl
        unfold FEq at q32
        refine sl_val (.bool true) hJ ?_ rfl
        simp only [execOp, ev_tmp _ _ (show 32 < 38 by decide), ev_const, q32]
        simp [go_sem]
      · intro kk bb ff ww hkk hf hd hp hJ
        refine .inl ⟨wanted_none rfl, ?_⟩
        obtain ⟨p0, p1, -⟩ := hd
        have q30 : FEq (.bool true) (ff 30) ww := p0 rfl
        unfold FEq at q30
        have q33 : FEq (.bool true) (ff 33) ww := p1 rfl
        unfold FEq at q33
        refine sl_val (.bool true) hJ ?_ rfl
        simp only [execOp, ev_tmp _ _ (show 30 < 38 by decide), ev_tmp _ _ (show 33 < 38 by decide), ev_const, q30, q33]
        simp [go_sem]
      · intro kk bb ff ww hkk hf hd hp hJ
        refine .inl ⟨wanted_none rfl, ?_⟩
        obtain ⟨p0, p1, -⟩ := hd
        have q : FEq (.bool true) (ff 34) ww := p0 rfl
        exact sl_val (ff 34) hJ (by simp only [execOp, ev_tmp _ _ (show 34 < 38 by decide)]; rfl) q
      · intro kk bb ff ww hkk hf hd hp hJ
        obtain ⟨p0, p1, -⟩ := hd
        have qg : FEq (.bool true) (ff 35) ww := p0 rfl
        refine .inl ⟨(wanted_on (b := true) (want := true) (j := 19) (d := 35) qg (by decide) rfl rfl rfl), ?_⟩
        refine sl_enter 12 #[] hJ ?_ ?_
        · simp only [execOp, ev_const, ev_func, resolve, List.map_toArray, List.map_cons, List.map_nil]
          simp [go_sem]
        · skip
          exact retB_post (laws_alive ww)
      · intro kk bb ff ww hkk hf hd hp hJ
        refine .inl ⟨wanted_none rfl, ?_⟩
        obtain ⟨p0, p1, -⟩ := hd
        have q35 : FEq (.bool true) (ff 35) ww := p0 rfl
        unfold FEq at q35
        have q36 : FEq (.bool true) (ff 36) ww := p1 rfl
        unfold FEq at q36
        refine sl_val (.bool true) hJ ?_ rfl
        simp only [execOp, ev_tmp _ _ (show 35 < 38 by decide), ev_tmp _ _ (show 36 < 38 by decide), ev_const, q35, q36]
        simp [go_sem]
      · intro kk bb ff ww hkk hf hd hp hJ
        refine .inl ⟨wanted_none rfl, ?_⟩
        obtain ⟨p0, p1, p2, p3, p4, p5, p6, p7, p8, p9, p10, p11, p12, p13, p14, p15, p16, p17, p18, p19, p20, p21, p22, p23, -⟩ := hd
        have q : FEq (.bool true) (ff 37) ww := p0 rfl
        exact sl_val (ff 37) hJ (by simp only [execOp, ev_tmp _ _ (show 37 < 38 by decide)]; rfl) q
    intro ff w5 hf hd hJ
    have hfr : fr 38 ff = #[ff 0, ff 1, ff 2, ff 3, ff 4, ff 5, ff 6, ff 7, ff 8, ff 9, ff 10, ff 11, ff 12, ff 13, ff 14, ff 15, ff 16, ff 17, ff 18, ff 19, ff 20, ff 21, ff 22, ff 23, ff 24, ff 25, ff 26, ff 27, ff 28, ff 29, ff 30, ff 31, ff 32, ff 33, ff 34, ff 35, ff 36, ff 37] := rfl
    rw [hfr]; clear hfr
    dsimp only
    have q0_ := hf 0 (by decide)
    have q1_ := hf 1 (by decide)
    have q2_ : FEq (.bool true) (ff 2) w5 := hd 22 (by decide)
    unfold FEq at q2_
    have q3_ := hf 3 (by decide)
    have q4_ := hf 4 (by decide)
    have q5_ := hf 5 (by decide)
    have q6_ := hf 6 (by decide)
    have q7_ := hf 7 (by decide)
    have q8_ := hf 8 (by decide)
    have q9_ := hf 9 (by decide)
    have q10_ := hf 10 (by decide)
    have q11_ := hf 11 (by decide)
    have q12_ := hf 12 (by decide)
    have q13_ := hf 13 (by decide)
    have q14_ := hf 14 (by decide)
    have q15_ := hf 15 (by decide)
    have q16_ : FEq (.bool false) (ff 16) w5 := hd 0 (by decide)
    unfold FEq at q16_
    have q17_ : FEq (.bool true) (ff 17) w5 := hd 1 (by decide)
    unfold FEq at q17_
    have q18_ : FEq (.bool true) (ff 18) w5 := hd 2 (by decide)
    unfold FEq at q18_
    have q19_ : FEq (undef) (ff 19) w5 := hd 3 (by decide)
    unfold FEq at q19_
    have q20_ : FEq (undef) (ff 20) w5 := hd 4 (by decide)
    unfold FEq at q20_
    have q21_ : FEq (undef) (ff 21) w5 := hd 5 (by decide)
    unfold FEq at q21_
    have q22_ : FEq (undef) (ff 22) w5 := hd 6 (by decide)
    unfold FEq at q22_
    have q23_ : FEq (undef) (ff 23) w5 := hd 7 (by decide)
    unfold FEq at q23_
    have q24_ : FEq (undef) (ff 24) w5 := hd 8 (by decide)
    unfold FEq at q24_
    have q25_ : FEq (undef) (ff 25) w5 := hd 9 (by decide)
    unfold FEq at q25_
    have q26_ : FEq (undef) (ff 26) w5 := hd 10 (by decide)
    unfold FEq at q26_
    have q27_ : FEq (undef) (ff 27) w5 := hd 11 (by decide)
    unfold FEq at q27_
    have q28_ : FEq (undef) (ff 28) w5 := hd 12 (by decide)
    unfold FEq at q28_
    have q29_ : FEq (.bool true) (ff 29) w5 := hd 13 (by decide)
    unfold FEq at q29_
    have q30_ : FEq (.bool true) (ff 30) w5 := hd 14 (by decide)
    unfold FEq at q30_
    have q31_ : FEq (.agg #[.slice none 0 0]) (ff 31) w5 := hd 15 (by decide)
    unfold FEq at q31_
    have q32_ : FEq (.bool false) (ff 32) w5 := hd 16 (by decide)
    unfold FEq at q32_
    have q33_ : FEq (.bool true) (ff 33) w5 := hd 17 (by decide)
    unfold FEq at q33_
    have q34_ : FEq (.bool true) (ff 34) w5 := hd 18 (by decide)
    unfold FEq at q34_
    have q35_ : FEq (.bool true) (ff 35) w5 := hd 19 (by decide)
    unfold FEq at q35_
    have q36_ : FEq (.bool true) (ff 36) w5 := hd 20 (by decide)
    unfold FEq at q36_
    have q37_ : FEq (.bool true) (ff 37) w5 := hd 21 (by decide)
    unfold FEq at q37_
    simp only [Array.getD_eq_getD_getElem?, List.getElem?_toArray, List.getElem?_cons_zero, List.getElem?_cons_succ, Option.getD_some] at q0_ q1_ q3_ q4_ q5_ q6_ q7_ q8_ q9_ q10_ q11_ q12_ q13_ q14_ q15_
    rw [q0_, q1_, q2_, q3_, q4_, q5_, q6_, q7_, q8_, q9_, q10_, q11_, q12_, q13_, q14_, q15_, q16_, q17_, q18_, q19_, q20_, q21_, q22_, q23_, q24_, q25_, q26_, q27_, q28_, q29_, q30_, q31_, q32_, q33_, q34_, q35_, q36_, q37_]
    clear q0_ q1_ q2_ q3_ q4_ q5_ q6_ q7_ q8_ q9_ q10_ q11_ q12_ q13_ q14_ q15_ q16_ q17_ q18_ q19_ q20_ q21_ q22_ q23_ q24_ q25_ q26_ q27_ q28_ q29_ q30_ q31_ q32_ q33_ q34_ q35_ q36_ q37_ hf hd
    clear ff
    have b_ : Below _ _ w5 := hJ
    clear hJ
    replace HB := Lib.hid (HB.out.trans (b_.mono (by omega))); clear b_
    go_wp2_with fail
    go_ret
    exact ⟨rfl, HB.out⟩
  · have hn1 := inR_iff.1 HV.out
    obtain ⟨bA, oA, hA⟩ := hA0 (by omega)
    obtain ⟨A1, hsl⟩ : ∃ A1, ∀ W : World, (Instr.sliceAt 23 (.slice A n c) (some (.int .i64 1)) none none).run Try.prog W = .ok (.slice A1 (n - 1) (c - 1)) W := by
      rw [hA]
      by_cases hc : c = 1
      · subst hc
        obtain rfl : n = 1 := by omega
        exact ⟨some ⟨bA, oA, none⟩, fun W => by simp [go_sem]⟩
      · have h1 : (1 : Int) < (c : Int) := by omega
        have h2 : (1 : Int) ≤ (n : Int) := by omega
        exact ⟨some ⟨bA, oA + 1, none⟩, fun W => by simp [go_sem, h1, h2, hc]⟩
    have HA := Lib.hid hA; clear hA
    have HSL := Lib.hid hsl; clear hsl
    have HGT : Hid (decide ((1 : Int) < (n : Int)) = inR ((n - 1 : Nat) : Int) 1 32) := by
      unfold Hid
      by_cases h : 1 < n
      · rw [decide_eq_true (by omega), inR_t (by omega)]
      · rw [decide_eq_false (by omega)]; symm; rw [Bool.eq_false_iff]; intro h2; have := inR_iff.1 h2; omega
    generalize htt : inR ((n - 1 : Nat) : Int) 1 32 = tt at *
    have HV1 := Lib.hid htt; clear htt
    refine regionL_draws rfl 38 [some 16, some 17, some 18, some 19, some 20, some 21, some 22, some 23, some 24, some 25, some 26, some 27, some 28, some 29, some 30, some 31, some 32, some 33, some 34, some 35, some 36, some 37, some 2]
      [FEq (.bool true), FEq (.bool false), FEq (.bool false), FEq (.pointer (some ⟨w1.heap.size, 0, none⟩)), FEq (.slice A n c), FEq (.slice A1 (n - 1) (c - 1)), FEq (.agg #[.slice A1 (n - 1) (c - 1)]), FEq (.bool tt), FEq (.pointer (some ⟨w1.heap.size, 0, none⟩)), FEq (.slice A n c), FEq (.int .i64 (((n : Nat) : Int))), FEq (.bool tt), FEq (.bool true), FEq (.bool true), FEq (.bool true), FEq (.agg #[.slice none 0 0]), FEq (.bool false), FEq (.bool true), FEq (.bool true), FEq (.bool true), FEq (.bool true), FEq (.bool true), FEq (.bool true)] (by kernel_rfl) (by kernel_rfl) ?_ ?_ ?_
    · exact stayLs_cons stayL_eq (stayLs_cons stayL_eq (stayLs_cons stayL_eq (stayLs_cons stayL_eq (stayLs_cons stayL_eq (stayLs_cons stayL_eq (stayLs_cons stayL_eq (stayLs_cons stayL_eq (stayLs_cons stayL_eq (stayLs_cons stayL_eq (stayLs_cons stayL_eq (stayLs_cons stayL_eq (stayLs_cons stayL_eq (stayLs_cons stayL_eq (stayLs_cons stayL_eq (stayLs_cons stayL_eq (stayLs_cons stayL_eq (stayLs_cons stayL_eq (stayLs_cons stayL_eq (stayLs_cons stayL_eq (stayLs_cons stayL_eq (stayLs_cons stayL_eq (stayLs_cons stayL_eq stayLs_nil))))))))))))))))))))))
    · refine AllI.cons ?_ (AllI.cons ?_ (AllI.cons ?_ (AllI.cons ?_ (AllI.cons ?_ (AllI.cons ?_ (AllI.cons ?_ (AllI.cons ?_ (AllI.cons ?_ (AllI.cons ?_ (AllI.cons ?_ (AllI.cons ?_ (AllI.cons ?_ (AllI.cons ?_ (AllI.cons ?_ (AllI.cons ?_ (AllI.cons ?_ (AllI.cons ?_ (AllI.cons ?_ (AllI.cons ?_ (AllI.cons ?_ (AllI.cons ?_ (AllI.cons ?_ trivial))))))))))))))))))))))
      · intro kk bb ff ww hkk hf hd hp hJ
        refine .inl ⟨wanted_none rfl, ?_⟩
        have q : FEq (.bool true) (ff 4) ww := (hf 4 (by decide)).trans rfl
        exact sl_val (ff 4) hJ (by simp only [execOp, ev_tmp _ _ (show 4 < 38 by decide)]; rfl) q
      · intro kk bb ff ww hkk hf hd hp hJ
        refine .inl ⟨wanted_none rfl, ?_⟩
        obtain ⟨p0, -⟩ := hd
        have q16 : FEq (.bool true) (ff 16) ww := p0 rfl
        unfold FEq at q16
        refine sl_val (.bool false) hJ ?_ rfl
        simp only [execOp, ev_tmp _ _ (show 16 < 38 by decide), ev_const, q16]
        simp [go_sem]
      · intro kk bb ff ww hkk hf hd hp hJ
        refine .inl ⟨wanted_none rfl, ?_⟩
        obtain ⟨p0, -⟩ := hd
        have q : FEq (.bool false) (ff 17) ww := p0 rfl
        exact sl_val (ff 17) hJ (by simp only [execOp, ev_tmp _ _ (show 17 < 38 by decide)]; rfl) q
      · intro kk bb ff ww hkk hf hd hp hJ
        obtain ⟨p0, -⟩ := hd
        have qg : FEq (.bool false) (ff 18) ww := p0 rfl
        refine .inl ⟨(wanted_on (b := false) (want := false) (j := 2) (d := 18) qg (by decide) rfl rfl rfl), ?_⟩
        have q3 : FEq (.pointer (some ⟨w1.heap.size, 0, none⟩)) (ff 3) ww := (hf 3 (by decide)).trans rfl
        unfold FEq at q3
        refine sl_val (.pointer (some ⟨w1.heap.size, 0, none⟩)) hJ ?_ rfl
        simp only [execOp, ev_tmp _ _ (show 3 < 38 by decide), ev_const, q3]
        simp [go_sem]
      · intro kk bb ff ww hkk hf hd hp hJ
        obtain ⟨p0, p1, -⟩ := hd
        have qg : FEq (.bool false) (ff 18) ww := p1 rfl
        refine .inl ⟨(wanted_on (b := false) (want := false) (j := 2) (d := 18) qg (by decide) rfl rfl rfl), ?_⟩
        have q19 : FEq (.pointer (some ⟨w1.heap.size, 0, none⟩)) (ff 19) ww := p0 rfl
        unfold FEq at q19
        have c0 : ww.cell? ⟨w1.heap.size, 0, none⟩ = some (.slice A n c) := (hJ.cell (p := ⟨w1.heap.size, 0, none⟩) (show w1.heap.size < _ by omega)).trans Q
        refine sl_val (.slice A n c) hJ ?_ rfl
        simp only [execOp, ev_tmp _ _ (show 19 < 38 by decide), ev_const, q19]
        simp [go_sem, c0]
      · intro kk bb ff ww hkk hf hd hp hJ
        obtain ⟨p0, p1, -⟩ := hd
        have qg : FEq (.bool false) (ff 18) ww := p1 rfl
        refine .inl ⟨(wanted_on (b := false) (want := false) (j := 2) (d := 18) qg (by decide) rfl rfl rfl), ?_⟩
        have q20 : FEq (.slice A n c) (ff 20) ww := p0 rfl
        unfold FEq at q20
        refine sl_val (.slice A1 (n - 1) (c - 1)) hJ ?_ rfl
        simp only [execOp, ev_tmp _ _ (show 20 < 38 by decide), ev_const, q20]
        have h := HSL.out ww
        simp only [Option.map_some, Option.map_none, Sem.run_bind, Sem.run_pure, Result.andThen_ok, h, ev_const]
      · intro kk bb ff ww hkk hf hd hp hJ
        obtain ⟨p0, p1, -⟩ := hd
        have qg : FEq (.bool false) (ff 18) ww := p1 rfl
        refine .inl ⟨(wanted_on (b := false) (want := false) (j := 2) (d := 18) qg (by decide) rfl rfl rfl), ?_⟩
        have q21 : FEq (.slice A1 (n - 1) (c - 1)) (ff 21) ww := p0 rfl
        unfold FEq at q21
        refine sl_val (.agg #[.slice A1 (n - 1) (c - 1)]) hJ ?_ rfl
        simp only [execOp, ev_tmp _ _ (show 21 < 38 by decide), ev_const, q21, List.map_toArray, List.map_cons, List.map_nil]
        simp [go_sem]
      · intro kk bb ff ww hkk hf hd hp hJ
        obtain ⟨p0, p1, p2, -⟩ := hd
        have qg : FEq (.bool false) (ff 18) ww := p1 rfl
        refine .inl ⟨(wanted_on (b := false) (want := false) (j := 2) (d := 18) qg (by decide) rfl rfl rfl), ?_⟩
        have q22 : FEq (.agg #[.slice A1 (n - 1) (c - 1)]) (ff 22) ww := p0 rfl
        unfold FEq at q22
        refine sl_enter 10 #[.agg #[.slice A1 (n - 1) (c - 1)]] hJ ?_ ?_
        · simp only [execOp, ev_tmp _ _ (show 22 < 38 by decide), ev_const, q22, ev_func, resolve, List.map_toArray, List.map_cons, List.map_nil]
          simp [go_sem]
        · skip
          have h := retB_post (impl_PatternValid_n A1 (c - 1) (n - 1) ww)
          rw [HV1.out] at h
          exact h
      · intro kk bb ff ww hkk hf hd hp hJ
        obtain ⟨p0, -⟩ := hd
        have qg : FEq (.bool false) (ff 18) ww := p0 rfl
        refine .inl ⟨(wanted_on (b := false) (want := false) (j := 2) (d := 18) qg (by decide) rfl rfl rfl), ?_⟩
        have q3 : FEq (.pointer (some ⟨w1.heap.size, 0, none⟩)) (ff 3) ww := (hf 3 (by decide)).trans rfl
        unfold FEq at q3
        refine sl_val (.pointer (some ⟨w1.heap.size, 0, none⟩)) hJ ?_ rfl
        simp only [execOp, ev_tmp _ _ (show 3 < 38 by decide), ev_const, q3]
        simp [go_sem]
      · intro kk bb ff ww hkk hf hd hp hJ
        obtain ⟨p0, p1, -⟩ := hd
        have qg : FEq (.bool false) (ff 18) ww := p1 rfl
        refine .inl ⟨(wanted_on (b := false) (want := false) (j := 2) (d := 18) qg (by decide) rfl rfl rfl), ?_⟩
        have q24 : FEq (.pointer (some ⟨w1.heap.size, 0, none⟩)) (ff 24) ww := p0 rfl
        unfold FEq at q24
        have c0 : ww.cell? ⟨w1.heap.size, 0, none⟩ = some (.slice A n c) := (hJ.cell (p := ⟨w1.heap.size, 0, none⟩) (show w1.heap.size < _ by omega)).trans Q
        refine sl_val (.slice A n c) hJ ?_ rfl
        simp only [execOp, ev_tmp _ _ (show 24 < 38 by decide), ev_const, q24]
        simp [go_sem, c0]
      · intro kk bb ff ww hkk hf hd hp hJ
        obtain ⟨p0, p1, -⟩ := hd
        have qg : FEq (.bool false) (ff 18) ww := p1 rfl
        refine .inl ⟨(wanted_on (b := false) (want := false) (j := 2) (d := 18) qg (by decide) rfl rfl rfl), ?_⟩
        have q25 : FEq (.slice A n c) (ff 25) ww := p0 rfl
        unfold FEq at q25
        refine sl_val (.int .i64 ((n : Nat) : Int)) hJ ?_ rfl
        simp only [execOp, ev_tmp _ _ (show 25 < 38 by decide), ev_const, q25, List.map_toArray, List.map_cons, List.map_nil, resolve]
        simp [go_sem]
      · intro kk bb ff ww hkk hf hd hp hJ
        obtain ⟨p0, p1, -⟩ := hd
        have qg : FEq (.bool false) (ff 18) ww := p1 rfl
        refine .inl ⟨(wanted_on (b := false) (want := false) (j := 2) (d := 18) qg (by decide) rfl rfl rfl), ?_⟩
        have q26 : FEq (.int .i64 (((n : Nat) : Int))) (ff 26) ww := p0 rfl
        unfold FEq at q26
        refine sl_val (.bool tt) hJ ?_ rfl
        simp only [execOp, ev_tmp _ _ (show 26 < 38 by decide), ev_const, q26]
        have h := HGT.out
        simp [go_sem, h]
      · intro kk bb ff ww hkk hf hd hp hJ
        obtain ⟨p0, p1, p2, -⟩ := hd
        have qg : FEq (.bool false) (ff 18) ww := p2 rfl
        refine .inl ⟨(wanted_on (b := false) (want := false) (j := 2) (d := 18) qg (by decide) rfl rfl rfl), ?_⟩
        have q23 : FEq (.bool tt) (ff 23) ww := p0 rfl
        unfold FEq at q23
        have q27 : FEq (.bool tt) (ff 27) ww := p1 rfl
        unfold FEq at q27
        refine sl_val (.bool true) hJ ?_ rfl
        simp only [execOp, ev_tmp _ _ (show 23 < 38 by decide), ev_tmp _ _ (show 27 < 38 by decide), ev_const, q23, q27]
        simp [go_sem]
      · intro kk bb ff ww hkk hf hd hp hJ
        refine .inl ⟨wanted_none rfl, ?_⟩
        obtain ⟨p0, p1, -⟩ := hd
        have q18 : FEq (.bool false) (ff 18) ww := p0 rfl
        unfold FEq at q18
        have q28 : FEq (.bool true) (ff 28) ww := p1 rfl
        unfold FEq at q28
        refine sl_val (.bool true) hJ ?_ rfl
        simp only [execOp, ev_tmp _ _ (show 18 < 38 by decide), ev_tmp _ _ (show 28 < 38 by decide), ev_const, q18, q28]
        simp [go_sem]
      · intro kk bb ff ww hkk hf hd hp hJ
        refine .inl ⟨wanted_none rfl, ?_⟩
        obtain ⟨p0, p1, -⟩ := hd
        have q : FEq (.bool true) (ff 29) ww := p0 rfl
        exact sl_val (ff 29) hJ (by simp only [execOp, ev_tmp _ _ (show 29 < 38 by decide)]; rfl) q
      · intro kk bb ff ww hkk hf hd hp hJ
        obtain ⟨p0, -⟩ := hd
        have qg : FEq (.bool true) (ff 30) ww := p0 rfl
        refine .inl ⟨(wanted_on (b := true) (want := true) (j := 14) (d := 30) qg (by decide) rfl rfl rfl), ?_⟩
        refine sl_val (.agg #[.slice none 0 0]) hJ ?_ rfl
        simp only [execOp, ev_const, List.map_toArray, List.map_nil]
        simp [go_sem]
      · intro kk bb ff ww hkk hf hd hp hJ
        obtain ⟨p0, p1, p2, -⟩ := hd
        have qg : FEq (.bool true) (ff 30) ww := p1 rfl
        refine .inl ⟨(wanted_on (b := true) (want := true) (j := 14) (d := 30) qg (by decide) rfl rfl rfl), ?_⟩
        have q31 : FEq (.agg #[.slice none 0 0]) (ff 31) ww := p0 rfl
        unfold FEq at q31
        refine sl_enter 10 #[.agg #[.slice none 0 0]] hJ ?_ ?_
        · simp only [execOp, ev_tmp _ _ (show 31 < 38 by decide), ev_const, q31, ev_func, resolve, List.map_toArray, List.map_cons, List.map_nil]
          simp [go_sem]
        · skip
          have h := retB_post (impl_PatternValid_n none 0 0 ww)
          rw [HV0.out] at h
          exact h
      · intro kk bb ff ww hkk hf hd hp hJ
        obtain ⟨p0, p1, -⟩ := hd
        have qg : FEq (.bool true) (ff 30) ww := p1 rfl
        refine .inl ⟨(wanted_on (b := true) (want := true) (j := 14) (d := 30) qg (by decide) rfl rfl rfl), ?_⟩
        have q32 : FEq (.bool false) (ff 32) ww := p0 rfl
        unfold FEq at q32
        refine sl_val (.bool true) hJ ?_ rfl
        simp only [execOp, ev_tmp _ _ (show 32 < 38 by decide), ev_const, q32]
        simp [go_sem]
      · intro kk bb ff ww hkk hf hd hp hJ
        refine .inl ⟨wanted_none rfl, ?_⟩
        obtain ⟨p0, p1, -⟩ := hd
        have q30 : FEq (.bool true) (ff 30) ww := p0 rfl
        unfold FEq at q30
        have q33 : FEq (.bool true) (ff 33) ww := p1 rfl
        unfold FEq at q33
        refine sl_val (.bool true) hJ ?_ rfl
        simp only [execOp, ev_tmp _ _ (show 30 < 38 by decide), ev_tmp _ _ (show 33 < 38 by decide), ev_const, q30, q33]
        simp [go_sem]
      · intro kk bb ff ww hkk hf hd hp hJ
        refine .inl ⟨wanted_none rfl, ?_⟩
        obtain ⟨p0, p1, -⟩ := hd
        have q : FEq (.bool true) (ff 34) ww := p0 rfl
        exact sl_val (ff 34) hJ (by simp only [execOp, ev_tmp _ _ (show 34 < 38 by decide)]; rfl) q
      · intro kk bb ff ww hkk hf hd hp hJ
        obtain ⟨p0, p1, -⟩ := hd
        have qg : FEq (.bool true) (ff 35) ww := p0 rfl
        refine .inl ⟨(wanted_on (b := true) (want := true) (j := 19) (d := 35) qg (by decide) rfl rfl rfl), ?_⟩
        refine sl_enter 12 #[] hJ ?_ ?_
        · simp only [execOp, ev_const, ev_func, resolve, List.map_toArray, List.map_cons, List.map_nil]
          simp [go_sem]
        · skip
          exact retB_post (laws_alive ww)
      · intro kk bb ff ww hkk hf hd hp hJ
        refine .inl ⟨wanted_none rfl, ?_⟩
        obtain ⟨p0, p1, -⟩ := hd
        have q35 : FEq (.bool true) (ff 35) ww := p0 rfl
        unfold FEq at q35
        have q36 : FEq (.bool true) (ff 36) ww := p1 rfl
        unfold FEq at q36
        refine sl_val (.bool true) hJ ?_ rfl
        simp only [execOp, ev_tmp _ _ (show 35 < 38 by decide), ev_tmp _ _ (show 36 < 38 by decide), ev_const, q35, q36]
        simp [go_sem]
      · intro kk bb ff ww hkk hf hd hp hJ
        refine .inl ⟨wanted_none rfl, ?_⟩
        obtain ⟨p0, p1, p2, p3, p4, p5, p6, p7, p8, p9, p10, p11, p12, p13, p14, p15, p16, p17, p18, p19, p20, p21, p22, p23, -⟩ := hd
        have q : FEq (.bool true) (ff 37) ww := p0 rfl
        exact sl_val (ff 37) hJ (by simp only [execOp, ev_tmp _ _ (show 37 < 38 by decide)]; rfl) q
    intro ff w5 hf hd hJ
    have hfr : fr 38 ff = #[ff 0, ff 1, ff 2, ff 3, ff 4, ff 5, ff 6, ff 7, ff 8, ff 9, ff 10, ff 11, ff 12, ff 13, ff 14, ff 15, ff 16, ff 17, ff 18, ff 19, ff 20, ff 21, ff 22, ff 23, ff 24, ff 25, ff 26, ff 27, ff 28, ff 29, ff 30, ff 31, ff 32, ff 33, ff 34, ff 35, ff 36, ff 37] := rfl
    rw [hfr]; clear hfr
    dsimp only
    have q0_ := hf 0 (by decide)
    have q1_ := hf 1 (by decide)
    have q2_ : FEq (.bool true) (ff 2) w5 := hd 22 (by decide)
    unfold FEq at q2_
    have q3_ := hf 3 (by decide)
    have q4_ := hf 4 (by decide)
    have q5_ := hf 5 (by decide)
    have q6_ := hf 6 (by decide)
    have q7_ := hf 7 (by decide)
    have q8_ := hf 8 (by decide)
    have q9_ := hf 9 (by decide)
    have q10_ := hf 10 (by decide)
    have q11_ := hf 11 (by decide)
    have q12_ := hf 12 (by decide)
    have q13_ := hf 13 (by decide)
    have q14_ := hf 14 (by decide)
    have q15_ := hf 15 (by decide)
    have q16_ : FEq (.bool true) (ff 16) w5 := hd 0 (by decide)
    unfold FEq at q16_
    have q17_ : FEq (.bool false) (ff 17) w5 := hd 1 (by decide)
    unfold FEq at q17_
    have q18_ : FEq (.bool false) (ff 18) w5 := hd 2 (by decide)
    unfold FEq at q18_
    have q19_ : FEq (.pointer (some ⟨w1.heap.size, 0, none⟩)) (ff 19) w5 := hd 3 (by decide)
    unfold FEq at q19_
    have q20_ : FEq (.slice A n c) (ff 20) w5 := hd 4 (by decide)
    unfold FEq at q20_
    have q21_ : FEq (.slice A1 (n - 1) (c - 1)) (ff 21) w5 := hd 5 (by decide)
    unfold FEq at q21_
    have q22_ : FEq (.agg #[.slice A1 (n - 1) (c - 1)]) (ff 22) w5 := hd 6 (by decide)
    unfold FEq at q22_
    have q23_ : FEq (.bool tt) (ff 23) w5 := hd 7 (by decide)
    unfold FEq at q23_
    have q24_ : FEq (.pointer (some ⟨w1.heap.size, 0, none⟩)) (ff 24) w5 := hd 8 (by decide)
    unfold FEq at q24_
    have q25_ : FEq (.slice A n c) (ff 25) w5 := hd 9 (by decide)
    unfold FEq at q25_
    have q26_ : FEq (.int .i64 (((n : Nat) : Int))) (ff 26) w5 := hd 10 (by decide)
    unfold FEq at q26_
    have q27_ : FEq (.bool tt) (ff 27) w5 := hd 11 (by decide)
    unfold FEq at q27_
    have q28_ : FEq (.bool true) (ff 28) w5 := hd 12 (by decide)
    unfold FEq at q28_
    have q29_ : FEq (.bool true) (ff 29) w5 := hd 13 (by decide)
    unfold FEq at q29_
    have q30_ : FEq (.bool true) (ff 30) w5 := hd 14 (by decide)
    unfold FEq at q30_
    have q31_ : FEq (.agg #[.slice none 0 0]) (ff 31) w5 := hd 15 (by decide)
    unfold FEq at q31_
    have q32_ : FEq (.bool false) (ff 32) w5 := hd 16 (by decide)
    unfold FEq at q32_
    have q33_ : FEq (.bool true) (ff 33) w5 := hd 17 (by decide)
    unfold FEq at q33_
    have q34_ : FEq (.bool true) (ff 34) w5 := hd 18 (by decide)
    unfold FEq at q34_
    have q35_ : FEq (.bool true) (ff 35) w5 := hd 19 (by decide)
    unfold FEq at q35_
    have q36_ : FEq (.bool true) (ff 36) w5 := hd 20 (by decide)
    unfold FEq at q36_
    have q37_ : FEq (.bool true) (ff 37) w5 := hd 21 (by decide)
    unfold FEq at q37_
    simp only [Array.getD_eq_getD_getElem?, List.getElem?_toArray, List.getElem?_cons_zero, List.getElem?_cons_succ, Option.getD_some] at q0_ q1_ q3_ q4_ q5_ q6_ q7_ q8_ q9_ q10_ q11_ q12_ q13_ q14_ q15_
    rw [q0_, q1_, q2_, q3_, q4_, q5_, q6_, q7_, q8_, q9_, q10_, q11_, q12_, q13_, q14_, q15_, q16_, q17_, q18_, q19_, q20_, q21_, q22_, q23_, q24_, q25_, q26_, q27_, q28_, q29_, q30_, q31_, q32_, q33_, q34_, q35_, q36_, q37_]
    clear q0_ q1_ q2_ q3_ q4_ q5_ q6_ q7_ q8_ q9_ q10_ q11_ q12_ q13_ q14_ q15_ q16_ q17_ q18_ q19_ q20_ q21_ q22_ q23_ q24_ q25_ q26_ q27_ q28_ q29_ q30_ q31_ q32_ q33_ q34_ q35_ q36_ q37_ hf hd
    clear ff
    have b_ : Below _ _ w5 := hJ
    clear hJ
    replace HB := Lib.hid (HB.out.trans (b_.mono (by omega))); clear b_
    go_wp2_with fail
    go_ret
    exact ⟨rfl, HB.out⟩
end Go.Proofs.Ytelajonddhoafaa.fnPatternValid
