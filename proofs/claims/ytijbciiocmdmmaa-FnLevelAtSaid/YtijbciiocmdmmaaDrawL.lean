/- Contracts of the draw of LevelAt. No condition but bounds on the bytes. -/
import Derived.Test.YtijbciiocmdmmaaDrawS
import Derived.Test.YtijbciiocmdmmaaInv
import Derived.Deep.Cut
namespace Go.Proofs.Ytijbciiocmdmmaa
set_option linter.unusedVariables false
open Go.RowKit
set_option linter.unusedSimpArgs false
set_option maxRecDepth 100000 in
set_option maxHeartbeats 4000000 in
theorem spec_DrawLevelAt (A : Option Addr) (c : Nat) (zs : List Int) (w : World) (hr : RdY w w.heap.size A zs) (hw : WfY zs) (hl : zs.length ≤ 1048576) (hc : zs.length ≤ c) :
    Calls Try.prog 29 #[.slice A zs.length c] w fun e w' => ∃ a d s r h t : Int, e = .returned (.tuple #[.agg #[.int .i64 a, .int .i64 d, .int .i64 s, .int .i64 r], .int .i64 h, .int .i64 t]) ∧ (-1 ≤ a ∧ a ≤ 10001) ∧ (-1 ≤ d ∧ d ≤ 10001) ∧ (-1 ≤ s ∧ s ≤ 10001) ∧ (-1 ≤ r ∧ r ≤ 10001) ∧ (-1 ≤ h ∧ h ≤ 1000001) ∧ (-1 ≤ t ∧ t ≤ 1000000) ∧ Below w.heap.size w w' := by
  go_enter Try.func29, Try.ntmps29
  have HY := Lib.hid (fun o => RdY.alloc1 hr o); clear hr
  go_wp2_with fail
  refine (spec_l20Open A c zs _ (by exact HY.out _) hw hl hc).mono ?_
  rintro e w1 ⟨rfl, r_, b_, s_⟩
  have HK := Lib.hid ((Blk.new w _ _).below b_ (by simp))
  have HB := Lib.hid (((Below.refl w.heap.size w).alloc (Nat.le_refl _) _).trans (b_.mono (by simp)))
  simp only [World.size_alloc] at r_ b_ s_
  have z1 : w.heap.size + 2 ≤ w1.heap.size := (by omega)
  have hne1 : ¬ w1.heap.size = w.heap.size + 1 := by omega
  have hnf1 : ¬ w1.heap.size + 1 = w.heap.size + 1 := by omega
  have HR := Lib.hid r_
  have HG := Lib.hid (only_refl w1 (some (w.heap.size + 1)))
  clear r_ b_ s_ HY
  go_wp2_with fail
  refine (spec_l20Shape (w.heap.size + 1) 0 12 w1 HR.out (by omega) (by omega)).mono ?_
  rintro e w2 ⟨a, d, s, r, rfl, h1, h2, h3, h4, hr2, g2⟩
  have z2 := g2.size
  replace HK := Lib.hid ((HK.out.only g2 (by omega)).alloc (.cells #[.int .i64 a, .int .i64 d, .int .i64 s, .int .i64 r] 28))
  replace HB := Lib.hid ((below_only HB.out g2 (by omega) (by omega)).alloc (by omega) (.cells #[.int .i64 a, .int .i64 d, .int .i64 s, .int .i64 r] 28))
  replace HR := Lib.hid ((hr2.more (show 0 + 7 ≤ 7 + 1 * 0 by omega)).alloc1 (.cells #[.int .i64 a, .int .i64 d, .int .i64 s, .int .i64 r] 28))
  have HS := Lib.hid (Blk.new w2 28 #[.int .i64 a, .int .i64 d, .int .i64 s, .int .i64 r])
  clear hr2 g2
  have hlt : w.heap.size + 1 < w2.heap.size := by omega
  go_upto_region 3 with (fail)
  have zz : w2.heap.size + 1 ≤ (w2.alloc (.cells #[.int .i64 a, .int .i64 d, .int .i64 s, .int .i64 r] 28)).heap.size := by simp
  generalize w2.alloc (.cells #[.int .i64 a, .int .i64 d, .int .i64 s, .int .i64 r] 28) = w3 at *
  have hokX : Cx.ok ⟨(w.heap.size + 1), 7, 1, w3.heap.size, w, [(w2.heap.size, 28, #[.int .i64 a, .int .i64 d, .int .i64 s, .int .i64 r]), (w.heap.size, 28, #[.int .i64 0, .int .i64 0, .int .i64 0, .int .i64 0])], []⟩ := by
    refine ⟨by dsimp only; omega, ?_, ?_, ?_⟩ <;> simp <;> (try omega)
  refine region_plain ⟨(w.heap.size + 1), 7, 1, w3.heap.size, w, [(w2.heap.size, 28, #[.int .i64 a, .int .i64 d, .int .i64 s, .int .i64 r]), (w.heap.size, 28, #[.int .i64 0, .int .i64 0, .int .i64 0, .int .i64 0])], []⟩ 100 34 [some 12, some 13, some 14, some 15, some 16, some 17, some 18, some 19, some 20, some 21, some 7]
    [FEq (.pointer (some ⟨w.heap.size + 1, 0, none⟩)), FInt (0) (59), FLit w3.heap.size 3 4 (-1) (1000001), FLit w3.heap.size 3 7 (0) (3), FEq (.pointer (some ⟨w.heap.size + 1, 0, none⟩)), FInt (0) (6), FAt w3.heap.size 3 (0) (3), FInt (0) (3), FAt w3.heap.size 3 (-1) (1000001), FInt (-1) (1000001), FInt (-1) (1000001)] (by kernel_rfl) (by kernel_rfl) ?_ ?_ ?_ ?_
  · exact stays_cons stay_eq (stays_cons stay_int (stays_cons stay_lit (stays_cons stay_lit (stays_cons stay_eq (stays_cons stay_int (stays_cons stay_at (stays_cons stay_int (stays_cons stay_at (stays_cons stay_int (stays_cons stay_int stays_nil))))))))))
  · exact ⟨fun _ => HR.out, only_of_below HB.out _, Nat.le_refl _, by simp; exact ⟨HS.out, HK.out⟩, by simp⟩
  · refine AllI.cons ?_ (AllI.cons ?_ (AllI.cons ?_ (AllI.cons ?_ (AllI.cons ?_ (AllI.cons ?_ (AllI.cons ?_ (AllI.cons ?_ (AllI.cons ?_ (AllI.cons ?_ (AllI.cons ?_ trivial))))))))))
    · intro kk bb ff ww hkk hf hd hp hJ
      have q : FEq (.pointer (some ⟨w.heap.size + 1, 0, none⟩)) (ff 5) ww := (hf 5 (by decide)).trans rfl
      exact si_val (ff 5) hJ (by simp only [execOp, ev_tmp _ _ (show 5 < 34 by decide)]; rfl) q
    · intro kk bb ff ww hkk hf hd hp hJ
      obtain ⟨p0, -⟩ := hd
      have q12 : FEq (.pointer (some ⟨w.heap.size + 1, 0, none⟩)) (ff 12) ww := p0 rfl
      unfold FEq at q12
      have hkk2 : kk < 11 := hkk
      refine si_enter 46 #[.pointer (some ⟨w.heap.size + 1, 0, none⟩), .int .i64 (60)] hokX hJ (.inr (by simp)) ?_ ?_
      · simp only [execOp, ev_tmp _ _ (show 12 < 34 by decide), ev_const, q12, ev_func, resolve, List.map_toArray, List.map_cons, List.map_nil]
        simp [go_sem]
      · intro hrd
        dsimp only at hrd
        exact pk_post (l20_pk (w.heap.size + 1) (7 + 1 * kk) 60 ww hrd (by omega) (by omega)) (by dsimp only; omega) (by omega)
    · intro kk bb ff ww hkk hf hd hp hJ
      obtain ⟨p0, -⟩ := hd
      have q13 : FInt (0) (59) (ff 13) ww := p0 rfl
      obtain ⟨z13, q13, zl13, zh13⟩ := q13
      refine si_alloc (.slice (some ⟨ww.heap.size, 0, none⟩) 4 4) (.cells #[.int .i64 z13, .int .i64 (0), .int .i64 (-1), .int .i64 (1000001)] 3) hJ ?_ ⟨_, _, rfl, Blk.new _ _ _, rfl, (fun k hk => by simp at hk; rcases k with _ | _ | _ | _ | _ | _ | _ | _ | k <;> first | exact ⟨_, rfl, by omega, by omega⟩ | exact ⟨_, rfl, by rw [IntWalk.i64_in _ (by omega)]; omega, by rw [IntWalk.i64_in _ (by omega)]; omega⟩ | omega), hJ.2.2.1⟩
      simp only [execOp, ev_tmp _ _ (show 13 < 34 by decide), ev_const, q13, List.map_toArray, List.map_cons, List.map_nil]
      simp [go_sem]
    · intro kk bb ff ww hkk hf hd hp hJ
      refine si_alloc (.slice (some ⟨ww.heap.size, 0, none⟩) 7 7) (.cells #[.int .i64 (0), .int .i64 (0), .int .i64 (0), .int .i64 (0), .int .i64 (1), .int .i64 (2), .int .i64 (3)] 3) hJ ?_ ⟨_, _, rfl, Blk.new _ _ _, rfl, (fun k hk => by simp at hk; rcases k with _ | _ | _ | _ | _ | _ | _ | _ | k <;> first | exact ⟨_, rfl, by omega, by omega⟩ | exact ⟨_, rfl, by rw [IntWalk.i64_in _ (by omega)]; omega, by rw [IntWalk.i64_in _ (by omega)]; omega⟩ | omega), hJ.2.2.1⟩
      simp only [execOp, ev_const, List.map_toArray, List.map_cons, List.map_nil]
      simp [go_sem]
    · intro kk bb ff ww hkk hf hd hp hJ
      have q : FEq (.pointer (some ⟨w.heap.size + 1, 0, none⟩)) (ff 5) ww := (hf 5 (by decide)).trans rfl
      exact si_val (ff 5) hJ (by simp only [execOp, ev_tmp _ _ (show 5 < 34 by decide)]; rfl) q
    · intro kk bb ff ww hkk hf hd hp hJ
      obtain ⟨p0, p1, -⟩ := hd
      have q16 : FEq (.pointer (some ⟨w.heap.size + 1, 0, none⟩)) (ff 16) ww := p0 rfl
      unfold FEq at q16
      have hkk2 : kk < 11 := hkk
      refine si_enter 46 #[.pointer (some ⟨w.heap.size + 1, 0, none⟩), .int .i64 (7)] hokX hJ (.inr (by simp)) ?_ ?_
      · simp only [execOp, ev_tmp _ _ (show 16 < 34 by decide), ev_const, q16, ev_func, resolve, List.map_toArray, List.map_cons, List.map_nil]
        simp [go_sem]
      · intro hrd
        dsimp only at hrd
        exact pk_post (l20_pk (w.heap.size + 1) (7 + 1 * kk) 7 ww hrd (by omega) (by omega)) (by dsimp only; omega) (by omega)
    · intro kk bb ff ww hkk hf hd hp hJ
      obtain ⟨p0, p1, -⟩ := hd
      have q15 : FLit w3.heap.size 3 7 (0) (3) (ff 15) ww := p0 rfl
      obtain ⟨b15, c15, q15, u15, n15, l15, v15⟩ := q15
      have q17 : FInt (0) (6) (ff 17) ww := p1 rfl
      obtain ⟨z17, q17, zl17, zh17⟩ := q17
      obtain ⟨j17, rfl⟩ : ∃ j : Nat, z17 = (j : Int) := ⟨z17.toNat, by omega⟩
      refine si_val (.pointer (some ⟨b15, j17, none⟩)) hJ ?_ ⟨b15, j17, c15, rfl, u15, by omega, l15, v15⟩
      simp only [execOp, ev_tmp _ _ (show 15 < 34 by decide), ev_tmp _ _ (show 17 < 34 by decide), ev_const, q15, q17]
      have hlt : (j17 : Int) < 7 := by omega
      simp [go_sem, hlt]
    · intro kk bb ff ww hkk hf hd hp hJ
      obtain ⟨p0, -⟩ := hd
      have q18 : FAt w3.heap.size 3 (0) (3) (ff 18) ww := p0 rfl
      obtain ⟨b18, k18, c18, q18, u18, n18, l18, v18⟩ := q18
      obtain ⟨y, hy, yl, yh⟩ := l18 k18 n18
      have hc := (u18.cell k18).trans hy
      refine si_val (.int .i64 y) hJ ?_ ⟨y, rfl, yl, yh⟩
      simp only [execOp, ev_tmp _ _ (show 18 < 34 by decide), ev_const, q18]
      simp [go_sem, hc]
    · intro kk bb ff ww hkk hf hd hp hJ
      obtain ⟨p0, p1, -⟩ := hd
      have q14 : FLit w3.heap.size 3 4 (-1) (1000001) (ff 14) ww := p0 rfl
      obtain ⟨b14, c14, q14, u14, n14, l14, v14⟩ := q14
      have q19 : FInt (0) (3) (ff 19) ww := p1 rfl
      obtain ⟨z19, q19, zl19, zh19⟩ := q19
      obtain ⟨j19, rfl⟩ : ∃ j : Nat, z19 = (j : Int) := ⟨z19.toNat, by omega⟩
      refine si_val (.pointer (some ⟨b14, j19, none⟩)) hJ ?_ ⟨b14, j19, c14, rfl, u14, by omega, l14, v14⟩
      simp only [execOp, ev_tmp _ _ (show 14 < 34 by decide), ev_tmp _ _ (show 19 < 34 by decide), ev_const, q14, q19]
      have hlt : (j19 : Int) < 4 := by omega
      simp [go_sem, hlt]
    · intro kk bb ff ww hkk hf hd hp hJ
      obtain ⟨p0, -⟩ := hd
      have q20 : FAt w3.heap.size 3 (-1) (1000001) (ff 20) ww := p0 rfl
      obtain ⟨b20, k20, c20, q20, u20, n20, l20, v20⟩ := q20
      obtain ⟨y, hy, yl, yh⟩ := l20 k20 n20
      have hc := (u20.cell k20).trans hy
      refine si_val (.int .i64 y) hJ ?_ ⟨y, rfl, yl, yh⟩
      simp only [execOp, ev_tmp _ _ (show 20 < 34 by decide), ev_const, q20]
      simp [go_sem, hc]
    · intro kk bb ff ww hkk hf hd hp hJ
      obtain ⟨p0, p1, p2, p3, p4, p5, p6, p7, p8, p9, p10, p11, -⟩ := hd
      have q : FInt (-1) (1000001) (ff 21) ww := p0 rfl
      exact si_val (ff 21) hJ (by simp only [execOp, ev_tmp _ _ (show 21 < 34 by decide)]; rfl) q
  intro ff w4 hf hd hJ
  have hfr : fr 34 ff = #[ff 0, ff 1, ff 2, ff 3, ff 4, ff 5, ff 6, ff 7, ff 8, ff 9, ff 10, ff 11, ff 12, ff 13, ff 14, ff 15, ff 16, ff 17, ff 18, ff 19, ff 20, ff 21, ff 22, ff 23, ff 24, ff 25, ff 26, ff 27, ff 28, ff 29, ff 30, ff 31, ff 32, ff 33] := rfl
  rw [hfr]; clear hfr
  dsimp only
  have q0_ := hf 0 (by decide)
  have q1_ := hf 1 (by decide)
  have q2_ := hf 2 (by decide)
  have q3_ := hf 3 (by decide)
  have q4_ := hf 4 (by decide)
  have q5_ := hf 5 (by decide)
  have q6_ := hf 6 (by decide)
  have q7_ : FInt (-1) (1000001) (ff 7) w4 := hd 10 (by decide)
  obtain ⟨x7, q7_, xl7, xh7⟩ := q7_
  have q8_ := hf 8 (by decide)
  have q9_ := hf 9 (by decide)
  have q10_ := hf 10 (by decide)
  have q11_ := hf 11 (by decide)
  have q12_ : FEq (.pointer (some ⟨w.heap.size + 1, 0, none⟩)) (ff 12) w4 := hd 0 (by decide)
  unfold FEq at q12_
  have q16_ : FEq (.pointer (some ⟨w.heap.size + 1, 0, none⟩)) (ff 16) w4 := hd 4 (by decide)
  unfold FEq at q16_
  have q22_ := hf 22 (by decide)
  have q23_ := hf 23 (by decide)
  have q24_ := hf 24 (by decide)
  have q25_ := hf 25 (by decide)
  have q26_ := hf 26 (by decide)
  have q27_ := hf 27 (by decide)
  have q28_ := hf 28 (by decide)
  have q29_ := hf 29 (by decide)
  have q30_ := hf 30 (by decide)
  have q31_ := hf 31 (by decide)
  have q32_ := hf 32 (by decide)
  have q33_ := hf 33 (by decide)
  simp only [Array.getD_eq_getD_getElem?, List.getElem?_toArray, List.getElem?_cons_zero, List.getElem?_cons_succ, Option.getD_some] at q0_ q1_ q2_ q3_ q4_ q5_ q6_ q8_ q9_ q10_ q11_ q22_ q23_ q24_ q25_ q26_ q27_ q28_ q29_ q30_ q31_ q32_ q33_
  rw [q0_, q1_, q2_, q3_, q4_, q5_, q6_, q7_, q8_, q9_, q10_, q11_, q12_, q16_, q22_, q23_, q24_, q25_, q26_, q27_, q28_, q29_, q30_, q31_, q32_, q33_]
  clear q0_ q1_ q2_ q3_ q4_ q5_ q6_ q7_ q8_ q9_ q10_ q11_ q12_ q16_ q22_ q23_ q24_ q25_ q26_ q27_ q28_ q29_ q30_ q31_ q32_ q33_ hf hd
  generalize ff 13 = v13_
  generalize ff 14 = v14_
  generalize ff 15 = v15_
  generalize ff 17 = v17_
  generalize ff 18 = v18_
  generalize ff 19 = v19_
  generalize ff 20 = v20_
  generalize ff 21 = v21_
  clear ff
  have r_ := hJ.1 (.inr (by simp))
  have g_ := hJ.2.1
  have z_ := hJ.2.2.1
  have b0_ : Blk w4 w2.heap.size 28 #[.int .i64 a, .int .i64 d, .int .i64 s, .int .i64 r] := hJ.2.2.2.1 (w2.heap.size, 28, #[.int .i64 a, .int .i64 d, .int .i64 s, .int .i64 r]) (by simp)
  have b1_ : Blk w4 w.heap.size 28 #[.int .i64 0, .int .i64 0, .int .i64 0, .int .i64 0] := hJ.2.2.2.1 (w.heap.size, 28, #[.int .i64 0, .int .i64 0, .int .i64 0, .int .i64 0]) (by simp)
  clear hJ hokX
  dsimp only at g_ z_ r_
  replace HR := Lib.hid r_; replace HB := Lib.hid (below_of_only g_ (by omega)); replace HS := Lib.hid b0_; replace HK := Lib.hid b1_; clear r_ g_ b0_ b1_
  go_upto_region 4 with (fail)
  have hokX : Cx.ok ⟨(w.heap.size + 1), 18, 1, w4.heap.size, w, [(w2.heap.size, 28, #[.int .i64 a, .int .i64 d, .int .i64 s, .int .i64 r])], [(w.heap.size, 28, #[.int .i64 a, .int .i64 d, .int .i64 s, .int .i64 r])]⟩ := by
    refine ⟨by dsimp only; omega, ?_, ?_, ?_⟩ <;> simp <;> (try omega)
  refine region_draws rfl ⟨(w.heap.size + 1), 18, 1, w4.heap.size, w, [(w2.heap.size, 28, #[.int .i64 a, .int .i64 d, .int .i64 s, .int .i64 r])], [(w.heap.size, 28, #[.int .i64 a, .int .i64 d, .int .i64 s, .int .i64 r])]⟩ 12 34 [some 22, some 23, some 24, some 25, some 26, some 27, some 28, some 29, some 30, some 31, some 32, some 33, none, some 3, some 4]
    [FEq (.agg #[.int .i64 a, .int .i64 d, .int .i64 s, .int .i64 r]), FEq (.int .i64 (x7)), FEq (.pointer (some ⟨w.heap.size + 1, 0, none⟩)), FInt (0) (79), FLit w4.heap.size 3 4 (-1) (1000000), FLit w4.heap.size 3 7 (0) (3), FEq (.pointer (some ⟨w.heap.size + 1, 0, none⟩)), FInt (0) (6), FAt w4.heap.size 3 (0) (3), FInt (0) (3), FAt w4.heap.size 3 (-1) (1000000), FInt (-1) (1000000), FBlk (w.heap.size, 28, #[.int .i64 a, .int .i64 d, .int .i64 s, .int .i64 r]), FEq (.int .i64 (x7)), FInt (-1) (1000000)] (by kernel_rfl) (by kernel_rfl) ?_ ?_ ?_ ?_
  · exact stays_cons stay_eq (stays_cons stay_eq (stays_cons stay_eq (stays_cons stay_int (stays_cons stay_lit (stays_cons stay_lit (stays_cons stay_eq (stays_cons stay_int (stays_cons stay_at (stays_cons stay_int (stays_cons stay_at (stays_cons stay_int (stays_cons (stay_blk (by simp)) (stays_cons stay_eq (stays_cons stay_int stays_nil))))))))))))))
  · exact ⟨fun _ => HR.out, only_of_below HB.out _, Nat.le_refl _, by simp; exact HS.out, by simp; exact ⟨_, HK.out, rfl⟩⟩
  · refine AllI.cons ?_ (AllI.cons ?_ (AllI.cons ?_ (AllI.cons ?_ (AllI.cons ?_ (AllI.cons ?_ (AllI.cons ?_ (AllI.cons ?_ (AllI.cons ?_ (AllI.cons ?_ (AllI.cons ?_ (AllI.cons ?_ (AllI.cons ?_ (AllI.cons ?_ (AllI.cons ?_ trivial))))))))))))))
    · intro kk bb ff ww hkk hf hd hp hJ
      have q6 : FEq (.pointer (some ⟨w2.heap.size, 0, none⟩)) (ff 6) ww := (hf 6 (by decide)).trans rfl
      unfold FEq at q6
      have hb : Blk ww w2.heap.size 28 #[.int .i64 a, .int .i64 d, .int .i64 s, .int .i64 r] := hJ.2.2.2.1 (w2.heap.size, 28, #[.int .i64 a, .int .i64 d, .int .i64 s, .int .i64 r]) (by simp)
      have c0 : ww.cell? ⟨w2.heap.size, 0, none⟩ = some (.int .i64 a) := hb.cell 0
      have c1 : ww.cell? ⟨w2.heap.size, 1, none⟩ = some (.int .i64 d) := hb.cell 1
      have c2 : ww.cell? ⟨w2.heap.size, 2, none⟩ = some (.int .i64 s) := hb.cell 2
      have c3 : ww.cell? ⟨w2.heap.size, 3, none⟩ = some (.int .i64 r) := hb.cell 3
      refine si_val (.agg #[.int .i64 a, .int .i64 d, .int .i64 s, .int .i64 r]) hJ ?_ rfl
      simp only [execOp, ev_tmp _ _ (show 6 < 34 by decide), ev_const, q6]
      simp [go_sem, c0, c1, c2, c3]
    · intro kk bb ff ww hkk hf hd hp hJ
      obtain ⟨-, -⟩ := hd
      have q : FEq (.int .i64 (x7)) (ff 7) ww := (hf 7 (by decide)).trans rfl
      exact si_val (ff 7) hJ (by simp only [execOp, ev_tmp _ _ (show 7 < 34 by decide)]; rfl) q
    · intro kk bb ff ww hkk hf hd hp hJ
      have q : FEq (.pointer (some ⟨w.heap.size + 1, 0, none⟩)) (ff 5) ww := (hf 5 (by decide)).trans rfl
      exact si_val (ff 5) hJ (by simp only [execOp, ev_tmp _ _ (show 5 < 34 by decide)]; rfl) q
    · intro kk bb ff ww hkk hf hd hp hJ
      obtain ⟨p0, -⟩ := hd
      have q24 : FEq (.pointer (some ⟨w.heap.size + 1, 0, none⟩)) (ff 24) ww := p0 rfl
      unfold FEq at q24
      have hkk2 : kk < 15 := hkk
      refine si_enter 46 #[.pointer (some ⟨w.heap.size + 1, 0, none⟩), .int .i64 (80)] hokX hJ (.inl (hp [7] (by kernel_rfl))) ?_ ?_
      · simp only [execOp, ev_tmp _ _ (show 24 < 34 by decide), ev_const, q24, ev_func, resolve, List.map_toArray, List.map_cons, List.map_nil]
        simp [go_sem]
      · intro hrd
        dsimp only at hrd
        exact pk_post (l20_pk (w.heap.size + 1) (18 + 1 * kk) 80 ww hrd (by omega) (by omega)) (by dsimp only; omega) (by omega)
    · intro kk bb ff ww hkk hf hd hp hJ
      obtain ⟨p0, -, -⟩ := hd
      have q25 : FInt (0) (79) (ff 25) ww := p0 rfl
      obtain ⟨z25, q25, zl25, zh25⟩ := q25
      refine si_alloc (.slice (some ⟨ww.heap.size, 0, none⟩) 4 4) (.cells #[.int .i64 z25, .int .i64 (0), .int .i64 (-1), .int .i64 (1000000)] 3) hJ ?_ ⟨_, _, rfl, Blk.new _ _ _, rfl, (fun k hk => by simp at hk; rcases k with _ | _ | _ | _ | _ | _ | _ | _ | k <;> first | exact ⟨_, rfl, by omega, by omega⟩ | exact ⟨_, rfl, by rw [IntWalk.i64_in _ (by omega)]; omega, by rw [IntWalk.i64_in _ (by omega)]; omega⟩ | omega), hJ.2.2.1⟩
      simp only [execOp, ev_tmp _ _ (show 25 < 34 by decide), ev_const, q25, List.map_toArray, List.map_cons, List.map_nil]
      simp [go_sem]
    · intro kk bb ff ww hkk hf hd hp hJ
      obtain ⟨-, -⟩ := hd
      refine si_alloc (.slice (some ⟨ww.heap.size, 0, none⟩) 7 7) (.cells #[.int .i64 (0), .int .i64 (0), .int .i64 (0), .int .i64 (0), .int .i64 (1), .int .i64 (2), .int .i64 (3)] 3) hJ ?_ ⟨_, _, rfl, Blk.new _ _ _, rfl, (fun k hk => by simp at hk; rcases k with _ | _ | _ | _ | _ | _ | _ | _ | k <;> first | exact ⟨_, rfl, by omega, by omega⟩ | exact ⟨_, rfl, by rw [IntWalk.i64_in _ (by omega)]; omega, by rw [IntWalk.i64_in _ (by omega)]; omega⟩ | omega), hJ.2.2.1⟩
      simp only [execOp, ev_const, List.map_toArray, List.map_cons, List.map_nil]
      simp [go_sem]
    · intro kk bb ff ww hkk hf hd hp hJ
      have q : FEq (.pointer (some ⟨w.heap.size + 1, 0, none⟩)) (ff 5) ww := (hf 5 (by decide)).trans rfl
      exact si_val (ff 5) hJ (by simp only [execOp, ev_tmp _ _ (show 5 < 34 by decide)]; rfl) q
    · intro kk bb ff ww hkk hf hd hp hJ
      obtain ⟨p0, p1, -⟩ := hd
      have q28 : FEq (.pointer (some ⟨w.heap.size + 1, 0, none⟩)) (ff 28) ww := p0 rfl
      unfold FEq at q28
      have hkk2 : kk < 15 := hkk
      refine si_enter 46 #[.pointer (some ⟨w.heap.size + 1, 0, none⟩), .int .i64 (7)] hokX hJ (.inl (hp [] (by kernel_rfl))) ?_ ?_
      · simp only [execOp, ev_tmp _ _ (show 28 < 34 by decide), ev_const, q28, ev_func, resolve, List.map_toArray, List.map_cons, List.map_nil]
        simp [go_sem]
      · intro hrd
        dsimp only at hrd
        exact pk_post (l20_pk (w.heap.size + 1) (18 + 1 * kk) 7 ww hrd (by omega) (by omega)) (by dsimp only; omega) (by omega)
    · intro kk bb ff ww hkk hf hd hp hJ
      obtain ⟨p0, p1, -, -⟩ := hd
      have q27 : FLit w4.heap.size 3 7 (0) (3) (ff 27) ww := p0 rfl
      obtain ⟨b27, c27, q27, u27, n27, l27, v27⟩ := q27
      have q29 : FInt (0) (6) (ff 29) ww := p1 rfl
      obtain ⟨z29, q29, zl29, zh29⟩ := q29
      obtain ⟨j29, rfl⟩ : ∃ j : Nat, z29 = (j : Int) := ⟨z29.toNat, by omega⟩
      refine si_val (.pointer (some ⟨b27, j29, none⟩)) hJ ?_ ⟨b27, j29, c27, rfl, u27, by omega, l27, v27⟩
      simp only [execOp, ev_tmp _ _ (show 27 < 34 by decide), ev_tmp _ _ (show 29 < 34 by decide), ev_const, q27, q29]
      have hlt : (j29 : Int) < 7 := by omega
      simp [go_sem, hlt]
    · intro kk bb ff ww hkk hf hd hp hJ
      obtain ⟨p0, -, -⟩ := hd
      have q30 : FAt w4.heap.size 3 (0) (3) (ff 30) ww := p0 rfl
      obtain ⟨b30, k30, c30, q30, u30, n30, l30, v30⟩ := q30
      obtain ⟨y, hy, yl, yh⟩ := l30 k30 n30
      have hc := (u30.cell k30).trans hy
      refine si_val (.int .i64 y) hJ ?_ ⟨y, rfl, yl, yh⟩
      simp only [execOp, ev_tmp _ _ (show 30 < 34 by decide), ev_const, q30]
      simp [go_sem, hc]
    · intro kk bb ff ww hkk hf hd hp hJ
      obtain ⟨p0, p1, -, -⟩ := hd
      have q26 : FLit w4.heap.size 3 4 (-1) (1000000) (ff 26) ww := p0 rfl
      obtain ⟨b26, c26, q26, u26, n26, l26, v26⟩ := q26
      have q31 : FInt (0) (3) (ff 31) ww := p1 rfl
      obtain ⟨z31, q31, zl31, zh31⟩ := q31
      obtain ⟨j31, rfl⟩ : ∃ j : Nat, z31 = (j : Int) := ⟨z31.toNat, by omega⟩
      refine si_val (.pointer (some ⟨b26, j31, none⟩)) hJ ?_ ⟨b26, j31, c26, rfl, u26, by omega, l26, v26⟩
      simp only [execOp, ev_tmp _ _ (show 26 < 34 by decide), ev_tmp _ _ (show 31 < 34 by decide), ev_const, q26, q31]
      have hlt : (j31 : Int) < 4 := by omega
      simp [go_sem, hlt]
    · intro kk bb ff ww hkk hf hd hp hJ
      obtain ⟨p0, -, -⟩ := hd
      have q32 : FAt w4.heap.size 3 (-1) (1000000) (ff 32) ww := p0 rfl
      obtain ⟨b32, k32, c32, q32, u32, n32, l32, v32⟩ := q32
      obtain ⟨y, hy, yl, yh⟩ := l32 k32 n32
      have hc := (u32.cell k32).trans hy
      refine si_val (.int .i64 y) hJ ?_ ⟨y, rfl, yl, yh⟩
      simp only [execOp, ev_tmp _ _ (show 32 < 34 by decide), ev_const, q32]
      simp [go_sem, hc]
    · intro kk bb ff ww hkk hf hd hp hJ
      obtain ⟨p0, p1, p2, -, -, -, -, -, -, -, -, -, -, -, -⟩ := hd
      have q2 : FEq (.pointer (some ⟨w.heap.size, 0, none⟩)) (ff 2) ww := (hf 2 (by decide)).trans rfl
      unfold FEq at q2
      have q22 : FEq (.agg #[.int .i64 a, .int .i64 d, .int .i64 s, .int .i64 r]) (ff 22) ww := p0 rfl
      unfold FEq at q22
      obtain ⟨cs, hb, hsz⟩ := hJ.2.2.2.2 (w.heap.size, 28, #[.int .i64 a, .int .i64 d, .int .i64 s, .int .i64 r]) (by simp)
      dsimp only at hb hsz
      obtain ⟨d0, d1, d2, d3, rfl⟩ := arr4 (by simpa using hsz)
      have c0 : ww.cell? ⟨w.heap.size, 0, none⟩ = some d0 := hb.cell 0
      have f0 := hb.frozen 0
      have c1 : ww.cell? ⟨w.heap.size, 1, none⟩ = some d1 := hb.cell 1
      have f1 := hb.frozen 1
      have c2 : ww.cell? ⟨w.heap.size, 2, none⟩ = some d2 := hb.cell 2
      have f2 := hb.frozen 2
      have c3 : ww.cell? ⟨w.heap.size, 3, none⟩ = some d3 := hb.cell 3
      have f3 := hb.frozen 3
      refine si_store (w.heap.size, 28, #[.int .i64 a, .int .i64 d, .int .i64 s, .int .i64 r]) (by simp) ((((ww.setCell ⟨w.heap.size, 0, none⟩ (.int .i64 a)).setCell ⟨w.heap.size, 1, none⟩ (.int .i64 d)).setCell ⟨w.heap.size, 2, none⟩ (.int .i64 s)).setCell ⟨w.heap.size, 3, none⟩ (.int .i64 r)) hokX hJ ?_ (fun j hj => by simp [Below.heap_setCell, hj, Ne.symm hj]) (by simp [World.setCell]) ((((hb.set_ 0 _).set_ 1 _).set_ 2 _).set_ 3 _) ⟨rfl, rfl, rfl⟩ ((((hb.set_ 0 _).set_ 1 _).set_ 2 _).set_ 3 _)
      simp only [execOp, ev_tmp _ _ (show 2 < 34 by decide), ev_tmp _ _ (show 22 < 34 by decide), ev_const, q2, q22]
      simp [go_sem, c0, f0, c1, f1, c2, f2, c3, f3]
    · intro kk bb ff ww hkk hf hd hp hJ
      obtain ⟨p0, p1, p2, p3, -, -, -, -, -, -, -, -, -, -, p14, -⟩ := hd
      have q : FEq (.int .i64 (x7)) (ff 23) ww := p0 rfl
      exact si_val (ff 23) hJ (by simp only [execOp, ev_tmp _ _ (show 23 < 34 by decide)]; rfl) q
    · intro kk bb ff ww hkk hf hd hp hJ
      obtain ⟨p0, p1, p2, p3, p4, p5, p6, p7, p8, p9, p10, p11, p12, p13, p14, p15, -⟩ := hd
      have q : FInt (-1) (1000000) (ff 33) ww := p0 rfl
      exact si_val (ff 33) hJ (by simp only [execOp, ev_tmp _ _ (show 33 < 34 by decide)]; rfl) q
  intro ff w5 hf hd hJ
  have hfr : fr 34 ff = #[ff 0, ff 1, ff 2, ff 3, ff 4, ff 5, ff 6, ff 7, ff 8, ff 9, ff 10, ff 11, ff 12, ff 13, ff 14, ff 15, ff 16, ff 17, ff 18, ff 19, ff 20, ff 21, ff 22, ff 23, ff 24, ff 25, ff 26, ff 27, ff 28, ff 29, ff 30, ff 31, ff 32, ff 33] := rfl
  rw [hfr]; clear hfr
  dsimp only
  have q0_ := hf 0 (by decide)
  have q1_ := hf 1 (by decide)
  have q2_ := hf 2 (by decide)
  have q3_ : FEq (.int .i64 (x7)) (ff 3) w5 := hd 13 (by decide)
  unfold FEq at q3_
  have q4_ : FInt (-1) (1000000) (ff 4) w5 := hd 14 (by decide)
  obtain ⟨x4, q4_, xl4, xh4⟩ := q4_
  have q5_ := hf 5 (by decide)
  have q6_ := hf 6 (by decide)
  have q7_ := hf 7 (by decide)
  have q8_ := hf 8 (by decide)
  have q9_ := hf 9 (by decide)
  have q10_ := hf 10 (by decide)
  have q11_ := hf 11 (by decide)
  have q12_ := hf 12 (by decide)
  have q13_ := hf 13 (by decide)
  have q14_ := hf 14 (by decide)
  have q15_ := hf 15 (by decide)
  have q16_ := hf 16 (by decide)
  have q17_ := hf 17 (by decide)
  have q18_ := hf 18 (by decide)
  have q19_ := hf 19 (by decide)
  have q20_ := hf 20 (by decide)
  have q21_ := hf 21 (by decide)
  have q22_ : FEq (.agg #[.int .i64 a, .int .i64 d, .int .i64 s, .int .i64 r]) (ff 22) w5 := hd 0 (by decide)
  unfold FEq at q22_
  have q23_ : FEq (.int .i64 (x7)) (ff 23) w5 := hd 1 (by decide)
  unfold FEq at q23_
  have q24_ : FEq (.pointer (some ⟨w.heap.size + 1, 0, none⟩)) (ff 24) w5 := hd 2 (by decide)
  unfold FEq at q24_
  have q28_ : FEq (.pointer (some ⟨w.heap.size + 1, 0, none⟩)) (ff 28) w5 := hd 6 (by decide)
  unfold FEq at q28_
  simp only [Array.getD_eq_getD_getElem?, List.getElem?_toArray, List.getElem?_cons_zero, List.getElem?_cons_succ, Option.getD_some] at q0_ q1_ q2_ q5_ q6_ q7_ q8_ q9_ q10_ q11_ q12_ q13_ q14_ q15_ q16_ q17_ q18_ q19_ q20_ q21_
  have qb0_ : ∃ v, FBlk (w.heap.size, 28, #[.int .i64 a, .int .i64 d, .int .i64 s, .int .i64 r]) v w5 := hd 12 (by decide)
  obtain ⟨_, qb0_⟩ := qb0_
  have qb0_ : Blk w5 w.heap.size 28 #[.int .i64 a, .int .i64 d, .int .i64 s, .int .i64 r] := qb0_
  rw [q0_, q1_, q2_, q3_, q4_, q5_, q6_, q7_, q8_, q9_, q10_, q11_, q12_, q13_, q14_, q15_, q16_, q17_, q18_, q19_, q20_, q21_, q22_, q23_, q24_, q28_]
  clear q0_ q1_ q2_ q3_ q4_ q5_ q6_ q7_ q8_ q9_ q10_ q11_ q12_ q13_ q14_ q15_ q16_ q17_ q18_ q19_ q20_ q21_ q22_ q23_ q24_ q28_ hf hd
  generalize ff 25 = v25_
  generalize ff 26 = v26_
  generalize ff 27 = v27_
  generalize ff 29 = v29_
  generalize ff 30 = v30_
  generalize ff 31 = v31_
  generalize ff 32 = v32_
  generalize ff 33 = v33_
  clear ff
  have g_ := hJ.2.1
  have z_ := hJ.2.2.1
  have b0_ : Blk w5 w2.heap.size 28 #[.int .i64 a, .int .i64 d, .int .i64 s, .int .i64 r] := hJ.2.2.2.1 (w2.heap.size, 28, #[.int .i64 a, .int .i64 d, .int .i64 s, .int .i64 r]) (by simp)
  clear hJ hokX
  dsimp only at g_ z_
  replace HB := Lib.hid (below_of_only g_ (by omega)); clear g_ b0_
  obtain ⟨⟨c0, c1, c2, c3⟩, -⟩ := qb0_.c4
  clear qb0_
  go_wp2_with fail
  refine bodyPost_ret (v := .tuple #[.agg #[.int .i64 a, .int .i64 d, .int .i64 s, .int .i64 r], .int .i64 x7, .int .i64 x4]) (by simp [results, Try.results29, go_sem, c0, c1, c2, c3]) rfl ⟨_, _, _, _, _, _, rfl, h1, h2, h3, h4, by omega, by omega, HB.out⟩
end Go.Proofs.Ytijbciiocmdmmaa
