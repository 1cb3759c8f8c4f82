/- Contracts of the draws of EchoSamples and ToneSamples. No condition but bounds on the bytes. -/
import Derived.Test.YtijbciiocmdmmaaDrawS
import Derived.Test.YtijbciiocmdmmaaInv
import Derived.Deep.Cut
namespace Go.Proofs.Ytijbciiocmdmmaa
set_option linter.unusedVariables false
open Go.RowKit
set_option linter.unusedSimpArgs false
set_option maxRecDepth 100000 in
set_option maxHeartbeats 4000000 in
theorem spec_DrawEchoSamples (A : Option Addr) (c : Nat) (zs : List Int) (w : World) (hr : RdY w w.heap.size A zs) (hw : WfY zs) (hl : zs.length ≤ 1048576) (hc : zs.length ≤ c) :
    Calls Try.prog 36 #[.slice A zs.length c] w fun e w' => ∃ (A : Option Addr) (c : Nat) (zs : List Int) (b l : Int), e = .returned (.tuple #[.slice A zs.length c, .int .i64 b, .int .i64 l]) ∧ zs.length ≤ 201 ∧ WfS zs ∧ (0 ≤ b ∧ b ≤ 201) ∧ (-1 ≤ l ∧ l ≤ 1001) ∧ RdI w' w'.heap.size A zs ∧ Below w.heap.size w w' := by
  go_enter Try.func36, Try.ntmps36
  have HY := Lib.hid hr; clear hr
  go_wp2_with fail
  refine (spec_l20Open A c zs w HY.out hw hl hc).mono ?_
  rintro e w1 ⟨rfl, r_, b_, s_⟩
  have z1 := b_.size
  have hlt : w.heap.size < w1.heap.size := r_.lt
  have hne1 : ¬ w1.heap.size = w.heap.size := by omega
  have hnf1 : ¬ w1.heap.size + 1 = w.heap.size := by omega
  have hnh1 : ¬ w1.heap.size + 1 + 1 = w.heap.size := by omega
  have HR := Lib.hid r_
  have HB := Lib.hid b_
  have HG := Lib.hid (only_refl w1 (some w.heap.size))
  clear r_ b_ s_ HY
  go_wp2_with fail
  refine (spec_l20Samples w.heap.size 0 12 w1 HR.out (by omega) (by omega)).mono ?_
  rintro e w2 ⟨A2, c2, ys, rfl, hl2, hwf, hsm2, hrow, hr2, hg2⟩
  have z2 := hg2.size
  replace HB := Lib.hid (below_only HB.out hg2 (by omega) (Nat.le_refl _))
  replace HR := Lib.hid (hr2.more (show 0 + 50 ≤ 50 + 2 * 0 by omega))
  have HO := Lib.hid hrow
  clear hrow hr2 hg2
  go_upto_region 3 with (fail)
  have hokX : Cx.ok ⟨w.heap.size, 50, 2, w2.heap.size, w2, [], []⟩ := by
    refine ⟨by dsimp only; omega, ?_, ?_, ?_⟩ <;> simp <;> (try omega)
  refine region_draws rfl ⟨w.heap.size, 50, 2, w2.heap.size, w2, [], []⟩ 100 25 [some 11, some 12, some 13, some 14, some 15, some 16, some 17, some 18, some 19, some 20, some 21, some 22, some 23, some 24, some 2, some 3, some 4]
    [FEq (.slice A2 ys.length c2), FEq (.pointer (some ⟨w.heap.size, 0, none⟩)), FInt (0) (5), FInt (1) (6), FLit w2.heap.size 3 3 (0) (201), FLit w2.heap.size 3 6 (0) (2), FEq (.pointer (some ⟨w.heap.size, 0, none⟩)), FInt (0) (5), FAt w2.heap.size 3 (0) (2), FInt (0) (2), FAt w2.heap.size 3 (0) (201), FInt (0) (201), FEq (.pointer (some ⟨w.heap.size, 0, none⟩)), FInt (-1) (1001), FEq (.slice A2 ys.length c2), FInt (0) (201), FInt (-1) (1001)] (by kernel_rfl) (by kernel_rfl) ?_ ?_ ?_ ?_
  · exact stays_cons stay_eq (stays_cons stay_eq (stays_cons stay_int (stays_cons stay_int (stays_cons stay_lit (stays_cons stay_lit (stays_cons stay_eq (stays_cons stay_int (stays_cons stay_at (stays_cons stay_int (stays_cons stay_at (stays_cons stay_int (stays_cons stay_eq (stays_cons stay_int (stays_cons stay_eq (stays_cons stay_int (stays_cons stay_int stays_nil))))))))))))))))
  · exact ⟨fun _ => HR.out, only_refl _ _, Nat.le_refl _, by simp, by simp⟩
  · refine AllI.cons ?_ (AllI.cons ?_ (AllI.cons ?_ (AllI.cons ?_ (AllI.cons ?_ (AllI.cons ?_ (AllI.cons ?_ (AllI.cons ?_ (AllI.cons ?_ (AllI.cons ?_ (AllI.cons ?_ (AllI.cons ?_ (AllI.cons ?_ (AllI.cons ?_ (AllI.cons ?_ (AllI.cons ?_ (AllI.cons ?_ trivial))))))))))))))))
    · intro kk bb ff ww hkk hf hd hp hJ
      have q : FEq (.slice A2 ys.length c2) (ff 6) ww := (hf 6 (by decide)).trans rfl
      exact si_val (ff 6) hJ (by simp only [execOp, ev_tmp _ _ (show 6 < 25 by decide)]; rfl) q
    · intro kk bb ff ww hkk hf hd hp hJ
      have q : FEq (.pointer (some ⟨w.heap.size, 0, none⟩)) (ff 5) ww := (hf 5 (by decide)).trans rfl
      exact si_val (ff 5) hJ (by simp only [execOp, ev_tmp _ _ (show 5 < 25 by decide)]; rfl) q
    · intro kk bb ff ww hkk hf hd hp hJ
      obtain ⟨p0, -⟩ := hd
      have q12 : FEq (.pointer (some ⟨w.heap.size, 0, none⟩)) (ff 12) ww := p0 rfl
      unfold FEq at q12
      have hkk2 : kk < 17 := hkk
      refine si_enter 46 #[.pointer (some ⟨w.heap.size, 0, none⟩), .int .i64 (6)] hokX hJ (.inr (by simp)) ?_ ?_
      · simp only [execOp, ev_tmp _ _ (show 12 < 25 by decide), ev_const, q12, ev_func, resolve, List.map_toArray, List.map_cons, List.map_nil]
        simp [go_sem]
      · intro hrd
        dsimp only at hrd
        exact pk_post (l20_pk w.heap.size (50 + 2 * kk) 6 ww hrd (by omega) (by omega)) (by dsimp only; omega) (by omega)
    · intro kk bb ff ww hkk hf hd hp hJ
      obtain ⟨p0, -, -⟩ := hd
      have q13 : FInt (0) (5) (ff 13) ww := p0 rfl
      obtain ⟨z13, q13, zl13, zh13⟩ := q13
      have hwr : IntKind.i64.wrap ((1) + z13) = (1) + z13 := IntWalk.i64_in _ (by omega)
      refine si_val (.int .i64 ((1) + z13)) hJ ?_ ⟨_, rfl, by omega, by omega⟩
      simp only [execOp, ev_tmp _ _ (show 13 < 25 by decide), ev_const, q13]
      simp [go_sem, hwr]
    · intro kk bb ff ww hkk hf hd hp hJ
      obtain ⟨p0, -, -⟩ := hd
      have q14 : FInt (1) (6) (ff 14) ww := p0 rfl
      obtain ⟨z14, q14, zl14, zh14⟩ := q14
      refine si_alloc (.slice (some ⟨ww.heap.size, 0, none⟩) 3 3) (.cells #[.int .i64 z14, .int .i64 (0), .int .i64 (201)] 3) hJ ?_ ⟨_, _, rfl, Blk.new _ _ _, rfl, (fun k hk => by simp at hk; rcases k with _ | _ | _ | _ | _ | _ | _ | _ | k <;> first | exact ⟨_, rfl, by omega, by omega⟩ | exact ⟨_, rfl, by rw [IntWalk.i64_in _ (by omega)]; omega, by rw [IntWalk.i64_in _ (by omega)]; omega⟩ | omega), hJ.2.2.1⟩
      simp only [execOp, ev_tmp _ _ (show 14 < 25 by decide), ev_const, q14, List.map_toArray, List.map_cons, List.map_nil]
      simp [go_sem]
    · intro kk bb ff ww hkk hf hd hp hJ
      obtain ⟨-, -⟩ := hd
      refine si_alloc (.slice (some ⟨ww.heap.size, 0, none⟩) 6 6) (.cells #[.int .i64 (0), .int .i64 (0), .int .i64 (0), .int .i64 (0), .int .i64 (1), .int .i64 (2)] 3) hJ ?_ ⟨_, _, rfl, Blk.new _ _ _, rfl, (fun k hk => by simp at hk; rcases k with _ | _ | _ | _ | _ | _ | _ | _ | k <;> first | exact ⟨_, rfl, by omega, by omega⟩ | exact ⟨_, rfl, by rw [IntWalk.i64_in _ (by omega)]; omega, by rw [IntWalk.i64_in _ (by omega)]; omega⟩ | omega), hJ.2.2.1⟩
      simp only [execOp, ev_const, List.map_toArray, List.map_cons, List.map_nil]
      simp [go_sem]
    · intro kk bb ff ww hkk hf hd hp hJ
      have q : FEq (.pointer (some ⟨w.heap.size, 0, none⟩)) (ff 5) ww := (hf 5 (by decide)).trans rfl
      exact si_val (ff 5) hJ (by simp only [execOp, ev_tmp _ _ (show 5 < 25 by decide)]; rfl) q
    · intro kk bb ff ww hkk hf hd hp hJ
      obtain ⟨p0, p1, -⟩ := hd
      have q17 : FEq (.pointer (some ⟨w.heap.size, 0, none⟩)) (ff 17) ww := p0 rfl
      unfold FEq at q17
      have hkk2 : kk < 17 := hkk
      refine si_enter 46 #[.pointer (some ⟨w.heap.size, 0, none⟩), .int .i64 (6)] hokX hJ (.inr (by simp)) ?_ ?_
      · simp only [execOp, ev_tmp _ _ (show 17 < 25 by decide), ev_const, q17, ev_func, resolve, List.map_toArray, List.map_cons, List.map_nil]
        simp [go_sem]
      · intro hrd
        dsimp only at hrd
        exact pk_post (l20_pk w.heap.size (50 + 2 * kk) 6 ww hrd (by omega) (by omega)) (by dsimp only; omega) (by omega)
    · intro kk bb ff ww hkk hf hd hp hJ
      obtain ⟨p0, p1, -, -⟩ := hd
      have q16 : FLit w2.heap.size 3 6 (0) (2) (ff 16) ww := p0 rfl
      obtain ⟨b16, c16, q16, u16, n16, l16, v16⟩ := q16
      have q18 : FInt (0) (5) (ff 18) ww := p1 rfl
      obtain ⟨z18, q18, zl18, zh18⟩ := q18
      obtain ⟨j18, rfl⟩ : ∃ j : Nat, z18 = (j : Int) := ⟨z18.toNat, by omega⟩
      refine si_val (.pointer (some ⟨b16, j18, none⟩)) hJ ?_ ⟨b16, j18, c16, rfl, u16, by omega, l16, v16⟩
      simp only [execOp, ev_tmp _ _ (show 16 < 25 by decide), ev_tmp _ _ (show 18 < 25 by decide), ev_const, q16, q18]
      have hlt : (j18 : Int) < 6 := by omega
      simp [go_sem, hlt]
    · intro kk bb ff ww hkk hf hd hp hJ
      obtain ⟨p0, -, -⟩ := hd
      have q19 : FAt w2.heap.size 3 (0) (2) (ff 19) ww := p0 rfl
      obtain ⟨b19, k19, c19, q19, u19, n19, l19, v19⟩ := q19
      obtain ⟨y, hy, yl, yh⟩ := l19 k19 n19
      have hc := (u19.cell k19).trans hy
      refine si_val (.int .i64 y) hJ ?_ ⟨y, rfl, yl, yh⟩
      simp only [execOp, ev_tmp _ _ (show 19 < 25 by decide), ev_const, q19]
      simp [go_sem, hc]
    · intro kk bb ff ww hkk hf hd hp hJ
      obtain ⟨p0, p1, -, -⟩ := hd
      have q15 : FLit w2.heap.size 3 3 (0) (201) (ff 15) ww := p0 rfl
      obtain ⟨b15, c15, q15, u15, n15, l15, v15⟩ := q15
      have q20 : FInt (0) (2) (ff 20) ww := p1 rfl
      obtain ⟨z20, q20, zl20, zh20⟩ := q20
      obtain ⟨j20, rfl⟩ : ∃ j : Nat, z20 = (j : Int) := ⟨z20.toNat, by omega⟩
      refine si_val (.pointer (some ⟨b15, j20, none⟩)) hJ ?_ ⟨b15, j20, c15, rfl, u15, by omega, l15, v15⟩
      simp only [execOp, ev_tmp _ _ (show 15 < 25 by decide), ev_tmp _ _ (show 20 < 25 by decide), ev_const, q15, q20]
      have hlt : (j20 : Int) < 3 := by omega
      simp [go_sem, hlt]
    · intro kk bb ff ww hkk hf hd hp hJ
      obtain ⟨p0, -, -⟩ := hd
      have q21 : FAt w2.heap.size 3 (0) (201) (ff 21) ww := p0 rfl
      obtain ⟨b21, k21, c21, q21, u21, n21, l21, v21⟩ := q21
      obtain ⟨y, hy, yl, yh⟩ := l21 k21 n21
      have hc := (u21.cell k21).trans hy
      refine si_val (.int .i64 y) hJ ?_ ⟨y, rfl, yl, yh⟩
      simp only [execOp, ev_tmp _ _ (show 21 < 25 by decide), ev_const, q21]
      simp [go_sem, hc]
    · intro kk bb ff ww hkk hf hd hp hJ
      have q : FEq (.pointer (some ⟨w.heap.size, 0, none⟩)) (ff 5) ww := (hf 5 (by decide)).trans rfl
      exact si_val (ff 5) hJ (by simp only [execOp, ev_tmp _ _ (show 5 < 25 by decide)]; rfl) q
    · intro kk bb ff ww hkk hf hd hp hJ
      obtain ⟨p0, p1, -⟩ := hd
      have q23 : FEq (.pointer (some ⟨w.heap.size, 0, none⟩)) (ff 23) ww := p0 rfl
      unfold FEq at q23
      have hkk2 : kk < 17 := hkk
      refine si_enter 54 #[.pointer (some ⟨w.heap.size, 0, none⟩)] hokX hJ (.inr (by simp)) ?_ ?_
      · simp only [execOp, ev_tmp _ _ (show 23 < 25 by decide), ev_const, q23, ev_func, resolve, List.map_toArray, List.map_cons, List.map_nil]
        simp [go_sem]
      · intro hrd
        dsimp only at hrd
        exact lv_post (spec_l20Level w.heap.size (50 + 2 * kk) ww hrd (by omega)) (by dsimp only; omega)
    · intro kk bb ff ww hkk hf hd hp hJ
      obtain ⟨p0, p1, p2, -, -, -, -, -, -, -, -, -, -, -, -, -, -⟩ := hd
      have q : FEq (.slice A2 ys.length c2) (ff 11) ww := p0 rfl
      exact si_val (ff 11) hJ (by simp only [execOp, ev_tmp _ _ (show 11 < 25 by decide)]; rfl) q
    · intro kk bb ff ww hkk hf hd hp hJ
      obtain ⟨p0, p1, p2, p3, p4, p5, p6, p7, p8, p9, p10, p11, p12, p13, -, -, p16, -⟩ := hd
      have q : FInt (0) (201) (ff 22) ww := p0 rfl
      exact si_val (ff 22) hJ (by simp only [execOp, ev_tmp _ _ (show 22 < 25 by decide)]; rfl) q
    · intro kk bb ff ww hkk hf hd hp hJ
      obtain ⟨p0, p1, p2, p3, p4, p5, p6, p7, p8, p9, p10, p11, p12, p13, p14, p15, p16, p17, -⟩ := hd
      have q : FInt (-1) (1001) (ff 24) ww := p0 rfl
      exact si_val (ff 24) hJ (by simp only [execOp, ev_tmp _ _ (show 24 < 25 by decide)]; rfl) q
  intro ff w3 hf hd hJ
  have hfr : fr 25 ff = #[ff 0, ff 1, ff 2, ff 3, ff 4, ff 5, ff 6, ff 7, ff 8, ff 9, ff 10, ff 11, ff 12, ff 13, ff 14, ff 15, ff 16, ff 17, ff 18, ff 19, ff 20, ff 21, ff 22, ff 23, ff 24] := rfl
  rw [hfr]; clear hfr
  dsimp only
  have q0_ := hf 0 (by decide)
  have q1_ := hf 1 (by decide)
  have q2_ : FEq (.slice A2 ys.length c2) (ff 2) w3 := hd 14 (by decide)
  unfold FEq at q2_
  have q3_ : FInt (0) (201) (ff 3) w3 := hd 15 (by decide)
  obtain ⟨x3, q3_, xl3, xh3⟩ := q3_
  have q4_ : FInt (-1) (1001) (ff 4) w3 := hd 16 (by decide)
  obtain ⟨x4, q4_, xl4, xh4⟩ := q4_
  have q5_ := hf 5 (by decide)
  have q6_ := hf 6 (by decide)
  have q7_ := hf 7 (by decide)
  have q8_ := hf 8 (by decide)
  have q9_ := hf 9 (by decide)
  have q10_ := hf 10 (by decide)
  have q11_ : FEq (.slice A2 ys.length c2) (ff 11) w3 := hd 0 (by decide)
  unfold FEq at q11_
  have q12_ : FEq (.pointer (some ⟨w.heap.size, 0, none⟩)) (ff 12) w3 := hd 1 (by decide)
  unfold FEq at q12_
  have q17_ : FEq (.pointer (some ⟨w.heap.size, 0, none⟩)) (ff 17) w3 := hd 6 (by decide)
  unfold FEq at q17_
  have q23_ : FEq (.pointer (some ⟨w.heap.size, 0, none⟩)) (ff 23) w3 := hd 12 (by decide)
  unfold FEq at q23_
  simp only [Array.getD_eq_getD_getElem?, List.getElem?_toArray, List.getElem?_cons_zero, List.getElem?_cons_succ, Option.getD_some] at q0_ q1_ q5_ q6_ q7_ q8_ q9_ q10_
  rw [q0_, q1_, q2_, q3_, q4_, q5_, q6_, q7_, q8_, q9_, q10_, q11_, q12_, q17_, q23_]
  clear q0_ q1_ q2_ q3_ q4_ q5_ q6_ q7_ q8_ q9_ q10_ q11_ q12_ q17_ q23_ hf hd
  generalize ff 13 = v13_
  generalize ff 14 = v14_
  generalize ff 15 = v15_
  generalize ff 16 = v16_
  generalize ff 18 = v18_
  generalize ff 19 = v19_
  generalize ff 20 = v20_
  generalize ff 21 = v21_
  generalize ff 22 = v22_
  generalize ff 24 = v24_
  clear ff
  have r_ := hJ.1 (.inr (by simp))
  have g_ := hJ.2.1
  have z_ := hJ.2.2.1
  clear hJ hokX
  dsimp only at g_ z_ r_
  replace HB := Lib.hid (below_only HB.out g_ (by omega) (Nat.le_refl _))
  replace HO := Lib.hid (HO.out.only g_ (by omega))
  clear g_
  go_wp2_with fail
  go_ret3
  exact ⟨A2, c2, ys, _, _, rfl, hl2, hwf, ⟨xl3, xh3⟩, ⟨xl4, xh4⟩, RdI.more HO.out.rdI (by omega), HB.out⟩
set_option maxRecDepth 100000 in
set_option maxHeartbeats 4000000 in
theorem spec_DrawToneSamples (A : Option Addr) (c : Nat) (zs : List Int) (w : World) (hr : RdY w w.heap.size A zs) (hw : WfY zs) (hl : zs.length ≤ 1048576) (hc : zs.length ≤ c) :
    Calls Try.prog 42 #[.slice A zs.length c] w fun e w' => ∃ y f a d s r h m : Int, e = .returned (.tuple #[.int .i64 y, .int .i64 f, .agg #[.int .i64 a, .int .i64 d, .int .i64 s, .int .i64 r], .int .i64 h, .int .i64 m]) ∧ (-1 ≤ y ∧ y ≤ 108) ∧ (-1 ≤ f ∧ f ≤ 3) ∧ (-1 ≤ a ∧ a ≤ 10001) ∧ (-1 ≤ d ∧ d ≤ 10001) ∧ (-1 ≤ s ∧ s ≤ 10001) ∧ (-1 ≤ r ∧ r ≤ 10001) ∧ (-1 ≤ h ∧ h ≤ 29) ∧ (0 ≤ m ∧ m ≤ 201) ∧ Below w.heap.size w w' := by
  go_enter Try.func42, Try.ntmps42
  have HY := Lib.hid (fun o => RdY.alloc1 hr o); clear hr
  go_wp2_with fail
  refine (spec_l20Open A c zs _ (by exact HY.out _) hw hl hc).mono ?_
  rintro e w1 ⟨rfl, r_, b_, s_⟩
  have HK := Lib.hid ((Blk.new w _ _).below b_ (by simp))
  have HB := Lib.hid (((Below.refl w.heap.size w).alloc (Nat.le_refl _) _).trans (b_.mono (by simp)))
  simp only [World.size_alloc] at r_ b_ s_
  have z1 : w.heap.size + 2 ≤ w1.heap.size := (by omega)
  have hne1 : ¬ w1.heap.size = w.heap.size + 1 := by omega
  have hnf1 : ¬ w1.heap.size + 1 = w.heap.size + 1 := by omega
  have HR := Lib.hid r_
  have HG := Lib.hid (only_refl w1 (some (w.heap.size + 1)))
  clear r_ b_ s_ HY
  go_wp2_with fail
  refine (spec_l20Shape (w.heap.size + 1) 0 14 w1 HR.out (by omega) (by omega)).mono ?_
  rintro e w2 ⟨a, d, s, r, rfl, h1, h2, h3, h4, hr2, g2⟩
  have z2 := g2.size
  replace HK := Lib.hid ((HK.out.only g2 (by omega)).alloc (.cells #[.int .i64 a, .int .i64 d, .int .i64 s, .int .i64 r] 28))
  replace HB := Lib.hid ((below_only HB.out g2 (by omega) (by omega)).alloc (by omega) (.cells #[.int .i64 a, .int .i64 d, .int .i64 s, .int .i64 r] 28))
  replace HR := Lib.hid ((hr2.more (show 0 + 7 ≤ 7 + 1 * 0 by omega)).alloc1 (.cells #[.int .i64 a, .int .i64 d, .int .i64 s, .int .i64 r] 28))
  have HS := Lib.hid (Blk.new w2 28 #[.int .i64 a, .int .i64 d, .int .i64 s, .int .i64 r])
  clear hr2 g2
  have hlt : w.heap.size + 1 < w2.heap.size := by omega
  go_upto_region 3 with (fail)
  have zz : w2.heap.size + 1 ≤ (w2.alloc (.cells #[.int .i64 a, .int .i64 d, .int .i64 s, .int .i64 r] 28)).heap.size := by simp
  generalize w2.alloc (.cells #[.int .i64 a, .int .i64 d, .int .i64 s, .int .i64 r] 28) = w3 at *
  have hokX : Cx.ok ⟨(w.heap.size + 1), 7, 1, w3.heap.size, w, [(w2.heap.size, 28, #[.int .i64 a, .int .i64 d, .int .i64 s, .int .i64 r])], [(w.heap.size, 28, #[.int .i64 a, .int .i64 d, .int .i64 s, .int .i64 r])]⟩ := by
    refine ⟨by dsimp only; omega, ?_, ?_, ?_⟩ <;> simp <;> (try omega)
  refine region_draws rfl ⟨(w.heap.size + 1), 7, 1, w3.heap.size, w, [(w2.heap.size, 28, #[.int .i64 a, .int .i64 d, .int .i64 s, .int .i64 r])], [(w.heap.size, 28, #[.int .i64 a, .int .i64 d, .int .i64 s, .int .i64 r])]⟩ 28 39 [some 13, some 14, some 15, some 16, some 17, some 18, some 19, some 20, some 21, some 22, some 23, some 24, some 25, some 26, some 27, some 28, some 29, some 30, some 31, some 32, some 33, some 34, some 35, some 36, some 37, some 38, some 2, some 3, none, some 5, some 6]
    [FEq (.pointer (some ⟨w.heap.size + 1, 0, none⟩)), FInt (0) (109), FInt (-1) (108), FEq (.pointer (some ⟨w.heap.size + 1, 0, none⟩)), FInt (0) (3), FEq (.pointer (some ⟨w.heap.size + 1, 0, none⟩)), FInt (0) (8), FInt (0) (1), FInt (-1) (3), FEq (.agg #[.int .i64 a, .int .i64 d, .int .i64 s, .int .i64 r]), FEq (.pointer (some ⟨w.heap.size + 1, 0, none⟩)), FInt (0) (29), FEq (.pointer (some ⟨w.heap.size + 1, 0, none⟩)), FInt (0) (8), FInt (0) (1), FInt (-1) (29), FEq (.pointer (some ⟨w.heap.size + 1, 0, none⟩)), FInt (0) (39), FLit w3.heap.size 3 3 (0) (201), FLit w3.heap.size 3 6 (0) (2), FEq (.pointer (some ⟨w.heap.size + 1, 0, none⟩)), FInt (0) (5), FAt w3.heap.size 3 (0) (2), FInt (0) (2), FAt w3.heap.size 3 (0) (201), FInt (0) (201), FInt (-1) (108), FInt (-1) (3), FBlk (w.heap.size, 28, #[.int .i64 a, .int .i64 d, .int .i64 s, .int .i64 r]), FInt (-1) (29), FInt (0) (201)] (by kernel_rfl) (by kernel_rfl) ?_ ?_ ?_ ?_
  · exact stays_cons stay_eq (stays_cons stay_int (stays_cons stay_int (stays_cons stay_eq (stays_cons stay_int (stays_cons stay_eq (stays_cons stay_int (stays_cons stay_int (stays_cons stay_int (stays_cons stay_eq (stays_cons stay_eq (stays_cons stay_int (stays_cons stay_eq (stays_cons stay_int (stays_cons stay_int (stays_cons stay_int (stays_cons stay_eq (stays_cons stay_int (stays_cons stay_lit (stays_cons stay_lit (stays_cons stay_eq (stays_cons stay_int (stays_cons stay_at (stays_cons stay_int (stays_cons stay_at (stays_cons stay_int (stays_cons stay_int (stays_cons stay_int (stays_cons (stay_blk (by simp)) (stays_cons stay_int (stays_cons stay_int stays_nil))))))))))))))))))))))))))))))
  · exact ⟨fun _ => HR.out, only_of_below HB.out _, Nat.le_refl _, by simp; exact HS.out, by simp; exact ⟨_, HK.out, rfl⟩⟩
  · refine AllI.cons ?_ (AllI.cons ?_ (AllI.cons ?_ (AllI.cons ?_ (AllI.cons ?_ (AllI.cons ?_ (AllI.cons ?_ (AllI.cons ?_ (AllI.cons ?_ (AllI.cons ?_ (AllI.cons ?_ (AllI.cons ?_ (AllI.cons ?_ (AllI.cons ?_ (AllI.cons ?_ (AllI.cons ?_ (AllI.cons ?_ (AllI.cons ?_ (AllI.cons ?_ (AllI.cons ?_ (AllI.cons ?_ (AllI.cons ?_ (AllI.cons ?_ (AllI.cons ?_ (AllI.cons ?_ (AllI.cons ?_ (AllI.cons ?_ (AllI.cons ?_ (AllI.cons ?_ (AllI.cons ?_ (AllI.cons ?_ trivial))))))))))))))))))))))))))))))
    · intro kk bb ff ww hkk hf hd hp hJ
      have q : FEq (.pointer (some ⟨w.heap.size + 1, 0, none⟩)) (ff 7) ww := (hf 7 (by decide)).trans rfl
      exact si_val (ff 7) hJ (by simp only [execOp, ev_tmp _ _ (show 7 < 39 by decide)]; rfl) q
    · intro kk bb ff ww hkk hf hd hp hJ
      obtain ⟨p0, -⟩ := hd
      have q13 : FEq (.pointer (some ⟨w.heap.size + 1, 0, none⟩)) (ff 13) ww := p0 rfl
      unfold FEq at q13
      have hkk2 : kk < 31 := hkk
      refine si_enter 46 #[.pointer (some ⟨w.heap.size + 1, 0, none⟩), .int .i64 (110)] hokX hJ (.inl (hp [] (by kernel_rfl))) ?_ ?_
      · simp only [execOp, ev_tmp _ _ (show 13 < 39 by decide), ev_const, q13, ev_func, resolve, List.map_toArray, List.map_cons, List.map_nil]
        simp [go_sem]
      · intro hrd
        dsimp only at hrd
        exact pk_post (l20_pk (w.heap.size + 1) (7 + 1 * kk) 110 ww hrd (by omega) (by omega)) (by dsimp only; omega) (by omega)
    · intro kk bb ff ww hkk hf hd hp hJ
      obtain ⟨p0, -⟩ := hd
      have q14 : FInt (0) (109) (ff 14) ww := p0 rfl
      obtain ⟨z14, q14, zl14, zh14⟩ := q14
      have hwr : IntKind.i64.wrap (z14 - (1)) = z14 - (1) := IntWalk.i64_in _ (by omega)
      refine si_val (.int .i64 (z14 - (1))) hJ ?_ ⟨_, rfl, by omega, by omega⟩
      simp only [execOp, ev_tmp _ _ (show 14 < 39 by decide), ev_const, q14]
      simp [go_sem, hwr]
    · intro kk bb ff ww hkk hf hd hp hJ
      have q : FEq (.pointer (some ⟨w.heap.size + 1, 0, none⟩)) (ff 7) ww := (hf 7 (by decide)).trans rfl
      exact si_val (ff 7) hJ (by simp only [execOp, ev_tmp _ _ (show 7 < 39 by decide)]; rfl) q
    · intro kk bb ff ww hkk hf hd hp hJ
      obtain ⟨p0, p1, -⟩ := hd
      have q16 : FEq (.pointer (some ⟨w.heap.size + 1, 0, none⟩)) (ff 16) ww := p0 rfl
      unfold FEq at q16
      have hkk2 : kk < 31 := hkk
      refine si_enter 46 #[.pointer (some ⟨w.heap.size + 1, 0, none⟩), .int .i64 (4)] hokX hJ (.inl (hp [] (by kernel_rfl))) ?_ ?_
      · simp only [execOp, ev_tmp _ _ (show 16 < 39 by decide), ev_const, q16, ev_func, resolve, List.map_toArray, List.map_cons, List.map_nil]
        simp [go_sem]
      · intro hrd
        dsimp only at hrd
        exact pk_post (l20_pk (w.heap.size + 1) (7 + 1 * kk) 4 ww hrd (by omega) (by omega)) (by dsimp only; omega) (by omega)
    · intro kk bb ff ww hkk hf hd hp hJ
      have q : FEq (.pointer (some ⟨w.heap.size + 1, 0, none⟩)) (ff 7) ww := (hf 7 (by decide)).trans rfl
      exact si_val (ff 7) hJ (by simp only [execOp, ev_tmp _ _ (show 7 < 39 by decide)]; rfl) q
    · intro kk bb ff ww hkk hf hd hp hJ
      obtain ⟨p0, p1, -⟩ := hd
      have q18 : FEq (.pointer (some ⟨w.heap.size + 1, 0, none⟩)) (ff 18) ww := p0 rfl
      unfold FEq at q18
      have hkk2 : kk < 31 := hkk
      refine si_enter 46 #[.pointer (some ⟨w.heap.size + 1, 0, none⟩), .int .i64 (9)] hokX hJ (.inl (hp [] (by kernel_rfl))) ?_ ?_
      · simp only [execOp, ev_tmp _ _ (show 18 < 39 by decide), ev_const, q18, ev_func, resolve, List.map_toArray, List.map_cons, List.map_nil]
        simp [go_sem]
      · intro hrd
        dsimp only at hrd
        exact pk_post (l20_pk (w.heap.size + 1) (7 + 1 * kk) 9 ww hrd (by omega) (by omega)) (by dsimp only; omega) (by omega)
    · intro kk bb ff ww hkk hf hd hp hJ
      obtain ⟨p0, -, -⟩ := hd
      have q19 : FInt (0) (8) (ff 19) ww := p0 rfl
      obtain ⟨z19, q19, zl19, zh19⟩ := q19
      have hwr : IntKind.i64.wrap (z19 / (8)) = z19 / (8) := IntWalk.i64_in _ (by omega)
      have htd : (z19).tdiv (8) = z19 / (8) := Int.tdiv_eq_ediv_of_nonneg (by omega)
      refine si_val (.int .i64 (z19 / (8))) hJ ?_ ⟨_, rfl, by omega, by omega⟩
      simp only [execOp, ev_tmp _ _ (show 19 < 39 by decide), ev_const, q19]
      simp [go_sem, hwr, htd]
    · intro kk bb ff ww hkk hf hd hp hJ
      obtain ⟨p0, p1, -, -⟩ := hd
      have q17 : FInt (0) (3) (ff 17) ww := p0 rfl
      obtain ⟨z17, q17, zl17, zh17⟩ := q17
      have q20 : FInt (0) (1) (ff 20) ww := p1 rfl
      obtain ⟨z20, q20, zl20, zh20⟩ := q20
      have hwr : IntKind.i64.wrap (z17 - z20) = z17 - z20 := IntWalk.i64_in _ (by omega)
      refine si_val (.int .i64 (z17 - z20)) hJ ?_ ⟨_, rfl, by omega, by omega⟩
      simp only [execOp, ev_tmp _ _ (show 17 < 39 by decide), ev_tmp _ _ (show 20 < 39 by decide), ev_const, q17, q20]
      simp [go_sem, hwr]
    · intro kk bb ff ww hkk hf hd hp hJ
      obtain ⟨-, -⟩ := hd
      have q8 : FEq (.pointer (some ⟨w2.heap.size, 0, none⟩)) (ff 8) ww := (hf 8 (by decide)).trans rfl
      unfold FEq at q8
      have hb : Blk ww w2.heap.size 28 #[.int .i64 a, .int .i64 d, .int .i64 s, .int .i64 r] := hJ.2.2.2.1 (w2.heap.size, 28, #[.int .i64 a, .int .i64 d, .int .i64 s, .int .i64 r]) (by simp)
      have c0 : ww.cell? ⟨w2.heap.size, 0, none⟩ = some (.int .i64 a) := hb.cell 0
      have c1 : ww.cell? ⟨w2.heap.size, 1, none⟩ = some (.int .i64 d) := hb.cell 1
      have c2 : ww.cell? ⟨w2.heap.size, 2, none⟩ = some (.int .i64 s) := hb.cell 2
      have c3 : ww.cell? ⟨w2.heap.size, 3, none⟩ = some (.int .i64 r) := hb.cell 3
      refine si_val (.agg #[.int .i64 a, .int .i64 d, .int .i64 s, .int .i64 r]) hJ ?_ rfl
      simp only [execOp, ev_tmp _ _ (show 8 < 39 by decide), ev_const, q8]
      simp [go_sem, c0, c1, c2, c3]
    · intro kk bb ff ww hkk hf hd hp hJ
      have q : FEq (.pointer (some ⟨w.heap.size + 1, 0, none⟩)) (ff 7) ww := (hf 7 (by decide)).trans rfl
      exact si_val (ff 7) hJ (by simp only [execOp, ev_tmp _ _ (show 7 < 39 by decide)]; rfl) q
    · intro kk bb ff ww hkk hf hd hp hJ
      obtain ⟨p0, p1, -⟩ := hd
      have q23 : FEq (.pointer (some ⟨w.heap.size + 1, 0, none⟩)) (ff 23) ww := p0 rfl
      unfold FEq at q23
      have hkk2 : kk < 31 := hkk
      refine si_enter 46 #[.pointer (some ⟨w.heap.size + 1, 0, none⟩), .int .i64 (30)] hokX hJ (.inl (hp [26, 21, 17, 13] (by kernel_rfl))) ?_ ?_
      · simp only [execOp, ev_tmp _ _ (show 23 < 39 by decide), ev_const, q23, ev_func, resolve, List.map_toArray, List.map_cons, List.map_nil]
        simp [go_sem]
      · intro hrd
        dsimp only at hrd
        exact pk_post (l20_pk (w.heap.size + 1) (7 + 1 * kk) 30 ww hrd (by omega) (by omega)) (by dsimp only; omega) (by omega)
    · intro kk bb ff ww hkk hf hd hp hJ
      have q : FEq (.pointer (some ⟨w.heap.size + 1, 0, none⟩)) (ff 7) ww := (hf 7 (by decide)).trans rfl
      exact si_val (ff 7) hJ (by simp only [execOp, ev_tmp _ _ (show 7 < 39 by decide)]; rfl) q
    · intro kk bb ff ww hkk hf hd hp hJ
      obtain ⟨p0, p1, -⟩ := hd
      have q25 : FEq (.pointer (some ⟨w.heap.size + 1, 0, none⟩)) (ff 25) ww := p0 rfl
      unfold FEq at q25
      have hkk2 : kk < 31 := hkk
      refine si_enter 46 #[.pointer (some ⟨w.heap.size + 1, 0, none⟩), .int .i64 (9)] hokX hJ (.inl (hp [26, 21, 17] (by kernel_rfl))) ?_ ?_
      · simp only [execOp, ev_tmp _ _ (show 25 < 39 by decide), ev_const, q25, ev_func, resolve, List.map_toArray, List.map_cons, List.map_nil]
        simp [go_sem]
      · intro hrd
        dsimp only at hrd
        exact pk_post (l20_pk (w.heap.size + 1) (7 + 1 * kk) 9 ww hrd (by omega) (by omega)) (by dsimp only; omega) (by omega)
    · intro kk bb ff ww hkk hf hd hp hJ
      obtain ⟨p0, -, -⟩ := hd
      have q26 : FInt (0) (8) (ff 26) ww := p0 rfl
      obtain ⟨z26, q26, zl26, zh26⟩ := q26
      have hwr : IntKind.i64.wrap (z26 / (8)) = z26 / (8) := IntWalk.i64_in _ (by omega)
      have htd : (z26).tdiv (8) = z26 / (8) := Int.tdiv_eq_ediv_of_nonneg (by omega)
      refine si_val (.int .i64 (z26 / (8))) hJ ?_ ⟨_, rfl, by omega, by omega⟩
      simp only [execOp, ev_tmp _ _ (show 26 < 39 by decide), ev_const, q26]
      simp [go_sem, hwr, htd]
    · intro kk bb ff ww hkk hf hd hp hJ
      obtain ⟨p0, p1, -, -⟩ := hd
      have q24 : FInt (0) (29) (ff 24) ww := p0 rfl
      obtain ⟨z24, q24, zl24, zh24⟩ := q24
      have q27 : FInt (0) (1) (ff 27) ww := p1 rfl
      obtain ⟨z27, q27, zl27, zh27⟩ := q27
      have hwr : IntKind.i64.wrap (z24 - z27) = z24 - z27 := IntWalk.i64_in _ (by omega)
      refine si_val (.int .i64 (z24 - z27)) hJ ?_ ⟨_, rfl, by omega, by omega⟩
      simp only [execOp, ev_tmp _ _ (show 24 < 39 by decide), ev_tmp _ _ (show 27 < 39 by decide), ev_const, q24, q27]
      simp [go_sem, hwr]
    · intro kk bb ff ww hkk hf hd hp hJ
      have q : FEq (.pointer (some ⟨w.heap.size + 1, 0, none⟩)) (ff 7) ww := (hf 7 (by decide)).trans rfl
      exact si_val (ff 7) hJ (by simp only [execOp, ev_tmp _ _ (show 7 < 39 by decide)]; rfl) q
    · intro kk bb ff ww hkk hf hd hp hJ
      obtain ⟨p0, p1, -⟩ := hd
      have q29 : FEq (.pointer (some ⟨w.heap.size + 1, 0, none⟩)) (ff 29) ww := p0 rfl
      unfold FEq at q29
      have hkk2 : kk < 31 := hkk
      refine si_enter 46 #[.pointer (some ⟨w.heap.size + 1, 0, none⟩), .int .i64 (40)] hokX hJ (.inl (hp [26, 21] (by kernel_rfl))) ?_ ?_
      · simp only [execOp, ev_tmp _ _ (show 29 < 39 by decide), ev_const, q29, ev_func, resolve, List.map_toArray, List.map_cons, List.map_nil]
        simp [go_sem]
      · intro hrd
        dsimp only at hrd
        exact pk_post (l20_pk (w.heap.size + 1) (7 + 1 * kk) 40 ww hrd (by omega) (by omega)) (by dsimp only; omega) (by omega)
    · intro kk bb ff ww hkk hf hd hp hJ
      obtain ⟨p0, -, -⟩ := hd
      have q30 : FInt (0) (39) (ff 30) ww := p0 rfl
      obtain ⟨z30, q30, zl30, zh30⟩ := q30
      refine si_alloc (.slice (some ⟨ww.heap.size, 0, none⟩) 3 3) (.cells #[.int .i64 z30, .int .i64 (200), .int .i64 (201)] 3) hJ ?_ ⟨_, _, rfl, Blk.new _ _ _, rfl, (fun k hk => by simp at hk; rcases k with _ | _ | _ | _ | _ | _ | _ | _ | k <;> first | exact ⟨_, rfl, by omega, by omega⟩ | exact ⟨_, rfl, by rw [IntWalk.i64_in _ (by omega)]; omega, by rw [IntWalk.i64_in _ (by omega)]; omega⟩ | omega), hJ.2.2.1⟩
      simp only [execOp, ev_tmp _ _ (show 30 < 39 by decide), ev_const, q30, List.map_toArray, List.map_cons, List.map_nil]
      simp [go_sem]
    · intro kk bb ff ww hkk hf hd hp hJ
      obtain ⟨-, -⟩ := hd
      refine si_alloc (.slice (some ⟨ww.heap.size, 0, none⟩) 6 6) (.cells #[.int .i64 (0), .int .i64 (0), .int .i64 (0), .int .i64 (0), .int .i64 (1), .int .i64 (2)] 3) hJ ?_ ⟨_, _, rfl, Blk.new _ _ _, rfl, (fun k hk => by simp at hk; rcases k with _ | _ | _ | _ | _ | _ | _ | _ | k <;> first | exact ⟨_, rfl, by omega, by omega⟩ | exact ⟨_, rfl, by rw [IntWalk.i64_in _ (by omega)]; omega, by rw [IntWalk.i64_in _ (by omega)]; omega⟩ | omega), hJ.2.2.1⟩
      simp only [execOp, ev_const, List.map_toArray, List.map_cons, List.map_nil]
      simp [go_sem]
    · intro kk bb ff ww hkk hf hd hp hJ
      have q : FEq (.pointer (some ⟨w.heap.size + 1, 0, none⟩)) (ff 7) ww := (hf 7 (by decide)).trans rfl
      exact si_val (ff 7) hJ (by simp only [execOp, ev_tmp _ _ (show 7 < 39 by decide)]; rfl) q
    · intro kk bb ff ww hkk hf hd hp hJ
      obtain ⟨p0, p1, -⟩ := hd
      have q33 : FEq (.pointer (some ⟨w.heap.size + 1, 0, none⟩)) (ff 33) ww := p0 rfl
      unfold FEq at q33
      have hkk2 : kk < 31 := hkk
      refine si_enter 46 #[.pointer (some ⟨w.heap.size + 1, 0, none⟩), .int .i64 (6)] hokX hJ (.inl (hp [26] (by kernel_rfl))) ?_ ?_
      · simp only [execOp, ev_tmp _ _ (show 33 < 39 by decide), ev_const, q33, ev_func, resolve, List.map_toArray, List.map_cons, List.map_nil]
        simp [go_sem]
      · intro hrd
        dsimp only at hrd
        exact pk_post (l20_pk (w.heap.size + 1) (7 + 1 * kk) 6 ww hrd (by omega) (by omega)) (by dsimp only; omega) (by omega)
    · intro kk bb ff ww hkk hf hd hp hJ
      obtain ⟨p0, p1, -, -⟩ := hd
      have q32 : FLit w3.heap.size 3 6 (0) (2) (ff 32) ww := p0 rfl
      obtain ⟨b32, c32, q32, u32, n32, l32, v32⟩ := q32
      have q34 : FInt (0) (5) (ff 34) ww := p1 rfl
      obtain ⟨z34, q34, zl34, zh34⟩ := q34
      obtain ⟨j34, rfl⟩ : ∃ j : Nat, z34 = (j : Int) := ⟨z34.toNat, by omega⟩
      refine si_val (.pointer (some ⟨b32, j34, none⟩)) hJ ?_ ⟨b32, j34, c32, rfl, u32, by omega, l32, v32⟩
      simp only [execOp, ev_tmp _ _ (show 32 < 39 by decide), ev_tmp _ _ (show 34 < 39 by decide), ev_const, q32, q34]
      have hlt : (j34 : Int) < 6 := by omega
      simp [go_sem, hlt]
    · intro kk bb ff ww hkk hf hd hp hJ
      obtain ⟨p0, -, -⟩ := hd
      have q35 : FAt w3.heap.size 3 (0) (2) (ff 35) ww := p0 rfl
      obtain ⟨b35, k35, c35, q35, u35, n35, l35, v35⟩ := q35
      obtain ⟨y, hy, yl, yh⟩ := l35 k35 n35
      have hc := (u35.cell k35).trans hy
      refine si_val (.int .i64 y) hJ ?_ ⟨y, rfl, yl, yh⟩
      simp only [execOp, ev_tmp _ _ (show 35 < 39 by decide), ev_const, q35]
      simp [go_sem, hc]
    · intro kk bb ff ww hkk hf hd hp hJ
      obtain ⟨p0, p1, -, -⟩ := hd
      have q31 : FLit w3.heap.size 3 3 (0) (201) (ff 31) ww := p0 rfl
      obtain ⟨b31, c31, q31, u31, n31, l31, v31⟩ := q31
      have q36 : FInt (0) (2) (ff 36) ww := p1 rfl
      obtain ⟨z36, q36, zl36, zh36⟩ := q36
      obtain ⟨j36, rfl⟩ : ∃ j : Nat, z36 = (j : Int) := ⟨z36.toNat, by omega⟩
      refine si_val (.pointer (some ⟨b31, j36, none⟩)) hJ ?_ ⟨b31, j36, c31, rfl, u31, by omega, l31, v31⟩
      simp only [execOp, ev_tmp _ _ (show 31 < 39 by decide), ev_tmp _ _ (show 36 < 39 by decide), ev_const, q31, q36]
      have hlt : (j36 : Int) < 3 := by omega
      simp [go_sem, hlt]
    · intro kk bb ff ww hkk hf hd hp hJ
      obtain ⟨p0, -, -⟩ := hd
      have q37 : FAt w3.heap.size 3 (0) (201) (ff 37) ww := p0 rfl
      obtain ⟨b37, k37, c37, q37, u37, n37, l37, v37⟩ := q37
      obtain ⟨y, hy, yl, yh⟩ := l37 k37 n37
      have hc := (u37.cell k37).trans hy
      refine si_val (.int .i64 y) hJ ?_ ⟨y, rfl, yl, yh⟩
      simp only [execOp, ev_tmp _ _ (show 37 < 39 by decide), ev_const, q37]
      simp [go_sem, hc]
    · intro kk bb ff ww hkk hf hd hp hJ
      obtain ⟨p0, p1, p2, p3, p4, -, -, -, -, -, -, -, -, -, -, -, -, -, -, -, -, -, -, -, -, -, -, -, -⟩ := hd
      have q : FInt (-1) (108) (ff 15) ww := p0 rfl
      exact si_val (ff 15) hJ (by simp only [execOp, ev_tmp _ _ (show 15 < 39 by decide)]; rfl) q
    · intro kk bb ff ww hkk hf hd hp hJ
      obtain ⟨p0, p1, p2, p3, p4, p5, p6, p7, p8, p9, p10, -, -, -, -, -, -, -, -, -, -, -, -, -, -, -, -, -, p28, -⟩ := hd
      have q : FInt (-1) (3) (ff 21) ww := p0 rfl
      exact si_val (ff 21) hJ (by simp only [execOp, ev_tmp _ _ (show 21 < 39 by decide)]; rfl) q
    · intro kk bb ff ww hkk hf hd hp hJ
      obtain ⟨p0, p1, p2, p3, p4, p5, p6, p7, p8, p9, p10, p11, -, -, -, -, -, -, -, -, -, -, -, -, -, -, -, -, p28, p29, -⟩ := hd
      have q4 : FEq (.pointer (some ⟨w.heap.size, 0, none⟩)) (ff 4) ww := (hf 4 (by decide)).trans rfl
      unfold FEq at q4
      have q22 : FEq (.agg #[.int .i64 a, .int .i64 d, .int .i64 s, .int .i64 r]) (ff 22) ww := p0 rfl
      unfold FEq at q22
      obtain ⟨cs, hb, hsz⟩ := hJ.2.2.2.2 (w.heap.size, 28, #[.int .i64 a, .int .i64 d, .int .i64 s, .int .i64 r]) (by simp)
      dsimp only at hb hsz
      obtain ⟨d0, d1, d2, d3, rfl⟩ := arr4 (by simpa using hsz)
      have c0 : ww.cell? ⟨w.heap.size, 0, none⟩ = some d0 := hb.cell 0
      have f0 := hb.frozen 0
      have c1 : ww.cell? ⟨w.heap.size, 1, none⟩ = some d1 := hb.cell 1
      have f1 := hb.frozen 1
      have c2 : ww.cell? ⟨w.heap.size, 2, none⟩ = some d2 := hb.cell 2
      have f2 := hb.frozen 2
      have c3 : ww.cell? ⟨w.heap.size, 3, none⟩ = some d3 := hb.cell 3
      have f3 := hb.frozen 3
      refine si_store (w.heap.size, 28, #[.int .i64 a, .int .i64 d, .int .i64 s, .int .i64 r]) (by simp) ((((ww.setCell ⟨w.heap.size, 0, none⟩ (.int .i64 a)).setCell ⟨w.heap.size, 1, none⟩ (.int .i64 d)).setCell ⟨w.heap.size, 2, none⟩ (.int .i64 s)).setCell ⟨w.heap.size, 3, none⟩ (.int .i64 r)) hokX hJ ?_ (fun j hj => by simp [Below.heap_setCell, hj, Ne.symm hj]) (by simp [World.setCell]) ((((hb.set_ 0 _).set_ 1 _).set_ 2 _).set_ 3 _) ⟨rfl, rfl, rfl⟩ ((((hb.set_ 0 _).set_ 1 _).set_ 2 _).set_ 3 _)
      simp only [execOp, ev_tmp _ _ (show 4 < 39 by decide), ev_tmp _ _ (show 22 < 39 by decide), ev_const, q4, q22]
      simp [go_sem, c0, f0, c1, f1, c2, f2, c3, f3]
    · intro kk bb ff ww hkk hf hd hp hJ
      obtain ⟨p0, p1, p2, p3, p4, p5, p6, p7, p8, p9, p10, p11, p12, p13, p14, p15, p16, p17, -, -, -, -, -, -, -, -, -, -, p28, p29, p30, -⟩ := hd
      have q : FInt (-1) (29) (ff 28) ww := p0 rfl
      exact si_val (ff 28) hJ (by simp only [execOp, ev_tmp _ _ (show 28 < 39 by decide)]; rfl) q
    · intro kk bb ff ww hkk hf hd hp hJ
      obtain ⟨p0, p1, p2, p3, p4, p5, p6, p7, p8, p9, p10, p11, p12, p13, p14, p15, p16, p17, p18, p19, p20, p21, p22, p23, p24, p25, p26, p27, p28, p29, p30, p31, -⟩ := hd
      have q : FInt (0) (201) (ff 38) ww := p0 rfl
      exact si_val (ff 38) hJ (by simp only [execOp, ev_tmp _ _ (show 38 < 39 by decide)]; rfl) q
  intro ff w4 hf hd hJ
  have hfr : fr 39 ff = #[ff 0, ff 1, ff 2, ff 3, ff 4, ff 5, ff 6, ff 7, ff 8, ff 9, ff 10, ff 11, ff 12, ff 13, ff 14, ff 15, ff 16, ff 17, ff 18, ff 19, ff 20, ff 21, ff 22, ff 23, ff 24, ff 25, ff 26, ff 27, ff 28, ff 29, ff 30, ff 31, ff 32, ff 33, ff 34, ff 35, ff 36, ff 37, ff 38] := rfl
  rw [hfr]; clear hfr
  dsimp only
  have q0_ := hf 0 (by decide)
  have q1_ := hf 1 (by decide)
  have q2_ : FInt (-1) (108) (ff 2) w4 := hd 26 (by decide)
  obtain ⟨x2, q2_, xl2, xh2⟩ := q2_
  have q3_ : FInt (-1) (3) (ff 3) w4 := hd 27 (by decide)
  obtain ⟨x3, q3_, xl3, xh3⟩ := q3_
  have q4_ := hf 4 (by decide)
  have q5_ : FInt (-1) (29) (ff 5) w4 := hd 29 (by decide)
  obtain ⟨x5, q5_, xl5, xh5⟩ := q5_
  have q6_ : FInt (0) (201) (ff 6) w4 := hd 30 (by decide)
  obtain ⟨x6, q6_, xl6, xh6⟩ := q6_
  have q7_ := hf 7 (by decide)
  have q8_ := hf 8 (by decide)
  have q9_ := hf 9 (by decide)
  have q10_ := hf 10 (by decide)
  have q11_ := hf 11 (by decide)
  have q12_ := hf 12 (by decide)
  have q13_ : FEq (.pointer (some ⟨w.heap.size + 1, 0, none⟩)) (ff 13) w4 := hd 0 (by decide)
  unfold FEq at q13_
  have q16_ : FEq (.pointer (some ⟨w.heap.size + 1, 0, none⟩)) (ff 16) w4 := hd 3 (by decide)
  unfold FEq at q16_
  have q18_ : FEq (.pointer (some ⟨w.heap.size + 1, 0, none⟩)) (ff 18) w4 := hd 5 (by decide)
  unfold FEq at q18_
  have q22_ : FEq (.agg #[.int .i64 a, .int .i64 d, .int .i64 s, .int .i64 r]) (ff 22) w4 := hd 9 (by decide)
  unfold FEq at q22_
  have q23_ : FEq (.pointer (some ⟨w.heap.size + 1, 0, none⟩)) (ff 23) w4 := hd 10 (by decide)
  unfold FEq at q23_
  have q25_ : FEq (.pointer (some ⟨w.heap.size + 1, 0, none⟩)) (ff 25) w4 := hd 12 (by decide)
  unfold FEq at q25_
  have q29_ : FEq (.pointer (some ⟨w.heap.size + 1, 0, none⟩)) (ff 29) w4 := hd 16 (by decide)
  unfold FEq at q29_
  have q33_ : FEq (.pointer (some ⟨w.heap.size + 1, 0, none⟩)) (ff 33) w4 := hd 20 (by decide)
  unfold FEq at q33_
  simp only [Array.getD_eq_getD_getElem?, List.getElem?_toArray, List.getElem?_cons_zero, List.getElem?_cons_succ, Option.getD_some] at q0_ q1_ q4_ q7_ q8_ q9_ q10_ q11_ q12_
  have qb0_ : ∃ v, FBlk (w.heap.size, 28, #[.int .i64 a, .int .i64 d, .int .i64 s, .int .i64 r]) v w4 := hd 28 (by decide)
  obtain ⟨_, qb0_⟩ := qb0_
  have qb0_ : Blk w4 w.heap.size 28 #[.int .i64 a, .int .i64 d, .int .i64 s, .int .i64 r] := qb0_
  rw [q0_, q1_, q2_, q3_, q4_, q5_, q6_, q7_, q8_, q9_, q10_, q11_, q12_, q13_, q16_, q18_, q22_, q23_, q25_, q29_, q33_]
  clear q0_ q1_ q2_ q3_ q4_ q5_ q6_ q7_ q8_ q9_ q10_ q11_ q12_ q13_ q16_ q18_ q22_ q23_ q25_ q29_ q33_ hf hd
  generalize ff 14 = v14_
  generalize ff 15 = v15_
  generalize ff 17 = v17_
  generalize ff 19 = v19_
  generalize ff 20 = v20_
  generalize ff 21 = v21_
  generalize ff 24 = v24_
  generalize ff 26 = v26_
  generalize ff 27 = v27_
  generalize ff 28 = v28_
  generalize ff 30 = v30_
  generalize ff 31 = v31_
  generalize ff 32 = v32_
  generalize ff 34 = v34_
  generalize ff 35 = v35_
  generalize ff 36 = v36_
  generalize ff 37 = v37_
  generalize ff 38 = v38_
  clear ff
  have g_ := hJ.2.1
  have z_ := hJ.2.2.1
  have b0_ : Blk w4 w2.heap.size 28 #[.int .i64 a, .int .i64 d, .int .i64 s, .int .i64 r] := hJ.2.2.2.1 (w2.heap.size, 28, #[.int .i64 a, .int .i64 d, .int .i64 s, .int .i64 r]) (by simp)
  clear hJ hokX
  dsimp only at g_ z_
  replace HB := Lib.hid (below_of_only g_ (by omega)); clear g_ b0_
  obtain ⟨⟨c0, c1, c2, c3⟩, -⟩ := qb0_.c4
  clear qb0_
  go_wp2_with fail
  refine bodyPost_ret (v := .tuple #[.int .i64 x2, .int .i64 x3, .agg #[.int .i64 a, .int .i64 d, .int .i64 s, .int .i64 r], .int .i64 x5, .int .i64 x6]) (by simp [results, Try.results42, go_sem, c0, c1, c2, c3]) rfl ⟨_, _, _, _, _, _, _, _, rfl, by omega, by omega, h1, h2, h3, h4, by omega, by omega, HB.out⟩
end Go.Proofs.Ytijbciiocmdmmaa
