/- Contract of the draw of NearestGrid. No condition but bounds on the bytes. -/
import Derived.Test.YtgnbnedjocolcaaDraw
import Derived.Test.YtgnbnedjocolcaaInv
import Derived.Deep.Cut
namespace Go.Proofs.Ytgnbnedjocolcaa
set_option linter.unusedVariables false
open Go.RowKit
set_option linter.unusedSimpArgs false
set_option maxRecDepth 100000 in
set_option maxHeartbeats 4000000 in
theorem spec_DrawNearestGrid (A : Option Addr) (c : Nat) (zs : List Int) (w : World) (hr : RdY w w.heap.size A zs) (hw : WfY zs) (hl : zs.length ≤ 1048576) (hc : zs.length ≤ c) :
    Calls Try.prog 8 #[.slice A zs.length c] w fun e w' => ∃ t g : Int, e = .returned (.tuple #[.int .i64 t, .int .i64 g]) ∧ (-1 ≤ t ∧ t ≤ 50000) ∧ (0 ≤ g ∧ g ≤ 769) ∧ Below w.heap.size w w' := by
  go_enter Try.func8, Try.ntmps8
  have HY := Lib.hid hr; clear hr
  go_wp2_with fail
  refine (spec_l20Open A c zs w HY.out hw hl hc).mono ?_
  rintro e w1 ⟨rfl, r_, b_, s_⟩
  have z1 := b_.size
  have hlt : w.heap.size < w1.heap.size := r_.lt
  have hne1 : ¬ w1.heap.size = w.heap.size := by omega
  have hnf1 : ¬ w1.heap.size + 1 = w.heap.size := by omega
  have hnh1 : ¬ w1.heap.size + 1 + 1 = w.heap.size := by omega
  have HR := Lib.hid r_
  have HB := Lib.hid b_
  have HG := Lib.hid (only_refl w1 (some w.heap.size))
  clear r_ b_ s_ HY
  replace HR := Lib.hid (HR.out.more (show 0 ≤ 0 + 1 * 0 by omega))
  go_upto_region 2 with (fail)
  have hokX : Cx.ok ⟨w.heap.size, 0, 1, w1, w1, [], []⟩ := by
    refine ⟨by dsimp only; omega, ?_, ?_, ?_⟩ <;> simp <;> (try omega)
  refine region_draws rfl ⟨w.heap.size, 0, 1, w1, w1, [], []⟩ 100 22 [some 7, some 8, some 9, some 10, some 11, some 12, some 13, some 14, some 15, some 16, some 17, some 18, some 19, some 20, some 21, some 2, some 3]
    [FEq (.pointer (some ⟨w.heap.size, 0, none⟩)), FInt (0) (255), FLit w1.heap.size 3 3 (-1) (50000), FLit w1.heap.size 3 6 (0) (2), FEq (.pointer (some ⟨w.heap.size, 0, none⟩)), FInt (0) (5), FAt w1.heap.size 3 (0) (2), FInt (0) (2), FAt w1.heap.size 3 (-1) (50000), FInt (-1) (50000), FLit w1.heap.size 3 6 (0) (769), FEq (.pointer (some ⟨w.heap.size, 0, none⟩)), FInt (0) (5), FAt w1.heap.size 3 (0) (769), FInt (0) (769), FInt (-1) (50000), FInt (0) (769)] (by kernel_rfl) (by kernel_rfl) ?_ ?_ ?_ ?_
  · exact ⟨stay_eq, stay_int, stay_lit, stay_lit, stay_eq, stay_int, stay_at, stay_int, stay_at, stay_int, stay_lit, stay_eq, stay_int, stay_at, stay_int, stay_int, stay_int, trivial⟩
  · exact ⟨fun _ => HR.out, only_refl _ _, Nat.le_refl _, by simp, by simp, fun _ _ _ _ => rfl⟩
  · refine AllI.cons ?_ (AllI.cons ?_ (AllI.cons ?_ (AllI.cons ?_ (AllI.cons ?_ (AllI.cons ?_ (AllI.cons ?_ (AllI.cons ?_ (AllI.cons ?_ (AllI.cons ?_ (AllI.cons ?_ (AllI.cons ?_ (AllI.cons ?_ (AllI.cons ?_ (AllI.cons ?_ (AllI.cons ?_ (AllI.cons ?_ trivial))))))))))))))))
    · intro kk bb ff ww hkk hf hd hp hq hJ
      refine .inl ⟨wanted_none rfl, ?_⟩
      have q : FEq (.pointer (some ⟨w.heap.size, 0, none⟩)) (ff 4) ww := (hf 4 (by decide)).trans rfl
      exact si_val (ff 4) hJ (by simp only [execOp, ev_tmp _ _ (show 4 < 22 by decide)]; rfl) q
    · intro kk bb ff ww hkk hf hd hp hq hJ
      refine .inl ⟨wanted_none rfl, ?_⟩
      obtain ⟨p0, -⟩ := hd
      have q7 : FEq (.pointer (some ⟨w.heap.size, 0, none⟩)) (ff 7) ww := p0 rfl
      unfold FEq at q7
      have hkk2 : kk < 17 := hkk
      refine si_enter 27 #[.pointer (some ⟨w.heap.size, 0, none⟩), .int .i64 (256)] hokX hJ (.inr (by simp)) ?_ ?_
      · simp only [execOp, ev_tmp _ _ (show 7 < 22 by decide), ev_const, q7, ev_func, resolve, List.map_toArray, List.map_cons, List.map_nil]
        simp [go_sem]
      · intro hrd
        dsimp only at hrd
        exact pk_post (l20_pk w.heap.size (0 + 1 * kk) 256 ww hrd (by omega) (by omega)) (by dsimp only; omega) (by omega)
    · intro kk bb ff ww hkk hf hd hp hq hJ
      refine .inl ⟨wanted_none rfl, ?_⟩
      obtain ⟨p0, -⟩ := hd
      have q8 : FInt (0) (255) (ff 8) ww := p0 rfl
      obtain ⟨z8, q8, zl8, zh8⟩ := q8
      refine si_alloc (.slice (some ⟨ww.heap.size, 0, none⟩) 3 3) (.cells #[.int .i64 z8, .int .i64 (50000), .int .i64 (-1)] 3) hokX hJ ?_ ⟨_, _, rfl, Blk.new _ _ _, rfl, (fun k hk => by simp at hk; rcases k with _ | _ | _ | _ | _ | _ | _ | _ | k <;> first | exact ⟨_, rfl, by omega, by omega⟩ | exact ⟨_, rfl, by rw [IntWalk.i64_in _ (by omega)]; omega, by rw [IntWalk.i64_in _ (by omega)]; omega⟩ | omega), hJ.2.2.1⟩
      simp only [execOp, ev_tmp _ _ (show 8 < 22 by decide), ev_const, q8, List.map_toArray, List.map_cons, List.map_nil]
      simp [go_sem]
    · intro kk bb ff ww hkk hf hd hp hq hJ
      refine .inl ⟨wanted_none rfl, ?_⟩
      refine si_alloc (.slice (some ⟨ww.heap.size, 0, none⟩) 6 6) (.cells #[.int .i64 (0), .int .i64 (0), .int .i64 (0), .int .i64 (0), .int .i64 (1), .int .i64 (2)] 3) hokX hJ ?_ ⟨_, _, rfl, Blk.new _ _ _, rfl, (fun k hk => by simp at hk; rcases k with _ | _ | _ | _ | _ | _ | _ | _ | k <;> first | exact ⟨_, rfl, by omega, by omega⟩ | exact ⟨_, rfl, by rw [IntWalk.i64_in _ (by omega)]; omega, by rw [IntWalk.i64_in _ (by omega)]; omega⟩ | omega), hJ.2.2.1⟩
      simp only [execOp, ev_const, List.map_toArray, List.map_cons, List.map_nil]
      simp [go_sem]
    · intro kk bb ff ww hkk hf hd hp hq hJ
      refine .inl ⟨wanted_none rfl, ?_⟩
      have q : FEq (.pointer (some ⟨w.heap.size, 0, none⟩)) (ff 4) ww := (hf 4 (by decide)).trans rfl
      exact si_val (ff 4) hJ (by simp only [execOp, ev_tmp _ _ (show 4 < 22 by decide)]; rfl) q
    · intro kk bb ff ww hkk hf hd hp hq hJ
      refine .inl ⟨wanted_none rfl, ?_⟩
      obtain ⟨p0, p1, -⟩ := hd
      have q11 : FEq (.pointer (some ⟨w.heap.size, 0, none⟩)) (ff 11) ww := p0 rfl
      unfold FEq at q11
      have hkk2 : kk < 17 := hkk
      refine si_enter 27 #[.pointer (some ⟨w.heap.size, 0, none⟩), .int .i64 (6)] hokX hJ (.inr (by simp)) ?_ ?_
      · simp only [execOp, ev_tmp _ _ (show 11 < 22 by decide), ev_const, q11, ev_func, resolve, List.map_toArray, List.map_cons, List.map_nil]
        simp [go_sem]
      · intro hrd
        dsimp only at hrd
        exact pk_post (l20_pk w.heap.size (0 + 1 * kk) 6 ww hrd (by omega) (by omega)) (by dsimp only; omega) (by omega)
    · intro kk bb ff ww hkk hf hd hp hq hJ
      refine .inl ⟨wanted_none rfl, ?_⟩
      obtain ⟨p0, p1, -⟩ := hd
      have q10 : FLit w1.heap.size 3 6 (0) (2) (ff 10) ww := p0 rfl
      obtain ⟨b10, c10, q10, u10, n10, l10, v10⟩ := q10
      have q12 : FInt (0) (5) (ff 12) ww := p1 rfl
      obtain ⟨z12, q12, zl12, zh12⟩ := q12
      obtain ⟨j12, rfl⟩ : ∃ j : Nat, z12 = (j : Int) := ⟨z12.toNat, by omega⟩
      refine si_val (.pointer (some ⟨b10, j12, none⟩)) hJ ?_ ⟨b10, j12, c10, rfl, u10, by omega, l10, v10⟩
      simp only [execOp, ev_tmp _ _ (show 10 < 22 by decide), ev_tmp _ _ (show 12 < 22 by decide), ev_const, q10, q12]
      have hlt : (j12 : Int) < 6 := by omega
      simp [go_sem, hlt]
    · intro kk bb ff ww hkk hf hd hp hq hJ
      refine .inl ⟨wanted_none rfl, ?_⟩
      obtain ⟨p0, -⟩ := hd
      have q13 : FAt w1.heap.size 3 (0) (2) (ff 13) ww := p0 rfl
      obtain ⟨b13, k13, c13, q13, u13, n13, l13, v13⟩ := q13
      obtain ⟨y, hy, yl, yh⟩ := l13 k13 n13
      have hc := (u13.cell k13).trans hy
      refine si_val (.int .i64 y) hJ ?_ ⟨y, rfl, yl, yh⟩
      simp only [execOp, ev_tmp _ _ (show 13 < 22 by decide), ev_const, q13]
      simp [go_sem, hc]
    · intro kk bb ff ww hkk hf hd hp hq hJ
      refine .inl ⟨wanted_none rfl, ?_⟩
      obtain ⟨p0, p1, -⟩ := hd
      have q9 : FLit w1.heap.size 3 3 (-1) (50000) (ff 9) ww := p0 rfl
      obtain ⟨b9, c9, q9, u9, n9, l9, v9⟩ := q9
      have q14 : FInt (0) (2) (ff 14) ww := p1 rfl
      obtain ⟨z14, q14, zl14, zh14⟩ := q14
      obtain ⟨j14, rfl⟩ : ∃ j : Nat, z14 = (j : Int) := ⟨z14.toNat, by omega⟩
      refine si_val (.pointer (some ⟨b9, j14, none⟩)) hJ ?_ ⟨b9, j14, c9, rfl, u9, by omega, l9, v9⟩
      simp only [execOp, ev_tmp _ _ (show 9 < 22 by decide), ev_tmp _ _ (show 14 < 22 by decide), ev_const, q9, q14]
      have hlt : (j14 : Int) < 3 := by omega
      simp [go_sem, hlt]
    · intro kk bb ff ww hkk hf hd hp hq hJ
      refine .inl ⟨wanted_none rfl, ?_⟩
      obtain ⟨p0, -⟩ := hd
      have q15 : FAt w1.heap.size 3 (-1) (50000) (ff 15) ww := p0 rfl
      obtain ⟨b15, k15, c15, q15, u15, n15, l15, v15⟩ := q15
      obtain ⟨y, hy, yl, yh⟩ := l15 k15 n15
      have hc := (u15.cell k15).trans hy
      refine si_val (.int .i64 y) hJ ?_ ⟨y, rfl, yl, yh⟩
      simp only [execOp, ev_tmp _ _ (show 15 < 22 by decide), ev_const, q15]
      simp [go_sem, hc]
    · intro kk bb ff ww hkk hf hd hp hq hJ
      refine .inl ⟨wanted_none rfl, ?_⟩
      obtain ⟨-, -⟩ := hd
      refine si_alloc (.slice (some ⟨ww.heap.size, 0, none⟩) 6 6) (.cells #[.int .i64 (12), .int .i64 (1), .int .i64 (7), .int .i64 (768), .int .i64 (0), .int .i64 (769)] 3) hokX hJ ?_ ⟨_, _, rfl, Blk.new _ _ _, rfl, (fun k hk => by simp at hk; rcases k with _ | _ | _ | _ | _ | _ | _ | _ | k <;> first | exact ⟨_, rfl, by omega, by omega⟩ | exact ⟨_, rfl, by rw [IntWalk.i64_in _ (by omega)]; omega, by rw [IntWalk.i64_in _ (by omega)]; omega⟩ | omega), hJ.2.2.1⟩
      simp only [execOp, ev_const, List.map_toArray, List.map_cons, List.map_nil]
      simp [go_sem]
    · intro kk bb ff ww hkk hf hd hp hq hJ
      refine .inl ⟨wanted_none rfl, ?_⟩
      have q : FEq (.pointer (some ⟨w.heap.size, 0, none⟩)) (ff 4) ww := (hf 4 (by decide)).trans rfl
      exact si_val (ff 4) hJ (by simp only [execOp, ev_tmp _ _ (show 4 < 22 by decide)]; rfl) q
    · intro kk bb ff ww hkk hf hd hp hq hJ
      refine .inl ⟨wanted_none rfl, ?_⟩
      obtain ⟨p0, p1, -⟩ := hd
      have q18 : FEq (.pointer (some ⟨w.heap.size, 0, none⟩)) (ff 18) ww := p0 rfl
      unfold FEq at q18
      have hkk2 : kk < 17 := hkk
      refine si_enter 27 #[.pointer (some ⟨w.heap.size, 0, none⟩), .int .i64 (6)] hokX hJ (.inr (by simp)) ?_ ?_
      · simp only [execOp, ev_tmp _ _ (show 18 < 22 by decide), ev_const, q18, ev_func, resolve, List.map_toArray, List.map_cons, List.map_nil]
        simp [go_sem]
      · intro hrd
        dsimp only at hrd
        exact pk_post (l20_pk w.heap.size (0 + 1 * kk) 6 ww hrd (by omega) (by omega)) (by dsimp only; omega) (by omega)
    · intro kk bb ff ww hkk hf hd hp hq hJ
      refine .inl ⟨wanted_none rfl, ?_⟩
      obtain ⟨p0, p1, -, -⟩ := hd
      have q17 : FLit w1.heap.size 3 6 (0) (769) (ff 17) ww := p0 rfl
      obtain ⟨b17, c17, q17, u17, n17, l17, v17⟩ := q17
      have q19 : FInt (0) (5) (ff 19) ww := p1 rfl
      obtain ⟨z19, q19, zl19, zh19⟩ := q19
      obtain ⟨j19, rfl⟩ : ∃ j : Nat, z19 = (j : Int) := ⟨z19.toNat, by omega⟩
      refine si_val (.pointer (some ⟨b17, j19, none⟩)) hJ ?_ ⟨b17, j19, c17, rfl, u17, by omega, l17, v17⟩
      simp only [execOp, ev_tmp _ _ (show 17 < 22 by decide), ev_tmp _ _ (show 19 < 22 by decide), ev_const, q17, q19]
      have hlt : (j19 : Int) < 6 := by omega
      simp [go_sem, hlt]
    · intro kk bb ff ww hkk hf hd hp hq hJ
      refine .inl ⟨wanted_none rfl, ?_⟩
      obtain ⟨p0, -, -⟩ := hd
      have q20 : FAt w1.heap.size 3 (0) (769) (ff 20) ww := p0 rfl
      obtain ⟨b20, k20, c20, q20, u20, n20, l20, v20⟩ := q20
      obtain ⟨y, hy, yl, yh⟩ := l20 k20 n20
      have hc := (u20.cell k20).trans hy
      refine si_val (.int .i64 y) hJ ?_ ⟨y, rfl, yl, yh⟩
      simp only [execOp, ev_tmp _ _ (show 20 < 22 by decide), ev_const, q20]
      simp [go_sem, hc]
    · intro kk bb ff ww hkk hf hd hp hq hJ
      refine .inl ⟨wanted_none rfl, ?_⟩
      obtain ⟨p0, p1, p2, p3, p4, p5, p6, p7, p8, p9, p10, p11, -, -, -, -, -, -⟩ := hd
      have q : FInt (-1) (50000) (ff 16) ww := p0 rfl
      exact si_val (ff 16) hJ (by simp only [execOp, ev_tmp _ _ (show 16 < 22 by decide)]; rfl) q
    · intro kk bb ff ww hkk hf hd hp hq hJ
      refine .inl ⟨wanted_none rfl, ?_⟩
      obtain ⟨p0, p1, p2, p3, p4, p5, p6, p7, p8, p9, p10, p11, p12, p13, p14, p15, p16, p17, -⟩ := hd
      have q : FInt (0) (769) (ff 21) ww := p0 rfl
      exact si_val (ff 21) hJ (by simp only [execOp, ev_tmp _ _ (show 21 < 22 by decide)]; rfl) q
  intro ff w2 hf hd hJ
  have hfr : fr 22 ff = #[ff 0, ff 1, ff 2, ff 3, ff 4, ff 5, ff 6, ff 7, ff 8, ff 9, ff 10, ff 11, ff 12, ff 13, ff 14, ff 15, ff 16, ff 17, ff 18, ff 19, ff 20, ff 21] := rfl
  rw [hfr]; clear hfr
  dsimp only
  have q0_ := hf 0 (by decide)
  have q1_ := hf 1 (by decide)
  have q2_ : FInt (-1) (50000) (ff 2) w2 := hd 15 (by decide)
  obtain ⟨x2, q2_, xl2, xh2⟩ := q2_
  have q3_ : FInt (0) (769) (ff 3) w2 := hd 16 (by decide)
  obtain ⟨x3, q3_, xl3, xh3⟩ := q3_
  have q4_ := hf 4 (by decide)
  have q5_ := hf 5 (by decide)
  have q6_ := hf 6 (by decide)
  have q7_ : FEq (.pointer (some ⟨w.heap.size, 0, none⟩)) (ff 7) w2 := hd 0 (by decide)
  unfold FEq at q7_
  have q11_ : FEq (.pointer (some ⟨w.heap.size, 0, none⟩)) (ff 11) w2 := hd 4 (by decide)
  unfold FEq at q11_
  have q18_ : FEq (.pointer (some ⟨w.heap.size, 0, none⟩)) (ff 18) w2 := hd 11 (by decide)
  unfold FEq at q18_
  simp only [Array.getD_eq_getD_getElem?, List.getElem?_toArray, List.getElem?_cons_zero, List.getElem?_cons_succ, Option.getD_some] at q0_ q1_ q4_ q5_ q6_
  rw [q0_, q1_, q2_, q3_, q4_, q5_, q6_, q7_, q11_, q18_]
  clear q0_ q1_ q2_ q3_ q4_ q5_ q6_ q7_ q11_ q18_ hf hd
  generalize ff 8 = v8_
  generalize ff 9 = v9_
  generalize ff 10 = v10_
  generalize ff 12 = v12_
  generalize ff 13 = v13_
  generalize ff 14 = v14_
  generalize ff 15 = v15_
  generalize ff 16 = v16_
  generalize ff 17 = v17_
  generalize ff 19 = v19_
  generalize ff 20 = v20_
  generalize ff 21 = v21_
  clear ff
  have r_ := hJ.1 (.inr (by simp))
  have g_ := hJ.2.1
  have z_ := hJ.2.2.1
  have k_ := hJ.2.2.2.2.2
  clear hJ hokX
  dsimp only at g_ z_ k_ r_
  replace HB := Lib.hid (below_only HB.out g_ (by omega) (Nat.le_refl _))
  clear g_
  go_wp2_with fail
  go_ret2
  exact ⟨_, _, rfl, ⟨xl2, xh2⟩, ⟨xl3, xh3⟩, HB.out⟩
end Go.Proofs.Ytgnbnedjocolcaa
