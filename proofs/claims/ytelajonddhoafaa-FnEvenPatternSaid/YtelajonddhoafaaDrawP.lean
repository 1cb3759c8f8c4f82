/- Contracts of the draws of TurnPattern, EvenPattern, SamePattern. No condition but bounds on the bytes. -/
import Derived.Test.YtelajonddhoafaaDrawB
import Derived.Test.YtelajonddhoafaaInvP
import Derived.Test.YtelajonddhoafaaTurn
import Derived.Test.YtelajonddhoafaaPatW
import Derived.Deep.Cut
namespace Go.Proofs.Ytelajonddhoafaa
set_option linter.unusedVariables false
open Go.RowKit
set_option linter.unusedSimpArgs false
theorem spec_DrawEvenPattern (A : Option Addr) (c : Nat) (zs : List Int) (w : World) (hr : RdY w w.heap.size A zs) (hw : WfY zs) (hl : zs.length ≤ 1048576) (hc : zs.length ≤ c) :
    Calls Try.prog 16 #[.slice A zs.length c] w fun e w' => ∃ a b : Int, e = .returned (.tuple #[.int .i64 a, .int .i64 b]) ∧ (-1 ≤ a ∧ a ≤ 35) ∧ (0 ≤ b ∧ b ≤ 33) ∧ Below w.heap.size w w' := by
  go_enter Try.func16, Try.ntmps16
  have HY := Lib.hid hr; clear hr
  go_wp2_with fail
  refine (spec_l20Open A c zs w HY.out hw hl hc).mono ?_
  rintro e w1 ⟨rfl, r_, b_, s_⟩
  have z1 := b_.size
  have hlt : w.heap.size < w1.heap.size := r_.lt
  have hne1 : ¬ w1.heap.size = w.heap.size := by omega
  have hnf1 : ¬ w1.heap.size + 1 = w.heap.size := by omega
  have hnh1 : ¬ w1.heap.size + 1 + 1 = w.heap.size := by omega
  have HR := Lib.hid r_
  have HB := Lib.hid b_
  have HG := Lib.hid (only_refl w1 (some w.heap.size))
  clear r_ b_ s_ HY
  go_wp2_with fail
  refine (l20_pk w.heap.size 0 34 w1 HR.out (by omega) (by omega)).mono ?_
  rintro e w2 ⟨k2, rfl, hk2, r2, g2⟩
  replace HB := Lib.hid (below_only HB.out g2 (by omega) (Nat.le_refl _))
  have z2 := g2.size
  have HR2 := Lib.hid r2; clear r2 g2 HR
  go_wp2_with fail
  all_goals
    refine (l20_pk w.heap.size 1 _ w2 HR2.out (by omega) (by omega)).mono ?_
    rintro e w3 ⟨k3, rfl, hk3, r3, g3⟩
    replace HB := Lib.hid (below_only HB.out g3 (by omega) (Nat.le_refl _))
    clear r3 g3
    go_wp2_with fail
    go_ret2
    exact ⟨_, _, rfl, by omega, by omega, HB.out⟩
set_option maxRecDepth 100000 in
set_option maxHeartbeats 4000000 in
theorem spec_DrawTurnPattern (A : Option Addr) (c : Nat) (zs : List Int) (w : World) (hr : RdY w w.heap.size A zs) (hw : WfY zs) (hl : zs.length ≤ 1048576) (hc : zs.length ≤ c) :
    Calls Try.prog 24 #[.slice A zs.length c] w fun e w' => ∃ (A : Option Addr) (c : Nat) (zs : List Bool) (t : Int), e = .returned (.tuple #[.agg #[.slice A zs.length c], .int .i64 t]) ∧ zs.length ≤ 33 ∧ zs.length ≤ c ∧ (-35 ≤ t ∧ t ≤ 34) ∧ RdBo w' w'.heap.size A zs ∧ Below w.heap.size w w' := by
  go_enter Try.func24, Try.ntmps24
  have HY := Lib.hid (fun o => RdY.alloc1 hr o); clear hr
  go_wp2_with fail
  refine (spec_l20Open A c zs _ (by exact HY.out _) hw hl hc).mono ?_
  rintro e w1 ⟨rfl, r_, b_, s_⟩
  have HK := Lib.hid ((Blk.new w _ _).below b_ (by simp))
  have HB := Lib.hid (((Below.refl w.heap.size w).alloc (Nat.le_refl _) _).trans (b_.mono (by simp)))
  simp only [World.size_alloc] at r_ b_ s_
  have z1 : w.heap.size + 2 ≤ w1.heap.size := (by omega)
  have hne1 : ¬ w1.heap.size = w.heap.size + 1 := by omega
  have hnf1 : ¬ w1.heap.size + 1 = w.heap.size + 1 := by omega
  have HR := Lib.hid r_
  have HG := Lib.hid (only_refl w1 (some (w.heap.size + 1)))
  clear r_ b_ s_ HY
  go_wp2_with fail
  refine (spec_l20Beats (w.heap.size + 1) 0 9 w1 HR.out (by omega) (by omega)).mono ?_
  rintro e w2 ⟨A2, c2, ys, rfl, hl2, hc2, rd2, lo2, hr2, g2⟩
  have z2 := g2.size
  replace HK := Lib.hid ((HK.out.only g2 (by omega)).alloc (.cells #[.slice A2 ys.length c2] 25))
  replace HB := Lib.hid ((below_only HB.out g2 (by omega) (by omega)).alloc (by omega) (.cells #[.slice A2 ys.length c2] 25))
  replace HR := Lib.hid ((hr2.more (show 0 + 60 ≤ 60 + 1 * 0 by omega)).alloc1 (.cells #[.slice A2 ys.length c2] 25))
  have HS := Lib.hid (Blk.new w2 25 #[.slice A2 ys.length c2])
  have HD := Lib.hid (rd2.al (Nat.le_refl _) (.cells #[.slice A2 ys.length c2] 25))
  have HL := Lib.hid lo2
  clear hr2 g2 rd2 lo2
  have hlt : w.heap.size + 1 < w2.heap.size := by omega
  go_upto_region 3 with (fail)
  have zz : w2.heap.size + 1 ≤ (w2.alloc (.cells #[.slice A2 ys.length c2] 25)).heap.size := by simp
  generalize w2.alloc (.cells #[.slice A2 ys.length c2] 25) = w3 at *
  have hokX : Cx.ok ⟨(w.heap.size + 1), 60, 1, w3, w, [(w2.heap.size, 25, #[.slice A2 ys.length c2])], [⟨4, w.heap.size, 25, 1⟩]⟩ := by
    refine ⟨by dsimp only; omega, ?_, ?_, ?_⟩ <;> simp <;> (try omega)
  refine region_draws rfl ⟨(w.heap.size + 1), 60, 1, w3, w, [(w2.heap.size, 25, #[.slice A2 ys.length c2])], [⟨4, w.heap.size, 25, 1⟩]⟩ 4 14 [some 10, some 11, some 12, some 13, none, some 3]
    [FEq (.agg #[.slice A2 ys.length c2]), FEq (.pointer (some ⟨w.heap.size + 1, 0, none⟩)), FInt (0) (69), FInt (-35) (34), FBlk (w.heap.size) 25 (fun cs _ => cs = #[.slice A2 ys.length c2]), FInt (-35) (34)] (by kernel_rfl) (by kernel_rfl) ?_ ?_ ?_ ?_
  · exact ⟨stay_eq, stay_eq, stay_int, stay_int, (stay_blk_eq ⟨4, w.heap.size, 25, 1⟩ (by simp) rfl), stay_int, trivial⟩
  · exact ⟨fun _ => HR.out, only_of_below HB.out _, Nat.le_refl _, by simp; exact HS.out, by simp; exact ⟨_, HK.out, rfl⟩, fun _ _ _ _ => rfl⟩
  · refine AllI.cons ?_ (AllI.cons ?_ (AllI.cons ?_ (AllI.cons ?_ (AllI.cons ?_ (AllI.cons ?_ trivial)))))
    · intro kk bb ff ww hkk hf hd hp hq hJ
      refine .inl ⟨wanted_none rfl, ?_⟩
      have q5 : FEq (.pointer (some ⟨w2.heap.size, 0, none⟩)) (ff 5) ww := (hf 5 (by decide)).trans rfl
      unfold FEq at q5
      have hb : Blk ww w2.heap.size 25 #[.slice A2 ys.length c2] := hJ.2.2.2.1 (w2.heap.size, 25, #[.slice A2 ys.length c2]) (by simp)
      have c0 : ww.cell? ⟨w2.heap.size, 0, none⟩ = some (.slice A2 ys.length c2) := hb.cell 0
      refine si_val (.agg #[.slice A2 ys.length c2]) hJ ?_ rfl
      simp only [execOp, ev_tmp _ _ (show 5 < 14 by decide), ev_const, q5]
      simp [go_sem, c0]
    · intro kk bb ff ww hkk hf hd hp hq hJ
      refine .inl ⟨wanted_none rfl, ?_⟩
      have q : FEq (.pointer (some ⟨w.heap.size + 1, 0, none⟩)) (ff 4) ww := (hf 4 (by decide)).trans rfl
      exact si_val (ff 4) hJ (by simp only [execOp, ev_tmp _ _ (show 4 < 14 by decide)]; rfl) q
    · intro kk bb ff ww hkk hf hd hp hq hJ
      refine .inl ⟨wanted_none rfl, ?_⟩
      obtain ⟨p0, -⟩ := hd
      have q11 : FEq (.pointer (some ⟨w.heap.size + 1, 0, none⟩)) (ff 11) ww := p0 rfl
      unfold FEq at q11
      have hkk2 : kk < 6 := hkk
      refine si_enter 35 #[.pointer (some ⟨w.heap.size + 1, 0, none⟩), .int .i64 (70)] hokX hJ (.inl (hp [] (by kernel_rfl))) ?_ ?_
      · simp only [execOp, ev_tmp _ _ (show 11 < 14 by decide), ev_const, q11, ev_func, resolve, List.map_toArray, List.map_cons, List.map_nil]
        simp [go_sem]
      · intro hrd
        dsimp only at hrd
        exact pk_post (l20_pk (w.heap.size + 1) (60 + 1 * kk) 70 ww hrd (by omega) (by omega)) (by dsimp only; omega) (by omega)
    · intro kk bb ff ww hkk hf hd hp hq hJ
      refine .inl ⟨wanted_none rfl, ?_⟩
      obtain ⟨p0, -, -⟩ := hd
      have q12 : FInt (0) (69) (ff 12) ww := p0 rfl
      obtain ⟨z12, q12, zl12, zh12⟩ := q12
      have hwr : IntKind.i64.wrap (z12 - (35)) = z12 - (35) := IntWalk.i64_in _ (by omega)
      refine si_val (.int .i64 (z12 - (35))) hJ ?_ ⟨_, rfl, by omega, by omega⟩
      simp only [execOp, ev_tmp _ _ (show 12 < 14 by decide), ev_const, q12]
      simp [go_sem, hwr]
    · intro kk bb ff ww hkk hf hd hp hq hJ
      refine .inl ⟨wanted_none rfl, ?_⟩
      obtain ⟨p0, p1, p2, -, -, -, -⟩ := hd
      have q2 : FEq (.pointer (some ⟨w.heap.size, 0, none⟩)) (ff 2) ww := (hf 2 (by decide)).trans rfl
      unfold FEq at q2
      have q10 : FEq (.agg #[.slice A2 ys.length c2]) (ff 10) ww := p0 rfl
      unfold FEq at q10
      obtain ⟨cs, hb, hsz⟩ := hJ.2.2.2.2.1 ⟨4, w.heap.size, 25, 1⟩ (by simp)
      dsimp only at hb hsz
      obtain ⟨d0, rfl⟩ := arr1 hsz
      have c0 : ww.cell? ⟨w.heap.size, 0, none⟩ = some d0 := hb.cell 0
      have f0 := hb.frozen 0
      refine si_store ⟨4, w.heap.size, 25, 1⟩ (by simp) rfl #[.slice A2 ys.length c2] (ww.setCell ⟨w.heap.size, 0, none⟩ (.slice A2 ys.length c2)) hokX hJ ?_ (fun j hj => by simp [Below.heap_setCell, hj, Ne.symm hj]) (by simp [World.setCell]) (hb.set_ 0 _) rfl ⟨rfl, rfl, rfl⟩ ⟨_, (hb.set_ 0 _), rfl⟩ (by simp)
      simp only [execOp, ev_tmp _ _ (show 2 < 14 by decide), ev_tmp _ _ (show 10 < 14 by decide), ev_const, q2, q10]
      simp [go_sem, c0, f0]
    · intro kk bb ff ww hkk hf hd hp hq hJ
      refine .inl ⟨wanted_none rfl, ?_⟩
      obtain ⟨p0, p1, p2, p3, p4, p5, p6, -⟩ := hd
      have q : FInt (-35) (34) (ff 13) ww := p0 rfl
      exact si_val (ff 13) hJ (by simp only [execOp, ev_tmp _ _ (show 13 < 14 by decide)]; rfl) q
  intro ff w4 hf hd hJ
  have hfr : fr 14 ff = #[ff 0, ff 1, ff 2, ff 3, ff 4, ff 5, ff 6, ff 7, ff 8, ff 9, ff 10, ff 11, ff 12, ff 13] := rfl
  rw [hfr]; clear hfr
  dsimp only
  have q0_ := hf 0 (by decide)
  have q1_ := hf 1 (by decide)
  have q2_ := hf 2 (by decide)
  have q3_ : FInt (-35) (34) (ff 3) w4 := hd 5 (by decide)
  obtain ⟨x3, q3_, xl3, xh3⟩ := q3_
  have q4_ := hf 4 (by decide)
  have q5_ := hf 5 (by decide)
  have q6_ := hf 6 (by decide)
  have q7_ := hf 7 (by decide)
  have q8_ := hf 8 (by decide)
  have q9_ := hf 9 (by decide)
  have q10_ : FEq (.agg #[.slice A2 ys.length c2]) (ff 10) w4 := hd 0 (by decide)
  unfold FEq at q10_
  have q11_ : FEq (.pointer (some ⟨w.heap.size + 1, 0, none⟩)) (ff 11) w4 := hd 1 (by decide)
  unfold FEq at q11_
  simp only [Array.getD_eq_getD_getElem?, List.getElem?_toArray, List.getElem?_cons_zero, List.getElem?_cons_succ, Option.getD_some] at q0_ q1_ q2_ q4_ q5_ q6_ q7_ q8_ q9_
  have qb0_ : ∃ v, FBlk (w.heap.size) 25 (fun cs _ => cs = #[.slice A2 ys.length c2]) v w4 := hd 4 (by decide)
  obtain ⟨_, _, qb0_, rfl⟩ := qb0_
  have qb0_ : Blk w4 w.heap.size 25 #[.slice A2 ys.length c2] := qb0_
  rw [q0_, q1_, q2_, q3_, q4_, q5_, q6_, q7_, q8_, q9_, q10_, q11_]
  clear q0_ q1_ q2_ q3_ q4_ q5_ q6_ q7_ q8_ q9_ q10_ q11_ hf hd
  generalize ff 12 = v12_
  generalize ff 13 = v13_
  clear ff
  have g_ := hJ.2.1
  have z_ := hJ.2.2.1
  have b0_ : Blk w4 w2.heap.size 25 #[.slice A2 ys.length c2] := hJ.2.2.2.1 (w2.heap.size, 25, #[.slice A2 ys.length c2]) (by simp)
  have k_ := hJ.2.2.2.2.2
  clear hJ hokX
  dsimp only at g_ z_ k_
  replace HB := Lib.hid (below_of_only g_ (by omega)); clear g_ b0_
  have c0 : w4.cell? ⟨w.heap.size, 0, none⟩ = some (.slice A2 ys.length c2) := qb0_.cell 0
  clear qb0_
  have hd4 : RdBo w4 w2.heap.size A2 ys := ⟨HD.out.1, fun hn => by
    obtain ⟨b, off, e, hb, hcc⟩ := HD.out.2 hn
    have h1 := HL.out b off e
    exact ⟨b, off, e, hb, fun j u hu => (World.cell?_of_block (a := ⟨b, off + j, none⟩) (k_ b (by omega) (by omega) (by simp; omega))).trans (hcc j u hu)⟩⟩
  clear k_
  go_wp2_with fail
  refine bodyPost_ret (v := .tuple #[.agg #[.slice A2 ys.length c2], .int .i64 x3]) (by simp [results, Try.results24, go_sem, c0]) rfl ⟨_, _, _, _, rfl, hl2, hc2, by omega, RdBo.more hd4 (by omega), HB.out⟩
set_option maxRecDepth 100000 in
set_option maxHeartbeats 4000000 in
theorem spec_DrawSamePattern (A : Option Addr) (c : Nat) (zs : List Int) (w : World) (hr : RdY w w.heap.size A zs) (hw : WfY zs) (hl : zs.length ≤ 1048576) (hc : zs.length ≤ c) :
    Calls Try.prog 27 #[.slice A zs.length c] w fun e w' => ∃ (A C : Option Addr) (c d : Nat) (xs ys : List Bool), e = .returned (.tuple #[.agg #[.slice A xs.length c], .agg #[.slice C ys.length d]]) ∧ (xs.length ≤ 33 ∧ ys.length ≤ 33) ∧ RdBo w' w'.heap.size A xs ∧ RdBo w' w'.heap.size C ys ∧ Below w.heap.size w w' := by
  go_enter Try.func27, Try.ntmps27
  have HY := Lib.hid (fun o o2 => RdY.alloc1 (RdY.alloc1 hr o) o2); clear hr
  go_wp2_with fail
  refine (spec_l20Open A c zs _ (by exact HY.out _ _) hw hl hc).mono ?_
  rintro e w1 ⟨rfl, r_, b_, s_⟩
  have HK := Lib.hid (((Blk.new w 25 #[.slice none 0 0]).alloc (.cells #[.slice none 0 0] 25)).below b_ (by simp; omega))
  have HK2 : Hid (Blk w1 (w.heap.size + 1) 25 #[.slice none 0 0]) := by
    have h := (Blk.new (w.alloc (.cells #[.slice none 0 0] 25)) 25 #[.slice none 0 0]).below b_ (by simp)
    rw [World.size_alloc] at h
    exact Lib.hid h
  have HB := Lib.hid ((((Below.refl w.heap.size w).alloc (Nat.le_refl _) (.cells #[.slice none 0 0] 25)).alloc (by simp) (.cells #[.slice none 0 0] 25)).trans (b_.mono (by simp; omega)))
  simp only [World.size_alloc] at r_ b_ s_
  have z1 : w.heap.size + 3 ≤ w1.heap.size := (by omega)
  have HR := Lib.hid r_
  clear r_ b_ s_ HY
  go_wp2_with fail
  refine (spec_l20Beats (w.heap.size + 1 + 1) 0 9 w1 HR.out (by omega) (by omega)).mono ?_
  rintro e w2 ⟨A2, c2, ys, rfl, hl2, hc2, rd2, lo2, hr2, g2⟩
  have z2 := g2.size
  replace HK := Lib.hid ((HK.out.only g2 (by omega)).alloc (.cells #[.slice A2 ys.length c2] 25))
  replace HK2 := Lib.hid ((HK2.out.only g2 (by omega)).alloc (.cells #[.slice A2 ys.length c2] 25))
  replace HB := Lib.hid ((below_only HB.out g2 (by omega) (by omega)).alloc (by omega) (.cells #[.slice A2 ys.length c2] 25))
  replace HR := Lib.hid ((hr2.more (show 0 + 60 ≤ 60 by omega)).alloc1 (.cells #[.slice A2 ys.length c2] 25))
  have HS := Lib.hid (Blk.new w2 25 #[.slice A2 ys.length c2])
  have HD := Lib.hid (rd2.al (Nat.le_refl _) (.cells #[.slice A2 ys.length c2] 25))
  have HL := Lib.hid lo2
  clear hr2 g2 rd2 lo2
  have hlt : w.heap.size + 2 < w2.heap.size := by omega
  go_wp2_with fail
  have zz : w2.heap.size + 1 ≤ (w2.alloc (.cells #[.slice A2 ys.length c2] 25)).heap.size := by simp
  generalize w2.alloc (.cells #[.slice A2 ys.length c2] 25) = w3 at *
  refine (l20_pk (w.heap.size + 2) 60 2 w3 HR.out (by omega) (by omega)).mono ?_
  rintro e w4 ⟨k4, rfl, hk4, r4, g4⟩
  have z4 := g4.size
  replace HK := Lib.hid (HK.out.only g4 (by omega))
  replace HK2 := Lib.hid (HK2.out.only g4 (by omega))
  replace HS := Lib.hid (HS.out.only g4 (by omega))
  replace HB := Lib.hid (below_only HB.out g4 (by omega) (by omega))
  replace HR := Lib.hid (r4.more (show 60 + 1 ≤ 61 + 60 * 0 by omega))
  have hd4 : RdBo w4 w2.heap.size A2 ys := ⟨HD.out.1, fun hn => by
    obtain ⟨b, off, e, hb, hcc⟩ := HD.out.2 hn
    have h1 := HL.out b off e
    exact ⟨b, off, e, hb, fun j u hu => (World.cell?_of_block (a := ⟨b, off + j, none⟩) (g4.block b (by omega) (by simp; omega))).trans (hcc j u hu)⟩⟩
  replace HD := Lib.hid hd4
  clear r4 g4 hd4
  rcases (show k4 = 0 ∨ k4 = 1 by omega) with rfl | rfl
  · go_upto_region 4 with (fail)
    have hokX : Cx.ok ⟨(w.heap.size + 2), 61, 60, w4, w, [(w2.heap.size, 25, #[.slice A2 ys.length c2])], [⟨5, w.heap.size, 25, 1⟩, ⟨6, w.heap.size + 1, 25, 1⟩]⟩ := by
      refine ⟨by dsimp only; omega, ?_, ?_, ?_⟩ <;> simp <;> (try omega)
    refine region_draws rfl ⟨(w.heap.size + 2), 61, 60, w4, w, [(w2.heap.size, 25, #[.slice A2 ys.length c2])], [⟨5, w.heap.size, 25, 1⟩, ⟨6, w.heap.size + 1, 25, 1⟩]⟩ 5 21 [some 13, some 14, some 15, some 16, some 17, none, none]
      [FEq (.agg #[.slice A2 ys.length c2]), FEq (.agg #[.slice A2 ys.length c2]), FEq (.pointer (some ⟨w.heap.size + 2, 0, none⟩)), FInt (0) (8), FPat w4.heap.size, FBlk (w.heap.size) 25 (fun cs _ => cs = #[.slice A2 ys.length c2]), FBlk (w.heap.size + 1) 25 (NPat w4.heap.size)] (by kernel_rfl) (by kernel_rfl) ?_ ?_ ?_ ?_
    · exact ⟨stay_eq, stay_eq, stay_eq, stay_int, stay_pat, (stay_blk_eq ⟨5, w.heap.size, 25, 1⟩ (by simp) rfl), (stay_blk ⟨6, w.heap.size + 1, 25, 1⟩ (by simp) rfl (stayN_pat (x := ⟨(w.heap.size + 2), 61, 60, w4, w, [(w2.heap.size, 25, #[.slice A2 ys.length c2])], [⟨5, w.heap.size, 25, 1⟩, ⟨6, w.heap.size + 1, 25, 1⟩]⟩))), trivial⟩
    · exact ⟨fun _ => HR.out, only_of_below HB.out _, Nat.le_refl _, by simp; exact HS.out, by simp; exact ⟨⟨_, HK.out, rfl⟩, ⟨_, HK2.out, rfl⟩⟩, fun _ _ _ _ => rfl⟩
    · refine AllI.cons ?_ (AllI.cons ?_ (AllI.cons ?_ (AllI.cons ?_ (AllI.cons ?_ (AllI.cons ?_ (AllI.cons ?_ trivial))))))
      · intro kk bb ff ww hkk hf hd hp hq hJ
        refine .inl ⟨wanted_none rfl, ?_⟩
        have q5 : FEq (.pointer (some ⟨w2.heap.size, 0, none⟩)) (ff 5) ww := (hf 5 (by decide)).trans rfl
        unfold FEq at q5
        have hb : Blk ww w2.heap.size 25 #[.slice A2 ys.length c2] := hJ.2.2.2.1 (w2.heap.size, 25, #[.slice A2 ys.length c2]) (by simp)
        have c0 : ww.cell? ⟨w2.heap.size, 0, none⟩ = some (.slice A2 ys.length c2) := hb.cell 0
        refine si_val (.agg #[.slice A2 ys.length c2]) hJ ?_ rfl
        simp only [execOp, ev_tmp _ _ (show 5 < 21 by decide), ev_const, q5]
        simp [go_sem, c0]
      · intro kk bb ff ww hkk hf hd hp hq hJ
        refine .inl ⟨wanted_none rfl, ?_⟩
        have q5 : FEq (.pointer (some ⟨w2.heap.size, 0, none⟩)) (ff 5) ww := (hf 5 (by decide)).trans rfl
        unfold FEq at q5
        have hb : Blk ww w2.heap.size 25 #[.slice A2 ys.length c2] := hJ.2.2.2.1 (w2.heap.size, 25, #[.slice A2 ys.length c2]) (by simp)
        have c0 : ww.cell? ⟨w2.heap.size, 0, none⟩ = some (.slice A2 ys.length c2) := hb.cell 0
        refine si_val (.agg #[.slice A2 ys.length c2]) hJ ?_ rfl
        simp only [execOp, ev_tmp _ _ (show 5 < 21 by decide), ev_const, q5]
        simp [go_sem, c0]
      · intro kk bb ff ww hkk hf hd hp hq hJ
        refine .inl ⟨wanted_none rfl, ?_⟩
        have q : FEq (.pointer (some ⟨w.heap.size + 2, 0, none⟩)) (ff 4) ww := (hf 4 (by decide)).trans rfl
        exact si_val (ff 4) hJ (by simp only [execOp, ev_tmp _ _ (show 4 < 21 by decide)]; rfl) q
      · intro kk bb ff ww hkk hf hd hp hq hJ
        refine .inl ⟨wanted_none rfl, ?_⟩
        obtain ⟨p0, -⟩ := hd
        have q15 : FEq (.pointer (some ⟨w.heap.size + 2, 0, none⟩)) (ff 15) ww := p0 rfl
        unfold FEq at q15
        have hkk2 : kk < 7 := hkk
        refine si_enter 35 #[.pointer (some ⟨w.heap.size + 2, 0, none⟩), .int .i64 (9)] hokX hJ (.inl (hp [4] (by kernel_rfl))) ?_ ?_
        · simp only [execOp, ev_tmp _ _ (show 15 < 21 by decide), ev_const, q15, ev_func, resolve, List.map_toArray, List.map_cons, List.map_nil]
          simp [go_sem]
        · intro hrd
          dsimp only at hrd
          exact pk_post (l20_pk (w.heap.size + 2) (61 + 60 * kk) 9 ww hrd (by omega) (by omega)) (by dsimp only; omega) (by omega)
      · intro kk bb ff ww hkk hf hd hp hq hJ
        refine .inl ⟨wanted_none rfl, ?_⟩
        obtain ⟨p0, p1, p2, -⟩ := hd
        have q14 : FEq (.agg #[.slice A2 ys.length c2]) (ff 14) ww := p0 rfl
        unfold FEq at q14
        have q16 : FInt (0) (8) (ff 16) ww := p1 rfl
        obtain ⟨z16, q16, zl16, zh16⟩ := q16
        have hkk2 : kk < 7 := hkk
        refine si_enter 26 #[.agg #[.slice A2 ys.length c2], .int .i64 z16] hokX hJ (.inl (hp [] (by kernel_rfl))) ?_ ?_
        · simp only [execOp, ev_tmp _ _ (show 14 < 21 by decide), ev_tmp _ _ (show 16 < 21 by decide), ev_const, q14, q16, ev_func, resolve, List.map_toArray, List.map_cons, List.map_nil]
          simp [go_sem]
        · intro hrd
          dsimp only at hrd
          have hp4 : RdBo ww ww.heap.size A2 ys := ⟨HD.out.1, fun hn => by
            obtain ⟨b, off, e, hb, hcc⟩ := HD.out.2 hn
            have h1 := HL.out b off e
            have h2 := hJ.2.2.1
            dsimp only at h2
            exact ⟨b, off, e, by omega, fun j u hu => (World.cell?_of_block (a := ⟨b, off + j, none⟩) (hJ.2.2.2.2.2 b (by dsimp only; omega) (by dsimp only; omega) (by simp; omega))).trans (hcc j u hu)⟩⟩
          exact tp_post (spec_TurnPattern A2 c2 ys _ ww hp4 (by omega)) hrd (by have := turnL_len ys (z16); omega) (by dsimp only; omega) (by have := hJ.2.2.1; exact this)
      · intro kk bb ff ww hkk hf hd hp hq hJ
        refine .inl ⟨wanted_none rfl, ?_⟩
        obtain ⟨p0, p1, p2, -, -, -, -, -⟩ := hd
        have q2 : FEq (.pointer (some ⟨w.heap.size, 0, none⟩)) (ff 2) ww := (hf 2 (by decide)).trans rfl
        unfold FEq at q2
        have q13 : FEq (.agg #[.slice A2 ys.length c2]) (ff 13) ww := p0 rfl
        unfold FEq at q13
        obtain ⟨cs, hb, hsz⟩ := hJ.2.2.2.2.1 ⟨5, w.heap.size, 25, 1⟩ (by simp)
        dsimp only at hb hsz
        obtain ⟨d0, rfl⟩ := arr1 hsz
        have c0 : ww.cell? ⟨w.heap.size, 0, none⟩ = some d0 := hb.cell 0
        have f0 := hb.frozen 0
        refine si_store ⟨5, w.heap.size, 25, 1⟩ (by simp) rfl #[.slice A2 ys.length c2] (ww.setCell ⟨w.heap.size, 0, none⟩ (.slice A2 ys.length c2)) hokX hJ ?_ (fun j hj => by simp [Below.heap_setCell, hj, Ne.symm hj]) (by simp [World.setCell]) (hb.set_ 0 _) rfl ⟨rfl, rfl, rfl⟩ ⟨_, (hb.set_ 0 _), rfl⟩ (by simp)
        simp only [execOp, ev_tmp _ _ (show 2 < 21 by decide), ev_tmp _ _ (show 13 < 21 by decide), ev_const, q2, q13]
        simp [go_sem, c0, f0]
      · intro kk bb ff ww hkk hf hd hp hq hJ
        refine .inl ⟨wanted_none rfl, ?_⟩
        obtain ⟨p0, p1, p2, p3, p4, p5, p6, p7, -⟩ := hd
        have q3 : FEq (.pointer (some ⟨w.heap.size + 1, 0, none⟩)) (ff 3) ww := (hf 3 (by decide)).trans rfl
        unfold FEq at q3
        have q17 : FPat w4.heap.size (ff 17) ww := p0 rfl
        obtain ⟨A17, d17, zs17, q17, la17, lb17, rd17, lo17⟩ := q17
        obtain ⟨cs, hb, hsz⟩ := hJ.2.2.2.2.1 ⟨6, w.heap.size + 1, 25, 1⟩ (by simp)
        dsimp only at hb hsz
        obtain ⟨d0, rfl⟩ := arr1 hsz
        have c0 : ww.cell? ⟨w.heap.size + 1, 0, none⟩ = some d0 := hb.cell 0
        have f0 := hb.frozen 0
        refine si_store ⟨6, w.heap.size + 1, 25, 1⟩ (by simp) rfl #[.slice A17 zs17.length d17] (ww.setCell ⟨w.heap.size + 1, 0, none⟩ (.slice A17 zs17.length d17)) hokX hJ ?_ (fun j hj => by simp [Below.heap_setCell, hj, Ne.symm hj]) (by simp [World.setCell]) (hb.set_ 0 _) rfl ⟨rfl, rfl, rfl⟩ ⟨_, (hb.set_ 0 _), ⟨A17, d17, zs17, rfl, la17, lb17, RdBo.more (rd17.setFar (fun b off e => by have := lo17 b off e; simp; omega) _) (by simp [World.setCell]), lo17⟩⟩ (by rw [hq [] (by kernel_rfl)]; rfl)
        simp only [execOp, ev_tmp _ _ (show 3 < 21 by decide), ev_tmp _ _ (show 17 < 21 by decide), ev_const, q3, q17]
        simp [go_sem, c0, f0]
    intro ff w5 hf hd hJ
    have hfr : fr 21 ff = #[ff 0, ff 1, ff 2, ff 3, ff 4, ff 5, ff 6, ff 7, ff 8, ff 9, ff 10, ff 11, ff 12, ff 13, ff 14, ff 15, ff 16, ff 17, ff 18, ff 19, ff 20] := rfl
    rw [hfr]; clear hfr
    dsimp only
    have q0_ := hf 0 (by decide)
    have q1_ := hf 1 (by decide)
    have q2_ := hf 2 (by decide)
    have q3_ := hf 3 (by decide)
    have q4_ := hf 4 (by decide)
    have q5_ := hf 5 (by decide)
    have q6_ := hf 6 (by decide)
    have q7_ := hf 7 (by decide)
    have q8_ := hf 8 (by decide)
    have q9_ := hf 9 (by decide)
    have q10_ := hf 10 (by decide)
    have q11_ := hf 11 (by decide)
    have q12_ := hf 12 (by decide)
    have q13_ : FEq (.agg #[.slice A2 ys.length c2]) (ff 13) w5 := hd 0 (by decide)
    unfold FEq at q13_
    have q14_ : FEq (.agg #[.slice A2 ys.length c2]) (ff 14) w5 := hd 1 (by decide)
    unfold FEq at q14_
    have q15_ : FEq (.pointer (some ⟨w.heap.size + 2, 0, none⟩)) (ff 15) w5 := hd 2 (by decide)
    unfold FEq at q15_
    have q18_ := hf 18 (by decide)
    have q19_ := hf 19 (by decide)
    have q20_ := hf 20 (by decide)
    simp only [Array.getD_eq_getD_getElem?, List.getElem?_toArray, List.getElem?_cons_zero, List.getElem?_cons_succ, Option.getD_some] at q0_ q1_ q2_ q3_ q4_ q5_ q6_ q7_ q8_ q9_ q10_ q11_ q12_ q18_ q19_ q20_
    have qb0_ : ∃ v, FBlk (w.heap.size) 25 (fun cs _ => cs = #[.slice A2 ys.length c2]) v w5 := hd 5 (by decide)
    obtain ⟨_, _, qb0_, rfl⟩ := qb0_
    have qb0_ : Blk w5 w.heap.size 25 #[.slice A2 ys.length c2] := qb0_
    have qb1_ : ∃ v, FBlk (w.heap.size + 1) 25 (NPat w4.heap.size) v w5 := hd 6 (by decide)
    obtain ⟨_, cb1_, qb1_, nb1_⟩ := qb1_
    rw [q0_, q1_, q2_, q3_, q4_, q5_, q6_, q7_, q8_, q9_, q10_, q11_, q12_, q13_, q14_, q15_, q18_, q19_, q20_]
    clear q0_ q1_ q2_ q3_ q4_ q5_ q6_ q7_ q8_ q9_ q10_ q11_ q12_ q13_ q14_ q15_ q18_ q19_ q20_ hf hd
    generalize ff 16 = v16_
    generalize ff 17 = v17_
    clear ff
    have g_ := hJ.2.1
    have z_ := hJ.2.2.1
    have b0_ : Blk w5 w2.heap.size 25 #[.slice A2 ys.length c2] := hJ.2.2.2.1 (w2.heap.size, 25, #[.slice A2 ys.length c2]) (by simp)
    have k_ := hJ.2.2.2.2.2
    clear hJ hokX
    dsimp only at g_ z_ k_
    replace HB := Lib.hid (below_of_only g_ (by omega)); clear g_ b0_
    obtain ⟨A5, c5, xs, rfl, hl5, hc5, rd5, lo5⟩ := nb1_
    have c0 : w5.cell? ⟨w.heap.size, 0, none⟩ = some (.slice A2 ys.length c2) := qb0_.cell 0
    have c1 : w5.cell? ⟨w.heap.size + 1, 0, none⟩ = some (.slice A5 xs.length c5) := qb1_.cell 0
    clear qb0_ qb1_
    have hd5 : RdBo w5 w2.heap.size A2 ys := ⟨HD.out.1, fun hn => by
      obtain ⟨b, off, e, hb, hcc⟩ := HD.out.2 hn
      have h1 := HL.out b off e
      exact ⟨b, off, e, hb, fun j u hu => (World.cell?_of_block (a := ⟨b, off + j, none⟩) (k_ b (by omega) (by omega) (by simp; omega))).trans (hcc j u hu)⟩⟩
    clear k_
    go_wp2_with fail
    refine bodyPost_ret (v := .tuple #[.agg #[.slice A2 ys.length c2], .agg #[.slice A5 xs.length c5]]) (by simp [results, Try.results27, go_sem, c0, c1]) rfl ⟨_, _, _, _, _, _, rfl, ⟨hl2, hl5⟩, RdBo.more hd5 (by omega), rd5, HB.out⟩
  · go_upto_region 5 with (fail)
    have hokX : Cx.ok ⟨(w.heap.size + 2), 61, 60, w4, w, [(w2.heap.size, 25, #[.slice A2 ys.length c2])], [⟨3, w.heap.size, 25, 1⟩, ⟨4, w.heap.size + 1, 25, 1⟩]⟩ := by
      refine ⟨by dsimp only; omega, ?_, ?_, ?_⟩ <;> simp <;> (try omega)
    refine region_draws rfl ⟨(w.heap.size + 2), 61, 60, w4, w, [(w2.heap.size, 25, #[.slice A2 ys.length c2])], [⟨3, w.heap.size, 25, 1⟩, ⟨4, w.heap.size + 1, 25, 1⟩]⟩ 3 21 [some 18, some 19, some 20, none, none]
      [FEq (.agg #[.slice A2 ys.length c2]), FEq (.pointer (some ⟨w.heap.size + 2, 0, none⟩)), FPat w4.heap.size, FBlk (w.heap.size) 25 (fun cs _ => cs = #[.slice A2 ys.length c2]), FBlk (w.heap.size + 1) 25 (NPat w4.heap.size)] (by kernel_rfl) (by kernel_rfl) ?_ ?_ ?_ ?_
    · exact ⟨stay_eq, stay_eq, stay_pat, (stay_blk_eq ⟨3, w.heap.size, 25, 1⟩ (by simp) rfl), (stay_blk ⟨4, w.heap.size + 1, 25, 1⟩ (by simp) rfl (stayN_pat (x := ⟨(w.heap.size + 2), 61, 60, w4, w, [(w2.heap.size, 25, #[.slice A2 ys.length c2])], [⟨3, w.heap.size, 25, 1⟩, ⟨4, w.heap.size + 1, 25, 1⟩]⟩))), trivial⟩
    · exact ⟨fun _ => HR.out, only_of_below HB.out _, Nat.le_refl _, by simp; exact HS.out, by simp; exact ⟨⟨_, HK.out, rfl⟩, ⟨_, HK2.out, rfl⟩⟩, fun _ _ _ _ => rfl⟩
    · refine AllI.cons ?_ (AllI.cons ?_ (AllI.cons ?_ (AllI.cons ?_ (AllI.cons ?_ trivial))))
      · intro kk bb ff ww hkk hf hd hp hq hJ
        refine .inl ⟨wanted_none rfl, ?_⟩
        have q5 : FEq (.pointer (some ⟨w2.heap.size, 0, none⟩)) (ff 5) ww := (hf 5 (by decide)).trans rfl
        unfold FEq at q5
        have hb : Blk ww w2.heap.size 25 #[.slice A2 ys.length c2] := hJ.2.2.2.1 (w2.heap.size, 25, #[.slice A2 ys.length c2]) (by simp)
        have c0 : ww.cell? ⟨w2.heap.size, 0, none⟩ = some (.slice A2 ys.length c2) := hb.cell 0
        refine si_val (.agg #[.slice A2 ys.length c2]) hJ ?_ rfl
        simp only [execOp, ev_tmp _ _ (show 5 < 21 by decide), ev_const, q5]
        simp [go_sem, c0]
      · intro kk bb ff ww hkk hf hd hp hq hJ
        refine .inl ⟨wanted_none rfl, ?_⟩
        have q : FEq (.pointer (some ⟨w.heap.size + 2, 0, none⟩)) (ff 4) ww := (hf 4 (by decide)).trans rfl
        exact si_val (ff 4) hJ (by simp only [execOp, ev_tmp _ _ (show 4 < 21 by decide)]; rfl) q
      · intro kk bb ff ww hkk hf hd hp hq hJ
        refine .inl ⟨wanted_none rfl, ?_⟩
        obtain ⟨p0, -⟩ := hd
        have q19 : FEq (.pointer (some ⟨w.heap.size + 2, 0, none⟩)) (ff 19) ww := p0 rfl
        unfold FEq at q19
        have hkk2 : kk < 5 := hkk
        refine si_enter 30 #[.pointer (some ⟨w.heap.size + 2, 0, none⟩), .int .i64 (9)] hokX hJ (.inl (hp [] (by kernel_rfl))) ?_ ?_
        · simp only [execOp, ev_tmp _ _ (show 19 < 21 by decide), ev_const, q19, ev_func, resolve, List.map_toArray, List.map_cons, List.map_nil]
          simp [go_sem]
        · intro hrd
          dsimp only at hrd
          exact be_post (spec_l20Beats (w.heap.size + 2) (61 + 60 * kk) 9 ww hrd (by omega) (by omega)) (by dsimp only; omega) (by have := hJ.2.2.1; exact this)
      · intro kk bb ff ww hkk hf hd hp hq hJ
        refine .inl ⟨wanted_none rfl, ?_⟩
        obtain ⟨p0, p1, p2, -, -, -⟩ := hd
        have q2 : FEq (.pointer (some ⟨w.heap.size, 0, none⟩)) (ff 2) ww := (hf 2 (by decide)).trans rfl
        unfold FEq at q2
        have q18 : FEq (.agg #[.slice A2 ys.length c2]) (ff 18) ww := p0 rfl
        unfold FEq at q18
        obtain ⟨cs, hb, hsz⟩ := hJ.2.2.2.2.1 ⟨3, w.heap.size, 25, 1⟩ (by simp)
        dsimp only at hb hsz
        obtain ⟨d0, rfl⟩ := arr1 hsz
        have c0 : ww.cell? ⟨w.heap.size, 0, none⟩ = some d0 := hb.cell 0
        have f0 := hb.frozen 0
        refine si_store ⟨3, w.heap.size, 25, 1⟩ (by simp) rfl #[.slice A2 ys.length c2] (ww.setCell ⟨w.heap.size, 0, none⟩ (.slice A2 ys.length c2)) hokX hJ ?_ (fun j hj => by simp [Below.heap_setCell, hj, Ne.symm hj]) (by simp [World.setCell]) (hb.set_ 0 _) rfl ⟨rfl, rfl, rfl⟩ ⟨_, (hb.set_ 0 _), rfl⟩ (by simp)
        simp only [execOp, ev_tmp _ _ (show 2 < 21 by decide), ev_tmp _ _ (show 18 < 21 by decide), ev_const, q2, q18]
        simp [go_sem, c0, f0]
      · intro kk bb ff ww hkk hf hd hp hq hJ
        refine .inl ⟨wanted_none rfl, ?_⟩
        obtain ⟨p0, p1, p2, p3, p4, p5, -⟩ := hd
        have q3 : FEq (.pointer (some ⟨w.heap.size + 1, 0, none⟩)) (ff 3) ww := (hf 3 (by decide)).trans rfl
        unfold FEq at q3
        have q20 : FPat w4.heap.size (ff 20) ww := p0 rfl
        obtain ⟨A20, d20, zs20, q20, la20, lb20, rd20, lo20⟩ := q20
        obtain ⟨cs, hb, hsz⟩ := hJ.2.2.2.2.1 ⟨4, w.heap.size + 1, 25, 1⟩ (by simp)
        dsimp only at hb hsz
        obtain ⟨d0, rfl⟩ := arr1 hsz
        have c0 : ww.cell? ⟨w.heap.size + 1, 0, none⟩ = some d0 := hb.cell 0
        have f0 := hb.frozen 0
        refine si_store ⟨4, w.heap.size + 1, 25, 1⟩ (by simp) rfl #[.slice A20 zs20.length d20] (ww.setCell ⟨w.heap.size + 1, 0, none⟩ (.slice A20 zs20.length d20)) hokX hJ ?_ (fun j hj => by simp [Below.heap_setCell, hj, Ne.symm hj]) (by simp [World.setCell]) (hb.set_ 0 _) rfl ⟨rfl, rfl, rfl⟩ ⟨_, (hb.set_ 0 _), ⟨A20, d20, zs20, rfl, la20, lb20, RdBo.more (rd20.setFar (fun b off e => by have := lo20 b off e; simp; omega) _) (by simp [World.setCell]), lo20⟩⟩ (by rw [hq [] (by kernel_rfl)]; rfl)
        simp only [execOp, ev_tmp _ _ (show 3 < 21 by decide), ev_tmp _ _ (show 20 < 21 by decide), ev_const, q3, q20]
        simp [go_sem, c0, f0]
    intro ff w5 hf hd hJ
    have hfr : fr 21 ff = #[ff 0, ff 1, ff 2, ff 3, ff 4, ff 5, ff 6, ff 7, ff 8, ff 9, ff 10, ff 11, ff 12, ff 13, ff 14, ff 15, ff 16, ff 17, ff 18, ff 19, ff 20] := rfl
    rw [hfr]; clear hfr
    dsimp only
    have q0_ := hf 0 (by decide)
    have q1_ := hf 1 (by decide)
    have q2_ := hf 2 (by decide)
    have q3_ := hf 3 (by decide)
    have q4_ := hf 4 (by decide)
    have q5_ := hf 5 (by decide)
    have q6_ := hf 6 (by decide)
    have q7_ := hf 7 (by decide)
    have q8_ := hf 8 (by decide)
    have q9_ := hf 9 (by decide)
    have q10_ := hf 10 (by decide)
    have q11_ := hf 11 (by decide)
    have q12_ := hf 12 (by decide)
    have q13_ := hf 13 (by decide)
    have q14_ := hf 14 (by decide)
    have q15_ := hf 15 (by decide)
    have q16_ := hf 16 (by decide)
    have q17_ := hf 17 (by decide)
    have q18_ : FEq (.agg #[.slice A2 ys.length c2]) (ff 18) w5 := hd 0 (by decide)
    unfold FEq at q18_
    have q19_ : FEq (.pointer (some ⟨w.heap.size + 2, 0, none⟩)) (ff 19) w5 := hd 1 (by decide)
    unfold FEq at q19_
    simp only [Array.getD_eq_getD_getElem?, List.getElem?_toArray, List.getElem?_cons_zero, List.getElem?_cons_succ, Option.getD_some] at q0_ q1_ q2_ q3_ q4_ q5_ q6_ q7_ q8_ q9_ q10_ q11_ q12_ q13_ q14_ q15_ q16_ q17_
    have qb0_ : ∃ v, FBlk (w.heap.size) 25 (fun cs _ => cs = #[.slice A2 ys.length c2]) v w5 := hd 3 (by decide)
    obtain ⟨_, _, qb0_, rfl⟩ := qb0_
    have qb0_ : Blk w5 w.heap.size 25 #[.slice A2 ys.length c2] := qb0_
    have qb1_ : ∃ v, FBlk (w.heap.size + 1) 25 (NPat w4.heap.size) v w5 := hd 4 (by decide)
    obtain ⟨_, cb1_, qb1_, nb1_⟩ := qb1_
    rw [q0_, q1_, q2_, q3_, q4_, q5_, q6_, q7_, q8_, q9_, q10_, q11_, q12_, q13_, q14_, q15_, q16_, q17_, q18_, q19_]
    clear q0_ q1_ q2_ q3_ q4_ q5_ q6_ q7_ q8_ q9_ q10_ q11_ q12_ q13_ q14_ q15_ q16_ q17_ q18_ q19_ hf hd
    generalize ff 20 = v20_
    clear ff
    have g_ := hJ.2.1
    have z_ := hJ.2.2.1
    have b0_ : Blk w5 w2.heap.size 25 #[.slice A2 ys.length c2] := hJ.2.2.2.1 (w2.heap.size, 25, #[.slice A2 ys.length c2]) (by simp)
    have k_ := hJ.2.2.2.2.2
    clear hJ hokX
    dsimp only at g_ z_ k_
    replace HB := Lib.hid (below_of_only g_ (by omega)); clear g_ b0_
    obtain ⟨A5, c5, xs, rfl, hl5, hc5, rd5, lo5⟩ := nb1_
    have c0 : w5.cell? ⟨w.heap.size, 0, none⟩ = some (.slice A2 ys.length c2) := qb0_.cell 0
    have c1 : w5.cell? ⟨w.heap.size + 1, 0, none⟩ = some (.slice A5 xs.length c5) := qb1_.cell 0
    clear qb0_ qb1_
    have hd5 : RdBo w5 w2.heap.size A2 ys := ⟨HD.out.1, fun hn => by
      obtain ⟨b, off, e, hb, hcc⟩ := HD.out.2 hn
      have h1 := HL.out b off e
      exact ⟨b, off, e, hb, fun j u hu => (World.cell?_of_block (a := ⟨b, off + j, none⟩) (k_ b (by omega) (by omega) (by simp; omega))).trans (hcc j u hu)⟩⟩
    clear k_
    go_wp2_with fail
    refine bodyPost_ret (v := .tuple #[.agg #[.slice A2 ys.length c2], .agg #[.slice A5 xs.length c5]]) (by simp [results, Try.results27, go_sem, c0, c1]) rfl ⟨_, _, _, _, _, _, rfl, ⟨hl2, hl5⟩, RdBo.more hd5 (by omega), rd5, HB.out⟩
end Go.Proofs.Ytelajonddhoafaa
