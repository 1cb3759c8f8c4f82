/-
  FnExactToneSamples returns true for every input and leaves its arguments as they were. No condition.
-/
import Derived.Test.YtkbobojoijnnaaaTone
import Derived.Test.YtkbobojoijnnaaaFrame
namespace Go.Proofs.Ytkbobojoijnnaaa.fnExactToneSamples
open Go.ChangeShapes Go.WideShapes Go.ChangeAt Go.RowKit
open Go.ChangeMaps (open_string shut_string)
set_option linter.unusedVariables false

set_option maxHeartbeats 4000000 in
theorem core (w : World) (y : Int) (f : Int) (s0 : Int) (s1 : Int) (s2 : Int) (s3 : Int) (h : Int) (m : Int) (w_y : Fits y) (w_f : Fits f) (w_s0 : Fits s0) (w_s1 : Fits s1) (w_s2 : Fits s2) (w_s3 : Fits s3) (w_h : Fits h) (w_m : Fits m) :
    Calls Try.prog 12 #[.int .i64 y, .int .i64 f, .agg #[.int .i64 s0, .int .i64 s1, .int .i64 s2, .int .i64 s3], .int .i64 h, .int .i64 m] w (RetB w true) := by
  have hL : Hid ((toneL y f s0 s1 s2 s3 h m).length ≤ 1048576) := by unfold Hid; have := toneL_len y f s0 s1 s2 s3 h m; omega
  have hs := sameI_refl (toneL y f s0 s1 s2 s3 h m)
  generalize hGL : toneL y f s0 s1 s2 s3 h m = L at *
  have hm0 : decide (((1 : Int) + (L.length : Int)) < 0) = false := decide_eq_false (by have := hL.out; omega)
  have HG := Lib.hid hGL; clear hGL
  have b1 : Below w.heap.size w (w.alloc (.cells #[.int .i64 s0, .int .i64 s1, .int .i64 s2, .int .i64 s3] 25)) := by (repeat (first | exact Below.refl _ _ | refine Below.alloc ?_ (by simp; try omega) _ | refine below_drewN ?_ _ | refine Below.drew ?_))
  have z1 : w.heap.size + 1 ≤ (w.alloc (.cells #[.int .i64 s0, .int .i64 s1, .int .i64 s2, .int .i64 s3] 25)).heap.size := by simp
  have Q_s_0 : (w.alloc (.cells #[.int .i64 s0, .int .i64 s1, .int .i64 s2, .int .i64 s3] 25)).cell? ⟨w.heap.size, 0, none⟩ = some (.int .i64 s0) := by simp [go_sem]
  have Q_s_1 : (w.alloc (.cells #[.int .i64 s0, .int .i64 s1, .int .i64 s2, .int .i64 s3] 25)).cell? ⟨w.heap.size, 1, none⟩ = some (.int .i64 s1) := by simp [go_sem]
  have Q_s_2 : (w.alloc (.cells #[.int .i64 s0, .int .i64 s1, .int .i64 s2, .int .i64 s3] 25)).cell? ⟨w.heap.size, 2, none⟩ = some (.int .i64 s2) := by simp [go_sem]
  have Q_s_3 : (w.alloc (.cells #[.int .i64 s0, .int .i64 s1, .int .i64 s2, .int .i64 s3] 25)).cell? ⟨w.heap.size, 3, none⟩ = some (.int .i64 s3) := by simp [go_sem]
  have HB := Lib.hid b1
  clear b1
  go_enter Try.func12, Try.ntmps12
  go_wp2_with fail
  generalize (w.alloc (.cells #[.int .i64 s0, .int .i64 s1, .int .i64 s2, .int .i64 s3] 25)) = w1 at *
  refine (laws_toShape _ _ _ _ _).mono ?_
  rintro e w2 ⟨rfl, b2⟩
  have z2 := b2.size
  replace Q_s_0 := (b2.cell (p := ⟨w.heap.size, 0, none⟩) (show w.heap.size < w1.heap.size by omega)).trans Q_s_0
  replace Q_s_1 := (b2.cell (p := ⟨w.heap.size, 1, none⟩) (show w.heap.size < w1.heap.size by omega)).trans Q_s_1
  replace Q_s_2 := (b2.cell (p := ⟨w.heap.size, 2, none⟩) (show w.heap.size < w1.heap.size by omega)).trans Q_s_2
  replace Q_s_3 := (b2.cell (p := ⟨w.heap.size, 3, none⟩) (show w.heap.size < w1.heap.size by omega)).trans Q_s_3
  replace HB := Lib.hid (HB.out.trans (b2.mono (by omega)))
  clear b2
  go_wp2_with fail
  refine (spec_ToneSamples _ _ _ _ _ _ _ _ _).mono ?_
  rw [HG.out]
  rintro e w3 ⟨A3, c3, rfl, o3, b3⟩
  have z3 := b3.size
  have R_W := Lib.hid (Row.mk_ o3)
  clear o3
  replace Q_s_0 := (b3.cell (p := ⟨w.heap.size, 0, none⟩) (show w.heap.size < w2.heap.size by omega)).trans Q_s_0
  replace Q_s_1 := (b3.cell (p := ⟨w.heap.size, 1, none⟩) (show w.heap.size < w2.heap.size by omega)).trans Q_s_1
  replace Q_s_2 := (b3.cell (p := ⟨w.heap.size, 2, none⟩) (show w.heap.size < w2.heap.size by omega)).trans Q_s_2
  replace Q_s_3 := (b3.cell (p := ⟨w.heap.size, 3, none⟩) (show w.heap.size < w2.heap.size by omega)).trans Q_s_3
  replace HB := Lib.hid (HB.out.trans (b3.mono (by omega)))
  clear b3
  go_wp2_with fail
  refine (laws_toShape _ _ _ _ _).mono ?_
  rintro e w4 ⟨rfl, b4⟩
  have z4 := b4.size
  replace R_W := Lib.hid (R_W.out.below b4 (by omega))
  replace Q_s_0 := (b4.cell (p := ⟨w.heap.size, 0, none⟩) (show w.heap.size < w3.heap.size by omega)).trans Q_s_0
  replace Q_s_1 := (b4.cell (p := ⟨w.heap.size, 1, none⟩) (show w.heap.size < w3.heap.size by omega)).trans Q_s_1
  replace Q_s_2 := (b4.cell (p := ⟨w.heap.size, 2, none⟩) (show w.heap.size < w3.heap.size by omega)).trans Q_s_2
  replace Q_s_3 := (b4.cell (p := ⟨w.heap.size, 3, none⟩) (show w.heap.size < w3.heap.size by omega)).trans Q_s_3
  replace HB := Lib.hid (HB.out.trans (b4.mono (by omega)))
  clear b4
  go_wp2_with fail
  refine (impl_ToneSamples _ _ _ _ _ _ _ _ _).mono ?_
  rw [HG.out]
  rintro e w5 ⟨A5, c5, rfl, o5, b5⟩
  have z5 := b5.size
  have R_G := Lib.hid (Row.mk_ o5)
  clear o5
  replace R_W := Lib.hid (R_W.out.below b5 (by omega))
  replace Q_s_0 := (b5.cell (p := ⟨w.heap.size, 0, none⟩) (show w.heap.size < w4.heap.size by omega)).trans Q_s_0
  replace Q_s_1 := (b5.cell (p := ⟨w.heap.size, 1, none⟩) (show w.heap.size < w4.heap.size by omega)).trans Q_s_1
  replace Q_s_2 := (b5.cell (p := ⟨w.heap.size, 2, none⟩) (show w.heap.size < w4.heap.size by omega)).trans Q_s_2
  replace Q_s_3 := (b5.cell (p := ⟨w.heap.size, 3, none⟩) (show w.heap.size < w4.heap.size by omega)).trans Q_s_3
  replace HB := Lib.hid (HB.out.trans (b5.mono (by omega)))
  clear b5
  go_wp2_with fail
  refine (laws_eqIntS _ _ _ _ _ _ _ (R_G.out.rdI.more (by omega)) (R_W.out.rdI.more (by omega)) hL.out hL.out).mono ?_
  rintro e w6 ⟨rfl, b6⟩
  have z6 := b6.size
  replace R_W := Lib.hid (R_W.out.below b6 (by omega))
  replace R_G := Lib.hid (R_G.out.below b6 (by omega))
  replace Q_s_0 := (b6.cell (p := ⟨w.heap.size, 0, none⟩) (show w.heap.size < w5.heap.size by omega)).trans Q_s_0
  replace Q_s_1 := (b6.cell (p := ⟨w.heap.size, 1, none⟩) (show w.heap.size < w5.heap.size by omega)).trans Q_s_1
  replace Q_s_2 := (b6.cell (p := ⟨w.heap.size, 2, none⟩) (show w.heap.size < w5.heap.size by omega)).trans Q_s_2
  replace Q_s_3 := (b6.cell (p := ⟨w.heap.size, 3, none⟩) (show w.heap.size < w5.heap.size by omega)).trans Q_s_3
  replace HB := Lib.hid (HB.out.trans (b6.mono (by omega)))
  clear b6
  go_wp2_with fail
  refine (laws_markIntS _ _ _ _ _ _ _ R_G.out.1 hL.out (by omega) (by omega)).mono ?_; rintro e w7 ⟨rfl, o7, g7⟩
  have z7 := g7.size
  replace R_W := Lib.hid (R_W.out.far R_G.out g7 (by omega))
  replace Q_s_0 := g7.cell Q_s_0 (R_G.out.ne (show w.heap.size < _ ∨ _ ≤ w.heap.size by omega))
  replace Q_s_1 := g7.cell Q_s_1 (R_G.out.ne (show w.heap.size < _ ∨ _ ≤ w.heap.size by omega))
  replace Q_s_2 := g7.cell Q_s_2 (R_G.out.ne (show w.heap.size < _ ∨ _ ≤ w.heap.size by omega))
  replace Q_s_3 := g7.cell Q_s_3 (R_G.out.ne (show w.heap.size < _ ∨ _ ≤ w.heap.size by omega))
  replace HB := Lib.hid (below_far HB.out R_G.out g7 (by omega) (by omega))
  replace R_G := Lib.hid (R_G.out.self o7)
  clear o7 g7
  go_wp2_with fail
  refine (laws_heldIntS _ _ _ _ _ (R_G.out.rd.more (by omega)) hL.out (by omega) (by omega)).mono ?_
  rintro e w' ⟨rfl, rfl⟩
  go_wp2_with fail
  refine (laws_toShape _ _ _ _ _).mono ?_
  rintro e w8 ⟨rfl, b8⟩
  have z8 := b8.size
  replace R_W := Lib.hid (R_W.out.below b8 (by omega))
  replace R_G := Lib.hid (R_G.out.below b8 (by omega))
  replace Q_s_0 := (b8.cell (p := ⟨w.heap.size, 0, none⟩) (show w.heap.size < w7.heap.size by omega)).trans Q_s_0
  replace Q_s_1 := (b8.cell (p := ⟨w.heap.size, 1, none⟩) (show w.heap.size < w7.heap.size by omega)).trans Q_s_1
  replace Q_s_2 := (b8.cell (p := ⟨w.heap.size, 2, none⟩) (show w.heap.size < w7.heap.size by omega)).trans Q_s_2
  replace Q_s_3 := (b8.cell (p := ⟨w.heap.size, 3, none⟩) (show w.heap.size < w7.heap.size by omega)).trans Q_s_3
  replace HB := Lib.hid (HB.out.trans (b8.mono (by omega)))
  clear b8
  go_wp2_with fail
  refine (impl_ToneSamples _ _ _ _ _ _ _ _ _).mono ?_
  rw [HG.out]
  rintro e w9 ⟨A9, c9, rfl, o9, b9⟩
  have z9 := b9.size
  have R_Z := Lib.hid (Row.mk_ o9)
  clear o9
  replace R_W := Lib.hid (R_W.out.below b9 (by omega))
  replace R_G := Lib.hid (R_G.out.below b9 (by omega))
  replace Q_s_0 := (b9.cell (p := ⟨w.heap.size, 0, none⟩) (show w.heap.size < w8.heap.size by omega)).trans Q_s_0
  replace Q_s_1 := (b9.cell (p := ⟨w.heap.size, 1, none⟩) (show w.heap.size < w8.heap.size by omega)).trans Q_s_1
  replace Q_s_2 := (b9.cell (p := ⟨w.heap.size, 2, none⟩) (show w.heap.size < w8.heap.size by omega)).trans Q_s_2
  replace Q_s_3 := (b9.cell (p := ⟨w.heap.size, 3, none⟩) (show w.heap.size < w8.heap.size by omega)).trans Q_s_3
  replace HB := Lib.hid (HB.out.trans (b9.mono (by omega)))
  clear b9
  go_wp2_with fail
  refine (laws_eqIntS _ _ _ _ _ _ _ (R_Z.out.rdI.more (by omega)) (R_W.out.rdI.more (by omega)) hL.out hL.out).mono ?_
  rintro e w10 ⟨rfl, b10⟩
  have z10 := b10.size
  replace R_W := Lib.hid (R_W.out.below b10 (by omega))
  replace R_G := Lib.hid (R_G.out.below b10 (by omega))
  replace R_Z := Lib.hid (R_Z.out.below b10 (by omega))
  replace Q_s_0 := (b10.cell (p := ⟨w.heap.size, 0, none⟩) (show w.heap.size < w9.heap.size by omega)).trans Q_s_0
  replace Q_s_1 := (b10.cell (p := ⟨w.heap.size, 1, none⟩) (show w.heap.size < w9.heap.size by omega)).trans Q_s_1
  replace Q_s_2 := (b10.cell (p := ⟨w.heap.size, 2, none⟩) (show w.heap.size < w9.heap.size by omega)).trans Q_s_2
  replace Q_s_3 := (b10.cell (p := ⟨w.heap.size, 3, none⟩) (show w.heap.size < w9.heap.size by omega)).trans Q_s_3
  replace HB := Lib.hid (HB.out.trans (b10.mono (by omega)))
  clear b10
  clear R_Z
  clear R_W
  go_wp2_with fail
  refine (laws_heldIntS _ _ _ _ _ (R_G.out.rd.more (by omega)) hL.out (by omega) (by omega)).mono ?_
  rintro e w' ⟨rfl, rfl⟩
  go_wp2_with fail
  go_ret
  exact ⟨rfl, HB.out⟩
theorem walk (w : World) (y : Int) (w_y : Fits y) (f : Int) (w_f : Fits f) (s0 : Int) (w_s0 : Fits s0) (s1 : Int) (w_s1 : Fits s1) (s2 : Int) (w_s2 : Fits s2) (s3 : Int) (w_s3 : Fits s3) (h : Int) (w_h : Fits h) (m : Int) (w_m : Fits m) :
    Calls Try.prog 12 #[.int .i64 y, .int .i64 f, .agg #[.int .i64 s0, .int .i64 s1, .int .i64 s2, .int .i64 s3], .int .i64 h, .int .i64 m] w (RetB w true) := by
  exact core w y f s0 s1 s2 s3 h m w_y w_f w_s0 w_s1 w_s2 w_s3 w_h w_m

set_option maxRecDepth 100000 in
theorem lifted (os : Os) (started : os.Started) (H : Type) (enc : TypeId × Value → H) :
    ReturnsInHanded {} Try.checked os 12 .any (Rows.fnExactToneSamplesSpec.pre6 enc Try.prog Try.f12 Rows.fnExactToneSamplesRow.domain false) (Rows.fnExactToneSamplesSpec.post enc Try.prog Try.f12 false true false false) := by
  refine returnsInHanded_of_change (C := Try.checked) own started (by kernel_rfl) Try.func12
    (ChangeSpec.witness6 (enc := enc) (C := Try.checked) false ⟨#[], #[.int .i64 0, .int .i64 0, .agg #[.int .i64 0, .int .i64 0, .int .i64 0, .int .i64 0], .int .i64 0, .int .i64 0], []⟩ 8 (by kernel_rfl) (by kernel_rfl) (by kernel_rfl) (by kernel_rfl)) ?_
  intro W base args ds gs before hval0 hW hcnd _
  have hval : ∀ (j : Nat) t v, Try.f12.params[j]? = some t → args[j]? = some v → Value.okWide Try.prog W .any base t v := hval0
  have hW' := hW
  obtain ⟨p, q, hA0, hV, rfl, hfz, hnd⟩ := hW
  have hA : DataW.TrodAll enc Try.prog W 0 (fun _ => true) true Try.f12.params.toList args.toList ds p := hA0
  rw [Try.params12] at hA hval
  obtain ⟨v0, vs0, d0, ds0, p0, q0, hargs, rfl, rfl, h0, r0⟩ := trodAll_cons hA
  obtain ⟨v1, vs1, d1, ds1, p1, q1, rfl, rfl, rfl, h1, r1⟩ := trodAll_cons r0
  obtain ⟨v2, vs2, d2, ds2, p2, q2, rfl, rfl, rfl, h2, r2⟩ := trodAll_cons r1
  obtain ⟨v3, vs3, d3, ds3, p3, q3, rfl, rfl, rfl, h3, r3⟩ := trodAll_cons r2
  obtain ⟨v4, vs4, d4, ds4, p4, q4, rfl, rfl, rfl, h4, r4⟩ := trodAll_cons r3
  obtain ⟨rfl, rfl, rfl⟩ := trodAll_nil r4
  obtain rfl : args = #[v0, v1, v2, v3, v4] := by cases args; simp_all
  obtain ⟨rfl, rfl⟩ := trodVars_none hV
  obtain ⟨y, rfl, rfl, rfl, wf_y⟩ := open_int Try.underlying3 (hval 0 3 v0 rfl rfl) h0
  have w_y : Fits y := bounds_i64 wf_y
  obtain ⟨f, rfl, rfl, rfl, wf_f⟩ := open_int Try.underlying3 (hval 1 3 v1 rfl rfl) h1
  have w_f : Fits f := bounds_i64 wf_f
  have k2 := h2
  have lt2 : ∀ x ∈ p2, x.block < W.heap.size := by obtain ⟨m, hm⟩ := k2; exact DataW.trod_lt m _ _ _ hm
  obtain ⟨u2_0, u2_1, u2_2, u2_3, y2_0, y2_1, y2_2, y2_3, g2, rfl, _, _, hy2_0, hy2_1, hy2_2, hy2_3⟩ := Go.Joins.open_agg4 Try.underlying25 (by kernel_rfl) (by kernel_rfl) (hval 2 25 v2 rfl rfl) h2
  obtain ⟨s0, e2_0, _, wf_s0⟩ := DataW.trod_int Try.underlying3 hy2_0
  simp only [List.cons.injEq, and_true] at e2_0; subst e2_0
  have w_s0 : Fits s0 := bounds_i64 wf_s0
  obtain ⟨s1, e2_1, _, wf_s1⟩ := DataW.trod_int Try.underlying3 hy2_1
  simp only [List.cons.injEq, and_true] at e2_1; subst e2_1
  have w_s1 : Fits s1 := bounds_i64 wf_s1
  obtain ⟨s2, e2_2, _, wf_s2⟩ := DataW.trod_int Try.underlying3 hy2_2
  simp only [List.cons.injEq, and_true] at e2_2; subst e2_2
  have w_s2 : Fits s2 := bounds_i64 wf_s2
  obtain ⟨s3, e2_3, _, wf_s3⟩ := DataW.trod_int Try.underlying3 hy2_3
  simp only [List.cons.injEq, and_true] at e2_3; subst e2_3
  have w_s3 : Fits s3 := bounds_i64 wf_s3
  obtain ⟨h, rfl, rfl, rfl, wf_h⟩ := open_int Try.underlying3 (hval 3 3 v3 rfl rfl) h3
  have w_h : Fits h := bounds_i64 wf_h
  obtain ⟨m, rfl, rfl, rfl, wf_m⟩ := open_int Try.underlying3 (hval 4 3 v4 rfl rfl) h4
  have w_m : Fits m := bounds_i64 wf_m
  clear hA0 hval0
  refine (walk W y w_y f w_f s0 w_s0 s1 w_s1 s2 w_s2 s3 w_s3 h w_h m w_m).mono fun e W' hwk => ?_
  obtain ⟨he, bel⟩ := hwk
  subst he
  exact ⟨_, rfl, _, _, _, [], _, [], hW', trodAll_mk1 (shut_bool Try.underlying4 _), (trodAll_cons_mk (shut_int Try.underlying3 wf_y) (trodAll_cons_mk (shut_int Try.underlying3 wf_f) (trodAll_cons_mk (Below.trod laidOut (by kernel_rfl) (of_decide_eq_true (by kernel_rfl)) k2 bel lt2) (trodAll_cons_mk (shut_int Try.underlying3 wf_h) (trodAll_cons_mk (shut_int Try.underlying3 wf_m) trodAll_mk0))))), rfl, bel.frame _, fun h => by cases h⟩

theorem over : Rows.fnExactToneSamplesRow.holds Try.pinned (OpenSpec.ofChange Rows.fnExactToneSamplesSpec) :=
  OpenClaim.holds_of_wide 12 Try.f12 rfl rfl rfl rfl rfl rfl rfl ⟨rfl, rfl, rfl, rfl, rfl⟩ rfl rfl rfl rfl rfl (by kernel_rfl) Try.func12 (by kernel_rfl)
    (of_decide_eq_true (by kernel_rfl)) (by unfold Func.isWrapper; first | (rw [if_pos (by decide +kernel)]; kernel_rfl) | (rw [if_neg (by decide +kernel)]; exact ⟨rfl, rfl⟩))
    (fun os started H enc _ => lifted os started H enc)

/-- The statement. -/
theorem proved : Rows.FnExactToneSamplesSaid := over
#print axioms proved
end Go.Proofs.Ytkbobojoijnnaaa.fnExactToneSamples
