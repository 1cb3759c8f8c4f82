/-
  FnExactLevelAt returns true for every input and leaves its arguments as they were. No condition.
-/
import Derived.Test.YtkbobojoijnnaaaLvl
import Derived.Test.YtkbobojoijnnaaaFrame
namespace Go.Proofs.Ytkbobojoijnnaaa.fnExactLevelAt
open Go.ChangeShapes Go.WideShapes Go.ChangeAt Go.RowKit
open Go.ChangeMaps (open_string shut_string)
set_option linter.unusedVariables false

set_option maxHeartbeats 4000000 in
theorem core (w : World) (s0 : Int) (s1 : Int) (s2 : Int) (s3 : Int) (h : Int) (t : Int) (w_s0 : Fits s0) (w_s1 : Fits s1) (w_s2 : Fits s2) (w_s3 : Fits s3) (w_h : Fits h) (w_t : Fits t) :
    Calls Try.prog 7 #[.agg #[.int .i64 s0, .int .i64 s1, .int .i64 s2, .int .i64 s3], .int .i64 h, .int .i64 t] w (RetB w true) := by
  generalize hGL : levelL s0 s1 s2 s3 h t = L at *
  have HG := Lib.hid hGL; clear hGL
  have b1 : Below w.heap.size w (w.alloc (.cells #[.int .i64 s0, .int .i64 s1, .int .i64 s2, .int .i64 s3] 25)) := by (repeat (first | exact Below.refl _ _ | refine Below.alloc ?_ (by simp; try omega) _ | refine below_drewN ?_ _ | refine Below.drew ?_))
  have z1 : w.heap.size + 1 ≤ (w.alloc (.cells #[.int .i64 s0, .int .i64 s1, .int .i64 s2, .int .i64 s3] 25)).heap.size := by simp
  have Q_s_0 : (w.alloc (.cells #[.int .i64 s0, .int .i64 s1, .int .i64 s2, .int .i64 s3] 25)).cell? ⟨w.heap.size, 0, none⟩ = some (.int .i64 s0) := by simp [go_sem]
  have Q_s_1 : (w.alloc (.cells #[.int .i64 s0, .int .i64 s1, .int .i64 s2, .int .i64 s3] 25)).cell? ⟨w.heap.size, 1, none⟩ = some (.int .i64 s1) := by simp [go_sem]
  have Q_s_2 : (w.alloc (.cells #[.int .i64 s0, .int .i64 s1, .int .i64 s2, .int .i64 s3] 25)).cell? ⟨w.heap.size, 2, none⟩ = some (.int .i64 s2) := by simp [go_sem]
  have Q_s_3 : (w.alloc (.cells #[.int .i64 s0, .int .i64 s1, .int .i64 s2, .int .i64 s3] 25)).cell? ⟨w.heap.size, 3, none⟩ = some (.int .i64 s3) := by simp [go_sem]
  have HB := Lib.hid b1
  clear b1
  go_enter Try.func7, Try.ntmps7
  go_wp2_with fail
  generalize (w.alloc (.cells #[.int .i64 s0, .int .i64 s1, .int .i64 s2, .int .i64 s3] 25)) = w1 at *
  refine (laws_toShape _ _ _ _ _).mono ?_
  rintro e w2 ⟨rfl, b2⟩
  have z2 := b2.size
  replace Q_s_0 := (b2.cell (p := ⟨w.heap.size, 0, none⟩) (show w.heap.size < w1.heap.size by omega)).trans Q_s_0
  replace Q_s_1 := (b2.cell (p := ⟨w.heap.size, 1, none⟩) (show w.heap.size < w1.heap.size by omega)).trans Q_s_1
  replace Q_s_2 := (b2.cell (p := ⟨w.heap.size, 2, none⟩) (show w.heap.size < w1.heap.size by omega)).trans Q_s_2
  replace Q_s_3 := (b2.cell (p := ⟨w.heap.size, 3, none⟩) (show w.heap.size < w1.heap.size by omega)).trans Q_s_3
  replace HB := Lib.hid (HB.out.trans (b2.mono (by omega)))
  clear b2
  go_wp2_with fail
  refine (spec_LevelAt _ _ _ _ _ _ _).mono ?_
  rw [HG.out]
  rintro e w3 ⟨rfl, b3⟩
  have z3 := b3.size
  replace Q_s_0 := (b3.cell (p := ⟨w.heap.size, 0, none⟩) (show w.heap.size < w2.heap.size by omega)).trans Q_s_0
  replace Q_s_1 := (b3.cell (p := ⟨w.heap.size, 1, none⟩) (show w.heap.size < w2.heap.size by omega)).trans Q_s_1
  replace Q_s_2 := (b3.cell (p := ⟨w.heap.size, 2, none⟩) (show w.heap.size < w2.heap.size by omega)).trans Q_s_2
  replace Q_s_3 := (b3.cell (p := ⟨w.heap.size, 3, none⟩) (show w.heap.size < w2.heap.size by omega)).trans Q_s_3
  replace HB := Lib.hid (HB.out.trans (b3.mono (by omega)))
  clear b3
  go_wp2_with fail
  refine (laws_toShape _ _ _ _ _).mono ?_
  rintro e w4 ⟨rfl, b4⟩
  have z4 := b4.size
  replace Q_s_0 := (b4.cell (p := ⟨w.heap.size, 0, none⟩) (show w.heap.size < w3.heap.size by omega)).trans Q_s_0
  replace Q_s_1 := (b4.cell (p := ⟨w.heap.size, 1, none⟩) (show w.heap.size < w3.heap.size by omega)).trans Q_s_1
  replace Q_s_2 := (b4.cell (p := ⟨w.heap.size, 2, none⟩) (show w.heap.size < w3.heap.size by omega)).trans Q_s_2
  replace Q_s_3 := (b4.cell (p := ⟨w.heap.size, 3, none⟩) (show w.heap.size < w3.heap.size by omega)).trans Q_s_3
  replace HB := Lib.hid (HB.out.trans (b4.mono (by omega)))
  clear b4
  go_wp2_with fail
  refine (impl_LevelAt _ _ _ _ _ _ _).mono ?_
  rw [HG.out]
  rintro e w5 ⟨rfl, b5⟩
  have z5 := b5.size
  replace Q_s_0 := (b5.cell (p := ⟨w.heap.size, 0, none⟩) (show w.heap.size < w4.heap.size by omega)).trans Q_s_0
  replace Q_s_1 := (b5.cell (p := ⟨w.heap.size, 1, none⟩) (show w.heap.size < w4.heap.size by omega)).trans Q_s_1
  replace Q_s_2 := (b5.cell (p := ⟨w.heap.size, 2, none⟩) (show w.heap.size < w4.heap.size by omega)).trans Q_s_2
  replace Q_s_3 := (b5.cell (p := ⟨w.heap.size, 3, none⟩) (show w.heap.size < w4.heap.size by omega)).trans Q_s_3
  replace HB := Lib.hid (HB.out.trans (b5.mono (by omega)))
  clear b5
  go_wp2_with fail
  go_ret
  exact ⟨rfl, HB.out⟩
theorem walk (w : World) (s0 : Int) (w_s0 : Fits s0) (s1 : Int) (w_s1 : Fits s1) (s2 : Int) (w_s2 : Fits s2) (s3 : Int) (w_s3 : Fits s3) (h : Int) (w_h : Fits h) (t : Int) (w_t : Fits t) :
    Calls Try.prog 7 #[.agg #[.int .i64 s0, .int .i64 s1, .int .i64 s2, .int .i64 s3], .int .i64 h, .int .i64 t] w (RetB w true) := by
  exact core w s0 s1 s2 s3 h t w_s0 w_s1 w_s2 w_s3 w_h w_t

set_option maxRecDepth 100000 in
theorem lifted (os : Os) (started : os.Started) (H : Type) (enc : TypeId × Value → H) :
    ReturnsInHanded {} Try.checked os 7 .any (Rows.fnExactLevelAtSpec.pre6 enc Try.prog Try.f7 Rows.fnExactLevelAtRow.domain false) (Rows.fnExactLevelAtSpec.post enc Try.prog Try.f7 false true false false) := by
  refine returnsInHanded_of_change (C := Try.checked) own started (by kernel_rfl) Try.func7
    (ChangeSpec.witness6 (enc := enc) (C := Try.checked) false ⟨#[], #[.agg #[.int .i64 0, .int .i64 0, .int .i64 0, .int .i64 0], .int .i64 0, .int .i64 0], []⟩ 8 (by kernel_rfl) (by kernel_rfl) (by kernel_rfl) (by kernel_rfl)) ?_
  intro W base args ds gs before hval0 hW hcnd _
  have hval : ∀ (j : Nat) t v, Try.f7.params[j]? = some t → args[j]? = some v → Value.okWide Try.prog W .any base t v := hval0
  have hW' := hW
  obtain ⟨p, q, hA0, hV, rfl, hfz, hnd⟩ := hW
  have hA : DataW.TrodAll enc Try.prog W 0 (fun _ => true) true Try.f7.params.toList args.toList ds p := hA0
  rw [Try.params7] at hA hval
  obtain ⟨v0, vs0, d0, ds0, p0, q0, hargs, rfl, rfl, h0, r0⟩ := trodAll_cons hA
  obtain ⟨v1, vs1, d1, ds1, p1, q1, rfl, rfl, rfl, h1, r1⟩ := trodAll_cons r0
  obtain ⟨v2, vs2, d2, ds2, p2, q2, rfl, rfl, rfl, h2, r2⟩ := trodAll_cons r1
  obtain ⟨rfl, rfl, rfl⟩ := trodAll_nil r2
  obtain rfl : args = #[v0, v1, v2] := by cases args; simp_all
  obtain ⟨rfl, rfl⟩ := trodVars_none hV
  have k0 := h0
  have lt0 : ∀ x ∈ p0, x.block < W.heap.size := by obtain ⟨m, hm⟩ := k0; exact DataW.trod_lt m _ _ _ hm
  obtain ⟨u0_0, u0_1, u0_2, u0_3, y0_0, y0_1, y0_2, y0_3, g0, rfl, _, _, hy0_0, hy0_1, hy0_2, hy0_3⟩ := Go.Joins.open_agg4 Try.underlying25 (by kernel_rfl) (by kernel_rfl) (hval 0 25 v0 rfl rfl) h0
  obtain ⟨s0, e0_0, _, wf_s0⟩ := DataW.trod_int Try.underlying3 hy0_0
  simp only [List.cons.injEq, and_true] at e0_0; subst e0_0
  have w_s0 : Fits s0 := bounds_i64 wf_s0
  obtain ⟨s1, e0_1, _, wf_s1⟩ := DataW.trod_int Try.underlying3 hy0_1
  simp only [List.cons.injEq, and_true] at e0_1; subst e0_1
  have w_s1 : Fits s1 := bounds_i64 wf_s1
  obtain ⟨s2, e0_2, _, wf_s2⟩ := DataW.trod_int Try.underlying3 hy0_2
  simp only [List.cons.injEq, and_true] at e0_2; subst e0_2
  have w_s2 : Fits s2 := bounds_i64 wf_s2
  obtain ⟨s3, e0_3, _, wf_s3⟩ := DataW.trod_int Try.underlying3 hy0_3
  simp only [List.cons.injEq, and_true] at e0_3; subst e0_3
  have w_s3 : Fits s3 := bounds_i64 wf_s3
  obtain ⟨h, rfl, rfl, rfl, wf_h⟩ := open_int Try.underlying3 (hval 1 3 v1 rfl rfl) h1
  have w_h : Fits h := bounds_i64 wf_h
  obtain ⟨t, rfl, rfl, rfl, wf_t⟩ := open_int Try.underlying3 (hval 2 3 v2 rfl rfl) h2
  have w_t : Fits t := bounds_i64 wf_t
  clear hA0 hval0
  refine (walk W s0 w_s0 s1 w_s1 s2 w_s2 s3 w_s3 h w_h t w_t).mono fun e W' hwk => ?_
  obtain ⟨he, bel⟩ := hwk
  subst he
  exact ⟨_, rfl, _, _, _, [], _, [], hW', trodAll_mk1 (shut_bool Try.underlying4 _), (trodAll_cons_mk (Below.trod laidOut (by kernel_rfl) (of_decide_eq_true (by kernel_rfl)) k0 bel lt0) (trodAll_cons_mk (shut_int Try.underlying3 wf_h) (trodAll_cons_mk (shut_int Try.underlying3 wf_t) trodAll_mk0))), rfl, bel.frame _, fun h => by cases h⟩

theorem over : Rows.fnExactLevelAtRow.holds Try.pinned (OpenSpec.ofChange Rows.fnExactLevelAtSpec) :=
  OpenClaim.holds_of_wide 7 Try.f7 rfl rfl rfl rfl rfl rfl rfl ⟨rfl, rfl, rfl, rfl, rfl⟩ rfl rfl rfl rfl rfl (by kernel_rfl) Try.func7 (by kernel_rfl)
    (of_decide_eq_true (by kernel_rfl)) (by unfold Func.isWrapper; first | (rw [if_pos (by decide +kernel)]; kernel_rfl) | (rw [if_neg (by decide +kernel)]; exact ⟨rfl, rfl⟩))
    (fun os started H enc _ => lifted os started H enc)

/-- The statement. -/
theorem proved : Rows.FnExactLevelAtSaid := over
#print axioms proved
end Go.Proofs.Ytkbobojoijnnaaa.fnExactLevelAt
