/-
  FnExactNearestGrid returns true for every input and leaves its arguments as they were. No condition.
-/
import Derived.Test.YtkmgmnjggnamfaaGrid
import Derived.Test.YtkmgmnjggnamfaaFrame
namespace Go.Proofs.Ytkmgmnjggnamfaa.fnExactNearestGrid
open Go.ChangeShapes Go.WideShapes Go.ChangeAt Go.RowKit
open Go.ChangeMaps (open_string shut_string)
set_option linter.unusedVariables false

set_option maxHeartbeats 4000000 in
theorem core (w : World) (t : Int) (g : Int) (w_t : Fits t) (w_g : Fits g) :
    Calls Try.prog 3 #[.int .i64 t, .int .i64 g] w (RetB w true) := by
  generalize hGL : ngL t g = L at *
  have HG := Lib.hid hGL; clear hGL
  go_enter Try.func3, Try.ntmps3
  go_wp2_with fail
  refine (spec_NearestGrid _ _ _).mono ?_
  rw [HG.out]
  rintro e w' ⟨rfl, rfl⟩
  go_wp2_with fail
  refine (impl_NearestGrid _ _ _).mono ?_
  rw [HG.out]
  rintro e w' ⟨rfl, rfl⟩
  go_wp2_with fail
  go_ret
  exact ⟨rfl, Below.refl _ _⟩
theorem walk (w : World) (t : Int) (w_t : Fits t) (g : Int) (w_g : Fits g) :
    Calls Try.prog 3 #[.int .i64 t, .int .i64 g] w (RetB w true) := by
  exact core w t g w_t w_g

set_option maxRecDepth 100000 in
theorem lifted (os : Os) (started : os.Started) (H : Type) (enc : TypeId × Value → H) :
    ReturnsInHanded {} Try.checked os 3 .any (Rows.fnExactNearestGridSpec.pre6 enc Try.prog Try.f3 Rows.fnExactNearestGridRow.domain false) (Rows.fnExactNearestGridSpec.post enc Try.prog Try.f3 false true false false) := by
  refine returnsInHanded_of_change (C := Try.checked) own started (by kernel_rfl) Try.func3
    (ChangeSpec.witness6 (enc := enc) (C := Try.checked) false ⟨#[], #[.int .i64 0, .int .i64 0], []⟩ 8 (by kernel_rfl) (by kernel_rfl) (by kernel_rfl) (by kernel_rfl)) ?_
  intro W base args ds gs before hval0 hW hcnd _
  have hval : ∀ (j : Nat) t v, Try.f3.params[j]? = some t → args[j]? = some v → Value.okWide Try.prog W .any base t v := hval0
  have hW' := hW
  obtain ⟨p, q, hA0, hV, rfl, hfz, hnd⟩ := hW
  have hA : DataW.TrodAll enc Try.prog W 0 (fun _ => true) true Try.f3.params.toList args.toList ds p := hA0
  rw [Try.params3] at hA hval
  obtain ⟨v0, vs0, d0, ds0, p0, q0, hargs, rfl, rfl, h0, r0⟩ := trodAll_cons hA
  obtain ⟨v1, vs1, d1, ds1, p1, q1, rfl, rfl, rfl, h1, r1⟩ := trodAll_cons r0
  obtain ⟨rfl, rfl, rfl⟩ := trodAll_nil r1
  obtain rfl : args = #[v0, v1] := by cases args; simp_all
  obtain ⟨rfl, rfl⟩ := trodVars_none hV
  obtain ⟨t, rfl, rfl, rfl, wf_t⟩ := open_int Try.underlying3 (hval 0 3 v0 rfl rfl) h0
  have w_t : Fits t := bounds_i64 wf_t
  obtain ⟨g, rfl, rfl, rfl, wf_g⟩ := open_int Try.underlying3 (hval 1 3 v1 rfl rfl) h1
  have w_g : Fits g := bounds_i64 wf_g
  clear hA0 hval0
  refine (walk W t w_t g w_g).mono fun e W' hwk => ?_
  obtain ⟨he, bel⟩ := hwk
  subst he
  exact ⟨_, rfl, _, _, _, [], _, [], hW', trodAll_mk1 (shut_bool Try.underlying4 _), (trodAll_cons_mk (shut_int Try.underlying3 wf_t) (trodAll_cons_mk (shut_int Try.underlying3 wf_g) trodAll_mk0)), rfl, bel.frame _, fun h => by cases h⟩

theorem over : Rows.fnExactNearestGridRow.holds Try.pinned (OpenSpec.ofChange Rows.fnExactNearestGridSpec) :=
  OpenClaim.holds_of_wide 3 Try.f3 rfl rfl rfl rfl rfl rfl rfl ⟨rfl, rfl, rfl, rfl, rfl⟩ rfl rfl rfl rfl rfl (by kernel_rfl) Try.func3 (by kernel_rfl)
    (of_decide_eq_true (by kernel_rfl)) (by unfold Func.isWrapper; first | (rw [if_pos (by decide +kernel)]; kernel_rfl) | (rw [if_neg (by decide +kernel)]; exact ⟨rfl, rfl⟩))
    (fun os started H enc _ => lifted os started H enc)

/-- The statement. -/
theorem proved : Rows.FnExactNearestGridSaid := over
#print axioms proved
end Go.Proofs.Ytkmgmnjggnamfaa.fnExactNearestGrid
