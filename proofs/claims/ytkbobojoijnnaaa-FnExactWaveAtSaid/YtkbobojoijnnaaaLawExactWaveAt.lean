/-
  FnExactWaveAt returns true for every input and leaves its arguments as they were. No condition.
-/
import Derived.Test.YtkbobojoijnnaaaSnd
import Derived.Test.YtkbobojoijnnaaaFrame
namespace Go.Proofs.Ytkbobojoijnnaaa.fnExactWaveAt
open Go.ChangeShapes Go.WideShapes Go.ChangeAt Go.RowKit
open Go.ChangeMaps (open_string shut_string)
set_option linter.unusedVariables false

set_option maxHeartbeats 2000000 in
theorem core (w : World) (f : Int) (p : Int) (w_f : Fits f) (w_p : Fits p) :
    Calls Try.prog 6 #[.int .i64 f, .int .i64 p] w (RetB w true) := by
  generalize hGL : waveL f p = L at *
  have HG := Lib.hid hGL; clear hGL
  go_enter Try.func6, Try.ntmps6
  go_wp2_with fail
  refine (spec_WaveAt _ _ _).mono ?_
  rw [HG.out]
  rintro e w1 ⟨rfl, b1⟩
  have s1 := b1.size
  have HB := Lib.hid b1
  clear b1
  go_wp2_with fail
  refine (impl_WaveAt _ _ _).mono ?_
  rw [HG.out]
  rintro e w2 ⟨rfl, b2⟩
  have s2 := b2.size
  replace HB := Lib.hid (HB.out.trans (b2.mono (by omega)))
  clear b2
  go_wp2_with fail
  go_ret
  exact ⟨rfl, HB.out⟩
theorem walk (w : World) (f : Int) (w_f : Fits f) (p : Int) (w_p : Fits p) :
    Calls Try.prog 6 #[.int .i64 f, .int .i64 p] w (RetB w true) := by
  exact core w f p w_f w_p

set_option maxRecDepth 100000 in
theorem lifted (os : Os) (started : os.Started) (H : Type) (enc : TypeId × Value → H) :
    ReturnsInHanded {} Try.checked os 6 .any (Rows.fnExactWaveAtSpec.pre6 enc Try.prog Try.f6 Rows.fnExactWaveAtRow.domain false) (Rows.fnExactWaveAtSpec.post enc Try.prog Try.f6 false true false false) := by
  refine returnsInHanded_of_change (C := Try.checked) own started (by kernel_rfl) Try.func6
    (ChangeSpec.witness6 (enc := enc) (C := Try.checked) false ⟨#[], #[.int .i64 0, .int .i64 0], []⟩ 8 (by kernel_rfl) (by kernel_rfl) (by kernel_rfl) (by kernel_rfl)) ?_
  intro W base args ds gs before hval0 hW hcnd _
  have hval : ∀ (j : Nat) t v, Try.f6.params[j]? = some t → args[j]? = some v → Value.okWide Try.prog W .any base t v := hval0
  have hW' := hW
  obtain ⟨p, q, hA0, hV, rfl, hfz, hnd⟩ := hW
  have hA : DataW.TrodAll enc Try.prog W 0 (fun _ => true) true Try.f6.params.toList args.toList ds p := hA0
  rw [Try.params6] at hA hval
  obtain ⟨v0, vs0, d0, ds0, p0, q0, hargs, rfl, rfl, h0, r0⟩ := trodAll_cons hA
  obtain ⟨v1, vs1, d1, ds1, p1, q1, rfl, rfl, rfl, h1, r1⟩ := trodAll_cons r0
  obtain ⟨rfl, rfl, rfl⟩ := trodAll_nil r1
  obtain rfl : args = #[v0, v1] := by cases args; simp_all
  obtain ⟨rfl, rfl⟩ := trodVars_none hV
  obtain ⟨f, rfl, rfl, rfl, wf_f⟩ := open_int Try.underlying3 (hval 0 3 v0 rfl rfl) h0
  have w_f : Fits f := bounds_i64 wf_f
  obtain ⟨p, rfl, rfl, rfl, wf_p⟩ := open_int Try.underlying3 (hval 1 3 v1 rfl rfl) h1
  have w_p : Fits p := bounds_i64 wf_p
  clear hA0 hval0
  refine (walk W f w_f p w_p).mono fun e W' hwk => ?_
  obtain ⟨he, bel⟩ := hwk
  subst he
  exact ⟨_, rfl, _, _, _, [], _, [], hW', trodAll_mk1 (shut_bool Try.underlying4 _), (trodAll_cons_mk (shut_int Try.underlying3 wf_f) (trodAll_cons_mk (shut_int Try.underlying3 wf_p) trodAll_mk0)), rfl, bel.frame _, fun h => by cases h⟩

theorem over : Rows.fnExactWaveAtRow.holds Try.pinned (OpenSpec.ofChange Rows.fnExactWaveAtSpec) :=
  OpenClaim.holds_of_wide 6 Try.f6 rfl rfl rfl rfl rfl rfl rfl ⟨rfl, rfl, rfl, rfl, rfl⟩ rfl rfl rfl rfl rfl (by kernel_rfl) Try.func6 (by kernel_rfl)
    (of_decide_eq_true (by kernel_rfl)) (by unfold Func.isWrapper; first | (rw [if_pos (by decide +kernel)]; kernel_rfl) | (rw [if_neg (by decide +kernel)]; exact ⟨rfl, rfl⟩))
    (fun os started H enc _ => lifted os started H enc)

/-- The statement. -/
theorem proved : Rows.FnExactWaveAtSaid := over
#print axioms proved
end Go.Proofs.Ytkbobojoijnnaaa.fnExactWaveAt
