/-
  FnExactPeakOf returns true for every input and leaves its arguments as they were. No condition.
-/
import Derived.Test.YtkbobojoijnnaaaMix
import Derived.Test.YtkbobojoijnnaaaFrame
namespace Go.Proofs.Ytkbobojoijnnaaa.fnExactPeakOf
open Go.ChangeShapes Go.WideShapes Go.ChangeAt Go.RowKit
open Go.ChangeMaps (open_string shut_string)
set_option linter.unusedVariables false

set_option maxHeartbeats 2000000 in
theorem core (w : World) (A_z : Option Addr) (c_z : Nat) (z : List Int) (r_z : RdI w w.heap.size A_z z) (l_z : z.length ≤ 1048576) :
    Calls Try.prog 8 #[.slice A_z z.length c_z] w (RetB w true) := by
  have hs_z := sameI_refl z
  generalize hGL : peakL z = L at *
  have HG := Lib.hid hGL; clear hGL
  have P_z := Lib.hid r_z; clear r_z
  go_enter Try.func8, Try.ntmps8
  go_wp2_with fail
  refine (laws_toIntS _ _ _ _ (P_z.out.more (by omega)) l_z).mono ?_
  rintro e w1 ⟨A1, c1, rfl, o1, b1⟩
  have s1 := b1.size
  have R_az := Lib.hid (Row.mk_ o1)
  clear o1
  replace P_z := Lib.hid (P_z.out.below b1 (by omega))
  have HB := Lib.hid b1
  clear b1
  go_wp2_with fail
  refine ((spec_PeakOf _ _ _ _  (R_az.out.rdI.more (by omega)) l_z)).mono ?_
  rw [HG.out]
  rintro e w2 ⟨rfl, b2⟩
  have s2 := b2.size
  replace R_az := Lib.hid (R_az.out.below b2 (by omega))
  replace P_z := Lib.hid (P_z.out.below b2 (by omega))
  replace HB := Lib.hid (HB.out.trans (b2.mono (by omega)))
  clear b2
  clear R_az
  go_wp2_with fail
  refine (laws_toIntS _ _ _ _ (P_z.out.more (by omega)) l_z).mono ?_
  rintro e w3 ⟨A3, c3, rfl, o3, b3⟩
  have s3 := b3.size
  have R_xz := Lib.hid (Row.mk_ o3)
  clear o3
  replace P_z := Lib.hid (P_z.out.below b3 (by omega))
  replace HB := Lib.hid (HB.out.trans (b3.mono (by omega)))
  clear b3
  go_wp2_with fail
  refine ((impl_PeakOf _ _ _ _  (R_xz.out.rdI.more (by omega)) l_z)).mono ?_
  rw [HG.out]
  rintro e w4 ⟨rfl, b4⟩
  have s4 := b4.size
  replace R_xz := Lib.hid (R_xz.out.below b4 (by omega))
  replace P_z := Lib.hid (P_z.out.below b4 (by omega))
  replace HB := Lib.hid (HB.out.trans (b4.mono (by omega)))
  clear b4
  go_wp2_with fail
  refine (laws_toIntS _ _ _ _ (P_z.out.more (by omega)) l_z).mono ?_
  rintro e w5 ⟨A5, c5, rfl, o5, b5⟩
  have s5 := b5.size
  have R_yz := Lib.hid (Row.mk_ o5)
  clear o5
  replace R_xz := Lib.hid (R_xz.out.below b5 (by omega))
  replace P_z := Lib.hid (P_z.out.below b5 (by omega))
  replace HB := Lib.hid (HB.out.trans (b5.mono (by omega)))
  clear b5
  go_wp2_with fail
  refine (laws_eqIntS _ _ _ _ _ _ _ (R_xz.out.rdI.more (by omega)) (R_yz.out.rdI.more (by omega)) l_z l_z).mono ?_
  rintro e w6 ⟨rfl, b6⟩
  have s6 := b6.size
  replace R_xz := Lib.hid (R_xz.out.below b6 (by omega))
  replace R_yz := Lib.hid (R_yz.out.below b6 (by omega))
  replace P_z := Lib.hid (P_z.out.below b6 (by omega))
  replace HB := Lib.hid (HB.out.trans (b6.mono (by omega)))
  clear b6
  clear R_yz
  go_wp2_with fail
  go_ret
  exact ⟨rfl, HB.out⟩
theorem walk (w : World) (A_z : Option Addr) (c_z : Nat) (z : List Int) (r_z : RdI w w.heap.size A_z z) (f_z : WfI z) (m_z : z.length ≤ maxLen) :
    Calls Try.prog 8 #[.slice A_z z.length c_z] w (RetB w true) := by
  by_cases l_z : z.length ≤ 1048576
  case neg =>
    unfold maxLen at m_z
    clear r_z
    go_enter Try.func8, Try.ntmps8
    go_wp2
    go_ret
    exact ⟨rfl, Below.refl _ _⟩
  exact core w A_z c_z z r_z l_z

set_option maxRecDepth 100000 in
theorem lifted (os : Os) (started : os.Started) (H : Type) (enc : TypeId × Value → H) :
    ReturnsInHanded {} Try.checked os 8 .any (Rows.fnExactPeakOfSpec.pre6 enc Try.prog Try.f8 Rows.fnExactPeakOfRow.domain false) (Rows.fnExactPeakOfSpec.post enc Try.prog Try.f8 false true false false) := by
  refine returnsInHanded_of_change (C := Try.checked) own started (by kernel_rfl) Try.func8
    (ChangeSpec.witness6 (enc := enc) (C := Try.checked) false ⟨#[], #[.slice none 0 0], []⟩ 8 (by kernel_rfl) (by kernel_rfl) (by kernel_rfl) (by kernel_rfl)) ?_
  intro W base args ds gs before hval0 hW hcnd _
  have hval : ∀ (j : Nat) t v, Try.f8.params[j]? = some t → args[j]? = some v → Value.okWide Try.prog W .any base t v := hval0
  have hW' := hW
  obtain ⟨p, q, hA0, hV, rfl, hfz, hnd⟩ := hW
  have hA : DataW.TrodAll enc Try.prog W 0 (fun _ => true) true Try.f8.params.toList args.toList ds p := hA0
  rw [Try.params8] at hA hval
  obtain ⟨v0, vs0, d0, ds0, p0, q0, hargs, rfl, rfl, h0, r0⟩ := trodAll_cons hA
  obtain ⟨rfl, rfl, rfl⟩ := trodAll_nil r0
  obtain rfl : args = #[v0] := by cases args; simp_all
  obtain ⟨rfl, rfl⟩ := trodVars_none hV
  obtain ⟨A_z, l_z, c_z, rfl⟩ := okWide_slice Try.underlying30 (hval 0 30 v0 rfl rfl)
  have k0 := h0
  have lt0 : ∀ x ∈ p0, x.block < W.heap.size := by obtain ⟨m, hm⟩ := k0; exact DataW.trod_lt m _ _ _ hm
  obtain ⟨z, rfl, r_z, f_z, m_z⟩ : ∃ X : List Int, X.length = l_z ∧ RdI W W.heap.size A_z X ∧ WfI X ∧ l_z ≤ maxLen := by
    obtain ⟨fuel, hf⟩ := h0
    exact open_ints_rd Try.underlying30 Try.underlying3 (by kernel_rfl) hf
  clear hA0 hval0
  refine (walk W A_z c_z z r_z f_z m_z).mono fun e W' hwk => ?_
  obtain ⟨he, bel⟩ := hwk
  subst he
  exact ⟨_, rfl, _, _, _, [], _, [], hW', trodAll_mk1 (shut_bool Try.underlying4 _), (trodAll_cons_mk (Below.trod laidOut (by kernel_rfl) (of_decide_eq_true (by kernel_rfl)) k0 bel lt0) trodAll_mk0), rfl, bel.frame _, fun h => by cases h⟩

theorem over : Rows.fnExactPeakOfRow.holds Try.pinned (OpenSpec.ofChange Rows.fnExactPeakOfSpec) :=
  OpenClaim.holds_of_wide 8 Try.f8 rfl rfl rfl rfl rfl rfl rfl ⟨rfl, rfl, rfl, rfl, rfl⟩ rfl rfl rfl rfl rfl (by kernel_rfl) Try.func8 (by kernel_rfl)
    (of_decide_eq_true (by kernel_rfl)) (by unfold Func.isWrapper; first | (rw [if_pos (by decide +kernel)]; kernel_rfl) | (rw [if_neg (by decide +kernel)]; exact ⟨rfl, rfl⟩))
    (fun os started H enc _ => lifted os started H enc)

/-- The statement. -/
theorem proved : Rows.FnExactPeakOfSaid := over
#print axioms proved
end Go.Proofs.Ytkbobojoijnnaaa.fnExactPeakOf
