/-
  FnExactEchoSamples returns true for every input and leaves its arguments as they were. No condition.
-/
import Derived.Test.YtkbobojoijnnaaaMix
import Derived.Test.YtkbobojoijnnaaaFrame
namespace Go.Proofs.Ytkbobojoijnnaaa.fnExactEchoSamples
open Go.ChangeShapes Go.WideShapes Go.ChangeAt Go.RowKit
open Go.ChangeMaps (open_string shut_string)
set_option linter.unusedVariables false

set_option maxHeartbeats 2000000 in
theorem core (w : World) (A_z : Option Addr) (c_z : Nat) (z : List Int) (b : Int) (l : Int) (r_z : RdI w w.heap.size A_z z) (l_z : z.length ≤ 1048576) (w_b : Fits b) (w_l : Fits l) :
    Calls Try.prog 10 #[.slice A_z z.length c_z, .int .i64 b, .int .i64 l] w (RetB w true) := by
  have hL : Hid ((echoL z b l).length ≤ 1048576) := by unfold Hid; have := echoL_len z b l; omega
  have hs := sameI_refl (echoL z b l)
  have hs_z := sameI_refl z
  have hk0 : decide (((1 : Int) + (z.length : Int)) < 0) = false := decide_eq_false (by omega)
  generalize hGL : echoL z b l = L at *
  have hm0 : decide (((1 : Int) + (L.length : Int)) < 0) = false := decide_eq_false (by have := hL.out; omega)
  have HG := Lib.hid hGL; clear hGL
  have P_z := Lib.hid r_z; clear r_z
  go_enter Try.func10, Try.ntmps10
  go_wp2_with fail
  refine (laws_toIntS _ _ _ _ (P_z.out.more (by omega)) l_z).mono ?_
  rintro e w1 ⟨A1, c1, rfl, o1, b1⟩
  have s1 := b1.size
  have R_az := Lib.hid (Row.mk_ o1)
  clear o1
  replace P_z := Lib.hid (P_z.out.below b1 (by omega))
  have HB := Lib.hid b1
  clear b1
  go_wp2_with fail
  refine (spec_EchoSamples _ _ _ _ _ _  (R_az.out.rdI.more (by omega)) l_z).mono ?_
  rw [HG.out]
  rintro e w2 ⟨A2, c2, rfl, o2, b2⟩
  have s2 := b2.size
  have R_W := Lib.hid (Row.mk_ o2)
  clear o2
  replace R_az := Lib.hid (R_az.out.below b2 (by omega))
  replace P_z := Lib.hid (P_z.out.below b2 (by omega))
  replace HB := Lib.hid (HB.out.trans (b2.mono (by omega)))
  clear b2
  clear R_az
  go_wp2_with fail
  refine (laws_toIntS _ _ _ _ (P_z.out.more (by omega)) l_z).mono ?_
  rintro e w3 ⟨A3, c3, rfl, o3, b3⟩
  have s3 := b3.size
  have R_xz := Lib.hid (Row.mk_ o3)
  clear o3
  replace R_W := Lib.hid (R_W.out.below b3 (by omega))
  replace P_z := Lib.hid (P_z.out.below b3 (by omega))
  replace HB := Lib.hid (HB.out.trans (b3.mono (by omega)))
  clear b3
  go_wp2_with fail
  refine (impl_EchoSamples _ _ _ _ _ _  (R_xz.out.rdI.more (by omega)) l_z).mono ?_
  rw [HG.out]
  rintro e w4 ⟨A4, c4, rfl, o4, b4⟩
  have s4 := b4.size
  have R_G := Lib.hid (Row.mk_ o4)
  clear o4
  replace R_W := Lib.hid (R_W.out.below b4 (by omega))
  replace R_xz := Lib.hid (R_xz.out.below b4 (by omega))
  replace P_z := Lib.hid (P_z.out.below b4 (by omega))
  replace HB := Lib.hid (HB.out.trans (b4.mono (by omega)))
  clear b4
  go_wp2_with fail
  refine (laws_eqIntS _ _ _ _ _ _ _ (R_G.out.rdI.more (by omega)) (R_W.out.rdI.more (by omega)) hL.out hL.out).mono ?_
  rintro e w5 ⟨rfl, b5⟩
  have s5 := b5.size
  replace R_W := Lib.hid (R_W.out.below b5 (by omega))
  replace R_xz := Lib.hid (R_xz.out.below b5 (by omega))
  replace R_G := Lib.hid (R_G.out.below b5 (by omega))
  replace P_z := Lib.hid (P_z.out.below b5 (by omega))
  replace HB := Lib.hid (HB.out.trans (b5.mono (by omega)))
  clear b5
  go_wp2_with fail
  refine (laws_toIntS _ _ _ _ (P_z.out.more (by omega)) l_z).mono ?_
  rintro e w6 ⟨A6, c6, rfl, o6, b6⟩
  have s6 := b6.size
  have R_yz := Lib.hid (Row.mk_ o6)
  clear o6
  replace R_W := Lib.hid (R_W.out.below b6 (by omega))
  replace R_xz := Lib.hid (R_xz.out.below b6 (by omega))
  replace R_G := Lib.hid (R_G.out.below b6 (by omega))
  replace P_z := Lib.hid (P_z.out.below b6 (by omega))
  replace HB := Lib.hid (HB.out.trans (b6.mono (by omega)))
  clear b6
  go_wp2_with fail
  refine (laws_eqIntS _ _ _ _ _ _ _ (R_xz.out.rdI.more (by omega)) (R_yz.out.rdI.more (by omega)) l_z l_z).mono ?_
  rintro e w7 ⟨rfl, b7⟩
  have s7 := b7.size
  replace R_W := Lib.hid (R_W.out.below b7 (by omega))
  replace R_xz := Lib.hid (R_xz.out.below b7 (by omega))
  replace R_G := Lib.hid (R_G.out.below b7 (by omega))
  replace R_yz := Lib.hid (R_yz.out.below b7 (by omega))
  replace P_z := Lib.hid (P_z.out.below b7 (by omega))
  replace HB := Lib.hid (HB.out.trans (b7.mono (by omega)))
  clear b7
  clear R_yz
  go_wp2_with fail
  refine (laws_markIntS _ _ _ _ _ _ _ R_xz.out.1 l_z (by omega) (by omega)).mono ?_; rintro e w8 ⟨rfl, o8, g8⟩
  have s8 := g8.size
  replace R_W := Lib.hid (R_W.out.far R_xz.out g8 (by omega))
  replace R_G := Lib.hid (R_G.out.far R_xz.out g8 (by omega))
  replace P_z := Lib.hid (P_z.out.far R_xz.out g8 (by omega) (by omega))
  replace HB := Lib.hid (below_far HB.out R_xz.out g8 (by omega) (by omega))
  replace R_xz := Lib.hid (R_xz.out.self o8)
  clear o8 g8
  clear R_xz
  go_wp2_with fail
  refine (laws_eqIntS _ _ _ _ _ _ _ (R_G.out.rdI.more (by omega)) (R_W.out.rdI.more (by omega)) hL.out hL.out).mono ?_
  rintro e w9 ⟨rfl, b9⟩
  have s9 := b9.size
  replace R_W := Lib.hid (R_W.out.below b9 (by omega))
  replace R_G := Lib.hid (R_G.out.below b9 (by omega))
  replace P_z := Lib.hid (P_z.out.below b9 (by omega))
  replace HB := Lib.hid (HB.out.trans (b9.mono (by omega)))
  clear b9
  go_wp2_with fail
  refine (laws_markIntS _ _ _ _ _ _ _ R_G.out.1 hL.out (by omega) (by omega)).mono ?_; rintro e w10 ⟨rfl, o10, g10⟩
  have s10 := g10.size
  replace R_W := Lib.hid (R_W.out.far R_G.out g10 (by omega))
  replace P_z := Lib.hid (P_z.out.far R_G.out g10 (by omega) (by omega))
  replace HB := Lib.hid (below_far HB.out R_G.out g10 (by omega) (by omega))
  replace R_G := Lib.hid (R_G.out.self o10)
  clear o10 g10
  go_wp2_with fail
  refine (laws_heldIntS _ _ _ _ _ (R_G.out.rd.more (by omega)) hL.out (by omega) (by omega)).mono ?_; rintro e w' ⟨rfl, rfl⟩
  go_wp2_with fail
  refine (laws_toIntS _ _ _ _ (P_z.out.more (by omega)) l_z).mono ?_
  rintro e w11 ⟨A11, c11, rfl, o11, b11⟩
  have s11 := b11.size
  have R_hz := Lib.hid (Row.mk_ o11)
  clear o11
  replace R_W := Lib.hid (R_W.out.below b11 (by omega))
  replace R_G := Lib.hid (R_G.out.below b11 (by omega))
  replace P_z := Lib.hid (P_z.out.below b11 (by omega))
  replace HB := Lib.hid (HB.out.trans (b11.mono (by omega)))
  clear b11
  go_wp2_with fail
  refine (impl_EchoSamples _ _ _ _ _ _  (R_hz.out.rdI.more (by omega)) l_z).mono ?_
  rw [HG.out]
  rintro e w12 ⟨A12, c12, rfl, o12, b12⟩
  have s12 := b12.size
  have R_Z := Lib.hid (Row.mk_ o12)
  clear o12
  replace R_W := Lib.hid (R_W.out.below b12 (by omega))
  replace R_G := Lib.hid (R_G.out.below b12 (by omega))
  replace R_hz := Lib.hid (R_hz.out.below b12 (by omega))
  replace P_z := Lib.hid (P_z.out.below b12 (by omega))
  replace HB := Lib.hid (HB.out.trans (b12.mono (by omega)))
  clear b12
  clear R_hz
  clear P_z
  go_wp2_with fail
  refine (laws_eqIntS _ _ _ _ _ _ _ (R_Z.out.rdI.more (by omega)) (R_W.out.rdI.more (by omega)) hL.out hL.out).mono ?_
  rintro e w13 ⟨rfl, b13⟩
  have s13 := b13.size
  replace R_W := Lib.hid (R_W.out.below b13 (by omega))
  replace R_G := Lib.hid (R_G.out.below b13 (by omega))
  replace R_Z := Lib.hid (R_Z.out.below b13 (by omega))
  replace HB := Lib.hid (HB.out.trans (b13.mono (by omega)))
  clear b13
  clear R_Z
  clear R_W
  go_wp2_with fail
  refine (laws_heldIntS _ _ _ _ _ (R_G.out.rd.more (by omega)) hL.out (by omega) (by omega)).mono ?_; rintro e w' ⟨rfl, rfl⟩
  go_wp2_with fail
  go_ret
  exact ⟨rfl, HB.out⟩
theorem walk (w : World) (A_z : Option Addr) (c_z : Nat) (z : List Int) (r_z : RdI w w.heap.size A_z z) (f_z : WfI z) (m_z : z.length ≤ maxLen) (b : Int) (w_b : Fits b) (l : Int) (w_l : Fits l) :
    Calls Try.prog 10 #[.slice A_z z.length c_z, .int .i64 b, .int .i64 l] w (RetB w true) := by
  by_cases l_z : z.length ≤ 1048576
  case neg =>
    unfold maxLen at m_z
    clear r_z
    go_enter Try.func10, Try.ntmps10
    go_wp2
    go_ret
    exact ⟨rfl, Below.refl _ _⟩
  exact core w A_z c_z z b l r_z l_z w_b w_l

set_option maxRecDepth 100000 in
theorem lifted (os : Os) (started : os.Started) (H : Type) (enc : TypeId × Value → H) :
    ReturnsInHanded {} Try.checked os 10 .any (Rows.fnExactEchoSamplesSpec.pre6 enc Try.prog Try.f10 Rows.fnExactEchoSamplesRow.domain false) (Rows.fnExactEchoSamplesSpec.post enc Try.prog Try.f10 false true false false) := by
  refine returnsInHanded_of_change (C := Try.checked) own started (by kernel_rfl) Try.func10
    (ChangeSpec.witness6 (enc := enc) (C := Try.checked) false ⟨#[], #[.slice none 0 0, .int .i64 0, .int .i64 0], []⟩ 8 (by kernel_rfl) (by kernel_rfl) (by kernel_rfl) (by kernel_rfl)) ?_
  intro W base args ds gs before hval0 hW hcnd _
  have hval : ∀ (j : Nat) t v, Try.f10.params[j]? = some t → args[j]? = some v → Value.okWide Try.prog W .any base t v := hval0
  have hW' := hW
  obtain ⟨p, q, hA0, hV, rfl, hfz, hnd⟩ := hW
  have hA : DataW.TrodAll enc Try.prog W 0 (fun _ => true) true Try.f10.params.toList args.toList ds p := hA0
  rw [Try.params10] at hA hval
  obtain ⟨v0, vs0, d0, ds0, p0, q0, hargs, rfl, rfl, h0, r0⟩ := trodAll_cons hA
  obtain ⟨v1, vs1, d1, ds1, p1, q1, rfl, rfl, rfl, h1, r1⟩ := trodAll_cons r0
  obtain ⟨v2, vs2, d2, ds2, p2, q2, rfl, rfl, rfl, h2, r2⟩ := trodAll_cons r1
  obtain ⟨rfl, rfl, rfl⟩ := trodAll_nil r2
  obtain rfl : args = #[v0, v1, v2] := by cases args; simp_all
  obtain ⟨rfl, rfl⟩ := trodVars_none hV
  obtain ⟨A_z, l_z, c_z, rfl⟩ := okWide_slice Try.underlying30 (hval 0 30 v0 rfl rfl)
  have k0 := h0
  have lt0 : ∀ x ∈ p0, x.block < W.heap.size := by obtain ⟨m, hm⟩ := k0; exact DataW.trod_lt m _ _ _ hm
  obtain ⟨z, rfl, r_z, f_z, m_z⟩ : ∃ X : List Int, X.length = l_z ∧ RdI W W.heap.size A_z X ∧ WfI X ∧ l_z ≤ maxLen := by
    obtain ⟨fuel, hf⟩ := h0
    exact open_ints_rd Try.underlying30 Try.underlying3 (by kernel_rfl) hf
  obtain ⟨b, rfl, rfl, rfl, wf_b⟩ := open_int Try.underlying3 (hval 1 3 v1 rfl rfl) h1
  have w_b : Fits b := bounds_i64 wf_b
  obtain ⟨l, rfl, rfl, rfl, wf_l⟩ := open_int Try.underlying3 (hval 2 3 v2 rfl rfl) h2
  have w_l : Fits l := bounds_i64 wf_l
  clear hA0 hval0
  refine (walk W A_z c_z z r_z f_z m_z b w_b l w_l).mono fun e W' hwk => ?_
  obtain ⟨he, bel⟩ := hwk
  subst he
  exact ⟨_, rfl, _, _, _, [], _, [], hW', trodAll_mk1 (shut_bool Try.underlying4 _), (trodAll_cons_mk (Below.trod laidOut (by kernel_rfl) (of_decide_eq_true (by kernel_rfl)) k0 bel lt0) (trodAll_cons_mk (shut_int Try.underlying3 wf_b) (trodAll_cons_mk (shut_int Try.underlying3 wf_l) trodAll_mk0))), rfl, bel.frame _, fun h => by cases h⟩

theorem over : Rows.fnExactEchoSamplesRow.holds Try.pinned (OpenSpec.ofChange Rows.fnExactEchoSamplesSpec) :=
  OpenClaim.holds_of_wide 10 Try.f10 rfl rfl rfl rfl rfl rfl rfl ⟨rfl, rfl, rfl, rfl, rfl⟩ rfl rfl rfl rfl rfl (by kernel_rfl) Try.func10 (by kernel_rfl)
    (of_decide_eq_true (by kernel_rfl)) (by unfold Func.isWrapper; first | (rw [if_pos (by decide +kernel)]; kernel_rfl) | (rw [if_neg (by decide +kernel)]; exact ⟨rfl, rfl⟩))
    (fun os started H enc _ => lifted os started H enc)

/-- The statement. -/
theorem proved : Rows.FnExactEchoSamplesSaid := over
#print axioms proved
end Go.Proofs.Ytkbobojoijnnaaa.fnExactEchoSamples
