/-
  FnExactLinksCost returns true for every input and leaves its arguments as they were. No condition.
-/
import Derived.Test.YtfmdpnnddhelaaaFol4
import Derived.Test.YtfmdpnnddhelaaaOpenLink
import Derived.Test.YtfmdpnnddhelaaaFrame
namespace Go.Proofs.Ytfmdpnnddhelaaa.fnExactLinksCost
open Go.ChangeShapes Go.WideShapes Go.ChangeAt Go.RowKit
open Go.ChangeMaps (open_string shut_string)
set_option linter.unusedVariables false

set_option maxHeartbeats 4000000 in
theorem core (w : World) (A_x : Option Addr) (c_x : Nat) (x : List Int) (A_y : Option Addr) (c_y : Nat) (y : List Int) (A_z : Option Addr) (c_z : Nat) (z : List (Int × Int)) (r_x : RdI w w.heap.size A_x x) (l_x : x.length ≤ 1048576) (r_y : RdI w w.heap.size A_y y) (l_y : y.length ≤ 1048576) (r_z : RdLink w w.heap.size A_z z) (l_z : z.length ≤ 1048576) :
    Calls Try.prog 6 #[.slice A_x x.length c_x, .slice A_y y.length c_y, .slice A_z z.length c_z] w (RetB w true) := by
  have hs_x := sameI_refl x
  have hs_y := sameI_refl y
  have hs_z := sameLink_refl z
  have hd_z : decide (((1048576 : Int) - (z.length : Int)) < 0) = false := decide_eq_false (by omega)
  generalize hGL : lnkL x y z = L at *
  have HG := Lib.hid hGL; clear hGL
  have P_x := Lib.hid r_x; clear r_x
  have P_y := Lib.hid r_y; clear r_y
  have P_z := Lib.hid r_z; clear r_z
  go_enter Try.func6, Try.ntmps6
  go_wp2_with fail
  refine (laws_szLinkS _ _ _ _ _ (by omega) (by omega)).mono ?_
  rintro e w1 ⟨rfl, b1⟩
  have z1 := b1.size
  replace P_x := Lib.hid (P_x.out.below b1 (by omega))
  replace P_y := Lib.hid (P_y.out.below b1 (by omega))
  replace P_z := Lib.hid (P_z.out.below b1 (by omega))
  have HB := Lib.hid b1
  clear b1
  go_wp2_with fail
  refine (laws_toIntS _ _ _ _ (P_x.out.more (by omega)) l_x).mono ?_
  rintro e w2 ⟨A2, c2, rfl, o2, b2⟩
  have z2 := b2.size
  have R_ax := Lib.hid (Row.mk_ o2)
  clear o2
  replace P_x := Lib.hid (P_x.out.below b2 (by omega))
  replace P_y := Lib.hid (P_y.out.below b2 (by omega))
  replace P_z := Lib.hid (P_z.out.below b2 (by omega))
  replace HB := Lib.hid (HB.out.trans (b2.mono (by omega)))
  clear b2
  go_wp2_with fail
  refine (laws_toIntS _ _ _ _ (P_y.out.more (by omega)) l_y).mono ?_
  rintro e w3 ⟨A3, c3, rfl, o3, b3⟩
  have z3 := b3.size
  have R_ay := Lib.hid (Row.mk_ o3)
  clear o3
  replace R_ax := Lib.hid (R_ax.out.below b3 (by omega))
  replace P_x := Lib.hid (P_x.out.below b3 (by omega))
  replace P_y := Lib.hid (P_y.out.below b3 (by omega))
  replace P_z := Lib.hid (P_z.out.below b3 (by omega))
  replace HB := Lib.hid (HB.out.trans (b3.mono (by omega)))
  clear b3
  go_wp2_with fail
  refine (laws_toLinkS _ _ _ _ (P_z.out.more (by omega)) l_z).mono ?_
  rintro e w4 ⟨A4, c4, rfl, o4, b4⟩
  have z4 := b4.size
  have R_az := Lib.hid (Row.mk_ o4)
  clear o4
  replace R_ax := Lib.hid (R_ax.out.below b4 (by omega))
  replace R_ay := Lib.hid (R_ay.out.below b4 (by omega))
  replace P_x := Lib.hid (P_x.out.below b4 (by omega))
  replace P_y := Lib.hid (P_y.out.below b4 (by omega))
  replace P_z := Lib.hid (P_z.out.below b4 (by omega))
  replace HB := Lib.hid (HB.out.trans (b4.mono (by omega)))
  clear b4
  go_wp2_with fail
  refine ((spec_LinksCost _ _ _ _ _ _ _ _ _ _  (R_ax.out.rdI.more (by omega)) (R_ay.out.rdI.more (by omega)) (R_az.out.rdLink.more (by omega)) l_x l_y l_z)).mono ?_
  rw [HG.out]
  rintro e w5 ⟨rfl, b5⟩
  have z5 := b5.size
  replace R_ax := Lib.hid (R_ax.out.below b5 (by omega))
  replace R_ay := Lib.hid (R_ay.out.below b5 (by omega))
  replace R_az := Lib.hid (R_az.out.below b5 (by omega))
  replace P_x := Lib.hid (P_x.out.below b5 (by omega))
  replace P_y := Lib.hid (P_y.out.below b5 (by omega))
  replace P_z := Lib.hid (P_z.out.below b5 (by omega))
  replace HB := Lib.hid (HB.out.trans (b5.mono (by omega)))
  clear b5
  clear R_ax
  clear R_ay
  clear R_az
  go_wp2_with fail
  refine (laws_toIntS _ _ _ _ (P_x.out.more (by omega)) l_x).mono ?_
  rintro e w6 ⟨A6, c6, rfl, o6, b6⟩
  have z6 := b6.size
  have R_xx := Lib.hid (Row.mk_ o6)
  clear o6
  replace P_x := Lib.hid (P_x.out.below b6 (by omega))
  replace P_y := Lib.hid (P_y.out.below b6 (by omega))
  replace P_z := Lib.hid (P_z.out.below b6 (by omega))
  replace HB := Lib.hid (HB.out.trans (b6.mono (by omega)))
  clear b6
  go_wp2_with fail
  refine (laws_toIntS _ _ _ _ (P_y.out.more (by omega)) l_y).mono ?_
  rintro e w7 ⟨A7, c7, rfl, o7, b7⟩
  have z7 := b7.size
  have R_xy := Lib.hid (Row.mk_ o7)
  clear o7
  replace R_xx := Lib.hid (R_xx.out.below b7 (by omega))
  replace P_x := Lib.hid (P_x.out.below b7 (by omega))
  replace P_y := Lib.hid (P_y.out.below b7 (by omega))
  replace P_z := Lib.hid (P_z.out.below b7 (by omega))
  replace HB := Lib.hid (HB.out.trans (b7.mono (by omega)))
  clear b7
  go_wp2_with fail
  refine (laws_toLinkS _ _ _ _ (P_z.out.more (by omega)) l_z).mono ?_
  rintro e w8 ⟨A8, c8, rfl, o8, b8⟩
  have z8 := b8.size
  have R_xz := Lib.hid (Row.mk_ o8)
  clear o8
  replace R_xx := Lib.hid (R_xx.out.below b8 (by omega))
  replace R_xy := Lib.hid (R_xy.out.below b8 (by omega))
  replace P_x := Lib.hid (P_x.out.below b8 (by omega))
  replace P_y := Lib.hid (P_y.out.below b8 (by omega))
  replace P_z := Lib.hid (P_z.out.below b8 (by omega))
  replace HB := Lib.hid (HB.out.trans (b8.mono (by omega)))
  clear b8
  go_wp2_with fail
  refine ((impl_LinksCost _ _ _ _ _ _ _ _ _ _  (R_xx.out.rdI.more (by omega)) (R_xy.out.rdI.more (by omega)) (R_xz.out.rdLink.more (by omega)) l_x l_y l_z)).mono ?_
  rw [HG.out]
  rintro e w9 ⟨rfl, b9⟩
  have z9 := b9.size
  replace R_xx := Lib.hid (R_xx.out.below b9 (by omega))
  replace R_xy := Lib.hid (R_xy.out.below b9 (by omega))
  replace R_xz := Lib.hid (R_xz.out.below b9 (by omega))
  replace P_x := Lib.hid (P_x.out.below b9 (by omega))
  replace P_y := Lib.hid (P_y.out.below b9 (by omega))
  replace P_z := Lib.hid (P_z.out.below b9 (by omega))
  replace HB := Lib.hid (HB.out.trans (b9.mono (by omega)))
  clear b9
  go_wp2_with fail
  refine (laws_toIntS _ _ _ _ (P_x.out.more (by omega)) l_x).mono ?_
  rintro e w10 ⟨A10, c10, rfl, o10, b10⟩
  have z10 := b10.size
  have R_yx := Lib.hid (Row.mk_ o10)
  clear o10
  replace R_xx := Lib.hid (R_xx.out.below b10 (by omega))
  replace R_xy := Lib.hid (R_xy.out.below b10 (by omega))
  replace R_xz := Lib.hid (R_xz.out.below b10 (by omega))
  replace P_x := Lib.hid (P_x.out.below b10 (by omega))
  replace P_y := Lib.hid (P_y.out.below b10 (by omega))
  replace P_z := Lib.hid (P_z.out.below b10 (by omega))
  replace HB := Lib.hid (HB.out.trans (b10.mono (by omega)))
  clear b10
  go_wp2_with fail
  refine (laws_eqIntS _ _ _ _ _ _ _ (R_xx.out.rdI.more (by omega)) (R_yx.out.rdI.more (by omega)) l_x l_x).mono ?_
  rintro e w11 ⟨rfl, b11⟩
  have z11 := b11.size
  replace R_xx := Lib.hid (R_xx.out.below b11 (by omega))
  replace R_xy := Lib.hid (R_xy.out.below b11 (by omega))
  replace R_xz := Lib.hid (R_xz.out.below b11 (by omega))
  replace R_yx := Lib.hid (R_yx.out.below b11 (by omega))
  replace P_x := Lib.hid (P_x.out.below b11 (by omega))
  replace P_y := Lib.hid (P_y.out.below b11 (by omega))
  replace P_z := Lib.hid (P_z.out.below b11 (by omega))
  replace HB := Lib.hid (HB.out.trans (b11.mono (by omega)))
  clear b11
  clear R_yx
  go_wp2_with fail
  refine (laws_toIntS _ _ _ _ (P_y.out.more (by omega)) l_y).mono ?_
  rintro e w12 ⟨A12, c12, rfl, o12, b12⟩
  have z12 := b12.size
  have R_yy := Lib.hid (Row.mk_ o12)
  clear o12
  replace R_xx := Lib.hid (R_xx.out.below b12 (by omega))
  replace R_xy := Lib.hid (R_xy.out.below b12 (by omega))
  replace R_xz := Lib.hid (R_xz.out.below b12 (by omega))
  replace P_x := Lib.hid (P_x.out.below b12 (by omega))
  replace P_y := Lib.hid (P_y.out.below b12 (by omega))
  replace P_z := Lib.hid (P_z.out.below b12 (by omega))
  replace HB := Lib.hid (HB.out.trans (b12.mono (by omega)))
  clear b12
  go_wp2_with fail
  refine (laws_eqIntS _ _ _ _ _ _ _ (R_xy.out.rdI.more (by omega)) (R_yy.out.rdI.more (by omega)) l_y l_y).mono ?_
  rintro e w13 ⟨rfl, b13⟩
  have z13 := b13.size
  replace R_xx := Lib.hid (R_xx.out.below b13 (by omega))
  replace R_xy := Lib.hid (R_xy.out.below b13 (by omega))
  replace R_xz := Lib.hid (R_xz.out.below b13 (by omega))
  replace R_yy := Lib.hid (R_yy.out.below b13 (by omega))
  replace P_x := Lib.hid (P_x.out.below b13 (by omega))
  replace P_y := Lib.hid (P_y.out.below b13 (by omega))
  replace P_z := Lib.hid (P_z.out.below b13 (by omega))
  replace HB := Lib.hid (HB.out.trans (b13.mono (by omega)))
  clear b13
  clear R_yy
  go_wp2_with fail
  refine (laws_toLinkS _ _ _ _ (P_z.out.more (by omega)) l_z).mono ?_
  rintro e w14 ⟨A14, c14, rfl, o14, b14⟩
  have z14 := b14.size
  have R_yz := Lib.hid (Row.mk_ o14)
  clear o14
  replace R_xx := Lib.hid (R_xx.out.below b14 (by omega))
  replace R_xy := Lib.hid (R_xy.out.below b14 (by omega))
  replace R_xz := Lib.hid (R_xz.out.below b14 (by omega))
  replace P_x := Lib.hid (P_x.out.below b14 (by omega))
  replace P_y := Lib.hid (P_y.out.below b14 (by omega))
  replace P_z := Lib.hid (P_z.out.below b14 (by omega))
  replace HB := Lib.hid (HB.out.trans (b14.mono (by omega)))
  clear b14
  go_wp2_with fail
  refine (laws_eqLinkS _ _ _ _ _ _ _ (R_xz.out.rdLink.more (by omega)) (R_yz.out.rdLink.more (by omega)) l_z l_z).mono ?_
  rintro e w15 ⟨rfl, b15⟩
  have z15 := b15.size
  replace R_xx := Lib.hid (R_xx.out.below b15 (by omega))
  replace R_xy := Lib.hid (R_xy.out.below b15 (by omega))
  replace R_xz := Lib.hid (R_xz.out.below b15 (by omega))
  replace R_yz := Lib.hid (R_yz.out.below b15 (by omega))
  replace P_x := Lib.hid (P_x.out.below b15 (by omega))
  replace P_y := Lib.hid (P_y.out.below b15 (by omega))
  replace P_z := Lib.hid (P_z.out.below b15 (by omega))
  replace HB := Lib.hid (HB.out.trans (b15.mono (by omega)))
  clear b15
  clear R_yz
  go_wp2_with fail
  go_ret
  exact ⟨rfl, HB.out⟩
theorem walk (w : World) (A_x : Option Addr) (c_x : Nat) (x : List Int) (r_x : RdI w w.heap.size A_x x) (f_x : WfI x) (m_x : x.length ≤ maxLen) (A_y : Option Addr) (c_y : Nat) (y : List Int) (r_y : RdI w w.heap.size A_y y) (f_y : WfI y) (m_y : y.length ≤ maxLen) (A_z : Option Addr) (c_z : Nat) (z : List (Int × Int)) (r_z : RdLink w w.heap.size A_z z) (m_z : z.length ≤ maxLen) :
    Calls Try.prog 6 #[.slice A_x x.length c_x, .slice A_y y.length c_y, .slice A_z z.length c_z] w (RetB w true) := by
  by_cases l_x : x.length ≤ 1048576
  case neg =>
    unfold maxLen at m_x m_y m_z
    clear r_x r_y r_z
    go_enter Try.func6, Try.ntmps6
    go_wp2
    go_ret
    exact ⟨rfl, Below.refl _ _⟩
  by_cases l_y : y.length ≤ 1048576
  case neg =>
    unfold maxLen at m_x m_y m_z
    clear r_x r_y r_z
    go_enter Try.func6, Try.ntmps6
    go_wp2
    go_ret
    exact ⟨rfl, Below.refl _ _⟩
  by_cases l_z : z.length ≤ 1048576
  case neg =>
    unfold maxLen at m_x m_y m_z
    clear r_x r_y r_z
    go_enter Try.func6, Try.ntmps6
    go_wp2_with fail
    refine (laws_szLinkS_no _ _ _ _ _ (by omega) (by omega) (by omega)).mono ?_; rintro e w1 ⟨rfl, b1⟩
    go_wp2_with fail
    go_ret
    first | exact ⟨rfl, b1⟩ | exact ⟨rfl, (show Below w.heap.size w (w.alloc _) from (Below.refl _ _).alloc (Nat.le_refl _) _).trans (b1.mono (by simp))⟩
  exact core w A_x c_x x A_y c_y y A_z c_z z r_x l_x r_y l_y r_z l_z

set_option maxRecDepth 100000 in
theorem lifted (os : Os) (started : os.Started) (H : Type) (enc : TypeId × Value → H) :
    ReturnsInHanded {} Try.checked os 6 .any (Rows.fnExactLinksCostSpec.pre6 enc Try.prog Try.f6 Rows.fnExactLinksCostRow.domain false) (Rows.fnExactLinksCostSpec.post enc Try.prog Try.f6 false true false false) := by
  refine returnsInHanded_of_change (C := Try.checked) own started (by kernel_rfl) Try.func6
    (ChangeSpec.witness6 (enc := enc) (C := Try.checked) false ⟨#[], #[.slice none 0 0, .slice none 0 0, .slice none 0 0], []⟩ 8 (by kernel_rfl) (by kernel_rfl) (by kernel_rfl) (by kernel_rfl)) ?_
  intro W base args ds gs before hval0 hW hcnd _
  have hval : ∀ (j : Nat) t v, Try.f6.params[j]? = some t → args[j]? = some v → Value.okWide Try.prog W .any base t v := hval0
  have hW' := hW
  obtain ⟨p, q, hA0, hV, rfl, hfz, hnd⟩ := hW
  have hA : DataW.TrodAll enc Try.prog W 0 (fun _ => true) true Try.f6.params.toList args.toList ds p := hA0
  rw [Try.params6] at hA hval
  obtain ⟨v0, vs0, d0, ds0, p0, q0, hargs, rfl, rfl, h0, r0⟩ := trodAll_cons hA
  obtain ⟨v1, vs1, d1, ds1, p1, q1, rfl, rfl, rfl, h1, r1⟩ := trodAll_cons r0
  obtain ⟨v2, vs2, d2, ds2, p2, q2, rfl, rfl, rfl, h2, r2⟩ := trodAll_cons r1
  obtain ⟨rfl, rfl, rfl⟩ := trodAll_nil r2
  obtain rfl : args = #[v0, v1, v2] := by cases args; simp_all
  obtain ⟨rfl, rfl⟩ := trodVars_none hV
  obtain ⟨A_x, l_x, c_x, rfl⟩ := okWide_slice Try.underlying22 (hval 0 22 v0 rfl rfl)
  have k0 := h0
  have lt0 : ∀ x ∈ p0, x.block < W.heap.size := by obtain ⟨m, hm⟩ := k0; exact DataW.trod_lt m _ _ _ hm
  obtain ⟨x, rfl, r_x, f_x, m_x⟩ : ∃ X : List Int, X.length = l_x ∧ RdI W W.heap.size A_x X ∧ WfI X ∧ l_x ≤ maxLen := by
    obtain ⟨fuel, hf⟩ := h0
    exact open_ints_rd Try.underlying22 Try.underlying3 (by kernel_rfl) hf
  obtain ⟨A_y, l_y, c_y, rfl⟩ := okWide_slice Try.underlying22 (hval 1 22 v1 rfl rfl)
  have k1 := h1
  have lt1 : ∀ x ∈ p1, x.block < W.heap.size := by obtain ⟨m, hm⟩ := k1; exact DataW.trod_lt m _ _ _ hm
  obtain ⟨y, rfl, r_y, f_y, m_y⟩ : ∃ X : List Int, X.length = l_y ∧ RdI W W.heap.size A_y X ∧ WfI X ∧ l_y ≤ maxLen := by
    obtain ⟨fuel, hf⟩ := h1
    exact open_ints_rd Try.underlying22 Try.underlying3 (by kernel_rfl) hf
  have k2 := h2
  have lt2 : ∀ x ∈ p2, x.block < W.heap.size := by obtain ⟨m, hm⟩ := k2; exact DataW.trod_lt m _ _ _ hm
  obtain ⟨A_z, l_z, c_z, rfl⟩ := okWide_slice Try.underlying31 (hval 2 31 v2 rfl rfl)
  obtain ⟨z, rfl, r_z, m_z⟩ : ∃ X : List (Int × Int), X.length = l_z ∧ RdLink W W.heap.size A_z X ∧ l_z ≤ maxLen := by
    obtain ⟨fuel, hf⟩ := h2
    exact open_links_rd Try.underlying31 Try.underlying56 (by kernel_rfl) rfl rfl Try.underlying3 Try.underlying3 (by kernel_rfl) (by kernel_rfl) hf
  clear hA0 hval0
  refine (walk W A_x c_x x r_x f_x m_x A_y c_y y r_y f_y m_y A_z c_z z r_z m_z).mono fun e W' hwk => ?_
  obtain ⟨he, bel⟩ := hwk
  subst he
  exact ⟨_, rfl, _, _, _, [], _, [], hW', trodAll_mk1 (shut_bool Try.underlying4 _), (trodAll_cons_mk (Below.trod laidOut (by kernel_rfl) (of_decide_eq_true (by kernel_rfl)) k0 bel lt0) (trodAll_cons_mk (Below.trod laidOut (by kernel_rfl) (of_decide_eq_true (by kernel_rfl)) k1 bel lt1) (trodAll_cons_mk (Below.trod laidOut (by kernel_rfl) (of_decide_eq_true (by kernel_rfl)) k2 bel lt2) trodAll_mk0))), rfl, bel.frame _, fun h => by cases h⟩

theorem over : Rows.fnExactLinksCostRow.holds Try.pinned (OpenSpec.ofChange Rows.fnExactLinksCostSpec) :=
  OpenClaim.holds_of_wide 6 Try.f6 rfl rfl rfl rfl rfl rfl rfl ⟨rfl, rfl, rfl, rfl, rfl⟩ rfl rfl rfl rfl rfl (by kernel_rfl) Try.func6 (by kernel_rfl)
    (of_decide_eq_true (by kernel_rfl)) (by unfold Func.isWrapper; first | (rw [if_pos (by decide +kernel)]; kernel_rfl) | (rw [if_neg (by decide +kernel)]; exact ⟨rfl, rfl⟩))
    (fun os started H enc _ => lifted os started H enc)

/-- The statement. -/
theorem proved : Rows.FnExactLinksCostSaid := over
#print axioms proved
end Go.Proofs.Ytfmdpnnddhelaaa.fnExactLinksCost
