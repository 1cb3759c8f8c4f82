/-
  FnExactFollowLinks returns true for every input and leaves its arguments as they were. No condition.
-/
import Derived.Test.YtfmdpnnddhelaaaFol6
import Derived.Test.YtfmdpnnddhelaaaFrame
namespace Go.Proofs.Ytfmdpnnddhelaaa.fnExactFollowLinks
open Go.ChangeShapes Go.WideShapes Go.ChangeAt Go.RowKit
open Go.ChangeMaps (open_string shut_string)
set_option linter.unusedVariables false

set_option maxHeartbeats 4000000 in
theorem core (w : World) (A_x : Option Addr) (c_x : Nat) (x : List Int) (A_y : Option Addr) (c_y : Nat) (y : List Int) (r_x : RdI w w.heap.size A_x x) (l_x : x.length ≤ 1048576) (r_y : RdI w w.heap.size A_y y) (l_y : y.length ≤ 1048576) :
    Calls Try.prog 9 #[.slice A_x x.length c_x, .slice A_y y.length c_y] w (RetB w true) := by
  have hL : Hid ((linksV x y).length ≤ 1048576) := by unfold Hid; have := linksV_len x y; omega
  have hs := sameLink_refl (linksV x y)
  have hs_x := sameI_refl x
  have hs_y := sameI_refl y
  have hk0 : decide (((1 : Int) + (x.length : Int) + (y.length : Int)) < 0) = false := decide_eq_false (by omega)
  generalize hGL : linksV x y = L at *
  have hm0 : decide (((1 : Int) + 2 * (L.length : Int)) < 0) = false := decide_eq_false (by have := hL.out; omega)
  have HG := Lib.hid hGL; clear hGL
  have P_x := Lib.hid r_x; clear r_x
  have P_y := Lib.hid r_y; clear r_y
  go_enter Try.func9, Try.ntmps9
  go_wp2_with fail
  refine (laws_toIntS _ _ _ _ (P_x.out.more (by omega)) l_x).mono ?_
  rintro e w1 ⟨A1, c1, rfl, o1, b1⟩
  have z1 := b1.size
  have R_ax := Lib.hid (Row.mk_ o1)
  clear o1
  replace P_x := Lib.hid (P_x.out.below b1 (by omega))
  replace P_y := Lib.hid (P_y.out.below b1 (by omega))
  have HB := Lib.hid b1
  clear b1
  go_wp2_with fail
  refine (laws_toIntS _ _ _ _ (P_y.out.more (by omega)) l_y).mono ?_
  rintro e w2 ⟨A2, c2, rfl, o2, b2⟩
  have z2 := b2.size
  have R_ay := Lib.hid (Row.mk_ o2)
  clear o2
  replace R_ax := Lib.hid (R_ax.out.below b2 (by omega))
  replace P_x := Lib.hid (P_x.out.below b2 (by omega))
  replace P_y := Lib.hid (P_y.out.below b2 (by omega))
  replace HB := Lib.hid (HB.out.trans (b2.mono (by omega)))
  clear b2
  go_wp2_with fail
  refine (spec_FollowLinks _ _ _ _ _ _ _  (R_ax.out.rdI.more (by omega)) (R_ay.out.rdI.more (by omega)) l_x l_y).mono ?_
  rw [HG.out]
  rintro e w3 ⟨A3, c3, rfl, o3, b3⟩
  have z3 := b3.size
  have R_W := Lib.hid (Row.mk_ o3)
  clear o3
  replace R_ax := Lib.hid (R_ax.out.below b3 (by omega))
  replace R_ay := Lib.hid (R_ay.out.below b3 (by omega))
  replace P_x := Lib.hid (P_x.out.below b3 (by omega))
  replace P_y := Lib.hid (P_y.out.below b3 (by omega))
  replace HB := Lib.hid (HB.out.trans (b3.mono (by omega)))
  clear b3
  clear R_ax
  clear R_ay
  go_wp2_with fail
  refine (laws_toIntS _ _ _ _ (P_x.out.more (by omega)) l_x).mono ?_
  rintro e w4 ⟨A4, c4, rfl, o4, b4⟩
  have z4 := b4.size
  have R_xx := Lib.hid (Row.mk_ o4)
  clear o4
  replace R_W := Lib.hid (R_W.out.below b4 (by omega))
  replace P_x := Lib.hid (P_x.out.below b4 (by omega))
  replace P_y := Lib.hid (P_y.out.below b4 (by omega))
  replace HB := Lib.hid (HB.out.trans (b4.mono (by omega)))
  clear b4
  go_wp2_with fail
  refine (laws_toIntS _ _ _ _ (P_y.out.more (by omega)) l_y).mono ?_
  rintro e w5 ⟨A5, c5, rfl, o5, b5⟩
  have z5 := b5.size
  have R_xy := Lib.hid (Row.mk_ o5)
  clear o5
  replace R_W := Lib.hid (R_W.out.below b5 (by omega))
  replace R_xx := Lib.hid (R_xx.out.below b5 (by omega))
  replace P_x := Lib.hid (P_x.out.below b5 (by omega))
  replace P_y := Lib.hid (P_y.out.below b5 (by omega))
  replace HB := Lib.hid (HB.out.trans (b5.mono (by omega)))
  clear b5
  go_wp2_with fail
  refine (impl_FollowLinks _ _ _ _ _ _ _  (R_xx.out.rdI.more (by omega)) (R_xy.out.rdI.more (by omega)) l_x l_y).mono ?_
  rw [HG.out]
  rintro e w6 ⟨A6, c6, rfl, o6, b6⟩
  have z6 := b6.size
  have R_G := Lib.hid (Row.mk_ o6)
  clear o6
  replace R_W := Lib.hid (R_W.out.below b6 (by omega))
  replace R_xx := Lib.hid (R_xx.out.below b6 (by omega))
  replace R_xy := Lib.hid (R_xy.out.below b6 (by omega))
  replace P_x := Lib.hid (P_x.out.below b6 (by omega))
  replace P_y := Lib.hid (P_y.out.below b6 (by omega))
  replace HB := Lib.hid (HB.out.trans (b6.mono (by omega)))
  clear b6
  go_wp2_with fail
  refine (laws_eqLinkS _ _ _ _ _ _ _ (R_G.out.rdLink.more (by omega)) (R_W.out.rdLink.more (by omega)) hL.out hL.out).mono ?_
  rintro e w7 ⟨rfl, b7⟩
  have z7 := b7.size
  replace R_W := Lib.hid (R_W.out.below b7 (by omega))
  replace R_xx := Lib.hid (R_xx.out.below b7 (by omega))
  replace R_xy := Lib.hid (R_xy.out.below b7 (by omega))
  replace R_G := Lib.hid (R_G.out.below b7 (by omega))
  replace P_x := Lib.hid (P_x.out.below b7 (by omega))
  replace P_y := Lib.hid (P_y.out.below b7 (by omega))
  replace HB := Lib.hid (HB.out.trans (b7.mono (by omega)))
  clear b7
  go_wp2_with fail
  refine (laws_toIntS _ _ _ _ (P_x.out.more (by omega)) l_x).mono ?_
  rintro e w8 ⟨A8, c8, rfl, o8, b8⟩
  have z8 := b8.size
  have R_yx := Lib.hid (Row.mk_ o8)
  clear o8
  replace R_W := Lib.hid (R_W.out.below b8 (by omega))
  replace R_xx := Lib.hid (R_xx.out.below b8 (by omega))
  replace R_xy := Lib.hid (R_xy.out.below b8 (by omega))
  replace R_G := Lib.hid (R_G.out.below b8 (by omega))
  replace P_x := Lib.hid (P_x.out.below b8 (by omega))
  replace P_y := Lib.hid (P_y.out.below b8 (by omega))
  replace HB := Lib.hid (HB.out.trans (b8.mono (by omega)))
  clear b8
  go_wp2_with fail
  refine (laws_eqIntS _ _ _ _ _ _ _ (R_xx.out.rdI.more (by omega)) (R_yx.out.rdI.more (by omega)) l_x l_x).mono ?_
  rintro e w9 ⟨rfl, b9⟩
  have z9 := b9.size
  replace R_W := Lib.hid (R_W.out.below b9 (by omega))
  replace R_xx := Lib.hid (R_xx.out.below b9 (by omega))
  replace R_xy := Lib.hid (R_xy.out.below b9 (by omega))
  replace R_G := Lib.hid (R_G.out.below b9 (by omega))
  replace R_yx := Lib.hid (R_yx.out.below b9 (by omega))
  replace P_x := Lib.hid (P_x.out.below b9 (by omega))
  replace P_y := Lib.hid (P_y.out.below b9 (by omega))
  replace HB := Lib.hid (HB.out.trans (b9.mono (by omega)))
  clear b9
  clear R_yx
  go_wp2_with fail
  refine (laws_toIntS _ _ _ _ (P_y.out.more (by omega)) l_y).mono ?_
  rintro e w10 ⟨A10, c10, rfl, o10, b10⟩
  have z10 := b10.size
  have R_yy := Lib.hid (Row.mk_ o10)
  clear o10
  replace R_W := Lib.hid (R_W.out.below b10 (by omega))
  replace R_xx := Lib.hid (R_xx.out.below b10 (by omega))
  replace R_xy := Lib.hid (R_xy.out.below b10 (by omega))
  replace R_G := Lib.hid (R_G.out.below b10 (by omega))
  replace P_x := Lib.hid (P_x.out.below b10 (by omega))
  replace P_y := Lib.hid (P_y.out.below b10 (by omega))
  replace HB := Lib.hid (HB.out.trans (b10.mono (by omega)))
  clear b10
  go_wp2_with fail
  refine (laws_eqIntS _ _ _ _ _ _ _ (R_xy.out.rdI.more (by omega)) (R_yy.out.rdI.more (by omega)) l_y l_y).mono ?_
  rintro e w11 ⟨rfl, b11⟩
  have z11 := b11.size
  replace R_W := Lib.hid (R_W.out.below b11 (by omega))
  replace R_xx := Lib.hid (R_xx.out.below b11 (by omega))
  replace R_xy := Lib.hid (R_xy.out.below b11 (by omega))
  replace R_G := Lib.hid (R_G.out.below b11 (by omega))
  replace R_yy := Lib.hid (R_yy.out.below b11 (by omega))
  replace P_x := Lib.hid (P_x.out.below b11 (by omega))
  replace P_y := Lib.hid (P_y.out.below b11 (by omega))
  replace HB := Lib.hid (HB.out.trans (b11.mono (by omega)))
  clear b11
  clear R_yy
  go_wp2_with fail
  refine (laws_markIntS _ _ _ _ _ _ _ R_xx.out.1 l_x (by omega) (by omega)).mono ?_; rintro e w12 ⟨rfl, o12, g12⟩
  have z12 := g12.size
  replace R_W := Lib.hid (R_W.out.far R_xx.out g12 (by omega))
  replace R_xy := Lib.hid (R_xy.out.far R_xx.out g12 (by omega))
  replace R_G := Lib.hid (R_G.out.far R_xx.out g12 (by omega))
  replace P_x := Lib.hid (P_x.out.far R_xx.out g12 (by omega) (by omega))
  replace P_y := Lib.hid (P_y.out.far R_xx.out g12 (by omega) (by omega))
  replace HB := Lib.hid (below_far HB.out R_xx.out g12 (by omega) (by omega))
  replace R_xx := Lib.hid (R_xx.out.self o12)
  clear o12 g12
  go_wp2_with fail
  refine (laws_markIntS _ _ _ _ _ _ _ R_xy.out.1 l_y (by omega) (by omega)).mono ?_; rintro e w13 ⟨rfl, o13, g13⟩
  have z13 := g13.size
  replace R_W := Lib.hid (R_W.out.far R_xy.out g13 (by omega))
  replace R_xx := Lib.hid (R_xx.out.far R_xy.out g13 (by omega))
  replace R_G := Lib.hid (R_G.out.far R_xy.out g13 (by omega))
  replace P_x := Lib.hid (P_x.out.far R_xy.out g13 (by omega) (by omega))
  replace P_y := Lib.hid (P_y.out.far R_xy.out g13 (by omega) (by omega))
  replace HB := Lib.hid (below_far HB.out R_xy.out g13 (by omega) (by omega))
  replace R_xy := Lib.hid (R_xy.out.self o13)
  clear o13 g13
  clear R_xx
  clear R_xy
  go_wp2_with fail
  refine (laws_eqLinkS _ _ _ _ _ _ _ (R_G.out.rdLink.more (by omega)) (R_W.out.rdLink.more (by omega)) hL.out hL.out).mono ?_
  rintro e w14 ⟨rfl, b14⟩
  have z14 := b14.size
  replace R_W := Lib.hid (R_W.out.below b14 (by omega))
  replace R_G := Lib.hid (R_G.out.below b14 (by omega))
  replace P_x := Lib.hid (P_x.out.below b14 (by omega))
  replace P_y := Lib.hid (P_y.out.below b14 (by omega))
  replace HB := Lib.hid (HB.out.trans (b14.mono (by omega)))
  clear b14
  go_wp2_with fail
  refine (laws_markLinkS _ _ _ _ _ _ _ R_G.out.1 hL.out (by omega) (by omega)).mono ?_; rintro e w15 ⟨rfl, o15, g15⟩
  have z15 := g15.size
  replace R_W := Lib.hid (R_W.out.far R_G.out g15 (by omega))
  replace P_x := Lib.hid (P_x.out.far R_G.out g15 (by omega) (by omega))
  replace P_y := Lib.hid (P_y.out.far R_G.out g15 (by omega) (by omega))
  replace HB := Lib.hid (below_far HB.out R_G.out g15 (by omega) (by omega))
  replace R_G := Lib.hid (R_G.out.self o15)
  clear o15 g15
  go_wp2_with fail
  refine (laws_heldLinkS _ _ _ _ _ (R_G.out.rd.more (by omega)) hL.out (by omega) (by omega)).mono ?_
  rintro e w' ⟨rfl, rfl⟩
  go_wp2_with fail
  refine (laws_toIntS _ _ _ _ (P_x.out.more (by omega)) l_x).mono ?_
  rintro e w16 ⟨A16, c16, rfl, o16, b16⟩
  have z16 := b16.size
  have R_hx := Lib.hid (Row.mk_ o16)
  clear o16
  replace R_W := Lib.hid (R_W.out.below b16 (by omega))
  replace R_G := Lib.hid (R_G.out.below b16 (by omega))
  replace P_x := Lib.hid (P_x.out.below b16 (by omega))
  replace P_y := Lib.hid (P_y.out.below b16 (by omega))
  replace HB := Lib.hid (HB.out.trans (b16.mono (by omega)))
  clear b16
  go_wp2_with fail
  refine (laws_toIntS _ _ _ _ (P_y.out.more (by omega)) l_y).mono ?_
  rintro e w17 ⟨A17, c17, rfl, o17, b17⟩
  have z17 := b17.size
  have R_hy := Lib.hid (Row.mk_ o17)
  clear o17
  replace R_W := Lib.hid (R_W.out.below b17 (by omega))
  replace R_G := Lib.hid (R_G.out.below b17 (by omega))
  replace R_hx := Lib.hid (R_hx.out.below b17 (by omega))
  replace P_x := Lib.hid (P_x.out.below b17 (by omega))
  replace P_y := Lib.hid (P_y.out.below b17 (by omega))
  replace HB := Lib.hid (HB.out.trans (b17.mono (by omega)))
  clear b17
  go_wp2_with fail
  refine (impl_FollowLinks _ _ _ _ _ _ _  (R_hx.out.rdI.more (by omega)) (R_hy.out.rdI.more (by omega)) l_x l_y).mono ?_
  rw [HG.out]
  rintro e w18 ⟨A18, c18, rfl, o18, b18⟩
  have z18 := b18.size
  have R_Z := Lib.hid (Row.mk_ o18)
  clear o18
  replace R_W := Lib.hid (R_W.out.below b18 (by omega))
  replace R_G := Lib.hid (R_G.out.below b18 (by omega))
  replace R_hx := Lib.hid (R_hx.out.below b18 (by omega))
  replace R_hy := Lib.hid (R_hy.out.below b18 (by omega))
  replace P_x := Lib.hid (P_x.out.below b18 (by omega))
  replace P_y := Lib.hid (P_y.out.below b18 (by omega))
  replace HB := Lib.hid (HB.out.trans (b18.mono (by omega)))
  clear b18
  clear R_hx
  clear R_hy
  clear P_x
  clear P_y
  go_wp2_with fail
  refine (laws_eqLinkS _ _ _ _ _ _ _ (R_Z.out.rdLink.more (by omega)) (R_W.out.rdLink.more (by omega)) hL.out hL.out).mono ?_
  rintro e w19 ⟨rfl, b19⟩
  have z19 := b19.size
  replace R_W := Lib.hid (R_W.out.below b19 (by omega))
  replace R_G := Lib.hid (R_G.out.below b19 (by omega))
  replace R_Z := Lib.hid (R_Z.out.below b19 (by omega))
  replace HB := Lib.hid (HB.out.trans (b19.mono (by omega)))
  clear b19
  clear R_Z
  clear R_W
  go_wp2_with fail
  refine (laws_heldLinkS _ _ _ _ _ (R_G.out.rd.more (by omega)) hL.out (by omega) (by omega)).mono ?_
  rintro e w' ⟨rfl, rfl⟩
  go_wp2_with fail
  go_ret
  exact ⟨rfl, HB.out⟩
theorem walk (w : World) (A_x : Option Addr) (c_x : Nat) (x : List Int) (r_x : RdI w w.heap.size A_x x) (f_x : WfI x) (m_x : x.length ≤ maxLen) (A_y : Option Addr) (c_y : Nat) (y : List Int) (r_y : RdI w w.heap.size A_y y) (f_y : WfI y) (m_y : y.length ≤ maxLen) :
    Calls Try.prog 9 #[.slice A_x x.length c_x, .slice A_y y.length c_y] w (RetB w true) := by
  by_cases l_x : x.length ≤ 1048576
  case neg =>
    unfold maxLen at m_x m_y
    clear r_x r_y
    go_enter Try.func9, Try.ntmps9
    go_wp2
    go_ret
    exact ⟨rfl, Below.refl _ _⟩
  by_cases l_y : y.length ≤ 1048576
  case neg =>
    unfold maxLen at m_x m_y
    clear r_x r_y
    go_enter Try.func9, Try.ntmps9
    go_wp2
    go_ret
    exact ⟨rfl, Below.refl _ _⟩
  exact core w A_x c_x x A_y c_y y r_x l_x r_y l_y

set_option maxRecDepth 100000 in
theorem lifted (os : Os) (started : os.Started) (H : Type) (enc : TypeId × Value → H) :
    ReturnsInHanded {} Try.checked os 9 .any (Rows.fnExactFollowLinksSpec.pre6 enc Try.prog Try.f9 Rows.fnExactFollowLinksRow.domain false) (Rows.fnExactFollowLinksSpec.post enc Try.prog Try.f9 false true false false) := by
  refine returnsInHanded_of_change (C := Try.checked) own started (by kernel_rfl) Try.func9
    (ChangeSpec.witness6 (enc := enc) (C := Try.checked) false ⟨#[], #[.slice none 0 0, .slice none 0 0], []⟩ 8 (by kernel_rfl) (by kernel_rfl) (by kernel_rfl) (by kernel_rfl)) ?_
  intro W base args ds gs before hval0 hW hcnd _
  have hval : ∀ (j : Nat) t v, Try.f9.params[j]? = some t → args[j]? = some v → Value.okWide Try.prog W .any base t v := hval0
  have hW' := hW
  obtain ⟨p, q, hA0, hV, rfl, hfz, hnd⟩ := hW
  have hA : DataW.TrodAll enc Try.prog W 0 (fun _ => true) true Try.f9.params.toList args.toList ds p := hA0
  rw [Try.params9] at hA hval
  obtain ⟨v0, vs0, d0, ds0, p0, q0, hargs, rfl, rfl, h0, r0⟩ := trodAll_cons hA
  obtain ⟨v1, vs1, d1, ds1, p1, q1, rfl, rfl, rfl, h1, r1⟩ := trodAll_cons r0
  obtain ⟨rfl, rfl, rfl⟩ := trodAll_nil r1
  obtain rfl : args = #[v0, v1] := by cases args; simp_all
  obtain ⟨rfl, rfl⟩ := trodVars_none hV
  obtain ⟨A_x, l_x, c_x, rfl⟩ := okWide_slice Try.underlying22 (hval 0 22 v0 rfl rfl)
  have k0 := h0
  have lt0 : ∀ x ∈ p0, x.block < W.heap.size := by obtain ⟨m, hm⟩ := k0; exact DataW.trod_lt m _ _ _ hm
  obtain ⟨x, rfl, r_x, f_x, m_x⟩ : ∃ X : List Int, X.length = l_x ∧ RdI W W.heap.size A_x X ∧ WfI X ∧ l_x ≤ maxLen := by
    obtain ⟨fuel, hf⟩ := h0
    exact open_ints_rd Try.underlying22 Try.underlying3 (by kernel_rfl) hf
  obtain ⟨A_y, l_y, c_y, rfl⟩ := okWide_slice Try.underlying22 (hval 1 22 v1 rfl rfl)
  have k1 := h1
  have lt1 : ∀ x ∈ p1, x.block < W.heap.size := by obtain ⟨m, hm⟩ := k1; exact DataW.trod_lt m _ _ _ hm
  obtain ⟨y, rfl, r_y, f_y, m_y⟩ : ∃ X : List Int, X.length = l_y ∧ RdI W W.heap.size A_y X ∧ WfI X ∧ l_y ≤ maxLen := by
    obtain ⟨fuel, hf⟩ := h1
    exact open_ints_rd Try.underlying22 Try.underlying3 (by kernel_rfl) hf
  clear hA0 hval0
  refine (walk W A_x c_x x r_x f_x m_x A_y c_y y r_y f_y m_y).mono fun e W' hwk => ?_
  obtain ⟨he, bel⟩ := hwk
  subst he
  exact ⟨_, rfl, _, _, _, [], _, [], hW', trodAll_mk1 (shut_bool Try.underlying4 _), (trodAll_cons_mk (Below.trod laidOut (by kernel_rfl) (of_decide_eq_true (by kernel_rfl)) k0 bel lt0) (trodAll_cons_mk (Below.trod laidOut (by kernel_rfl) (of_decide_eq_true (by kernel_rfl)) k1 bel lt1) trodAll_mk0)), rfl, bel.frame _, fun h => by cases h⟩

theorem over : Rows.fnExactFollowLinksRow.holds Try.pinned (OpenSpec.ofChange Rows.fnExactFollowLinksSpec) :=
  OpenClaim.holds_of_wide 9 Try.f9 rfl rfl rfl rfl rfl rfl rfl ⟨rfl, rfl, rfl, rfl, rfl⟩ rfl rfl rfl rfl rfl (by kernel_rfl) Try.func9 (by kernel_rfl)
    (of_decide_eq_true (by kernel_rfl)) (by unfold Func.isWrapper; first | (rw [if_pos (by decide +kernel)]; kernel_rfl) | (rw [if_neg (by decide +kernel)]; exact ⟨rfl, rfl⟩))
    (fun os started H enc _ => lifted os started H enc)

/-- The statement. -/
theorem proved : Rows.FnExactFollowLinksSaid := over
#print axioms proved
end Go.Proofs.Ytfmdpnnddhelaaa.fnExactFollowLinks
