/-
  FnExactQuantize returns true for every input and leaves its arguments as they were. No condition.
-/
import Derived.Test.YtkmgmnjggnamfaaQns
import Derived.Test.YtkmgmnjggnamfaaOpenRec
import Derived.Test.YtkmgmnjggnamfaaFrame
namespace Go.Proofs.Ytkmgmnjggnamfaa.fnExactQuantize
open Go.ChangeShapes Go.WideShapes Go.ChangeAt Go.RowKit
open Go.ChangeMaps (open_string shut_string)
set_option linter.unusedVariables false

set_option maxHeartbeats 4000000 in
theorem core (w : World) (A_x : Option Addr) (c_x : Nat) (x : List (Int × Int × Int × Int)) (A_y : Option Addr) (c_y : Nat) (y : List (Int × Int)) (g : Int) (r_x : RdEvent w w.heap.size A_x x) (l_x : x.length ≤ 1048576) (r_y : RdTempo w w.heap.size A_y y) (l_y : y.length ≤ 1048576) (w_g : Fits g) (s_2 : x.length + y.length ≤ 1048576) :
    Calls Try.prog 7 #[.slice A_x x.length c_x, .slice A_y y.length c_y, .int .i64 g] w (RetB w true) := by
  have hL : Hid ((quanL x y g).1.length ≤ 1048576) := by unfold Hid; have := quanL_len x y g; omega
  have hs := sameNote_refl (quanL x y g).1
  have hs_x := sameEvent_refl x
  have hs_y := sameTempo_refl y
  have hd_x : decide (((1048576 : Int) - (x.length : Int)) < 0) = false := decide_eq_false (by omega)
  have hd_y : decide (((1048576 : Int) - (x.length : Int) - (y.length : Int)) < 0) = false := decide_eq_false (by omega)
  have hk0 : decide (((1 : Int) + 4 * (x.length : Int) + 2 * (y.length : Int)) < 0) = false := decide_eq_false (by omega)
  generalize hGL : quanL x y g = L at *
  have hb2 : (L.2 != L.2) = false := by simp
  have hm0 : decide (((1 : Int) + 6 * (L.1.length : Int)) < 0) = false := decide_eq_false (by have := hL.out; omega)
  have HG := Lib.hid hGL; clear hGL
  have P_x := Lib.hid r_x; clear r_x
  have P_y := Lib.hid r_y; clear r_y
  go_enter Try.func7, Try.ntmps7
  go_wp2_with fail
  refine (laws_szEventS _ _ _ _ _ (by omega) (by omega)).mono ?_
  rintro e w1 ⟨rfl, b1⟩
  have z1 := b1.size
  replace P_x := Lib.hid (P_x.out.below b1 (by omega))
  replace P_y := Lib.hid (P_y.out.below b1 (by omega))
  have HB := Lib.hid b1
  clear b1
  go_wp2_with fail
  refine (laws_szTempoS _ _ _ _ _ (by omega) (by omega)).mono ?_
  rintro e w2 ⟨rfl, b2⟩
  have z2 := b2.size
  replace P_x := Lib.hid (P_x.out.below b2 (by omega))
  replace P_y := Lib.hid (P_y.out.below b2 (by omega))
  replace HB := Lib.hid (HB.out.trans (b2.mono (by omega)))
  clear b2
  go_wp2_with fail
  refine (laws_toEventS _ _ _ _ (P_x.out.more (by omega)) l_x).mono ?_
  rintro e w3 ⟨A3, c3, rfl, o3, b3⟩
  have z3 := b3.size
  have R_ax := Lib.hid (Row.mk_ o3)
  clear o3
  replace P_x := Lib.hid (P_x.out.below b3 (by omega))
  replace P_y := Lib.hid (P_y.out.below b3 (by omega))
  replace HB := Lib.hid (HB.out.trans (b3.mono (by omega)))
  clear b3
  go_wp2_with fail
  refine (laws_toTempoS _ _ _ _ (P_y.out.more (by omega)) l_y).mono ?_
  rintro e w4 ⟨A4, c4, rfl, o4, b4⟩
  have z4 := b4.size
  have R_ay := Lib.hid (Row.mk_ o4)
  clear o4
  replace R_ax := Lib.hid (R_ax.out.below b4 (by omega))
  replace P_x := Lib.hid (P_x.out.below b4 (by omega))
  replace P_y := Lib.hid (P_y.out.below b4 (by omega))
  replace HB := Lib.hid (HB.out.trans (b4.mono (by omega)))
  clear b4
  go_wp2_with fail
  refine ((spec_Quantize _ _ _ _ _ _ _ _  (R_ax.out.rdEvent.more (by omega)) (R_ay.out.rdTempo.more (by omega)) l_x l_y)).mono ?_
  rw [HG.out]
  rintro e w5 ⟨A5, c5, rfl, o5, b5⟩
  have z5 := b5.size
  have R_W := Lib.hid (Row.mk_ o5)
  clear o5
  replace R_ax := Lib.hid (R_ax.out.below b5 (by omega))
  replace R_ay := Lib.hid (R_ay.out.below b5 (by omega))
  replace P_x := Lib.hid (P_x.out.below b5 (by omega))
  replace P_y := Lib.hid (P_y.out.below b5 (by omega))
  replace HB := Lib.hid (HB.out.trans (b5.mono (by omega)))
  clear b5
  clear R_ax
  clear R_ay
  go_wp2_with fail
  refine (laws_toEventS _ _ _ _ (P_x.out.more (by omega)) l_x).mono ?_
  rintro e w6 ⟨A6, c6, rfl, o6, b6⟩
  have z6 := b6.size
  have R_xx := Lib.hid (Row.mk_ o6)
  clear o6
  replace R_W := Lib.hid (R_W.out.below b6 (by omega))
  replace P_x := Lib.hid (P_x.out.below b6 (by omega))
  replace P_y := Lib.hid (P_y.out.below b6 (by omega))
  replace HB := Lib.hid (HB.out.trans (b6.mono (by omega)))
  clear b6
  go_wp2_with fail
  refine (laws_toTempoS _ _ _ _ (P_y.out.more (by omega)) l_y).mono ?_
  rintro e w7 ⟨A7, c7, rfl, o7, b7⟩
  have z7 := b7.size
  have R_xy := Lib.hid (Row.mk_ o7)
  clear o7
  replace R_W := Lib.hid (R_W.out.below b7 (by omega))
  replace R_xx := Lib.hid (R_xx.out.below b7 (by omega))
  replace P_x := Lib.hid (P_x.out.below b7 (by omega))
  replace P_y := Lib.hid (P_y.out.below b7 (by omega))
  replace HB := Lib.hid (HB.out.trans (b7.mono (by omega)))
  clear b7
  go_wp2_with fail
  refine ((impl_Quantize _ _ _ _ _ _ _ _  (R_xx.out.rdEvent.more (by omega)) (R_xy.out.rdTempo.more (by omega)) l_x l_y)).mono ?_
  rw [HG.out]
  rintro e w8 ⟨A8, c8, rfl, o8, b8⟩
  have z8 := b8.size
  have R_G := Lib.hid (Row.mk_ o8)
  clear o8
  replace R_W := Lib.hid (R_W.out.below b8 (by omega))
  replace R_xx := Lib.hid (R_xx.out.below b8 (by omega))
  replace R_xy := Lib.hid (R_xy.out.below b8 (by omega))
  replace P_x := Lib.hid (P_x.out.below b8 (by omega))
  replace P_y := Lib.hid (P_y.out.below b8 (by omega))
  replace HB := Lib.hid (HB.out.trans (b8.mono (by omega)))
  clear b8
  go_wp2_with fail
  refine (laws_eqNoteS _ _ _ _ _ _ _ (R_G.out.rdNote.more (by omega)) (R_W.out.rdNote.more (by omega)) hL.out hL.out).mono ?_
  rintro e w9 ⟨rfl, b9⟩
  have z9 := b9.size
  replace R_W := Lib.hid (R_W.out.below b9 (by omega))
  replace R_xx := Lib.hid (R_xx.out.below b9 (by omega))
  replace R_xy := Lib.hid (R_xy.out.below b9 (by omega))
  replace R_G := Lib.hid (R_G.out.below b9 (by omega))
  replace P_x := Lib.hid (P_x.out.below b9 (by omega))
  replace P_y := Lib.hid (P_y.out.below b9 (by omega))
  replace HB := Lib.hid (HB.out.trans (b9.mono (by omega)))
  clear b9
  go_wp2_with fail
  refine (laws_toEventS _ _ _ _ (P_x.out.more (by omega)) l_x).mono ?_
  rintro e w10 ⟨A10, c10, rfl, o10, b10⟩
  have z10 := b10.size
  have R_yx := Lib.hid (Row.mk_ o10)
  clear o10
  replace R_W := Lib.hid (R_W.out.below b10 (by omega))
  replace R_xx := Lib.hid (R_xx.out.below b10 (by omega))
  replace R_xy := Lib.hid (R_xy.out.below b10 (by omega))
  replace R_G := Lib.hid (R_G.out.below b10 (by omega))
  replace P_x := Lib.hid (P_x.out.below b10 (by omega))
  replace P_y := Lib.hid (P_y.out.below b10 (by omega))
  replace HB := Lib.hid (HB.out.trans (b10.mono (by omega)))
  clear b10
  go_wp2_with fail
  refine (laws_eqEventS _ _ _ _ _ _ _ (R_xx.out.rdEvent.more (by omega)) (R_yx.out.rdEvent.more (by omega)) l_x l_x).mono ?_
  rintro e w11 ⟨rfl, b11⟩
  have z11 := b11.size
  replace R_W := Lib.hid (R_W.out.below b11 (by omega))
  replace R_xx := Lib.hid (R_xx.out.below b11 (by omega))
  replace R_xy := Lib.hid (R_xy.out.below b11 (by omega))
  replace R_G := Lib.hid (R_G.out.below b11 (by omega))
  replace R_yx := Lib.hid (R_yx.out.below b11 (by omega))
  replace P_x := Lib.hid (P_x.out.below b11 (by omega))
  replace P_y := Lib.hid (P_y.out.below b11 (by omega))
  replace HB := Lib.hid (HB.out.trans (b11.mono (by omega)))
  clear b11
  clear R_yx
  go_wp2_with fail
  refine (laws_toTempoS _ _ _ _ (P_y.out.more (by omega)) l_y).mono ?_
  rintro e w12 ⟨A12, c12, rfl, o12, b12⟩
  have z12 := b12.size
  have R_yy := Lib.hid (Row.mk_ o12)
  clear o12
  replace R_W := Lib.hid (R_W.out.below b12 (by omega))
  replace R_xx := Lib.hid (R_xx.out.below b12 (by omega))
  replace R_xy := Lib.hid (R_xy.out.below b12 (by omega))
  replace R_G := Lib.hid (R_G.out.below b12 (by omega))
  replace P_x := Lib.hid (P_x.out.below b12 (by omega))
  replace P_y := Lib.hid (P_y.out.below b12 (by omega))
  replace HB := Lib.hid (HB.out.trans (b12.mono (by omega)))
  clear b12
  go_wp2_with fail
  refine (laws_eqTempoS _ _ _ _ _ _ _ (R_xy.out.rdTempo.more (by omega)) (R_yy.out.rdTempo.more (by omega)) l_y l_y).mono ?_
  rintro e w13 ⟨rfl, b13⟩
  have z13 := b13.size
  replace R_W := Lib.hid (R_W.out.below b13 (by omega))
  replace R_xx := Lib.hid (R_xx.out.below b13 (by omega))
  replace R_xy := Lib.hid (R_xy.out.below b13 (by omega))
  replace R_G := Lib.hid (R_G.out.below b13 (by omega))
  replace R_yy := Lib.hid (R_yy.out.below b13 (by omega))
  replace P_x := Lib.hid (P_x.out.below b13 (by omega))
  replace P_y := Lib.hid (P_y.out.below b13 (by omega))
  replace HB := Lib.hid (HB.out.trans (b13.mono (by omega)))
  clear b13
  clear R_yy
  go_wp2_with fail
  refine (laws_markEventS _ _ _ _ _ _ _ R_xx.out.1 l_x (by omega) (by omega)).mono ?_; rintro e w14 ⟨rfl, o14, g14⟩
  have z14 := g14.size
  replace R_W := Lib.hid (R_W.out.far R_xx.out g14 (by omega))
  replace R_xy := Lib.hid (R_xy.out.far R_xx.out g14 (by omega))
  replace R_G := Lib.hid (R_G.out.far R_xx.out g14 (by omega))
  replace P_x := Lib.hid (P_x.out.far R_xx.out g14 (by omega) (by omega))
  replace P_y := Lib.hid (P_y.out.far R_xx.out g14 (by omega) (by omega))
  replace HB := Lib.hid (below_far HB.out R_xx.out g14 (by omega) (by omega))
  replace R_xx := Lib.hid (R_xx.out.self o14)
  clear o14 g14
  go_wp2_with fail
  refine (laws_markTempoS _ _ _ _ _ _ _ R_xy.out.1 l_y (by omega) (by omega)).mono ?_; rintro e w15 ⟨rfl, o15, g15⟩
  have z15 := g15.size
  replace R_W := Lib.hid (R_W.out.far R_xy.out g15 (by omega))
  replace R_xx := Lib.hid (R_xx.out.far R_xy.out g15 (by omega))
  replace R_G := Lib.hid (R_G.out.far R_xy.out g15 (by omega))
  replace P_x := Lib.hid (P_x.out.far R_xy.out g15 (by omega) (by omega))
  replace P_y := Lib.hid (P_y.out.far R_xy.out g15 (by omega) (by omega))
  replace HB := Lib.hid (below_far HB.out R_xy.out g15 (by omega) (by omega))
  replace R_xy := Lib.hid (R_xy.out.self o15)
  clear o15 g15
  clear R_xx
  clear R_xy
  go_wp2_with fail
  refine (laws_eqNoteS _ _ _ _ _ _ _ (R_G.out.rdNote.more (by omega)) (R_W.out.rdNote.more (by omega)) hL.out hL.out).mono ?_
  rintro e w16 ⟨rfl, b16⟩
  have z16 := b16.size
  replace R_W := Lib.hid (R_W.out.below b16 (by omega))
  replace R_G := Lib.hid (R_G.out.below b16 (by omega))
  replace P_x := Lib.hid (P_x.out.below b16 (by omega))
  replace P_y := Lib.hid (P_y.out.below b16 (by omega))
  replace HB := Lib.hid (HB.out.trans (b16.mono (by omega)))
  clear b16
  go_wp2_with fail
  refine (laws_markNoteS _ _ _ _ _ _ _ R_G.out.1 hL.out (by omega) (by omega)).mono ?_; rintro e w17 ⟨rfl, o17, g17⟩
  have z17 := g17.size
  replace R_W := Lib.hid (R_W.out.far R_G.out g17 (by omega))
  replace P_x := Lib.hid (P_x.out.far R_G.out g17 (by omega) (by omega))
  replace P_y := Lib.hid (P_y.out.far R_G.out g17 (by omega) (by omega))
  replace HB := Lib.hid (below_far HB.out R_G.out g17 (by omega) (by omega))
  replace R_G := Lib.hid (R_G.out.self o17)
  clear o17 g17
  go_wp2_with fail
  refine (laws_heldNoteS _ _ _ _ _ (R_G.out.rd.more (by omega)) hL.out (by omega) (by omega)).mono ?_
  rintro e w' ⟨rfl, rfl⟩
  go_wp2_with fail
  refine (laws_toEventS _ _ _ _ (P_x.out.more (by omega)) l_x).mono ?_
  rintro e w18 ⟨A18, c18, rfl, o18, b18⟩
  have z18 := b18.size
  have R_hx := Lib.hid (Row.mk_ o18)
  clear o18
  replace R_W := Lib.hid (R_W.out.below b18 (by omega))
  replace R_G := Lib.hid (R_G.out.below b18 (by omega))
  replace P_x := Lib.hid (P_x.out.below b18 (by omega))
  replace P_y := Lib.hid (P_y.out.below b18 (by omega))
  replace HB := Lib.hid (HB.out.trans (b18.mono (by omega)))
  clear b18
  go_wp2_with fail
  refine (laws_toTempoS _ _ _ _ (P_y.out.more (by omega)) l_y).mono ?_
  rintro e w19 ⟨A19, c19, rfl, o19, b19⟩
  have z19 := b19.size
  have R_hy := Lib.hid (Row.mk_ o19)
  clear o19
  replace R_W := Lib.hid (R_W.out.below b19 (by omega))
  replace R_G := Lib.hid (R_G.out.below b19 (by omega))
  replace R_hx := Lib.hid (R_hx.out.below b19 (by omega))
  replace P_x := Lib.hid (P_x.out.below b19 (by omega))
  replace P_y := Lib.hid (P_y.out.below b19 (by omega))
  replace HB := Lib.hid (HB.out.trans (b19.mono (by omega)))
  clear b19
  go_wp2_with fail
  refine ((impl_Quantize _ _ _ _ _ _ _ _  (R_hx.out.rdEvent.more (by omega)) (R_hy.out.rdTempo.more (by omega)) l_x l_y)).mono ?_
  rw [HG.out]
  rintro e w20 ⟨A20, c20, rfl, o20, b20⟩
  have z20 := b20.size
  have R_Z := Lib.hid (Row.mk_ o20)
  clear o20
  replace R_W := Lib.hid (R_W.out.below b20 (by omega))
  replace R_G := Lib.hid (R_G.out.below b20 (by omega))
  replace R_hx := Lib.hid (R_hx.out.below b20 (by omega))
  replace R_hy := Lib.hid (R_hy.out.below b20 (by omega))
  replace P_x := Lib.hid (P_x.out.below b20 (by omega))
  replace P_y := Lib.hid (P_y.out.below b20 (by omega))
  replace HB := Lib.hid (HB.out.trans (b20.mono (by omega)))
  clear b20
  clear R_hx
  clear R_hy
  clear P_x
  clear P_y
  go_wp2_with fail
  refine (laws_eqNoteS _ _ _ _ _ _ _ (R_Z.out.rdNote.more (by omega)) (R_W.out.rdNote.more (by omega)) hL.out hL.out).mono ?_
  rintro e w21 ⟨rfl, b21⟩
  have z21 := b21.size
  replace R_W := Lib.hid (R_W.out.below b21 (by omega))
  replace R_G := Lib.hid (R_G.out.below b21 (by omega))
  replace R_Z := Lib.hid (R_Z.out.below b21 (by omega))
  replace HB := Lib.hid (HB.out.trans (b21.mono (by omega)))
  clear b21
  clear R_Z
  clear R_W
  go_wp2_with fail
  refine (laws_heldNoteS _ _ _ _ _ (R_G.out.rd.more (by omega)) hL.out (by omega) (by omega)).mono ?_
  rintro e w' ⟨rfl, rfl⟩
  go_wp2_with fail
  go_ret
  exact ⟨rfl, HB.out⟩
theorem walk (w : World) (A_x : Option Addr) (c_x : Nat) (x : List (Int × Int × Int × Int)) (r_x : RdEvent w w.heap.size A_x x) (m_x : x.length ≤ maxLen) (A_y : Option Addr) (c_y : Nat) (y : List (Int × Int)) (r_y : RdTempo w w.heap.size A_y y) (m_y : y.length ≤ maxLen) (g : Int) (w_g : Fits g) :
    Calls Try.prog 7 #[.slice A_x x.length c_x, .slice A_y y.length c_y, .int .i64 g] w (RetB w true) := by
  by_cases l_x : x.length ≤ 1048576
  case neg =>
    unfold maxLen at m_x m_y
    clear r_x r_y
    go_enter Try.func7, Try.ntmps7
    go_wp2_with fail
    refine (laws_szEventS_no _ _ _ _ _ (by omega) (by omega) (by omega)).mono ?_; rintro e w1 ⟨rfl, b1⟩
    have B1 := Lib.hid b1; clear b1
    go_wp2_with fail
    go_ret
    exact ⟨rfl, B1.out⟩
  by_cases s_2 : x.length + y.length ≤ 1048576
  case neg =>
    unfold maxLen at m_x m_y
    clear r_x r_y
    have hd_1 : decide (((1048576 : Int) - (x.length : Int)) < 0) = false := decide_eq_false (by omega)
    go_enter Try.func7, Try.ntmps7
    go_wp2_with fail
    refine (laws_szEventS _ _ _ _ _ (by omega) (by omega)).mono ?_; rintro e w1 ⟨rfl, b1⟩
    have z1 := b1.size
    have B1 := Lib.hid b1; clear b1
    go_wp2_with fail
    refine (laws_szTempoS_no _ _ _ _ _ (by omega) (by omega) (by omega)).mono ?_; rintro e w2 ⟨rfl, b2⟩
    have B2 := Lib.hid b2; clear b2
    go_wp2_with fail
    go_ret
    exact ⟨rfl, B1.out.trans (B2.out.mono (by omega))⟩
  have l_y : y.length ≤ 1048576 := by omega
  exact core w A_x c_x x A_y c_y y g r_x l_x r_y l_y w_g s_2

set_option maxRecDepth 100000 in
theorem lifted (os : Os) (started : os.Started) (H : Type) (enc : TypeId × Value → H) :
    ReturnsInHanded {} Try.checked os 7 .any (Rows.fnExactQuantizeSpec.pre6 enc Try.prog Try.f7 Rows.fnExactQuantizeRow.domain false) (Rows.fnExactQuantizeSpec.post enc Try.prog Try.f7 false true false false) := by
  refine returnsInHanded_of_change (C := Try.checked) own started (by kernel_rfl) Try.func7
    (ChangeSpec.witness6 (enc := enc) (C := Try.checked) false ⟨#[], #[.slice none 0 0, .slice none 0 0, .int .i64 0], []⟩ 8 (by kernel_rfl) (by kernel_rfl) (by kernel_rfl) (by kernel_rfl)) ?_
  intro W base args ds gs before hval0 hW hcnd _
  have hval : ∀ (j : Nat) t v, Try.f7.params[j]? = some t → args[j]? = some v → Value.okWide Try.prog W .any base t v := hval0
  have hW' := hW
  obtain ⟨p, q, hA0, hV, rfl, hfz, hnd⟩ := hW
  have hA : DataW.TrodAll enc Try.prog W 0 (fun _ => true) true Try.f7.params.toList args.toList ds p := hA0
  rw [Try.params7] at hA hval
  obtain ⟨v0, vs0, d0, ds0, p0, q0, hargs, rfl, rfl, h0, r0⟩ := trodAll_cons hA
  obtain ⟨v1, vs1, d1, ds1, p1, q1, rfl, rfl, rfl, h1, r1⟩ := trodAll_cons r0
  obtain ⟨v2, vs2, d2, ds2, p2, q2, rfl, rfl, rfl, h2, r2⟩ := trodAll_cons r1
  obtain ⟨rfl, rfl, rfl⟩ := trodAll_nil r2
  obtain rfl : args = #[v0, v1, v2] := by cases args; simp_all
  obtain ⟨rfl, rfl⟩ := trodVars_none hV
  have k0 := h0
  have lt0 : ∀ x ∈ p0, x.block < W.heap.size := by obtain ⟨m, hm⟩ := k0; exact DataW.trod_lt m _ _ _ hm
  obtain ⟨A_x, l_x, c_x, rfl⟩ := okWide_slice Try.underlying24 (hval 0 24 v0 rfl rfl)
  obtain ⟨x, rfl, r_x, m_x⟩ : ∃ X : List (Int × Int × Int × Int), X.length = l_x ∧ RdEvent W W.heap.size A_x X ∧ l_x ≤ maxLen := by
    obtain ⟨fuel, hf⟩ := h0
    exact open_events_rd hf
  have k1 := h1
  have lt1 : ∀ x ∈ p1, x.block < W.heap.size := by obtain ⟨m, hm⟩ := k1; exact DataW.trod_lt m _ _ _ hm
  obtain ⟨A_y, l_y, c_y, rfl⟩ := okWide_slice Try.underlying25 (hval 1 25 v1 rfl rfl)
  obtain ⟨y, rfl, r_y, m_y⟩ : ∃ X : List (Int × Int), X.length = l_y ∧ RdTempo W W.heap.size A_y X ∧ l_y ≤ maxLen := by
    obtain ⟨fuel, hf⟩ := h1
    exact open_tempos_rd hf
  obtain ⟨g, rfl, rfl, rfl, wf_g⟩ := open_int Try.underlying3 (hval 2 3 v2 rfl rfl) h2
  have w_g : Fits g := bounds_i64 wf_g
  clear hA0 hval0
  refine (walk W A_x c_x x r_x m_x A_y c_y y r_y m_y g w_g).mono fun e W' hwk => ?_
  obtain ⟨he, bel⟩ := hwk
  subst he
  exact ⟨_, rfl, _, _, _, [], _, [], hW', trodAll_mk1 (shut_bool Try.underlying4 _), (trodAll_cons_mk (Below.trod laidOut (by kernel_rfl) (of_decide_eq_true (by kernel_rfl)) k0 bel lt0) (trodAll_cons_mk (Below.trod laidOut (by kernel_rfl) (of_decide_eq_true (by kernel_rfl)) k1 bel lt1) (trodAll_cons_mk (shut_int Try.underlying3 wf_g) trodAll_mk0))), rfl, bel.frame _, fun h => by cases h⟩

theorem over : Rows.fnExactQuantizeRow.holds Try.pinned (OpenSpec.ofChange Rows.fnExactQuantizeSpec) :=
  OpenClaim.holds_of_wide 7 Try.f7 rfl rfl rfl rfl rfl rfl rfl ⟨rfl, rfl, rfl, rfl, rfl⟩ rfl rfl rfl rfl rfl (by kernel_rfl) Try.func7 (by kernel_rfl)
    (of_decide_eq_true (by kernel_rfl)) (by unfold Func.isWrapper; first | (rw [if_pos (by decide +kernel)]; kernel_rfl) | (rw [if_neg (by decide +kernel)]; exact ⟨rfl, rfl⟩))
    (fun os started H enc _ => lifted os started H enc)

/-- The statement. -/
theorem proved : Rows.FnExactQuantizeSaid := over
#print axioms proved
end Go.Proofs.Ytkmgmnjggnamfaa.fnExactQuantize
