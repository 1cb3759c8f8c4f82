/-
  FnExactSamePattern returns true for every input and leaves its arguments as they were. No condition.
-/
import Derived.Test.YtjabgfhjkjinoaaSame
import Derived.Test.YtjabgfhjkjinoaaFrame
namespace Go.Proofs.Ytjabgfhjkjinoaa.fnExactSamePattern
open Go.ChangeShapes Go.WideShapes Go.ChangeAt Go.RowKit
open Go.ChangeMaps (open_string shut_string)
set_option linter.unusedVariables false

set_option maxHeartbeats 4000000 in
theorem core (w : World) (A_x : Option Addr) (c_x : Nat) (x : List Bool) (A_y : Option Addr) (c_y : Nat) (y : List Bool) (r_x : RdBo w w.heap.size A_x x) (l_x : x.length ≤ 1048576) (r_y : RdBo w w.heap.size A_y y) (l_y : y.length ≤ 1048576) (s_2 : x.length + y.length ≤ 1048576) :
    Calls Try.prog 7 #[.agg #[.slice A_x x.length c_x], .agg #[.slice A_y y.length c_y]] w (RetB w true) := by
  have hs_x := sameBo_refl x
  have hs_y := sameBo_refl y
  have hd_x : decide (((1048576 : Int) - (x.length : Int)) < 0) = false := decide_eq_false (by omega)
  have hd_y : decide (((1048576 : Int) - (x.length : Int) - (y.length : Int)) < 0) = false := decide_eq_false (by omega)
  generalize hGL : samePatL x y = L at *
  have HG := Lib.hid hGL; clear hGL
  have P_x := Lib.hid r_x; clear r_x
  have P_y := Lib.hid r_y; clear r_y
  have b1 : Below w.heap.size w ((w.alloc (.cells #[.slice A_x x.length c_x] 24)).alloc (.cells #[.slice A_y y.length c_y] 24)) := by (repeat (first | exact Below.refl _ _ | refine Below.alloc ?_ (by simp; try omega) _ | refine below_drewN ?_ _ | refine Below.drew ?_))
  have z1 : w.heap.size + 2 ≤ ((w.alloc (.cells #[.slice A_x x.length c_x] 24)).alloc (.cells #[.slice A_y y.length c_y] 24)).heap.size := by simp
  have Q_x : ((w.alloc (.cells #[.slice A_x x.length c_x] 24)).alloc (.cells #[.slice A_y y.length c_y] 24)).cell? ⟨w.heap.size, 0, none⟩ = some (.slice A_x x.length c_x) := by simp [go_sem]
  have Q_y : ((w.alloc (.cells #[.slice A_x x.length c_x] 24)).alloc (.cells #[.slice A_y y.length c_y] 24)).cell? ⟨w.heap.size + 1, 0, none⟩ = some (.slice A_y y.length c_y) := by simp [go_sem]
  replace P_x := Lib.hid (P_x.out.below b1 (by omega))
  replace P_y := Lib.hid (P_y.out.below b1 (by omega))
  have HB := Lib.hid b1
  clear b1
  go_enter Try.func7, Try.ntmps7
  go_wp2_with fail
  generalize ((w.alloc (.cells #[.slice A_x x.length c_x] 24)).alloc (.cells #[.slice A_y y.length c_y] 24)) = w1 at *
  refine (laws_szPattern _ _ _ _ _ (by omega) (by omega)).mono ?_
  rintro e w2 ⟨rfl, b2⟩
  have z2 := b2.size
  replace P_x := Lib.hid (P_x.out.below b2 (by omega))
  replace P_y := Lib.hid (P_y.out.below b2 (by omega))
  replace Q_x := (b2.cell (p := ⟨w.heap.size, 0, none⟩) (show w.heap.size < w1.heap.size by omega)).trans Q_x
  replace Q_y := (b2.cell (p := ⟨(w.heap.size + 1), 0, none⟩) (show (w.heap.size + 1) < w1.heap.size by omega)).trans Q_y
  replace HB := Lib.hid (HB.out.trans (b2.mono (by omega)))
  clear b2
  go_wp2_with fail
  refine (laws_szPattern _ _ _ _ _ (by omega) (by omega)).mono ?_
  rintro e w3 ⟨rfl, b3⟩
  have z3 := b3.size
  replace P_x := Lib.hid (P_x.out.below b3 (by omega))
  replace P_y := Lib.hid (P_y.out.below b3 (by omega))
  replace Q_x := (b3.cell (p := ⟨w.heap.size, 0, none⟩) (show w.heap.size < w2.heap.size by omega)).trans Q_x
  replace Q_y := (b3.cell (p := ⟨(w.heap.size + 1), 0, none⟩) (show (w.heap.size + 1) < w2.heap.size by omega)).trans Q_y
  replace HB := Lib.hid (HB.out.trans (b3.mono (by omega)))
  clear b3
  go_wp2_with fail
  have sd : w3.drew.heap.size = w3.heap.size := rfl
  have P_dx := Lib.hid (P_x.out.more (show _ ≤ w3.heap.size by omega)).drew
  have P_dy := Lib.hid (P_y.out.more (show _ ≤ w3.heap.size by omega)).drew
  go_region_held3 (fun w' => w'.cell? ⟨w.heap.size, 0, none⟩ = some (.slice A_x x.length c_x) ∧ w'.cell? ⟨(w.heap.size + 1), 0, none⟩ = some (.slice A_y y.length c_y)) (first | exact ⟨(b6.cell (p := ⟨w.heap.size, 0, none⟩) (show w.heap.size < w5.heap.size by omega)).trans ((b5.cell (p := ⟨w.heap.size, 0, none⟩) (show w.heap.size < w4.heap.size by omega)).trans ((b4.cell (p := ⟨w.heap.size, 0, none⟩) (show w.heap.size < w3.heap.size by omega)).trans Q_x)), (b6.cell (p := ⟨(w.heap.size + 1), 0, none⟩) (show (w.heap.size + 1) < w5.heap.size by omega)).trans ((b5.cell (p := ⟨(w.heap.size + 1), 0, none⟩) (show (w.heap.size + 1) < w4.heap.size by omega)).trans ((b4.cell (p := ⟨(w.heap.size + 1), 0, none⟩) (show (w.heap.size + 1) < w3.heap.size by omega)).trans Q_y))⟩ | exact ⟨(b5.cell (p := ⟨w.heap.size, 0, none⟩) (show w.heap.size < w4.heap.size by omega)).trans ((b4.cell (p := ⟨w.heap.size, 0, none⟩) (show w.heap.size < w3.heap.size by omega)).trans Q_x), (b5.cell (p := ⟨(w.heap.size + 1), 0, none⟩) (show (w.heap.size + 1) < w4.heap.size by omega)).trans ((b4.cell (p := ⟨(w.heap.size + 1), 0, none⟩) (show (w.heap.size + 1) < w3.heap.size by omega)).trans Q_y)⟩ | exact ⟨(b4.cell (p := ⟨w.heap.size, 0, none⟩) (show w.heap.size < w3.heap.size by omega)).trans Q_x, (b4.cell (p := ⟨(w.heap.size + 1), 0, none⟩) (show (w.heap.size + 1) < w3.heap.size by omega)).trans Q_y⟩ | exact ⟨Q_x, Q_y⟩) (first | (go_at_call 22; refine (spec_SamePattern _ _ _ _ _ _ _ (((Row.mk_ o4).below b5 (by omega)).rd.more (by omega)) ((Row.mk_ o5).rd.more (by omega)) l_x l_y).mono ?_; rw [HG.out]; rintro e w6 ⟨rfl, b6⟩; have z6 : w5.heap.size ≤ w6.heap.size := b6.size) | (go_at_call 11; refine (laws_toPattern _ _ _ _ ((P_dy.out.below b4 (by omega)).more (by omega)) l_y).mono ?_; rintro e w5 ⟨A5, c5, rfl, o5, b5⟩; have z5 : w4.heap.size ≤ w5.heap.size := b5.size) | (go_at_call 11; refine (laws_toPattern _ _ _ _ P_dx.out l_x).mono ?_; rintro e w4 ⟨A4, c4, rfl, o4, b4⟩; have z4 : w3.heap.size ≤ w4.heap.size := b4.size))
  have bb : Below w3.heap.size w3 w6 := ((below_drew_left b4).trans (b5.mono (by omega))).trans (b6.mono (by omega))
  clear b4 b5 b6 o4 o5 P_dx P_dy sd
  replace P_x := Lib.hid (P_x.out.below bb (by omega))
  replace P_y := Lib.hid (P_y.out.below bb (by omega))
  replace Q_x := (bb.cell (p := ⟨w.heap.size, 0, none⟩) (show w.heap.size < w3.heap.size by omega)).trans Q_x
  replace Q_y := (bb.cell (p := ⟨(w.heap.size + 1), 0, none⟩) (show (w.heap.size + 1) < w3.heap.size by omega)).trans Q_y
  replace HB := Lib.hid (HB.out.trans (bb.mono (by omega)))
  clear bb
  go_wp2_with fail
  refine (laws_toPattern _ _ _ _ (P_x.out.more (by omega)) l_x).mono ?_
  rintro e w7 ⟨A7, c7, rfl, o7, b7⟩
  have z7 := b7.size
  have R_xx := Lib.hid (Row.mk_ o7)
  clear o7
  replace P_x := Lib.hid (P_x.out.below b7 (by omega))
  replace P_y := Lib.hid (P_y.out.below b7 (by omega))
  replace Q_x := (b7.cell (p := ⟨w.heap.size, 0, none⟩) (show w.heap.size < w6.heap.size by omega)).trans Q_x
  replace Q_y := (b7.cell (p := ⟨(w.heap.size + 1), 0, none⟩) (show (w.heap.size + 1) < w6.heap.size by omega)).trans Q_y
  replace HB := Lib.hid (HB.out.trans (b7.mono (by omega)))
  clear b7
  have b8 : Below w7.heap.size w7 (w7.alloc (.cells #[.slice A7 x.length c7] 27)) := (Below.refl _ _).alloc (Nat.le_refl _) _
  have z8 : w7.heap.size + 1 ≤ (w7.alloc (.cells #[.slice A7 x.length c7] 27)).heap.size := by simp
  have Q_xx : (w7.alloc (.cells #[.slice A7 x.length c7] 27)).cell? ⟨w7.heap.size, 0, none⟩ = some (.slice A7 x.length c7) := by simp [go_sem]
  replace R_xx := Lib.hid (R_xx.out.below b8 (by omega))
  replace P_x := Lib.hid (P_x.out.below b8 (by omega))
  replace P_y := Lib.hid (P_y.out.below b8 (by omega))
  replace Q_x := (b8.cell (p := ⟨w.heap.size, 0, none⟩) (show w.heap.size < w7.heap.size by omega)).trans Q_x
  replace Q_y := (b8.cell (p := ⟨(w.heap.size + 1), 0, none⟩) (show (w.heap.size + 1) < w7.heap.size by omega)).trans Q_y
  replace HB := Lib.hid (HB.out.trans (b8.mono (by omega)))
  clear b8
  go_wp2_with fail
  generalize (w7.alloc (.cells #[.slice A7 x.length c7] 27)) = w8 at *
  refine (laws_toPattern _ _ _ _ (P_y.out.more (by omega)) l_y).mono ?_
  rintro e w9 ⟨A9, c9, rfl, o9, b9⟩
  have z9 := b9.size
  have R_xy := Lib.hid (Row.mk_ o9)
  clear o9
  replace R_xx := Lib.hid (R_xx.out.below b9 (by omega))
  replace P_x := Lib.hid (P_x.out.below b9 (by omega))
  replace P_y := Lib.hid (P_y.out.below b9 (by omega))
  replace Q_x := (b9.cell (p := ⟨w.heap.size, 0, none⟩) (show w.heap.size < w8.heap.size by omega)).trans Q_x
  replace Q_y := (b9.cell (p := ⟨(w.heap.size + 1), 0, none⟩) (show (w.heap.size + 1) < w8.heap.size by omega)).trans Q_y
  replace Q_xx := (b9.cell (p := ⟨w7.heap.size, 0, none⟩) (show w7.heap.size < w8.heap.size by omega)).trans Q_xx
  replace HB := Lib.hid (HB.out.trans (b9.mono (by omega)))
  clear b9
  have b10 : Below w9.heap.size w9 (w9.alloc (.cells #[.slice A9 y.length c9] 27)) := (Below.refl _ _).alloc (Nat.le_refl _) _
  have z10 : w9.heap.size + 1 ≤ (w9.alloc (.cells #[.slice A9 y.length c9] 27)).heap.size := by simp
  have Q_xy : (w9.alloc (.cells #[.slice A9 y.length c9] 27)).cell? ⟨w9.heap.size, 0, none⟩ = some (.slice A9 y.length c9) := by simp [go_sem]
  replace R_xx := Lib.hid (R_xx.out.below b10 (by omega))
  replace R_xy := Lib.hid (R_xy.out.below b10 (by omega))
  replace P_x := Lib.hid (P_x.out.below b10 (by omega))
  replace P_y := Lib.hid (P_y.out.below b10 (by omega))
  replace Q_x := (b10.cell (p := ⟨w.heap.size, 0, none⟩) (show w.heap.size < w9.heap.size by omega)).trans Q_x
  replace Q_y := (b10.cell (p := ⟨(w.heap.size + 1), 0, none⟩) (show (w.heap.size + 1) < w9.heap.size by omega)).trans Q_y
  replace Q_xx := (b10.cell (p := ⟨w7.heap.size, 0, none⟩) (show w7.heap.size < w9.heap.size by omega)).trans Q_xx
  replace HB := Lib.hid (HB.out.trans (b10.mono (by omega)))
  clear b10
  go_wp2_with fail
  generalize (w9.alloc (.cells #[.slice A9 y.length c9] 27)) = w10 at *
  refine (impl_SamePattern _ _ _ _ _ _ _ (R_xx.out.rd.more (by omega)) (R_xy.out.rd.more (by omega)) l_x l_y).mono ?_
  rw [HG.out]
  rintro e w11 ⟨rfl, b11⟩
  have z11 := b11.size
  replace R_xx := Lib.hid (R_xx.out.below b11 (by omega))
  replace R_xy := Lib.hid (R_xy.out.below b11 (by omega))
  replace P_x := Lib.hid (P_x.out.below b11 (by omega))
  replace P_y := Lib.hid (P_y.out.below b11 (by omega))
  replace Q_x := (b11.cell (p := ⟨w.heap.size, 0, none⟩) (show w.heap.size < w10.heap.size by omega)).trans Q_x
  replace Q_y := (b11.cell (p := ⟨(w.heap.size + 1), 0, none⟩) (show (w.heap.size + 1) < w10.heap.size by omega)).trans Q_y
  replace Q_xx := (b11.cell (p := ⟨w7.heap.size, 0, none⟩) (show w7.heap.size < w10.heap.size by omega)).trans Q_xx
  replace Q_xy := (b11.cell (p := ⟨w9.heap.size, 0, none⟩) (show w9.heap.size < w10.heap.size by omega)).trans Q_xy
  replace HB := Lib.hid (HB.out.trans (b11.mono (by omega)))
  clear b11
  go_wp2_with fail
  have sd : w11.drew.heap.size = w11.heap.size := rfl
  have P_d := Lib.hid (P_x.out.more (show _ ≤ w11.heap.size by omega)).drew
  have R_d := Lib.hid R_xx.out.drew
  go_region_held3 (fun w' => w'.cell? ⟨w7.heap.size, 0, none⟩ = some (.slice A7 x.length c7) ∧ w'.cell? ⟨w.heap.size, 0, none⟩ = some (.slice A_x x.length c_x)) (first | exact ⟨Q_xx, Q_x⟩ | exact ⟨(b12.cell (p := ⟨w7.heap.size, 0, none⟩) (show w7.heap.size < w11.heap.size by omega)).trans Q_xx, (b12.cell (p := ⟨w.heap.size, 0, none⟩) (show w.heap.size < w11.heap.size by omega)).trans Q_x⟩ | exact ⟨(b13.cell (p := ⟨w7.heap.size, 0, none⟩) (show w7.heap.size < w12.heap.size by omega)).trans ((b12.cell (p := ⟨w7.heap.size, 0, none⟩) (show w7.heap.size < w11.heap.size by omega)).trans Q_xx), (b13.cell (p := ⟨w.heap.size, 0, none⟩) (show w.heap.size < w12.heap.size by omega)).trans ((b12.cell (p := ⟨w.heap.size, 0, none⟩) (show w.heap.size < w11.heap.size by omega)).trans Q_x)⟩) (first | (go_at_call 11; refine (laws_toPattern _ _ _ _ P_d.out l_x).mono ?_; rintro e w12 ⟨A12, c12, rfl, o12, b12⟩; have z12 : w11.heap.size ≤ w12.heap.size := b12.size) | (go_at_call 13; refine (laws_eqPattern _ _ _ _ _ _ _ ((R_d.out.below b12 (by omega)).rd.more (by omega)) ((Row.mk_ o12).rd.more (by omega)) l_x l_x).mono ?_; rintro e w13 ⟨rfl, b13⟩; have z13 : w12.heap.size ≤ w13.heap.size := b13.size))
  have bb : Below w11.heap.size w11 w13 := (below_drew_left b12).trans (b13.mono (by omega))
  clear b12 b13 o12 P_d R_d sd
  replace R_xx := Lib.hid (R_xx.out.below bb (by omega))
  replace R_xy := Lib.hid (R_xy.out.below bb (by omega))
  replace P_x := Lib.hid (P_x.out.below bb (by omega))
  replace P_y := Lib.hid (P_y.out.below bb (by omega))
  replace Q_x := (bb.cell (p := ⟨w.heap.size, 0, none⟩) (show w.heap.size < w11.heap.size by omega)).trans Q_x
  replace Q_y := (bb.cell (p := ⟨(w.heap.size + 1), 0, none⟩) (show (w.heap.size + 1) < w11.heap.size by omega)).trans Q_y
  replace Q_xx := (bb.cell (p := ⟨w7.heap.size, 0, none⟩) (show w7.heap.size < w11.heap.size by omega)).trans Q_xx
  replace Q_xy := (bb.cell (p := ⟨w9.heap.size, 0, none⟩) (show w9.heap.size < w11.heap.size by omega)).trans Q_xy
  replace HB := Lib.hid (HB.out.trans (bb.mono (by omega)))
  clear bb
  go_wp2_with fail
  have sd : w13.drew.heap.size = w13.heap.size := rfl
  have P_d := Lib.hid (P_y.out.more (show _ ≤ w13.heap.size by omega)).drew
  have R_d := Lib.hid R_xy.out.drew
  go_region_held3 (fun w' => w'.cell? ⟨w9.heap.size, 0, none⟩ = some (.slice A9 y.length c9) ∧ w'.cell? ⟨(w.heap.size + 1), 0, none⟩ = some (.slice A_y y.length c_y)) (first | exact ⟨Q_xy, Q_y⟩ | exact ⟨(b14.cell (p := ⟨w9.heap.size, 0, none⟩) (show w9.heap.size < w13.heap.size by omega)).trans Q_xy, (b14.cell (p := ⟨(w.heap.size + 1), 0, none⟩) (show (w.heap.size + 1) < w13.heap.size by omega)).trans Q_y⟩ | exact ⟨(b15.cell (p := ⟨w9.heap.size, 0, none⟩) (show w9.heap.size < w14.heap.size by omega)).trans ((b14.cell (p := ⟨w9.heap.size, 0, none⟩) (show w9.heap.size < w13.heap.size by omega)).trans Q_xy), (b15.cell (p := ⟨(w.heap.size + 1), 0, none⟩) (show (w.heap.size + 1) < w14.heap.size by omega)).trans ((b14.cell (p := ⟨(w.heap.size + 1), 0, none⟩) (show (w.heap.size + 1) < w13.heap.size by omega)).trans Q_y)⟩) (first | (go_at_call 11; refine (laws_toPattern _ _ _ _ P_d.out l_y).mono ?_; rintro e w14 ⟨A14, c14, rfl, o14, b14⟩; have z14 : w13.heap.size ≤ w14.heap.size := b14.size) | (go_at_call 13; refine (laws_eqPattern _ _ _ _ _ _ _ ((R_d.out.below b14 (by omega)).rd.more (by omega)) ((Row.mk_ o14).rd.more (by omega)) l_y l_y).mono ?_; rintro e w15 ⟨rfl, b15⟩; have z15 : w14.heap.size ≤ w15.heap.size := b15.size))
  have bb : Below w13.heap.size w13 w15 := (below_drew_left b14).trans (b15.mono (by omega))
  clear b14 b15 o14 P_d R_d sd
  replace R_xx := Lib.hid (R_xx.out.below bb (by omega))
  replace R_xy := Lib.hid (R_xy.out.below bb (by omega))
  replace P_x := Lib.hid (P_x.out.below bb (by omega))
  replace P_y := Lib.hid (P_y.out.below bb (by omega))
  replace Q_x := (bb.cell (p := ⟨w.heap.size, 0, none⟩) (show w.heap.size < w13.heap.size by omega)).trans Q_x
  replace Q_y := (bb.cell (p := ⟨(w.heap.size + 1), 0, none⟩) (show (w.heap.size + 1) < w13.heap.size by omega)).trans Q_y
  replace Q_xx := (bb.cell (p := ⟨w7.heap.size, 0, none⟩) (show w7.heap.size < w13.heap.size by omega)).trans Q_xx
  replace Q_xy := (bb.cell (p := ⟨w9.heap.size, 0, none⟩) (show w9.heap.size < w13.heap.size by omega)).trans Q_xy
  replace HB := Lib.hid (HB.out.trans (bb.mono (by omega)))
  clear bb
  go_wp2_with fail
  go_ret
  exact ⟨rfl, HB.out⟩
theorem walk (w : World) (A_x : Option Addr) (c_x : Nat) (x : List Bool) (r_x : RdBo w w.heap.size A_x x) (m_x : x.length ≤ maxLen) (A_y : Option Addr) (c_y : Nat) (y : List Bool) (r_y : RdBo w w.heap.size A_y y) (m_y : y.length ≤ maxLen) :
    Calls Try.prog 7 #[.agg #[.slice A_x x.length c_x], .agg #[.slice A_y y.length c_y]] w (RetB w true) := by
  have bA : Below w.heap.size w ((w.alloc (.cells #[.slice A_x x.length c_x] 24)).alloc (.cells #[.slice A_y y.length c_y] 24)) := by (repeat (first | exact Below.refl _ _ | refine Below.alloc ?_ (by simp; try omega) _ | refine below_drewN ?_ _ | refine Below.drew ?_))
  have zA : w.heap.size + 2 ≤ ((w.alloc (.cells #[.slice A_x x.length c_x] 24)).alloc (.cells #[.slice A_y y.length c_y] 24)).heap.size := by simp
  have qA : ((w.alloc (.cells #[.slice A_x x.length c_x] 24)).alloc (.cells #[.slice A_y y.length c_y] 24)).cell? ⟨w.heap.size + 1, 0, none⟩ = some (.slice A_y y.length c_y) := by simp [go_sem]
  by_cases l_x : x.length ≤ 1048576
  case neg =>
    unfold maxLen at m_x m_y
    clear r_x r_y
    have BA := Lib.hid bA; clear bA
    go_enter Try.func7, Try.ntmps7
    go_wp2_with fail
    generalize ((w.alloc (.cells #[.slice A_x x.length c_x] 24)).alloc (.cells #[.slice A_y y.length c_y] 24)) = wA at *
    refine (laws_szPattern_no _ _ _ _ _ (by omega) (by omega) (by omega)).mono ?_; rintro e w1 ⟨rfl, b1⟩
    have B1 := Lib.hid b1; clear b1
    go_wp2_with fail
    go_ret
    exact ⟨rfl, BA.out.trans (B1.out.mono (by omega))⟩
  by_cases s_2 : x.length + y.length ≤ 1048576
  case neg =>
    unfold maxLen at m_x m_y
    clear r_x r_y
    have BA := Lib.hid bA; clear bA
    have hd_1 : decide (((1048576 : Int) - (x.length : Int)) < 0) = false := decide_eq_false (by omega)
    go_enter Try.func7, Try.ntmps7
    go_wp2_with fail
    generalize ((w.alloc (.cells #[.slice A_x x.length c_x] 24)).alloc (.cells #[.slice A_y y.length c_y] 24)) = wA at *
    refine (laws_szPattern _ _ _ _ _ (by omega) (by omega)).mono ?_; rintro e w1 ⟨rfl, b1⟩
    have q1 := (b1.cell (p := ⟨w.heap.size + 1, 0, none⟩) (show w.heap.size + 1 < wA.heap.size by omega)).trans qA
    have z1 := b1.size
    have B1 := Lib.hid b1; clear b1 qA
    go_wp2_with fail
    refine (laws_szPattern_no _ _ _ _ _ (by omega) (by omega) (by omega)).mono ?_; rintro e w2 ⟨rfl, b2⟩
    have B2 := Lib.hid b2; clear b2
    go_wp2_with fail
    go_ret
    exact ⟨rfl, (BA.out.trans (B1.out.mono (by omega))).trans (B2.out.mono (by omega))⟩
  have l_y : y.length ≤ 1048576 := by omega
  clear bA zA qA
  exact core w A_x c_x x A_y c_y y r_x l_x r_y l_y s_2

set_option maxRecDepth 100000 in
theorem lifted (os : Os) (started : os.Started) (H : Type) (enc : TypeId × Value → H) :
    ReturnsInHanded {} Try.checked os 7 .any (Rows.fnExactSamePatternSpec.pre6 enc Try.prog Try.f7 Rows.fnExactSamePatternRow.domain false) (Rows.fnExactSamePatternSpec.post enc Try.prog Try.f7 false true false false) := by
  refine returnsInHanded_of_change (C := Try.checked) own started (by kernel_rfl) Try.func7
    (ChangeSpec.witness6 (enc := enc) (C := Try.checked) false ⟨#[], #[.agg #[.slice none 0 0], .agg #[.slice none 0 0]], []⟩ 8 (by kernel_rfl) (by kernel_rfl) (by kernel_rfl) (by kernel_rfl)) ?_
  intro W base args ds gs before hval0 hW hcnd _
  have hval : ∀ (j : Nat) t v, Try.f7.params[j]? = some t → args[j]? = some v → Value.okWide Try.prog W .any base t v := hval0
  have hW' := hW
  obtain ⟨p, q, hA0, hV, rfl, hfz, hnd⟩ := hW
  have hA : DataW.TrodAll enc Try.prog W 0 (fun _ => true) true Try.f7.params.toList args.toList ds p := hA0
  rw [Try.params7] at hA hval
  obtain ⟨v0, vs0, d0, ds0, p0, q0, hargs, rfl, rfl, h0, r0⟩ := trodAll_cons hA
  obtain ⟨v1, vs1, d1, ds1, p1, q1, rfl, rfl, rfl, h1, r1⟩ := trodAll_cons r0
  obtain ⟨rfl, rfl, rfl⟩ := trodAll_nil r1
  obtain rfl : args = #[v0, v1] := by cases args; simp_all
  obtain ⟨rfl, rfl⟩ := trodVars_none hV
  have k0 := h0
  have lt0 : ∀ x ∈ p0, x.block < W.heap.size := by obtain ⟨m, hm⟩ := k0; exact DataW.trod_lt m _ _ _ hm
  obtain ⟨u0, y0, g0, rfl, hy0⟩ := open_agg1 Try.underlying24 (by kernel_rfl) (by kernel_rfl) (hval 0 24 v0 rfl rfl) h0
  obtain ⟨A_x, l_x, c_x, rfl⟩ := slice_of Try.underlying22 hy0
  obtain ⟨x, rfl, r_x, m_x⟩ := open_bools_rd Try.underlying22 Try.underlying4 (by kernel_rfl) hy0
  have k1 := h1
  have lt1 : ∀ x ∈ p1, x.block < W.heap.size := by obtain ⟨m, hm⟩ := k1; exact DataW.trod_lt m _ _ _ hm
  obtain ⟨u1, y1, g1, rfl, hy1⟩ := open_agg1 Try.underlying24 (by kernel_rfl) (by kernel_rfl) (hval 1 24 v1 rfl rfl) h1
  obtain ⟨A_y, l_y, c_y, rfl⟩ := slice_of Try.underlying22 hy1
  obtain ⟨y, rfl, r_y, m_y⟩ := open_bools_rd Try.underlying22 Try.underlying4 (by kernel_rfl) hy1
  clear hA0 hval0
  refine (walk W A_x c_x x r_x m_x A_y c_y y r_y m_y).mono fun e W' hwk => ?_
  obtain ⟨he, bel⟩ := hwk
  subst he
  exact ⟨_, rfl, _, _, _, [], _, [], hW', trodAll_mk1 (shut_bool Try.underlying4 _), (trodAll_cons_mk (Below.trod laidOut (by kernel_rfl) (of_decide_eq_true (by kernel_rfl)) k0 bel lt0) (trodAll_cons_mk (Below.trod laidOut (by kernel_rfl) (of_decide_eq_true (by kernel_rfl)) k1 bel lt1) trodAll_mk0)), rfl, bel.frame _, fun h => by cases h⟩

theorem over : Rows.fnExactSamePatternRow.holds Try.pinned (OpenSpec.ofChange Rows.fnExactSamePatternSpec) :=
  OpenClaim.holds_of_wide 7 Try.f7 rfl rfl rfl rfl rfl rfl rfl ⟨rfl, rfl, rfl, rfl, rfl⟩ rfl rfl rfl rfl rfl (by kernel_rfl) Try.func7 (by kernel_rfl)
    (of_decide_eq_true (by kernel_rfl)) (by unfold Func.isWrapper; first | (rw [if_pos (by decide +kernel)]; kernel_rfl) | (rw [if_neg (by decide +kernel)]; exact ⟨rfl, rfl⟩))
    (fun os started H enc _ => lifted os started H enc)

/-- The statement. -/
theorem proved : Rows.FnExactSamePatternSaid := over
#print axioms proved
end Go.Proofs.Ytjabgfhjkjinoaa.fnExactSamePattern
