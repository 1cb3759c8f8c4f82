/-
  FnExactTurnPattern returns true for every input and leaves its arguments as they were. No condition.
-/
import Derived.Test.YtjabgfhjkjinoaaTurn
import Derived.Test.YtjabgfhjkjinoaaFrame
namespace Go.Proofs.Ytjabgfhjkjinoaa.fnExactTurnPattern
open Go.ChangeShapes Go.WideShapes Go.ChangeAt Go.RowKit
open Go.ChangeMaps (open_string shut_string)
set_option linter.unusedVariables false

set_option maxHeartbeats 4000000 in
theorem core (w : World) (A_z : Option Addr) (c_z : Nat) (z : List Bool) (b : Int) (r_z : RdBo w w.heap.size A_z z) (l_z : z.length ≤ 1048576) (w_b : Fits b) :
    Calls Try.prog 6 #[.agg #[.slice A_z z.length c_z], .int .i64 b] w (RetB w true) := by
  have hL : Hid ((turnL z b).length ≤ 1048576) := by unfold Hid; have := turnL_len z b; omega
  have hs := sameBo_refl (turnL z b)
  have hs_z := sameBo_refl z
  have hd_z : decide (((1048576 : Int) - (z.length : Int)) < 0) = false := decide_eq_false (by omega)
  have hk0 : decide (((1 : Int) + (z.length : Int)) < 0) = false := decide_eq_false (by omega)
  generalize hGL : turnL z b = L at *
  have hm0 : decide (((1 : Int) + (L.length : Int)) < 0) = false := decide_eq_false (by have := hL.out; omega)
  have HG := Lib.hid hGL; clear hGL
  have P_z := Lib.hid r_z; clear r_z
  have b1 : Below w.heap.size w (w.alloc (.cells #[.slice A_z z.length c_z] 24)) := by (repeat (first | exact Below.refl _ _ | refine Below.alloc ?_ (by simp; try omega) _ | refine below_drewN ?_ _ | refine Below.drew ?_))
  have z1 : w.heap.size + 1 ≤ (w.alloc (.cells #[.slice A_z z.length c_z] 24)).heap.size := by simp
  have Q_z : (w.alloc (.cells #[.slice A_z z.length c_z] 24)).cell? ⟨w.heap.size, 0, none⟩ = some (.slice A_z z.length c_z) := by simp [go_sem]
  replace P_z := Lib.hid (P_z.out.below b1 (by omega))
  have HB := Lib.hid b1
  clear b1
  go_enter Try.func6, Try.ntmps6
  go_wp2_with fail
  generalize (w.alloc (.cells #[.slice A_z z.length c_z] 24)) = w1 at *
  refine (laws_szPattern _ _ _ _ _ (by omega) (by omega)).mono ?_
  rintro e w2 ⟨rfl, b2⟩
  have z2 := b2.size
  replace P_z := Lib.hid (P_z.out.below b2 (by omega))
  replace Q_z := (b2.cell (p := ⟨w.heap.size, 0, none⟩) (show w.heap.size < w1.heap.size by omega)).trans Q_z
  replace HB := Lib.hid (HB.out.trans (b2.mono (by omega)))
  clear b2
  go_wp2_with fail
  refine (laws_toPattern _ _ _ _ (P_z.out.more (by omega)) l_z).mono ?_
  rintro e w3 ⟨A3, c3, rfl, o3, b3⟩
  have z3 := b3.size
  have R_az := Lib.hid (Row.mk_ o3)
  clear o3
  replace P_z := Lib.hid (P_z.out.below b3 (by omega))
  replace Q_z := (b3.cell (p := ⟨w.heap.size, 0, none⟩) (show w.heap.size < w2.heap.size by omega)).trans Q_z
  replace HB := Lib.hid (HB.out.trans (b3.mono (by omega)))
  clear b3
  go_wp2_with fail
  refine (spec_TurnPattern _ _ _ _ _  (R_az.out.rd.more (by omega)) l_z).mono ?_
  rw [HG.out]
  rintro e w4 ⟨A4, c4, rfl, o4, b4⟩
  have z4 := b4.size
  have R_W := Lib.hid (Row.mk_ o4)
  clear o4
  replace R_az := Lib.hid (R_az.out.below b4 (by omega))
  replace P_z := Lib.hid (P_z.out.below b4 (by omega))
  replace Q_z := (b4.cell (p := ⟨w.heap.size, 0, none⟩) (show w.heap.size < w3.heap.size by omega)).trans Q_z
  replace HB := Lib.hid (HB.out.trans (b4.mono (by omega)))
  clear b4
  have b5 : Below w4.heap.size w4 (w4.alloc (.cells #[.slice A4 L.length c4] 27)) := (Below.refl _ _).alloc (Nat.le_refl _) _
  have z5 : w4.heap.size + 1 ≤ (w4.alloc (.cells #[.slice A4 L.length c4] 27)).heap.size := by simp
  have Q_W : (w4.alloc (.cells #[.slice A4 L.length c4] 27)).cell? ⟨w4.heap.size, 0, none⟩ = some (.slice A4 L.length c4) := by simp [go_sem]
  replace R_az := Lib.hid (R_az.out.below b5 (by omega))
  replace R_W := Lib.hid (R_W.out.below b5 (by omega))
  replace P_z := Lib.hid (P_z.out.below b5 (by omega))
  replace Q_z := (b5.cell (p := ⟨w.heap.size, 0, none⟩) (show w.heap.size < w4.heap.size by omega)).trans Q_z
  replace HB := Lib.hid (HB.out.trans (b5.mono (by omega)))
  clear b5
  clear R_az
  go_wp2_with fail
  generalize (w4.alloc (.cells #[.slice A4 L.length c4] 27)) = w5 at *
  refine (laws_toPattern _ _ _ _ (P_z.out.more (by omega)) l_z).mono ?_
  rintro e w6 ⟨A6, c6, rfl, o6, b6⟩
  have z6 := b6.size
  have R_xz := Lib.hid (Row.mk_ o6)
  clear o6
  replace R_W := Lib.hid (R_W.out.below b6 (by omega))
  replace P_z := Lib.hid (P_z.out.below b6 (by omega))
  replace Q_z := (b6.cell (p := ⟨w.heap.size, 0, none⟩) (show w.heap.size < w5.heap.size by omega)).trans Q_z
  replace Q_W := (b6.cell (p := ⟨w4.heap.size, 0, none⟩) (show w4.heap.size < w5.heap.size by omega)).trans Q_W
  replace HB := Lib.hid (HB.out.trans (b6.mono (by omega)))
  clear b6
  have b7 : Below w6.heap.size w6 (w6.alloc (.cells #[.slice A6 z.length c6] 27)) := (Below.refl _ _).alloc (Nat.le_refl _) _
  have z7 : w6.heap.size + 1 ≤ (w6.alloc (.cells #[.slice A6 z.length c6] 27)).heap.size := by simp
  have Q_xz : (w6.alloc (.cells #[.slice A6 z.length c6] 27)).cell? ⟨w6.heap.size, 0, none⟩ = some (.slice A6 z.length c6) := by simp [go_sem]
  replace R_W := Lib.hid (R_W.out.below b7 (by omega))
  replace R_xz := Lib.hid (R_xz.out.below b7 (by omega))
  replace P_z := Lib.hid (P_z.out.below b7 (by omega))
  replace Q_z := (b7.cell (p := ⟨w.heap.size, 0, none⟩) (show w.heap.size < w6.heap.size by omega)).trans Q_z
  replace Q_W := (b7.cell (p := ⟨w4.heap.size, 0, none⟩) (show w4.heap.size < w6.heap.size by omega)).trans Q_W
  replace HB := Lib.hid (HB.out.trans (b7.mono (by omega)))
  clear b7
  go_wp2_with fail
  generalize (w6.alloc (.cells #[.slice A6 z.length c6] 27)) = w7 at *
  refine (impl_TurnPattern _ _ _ _ _  (R_xz.out.rd.more (by omega)) l_z).mono ?_
  rw [HG.out]
  rintro e w8 ⟨A8, c8, rfl, o8, b8⟩
  have z8 := b8.size
  have R_G := Lib.hid (Row.mk_ o8)
  clear o8
  replace R_W := Lib.hid (R_W.out.below b8 (by omega))
  replace R_xz := Lib.hid (R_xz.out.below b8 (by omega))
  replace P_z := Lib.hid (P_z.out.below b8 (by omega))
  replace Q_z := (b8.cell (p := ⟨w.heap.size, 0, none⟩) (show w.heap.size < w7.heap.size by omega)).trans Q_z
  replace Q_W := (b8.cell (p := ⟨w4.heap.size, 0, none⟩) (show w4.heap.size < w7.heap.size by omega)).trans Q_W
  replace Q_xz := (b8.cell (p := ⟨w6.heap.size, 0, none⟩) (show w6.heap.size < w7.heap.size by omega)).trans Q_xz
  replace HB := Lib.hid (HB.out.trans (b8.mono (by omega)))
  clear b8
  have b9 : Below w8.heap.size w8 (w8.alloc (.cells #[.slice A8 L.length c8] 27)) := (Below.refl _ _).alloc (Nat.le_refl _) _
  have z9 : w8.heap.size + 1 ≤ (w8.alloc (.cells #[.slice A8 L.length c8] 27)).heap.size := by simp
  have Q_G : (w8.alloc (.cells #[.slice A8 L.length c8] 27)).cell? ⟨w8.heap.size, 0, none⟩ = some (.slice A8 L.length c8) := by simp [go_sem]
  replace R_W := Lib.hid (R_W.out.below b9 (by omega))
  replace R_xz := Lib.hid (R_xz.out.below b9 (by omega))
  replace R_G := Lib.hid (R_G.out.below b9 (by omega))
  replace P_z := Lib.hid (P_z.out.below b9 (by omega))
  replace Q_z := (b9.cell (p := ⟨w.heap.size, 0, none⟩) (show w.heap.size < w8.heap.size by omega)).trans Q_z
  replace Q_W := (b9.cell (p := ⟨w4.heap.size, 0, none⟩) (show w4.heap.size < w8.heap.size by omega)).trans Q_W
  replace Q_xz := (b9.cell (p := ⟨w6.heap.size, 0, none⟩) (show w6.heap.size < w8.heap.size by omega)).trans Q_xz
  replace HB := Lib.hid (HB.out.trans (b9.mono (by omega)))
  clear b9
  go_wp2_with fail
  generalize (w8.alloc (.cells #[.slice A8 L.length c8] 27)) = w9 at *
  refine (laws_eqPattern _ _ _ _ _ _ _ (R_G.out.rd.more (by omega)) (R_W.out.rd.more (by omega)) hL.out hL.out).mono ?_
  rintro e w10 ⟨rfl, b10⟩
  have z10 := b10.size
  replace R_W := Lib.hid (R_W.out.below b10 (by omega))
  replace R_xz := Lib.hid (R_xz.out.below b10 (by omega))
  replace R_G := Lib.hid (R_G.out.below b10 (by omega))
  replace P_z := Lib.hid (P_z.out.below b10 (by omega))
  replace Q_z := (b10.cell (p := ⟨w.heap.size, 0, none⟩) (show w.heap.size < w9.heap.size by omega)).trans Q_z
  replace Q_W := (b10.cell (p := ⟨w4.heap.size, 0, none⟩) (show w4.heap.size < w9.heap.size by omega)).trans Q_W
  replace Q_xz := (b10.cell (p := ⟨w6.heap.size, 0, none⟩) (show w6.heap.size < w9.heap.size by omega)).trans Q_xz
  replace Q_G := (b10.cell (p := ⟨w8.heap.size, 0, none⟩) (show w8.heap.size < w9.heap.size by omega)).trans Q_G
  replace HB := Lib.hid (HB.out.trans (b10.mono (by omega)))
  clear b10
  go_wp2_with fail
  have sd : w10.drew.heap.size = w10.heap.size := rfl
  have P_d := Lib.hid (P_z.out.more (show _ ≤ w10.heap.size by omega)).drew
  have R_d := Lib.hid R_xz.out.drew
  go_region_held3 (fun w' => w'.cell? ⟨w6.heap.size, 0, none⟩ = some (.slice A6 z.length c6) ∧ w'.cell? ⟨w.heap.size, 0, none⟩ = some (.slice A_z z.length c_z)) (first | exact ⟨Q_xz, Q_z⟩ | exact ⟨(b11.cell (p := ⟨w6.heap.size, 0, none⟩) (show w6.heap.size < w10.heap.size by omega)).trans Q_xz, (b11.cell (p := ⟨w.heap.size, 0, none⟩) (show w.heap.size < w10.heap.size by omega)).trans Q_z⟩ | exact ⟨(b12.cell (p := ⟨w6.heap.size, 0, none⟩) (show w6.heap.size < w11.heap.size by omega)).trans ((b11.cell (p := ⟨w6.heap.size, 0, none⟩) (show w6.heap.size < w10.heap.size by omega)).trans Q_xz), (b12.cell (p := ⟨w.heap.size, 0, none⟩) (show w.heap.size < w11.heap.size by omega)).trans ((b11.cell (p := ⟨w.heap.size, 0, none⟩) (show w.heap.size < w10.heap.size by omega)).trans Q_z)⟩) (first | (go_at_call 11; refine (laws_toPattern _ _ _ _ P_d.out l_z).mono ?_; rintro e w11 ⟨A11, c11, rfl, o11, b11⟩; have z11 : w10.heap.size ≤ w11.heap.size := b11.size) | (go_at_call 13; refine (laws_eqPattern _ _ _ _ _ _ _ ((R_d.out.below b11 (by omega)).rd.more (by omega)) ((Row.mk_ o11).rd.more (by omega)) l_z l_z).mono ?_; rintro e w12 ⟨rfl, b12⟩; have z12 : w11.heap.size ≤ w12.heap.size := b12.size))
  have bb : Below w10.heap.size w10 w12 := (below_drew_left b11).trans (b12.mono (by omega))
  clear b11 b12 o11 P_d R_d sd
  replace R_W := Lib.hid (R_W.out.below bb (by omega))
  replace R_xz := Lib.hid (R_xz.out.below bb (by omega))
  replace R_G := Lib.hid (R_G.out.below bb (by omega))
  replace P_z := Lib.hid (P_z.out.below bb (by omega))
  replace Q_z := (bb.cell (p := ⟨w.heap.size, 0, none⟩) (show w.heap.size < w10.heap.size by omega)).trans Q_z
  replace Q_W := (bb.cell (p := ⟨w4.heap.size, 0, none⟩) (show w4.heap.size < w10.heap.size by omega)).trans Q_W
  replace Q_xz := (bb.cell (p := ⟨w6.heap.size, 0, none⟩) (show w6.heap.size < w10.heap.size by omega)).trans Q_xz
  replace Q_G := (bb.cell (p := ⟨w8.heap.size, 0, none⟩) (show w8.heap.size < w10.heap.size by omega)).trans Q_G
  replace HB := Lib.hid (HB.out.trans (bb.mono (by omega)))
  clear bb
  go_wp2_with fail
  refine (laws_markPattern _ _ _ _ _ _ _ R_xz.out.1 l_z (by omega) (by omega)).mono ?_; rintro e w13 ⟨rfl, o13, g13⟩
  have z13 := g13.size
  replace R_W := Lib.hid (R_W.out.far R_xz.out g13 (by omega))
  replace R_G := Lib.hid (R_G.out.far R_xz.out g13 (by omega))
  replace P_z := Lib.hid (P_z.out.far R_xz.out g13 (by omega) (by omega))
  replace Q_z := g13.cell Q_z (R_xz.out.ne (show w.heap.size < _ ∨ _ ≤ w.heap.size by omega))
  replace Q_W := g13.cell Q_W (R_xz.out.ne (show w4.heap.size < _ ∨ _ ≤ w4.heap.size by omega))
  replace Q_xz := g13.cell Q_xz (R_xz.out.ne (show w6.heap.size < _ ∨ _ ≤ w6.heap.size by omega))
  replace Q_G := g13.cell Q_G (R_xz.out.ne (show w8.heap.size < _ ∨ _ ≤ w8.heap.size by omega))
  replace HB := Lib.hid (below_far HB.out R_xz.out g13 (by omega) (by omega))
  replace R_xz := Lib.hid (R_xz.out.self o13)
  clear o13 g13
  clear R_xz
  clear Q_xz
  go_wp2_with fail
  refine (laws_eqPattern _ _ _ _ _ _ _ (R_G.out.rd.more (by omega)) (R_W.out.rd.more (by omega)) hL.out hL.out).mono ?_
  rintro e w14 ⟨rfl, b14⟩
  have z14 := b14.size
  replace R_W := Lib.hid (R_W.out.below b14 (by omega))
  replace R_G := Lib.hid (R_G.out.below b14 (by omega))
  replace P_z := Lib.hid (P_z.out.below b14 (by omega))
  replace Q_z := (b14.cell (p := ⟨w.heap.size, 0, none⟩) (show w.heap.size < w13.heap.size by omega)).trans Q_z
  replace Q_W := (b14.cell (p := ⟨w4.heap.size, 0, none⟩) (show w4.heap.size < w13.heap.size by omega)).trans Q_W
  replace Q_G := (b14.cell (p := ⟨w8.heap.size, 0, none⟩) (show w8.heap.size < w13.heap.size by omega)).trans Q_G
  replace HB := Lib.hid (HB.out.trans (b14.mono (by omega)))
  clear b14
  go_wp2_with fail
  refine (laws_markPattern _ _ _ _ _ _ _ R_G.out.1 hL.out (by omega) (by omega)).mono ?_; rintro e w15 ⟨rfl, o15, g15⟩
  have z15 := g15.size
  replace R_W := Lib.hid (R_W.out.far R_G.out g15 (by omega))
  replace P_z := Lib.hid (P_z.out.far R_G.out g15 (by omega) (by omega))
  replace Q_z := g15.cell Q_z (R_G.out.ne (show w.heap.size < _ ∨ _ ≤ w.heap.size by omega))
  replace Q_W := g15.cell Q_W (R_G.out.ne (show w4.heap.size < _ ∨ _ ≤ w4.heap.size by omega))
  replace Q_G := g15.cell Q_G (R_G.out.ne (show w8.heap.size < _ ∨ _ ≤ w8.heap.size by omega))
  replace HB := Lib.hid (below_far HB.out R_G.out g15 (by omega) (by omega))
  replace R_G := Lib.hid (R_G.out.self o15)
  clear o15 g15
  go_wp2_with fail
  refine (laws_heldPattern _ _ _ _ _ (R_G.out.rd.more (by omega)) hL.out (by omega) (by omega)).mono ?_
  rintro e w16 ⟨rfl, b16⟩
  have z16 := b16.size
  replace R_W := Lib.hid (R_W.out.below b16 (by omega))
  replace R_G := Lib.hid (R_G.out.below b16 (by omega))
  replace P_z := Lib.hid (P_z.out.below b16 (by omega))
  replace Q_z := (b16.cell (p := ⟨w.heap.size, 0, none⟩) (show w.heap.size < w15.heap.size by omega)).trans Q_z
  replace Q_W := (b16.cell (p := ⟨w4.heap.size, 0, none⟩) (show w4.heap.size < w15.heap.size by omega)).trans Q_W
  replace Q_G := (b16.cell (p := ⟨w8.heap.size, 0, none⟩) (show w8.heap.size < w15.heap.size by omega)).trans Q_G
  replace HB := Lib.hid (HB.out.trans (b16.mono (by omega)))
  clear b16
  go_wp2_with fail
  refine (laws_toPattern _ _ _ _ (P_z.out.more (by omega)) l_z).mono ?_
  rintro e w17 ⟨A17, c17, rfl, o17, b17⟩
  have z17 := b17.size
  have R_hz := Lib.hid (Row.mk_ o17)
  clear o17
  replace R_W := Lib.hid (R_W.out.below b17 (by omega))
  replace R_G := Lib.hid (R_G.out.below b17 (by omega))
  replace P_z := Lib.hid (P_z.out.below b17 (by omega))
  replace Q_z := (b17.cell (p := ⟨w.heap.size, 0, none⟩) (show w.heap.size < w16.heap.size by omega)).trans Q_z
  replace Q_W := (b17.cell (p := ⟨w4.heap.size, 0, none⟩) (show w4.heap.size < w16.heap.size by omega)).trans Q_W
  replace Q_G := (b17.cell (p := ⟨w8.heap.size, 0, none⟩) (show w8.heap.size < w16.heap.size by omega)).trans Q_G
  replace HB := Lib.hid (HB.out.trans (b17.mono (by omega)))
  clear b17
  go_wp2_with fail
  refine (impl_TurnPattern _ _ _ _ _  (R_hz.out.rd.more (by omega)) l_z).mono ?_
  rw [HG.out]
  rintro e w18 ⟨A18, c18, rfl, o18, b18⟩
  have z18 := b18.size
  have R_Z := Lib.hid (Row.mk_ o18)
  clear o18
  replace R_W := Lib.hid (R_W.out.below b18 (by omega))
  replace R_G := Lib.hid (R_G.out.below b18 (by omega))
  replace R_hz := Lib.hid (R_hz.out.below b18 (by omega))
  replace P_z := Lib.hid (P_z.out.below b18 (by omega))
  replace Q_z := (b18.cell (p := ⟨w.heap.size, 0, none⟩) (show w.heap.size < w17.heap.size by omega)).trans Q_z
  replace Q_W := (b18.cell (p := ⟨w4.heap.size, 0, none⟩) (show w4.heap.size < w17.heap.size by omega)).trans Q_W
  replace Q_G := (b18.cell (p := ⟨w8.heap.size, 0, none⟩) (show w8.heap.size < w17.heap.size by omega)).trans Q_G
  replace HB := Lib.hid (HB.out.trans (b18.mono (by omega)))
  clear b18
  have b19 : Below w18.heap.size w18 (w18.alloc (.cells #[.slice A18 L.length c18] 27)) := (Below.refl _ _).alloc (Nat.le_refl _) _
  have z19 : w18.heap.size + 1 ≤ (w18.alloc (.cells #[.slice A18 L.length c18] 27)).heap.size := by simp
  have Q_Z : (w18.alloc (.cells #[.slice A18 L.length c18] 27)).cell? ⟨w18.heap.size, 0, none⟩ = some (.slice A18 L.length c18) := by simp [go_sem]
  replace R_W := Lib.hid (R_W.out.below b19 (by omega))
  replace R_G := Lib.hid (R_G.out.below b19 (by omega))
  replace R_hz := Lib.hid (R_hz.out.below b19 (by omega))
  replace R_Z := Lib.hid (R_Z.out.below b19 (by omega))
  replace P_z := Lib.hid (P_z.out.below b19 (by omega))
  replace Q_z := (b19.cell (p := ⟨w.heap.size, 0, none⟩) (show w.heap.size < w18.heap.size by omega)).trans Q_z
  replace Q_W := (b19.cell (p := ⟨w4.heap.size, 0, none⟩) (show w4.heap.size < w18.heap.size by omega)).trans Q_W
  replace Q_G := (b19.cell (p := ⟨w8.heap.size, 0, none⟩) (show w8.heap.size < w18.heap.size by omega)).trans Q_G
  replace HB := Lib.hid (HB.out.trans (b19.mono (by omega)))
  clear b19
  clear R_hz
  clear P_z
  clear Q_z
  go_wp2_with fail
  generalize (w18.alloc (.cells #[.slice A18 L.length c18] 27)) = w19 at *
  refine (laws_eqPattern _ _ _ _ _ _ _ (R_Z.out.rd.more (by omega)) (R_W.out.rd.more (by omega)) hL.out hL.out).mono ?_
  rintro e w20 ⟨rfl, b20⟩
  have z20 := b20.size
  replace R_W := Lib.hid (R_W.out.below b20 (by omega))
  replace R_G := Lib.hid (R_G.out.below b20 (by omega))
  replace R_Z := Lib.hid (R_Z.out.below b20 (by omega))
  replace Q_W := (b20.cell (p := ⟨w4.heap.size, 0, none⟩) (show w4.heap.size < w19.heap.size by omega)).trans Q_W
  replace Q_G := (b20.cell (p := ⟨w8.heap.size, 0, none⟩) (show w8.heap.size < w19.heap.size by omega)).trans Q_G
  replace Q_Z := (b20.cell (p := ⟨w18.heap.size, 0, none⟩) (show w18.heap.size < w19.heap.size by omega)).trans Q_Z
  replace HB := Lib.hid (HB.out.trans (b20.mono (by omega)))
  clear b20
  clear R_Z
  clear Q_Z
  clear R_W
  clear Q_W
  go_wp2_with fail
  refine (laws_heldPattern _ _ _ _ _ (R_G.out.rd.more (by omega)) hL.out (by omega) (by omega)).mono ?_
  rintro e w21 ⟨rfl, b21⟩
  have z21 := b21.size
  replace R_G := Lib.hid (R_G.out.below b21 (by omega))
  replace Q_G := (b21.cell (p := ⟨w8.heap.size, 0, none⟩) (show w8.heap.size < w20.heap.size by omega)).trans Q_G
  replace HB := Lib.hid (HB.out.trans (b21.mono (by omega)))
  clear b21
  go_wp2_with fail
  go_ret
  exact ⟨rfl, HB.out⟩
theorem walk (w : World) (A_z : Option Addr) (c_z : Nat) (z : List Bool) (r_z : RdBo w w.heap.size A_z z) (m_z : z.length ≤ maxLen) (b : Int) (w_b : Fits b) :
    Calls Try.prog 6 #[.agg #[.slice A_z z.length c_z], .int .i64 b] w (RetB w true) := by
  by_cases l_z : z.length ≤ 1048576
  case neg =>
    unfold maxLen at m_z
    clear r_z
    go_enter Try.func6, Try.ntmps6
    go_wp2_with fail
    refine (laws_szPattern_no _ _ _ _ _ (by omega) (by omega) (by omega)).mono ?_; rintro e w1 ⟨rfl, b1⟩
    go_wp2_with fail
    go_ret
    exact ⟨rfl, (show Below w.heap.size w (w.alloc _) from (Below.refl _ _).alloc (Nat.le_refl _) _).trans (b1.mono (by simp))⟩
  exact core w A_z c_z z b r_z l_z w_b

set_option maxRecDepth 100000 in
theorem lifted (os : Os) (started : os.Started) (H : Type) (enc : TypeId × Value → H) :
    ReturnsInHanded {} Try.checked os 6 .any (Rows.fnExactTurnPatternSpec.pre6 enc Try.prog Try.f6 Rows.fnExactTurnPatternRow.domain false) (Rows.fnExactTurnPatternSpec.post enc Try.prog Try.f6 false true false false) := by
  refine returnsInHanded_of_change (C := Try.checked) own started (by kernel_rfl) Try.func6
    (ChangeSpec.witness6 (enc := enc) (C := Try.checked) false ⟨#[], #[.agg #[.slice none 0 0], .int .i64 0], []⟩ 8 (by kernel_rfl) (by kernel_rfl) (by kernel_rfl) (by kernel_rfl)) ?_
  intro W base args ds gs before hval0 hW hcnd _
  have hval : ∀ (j : Nat) t v, Try.f6.params[j]? = some t → args[j]? = some v → Value.okWide Try.prog W .any base t v := hval0
  have hW' := hW
  obtain ⟨p, q, hA0, hV, rfl, hfz, hnd⟩ := hW
  have hA : DataW.TrodAll enc Try.prog W 0 (fun _ => true) true Try.f6.params.toList args.toList ds p := hA0
  rw [Try.params6] at hA hval
  obtain ⟨v0, vs0, d0, ds0, p0, q0, hargs, rfl, rfl, h0, r0⟩ := trodAll_cons hA
  obtain ⟨v1, vs1, d1, ds1, p1, q1, rfl, rfl, rfl, h1, r1⟩ := trodAll_cons r0
  obtain ⟨rfl, rfl, rfl⟩ := trodAll_nil r1
  obtain rfl : args = #[v0, v1] := by cases args; simp_all
  obtain ⟨rfl, rfl⟩ := trodVars_none hV
  have k0 := h0
  have lt0 : ∀ x ∈ p0, x.block < W.heap.size := by obtain ⟨m, hm⟩ := k0; exact DataW.trod_lt m _ _ _ hm
  obtain ⟨u0, y0, g0, rfl, hy0⟩ := open_agg1 Try.underlying24 (by kernel_rfl) (by kernel_rfl) (hval 0 24 v0 rfl rfl) h0
  obtain ⟨A_z, l_z, c_z, rfl⟩ := slice_of Try.underlying22 hy0
  obtain ⟨z, rfl, r_z, m_z⟩ := open_bools_rd Try.underlying22 Try.underlying4 (by kernel_rfl) hy0
  obtain ⟨b, rfl, rfl, rfl, wf_b⟩ := open_int Try.underlying3 (hval 1 3 v1 rfl rfl) h1
  have w_b : Fits b := bounds_i64 wf_b
  clear hA0 hval0
  refine (walk W A_z c_z z r_z m_z b w_b).mono fun e W' hwk => ?_
  obtain ⟨he, bel⟩ := hwk
  subst he
  exact ⟨_, rfl, _, _, _, [], _, [], hW', trodAll_mk1 (shut_bool Try.underlying4 _), (trodAll_cons_mk (Below.trod laidOut (by kernel_rfl) (of_decide_eq_true (by kernel_rfl)) k0 bel lt0) (trodAll_cons_mk (shut_int Try.underlying3 wf_b) trodAll_mk0)), rfl, bel.frame _, fun h => by cases h⟩

theorem over : Rows.fnExactTurnPatternRow.holds Try.pinned (OpenSpec.ofChange Rows.fnExactTurnPatternSpec) :=
  OpenClaim.holds_of_wide 6 Try.f6 rfl rfl rfl rfl rfl rfl rfl ⟨rfl, rfl, rfl, rfl, rfl⟩ rfl rfl rfl rfl rfl (by kernel_rfl) Try.func6 (by kernel_rfl)
    (of_decide_eq_true (by kernel_rfl)) (by unfold Func.isWrapper; first | (rw [if_pos (by decide +kernel)]; kernel_rfl) | (rw [if_neg (by decide +kernel)]; exact ⟨rfl, rfl⟩))
    (fun os started H enc _ => lifted os started H enc)

/-- The statement. -/
theorem proved : Rows.FnExactTurnPatternSaid := over
#print axioms proved
end Go.Proofs.Ytjabgfhjkjinoaa.fnExactTurnPattern
