/-
  FnExactPatternGaps returns true for every input and leaves its arguments as they were. No condition.
-/
import Derived.Test.YtjabgfhjkjinoaaGaps
import Derived.Test.YtjabgfhjkjinoaaFrame
namespace Go.Proofs.Ytjabgfhjkjinoaa.fnExactPatternGaps
open Go.ChangeShapes Go.WideShapes Go.ChangeAt Go.RowKit
open Go.ChangeMaps (open_string shut_string)
set_option linter.unusedVariables false

set_option maxHeartbeats 4000000 in
theorem core (w : World) (A_z : Option Addr) (c_z : Nat) (z : List Bool) (r_z : RdBo w w.heap.size A_z z) (l_z : z.length ≤ 1048576) :
    Calls Try.prog 8 #[.agg #[.slice A_z z.length c_z]] w (RetB w true) := by
  have hL : Hid ((gapsL z).length ≤ 1048576) := by unfold Hid; have := gapsL_len z; omega
  have hs := sameI_refl (gapsL z)
  have hs_z := sameBo_refl z
  have hd_z : decide (((1048576 : Int) - (z.length : Int)) < 0) = false := decide_eq_false (by omega)
  have hk0 : decide (((1 : Int) + (z.length : Int)) < 0) = false := decide_eq_false (by omega)
  generalize hGL : gapsL z = L at *
  have hm0 : decide (((1 : Int) + (L.length : Int)) < 0) = false := decide_eq_false (by have := hL.out; omega)
  have HG := Lib.hid hGL; clear hGL
  have P_z := Lib.hid r_z; clear r_z
  have b1 : Below w.heap.size w (w.alloc (.cells #[.slice A_z z.length c_z] 24)) := by (repeat (first | exact Below.refl _ _ | refine Below.alloc ?_ (by simp; try omega) _ | refine below_drewN ?_ _ | refine Below.drew ?_))
  have z1 : w.heap.size + 1 ≤ (w.alloc (.cells #[.slice A_z z.length c_z] 24)).heap.size := by simp
  have Q_z : (w.alloc (.cells #[.slice A_z z.length c_z] 24)).cell? ⟨w.heap.size, 0, none⟩ = some (.slice A_z z.length c_z) := by simp [go_sem]
  replace P_z := Lib.hid (P_z.out.below b1 (by omega))
  have HB := Lib.hid b1
  clear b1
  go_enter Try.func8, Try.ntmps8
  go_wp2_with fail
  generalize (w.alloc (.cells #[.slice A_z z.length c_z] 24)) = w1 at *
  refine (laws_szPattern _ _ _ _ _ (by omega) (by omega)).mono ?_
  rintro e w2 ⟨rfl, b2⟩
  have z2 := b2.size
  replace P_z := Lib.hid (P_z.out.below b2 (by omega))
  replace Q_z := (b2.cell (p := ⟨w.heap.size, 0, none⟩) (show w.heap.size < w1.heap.size by omega)).trans Q_z
  replace HB := Lib.hid (HB.out.trans (b2.mono (by omega)))
  clear b2
  go_wp2_with fail
  refine (laws_toPattern _ _ _ _ (P_z.out.more (by omega)) l_z).mono ?_
  rintro e w3 ⟨A3, c3, rfl, o3, b3⟩
  have z3 := b3.size
  have R_az := Lib.hid (Row.mk_ o3)
  clear o3
  replace P_z := Lib.hid (P_z.out.below b3 (by omega))
  replace Q_z := (b3.cell (p := ⟨w.heap.size, 0, none⟩) (show w.heap.size < w2.heap.size by omega)).trans Q_z
  replace HB := Lib.hid (HB.out.trans (b3.mono (by omega)))
  clear b3
  go_wp2_with fail
  refine (spec_PatternGaps _ _ _ _  (R_az.out.rd.more (by omega)) l_z).mono ?_
  rw [HG.out]
  rintro e w4 ⟨A4, c4, rfl, o4, b4⟩
  have z4 := b4.size
  have R_W := Lib.hid (Row.mk_ o4)
  clear o4
  replace R_az := Lib.hid (R_az.out.below b4 (by omega))
  replace P_z := Lib.hid (P_z.out.below b4 (by omega))
  replace Q_z := (b4.cell (p := ⟨w.heap.size, 0, none⟩) (show w.heap.size < w3.heap.size by omega)).trans Q_z
  replace HB := Lib.hid (HB.out.trans (b4.mono (by omega)))
  clear b4
  clear R_az
  go_wp2_with fail
  refine (laws_toPattern _ _ _ _ (P_z.out.more (by omega)) l_z).mono ?_
  rintro e w5 ⟨A5, c5, rfl, o5, b5⟩
  have z5 := b5.size
  have R_xz := Lib.hid (Row.mk_ o5)
  clear o5
  replace R_W := Lib.hid (R_W.out.below b5 (by omega))
  replace P_z := Lib.hid (P_z.out.below b5 (by omega))
  replace Q_z := (b5.cell (p := ⟨w.heap.size, 0, none⟩) (show w.heap.size < w4.heap.size by omega)).trans Q_z
  replace HB := Lib.hid (HB.out.trans (b5.mono (by omega)))
  clear b5
  have b6 : Below w5.heap.size w5 (w5.alloc (.cells #[.slice A5 z.length c5] 27)) := (Below.refl _ _).alloc (Nat.le_refl _) _
  have z6 : w5.heap.size + 1 ≤ (w5.alloc (.cells #[.slice A5 z.length c5] 27)).heap.size := by simp
  have Q_xz : (w5.alloc (.cells #[.slice A5 z.length c5] 27)).cell? ⟨w5.heap.size, 0, none⟩ = some (.slice A5 z.length c5) := by simp [go_sem]
  replace R_W := Lib.hid (R_W.out.below b6 (by omega))
  replace R_xz := Lib.hid (R_xz.out.below b6 (by omega))
  replace P_z := Lib.hid (P_z.out.below b6 (by omega))
  replace Q_z := (b6.cell (p := ⟨w.heap.size, 0, none⟩) (show w.heap.size < w5.heap.size by omega)).trans Q_z
  replace HB := Lib.hid (HB.out.trans (b6.mono (by omega)))
  clear b6
  go_wp2_with fail
  generalize (w5.alloc (.cells #[.slice A5 z.length c5] 27)) = w6 at *
  refine (impl_PatternGaps _ _ _ _  (R_xz.out.rd.more (by omega)) l_z).mono ?_
  rw [HG.out]
  rintro e w7 ⟨A7, c7, rfl, o7, b7⟩
  have z7 := b7.size
  have R_G := Lib.hid (Row.mk_ o7)
  clear o7
  replace R_W := Lib.hid (R_W.out.below b7 (by omega))
  replace R_xz := Lib.hid (R_xz.out.below b7 (by omega))
  replace P_z := Lib.hid (P_z.out.below b7 (by omega))
  replace Q_z := (b7.cell (p := ⟨w.heap.size, 0, none⟩) (show w.heap.size < w6.heap.size by omega)).trans Q_z
  replace Q_xz := (b7.cell (p := ⟨w5.heap.size, 0, none⟩) (show w5.heap.size < w6.heap.size by omega)).trans Q_xz
  replace HB := Lib.hid (HB.out.trans (b7.mono (by omega)))
  clear b7
  go_wp2_with fail
  refine (laws_eqIntS _ _ _ _ _ _ _ (R_G.out.rdI.more (by omega)) (R_W.out.rdI.more (by omega)) hL.out hL.out).mono ?_
  rintro e w8 ⟨rfl, b8⟩
  have z8 := b8.size
  replace R_W := Lib.hid (R_W.out.below b8 (by omega))
  replace R_xz := Lib.hid (R_xz.out.below b8 (by omega))
  replace R_G := Lib.hid (R_G.out.below b8 (by omega))
  replace P_z := Lib.hid (P_z.out.below b8 (by omega))
  replace Q_z := (b8.cell (p := ⟨w.heap.size, 0, none⟩) (show w.heap.size < w7.heap.size by omega)).trans Q_z
  replace Q_xz := (b8.cell (p := ⟨w5.heap.size, 0, none⟩) (show w5.heap.size < w7.heap.size by omega)).trans Q_xz
  replace HB := Lib.hid (HB.out.trans (b8.mono (by omega)))
  clear b8
  go_wp2_with fail
  have sd : w8.drew.heap.size = w8.heap.size := rfl
  have P_d := Lib.hid (P_z.out.more (show _ ≤ w8.heap.size by omega)).drew
  have R_d := Lib.hid R_xz.out.drew
  go_region_held3 (fun w' => w'.cell? ⟨w5.heap.size, 0, none⟩ = some (.slice A5 z.length c5) ∧ w'.cell? ⟨w.heap.size, 0, none⟩ = some (.slice A_z z.length c_z)) (first | exact ⟨Q_xz, Q_z⟩ | exact ⟨(b9.cell (p := ⟨w5.heap.size, 0, none⟩) (show w5.heap.size < w8.heap.size by omega)).trans Q_xz, (b9.cell (p := ⟨w.heap.size, 0, none⟩) (show w.heap.size < w8.heap.size by omega)).trans Q_z⟩ | exact ⟨(b10.cell (p := ⟨w5.heap.size, 0, none⟩) (show w5.heap.size < w9.heap.size by omega)).trans ((b9.cell (p := ⟨w5.heap.size, 0, none⟩) (show w5.heap.size < w8.heap.size by omega)).trans Q_xz), (b10.cell (p := ⟨w.heap.size, 0, none⟩) (show w.heap.size < w9.heap.size by omega)).trans ((b9.cell (p := ⟨w.heap.size, 0, none⟩) (show w.heap.size < w8.heap.size by omega)).trans Q_z)⟩) (first | (go_at_call 11; refine (laws_toPattern _ _ _ _ P_d.out l_z).mono ?_; rintro e w9 ⟨A9, c9, rfl, o9, b9⟩; have z9 : w8.heap.size ≤ w9.heap.size := b9.size) | (go_at_call 13; refine (laws_eqPattern _ _ _ _ _ _ _ ((R_d.out.below b9 (by omega)).rd.more (by omega)) ((Row.mk_ o9).rd.more (by omega)) l_z l_z).mono ?_; rintro e w10 ⟨rfl, b10⟩; have z10 : w9.heap.size ≤ w10.heap.size := b10.size))
  have bb : Below w8.heap.size w8 w10 := (below_drew_left b9).trans (b10.mono (by omega))
  clear b9 b10 o9 P_d R_d sd
  replace R_W := Lib.hid (R_W.out.below bb (by omega))
  replace R_xz := Lib.hid (R_xz.out.below bb (by omega))
  replace R_G := Lib.hid (R_G.out.below bb (by omega))
  replace P_z := Lib.hid (P_z.out.below bb (by omega))
  replace Q_z := (bb.cell (p := ⟨w.heap.size, 0, none⟩) (show w.heap.size < w8.heap.size by omega)).trans Q_z
  replace Q_xz := (bb.cell (p := ⟨w5.heap.size, 0, none⟩) (show w5.heap.size < w8.heap.size by omega)).trans Q_xz
  replace HB := Lib.hid (HB.out.trans (bb.mono (by omega)))
  clear bb
  go_wp2_with fail
  refine (laws_markPattern _ _ _ _ _ _ _ R_xz.out.1 l_z (by omega) (by omega)).mono ?_; rintro e w11 ⟨rfl, o11, g11⟩
  have z11 := g11.size
  replace R_W := Lib.hid (R_W.out.far R_xz.out g11 (by omega))
  replace R_G := Lib.hid (R_G.out.far R_xz.out g11 (by omega))
  replace P_z := Lib.hid (P_z.out.far R_xz.out g11 (by omega) (by omega))
  replace Q_z := g11.cell Q_z (R_xz.out.ne (show w.heap.size < _ ∨ _ ≤ w.heap.size by omega))
  replace Q_xz := g11.cell Q_xz (R_xz.out.ne (show w5.heap.size < _ ∨ _ ≤ w5.heap.size by omega))
  replace HB := Lib.hid (below_far HB.out R_xz.out g11 (by omega) (by omega))
  replace R_xz := Lib.hid (R_xz.out.self o11)
  clear o11 g11
  clear R_xz
  clear Q_xz
  go_wp2_with fail
  refine (laws_eqIntS _ _ _ _ _ _ _ (R_G.out.rdI.more (by omega)) (R_W.out.rdI.more (by omega)) hL.out hL.out).mono ?_
  rintro e w12 ⟨rfl, b12⟩
  have z12 := b12.size
  replace R_W := Lib.hid (R_W.out.below b12 (by omega))
  replace R_G := Lib.hid (R_G.out.below b12 (by omega))
  replace P_z := Lib.hid (P_z.out.below b12 (by omega))
  replace Q_z := (b12.cell (p := ⟨w.heap.size, 0, none⟩) (show w.heap.size < w11.heap.size by omega)).trans Q_z
  replace HB := Lib.hid (HB.out.trans (b12.mono (by omega)))
  clear b12
  go_wp2_with fail
  refine (laws_markIntS _ _ _ _ _ _ _ R_G.out.1 hL.out (by omega) (by omega)).mono ?_; rintro e w13 ⟨rfl, o13, g13⟩
  have z13 := g13.size
  replace R_W := Lib.hid (R_W.out.far R_G.out g13 (by omega))
  replace P_z := Lib.hid (P_z.out.far R_G.out g13 (by omega) (by omega))
  replace Q_z := g13.cell Q_z (R_G.out.ne (show w.heap.size < _ ∨ _ ≤ w.heap.size by omega))
  replace HB := Lib.hid (below_far HB.out R_G.out g13 (by omega) (by omega))
  replace R_G := Lib.hid (R_G.out.self o13)
  clear o13 g13
  go_wp2_with fail
  refine (laws_heldIntS _ _ _ _ _ (R_G.out.rd.more (by omega)) hL.out (by omega) (by omega)).mono ?_
  rintro e w' ⟨rfl, rfl⟩
  go_wp2_with fail
  refine (laws_toPattern _ _ _ _ (P_z.out.more (by omega)) l_z).mono ?_
  rintro e w14 ⟨A14, c14, rfl, o14, b14⟩
  have z14 := b14.size
  have R_hz := Lib.hid (Row.mk_ o14)
  clear o14
  replace R_W := Lib.hid (R_W.out.below b14 (by omega))
  replace R_G := Lib.hid (R_G.out.below b14 (by omega))
  replace P_z := Lib.hid (P_z.out.below b14 (by omega))
  replace Q_z := (b14.cell (p := ⟨w.heap.size, 0, none⟩) (show w.heap.size < w13.heap.size by omega)).trans Q_z
  replace HB := Lib.hid (HB.out.trans (b14.mono (by omega)))
  clear b14
  go_wp2_with fail
  refine (impl_PatternGaps _ _ _ _  (R_hz.out.rd.more (by omega)) l_z).mono ?_
  rw [HG.out]
  rintro e w15 ⟨A15, c15, rfl, o15, b15⟩
  have z15 := b15.size
  have R_Z := Lib.hid (Row.mk_ o15)
  clear o15
  replace R_W := Lib.hid (R_W.out.below b15 (by omega))
  replace R_G := Lib.hid (R_G.out.below b15 (by omega))
  replace R_hz := Lib.hid (R_hz.out.below b15 (by omega))
  replace P_z := Lib.hid (P_z.out.below b15 (by omega))
  replace Q_z := (b15.cell (p := ⟨w.heap.size, 0, none⟩) (show w.heap.size < w14.heap.size by omega)).trans Q_z
  replace HB := Lib.hid (HB.out.trans (b15.mono (by omega)))
  clear b15
  clear R_hz
  clear P_z
  clear Q_z
  go_wp2_with fail
  refine (laws_eqIntS _ _ _ _ _ _ _ (R_Z.out.rdI.more (by omega)) (R_W.out.rdI.more (by omega)) hL.out hL.out).mono ?_
  rintro e w16 ⟨rfl, b16⟩
  have z16 := b16.size
  replace R_W := Lib.hid (R_W.out.below b16 (by omega))
  replace R_G := Lib.hid (R_G.out.below b16 (by omega))
  replace R_Z := Lib.hid (R_Z.out.below b16 (by omega))
  replace HB := Lib.hid (HB.out.trans (b16.mono (by omega)))
  clear b16
  clear R_Z
  clear R_W
  go_wp2_with fail
  refine (laws_heldIntS _ _ _ _ _ (R_G.out.rd.more (by omega)) hL.out (by omega) (by omega)).mono ?_
  rintro e w' ⟨rfl, rfl⟩
  go_wp2_with fail
  go_ret
  exact ⟨rfl, HB.out⟩
theorem walk (w : World) (A_z : Option Addr) (c_z : Nat) (z : List Bool) (r_z : RdBo w w.heap.size A_z z) (m_z : z.length ≤ maxLen) :
    Calls Try.prog 8 #[.agg #[.slice A_z z.length c_z]] w (RetB w true) := by
  by_cases l_z : z.length ≤ 1048576
  case neg =>
    unfold maxLen at m_z
    clear r_z
    go_enter Try.func8, Try.ntmps8
    go_wp2_with fail
    refine (laws_szPattern_no _ _ _ _ _ (by omega) (by omega) (by omega)).mono ?_; rintro e w1 ⟨rfl, b1⟩
    go_wp2_with fail
    go_ret
    exact ⟨rfl, (show Below w.heap.size w (w.alloc _) from (Below.refl _ _).alloc (Nat.le_refl _) _).trans (b1.mono (by simp))⟩
  exact core w A_z c_z z r_z l_z

set_option maxRecDepth 100000 in
theorem lifted (os : Os) (started : os.Started) (H : Type) (enc : TypeId × Value → H) :
    ReturnsInHanded {} Try.checked os 8 .any (Rows.fnExactPatternGapsSpec.pre6 enc Try.prog Try.f8 Rows.fnExactPatternGapsRow.domain false) (Rows.fnExactPatternGapsSpec.post enc Try.prog Try.f8 false true false false) := by
  refine returnsInHanded_of_change (C := Try.checked) own started (by kernel_rfl) Try.func8
    (ChangeSpec.witness6 (enc := enc) (C := Try.checked) false ⟨#[], #[.agg #[.slice none 0 0]], []⟩ 8 (by kernel_rfl) (by kernel_rfl) (by kernel_rfl) (by kernel_rfl)) ?_
  intro W base args ds gs before hval0 hW hcnd _
  have hval : ∀ (j : Nat) t v, Try.f8.params[j]? = some t → args[j]? = some v → Value.okWide Try.prog W .any base t v := hval0
  have hW' := hW
  obtain ⟨p, q, hA0, hV, rfl, hfz, hnd⟩ := hW
  have hA : DataW.TrodAll enc Try.prog W 0 (fun _ => true) true Try.f8.params.toList args.toList ds p := hA0
  rw [Try.params8] at hA hval
  obtain ⟨v0, vs0, d0, ds0, p0, q0, hargs, rfl, rfl, h0, r0⟩ := trodAll_cons hA
  obtain ⟨rfl, rfl, rfl⟩ := trodAll_nil r0
  obtain rfl : args = #[v0] := by cases args; simp_all
  obtain ⟨rfl, rfl⟩ := trodVars_none hV
  have k0 := h0
  have lt0 : ∀ x ∈ p0, x.block < W.heap.size := by obtain ⟨m, hm⟩ := k0; exact DataW.trod_lt m _ _ _ hm
  obtain ⟨u0, y0, g0, rfl, hy0⟩ := open_agg1 Try.underlying24 (by kernel_rfl) (by kernel_rfl) (hval 0 24 v0 rfl rfl) h0
  obtain ⟨A_z, l_z, c_z, rfl⟩ := slice_of Try.underlying22 hy0
  obtain ⟨z, rfl, r_z, m_z⟩ := open_bools_rd Try.underlying22 Try.underlying4 (by kernel_rfl) hy0
  clear hA0 hval0
  refine (walk W A_z c_z z r_z m_z).mono fun e W' hwk => ?_
  obtain ⟨he, bel⟩ := hwk
  subst he
  exact ⟨_, rfl, _, _, _, [], _, [], hW', trodAll_mk1 (shut_bool Try.underlying4 _), (trodAll_cons_mk (Below.trod laidOut (by kernel_rfl) (of_decide_eq_true (by kernel_rfl)) k0 bel lt0) trodAll_mk0), rfl, bel.frame _, fun h => by cases h⟩

theorem over : Rows.fnExactPatternGapsRow.holds Try.pinned (OpenSpec.ofChange Rows.fnExactPatternGapsSpec) :=
  OpenClaim.holds_of_wide 8 Try.f8 rfl rfl rfl rfl rfl rfl rfl ⟨rfl, rfl, rfl, rfl, rfl⟩ rfl rfl rfl rfl rfl (by kernel_rfl) Try.func8 (by kernel_rfl)
    (of_decide_eq_true (by kernel_rfl)) (by unfold Func.isWrapper; first | (rw [if_pos (by decide +kernel)]; kernel_rfl) | (rw [if_neg (by decide +kernel)]; exact ⟨rfl, rfl⟩))
    (fun os started H enc _ => lifted os started H enc)

/-- The statement. -/
theorem proved : Rows.FnExactPatternGapsSaid := over
#print axioms proved
end Go.Proofs.Ytjabgfhjkjinoaa.fnExactPatternGaps
