/-
  FnExactPlainVoice returns true for every input and leaves its arguments as they were. No condition.
-/
import Derived.Test.YtkmgmnjggnamfaaPlw
import Derived.Test.YtkmgmnjggnamfaaOpenRec
import Derived.Test.YtkmgmnjggnamfaaFrame
namespace Go.Proofs.Ytkmgmnjggnamfaa.fnExactPlainVoice
open Go.ChangeShapes Go.WideShapes Go.ChangeAt Go.RowKit
open Go.ChangeMaps (open_string shut_string)
set_option linter.unusedVariables false

set_option maxHeartbeats 4000000 in
theorem core (w : World) (A_z : Option Addr) (c_z : Nat) (z : List (Bool × Int × Int × Int × Int × Bool)) (r_z : RdNote w w.heap.size A_z z) (l_z : z.length ≤ 1048576) :
    Calls Try.prog 5 #[.slice A_z z.length c_z] w (RetB w true) := by
  have hL : Hid ((plainL z).1.length ≤ 1048576) := by unfold Hid; have := plainL_len z; omega
  have hs := sameNote_refl (plainL z).1
  have hs_z := sameNote_refl z
  have hd_z : decide (((1048576 : Int) - (z.length : Int)) < 0) = false := decide_eq_false (by omega)
  have hk0 : decide (((1 : Int) + 6 * (z.length : Int)) < 0) = false := decide_eq_false (by omega)
  generalize hGL : plainL z = L at *
  have hb2 : (L.2 != L.2) = false := by simp
  have hm0 : decide (((1 : Int) + 6 * (L.1.length : Int)) < 0) = false := decide_eq_false (by have := hL.out; omega)
  have HG := Lib.hid hGL; clear hGL
  have P_z := Lib.hid r_z; clear r_z
  go_enter Try.func5, Try.ntmps5
  go_wp2_with fail
  refine (laws_szNoteS _ _ _ _ _ (by omega) (by omega)).mono ?_
  rintro e w1 ⟨rfl, b1⟩
  have z1 := b1.size
  replace P_z := Lib.hid (P_z.out.below b1 (by omega))
  have HB := Lib.hid b1
  clear b1
  go_wp2_with fail
  refine (laws_toNoteS _ _ _ _ (P_z.out.more (by omega)) l_z).mono ?_
  rintro e w2 ⟨A2, c2, rfl, o2, b2⟩
  have z2 := b2.size
  have R_az := Lib.hid (Row.mk_ o2)
  clear o2
  replace P_z := Lib.hid (P_z.out.below b2 (by omega))
  replace HB := Lib.hid (HB.out.trans (b2.mono (by omega)))
  clear b2
  go_wp2_with fail
  refine ((spec_PlainVoice _ _ _ _  (R_az.out.rdNote.more (by omega)) l_z)).mono ?_
  rw [HG.out]
  rintro e w3 ⟨A3, c3, rfl, o3, b3⟩
  have z3 := b3.size
  have R_W := Lib.hid (Row.mk_ o3)
  clear o3
  replace R_az := Lib.hid (R_az.out.below b3 (by omega))
  replace P_z := Lib.hid (P_z.out.below b3 (by omega))
  replace HB := Lib.hid (HB.out.trans (b3.mono (by omega)))
  clear b3
  clear R_az
  go_wp2_with fail
  refine (laws_toNoteS _ _ _ _ (P_z.out.more (by omega)) l_z).mono ?_
  rintro e w4 ⟨A4, c4, rfl, o4, b4⟩
  have z4 := b4.size
  have R_xz := Lib.hid (Row.mk_ o4)
  clear o4
  replace R_W := Lib.hid (R_W.out.below b4 (by omega))
  replace P_z := Lib.hid (P_z.out.below b4 (by omega))
  replace HB := Lib.hid (HB.out.trans (b4.mono (by omega)))
  clear b4
  go_wp2_with fail
  refine ((impl_PlainVoice _ _ _ _  (R_xz.out.rdNote.more (by omega)) l_z)).mono ?_
  rw [HG.out]
  rintro e w5 ⟨A5, c5, rfl, o5, b5⟩
  have z5 := b5.size
  have R_G := Lib.hid (Row.mk_ o5)
  clear o5
  replace R_W := Lib.hid (R_W.out.below b5 (by omega))
  replace R_xz := Lib.hid (R_xz.out.below b5 (by omega))
  replace P_z := Lib.hid (P_z.out.below b5 (by omega))
  replace HB := Lib.hid (HB.out.trans (b5.mono (by omega)))
  clear b5
  go_wp2_with fail
  refine (laws_eqNoteS _ _ _ _ _ _ _ (R_G.out.rdNote.more (by omega)) (R_W.out.rdNote.more (by omega)) hL.out hL.out).mono ?_
  rintro e w6 ⟨rfl, b6⟩
  have z6 := b6.size
  replace R_W := Lib.hid (R_W.out.below b6 (by omega))
  replace R_xz := Lib.hid (R_xz.out.below b6 (by omega))
  replace R_G := Lib.hid (R_G.out.below b6 (by omega))
  replace P_z := Lib.hid (P_z.out.below b6 (by omega))
  replace HB := Lib.hid (HB.out.trans (b6.mono (by omega)))
  clear b6
  go_wp2_with fail
  refine (laws_toNoteS _ _ _ _ (P_z.out.more (by omega)) l_z).mono ?_
  rintro e w7 ⟨A7, c7, rfl, o7, b7⟩
  have z7 := b7.size
  have R_yz := Lib.hid (Row.mk_ o7)
  clear o7
  replace R_W := Lib.hid (R_W.out.below b7 (by omega))
  replace R_xz := Lib.hid (R_xz.out.below b7 (by omega))
  replace R_G := Lib.hid (R_G.out.below b7 (by omega))
  replace P_z := Lib.hid (P_z.out.below b7 (by omega))
  replace HB := Lib.hid (HB.out.trans (b7.mono (by omega)))
  clear b7
  go_wp2_with fail
  refine (laws_eqNoteS _ _ _ _ _ _ _ (R_xz.out.rdNote.more (by omega)) (R_yz.out.rdNote.more (by omega)) l_z l_z).mono ?_
  rintro e w8 ⟨rfl, b8⟩
  have z8 := b8.size
  replace R_W := Lib.hid (R_W.out.below b8 (by omega))
  replace R_xz := Lib.hid (R_xz.out.below b8 (by omega))
  replace R_G := Lib.hid (R_G.out.below b8 (by omega))
  replace R_yz := Lib.hid (R_yz.out.below b8 (by omega))
  replace P_z := Lib.hid (P_z.out.below b8 (by omega))
  replace HB := Lib.hid (HB.out.trans (b8.mono (by omega)))
  clear b8
  clear R_yz
  go_wp2_with fail
  refine (laws_markNoteS _ _ _ _ _ _ _ R_xz.out.1 l_z (by omega) (by omega)).mono ?_; rintro e w9 ⟨rfl, o9, g9⟩
  have z9 := g9.size
  replace R_W := Lib.hid (R_W.out.far R_xz.out g9 (by omega))
  replace R_G := Lib.hid (R_G.out.far R_xz.out g9 (by omega))
  replace P_z := Lib.hid (P_z.out.far R_xz.out g9 (by omega) (by omega))
  replace HB := Lib.hid (below_far HB.out R_xz.out g9 (by omega) (by omega))
  replace R_xz := Lib.hid (R_xz.out.self o9)
  clear o9 g9
  clear R_xz
  go_wp2_with fail
  refine (laws_eqNoteS _ _ _ _ _ _ _ (R_G.out.rdNote.more (by omega)) (R_W.out.rdNote.more (by omega)) hL.out hL.out).mono ?_
  rintro e w10 ⟨rfl, b10⟩
  have z10 := b10.size
  replace R_W := Lib.hid (R_W.out.below b10 (by omega))
  replace R_G := Lib.hid (R_G.out.below b10 (by omega))
  replace P_z := Lib.hid (P_z.out.below b10 (by omega))
  replace HB := Lib.hid (HB.out.trans (b10.mono (by omega)))
  clear b10
  go_wp2_with fail
  refine (laws_markNoteS _ _ _ _ _ _ _ R_G.out.1 hL.out (by omega) (by omega)).mono ?_; rintro e w11 ⟨rfl, o11, g11⟩
  have z11 := g11.size
  replace R_W := Lib.hid (R_W.out.far R_G.out g11 (by omega))
  replace P_z := Lib.hid (P_z.out.far R_G.out g11 (by omega) (by omega))
  replace HB := Lib.hid (below_far HB.out R_G.out g11 (by omega) (by omega))
  replace R_G := Lib.hid (R_G.out.self o11)
  clear o11 g11
  go_wp2_with fail
  refine (laws_heldNoteS _ _ _ _ _ (R_G.out.rd.more (by omega)) hL.out (by omega) (by omega)).mono ?_
  rintro e w' ⟨rfl, rfl⟩
  go_wp2_with fail
  refine (laws_toNoteS _ _ _ _ (P_z.out.more (by omega)) l_z).mono ?_
  rintro e w12 ⟨A12, c12, rfl, o12, b12⟩
  have z12 := b12.size
  have R_hz := Lib.hid (Row.mk_ o12)
  clear o12
  replace R_W := Lib.hid (R_W.out.below b12 (by omega))
  replace R_G := Lib.hid (R_G.out.below b12 (by omega))
  replace P_z := Lib.hid (P_z.out.below b12 (by omega))
  replace HB := Lib.hid (HB.out.trans (b12.mono (by omega)))
  clear b12
  go_wp2_with fail
  refine ((impl_PlainVoice _ _ _ _  (R_hz.out.rdNote.more (by omega)) l_z)).mono ?_
  rw [HG.out]
  rintro e w13 ⟨A13, c13, rfl, o13, b13⟩
  have z13 := b13.size
  have R_Z := Lib.hid (Row.mk_ o13)
  clear o13
  replace R_W := Lib.hid (R_W.out.below b13 (by omega))
  replace R_G := Lib.hid (R_G.out.below b13 (by omega))
  replace R_hz := Lib.hid (R_hz.out.below b13 (by omega))
  replace P_z := Lib.hid (P_z.out.below b13 (by omega))
  replace HB := Lib.hid (HB.out.trans (b13.mono (by omega)))
  clear b13
  clear R_hz
  clear P_z
  go_wp2_with fail
  refine (laws_eqNoteS _ _ _ _ _ _ _ (R_Z.out.rdNote.more (by omega)) (R_W.out.rdNote.more (by omega)) hL.out hL.out).mono ?_
  rintro e w14 ⟨rfl, b14⟩
  have z14 := b14.size
  replace R_W := Lib.hid (R_W.out.below b14 (by omega))
  replace R_G := Lib.hid (R_G.out.below b14 (by omega))
  replace R_Z := Lib.hid (R_Z.out.below b14 (by omega))
  replace HB := Lib.hid (HB.out.trans (b14.mono (by omega)))
  clear b14
  clear R_Z
  clear R_W
  go_wp2_with fail
  refine (laws_heldNoteS _ _ _ _ _ (R_G.out.rd.more (by omega)) hL.out (by omega) (by omega)).mono ?_
  rintro e w' ⟨rfl, rfl⟩
  go_wp2_with fail
  go_ret
  exact ⟨rfl, HB.out⟩
theorem walk (w : World) (A_z : Option Addr) (c_z : Nat) (z : List (Bool × Int × Int × Int × Int × Bool)) (r_z : RdNote w w.heap.size A_z z) (m_z : z.length ≤ maxLen) :
    Calls Try.prog 5 #[.slice A_z z.length c_z] w (RetB w true) := by
  by_cases l_z : z.length ≤ 1048576
  case neg =>
    unfold maxLen at m_z
    clear r_z
    go_enter Try.func5, Try.ntmps5
    go_wp2_with fail
    refine (laws_szNoteS_no _ _ _ _ _ (by omega) (by omega) (by omega)).mono ?_; rintro e w1 ⟨rfl, b1⟩
    go_wp2_with fail
    go_ret
    first | exact ⟨rfl, b1⟩ | exact ⟨rfl, (show Below w.heap.size w (w.alloc _) from (Below.refl _ _).alloc (Nat.le_refl _) _).trans (b1.mono (by simp))⟩
  exact core w A_z c_z z r_z l_z

set_option maxRecDepth 100000 in
theorem lifted (os : Os) (started : os.Started) (H : Type) (enc : TypeId × Value → H) :
    ReturnsInHanded {} Try.checked os 5 .any (Rows.fnExactPlainVoiceSpec.pre6 enc Try.prog Try.f5 Rows.fnExactPlainVoiceRow.domain false) (Rows.fnExactPlainVoiceSpec.post enc Try.prog Try.f5 false true false false) := by
  refine returnsInHanded_of_change (C := Try.checked) own started (by kernel_rfl) Try.func5
    (ChangeSpec.witness6 (enc := enc) (C := Try.checked) false ⟨#[], #[.slice none 0 0], []⟩ 8 (by kernel_rfl) (by kernel_rfl) (by kernel_rfl) (by kernel_rfl)) ?_
  intro W base args ds gs before hval0 hW hcnd _
  have hval : ∀ (j : Nat) t v, Try.f5.params[j]? = some t → args[j]? = some v → Value.okWide Try.prog W .any base t v := hval0
  have hW' := hW
  obtain ⟨p, q, hA0, hV, rfl, hfz, hnd⟩ := hW
  have hA : DataW.TrodAll enc Try.prog W 0 (fun _ => true) true Try.f5.params.toList args.toList ds p := hA0
  rw [Try.params5] at hA hval
  obtain ⟨v0, vs0, d0, ds0, p0, q0, hargs, rfl, rfl, h0, r0⟩ := trodAll_cons hA
  obtain ⟨rfl, rfl, rfl⟩ := trodAll_nil r0
  obtain rfl : args = #[v0] := by cases args; simp_all
  obtain ⟨rfl, rfl⟩ := trodVars_none hV
  have k0 := h0
  have lt0 : ∀ x ∈ p0, x.block < W.heap.size := by obtain ⟨m, hm⟩ := k0; exact DataW.trod_lt m _ _ _ hm
  obtain ⟨A_z, l_z, c_z, rfl⟩ := okWide_slice Try.underlying36 (hval 0 36 v0 rfl rfl)
  obtain ⟨z, rfl, r_z, m_z⟩ : ∃ X : List (Bool × Int × Int × Int × Int × Bool), X.length = l_z ∧ RdNote W W.heap.size A_z X ∧ l_z ≤ maxLen := by
    obtain ⟨fuel, hf⟩ := h0
    exact open_notes_rd hf
  clear hA0 hval0
  refine (walk W A_z c_z z r_z m_z).mono fun e W' hwk => ?_
  obtain ⟨he, bel⟩ := hwk
  subst he
  exact ⟨_, rfl, _, _, _, [], _, [], hW', trodAll_mk1 (shut_bool Try.underlying4 _), (trodAll_cons_mk (Below.trod laidOut (by kernel_rfl) (of_decide_eq_true (by kernel_rfl)) k0 bel lt0) trodAll_mk0), rfl, bel.frame _, fun h => by cases h⟩

theorem over : Rows.fnExactPlainVoiceRow.holds Try.pinned (OpenSpec.ofChange Rows.fnExactPlainVoiceSpec) :=
  OpenClaim.holds_of_wide 5 Try.f5 rfl rfl rfl rfl rfl rfl rfl ⟨rfl, rfl, rfl, rfl, rfl⟩ rfl rfl rfl rfl rfl (by kernel_rfl) Try.func5 (by kernel_rfl)
    (of_decide_eq_true (by kernel_rfl)) (by unfold Func.isWrapper; first | (rw [if_pos (by decide +kernel)]; kernel_rfl) | (rw [if_neg (by decide +kernel)]; exact ⟨rfl, rfl⟩))
    (fun os started H enc _ => lifted os started H enc)

/-- The statement. -/
theorem proved : Rows.FnExactPlainVoiceSaid := over
#print axioms proved
end Go.Proofs.Ytkmgmnjggnamfaa.fnExactPlainVoice
