/-
  FnExactEvenPattern returns true for every input and leaves its arguments as they were. No condition.
-/
import Derived.Test.YtjabgfhjkjinoaaEven
import Derived.Test.YtjabgfhjkjinoaaFrame
namespace Go.Proofs.Ytjabgfhjkjinoaa.fnExactEvenPattern
open Go.ChangeShapes Go.WideShapes Go.ChangeAt Go.RowKit
open Go.ChangeMaps (open_string shut_string)
set_option linter.unusedVariables false

set_option maxHeartbeats 4000000 in
theorem core (w : World) (s : Int) (n : Int) (w_s : Fits s) (w_n : Fits n) :
    Calls Try.prog 4 #[.int .i64 s, .int .i64 n] w (RetB w true) := by
  have hL : Hid ((evenL s n).length ≤ 1048576) := by unfold Hid; have := evenL_len s n; omega
  have hs := sameBo_refl (evenL s n)
  generalize hGL : evenL s n = L at *
  have hm0 : decide (((1 : Int) + (L.length : Int)) < 0) = false := decide_eq_false (by have := hL.out; omega)
  have HG := Lib.hid hGL; clear hGL
  go_enter Try.func4, Try.ntmps4
  go_wp2_with fail
  refine (spec_EvenPattern _ _ _).mono ?_
  rw [HG.out]
  rintro e w1 ⟨A1, c1, rfl, o1, b1⟩
  have s1 := b1.size
  have R_W := Lib.hid (Row.mk_ o1)
  clear o1
  have HB := Lib.hid b1
  clear b1
  have b2 : Below w1.heap.size w1 (w1.alloc (.cells #[.slice A1 L.length c1] 27)) := (Below.refl _ _).alloc (Nat.le_refl _) _
  have s2 : w1.heap.size + 1 ≤ (w1.alloc (.cells #[.slice A1 L.length c1] 27)).heap.size := by simp
  have Q_W : (w1.alloc (.cells #[.slice A1 L.length c1] 27)).cell? ⟨w1.heap.size, 0, none⟩ = some (.slice A1 L.length c1) := by simp [go_sem]
  replace R_W := Lib.hid (R_W.out.below b2 (by omega))
  replace HB := Lib.hid (HB.out.trans (b2.mono (by omega)))
  clear b2
  go_wp2_with fail
  generalize (w1.alloc (.cells #[.slice A1 L.length c1] 27)) = w2 at *
  refine (impl_EvenPattern _ _ _).mono ?_
  rw [HG.out]
  rintro e w3 ⟨A3, c3, rfl, o3, b3⟩
  have s3 := b3.size
  have R_G := Lib.hid (Row.mk_ o3)
  clear o3
  replace R_W := Lib.hid (R_W.out.below b3 (by omega))
  replace Q_W := (b3.cell (p := ⟨w1.heap.size, 0, none⟩) (show w1.heap.size < w2.heap.size by omega)).trans Q_W
  replace HB := Lib.hid (HB.out.trans (b3.mono (by omega)))
  clear b3
  have b4 : Below w3.heap.size w3 (w3.alloc (.cells #[.slice A3 L.length c3] 27)) := (Below.refl _ _).alloc (Nat.le_refl _) _
  have s4 : w3.heap.size + 1 ≤ (w3.alloc (.cells #[.slice A3 L.length c3] 27)).heap.size := by simp
  have Q_G : (w3.alloc (.cells #[.slice A3 L.length c3] 27)).cell? ⟨w3.heap.size, 0, none⟩ = some (.slice A3 L.length c3) := by simp [go_sem]
  replace R_W := Lib.hid (R_W.out.below b4 (by omega))
  replace R_G := Lib.hid (R_G.out.below b4 (by omega))
  replace Q_W := (b4.cell (p := ⟨w1.heap.size, 0, none⟩) (show w1.heap.size < w3.heap.size by omega)).trans Q_W
  replace HB := Lib.hid (HB.out.trans (b4.mono (by omega)))
  clear b4
  go_wp2_with fail
  generalize (w3.alloc (.cells #[.slice A3 L.length c3] 27)) = w4 at *
  refine (laws_eqPattern _ _ _ _ _ _ _ (R_G.out.rd.more (by omega)) (R_W.out.rd.more (by omega)) hL.out hL.out).mono ?_
  rintro e w5 ⟨rfl, b5⟩
  have s5 := b5.size
  replace R_W := Lib.hid (R_W.out.below b5 (by omega))
  replace R_G := Lib.hid (R_G.out.below b5 (by omega))
  replace Q_W := (b5.cell (p := ⟨w1.heap.size, 0, none⟩) (show w1.heap.size < w4.heap.size by omega)).trans Q_W
  replace Q_G := (b5.cell (p := ⟨w3.heap.size, 0, none⟩) (show w3.heap.size < w4.heap.size by omega)).trans Q_G
  replace HB := Lib.hid (HB.out.trans (b5.mono (by omega)))
  clear b5
  go_wp2_with fail
  refine (laws_markPattern _ _ _ _ _ _ _ R_G.out.1 hL.out (by omega) (by omega)).mono ?_; rintro e w6 ⟨rfl, o6, g6⟩
  have s6 := g6.size
  replace R_W := Lib.hid (R_W.out.far R_G.out g6 (by omega))
  replace Q_W := g6.cell Q_W (R_G.out.ne (show w1.heap.size < _ ∨ _ ≤ w1.heap.size by omega))
  replace Q_G := g6.cell Q_G (R_G.out.ne (show w3.heap.size < _ ∨ _ ≤ w3.heap.size by omega))
  replace HB := Lib.hid (below_far HB.out R_G.out g6 (by omega) (by omega))
  replace R_G := Lib.hid (R_G.out.self o6)
  clear o6 g6
  go_wp2_with fail
  refine (laws_heldPattern _ _ _ _ _ (R_G.out.rd.more (by omega)) hL.out (by omega) (by omega)).mono ?_
  rintro e w7 ⟨rfl, b7⟩
  have s7 := b7.size
  replace R_W := Lib.hid (R_W.out.below b7 (by omega))
  replace R_G := Lib.hid (R_G.out.below b7 (by omega))
  replace Q_W := (b7.cell (p := ⟨w1.heap.size, 0, none⟩) (show w1.heap.size < w6.heap.size by omega)).trans Q_W
  replace Q_G := (b7.cell (p := ⟨w3.heap.size, 0, none⟩) (show w3.heap.size < w6.heap.size by omega)).trans Q_G
  replace HB := Lib.hid (HB.out.trans (b7.mono (by omega)))
  clear b7
  go_wp2_with fail
  refine (impl_EvenPattern _ _ _).mono ?_
  rw [HG.out]
  rintro e w8 ⟨A8, c8, rfl, o8, b8⟩
  have s8 := b8.size
  have R_Z := Lib.hid (Row.mk_ o8)
  clear o8
  replace R_W := Lib.hid (R_W.out.below b8 (by omega))
  replace R_G := Lib.hid (R_G.out.below b8 (by omega))
  replace Q_W := (b8.cell (p := ⟨w1.heap.size, 0, none⟩) (show w1.heap.size < w7.heap.size by omega)).trans Q_W
  replace Q_G := (b8.cell (p := ⟨w3.heap.size, 0, none⟩) (show w3.heap.size < w7.heap.size by omega)).trans Q_G
  replace HB := Lib.hid (HB.out.trans (b8.mono (by omega)))
  clear b8
  have b9 : Below w8.heap.size w8 (w8.alloc (.cells #[.slice A8 L.length c8] 27)) := (Below.refl _ _).alloc (Nat.le_refl _) _
  have s9 : w8.heap.size + 1 ≤ (w8.alloc (.cells #[.slice A8 L.length c8] 27)).heap.size := by simp
  have Q_Z : (w8.alloc (.cells #[.slice A8 L.length c8] 27)).cell? ⟨w8.heap.size, 0, none⟩ = some (.slice A8 L.length c8) := by simp [go_sem]
  replace R_W := Lib.hid (R_W.out.below b9 (by omega))
  replace R_G := Lib.hid (R_G.out.below b9 (by omega))
  replace R_Z := Lib.hid (R_Z.out.below b9 (by omega))
  replace Q_W := (b9.cell (p := ⟨w1.heap.size, 0, none⟩) (show w1.heap.size < w8.heap.size by omega)).trans Q_W
  replace Q_G := (b9.cell (p := ⟨w3.heap.size, 0, none⟩) (show w3.heap.size < w8.heap.size by omega)).trans Q_G
  replace HB := Lib.hid (HB.out.trans (b9.mono (by omega)))
  clear b9
  go_wp2_with fail
  generalize (w8.alloc (.cells #[.slice A8 L.length c8] 27)) = w9 at *
  refine (laws_eqPattern _ _ _ _ _ _ _ (R_Z.out.rd.more (by omega)) (R_W.out.rd.more (by omega)) hL.out hL.out).mono ?_
  rintro e w10 ⟨rfl, b10⟩
  have s10 := b10.size
  replace R_W := Lib.hid (R_W.out.below b10 (by omega))
  replace R_G := Lib.hid (R_G.out.below b10 (by omega))
  replace R_Z := Lib.hid (R_Z.out.below b10 (by omega))
  replace Q_W := (b10.cell (p := ⟨w1.heap.size, 0, none⟩) (show w1.heap.size < w9.heap.size by omega)).trans Q_W
  replace Q_G := (b10.cell (p := ⟨w3.heap.size, 0, none⟩) (show w3.heap.size < w9.heap.size by omega)).trans Q_G
  replace Q_Z := (b10.cell (p := ⟨w8.heap.size, 0, none⟩) (show w8.heap.size < w9.heap.size by omega)).trans Q_Z
  replace HB := Lib.hid (HB.out.trans (b10.mono (by omega)))
  clear b10
  clear R_Z
  clear Q_Z
  clear R_W
  clear Q_W
  go_wp2_with fail
  refine (laws_heldPattern _ _ _ _ _ (R_G.out.rd.more (by omega)) hL.out (by omega) (by omega)).mono ?_
  rintro e w11 ⟨rfl, b11⟩
  have s11 := b11.size
  replace R_G := Lib.hid (R_G.out.below b11 (by omega))
  replace Q_G := (b11.cell (p := ⟨w3.heap.size, 0, none⟩) (show w3.heap.size < w10.heap.size by omega)).trans Q_G
  replace HB := Lib.hid (HB.out.trans (b11.mono (by omega)))
  clear b11
  go_wp2_with fail
  go_ret
  exact ⟨rfl, HB.out⟩
theorem walk (w : World) (s : Int) (w_s : Fits s) (n : Int) (w_n : Fits n) :
    Calls Try.prog 4 #[.int .i64 s, .int .i64 n] w (RetB w true) := by
  exact core w s n w_s w_n

set_option maxRecDepth 100000 in
theorem lifted (os : Os) (started : os.Started) (H : Type) (enc : TypeId × Value → H) :
    ReturnsInHanded {} Try.checked os 4 .any (Rows.fnExactEvenPatternSpec.pre6 enc Try.prog Try.f4 Rows.fnExactEvenPatternRow.domain false) (Rows.fnExactEvenPatternSpec.post enc Try.prog Try.f4 false true false false) := by
  refine returnsInHanded_of_change (C := Try.checked) own started (by kernel_rfl) Try.func4
    (ChangeSpec.witness6 (enc := enc) (C := Try.checked) false ⟨#[], #[.int .i64 0, .int .i64 0], []⟩ 8 (by kernel_rfl) (by kernel_rfl) (by kernel_rfl) (by kernel_rfl)) ?_
  intro W base args ds gs before hval0 hW hcnd _
  have hval : ∀ (j : Nat) t v, Try.f4.params[j]? = some t → args[j]? = some v → Value.okWide Try.prog W .any base t v := hval0
  have hW' := hW
  obtain ⟨p, q, hA0, hV, rfl, hfz, hnd⟩ := hW
  have hA : DataW.TrodAll enc Try.prog W 0 (fun _ => true) true Try.f4.params.toList args.toList ds p := hA0
  rw [Try.params4] at hA hval
  obtain ⟨v0, vs0, d0, ds0, p0, q0, hargs, rfl, rfl, h0, r0⟩ := trodAll_cons hA
  obtain ⟨v1, vs1, d1, ds1, p1, q1, rfl, rfl, rfl, h1, r1⟩ := trodAll_cons r0
  obtain ⟨rfl, rfl, rfl⟩ := trodAll_nil r1
  obtain rfl : args = #[v0, v1] := by cases args; simp_all
  obtain ⟨rfl, rfl⟩ := trodVars_none hV
  obtain ⟨s, rfl, rfl, rfl, wf_s⟩ := open_int Try.underlying3 (hval 0 3 v0 rfl rfl) h0
  have w_s : Fits s := bounds_i64 wf_s
  obtain ⟨n, rfl, rfl, rfl, wf_n⟩ := open_int Try.underlying3 (hval 1 3 v1 rfl rfl) h1
  have w_n : Fits n := bounds_i64 wf_n
  clear hA0 hval0
  refine (walk W s w_s n w_n).mono fun e W' hwk => ?_
  obtain ⟨he, bel⟩ := hwk
  subst he
  exact ⟨_, rfl, _, _, _, [], _, [], hW', trodAll_mk1 (shut_bool Try.underlying4 _), (trodAll_cons_mk (shut_int Try.underlying3 wf_s) (trodAll_cons_mk (shut_int Try.underlying3 wf_n) trodAll_mk0)), rfl, bel.frame _, fun h => by cases h⟩

theorem over : Rows.fnExactEvenPatternRow.holds Try.pinned (OpenSpec.ofChange Rows.fnExactEvenPatternSpec) :=
  OpenClaim.holds_of_wide 4 Try.f4 rfl rfl rfl rfl rfl rfl rfl ⟨rfl, rfl, rfl, rfl, rfl⟩ rfl rfl rfl rfl rfl (by kernel_rfl) Try.func4 (by kernel_rfl)
    (of_decide_eq_true (by kernel_rfl)) (by unfold Func.isWrapper; first | (rw [if_pos (by decide +kernel)]; kernel_rfl) | (rw [if_neg (by decide +kernel)]; exact ⟨rfl, rfl⟩))
    (fun os started H enc _ => lifted os started H enc)

/-- The statement. -/
theorem proved : Rows.FnExactEvenPatternSaid := over
#print axioms proved
end Go.Proofs.Ytjabgfhjkjinoaa.fnExactEvenPattern
