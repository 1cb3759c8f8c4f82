/-
  FnKeySpeed returns true for every input and leaves its argument as it was. No condition.
-/
import Derived.Test.YtijbciiocmdmmaaSnd
import Derived.Test.YtijbciiocmdmmaaDraw
import Derived.Test.YtijbciiocmdmmaaAlive
import Derived.Test.YtijbciiocmdmmaaFrame
namespace Go.Proofs.Ytijbciiocmdmmaa.fnKeySpeed
open Go.ChangeShapes Go.WideShapes Go.ChangeAt Go.RowKit
open Go.ChangeMaps (open_string shut_string)
set_option linter.unusedVariables false

theorem speed_ok : ∀ k : Nat, k < 108 → 0 < speedL k ∧ (k = 107 ∨ speedL k < speedL ((k : Int) + 1)) ∧ (speedL ((k : Int) + 12) < 0 ∨ speedL ((k : Int) + 12) = 2 * speedL k ∨ speedL ((k : Int) + 12) = 2 * speedL k + 1) ∧ speedL k ≤ 1000000 ∧ speedL ((k : Int) + 12) ≤ 1000000 := by decide
set_option maxHeartbeats 1000000 in
theorem walk (w : World) (A_z : Option Addr) (c_z : Nat) (z : List Int) (r_z : RdY w w.heap.size A_z z) (f_z : WfY z) (k_z : z.length ≤ c_z) (m_z : z.length ≤ maxLen) :
    Calls Try.prog 3 #[.slice A_z z.length c_z] w (RetB w true) := by
  by_cases hbig : z.length ≤ 1048576
  case neg =>
    unfold maxLen at m_z
    clear r_z
    go_enter Try.func3, Try.ntmps3
    go_wp2
    go_ret
    exact ⟨rfl, Below.refl _ _⟩
  have hi1 : (z.length : Int) ≤ 1048576 := by omega
  go_enter Try.func3, Try.ntmps3
  go_wp2_with fail
  refine (spec_DrawKeySpeed A_z c_z z w r_z f_z hbig k_z).mono ?_
  rintro e w1 ⟨v, rfl, hv0, hv1, b1⟩
  have HB1 := Lib.hid b1; clear b1 r_z f_z
  cases hin : inR v 0 107
  · have hs := Lib.hid (speedL_no hin)
    have hv : v < 0 ∨ 107 < v := by
      rcases Int.lt_or_le v 0 with h | h
      · exact .inl h
      · rcases Int.lt_or_le 107 v with h2 | h2
        · exact .inr h2
        · exact absurd (inR_iff.2 ⟨h, h2⟩) (by rw [hin]; decide)
    go_wp2_with fail
    refine (impl_KeySpeed _ _).mono ?_; rw [hs.out]; rintro e w2 ⟨rfl, b2⟩
    have HB2 := Lib.hid (HB1.out.trans (b2.mono HB1.out.size)); clear b2
    go_wp2_with fail
    refine (spec_KeySpeed _ _).mono ?_; rw [hs.out]; rintro e w3 ⟨rfl, b3⟩
    have HB3 := Lib.hid (HB2.out.trans (b3.mono HB2.out.size)); clear b3
    rcases hv with hv | hv
    all_goals
      go_wp2_with fail
      refine (laws_alive _).mono ?_; rintro e w4 ⟨rfl, b4⟩
      have HB4 := Lib.hid (HB3.out.trans (b4.mono HB3.out.size)); clear b4
      go_wp2_with fail
      go_ret
      exact ⟨rfl, HB4.out⟩
  · have hv := inR_iff.1 hin
    obtain ⟨k, rfl⟩ : ∃ k : Nat, v = (k : Int) := ⟨v.toNat, by omega⟩
    obtain ⟨s1, s2, s3, s4, s5⟩ := speed_ok k (by omega)
    generalize hn : speedL k = n at *
    generalize hu : speedL ((k : Int) + 12) = u at *
    generalize hx : speedL ((k : Int) + 1) = x at *
    have HN := Lib.hid hn; have HU := Lib.hid hu; have HX := Lib.hid hx; clear hn hu hx
    have hn0 : (decide (n < 0)) = false := decide_eq_false (by omega)
    go_wp2_with fail
    refine (impl_KeySpeed _ _).mono ?_; rw [HN.out]; rintro e w2 ⟨rfl, b2⟩
    have HB2 := Lib.hid (HB1.out.trans (b2.mono HB1.out.size)); clear b2
    go_wp2_with fail
    refine (spec_KeySpeed _ _).mono ?_; rw [HN.out]; rintro e w3 ⟨rfl, b3⟩
    have HB3 := Lib.hid (HB2.out.trans (b3.mono HB2.out.size)); clear b3
    go_wp2_with fail
    refine (impl_KeySpeed _ _).mono ?_; rw [HU.out]; rintro e w4 ⟨rfl, b4⟩
    have HB4 := Lib.hid (HB3.out.trans (b4.mono HB3.out.size)); clear b4
    have t1 : (decide (0 < n)) = true := decide_eq_true s1
    have hu3 : (decide (u < 0)) = true ∨ ((decide (u < 0)) = false ∧ (u == 2 * n) = true) ∨ ((decide (u < 0)) = false ∧ (u == 2 * n) = false ∧ (u == 2 * n + 1) = true) := by
      simp only [decide_eq_true_eq, decide_eq_false_iff_not, beq_iff_eq, beq_eq_false_iff_ne]; omega
    clear s3
    by_cases hk : k = 107
    · subst hk
      rcases hu3 with t3 | ⟨t3, t4⟩ | ⟨t3, t4, t5⟩
      all_goals
        go_wp2_with fail
        go_ret
        exact ⟨rfl, HB4.out⟩
    · have t2 : ((k : Int) == 107) = false := by simp; omega
      have s2' : n < x := by omega
      have t6 : (decide (n < x)) = true := decide_eq_true s2'
      rcases hu3 with t3 | ⟨t3, t4⟩ | ⟨t3, t4, t5⟩
      all_goals
        go_wp2_with fail
        refine (impl_KeySpeed _ _).mono ?_; rw [HX.out]; rintro e w5 ⟨rfl, b5⟩
        have HB5 := Lib.hid (HB4.out.trans (b5.mono HB4.out.size)); clear b5
        go_wp2_with fail
        go_ret
        exact ⟨rfl, HB5.out⟩

set_option maxRecDepth 100000 in
theorem lifted (os : Os) (started : os.Started) (H : Type) (enc : TypeId × Value → H) :
    ReturnsInHanded {} Try.checked os 3 .any (Rows.fnKeySpeedSpec.pre6 enc Try.prog Try.f3 Rows.fnKeySpeedRow.domain false) (Rows.fnKeySpeedSpec.post enc Try.prog Try.f3 false true false false) := by
  refine returnsInHanded_of_change (C := Try.checked) own started (by kernel_rfl) Try.func3
    (ChangeSpec.witness6 (enc := enc) (C := Try.checked) false ⟨#[], #[.slice none 0 0], []⟩ 8 (by kernel_rfl) (by kernel_rfl) (by kernel_rfl) (by kernel_rfl)) ?_
  intro W base args ds gs before hval0 hW hcnd _
  have hval : ∀ (j : Nat) t v, Try.f3.params[j]? = some t → args[j]? = some v → Value.okWide Try.prog W .any base t v := hval0
  have hW' := hW
  obtain ⟨p, q, hA0, hV, rfl, hfz, hnd⟩ := hW
  have hA : DataW.TrodAll enc Try.prog W 0 (fun _ => true) true Try.f3.params.toList args.toList ds p := hA0
  rw [Try.params3] at hA hval
  obtain ⟨v0, vs0, d0, ds0, p0, q0, hargs, rfl, rfl, h0, r0⟩ := trodAll_cons hA
  obtain ⟨rfl, rfl, rfl⟩ := trodAll_nil r0
  obtain rfl : args = #[v0] := by cases args; simp_all
  obtain ⟨rfl, rfl⟩ := trodVars_none hV
  obtain ⟨A_z, l_z, c_z, rfl⟩ := okWide_slice Try.underlying22 (hval 0 22 v0 rfl rfl)
  have k0 := h0
  have lt0 : ∀ x ∈ p0, x.block < W.heap.size := by obtain ⟨m, hm⟩ := k0; exact DataW.trod_lt m _ _ _ hm
  obtain ⟨z, rfl, r_z, f_z, k_z, m_z⟩ : ∃ X : List Int, X.length = l_z ∧ RdY W W.heap.size A_z X ∧ WfY X ∧ l_z ≤ c_z ∧ l_z ≤ maxLen := by
    obtain ⟨fuel, hf⟩ := h0
    exact open_bytes_rd Try.underlying22 Try.underlying5 (by kernel_rfl) hf
  clear hA0 hval0
  refine (walk W A_z c_z z r_z f_z k_z m_z).mono fun e W' hwk => ?_
  obtain ⟨he, bel⟩ := hwk
  subst he
  exact ⟨_, rfl, _, _, _, [], _, [], hW', trodAll_mk1 (shut_bool Try.underlying4 _), (trodAll_cons_mk (Below.trod laidOut (by kernel_rfl) (of_decide_eq_true (by kernel_rfl)) k0 bel lt0) trodAll_mk0), rfl, bel.frame _, fun h => by cases h⟩

theorem over : Rows.fnKeySpeedRow.holds Try.pinned (OpenSpec.ofChange Rows.fnKeySpeedSpec) :=
  OpenClaim.holds_of_wide 3 Try.f3 rfl rfl rfl rfl rfl rfl rfl ⟨rfl, rfl, rfl, rfl, rfl⟩ rfl rfl rfl rfl rfl (by kernel_rfl) Try.func3 (by kernel_rfl)
    (of_decide_eq_true (by kernel_rfl)) (by unfold Func.isWrapper; first | (rw [if_pos (by decide +kernel)]; kernel_rfl) | (rw [if_neg (by decide +kernel)]; exact ⟨rfl, rfl⟩))
    (fun os started H enc _ => lifted os started H enc)

/-- The statement. -/
theorem proved : Rows.FnKeySpeedSaid := over
#print axioms proved
end Go.Proofs.Ytijbciiocmdmmaa.fnKeySpeed
