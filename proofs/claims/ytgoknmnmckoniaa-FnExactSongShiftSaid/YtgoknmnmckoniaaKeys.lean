/- Contracts of PitchKey and SpellKey, of the program and of the reference. -/
import Derived.Test.YtgoknmnmckoniaaNte1
import Derived.Test.YtgoknmnmckoniaaQuaL
namespace Go.Proofs.Ytgoknmnmckoniaa
open Go.RowKit
set_option linter.unusedSimpArgs false
set_option linter.unusedVariables false
set_option maxRecDepth 100000
def pkB (a b c : Int) : Int := if pvB a b c = true then pkL (a, b, c) else -100
def natL (p : Int) : Int := 12 * (p / 7) + halfL (p % 7)
theorem half_cases {s : Int} (h0 : 0 ≤ s) (h1 : s ≤ 6) : (s = 0 ∧ halfL s = 0) ∨ (s = 1 ∧ halfL s = 2) ∨ (s = 2 ∧ halfL s = 4) ∨ (s = 3 ∧ halfL s = 5) ∨ (s = 4 ∧ halfL s = 7) ∨ (s = 5 ∧ halfL s = 9) ∨ (s = 6 ∧ halfL s = 11) := by
  have h : s = 0 ∨ s = 1 ∨ s = 2 ∨ s = 3 ∨ s = 4 ∨ s = 5 ∨ s = 6 := by omega
  rcases h with rfl | rfl | rfl | rfl | rfl | rfl | rfl <;> simp [halfL]
theorem sp_of {k s a o : Int} (hs0 : 0 ≤ s) (hs1 : s ≤ 6) (ho : 12 * o + halfL s + a = k) (ha : a = 0 ∨ a = 1 ∧ (∀ q : Int, 0 ≤ q → q ≤ 6 → halfL q ≠ k % 12) ∧ s ≤ 5) : spL k = (s, a, o) := by
  have hh := half_cases hs0 hs1
  have hr : halfL s + a < 12 := by omega
  have hkd : k / 12 = o := by omega
  have hkm : k % 12 = halfL s + a := by omega
  have hst : stL k = s ∧ alL k = a := by
    rcases ha with rfl | ⟨rfl, hq, h5⟩
    · unfold stL alL; rw [hkm]
      rcases hh with ⟨rfl, e⟩ | ⟨rfl, e⟩ | ⟨rfl, e⟩ | ⟨rfl, e⟩ | ⟨rfl, e⟩ | ⟨rfl, e⟩ | ⟨rfl, e⟩ <;> rw [e] <;> decide
    · unfold stL alL; rw [hkm]
      
      rcases hh with ⟨rfl, e⟩ | ⟨rfl, e⟩ | ⟨rfl, e⟩ | ⟨rfl, e⟩ | ⟨rfl, e⟩ | ⟨rfl, e⟩ | ⟨rfl, e⟩ <;> rw [e] <;> first | decide | (exfalso; first | exact hq 3 (by omega) (by omega) (by rw [hkm, e]; decide) | omega)
  unfold spL; rw [hst.1, hst.2, hkd]
theorem sp_nat {p k : Int} (h0 : 0 ≤ p) (h : natL p = k) : spL k = (p % 7, 0, p / 7) := sp_of (by omega) (by omega) (by unfold natL at h; omega) (.inl rfl)
theorem sp_nat1 {p k : Int} (h0 : 0 ≤ p) (h1 : p ≤ 62) (hk0 : 0 ≤ k) (hk1 : k ≤ 107) (hn : ∀ q : Int, 0 ≤ q → q ≤ 62 → natL q ≠ k) (h : k - natL p = 1) : spL k = (p % 7, 1, p / 7) := by
  have hh := half_cases (s := p % 7) (by omega) (by omega)
  refine sp_of (by omega) (by omega) (by unfold natL at h; omega) (.inr ⟨rfl, fun q q0 q1 e => ?_, ?_⟩)
  · refine hn (7 * (k / 12) + q) (by omega) (by omega) ?_
    unfold natL
    have e1 : (7 * (k / 12) + q) / 7 = k / 12 := by omega
    have e2 : (7 * (k / 12) + q) % 7 = q := by omega
    rw [e1, e2]; omega
  · by_cases h6 : p % 7 = 6
    · exfalso
      have e : halfL (p % 7) = 11 := by rw [h6]; decide
      refine hn (7 * (k / 12)) (by omega) (by omega) ?_
      unfold natL at h ⊢
      have e1 : (7 * (k / 12)) / 7 = k / 12 := by omega
      have e2 : (7 * (k / 12)) % 7 = 0 := by omega
      have e3 : halfL 0 = 0 := by decide
      rw [e1, e2, e3]; omega
    · omega
/-- one of the two searches finds a place -/
theorem sp_some {k : Int} (hk0 : 0 ≤ k) (hk1 : k ≤ 107) (hn : ∀ q : Int, 0 ≤ q → q ≤ 62 → natL q ≠ k) : ∃ q : Int, 0 ≤ q ∧ q ≤ 62 ∧ k - natL q = 1 := by
  have h := sp_ok hk0 hk1
  have hp := pvB_iff.1 h.2
  have ha : alL k = 0 ∨ alL k = 1 := by
    have h12 : (k % 12).toNat < 12 := by omega
    unfold alL
    generalize (k % 12).toNat = m at h12
    have : m = 0 ∨ m = 1 ∨ m = 2 ∨ m = 3 ∨ m = 4 ∨ m = 5 ∨ m = 6 ∨ m = 7 ∨ m = 8 ∨ m = 9 ∨ m = 10 ∨ m = 11 := by omega
    rcases this with rfl | rfl | rfl | rfl | rfl | rfl | rfl | rfl | rfl | rfl | rfl | rfl <;> decide
  have hh := half_cases hp.1.1 hp.1.2
  have e1 : (7 * (k / 12) + stL k) / 7 = k / 12 := by omega
  have e2 : (7 * (k / 12) + stL k) % 7 = stL k := by omega
  have h1 : 12 * (k / 12) + halfL (stL k) + alL k = k := h.1
  have hnq := hn (7 * (k / 12) + stL k) (by omega) (by omega)
  have hnat : natL (7 * (k / 12) + stL k) = 12 * (k / 12) + halfL (stL k) := by unfold natL; rw [e1, e2]
  exact ⟨7 * (k / 12) + stL k, by omega, by omega, by omega⟩
theorem impl_stepHalves (s : Int) (w : World) (h0 : 0 ≤ s) (h1 : s ≤ 6) : Calls Try.prog 73 #[.int .i64 s] w fun e w' => e = .returned (.int .i64 (halfL s)) ∧ w = w' := by
  have hix : ∀ w : World, (Instr.index 101 (.agg #[.int .i64 0, .int .i64 2, .int .i64 4, .int .i64 5, .int .i64 7, .int .i64 9, .int .i64 11]) (.int .i64 s)).run Try.prog w = .ok (.int .i64 (halfL s)) w := by
    intro w
    rcases half_cases h0 h1 with ⟨rfl, e⟩ | ⟨rfl, e⟩ | ⟨rfl, e⟩ | ⟨rfl, e⟩ | ⟨rfl, e⟩ | ⟨rfl, e⟩ | ⟨rfl, e⟩ <;> rw [e] <;> kernel_rfl
  go_enter Try.func73, Try.ntmps73
  go_wp2
  go_ret
  exact ⟨rfl, rfl⟩
theorem spec_l1Natural (p : Int) (w : World) (h0 : 0 ≤ p) (h1 : p ≤ 62) : Calls Try.prog 47 #[.int .i64 p] w (RetI w (natL p)) := by
  have HF := Lib.hid (show natL p = 12 * (p / 7) + halfL (p % 7) from rfl)
  have hd : p.tdiv 7 = p / 7 := Int.tdiv_eq_ediv_of_nonneg h0
  have hm : p.tmod 7 = p % 7 := Int.tmod_eq_emod_of_nonneg h0
  have hp : decide (p < 0) = false := decide_eq_false (by omega)
  have hq : 0 ≤ p / 7 ∧ p / 7 ≤ 8 := by omega
  have h : p % 7 = 0 ∨ p % 7 = 1 ∨ p % 7 = 2 ∨ p % 7 = 3 ∨ p % 7 = 4 ∨ p % 7 = 5 ∨ p % 7 = 6 := by omega
  have hbl := Blk.new w 3 #[.int .i64 0, .int .i64 2, .int .i64 4, .int .i64 5, .int .i64 7, .int .i64 9, .int .i64 11]
  have hrt : (p % 7).toNat < 7 := by omega
  have hcell : (w.alloc (.cells #[.int .i64 0, .int .i64 2, .int .i64 4, .int .i64 5, .int .i64 7, .int .i64 9, .int .i64 11] 3)).cell? ⟨w.heap.size, (p % 7).toNat, none⟩ = some (.int .i64 (halfL (p % 7))) := by
    rw [hbl.cell]
    rcases half_cases (s := p % 7) (by omega) (by omega) with ⟨e1, e⟩ | ⟨e1, e⟩ | ⟨e1, e⟩ | ⟨e1, e⟩ | ⟨e1, e⟩ | ⟨e1, e⟩ | ⟨e1, e⟩ <;> rw [e, e1] <;> rfl
  have hb := Lib.hid ((Below.refl w.heap.size w).alloc (Nat.le_refl _) (.cells #[.int .i64 0, .int .i64 2, .int .i64 4, .int .i64 5, .int .i64 7, .int .i64 9, .int .i64 11] 3))
  have hlt : p % 7 < 7 := by omega
  have hge : 0 ≤ p % 7 := by omega
  have hh : 0 ≤ halfL (p % 7) ∧ halfL (p % 7) ≤ 11 := by have := half_cases (s := p % 7) (by omega) (by omega); omega
  clear hbl h
  go_enter Try.func47, Try.ntmps47
  go_wp2_with fail
  go_loopw [0, 4] (fun v u wr => v = .int .i64 p ∧ u = .int .i64 0 ∧ wr = w.alloc (.cells #[.int .i64 0, .int .i64 2, .int .i64 4, .int .i64 5, .int .i64 7, .int .i64 9, .int .i64 11] 3)) (fun _ _ _ => 0)
  case atStart => exact ⟨rfl, rfl, rfl⟩
  case round =>
    obtain ⟨rfl, rfl, rfl⟩ := hrel
    go_wp2_with fail
    go_ret
    exact ⟨ret_int HF.out.symm, hb.out⟩
theorem impl_PitchKey (a b c : Int) (w : World) : Calls Try.prog 61 #[.agg #[.int .i64 a, .int .i64 b, .int .i64 c]] w (RetI w (pkB a b c)) := by
  cases hv : pvB a b c
  · have HF : Hid (pkB a b c = -100) := by unfold Hid pkB; rw [hv]; rfl
    have HV := Lib.hid hv; clear hv
    go_enter Try.func61, Try.ntmps61
    go_wp2_with fail
    refine (impl_PitchValid a b c _).mono ?_
    rw [HV.out]
    rintro e w1 ⟨rfl, b1⟩
    have HB := Lib.hid b1; clear b1
    go_wp2_with fail
    go_ret
    exact ⟨ret_int HF.out.symm, ((Below.refl _ _).alloc (Nat.le_refl _) _).trans (HB.out.mono (by simp))⟩
  · have HF : Hid (pkB a b c = 12 * c + halfL a + b) := by unfold Hid pkB; rw [hv]; rfl
    have hp := pvB_iff.1 hv
    have hh : halfL a = 0 ∨ halfL a = 2 ∨ halfL a = 4 ∨ halfL a = 5 ∨ halfL a = 7 ∨ halfL a = 9 ∨ halfL a = 11 := by have := half_cases hp.1.1 hp.1.2; omega
    have hh0 : 0 ≤ halfL a ∧ halfL a ≤ 11 := by omega
    have hpc := hp.2.2; have hpb := hp.2.1; have hpa := hp.1
    have v1 : IntKind.i64.wrap (12 * c) = 12 * c := IntWalk.i64_in _ (by omega)
    have v2 : IntKind.i64.wrap (12 * c + halfL a) = 12 * c + halfL a := IntWalk.i64_in _ (by omega)
    have v3 : IntKind.i64.wrap (12 * c + halfL a + b) = 12 * c + halfL a + b := IntWalk.i64_in _ (by omega)
    clear hh hp
    have HV := Lib.hid hv; clear hv
    go_enter Try.func61, Try.ntmps61
    go_wp2_with fail
    refine (impl_PitchValid a b c _).mono ?_
    rw [HV.out]
    rintro e w1 ⟨rfl, b1⟩
    have d0 : w1.cell? ⟨w.heap.size, 0, none⟩ = some (.int .i64 a) := (b1.cell (by simp)).trans (by simp [go_sem])
    have d1 : w1.cell? ⟨w.heap.size, 1, none⟩ = some (.int .i64 b) := (b1.cell (by simp)).trans (by simp [go_sem])
    have d2 : w1.cell? ⟨w.heap.size, 2, none⟩ = some (.int .i64 c) := (b1.cell (by simp)).trans (by simp [go_sem])
    have HB := Lib.hid (((Below.refl w.heap.size w).alloc (Nat.le_refl _) _).trans (b1.mono (by simp))); clear b1
    go_wp2_with fail
    go_region_held3 (fun w' => w'.cell? ⟨w.heap.size, 0, none⟩ = some (.int .i64 a) ∧ w'.cell? ⟨w.heap.size, 1, none⟩ = some (.int .i64 b) ∧ w'.cell? ⟨w.heap.size, 2, none⟩ = some (.int .i64 c)) (first | exact ⟨d0, d1, d2⟩) (first | (go_at_call 73; refine (impl_stepHalves a _ (by omega) (by omega)).mono ?_; rintro e w' ⟨rfl, rfl⟩))
    go_wp2
    go_ret
    exact ⟨ret_int HF.out.symm, HB.out.drew⟩
theorem spec_PitchKey (a b c : Int) (w : World) : Calls Try.prog 46 #[.agg #[.int .i64 a, .int .i64 b, .int .i64 c]] w (RetI w (pkB a b c)) := by
  cases hv : pvB a b c
  · have HF : Hid (pkB a b c = -100) := by unfold Hid pkB; rw [hv]; rfl
    have HV := Lib.hid hv; clear hv
    go_enter Try.func46, Try.ntmps46
    go_wp2_with fail
    refine (spec_PitchValid a b c _).mono ?_
    rw [HV.out]
    rintro e w1 ⟨rfl, b1⟩
    have HB := Lib.hid b1; clear b1
    go_wp2_with fail
    go_ret
    exact ⟨ret_int HF.out.symm, ((Below.refl _ _).alloc (Nat.le_refl _) _).trans (HB.out.mono (by simp))⟩
  · have HF : Hid (pkB a b c = 12 * c + halfL a + b) := by unfold Hid pkB; rw [hv]; rfl
    have hp := pvB_iff.1 hv
    have hh : halfL a = 0 ∨ halfL a = 2 ∨ halfL a = 4 ∨ halfL a = 5 ∨ halfL a = 7 ∨ halfL a = 9 ∨ halfL a = 11 := by have := half_cases hp.1.1 hp.1.2; omega
    have hh0 : 0 ≤ halfL a ∧ halfL a ≤ 11 := by omega
    have hpc := hp.2.2; have hpb := hp.2.1; have hpa := hp.1
    have v1 : IntKind.i64.wrap (7 * c) = 7 * c := IntWalk.i64_in _ (by omega)
    have v2 : IntKind.i64.wrap (7 * c + a) = 7 * c + a := IntWalk.i64_in _ (by omega)
    have v3 : IntKind.i64.wrap (natL (7 * c + a) + b) = natL (7 * c + a) + b := IntWalk.i64_in _ (by unfold natL; rw [show (7 * c + a) / 7 = c by omega, show (7 * c + a) % 7 = a by omega]; omega)
    clear hh hp
    have HV := Lib.hid hv; clear hv
    go_enter Try.func46, Try.ntmps46
    go_wp2_with fail
    refine (spec_PitchValid a b c _).mono ?_
    rw [HV.out]
    rintro e w1 ⟨rfl, b1⟩
    have d0 : w1.cell? ⟨w.heap.size, 0, none⟩ = some (.int .i64 a) := (b1.cell (by simp)).trans (by simp [go_sem])
    have d1 : w1.cell? ⟨w.heap.size, 1, none⟩ = some (.int .i64 b) := (b1.cell (by simp)).trans (by simp [go_sem])
    have d2 : w1.cell? ⟨w.heap.size, 2, none⟩ = some (.int .i64 c) := (b1.cell (by simp)).trans (by simp [go_sem])
    have HB := Lib.hid (((Below.refl w.heap.size w).alloc (Nat.le_refl _) _).trans (b1.mono (by simp)))
    have hz : w.heap.size < w1.heap.size := by have := b1.size; simp at this; omega
    have hz' : w.heap.size ≤ w1.heap.size := by omega
    have HN : Hid (natL (7 * c + a) = 12 * c + halfL a) := Lib.hid (by unfold natL; rw [show (7 * c + a) / 7 = c by omega, show (7 * c + a) % 7 = a by omega])
    clear b1
    go_wp2_with fail
    go_region_held3 (fun w' => w'.cell? ⟨w.heap.size, 0, none⟩ = some (.int .i64 a) ∧ w'.cell? ⟨w.heap.size, 1, none⟩ = some (.int .i64 b) ∧ w'.cell? ⟨w.heap.size, 2, none⟩ = some (.int .i64 c)) (first | exact ⟨d0, d1, d2⟩ | exact ⟨d0', d1', d2'⟩) (first | (go_at_call 47; refine (spec_l1Natural (7 * c + a) _ (by omega) (by omega)).mono ?_; rintro e w2 ⟨rfl, b2⟩; have d0' := (b2.cell (p := ⟨w.heap.size, 0, none⟩) (show _ < w1.heap.size from hz)).trans d0; have d1' := (b2.cell (p := ⟨w.heap.size, 1, none⟩) (show _ < w1.heap.size from hz)).trans d1; have d2' := (b2.cell (p := ⟨w.heap.size, 2, none⟩) (show _ < w1.heap.size from hz)).trans d2; replace HB := Lib.hid (HB.out.drew.trans (b2.mono hz'))))
    go_wp2
    go_ret
    exact ⟨ret_int (by rw [HF.out, HN.out]), HB.out⟩
def RetSp (w : World) (k : Int) (e : Ending) (w' : World) : Prop := e = .returned (.tuple #[if inR k 0 107 = true then .agg #[.int .i64 (spL k).1, .int .i64 (spL k).2.1, .int .i64 (spL k).2.2] else .agg #[.int .i64 0, .int .i64 0, .int .i64 0], .bool (inR k 0 107)]) ∧ Below w.heap.size w w'
theorem sp_half {k : Int} (hk0 : 0 ≤ k) (hk1 : k ≤ 107) (hn : ∀ q : Int, 0 ≤ q → q ≤ 6 → halfL q ≠ k % 12) : ∃ q : Int, 0 ≤ q ∧ q ≤ 6 ∧ halfL q + 1 = k % 12 := by
  have h := sp_ok hk0 hk1
  have hp := pvB_iff.1 h.2
  obtain ⟨q, h0, h1, h2⟩ := sp_some hk0 hk1 (fun q q0 q1 e => hn (q % 7) (by omega) (by omega) (by have hh := half_cases (s := q % 7) (by omega) (by omega); unfold natL at e; omega))
  have hh := half_cases (s := q % 7) (by omega) (by omega)
  unfold natL at h2
  by_cases h6 : q % 7 = 6
  · exfalso
    have e : halfL (q % 7) = 11 := by rw [h6]; decide
    exact hn 0 (by omega) (by omega) (by rw [show halfL 0 = 0 by decide]; omega)
  · exact ⟨q % 7, by omega, by omega, by omega⟩
end Go.Proofs.Ytgoknmnmckoniaa
