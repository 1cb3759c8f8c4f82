/- Contracts of PitchKey and SpellKey, of the program and of the reference. -/
import Derived.Test.YtgnbnedjocolcaaNte1
import Derived.Test.YtgnbnedjocolcaaQuaL
namespace Go.Proofs.Ytgnbnedjocolcaa
open Go.RowKit
set_option linter.unusedSimpArgs false
set_option linter.unusedVariables false
set_option maxRecDepth 100000
def pkB (a b c : Int) : Int := if pvB a b c = true then pkL (a, b, c) else -100
def natL (p : Int) : Int := 12 * (p / 7) + halfL (p % 7)
theorem half_cases {s : Int} (h0 : 0 ≤ s) (h1 : s ≤ 6) : (s = 0 ∧ halfL s = 0) ∨ (s = 1 ∧ halfL s = 2) ∨ (s = 2 ∧ halfL s = 4) ∨ (s = 3 ∧ halfL s = 5) ∨ (s = 4 ∧ halfL s = 7) ∨ (s = 5 ∧ halfL s = 9) ∨ (s = 6 ∧ halfL s = 11) := by
  have h : s = 0 ∨ s = 1 ∨ s = 2 ∨ s = 3 ∨ s = 4 ∨ s = 5 ∨ s = 6 := by omega
  rcases h with rfl | rfl | rfl | rfl | rfl | rfl | rfl <;> simp [halfL]
theorem sp_of {k s a o : Int} (hs0 : 0 ≤ s) (hs1 : s ≤ 6) (ho : 12 * o + halfL s + a = k) (ha : a = 0 ∨ a = 1 ∧ (∀ q : Int, 0 ≤ q → q ≤ 6 → halfL q ≠ k % 12) ∧ s ≤ 5) : spL k = (s, a, o) := by
  have hh := half_cases hs0 hs1
  have hr : halfL s + a < 12 := by omega
  have hkd : k / 12 = o := by omega
  have hkm : k % 12 = halfL s + a := by omega
  have hst : stL k = s ∧ alL k = a := by
    rcases ha with rfl | ⟨rfl, hq, h5⟩
    · unfold stL alL; rw [hkm]
      rcases hh with ⟨rfl, e⟩ | ⟨rfl, e⟩ | ⟨rfl, e⟩ | ⟨rfl, e⟩ | ⟨rfl, e⟩ | ⟨rfl, e⟩ | ⟨rfl, e⟩ <;> rw [e] <;> decide
    · unfold stL alL; rw [hkm]
      
      rcases hh with ⟨rfl, e⟩ | ⟨rfl, e⟩ | ⟨rfl, e⟩ | ⟨rfl, e⟩ | ⟨rfl, e⟩ | ⟨rfl, e⟩ | ⟨rfl, e⟩ <;> rw [e] <;> first | decide | (exfalso; first | exact hq 3 (by omega) (by omega) (by rw [hkm, e]; decide) | omega)
  unfold spL; rw [hst.1, hst.2, hkd]
theorem sp_nat {p k : Int} (h0 : 0 ≤ p) (h : natL p = k) : spL k = (p % 7, 0, p / 7) := sp_of (by omega) (by omega) (by unfold natL at h; omega) (.inl rfl)
theorem sp_nat1 {p k : Int} (h0 : 0 ≤ p) (h1 : p ≤ 62) (hk0 : 0 ≤ k) (hk1 : k ≤ 107) (hn : ∀ q : Int, 0 ≤ q → q ≤ 62 → natL q ≠ k) (h : k - natL p = 1) : spL k = (p % 7, 1, p / 7) := by
  have hh := half_cases (s := p % 7) (by omega) (by omega)
  refine sp_of (by omega) (by omega) (by unfold natL at h; omega) (.inr ⟨rfl, fun q q0 q1 e => ?_, ?_⟩)
  · refine hn (7 * (k / 12) + q) (by omega) (by omega) ?_
    unfold natL
    have e1 : (7 * (k / 12) + q) / 7 = k / 12 := by omega
    have e2 : (7 * (k / 12) + q) % 7 = q := by omega
    rw [e1, e2]; omega
  · by_cases h6 : p % 7 = 6
    · exfalso
      have e : halfL (p % 7) = 11 := by rw [h6]; decide
      refine hn (7 * (k / 12)) (by omega) (by omega) ?_
      unfold natL at h ⊢
      have e1 : (7 * (k / 12)) / 7 = k / 12 := by omega
      have e2 : (7 * (k / 12)) % 7 = 0 := by omega
      have e3 : halfL 0 = 0 := by decide
      rw [e1, e2, e3]; omega
    · omega
/-- one of the two searches finds a place -/
theorem sp_some {k : Int} (hk0 : 0 ≤ k) (hk1 : k ≤ 107) (hn : ∀ q : Int, 0 ≤ q → q ≤ 62 → natL q ≠ k) : ∃ q : Int, 0 ≤ q ∧ q ≤ 62 ∧ k - natL q = 1 := by
  have h := sp_ok hk0 hk1
  have hp := pvB_iff.1 h.2
  have ha : alL k = 0 ∨ alL k = 1 := by
    have h12 : (k % 12).toNat < 12 := by omega
    unfold alL
    generalize (k % 12).toNat = m at h12
    have : m = 0 ∨ m = 1 ∨ m = 2 ∨ m = 3 ∨ m = 4 ∨ m = 5 ∨ m = 6 ∨ m = 7 ∨ m = 8 ∨ m = 9 ∨ m = 10 ∨ m = 11 := by omega
    rcases this with rfl | rfl | rfl | rfl | rfl | rfl | rfl | rfl | rfl | rfl | rfl | rfl <;> decide
  have hh := half_cases hp.1.1 hp.1.2
  have e1 : (7 * (k / 12) + stL k) / 7 = k / 12 := by omega
  have e2 : (7 * (k / 12) + stL k) % 7 = stL k := by omega
  have h1 : 12 * (k / 12) + halfL (stL k) + alL k = k := h.1
  have hnq := hn (7 * (k / 12) + stL k) (by omega) (by omega)
  have hnat : natL (7 * (k / 12) + stL k) = 12 * (k / 12) + halfL (stL k) := by unfold natL; rw [e1, e2]
  exact ⟨7 * (k / 12) + stL k, by omega, by omega, by omega⟩
theorem impl_stepHalves (s : Int) (w : World) (h0 : 0 ≤ s) (h1 : s ≤ 6) : Calls Try.prog 53 #[.int .i64 s] w fun e w' => e = .returned (.int .i64 (halfL s)) ∧ w = w' := by
  have hix : ∀ w : World, (Instr.index 82 (.agg #[.int .i64 0, .int .i64 2, .int .i64 4, .int .i64 5, .int .i64 7, .int .i64 9, .int .i64 11]) (.int .i64 s)).run Try.prog w = .ok (.int .i64 (halfL s)) w := by
    intro w
    rcases half_cases h0 h1 with ⟨rfl, e⟩ | ⟨rfl, e⟩ | ⟨rfl, e⟩ | ⟨rfl, e⟩ | ⟨rfl, e⟩ | ⟨rfl, e⟩ | ⟨rfl, e⟩ <;> rw [e] <;> kernel_rfl
  go_enter Try.func53, Try.ntmps53
  go_wp2
  go_ret
  exact ⟨rfl, rfl⟩
theorem spec_l1Natural (p : Int) (w : World) (h0 : 0 ≤ p) (h1 : p ≤ 62) : Calls Try.prog 60 #[.int .i64 p] w (RetI w (natL p)) := by
  have HF := Lib.hid (show natL p = 12 * (p / 7) + halfL (p % 7) from rfl)
  have hd : p.tdiv 7 = p / 7 := Int.tdiv_eq_ediv_of_nonneg h0
  have hm : p.tmod 7 = p % 7 := Int.tmod_eq_emod_of_nonneg h0
  have hp : decide (p < 0) = false := decide_eq_false (by omega)
  have hq : 0 ≤ p / 7 ∧ p / 7 ≤ 8 := by omega
  have h : p % 7 = 0 ∨ p % 7 = 1 ∨ p % 7 = 2 ∨ p % 7 = 3 ∨ p % 7 = 4 ∨ p % 7 = 5 ∨ p % 7 = 6 := by omega
  have hbl := Blk.new w 3 #[.int .i64 0, .int .i64 2, .int .i64 4, .int .i64 5, .int .i64 7, .int .i64 9, .int .i64 11]
  have hrt : (p % 7).toNat < 7 := by omega
  have hcell : (w.alloc (.cells #[.int .i64 0, .int .i64 2, .int .i64 4, .int .i64 5, .int .i64 7, .int .i64 9, .int .i64 11] 3)).cell? ⟨w.heap.size, (p % 7).toNat, none⟩ = some (.int .i64 (halfL (p % 7))) := by
    rw [hbl.cell]
    rcases half_cases (s := p % 7) (by omega) (by omega) with ⟨e1, e⟩ | ⟨e1, e⟩ | ⟨e1, e⟩ | ⟨e1, e⟩ | ⟨e1, e⟩ | ⟨e1, e⟩ | ⟨e1, e⟩ <;> rw [e, e1] <;> rfl
  have hb := Lib.hid ((Below.refl w.heap.size w).alloc (Nat.le_refl _) (.cells #[.int .i64 0, .int .i64 2, .int .i64 4, .int .i64 5, .int .i64 7, .int .i64 9, .int .i64 11] 3))
  have hlt : p % 7 < 7 := by omega
  have hge : 0 ≤ p % 7 := by omega
  have hh : 0 ≤ halfL (p % 7) ∧ halfL (p % 7) ≤ 11 := by have := half_cases (s := p % 7) (by omega) (by omega); omega
  clear hbl h
  go_enter Try.func60, Try.ntmps60
  go_wp2_with fail
  go_loopw [0, 4] (fun v u wr => v = .int .i64 p ∧ u = .int .i64 0 ∧ wr = w.alloc (.cells #[.int .i64 0, .int .i64 2, .int .i64 4, .int .i64 5, .int .i64 7, .int .i64 9, .int .i64 11] 3)) (fun _ _ _ => 0)
  case atStart => exact ⟨rfl, rfl, rfl⟩
  case round =>
    obtain ⟨rfl, rfl, rfl⟩ := hrel
    go_wp2_with fail
    go_ret
    exact ⟨ret_int HF.out.symm, hb.out⟩
theorem impl_PitchKey (a b c : Int) (w : World) : Calls Try.prog 31 #[.agg #[.int .i64 a, .int .i64 b, .int .i64 c]] w (RetI w (pkB a b c)) := by
  cases hv : pvB a b c
  · have HF : Hid (pkB a b c = -100) := by unfold Hid pkB; rw [hv]; rfl
    have HV := Lib.hid hv; clear hv
    go_enter Try.func31, Try.ntmps31
    go_wp2_with fail
    refine (impl_PitchValid a b c _).mono ?_
    rw [HV.out]
    rintro e w1 ⟨rfl, b1⟩
    have HB := Lib.hid b1; clear b1
    go_wp2_with fail
    go_ret
    exact ⟨ret_int HF.out.symm, ((Below.refl _ _).alloc (Nat.le_refl _) _).trans (HB.out.mono (by simp))⟩
  · have HF : Hid (pkB a b c = 12 * c + halfL a + b) := by unfold Hid pkB; rw [hv]; rfl
    have hp := pvB_iff.1 hv
    have hh : halfL a = 0 ∨ halfL a = 2 ∨ halfL a = 4 ∨ halfL a = 5 ∨ halfL a = 7 ∨ halfL a = 9 ∨ halfL a = 11 := by have := half_cases hp.1.1 hp.1.2; omega
    have hh0 : 0 ≤ halfL a ∧ halfL a ≤ 11 := by omega
    have hpc := hp.2.2; have hpb := hp.2.1; have hpa := hp.1
    have v1 : IntKind.i64.wrap (12 * c) = 12 * c := IntWalk.i64_in _ (by omega)
    have v2 : IntKind.i64.wrap (12 * c + halfL a) = 12 * c + halfL a := IntWalk.i64_in _ (by omega)
    have v3 : IntKind.i64.wrap (12 * c + halfL a + b) = 12 * c + halfL a + b := IntWalk.i64_in _ (by omega)
    clear hh hp
    have HV := Lib.hid hv; clear hv
    go_enter Try.func31, Try.ntmps31
    go_wp2_with fail
    refine (impl_PitchValid a b c _).mono ?_
    rw [HV.out]
    rintro e w1 ⟨rfl, b1⟩
    have d0 : w1.cell? ⟨w.heap.size, 0, none⟩ = some (.int .i64 a) := (b1.cell (by simp)).trans (by simp [go_sem])
    have d1 : w1.cell? ⟨w.heap.size, 1, none⟩ = some (.int .i64 b) := (b1.cell (by simp)).trans (by simp [go_sem])
    have d2 : w1.cell? ⟨w.heap.size, 2, none⟩ = some (.int .i64 c) := (b1.cell (by simp)).trans (by simp [go_sem])
    have HB := Lib.hid (((Below.refl w.heap.size w).alloc (Nat.le_refl _) _).trans (b1.mono (by simp))); clear b1
    go_wp2_with fail
    go_region_held3 (fun w' => w'.cell? ⟨w.heap.size, 0, none⟩ = some (.int .i64 a) ∧ w'.cell? ⟨w.heap.size, 1, none⟩ = some (.int .i64 b) ∧ w'.cell? ⟨w.heap.size, 2, none⟩ = some (.int .i64 c)) (first | exact ⟨d0, d1, d2⟩) (first | (go_at_call 53; refine (impl_stepHalves a _ (by omega) (by omega)).mono ?_; rintro e w' ⟨rfl, rfl⟩))
    go_wp2
    go_ret
    exact ⟨ret_int HF.out.symm, HB.out.drew⟩
theorem spec_PitchKey (a b c : Int) (w : World) : Calls Try.prog 44 #[.agg #[.int .i64 a, .int .i64 b, .int .i64 c]] w (RetI w (pkB a b c)) := by
  cases hv : pvB a b c
  · have HF : Hid (pkB a b c = -100) := by unfold Hid pkB; rw [hv]; rfl
    have HV := Lib.hid hv; clear hv
    go_enter Try.func44, Try.ntmps44
    go_wp2_with fail
    refine (spec_PitchValid a b c _).mono ?_
    rw [HV.out]
    rintro e w1 ⟨rfl, b1⟩
    have HB := Lib.hid b1; clear b1
    go_wp2_with fail
    go_ret
    exact ⟨ret_int HF.out.symm, ((Below.refl _ _).alloc (Nat.le_refl _) _).trans (HB.out.mono (by simp))⟩
  · have HF : Hid (pkB a b c = 12 * c + halfL a + b) := by unfold Hid pkB; rw [hv]; rfl
    have hp := pvB_iff.1 hv
    have hh : halfL a = 0 ∨ halfL a = 2 ∨ halfL a = 4 ∨ halfL a = 5 ∨ halfL a = 7 ∨ halfL a = 9 ∨ halfL a = 11 := by have := half_cases hp.1.1 hp.1.2; omega
    have hh0 : 0 ≤ halfL a ∧ halfL a ≤ 11 := by omega
    have hpc := hp.2.2; have hpb := hp.2.1; have hpa := hp.1
    have v1 : IntKind.i64.wrap (7 * c) = 7 * c := IntWalk.i64_in _ (by omega)
    have v2 : IntKind.i64.wrap (7 * c + a) = 7 * c + a := IntWalk.i64_in _ (by omega)
    have v3 : IntKind.i64.wrap (natL (7 * c + a) + b) = natL (7 * c + a) + b := IntWalk.i64_in _ (by unfold natL; rw [show (7 * c + a) / 7 = c by omega, show (7 * c + a) % 7 = a by omega]; omega)
    clear hh hp
    have HV := Lib.hid hv; clear hv
    go_enter Try.func44, Try.ntmps44
    go_wp2_with fail
    refine (spec_PitchValid a b c _).mono ?_
    rw [HV.out]
    rintro e w1 ⟨rfl, b1⟩
    have d0 : w1.cell? ⟨w.heap.size, 0, none⟩ = some (.int .i64 a) := (b1.cell (by simp)).trans (by simp [go_sem])
    have d1 : w1.cell? ⟨w.heap.size, 1, none⟩ = some (.int .i64 b) := (b1.cell (by simp)).trans (by simp [go_sem])
    have d2 : w1.cell? ⟨w.heap.size, 2, none⟩ = some (.int .i64 c) := (b1.cell (by simp)).trans (by simp [go_sem])
    have HB := Lib.hid (((Below.refl w.heap.size w).alloc (Nat.le_refl _) _).trans (b1.mono (by simp)))
    have hz : w.heap.size < w1.heap.size := by have := b1.size; simp at this; omega
    have hz' : w.heap.size ≤ w1.heap.size := by omega
    have HN : Hid (natL (7 * c + a) = 12 * c + halfL a) := Lib.hid (by unfold natL; rw [show (7 * c + a) / 7 = c by omega, show (7 * c + a) % 7 = a by omega])
    clear b1
    go_wp2_with fail
    go_region_held3 (fun w' => w'.cell? ⟨w.heap.size, 0, none⟩ = some (.int .i64 a) ∧ w'.cell? ⟨w.heap.size, 1, none⟩ = some (.int .i64 b) ∧ w'.cell? ⟨w.heap.size, 2, none⟩ = some (.int .i64 c)) (first | exact ⟨d0, d1, d2⟩ | exact ⟨d0', d1', d2'⟩) (first | (go_at_call 60; refine (spec_l1Natural (7 * c + a) _ (by omega) (by omega)).mono ?_; rintro e w2 ⟨rfl, b2⟩; have d0' := (b2.cell (p := ⟨w.heap.size, 0, none⟩) (show _ < w1.heap.size from hz)).trans d0; have d1' := (b2.cell (p := ⟨w.heap.size, 1, none⟩) (show _ < w1.heap.size from hz)).trans d1; have d2' := (b2.cell (p := ⟨w.heap.size, 2, none⟩) (show _ < w1.heap.size from hz)).trans d2; replace HB := Lib.hid (HB.out.drew.trans (b2.mono hz'))))
    go_wp2
    go_ret
    exact ⟨ret_int (by rw [HF.out, HN.out]), HB.out⟩
def RetSp (w : World) (k : Int) (e : Ending) (w' : World) : Prop := e = .returned (.tuple #[if inR k 0 107 = true then .agg #[.int .i64 (spL k).1, .int .i64 (spL k).2.1, .int .i64 (spL k).2.2] else .agg #[.int .i64 0, .int .i64 0, .int .i64 0], .bool (inR k 0 107)]) ∧ Below w.heap.size w w'
theorem sp_half {k : Int} (hk0 : 0 ≤ k) (hk1 : k ≤ 107) (hn : ∀ q : Int, 0 ≤ q → q ≤ 6 → halfL q ≠ k % 12) : ∃ q : Int, 0 ≤ q ∧ q ≤ 6 ∧ halfL q + 1 = k % 12 := by
  have h := sp_ok hk0 hk1
  have hp := pvB_iff.1 h.2
  obtain ⟨q, h0, h1, h2⟩ := sp_some hk0 hk1 (fun q q0 q1 e => hn (q % 7) (by omega) (by omega) (by have hh := half_cases (s := q % 7) (by omega) (by omega); unfold natL at e; omega))
  have hh := half_cases (s := q % 7) (by omega) (by omega)
  unfold natL at h2
  by_cases h6 : q % 7 = 6
  · exfalso
    have e : halfL (q % 7) = 11 := by rw [h6]; decide
    exact hn 0 (by omega) (by omega) (by rw [show halfL 0 = 0 by decide]; omega)
  · exact ⟨q % 7, by omega, by omega, by omega⟩
set_option maxHeartbeats 1000000 in
theorem impl_SpellKey (k : Int) (w : World) : Calls Try.prog 58 #[.int .i64 k, .bool false] w (RetSp w k) := by
  cases hk : inR k 0 107
  · have HF := Lib.hid hk; clear hk
    go_enter Try.func58, Try.ntmps58
    go_wp2_with (go_at_call 28; refine (impl_within _ _ _ _).mono ?_; rw [HF.out]; rintro e w' ⟨rfl, rfl⟩)
    refine bodyPost_ret (v := .tuple #[.agg #[.int .i64 0, .int .i64 0, .int .i64 0], .bool false]) (by simp [results, Try.results58, go_sem]) rfl ⟨?_, by (repeat (first | exact Below.refl _ _ | refine Below.alloc ?_ (by simp; try omega) _ | refine below_drewN ?_ _ | refine Below.drew ?_))⟩
    rw [HF.out]; rfl
  · have hk1 := inR_iff.1 hk
    have HF := Lib.hid hk; clear hk
    have hm : k.tmod 12 = k % 12 := Int.tmod_eq_emod_of_nonneg hk1.1
    have hd : k.tdiv 12 = k / 12 := Int.tdiv_eq_ediv_of_nonneg hk1.1
    have hb := Lib.hid ((Below.refl w.heap.size w).alloc (Nat.le_refl _) (.cells #[.int .i64 0, .int .i64 0, .int .i64 0] 54))
    have hbk := Lib.hid (Blk.new w 54 #[.int .i64 0, .int .i64 0, .int .i64 0])
    have hWs : (w.alloc (.cells #[.int .i64 0, .int .i64 0, .int .i64 0] 54)).heap.size = w.heap.size + 1 := by simp
    go_enter Try.func58, Try.ntmps58
    go_wp2_with (go_at_call 28; refine (impl_within _ _ _ _).mono ?_; rw [HF.out]; rintro e w' ⟨rfl, rfl⟩)
    generalize (w.alloc (.cells #[.int .i64 0, .int .i64 0, .int .i64 0] 54)) = W at *
    go_loopw [14] (fun v wr => ∃ j : Nat, j < 2 ∧ v = .int .i64 (j : Int) ∧ wr = W ∧ (0 < j → ∀ q : Int, 0 ≤ q → q ≤ 6 → halfL q ≠ k % 12)) (fun v _ => 2 - (intOf v).toNat)
    case atStart => exact ⟨0, by omega, rfl, rfl, fun h => by omega⟩
    case round =>
      obtain ⟨j, hj, rfl, rfl, hq⟩ := hrel
      have HQ := Lib.hid hq; clear hq
      have ix : ∀ W, (Instr.index 57 (.agg #[.int .i64 0, .int .i64 1]) (.int .i64 (j : Int))).run Try.prog W = .ok (.int .i64 (j : Int)) W := fun _ => by
        rcases (show j = 0 ∨ j = 1 by omega) with rfl | rfl <;> kernel_rfl
      have hj2 : (j : Int) < 2 := by omega
      go_wp2_with fail
      clear ix
      go_loopw [20] (fun v ws => ∃ s : Nat, s ≤ 7 ∧ v = .int .i64 (s : Int) ∧ ws = wr ∧ ∀ q : Int, 0 ≤ q → q < s → halfL q + j ≠ k % 12) (fun v _ => 7 - (intOf v).toNat)
      case atStart => exact ⟨0, by omega, rfl, rfl, fun q h0 h1 => by omega⟩
      case round =>
        obtain ⟨s, hs, rfl, rfl, hz⟩ := hrel
        have HZ := Lib.hid hz; clear hz
        by_cases h7 : s < 7
        · have h7' : (s : Int) < 7 := by omega
          have hh : 0 ≤ halfL s ∧ halfL s ≤ 11 := by have := half_cases (s := (s : Int)) (by omega) (by omega); omega
          have v1 : IntKind.i64.wrap (halfL s + j) = halfL s + j := IntWalk.i64_in _ (by omega)
          by_cases he : halfL s + j = k % 12
          · have e1 : (halfL s + j == k % 12) = true := beq_iff_eq.2 he
            have HS : Hid (spL k = ((s : Int), (j : Int), k / 12)) := Lib.hid (sp_of (by omega) (by omega) (by omega) (by
              rcases (show j = 0 ∨ j = 1 by omega) with rfl | rfl
              · exact .inl rfl
              · refine .inr ⟨rfl, HQ.out (by omega), ?_⟩
                by_cases h6 : s = 6
                · subst h6; exfalso; have : halfL ((6 : Nat) : Int) = 11 := by decide
                  omega
                · omega))
            clear he
            have c0 := hbk.out.cell 0; have c1 := hbk.out.cell 1; have c2 := hbk.out.cell 2
            have f0 := hbk.out.frozen 0; have f1 := hbk.out.frozen 1; have f2 := hbk.out.frozen 2
            have g0 := fun u0 => (hbk.out.set_ 0 u0).cell 0
            go_wp2_with (go_at_call 53; refine (impl_stepHalves s _ (by omega) (by omega)).mono ?_; rintro e w' ⟨rfl, rfl⟩)
            refine bodyPost_ret (v := .tuple #[.agg #[.int .i64 s, .int .i64 j, .int .i64 (k / 12)], .bool true]) (by simp [results, Try.results58, go_sem, c0, c1, c2]) rfl ⟨?_, ?_⟩
            · rw [HF.out, HS.out]; rfl
            · repeat (with_reducible refine Below.setCell ?_ (by simp; try omega) _)
              exact hb.out
          · have e1 : (halfL s + j == k % 12) = false := beq_eq_false_iff_ne.2 he
            have HE := Lib.hid he; clear he
            go_wp2_with (go_at_call 53; refine (impl_stepHalves s _ (by omega) (by omega)).mono ?_; rintro e w' ⟨rfl, rfl⟩)
            go_roundw
            case rel => exact ⟨s + 1, by omega, by go_num, by first | trivial | rfl, fun q q0 q1 => by
              by_cases hqs : q = s
              · rw [hqs]; exact HE.out
              · exact HZ.out q q0 (by omega)⟩
            case measure => simp [intOf]; omega
        · obtain rfl : s = 7 := by omega
          have h7' : decide (((7 : Nat) : Int) < 7) = false := by decide
          rcases (show j = 0 ∨ j = 1 by omega) with rfl | rfl
          · go_wp2_with fail
            go_roundw
            case rel => exact ⟨1, by omega, by go_num, by first | trivial | rfl, fun _ q q0 q1 e => HZ.out q q0 (by omega) (by omega)⟩
            case measure => simp [intOf]
          · exfalso
            obtain ⟨q, q0, q1, e⟩ := sp_half hk1.1 hk1.2 (HQ.out (by omega))
            exact HZ.out q q0 (by omega) (by omega)
theorem spec_SpellKey (k : Int) (w : World) : Calls Try.prog 43 #[.int .i64 k, .bool false] w (RetSp w k) := by
  have hb := Lib.hid ((Below.refl w.heap.size w).alloc (Nat.le_refl _) (.cells #[.int .i64 0, .int .i64 0, .int .i64 0] 54))
  have hbk := Lib.hid (Blk.new w 54 #[.int .i64 0, .int .i64 0, .int .i64 0])
  have hWs : (w.alloc (.cells #[.int .i64 0, .int .i64 0, .int .i64 0] 54)).heap.size = w.heap.size + 1 := by simp
  cases hk : inR k 0 107
  · have HF := Lib.hid hk; clear hk
    go_enter Try.func43, Try.ntmps43
    go_wp2_with fail
    generalize (w.alloc (.cells #[.int .i64 0, .int .i64 0, .int .i64 0] 54)) = W at *
    go_loopw [6] (fun v wr => v = .int .i64 0 ∧ wr = W) (fun _ _ => 0)
    case atStart => exact ⟨rfl, rfl⟩
    case round =>
      obtain ⟨rfl, rfl⟩ := hrel
      go_wp2_with (go_at_call 29; refine (spec_l1In _ _ _ _).mono ?_; rw [HF.out]; rintro e w' ⟨rfl, rfl⟩)
      go_loopw [8] (fun v ws => v = .int .i64 0 ∧ ws = wr) (fun _ _ => 0)
      case atStart => exact ⟨rfl, rfl⟩
      case round =>
        obtain ⟨rfl, rfl⟩ := hrel
        have c0 := hbk.out.cell 0; have c1 := hbk.out.cell 1; have c2 := hbk.out.cell 2
        have f0 := hbk.out.frozen 0; have f1 := hbk.out.frozen 1; have f2 := hbk.out.frozen 2
        go_wp2_with (go_at_call 29; refine (spec_l1In _ _ _ _).mono ?_; rw [HF.out]; rintro e w' ⟨rfl, rfl⟩)
        refine bodyPost_ret (v := .tuple #[.agg #[.int .i64 0, .int .i64 0, .int .i64 0], .bool false]) (by simp [results, Try.results43, go_sem, c0, c1, c2]) rfl ⟨?_, ?_⟩
        · rw [HF.out]; rfl
        · repeat (with_reducible refine Below.setCell ?_ (by simp; try omega) _)
          exact hb.out
  · have hk1 := inR_iff.1 hk
    have HF := Lib.hid hk; clear hk
    go_enter Try.func43, Try.ntmps43
    go_wp2_with fail
    generalize hW : (w.alloc (.cells #[.int .i64 0, .int .i64 0, .int .i64 0] 54)) = W at *
    clear hW
    go_loopw [6] (fun v wr => ∃ p : Nat, p ≤ 63 ∧ v = .int .i64 (p : Int) ∧ Below w.heap.size w wr ∧ Blk wr w.heap.size 54 #[.int .i64 0, .int .i64 0, .int .i64 0] ∧ ∀ q : Int, 0 ≤ q → q < p → natL q ≠ k) (fun v _ => 63 - (intOf v).toNat)
    case atStart => exact ⟨0, by omega, rfl, hb.out, hbk.out, fun q h0 h1 => by omega⟩
    case round =>
      obtain ⟨p, hp, rfl, hbel, hblk, hq⟩ := hrel
      have HB := Lib.hid hbel; have HK := Lib.hid hblk; have HQ := Lib.hid hq
      have hsz := hblk.lt
      clear hbel hblk hq
      by_cases h63 : p < 63
      · have h63' : (p : Int) < 63 := by omega
        have hh : 0 ≤ natL p ∧ natL p ≤ 200 := by have := half_cases (s := (p : Int) % 7) (by omega) (by omega); unfold natL; omega
        have hm : (p : Int).tmod 7 = (p : Int) % 7 := Int.tmod_eq_emod_of_nonneg (by omega)
        have hd : (p : Int).tdiv 7 = (p : Int) / 7 := Int.tdiv_eq_ediv_of_nonneg (by omega)
        have v1 : IntKind.i64.wrap (k - natL p) = k - natL p := IntWalk.i64_in _ (by omega)
        by_cases he : natL p = k
        · have e1 : (k - natL p == 0) = true := beq_iff_eq.2 (by omega)
          have HS := Lib.hid (sp_nat (p := (p : Int)) (by omega) he)
          clear he
          go_wp2_with (go_at_call 29; refine (spec_l1In _ _ _ _).mono ?_; rw [HF.out]; rintro e w' ⟨rfl, rfl⟩)
          refine (spec_l1Natural p _ (by omega) (by omega)).mono ?_
          rintro e w2 ⟨rfl, b2⟩
          have z2 := b2.size
          have hbk2 := HK.out.below b2 hsz
          have HB2 := Lib.hid (HB.out.trans (b2.mono (by omega)))
          have c0 := hbk2.cell 0; have c1 := hbk2.cell 1; have c2 := hbk2.cell 2
          have f0 := hbk2.frozen 0; have f1 := hbk2.frozen 1; have f2 := hbk2.frozen 2
          clear b2 hbk2
          go_wp2_with fail
          refine bodyPost_ret (v := .tuple #[.agg #[.int .i64 ((p : Int) % 7), .int .i64 0, .int .i64 ((p : Int) / 7)], .bool true]) (by simp [results, Try.results43, go_sem, c0, c1, c2]) rfl ⟨?_, ?_⟩
          · rw [HF.out, HS.out]; rfl
          · repeat (with_reducible refine Below.setCell ?_ (by simp; try omega) _)
            exact HB2.out
        · have e1 : (k - natL p == 0) = false := beq_eq_false_iff_ne.2 (by omega)
          have HE := Lib.hid he
          clear he
          go_wp2_with (go_at_call 29; refine (spec_l1In _ _ _ _).mono ?_; rw [HF.out]; rintro e w' ⟨rfl, rfl⟩)
          refine (spec_l1Natural p _ (by omega) (by omega)).mono ?_
          rintro e w2 ⟨rfl, b2⟩
          have z2 := b2.size
          have HK2 := Lib.hid (HK.out.below b2 hsz)
          have HB2 := Lib.hid (HB.out.trans (b2.mono (by omega)))
          clear b2
          go_wp2_with fail
          go_roundw
          case rel => exact ⟨p + 1, by omega, by go_num, HB2.out, HK2.out, fun q q0 q1 => by
              by_cases hqs : q = p
              · rw [hqs]; exact HE.out
              · exact HQ.out q q0 (by omega)⟩
          case measure => simp [intOf]; omega
      · have HP := Lib.hid (show 63 ≤ p by omega)
        have h63' : decide ((p : Int) < 63) = false := decide_eq_false (by omega)
        clear h63 hp
        go_wp2_with fail
        clear h63'
        have HQ : Hid (∀ q : Int, 0 ≤ q → q ≤ 62 → natL q ≠ k) := Lib.hid (fun q q0 q1 => HQ.out q q0 (by have := HP.out; omega))
        go_loopw [8] (fun v wr => ∃ p : Nat, p < 63 ∧ v = .int .i64 (p : Int) ∧ Below w.heap.size w wr ∧ Blk wr w.heap.size 54 #[.int .i64 0, .int .i64 0, .int .i64 0] ∧ ∀ q : Int, 0 ≤ q → q < p → k - natL q ≠ 1) (fun v _ => 63 - (intOf v).toNat)
        case atStart => exact ⟨0, by omega, rfl, HB.out, HK.out, fun q h0 h1 => by omega⟩
        case round =>
          obtain ⟨p, hp, rfl, hbel, hblk, hq⟩ := hrel
          have HB := Lib.hid hbel; have HK := Lib.hid hblk; have HQ2 := Lib.hid hq
          have hsz := hblk.lt
          clear hbel hblk hq
          have h63' : (p : Int) < 63 := by omega
          have hh : 0 ≤ natL p ∧ natL p ≤ 200 := by have := half_cases (s := (p : Int) % 7) (by omega) (by omega); unfold natL; omega
          have hm : (p : Int).tmod 7 = (p : Int) % 7 := Int.tmod_eq_emod_of_nonneg (by omega)
          have hd : (p : Int).tdiv 7 = (p : Int) / 7 := Int.tdiv_eq_ediv_of_nonneg (by omega)
          have v1 : IntKind.i64.wrap (k - natL p) = k - natL p := IntWalk.i64_in _ (by omega)
          by_cases he : k - natL p = 1
          · have e1 : (k - natL p == 1) = true := beq_iff_eq.2 (by omega)
            have HS := Lib.hid (sp_nat1 (p := (p : Int)) (by omega) (by omega) hk1.1 hk1.2 HQ.out he)
            have HD := Lib.hid he
            clear he
            go_wp2_with (go_at_call 29; refine (spec_l1In _ _ _ _).mono ?_; rw [HF.out]; rintro e w' ⟨rfl, rfl⟩)
            refine (spec_l1Natural p _ (by omega) (by omega)).mono ?_
            rintro e w2 ⟨rfl, b2⟩
            have z2 := b2.size
            have hbk2 := HK.out.below b2 hsz
            have HB2 := Lib.hid (HB.out.trans (b2.mono (by omega)))
            have c0 := hbk2.cell 0; have c1 := hbk2.cell 1; have c2 := hbk2.cell 2
            have f0 := hbk2.frozen 0; have f1 := hbk2.frozen 1; have f2 := hbk2.frozen 2
            clear b2 hbk2
            go_wp2_with fail
            refine bodyPost_ret (v := .tuple #[.agg #[.int .i64 ((p : Int) % 7), .int .i64 (k - natL p), .int .i64 ((p : Int) / 7)], .bool true]) (by simp [results, Try.results43, go_sem, c0, c1, c2]) rfl ⟨?_, ?_⟩
            · rw [HF.out, HS.out, HD.out]; rfl
            · repeat (with_reducible refine Below.setCell ?_ (by simp; try omega) _)
              exact HB2.out
          · have e1 : (k - natL p == 1) = false := beq_eq_false_iff_ne.2 (by omega)
            have HE := Lib.hid he
            clear he
            by_cases h62 : p + 1 < 63
            · generalize hd1 : (k - natL p == -1) = d1 at *
              clear hd1
              cases d1
              all_goals
                go_wp2_with (go_at_call 29; refine (spec_l1In _ _ _ _).mono ?_; rw [HF.out]; rintro e w' ⟨rfl, rfl⟩)
                refine (spec_l1Natural p _ (by omega) (by omega)).mono ?_
                rintro e w2 ⟨rfl, b2⟩
                have z2 := b2.size
                have HK2 := Lib.hid (HK.out.below b2 hsz)
                have HB2 := Lib.hid (HB.out.trans (b2.mono (by omega)))
                clear b2
                go_wp2_with fail
                all_goals
                  go_roundw
                  case rel => exact ⟨p + 1, by omega, by go_num, HB2.out, HK2.out, fun q q0 q1 => by
                      by_cases hqs : q = p
                      · rw [hqs]; exact HE.out
                      · exact HQ2.out q q0 (by omega)⟩
                  case measure => simp [intOf]; omega
            · exfalso
              obtain ⟨q, q0, q1, e⟩ := sp_some hk1.1 hk1.2 HQ.out
              by_cases hqs : q = p
              · rw [hqs] at e; exact HE.out e
              · exact HQ2.out q q0 (by omega) e
end Go.Proofs.Ytgnbnedjocolcaa
