/- Plain law: an even pattern has its strokes, its gaps differ by at most 1 and go round. No program. -/
import Derived.Test.YtelajonddhoafaaPatP
namespace Go.Proofs.Ytelajonddhoafaa
set_option linter.unusedVariables false
theorem gapsL_pat {zs : List Bool} (h : patL zs = true) : gapsL zs = gapsOf (st zs) zs.length := by rw [patL] at h; rw [gapsL, if_pos h]
theorem gaps_bd {zs : List Bool} (h : zs.length ≤ 32) : ∀ k, k < (gapsOf (st zs) zs.length).length → 1 ≤ gi (gapsOf (st zs) zs.length) k ∧ gi (gapsOf (st zs) zs.length) k ≤ 33 := fun k hk => by
  have hl := gapsOf_len (st zs) zs.length
  have h1 := gap_pos zs k (by omega)
  have h2 := gap_part zs k (by omega)
  have h3 := gap_part zs (k + 1) (by omega)
  rw [sumI_succ hk] at h3
  rw [gapsOf_at (by omega)] at h3 ⊢
  omega
theorem mm_bd {n : Int} {G : List Int} (hn : 0 ≤ n ∧ n ≤ 33) (hg : ∀ k, k < G.length → 1 ≤ gi G k ∧ gi G k ≤ 33) : ∀ k, k ≤ G.length → (0 ≤ minI n (G.take k) ∧ minI n (G.take k) ≤ 33) ∧ (0 ≤ maxI (G.take k) ∧ maxI (G.take k) ≤ 33) := by
  intro k
  induction k with
  | zero => intro _; simp only [List.take_zero, minI, maxI, List.foldl_nil]; omega
  | succ k ih =>
    intro hk
    have h1 := ih (by omega)
    have h2 := hg k (by omega)
    rw [minI_succ (by omega), maxI_succ (by omega)]
    omega
theorem even_facts (s n : Int) (h : evenL s n ≠ []) :
    ((evenL s n).length : Int) = n ∧ (0 ≤ s ∧ s ≤ n ∧ 1 ≤ n ∧ n ≤ 32) ∧ (strk (evenL s n) : Int) = s ∧ (s ≠ 0 → maxI (gapsL (evenL s n)) - minI n (gapsL (evenL s n)) ≤ 1) ∧ (s ≠ 0 → sumI (gapsL (evenL s n)) = n) ∧
    (∀ k, k ≤ (gapsL (evenL s n)).length → (0 ≤ sumI ((gapsL (evenL s n)).take k) ∧ sumI ((gapsL (evenL s n)).take k) ≤ 33) ∧ (0 ≤ minI n ((gapsL (evenL s n)).take k) ∧ minI n ((gapsL (evenL s n)).take k) ≤ 33) ∧ (0 ≤ maxI ((gapsL (evenL s n)).take k) ∧ maxI ((gapsL (evenL s n)).take k) ≤ 33)) ∧
    (∀ k, k < (gapsL (evenL s n)).length → 1 ≤ gi (gapsL (evenL s n)) k ∧ gi (gapsL (evenL s n)) k ≤ 33) := by
  unfold evenL at h ⊢
  by_cases hc : inR n 1 32 = true ∧ inR s 0 n = true
  · rw [if_pos hc] at h ⊢
    have h1 := inR_iff.1 hc.1
    have h2 := inR_iff.1 hc.2
    obtain ⟨m, rfl⟩ := Int.eq_ofNat_of_zero_le (show 0 ≤ n by omega)
    obtain ⟨t, rfl⟩ := Int.eq_ofNat_of_zero_le h2.1
    simp only [Int.toNat_natCast]
    have hB := even_all m (by omega) t (by omega)
    simp only [evenB, Bool.and_eq_true, decide_eq_true_eq] at hB
    have hl : (evenTo (t : Int) m).length = m := evenTo_len _ _
    have hp : patL (evenTo (t : Int) m) = true := by rw [patL, hl]; exact hc.1
    have hG : gapsL (evenTo (t : Int) m) = gapsOf (st (evenTo (t : Int) m)) m := by rw [gapsL_pat hp, hl]
    have hst := st_strk (evenTo (t : Int) m)
    have htot := gap_total (evenTo (t : Int) m)
    have hpart := gap_part (evenTo (t : Int) m)
    have hbd := gaps_bd (zs := evenTo (t : Int) m) (by omega)
    rw [hl] at htot hpart hbd
    have hgl := gapsOf_len (st (evenTo (t : Int) m)) m
    rw [hG]
    refine ⟨by omega, by omega, by omega, fun h0 => by omega, fun h0 => htot (by omega), fun k hk => ?_, hbd⟩
    have h5 := hpart k (by omega)
    have h6 := mm_bd (n := (m : Int)) (by omega) hbd k hk
    omega
  · rw [if_neg hc] at h; exact absurd rfl h
end Go.Proofs.Ytelajonddhoafaa
