/- Plain laws of patterns: strokes, turning, gaps; no program. -/
import Derived.Test.YtelajonddhoafaaGapp
import Derived.Test.YtelajonddhoafaaTurn
import Derived.Test.YtelajonddhoafaaGaps
import Derived.Test.YtelajonddhoafaaSame
import Derived.Test.YtelajonddhoafaaEven
namespace Go.Proofs.Ytelajonddhoafaa
set_option linter.unusedVariables false

/-- strokes -/
def strk (zs : List Bool) : Nat := zs.count true
theorem gb_ext {a b : List Bool} (h : a.length = b.length) (hg : ∀ k, k < a.length → gb a k = gb b k) : a = b := by
  apply List.ext_getElem h
  intro i h1 h2
  rw [gb_get h1, gb_get h2]; exact hg i h1
theorem turn_turn (zs : List Bool) (s t : Int) : turnTo (turnTo zs s) t = turnTo zs (s + t) := by
  apply gb_ext
  · rw [turnTo_len, turnTo_len, turnTo_len]
  · intro k hk
    rw [turnTo_len, turnTo_len] at hk
    have hn : (0 : Int) < (zs.length : Int) := by omega
    have h1 : 0 ≤ ((k : Int) + t) % (zs.length : Int) := Int.emod_nonneg _ (by omega)
    have h2 : ((k : Int) + t) % (zs.length : Int) < (zs.length : Int) := Int.emod_lt_of_pos _ hn
    rw [turnTo_at _ _ _ (by rw [turnTo_len]; exact hk), turnTo_len, turnTo_at _ _ _ (by omega), turnTo_at _ _ _ hk]
    congr 2
    rw [Int.toNat_of_nonneg h1, Int.emod_add_emod]
    congr 1; omega
theorem turn_mod (zs : List Bool) (t : Int) : turnTo zs (t % (zs.length : Int)) = turnTo zs t := by
  apply gb_ext
  · rw [turnTo_len, turnTo_len]
  · intro k hk
    rw [turnTo_len] at hk
    rw [turnTo_at _ _ _ hk, turnTo_at _ _ _ hk, Int.add_emod_emod]
theorem turn_zero (zs : List Bool) : turnTo zs 0 = zs := by
  apply gb_ext
  · rw [turnTo_len]
  · intro k hk
    rw [turnTo_len] at hk
    rw [turnTo_at _ _ _ hk, Int.add_zero, Int.emod_eq_of_lt (by omega) (by omega)]; rfl
theorem turn_full (zs : List Bool) : turnTo zs zs.length = zs := by
  rw [← turn_mod, Int.emod_self, turn_zero]
theorem turn_rot (zs : List Bool) (r : Nat) (hr : r < zs.length) : turnTo zs r = zs.drop r ++ zs.take r := by
  apply gb_ext
  · rw [turnTo_len]; simp; omega
  · intro k hk
    rw [turnTo_len] at hk
    rw [turnTo_at _ _ _ hk]
    have e : (((k : Int) + (r : Int)) % (zs.length : Int)).toNat = (k + r) % zs.length := by
      rw [← Int.natCast_add, ← Int.natCast_emod]; rfl
    rw [e]
    simp only [gb, List.getD_eq_getElem?_getD]
    congr 1
    rcases Nat.lt_or_ge (k + r) zs.length with hlt | hge
    · rw [Nat.mod_eq_of_lt hlt, List.getElem?_append_left (by simp; omega), List.getElem?_drop, Nat.add_comm]
    · have e2 : (k + r) % zs.length = k + r - zs.length := by
        rw [Nat.mod_eq_sub_mod hge, Nat.mod_eq_of_lt (by omega)]
      rw [e2, List.getElem?_append_right (by simp; omega), List.getElem?_take, List.length_drop, if_pos (by omega)]
      congr 1; omega
theorem turn_strk (zs : List Bool) (t : Int) : strk (turnTo zs t) = strk zs := by
  rcases Nat.eq_zero_or_pos zs.length with h0 | hpos
  · have : zs = [] := List.length_eq_zero_iff.1 h0
    subst this; rfl
  · have h1 : 0 ≤ t % (zs.length : Int) := Int.emod_nonneg _ (by omega)
    have h2 : t % (zs.length : Int) < (zs.length : Int) := Int.emod_lt_of_pos _ (by omega)
    rw [← turn_mod, ← Int.toNat_of_nonneg h1, turn_rot zs _ (by omega), strk, List.count_append, Nat.add_comm, ← List.count_append, List.take_append_drop]; rfl
theorem patL_turn (zs : List Bool) (t : Int) : patL (turnTo zs t) = patL zs := by rw [patL, patL, turnTo_len]
theorem turnL_yes {zs : List Bool} {t : Int} (h : turnL zs t ≠ []) : patL zs = true ∧ (-32 ≤ t ∧ t ≤ 32) ∧ turnL zs t = turnTo zs t := by
  unfold turnL at h ⊢
  by_cases hc : patL zs = true ∧ inR t (-32) 32 = true
  · exact ⟨hc.1, inR_iff.1 hc.2, by rw [if_pos hc]⟩
  · rw [if_neg hc] at h; exact absurd rfl h
theorem turnL_in {zs : List Bool} {t : Int} (h : patL zs = true) (ht : -32 ≤ t ∧ t ≤ 32) : turnL zs t = turnTo zs t := by
  rw [turnL, if_pos ⟨h, inR_t ht⟩]
theorem turnL_back {zs : List Bool} {t : Int} (h : patL zs = true) (ht : -32 ≤ t ∧ t ≤ 32) : turnL (turnTo zs t) (-t) = zs := by
  rw [turnL_in (by rw [patL_turn]; exact h) (by omega), turn_turn, show t + -t = 0 by omega, turn_zero]
theorem turnL_all {zs : List Bool} (h : patL zs = true) : turnL zs zs.length = zs := by
  have := inR_iff.1 h
  rw [turnL_in h (by omega), turn_full]
/-! Same patterns. -/
theorem same_iff {a b : List Bool} : samePatL a b = true ↔ patL a = true ∧ patL b = true ∧ ∃ k : Nat, k < a.length ∧ turnTo a k = b := by
  simp [samePatL, sameBo, List.any_eq_true, and_assoc]
theorem same_symm1 {a b : List Bool} (h : samePatL a b = true) : samePatL b a = true := by
  obtain ⟨ha, hb, k, hk, rfl⟩ := same_iff.1 h
  refine same_iff.2 ⟨hb, ha, (a.length - k) % a.length, ?_, ?_⟩
  · rw [turnTo_len]; exact Nat.mod_lt _ (by omega)
  · have e : (((a.length - k) % a.length : Nat) : Int) = ((a.length : Int) - (k : Int)) % ((turnTo a k).length : Int) := by
      rw [turnTo_len, Int.natCast_emod]; congr 1; omega
    rw [e, turn_mod, turn_turn, show (k : Int) + ((a.length : Int) - (k : Int)) = (a.length : Int) by omega, turn_full]
theorem same_symm (a b : List Bool) : samePatL a b = samePatL b a := by
  rw [Bool.eq_iff_iff]; exact ⟨same_symm1, same_symm1⟩
theorem same_len {a b : List Bool} (h : samePatL a b = true) : a.length = b.length ∧ strk a = strk b := by
  obtain ⟨_, _, k, _, rfl⟩ := same_iff.1 h
  exact ⟨(turnTo_len _ _).symm, (turn_strk _ _).symm⟩
theorem same_turned (a : List Bool) : samePatL a (turnL a 3) = patL a := by
  cases h : patL a with
  | false => rw [samePatL, h]; rfl
  | true =>
    have hn := inR_iff.1 h
    rw [turnL_in h (by omega)]
    refine same_iff.2 ⟨h, by rw [patL_turn]; exact h, 3 % a.length, Nat.mod_lt _ (by omega), ?_⟩
    rw [show ((3 % a.length : Nat) : Int) = (3 : Int) % (a.length : Int) by simp, turn_mod]
/-! Gaps. -/
theorem stTo_strk : ∀ (zs : List Bool) (k : Nat), k ≤ zs.length → (stTo zs k).length = strk (zs.take k) := by
  intro zs k
  induction k with
  | zero => intro _; simp [stTo, strk]
  | succ k ih =>
    intro hk
    rw [take_succ_gb (by omega), strk, List.count_append]
    have := ih (by omega)
    rw [strk] at this
    cases hg : gb zs k with
    | true => rw [stTo_succ_t hg]; simp [this]
    | false => rw [stTo_succ_f hg]; simp [this]
theorem st_strk (zs : List Bool) : (st zs).length = strk zs := by
  rw [← stTo_all, stTo_strk zs _ (Nat.le_refl _), List.take_length]
/-- the sum of the first k -/
def sumI (l : List Int) : Int := l.foldl (· + ·) 0
theorem sumI_succ {l : List Int} {k : Nat} (h : k < l.length) : sumI (l.take (k + 1)) = sumI (l.take k) + gi l k := by
  rw [take_succ_gi h, sumI, List.foldl_append]; rfl
theorem gapsOf_at {s : List Nat} {n k : Nat} (h : k < s.length) : gi (gapsOf s n) k = (gapI s n k : Int) := by
  rw [← gi_get (zs := gapsOf s n) (by rw [gapsOf_len]; exact h)]; simp [gapsOf]
theorem gap_sum (zs : List Bool) : ∀ k : Nat, k < (st zs).length → sumI ((gapsOf (st zs) zs.length).take k) = (gn (st zs) k : Int) - (gn (st zs) 0 : Int) := by
  intro k
  induction k with
  | zero => intro _; simp [sumI]
  | succ k ih =>
    intro hk
    have hm := st_mono zs k hk
    rw [sumI_succ (by rw [gapsOf_len]; omega), ih (by omega), gapsOf_at (by omega), gapI, if_pos hk]
    simp only [gn] at hm ⊢
    omega
theorem st_first_le (zs : List Bool) : ∀ k : Nat, k < (st zs).length → gn (st zs) 0 ≤ gn (st zs) k := by
  intro k
  induction k with
  | zero => intro _; exact Nat.le_refl _
  | succ k ih => intro hk; have := ih (by omega); have := st_mono zs k hk; omega
theorem gap_total (zs : List Bool) (h : 0 < (st zs).length) : sumI (gapsOf (st zs) zs.length) = zs.length := by
  have e : (st zs).length = (st zs).length - 1 + 1 := by omega
  have hl := gapsOf_len (st zs) zs.length
  rw [← List.take_length (l := gapsOf (st zs) zs.length), hl, e, sumI_succ (by omega), gap_sum zs _ (by omega), gapsOf_at (by omega), gapI, if_neg (by omega)]
  have h1 := st_lt zs ((st zs).length - 1) (by omega)
  have h2 := st_first_le zs ((st zs).length - 1) (by omega)
  simp only [gn] at h1 h2 ⊢
  omega
theorem gap_pos (zs : List Bool) (k : Nat) (h : k < (st zs).length) : 1 ≤ gapI (st zs) zs.length k := by
  unfold gapI
  have h1 := st_lt zs k h
  split
  · have := st_mono zs k (by omega)
    simp only [gn] at this; omega
  · have h2 := st_first_le zs k h
    simp only [gn] at h1 h2; omega
theorem gap_part (zs : List Bool) (k : Nat) (h : k ≤ (st zs).length) : 0 ≤ sumI ((gapsOf (st zs) zs.length).take k) ∧ sumI ((gapsOf (st zs) zs.length).take k) ≤ zs.length := by
  rcases Nat.lt_or_ge k (st zs).length with hlt | hge
  · rw [gap_sum zs k hlt]
    have h1 := st_first_le zs k hlt
    have h2 := st_lt zs k hlt
    simp only [gn] at h1 h2 ⊢
    omega
  · rcases Nat.eq_zero_or_pos (st zs).length with h0 | hp
    · have : k = 0 := by omega
      subst this; simp [sumI]
    · have hl := gapsOf_len (st zs) zs.length
      rw [List.take_of_length_le (by omega), gap_total zs hp]; omega
/-! Even patterns. -/
def maxI (l : List Int) : Int := l.foldl max 0
def minI (n : Int) (l : List Int) : Int := l.foldl min n
theorem maxI_succ {l : List Int} {k : Nat} (h : k < l.length) : maxI (l.take (k + 1)) = max (maxI (l.take k)) (gi l k) := by
  rw [take_succ_gi h, maxI, List.foldl_append]; rfl
theorem minI_succ {n : Int} {l : List Int} {k : Nat} (h : k < l.length) : minI n (l.take (k + 1)) = min (minI n (l.take k)) (gi l k) := by
  rw [take_succ_gi h, minI, List.foldl_append]; rfl
def evenB (n s : Nat) : Bool :=
  let z := evenTo s n
  let g := gapsOf (st z) n
  decide (strk z = s) && decide (maxI g - minI n g ≤ 1 ∨ s = 0)
theorem even_all : ∀ n : Nat, n < 33 → ∀ s : Nat, s < n + 1 → evenB n s = true := by decide +kernel
end Go.Proofs.Ytelajonddhoafaa
