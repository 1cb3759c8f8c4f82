/- The plain law of PatternGaps: the distance from a stroke to the next one, going round; no program. -/
import Derived.Test.YtelajonddhoafaaBools
namespace Go.Proofs.Ytelajonddhoafaa
set_option linter.unusedVariables false

/-- the strokes' places -/
def st (zs : List Bool) : List Nat := (List.range zs.length).filter (gb zs ·)
/-- the strokes' places below k -/
def stTo (zs : List Bool) (k : Nat) : List Nat := (List.range k).filter (gb zs ·)
theorem stTo_succ_t {zs : List Bool} {k : Nat} (h : gb zs k = true) : stTo zs (k + 1) = stTo zs k ++ [k] := by simp [stTo, List.range_succ, h]
theorem stTo_succ_f {zs : List Bool} {k : Nat} (h : gb zs k = false) : stTo zs (k + 1) = stTo zs k := by simp [stTo, List.range_succ, h]
theorem stTo_all (zs : List Bool) : stTo zs zs.length = st zs := rfl
theorem stTo_le (zs : List Bool) (k : Nat) : (stTo zs k).length ≤ k := by
  have := List.length_filter_le (gb zs ·) (List.range k); simpa [stTo] using this
/-- the distance from stroke i to the next one -/
def gapI (s : List Nat) (n i : Nat) : Nat := (if i + 1 < s.length then s.getD (i + 1) 0 else s.getD 0 0 + n) - s.getD i 0
def gapsOf (s : List Nat) (n : Nat) : List Int := (List.range s.length).map fun i => (gapI s n i : Int)
def IsGap (zs : List Bool) (k d : Nat) : Prop := 1 ≤ d ∧ gb zs ((k + d) % zs.length) = true ∧ ∀ j, 1 ≤ j → j < d → gb zs ((k + j) % zs.length) = false
theorem IsGap.unique {zs : List Bool} {k d e : Nat} (h : IsGap zs k d) (h' : IsGap zs k e) : d = e := by
  rcases Nat.lt_trichotomy d e with hl | hl | hl
  · have := h'.2.2 d h.1 hl; rw [h.2.1] at this; cases this
  · exact hl
  · have := h.2.2 e h'.1 hl; rw [h'.2.1] at this; cases this
theorem filter_cons_range {p : Nat → Bool} : ∀ (m a r : Nat) (t : List Nat), (List.range' a m).filter p = r :: t → a ≤ r ∧ r < a + m ∧ p r = true ∧ ∀ j, a ≤ j → j < r → p j = false := by
  intro m
  induction m with
  | zero => intro a r t h; simp at h
  | succ m ih =>
    intro a r t h
    rw [List.range'_succ, List.filter_cons] at h
    cases hp : p a with
    | true =>
      rw [hp] at h
      simp only [if_true, List.cons.injEq] at h
      obtain ⟨rfl, _⟩ := h
      exact ⟨Nat.le_refl _, by omega, hp, fun j h1 h2 => by omega⟩
    | false =>
      rw [hp] at h
      simp only [Bool.false_eq_true, if_false] at h
      obtain ⟨h1, h2, h3, h4⟩ := ih _ _ _ h
      refine ⟨by omega, by omega, h3, fun j hj1 hj2 => ?_⟩
      rcases Nat.eq_or_lt_of_le hj1 with rfl | hlt
      · exact hp
      · exact h4 j (by omega) hj2
theorem filter_nil_range {p : Nat → Bool} {a m : Nat} (h : (List.range' a m).filter p = []) : ∀ j, a ≤ j → j < a + m → p j = false := by
  intro j h1 h2
  rw [List.filter_eq_nil_iff] at h
  have := h j (by rw [List.mem_range'_1]; omega)
  simpa using this
/-- the list of strokes round a stroke k -/
theorem st_split {zs : List Bool} {k : Nat} (hk : k < zs.length) (h : gb zs k = true) : st zs = stTo zs k ++ k :: (List.range' (k + 1) (zs.length - (k + 1))).filter (gb zs ·) := by
  have e : List.range zs.length = List.range k ++ k :: List.range' (k + 1) (zs.length - (k + 1)) := by
    rw [List.range_eq_range', List.range_eq_range', ← List.range'_succ]
    have e2 : zs.length = k + (zs.length - (k + 1) + 1) := by omega
    conv => lhs; rw [e2]
    rw [← List.range'_append_1]
    simp
  rw [st, e, List.filter_append, List.filter_cons, if_pos h]; rfl
theorem st_at {zs : List Bool} {k : Nat} (hk : k < zs.length) (h : gb zs k = true) : (st zs).getD (stTo zs k).length 0 = k := by
  rw [st_split hk h]; simp
theorem gap_ok {zs : List Bool} {k : Nat} (hk : k < zs.length) (h : gb zs k = true) : IsGap zs k (gapI (st zs) zs.length (stTo zs k).length) := by
  have hs := st_split hk h
  have hat := st_at hk h
  cases hr : (List.range' (k + 1) (zs.length - (k + 1))).filter (gb zs ·) with
  | cons r t =>
    obtain ⟨h1, h2, h3, h4⟩ := filter_cons_range _ _ _ _ hr
    rw [hr] at hs
    have hl : (stTo zs k).length + 1 < (st zs).length := by rw [hs]; simp
    have hn : (st zs).getD ((stTo zs k).length + 1) 0 = r := by rw [hs]; simp
    have hg : gapI (st zs) zs.length (stTo zs k).length = r - k := by rw [gapI, if_pos hl, hn, hat]
    rw [hg]
    refine ⟨by omega, ?_, fun j hj1 hj2 => ?_⟩
    · rw [show k + (r - k) = r by omega, Nat.mod_eq_of_lt (by omega)]; exact h3
    · rw [Nat.mod_eq_of_lt (by omega)]; exact h4 _ (by omega) (by omega)
  | nil =>
    have h4 := filter_nil_range hr
    rw [hr] at hs
    have hl : ¬ (stTo zs k).length + 1 < (st zs).length := by rw [hs]; simp
    -- the first stroke
    cases hf : st zs with
    | nil => rw [hf] at hs; simp at hs
    | cons f t =>
      have hf' : (List.range' 0 zs.length).filter (gb zs ·) = f :: t := by rw [← List.range_eq_range']; exact hf
      obtain ⟨_, g2, g3, g4⟩ := filter_cons_range _ _ _ _ hf'
      have hfk : f ≤ k := by
        rcases Nat.lt_or_ge k f with hlt | hge
        · have := g4 k (by omega) hlt; rw [h] at this; cases this
        · exact hge
      have hg : gapI (st zs) zs.length (stTo zs k).length = f + zs.length - k := by
        rw [gapI, if_neg hl, hat, hf]; simp
      rw [← hf, hg]
      refine ⟨by omega, ?_, fun j hj1 hj2 => ?_⟩
      · rw [show k + (f + zs.length - k) = f + zs.length by omega, Nat.add_mod_right, Nat.mod_eq_of_lt (by omega)]; exact g3
      · rcases Nat.lt_or_ge (k + j) zs.length with hlt | hge
        · rw [Nat.mod_eq_of_lt hlt]; exact h4 _ (by omega) (by omega)
        · rw [show k + j = (k + j - zs.length) + zs.length by omega, Nat.add_mod_right, Nat.mod_eq_of_lt (by omega)]
          exact g4 _ (by omega) (by omega)
/-- what PatternGaps returns -/
def gapsL (zs : List Bool) : List Int := if inR zs.length 1 32 = true then gapsOf (st zs) zs.length else []
theorem gapsOf_len (s : List Nat) (n : Nat) : (gapsOf s n).length = s.length := by simp [gapsOf]
theorem gapsL_len (zs : List Bool) : (gapsL zs).length ≤ 32 := by
  unfold gapsL; split
  · have h := inR_iff.1 ‹_›
    rw [gapsOf_len, ← stTo_all]
    have := stTo_le zs zs.length
    omega
  · simp
theorem gapsOf_take (s : List Nat) (n i : Nat) (h : i < s.length) : (gapsOf s n).take (i + 1) = (gapsOf s n).take i ++ [(gapI s n i : Int)] := by
  rw [List.take_succ_eq_append_getElem (by rw [gapsOf_len]; exact h)]
  simp [gapsOf]
end Go.Proofs.Ytelajonddhoafaa
