/- Plain laws of the functions on samples, waves and levels; no program. -/
import Derived.Test.YtijbciiocmdmmaaMix
import Derived.Test.YtijbciiocmdmmaaTone
namespace Go.Proofs.Ytijbciiocmdmmaa
set_option linter.unusedVariables false

theorem okS_drop {zs : List Int} (k : Nat) (h : okS zs = true) : okS (zs.drop k) = true :=
  okS_mk (by have := okS_len h; simp; omega) fun z hz => okS_all h z (List.mem_of_mem_drop hz)
theorem okS_bad (zs : List Int) : okS (zs ++ [32768]) = false := by
  cases e : okS (zs ++ [32768]) with
  | false => rfl
  | true => have := okS_all e 32768 (by simp); omega
theorem pk_all : ∀ (l : List Int) (m : Int), m ≤ l.foldl pk1 m ∧ (∀ z ∈ l, z ≤ l.foldl pk1 m ∧ -z ≤ l.foldl pk1 m) ∧ (l.foldl pk1 m = m ∨ ∃ z ∈ l, z = l.foldl pk1 m ∨ -z = l.foldl pk1 m) := by
  intro l
  induction l with
  | nil => intro m; exact ⟨Int.le_refl _, (fun z hz => by cases hz), .inl rfl⟩
  | cons z r ih =>
    intro m
    obtain ⟨h1, h2, h3⟩ := ih (pk1 m z)
    have hp := pk1_max m z
    rw [List.foldl_cons]
    refine ⟨by omega, fun y hy => ?_, ?_⟩
    · rcases List.mem_cons.1 hy with rfl | hy
      · omega
      · exact h2 y hy
    · rcases h3 with h3 | ⟨y, hy, h3⟩
      · rw [h3]
        rcases Int.le_total m (max z (-z)) with hm | hm
        · refine .inr ⟨z, List.mem_cons_self, ?_⟩; omega
        · exact .inl (by omega)
      · exact .inr ⟨y, List.mem_cons_of_mem _ hy, h3⟩
theorem pk1_neg (m z : Int) : pk1 m (-z) = pk1 m z := by rw [pk1_max, pk1_max]; omega
theorem peak_neg : ∀ (l : List Int) (m : Int), (l.map fun z => -z).foldl pk1 m = l.foldl pk1 m := by
  intro l
  induction l with
  | nil => intro m; rfl
  | cons z r ih => intro m; rw [List.map_cons, List.foldl_cons, List.foldl_cons, pk1_neg, ih]
def negs (zs : List Int) : List Int := zs.map fun z => -z
theorem negs_len (zs : List Int) : (negs zs).length = zs.length := by simp [negs]
theorem negs_succ {zs : List Int} {k : Nat} (h : k < zs.length) : negs (zs.take (k + 1)) = negs (zs.take k) ++ [-gi zs k] := by
  rw [take_succ_gi h]; simp [negs]
theorem okS_negs {zs : List Int} (h : okS zs = true) : okS (negs zs) = true :=
  okS_mk (by rw [negs_len]; exact okS_len h) fun z hz => by
    obtain ⟨y, hy, rfl⟩ := List.mem_map.1 hz
    have := okS_all h y hy
    omega
theorem peakL_yes {zs : List Int} (h : okS zs = true) : peakL zs = peakTo zs := by rw [peakL, if_pos h]
theorem peakL_no {zs : List Int} (h : okS zs = false) : peakL zs = -1 := by rw [peakL, if_neg (by simp [h])]
theorem peakL_negs {zs : List Int} (h : okS zs = true) : peakL (negs zs) = peakTo zs := by
  rw [peakL_yes (okS_negs h)]; exact peak_neg zs 0
theorem peakTo_ge (zs : List Int) {k : Nat} (h : k < zs.length) : gi zs k ≤ peakTo zs ∧ -gi zs k ≤ peakTo zs := (pk_all zs 0).2.1 _ (gi_mem h)
/-- has the peak been met below k -/
def fnd (zs : List Int) (n : Int) (k : Nat) : Bool := (decide (zs.length = 0) && (n == 0)) || (zs.take k).any fun z => z == n || z == -n
theorem fnd_succ {zs : List Int} {n : Int} {k : Nat} (h : k < zs.length) : fnd zs n (k + 1) = (fnd zs n k || (gi zs k == n || gi zs k == -n)) := by
  rw [fnd, fnd, take_succ_gi h, List.any_append, Bool.or_assoc]; simp
theorem fnd_all (zs : List Int) : fnd zs (peakTo zs) zs.length = true := by
  rw [fnd, List.take_length]
  rcases (pk_all zs 0).2.2 with h | ⟨z, hz, h⟩
  · cases zs with
    | nil => rfl
    | cons y r =>
      have hy := (pk_all (y :: r) 0).2.1 y List.mem_cons_self
      rw [h] at hy
      have e : peakTo (y :: r) = 0 := h
      rw [e, Bool.or_eq_true]
      refine .inr (List.any_eq_true.2 ⟨y, List.mem_cons_self, ?_⟩)
      simp; omega
  · rw [Bool.or_eq_true]
    refine .inr (List.any_eq_true.2 ⟨z, hz, ?_⟩)
    have e : peakTo zs = zs.foldl pk1 0 := rfl
    rw [e, Bool.or_eq_true, beq_iff_eq, beq_iff_eq]
    omega
/-! Scaled samples. -/
theorem tdiv_sign (z l : Int) (hl : 0 ≤ l ∧ l ≤ 1000) : (z * l).tdiv 1000 ≤ max 0 z ∧ min 0 z ≤ (z * l).tdiv 1000 := by
  rcases Int.le_total 0 z with h0 | h0
  · have h1 : 0 ≤ z * l := Int.mul_nonneg h0 hl.1
    have h2 : z * l ≤ z * 1000 := Int.mul_le_mul_of_nonneg_left hl.2 h0
    rw [Int.tdiv_eq_ediv_of_nonneg h1]; omega
  · have h1 : 0 ≤ (-z) * l := Int.mul_nonneg (by omega) hl.1
    have h2 : (-z) * l ≤ (-z) * 1000 := Int.mul_le_mul_of_nonneg_left hl.2 (by omega)
    have e : (z * l).tdiv 1000 = -(((-z) * l).tdiv 1000) := by rw [Int.neg_mul, Int.neg_tdiv, Int.neg_neg]
    rw [e, Int.tdiv_eq_ediv_of_nonneg h1]; omega
theorem scaleTo_len (zs : List Int) (l : Int) : (scaleTo zs l).length = zs.length := by simp [scaleTo]
theorem scaleTo_at {zs : List Int} {l : Int} {k : Nat} (h : k < zs.length) : gi (scaleTo zs l) k = (gi zs k * l).tdiv 1000 := by
  rw [← gi_get (zs := scaleTo zs l) (by rw [scaleTo_len]; exact h), ← gi_get h]; simp [scaleTo]
theorem scaleTo_one (zs : List Int) : scaleTo zs 1000 = zs := by
  unfold scaleTo
  have : ∀ z : Int, (z * 1000).tdiv 1000 = z := fun z => Int.mul_tdiv_cancel _ (by omega)
  simp [this]
theorem scaleTo_ok {zs : List Int} {l : Int} (h : okS zs = true) (hl : 0 ≤ l ∧ l ≤ 1000) : okS (scaleTo zs l) = true :=
  okS_mk (by rw [scaleTo_len]; exact okS_len h) fun z hz => by
    obtain ⟨y, hy, rfl⟩ := List.mem_map.1 hz
    have h1 := okS_all h y hy
    have h2 := tdiv_sign y l hl
    omega
theorem scale_zero_peak {zs : List Int} (h : okS zs = true) : peakL (scaleL zs 0) = 0 := by
  have e : scaleL zs 0 = scaleTo zs 0 := by rw [scaleL, if_pos ⟨h, by decide⟩]
  rw [e, peakL_yes (scaleTo_ok h (by omega))]
  rcases (pk_all (scaleTo zs 0) 0).2.2 with h2 | ⟨z, hz, h2⟩
  · exact h2
  · obtain ⟨y, _, rfl⟩ := List.mem_map.1 hz
    have e2 : peakTo (scaleTo zs 0) = (scaleTo zs 0).foldl pk1 0 := rfl
    rw [e2]
    simp at h2
    omega
theorem scaleL_yes {zs : List Int} {l : Int} (h : scaleL zs l ≠ []) : okS zs = true ∧ (0 ≤ l ∧ l ≤ 1000) ∧ scaleL zs l = scaleTo zs l := by
  unfold scaleL at h ⊢
  by_cases hc : okS zs = true ∧ inR l 0 1000 = true
  · exact ⟨hc.1, inR_iff.1 hc.2, by rw [if_pos hc]⟩
  · rw [if_neg hc] at h; exact absurd rfl h
theorem scaleL_one {zs : List Int} (h : okS zs = true) : scaleL zs 1000 = zs := by rw [scaleL, if_pos ⟨h, by decide⟩, scaleTo_one]
/-! Echoes. -/
theorem gi_app_lt {a b : List Int} {k : Nat} (h : k < a.length) : gi (a ++ b) k = gi a k := by
  simp only [gi, List.getD_eq_getElem?_getD]; rw [List.getElem?_append_left h]
theorem gi_app_eq {a : List Int} {z : Int} {k : Nat} (h : k = a.length) : gi (a ++ [z]) k = z := by subst h; simp [gi]
theorem echoTo_pre (zs : List Int) (b : Nat) (l : Int) (h : okS zs = true) : ∀ k j : Nat, k ≤ zs.length → j < k → j < b → gi (echoTo zs b l k) j = gi zs j := by
  intro k
  induction k with
  | zero => intro j _ h1; omega
  | succ k ih =>
    intro j hk hj hb
    have hl := echoTo_len zs b l k
    unfold echoTo
    rcases Nat.lt_or_ge j k with hlt | hge
    · rw [gi_app_lt (by omega)]; exact ih j (by omega) hlt hb
    · obtain rfl : j = k := by omega
      rw [gi_app_eq hl.symm, if_neg (by omega), Int.add_zero]
      exact clip_id (okS_at h (by omega))
theorem echoTo_zero (zs : List Int) (b : Nat) (h : okS zs = true) : ∀ k : Nat, k ≤ zs.length → echoTo zs b 0 k = zs.take k := by
  intro k
  induction k with
  | zero => intro _; simp [echoTo]
  | succ k ih =>
    intro hk
    unfold echoTo
    rw [ih (by omega), take_succ_gi (by omega)]
    have hz := okS_at h (k := k) (by omega)
    congr 2
    split
    · rw [Int.mul_zero, Int.zero_tdiv, Int.add_zero]; exact clip_id hz
    · rw [Int.add_zero]; exact clip_id hz
theorem echoL_yes {zs : List Int} {b l : Int} (h : echoL zs b l ≠ []) : echoOk zs b l ∧ echoL zs b l = echoTo zs b.toNat l zs.length := by
  unfold echoL at h ⊢
  by_cases hc : echoOk zs b l
  · exact ⟨hc, by rw [if_pos hc]⟩
  · rw [if_neg hc] at h; exact absurd rfl h
theorem echo_ok {zs : List Int} {b : Nat} {l : Int} (h : okS zs = true) : okS (echoTo zs b l zs.length) = true :=
  okS_mk (by rw [echoTo_len]; exact okS_len h) (echoTo_bd zs b l _)
theorem echoL_zero {zs : List Int} {b : Int} (h : okS zs = true) (hb : inR b 1 200 = true) : echoL zs b 0 = zs := by
  rw [echoL, if_pos ⟨h, hb, by decide⟩, echoTo_zero zs _ h _ (Nat.le_refl _), List.take_length]
/-! Mixed samples. -/
theorem mixTo_len (a b : List Int) (k : Nat) : (mixTo a b k).length = k := by simp [mixTo]
theorem mixTo_comm (a b : List Int) (k : Nat) : mixTo a b k = mixTo b a k := by
  unfold mixTo; refine List.map_congr_left fun i _ => ?_; rw [Int.add_comm]
theorem mixL_comm (a b : List Int) : mixL a b = mixL b a := by
  unfold mixL
  by_cases h : okS a = true ∧ okS b = true
  · rw [if_pos h, if_pos ⟨h.2, h.1⟩, mixTo_comm, Nat.max_comm]
  · rw [if_neg h, if_neg fun h2 => h ⟨h2.2, h2.1⟩]
theorem mixTo_at {a b : List Int} {n k : Nat} (h : k < n) : gi (mixTo a b n) k = clip (atZ a k + atZ b k) := by
  rw [← gi_get (zs := mixTo a b n) (by rw [mixTo_len]; exact h)]; simp [mixTo]
theorem atZ_gi {l : List Int} {k : Nat} (h : k < l.length) : atZ l k = gi l k := by rw [atZ, if_pos h]
theorem mixTo_ok (a b : List Int) {n : Nat} (h : n ≤ 200) : okS (mixTo a b n) = true :=
  okS_mk (by rw [mixTo_len]; exact h) fun z hz => by
    obtain ⟨i, _, rfl⟩ := List.mem_map.1 hz
    exact clip_bd _
theorem mixL_yes {a b : List Int} (h1 : okS a = true) (h2 : okS b = true) : mixL a b = mixTo a b (max a.length b.length) := by rw [mixL, if_pos ⟨h1, h2⟩]
theorem mixL_nil {a : List Int} (h : okS a = true) : mixL a [] = a := by
  rw [mixL_yes h (by decide)]
  have e : max a.length ([] : List Int).length = a.length := by simp
  rw [e]
  apply List.ext_getElem
  · rw [mixTo_len]
  · intro i h1 h2
    rw [gi_get h1, gi_get h2, mixTo_at h2, atZ_gi h2]
    have e2 : atZ [] i = 0 := by simp [atZ]
    rw [e2, Int.add_zero]
    exact clip_id (okS_at h h2)
/-! Waves. -/
theorem wave_turn {f p : Int} (hp : 0 ≤ p ∧ p ≤ 999) (hf : f = 0 ∨ f = 2) : waveL f ((p + 500) % 1000) = -waveL f p := by
  unfold waveL
  have h1 : inR p 0 999 = true := inR_t hp
  have h2 : inR ((p + 500) % 1000) 0 999 = true := inR_t (by omega)
  rw [if_pos h1, if_pos h2]
  rcases hf with rfl | rfl <;> simp <;> (repeat' split) <;> omega
theorem wave_out {f p : Int} (h : p < 0 ∨ 999 < p ∨ f < 0 ∨ 2 < f) : waveL f p = 0 := by
  unfold waveL
  split
  · have := inR_iff.1 ‹_›
    rw [if_neg (by omega), if_neg (by omega), if_neg (by omega)]
  · rfl
/-! Levels. -/
theorem lvlOk_bd {a d s r h t : Int} (hk : lvlOk a d s r h t) : (0 ≤ a ∧ a ≤ 10000) ∧ (0 ≤ d ∧ d ≤ 10000) ∧ (0 ≤ r ∧ r ≤ 10000) ∧ (0 ≤ s ∧ s ≤ 1000) ∧ (0 ≤ h ∧ h ≤ 1000000) ∧ (0 ≤ t ∧ t ≤ 1000000) := by
  obtain ⟨h1, h2, h3⟩ := shapeL_iff.1 hk.1
  exact ⟨h1, h2, h3.1, h3.2, inR_iff.1 hk.2.1, inR_iff.1 hk.2.2⟩
theorem lvl_next {a d s r h t : Int} (hk : lvlOk a d s r h t) (ht : h ≤ t) : levelL a d s r h (min 1000000 (t + 1)) ≤ levelL a d s r h t := by
  obtain ⟨ha, hd, hr, hs, hh, htt⟩ := lvlOk_bd hk
  have hk2 : lvlOk a d s r h (min 1000000 (t + 1)) := ⟨hk.1, hk.2.1, inR_t (by omega)⟩
  rcases Int.lt_or_le t 1000000 with hlt | hge
  · have e : min 1000000 (t + 1) = t + 1 := by omega
    rw [e] at hk2 ⊢
    have hb := levelL_bd hk
    rw [levelL, if_pos hk2] at *
    rw [levelL, if_pos hk] at *
    unfold levelIn at *
    rw [if_neg (by omega)]
    by_cases c1 : h + r ≤ t + 1
    · rw [if_pos c1]; exact hb.1
    · rw [if_neg c1, if_neg (by omega), if_neg (by omega)]
      have hv := heldLv_bd (d := d) ha.1 hs hh.1
      exact Int.ediv_le_ediv (by omega) (Int.mul_le_mul_of_nonneg_left (by omega) hv.1)
  · have e : min 1000000 (t + 1) = t := by omega
    rw [e]; exact Int.le_refl _
theorem lvl_end {a d s r h t : Int} (hk : lvlOk a d s r h t) (ht : h + r ≤ t) : levelL a d s r h t = 0 := by
  obtain ⟨ha, hd, hr, hs, hh, htt⟩ := lvlOk_bd hk
  rw [levelL, if_pos hk, levelIn, if_neg (by omega), if_pos ht]
theorem lvl_held {a d s r h t : Int} (hk : lvlOk a d s r h t) (h1 : t < h) (h2 : a + d ≤ t) : levelL a d s r h t = s := by
  obtain ⟨ha, hd, hr, hs, hh, htt⟩ := lvlOk_bd hk
  rw [levelL, if_pos hk, levelIn, if_pos h1, heldLv, if_neg (by omega), if_neg (by omega)]
/-! Tones. -/
theorem toneTo_at {key f a d s r h : Int} {n k : Nat} (hk : k < n) : gi (toneTo key f a d s r h n) k = toneAt key f a d s r h k := by
  rw [← gi_get (zs := toneTo key f a d s r h n) (by rw [toneTo_len]; exact hk)]; simp [toneTo]
theorem toneTo_take (key f a d s r h : Int) (n m : Nat) (hm : m ≤ n) : (toneTo key f a d s r h n).take m = toneTo key f a d s r h m := by
  unfold toneTo; rw [← List.map_take, List.take_range, Nat.min_eq_left hm]
theorem tdiv_bd2 (x : Int) (h : -30000000 ≤ x ∧ x ≤ 30000000) : -30000 ≤ x.tdiv 1000 ∧ x.tdiv 1000 ≤ 30000 := by
  rcases Int.le_total 0 x with h0 | h0
  · rw [Int.tdiv_eq_ediv_of_nonneg h0]; omega
  · have e : x.tdiv 1000 = -((-x).tdiv 1000) := by rw [Int.neg_tdiv, Int.neg_neg]
    rw [e, Int.tdiv_eq_ediv_of_nonneg (by omega)]; omega
theorem toneAt_bd {key f a d s r h : Int} {k : Nat} (hk : lvlOk a d s r h k) : -30000 ≤ toneAt key f a d s r h k ∧ toneAt key f a d s r h k ≤ 30000 := by
  have h1 := waveL_bd f (((k : Int) * speedL key) % 1000000 / 1000)
  have h2 := levelL_bd hk
  have h3 := mul_abs (X := 1000) (Y := 1000) h1 h2 (by omega)
  unfold toneAt
  generalize waveL f (((k : Int) * speedL key) % 1000000 / 1000) * levelL a d s r h k = p at *
  exact tdiv_bd2 _ (by omega)
theorem toneL_yes {key f a d s r h m : Int} (hx : toneL key f a d s r h m ≠ []) : toneOk key f a d s r h m ∧ toneL key f a d s r h m = toneTo key f a d s r h m.toNat := by
  unfold toneL at hx ⊢
  by_cases hc : toneOk key f a d s r h m
  · exact ⟨hc, by rw [if_pos hc]⟩
  · rw [if_neg hc] at hx; exact absurd rfl hx
theorem tone_zero {key f a d s r h : Int} {k : Nat} (hk : lvlOk a d s r h k) (hr : h + r ≤ k) : toneAt key f a d s r h k = 0 := by
  unfold toneAt; rw [lvl_end hk hr]; simp
theorem tone_ok {key f a d s r h : Int} {n : Nat} (h3 : shapeL a d s r = true) (h4 : inR h 0 200 = true) (hn : n ≤ 200) : ∀ z ∈ toneTo key f a d s r h n, -30000 ≤ z ∧ z ≤ 30000 := by
  intro z hz
  obtain ⟨k, hk, rfl⟩ := List.mem_map.1 hz
  exact toneAt_bd (lvlOk_mk h3 h4 (List.mem_range.1 hk) hn)
theorem tone_peak {zs : List Int} (h : ∀ z ∈ zs, -30000 ≤ z ∧ z ≤ 30000) : peakTo zs ≤ 30000 := by
  rcases (pk_all zs 0).2.2 with h2 | ⟨z, hz, h2⟩
  · have e : peakTo zs = zs.foldl pk1 0 := rfl
    omega
  · have e : peakTo zs = zs.foldl pk1 0 := rfl
    have := h z hz
    omega
end Go.Proofs.Ytijbciiocmdmmaa
