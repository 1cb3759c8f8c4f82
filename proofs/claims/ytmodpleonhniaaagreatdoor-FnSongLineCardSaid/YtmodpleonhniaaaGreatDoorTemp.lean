/- Plain laws of tempos: the time of a tick, the tick of a time; no program. -/
import Derived.Test.YtmodpleonhniaaaGreatDoorMrg1
namespace Go.Proofs.YtmodpleonhniaaaGreatDoor
set_option linter.unusedVariables false
open Go.RowKit

/-- the k-th tempo is right -/
def tgB (ts : List (Int × Int)) (k : Nat) : Bool := inR (glTempo ts k).2 100 100000 && (decide ((glTempo ts k).1 ≤ 50000) && (decide (k = 0) || decide ((glTempo ts (k - 1)).1 < (glTempo ts k).1)))
/-- tempos are valid -/
def tvB (ts : List (Int × Int)) : Bool :=
  (inR ts.length 1 8 && decide ((glTempo ts 0).1 = 0)) && (List.range ts.length).all (tgB ts)
theorem tv_bad {ts : List (Int × Int)} {k : Nat} (hk : k < ts.length) (h : tgB ts k = false) : tvB ts = false := by
  unfold tvB
  rw [Bool.and_eq_false_iff]
  exact .inr (List.all_eq_false.2 ⟨k, List.mem_range.2 hk, by simp [h]⟩)
theorem tv_all {ts : List (Int × Int)} (h : ∀ k, k < ts.length → tgB ts k = true) : tvB ts = (inR ts.length 1 8 && decide ((glTempo ts 0).1 = 0)) := by
  unfold tvB
  rw [show (List.range ts.length).all (tgB ts) = true from List.all_eq_true.2 fun k hk => h k (List.mem_range.1 hk), Bool.and_true]
theorem tv_no {ts : List (Int × Int)} (h : inR ts.length 1 8 = false ∨ (glTempo ts 0).1 ≠ 0) : tvB ts = false := by
  unfold tvB
  rcases h with h | h
  · rw [h]; simp
  · simp [h]
theorem tvB_iff {ts : List (Int × Int)} : tvB ts = true ↔ (1 ≤ ts.length ∧ ts.length ≤ 8) ∧ (glTempo ts 0).1 = 0 ∧ ∀ k, k < ts.length → (100 ≤ (glTempo ts k).2 ∧ (glTempo ts k).2 ≤ 100000) ∧ (glTempo ts k).1 ≤ 50000 ∧ (0 < k → (glTempo ts (k - 1)).1 < (glTempo ts k).1) := by
  simp only [tvB, tgB, Bool.and_eq_true, inR_iff, decide_eq_true_eq, List.all_eq_true, List.mem_range, Bool.or_eq_true]
  constructor
  · rintro ⟨⟨h1, h2⟩, h3⟩
    refine ⟨by omega, h2, fun k hk => ?_⟩
    obtain ⟨a, b, c⟩ := h3 k hk
    exact ⟨a, b, fun h0 => by rcases c with c | c; omega; exact c⟩
  · rintro ⟨h1, h2, h3⟩
    refine ⟨⟨by omega, h2⟩, fun k hk => ?_⟩
    obtain ⟨a, b, c⟩ := h3 k hk
    refine ⟨a, b, ?_⟩
    rcases Nat.eq_zero_or_pos k with h | h
    · exact .inl h
    · exact .inr (c h)
/-- where the k-th tempo ends, at most at a tick -/
def endL (ts : List (Int × Int)) (t : Int) (k : Nat) : Int := if k + 1 < ts.length then min t (glTempo ts (k + 1)).1 else t
def segL (ts : List (Int × Int)) (t : Int) (k : Nat) : Int := max 0 (endL ts t k - (glTempo ts k).1) * (glTempo ts k).2
def timeTo (ts : List (Int × Int)) (t : Int) : Nat → Int
  | 0 => 0
  | k + 1 => timeTo ts t k + segL ts t k
def timeL (ts : List (Int × Int)) (t : Int) : Int := timeTo ts t ts.length
section
variable {ts : List (Int × Int)}
theorem tv_start (h : tvB ts = true) : ∀ k, k < ts.length → 0 ≤ (glTempo ts k).1 := by
  obtain ⟨h1, h2, h3⟩ := tvB_iff.1 h
  intro k
  induction k with
  | zero => intro _; omega
  | succ k ih =>
    intro hk
    have := (h3 (k + 1) hk).2.2 (by omega)
    have := ih (by omega)
    simp only [Nat.add_sub_cancel] at *
    omega
theorem seg_bd (h : tvB ts = true) {t : Int} (ht : 0 ≤ t) {k : Nat} (hk : k < ts.length) : 0 ≤ segL ts t k ∧ segL ts t k ≤ max 0 (endL ts t k - (glTempo ts k).1) * 100000 := by
  obtain ⟨_, _, h3⟩ := tvB_iff.1 h
  obtain ⟨⟨a, b⟩, _⟩ := h3 k hk
  unfold segL
  have hm : 0 ≤ max 0 (endL ts t k - (glTempo ts k).1) := by omega
  exact ⟨Int.mul_nonneg hm (by omega), Int.mul_le_mul_of_nonneg_left b hm⟩
theorem timeTo_bd (h : tvB ts = true) {t : Int} (ht : 0 ≤ t) : ∀ k, k ≤ ts.length → 0 ≤ timeTo ts t k ∧ timeTo ts t k ≤ 100000 * (if k < ts.length then min t (glTempo ts k).1 else t) := by
  obtain ⟨_, h2, h3⟩ := tvB_iff.1 h
  intro k
  induction k with
  | zero => intro hk; simp only [timeTo]; split <;> omega
  | succ k ih =>
    intro hk
    obtain ⟨i1, i2⟩ := ih (by omega)
    obtain ⟨s1, s2⟩ := seg_bd h ht (show k < ts.length by omega)
    rw [if_pos (show k < ts.length by omega)] at i2
    have hs := tv_start h k (by omega)
    simp only [timeTo]
    refine ⟨by omega, ?_⟩
    by_cases hlt : k + 1 < ts.length
    · have := (h3 (k + 1) hlt).2.2 (by omega)
      simp only [Nat.add_sub_cancel] at this
      rw [if_pos hlt]
      simp only [endL, if_pos hlt] at s2
      omega
    · rw [if_neg hlt]
      simp only [endL, if_neg hlt] at s2
      omega
theorem timeL_bd (h : tvB ts = true) {t : Int} (ht : 0 ≤ t) : 0 ≤ timeL ts t ∧ timeL ts t ≤ 100000 * t := by
  have := timeTo_bd h ht ts.length (Nat.le_refl _)
  rw [if_neg (by omega)] at this
  exact this
theorem seg_mono (h : tvB ts = true) {t u : Int} (hu : t ≤ u) {k : Nat} (hk : k < ts.length) : segL ts t k ≤ segL ts u k := by
  obtain ⟨_, _, h3⟩ := tvB_iff.1 h
  obtain ⟨⟨a, b⟩, _⟩ := h3 k hk
  unfold segL
  refine Int.mul_le_mul_of_nonneg_right ?_ (by omega)
  unfold endL
  split <;> omega
theorem timeTo_mono (h : tvB ts = true) {t u : Int} (hu : t ≤ u) : ∀ k, k ≤ ts.length → timeTo ts t k ≤ timeTo ts u k := by
  intro k
  induction k with
  | zero => intro _; exact Int.le_refl _
  | succ k ih =>
    intro hk
    have := ih (by omega)
    have := seg_mono h hu (show k < ts.length by omega)
    simp only [timeTo]; omega
theorem timeTo_more (h : tvB ts = true) {t : Int} {j : Nat} (hj : j < ts.length) (hs : segL ts t j + 100 ≤ segL ts (t + 1) j) : ∀ k, j < k → k ≤ ts.length → timeTo ts t k + 100 ≤ timeTo ts (t + 1) k := by
  intro k
  induction k with
  | zero => intro h0; omega
  | succ k ih =>
    intro h1 hk
    simp only [timeTo]
    rcases Nat.lt_or_ge j k with hlt | hge
    · have := ih hlt (by omega)
      have := seg_mono h (show t ≤ t + 1 by omega) (show k < ts.length by omega)
      omega
    · obtain rfl : j = k := by omega
      have := timeTo_mono h (show t ≤ t + 1 by omega) j (by omega)
      omega
/-- the tempo at a tick -/
theorem tempo_at (h : tvB ts = true) {t : Int} (ht : 0 ≤ t) : ∃ j, j < ts.length ∧ (glTempo ts j).1 ≤ t ∧ (j + 1 < ts.length → t < (glTempo ts (j + 1)).1) := by
  obtain ⟨h1, h2, h3⟩ := tvB_iff.1 h
  have key : ∀ n, n < ts.length → (∃ j, j < ts.length ∧ (glTempo ts j).1 ≤ t ∧ (j + 1 < ts.length → t < (glTempo ts (j + 1)).1)) ∨ (glTempo ts n).1 ≤ t := by
    intro n
    induction n with
    | zero => intro _; exact .inr (by omega)
    | succ n ih =>
      intro hn
      rcases ih (by omega) with hh | hh
      · exact .inl hh
      · by_cases hc : (glTempo ts (n + 1)).1 ≤ t
        · exact .inr hc
        · exact .inl ⟨n, by omega, hh, fun _ => by omega⟩
  rcases key (ts.length - 1) (by omega) with hh | hh
  · exact hh
  · exact ⟨ts.length - 1, by omega, hh, fun hx => by omega⟩
theorem timeL_step (h : tvB ts = true) {t : Int} (ht : 0 ≤ t) : timeL ts t + 100 ≤ timeL ts (t + 1) := by
  obtain ⟨j, hj, h1, h2⟩ := tempo_at h ht
  obtain ⟨_, _, h3⟩ := tvB_iff.1 h
  obtain ⟨⟨a, b⟩, _⟩ := h3 j hj
  refine timeTo_more h hj ?_ ts.length hj (Nat.le_refl _)
  unfold segL
  have e1 : max 0 (endL ts t j - (glTempo ts j).1) = t - (glTempo ts j).1 := by
    unfold endL; split
    · rename_i hlt; have := h2 hlt; omega
    · omega
  have e2 : max 0 (endL ts (t + 1) j - (glTempo ts j).1) = t - (glTempo ts j).1 + 1 := by
    unfold endL; split
    · rename_i hlt; have := h2 hlt; omega
    · omega
  rw [e1, e2, Int.add_mul]; omega
theorem timeL_mono (h : tvB ts = true) {t u : Int} (hu : t ≤ u) : timeL ts t ≤ timeL ts u := timeTo_mono h hu _ (Nat.le_refl _)
theorem timeL_lt (h : tvB ts = true) {t u : Int} (ht : 0 ≤ t) (hu : t < u) : timeL ts t < timeL ts u := by
  have h1 := timeL_step h ht
  have h2 := timeL_mono h (show t + 1 ≤ u by omega)
  omega
theorem timeL_zero (h : tvB ts = true) : timeL ts 0 = 0 := by
  have := timeL_bd h (Int.le_refl 0); omega
end
/-- the last place below n or at it with a value of at most x -/
def lastT (f : Nat → Int) (x : Int) : Nat → Nat
  | 0 => 0
  | n + 1 => if f (n + 1) ≤ x then n + 1 else lastT f x n
theorem lastT_le (f : Nat → Int) (x : Int) : ∀ n, lastT f x n ≤ n := by
  intro n
  induction n with
  | zero => exact Nat.le_refl _
  | succ n ih => unfold lastT; split <;> omega
theorem lastT_gt (f : Nat → Int) (x : Int) : ∀ n k, lastT f x n < k → k ≤ n → x < f k := by
  intro n
  induction n with
  | zero => intro k h1 h2; omega
  | succ n ih =>
    intro k h1 h2
    unfold lastT at h1
    split at h1
    · omega
    · rename_i hc
      rcases Nat.lt_or_ge n k with h | h
      · obtain rfl : k = n + 1 := by omega
        omega
      · exact ih k h1 h
theorem lastT_at (f : Nat → Int) (x : Int) (h0 : f 0 ≤ x) : ∀ n, f (lastT f x n) ≤ x := by
  intro n
  induction n with
  | zero => exact h0
  | succ n ih =>
    unfold lastT
    split
    · assumption
    · exact ih
theorem lastT_eq (f : Nat → Int) (x : Int) {n r : Nat} (hr : r ≤ n) (h1 : r = 0 ∨ f r ≤ x) (h2 : ∀ k, r < k → k ≤ n → x < f k) : lastT f x n = r := by
  induction n with
  | zero => simp only [lastT]; omega
  | succ n ih =>
    unfold lastT
    rcases Nat.lt_or_ge n r with h | h
    · obtain rfl : r = n + 1 := by omega
      rw [if_pos (by omega)]
    · have := h2 (n + 1) (by omega) (Nat.le_refl _)
      rw [if_neg (by omega)]
      exact ih h fun k a b => h2 k a (by omega)
/-- the tick at a time -/
def tickN (ts : List (Int × Int)) (x : Int) : Nat := lastT (fun t => timeL ts (t : Int)) x 50000
def tickL (ts : List (Int × Int)) (x : Int) : Int := if tvB ts = true ∧ 0 ≤ x then (tickN ts x : Int) else -1
theorem tickN_le (ts : List (Int × Int)) (x : Int) : tickN ts x ≤ 50000 := lastT_le _ _ _
theorem tickN_eq {ts : List (Int × Int)} (h : tvB ts = true) {x : Int} {r : Nat} (hr : r ≤ 50000) (h1 : timeL ts r ≤ x) (h2 : r < 50000 → x < timeL ts ((r + 1 : Nat) : Int)) : tickN ts x = r := by
  refine lastT_eq _ _ hr (.inr h1) fun k a b => ?_
  have := h2 (by omega)
  have := timeL_mono h (show ((r + 1 : Nat) : Int) ≤ (k : Int) by omega)
  omega
theorem tick_time {ts : List (Int × Int)} (h : tvB ts = true) {t : Nat} (ht : t ≤ 50000) : tickL ts (timeL ts t) = t := by
  have hb := timeL_bd h (show 0 ≤ (t : Int) by omega)
  unfold tickL
  rw [if_pos ⟨h, hb.1⟩, tickN_eq h ht (Int.le_refl _) fun _ => timeL_lt h (by omega) (by omega)]
theorem tickL_in {ts : List (Int × Int)} (h : tvB ts = true) {x : Int} (hx : 0 ≤ x) : 0 ≤ tickL ts x ∧ tickL ts x ≤ 50000 := by
  unfold tickL
  rw [if_pos ⟨h, hx⟩]
  have := tickN_le ts x
  omega
theorem tickN_mono {ts : List (Int × Int)} (h : tvB ts = true) {x y : Int} (hx : 0 ≤ x) (hy : x ≤ y) : tickN ts x ≤ tickN ts y := by
  have hx0 : timeL ts ((0 : Nat) : Int) ≤ x := by have := timeL_zero h; simp only [Int.natCast_zero] at *; omega
  have h1 : timeL ts (tickN ts x : Int) ≤ x := lastT_at (fun t => timeL ts (t : Int)) x hx0 50000
  rcases Nat.lt_or_ge (tickN ts y) (tickN ts x) with hlt | hge
  · have := lastT_gt (fun t => timeL ts (t : Int)) y 50000 (tickN ts x) hlt (tickN_le ts x)
    omega
  · exact hge
end Go.Proofs.YtmodpleonhniaaaGreatDoor
