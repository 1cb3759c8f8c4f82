/- Plain laws of alignments: the cost of a list of links, the alignment found from the end, the best place; no program. -/
import Derived.Test.YtfmdpnnddhelaaaFoll
namespace Go.Proofs.Ytfmdpnnddhelaaa
set_option linter.unusedVariables false

/-- a link is refused at (i, j) -/
def badL (a b : List Int) (i j : Nat) (l : Int × Int) : Bool :=
  (l.1 == -1 && l.2 == -1) || (l.1 != -1 && (l.1 != (i : Int) || (i : Int) == (a.length : Int))) || (l.2 != -1 && (l.2 != (j : Int) || (j : Int) == (b.length : Int)))
def costL (a b : List Int) (i j : Nat) (l : Int × Int) : Int := if l.1 != -1 && l.2 != -1 then lc (gi a i) (gi b j) else 2
def upS (l : Int × Int) (i : Nat) : Nat := if l.1 != -1 then i + 1 else i
def upP (l : Int × Int) (j : Nat) : Nat := if l.2 != -1 then j + 1 else j
/-- the cost of links from (i, j) on -/
def runL (a b : List Int) : List (Int × Int) → Nat → Nat → Int → Int
  | [], i, j, c => if i < a.length ∨ j < b.length then -1 else c
  | l :: r, i, j, c => if badL a b i j l = true then -1 else runL a b r (upS l i) (upP l j) (c + costL a b i j l)
theorem good_split {a b : List Int} {i j : Nat} {l : Int × Int} (h : badL a b i j l = false) (hi : i ≤ a.length) (hj : j ≤ b.length) :
    (l.1 = (i : Int) ∧ l.2 = (j : Int) ∧ i < a.length ∧ j < b.length ∧ costL a b i j l = lc (gi a i) (gi b j) ∧ upS l i = i + 1 ∧ upP l j = j + 1) ∨
    (l.1 = (i : Int) ∧ l.2 = -1 ∧ i < a.length ∧ costL a b i j l = 2 ∧ upS l i = i + 1 ∧ upP l j = j) ∨
    (l.1 = -1 ∧ l.2 = (j : Int) ∧ j < b.length ∧ costL a b i j l = 2 ∧ upS l i = i ∧ upP l j = j + 1) := by
  obtain ⟨s, p⟩ := l
  simp only [badL, costL, upS, upP, Bool.or_eq_false_iff, Bool.and_eq_false_iff, bne_eq_false_iff_eq, beq_eq_false_iff_ne, ne_eq] at h ⊢
  obtain ⟨⟨h1, h2⟩, h3⟩ := h
  by_cases e1 : s = -1
  · by_cases e2 : p = -1
    · subst e1; subst e2; simp at h1
    · have hp : p = (j : Int) ∧ ¬(j : Int) = (b.length : Int) := by
        rcases h3 with h3 | h3
        · exact absurd h3 e2
        · exact h3
      refine .inr (.inr ⟨e1, hp.1, by omega, ?_, ?_, ?_⟩) <;> simp [e1, e2]
  · have hs : s = (i : Int) ∧ ¬(i : Int) = (a.length : Int) := by
      rcases h2 with h2 | h2
      · exact absurd h2 e1
      · exact h2
    by_cases e2 : p = -1
    · refine .inr (.inl ⟨hs.1, e2, by omega, ?_, ?_, ?_⟩) <;> simp [e1, e2]
    · have hp : p = (j : Int) ∧ ¬(j : Int) = (b.length : Int) := by
        rcases h3 with h3 | h3
        · exact absurd h3 e2
        · exact h3
      refine .inl ⟨hs.1, hp.1, by omega, by omega, ?_, ?_, ?_⟩ <;> simp [e1, e2]
theorem runL_ge {a b : List Int} : ∀ (ls : List (Int × Int)) (i j : Nat) (c : Int), i ≤ a.length → j ≤ b.length → D a b i j ≤ c → runL a b ls i j c = -1 ∨ D a b a.length b.length ≤ runL a b ls i j c := by
  intro ls
  induction ls with
  | nil =>
    intro i j c hi hj hc
    unfold runL
    split
    · exact .inl rfl
    · have e1 : i = a.length := by omega
      have e2 : j = b.length := by omega
      subst e1; subst e2
      exact .inr hc
  | cons l r ih =>
    intro i j c hi hj hc
    unfold runL
    cases hb : badL a b i j l with
    | true => exact .inl (by simp)
    | false =>
      simp only [Bool.false_eq_true, if_false]
      rcases good_split hb hi hj with ⟨_, _, h1, h2, h3, h4, h5⟩ | ⟨_, _, h1, h3, h4, h5⟩ | ⟨_, _, h2, h3, h4, h5⟩
      · rw [h3, h4, h5]
        refine ih _ _ _ (by omega) (by omega) ?_
        rw [D_ss]; omega
      · rw [h3, h4, h5]
        refine ih _ _ _ (by omega) hj ?_
        have := D_down a b i j; omega
      · rw [h3, h4, h5]
        refine ih _ _ _ hi (by omega) ?_
        have := D_right a b i j; omega
theorem runL_none {a b : List Int} : ∀ (ls : List (Int × Int)) (i j : Nat) (c : Int), runL a b (ls ++ [(-1, -1)]) i j c = -1 := by
  intro ls
  induction ls with
  | nil => intro i j c; simp [runL, badL]
  | cons l r ih =>
    intro i j c
    rw [List.cons_append, runL]
    split
    · rfl
    · exact ih _ _ _
theorem runL_bd {a b : List Int} : ∀ (ls : List (Int × Int)) (i j : Nat) (c : Int), 0 ≤ c → -1 ≤ runL a b ls i j c := by
  intro ls
  induction ls with
  | nil => intro i j c h; unfold runL; split <;> omega
  | cons l r ih =>
    intro i j c h
    unfold runL
    split
    · omega
    · refine ih _ _ _ ?_
      have h1 := lc_bd (gi a i) (gi b j)
      unfold costL; split <;> omega
/-- the alignment from the end on, last link first -/
def btL (a b : List Int) : Nat → Nat → Nat → List (Int × Int)
  | 0, _, _ => []
  | f + 1, i, j =>
    if i = 0 ∧ j = 0 then []
    else if 0 < i ∧ 0 < j ∧ D a b i j = D a b (i - 1) (j - 1) + lc (gi a (i - 1)) (gi b (j - 1)) then (((i - 1 : Nat) : Int), ((j - 1 : Nat) : Int)) :: btL a b f (i - 1) (j - 1)
    else if 0 < i ∧ D a b i j = D a b (i - 1) j + 2 then (((i - 1 : Nat) : Int), -1) :: btL a b f (i - 1) j
    else (-1, ((j - 1 : Nat) : Int)) :: btL a b f i (j - 1)
theorem bt_last {a b : List Int} {i j : Nat} (h0 : ¬(i = 0 ∧ j = 0)) (h1 : ¬(0 < i ∧ 0 < j ∧ D a b i j = D a b (i - 1) (j - 1) + lc (gi a (i - 1)) (gi b (j - 1)))) (h2 : ¬(0 < i ∧ D a b i j = D a b (i - 1) j + 2)) :
    0 < j ∧ D a b i j = D a b i (j - 1) + 2 := by
  cases i with
  | zero =>
    refine ⟨by omega, ?_⟩
    rw [D_0, D_0]; omega
  | succ i =>
    cases j with
    | zero => exact absurd ⟨by omega, by rw [D_i0, D_i0]; omega⟩ h2
    | succ j =>
      refine ⟨by omega, ?_⟩
      simp only [Nat.add_sub_cancel] at h1 h2 ⊢
      have e := D_ss a b i j
      have h1' : ¬ D a b (i + 1) (j + 1) = D a b i j + lc (gi a i) (gi b j) := fun h => h1 ⟨by omega, by omega, h⟩
      have h2' : ¬ D a b (i + 1) (j + 1) = D a b i (j + 1) + 2 := fun h => h2 ⟨by omega, h⟩
      omega
theorem btL_len (a b : List Int) : ∀ f i j : Nat, (btL a b f i j).length ≤ f := by
  intro f
  induction f with
  | zero => intro i j; simp [btL]
  | succ f ih =>
    intro i j
    unfold btL
    (repeat' split) <;> simp <;> exact ih _ _
theorem btL_run {a b : List Int} : ∀ (f i j : Nat) (rest : List (Int × Int)), i + j ≤ f → i ≤ a.length → j ≤ b.length → runL a b ((btL a b f i j).reverse ++ rest) 0 0 0 = runL a b rest i j (D a b i j) := by
  intro f
  induction f with
  | zero =>
    intro i j rest h hi hj
    obtain rfl : i = 0 := by omega
    obtain rfl : j = 0 := by omega
    simp [btL, D_0]
  | succ f ih =>
    intro i j rest h hi hj
    unfold btL
    split
    · rename_i h0
      obtain ⟨rfl, rfl⟩ := h0
      simp [D_0]
    · rename_i h0
      split
      · rename_i h1
        rw [List.reverse_cons, List.append_assoc, ih _ _ _ (by omega) (by omega) (by omega), List.singleton_append, runL]
        obtain ⟨p1, p2, p3⟩ := h1
        have hb : badL a b (i - 1) (j - 1) (((i - 1 : Nat) : Int), ((j - 1 : Nat) : Int)) = false := by
          simp [badL]; omega
        rw [hb, if_neg (by simp)]
        have e1 : upS (((i - 1 : Nat) : Int), ((j - 1 : Nat) : Int)) (i - 1) = i := by
          have : (((i - 1 : Nat) : Int) != -1) = true := by simp; try omega
          simp only [upS, this, if_true]; omega
        have e2 : upP (((i - 1 : Nat) : Int), ((j - 1 : Nat) : Int)) (j - 1) = j := by
          have : (((j - 1 : Nat) : Int) != -1) = true := by simp; try omega
          simp only [upP, this, if_true]; omega
        have e3 : costL a b (i - 1) (j - 1) (((i - 1 : Nat) : Int), ((j - 1 : Nat) : Int)) = lc (gi a (i - 1)) (gi b (j - 1)) := by
          have h1 : (((i - 1 : Nat) : Int) != -1) = true := by simp; try omega
          have h2 : (((j - 1 : Nat) : Int) != -1) = true := by simp; try omega
          simp only [costL, h1, h2, Bool.and_self, if_true]
        rw [e1, e2, e3, p3]
      · rename_i h1
        split
        · rename_i h2
          rw [List.reverse_cons, List.append_assoc, ih _ _ _ (by omega) (by omega) (by omega), List.singleton_append, runL]
          obtain ⟨p1, p3⟩ := h2
          have hb : badL a b (i - 1) j (((i - 1 : Nat) : Int), -1) = false := by
            simp [badL]; omega
          rw [hb, if_neg (by simp)]
          have e1 : upS (((i - 1 : Nat) : Int), -1) (i - 1) = i := by
            have : (((i - 1 : Nat) : Int) != -1) = true := by simp; try omega
            simp only [upS, this, if_true]; omega
          have e2 : upP (((i - 1 : Nat) : Int), -1) j = j := by simp [upP]
          have e3 : costL a b (i - 1) j (((i - 1 : Nat) : Int), -1) = 2 := by simp [costL]
          rw [e1, e2, e3, p3]
        · rename_i h2
          obtain ⟨p1, p3⟩ := bt_last h0 h1 h2
          rw [List.reverse_cons, List.append_assoc, ih _ _ _ (by omega) (by omega) (by omega), List.singleton_append, runL]
          have hb : badL a b i (j - 1) (-1, ((j - 1 : Nat) : Int)) = false := by
            simp [badL]; omega
          rw [hb, if_neg (by simp)]
          have e1 : upS (-1, ((j - 1 : Nat) : Int)) i = i := by simp [upS]
          have e2 : upP (-1, ((j - 1 : Nat) : Int)) (j - 1) = j := by
            have : (((j - 1 : Nat) : Int) != -1) = true := by simp; try omega
            simp only [upP, this, if_true]; omega
          have e3 : costL a b i (j - 1) (-1, ((j - 1 : Nat) : Int)) = 2 := by simp [costL]
          rw [e1, e2, e3, p3]
/-- the alignment -/
def linksTo (a b : List Int) : List (Int × Int) := (btL a b (a.length + b.length) a.length b.length).reverse
theorem links_cost (a b : List Int) : runL a b (linksTo a b) 0 0 0 = D a b a.length b.length := by
  have := btL_run (a := a) (b := b) (a.length + b.length) a.length b.length [] (Nat.le_refl _) (Nat.le_refl _) (Nat.le_refl _)
  rw [List.append_nil] at this
  rw [linksTo, this, runL, if_neg (by omega)]
theorem links_len (a b : List Int) : (linksTo a b).length ≤ a.length + b.length := by
  rw [linksTo, List.length_reverse]; exact btL_len _ _ _ _ _
/-- the greatest place of least cost among the first n -/
def bestTo (f : Nat → Int) : Nat → Nat
  | 0 => 0
  | n + 1 => if f n ≤ f (bestTo f n) then n else bestTo f n
theorem bestTo_le (f : Nat → Int) : ∀ n : Nat, bestTo f n ≤ n - 1 ∧ (0 < n → bestTo f n < n) := by
  intro n
  induction n with
  | zero => exact ⟨by simp [bestTo], fun h => by omega⟩
  | succ n ih => unfold bestTo; split <;> omega
theorem bestTo_least (f : Nat → Int) : ∀ n k : Nat, k < n → f (bestTo f n) ≤ f k ∧ (f k = f (bestTo f n) → k ≤ bestTo f n) := by
  intro n
  induction n with
  | zero => intro k h; omega
  | succ n ih =>
    intro k hk
    unfold bestTo
    rcases Nat.lt_or_ge k n with hlt | hge
    · obtain ⟨h1, h2⟩ := ih k hlt
      split
      · exact ⟨by omega, fun _ => by omega⟩
      · exact ⟨h1, h2⟩
    · obtain rfl : k = n := by omega
      split
      · exact ⟨Int.le_refl _, fun _ => Nat.le_refl _⟩
      · rename_i h
        exact ⟨by omega, fun e => by omega⟩
theorem bestTo_one {f : Nat → Int} {n p : Nat} (hp : p < n) (h : ∀ k, k < n → k ≠ p → f p < f k) : bestTo f n = p := by
  have h1 := (bestTo_least f n p hp).1
  have h2 := (bestTo_le f n).2 (by omega)
  by_cases e : bestTo f n = p
  · exact e
  · have := h _ h2 e; omega
/-- the beginning of a score is found -/
theorem place_half (a : List Int) (h : Nat) (hh : h ≤ a.length) : bestTo (fun i => D a (a.take h) i h) (a.length + 1) = h := by
  apply bestTo_one (by omega)
  intro k hk hne
  have e : D a (a.take h) h h = 0 := by
    have := D_congr (a := a) (b := a.take h) (a' := a) (b' := a) (i := h) (j := h) (fun _ _ => rfl) (fun k hk => by simp [gi, hk])
    rw [this, D_diag]
  have g := D_ge a (a.take h) k h
  simp only [e]; omega
end Go.Proofs.Ytfmdpnnddhelaaa
