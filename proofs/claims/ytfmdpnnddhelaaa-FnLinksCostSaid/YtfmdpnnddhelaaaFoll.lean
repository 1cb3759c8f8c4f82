/- The plain law of score following: the table of least costs, its laws; no program. -/
import Derived.Test.YtfmdpnnddhelaaaBase
namespace Go.Proofs.Ytfmdpnnddhelaaa
set_option linter.unusedVariables false

/-- what a key costs that is played for another one -/
def lc (a b : Int) : Int := if a = b then 0 else if -2 ≤ a - b ∧ a - b ≤ 2 then 2 else 3
theorem lc_bd (a b : Int) : 0 ≤ lc a b ∧ lc a b ≤ 3 := by unfold lc; split <;> (try split) <;> omega
theorem lc_comm (a b : Int) : lc a b = lc b a := by unfold lc; (repeat' split) <;> omega
theorem lc_zero {a b : Int} : lc a b = 0 ↔ a = b := by unfold lc; (repeat' split) <;> omega
/-- the next row of the table -/
def rowD (f c : Nat → Int) (s : Int) : Nat → Int
  | 0 => s
  | j + 1 => min (min (f j + c j) (f (j + 1) + 2)) (rowD f c s j + 2)
/-- the least cost of the first i keys of a with the first j keys of b -/
def D (a b : List Int) : Nat → Nat → Int
  | 0 => fun j => 2 * (j : Int)
  | i + 1 => rowD (D a b i) (fun j => lc (gi a i) (gi b j)) (2 * ((i + 1 : Nat) : Int))
theorem D_0 (a b : List Int) (j : Nat) : D a b 0 j = 2 * (j : Int) := rfl
theorem D_s0 (a b : List Int) (i : Nat) : D a b (i + 1) 0 = 2 * ((i + 1 : Nat) : Int) := rfl
theorem D_i0 (a b : List Int) (i : Nat) : D a b i 0 = 2 * (i : Int) := by cases i <;> simp [D, rowD]
theorem D_ss (a b : List Int) (i j : Nat) : D a b (i + 1) (j + 1) = min (min (D a b i j + lc (gi a i) (gi b j)) (D a b i (j + 1) + 2)) (D a b (i + 1) j + 2) := rfl
theorem D_le (a b : List Int) : ∀ i j : Nat, D a b i j ≤ 2 * (i : Int) + 2 * (j : Int) := by
  intro i
  induction i with
  | zero => intro j; rw [D_0]; omega
  | succ i ih =>
    intro j
    induction j with
    | zero => rw [D_s0]; omega
    | succ j jh => rw [D_ss]; have := ih (j + 1); omega
theorem D_ge (a b : List Int) : ∀ i j : Nat, 0 ≤ D a b i j ∧ 2 * ((i : Int) - (j : Int)) ≤ D a b i j ∧ 2 * ((j : Int) - (i : Int)) ≤ D a b i j := by
  intro i
  induction i with
  | zero => intro j; rw [D_0]; omega
  | succ i ih =>
    intro j
    induction j with
    | zero => rw [D_s0]; omega
    | succ j jh => rw [D_ss]; have h1 := ih (j + 1); have h2 := ih j; have h3 := lc_bd (gi a i) (gi b j); omega
theorem D_comm (a b : List Int) : ∀ i j : Nat, D a b i j = D b a j i := by
  intro i
  induction i with
  | zero => intro j; rw [D_0, D_i0]
  | succ i ih =>
    intro j
    induction j with
    | zero => rw [D_s0, D_0]
    | succ j jh => rw [D_ss, D_ss, ih j, ih (j + 1), jh, lc_comm]; omega
/-- a further key played costs at most 2 more -/
theorem D_right (a b : List Int) (i j : Nat) : D a b i (j + 1) ≤ D a b i j + 2 := by
  cases i with
  | zero => rw [D_0, D_0]; omega
  | succ i => rw [D_ss]; omega
theorem D_down (a b : List Int) (i j : Nat) : D a b (i + 1) j ≤ D a b i j + 2 := by
  cases j with
  | zero => rw [D_i0, D_i0]; omega
  | succ j => rw [D_ss]; omega
theorem D_left (a b : List Int) : ∀ i j : Nat, D a b i j ≤ D a b i (j + 1) + 2 := by
  intro i
  induction i with
  | zero => intro j; rw [D_0, D_0]; omega
  | succ i ih =>
    intro j
    rw [D_ss]
    have h1 := D_down a b i j
    have h2 := ih j
    have h3 := lc_bd (gi a i) (gi b j)
    omega
theorem D_diag (a : List Int) : ∀ i : Nat, D a a i i = 0 := by
  intro i
  induction i with
  | zero => rw [D_0]; omega
  | succ i ih =>
    have h := (D_ge a a (i + 1) (i + 1)).1
    have e : lc (gi a i) (gi a i) = 0 := lc_zero.2 rfl
    rw [D_ss, ih, e] at h ⊢
    omega
theorem D_zero {a b : List Int} : ∀ {i j : Nat}, D a b i j = 0 → i = j ∧ ∀ k, k < i → gi a k = gi b k := by
  intro i
  induction i with
  | zero => intro j h; rw [D_0] at h; exact ⟨by omega, fun k hk => by omega⟩
  | succ i ih =>
    intro j h
    cases j with
    | zero => rw [D_s0] at h; omega
    | succ j =>
      rw [D_ss] at h
      have g1 := (D_ge a b i j).1
      have g2 := (D_ge a b i (j + 1)).1
      have g3 := (D_ge a b (i + 1) j).1
      have g4 := lc_bd (gi a i) (gi b j)
      obtain ⟨e, hk⟩ := ih (show D a b i j = 0 by omega)
      have hl := lc_zero.1 (show lc (gi a i) (gi b j) = 0 by omega)
      subst e
      refine ⟨rfl, fun k hki => ?_⟩
      rcases Nat.lt_or_ge k i with h1 | h1
      · exact hk k h1
      · obtain rfl : k = i := by omega
        exact hl
/-- only the keys that are looked at matter -/
theorem D_congr {a b a' b' : List Int} : ∀ {i j : Nat}, (∀ k, k < i → gi a k = gi a' k) → (∀ k, k < j → gi b k = gi b' k) → D a b i j = D a' b' i j := by
  intro i
  induction i with
  | zero => intro j _ _; rfl
  | succ i ih =>
    intro j
    induction j with
    | zero => intro _ _; rfl
    | succ j jh =>
      intro ha hb
      rw [D_ss, D_ss, ih (fun k hk => ha k (by omega)) (fun k hk => hb k (by omega)), ih (fun k hk => ha k (by omega)) hb, jh ha (fun k hk => hb k (by omega)), ha i (by omega), hb j (by omega)]
end Go.Proofs.Ytfmdpnnddhelaaa
