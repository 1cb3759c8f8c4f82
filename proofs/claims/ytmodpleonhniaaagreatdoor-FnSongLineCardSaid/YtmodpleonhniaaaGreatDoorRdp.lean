/- Plain laws of reading texts: places of a byte, cutting, splitting, numerals. No program in sight. -/
import Derived.Test.YtmodpleonhniaaaGreatDoorNtx
import Derived.Lib.Split
import Derived.Lib.SplitLaws
import Derived.Lib.Join
import Derived.Lib.Atoi
import Derived.Lib.ItoaNum
import Derived.Lib.Bytealg
namespace Go.Proofs.YtmodpleonhniaaaGreatDoor
open Go.RowKit
set_option linter.unusedSimpArgs false
set_option linter.unusedVariables false
set_option maxRecDepth 100000
theorem idx_none {c : UInt8} : ∀ {a : List UInt8}, c ∉ a → Lib.index a [c] = -1
  | [], _ => rfl
  | b :: a, h => by
    have h1 : c ≠ b := fun e => h (by simp [e])
    have h2 : c ∉ a := fun e => h (by simp [e])
    rw [Lib.index, if_neg (by simp [h1]), idx_none h2]; rfl
theorem idx_hit {c : UInt8} : ∀ {a b : List UInt8}, c ∉ a → Lib.index (a ++ c :: b) [c] = (a.length : Int)
  | [], b, _ => by rw [List.nil_append, Lib.index, if_pos (by simp)]; rfl
  | x :: a, b, h => by
    have h1 : c ≠ x := fun e => h (by simp [e])
    have h2 : c ∉ a := fun e => h (by simp [e])
    rw [List.cons_append, Lib.index, if_neg (by simp [h1]), idx_hit h2, if_neg (by simp; try omega)]; simp
theorem cut_hit {c : UInt8} {a b : List UInt8} (h : c ∉ a) : Lib.cut (a ++ c :: b) [c] = (a, b, true) := by
  unfold Lib.cut
  rw [idx_hit h, if_pos (by omega)]
  simp
theorem cut_none {c : UInt8} {a : List UInt8} (h : c ∉ a) : Lib.cut a [c] = (a, [], false) := by
  unfold Lib.cut
  rw [idx_none h, if_neg (by decide)]
theorem suf_hit (c : UInt8) (a : List UInt8) : Lib.hasSuffix (a ++ [c]) [c] = true ∧ Lib.trimSuffix (a ++ [c]) [c] = a := by
  have h : Lib.hasSuffix (a ++ [c]) [c] = true := by unfold Lib.hasSuffix; rw [List.isSuffixOf_iff_suffix]; exact ⟨a, rfl⟩
  refine ⟨h, ?_⟩
  unfold Lib.trimSuffix
  rw [if_pos h]; simp
theorem suf_none {c : UInt8} {a : List UInt8} (h : c ∉ a) : Lib.hasSuffix a [c] = false ∧ Lib.trimSuffix a [c] = a := by
  have h : Lib.hasSuffix a [c] = false := by
    unfold Lib.hasSuffix
    rw [← Bool.not_eq_true, List.isSuffixOf_iff_suffix]
    rintro ⟨t, rfl⟩
    exact h (by simp)
  refine ⟨h, ?_⟩
  unfold Lib.trimSuffix
  rw [if_neg (by simp [h])]
theorem cnt_one (c : UInt8) (s : List UInt8) : Lib.countB ⟨s.toArray⟩ ⟨#[c]⟩ = s.count c := Lib.count_one c s
/-- the pieces of a joined text -/
theorem split_join : ∀ (xs : List (List UInt8)), xs ≠ [] → (∀ x ∈ xs, (32 : UInt8) ∉ x) → Lib.splitK [32] 0 ((Lib.join xs [32]).count 32) (Lib.join xs [32]) = xs
  | [], h, _ => absurd rfl h
  | [x], _, h => by
    have hx := h x (by simp)
    rw [Lib.join_one, List.count_eq_zero_of_not_mem hx]; rfl
  | x :: y :: r, _, h => by
    have hx := h x (by simp)
    have hj : Lib.join (x :: y :: r) [32] = x ++ 32 :: Lib.join (y :: r) [32] := by
      rw [Lib.join_cons, Lib.join_cons]; simp [Lib.joinTail]
    have ih := split_join (y :: r) (by simp) (fun z hz => h z (by simp [List.mem_cons] at hz ⊢; exact .inr hz))
    rw [hj, List.count_append, List.count_eq_zero_of_not_mem hx, List.count_cons_self, Nat.zero_add, Lib.splitK, idx_hit hx, if_neg (by simp; try omega)]
    simp only [Int.toNat_natCast, Nat.add_zero, List.take_left', List.length_cons, List.length_nil, Nat.zero_add]
    rw [show (x ++ 32 :: Lib.join (y :: r) [32]).drop (x.length + 1) = Lib.join (y :: r) [32] by simp, ih]
theorem dec_app : ∀ (l r : List UInt8) (acc : Nat), Lib.decFrom acc (l ++ r) = (Lib.decFrom acc l).bind fun m => Lib.decFrom m r
  | [], _, _ => rfl
  | b :: l, r, acc => by
    rw [List.cons_append, Lib.decFrom, Lib.decFrom]
    cases Lib.digitVal b
    · rfl
    · exact dec_app l r _
theorem dv_dgt {k : Nat} (h : k < 10) : Lib.digitVal (UInt8.ofNat (48 + k)) = some k := by
  have h2 : (UInt8.ofNat (48 + k)).toNat = 48 + k := by rw [UInt8.toNat_ofNat']; exact Nat.mod_eq_of_lt (by omega)
  unfold Lib.digitVal
  rw [h2, if_pos ⟨by omega, by omega⟩]; congr 1; omega
theorem dec_digits (u : Nat) : Lib.decFrom 0 (Lib.decDigits u) = some u := by
  induction u using Nat.strongRecOn with
  | ind u ih =>
    rw [Lib.decDigits]
    split
    · rename_i h
      rw [Lib.decFrom, dv_dgt h]; simp [Lib.decFrom]
    · rename_i h
      rw [dec_app, ih (u / 10) (by omega)]
      simp only [Option.bind_some, Lib.decFrom]
      rw [dv_dgt (Nat.mod_lt _ (by decide))]
      simp; omega
theorem dd_ne (u : Nat) : Lib.decDigits u ≠ [] := by
  rw [Lib.decDigits]; split <;> simp
theorem dd_mem (u : Nat) : ∀ b ∈ Lib.decDigits u, 48 ≤ b.toNat ∧ b.toNat ≤ 57 := by
  induction u using Nat.strongRecOn with
  | ind u ih =>
    rw [Lib.decDigits]
    have key : ∀ k, k < 10 → 48 ≤ (UInt8.ofNat (48 + k)).toNat ∧ (UInt8.ofNat (48 + k)).toNat ≤ 57 := by
      intro k hk
      have h2 : (UInt8.ofNat (48 + k)).toNat = 48 + k := by rw [UInt8.toNat_ofNat']; exact Nat.mod_eq_of_lt (by omega)
      omega
    split
    · rename_i h
      intro b hb
      rw [List.mem_singleton] at hb; subst hb; exact key _ h
    · intro b hb
      rcases List.mem_append.1 hb with h | h
      · exact ih _ (by omega) b h
      · rw [List.mem_singleton] at h; subst h; exact key _ (Nat.mod_lt _ (by decide))
theorem atoi_digits (u : Nat) : Lib.atoi (Lib.decDigits u) = some (u : Int) := by
  have h1 := dec_digits u; have h2 := dd_mem u
  generalize hl : Lib.decDigits u = l at *
  cases l with
  | nil => exact absurd hl (dd_ne u)
  | cons b r =>
    have hb := h2 b (by simp)
    have n45 : b ≠ 45 := by rintro rfl; revert hb; decide
    have n43 : b ≠ 43 := by rintro rfl; revert hb; decide
    rw [Lib.atoi, if_neg (by simpa using n45), if_neg (by simpa using n43), Lib.decNat, if_neg (by simp), h1]; rfl
/-- the signs of a pitch's text -/
def sgL (a : Int) : List UInt8 := List.replicate a.toNat 35 ++ List.replicate (-a).toNat 98
theorem pt_form {s a o : Int} (h : pvB s a o = true) : ptL s a o = letL s :: (sgL a ++ [dgt o.toNat]) := by
  unfold ptL sgL
  rw [if_pos h]; simp
theorem let_mem {s : Int} (h : 0 ≤ s ∧ s ≤ 6) : letL s ∈ [67, 68, 69, 70, 71, 65, 66] := by
  rcases (show s = 0 ∨ s = 1 ∨ s = 2 ∨ s = 3 ∨ s = 4 ∨ s = 5 ∨ s = 6 by omega) with rfl | rfl | rfl | rfl | rfl | rfl | rfl <;> decide
theorem dgt_lo (n : Nat) : 48 ≤ (dgt n).toNat ∧ (dgt n).toNat ≤ 57 := by
  have h := dig_nat n
  omega
/-- which bytes stand in a pitch's text -/
theorem pt_mem {s a o : Int} : ∀ b ∈ ptL s a o, b ≠ 32 ∧ b ≠ 47 ∧ b ≠ 126 := by
  intro b hb
  unfold ptL at hb
  split at hb
  · rename_i hv
    simp only [List.mem_append, List.mem_singleton, List.mem_replicate] at hb
    rcases hb with ((rfl | ⟨_, rfl⟩) | ⟨_, rfl⟩) | rfl
    · have := let_mem (pvB_iff.1 hv).1
      simp only [List.mem_cons, List.not_mem_nil, or_false] at this
      rcases this with h | h | h | h | h | h | h <;> rw [h] <;> decide
    · decide
    · decide
    · have := dgt_lo o.toNat
      refine ⟨?_, ?_, ?_⟩ <;> (intro h; rw [h] at this; revert this; decide)
  · cases hb
theorem dd_no (u : Nat) : ∀ b ∈ Lib.decDigits u, b ≠ 32 ∧ b ≠ 47 ∧ b ≠ 126 := by
  intro b hb
  have := dd_mem u b hb
  refine ⟨?_, ?_, ?_⟩ <;> (intro h; rw [h] at this; revert this; decide)
/-- the part ahead of the slash -/
def toneL (n : Nt) : List UInt8 := if n.1 = true then [114] else ptL n.2.1 n.2.2.1 n.2.2.2.1
/-- the part behind the slash -/
def tailL (n : Nt) : List UInt8 := Lib.decDigits n.2.2.2.2.1.toNat ++ (if n.2.2.2.2.2 = true then [126] else [])
theorem nt_form {n : Nt} (h : nvB n = true) : ntL n = toneL n ++ 47 :: tailL n := by
  unfold ntL ntB toneL tailL
  rw [if_pos h]; simp
theorem tone_no (n : Nt) : (47 : UInt8) ∉ toneL n ∧ (32 : UInt8) ∉ toneL n := by
  unfold toneL
  split
  · decide
  · exact ⟨fun h => (pt_mem _ h).2.1 rfl, fun h => (pt_mem _ h).1 rfl⟩
theorem nt_no {n : Nt} (h : nvB n = true) : (32 : UInt8) ∉ ntL n := by
  rw [nt_form h]
  intro hb
  simp only [List.mem_append, List.mem_cons] at hb
  rcases hb with hb | hb | hb
  · exact (tone_no n).2 hb
  · exact absurd hb (by decide)
  · unfold tailL at hb
    rcases List.mem_append.1 hb with hb | hb
    · exact (dd_no _ _ hb).1 rfl
    · split at hb
      · exact absurd hb (by decide)
      · cases hb
theorem tail_cut (u : Nat) (d : Bool) : Lib.hasSuffix (Lib.decDigits u ++ (if d = true then [126] else [])) [126] = d ∧ Lib.trimSuffix (Lib.decDigits u ++ (if d = true then [126] else [])) [126] = Lib.decDigits u := by
  cases d
  · simp only [Bool.false_eq_true, if_false, List.append_nil]
    exact suf_none (fun h => (dd_no u _ h).2.2 rfl)
  · simp only [if_true]
    exact suf_hit 126 _
theorem nt_ne {n : Nt} (h : nvB n = true) : ntL n ≠ [] := by rw [nt_form h]; simp
end Go.Proofs.YtmodpleonhniaaaGreatDoor
