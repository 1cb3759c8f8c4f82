/- Plain words of moved songs: tonics, keys of tonics, moved notes, voices and songs, and what they say of each other. No program. -/
import Derived.Test.YtnkoijkelcjloaaIvl3
import Derived.Test.YtnkoijkelcjloaaMrg1
namespace Go.Proofs.Ytnkoijkelcjloaa
open Go.RowKit
set_option linter.unusedSimpArgs false
set_option linter.unusedVariables false
/-- the step of the tonic -/
def tonS (f : Int) (m : Bool) : Int := if m = true then ((4 * f + 70) % 7 + 5) % 7 else (4 * f + 70) % 7
theorem tonS_bd (f : Int) (m : Bool) : 0 ≤ tonS f m ∧ tonS f m ≤ 6 := by unfold tonS; split <;> omega
/-- the key f has the tonic s, a -/
def kyB (s a : Int) (m : Bool) (f : Int) : Bool := decide (tonS f m = s) && decide (altL f (tonS f m) = a)
theorem kyB_iff {s a f : Int} {m : Bool} : kyB s a m f = true ↔ tonS f m = s ∧ altL f (tonS f m) = a := by
  unfold kyB; rw [Bool.and_eq_true, decide_eq_true_eq, decide_eq_true_eq]
/-- the key of a tonic -/
def koL (s a o : Int) (m : Bool) : Int × Bool :=
  if pvB s a o = true then (match (List.range 15).find? (fun k : Nat => kyB s a m ((k : Int) - 7)) with | some k => ((k : Int) - 7, true) | none => (0, false)) else (0, false)
theorem ko_bad {s a o : Int} {m : Bool} (h : pvB s a o = false) : koL s a o m = (0, false) := by unfold koL; rw [h]; rfl
theorem ko_hit {s a o : Int} {m : Bool} {k : Nat} (h : pvB s a o = true) (hk : k < 15) (h1 : kyB s a m ((k : Int) - 7) = true) (h2 : ∀ j, j < k → kyB s a m ((j : Int) - 7) = false) : koL s a o m = ((k : Int) - 7, true) := by
  unfold koL
  rw [if_pos h, (List.find?_range_eq_some (p := fun k : Nat => kyB s a m ((k : Int) - 7)) (n := 15) (i := k)).2 ⟨h1, List.mem_range.2 hk, fun j hj => by simp [h2 j hj]⟩]
theorem ko_none {s a o : Int} {m : Bool} (h2 : ∀ j : Nat, j < 15 → kyB s a m ((j : Int) - 7) = false) : koL s a o m = (0, false) := by
  unfold koL
  split
  · rw [(List.find?_range_eq_none (p := fun k : Nat => kyB s a m ((k : Int) - 7)) (n := 15)).2 (fun j hj => by simp [h2 j hj])]
  · rfl
theorem ko_some {s a o f : Int} {m : Bool} (h : koL s a o m = (f, true)) : pvB s a o = true ∧ (-7 ≤ f ∧ f ≤ 7) ∧ kyB s a m f = true := by
  unfold koL at h
  split at h
  · rename_i hp
    cases e : (List.range 15).find? (fun k : Nat => kyB s a m ((k : Int) - 7)) with
    | none => rw [e] at h; simp at h
    | some k =>
      rw [e] at h
      obtain ⟨h1, h2, -⟩ := List.find?_range_eq_some.1 e
      have h3 := List.mem_range.1 h2
      have h4 : (k : Int) - 7 = f := by simpa using h
      subst h4
      exact ⟨hp, ⟨by omega, by omega⟩, h1⟩
  · simp at h
/-- a note moved, and whether it can be -/
def shN (s h : Int) (n : Nt) : Nt := if n.1 = true then n else (n.1, (aiL n.2.1 n.2.2.1 n.2.2.2.1 s h).1.1, (aiL n.2.1 n.2.2.1 n.2.2.2.1 s h).1.2.1, (aiL n.2.1 n.2.2.1 n.2.2.2.1 s h).1.2.2, n.2.2.2.2.1, n.2.2.2.2.2)
def soB (s h : Int) (n : Nt) : Bool := n.1 || (aiL n.2.1 n.2.2.1 n.2.2.2.1 s h).2
/-- a voice can be moved; the moved voice -/
def shB (s h : Int) (v : List Nt) : Bool := vvB v && (ivB s h && v.all (soB s h))
def shL (s h : Int) (v : List Nt) : List Nt := if shB s h v = true then v.map (shN s h) else []
theorem shB_no1 {s h : Int} {v : List Nt} (e : vvB v = false) : shB s h v = false := by unfold shB; rw [e]; rfl
theorem shB_no2 {s h : Int} {v : List Nt} (e : ivB s h = false) : shB s h v = false := by unfold shB; rw [e]; cases vvB v <;> rfl
theorem shB_no3 {s h : Int} {v : List Nt} {k : Nat} (hk : k < v.length) (e : soB s h (glNote v k) = false) : shB s h v = false := by
  have : v.all (soB s h) = false := List.all_eq_false.2 ⟨v[k], List.getElem_mem hk, by rw [glNote_get hk, e]; simp⟩
  unfold shB; rw [this]; cases vvB v <;> cases ivB s h <;> rfl
theorem shB_iff {s h : Int} {v : List Nt} : shB s h v = true ↔ vvB v = true ∧ ivB s h = true ∧ ∀ k, k < v.length → soB s h (glNote v k) = true := by
  unfold shB
  simp only [Bool.and_eq_true, List.all_eq_true]
  constructor
  · rintro ⟨h1, h2, h3⟩
    exact ⟨h1, h2, fun k hk => by rw [← glNote_get hk]; exact h3 _ (List.getElem_mem hk)⟩
  · rintro ⟨h1, h2, h3⟩
    refine ⟨h1, h2, fun x hx => ?_⟩
    obtain ⟨k, hk, rfl⟩ := List.getElem_of_mem hx
    rw [glNote_get hk]; exact h3 k hk
theorem shL_no {s h : Int} {v : List Nt} (e : shB s h v = false) : shL s h v = [] := by unfold shL; rw [e]; rfl
theorem shL_yes {s h : Int} {v : List Nt} (e : shB s h v = true) : shL s h v = v.map (shN s h) := if_pos e
theorem shL_len {s h : Int} {v : List Nt} : (shL s h v).length ≤ v.length := by unfold shL; split <;> simp
/-- the moved tonic, the key of it, and whether a song can be moved -/
def mtL (f : Int) (m : Bool) (s h : Int) : (Int × Int × Int) × Bool := aiL (tonS f m) (altL f (tonS f m)) 4 s h
def nkL (f : Int) (m : Bool) (s h : Int) : Int × Bool := koL (mtL f m s h).1.1 (mtL f m s h).1.2.1 (mtL f m s h).1.2.2 m
def ssB (f : Int) (m : Bool) (b u : Int) (ts : List (Int × Int)) (vs : List (List Nt)) (s h : Int) : Bool :=
  svB f b u ts vs && (ivB s h && ((mtL f m s h).2 && ((nkL f m s h).2 && vs.all (shB s h))))
/-- the moved song -/
abbrev Sg := Int × Bool × Int × Int × List (Int × Int) × List (List Nt)
def ssL (f : Int) (m : Bool) (b u : Int) (ts : List (Int × Int)) (vs : List (List Nt)) (s h : Int) : Sg :=
  if ssB f m b u ts vs s h = true then ((nkL f m s h).1, m, b, u, ts, vs.map (shL s h)) else (0, false, 0, 0, [], [])
theorem ssB_iff {f : Int} {m : Bool} {b u : Int} {ts : List (Int × Int)} {vs : List (List Nt)} {s h : Int} : ssB f m b u ts vs s h = true ↔
    svB f b u ts vs = true ∧ ivB s h = true ∧ (mtL f m s h).2 = true ∧ (nkL f m s h).2 = true ∧ ∀ k, k < vs.length → shB s h (glV vs k) = true := by
  unfold ssB
  simp only [Bool.and_eq_true, List.all_eq_true]
  constructor
  · rintro ⟨h1, h2, h3, h4, h5⟩
    exact ⟨h1, h2, h3, h4, fun k hk => h5 _ (glV_mem hk)⟩
  · rintro ⟨h1, h2, h3, h4, h5⟩
    refine ⟨h1, h2, h3, h4, fun v hv => ?_⟩
    obtain ⟨k, hk, rfl⟩ := List.getElem_of_mem hv
    rw [glV_get hk]; exact h5 k hk
theorem ssB_no {f : Int} {m : Bool} {b u : Int} {ts : List (Int × Int)} {vs : List (List Nt)} {s h : Int} (e : svB f b u ts vs = false ∨ ivB s h = false ∨ (mtL f m s h).2 = false ∨ (nkL f m s h).2 = false) : ssB f m b u ts vs s h = false := by
  unfold ssB
  rcases e with e | e | e | e <;> simp [e]
theorem ssB_bad {f : Int} {m : Bool} {b u : Int} {ts : List (Int × Int)} {vs : List (List Nt)} {s h : Int} {k : Nat} (hk : k < vs.length) (e : shB s h (glV vs k) = false) : ssB f m b u ts vs s h = false := by
  cases hs : ssB f m b u ts vs s h
  · rfl
  · rw [(ssB_iff.1 hs).2.2.2.2 k hk] at e; cases e
end Go.Proofs.Ytnkoijkelcjloaa
