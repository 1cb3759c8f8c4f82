/- Slices of voices: what they read as. No condition; no program of its own. -/
import Derived.Test.YtmodpleonhniaaaGreatDoorMrg1
import Derived.Test.YtmodpleonhniaaaGreatDoorTemp
namespace Go.Proofs.YtmodpleonhniaaaGreatDoor
open Go.RowKit
set_option linter.unusedSimpArgs false
set_option linter.unusedVariables false
/-- a slice's header as a record of one cell -/
abbrev Hd := Option Addr × Nat × Nat
def encHd (x : Hd) : List Value := [.slice x.1 x.2.1 x.2.2]
theorem encHd_len (x : Hd) : (encHd x).length = 1 := rfl
def glV (vs : List (List Nt)) (k : Nat) : List Nt := vs.getD k []
theorem glV_get {vs : List (List Nt)} {k : Nat} (h : k < vs.length) : vs[k] = glV vs k := by simp [glV, h]
theorem glV_mem {vs : List (List Nt)} {k : Nat} (h : k < vs.length) : glV vs k ∈ vs := by rw [← glV_get h]; exact List.getElem_mem h
theorem take_succ_V {vs : List (List Nt)} {k : Nat} (h : k < vs.length) : vs.take (k + 1) = vs.take k ++ [glV vs k] := by rw [List.take_succ_eq_append_getElem h, glV_get h]
def glH (hs : List Hd) (k : Nat) : Hd := hs.getD k (none, 0, 0)
theorem glH_get {hs : List Hd} {k : Nat} (h : k < hs.length) : hs[k] = glH hs k := by simp [glH, h]
/-- slice A reads as the voices vs, all below block B -/
def RdVs (w : World) (B : Nat) (A : Option Addr) (vs : List (List Nt)) : Prop :=
  ∃ hs : List Hd, hs.length = vs.length ∧ RdR encHd 1 w B A hs ∧ ∀ k, k < vs.length → (glH hs k).2.1 = (glV vs k).length ∧ RdNote w B (glH hs k).1 (glV vs k)
theorem RdVs.at_ {w : World} {B : Nat} {A : Option Addr} {vs : List (List Nt)} {k : Nat} (h : RdVs w B A vs) (hk : k < vs.length) :
    ∃ b off C d, A = some ⟨b, off, none⟩ ∧ b < B ∧ w.cell? ⟨b, off + k, none⟩ = some (.slice C (glV vs k).length d) ∧ RdNote w B C (glV vs k) := by
  obtain ⟨hs, hl, h1, h2⟩ := h
  obtain ⟨b, off, e, hb, hc⟩ := RdR.at_ encHd_len h1 (k := k) (by omega)
  obtain ⟨e1, e2⟩ := h2 k hk
  refine ⟨b, off, (glH hs k).1, (glH hs k).2.2, e, hb, ?_, e2⟩
  have := hc 0 _ rfl
  rw [show off + (k * 1 + 0) = off + k by omega, glH_get (by omega), e1] at this
  exact this
theorem RdVs.below {w w' : World} {B C : Nat} {A : Option Addr} {vs : List (List Nt)} (h : RdVs w B A vs) (hb : Below C w w') (hB : B ≤ C) : RdVs w' B A vs := by
  obtain ⟨hs, hl, h1, h2⟩ := h
  exact ⟨hs, hl, h1.below hb hB, fun k hk => ⟨(h2 k hk).1, RdNote.below (h2 k hk).2 hb hB⟩⟩
theorem RdVs.more {w : World} {B C : Nat} {A : Option Addr} {vs : List (List Nt)} (h : RdVs w B A vs) (hB : B ≤ C) : RdVs w C A vs := by
  obtain ⟨hs, hl, h1, h2⟩ := h
  exact ⟨hs, hl, h1.more hB, fun k hk => ⟨(h2 k hk).1, RdNote.more (h2 k hk).2 hB⟩⟩
theorem RdVs.al {w : World} {B : Nat} {A : Option Addr} {vs : List (List Nt)} (h : RdVs w B A vs) (hB : B ≤ w.heap.size) (o : Obj) : RdVs (w.alloc o) B A vs :=
  h.below ((Below.refl w.heap.size w).alloc (Nat.le_refl _) o) hB
/-- all voices of moderate length -/
def LenV (vs : List (List Nt)) : Prop := vs.length ≤ 1048576 ∧ ∀ v ∈ vs, v.length ≤ 1048576
theorem LenV.at_ {vs : List (List Nt)} (h : LenV vs) {k : Nat} (hk : k < vs.length) : (glV vs k).length ≤ 1048576 := h.2 _ (glV_mem hk)
/-- a meter is valid -/
def mvB (b u : Int) : Bool := inR b 1 12 && (decide (u = 2) || (decide (u = 4) || (decide (u = 8) || decide (u = 16))))
theorem mvB_iff {b u : Int} : mvB b u = true ↔ (1 ≤ b ∧ b ≤ 12) ∧ (u = 2 ∨ u = 4 ∨ u = 8 ∨ u = 16) := by
  unfold mvB
  simp only [Bool.and_eq_true, inR_iff, Bool.or_eq_true, decide_eq_true_eq]
def btL (b u : Int) : Int := if mvB b u = true then b * 192 / u else -1
theorem btL_bd {b u : Int} (h : mvB b u = true) : btL b u = b * 192 / u ∧ 12 ≤ btL b u ∧ btL b u ≤ 1152 := by
  have e : btL b u = b * 192 / u := if_pos h
  obtain ⟨h1, h2⟩ := mvB_iff.1 h
  refine ⟨e, ?_⟩
  rw [e]
  rcases h2 with rfl | rfl | rfl | rfl <;> omega
/-- a song is valid -/
def svB (f b u : Int) (ts : List (Int × Int)) (vs : List (List Nt)) : Bool := inR f (-7) 7 && (mvB b u && (tvB ts && (decide (vs.length ≤ 4) && vs.all vvB)))
theorem svB_iff {f b u : Int} {ts : List (Int × Int)} {vs : List (List Nt)} : svB f b u ts vs = true ↔ inR f (-7) 7 = true ∧ mvB b u = true ∧ tvB ts = true ∧ vs.length ≤ 4 ∧ ∀ k, k < vs.length → vvB (glV vs k) = true := by
  unfold svB
  simp only [Bool.and_eq_true, decide_eq_true_eq, List.all_eq_true]
  constructor
  · rintro ⟨h1, h2, h3, h4, h5⟩
    exact ⟨h1, h2, h3, h4, fun k hk => h5 _ (glV_mem hk)⟩
  · rintro ⟨h1, h2, h3, h4, h5⟩
    refine ⟨h1, h2, h3, h4, fun v hv => ?_⟩
    obtain ⟨k, hk, rfl⟩ := List.getElem_of_mem hv
    rw [glV_get hk]; exact h5 k hk
theorem sv_no {f b u : Int} {ts : List (Int × Int)} {vs : List (List Nt)} (h : inR f (-7) 7 = false ∨ mvB b u = false ∨ tvB ts = false ∨ ¬ vs.length ≤ 4) : svB f b u ts vs = false := by
  unfold svB
  rcases h with h | h | h | h <;> simp [h]
theorem sv_bad {f b u : Int} {ts : List (Int × Int)} {vs : List (List Nt)} {k : Nat} (hk : k < vs.length) (h : vvB (glV vs k) = false) : svB f b u ts vs = false := by
  cases hs : svB f b u ts vs
  · rfl
  · rw [(svB_iff.1 hs).2.2.2.2 k hk] at h; cases h
end Go.Proofs.YtmodpleonhniaaaGreatDoor
