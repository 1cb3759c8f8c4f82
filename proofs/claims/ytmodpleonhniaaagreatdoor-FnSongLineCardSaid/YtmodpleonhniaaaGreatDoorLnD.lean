/- Plain words of SongLine: what it answers to a line. No program in sight but the kinds of the song's parts. -/
import Derived.Test.YtmodpleonhniaaaGreatDoorFlt
import Derived.Test.YtmodpleonhniaaaGreatDoorSbt
import Derived.Test.YtmodpleonhniaaaGreatDoorNtx
import Derived.Lib.Strings
namespace Go.Proofs.YtmodpleonhniaaaGreatDoor
open Go.RowKit
set_option linter.unusedSimpArgs false
set_option linter.unusedVariables false
set_option maxRecDepth 100000
def barsW : List UInt8 := [98, 97, 114, 115]
def faultsW : List UInt8 := [102, 97, 117, 108, 116, 115]
def timeW : List UInt8 := [116, 105, 109, 101]
def voiceW : List UInt8 := [118, 111, 105, 99, 101, 32]
/-- the voice that a line of seven bytes asks for -/
def lnV (l : List UInt8) : Int := ((l.getD 6 0).toNat : Int) - 48
/-- the answer to a line, of a valid song -/
def laL (f b u : Int) (ts : List (Int × Int)) (vs : List (List Nt)) (l : List UInt8) : List UInt8 :=
  if l = barsW then Lib.decDigits (sbL f b u ts vs).toNat
  else if l = faultsW then Lib.decDigits (ftL f b u ts vs).length
  else if l = timeW ∧ 0 ≤ smL f b u ts vs then Lib.decDigits (smL f b u ts vs).toNat
  else if l.length = 7 ∧ l.take 6 = voiceW ∧ inR (lnV l) 0 ((vs.length : Int) - 1) = true then vxL (glV vs (lnV l).toNat)
  else [63]
def lnL (f b u : Int) (ts : List (Int × Int)) (vs : List (List Nt)) (l : List UInt8) : List UInt8 := if svB f b u ts vs = true then laL f b u ts vs l else []
theorem sb_bd {f b u : Int} {ts : List (Int × Int)} {vs : List (List Nt)} (h : svB f b u ts vs = true) : 0 ≤ sbL f b u ts vs ∧ sbL f b u ts vs ≤ 50000 := by
  obtain ⟨_, s2, _, _, s5⟩ := svB_iff.1 h
  have hbt := (btL_bd s2).2
  have h2 := bcTo_bd s5 hbt vs.length (Nat.le_refl _)
  rw [bcTo_eq (by omega)] at h2
  unfold sbL
  rw [if_pos h]
  exact h2
theorem sm_bd {f b u : Int} {ts : List (Int × Int)} {vs : List (List Nt)} (h : svB f b u ts vs = true) : 0 ≤ smL f b u ts vs ∧ smL f b u ts vs ≤ 5000000000 := by
  obtain ⟨_, _, s3, _, s5⟩ := svB_iff.1 h
  have h1 := lgTo_bd s5 vs.length (Nat.le_refl _)
  have h2 := timeL_bd s3 h1.1
  unfold smL lgL
  rw [if_pos h]
  omega
theorem stV_list (a : List UInt8) : (stV a).toList = a := by rw [ByteArray.toList_eq]; simp [stV]
/-- '==' on strings, as the walk sees it -/
theorem stV_beq (a b : List UInt8) : ((stV a).toList == b) = decide (a = b) := by
  rw [stV_list]
  by_cases h : a = b
  · subst h; simp
  · rw [decide_eq_false h]; exact beq_false_of_ne h
theorem stV_yes {a b : List UInt8} (h : a = b) : ((stV a).toList == b) = true := by rw [stV_beq, decide_eq_true h]
theorem stV_no {a b : List UInt8} (h : ¬ a = b) : ((stV a).toList == b) = false := by rw [stV_beq, decide_eq_false h]
end Go.Proofs.YtmodpleonhniaaaGreatDoor
