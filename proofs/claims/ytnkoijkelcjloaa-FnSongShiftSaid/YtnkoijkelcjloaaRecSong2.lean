/- Contracts of the exact laws' helpers on whole songs: copy, compare, write, count. Conditions: lengths at most 2^20. -/
import Derived.Test.YtnkoijkelcjloaaRecSong
namespace Go.Proofs.Ytnkoijkelcjloaa
open Go.RowKit
set_option linter.unusedSimpArgs false
set_option linter.unusedVariables false
set_option maxRecDepth 100000
/-- a song of the call's own: tempos within lo .. mid, voices within mid .. hi -/
structure SgO (w : World) (lo mid hi : Nat) (C : Option Addr) (d : Nat) (nt : Nat) (tc : List Value) (A : Option Addr) (c n : Nat) (X : Nat → List Nt) (hs : List Hd) : Prop where
  row : Row w lo mid 60 2 C d nt tc
  own : OwX w mid hi A c n X hs
  le1 : lo ≤ mid
  le2 : mid ≤ hi
theorem SgO.below {w w' : World} {lo mid hi B d nt c n : Nat} {C A : Option Addr} {tc : List Value} {X : Nat → List Nt} {hs : List Hd} (h : SgO w lo mid hi C d nt tc A c n X hs) (hb : Below B w w') (hB : hi ≤ B) : SgO w' lo mid hi C d nt tc A c n X hs :=
  ⟨h.row.below hb (Nat.le_trans h.le2 hB), h.own.below hb hB, h.le1, h.le2⟩
theorem SgO.inB {w w' : World} {lo mid hi lo' hi' d nt c n : Nat} {C A : Option Addr} {tc : List Value} {X : Nat → List Nt} {hs : List Hd} (h : SgO w lo mid hi C d nt tc A c n X hs) (hb : InB lo' hi' w w') (hd : hi ≤ lo' ∨ hi' ≤ lo) : SgO w' lo mid hi C d nt tc A c n X hs :=
  ⟨hb.row h.row (by have := h.le2; have := h.le1; omega), h.own.inB hb (by have := h.le2; have := h.le1; omega), h.le1, h.le2⟩
theorem SgO.rdT {w : World} {lo mid hi d c n : Nat} {C A : Option Addr} {ts : List (Int × Int)} {X : Nat → List Nt} {hs : List Hd} (h : SgO w lo mid hi C d ts.length (fl encTempo ts) A c n X hs) {B : Nat} (hB : hi ≤ B) : RdTempo w B C ts := RdTempo.more h.row.rdTempo (Nat.le_trans h.le2 hB)
theorem SgO.rdV {w : World} {lo mid hi d nt c : Nat} {C A : Option Addr} {tc : List Value} {vs : List (List Nt)} {hs : List Hd} (h : SgO w lo mid hi C d nt tc A c vs.length (glV vs) hs) {B : Nat} (hB : hi ≤ B) : RdVs w B A vs := RdVs.more h.own.rd hB
end Go.Proofs.Ytnkoijkelcjloaa
