/- Facts of drawn regions that hold songs: for the exact law of SongShift. No program. -/
import Derived.Test.YtnkoijkelcjloaaShs
import Derived.Test.YtnkoijkelcjloaaShs2
import Derived.Test.YtnkoijkelcjloaaHelSong
import Derived.Test.YtnkoijkelcjloaaInvC
namespace Go.Proofs.Ytnkoijkelcjloaa
open Go.RowKit
set_option linter.unusedSimpArgs false
set_option linter.unusedVariables false
theorem Row.typ {w w' : World} {lo hi E s c n T : Nat} {A : Option Addr} {xs : List Value} (hT : E ≠ T) (h : Row w lo hi E s A c n xs) (hk : ∀ b t cs, t ≠ T → Blk w b t cs → Blk w' b t cs) : Row w' lo hi E s A c n xs := ⟨own_typ hT h.1 hk, h.2⟩
theorem OwX.typ {w w' : World} {lo hi c n T : Nat} {A : Option Addr} {X : Nat → List Nt} {hs : List Hd} (h1 : 56 ≠ T) (h2 : 68 ≠ T) (h : OwX w lo hi A c n X hs) (hk : ∀ b t cs, t ≠ T → Blk w b t cs → Blk w' b t cs) : OwX w' lo hi A c n X hs :=
  ⟨h.len, h.out.typ h1 hk, fun k hk9 => ⟨(h.inn k hk9).1, (h.inn k hk9).2.typ h2 hk⟩, h.da, h.db⟩
theorem SgO.typ {w w' : World} {lo mid hi d nt c n T : Nat} {C A : Option Addr} {tc : List Value} {X : Nat → List Nt} {hs : List Hd} (h0 : 60 ≠ T) (h1 : 56 ≠ T) (h2 : 68 ≠ T) (h : SgO w lo mid hi C d nt tc A c n X hs) (hk : ∀ b t cs, t ≠ T → Blk w b t cs → Blk w' b t cs) : SgO w' lo mid hi C d nt tc A c n X hs :=
  ⟨h.row.typ h0 hk, h.own.typ h1 h2 hk, h.le1, h.le2⟩
theorem SgO.low {w : World} {lo lo' mid hi d nt c n : Nat} {C A : Option Addr} {tc : List Value} {X : Nat → List Nt} {hs : List Hd} (h : SgO w lo mid hi C d nt tc A c n X hs) (hl : lo' ≤ lo) : SgO w lo' mid hi C d nt tc A c n X hs :=
  ⟨h.row.widen hl (Nat.le_refl _), h.own, Nat.le_trans hl h.le1, h.le2⟩
/-- the value is an own song -/
def sgV (q : Sg) (C : Option Addr) (d : Nat) (A : Option Addr) (c : Nat) : Array Value := #[.int .i64 q.1, .bool q.2.1, .int .i64 q.2.2.1, .int .i64 q.2.2.2.1, .slice C q.2.2.2.2.1.length d, .slice A q.2.2.2.2.2.length c]
def sgO (w : World) (B : Nat) (q : Sg) (C : Option Addr) (d : Nat) (A : Option Addr) (c mid hi : Nat) (hs : List Hd) : Prop :=
  SgO w B mid hi C d q.2.2.2.2.1.length (fl encTempo q.2.2.2.2.1) A c q.2.2.2.2.2.length (glV q.2.2.2.2.2) hs ∧ hi ≤ w.heap.size
def FSg (B : Nat) (q : Sg) (v : Value) (w : World) : Prop := ∃ C A d c mid hi hs, v = .agg (sgV q C d A c) ∧ sgO w B q C d A c mid hi hs
def FTp (B : Nat) (q : Sg) (ok : Bool) (v : Value) (w : World) : Prop := ∃ C A d c mid hi hs, v = .tuple #[.agg (sgV q C d A c), .bool ok] ∧ sgO w B q C d A c mid hi hs
theorem sgO.below {w w' : World} {B d c mid hi : Nat} {q : Sg} {C A : Option Addr} {hs : List Hd} (h : sgO w B q C d A c mid hi hs) (hb : Below w.heap.size w w') : sgO w' B q C d A c mid hi hs := ⟨h.1.below hb h.2, Nat.le_trans h.2 hb.size⟩
theorem sgO.typ {w w' : World} {B d c mid hi : Nat} {q : Sg} {C A : Option Addr} {hs : List Hd} (h : sgO w B q C d A c mid hi hs) (hs9 : w.heap.size ≤ w'.heap.size) (hk : ∀ b t cs, t ≠ 28 → Blk w b t cs → Blk w' b t cs) : sgO w' B q C d A c mid hi hs := ⟨h.1.typ (by decide) (by decide) (by decide) hk, Nat.le_trans h.2 hs9⟩
theorem staySg (B : Nat) (q : Sg) (N : Nat) : StayC 28 N (FSg B q) :=
  ⟨fun _ _ _ ⟨C, A, d, c, mid, hi, hs, e, h⟩ hb => ⟨C, A, d, c, mid, hi, hs, e, h.below hb⟩, fun _ _ _ ⟨C, A, d, c, mid, hi, hs, e, h⟩ _ hk h9 => ⟨C, A, d, c, mid, hi, hs, e, h.typ h9 hk⟩⟩
theorem stayTp (B : Nat) (q : Sg) (ok : Bool) (N : Nat) : StayC 28 N (FTp B q ok) :=
  ⟨fun _ _ _ ⟨C, A, d, c, mid, hi, hs, e, h⟩ hb => ⟨C, A, d, c, mid, hi, hs, e, h.below hb⟩, fun _ _ _ ⟨C, A, d, c, mid, hi, hs, e, h⟩ _ hk h9 => ⟨C, A, d, c, mid, hi, hs, e, h.typ h9 hk⟩⟩
theorem retSS_tp {P : Program} {f : FuncId} {args : Array Value} {w : World} {q : Sg} {ok : Bool} {B : Nat} (h : Calls P f args w (RetSS w q ok)) (hB : B ≤ w.heap.size) : Calls P f args w fun e w' => ∃ v, e = .returned v ∧ FTp B q ok v w' ∧ Below w.heap.size w w' :=
  h.mono fun _ _ ⟨C, A, d, c, mid, hs, he, hx, hb⟩ => ⟨_, he, ⟨C, A, d, c, mid, _, hs, rfl, hx.low hB, Nat.le_refl _⟩, hb⟩
theorem totV_map_le (s h : Int) (vs : List (List Nt)) : totV (vs.map (shL s h)) ≤ totV vs := by
  induction vs with
  | nil => simp [totV]
  | cons v vs ih =>
    have h1 := shL_len (s := s) (h := h) (v := v)
    simp only [totV, List.map_cons, List.sum_cons] at ih ⊢
    omega
theorem ss_len (f : Int) (m : Bool) (b u : Int) (ts : List (Int × Int)) (vs : List (List Nt)) (s h : Int) :
    (ssL f m b u ts vs s h).2.2.2.2.1.length ≤ ts.length ∧ (ssL f m b u ts vs s h).2.2.2.2.2.length ≤ vs.length ∧ totV (ssL f m b u ts vs s h).2.2.2.2.2 ≤ totV vs := by
  unfold ssL
  split
  · exact ⟨Nat.le_refl _, by simp, totV_map_le s h vs⟩
  · exact ⟨Nat.zero_le _, Nat.zero_le _, by simp [totV]⟩
end Go.Proofs.Ytnkoijkelcjloaa
