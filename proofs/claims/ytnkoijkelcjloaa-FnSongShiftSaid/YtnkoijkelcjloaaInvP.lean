/- What an operation may say of a pattern, in the invariant's frames. No condition. -/
import Derived.Test.YtnkoijkelcjloaaInv
import Derived.Test.YtnkoijkelcjloaaBeats
import Derived.Test.YtnkoijkelcjloaaPatW
import Derived.Test.YtnkoijkelcjloaaText
namespace Go.Proofs.Ytnkoijkelcjloaa
set_option linter.unusedVariables false
open Go.RowKit
/-- a pattern in new memory -/
def FPat (B : Nat) (v : Value) (w : World) : Prop := ∃ (A : Option Addr) (c : Nat) (zs : List Bool), v = .agg #[.slice A zs.length c] ∧ zs.length ≤ 33 ∧ zs.length ≤ c ∧ RdBo w w.heap.size A zs ∧ ∀ b off, A = some ⟨b, off, none⟩ → B ≤ b
def NPat (B : Nat) (cs : Array Value) (w : World) : Prop := ∃ (A : Option Addr) (c : Nat) (zs : List Bool), cs = #[.slice A zs.length c] ∧ zs.length ≤ 33 ∧ zs.length ≤ c ∧ RdBo w w.heap.size A zs ∧ ∀ b off, A = some ⟨b, off, none⟩ → B ≤ b
theorem rdbo_R {x : Cx} {i : Nat} {w w' : World} {A : Option Addr} {zs : List Bool} (h : RdBo w w.heap.size A zs) (hA : ∀ b off, A = some ⟨b, off, none⟩ → x.w0.heap.size ≤ b) (hR : x.R i w w') : RdBo w' w'.heap.size A zs :=
  ⟨h.1, fun hn => by
    obtain ⟨b, off, e, hb, hc⟩ := h.2 hn
    exact ⟨b, off, e, Nat.lt_of_lt_of_le hb hR.2.1, fun j u hu => (World.cell?_of_block (a := ⟨b, off + j, none⟩) (hR.1 b (hA b off e) hb)).trans (hc j u hu)⟩⟩
theorem stay_pat {x : Cx} {j : Nat} : Stay x j (FPat x.w0.heap.size) := fun _ _ _ _ _ ⟨A, c, zs, h1, h2, h3, h4, h5⟩ hR => ⟨A, c, zs, h1, h2, h3, rdbo_R h4 h5 hR, h5⟩
theorem stayN_pat {x : Cx} {j : Nat} : ∀ (cs : Array Value) (i : Nat) (w w' : World), j ≠ i → NPat x.w0.heap.size cs w → x.R i w w' → NPat x.w0.heap.size cs w' :=
  fun _ _ _ _ _ ⟨A, c, zs, h1, h2, h3, h4, h5⟩ hR => ⟨A, c, zs, h1, h2, h3, rdbo_R h4 h5 hR, h5⟩
theorem be_post {P : Program} {f : FuncId} {args : Array Value} {w : World} {g q q2 B : Nat} (h : Calls P f args w (RetBe w g q)) (hq : q ≤ q2) (hB : B ≤ w.heap.size) :
    Calls P f args w fun e w' => ∃ v, e = .returned v ∧ FPat B v w' ∧ Rdr w' g q2 ∧ w.grownBy w' (some g) :=
  h.mono fun _ _ ⟨A, c, zs, he, h1, h2, h3, h4, h5, h6⟩ => ⟨_, he, ⟨A, c, zs, rfl, h1, h2, h3, fun b off e => by have := h4 b off e; omega⟩, h5.more hq, h6⟩
theorem tp_post {P : Program} {f : FuncId} {args : Array Value} {w : World} {g q q2 B T : Nat} {zs : List Bool} (h : Calls P f args w (RetP w T 1 zs.length (bv zs))) (hr : Rdr w g q) (hl : zs.length ≤ 33) (hq : q ≤ q2) (hB : B ≤ w.heap.size) :
    Calls P f args w fun e w' => ∃ v, e = .returned v ∧ FPat B v w' ∧ Rdr w' g q2 ∧ w.grownBy w' (some g) :=
  h.mono fun _ _ ⟨A, c, he, ho, hb⟩ => ⟨_, he, ⟨A, c, zs, rfl, hl, own_cap' ho, Rd.more (RdBo.of_own' ho rfl) (Nat.le_refl _), fun b off e => by have := own_lo ho b off e; omega⟩, (hr.below hb hr.lt).more hq, only_of_below hb _⟩
/-- a slice of n elements -/
def FSlc (n : Nat) (v : Value) (_ : World) : Prop := ∃ A c, v = .slice A n c
theorem stayL_slc {n : Nat} : StayL (FSlc n) := fun _ _ _ h _ => h
/-- a pattern that reads as zs -/
def FRdB (zs : List Bool) (v : Value) (w : World) : Prop := ∃ A c, v = .agg #[.slice A zs.length c] ∧ RdBo w w.heap.size A zs
theorem stayL_rdb {zs : List Bool} : StayL (FRdB zs) := fun _ _ _ ⟨A, c, h1, h3⟩ hb => ⟨A, c, h1, (h3.below hb (Nat.le_refl _)).more hb.size⟩
theorem retP_post {P : Program} {f : FuncId} {args : Array Value} {w : World} {T : Nat} {zs : List Bool} (h : Calls P f args w (RetP w T 1 zs.length (bv zs))) :
    Calls P f args w fun e w' => ∃ v, e = .returned v ∧ FRdB zs v w' ∧ Below w.heap.size w w' :=
  h.mono fun _ _ ⟨A, c, he, ho, hb⟩ => ⟨_, he, ⟨A, c, rfl, RdBo.of_own' ho rfl⟩, hb⟩
theorem retS_post {P : Program} {f : FuncId} {args : Array Value} {w : World} {b : ByteArray} (h : Calls P f args w (RetS w b)) : Calls P f args w fun e w' => ∃ v, e = .returned v ∧ FEq (.string b) v w' ∧ Below w.heap.size w w' :=
  h.mono fun _ _ ⟨he, hb⟩ => ⟨_, he, rfl, hb⟩
end Go.Proofs.Ytnkoijkelcjloaa
