/- Contracts of the reader of the draws: l20Open, pick, odd. No condition but bounds on the numbers asked for. -/
import Derived.Test.YtopdgkhmeglflaaDoorMrg1
import Derived.IntWalk
import Derived.Deep.RegionHeld3
import Derived.Laws.BitsAllLaws
import Derived.Laws.BitsLemmas
namespace Go.Proofs.YtopdgkhmeglflaaDoor
set_option linter.unusedVariables false
open Go.RowKit

/-! Only block 'g' has turned. -/
theorem only_trans {a b c : World} {g : Nat} (h : a.grownBy b (some g)) (k : b.grownBy c (some g)) : a.grownBy c (some g) :=
  ⟨k.os.trans h.os, k.tape.trans h.tape, k.output.trans h.output, Nat.le_trans h.size k.size, fun i hi hne => (k.block i (Nat.lt_of_lt_of_le hi h.size) hne).trans (h.block i hi hne)⟩
theorem only_drew {a w : World} {row : Option Nat} (h : a.grownBy w row) : a.grownBy w.drew row := ⟨h.os, h.tape, h.output, h.size, h.block⟩
theorem below_only {B g : Nat} {w0 w w' : World} (h : Below B w0 w) (hg : w.grownBy w' (some g)) (hw : B ≤ w.heap.size) (hd : B ≤ g) : Below B w0 w' :=
  h.grown hg hw fun k e => by injection e with e; omega
theorem Blk.only {w w' : World} {g k : Nat} {t : TypeId} {cs : Array Value} (h : Blk w k t cs) (hg : w.grownBy w' (some g)) (hne : k ≠ g) : Blk w' k t cs :=
  (hg.block k h.lt (by simpa using hne)).trans h
/-- the reader: a struct of its own block: bytes and a place -/
def Rdr (w : World) (g q : Nat) : Prop :=
  ∃ (A : Option Addr) (c : Nat) (zs : List Int) (p : Nat), Blk w g 0 #[.slice A zs.length c, .int .i64 (p : Int)] ∧ RdY w g A zs ∧ WfY zs ∧ zs.length ≤ 2000 ∧ p ≤ q
theorem Rdr.only {w w' : World} {g q k : Nat} (h : Rdr w g q) (hg : w.grownBy w' (some k)) (hne : g < k) : Rdr w' g q := by
  obtain ⟨A, c, zs, p, hb, hy, hw, hl, hp⟩ := h
  refine ⟨A, c, zs, p, hb.only hg (by omega), ?_, hw, hl, hp⟩
  exact Rd.grown hy hg (Nat.le_of_lt hb.lt) fun k' e => by injection e with e; omega
theorem Rdr.below {w w' : World} {g q B : Nat} (h : Rdr w g q) (hb : Below B w w') (hg : g < B) : Rdr w' g q := by
  obtain ⟨A, c, zs, p, hk, hy, hw, hl, hp⟩ := h
  exact ⟨A, c, zs, p, hk.below hb hg, hy.below hb (by omega), hw, hl, hp⟩
theorem Rdr.more {w : World} {g q q' : Nat} (h : Rdr w g q) (hq : q ≤ q') : Rdr w g q' := by
  obtain ⟨A, c, zs, p, hk, hy, hw, hl, hp⟩ := h
  exact ⟨A, c, zs, p, hk, hy, hw, hl, by omega⟩
def RetPick (w : World) (g q : Nat) (n : Int) (e : Ending) (w' : World) : Prop :=
  ∃ v : Int, e = .returned (.int .i64 v) ∧ 0 ≤ v ∧ (v < n ∨ v = 0) ∧ Rdr w' g q ∧ w.grownBy w' (some g)

theorem ofInt_i64 (a : Nat) (ha : a < 9223372036854775808) : (BitVec.ofInt 64 (a : Int)).toNat = a := by
  rw [BitVec.ofInt_natCast, BitVec.toNat_ofNat]; exact Nat.mod_eq_of_lt (by omega)
theorem i64_xor_nat (a b : Nat) (ha : a < 9223372036854775808) (hb : b < 9223372036854775808) : bits .xor .i64 (a : Int) (b : Int) = ((a ^^^ b : Nat) : Int) := by
  have hx : a ^^^ b < 2 ^ 63 := Nat.xor_lt_two_pow (by omega) (by omega)
  show IntKind.i64.wrap ((BitVec.ofInt 64 (a : Int) ^^^ BitVec.ofInt 64 (b : Int)).toNat : Int) = _
  rw [BitVec.toNat_xor, ofInt_i64 a ha, ofInt_i64 b hb, IntKind.wrap_i64]
  omega
end Go.Proofs.YtopdgkhmeglflaaDoor
