/- Contracts of the helpers of the exact laws on slices of Note: copy, compare, write, look. Conditions: lengths at most 2^20 where memory is made. -/
import Derived.Test.YtggjgjcdpnidnaaRecs
import Derived.Test.YtggjgjcdpnidnaaPtch
import Derived.Test.YtggjgjcdpnidnaaNum
import Derived.Deep.RegionHeld3
namespace Go.Proofs.Ytggjgjcdpnidnaa
open Go.RowKit
set_option linter.unusedSimpArgs false
set_option linter.unusedVariables false
/-- a record of 6 ints -/
def encNote (z : Bool × Int × Int × Int × Int × Bool) : List Value := [.bool (z.1), .int .i64 (z.2.1), .int .i64 (z.2.2.1), .int .i64 (z.2.2.2.1), .int .i64 (z.2.2.2.2.1), .bool (z.2.2.2.2.2)]
theorem encNote_len (z : Bool × Int × Int × Int × Int × Bool) : (encNote z).length = 6 := rfl
def RdNote (w : World) (B : Nat) (A : Option Addr) (zs : List (Bool × Int × Int × Int × Int × Bool)) : Prop := RdR encNote 6 w B A zs
def glNote (zs : List (Bool × Int × Int × Int × Int × Bool)) (k : Nat) : Bool × Int × Int × Int × Int × Bool := zs.getD k (false, 0, 0, 0, 0, false)
theorem glNote_get {zs : List (Bool × Int × Int × Int × Int × Bool)} {k : Nat} (h : k < zs.length) : zs[k] = glNote zs k := by simp [glNote, h]
theorem RdNote.at_ {w : World} {B : Nat} {A : Option Addr} {zs : List (Bool × Int × Int × Int × Int × Bool)} {k : Nat} (h : RdNote w B A zs) (hk : k < zs.length) :
    ∃ b off, A = some ⟨b, off, none⟩ ∧ b < B ∧ w.cell? ⟨b, off + k * 6, none⟩ = some (.bool ((glNote zs k).1)) ∧ w.cell? ⟨b, off + k * 6 + 1, none⟩ = some (.int .i64 ((glNote zs k).2.1)) ∧ w.cell? ⟨b, off + k * 6 + 2, none⟩ = some (.int .i64 ((glNote zs k).2.2.1)) ∧ w.cell? ⟨b, off + k * 6 + 3, none⟩ = some (.int .i64 ((glNote zs k).2.2.2.1)) ∧ w.cell? ⟨b, off + k * 6 + 4, none⟩ = some (.int .i64 ((glNote zs k).2.2.2.2.1)) ∧ w.cell? ⟨b, off + k * 6 + 5, none⟩ = some (.bool ((glNote zs k).2.2.2.2.2)) := by
  obtain ⟨b, off, e, hb, hc⟩ := RdR.at_ encNote_len h hk
  rw [glNote_get hk] at hc
  exact ⟨b, off, e, hb, hc 0 _ rfl, hc 1 _ rfl, hc 2 _ rfl, hc 3 _ rfl, hc 4 _ rfl, hc 5 _ rfl⟩
theorem RdNote.below {w w' : World} {B C : Nat} {A : Option Addr} {zs : List (Bool × Int × Int × Int × Int × Bool)} (h : RdNote w B A zs) (hb : Below C w w') (hB : B ≤ C) : RdNote w' B A zs := RdR.below h hb hB
theorem RdNote.more {w : World} {B C : Nat} {A : Option Addr} {zs : List (Bool × Int × Int × Int × Int × Bool)} (h : RdNote w B A zs) (hB : B ≤ C) : RdNote w C A zs := RdR.more h hB
theorem RdNote.drewN {w : World} {B : Nat} {A : Option Addr} {zs : List (Bool × Int × Int × Int × Int × Bool)} (h : RdNote w B A zs) (k : Nat) : RdNote (w.drewN k) B A zs := h
theorem RdNote.al {w : World} {B : Nat} {A : Option Addr} {zs : List (Bool × Int × Int × Int × Int × Bool)} (h : RdNote w B A zs) (hB : B ≤ w.heap.size) (o : Obj) : RdNote (w.alloc o) B A zs := RdR.al h hB o
theorem RdNote.far {w w' : World} {B lo' hi' E' size' c' n' : Nat} {A A' : Option Addr} {xs' : List Value} {zs : List (Bool × Int × Int × Int × Int × Bool)} (h : RdNote w B A zs) (h' : Row w lo' hi' E' size' A' c' n' xs')
    (hg : w.grownBy w' (Value.slice A' n' c').ownBlock) (hw : B ≤ w.heap.size) (hd : B ≤ lo') : RdNote w' B A zs := RdR.far h h' hg hw hd
theorem Row.rdNote {w : World} {lo hi E c : Nat} {A : Option Addr} {zs : List (Bool × Int × Int × Int × Int × Bool)} (h : Row w lo hi E 6 A c zs.length (fl encNote zs)) : RdNote w hi A zs := h.rdR
def eqbNote (x y : Bool × Int × Int × Int × Int × Bool) : Bool := decide (x = y)
def sameNote (xs ys : List (Bool × Int × Int × Int × Int × Bool)) : Bool := decide (xs = ys)
theorem sameNote_refl (a : List (Bool × Int × Int × Int × Int × Bool)) : sameNote a a = true := by simp [sameNote]
theorem take_succ_Note {zs : List (Bool × Int × Int × Int × Int × Bool)} {k : Nat} (h : k < zs.length) : zs.take (k + 1) = zs.take k ++ [glNote zs k] := by rw [List.take_succ_eq_append_getElem h, glNote_get h]
theorem take_ne_Note {xs ys : List (Bool × Int × Int × Int × Int × Bool)} {k : Nat} (h : k < xs.length) (h' : k < ys.length) (hne : glNote xs k ≠ glNote ys k) : sameNote xs ys = false := by
  simp only [sameNote, decide_eq_false_iff_not]
  rintro rfl
  exact hne rfl
theorem infoNote : (Try.prog.info? 46).map (fun i => (i.zero, i.size, i.bytes)) = some (some (Value.agg #[Value.bool false, Value.int .i64 0, Value.int .i64 0, Value.int .i64 0, Value.int .i64 0, Value.bool false]), 6, 48) := by kernel_rfl
/-- k, k + 1, .. -/
def upNote (k : Int) (n : Nat) : List (Bool × Int × Int × Int × Int × Bool) := (List.range n).map fun (j : Nat) => (((k + 6 * (j : Int)) % 3 == 0), k + 6 * (j : Int) + 1, k + 6 * (j : Int) + 1 + 1, k + 6 * (j : Int) + 1 + 1 + 1, k + 6 * (j : Int) + 1 + 1 + 1 + 1, ((k + 6 * (j : Int) + 1 + 1 + 1 + 1 + 1) % 3 == 0))
theorem upNote_length (k : Int) (n : Nat) : (upNote k n).length = n := by simp [upNote]
theorem upNote_at (k : Int) (n j : Nat) (h : j < n) : glNote (upNote k n) j = (((k + 6 * (j : Int)) % 3 == 0), k + 6 * (j : Int) + 1, k + 6 * (j : Int) + 1 + 1, k + 6 * (j : Int) + 1 + 1 + 1, k + 6 * (j : Int) + 1 + 1 + 1 + 1, ((k + 6 * (j : Int) + 1 + 1 + 1 + 1 + 1) % 3 == 0)) := by simp [glNote, upNote, h]
theorem upNote_succ (k : Int) (n : Nat) : upNote k (n + 1) = upNote k n ++ [(((k + 6 * (n : Int)) % 3 == 0), k + 6 * (n : Int) + 1, k + 6 * (n : Int) + 1 + 1, k + 6 * (n : Int) + 1 + 1 + 1, k + 6 * (n : Int) + 1 + 1 + 1 + 1, ((k + 6 * (n : Int) + 1 + 1 + 1 + 1 + 1) % 3 == 0))] := by simp [upNote, List.range_succ]
def setUpNote (cur : Array Value) (k : Int) (j : Nat) : Array Value := (fl encNote (upNote k j) ++ cur.toList.drop (j * 6)).toArray
theorem setUpNote_zero (cur : Array Value) (k : Int) : setUpNote cur k 0 = cur := by simp [setUpNote, upNote, fl]
theorem setUpNote_size (cur : Array Value) (k : Int) (j : Nat) (h : j * 6 ≤ cur.size) : (setUpNote cur k j).size = cur.size := by
  simp only [setUpNote, List.size_toArray, List.length_append, List.length_drop, Array.length_toList]
  rw [fl_length encNote_len, upNote_length]; omega
theorem setUpNote_at (cur : Array Value) (k : Int) (j i : Nat) (h : j * 6 + i < cur.size) : ∃ u, (setUpNote cur k j)[j * 6 + i]? = some u := ⟨_, Array.getElem?_eq_getElem (by rw [setUpNote_size _ _ _ (by omega)]; exact h)⟩
theorem setUpNote_set (cur : Array Value) (k : Int) (j : Nat) (h : j * 6 + 6 ≤ cur.size) : setR (setUpNote cur k j) (j * 6) [.bool (((k + 6 * (j : Int)) % 3 == 0)), .int .i64 (k + 6 * (j : Int) + 1), .int .i64 (k + 6 * (j : Int) + 1 + 1), .int .i64 (k + 6 * (j : Int) + 1 + 1 + 1), .int .i64 (k + 6 * (j : Int) + 1 + 1 + 1 + 1), .bool (((k + 6 * (j : Int) + 1 + 1 + 1 + 1 + 1) % 3 == 0))] = setUpNote cur k (j + 1) := by
  have e : cur.toList.drop (j * 6) = (cur.toList.drop (j * 6)).take 6 ++ cur.toList.drop ((j + 1) * 6) := by
    rw [show (j + 1) * 6 = j * 6 + 6 by omega, ← List.drop_drop, List.take_append_drop]
  have hl : (fl encNote (upNote k j)).length = j * 6 := by rw [fl_length encNote_len, upNote_length]
  unfold setUpNote
  rw [e, ← List.append_assoc, setR_mid _ _ _ _ _ hl.symm (by simp; omega), upNote_succ, fl_append, fl_one]
  rfl
theorem Blk.setsNote {w : World} {g : Nat} {t : TypeId} {cs : Array Value} (h : Blk w g t cs) (p : Nat) (v0 v1 v2 v3 v4 v5 : Value) : Blk ((((((w.setCell ⟨g, p, none⟩ v0).setCell ⟨g, p + 1, none⟩ v1).setCell ⟨g, p + 1 + 1, none⟩ v2).setCell ⟨g, p + 1 + 2, none⟩ v3).setCell ⟨g, p + 4, none⟩ v4).setCell ⟨g, p + 5, none⟩ v5) g t (setR cs p [v0, v1, v2, v3, v4, v5]) := by
  simp only [setR]
  exact ((((((h.set_ (p) _).set_ (p + 1) _).set_ (p + 2) _).set_ (p + 3) _).set_ (p + 4) _).set_ (p + 5) _)
theorem only_setsNote {a w : World} {g : Nat} (h : a.grownBy w (some g)) (p : Nat) (v0 v1 v2 v3 v4 v5 : Value) : a.grownBy ((((((w.setCell ⟨g, p, none⟩ v0).setCell ⟨g, p + 1, none⟩ v1).setCell ⟨g, p + 1 + 1, none⟩ v2).setCell ⟨g, p + 1 + 2, none⟩ v3).setCell ⟨g, p + 4, none⟩ v4).setCell ⟨g, p + 5, none⟩ v5) (some g) := (only_setCell (only_setCell (only_setCell (only_setCell (only_setCell (only_setCell h (.inl rfl) _) (.inl rfl) _) (.inl rfl) _) (.inl rfl) _) (.inl rfl) _) (.inl rfl) _)
end Go.Proofs.Ytggjgjcdpnidnaa
