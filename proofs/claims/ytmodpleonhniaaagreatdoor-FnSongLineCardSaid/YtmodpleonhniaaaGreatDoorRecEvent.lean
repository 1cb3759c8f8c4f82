/- Contracts of the helpers of the exact laws on slices of Event: copy, compare, write, look. Conditions: lengths at most 2^20 where memory is made. -/
import Derived.Test.YtmodpleonhniaaaGreatDoorMrg1
import Derived.Deep.RegionHeld3
namespace Go.Proofs.YtmodpleonhniaaaGreatDoor
open Go.RowKit
set_option linter.unusedSimpArgs false
set_option linter.unusedVariables false
/-- a record of 4 ints -/
def encEvent (z : Int × Int × Int × Int) : List Value := [.int .i64 (z.1), .int .i64 (z.2.1), .int .i64 (z.2.2.1), .int .i64 (z.2.2.2)]
theorem encEvent_len (z : Int × Int × Int × Int) : (encEvent z).length = 4 := rfl
def RdEvent (w : World) (B : Nat) (A : Option Addr) (zs : List (Int × Int × Int × Int)) : Prop := RdR encEvent 4 w B A zs
def glEvent (zs : List (Int × Int × Int × Int)) (k : Nat) : Int × Int × Int × Int := zs.getD k (0, 0, 0, 0)
theorem glEvent_get {zs : List (Int × Int × Int × Int)} {k : Nat} (h : k < zs.length) : zs[k] = glEvent zs k := by simp [glEvent, h]
theorem RdEvent.at_ {w : World} {B : Nat} {A : Option Addr} {zs : List (Int × Int × Int × Int)} {k : Nat} (h : RdEvent w B A zs) (hk : k < zs.length) :
    ∃ b off, A = some ⟨b, off, none⟩ ∧ b < B ∧ w.cell? ⟨b, off + k * 4, none⟩ = some (.int .i64 ((glEvent zs k).1)) ∧ w.cell? ⟨b, off + k * 4 + 1, none⟩ = some (.int .i64 ((glEvent zs k).2.1)) ∧ w.cell? ⟨b, off + k * 4 + 2, none⟩ = some (.int .i64 ((glEvent zs k).2.2.1)) ∧ w.cell? ⟨b, off + k * 4 + 3, none⟩ = some (.int .i64 ((glEvent zs k).2.2.2)) := by
  obtain ⟨b, off, e, hb, hc⟩ := RdR.at_ encEvent_len h hk
  rw [glEvent_get hk] at hc
  exact ⟨b, off, e, hb, hc 0 _ rfl, hc 1 _ rfl, hc 2 _ rfl, hc 3 _ rfl⟩
theorem RdEvent.below {w w' : World} {B C : Nat} {A : Option Addr} {zs : List (Int × Int × Int × Int)} (h : RdEvent w B A zs) (hb : Below C w w') (hB : B ≤ C) : RdEvent w' B A zs := RdR.below h hb hB
theorem RdEvent.more {w : World} {B C : Nat} {A : Option Addr} {zs : List (Int × Int × Int × Int)} (h : RdEvent w B A zs) (hB : B ≤ C) : RdEvent w C A zs := RdR.more h hB
theorem RdEvent.drewN {w : World} {B : Nat} {A : Option Addr} {zs : List (Int × Int × Int × Int)} (h : RdEvent w B A zs) (k : Nat) : RdEvent (w.drewN k) B A zs := h
theorem RdEvent.al {w : World} {B : Nat} {A : Option Addr} {zs : List (Int × Int × Int × Int)} (h : RdEvent w B A zs) (hB : B ≤ w.heap.size) (o : Obj) : RdEvent (w.alloc o) B A zs := RdR.al h hB o
theorem RdEvent.far {w w' : World} {B lo' hi' E' size' c' n' : Nat} {A A' : Option Addr} {xs' : List Value} {zs : List (Int × Int × Int × Int)} (h : RdEvent w B A zs) (h' : Row w lo' hi' E' size' A' c' n' xs')
    (hg : w.grownBy w' (Value.slice A' n' c').ownBlock) (hw : B ≤ w.heap.size) (hd : B ≤ lo') : RdEvent w' B A zs := RdR.far h h' hg hw hd
theorem Row.rdEvent {w : World} {lo hi E c : Nat} {A : Option Addr} {zs : List (Int × Int × Int × Int)} (h : Row w lo hi E 4 A c zs.length (fl encEvent zs)) : RdEvent w hi A zs := h.rdR
def eqbEvent (x y : Int × Int × Int × Int) : Bool := decide (x = y)
def sameEvent (xs ys : List (Int × Int × Int × Int)) : Bool := decide (xs = ys)
theorem sameEvent_refl (a : List (Int × Int × Int × Int)) : sameEvent a a = true := by simp [sameEvent]
theorem take_succ_Event {zs : List (Int × Int × Int × Int)} {k : Nat} (h : k < zs.length) : zs.take (k + 1) = zs.take k ++ [glEvent zs k] := by rw [List.take_succ_eq_append_getElem h, glEvent_get h]
theorem take_ne_Event {xs ys : List (Int × Int × Int × Int)} {k : Nat} (h : k < xs.length) (h' : k < ys.length) (hne : glEvent xs k ≠ glEvent ys k) : sameEvent xs ys = false := by
  simp only [sameEvent, decide_eq_false_iff_not]
  rintro rfl
  exact hne rfl
/-- k, k + 1, .. -/
def upEvent (k : Int) (n : Nat) : List (Int × Int × Int × Int) := (List.range n).map fun (j : Nat) => (k + 4 * (j : Int), k + 4 * (j : Int) + 1, k + 4 * (j : Int) + 1 + 1, k + 4 * (j : Int) + 1 + 1 + 1)
theorem upEvent_length (k : Int) (n : Nat) : (upEvent k n).length = n := by simp [upEvent]
theorem upEvent_at (k : Int) (n j : Nat) (h : j < n) : glEvent (upEvent k n) j = (k + 4 * (j : Int), k + 4 * (j : Int) + 1, k + 4 * (j : Int) + 1 + 1, k + 4 * (j : Int) + 1 + 1 + 1) := by simp [glEvent, upEvent, h]
theorem upEvent_succ (k : Int) (n : Nat) : upEvent k (n + 1) = upEvent k n ++ [(k + 4 * (n : Int), k + 4 * (n : Int) + 1, k + 4 * (n : Int) + 1 + 1, k + 4 * (n : Int) + 1 + 1 + 1)] := by simp [upEvent, List.range_succ]
def setUpEvent (cur : Array Value) (k : Int) (j : Nat) : Array Value := (fl encEvent (upEvent k j) ++ cur.toList.drop (j * 4)).toArray
theorem setUpEvent_zero (cur : Array Value) (k : Int) : setUpEvent cur k 0 = cur := by simp [setUpEvent, upEvent, fl]
theorem setUpEvent_size (cur : Array Value) (k : Int) (j : Nat) (h : j * 4 ≤ cur.size) : (setUpEvent cur k j).size = cur.size := by
  simp only [setUpEvent, List.size_toArray, List.length_append, List.length_drop, Array.length_toList]
  rw [fl_length encEvent_len, upEvent_length]; omega
theorem setUpEvent_at (cur : Array Value) (k : Int) (j i : Nat) (h : j * 4 + i < cur.size) : ∃ u, (setUpEvent cur k j)[j * 4 + i]? = some u := ⟨_, Array.getElem?_eq_getElem (by rw [setUpEvent_size _ _ _ (by omega)]; exact h)⟩
theorem setUpEvent_set (cur : Array Value) (k : Int) (j : Nat) (h : j * 4 + 4 ≤ cur.size) : setR (setUpEvent cur k j) (j * 4) [.int .i64 (k + 4 * (j : Int)), .int .i64 (k + 4 * (j : Int) + 1), .int .i64 (k + 4 * (j : Int) + 1 + 1), .int .i64 (k + 4 * (j : Int) + 1 + 1 + 1)] = setUpEvent cur k (j + 1) := by
  have e : cur.toList.drop (j * 4) = (cur.toList.drop (j * 4)).take 4 ++ cur.toList.drop ((j + 1) * 4) := by
    rw [show (j + 1) * 4 = j * 4 + 4 by omega, ← List.drop_drop, List.take_append_drop]
  have hl : (fl encEvent (upEvent k j)).length = j * 4 := by rw [fl_length encEvent_len, upEvent_length]
  unfold setUpEvent
  rw [e, ← List.append_assoc, setR_mid _ _ _ _ _ hl.symm (by simp; omega), upEvent_succ, fl_append, fl_one]
  rfl
theorem Blk.setsEvent {w : World} {g : Nat} {t : TypeId} {cs : Array Value} (h : Blk w g t cs) (p : Nat) (v0 v1 v2 v3 : Value) : Blk ((((w.setCell ⟨g, p, none⟩ v0).setCell ⟨g, p + 1, none⟩ v1).setCell ⟨g, p + 2, none⟩ v2).setCell ⟨g, p + 3, none⟩ v3) g t (setR cs p [v0, v1, v2, v3]) := by
  simp only [setR]
  exact ((((h.set_ (p) _).set_ (p + 1) _).set_ (p + 2) _).set_ (p + 3) _)
theorem only_setsEvent {a w : World} {g : Nat} (h : a.grownBy w (some g)) (p : Nat) (v0 v1 v2 v3 : Value) : a.grownBy ((((w.setCell ⟨g, p, none⟩ v0).setCell ⟨g, p + 1, none⟩ v1).setCell ⟨g, p + 2, none⟩ v2).setCell ⟨g, p + 3, none⟩ v3) (some g) := (only_setCell (only_setCell (only_setCell (only_setCell h (.inl rfl) _) (.inl rfl) _) (.inl rfl) _) (.inl rfl) _)
end Go.Proofs.YtmodpleonhniaaaGreatDoor
