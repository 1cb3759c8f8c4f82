/- Contracts of the helpers of the exact laws on slices of Tempo: copy, compare, write, look. Conditions: lengths at most 2^20 where memory is made. -/
import Derived.Test.YtggjgjcdpnidnaaRecs
import Derived.Test.YtggjgjcdpnidnaaNum
import Derived.Test.YtggjgjcdpnidnaaNum
import Derived.Deep.RegionHeld3
namespace Go.Proofs.Ytggjgjcdpnidnaa
open Go.RowKit
set_option linter.unusedSimpArgs false
set_option linter.unusedVariables false
/-- a record of 2 ints -/
def encTempo (z : Int × Int) : List Value := [.int .i64 (z.1), .int .i64 (z.2)]
theorem encTempo_len (z : Int × Int) : (encTempo z).length = 2 := rfl
def RdTempo (w : World) (B : Nat) (A : Option Addr) (zs : List (Int × Int)) : Prop := RdR encTempo 2 w B A zs
def glTempo (zs : List (Int × Int)) (k : Nat) : Int × Int := zs.getD k (0, 0)
theorem glTempo_get {zs : List (Int × Int)} {k : Nat} (h : k < zs.length) : zs[k] = glTempo zs k := by simp [glTempo, h]
theorem RdTempo.at_ {w : World} {B : Nat} {A : Option Addr} {zs : List (Int × Int)} {k : Nat} (h : RdTempo w B A zs) (hk : k < zs.length) :
    ∃ b off, A = some ⟨b, off, none⟩ ∧ b < B ∧ w.cell? ⟨b, off + k * 2, none⟩ = some (.int .i64 ((glTempo zs k).1)) ∧ w.cell? ⟨b, off + k * 2 + 1, none⟩ = some (.int .i64 ((glTempo zs k).2)) := by
  obtain ⟨b, off, e, hb, hc⟩ := RdR.at_ encTempo_len h hk
  rw [glTempo_get hk] at hc
  exact ⟨b, off, e, hb, hc 0 _ rfl, hc 1 _ rfl⟩
theorem RdTempo.below {w w' : World} {B C : Nat} {A : Option Addr} {zs : List (Int × Int)} (h : RdTempo w B A zs) (hb : Below C w w') (hB : B ≤ C) : RdTempo w' B A zs := RdR.below h hb hB
theorem RdTempo.more {w : World} {B C : Nat} {A : Option Addr} {zs : List (Int × Int)} (h : RdTempo w B A zs) (hB : B ≤ C) : RdTempo w C A zs := RdR.more h hB
theorem RdTempo.drewN {w : World} {B : Nat} {A : Option Addr} {zs : List (Int × Int)} (h : RdTempo w B A zs) (k : Nat) : RdTempo (w.drewN k) B A zs := h
theorem RdTempo.al {w : World} {B : Nat} {A : Option Addr} {zs : List (Int × Int)} (h : RdTempo w B A zs) (hB : B ≤ w.heap.size) (o : Obj) : RdTempo (w.alloc o) B A zs := RdR.al h hB o
theorem RdTempo.far {w w' : World} {B lo' hi' E' size' c' n' : Nat} {A A' : Option Addr} {xs' : List Value} {zs : List (Int × Int)} (h : RdTempo w B A zs) (h' : Row w lo' hi' E' size' A' c' n' xs')
    (hg : w.grownBy w' (Value.slice A' n' c').ownBlock) (hw : B ≤ w.heap.size) (hd : B ≤ lo') : RdTempo w' B A zs := RdR.far h h' hg hw hd
theorem Row.rdTempo {w : World} {lo hi E c : Nat} {A : Option Addr} {zs : List (Int × Int)} (h : Row w lo hi E 2 A c zs.length (fl encTempo zs)) : RdTempo w hi A zs := h.rdR
def eqbTempo (x y : Int × Int) : Bool := decide (x = y)
def sameTempo (xs ys : List (Int × Int)) : Bool := decide (xs = ys)
theorem sameTempo_refl (a : List (Int × Int)) : sameTempo a a = true := by simp [sameTempo]
theorem take_succ_Tempo {zs : List (Int × Int)} {k : Nat} (h : k < zs.length) : zs.take (k + 1) = zs.take k ++ [glTempo zs k] := by rw [List.take_succ_eq_append_getElem h, glTempo_get h]
theorem take_ne_Tempo {xs ys : List (Int × Int)} {k : Nat} (h : k < xs.length) (h' : k < ys.length) (hne : glTempo xs k ≠ glTempo ys k) : sameTempo xs ys = false := by
  simp only [sameTempo, decide_eq_false_iff_not]
  rintro rfl
  exact hne rfl
theorem infoTempo : (Try.prog.info? 70).map (fun i => (i.zero, i.size, i.bytes)) = some (some (Value.agg #[Value.int .i64 0, Value.int .i64 0]), 2, 16) := by kernel_rfl
/-- k, k + 1, .. -/
def upTempo (k : Int) (n : Nat) : List (Int × Int) := (List.range n).map fun (j : Nat) => (k + 2 * (j : Int), k + 2 * (j : Int) + 1)
theorem upTempo_length (k : Int) (n : Nat) : (upTempo k n).length = n := by simp [upTempo]
theorem upTempo_at (k : Int) (n j : Nat) (h : j < n) : glTempo (upTempo k n) j = (k + 2 * (j : Int), k + 2 * (j : Int) + 1) := by simp [glTempo, upTempo, h]
theorem upTempo_succ (k : Int) (n : Nat) : upTempo k (n + 1) = upTempo k n ++ [(k + 2 * (n : Int), k + 2 * (n : Int) + 1)] := by simp [upTempo, List.range_succ]
def setUpTempo (cur : Array Value) (k : Int) (j : Nat) : Array Value := (fl encTempo (upTempo k j) ++ cur.toList.drop (j * 2)).toArray
theorem setUpTempo_zero (cur : Array Value) (k : Int) : setUpTempo cur k 0 = cur := by simp [setUpTempo, upTempo, fl]
theorem setUpTempo_size (cur : Array Value) (k : Int) (j : Nat) (h : j * 2 ≤ cur.size) : (setUpTempo cur k j).size = cur.size := by
  simp only [setUpTempo, List.size_toArray, List.length_append, List.length_drop, Array.length_toList]
  rw [fl_length encTempo_len, upTempo_length]; omega
theorem setUpTempo_at (cur : Array Value) (k : Int) (j i : Nat) (h : j * 2 + i < cur.size) : ∃ u, (setUpTempo cur k j)[j * 2 + i]? = some u := ⟨_, Array.getElem?_eq_getElem (by rw [setUpTempo_size _ _ _ (by omega)]; exact h)⟩
theorem setUpTempo_set (cur : Array Value) (k : Int) (j : Nat) (h : j * 2 + 2 ≤ cur.size) : setR (setUpTempo cur k j) (j * 2) [.int .i64 (k + 2 * (j : Int)), .int .i64 (k + 2 * (j : Int) + 1)] = setUpTempo cur k (j + 1) := by
  have e : cur.toList.drop (j * 2) = (cur.toList.drop (j * 2)).take 2 ++ cur.toList.drop ((j + 1) * 2) := by
    rw [show (j + 1) * 2 = j * 2 + 2 by omega, ← List.drop_drop, List.take_append_drop]
  have hl : (fl encTempo (upTempo k j)).length = j * 2 := by rw [fl_length encTempo_len, upTempo_length]
  unfold setUpTempo
  rw [e, ← List.append_assoc, setR_mid _ _ _ _ _ hl.symm (by simp; omega), upTempo_succ, fl_append, fl_one]
  rfl
theorem Blk.setsTempo {w : World} {g : Nat} {t : TypeId} {cs : Array Value} (h : Blk w g t cs) (p : Nat) (v0 v1 : Value) : Blk ((w.setCell ⟨g, p, none⟩ v0).setCell ⟨g, p + 1, none⟩ v1) g t (setR cs p [v0, v1]) := by
  simp only [setR]
  exact ((h.set_ (p) _).set_ (p + 1) _)
theorem only_setsTempo {a w : World} {g : Nat} (h : a.grownBy w (some g)) (p : Nat) (v0 v1 : Value) : a.grownBy ((w.setCell ⟨g, p, none⟩ v0).setCell ⟨g, p + 1, none⟩ v1) (some g) := (only_setCell (only_setCell h (.inl rfl) _) (.inl rfl) _)
end Go.Proofs.Ytggjgjcdpnidnaa
