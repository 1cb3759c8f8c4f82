/- Contracts of the helpers of the exact laws on slices of bools and on patterns. Conditions: lengths at most 2^20 where memory is made. -/
import Derived.Test.YtnkoijkelcjloaaMrg1
namespace Go.Proofs.Ytnkoijkelcjloaa
set_option linter.unusedVariables false
open Go.RowKit

/-- the k-th bool -/
def gb (zs : List Bool) (k : Nat) : Bool := zs.getD k false
def bv (zs : List Bool) : List Value := zs.map Value.bool
def RdBo (w : World) (B : Nat) (A : Option Addr) (zs : List Bool) : Prop := Rd w B 1 A zs.length (bv zs)
theorem bv_append (a b : List Bool) : bv (a ++ b) = bv a ++ bv b := by simp [bv]
theorem bv_one (z : Bool) : bv [z] = [.bool z] := rfl
theorem gb_get {zs : List Bool} {k : Nat} (h : k < zs.length) : zs[k] = gb zs k := by simp [gb, h]
theorem gb_mem {zs : List Bool} {k : Nat} (h : k < zs.length) : gb zs k ∈ zs := by rw [← gb_get h]; exact List.getElem_mem h
theorem take_succ_gb {zs : List Bool} {k : Nat} (h : k < zs.length) : zs.take (k + 1) = zs.take k ++ [gb zs k] := by
  rw [List.take_succ_eq_append_getElem h, gb_get h]
theorem RdBo.at_ {w : World} {B : Nat} {A : Option Addr} {zs : List Bool} {k : Nat} (h : RdBo w B A zs) (hk : k < zs.length) :
    ∃ b off, A = some ⟨b, off, none⟩ ∧ b < B ∧ w.cell? ⟨b, off + k, none⟩ = some (.bool (gb zs k)) := by
  obtain ⟨b, off, u, e, hb, hx, hc⟩ := Rd.at1 h hk
  refine ⟨b, off, e, hb, ?_⟩
  rw [hc, ← hx, bv, List.getElem?_map, List.getElem?_eq_getElem hk, gb_get hk]; rfl
theorem RdBo.below {w w' : World} {B C : Nat} {A : Option Addr} {zs : List Bool} (h : RdBo w B A zs) (hb : Below C w w') (hB : B ≤ C) : RdBo w' B A zs := Rd.below h hb hB
theorem RdBo.more {w : World} {B C : Nat} {A : Option Addr} {zs : List Bool} (h : RdBo w B A zs) (hB : B ≤ C) : RdBo w C A zs := Rd.more h hB
theorem RdBo.drew {w : World} {B : Nat} {A : Option Addr} {zs : List Bool} (h : RdBo w B A zs) : RdBo w.drew B A zs := h
theorem RdBo.far {w w' : World} {B lo' hi' E' size' c' n' : Nat} {A A' : Option Addr} {xs' : List Value} {zs : List Bool} (h : RdBo w B A zs) (h' : Row w lo' hi' E' size' A' c' n' xs')
    (hg : w.grownBy w' (Value.slice A' n' c').ownBlock) (hw : B ≤ w.heap.size) (hd : B ≤ lo') : RdBo w' B A zs := Rd.far h h' hg hw hd
theorem RdBo.of_own' {w : World} {base c n : Nat} {e : TypeId} {A : Option Addr} {zs : List Bool} (h : w.ownsRow base e 1 (.slice A n c) n (bv zs)) (hn : zs.length = n) : RdBo w w.heap.size A zs := by subst hn; exact Rd.of_own h

theorem bv_at {zs : List Bool} {k : Nat} (h : k < zs.length) : (bv zs)[k]? = some (.bool (gb zs k)) := by
  rw [bv, List.getElem?_map, List.getElem?_eq_getElem h, gb_get h]; rfl
theorem bv_set (zs : List Bool) (k : Nat) (v : Bool) : (bv zs).set k (.bool v) = bv (zs.set k v) := by
  rw [bv, bv, List.map_set]
theorem infoBool : (Try.prog.info? 4).map (fun i => (i.zero, i.size, i.bytes)) = some (some (Value.bool false), 1, 1) := by kernel_rfl
/-- the array after k stores -/
def mkB (zs : List Bool) (k : Nat) : Array Value := (bv (zs.take k) ++ List.replicate (zs.length - k) (Value.bool false)).toArray
theorem mkB_size (zs : List Bool) (k : Nat) (h : k ≤ zs.length) : (mkB zs k).size = zs.length := by simp [mkB, bv]; omega
theorem mkB_at (zs : List Bool) (k : Nat) (h : k < zs.length) : (mkB zs k)[k]? = some (.bool false) := by
  have hl : (bv (zs.take k)).length = k := by simp [bv]; omega
  simp only [mkB, List.getElem?_toArray]
  rw [List.getElem?_append_right (by omega), hl, Nat.sub_self, List.getElem?_replicate, if_pos (by omega)]
theorem mkB_set (zs : List Bool) (k : Nat) (h : k < zs.length) : (mkB zs k).setIfInBounds k (.bool (gb zs k)) = mkB zs (k + 1) := by
  have e : zs.length - k = (zs.length - (k + 1)) + 1 := by omega
  simp only [mkB, List.setIfInBounds_toArray]
  congr 1
  rw [List.set_append]
  have hl : (bv (zs.take k)).length = k := by simp [bv]; omega
  rw [if_neg (by omega), hl, Nat.sub_self, e, List.replicate_succ, List.set_cons_zero, take_succ_gb h, bv_append]
  simp [bv]
theorem mkB_all (zs : List Bool) : mkB zs zs.length = (bv zs).toArray := by simp [mkB]
theorem mkB_none (zs : List Bool) : madeCells (Value.cells (.bool false)) (zs.length * 1) = mkB zs 0 := by
  rw [Nat.mul_one]
  exact (madeOne _ _).trans (by simp [mkB, bv])


def sameBo (xs ys : List Bool) : Bool := decide (xs = ys)
theorem sameBo_refl (a : List Bool) : sameBo a a = true := by simp [sameBo]
theorem take_neB {xs ys : List Bool} {k : Nat} (h : k < xs.length) (h' : k < ys.length) (hne : gb xs k ≠ gb ys k) : sameBo xs ys = false := by
  simp only [sameBo, decide_eq_false_iff_not]
  rintro rfl
  exact hne rfl

/-- k % 3 == 0 -/
def m3 (k : Int) : Bool := k % 3 == 0
def upB (k : Int) (n : Nat) : List Bool := (List.range n).map (fun (j : Nat) => m3 (k + (j : Int)))
theorem upB_length (k : Int) (n : Nat) : (upB k n).length = n := by simp [upB]
theorem upB_succ (k : Int) (n : Nat) : upB k (n + 1) = upB k n ++ [m3 (k + n)] := by simp [upB, List.range_succ]
theorem upB_at (k : Int) (n j : Nat) (h : j < n) : gb (upB k n) j = m3 (k + j) := by simp [gb, upB, h]
def setUpB (cur : Array Value) (k : Int) (j : Nat) : Array Value := (bv (upB k j) ++ cur.toList.drop j).toArray
theorem setUpB_zero (cur : Array Value) (k : Int) : setUpB cur k 0 = cur := by simp [setUpB, upB, bv]
theorem setUpB_size (cur : Array Value) (k : Int) (j : Nat) (h : j ≤ cur.size) : (setUpB cur k j).size = cur.size := by simp [setUpB, bv, upB]; omega
theorem setUpB_at (cur : Array Value) (k : Int) (j : Nat) (h : j < cur.size) : ∃ u, (setUpB cur k j)[j]? = some u := ⟨_, Array.getElem?_eq_getElem (by rw [setUpB_size _ _ _ (by omega)]; exact h)⟩
theorem setUpB_set (cur : Array Value) (k : Int) (j : Nat) (h : j < cur.size) : (setUpB cur k j).setIfInBounds j (.bool (m3 (k + j))) = setUpB cur k (j + 1) := by
  simp only [setUpB, List.setIfInBounds_toArray]
  congr 1
  rw [set_app_drop _ _ _ _ (by simp [bv, upB]) (by simpa using h), upB_succ, bv_append]
  rfl
end Go.Proofs.Ytnkoijkelcjloaa
