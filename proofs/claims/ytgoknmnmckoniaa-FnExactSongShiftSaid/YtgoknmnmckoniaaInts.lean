/- Contracts of the helpers of the exact laws on slices of ints: toIntS copies, eqIntS compares, markIntS writes, heldIntS looks. Conditions: lengths at most 2^20 where memory is made. -/
import Derived.Test.YtgoknmnmckoniaaNum
namespace Go.Proofs.Ytgoknmnmckoniaa
set_option linter.unusedVariables false
open Go.RowKit

theorem infoInt : (Try.prog.info? 3).map (fun i => (i.zero, i.size, i.bytes)) = some (some (Value.int .i64 0), 1, 8) := by kernel_rfl

/-- the array after k stores -/
def mkI (zs : List Int) (k : Nat) : Array Value := (iv (zs.take k) ++ List.replicate (zs.length - k) (Value.int .i64 0)).toArray
theorem mkI_size (zs : List Int) (k : Nat) (h : k ≤ zs.length) : (mkI zs k).size = zs.length := by simp [mkI, iv]; omega
theorem mkI_at (zs : List Int) (k : Nat) (h : k < zs.length) : (mkI zs k)[k]? = some (.int .i64 0) := by
  have hl : (iv (zs.take k)).length = k := by simp [iv]; omega
  simp only [mkI, List.getElem?_toArray]
  rw [List.getElem?_append_right (by omega), hl, Nat.sub_self, List.getElem?_replicate, if_pos (by omega)]
theorem mkI_set (zs : List Int) (k : Nat) (h : k < zs.length) : (mkI zs k).setIfInBounds k (.int .i64 (gi zs k)) = mkI zs (k + 1) := by
  have e : zs.length - k = (zs.length - (k + 1)) + 1 := by omega
  simp only [mkI, List.setIfInBounds_toArray]
  congr 1
  rw [List.set_append]
  have hl : (iv (zs.take k)).length = k := by simp [iv]; omega
  rw [if_neg (by omega), hl, Nat.sub_self, e, List.replicate_succ, List.set_cons_zero, take_succ_gi h, iv_append]
  simp [iv]
theorem mkI_all (zs : List Int) : mkI zs zs.length = (iv zs).toArray := by simp [mkI]
theorem mkI_none (zs : List Int) : madeCells (Value.cells (.int .i64 0)) (zs.length * 1) = mkI zs 0 := by
  rw [Nat.mul_one]
  exact (madeOne _ _).trans (by simp [mkI, iv])


def sameI (xs ys : List Int) : Bool := decide (xs = ys)
theorem sameI_refl (a : List Int) : sameI a a = true := by simp [sameI]
theorem take_ne {xs ys : List Int} {k : Nat} (h : k < xs.length) (h' : k < ys.length) (hne : gi xs k ≠ gi ys k) : sameI xs ys = false := by
  simp only [sameI, decide_eq_false_iff_not]
  rintro rfl
  exact hne rfl

/-- k, k + 1, .. -/
def upI (k : Int) (n : Nat) : List Int := (List.range n).map (fun (j : Nat) => k + (j : Int))
theorem upI_length (k : Int) (n : Nat) : (upI k n).length = n := by simp [upI]
theorem upI_succ (k : Int) (n : Nat) : upI k (n + 1) = upI k n ++ [k + n] := by simp [upI, List.range_succ]
theorem upI_at (k : Int) (n j : Nat) (h : j < n) : gi (upI k n) j = k + j := by simp [gi, upI, h]
def setUp (cur : Array Value) (k : Int) (j : Nat) : Array Value := (iv (upI k j) ++ cur.toList.drop j).toArray
theorem setUp_zero (cur : Array Value) (k : Int) : setUp cur k 0 = cur := by simp [setUp, upI, iv]
theorem setUp_size (cur : Array Value) (k : Int) (j : Nat) (h : j ≤ cur.size) : (setUp cur k j).size = cur.size := by simp [setUp, iv, upI]; omega
theorem setUp_at (cur : Array Value) (k : Int) (j : Nat) (h : j < cur.size) : ∃ u, (setUp cur k j)[j]? = some u := ⟨_, Array.getElem?_eq_getElem (by rw [setUp_size _ _ _ (by omega)]; exact h)⟩
theorem setUp_set (cur : Array Value) (k : Int) (j : Nat) (h : j < cur.size) : (setUp cur k j).setIfInBounds j (.int .i64 (k + j)) = setUp cur k (j + 1) := by
  simp only [setUp, List.setIfInBounds_toArray]
  congr 1
  rw [set_app_drop _ _ _ _ (by simp [iv, upI]) (by simpa using h), upI_succ, iv_append]
  rfl
end Go.Proofs.Ytgoknmnmckoniaa
