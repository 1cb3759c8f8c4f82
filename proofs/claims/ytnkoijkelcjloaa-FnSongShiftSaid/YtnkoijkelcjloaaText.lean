/- Contracts of PatternText, of the program and of the reference. No condition but that the slice is readable. -/
import Derived.Test.YtnkoijkelcjloaaPat
import Derived.Laws.IdiomStrings
namespace Go.Proofs.Ytnkoijkelcjloaa
set_option linter.unusedVariables false
open Go.RowKit

def RetS (w : World) (s : ByteArray) (e : Ending) (w' : World) : Prop := e = .returned (.string s) ∧ Below w.heap.size w w'
theorem ret_str {a b : ByteArray} (h : a = b) : Ending.returned (.string a) = .returned (.string b) := by rw [h]
def strV (l : List UInt8) : ByteArray := ⟨l.toArray⟩
theorem strV_size (l : List UInt8) : (strV l).size = l.length := by simp [strV, ByteArray.size]
theorem strV_app (a b : List UInt8) : strV a ++ strV b = strV (a ++ b) := ByteArray.mk_append_mk a b
/-- bytes as values -/
def uv (l : List UInt8) : List Value := l.map fun b => Value.int .u8 (b.toNat : Int)
theorem uv_app (a b : List UInt8) : uv (a ++ b) = uv a ++ uv b := by simp [uv]
def textB (zs : List Bool) : List UInt8 := zs.map fun b => if b then 120 else 45
theorem textB_len (zs : List Bool) : (textB zs).length = zs.length := by simp [textB]
theorem textB_succ {zs : List Bool} {k : Nat} (h : k < zs.length) : textB (zs.take (k + 1)) = textB (zs.take k) ++ [if gb zs k then 120 else 45] := by
  rw [take_succ_gb h]; simp [textB]
def textL (zs : List Bool) : List UInt8 := if patL zs = true then textB zs else []
theorem infoU8 : (Try.prog.info? 5).map (fun i => (i.zero, i.size, i.bytes)) = some (some (Value.int .u8 0), 1, 1) := by kernel_rfl
end Go.Proofs.Ytnkoijkelcjloaa
