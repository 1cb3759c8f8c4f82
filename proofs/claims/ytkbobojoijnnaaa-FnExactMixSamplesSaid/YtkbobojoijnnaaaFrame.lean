/- How the arguments of a law are opened: a slice of ints, a slice of bytes. No condition. -/
import Derived.Test.YtkbobojoijnnaaaBase
import Derived.Test.YtkbobojoijnnaaaRows
import Derived.ProofKit
import Derived.OpenShut
import Derived.ShutString
import Derived.ChangeOld
namespace Go.Proofs.Ytkbobojoijnnaaa
set_option linter.unusedVariables false
open Go.ChangeShapes Go.WideShapes Go.ChangeAt Go.RowKit

theorem own : ownKnob Try.prog.godebug = none := by kernel_rfl
theorem laidOut : laidOutB Try.prog = true := by kernel_rfl

section
variable {H : Type} {enc : TypeId × Value → H} {P : Program} {w : World} {base : Nat} {spare : Nat → Bool} {held : Bool}
theorem open_ints_rd {t e : TypeId} {a : Option Addr} {len cap fuel : Nat} {x : DataW H × List MemPlace} (ht : P.underlying t = some (.slice e)) (he : P.underlying e = some (.int .i64)) (hc : P.cellsOf e = 1)
    (h : DataW.trod enc P w base (fun _ => true) held fuel t (Value.slice a len cap).cells.toList = some x) : ∃ X : List Int, X.length = len ∧ RdI w w.heap.size a X ∧ WfI X ∧ len ≤ maxLen := by
  rcases open_ints ht he hc h with ⟨hcs, _⟩ | ⟨y, l, c, zs, hcs, _, hl, hm, hz, _, hcell, hwz⟩
  · simp [Value.cells] at hcs
    obtain ⟨rfl, rfl, rfl⟩ := hcs
    exact ⟨[], rfl, Rd.none_, (fun z hz => by cases hz), by unfold maxLen; omega⟩
  · simp [Value.cells] at hcs
    obtain ⟨rfl, rfl, rfl⟩ := hcs
    have hz' : zs.length = cap := by simpa using hz
    have hX : (zs.take len).length = len := by simp; omega
    refine ⟨zs.take len, hX, ⟨by simp [iv], fun hn => ?_⟩, fun z hz => ?_, by omega⟩
    · obtain ⟨b, off, rfl, hat⟩ := ints_at hcell (by omega)
      refine ⟨b, off, rfl, World.block_lt_of_cell? w ⟨b, off + 0, none⟩ (hat 0 (by omega)), fun j u hu => ?_⟩
      have hj : j < (zs.take len).length := by
        rcases Nat.lt_or_ge j (zs.take len).length with h | h
        · exact h
        · rw [List.getElem?_eq_none (by simpa [iv] using h)] at hu; cases hu
      rw [hX] at hj
      rw [hat j (by omega), ← hu, iv, List.getElem?_map, List.getElem?_take, if_pos hj, List.getElem?_eq_getElem (by omega : j < zs.length), List.getD_eq_getElem?_getD, List.getElem?_eq_getElem (by omega : j < zs.length)]
      rfl
    · exact bounds_i64 (hwz z (List.mem_of_mem_take hz))
end
end Go.Proofs.Ytkbobojoijnnaaa
