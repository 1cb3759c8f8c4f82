/- How the arguments of a law are opened: a slice of ints, a slice of bytes. No condition. -/
import Derived.Test.YtmodpleonhniaaaGreatDoorMrg1
import Derived.Test.YtmodpleonhniaaaGreatDoorRows
import Derived.ProofKit
import Derived.OpenShut
import Derived.ShutString
import Derived.ChangeOld
import Derived.Deep.Slices
import Derived.Deep.Fields
import Derived.Lib.SmallJoins
namespace Go.Proofs.YtmodpleonhniaaaGreatDoor
set_option linter.unusedVariables false
open Go.ChangeShapes Go.WideShapes Go.ChangeAt Go.RowKit

theorem own : ownKnob Tryz.prog.godebug = none := by kernel_rfl
theorem laidOut : laidOutB Tryz.prog = true := by kernel_rfl

section
variable {H : Type} {enc : TypeId × Value → H} {P : Program} {w : World} {base : Nat} {spare : Nat → Bool} {held : Bool}
theorem open_ints_rd {t e : TypeId} {a : Option Addr} {len cap fuel : Nat} {x : DataW H × List MemPlace} (ht : P.underlying t = some (.slice e)) (he : P.underlying e = some (.int .i64)) (hc : P.cellsOf e = 1)
    (h : DataW.trod enc P w base (fun _ => true) held fuel t (Value.slice a len cap).cells.toList = some x) : ∃ X : List Int, X.length = len ∧ RdI w w.heap.size a X ∧ WfI X ∧ len ≤ maxLen := by
  rcases open_ints ht he hc h with ⟨hcs, _⟩ | ⟨y, l, c, zs, hcs, _, hl, hm, hz, _, hcell, hwz⟩
  · simp [Value.cells] at hcs
    obtain ⟨rfl, rfl, rfl⟩ := hcs
    exact ⟨[], rfl, Rd.none_, (fun z hz => by cases hz), by unfold maxLen; omega⟩
  · simp [Value.cells] at hcs
    obtain ⟨rfl, rfl, rfl⟩ := hcs
    have hz' : zs.length = cap := by simpa using hz
    have hX : (zs.take len).length = len := by simp; omega
    refine ⟨zs.take len, hX, ⟨by simp [iv], fun hn => ?_⟩, fun z hz => ?_, by omega⟩
    · obtain ⟨b, off, rfl, hat⟩ := ints_at hcell (by omega)
      refine ⟨b, off, rfl, World.block_lt_of_cell? w ⟨b, off + 0, none⟩ (hat 0 (by omega)), fun j u hu => ?_⟩
      have hj : j < (zs.take len).length := by
        rcases Nat.lt_or_ge j (zs.take len).length with h | h
        · exact h
        · rw [List.getElem?_eq_none (by simpa [iv] using h)] at hu; cases hu
      rw [hX] at hj
      rw [hat j (by omega), ← hu, iv, List.getElem?_map, List.getElem?_take, if_pos hj, List.getElem?_eq_getElem (by omega : j < zs.length), List.getD_eq_getElem?_getD, List.getElem?_eq_getElem (by omega : j < zs.length)]
      rfl
    · exact bounds_i64 (hwz z (List.mem_of_mem_take hz))

theorem open_bytes_rd {t e : TypeId} {a : Option Addr} {len cap fuel : Nat} {x : DataW H × List MemPlace} (ht : P.underlying t = some (.slice e)) (he : P.underlying e = some (.int .u8)) (hc : P.cellsOf e = 1)
    (h : DataW.trod enc P w base (fun _ => true) held fuel t (Value.slice a len cap).cells.toList = some x) : ∃ X : List Int, X.length = len ∧ RdY w w.heap.size a X ∧ WfY X ∧ len ≤ cap ∧ len ≤ maxLen := by
  rcases open_ints ht he hc h with ⟨hcs, _⟩ | ⟨y, l, c, zs, hcs, _, hl, hm, hz, _, hcell, hwz⟩
  · simp [Value.cells] at hcs
    obtain ⟨rfl, rfl, rfl⟩ := hcs
    exact ⟨[], rfl, Rd.none_, (fun z hz => by cases hz), Nat.le_refl _, by unfold maxLen; omega⟩
  · simp [Value.cells] at hcs
    obtain ⟨rfl, rfl, rfl⟩ := hcs
    have hz' : zs.length = cap := by simpa using hz
    have hX : (zs.take len).length = len := by simp; omega
    refine ⟨zs.take len, hX, ⟨by simp [yv], fun hn => ?_⟩, fun z hz => ?_, by omega, by omega⟩
    · obtain ⟨b, off, rfl, hat⟩ := ints_at hcell (by omega)
      refine ⟨b, off, rfl, World.block_lt_of_cell? w ⟨b, off + 0, none⟩ (hat 0 (by omega)), fun j u hu => ?_⟩
      have hj : j < (zs.take len).length := by
        rcases Nat.lt_or_ge j (zs.take len).length with h | h
        · exact h
        · rw [List.getElem?_eq_none (by simpa [yv] using h)] at hu; cases hu
      rw [hX] at hj
      rw [hat j (by omega), ← hu, yv, List.getElem?_map, List.getElem?_take, if_pos hj, List.getElem?_eq_getElem (by omega : j < zs.length), List.getD_eq_getElem?_getD, List.getElem?_eq_getElem (by omega : j < zs.length)]
      rfl
    · exact bounds_u8 (hwz z (List.mem_of_mem_take hz))

/-- a slice of one-cell elements: the values V, each read as its type -/
theorem open_rd1 {t e : TypeId} {a : Option Addr} {len cap fuel : Nat} {x : DataW H × List MemPlace} (ht : P.underlying t = some (.slice e)) (hc : P.cellsOf e = 1)
    (h : DataW.trod enc P w base (fun _ => true) held fuel t (Value.slice a len cap).cells.toList = some x) :
    ∃ V : Nat → Value, Rd w w.heap.size 1 a len ((List.range len).map V) ∧ (∀ i, i < len → ∃ n y, DataW.trod enc P w base (fun _ => true) held n e [V i] = some y) ∧ len ≤ maxLen := by
  rcases Go.Deep.open_slice1 ht hc h with ⟨hcs, _⟩ | ⟨y, l, c, m, n, V, D, Pl, hcs, _, hl, hm, hmm, _, hi⟩
  · simp [Value.cells] at hcs
    obtain ⟨rfl, rfl, rfl⟩ := hcs
    exact ⟨fun _ => .bool false, Rd.none_, (fun i hi => by omega), by unfold maxLen; omega⟩
  · simp [Value.cells] at hcs
    obtain ⟨rfl, rfl, rfl⟩ := hcs
    have hm' : m = cap := by simpa using hmm
    refine ⟨V, ⟨by simp, fun hn => ?_⟩, fun i hil => ⟨n, _, (hi i (by omega)).2⟩, by omega⟩
    obtain ⟨b, off, spot⟩ := y
    have hspot : spot = none := by simpa [Addr.add] using World.cell?_spot (hi 0 (by omega)).1
    subst hspot
    refine ⟨b, off, rfl, World.block_lt_of_cell? w _ (hi 0 (by omega)).1, fun j u hu => ?_⟩
    · have hj : j < len := by
        rcases Nat.lt_or_ge j len with h | h
        · exact h
        · rw [List.getElem?_eq_none (by simpa using h)] at hu; cases hu
      have h1 := (hi j (by omega)).1
      rw [Go.WideShapes.add_plain] at h1
      rw [h1, ← hu]
      simp [hj]
theorem slice_of {t e : TypeId} {fuel : Nat} {v : Value} {x : DataW H × List MemPlace} (ht : P.underlying t = some (.slice e)) (h : DataW.trod enc P w base spare held fuel t [v] = some x) : ∃ a len cap, v = .slice a len cap := by
  rcases Go.Deep.open_slice ht h with ⟨hcs, _⟩ | ⟨a, len, cap, _, _, _, _, hcs, _⟩
  · simp at hcs; exact ⟨_, _, _, hcs⟩
  · simp at hcs; exact ⟨_, _, _, hcs⟩
def boolOf : Value → Bool | .bool b => b | _ => false
theorem open_bools_rd {t e : TypeId} {a : Option Addr} {len cap fuel : Nat} {x : DataW H × List MemPlace} (ht : P.underlying t = some (.slice e)) (he : P.underlying e = some .bool) (hc : P.cellsOf e = 1)
    (h : DataW.trod enc P w base (fun _ => true) held fuel t (Value.slice a len cap).cells.toList = some x) : ∃ X : List Bool, X.length = len ∧ Rd w w.heap.size 1 a X.length (X.map Value.bool) ∧ len ≤ maxLen := by
  obtain ⟨V, hr, hv, hm⟩ := open_rd1 ht hc h
  refine ⟨(List.range len).map fun i => boolOf (V i), by simp, ?_, hm⟩
  have e1 : ((List.range len).map fun i => boolOf (V i)).map Value.bool = (List.range len).map V := by
    rw [List.map_map]
    refine List.map_congr_left fun i hi => ?_
    obtain ⟨n, y, hy⟩ := hv i (List.mem_range.1 hi)
    obtain ⟨b, hb, _⟩ := DataW.trod_bool he hy
    simp only [List.cons.injEq, and_true] at hb
    simp [hb, boolOf]
  rw [e1]
  simpa using hr
/-- a struct of one field of one cell, by value -/
theorem open_agg1 {r : Reach} {b0 : Nat} {t : TypeId} {f0 : Field} {v : Value} {d : DataW H} {p : List MemPlace} (hs : P.underlying t = some (.struct #[f0])) (hone : Go.Deep.oneCellFields P #[f0] = true) (hC : P.cellsOf t = 1)
    (hv : Value.okWide P w r b0 t v) (h : DataW.Trod enc P w base (fun _ => true) held t v d p) :
    ∃ (v0 : Value) (y0 : DataW H × List MemPlace) (n : Nat), v = .agg #[v0] ∧ DataW.trod enc P w base (fun _ => true) held n f0.type [v0] = some y0 := by
  obtain ⟨cs, rfl, hsz⟩ := okWide_struct hs hv
  obtain ⟨l⟩ := cs
  match l, hsz.trans hC with
  | [c0], _ =>
    obtain ⟨fuel, hf⟩ := h
    obtain ⟨xs, n, _, hx, _, hlen, hg⟩ := DataW.trod_struct hs hf
    obtain ⟨o0, k0⟩ := Go.Deep.hone_of hone 0 f0 rfl
    match xs, hlen with
    | [y0], _ => exact ⟨c0, y0, n, rfl, by simpa [Value.cells, o0, k0] using hg 0 f0 rfl⟩
end
end Go.Proofs.YtmodpleonhniaaaGreatDoor
