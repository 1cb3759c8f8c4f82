/- A handed slice of structs of two ints, opened to a list of pairs. No condition. -/
import Derived.Test.YtfmdpnnddhelaaaFrame
import Derived.Test.YtfmdpnnddhelaaaRecLink
import Derived.Deep.SlicePairs
namespace Go.Proofs.Ytfmdpnnddhelaaa
set_option linter.unusedVariables false
open Go.ChangeShapes Go.WideShapes Go.ChangeAt Go.RowKit
section
variable {H : Type} {enc : TypeId × Value → H} {P : Program} {w : World} {base : Nat} {held : Bool}
theorem open_links_rd {t e : TypeId} {f0 f1 : Field} {a : Option Addr} {len cap fuel : Nat} {x : DataW H × List MemPlace} (ht : P.underlying t = some (.slice e)) (he : P.underlying e = some (.struct #[f0, f1]))
    (ce : P.cellsOf e = 2) (o0 : f0.offset = 0) (o1 : f1.offset = 1) (i0 : P.underlying f0.type = some (.int .i64)) (i1 : P.underlying f1.type = some (.int .i64)) (c0 : P.cellsOf f0.type = 1) (c1 : P.cellsOf f1.type = 1)
    (h : DataW.trod enc P w base (fun _ => true) held fuel t (Value.slice a len cap).cells.toList = some x) : ∃ X : List (Int × Int), X.length = len ∧ RdLink w w.heap.size a X ∧ len ≤ maxLen := by
  rcases Go.Deep.open_slice_pairs ht he ce o0 o1 c0 c1 h with ⟨hcs, _⟩ | ⟨y, l, c, m, n, V0, V1, D0, D1, P0, P1, hcs, _, hl, hm, hmm, _, hx⟩
  · simp [Value.cells] at hcs
    obtain ⟨rfl, rfl, rfl⟩ := hcs
    exact ⟨[], rfl, RdR.none0 rfl, by unfold maxLen; omega⟩
  · simp [Value.cells] at hcs
    obtain ⟨rfl, rfl, rfl⟩ := hcs
    simp only [if_true] at hmm
    have each : ∀ i, i < len → ∃ z : Int × Int, w.cell? (y.add (i * 2)) = some (.int .i64 z.1) ∧ w.cell? (y.add (i * 2 + 1)) = some (.int .i64 z.2) := by
      intro i hi
      obtain ⟨h0, h1, t0, t1⟩ := hx i (by omega)
      obtain ⟨n0, e0, _⟩ := DataW.trod_int i0 t0
      obtain ⟨n1, e1, _⟩ := DataW.trod_int i1 t1
      simp only [List.cons.injEq, and_true] at e0 e1
      exact ⟨(n0, n1), by rw [h0, e0], by rw [h1, e1]⟩
    obtain ⟨f, hf⟩ := Go.Deep.choose_lt each
    have hlen : ((List.range len).map f).length = len := by simp
    refine ⟨(List.range len).map f, hlen, ⟨fl_length encLink_len _, fun hn => ?_⟩, by omega⟩
    rw [hlen] at hn
    obtain ⟨b, off, spot⟩ := y
    have hspot : spot = none := by simpa [Addr.add] using World.cell?_spot (hf 0 hn).1
    subst hspot
    refine ⟨b, off, rfl, World.block_lt_of_cell? w _ (hf 0 hn).1, fun j u hu => ?_⟩
    have hj : j < len * 2 := by
      rcases Nat.lt_or_ge j (len * 2) with hh | hh
      · exact hh
      · rw [List.getElem?_eq_none (by rw [fl_length encLink_len, hlen]; exact hh)] at hu; cases hu
    have hk : j / 2 < ((List.range len).map f).length := by rw [hlen]; omega
    have hd : j / 2 * 2 + j % 2 = j := by omega
    have hfl := fl_at (enc := encLink) encLink_len (k := j / 2) (j := j % 2) hk (Nat.mod_lt _ (by omega))
    rw [hd, hu] at hfl
    have hg : ((List.range len).map f)[j / 2] = f (j / 2) := by simp
    rw [hg] at hfl
    obtain ⟨g0, g1⟩ := hf (j / 2) (by omega)
    rw [Go.WideShapes.add_plain] at g0 g1
    rcases Nat.mod_two_eq_zero_or_one j with h2 | h2
    · rw [h2] at hfl hd
      rw [show off + j = off + j / 2 * 2 by omega, g0]
      simpa [encLink] using hfl.symm
    · rw [h2] at hfl hd
      rw [show off + j = off + (j / 2 * 2 + 1) by omega, g1]
      simpa [encLink] using hfl.symm
end
end Go.Proofs.Ytfmdpnnddhelaaa
