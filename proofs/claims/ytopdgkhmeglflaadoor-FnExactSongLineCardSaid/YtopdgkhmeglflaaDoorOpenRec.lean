/- A handed slice of records, opened to a list. No condition. -/
import Derived.Test.YtopdgkhmeglflaaDoorFrame
import Derived.Test.YtopdgkhmeglflaaDoorRecs
import Derived.Test.YtopdgkhmeglflaaDoorRecTempo
import Derived.Test.YtopdgkhmeglflaaDoorRecNote
import Derived.Deep.Slices
namespace Go.Proofs.YtopdgkhmeglflaaDoor
set_option linter.unusedVariables false
set_option maxRecDepth 100000
open Go.ChangeShapes Go.WideShapes Go.ChangeAt Go.RowKit
section
variable {H : Type} {enc : TypeId × Value → H} {P : Program} {w : World} {base : Nat} {held : Bool}
theorem open_recs {α : Type} [Inhabited α] {en : α → List Value} {s : Nat} (hs : 0 < s) (he : ∀ a, (en a).length = s) {t e : TypeId} {a : Option Addr} {len cap fuel : Nat} {x : DataW H × List MemPlace} (ht : P.underlying t = some (.slice e))
    (ce : P.cellsOf e = s) (hel : ∀ n cs y, DataW.trod enc P w base (fun _ => true) held n e cs = some y → ∃ z : α, cs = en z)
    (h : DataW.trod enc P w base (fun _ => true) held fuel t (Value.slice a len cap).cells.toList = some x) : ∃ X : List α, X.length = len ∧ RdR en s w w.heap.size a X ∧ len ≤ maxLen := by
  rcases Go.Deep.open_slice ht h with ⟨hcs, _⟩ | ⟨y, l, c, m, n, D, Pl, hcs, _, hl, hm, hmm, _, hx⟩
  · simp [Value.cells] at hcs
    obtain ⟨rfl, rfl, rfl⟩ := hcs
    exact ⟨[], rfl, RdR.none0 rfl, by unfold maxLen; omega⟩
  · simp [Value.cells] at hcs
    obtain ⟨rfl, rfl, rfl⟩ := hcs
    simp only [if_true] at hmm
    have each : ∀ i, i < len → ∃ z : α, ∀ j v, (en z)[j]? = some v → w.cell? (y.add (i * s + j)) = some v := by
      intro i hi
      obtain ⟨cs', h1, h2⟩ := hx i (by omega)
      rw [ce] at h1
      obtain ⟨z, rfl⟩ := hel _ _ _ h2
      obtain ⟨_, _, hcell⟩ := World.cells?_some h1
      refine ⟨z, fun j v hv => ?_⟩
      have hj : j < s := by
        rcases Nat.lt_or_ge j s with h1 | h1
        · exact h1
        · rw [List.getElem?_eq_none (by rw [he]; exact h1)] at hv; cases hv
      have := hcell j hj
      rw [Go.Deep.add_add] at this
      rw [this, hv]
    obtain ⟨f, hf⟩ := Go.Deep.choose_lt each
    have hlen : ((List.range len).map f).length = len := by simp
    refine ⟨(List.range len).map f, hlen, ⟨fl_length he _, fun hn => ?_⟩, by omega⟩
    rw [hlen] at hn
    obtain ⟨b, off, spot⟩ := y
    obtain ⟨v0, hv0⟩ : ∃ v, (en (f 0))[0]? = some v := ⟨_, List.getElem?_eq_getElem (by rw [he]; exact hs)⟩
    have c0 := hf 0 hn 0 v0 hv0
    have hspot : spot = none := by simpa [Addr.add] using World.cell?_spot c0
    subst hspot
    refine ⟨b, off, rfl, (by have := World.block_lt_of_cell? w _ c0; simpa [Addr.add] using this), fun j u hu => ?_⟩
    have hj : j < len * s := by
      rcases Nat.lt_or_ge j (len * s) with hh | hh
      · exact hh
      · rw [List.getElem?_eq_none (by rw [fl_length he, hlen]; exact hh)] at hu; cases hu
    have hk0 : j / s < len := Nat.div_lt_of_lt_mul (by rw [Nat.mul_comm]; exact hj)
    have hk : j / s < ((List.range len).map f).length := by rw [hlen]; exact hk0
    have hd : j / s * s + j % s = j := by rw [Nat.mul_comm]; exact Nat.div_add_mod j s
    have hfl := fl_at (enc := en) he (k := j / s) (j := j % s) hk (Nat.mod_lt _ hs)
    rw [hd, hu] at hfl
    have hg : ((List.range len).map f)[j / s] = f (j / s) := by simp
    rw [hg] at hfl
    have := hf (j / s) hk0 (j % s) u hfl.symm
    rwa [hd, Go.WideShapes.add_plain] at this
end
section
variable {H : Type} {enc : TypeId × Value → H} {w : World} {base : Nat} {held : Bool}
theorem cells_int : Tryd.prog.cellsOf 3 = 1 := by kernel_rfl
theorem cells_bool : Tryd.prog.cellsOf 4 = 1 := by kernel_rfl
theorem el_int {n : Nat} {v : Value} {y : DataW H × List MemPlace} (h : DataW.trod enc Tryd.prog w base (fun _ => true) held n 3 [v] = some y) : ∃ z : Int, v = .int .i64 z := by
  obtain ⟨z, e, _⟩ := DataW.trod_int Tryd.underlying3 h
  simp only [List.cons.injEq, and_true] at e
  exact ⟨z, e⟩
theorem el_bool {n : Nat} {v : Value} {y : DataW H × List MemPlace} (h : DataW.trod enc Tryd.prog w base (fun _ => true) held n 4 [v] = some y) : ∃ z : Bool, v = .bool z := by
  obtain ⟨z, e, _⟩ := DataW.trod_bool Tryd.underlying4 h
  simp only [List.cons.injEq, and_true] at e
  exact ⟨z, e⟩
theorem some_get {α : Type} {l : List α} {i : Nat} (h : i < l.length) : ∃ y, l[i]? = some y := ⟨_, List.getElem?_eq_getElem h⟩
theorem cells_Tempo : Tryd.prog.cellsOf 74 = 2 := by kernel_rfl
theorem el_Tempo (n : Nat) (cs : List Value) (y : DataW H × List MemPlace) (h : DataW.trod enc Tryd.prog w base (fun _ => true) held n 74 cs = some y) : ∃ z : Int × Int, cs = encTempo z := by
  obtain ⟨xs, k, _, _, hlen, hxl, hf⟩ := DataW.trod_struct Tryd.underlying74 h
  rw [cells_Tempo] at hlen
  match cs, hlen with
  | [v0, v1], _ =>
    obtain ⟨y0, g0⟩ := some_get (l := xs) (i := 0) (by rw [hxl]; decide)
    obtain ⟨y1, g1⟩ := some_get (l := xs) (i := 1) (by rw [hxl]; decide)
    have h0 : DataW.trod enc Tryd.prog w base (fun _ => true) held k 3 (([v0, v1].drop 0).take (Tryd.prog.cellsOf 3)) = some y0 := (hf 0 _ rfl).trans g0
    rw [cells_int] at h0
    have h1 : DataW.trod enc Tryd.prog w base (fun _ => true) held k 3 (([v0, v1].drop 1).take (Tryd.prog.cellsOf 3)) = some y1 := (hf 1 _ rfl).trans g1
    rw [cells_int] at h1
    obtain ⟨z0, rfl⟩ := el_int h0
    obtain ⟨z1, rfl⟩ := el_int h1
    exact ⟨(z0, z1), rfl⟩
theorem open_tempos_rd {a : Option Addr} {len cap fuel : Nat} {x : DataW H × List MemPlace} (h : DataW.trod enc Tryd.prog w base (fun _ => true) held fuel 24 (Value.slice a len cap).cells.toList = some x) :
    ∃ X : List (Int × Int), X.length = len ∧ RdTempo w w.heap.size a X ∧ len ≤ maxLen := open_recs (by decide) encTempo_len Tryd.underlying24 cells_Tempo el_Tempo h
theorem cells_Pitch : Tryd.prog.cellsOf 86 = 3 := by kernel_rfl
theorem cells_Note : Tryd.prog.cellsOf 88 = 6 := by kernel_rfl
theorem el_Pitch {n : Nat} {v0 v1 v2 : Value} {y : DataW H × List MemPlace} (h : DataW.trod enc Tryd.prog w base (fun _ => true) held n 86 [v0, v1, v2] = some y) : ∃ a b c : Int, v0 = .int .i64 a ∧ v1 = .int .i64 b ∧ v2 = .int .i64 c := by
  obtain ⟨xs, k, _, _, hlen, hxl, hf⟩ := DataW.trod_struct Tryd.underlying86 h
  obtain ⟨y0, g0⟩ := some_get (l := xs) (i := 0) (by rw [hxl]; decide)
  obtain ⟨y1, g1⟩ := some_get (l := xs) (i := 1) (by rw [hxl]; decide)
  obtain ⟨y2, g2⟩ := some_get (l := xs) (i := 2) (by rw [hxl]; decide)
  have h0 : DataW.trod enc Tryd.prog w base (fun _ => true) held k 3 (([v0, v1, v2].drop 0).take (Tryd.prog.cellsOf 3)) = some y0 := (hf 0 _ rfl).trans g0
  rw [cells_int] at h0
  have h1 : DataW.trod enc Tryd.prog w base (fun _ => true) held k 3 (([v0, v1, v2].drop 1).take (Tryd.prog.cellsOf 3)) = some y1 := (hf 1 _ rfl).trans g1
  rw [cells_int] at h1
  have h2 : DataW.trod enc Tryd.prog w base (fun _ => true) held k 3 (([v0, v1, v2].drop 2).take (Tryd.prog.cellsOf 3)) = some y2 := (hf 2 _ rfl).trans g2
  rw [cells_int] at h2
  obtain ⟨z0, rfl⟩ := el_int h0
  obtain ⟨z1, rfl⟩ := el_int h1
  obtain ⟨z2, rfl⟩ := el_int h2
  exact ⟨z0, z1, z2, rfl, rfl, rfl⟩
theorem el_Note (n : Nat) (cs : List Value) (y : DataW H × List MemPlace) (h : DataW.trod enc Tryd.prog w base (fun _ => true) held n 88 cs = some y) : ∃ z : Bool × Int × Int × Int × Int × Bool, cs = encNote z := by
  obtain ⟨xs, k, _, _, hlen, hxl, hf⟩ := DataW.trod_struct Tryd.underlying88 h
  rw [cells_Note] at hlen
  match cs, hlen with
  | [v0, v1, v2, v3, v4, v5], _ =>
    obtain ⟨y0, g0⟩ := some_get (l := xs) (i := 0) (by rw [hxl]; decide)
    obtain ⟨y1, g1⟩ := some_get (l := xs) (i := 1) (by rw [hxl]; decide)
    obtain ⟨y2, g2⟩ := some_get (l := xs) (i := 2) (by rw [hxl]; decide)
    obtain ⟨y3, g3⟩ := some_get (l := xs) (i := 3) (by rw [hxl]; decide)
    have h0 : DataW.trod enc Tryd.prog w base (fun _ => true) held k 4 (([v0, v1, v2, v3, v4, v5].drop 0).take (Tryd.prog.cellsOf 4)) = some y0 := (hf 0 _ rfl).trans g0
    rw [cells_bool] at h0
    have h1 : DataW.trod enc Tryd.prog w base (fun _ => true) held k 86 (([v0, v1, v2, v3, v4, v5].drop 1).take (Tryd.prog.cellsOf 86)) = some y1 := (hf 1 _ rfl).trans g1
    rw [cells_Pitch] at h1
    have h2 : DataW.trod enc Tryd.prog w base (fun _ => true) held k 3 (([v0, v1, v2, v3, v4, v5].drop 4).take (Tryd.prog.cellsOf 3)) = some y2 := (hf 2 _ rfl).trans g2
    rw [cells_int] at h2
    have h3 : DataW.trod enc Tryd.prog w base (fun _ => true) held k 4 (([v0, v1, v2, v3, v4, v5].drop 5).take (Tryd.prog.cellsOf 4)) = some y3 := (hf 3 _ rfl).trans g3
    rw [cells_bool] at h3
    obtain ⟨z0, rfl⟩ := el_bool h0
    obtain ⟨a, b, c, rfl, rfl, rfl⟩ := el_Pitch h1
    obtain ⟨z2, rfl⟩ := el_int h2
    obtain ⟨z3, rfl⟩ := el_bool h3
    exact ⟨(z0, a, b, c, z2, z3), rfl⟩
theorem open_notes_rd {a : Option Addr} {len cap fuel : Nat} {x : DataW H × List MemPlace} (h : DataW.trod enc Tryd.prog w base (fun _ => true) held fuel 57 (Value.slice a len cap).cells.toList = some x) :
    ∃ X : List (Bool × Int × Int × Int × Int × Bool), X.length = len ∧ RdNote w w.heap.size a X ∧ len ≤ maxLen := open_recs (by decide) encNote_len Tryd.underlying57 cells_Note el_Note h
end
end Go.Proofs.YtopdgkhmeglflaaDoor
