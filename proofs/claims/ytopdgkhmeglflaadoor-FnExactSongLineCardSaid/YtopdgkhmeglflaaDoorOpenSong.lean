/- A handed song, opened. No condition. -/
import Derived.Test.YtopdgkhmeglflaaDoorOpenRec
import Derived.Test.YtopdgkhmeglflaaDoorVs
import Derived.Lib.SmallJoins
namespace Go.Proofs.YtopdgkhmeglflaaDoor
set_option maxRecDepth 100000
open Go.ChangeShapes Go.WideShapes Go.ChangeAt Go.RowKit
set_option linter.unusedVariables false
section
variable {H : Type} {enc : TypeId × Value → H} {w : World} {base : Nat} {held : Bool}
theorem cells_Notes : Tryd.prog.cellsOf 57 = 1 := by kernel_rfl
theorem cells_Tempos : Tryd.prog.cellsOf 24 = 1 := by kernel_rfl
theorem cells_Voices : Tryd.prog.cellsOf 25 = 1 := by kernel_rfl
theorem cells_Meter : Tryd.prog.cellsOf 23 = 2 := by kernel_rfl
theorem cells_Song : Tryd.prog.cellsOf 27 = 6 := by kernel_rfl
def HdOk (w : World) (x : Hd) : Prop := ∃ v : List Nt, v.length = x.2.1 ∧ RdNote w w.heap.size x.1 v ∧ x.2.1 ≤ maxLen
instance (w : World) : Inhabited {x : Hd // HdOk w x} := ⟨⟨(none, 0, 0), [], rfl, RdR.none0 rfl, Nat.zero_le _⟩⟩
theorem el_Notes (n : Nat) (cs : List Value) (y : DataW H × List MemPlace) (h : DataW.trod enc Tryd.prog w base (fun _ => true) held n 57 cs = some y) : ∃ z : {x : Hd // HdOk w x}, cs = encHd z.1 := by
  obtain ⟨a, len, cap, rfl⟩ := Go.Joins.slice_form Tryd.underlying57 h
  obtain ⟨X, e1, e2, e3⟩ := open_notes_rd (a := a) (len := len) (cap := cap) h
  exact ⟨⟨(a, len, cap), X, e1, e2, e3⟩, rfl⟩
theorem open_voices_rd {a : Option Addr} {len cap fuel : Nat} {x : DataW H × List MemPlace} (h : DataW.trod enc Tryd.prog w base (fun _ => true) held fuel 25 (Value.slice a len cap).cells.toList = some x) :
    ∃ X : List (List Nt), X.length = len ∧ RdVs w w.heap.size a X ∧ len ≤ maxLen ∧ ∀ v ∈ X, v.length ≤ maxLen := by
  obtain ⟨Z, e1, e2, e3⟩ := open_recs (α := {x : Hd // HdOk w x}) (en := fun z => encHd z.1) (s := 1) (by decide) (fun _ => rfl) Tryd.underlying25 cells_Notes el_Notes h
  have hz : ∀ k, k < Z.length → HdOk w (glH (Z.map (·.1)) k) := fun k hk => by
    rw [← glH_get (by simpa using hk), List.getElem_map]
    exact Z[k].2
  have hfl : fl (fun z : {x : Hd // HdOk w x} => encHd z.1) Z = fl encHd (Z.map (·.1)) := by unfold fl; rw [List.flatMap_map]
  refine ⟨Z.map (fun z => Classical.choose z.2), by simpa using e1, ⟨Z.map (·.1), by simp, ?_, fun k hk => ?_⟩, e3, ?_⟩
  · unfold RdR at e2 ⊢
    rw [hfl] at e2
    simpa using e2
  · rw [List.length_map] at hk
    have hg : glV (Z.map (fun z => Classical.choose z.2)) k = Classical.choose Z[k].2 := by rw [← glV_get (by simpa using hk), List.getElem_map]
    have hh : glH (Z.map (·.1)) k = Z[k].1 := by rw [← glH_get (by simpa using hk), List.getElem_map]
    rw [hg, hh]
    have := Classical.choose_spec Z[k].2
    exact ⟨this.1.symm, this.2.1⟩
  · intro v hv
    obtain ⟨z, -, rfl⟩ := List.mem_map.1 hv
    have := Classical.choose_spec z.2
    have h1 := this.1
    have h2 := this.2.2
    omega
theorem array6 {α : Type} {cs : Array α} (h : cs.size = 6) : ∃ c0 c1 c2 c3 c4 c5, cs = #[c0, c1, c2, c3, c4, c5] := by
  obtain ⟨l⟩ := cs
  match l, h with
  | [c0, c1, c2, c3, c4, c5], _ => exact ⟨c0, c1, c2, c3, c4, c5, rfl⟩
theorem el_Meter {n : Nat} {v0 v1 : Value} {y : DataW H × List MemPlace} (h : DataW.trod enc Tryd.prog w base (fun _ => true) held n 23 [v0, v1] = some y) : ∃ a b : Int, v0 = .int .i64 a ∧ v1 = .int .i64 b := by
  obtain ⟨xs, k, _, _, hlen, hxl, hf⟩ := DataW.trod_struct Tryd.underlying23 h
  obtain ⟨y0, g0⟩ := some_get (l := xs) (i := 0) (by rw [hxl]; decide)
  obtain ⟨y1, g1⟩ := some_get (l := xs) (i := 1) (by rw [hxl]; decide)
  have h0 : DataW.trod enc Tryd.prog w base (fun _ => true) held k 3 (([v0, v1].drop 0).take (Tryd.prog.cellsOf 3)) = some y0 := (hf 0 _ rfl).trans g0
  rw [cells_int] at h0
  have h1 : DataW.trod enc Tryd.prog w base (fun _ => true) held k 3 (([v0, v1].drop 1).take (Tryd.prog.cellsOf 3)) = some y1 := (hf 1 _ rfl).trans g1
  rw [cells_int] at h1
  obtain ⟨z0, rfl⟩ := el_int h0
  obtain ⟨z1, rfl⟩ := el_int h1
  exact ⟨z0, z1, rfl, rfl⟩
theorem open_song {r : Reach} {b0 : Nat} {v : Value} {d : DataW H} {p : List MemPlace} (hv : Value.okWide Tryd.prog w r b0 27 v) (h : DataW.Trod enc Tryd.prog w base (fun _ => true) held 27 v d p) :
    ∃ (f : Int) (m : Bool) (b u : Int) (C A : Option Addr) (d c : Nat) (ts : List (Int × Int)) (vs : List (List Nt)), v = .agg #[.int .i64 f, .bool m, .int .i64 b, .int .i64 u, .slice C ts.length d, .slice A vs.length c] ∧
      RdTempo w w.heap.size C ts ∧ RdVs w w.heap.size A vs ∧ ts.length ≤ maxLen ∧ vs.length ≤ maxLen ∧ ∀ x ∈ vs, x.length ≤ maxLen := by
  obtain ⟨cs, rfl, hsz⟩ := okWide_struct Tryd.underlying27 hv
  obtain ⟨c0, c1, c2, c3, c4, c5, rfl⟩ := array6 (hsz.trans cells_Song)
  obtain ⟨fuel, hf0⟩ := h
  obtain ⟨xs, k, _, _, hlen, hxl, hf⟩ := DataW.trod_struct Tryd.underlying27 hf0
  obtain ⟨y0, g0⟩ := some_get (l := xs) (i := 0) (by rw [hxl]; decide)
  obtain ⟨y1, g1⟩ := some_get (l := xs) (i := 1) (by rw [hxl]; decide)
  obtain ⟨y2, g2⟩ := some_get (l := xs) (i := 2) (by rw [hxl]; decide)
  obtain ⟨y3, g3⟩ := some_get (l := xs) (i := 3) (by rw [hxl]; decide)
  obtain ⟨y4, g4⟩ := some_get (l := xs) (i := 4) (by rw [hxl]; decide)
  have h0 : DataW.trod enc Tryd.prog w base (fun _ => true) held k 3 (([c0, c1, c2, c3, c4, c5].drop 0).take (Tryd.prog.cellsOf 3)) = some y0 := (hf 0 _ rfl).trans g0
  rw [cells_int] at h0
  have h1 : DataW.trod enc Tryd.prog w base (fun _ => true) held k 4 (([c0, c1, c2, c3, c4, c5].drop 1).take (Tryd.prog.cellsOf 4)) = some y1 := (hf 1 _ rfl).trans g1
  rw [cells_bool] at h1
  have h2 : DataW.trod enc Tryd.prog w base (fun _ => true) held k 23 (([c0, c1, c2, c3, c4, c5].drop 2).take (Tryd.prog.cellsOf 23)) = some y2 := (hf 2 _ rfl).trans g2
  rw [cells_Meter] at h2
  have h3 : DataW.trod enc Tryd.prog w base (fun _ => true) held k 24 (([c0, c1, c2, c3, c4, c5].drop 4).take (Tryd.prog.cellsOf 24)) = some y3 := (hf 3 _ rfl).trans g3
  rw [cells_Tempos] at h3
  have h4 : DataW.trod enc Tryd.prog w base (fun _ => true) held k 25 (([c0, c1, c2, c3, c4, c5].drop 5).take (Tryd.prog.cellsOf 25)) = some y4 := (hf 4 _ rfl).trans g4
  rw [cells_Voices] at h4
  obtain ⟨f, rfl⟩ := el_int h0
  obtain ⟨m, rfl⟩ := el_bool h1
  obtain ⟨b, u, rfl, rfl⟩ := el_Meter h2
  obtain ⟨C, nt, d, e3⟩ := Go.Joins.slice_form Tryd.underlying24 h3
  obtain ⟨A, nv, c, e4⟩ := Go.Joins.slice_form Tryd.underlying25 h4
  simp at e3 e4
  subst e3; subst e4
  obtain ⟨ts, t1, t2, t3⟩ := open_tempos_rd h3
  obtain ⟨vs, v1, v2, v3, v4⟩ := open_voices_rd h4
  subst t1; subst v1
  exact ⟨f, m, b, u, C, A, d, c, ts, vs, rfl, t2, v2, t3, v3, v4⟩
end
end Go.Proofs.YtopdgkhmeglflaaDoor
