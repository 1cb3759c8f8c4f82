/- Contracts of odd and of the draws of numbers, shapes and samples. No condition but bounds on the numbers asked for. -/
import Derived.Test.YtopdgkhmeglflaaDoorPick
import Derived.Test.YtopdgkhmeglflaaDoorMrg1
namespace Go.Proofs.YtopdgkhmeglflaaDoor
set_option linter.unusedVariables false
open Go.RowKit

def RetOdd (w : World) (g q : Nat) (e : Ending) (w' : World) : Prop := ∃ v : Bool, e = .returned (.bool v) ∧ Rdr w' g q ∧ w.grownBy w' (some g)
/-- a number below n is drawn -/
def RetPk (w : World) (g q : Nat) (n : Int) (e : Ending) (w' : World) : Prop :=
  ∃ k : Nat, e = .returned (.int .i64 (k : Int)) ∧ (k : Int) < n ∧ Rdr w' g q ∧ w.grownBy w' (some g)
theorem only_below {a w w' : World} {row : Option Nat} (h : a.grownBy w row) (hb : Below a.heap.size w w') : a.grownBy w' row :=
  ⟨hb.os.trans h.os, hb.tape.trans h.tape, hb.output.trans h.output, Nat.le_trans h.size (by
    have := hb.size
    rcases Nat.lt_or_ge w'.heap.size w.heap.size with hlt | hge
    · have := h.size; omega
    · exact hge), fun i hi hne => (hb.block i hi).trans (h.block i hi hne)⟩
theorem Row.only {w w' : World} {lo hi E size c n g : Nat} {A : Option Addr} {xs : List Value} (h : Row w lo hi E size A c n xs) (hg : w.grownBy w' (some g)) (hd : g < lo ∨ hi ≤ g) : Row w' lo hi E size A c n xs := by
  refine ⟨h.1.kept hg ?_, h.2⟩
  cases hv : (Value.slice A n c).ownBlock with
  | none => exact .inl rfl
  | some k =>
    refine .inr fun e => ?_
    injection e with e
    have h1 := h.2 k hv
    have h2 := (h.1.lt k hv).1
    omega
theorem Rdr.lt {w : World} {g q : Nat} (h : Rdr w g q) : g < w.heap.size := by
  obtain ⟨A, c, zs, p, hb, _⟩ := h; exact hb.lt
theorem only_self {a b c : World} {g : Nat} (h : a.grownBy b (some g)) (k : b.grownBy c (some g)) : a.grownBy c (some g) := only_trans h k
/-- a literal of numbers, each within lo .. hi, at place k -/
def LitIn (lo hi : Int) (cs : Array Value) : Prop := ∀ k : Nat, k < cs.size → ∃ x : Int, cs[k]? = some (.int .i64 x) ∧ lo ≤ x ∧ x ≤ hi
theorem lit_at {w : World} {g : Nat} {t : TypeId} {cs : Array Value} {lo hi : Int} (h : Blk w g t cs) (hl : LitIn lo hi cs) {k : Nat} (hk : k < cs.size) :
    ∃ x : Int, w.cell? ⟨g, k, none⟩ = some (.int .i64 x) ∧ lo ≤ x ∧ x ≤ hi := by
  obtain ⟨x, hx, h1, h2⟩ := hl k hk
  exact ⟨x, (h.cell k).trans hx, h1, h2⟩
theorem Rdr.alloc1 {w : World} {g q : Nat} (h : Rdr w g q) (o : Obj) : Rdr (w.alloc o) g q := h.below ((Below.refl _ _).alloc (Nat.le_refl _) _) h.lt
theorem lit_keep {w w' : World} {g : Nat} {t : TypeId} {cs : Array Value} (hg : (w.alloc (.cells cs t)).grownBy w' (some g)) (hlt : g < w.heap.size) : Blk w' w.heap.size t cs :=
  (Blk.new w t cs).only hg (by omega)
theorem lit_keep2 {w w' : World} {g : Nat} {t : TypeId} {cs : Array Value} {o : Obj} (hg : ((w.alloc (.cells cs t)).alloc o).grownBy w' (some g)) (hlt : g < w.heap.size) : Blk w' w.heap.size t cs :=
  ((Blk.new w t cs).alloc o).only hg (by omega)
theorem Blk.c4 {w : World} {g : Nat} {t : TypeId} {a b c d : Value} (h : Blk w g t #[a, b, c, d]) :
    (w.cell? ⟨g, 0, none⟩ = some a ∧ w.cell? ⟨g, 1, none⟩ = some b ∧ w.cell? ⟨g, 2, none⟩ = some c ∧ w.cell? ⟨g, 3, none⟩ = some d) ∧
    (w.frozen? ⟨g, 0, none⟩ = false ∧ w.frozen? ⟨g, 1, none⟩ = false ∧ w.frozen? ⟨g, 2, none⟩ = false ∧ w.frozen? ⟨g, 3, none⟩ = false) :=
  ⟨⟨h.cell 0, h.cell 1, h.cell 2, h.cell 3⟩, h.frozen 0, h.frozen 1, h.frozen 2, h.frozen 3⟩
theorem Rdr.setFar {w : World} {g q : Nat} (h : Rdr w g q) {p : Addr} (hp : g < p.block) (u : Value) : Rdr (w.setCell p u) g q :=
  h.below ((Below.refl (g + 1) w).setCell (by omega) u) (by omega)
theorem Rdr.drew {w : World} {g q : Nat} (h : Rdr w g q) : Rdr w.drew g q := h
theorem only_cells {w w' : World} {g : Nat} (hg : w.grownBy w' (some g)) : ∀ b o : Nat, ¬ b = g → b < w.heap.size → w'.cell? ⟨b, o, none⟩ = w.cell? ⟨b, o, none⟩ :=
  fun b o hb hl => World.cell?_of_block (hg.block b hl (by simpa using hb))
theorem litIn_nil (lo hi : Int) : LitIn lo hi #[] := fun k hk => by simp at hk
theorem litIn_of {lo hi : Int} {xs : List Int} (h : ∀ x ∈ xs, lo ≤ x ∧ x ≤ hi) : LitIn lo hi (iv xs).toArray := fun k hk => by
  simp [iv] at hk
  exact ⟨xs[k], by simp [iv, hk], h _ (List.getElem_mem hk)⟩
end Go.Proofs.YtopdgkhmeglflaaDoor
