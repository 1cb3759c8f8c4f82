/- Contracts of the draws of patterns. No condition but bounds on the bytes. -/
import Derived.Test.YtnkoijkelcjloaaMrg1
import Derived.Test.YtnkoijkelcjloaaEven
import Derived.Deep.RegionWith
namespace Go.Proofs.Ytnkoijkelcjloaa
set_option linter.unusedVariables false
open Go.RowKit
set_option linter.unusedSimpArgs false
theorem Row.al {w : World} {lo hi E size c n : Nat} {A : Option Addr} {xs : List Value} (h : Row w lo hi E size A c n xs) (o : Obj) : Row (w.alloc o) lo hi E size A c n xs := ⟨h.1.alloc o, h.2⟩
theorem own_only {w w' : World} {base E size n g : Nat} {v : Value} {xs : List Value} (h : w.ownsRow base E size v n xs) (hg : w.grownBy w' (some g)) (hd : g < base) : w'.ownsRow base E size v n xs := by
  refine h.kept hg ?_
  cases hv : v.ownBlock with
  | none => exact .inl rfl
  | some k =>
    refine .inr fun e => ?_
    injection e with e
    have := (h.lt k hv).1
    omega
theorem own_some {w : World} {base e size n c : Nat} {A : Option Addr} {xs : List Value} (h : w.ownsRow base e size (.slice A n c) n xs) (hn : 0 < n) : ∃ b, A = some ⟨b, 0, none⟩ := by
  obtain ⟨g, cap, hv, _⟩ := h.form hn
  injection hv with e1; exact ⟨g, e1⟩
theorem own_cap' {w : World} {base e size n c : Nat} {A : Option Addr} {xs : List Value} (h : w.ownsRow base e size (.slice A n c) n xs) : n ≤ c := by
  rcases h.2 with ⟨hv, rfl⟩ | ⟨g, cap, cur, hv, hb, hg, hnc, _⟩
  · exact Nat.zero_le _
  · injection hv with _ _ e; omega
theorem RdY.alloc1 {w : World} {A : Option Addr} {zs : List Int} (h : RdY w w.heap.size A zs) (o : Obj) : RdY (w.alloc o) (w.alloc o).heap.size A zs :=
  Rd.more (RdY.below h ((Below.refl _ _).alloc (Nat.le_refl _) _) (Nat.le_refl _)) (by simp)
theorem RdBo.setFar {w : World} {B : Nat} {A : Option Addr} {zs : List Bool} (h : RdBo w B A zs) {p : Addr} (hp : ∀ b off, A = some ⟨b, off, none⟩ → p.block < b) (u : Value) : RdBo (w.setCell p u) B A zs :=
  ⟨h.1, fun hn => by
    obtain ⟨b, off, e, hb, hc⟩ := h.2 hn
    refine ⟨b, off, e, hb, fun j v hv => ?_⟩
    have := hp b off e
    exact (World.cell?_setCell_far w p ⟨b, off + j, none⟩ u (by simp; omega)).trans (hc j v hv)⟩
theorem own_lo {w : World} {base e size n c : Nat} {A : Option Addr} {xs : List Value} (h : w.ownsRow base e size (.slice A n c) n xs) : ∀ b off, A = some ⟨b, off, none⟩ → base ≤ b := by
  intro b off e
  rcases h.2 with ⟨hv, _⟩ | ⟨g, cap, cur, hv, hb, _⟩
  · injection hv with e1; rw [e1] at e; cases e
  · injection hv with e1; rw [e1] at e; injection e with e; injection e with e2; omega
def selA (k : Nat) (A B : Option Addr) : Option Addr := if k = 0 then A else B
def selN (k a b : Nat) : Nat := if k = 0 then a else b
theorem sel_at (k : Nat) (hk : k < 2) : ∀ (A A' : Option Addr) (n c n' c' : Nat), (#[Value.slice A n c, Value.slice A' n' c'] : Array Value)[k]? = some (.slice (selA k A A') (selN k n n') (selN k c c')) := by
  intro A A' n c n' c'
  rcases (show k = 0 ∨ k = 1 by omega) with rfl | rfl <;> rfl
theorem only_frozen {w w' : World} {g : Nat} (hg : w.grownBy w' (some g)) : ∀ b o : Nat, ¬ b = g → b < w.heap.size → w'.frozen? ⟨b, o, none⟩ = w.frozen? ⟨b, o, none⟩ :=
  fun b o hb hl => World.frozen?_of_block (hg.block b hl (by simpa using hb))
theorem madeB (n : Nat) : madeCells (Value.cells (.bool false)) (n * 1) = (bv (List.replicate n false)).toArray := by
  rw [bv, List.map_replicate, Nat.mul_one]; exact madeOne _ _
def row33 : Array Value := (bv (List.replicate 33 false)).toArray
theorem RdBo.none0 {w : World} {B : Nat} {A : Option Addr} {zs : List Bool} (h : zs.length = 0) : RdBo w B A zs := ⟨by simp [bv], fun hn => by omega⟩
theorem Blk.rdbo {w : World} {g B : Nat} {t : TypeId} {X : Option Addr} (h : Blk w g t row33) (hg : g < B) : RdBo w B (selA 1 X (some ⟨g, 0, none⟩)) (List.replicate 33 false) := by
  refine ⟨by rw [bv, List.length_map, Nat.mul_one], fun _ => ⟨g, 0, rfl, hg, fun j u hu => ?_⟩⟩
  rw [Nat.zero_add]
  exact (h.cell j).trans (by rw [row33, List.getElem?_toArray]; exact hu)
theorem size_set (w : World) (p : Addr) (u : Value) : (w.setCell p u).heap.size = w.heap.size := by simp [World.setCell]
def RetBe (w : World) (g q : Nat) (e : Ending) (w' : World) : Prop :=
  ∃ (A : Option Addr) (c : Nat) (zs : List Bool), e = .returned (.agg #[.slice A zs.length c]) ∧ zs.length ≤ 33 ∧ zs.length ≤ c ∧ RdBo w' w'.heap.size A zs ∧ (∀ b off, A = some ⟨b, off, none⟩ → w.heap.size ≤ b) ∧ Rdr w' g q ∧ w.grownBy w' (some g)
end Go.Proofs.Ytnkoijkelcjloaa
