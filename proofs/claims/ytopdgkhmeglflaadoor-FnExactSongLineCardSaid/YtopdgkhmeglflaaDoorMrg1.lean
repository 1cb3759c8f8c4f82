/- Texts of this claim, one behind the other: words on memory, contracts of small functions. Conditions: each theorem states its own. -/
import Derived.WalkKit
import Derived.Lib.Hide
import Derived.Laws.OwnMore
import Derived.Deep.AppendLies
import Derived.Deep.Draws
import Derived.Deep.QuietTactic
import Derived.BigQuiet
import Derived.OpenShut
import Derived.WalkLawsBesides
import Derived.WalkSpells
import Derived.ProofKit
import Derived.Test.YtopdgkhmeglflaaDoorProg
import Derived.Deep.RegionHeld3
/- Words of my own on memory, used by all contracts of this seat: a slice that reads as a list, a row of the call's own, a fact kept from the walk. No condition. -/
namespace Go.Proofs.YtopdgkhmeglflaaDoor
set_option linter.unusedVariables false
open Go.RowKit

/-- An int fits int64. -/
def Fits (z : Int) : Prop := -9223372036854775808 ≤ z ∧ z ≤ 9223372036854775807
def WfI (zs : List Int) : Prop := ∀ z ∈ zs, Fits z

/-- slice 'A' of n elements of 'size' cells reads as xs, below block B -/
def Rd (w : World) (B size : Nat) (A : Option Addr) (n : Nat) (xs : List Value) : Prop :=
  xs.length = n * size ∧ (0 < n → ∃ b off, A = some ⟨b, off, none⟩ ∧ b < B ∧ ∀ j u, xs[j]? = some u → w.cell? ⟨b, off + j, none⟩ = some u)

section
variable {w w' : World} {B B' size n : Nat} {A : Option Addr} {xs : List Value}
theorem Rd.none_ : Rd w B size A 0 [] := ⟨by simp, fun h => absurd h (by omega)⟩
theorem Rd.keep (h : Rd w B size A n xs) (hk : ∀ p : Addr, p.block < B → w'.cell? p = w.cell? p) : Rd w' B size A n xs :=
  ⟨h.1, fun hn => by
    obtain ⟨b, off, e, hb, hc⟩ := h.2 hn
    exact ⟨b, off, e, hb, fun j u hu => (hk _ hb).trans (hc j u hu)⟩⟩
theorem Rd.more (h : Rd w B size A n xs) (hB : B ≤ B') : Rd w B' size A n xs :=
  ⟨h.1, fun hn => by
    obtain ⟨b, off, e, hb, hc⟩ := h.2 hn
    exact ⟨b, off, e, by omega, hc⟩⟩
theorem Rd.below {C : Nat} (h : Rd w B size A n xs) (hb : Below C w w') (hB : B ≤ C) : Rd w' B size A n xs := h.keep fun _ hp => hb.cell (by omega)
theorem Rd.drew (h : Rd w B size A n xs) : Rd w.drew B size A n xs := h
theorem Rd.drewN (h : Rd w B size A n xs) (k : Nat) : Rd (w.drewN k) B size A n xs := h
theorem Rd.alloc (h : Rd w B size A n xs) (hB : B ≤ w.heap.size) (o : Obj) : Rd (w.alloc o) B size A n xs := h.keep fun p hp => World.cell?_alloc_lt w o p (by omega)
theorem Rd.grown (h : Rd w B size A n xs) {row : Option Nat} (hg : w.grownBy w' row) (hB : B ≤ w.heap.size) (hr : ∀ g, row = some g → B ≤ g) : Rd w' B size A n xs :=
  h.keep fun p hp => World.cell?_of_block (hg.block p.block (by omega) (fun e => by have := hr _ e.symm; omega))
theorem Rd.of_own {base : Nat} {e : TypeId} {c : Nat} (h : w.ownsRow base e size (.slice A n c) n xs) : Rd w w.heap.size size A n xs := by
  refine ⟨h.1, fun hn => ?_⟩
  obtain ⟨g, cap, hv, _, hlt⟩ := h.form hn
  have hA : A = some ⟨g, 0, none⟩ := by injection hv
  subst hA
  refine ⟨g, 0, rfl, hlt, fun j u hu => ?_⟩
  have := h.cells (g := g) rfl j u hu
  rwa [Go.WideShapes.add_plain] at this
theorem Rd.at1 {k : Nat} (h : Rd w B 1 A n xs) (hk : k < n) : ∃ b off u, A = some ⟨b, off, none⟩ ∧ b < B ∧ xs[k]? = some u ∧ w.cell? ⟨b, off + k, none⟩ = some u := by
  obtain ⟨b, off, e, hb, hc⟩ := h.2 (by omega)
  have hl : k < xs.length := by have := h.1; omega
  exact ⟨b, off, xs[k], e, hb, List.getElem?_eq_getElem hl, hc k _ (List.getElem?_eq_getElem hl)⟩
end

/-- the k-th number -/
def gi (zs : List Int) (k : Nat) : Int := zs.getD k 0
/-- as values -/
def iv (zs : List Int) : List Value := zs.map (Value.int .i64)
def RdI (w : World) (B : Nat) (A : Option Addr) (zs : List Int) : Prop := Rd w B 1 A zs.length (iv zs)

theorem iv_length (zs : List Int) : (iv zs).length = zs.length := by simp [iv]
theorem iv_append (a b : List Int) : iv (a ++ b) = iv a ++ iv b := by simp [iv]
theorem gi_get {zs : List Int} {k : Nat} (h : k < zs.length) : zs[k] = gi zs k := by simp [gi, h]
theorem gi_mem {zs : List Int} {k : Nat} (h : k < zs.length) : gi zs k ∈ zs := by rw [← gi_get h]; exact List.getElem_mem h
theorem gi_fits {zs : List Int} (hw : WfI zs) {k : Nat} (h : k < zs.length) : -9223372036854775808 ≤ gi zs k ∧ gi zs k ≤ 9223372036854775807 := hw _ (gi_mem h)
theorem take_succ_gi {zs : List Int} {k : Nat} (h : k < zs.length) : zs.take (k + 1) = zs.take k ++ [gi zs k] := by
  rw [List.take_succ_eq_append_getElem h, gi_get h]
theorem RdI.at_ {w : World} {B : Nat} {A : Option Addr} {zs : List Int} {k : Nat} (h : RdI w B A zs) (hk : k < zs.length) :
    ∃ b off, A = some ⟨b, off, none⟩ ∧ b < B ∧ w.cell? ⟨b, off + k, none⟩ = some (.int .i64 (gi zs k)) := by
  obtain ⟨b, off, u, e, hb, hx, hc⟩ := Rd.at1 h hk
  refine ⟨b, off, e, hb, ?_⟩
  rw [hc, ← hx, iv, List.getElem?_map, List.getElem?_eq_getElem hk, gi_get hk]; rfl

theorem RdI.below {w w' : World} {B C : Nat} {A : Option Addr} {zs : List Int} (h : RdI w B A zs) (hb : Below C w w') (hB : B ≤ C) : RdI w' B A zs := Rd.below h hb hB
theorem RdI.more {w : World} {B C : Nat} {A : Option Addr} {zs : List Int} (h : RdI w B A zs) (hB : B ≤ C) : RdI w C A zs := Rd.more h hB
theorem RdI.drewN {w : World} {B : Nat} {A : Option Addr} {zs : List Int} (h : RdI w B A zs) (k : Nat) : RdI (w.drewN k) B A zs := h
theorem RdI.of_own {w : World} {base c : Nat} {e : TypeId} {A : Option Addr} {zs : List Int} (h : w.ownsRow base e 1 (.slice A zs.length c) zs.length (iv zs)) : RdI w w.heap.size A zs := Rd.of_own h
theorem ret_bool {a b : Bool} (h : a = b) : Ending.returned (.bool a) = .returned (.bool b) := by rw [h]
theorem ret_int {a b : Int} (h : a = b) : Ending.returned (.int .i64 a) = .returned (.int .i64 b) := by rw [h]

theorem below_drewN {B : Nat} {a w : World} (h : Below B a w) (n : Nat) : Below B a (w.drewN n) := ⟨h.os, h.tape, h.output, h.size, h.block⟩
theorem grown_trans {a b c : World} (h : Grown a b) (k : Grown b c) : Grown a c :=
  ⟨World.keptBut_trans h.1 k.1, fun x => (k.2.1 x).trans (h.2.1 x), Nat.le_trans h.2.2 k.2.2⟩
/-- as the row's last step wants it, out of 'Below' -/
theorem keeps_below {W W' : World} (h : Below W.heap.size W W') : W.heap.size ≤ W'.heap.size := h.size

/-! What a contract says: a number, a bool, and nothing that was there has turned; a slice in new memory. -/
def RetI (w : World) (n : Int) (e : Ending) (w' : World) : Prop := e = .returned (.int .i64 n) ∧ Below w.heap.size w w'
def RetB (w : World) (b : Bool) (e : Ending) (w' : World) : Prop := e = .returned (.bool b) ∧ Below w.heap.size w w'
/-- what a marking call says: its row holds other cells, nothing else has turned -/
def RetMark (w : World) (base E size : Nat) (v : Value) (n : Nat) (xs : List Value) (r : Int) (e : Ending) (w' : World) : Prop :=
  e = .returned (.int .i64 r) ∧ w'.ownsRow base E size v n xs ∧ w.grownBy w' v.ownBlock
def RetRow (w : World) (E size n : Nat) (xs : List Value) (e : Ending) (w' : World) : Prop :=
  ∃ A c, e = .returned (.slice A n c) ∧ w'.ownsRow w.heap.size E size (.slice A n c) n xs ∧ Below w.heap.size w w'

/-! A block known whole. -/
def Blk (w : World) (g : Nat) (t : TypeId) (cs : Array Value) : Prop := w.heap[g]? = some (.cells cs t (0, 0))
section
variable {w w' : World} {g : Nat} {t : TypeId} {cs : Array Value}
theorem Blk.lt (h : Blk w g t cs) : g < w.heap.size := by
  rcases Nat.lt_or_ge g w.heap.size with hlt | hge
  · exact hlt
  · unfold Blk at h; rw [Array.getElem?_eq_none hge] at h; cases h
theorem Blk.cell (h : Blk w g t cs) (i : Nat) : w.cell? ⟨g, i, none⟩ = cs[i]? := cell_of_row w g i cs t (0, 0) h
theorem Blk.frozen (h : Blk w g t cs) (i : Nat) : w.frozen? ⟨g, i, none⟩ = false := by
  unfold Blk at h
  simp [World.frozen?, h]
theorem Blk.new (w : World) (t : TypeId) (cs : Array Value) : Blk (w.alloc (.cells cs t)) w.heap.size t cs := heap_alloc_new w _
theorem Blk.drewN (h : Blk w g t cs) (n : Nat) : Blk (w.drewN n) g t cs := h
theorem Blk.alloc (h : Blk w g t cs) (o : Obj) : Blk (w.alloc o) g t cs := (Below.heap_alloc w o g h.lt).trans h
theorem Blk.set_ (h : Blk w g t cs) (i : Nat) (u : Value) : Blk (w.setCell ⟨g, i, none⟩ u) g t (cs.setIfInBounds i u) := by
  unfold Blk at h ⊢
  simp [World.setCell, Array.getElem?_modify, h]
theorem Blk.far (h : Blk w g t cs) {p : Addr} (hp : g ≠ p.block) (u : Value) : Blk (w.setCell p u) g t cs := (Below.heap_setCell w p u g hp).trans h
theorem Blk.below {B : Nat} (h : Blk w g t cs) (hb : Below B w w') (hg : g < B) : Blk w' g t cs := (hb.block g hg).trans h
/-- a block of n elements of 'size' cells, whole: a row of the call's own -/
theorem Blk.own {base size n : Nat} (h : Blk w g t cs) (hb : base ≤ g) (hn : n ≤ maxLen) (hs : cs.size = n * size) : w.ownsRow base t size (.slice (some ⟨g, 0, none⟩) n n) n cs.toList :=
  ⟨by simpa using hs, .inr ⟨g, n, cs, rfl, hb, h, Nat.le_refl _, hn, hs, List.take_of_length_le (by simp; omega)⟩⟩
end

theorem run_make_rowN {P : Program} (t e : TypeId) (i : TypeInfo) (z : Value) (ht : P.underlying t = some (.slice e)) (hi : P.info? e = some i) (hz : i.zero = some z)
    (kl kc : IntKind) (n c : Nat) (hnc : n ≤ c) (hbytes : i.bytes * c ≤ 281474976710656) (h63 : c ≤ 9223372036854775807) (w : World) :
    (Instr.makeSlice t (.int kl (n : Int)) (.int kc (c : Int))).run P w = .ok (.slice (some ⟨w.heap.size, 0, none⟩) n c) (w.alloc (.cells (madeCells z.cells (c * i.size)) e)) := by
  have hb : (i.bytes : Int) * (c : Int) ≤ 281474976710656 := by
    have h : ((i.bytes * c : Nat) : Int) ≤ 281474976710656 := by omega
    rwa [Int.natCast_mul] at h
  have hr := run_make (P := P) w t e i z ht hi hz kl kc n c (by omega) (by omega) hb (by omega)
  simp only [Int.toNat_natCast] at hr
  exact hr

theorem madeOne (v : Value) (n : Nat) : madeCells #[v] n = (List.replicate n v).toArray := by
  apply Array.ext
  · simp [size_madeCells]
  · intro i h1 h2
    simp [madeCells, Nat.mod_one]

theorem set_app_drop {α : Type} (l1 l2 : List α) (j : Nat) (v : α) (h1 : l1.length = j) (h2 : j < l2.length) : (l1 ++ l2.drop j).set j v = (l1 ++ [v]) ++ l2.drop (j + 1) := by
  rw [List.set_append, if_neg (by omega), h1, Nat.sub_self, List.drop_eq_getElem_cons h2, List.set_cons_zero]
  simp

/-! Only row 'r', and what is new, has turned. -/
theorem only_drewN {a w : World} {row : Option Nat} (h : a.grownBy w row) (n : Nat) : a.grownBy (w.drewN n) row := ⟨h.os, h.tape, h.output, h.size, h.block⟩
theorem only_alloc {a w : World} {row : Option Nat} (h : a.grownBy w row) (o : Obj) : a.grownBy (w.alloc o) row :=
  ⟨h.os, h.tape, h.output, Nat.le_trans h.size (by simp), fun i hi hne => (Below.heap_alloc w o i (Nat.lt_of_lt_of_le hi h.size)).trans (h.block i hi hne)⟩
theorem only_setCell {a w : World} {g : Nat} (h : a.grownBy w (some g)) {p : Addr} (hp : p.block = g ∨ a.heap.size ≤ p.block) (u : Value) : a.grownBy (w.setCell p u) (some g) :=
  ⟨h.os, h.tape, h.output, by simpa [World.setCell] using h.size, fun i hi hne => (Below.heap_setCell w p u i (by
    rintro rfl
    rcases hp with hp | hp
    · exact hne (by rw [hp])
    · omega)).trans (h.block i hi hne)⟩
theorem only_refl (a : World) (row : Option Nat) : a.grownBy a row := ⟨rfl, rfl, rfl, Nat.le_refl _, fun _ _ _ => rfl⟩
theorem only_of_below {a w : World} (h : Below a.heap.size a w) (row : Option Nat) : a.grownBy w row := ⟨h.os, h.tape, h.output, h.size, fun i hi _ => h.block i hi⟩

/-- append of one element of 'size' cells, which has just been laid in a block of its own, onto a row of the call's own -/
theorem append_el {P : Program} {ops : Array Oper} {rest : List Oper} {o : Oper} {a : Act} {Q : Exit → Act → World → Prop} (hgd : o.guard = none) (s x : Operand) (t : TypeId)
    (ho : o.op = .call { callee := .builtin .append, args := #[s, x], argTypes := #[t, t] })
    (e : TypeId) (i : TypeInfo) (z : Value) (size bytes : Nat) (ht : P.underlying t = some (.slice e)) (hi : P.info? e = some i) (hz : i.zero = some z)
    (hsize : i.size = size) (hby : i.bytes = bytes) (hzs : z.cells.size = size) (hsz : 0 < size) (hb64 : bytes ≤ 64)
    (base : Nat) (w0 W : World) (v : Value) (n : Nat) (xs : List Value) (hown : W.ownsRow base e size v n xs) (hbel : Below base w0 W) (hbase : base ≤ W.heap.size) (hn : n ≤ 4194304)
    (hs : a.eval s = v) (us : List Value) (hus : us.length = size) (hone : ∀ u ∈ us, u.oneCell' = true) (hx : a.eval x = .slice (some ⟨W.heap.size, 0, none⟩) 1 1)
    (h : ∀ A c w', w'.ownsRow base e size (.slice A (n + 1) c) (n + 1) (xs ++ us) → Below base w0 w' → base ≤ w'.heap.size → W.grownBy w' v.ownBlock →
      wpList P ops Q rest (a.put o.dst (.slice A (n + 1) c)) w') : wpList P ops Q (o :: rest) a (W.alloc (.cells us.toArray e)) := by
  have hmul : (n + 1) * bytes ≤ (4194304 + 1) * 64 := Nat.mul_le_mul (by omega) hb64
  refine wpList_append_own _ hgd s x t ho base e i z size bytes ht hi hz hsize hby hzs hsz v n xs hs (hown.alloc _) ⟨W.heap.size, 0, none⟩ 1 1 us hx (by omega) ?_ hone (by unfold maxLen; omega) (by omega) (by simp; omega) ?_
  · intro j u hu
    rw [Go.WideShapes.add_plain, Nat.zero_add]
    exact ((Blk.new W e us.toArray).cell j).trans (by simpa using hu)
  · intro v' w' hown' hg _
    obtain ⟨g, cap, hv, _, _⟩ := hown'.form (by omega)
    rw [hv] at hown' ⊢
    have hgb : Below base (W.alloc (.cells us.toArray e)) w' := by
      refine (Below.refl _ _).grown hg (by simp; omega) ?_
      intro k hk
      exact (hown.lt k hk).1
    refine h _ _ w' hown' ((hbel.alloc hbase _).trans hgb) (by have := hgb.size; simp at this; omega) ?_
    have ha := World.grownBy_alloc W (.cells us.toArray e) v.ownBlock
    exact ⟨hg.os.trans ha.os, hg.tape.trans ha.tape, hg.output.trans ha.output, Nat.le_trans ha.size hg.size, fun k hk hne => (hg.block k (by simp; omega) hne).trans (ha.block k hk hne)⟩
/-- '[]T{}': an empty row of the call's own -/
theorem own_empty {W w0 : World} {base size : Nat} {e : TypeId} (hbel : Below base w0 W) (hbase : base ≤ W.heap.size) :
    (W.alloc (.cells #[] e)).ownsRow base e size (.slice (some ⟨W.heap.size, 0, none⟩) 0 0) 0 [] ∧ Below base w0 (W.alloc (.cells #[] e)) ∧ base ≤ (W.alloc (.cells #[] e)).heap.size :=
  ⟨(Blk.new W e #[]).own hbase (Nat.zero_le _) (by simp), hbel.alloc hbase _, by simp; omega⟩

/-! A row of the call's own, with bounds on its block: 'lo ≤ block < hi'. -/
def Row (w : World) (lo hi E size : Nat) (A : Option Addr) (c n : Nat) (xs : List Value) : Prop :=
  w.ownsRow lo E size (.slice A n c) n xs ∧ ∀ g, (Value.slice A n c).ownBlock = some g → g < hi
section
variable {w w' : World} {lo hi E size c n : Nat} {A : Option Addr} {xs : List Value}
theorem Row.mk_ (h : w.ownsRow lo E size (.slice A n c) n xs) : Row w lo w.heap.size E size A c n xs := ⟨h, fun g hg => (h.lt g hg).2⟩
theorem Row.below {B : Nat} (h : Row w lo hi E size A c n xs) (hb : Below B w w') (hB : hi ≤ B) : Row w' lo hi E size A c n xs := by
  refine ⟨⟨h.1.1, ?_⟩, h.2⟩
  rcases h.1.2 with hn | ⟨g, cap, cur, hv, hlo, hg, rest⟩
  · exact .inl hn
  · have hlt := h.2 g (by rw [hv]; rfl)
    exact .inr ⟨g, cap, cur, hv, hlo, (hb.block g (by omega)).trans hg, rest⟩
theorem Row.rd (h : Row w lo hi E size A c n xs) : Rd w hi size A n xs := by
  refine ⟨h.1.1, fun hn => ?_⟩
  obtain ⟨b, off, hA, hb, hc⟩ := (Rd.of_own h.1).2 hn
  refine ⟨b, off, hA, ?_, hc⟩
  exact h.2 b (by subst hA; rfl)
/-- another row is written -/
theorem Row.far {lo' hi' E' size' c' n' : Nat} {A' : Option Addr} {xs' : List Value} (h : Row w lo hi E size A c n xs) (h' : Row w lo' hi' E' size' A' c' n' xs')
    (hg : w.grownBy w' (Value.slice A' n' c').ownBlock) (hd : hi ≤ lo' ∨ hi' ≤ lo) : Row w' lo hi E size A c n xs := by
  refine ⟨h.1.kept hg ?_, h.2⟩
  cases hv : (Value.slice A n c).ownBlock with
  | none => exact .inl rfl
  | some g =>
    refine .inr fun e => ?_
    have h1 := h.2 g hv
    have h2 := (h.1.lt g hv).1
    have h3 := h'.2 g e.symm
    have h4 := (h'.1.lt g e.symm).1
    omega
theorem Row.self {xs2 : List Value} (h : Row w lo hi E size A c n xs) (ho : w'.ownsRow lo E size (.slice A n c) n xs2) : Row w' lo hi E size A c n xs2 := ⟨ho, h.2⟩
theorem Rd.far {B lo' hi' E' size' c' n' : Nat} {A' : Option Addr} {xs' : List Value} (h : Rd w B size A n xs) (h' : Row w lo' hi' E' size' A' c' n' xs')
    (hg : w.grownBy w' (Value.slice A' n' c').ownBlock) (hw : B ≤ w.heap.size) (hd : B ≤ lo') : Rd w' B size A n xs :=
  h.grown hg hw fun g e => by have := (h'.1.lt g e).1; omega
theorem below_far {B lo' hi' E' size' c' n' : Nat} {w0 : World} {A' : Option Addr} {xs' : List Value} (h : Below B w0 w) (h' : Row w lo' hi' E' size' A' c' n' xs')
    (hg : w.grownBy w' (Value.slice A' n' c').ownBlock) (hw : B ≤ w.heap.size) (hd : B ≤ lo') : Below B w0 w' :=
  h.grown hg hw fun g e => by have := (h'.1.lt g e).1; omega
end
theorem Row.rdI {w : World} {lo hi E c : Nat} {A : Option Addr} {zs : List Int} (h : Row w lo hi E 1 A c zs.length (iv zs)) : RdI w hi A zs := h.rd
theorem RdI.far {w w' : World} {B lo' hi' E' size' c' n' : Nat} {A A' : Option Addr} {xs' : List Value} {zs : List Int} (h : RdI w B A zs) (h' : Row w lo' hi' E' size' A' c' n' xs')
    (hg : w.grownBy w' (Value.slice A' n' c').ownBlock) (hw : B ≤ w.heap.size) (hd : B ≤ lo') : RdI w' B A zs := Rd.far h h' hg hw hd
theorem own_mono {w : World} {base base' size n : Nat} {e : TypeId} {v : Value} {xs : List Value} (h : w.ownsRow base e size v n xs) (hb : base' ≤ base) : w.ownsRow base' e size v n xs := by
  refine ⟨h.1, ?_⟩
  rcases h.2 with hn | ⟨g, cap, cur, hv, hlo, rest⟩
  · exact .inl hn
  · exact .inr ⟨g, cap, cur, hv, by omega, rest⟩
theorem Row.drew {w : World} {lo hi E size c n : Nat} {A : Option Addr} {xs : List Value} (h : Row w lo hi E size A c n xs) : Row w.drew lo hi E size A c n xs := h
theorem size_drew (w : World) : w.drew.heap.size = w.heap.size := rfl
theorem RdI.drew {w : World} {B : Nat} {A : Option Addr} {zs : List Int} (h : RdI w B A zs) : RdI w.drew B A zs := h
theorem below_drew_left {B : Nat} {w w' : World} (h : Below B w.drew w') : Below B w w' := ⟨h.os, h.tape, h.output, h.size, h.block⟩
theorem Row.ne {w : World} {lo hi E size c n : Nat} {A : Option Addr} {xs : List Value} {g : Nat} (h : Row w lo hi E size A c n xs) (hd : g < lo ∨ hi ≤ g) : some g ≠ (Value.slice A n c).ownBlock := fun e => by
  have h1 := h.2 g e.symm
  have h2 := (h.1.lt g e.symm).1
  omega
theorem Blk.newAt {w : World} {t : TypeId} {cs : Array Value} {g : Nat} (h : g = w.heap.size) : Blk (w.alloc (.cells cs t)) g t cs := by subst h; exact Blk.new w t cs
theorem Blk.drew {w : World} {g : Nat} {t : TypeId} {cs : Array Value} (h : Blk w g t cs) : Blk w.drew g t cs := h
theorem own_drew {w : World} {base size n : Nat} {e : TypeId} {v : Value} {xs : List Value} (h : w.ownsRow base e size v n xs) : w.drew.ownsRow base e size v n xs := h
/-- a byte slice reads as numbers -/
def yv (zs : List Int) : List Value := zs.map (Value.int .u8)
def RdY (w : World) (B : Nat) (A : Option Addr) (zs : List Int) : Prop := Rd w B 1 A zs.length (yv zs)
def WfY (zs : List Int) : Prop := ∀ z ∈ zs, 0 ≤ z ∧ z ≤ 255
theorem RdY.at_ {w : World} {B : Nat} {A : Option Addr} {zs : List Int} {k : Nat} (h : RdY w B A zs) (hk : k < zs.length) :
    ∃ b off, A = some ⟨b, off, none⟩ ∧ b < B ∧ w.cell? ⟨b, off + k, none⟩ = some (.int .u8 (gi zs k)) := by
  obtain ⟨b, off, u, e, hb, hx, hc⟩ := Rd.at1 h hk
  refine ⟨b, off, e, hb, ?_⟩
  rw [hc, ← hx, yv, List.getElem?_map, List.getElem?_eq_getElem hk, gi_get hk]; rfl
theorem gi_byte {zs : List Int} (hw : WfY zs) {k : Nat} (h : k < zs.length) : 0 ≤ gi zs k ∧ gi zs k ≤ 255 := hw _ (gi_mem h)
theorem RdY.below {w w' : World} {B C : Nat} {A : Option Addr} {zs : List Int} (h : RdY w B A zs) (hb : Below C w w') (hB : B ≤ C) : RdY w' B A zs := Rd.below h hb hB
end Go.Proofs.YtopdgkhmeglflaaDoor

/- Contracts of the small functions on ints: within and l1In. No condition. -/
namespace Go.Proofs.YtopdgkhmeglflaaDoor
set_option linter.unusedVariables false
open Go.RowKit

/-- lo ≤ n ≤ hi -/
def inR (n lo hi : Int) : Bool := decide (lo ≤ n) && decide (n ≤ hi)
theorem inR_iff {n lo hi : Int} : inR n lo hi = true ↔ lo ≤ n ∧ n ≤ hi := by simp [inR]
theorem inR_t {n lo hi : Int} (h : lo ≤ n ∧ n ≤ hi) : inR n lo hi = true := inR_iff.2 h
theorem inR_f {n lo hi : Int} (h : n < lo ∨ hi < n) : inR n lo hi = false := by
  cases e : inR n lo hi with
  | false => rfl
  | true => have := inR_iff.1 e; omega
theorem inR_not {n lo hi : Int} (h : inR n lo hi = false) : n < lo ∨ hi < n := by
  by_cases a : lo ≤ n ∧ n ≤ hi
  · rw [inR_t a] at h; cases h
  · omega

theorem impl_within (n lo hi : Int) (w : World) : Calls Tryd.prog 46 #[.int .i64 n, .int .i64 lo, .int .i64 hi] w fun e w' => e = .returned (.bool (inR n lo hi)) ∧ w = w' := by
  by_cases h : lo ≤ n
  · go_enter Tryd.func46, Tryd.ntmps46
    go_wp2
    go_ret
    exact ⟨by simp [inR, h], rfl⟩
  · have h2 : decide (lo ≤ n) = false := by simpa using h
    go_enter Tryd.func46, Tryd.ntmps46
    go_wp2
    go_ret
    exact ⟨by simp [inR]; omega, rfl⟩
theorem spec_l1In (n lo hi : Int) (w : World) : Calls Tryd.prog 16 #[.int .i64 n, .int .i64 lo, .int .i64 hi] w fun e w' => e = .returned (.bool (inR n lo hi)) ∧ w = w' := by
  by_cases h : lo ≤ n
  · go_enter Tryd.func16, Tryd.ntmps16
    go_wp2
    go_ret
    exact ⟨by simp [inR, h], rfl⟩
  · have h2 : decide (lo ≤ n) = false := by simpa using h
    go_enter Tryd.func16, Tryd.ntmps16
    go_wp2
    go_ret
    exact ⟨by simp [inR]; omega, rfl⟩
theorem mul_le_cap' {x y X Y : Int} (hx : 0 ≤ x ∧ x ≤ X) (hy : 0 ≤ y ∧ y ≤ Y) : 0 ≤ x * y ∧ x * y ≤ X * Y :=
  ⟨Int.mul_nonneg hx.1 hy.1, Int.mul_le_mul hx.2 hy.2 hy.1 (by omega)⟩
end Go.Proofs.YtopdgkhmeglflaaDoor

/- Contracts of the helpers of the exact laws on slices of ints: toIntS copies, eqIntS compares, markIntS writes, heldIntS looks. Conditions: lengths at most 2^20 where memory is made. -/
namespace Go.Proofs.YtopdgkhmeglflaaDoor
set_option linter.unusedVariables false
open Go.RowKit

theorem infoInt : (Tryd.prog.info? 3).map (fun i => (i.zero, i.size, i.bytes)) = some (some (Value.int .i64 0), 1, 8) := by kernel_rfl

/-- the array after k stores -/
def mkI (zs : List Int) (k : Nat) : Array Value := (iv (zs.take k) ++ List.replicate (zs.length - k) (Value.int .i64 0)).toArray
theorem mkI_size (zs : List Int) (k : Nat) (h : k ≤ zs.length) : (mkI zs k).size = zs.length := by simp [mkI, iv]; omega
theorem mkI_at (zs : List Int) (k : Nat) (h : k < zs.length) : (mkI zs k)[k]? = some (.int .i64 0) := by
  have hl : (iv (zs.take k)).length = k := by simp [iv]; omega
  simp only [mkI, List.getElem?_toArray]
  rw [List.getElem?_append_right (by omega), hl, Nat.sub_self, List.getElem?_replicate, if_pos (by omega)]
theorem mkI_set (zs : List Int) (k : Nat) (h : k < zs.length) : (mkI zs k).setIfInBounds k (.int .i64 (gi zs k)) = mkI zs (k + 1) := by
  have e : zs.length - k = (zs.length - (k + 1)) + 1 := by omega
  simp only [mkI, List.setIfInBounds_toArray]
  congr 1
  rw [List.set_append]
  have hl : (iv (zs.take k)).length = k := by simp [iv]; omega
  rw [if_neg (by omega), hl, Nat.sub_self, e, List.replicate_succ, List.set_cons_zero, take_succ_gi h, iv_append]
  simp [iv]
theorem mkI_all (zs : List Int) : mkI zs zs.length = (iv zs).toArray := by simp [mkI]
theorem mkI_none (zs : List Int) : madeCells (Value.cells (.int .i64 0)) (zs.length * 1) = mkI zs 0 := by
  rw [Nat.mul_one]
  exact (madeOne _ _).trans (by simp [mkI, iv])


def sameI (xs ys : List Int) : Bool := decide (xs = ys)
theorem sameI_refl (a : List Int) : sameI a a = true := by simp [sameI]
theorem take_ne {xs ys : List Int} {k : Nat} (h : k < xs.length) (h' : k < ys.length) (hne : gi xs k ≠ gi ys k) : sameI xs ys = false := by
  simp only [sameI, decide_eq_false_iff_not]
  rintro rfl
  exact hne rfl

/-- k, k + 1, .. -/
def upI (k : Int) (n : Nat) : List Int := (List.range n).map (fun (j : Nat) => k + (j : Int))
theorem upI_length (k : Int) (n : Nat) : (upI k n).length = n := by simp [upI]
theorem upI_succ (k : Int) (n : Nat) : upI k (n + 1) = upI k n ++ [k + n] := by simp [upI, List.range_succ]
theorem upI_at (k : Int) (n j : Nat) (h : j < n) : gi (upI k n) j = k + j := by simp [gi, upI, h]
def setUp (cur : Array Value) (k : Int) (j : Nat) : Array Value := (iv (upI k j) ++ cur.toList.drop j).toArray
theorem setUp_zero (cur : Array Value) (k : Int) : setUp cur k 0 = cur := by simp [setUp, upI, iv]
theorem setUp_size (cur : Array Value) (k : Int) (j : Nat) (h : j ≤ cur.size) : (setUp cur k j).size = cur.size := by simp [setUp, iv, upI]; omega
theorem setUp_at (cur : Array Value) (k : Int) (j : Nat) (h : j < cur.size) : ∃ u, (setUp cur k j)[j]? = some u := ⟨_, Array.getElem?_eq_getElem (by rw [setUp_size _ _ _ (by omega)]; exact h)⟩
theorem setUp_set (cur : Array Value) (k : Int) (j : Nat) (h : j < cur.size) : (setUp cur k j).setIfInBounds j (.int .i64 (k + j)) = setUp cur k (j + 1) := by
  simp only [setUp, List.setIfInBounds_toArray]
  congr 1
  rw [set_app_drop _ _ _ _ (by simp [iv, upI]) (by simpa using h), upI_succ, iv_append]
  rfl
end Go.Proofs.YtopdgkhmeglflaaDoor

/- Laws on slices for the laws over draws: append of a whole slice onto an empty row, parts of slices. No condition but sizes. -/
namespace Go.Proofs.YtopdgkhmeglflaaDoor
set_option linter.unusedVariables false
open Go.RowKit
theorem RdI.part {w : World} {B b off : Nat} {zs : List Int} (h : RdI w B (some ⟨b, off, none⟩) zs) (k : Nat) : RdI w B (some ⟨b, off + k, none⟩) (zs.drop k) := by
  refine ⟨by simp [iv], fun hn => ?_⟩
  obtain ⟨b', o', e, hb, hc⟩ := h.2 (by simp at hn; omega)
  injection e with e; injection e with e1 e2; subst e1; subst e2
  refine ⟨b, off + k, rfl, hb, fun j u hu => ?_⟩
  have := hc (k + j) u (by rw [← hu]; simp [iv, List.getElem?_drop])
  rwa [← Nat.add_assoc] at this
theorem RdI.first {w : World} {B : Nat} {A : Option Addr} {zs : List Int} (h : RdI w B A zs) (k : Nat) : RdI w B A (zs.take k) := by
  refine ⟨by simp [iv], fun hn => ?_⟩
  obtain ⟨b', o', e, hb, hc⟩ := h.2 (by simp at hn; omega)
  refine ⟨b', o', e, hb, fun j u hu => hc j u ?_⟩
  have hj : j < k := by
    rcases Nat.lt_or_ge j k with h | h
    · exact h
    · rw [List.getElem?_eq_none (by simp [iv]; omega)] at hu; cases hu
  rw [← hu]; simp [iv, hj]
theorem own_cap {w : World} {base e size n c : Nat} {A : Option Addr} {xs : List Value} (h : w.ownsRow base e size (.slice A n c) n xs) : n ≤ c := by
  rcases h.2 with ⟨hv, rfl⟩ | ⟨g, cap, cur, hv, hb, hg, hnc, _⟩
  · exact Nat.zero_le _
  · injection hv with _ _ e; omega
theorem own_shape {w : World} {base e size n : Nat} {v : Value} {xs : List Value} (h : w.ownsRow base e size v n xs) : ∃ A c, v = .slice A n c := by
  rcases h.2 with ⟨hv, rfl⟩ | ⟨g, cap, cur, hv, _⟩
  · exact ⟨_, _, hv⟩
  · exact ⟨_, _, hv⟩
theorem wpList_wanted {P : Program} {ops : Array Oper} {Q : Exit → Act → World → Prop} {a : Act} {w : World} {rest : List Oper} {o : Oper} (hw : Region.wanted o (yielded ops a.tmps) = true)
    (h : ∀ K : Act → World → Prop, (∀ a w, wpList P ops Q rest a w → K a w) → o.wp P a w K Q) : wpList P ops Q (o :: rest) a w :=
  wpList_step fun K hK => by rw [if_pos hw]; exact h K hK
/-- append of m elements, read from anywhere, onto a row of the call's own -/
theorem append_any {P : Program} {ops : Array Oper} {rest : List Oper} {o : Oper} {a : Act} {Q : Exit → Act → World → Prop} (hw : Region.wanted o (yielded ops a.tmps) = true) (s x : Operand) (t : TypeId)
    (ho : o.op = .call { callee := .builtin .append, args := #[s, x], argTypes := #[t, t] })
    (e : TypeId) (i : TypeInfo) (z : Value) (size bytes : Nat) (ht : P.underlying t = some (.slice e)) (hi : P.info? e = some i) (hz : i.zero = some z)
    (hsize : i.size = size) (hby : i.bytes = bytes) (hzs : z.cells.size = size) (hsz : 0 < size) (hb64 : bytes ≤ 64)
    (base : Nat) (W : World) (v : Value) (n : Nat) (xs : List Value) (hown : W.ownsRow base e size v n xs) (hbase : base ≤ W.heap.size) (hn : n ≤ 4194304)
    (hs : a.eval s = v) (ad : Addr) (m c : Nat) (hm : m ≤ 4194304) (news : List Value) (hx : a.eval x = .slice (some ad) m c) (hl : news.length = m * size)
    (hnews : ∀ j u, news[j]? = some u → W.cell? (ad.add j) = some u) (hone : ∀ u ∈ news, u.oneCell' = true)
    (h : ∀ A c w', w'.ownsRow base e size (.slice A (n + m) c) (n + m) (xs ++ news) → Below base W w' → W.grownBy w' v.ownBlock →
      wpList P ops Q rest (a.put o.dst (.slice A (n + m) c)) w') : wpList P ops Q (o :: rest) a W := by
  have hmul : (n + m) * bytes ≤ (4194304 + 4194304) * 64 := Nat.mul_le_mul (by omega) hb64
  refine wpList_wanted hw fun K hK => ?_
  refine wp_append_own W s x t ho base e i z size bytes ht hi hz hsize hby hzs hsz v n xs hs hown ad m c news hx hl hnews hone (by unfold maxLen; omega) (by omega) hbase fun v' w' hown' hg _ => hK _ _ ?_
  obtain ⟨A', c', rfl⟩ := own_shape hown'
  exact h A' c' w' hown' ((Below.refl _ _).grown hg hbase fun k hk => (hown.lt k hk).1) hg
theorem RdI.all_ {w : World} {B : Nat} {ad : Addr} {zs : List Int} (h : RdI w B (some ad) zs) : ∀ j u, (iv zs)[j]? = some u → w.cell? (ad.add j) = some u := by
  intro j u hu
  have hj : j < zs.length := by
    rcases Nat.lt_or_ge j zs.length with h1 | h1
    · exact h1
    · rw [List.getElem?_eq_none (by simpa [iv] using h1)] at hu; cases hu
  obtain ⟨b, off, e, hb, hc⟩ := h.2 (by omega)
  injection e with e; subst e
  rw [Go.WideShapes.add_plain]; exact hc j u hu
theorem iv_one_cell (zs : List Int) : ∀ u ∈ iv zs, u.oneCell' = true := by
  intro u hu
  obtain ⟨z, _, rfl⟩ := List.mem_map.1 hu
  rfl
/-- append of one number, laid in a block of its own -/
theorem append_one {P : Program} {ops : Array Oper} {rest : List Oper} {o : Oper} {a : Act} {Q : Exit → Act → World → Prop} (hw : Region.wanted o (yielded ops a.tmps) = true) (s x : Operand) (t : TypeId)
    (ho : o.op = .call { callee := .builtin .append, args := #[s, x], argTypes := #[t, t] })
    (e : TypeId) (i : TypeInfo) (z : Value) (size bytes : Nat) (ht : P.underlying t = some (.slice e)) (hi : P.info? e = some i) (hz : i.zero = some z)
    (hsize : i.size = size) (hby : i.bytes = bytes) (hzs : z.cells.size = size) (hsz : 0 < size) (hb64 : bytes ≤ 64)
    (base : Nat) (W : World) (v : Value) (n : Nat) (xs : List Value) (hown : W.ownsRow base e size v n xs) (hbase : base ≤ W.heap.size) (hn : n ≤ 4194303)
    (hs : a.eval s = v) (us : List Value) (hus : us.length = size) (hone : ∀ u ∈ us, u.oneCell' = true) (hx : a.eval x = .slice (some ⟨W.heap.size, 0, none⟩) 1 1)
    (h : ∀ A c w', w'.ownsRow base e size (.slice A (n + 1) c) (n + 1) (xs ++ us) → Below base W w' → W.heap.size ≤ w'.heap.size →
      wpList P ops Q rest (a.put o.dst (.slice A (n + 1) c)) w') : wpList P ops Q (o :: rest) a (W.alloc (.cells us.toArray e)) := by
  refine append_any hw s x t ho e i z size bytes ht hi hz hsize hby hzs hsz hb64 base (W.alloc (.cells us.toArray e)) v n xs (hown.alloc _) (by simp; omega) (by omega) hs ⟨W.heap.size, 0, none⟩ 1 1 (by omega) us hx (by omega) ?_ hone ?_
  · intro j u hu
    rw [Go.WideShapes.add_plain, Nat.zero_add]
    exact ((Blk.new W e us.toArray).cell j).trans (by simpa using hu)
  · intro A c w' h1 h2 h3
    exact h A c w' h1 (((Below.refl _ _).alloc hbase _).trans h2) (by have := h3.size; simp at this; omega)
theorem own_le_cap {w : World} {base e size n c : Nat} {A : Option Addr} {xs : List Value} (h : w.ownsRow base e size (.slice A n c) n xs) : n ≤ c := by
  rcases h.2 with ⟨hv, rfl⟩ | ⟨g, cap, cur, hv, hb, hg, hnc, _⟩
  · exact Nat.zero_le _
  · injection hv with _ _ e; omega
theorem RdI.none0 {w : World} {B : Nat} {A : Option Addr} {zs : List Int} (h : zs.length = 0) : RdI w B A zs := ⟨by simp [iv], fun hn => by omega⟩
theorem RdI.part0 {w : World} {B b : Nat} {zs : List Int} (h : RdI w B (some ⟨b, 0, none⟩) zs) (k : Nat) : RdI w B (some ⟨b, k, none⟩) (zs.drop k) := by
  have := h.part k; rwa [Nat.zero_add] at this
theorem RdI.of_own2 {w : World} {base c n : Nat} {e : TypeId} {A : Option Addr} {zs : List Int} (h : w.ownsRow base e 1 (.slice A n c) n (iv zs)) (hn : zs.length = n) : RdI w w.heap.size A zs := by subst hn; exact Rd.of_own h
theorem below_cells {w w' : World} (hb : Below w.heap.size w w') : ∀ b o : Nat, b < w.heap.size → w'.cell? ⟨b, o, none⟩ = w.cell? ⟨b, o, none⟩ := fun b o h => hb.cell (p := ⟨b, o, none⟩) h
theorem RdI.al {w : World} {B : Nat} {A : Option Addr} {zs : List Int} (h : RdI w B A zs) (hB : B ≤ w.heap.size) (o : Obj) : RdI (w.alloc o) B A zs := Rd.alloc h hB o
theorem iv_one' (z : Int) : iv [z] = [.int .i64 z] := rfl
end Go.Proofs.YtopdgkhmeglflaaDoor

/- Contracts on pitches: copy, compare, valid. No condition. -/
namespace Go.Proofs.YtopdgkhmeglflaaDoor
open Go.RowKit
set_option linter.unusedSimpArgs false
set_option linter.unusedVariables false
theorem below_froz {w w' : World} (hb : Below w.heap.size w w') : ∀ b o : Nat, b < w.heap.size → w'.frozen? ⟨b, o, none⟩ = w.frozen? ⟨b, o, none⟩ := fun b o h => hb.frozen (p := ⟨b, o, none⟩) h
def eqP3 (a b c x y z : Int) : Bool := decide (a = x ∧ b = y ∧ c = z)
theorem eqP3_t {a b c x y z : Int} (h : eqP3 a b c x y z = true) : a = x ∧ b = y ∧ c = z := by simpa [eqP3] using h
theorem eqP3_f {a b c x y z : Int} (h : eqP3 a b c x y z = false) : ¬(a = x ∧ b = y ∧ c = z) := by simpa [eqP3] using h
def pvB (a b c : Int) : Bool := inR a 0 6 && inR b (-2) 2 && inR c 0 8
theorem pvB_iff {a b c : Int} : pvB a b c = true ↔ (0 ≤ a ∧ a ≤ 6) ∧ (-2 ≤ b ∧ b ≤ 2) ∧ (0 ≤ c ∧ c ≤ 8) := by simp [pvB, inR, and_assoc]
theorem laws_toPitch (a b c : Int) (w : World) : Calls Tryd.prog 67 #[.agg #[.int .i64 a, .int .i64 b, .int .i64 c]] w fun e w' => e = .returned (.agg #[.int .i64 a, .int .i64 b, .int .i64 c]) ∧ Below w.heap.size w w' := by
  go_enter Tryd.func67, Tryd.ntmps67
  go_wp2
  refine bodyPost_ret (v := .agg #[.int .i64 a, .int .i64 b, .int .i64 c]) (by simp [results, Tryd.results67, go_sem]) rfl ⟨rfl, ?_⟩
  repeat (first | exact Below.refl _ _ | refine Below.setCell ?_ (by simp; try omega) _ | refine Below.alloc ?_ (by simp; try omega) _)
theorem laws_eqPitch (a b c x y z : Int) (w : World) : Calls Tryd.prog 78 #[.agg #[.int .i64 a, .int .i64 b, .int .i64 c], .agg #[.int .i64 x, .int .i64 y, .int .i64 z]] w (RetB w (eqP3 a b c x y z)) := by
  by_cases h0 : a = x
  case neg =>
    have e0 : (a != x) = true := by simp [h0]
    have hfin : Hid (eqP3 a b c x y z = false) := by unfold Hid eqP3; simp [h0]
    clear h0
    go_enter Tryd.func78, Tryd.ntmps78
    go_wp2
    go_ret
    exact ⟨ret_bool hfin.out.symm, by (repeat (first | exact Below.refl _ _ | refine Below.alloc ?_ (by simp; try omega) _ | refine below_drewN ?_ _ | refine Below.drew ?_))⟩
  subst h0
  have e0 : (a != a) = false := by simp
  by_cases h1 : b = y
  case neg =>
    have e1 : (b != y) = true := by simp [h1]
    have hfin : Hid (eqP3 a b c a y z = false) := by unfold Hid eqP3; simp [h1]
    clear h1
    go_enter Tryd.func78, Tryd.ntmps78
    go_wp2
    go_ret
    exact ⟨ret_bool hfin.out.symm, by (repeat (first | exact Below.refl _ _ | refine Below.alloc ?_ (by simp; try omega) _ | refine below_drewN ?_ _ | refine Below.drew ?_))⟩
  subst h1
  have e1 : (b != b) = false := by simp
  by_cases h2 : c = z
  case neg =>
    have e2 : (c != z) = true := by simp [h2]
    have hfin : Hid (eqP3 a b c a b z = false) := by unfold Hid eqP3; simp [h2]
    clear h2
    go_enter Tryd.func78, Tryd.ntmps78
    go_wp2
    go_ret
    exact ⟨ret_bool hfin.out.symm, by (repeat (first | exact Below.refl _ _ | refine Below.alloc ?_ (by simp; try omega) _ | refine below_drewN ?_ _ | refine Below.drew ?_))⟩
  subst h2
  have e2 : (c != c) = false := by simp
  have hfin : Hid (eqP3 a b c a b c = true) := by unfold Hid eqP3; simp
  go_enter Tryd.func78, Tryd.ntmps78
  go_wp2
  go_ret
  exact ⟨ret_bool hfin.out.symm, by (repeat (first | exact Below.refl _ _ | refine Below.alloc ?_ (by simp; try omega) _ | refine below_drewN ?_ _ | refine Below.drew ?_))⟩
end Go.Proofs.YtopdgkhmeglflaaDoor
