/- Texts of this claim, one behind the other: words on memory, contracts of small functions. Conditions: each theorem states its own. -/
import Derived.WalkKit
import Derived.Lib.Hide
import Derived.Laws.OwnMore
import Derived.Deep.AppendLies
import Derived.Deep.Draws
import Derived.Deep.QuietTactic
import Derived.BigQuiet
import Derived.OpenShut
import Derived.WalkLawsBesides
import Derived.WalkSpells
import Derived.ProofKit
import Derived.Test.YtmodpleonhniaaaGreatDoorProg
import Derived.IntWalk
import Derived.Deep.RegionHeld3
import Derived.Laws.BitsAllLaws
import Derived.Laws.BitsLemmas
import Derived.Deep.RegionLaw
import Derived.Deep.RegionWith
import Derived.Deep.DeepCutAuto
import Derived.Outline
/- Words of my own on memory, used by all contracts of this seat: a slice that reads as a list, a row of the call's own, a fact kept from the walk. No condition. -/
namespace Go.Proofs.YtmodpleonhniaaaGreatDoor
set_option linter.unusedVariables false
open Go.RowKit

/-- An int fits int64. -/
def Fits (z : Int) : Prop := -9223372036854775808 ≤ z ∧ z ≤ 9223372036854775807
def WfI (zs : List Int) : Prop := ∀ z ∈ zs, Fits z

/-- slice 'A' of n elements of 'size' cells reads as xs, below block B -/
def Rd (w : World) (B size : Nat) (A : Option Addr) (n : Nat) (xs : List Value) : Prop :=
  xs.length = n * size ∧ (0 < n → ∃ b off, A = some ⟨b, off, none⟩ ∧ b < B ∧ ∀ j u, xs[j]? = some u → w.cell? ⟨b, off + j, none⟩ = some u)

section
variable {w w' : World} {B B' size n : Nat} {A : Option Addr} {xs : List Value}
theorem Rd.none_ : Rd w B size A 0 [] := ⟨by simp, fun h => absurd h (by omega)⟩
theorem Rd.keep (h : Rd w B size A n xs) (hk : ∀ p : Addr, p.block < B → w'.cell? p = w.cell? p) : Rd w' B size A n xs :=
  ⟨h.1, fun hn => by
    obtain ⟨b, off, e, hb, hc⟩ := h.2 hn
    exact ⟨b, off, e, hb, fun j u hu => (hk _ hb).trans (hc j u hu)⟩⟩
theorem Rd.more (h : Rd w B size A n xs) (hB : B ≤ B') : Rd w B' size A n xs :=
  ⟨h.1, fun hn => by
    obtain ⟨b, off, e, hb, hc⟩ := h.2 hn
    exact ⟨b, off, e, by omega, hc⟩⟩
theorem Rd.below {C : Nat} (h : Rd w B size A n xs) (hb : Below C w w') (hB : B ≤ C) : Rd w' B size A n xs := h.keep fun _ hp => hb.cell (by omega)
theorem Rd.drew (h : Rd w B size A n xs) : Rd w.drew B size A n xs := h
theorem Rd.drewN (h : Rd w B size A n xs) (k : Nat) : Rd (w.drewN k) B size A n xs := h
theorem Rd.alloc (h : Rd w B size A n xs) (hB : B ≤ w.heap.size) (o : Obj) : Rd (w.alloc o) B size A n xs := h.keep fun p hp => World.cell?_alloc_lt w o p (by omega)
theorem Rd.grown (h : Rd w B size A n xs) {row : Option Nat} (hg : w.grownBy w' row) (hB : B ≤ w.heap.size) (hr : ∀ g, row = some g → B ≤ g) : Rd w' B size A n xs :=
  h.keep fun p hp => World.cell?_of_block (hg.block p.block (by omega) (fun e => by have := hr _ e.symm; omega))
theorem Rd.of_own {base : Nat} {e : TypeId} {c : Nat} (h : w.ownsRow base e size (.slice A n c) n xs) : Rd w w.heap.size size A n xs := by
  refine ⟨h.1, fun hn => ?_⟩
  obtain ⟨g, cap, hv, _, hlt⟩ := h.form hn
  have hA : A = some ⟨g, 0, none⟩ := by injection hv
  subst hA
  refine ⟨g, 0, rfl, hlt, fun j u hu => ?_⟩
  have := h.cells (g := g) rfl j u hu
  rwa [Go.WideShapes.add_plain] at this
theorem Rd.at1 {k : Nat} (h : Rd w B 1 A n xs) (hk : k < n) : ∃ b off u, A = some ⟨b, off, none⟩ ∧ b < B ∧ xs[k]? = some u ∧ w.cell? ⟨b, off + k, none⟩ = some u := by
  obtain ⟨b, off, e, hb, hc⟩ := h.2 (by omega)
  have hl : k < xs.length := by have := h.1; omega
  exact ⟨b, off, xs[k], e, hb, List.getElem?_eq_getElem hl, hc k _ (List.getElem?_eq_getElem hl)⟩
end

/-- the k-th number -/
def gi (zs : List Int) (k : Nat) : Int := zs.getD k 0
/-- as values -/
def iv (zs : List Int) : List Value := zs.map (Value.int .i64)
def RdI (w : World) (B : Nat) (A : Option Addr) (zs : List Int) : Prop := Rd w B 1 A zs.length (iv zs)

theorem iv_length (zs : List Int) : (iv zs).length = zs.length := by simp [iv]
theorem iv_append (a b : List Int) : iv (a ++ b) = iv a ++ iv b := by simp [iv]
theorem gi_get {zs : List Int} {k : Nat} (h : k < zs.length) : zs[k] = gi zs k := by simp [gi, h]
theorem gi_mem {zs : List Int} {k : Nat} (h : k < zs.length) : gi zs k ∈ zs := by rw [← gi_get h]; exact List.getElem_mem h
theorem gi_fits {zs : List Int} (hw : WfI zs) {k : Nat} (h : k < zs.length) : -9223372036854775808 ≤ gi zs k ∧ gi zs k ≤ 9223372036854775807 := hw _ (gi_mem h)
theorem take_succ_gi {zs : List Int} {k : Nat} (h : k < zs.length) : zs.take (k + 1) = zs.take k ++ [gi zs k] := by
  rw [List.take_succ_eq_append_getElem h, gi_get h]
theorem RdI.at_ {w : World} {B : Nat} {A : Option Addr} {zs : List Int} {k : Nat} (h : RdI w B A zs) (hk : k < zs.length) :
    ∃ b off, A = some ⟨b, off, none⟩ ∧ b < B ∧ w.cell? ⟨b, off + k, none⟩ = some (.int .i64 (gi zs k)) := by
  obtain ⟨b, off, u, e, hb, hx, hc⟩ := Rd.at1 h hk
  refine ⟨b, off, e, hb, ?_⟩
  rw [hc, ← hx, iv, List.getElem?_map, List.getElem?_eq_getElem hk, gi_get hk]; rfl

theorem RdI.below {w w' : World} {B C : Nat} {A : Option Addr} {zs : List Int} (h : RdI w B A zs) (hb : Below C w w') (hB : B ≤ C) : RdI w' B A zs := Rd.below h hb hB
theorem RdI.more {w : World} {B C : Nat} {A : Option Addr} {zs : List Int} (h : RdI w B A zs) (hB : B ≤ C) : RdI w C A zs := Rd.more h hB
theorem RdI.drewN {w : World} {B : Nat} {A : Option Addr} {zs : List Int} (h : RdI w B A zs) (k : Nat) : RdI (w.drewN k) B A zs := h
theorem RdI.of_own {w : World} {base c : Nat} {e : TypeId} {A : Option Addr} {zs : List Int} (h : w.ownsRow base e 1 (.slice A zs.length c) zs.length (iv zs)) : RdI w w.heap.size A zs := Rd.of_own h
theorem ret_bool {a b : Bool} (h : a = b) : Ending.returned (.bool a) = .returned (.bool b) := by rw [h]
theorem ret_int {a b : Int} (h : a = b) : Ending.returned (.int .i64 a) = .returned (.int .i64 b) := by rw [h]

theorem below_drewN {B : Nat} {a w : World} (h : Below B a w) (n : Nat) : Below B a (w.drewN n) := ⟨h.os, h.tape, h.output, h.size, h.block⟩
theorem grown_trans {a b c : World} (h : Grown a b) (k : Grown b c) : Grown a c :=
  ⟨World.keptBut_trans h.1 k.1, fun x => (k.2.1 x).trans (h.2.1 x), Nat.le_trans h.2.2 k.2.2⟩
/-- as the row's last step wants it, out of 'Below' -/
theorem keeps_below {W W' : World} (h : Below W.heap.size W W') : W.heap.size ≤ W'.heap.size := h.size

/-! What a contract says: a number, a bool, and nothing that was there has turned; a slice in new memory. -/
def RetI (w : World) (n : Int) (e : Ending) (w' : World) : Prop := e = .returned (.int .i64 n) ∧ Below w.heap.size w w'
def RetB (w : World) (b : Bool) (e : Ending) (w' : World) : Prop := e = .returned (.bool b) ∧ Below w.heap.size w w'
/-- what a marking call says: its row holds other cells, nothing else has turned -/
def RetMark (w : World) (base E size : Nat) (v : Value) (n : Nat) (xs : List Value) (r : Int) (e : Ending) (w' : World) : Prop :=
  e = .returned (.int .i64 r) ∧ w'.ownsRow base E size v n xs ∧ w.grownBy w' v.ownBlock
def RetRow (w : World) (E size n : Nat) (xs : List Value) (e : Ending) (w' : World) : Prop :=
  ∃ A c, e = .returned (.slice A n c) ∧ w'.ownsRow w.heap.size E size (.slice A n c) n xs ∧ Below w.heap.size w w'

/-! A block known whole. -/
def Blk (w : World) (g : Nat) (t : TypeId) (cs : Array Value) : Prop := w.heap[g]? = some (.cells cs t (0, 0))
section
variable {w w' : World} {g : Nat} {t : TypeId} {cs : Array Value}
theorem Blk.lt (h : Blk w g t cs) : g < w.heap.size := by
  rcases Nat.lt_or_ge g w.heap.size with hlt | hge
  · exact hlt
  · unfold Blk at h; rw [Array.getElem?_eq_none hge] at h; cases h
theorem Blk.cell (h : Blk w g t cs) (i : Nat) : w.cell? ⟨g, i, none⟩ = cs[i]? := cell_of_row w g i cs t (0, 0) h
theorem Blk.frozen (h : Blk w g t cs) (i : Nat) : w.frozen? ⟨g, i, none⟩ = false := by
  unfold Blk at h
  simp [World.frozen?, h]
theorem Blk.new (w : World) (t : TypeId) (cs : Array Value) : Blk (w.alloc (.cells cs t)) w.heap.size t cs := heap_alloc_new w _
theorem Blk.drewN (h : Blk w g t cs) (n : Nat) : Blk (w.drewN n) g t cs := h
theorem Blk.alloc (h : Blk w g t cs) (o : Obj) : Blk (w.alloc o) g t cs := (Below.heap_alloc w o g h.lt).trans h
theorem Blk.set_ (h : Blk w g t cs) (i : Nat) (u : Value) : Blk (w.setCell ⟨g, i, none⟩ u) g t (cs.setIfInBounds i u) := by
  unfold Blk at h ⊢
  simp [World.setCell, Array.getElem?_modify, h]
theorem Blk.far (h : Blk w g t cs) {p : Addr} (hp : g ≠ p.block) (u : Value) : Blk (w.setCell p u) g t cs := (Below.heap_setCell w p u g hp).trans h
theorem Blk.below {B : Nat} (h : Blk w g t cs) (hb : Below B w w') (hg : g < B) : Blk w' g t cs := (hb.block g hg).trans h
/-- a block of n elements of 'size' cells, whole: a row of the call's own -/
theorem Blk.own {base size n : Nat} (h : Blk w g t cs) (hb : base ≤ g) (hn : n ≤ maxLen) (hs : cs.size = n * size) : w.ownsRow base t size (.slice (some ⟨g, 0, none⟩) n n) n cs.toList :=
  ⟨by simpa using hs, .inr ⟨g, n, cs, rfl, hb, h, Nat.le_refl _, hn, hs, List.take_of_length_le (by simp; omega)⟩⟩
end

theorem run_make_rowN {P : Program} (t e : TypeId) (i : TypeInfo) (z : Value) (ht : P.underlying t = some (.slice e)) (hi : P.info? e = some i) (hz : i.zero = some z)
    (kl kc : IntKind) (n c : Nat) (hnc : n ≤ c) (hbytes : i.bytes * c ≤ 281474976710656) (h63 : c ≤ 9223372036854775807) (w : World) :
    (Instr.makeSlice t (.int kl (n : Int)) (.int kc (c : Int))).run P w = .ok (.slice (some ⟨w.heap.size, 0, none⟩) n c) (w.alloc (.cells (madeCells z.cells (c * i.size)) e)) := by
  have hb : (i.bytes : Int) * (c : Int) ≤ 281474976710656 := by
    have h : ((i.bytes * c : Nat) : Int) ≤ 281474976710656 := by omega
    rwa [Int.natCast_mul] at h
  have hr := run_make (P := P) w t e i z ht hi hz kl kc n c (by omega) (by omega) hb (by omega)
  simp only [Int.toNat_natCast] at hr
  exact hr

theorem madeOne (v : Value) (n : Nat) : madeCells #[v] n = (List.replicate n v).toArray := by
  apply Array.ext
  · simp [size_madeCells]
  · intro i h1 h2
    simp [madeCells, Nat.mod_one]

theorem set_app_drop {α : Type} (l1 l2 : List α) (j : Nat) (v : α) (h1 : l1.length = j) (h2 : j < l2.length) : (l1 ++ l2.drop j).set j v = (l1 ++ [v]) ++ l2.drop (j + 1) := by
  rw [List.set_append, if_neg (by omega), h1, Nat.sub_self, List.drop_eq_getElem_cons h2, List.set_cons_zero]
  simp

/-! Only row 'r', and what is new, has turned. -/
theorem only_drewN {a w : World} {row : Option Nat} (h : a.grownBy w row) (n : Nat) : a.grownBy (w.drewN n) row := ⟨h.os, h.tape, h.output, h.size, h.block⟩
theorem only_alloc {a w : World} {row : Option Nat} (h : a.grownBy w row) (o : Obj) : a.grownBy (w.alloc o) row :=
  ⟨h.os, h.tape, h.output, Nat.le_trans h.size (by simp), fun i hi hne => (Below.heap_alloc w o i (Nat.lt_of_lt_of_le hi h.size)).trans (h.block i hi hne)⟩
theorem only_setCell {a w : World} {g : Nat} (h : a.grownBy w (some g)) {p : Addr} (hp : p.block = g ∨ a.heap.size ≤ p.block) (u : Value) : a.grownBy (w.setCell p u) (some g) :=
  ⟨h.os, h.tape, h.output, by simpa [World.setCell] using h.size, fun i hi hne => (Below.heap_setCell w p u i (by
    rintro rfl
    rcases hp with hp | hp
    · exact hne (by rw [hp])
    · omega)).trans (h.block i hi hne)⟩
theorem only_refl (a : World) (row : Option Nat) : a.grownBy a row := ⟨rfl, rfl, rfl, Nat.le_refl _, fun _ _ _ => rfl⟩
theorem only_of_below {a w : World} (h : Below a.heap.size a w) (row : Option Nat) : a.grownBy w row := ⟨h.os, h.tape, h.output, h.size, fun i hi _ => h.block i hi⟩

/-- append of one element of 'size' cells, which has just been laid in a block of its own, onto a row of the call's own -/
theorem append_el {P : Program} {ops : Array Oper} {rest : List Oper} {o : Oper} {a : Act} {Q : Exit → Act → World → Prop} (hgd : o.guard = none) (s x : Operand) (t : TypeId)
    (ho : o.op = .call { callee := .builtin .append, args := #[s, x], argTypes := #[t, t] })
    (e : TypeId) (i : TypeInfo) (z : Value) (size bytes : Nat) (ht : P.underlying t = some (.slice e)) (hi : P.info? e = some i) (hz : i.zero = some z)
    (hsize : i.size = size) (hby : i.bytes = bytes) (hzs : z.cells.size = size) (hsz : 0 < size) (hb64 : bytes ≤ 64)
    (base : Nat) (w0 W : World) (v : Value) (n : Nat) (xs : List Value) (hown : W.ownsRow base e size v n xs) (hbel : Below base w0 W) (hbase : base ≤ W.heap.size) (hn : n ≤ 4194304)
    (hs : a.eval s = v) (us : List Value) (hus : us.length = size) (hone : ∀ u ∈ us, u.oneCell' = true) (hx : a.eval x = .slice (some ⟨W.heap.size, 0, none⟩) 1 1)
    (h : ∀ A c w', w'.ownsRow base e size (.slice A (n + 1) c) (n + 1) (xs ++ us) → Below base w0 w' → base ≤ w'.heap.size → W.grownBy w' v.ownBlock →
      wpList P ops Q rest (a.put o.dst (.slice A (n + 1) c)) w') : wpList P ops Q (o :: rest) a (W.alloc (.cells us.toArray e)) := by
  have hmul : (n + 1) * bytes ≤ (4194304 + 1) * 64 := Nat.mul_le_mul (by omega) hb64
  refine wpList_append_own _ hgd s x t ho base e i z size bytes ht hi hz hsize hby hzs hsz v n xs hs (hown.alloc _) ⟨W.heap.size, 0, none⟩ 1 1 us hx (by omega) ?_ hone (by unfold maxLen; omega) (by omega) (by simp; omega) ?_
  · intro j u hu
    rw [Go.WideShapes.add_plain, Nat.zero_add]
    exact ((Blk.new W e us.toArray).cell j).trans (by simpa using hu)
  · intro v' w' hown' hg _
    obtain ⟨g, cap, hv, _, _⟩ := hown'.form (by omega)
    rw [hv] at hown' ⊢
    have hgb : Below base (W.alloc (.cells us.toArray e)) w' := by
      refine (Below.refl _ _).grown hg (by simp; omega) ?_
      intro k hk
      exact (hown.lt k hk).1
    refine h _ _ w' hown' ((hbel.alloc hbase _).trans hgb) (by have := hgb.size; simp at this; omega) ?_
    have ha := World.grownBy_alloc W (.cells us.toArray e) v.ownBlock
    exact ⟨hg.os.trans ha.os, hg.tape.trans ha.tape, hg.output.trans ha.output, Nat.le_trans ha.size hg.size, fun k hk hne => (hg.block k (by simp; omega) hne).trans (ha.block k hk hne)⟩
/-- '[]T{}': an empty row of the call's own -/
theorem own_empty {W w0 : World} {base size : Nat} {e : TypeId} (hbel : Below base w0 W) (hbase : base ≤ W.heap.size) :
    (W.alloc (.cells #[] e)).ownsRow base e size (.slice (some ⟨W.heap.size, 0, none⟩) 0 0) 0 [] ∧ Below base w0 (W.alloc (.cells #[] e)) ∧ base ≤ (W.alloc (.cells #[] e)).heap.size :=
  ⟨(Blk.new W e #[]).own hbase (Nat.zero_le _) (by simp), hbel.alloc hbase _, by simp; omega⟩

/-! A row of the call's own, with bounds on its block: 'lo ≤ block < hi'. -/
def Row (w : World) (lo hi E size : Nat) (A : Option Addr) (c n : Nat) (xs : List Value) : Prop :=
  w.ownsRow lo E size (.slice A n c) n xs ∧ ∀ g, (Value.slice A n c).ownBlock = some g → g < hi
section
variable {w w' : World} {lo hi E size c n : Nat} {A : Option Addr} {xs : List Value}
theorem Row.mk_ (h : w.ownsRow lo E size (.slice A n c) n xs) : Row w lo w.heap.size E size A c n xs := ⟨h, fun g hg => (h.lt g hg).2⟩
theorem Row.below {B : Nat} (h : Row w lo hi E size A c n xs) (hb : Below B w w') (hB : hi ≤ B) : Row w' lo hi E size A c n xs := by
  refine ⟨⟨h.1.1, ?_⟩, h.2⟩
  rcases h.1.2 with hn | ⟨g, cap, cur, hv, hlo, hg, rest⟩
  · exact .inl hn
  · have hlt := h.2 g (by rw [hv]; rfl)
    exact .inr ⟨g, cap, cur, hv, hlo, (hb.block g (by omega)).trans hg, rest⟩
theorem Row.rd (h : Row w lo hi E size A c n xs) : Rd w hi size A n xs := by
  refine ⟨h.1.1, fun hn => ?_⟩
  obtain ⟨b, off, hA, hb, hc⟩ := (Rd.of_own h.1).2 hn
  refine ⟨b, off, hA, ?_, hc⟩
  exact h.2 b (by subst hA; rfl)
/-- another row is written -/
theorem Row.far {lo' hi' E' size' c' n' : Nat} {A' : Option Addr} {xs' : List Value} (h : Row w lo hi E size A c n xs) (h' : Row w lo' hi' E' size' A' c' n' xs')
    (hg : w.grownBy w' (Value.slice A' n' c').ownBlock) (hd : hi ≤ lo' ∨ hi' ≤ lo) : Row w' lo hi E size A c n xs := by
  refine ⟨h.1.kept hg ?_, h.2⟩
  cases hv : (Value.slice A n c).ownBlock with
  | none => exact .inl rfl
  | some g =>
    refine .inr fun e => ?_
    have h1 := h.2 g hv
    have h2 := (h.1.lt g hv).1
    have h3 := h'.2 g e.symm
    have h4 := (h'.1.lt g e.symm).1
    omega
theorem Row.self {xs2 : List Value} (h : Row w lo hi E size A c n xs) (ho : w'.ownsRow lo E size (.slice A n c) n xs2) : Row w' lo hi E size A c n xs2 := ⟨ho, h.2⟩
theorem Rd.far {B lo' hi' E' size' c' n' : Nat} {A' : Option Addr} {xs' : List Value} (h : Rd w B size A n xs) (h' : Row w lo' hi' E' size' A' c' n' xs')
    (hg : w.grownBy w' (Value.slice A' n' c').ownBlock) (hw : B ≤ w.heap.size) (hd : B ≤ lo') : Rd w' B size A n xs :=
  h.grown hg hw fun g e => by have := (h'.1.lt g e).1; omega
theorem below_far {B lo' hi' E' size' c' n' : Nat} {w0 : World} {A' : Option Addr} {xs' : List Value} (h : Below B w0 w) (h' : Row w lo' hi' E' size' A' c' n' xs')
    (hg : w.grownBy w' (Value.slice A' n' c').ownBlock) (hw : B ≤ w.heap.size) (hd : B ≤ lo') : Below B w0 w' :=
  h.grown hg hw fun g e => by have := (h'.1.lt g e).1; omega
end
theorem Row.rdI {w : World} {lo hi E c : Nat} {A : Option Addr} {zs : List Int} (h : Row w lo hi E 1 A c zs.length (iv zs)) : RdI w hi A zs := h.rd
theorem RdI.far {w w' : World} {B lo' hi' E' size' c' n' : Nat} {A A' : Option Addr} {xs' : List Value} {zs : List Int} (h : RdI w B A zs) (h' : Row w lo' hi' E' size' A' c' n' xs')
    (hg : w.grownBy w' (Value.slice A' n' c').ownBlock) (hw : B ≤ w.heap.size) (hd : B ≤ lo') : RdI w' B A zs := Rd.far h h' hg hw hd
theorem own_mono {w : World} {base base' size n : Nat} {e : TypeId} {v : Value} {xs : List Value} (h : w.ownsRow base e size v n xs) (hb : base' ≤ base) : w.ownsRow base' e size v n xs := by
  refine ⟨h.1, ?_⟩
  rcases h.2 with hn | ⟨g, cap, cur, hv, hlo, rest⟩
  · exact .inl hn
  · exact .inr ⟨g, cap, cur, hv, by omega, rest⟩
theorem Row.drew {w : World} {lo hi E size c n : Nat} {A : Option Addr} {xs : List Value} (h : Row w lo hi E size A c n xs) : Row w.drew lo hi E size A c n xs := h
theorem size_drew (w : World) : w.drew.heap.size = w.heap.size := rfl
theorem RdI.drew {w : World} {B : Nat} {A : Option Addr} {zs : List Int} (h : RdI w B A zs) : RdI w.drew B A zs := h
theorem below_drew_left {B : Nat} {w w' : World} (h : Below B w.drew w') : Below B w w' := ⟨h.os, h.tape, h.output, h.size, h.block⟩
theorem Row.ne {w : World} {lo hi E size c n : Nat} {A : Option Addr} {xs : List Value} {g : Nat} (h : Row w lo hi E size A c n xs) (hd : g < lo ∨ hi ≤ g) : some g ≠ (Value.slice A n c).ownBlock := fun e => by
  have h1 := h.2 g e.symm
  have h2 := (h.1.lt g e.symm).1
  omega
theorem Blk.newAt {w : World} {t : TypeId} {cs : Array Value} {g : Nat} (h : g = w.heap.size) : Blk (w.alloc (.cells cs t)) g t cs := by subst h; exact Blk.new w t cs
theorem Blk.drew {w : World} {g : Nat} {t : TypeId} {cs : Array Value} (h : Blk w g t cs) : Blk w.drew g t cs := h
theorem own_drew {w : World} {base size n : Nat} {e : TypeId} {v : Value} {xs : List Value} (h : w.ownsRow base e size v n xs) : w.drew.ownsRow base e size v n xs := h
/-- a byte slice reads as numbers -/
def yv (zs : List Int) : List Value := zs.map (Value.int .u8)
def RdY (w : World) (B : Nat) (A : Option Addr) (zs : List Int) : Prop := Rd w B 1 A zs.length (yv zs)
def WfY (zs : List Int) : Prop := ∀ z ∈ zs, 0 ≤ z ∧ z ≤ 255
theorem RdY.at_ {w : World} {B : Nat} {A : Option Addr} {zs : List Int} {k : Nat} (h : RdY w B A zs) (hk : k < zs.length) :
    ∃ b off, A = some ⟨b, off, none⟩ ∧ b < B ∧ w.cell? ⟨b, off + k, none⟩ = some (.int .u8 (gi zs k)) := by
  obtain ⟨b, off, u, e, hb, hx, hc⟩ := Rd.at1 h hk
  refine ⟨b, off, e, hb, ?_⟩
  rw [hc, ← hx, yv, List.getElem?_map, List.getElem?_eq_getElem hk, gi_get hk]; rfl
theorem gi_byte {zs : List Int} (hw : WfY zs) {k : Nat} (h : k < zs.length) : 0 ≤ gi zs k ∧ gi zs k ≤ 255 := hw _ (gi_mem h)
theorem RdY.below {w w' : World} {B C : Nat} {A : Option Addr} {zs : List Int} (h : RdY w B A zs) (hb : Below C w w') (hB : B ≤ C) : RdY w' B A zs := Rd.below h hb hB
end Go.Proofs.YtmodpleonhniaaaGreatDoor

/- Contracts of the small functions on ints: within and l1In. No condition. -/
namespace Go.Proofs.YtmodpleonhniaaaGreatDoor
set_option linter.unusedVariables false
open Go.RowKit

/-- lo ≤ n ≤ hi -/
def inR (n lo hi : Int) : Bool := decide (lo ≤ n) && decide (n ≤ hi)
theorem inR_iff {n lo hi : Int} : inR n lo hi = true ↔ lo ≤ n ∧ n ≤ hi := by simp [inR]
theorem inR_t {n lo hi : Int} (h : lo ≤ n ∧ n ≤ hi) : inR n lo hi = true := inR_iff.2 h
theorem inR_f {n lo hi : Int} (h : n < lo ∨ hi < n) : inR n lo hi = false := by
  cases e : inR n lo hi with
  | false => rfl
  | true => have := inR_iff.1 e; omega
theorem inR_not {n lo hi : Int} (h : inR n lo hi = false) : n < lo ∨ hi < n := by
  by_cases a : lo ≤ n ∧ n ≤ hi
  · rw [inR_t a] at h; cases h
  · omega

theorem impl_within (n lo hi : Int) (w : World) : Calls Tryz.prog 42 #[.int .i64 n, .int .i64 lo, .int .i64 hi] w fun e w' => e = .returned (.bool (inR n lo hi)) ∧ w = w' := by
  by_cases h : lo ≤ n
  · go_enter Tryz.func42, Tryz.ntmps42
    go_wp2
    go_ret
    exact ⟨by simp [inR, h], rfl⟩
  · have h2 : decide (lo ≤ n) = false := by simpa using h
    go_enter Tryz.func42, Tryz.ntmps42
    go_wp2
    go_ret
    exact ⟨by simp [inR]; omega, rfl⟩
theorem spec_l1In (n lo hi : Int) (w : World) : Calls Tryz.prog 20 #[.int .i64 n, .int .i64 lo, .int .i64 hi] w fun e w' => e = .returned (.bool (inR n lo hi)) ∧ w = w' := by
  by_cases h : lo ≤ n
  · go_enter Tryz.func20, Tryz.ntmps20
    go_wp2
    go_ret
    exact ⟨by simp [inR, h], rfl⟩
  · have h2 : decide (lo ≤ n) = false := by simpa using h
    go_enter Tryz.func20, Tryz.ntmps20
    go_wp2
    go_ret
    exact ⟨by simp [inR]; omega, rfl⟩
theorem mul_le_cap' {x y X Y : Int} (hx : 0 ≤ x ∧ x ≤ X) (hy : 0 ≤ y ∧ y ≤ Y) : 0 ≤ x * y ∧ x * y ≤ X * Y :=
  ⟨Int.mul_nonneg hx.1 hy.1, Int.mul_le_mul hx.2 hy.2 hy.1 (by omega)⟩
end Go.Proofs.YtmodpleonhniaaaGreatDoor

/- Contracts of the reader of the draws: l20Open, pick, odd. No condition but bounds on the numbers asked for. -/
namespace Go.Proofs.YtmodpleonhniaaaGreatDoor
set_option linter.unusedVariables false
open Go.RowKit

/-! Only block 'g' has turned. -/
theorem only_trans {a b c : World} {g : Nat} (h : a.grownBy b (some g)) (k : b.grownBy c (some g)) : a.grownBy c (some g) :=
  ⟨k.os.trans h.os, k.tape.trans h.tape, k.output.trans h.output, Nat.le_trans h.size k.size, fun i hi hne => (k.block i (Nat.lt_of_lt_of_le hi h.size) hne).trans (h.block i hi hne)⟩
theorem only_drew {a w : World} {row : Option Nat} (h : a.grownBy w row) : a.grownBy w.drew row := ⟨h.os, h.tape, h.output, h.size, h.block⟩
theorem below_only {B g : Nat} {w0 w w' : World} (h : Below B w0 w) (hg : w.grownBy w' (some g)) (hw : B ≤ w.heap.size) (hd : B ≤ g) : Below B w0 w' :=
  h.grown hg hw fun k e => by injection e with e; omega
theorem Blk.only {w w' : World} {g k : Nat} {t : TypeId} {cs : Array Value} (h : Blk w k t cs) (hg : w.grownBy w' (some g)) (hne : k ≠ g) : Blk w' k t cs :=
  (hg.block k h.lt (by simpa using hne)).trans h
/-- the reader: a struct of its own block: bytes and a place -/
def Rdr (w : World) (g q : Nat) : Prop :=
  ∃ (A : Option Addr) (c : Nat) (zs : List Int) (p : Nat), Blk w g 64 #[.slice A zs.length c, .int .i64 (p : Int)] ∧ RdY w g A zs ∧ WfY zs ∧ zs.length ≤ 2000 ∧ p ≤ q
theorem Rdr.only {w w' : World} {g q k : Nat} (h : Rdr w g q) (hg : w.grownBy w' (some k)) (hne : g < k) : Rdr w' g q := by
  obtain ⟨A, c, zs, p, hb, hy, hw, hl, hp⟩ := h
  refine ⟨A, c, zs, p, hb.only hg (by omega), ?_, hw, hl, hp⟩
  exact Rd.grown hy hg (Nat.le_of_lt hb.lt) fun k' e => by injection e with e; omega
theorem Rdr.below {w w' : World} {g q B : Nat} (h : Rdr w g q) (hb : Below B w w') (hg : g < B) : Rdr w' g q := by
  obtain ⟨A, c, zs, p, hk, hy, hw, hl, hp⟩ := h
  exact ⟨A, c, zs, p, hk.below hb hg, hy.below hb (by omega), hw, hl, hp⟩
theorem Rdr.more {w : World} {g q q' : Nat} (h : Rdr w g q) (hq : q ≤ q') : Rdr w g q' := by
  obtain ⟨A, c, zs, p, hk, hy, hw, hl, hp⟩ := h
  exact ⟨A, c, zs, p, hk, hy, hw, hl, by omega⟩
def RetPick (w : World) (g q : Nat) (n : Int) (e : Ending) (w' : World) : Prop :=
  ∃ v : Int, e = .returned (.int .i64 v) ∧ 0 ≤ v ∧ (v < n ∨ v = 0) ∧ Rdr w' g q ∧ w.grownBy w' (some g)

theorem spec_l20Open (A : Option Addr) (c : Nat) (zs : List Int) (w : World) (hr : RdY w w.heap.size A zs) (hw : WfY zs) (hl : zs.length ≤ 1048576) (hc : zs.length ≤ c) :
    Calls Tryz.prog 11 #[.slice A zs.length c] w (fun e w' => e = .returned (.pointer (some ⟨w.heap.size, 0, none⟩)) ∧ Rdr w' w.heap.size 0 ∧ Below w.heap.size w w' ∧ w'.heap.size = w.heap.size + 1) := by
  by_cases hlt : zs.length ≤ 2000
  · have hi1 : (zs.length : Int) ≤ 2000 := by omega
    go_enter Tryz.func11, Tryz.ntmps11
    go_wp2
    go_ret
    exact ⟨rfl, ⟨A, c, zs, 0, Blk.newAt rfl, hr.below ((Below.refl _ _).alloc (Nat.le_refl _) _) (Nat.le_refl _), hw, hlt, Nat.le_refl _⟩, (Below.refl _ _).alloc (Nat.le_refl _) _, by simp⟩
  · have hi1 : 2000 < (zs.length : Int) := by omega
    have hi2 : (2000 : Int) ≤ (c : Int) := by omega
    obtain ⟨b, off, rfl, hbB, _⟩ := hr.at_ (k := 0) (by omega)
    have hlen : (zs.take 2000).length = 2000 := by simp; omega
    have hr2 : RdY w w.heap.size (some ⟨b, off, none⟩) (zs.take 2000) := by
      refine ⟨by simp [yv], fun _ => ?_⟩
      obtain ⟨b2, o2, e2, hb2, hc2⟩ := hr.2 (by omega)
      injection e2 with e2; injection e2 with e3 e4; subst e3; subst e4
      refine ⟨b, off, rfl, hb2, fun j u hu => hc2 j u ?_⟩
      have hj : j < 2000 := by
        rcases Nat.lt_or_ge j 2000 with h | h
        · exact h
        · rw [List.getElem?_eq_none (by simpa [yv] using by omega)] at hu; cases hu
      rw [← hu]; simp [yv, hj]
    have hw2 : WfY (zs.take 2000) := fun z hz => hw z (List.mem_of_mem_take hz)
    have HR := Lib.hid hr2; have HW := Lib.hid hw2; have HN := Lib.hid hlen; clear hr2 hw2 hr hw hlen
    go_enter Tryz.func11, Tryz.ntmps11
    go_wp2
    go_ret
    have hq : Blk (w.alloc (.cells #[.slice (some ⟨b, off, none⟩) (zs.take 2000).length c, .int .i64 0] 64)) w.heap.size 64 #[.slice (some ⟨b, off, none⟩) (zs.take 2000).length c, .int .i64 ((0 : Nat) : Int)] := Blk.newAt rfl
    rw [HN.out] at hq
    exact ⟨rfl, ⟨some ⟨b, off, none⟩, c, zs.take 2000, 0, by rw [HN.out]; exact hq, HR.out.below ((Below.refl _ _).alloc (Nat.le_refl _) _) (Nat.le_refl _), HW.out, Nat.le_of_eq HN.out, Nat.le_refl _⟩, (Below.refl _ _).alloc (Nat.le_refl _) _, by simp⟩
theorem ofInt_i64 (a : Nat) (ha : a < 9223372036854775808) : (BitVec.ofInt 64 (a : Int)).toNat = a := by
  rw [BitVec.ofInt_natCast, BitVec.toNat_ofNat]; exact Nat.mod_eq_of_lt (by omega)
theorem i64_xor_nat (a b : Nat) (ha : a < 9223372036854775808) (hb : b < 9223372036854775808) : bits .xor .i64 (a : Int) (b : Int) = ((a ^^^ b : Nat) : Int) := by
  have hx : a ^^^ b < 2 ^ 63 := Nat.xor_lt_two_pow (by omega) (by omega)
  show IntKind.i64.wrap ((BitVec.ofInt 64 (a : Int) ^^^ BitVec.ofInt 64 (b : Int)).toNat : Int) = _
  rw [BitVec.toNat_xor, ofInt_i64 a ha, ofInt_i64 b hb, IntKind.wrap_i64]
  omega
set_option maxHeartbeats 1000000 in
theorem l20_pick (g q : Nat) (n : Int) (w : World) (hr : Rdr w g q) (hq : q ≤ 1000000) (hn : 0 ≤ n ∧ n ≤ 1000000) :
    Calls Tryz.prog 13 #[.pointer (some ⟨g, 0, none⟩), .int .i64 n] w (RetPick w g (q + 1) n) := by
  obtain ⟨A, c, zs, p, hb, hy, hwf, hl, hp⟩ := hr
  have c0 : w.cell? ⟨g, 0, none⟩ = some (.slice A zs.length c) := hb.cell 0
  have c1 : w.cell? ⟨g, 1, none⟩ = some (.int .i64 (p : Int)) := hb.cell 1
  have f1 := hb.frozen 1
  have hon : w.grownBy (w.setCell ⟨g, 1, none⟩ (.int .i64 ((p : Int) + 1))) (some g) := only_setCell (only_refl _ _) (.inl rfl) _
  have hb1 : Blk (w.setCell ⟨g, 1, none⟩ (.int .i64 ((p : Int) + 1))) g 64 #[.slice A zs.length c, .int .i64 ((p : Int) + 1)] := hb.set_ 1 _
  have hy1 : RdY (w.setCell ⟨g, 1, none⟩ (.int .i64 ((p : Int) + 1))) g A zs := Rd.grown hy hon (Nat.le_of_lt hb.lt) fun k' e => by injection e with e; omega
  have hrd : Rdr (w.setCell ⟨g, 1, none⟩ (.int .i64 ((p : Int) + 1))) g (q + 1) := ⟨A, c, zs, p + 1, by simpa using hb1, hy1, hwf, hl, by omega⟩
  have HRD := Lib.hid hrd; have HON := Lib.hid hon; have HB1 := Lib.hid hb1; have HY1 := Lib.hid hy1
  clear hrd hon hb1 hy1 hb hy
  by_cases h0 : n < 1
  · go_enter Tryz.func13, Tryz.ntmps13
    go_wp2
    go_ret
    exact ⟨0, rfl, Int.le_refl _, .inr rfl, HRD.out, HON.out⟩
  by_cases h1 : zs.length = 0
  · have h1' : ((zs.length : Int) == 0) = true := by simp [h1]
    have h0' : 1 ≤ n := by omega
    go_enter Tryz.func13, Tryz.ntmps13
    go_wp2
    go_ret
    exact ⟨0, rfl, Int.le_refl _, .inr rfl, HRD.out, HON.out⟩
  have h1' : ((zs.length : Int) == 0) = false := by simpa using h1
  have h0' : 1 ≤ n := by omega
  by_cases h2 : p < zs.length
  · have h2' : (p : Int) < (zs.length : Int) := by omega
    obtain ⟨b, off, rfl, hbB, hc⟩ := HY1.out.at_ h2
    have hby := gi_byte hwf h2
    have hne : n ≠ 0 := by omega
    have htm : (gi zs p).tmod n = gi zs p % n := Int.tmod_eq_emod_of_nonneg hby.1
    have c0' : (w.setCell ⟨g, 1, none⟩ (.int .i64 ((p : Int) + 1))).cell? ⟨g, 0, none⟩ = some (.slice (some ⟨b, off, none⟩) zs.length c) := HB1.out.cell 0
    have c1' : (w.setCell ⟨g, 1, none⟩ (.int .i64 ((p : Int) + 1))).cell? ⟨g, 1, none⟩ = some (.int .i64 ((p : Int) + 1)) := HB1.out.cell 1
    go_enter Tryz.func13, Tryz.ntmps13
    go_wp2
    go_ret
    exact ⟨gi zs p % n, rfl, Int.emod_nonneg _ hne, .inl (Int.emod_lt_of_pos _ (by omega)), HRD.out, HON.out⟩
  · have h2' : (zs.length : Int) ≤ (p : Int) := by omega
    have hk1 : p % zs.length < zs.length := Nat.mod_lt _ (by omega)
    have hk2 : (p * 7 + 3) % zs.length < zs.length := Nat.mod_lt _ (by omega)
    have hm1 : ((p : Int)).tmod (zs.length : Int) = ((p % zs.length : Nat) : Int) := by rw [Int.tmod_eq_emod_of_nonneg (by omega)]; rfl
    have hm2 : ((p : Int) * 7 + 3).tmod (zs.length : Int) = (((p * 7 + 3) % zs.length : Nat) : Int) := by rw [Int.tmod_eq_emod_of_nonneg (by omega)]; rfl
    generalize p % zs.length = k1 at *
    generalize (p * 7 + 3) % zs.length = k2 at *
    obtain ⟨b, off, rfl, hbB, hc⟩ := HY1.out.at_ hk1
    obtain ⟨b', off', e', hbB', hc'⟩ := HY1.out.at_ hk2
    injection e' with e'; injection e' with e1 e2; subst e1; subst e2
    have hby1 := gi_byte hwf hk1
    have hby2 := gi_byte hwf hk2
    generalize hx1 : gi zs k1 = x1 at *
    generalize hx2 : gi zs k2 = x2 at *
    have hdl : p / zs.length ≤ p := Nat.div_le_self _ _
    have hne : n ≠ 0 := by omega
    have hz0 : (zs.length : Int) ≠ 0 := by omega
    have c0' : (w.setCell ⟨g, 1, none⟩ (.int .i64 ((p : Int) + 1))).cell? ⟨g, 0, none⟩ = some (.slice (some ⟨b, off, none⟩) zs.length c) := HB1.out.cell 0
    have c1' : (w.setCell ⟨g, 1, none⟩ (.int .i64 ((p : Int) + 1))).cell? ⟨g, 1, none⟩ = some (.int .i64 ((p : Int) + 1)) := HB1.out.cell 1
    go_enter Tryz.func13, Tryz.ntmps13
    go_wp2
    have w1 : IntKind.i64.wrap ((p : Int) * 7) = (p : Int) * 7 := IntWalk.i64_in _ (by omega)
    have w2 : IntKind.i64.wrap ((p : Int) * 7 + 3) = (p : Int) * 7 + 3 := IntWalk.i64_in _ (by omega)
    have m1a : 0 ≤ (k1 : Int) := by omega
    have m1b : (k1 : Int) < (zs.length : Int) := by omega
    have m2a : 0 ≤ (k2 : Int) := by omega
    have m2b : (k2 : Int) < (zs.length : Int) := by omega
    have w3 : IntKind.i64.wrap (x1 * 131) = x1 * 131 := IntWalk.i64_in _ (by omega)
    have w4 : IntKind.i64.wrap (x2 * 1117) = x2 * 1117 := IntWalk.i64_in _ (by omega)
    have w5 : IntKind.i64.wrap (x1 * 131 + x2 * 1117) = x1 * 131 + x2 * 1117 := IntWalk.i64_in _ (by omega)
    have w6 : IntKind.i64.wrap ((p : Int) * 29) = (p : Int) * 29 := IntWalk.i64_in _ (by omega)
    have w7 : IntKind.i64.wrap (x1 * 131 + x2 * 1117 + (p : Int) * 29) = x1 * 131 + x2 * 1117 + (p : Int) * 29 := IntWalk.i64_in _ (by omega)
    generalize hdv : p / zs.length = dv at *
    have q1 : IntKind.i64.wrap (((p : Int)).tdiv (zs.length : Int)) = (dv : Int) := by
      rw [Int.tdiv_eq_ediv_of_nonneg (by omega), show (p : Int) / (zs.length : Int) = ((p / zs.length : Nat) : Int) from rfl, hdv]; exact IntWalk.i64_in _ (by omega)
    have w8 : IntKind.i64.wrap ((dv : Int) * 53) = (dv : Int) * 53 := IntWalk.i64_in _ (by omega)
    have w9 : IntKind.i64.wrap (x1 * 131 + x2 * 1117 + (p : Int) * 29 + (dv : Int) * 53) = x1 * 131 + x2 * 1117 + (p : Int) * 29 + (dv : Int) * 53 := IntWalk.i64_in _ (by omega)
    generalize (w.setCell ⟨g, 1, none⟩ (.int .i64 ((p : Int) + 1))) = wp at *
    go_region_held3 (fun w' => w'.cell? ⟨g, 0, none⟩ = some (.slice (some ⟨b, off, none⟩) zs.length c) ∧ w'.cell? ⟨b, off + k1, none⟩ = some (.int .u8 x1) ∧ w'.cell? ⟨b, off + k2, none⟩ = some (.int .u8 x2)) (first | exact ⟨c0', hc, hc'⟩) (first | fail)
    obtain ⟨X, hX, hXb⟩ : ∃ X : Nat, IntKind.i64.wrap (IntKind.i64.wrap (IntKind.i64.wrap (IntKind.i64.wrap (IntKind.i64.wrap x1 * 131) + IntKind.i64.wrap (IntKind.i64.wrap x2 * 1117)) + (p : Int) * 29) + IntKind.i64.wrap (IntKind.i64.wrap ((p : Int) / (zs.length : Int)) * 53)) = (X : Int) ∧ X ≤ 1000000000 := by
      have v1 : IntKind.i64.wrap x1 = x1 := IntWalk.i64_in _ (by omega)
      have v2 : IntKind.i64.wrap x2 = x2 := IntWalk.i64_in _ (by omega)
      have v3 : IntKind.i64.wrap ((p : Int) / (zs.length : Int)) = (dv : Int) := by
        rw [show (p : Int) / (zs.length : Int) = ((p / zs.length : Nat) : Int) from rfl, hdv]; exact IntWalk.i64_in _ (by omega)
      rw [v1, v2, v3, w3, w4, w8, w5, w7, w9]
      exact ⟨(x1 * 131 + x2 * 1117 + (p : Int) * 29 + (dv : Int) * 53).toNat, by omega, by omega⟩
    rw [hX]
    clear w1 w2 w3 w4 w5 w6 w7 w8 w9 q1 hX hm1 hm2 hdv hc hc' c0' c1'
    have hxor : bits .xor .i64 (X : Int) ((X : Int) / 64) = ((X ^^^ (X / 64) : Nat) : Int) := i64_xor_nat X (X / 64) (by omega) (by omega)
    have hNb : X ^^^ (X / 64) < 2 ^ 40 := Nat.xor_lt_two_pow (by omega) (by omega)
    generalize X ^^^ (X / 64) = N at *
    have htm : (N : Int).tmod n = (N : Int) % n := Int.tmod_eq_emod_of_nonneg (by omega)
    go_wp2
    go_ret
    exact ⟨(N : Int) % n, rfl, Int.emod_nonneg _ hne, .inl (Int.emod_lt_of_pos _ (by omega)), HRD.out, only_drew HON.out⟩
end Go.Proofs.YtmodpleonhniaaaGreatDoor

/- Contracts of the helpers of the exact laws on slices of ints: toIntS copies, eqIntS compares, markIntS writes, heldIntS looks. Conditions: lengths at most 2^20 where memory is made. -/
namespace Go.Proofs.YtmodpleonhniaaaGreatDoor
set_option linter.unusedVariables false
open Go.RowKit

theorem infoInt : (Tryz.prog.info? 3).map (fun i => (i.zero, i.size, i.bytes)) = some (some (Value.int .i64 0), 1, 8) := by kernel_rfl

/-- the array after k stores -/
def mkI (zs : List Int) (k : Nat) : Array Value := (iv (zs.take k) ++ List.replicate (zs.length - k) (Value.int .i64 0)).toArray
theorem mkI_size (zs : List Int) (k : Nat) (h : k ≤ zs.length) : (mkI zs k).size = zs.length := by simp [mkI, iv]; omega
theorem mkI_at (zs : List Int) (k : Nat) (h : k < zs.length) : (mkI zs k)[k]? = some (.int .i64 0) := by
  have hl : (iv (zs.take k)).length = k := by simp [iv]; omega
  simp only [mkI, List.getElem?_toArray]
  rw [List.getElem?_append_right (by omega), hl, Nat.sub_self, List.getElem?_replicate, if_pos (by omega)]
theorem mkI_set (zs : List Int) (k : Nat) (h : k < zs.length) : (mkI zs k).setIfInBounds k (.int .i64 (gi zs k)) = mkI zs (k + 1) := by
  have e : zs.length - k = (zs.length - (k + 1)) + 1 := by omega
  simp only [mkI, List.setIfInBounds_toArray]
  congr 1
  rw [List.set_append]
  have hl : (iv (zs.take k)).length = k := by simp [iv]; omega
  rw [if_neg (by omega), hl, Nat.sub_self, e, List.replicate_succ, List.set_cons_zero, take_succ_gi h, iv_append]
  simp [iv]
theorem mkI_all (zs : List Int) : mkI zs zs.length = (iv zs).toArray := by simp [mkI]
theorem mkI_none (zs : List Int) : madeCells (Value.cells (.int .i64 0)) (zs.length * 1) = mkI zs 0 := by
  rw [Nat.mul_one]
  exact (madeOne _ _).trans (by simp [mkI, iv])


def sameI (xs ys : List Int) : Bool := decide (xs = ys)
theorem sameI_refl (a : List Int) : sameI a a = true := by simp [sameI]
theorem take_ne {xs ys : List Int} {k : Nat} (h : k < xs.length) (h' : k < ys.length) (hne : gi xs k ≠ gi ys k) : sameI xs ys = false := by
  simp only [sameI, decide_eq_false_iff_not]
  rintro rfl
  exact hne rfl

/-- k, k + 1, .. -/
def upI (k : Int) (n : Nat) : List Int := (List.range n).map (fun (j : Nat) => k + (j : Int))
theorem upI_length (k : Int) (n : Nat) : (upI k n).length = n := by simp [upI]
theorem upI_succ (k : Int) (n : Nat) : upI k (n + 1) = upI k n ++ [k + n] := by simp [upI, List.range_succ]
theorem upI_at (k : Int) (n j : Nat) (h : j < n) : gi (upI k n) j = k + j := by simp [gi, upI, h]
def setUp (cur : Array Value) (k : Int) (j : Nat) : Array Value := (iv (upI k j) ++ cur.toList.drop j).toArray
theorem setUp_zero (cur : Array Value) (k : Int) : setUp cur k 0 = cur := by simp [setUp, upI, iv]
theorem setUp_size (cur : Array Value) (k : Int) (j : Nat) (h : j ≤ cur.size) : (setUp cur k j).size = cur.size := by simp [setUp, iv, upI]; omega
theorem setUp_at (cur : Array Value) (k : Int) (j : Nat) (h : j < cur.size) : ∃ u, (setUp cur k j)[j]? = some u := ⟨_, Array.getElem?_eq_getElem (by rw [setUp_size _ _ _ (by omega)]; exact h)⟩
theorem setUp_set (cur : Array Value) (k : Int) (j : Nat) (h : j < cur.size) : (setUp cur k j).setIfInBounds j (.int .i64 (k + j)) = setUp cur k (j + 1) := by
  simp only [setUp, List.setIfInBounds_toArray]
  congr 1
  rw [set_app_drop _ _ _ _ (by simp [iv, upI]) (by simpa using h), upI_succ, iv_append]
  rfl
end Go.Proofs.YtmodpleonhniaaaGreatDoor

/- Contracts of odd and of the draws of numbers, shapes and samples. No condition but bounds on the numbers asked for. -/
namespace Go.Proofs.YtmodpleonhniaaaGreatDoor
set_option linter.unusedVariables false
open Go.RowKit

def RetOdd (w : World) (g q : Nat) (e : Ending) (w' : World) : Prop := ∃ v : Bool, e = .returned (.bool v) ∧ Rdr w' g q ∧ w.grownBy w' (some g)
/-- a number below n is drawn -/
def RetPk (w : World) (g q : Nat) (n : Int) (e : Ending) (w' : World) : Prop :=
  ∃ k : Nat, e = .returned (.int .i64 (k : Int)) ∧ (k : Int) < n ∧ Rdr w' g q ∧ w.grownBy w' (some g)
theorem only_below {a w w' : World} {row : Option Nat} (h : a.grownBy w row) (hb : Below a.heap.size w w') : a.grownBy w' row :=
  ⟨hb.os.trans h.os, hb.tape.trans h.tape, hb.output.trans h.output, Nat.le_trans h.size (by
    have := hb.size
    rcases Nat.lt_or_ge w'.heap.size w.heap.size with hlt | hge
    · have := h.size; omega
    · exact hge), fun i hi hne => (hb.block i hi).trans (h.block i hi hne)⟩
theorem Row.only {w w' : World} {lo hi E size c n g : Nat} {A : Option Addr} {xs : List Value} (h : Row w lo hi E size A c n xs) (hg : w.grownBy w' (some g)) (hd : g < lo ∨ hi ≤ g) : Row w' lo hi E size A c n xs := by
  refine ⟨h.1.kept hg ?_, h.2⟩
  cases hv : (Value.slice A n c).ownBlock with
  | none => exact .inl rfl
  | some k =>
    refine .inr fun e => ?_
    injection e with e
    have h1 := h.2 k hv
    have h2 := (h.1.lt k hv).1
    omega
theorem Rdr.lt {w : World} {g q : Nat} (h : Rdr w g q) : g < w.heap.size := by
  obtain ⟨A, c, zs, p, hb, _⟩ := h; exact hb.lt
theorem only_self {a b c : World} {g : Nat} (h : a.grownBy b (some g)) (k : b.grownBy c (some g)) : a.grownBy c (some g) := only_trans h k
/-- a literal of numbers, each within lo .. hi, at place k -/
def LitIn (lo hi : Int) (cs : Array Value) : Prop := ∀ k : Nat, k < cs.size → ∃ x : Int, cs[k]? = some (.int .i64 x) ∧ lo ≤ x ∧ x ≤ hi
theorem lit_at {w : World} {g : Nat} {t : TypeId} {cs : Array Value} {lo hi : Int} (h : Blk w g t cs) (hl : LitIn lo hi cs) {k : Nat} (hk : k < cs.size) :
    ∃ x : Int, w.cell? ⟨g, k, none⟩ = some (.int .i64 x) ∧ lo ≤ x ∧ x ≤ hi := by
  obtain ⟨x, hx, h1, h2⟩ := hl k hk
  exact ⟨x, (h.cell k).trans hx, h1, h2⟩
theorem Rdr.alloc1 {w : World} {g q : Nat} (h : Rdr w g q) (o : Obj) : Rdr (w.alloc o) g q := h.below ((Below.refl _ _).alloc (Nat.le_refl _) _) h.lt
theorem lit_keep {w w' : World} {g : Nat} {t : TypeId} {cs : Array Value} (hg : (w.alloc (.cells cs t)).grownBy w' (some g)) (hlt : g < w.heap.size) : Blk w' w.heap.size t cs :=
  (Blk.new w t cs).only hg (by omega)
theorem lit_keep2 {w w' : World} {g : Nat} {t : TypeId} {cs : Array Value} {o : Obj} (hg : ((w.alloc (.cells cs t)).alloc o).grownBy w' (some g)) (hlt : g < w.heap.size) : Blk w' w.heap.size t cs :=
  ((Blk.new w t cs).alloc o).only hg (by omega)
theorem Blk.c4 {w : World} {g : Nat} {t : TypeId} {a b c d : Value} (h : Blk w g t #[a, b, c, d]) :
    (w.cell? ⟨g, 0, none⟩ = some a ∧ w.cell? ⟨g, 1, none⟩ = some b ∧ w.cell? ⟨g, 2, none⟩ = some c ∧ w.cell? ⟨g, 3, none⟩ = some d) ∧
    (w.frozen? ⟨g, 0, none⟩ = false ∧ w.frozen? ⟨g, 1, none⟩ = false ∧ w.frozen? ⟨g, 2, none⟩ = false ∧ w.frozen? ⟨g, 3, none⟩ = false) :=
  ⟨⟨h.cell 0, h.cell 1, h.cell 2, h.cell 3⟩, h.frozen 0, h.frozen 1, h.frozen 2, h.frozen 3⟩
theorem Rdr.setFar {w : World} {g q : Nat} (h : Rdr w g q) {p : Addr} (hp : g < p.block) (u : Value) : Rdr (w.setCell p u) g q :=
  h.below ((Below.refl (g + 1) w).setCell (by omega) u) (by omega)
theorem Rdr.drew {w : World} {g q : Nat} (h : Rdr w g q) : Rdr w.drew g q := h
theorem only_cells {w w' : World} {g : Nat} (hg : w.grownBy w' (some g)) : ∀ b o : Nat, ¬ b = g → b < w.heap.size → w'.cell? ⟨b, o, none⟩ = w.cell? ⟨b, o, none⟩ :=
  fun b o hb hl => World.cell?_of_block (hg.block b hl (by simpa using hb))
theorem litIn_nil (lo hi : Int) : LitIn lo hi #[] := fun k hk => by simp at hk
theorem litIn_of {lo hi : Int} {xs : List Int} (h : ∀ x ∈ xs, lo ≤ x ∧ x ≤ hi) : LitIn lo hi (iv xs).toArray := fun k hk => by
  simp [iv] at hk
  exact ⟨xs[k], by simp [iv, hk], h _ (List.getElem_mem hk)⟩
theorem l20_pk (g q : Nat) (n : Int) (w : World) (hr : Rdr w g q) (hq : q ≤ 1000000) (hn : 1 ≤ n ∧ n ≤ 1000000) :
    Calls Tryz.prog 13 #[.pointer (some ⟨g, 0, none⟩), .int .i64 n] w (RetPk w g (q + 1) n) :=
  (l20_pick g q n w hr hq ⟨by omega, hn.2⟩).mono fun _ _ ⟨v, he, h0, h1, hr, hg⟩ => ⟨v.toNat, by rw [he, Int.toNat_of_nonneg h0], by omega, hr, hg⟩
theorem l20_odd (g q : Nat) (n : Int) (w : World) (hr : Rdr w g q) (hq : q ≤ 999999) (hn : 1 ≤ n ∧ n ≤ 1000000) :
    Calls Tryz.prog 33 #[.pointer (some ⟨g, 0, none⟩), .int .i64 n] w (RetOdd w g (q + 1)) := by
  go_enter Tryz.func33, Tryz.ntmps33
  go_wp2_with fail
  refine (l20_pick g q n w hr (by omega) (by omega)).mono ?_
  rintro e w1 ⟨v, rfl, hv0, hv1, hr1, hg1⟩
  go_wp2_with fail
  go_ret
  exact ⟨_, rfl, hr1, hg1⟩
end Go.Proofs.YtmodpleonhniaaaGreatDoor

/- Words on slices of records: a list of records read off a slice, each record of s cells. No program of its own. -/
namespace Go.Proofs.YtmodpleonhniaaaGreatDoor
set_option linter.unusedVariables false
open Go.RowKit

/-- the cells of records -/
def fl {α : Type} (enc : α → List Value) (zs : List α) : List Value := zs.flatMap enc
section
variable {α : Type} {enc : α → List Value} {s : Nat}
theorem fl_length (he : ∀ a, (enc a).length = s) (zs : List α) : (fl enc zs).length = zs.length * s := by
  unfold fl
  induction zs with
  | nil => simp
  | cons a r ih => rw [List.flatMap_cons, List.length_append, ih, he, List.length_cons, Nat.succ_mul]; omega
theorem fl_append (a b : List α) : fl enc (a ++ b) = fl enc a ++ fl enc b := by simp [fl]
theorem fl_one (a : α) : fl enc [a] = enc a := by simp [fl]
theorem fl_at (he : ∀ a, (enc a).length = s) {zs : List α} {k j : Nat} (hk : k < zs.length) (hj : j < s) : (fl enc zs)[k * s + j]? = (enc zs[k])[j]? := by
  have e : zs = zs.take k ++ zs[k] :: zs.drop (k + 1) := by rw [← List.drop_eq_getElem_cons hk, List.take_append_drop]
  have hl : (fl enc (zs.take k)).length = k * s := by rw [fl_length he, List.length_take, Nat.min_eq_left (Nat.le_of_lt hk)]
  conv => lhs; rw [e, fl_append, show zs[k] :: zs.drop (k + 1) = [zs[k]] ++ zs.drop (k + 1) from rfl, fl_append, fl_one]
  rw [List.getElem?_append_right (by omega), hl, show k * s + j - k * s = j by omega, List.getElem?_append_left (by rw [he]; exact hj)]
/-- slice A reads as the records zs -/
def RdR (enc : α → List Value) (s : Nat) (w : World) (B : Nat) (A : Option Addr) (zs : List α) : Prop := Rd w B s A zs.length (fl enc zs)
theorem RdR.at_ (he : ∀ a, (enc a).length = s) {w : World} {B : Nat} {A : Option Addr} {zs : List α} {k : Nat} (h : RdR enc s w B A zs) (hk : k < zs.length) :
    ∃ b off, A = some ⟨b, off, none⟩ ∧ b < B ∧ ∀ j v, (enc zs[k])[j]? = some v → w.cell? ⟨b, off + (k * s + j), none⟩ = some v := by
  obtain ⟨b, off, e, hb, hc⟩ := h.2 (by omega)
  refine ⟨b, off, e, hb, fun j v hv => ?_⟩
  have hj : j < s := by
    rcases Nat.lt_or_ge j s with h1 | h1
    · exact h1
    · rw [List.getElem?_eq_none (by rw [he]; exact h1)] at hv; cases hv
  exact hc _ _ (by rw [fl_at he hk hj]; exact hv)
theorem RdR.below {w w' : World} {B C : Nat} {A : Option Addr} {zs : List α} (h : RdR enc s w B A zs) (hb : Below C w w') (hB : B ≤ C) : RdR enc s w' B A zs := Rd.below h hb hB
theorem RdR.more {w : World} {B C : Nat} {A : Option Addr} {zs : List α} (h : RdR enc s w B A zs) (hB : B ≤ C) : RdR enc s w C A zs := Rd.more h hB
theorem RdR.drew {w : World} {B : Nat} {A : Option Addr} {zs : List α} (h : RdR enc s w B A zs) : RdR enc s w.drew B A zs := h
theorem RdR.drewN {w : World} {B : Nat} {A : Option Addr} {zs : List α} (h : RdR enc s w B A zs) (k : Nat) : RdR enc s (w.drewN k) B A zs := h
theorem RdR.al {w : World} {B : Nat} {A : Option Addr} {zs : List α} (h : RdR enc s w B A zs) (hB : B ≤ w.heap.size) (o : Obj) : RdR enc s (w.alloc o) B A zs := Rd.alloc h hB o
theorem RdR.far {w w' : World} {B lo' hi' E' size' c' n' : Nat} {A A' : Option Addr} {xs' : List Value} {zs : List α} (h : RdR enc s w B A zs) (h' : Row w lo' hi' E' size' A' c' n' xs')
    (hg : w.grownBy w' (Value.slice A' n' c').ownBlock) (hw : B ≤ w.heap.size) (hd : B ≤ lo') : RdR enc s w' B A zs := Rd.far h h' hg hw hd
theorem RdR.of_own {w : World} {base c : Nat} {e : TypeId} {A : Option Addr} {zs : List α} (h : w.ownsRow base e s (.slice A zs.length c) zs.length (fl enc zs)) : RdR enc s w w.heap.size A zs := Rd.of_own h
theorem Row.rdR {w : World} {lo hi E c : Nat} {A : Option Addr} {zs : List α} (h : Row w lo hi E s A c zs.length (fl enc zs)) : RdR enc s w hi A zs := h.rd
theorem RdR.none0 {w : World} {B : Nat} {A : Option Addr} {zs : List α} (h : zs = []) : RdR enc s w B A zs := by
  subst h; exact ⟨by simp [fl], fun hn => by simp at hn⟩

/-- consecutive stores -/
def setR (cs : Array Value) : Nat → List Value → Array Value
  | _, [] => cs
  | p, v :: r => setR (cs.setIfInBounds p v) (p + 1) r
theorem setR_size (vs : List Value) : ∀ (cs : Array Value) (p : Nat), (setR cs p vs).size = cs.size := by
  induction vs with
  | nil => intro cs p; rfl
  | cons v r ih => intro cs p; rw [setR, ih]; simp
theorem setR_mid : ∀ (vs pre old post : List Value) (p : Nat), p = pre.length → old.length = vs.length → setR (pre ++ old ++ post).toArray p vs = (pre ++ vs ++ post).toArray := by
  intro vs
  induction vs with
  | nil => intro pre old post p hp ho; obtain rfl : old = [] := List.eq_nil_of_length_eq_zero ho; rfl
  | cons v r ih =>
    intro pre old post p hp ho
    match old, ho with
    | x :: t, ho =>
      subst hp
      rw [setR]
      have e : (pre ++ x :: t ++ post).toArray.setIfInBounds pre.length v = (pre ++ [v] ++ t ++ post).toArray := by
        rw [List.setIfInBounds_toArray, List.append_assoc, List.set_append, if_neg (Nat.lt_irrefl _), Nat.sub_self]; simp
      rw [e, show pre ++ [v] ++ t ++ post = (pre ++ [v]) ++ t ++ post from rfl, ih (pre ++ [v]) t post _ (by simp) (by simpa using ho)]
      congr 1; simp
/-- the array after k stores: the first k records, then zeros -/
def mkR (enc : α → List Value) (z0 : List Value) (zs : List α) (k : Nat) : Array Value := (fl enc (zs.take k) ++ (List.replicate (zs.length - k) z0).flatten).toArray
theorem rep_len (z0 : List Value) (n : Nat) : (List.replicate n z0).flatten.length = n * z0.length := by
  induction n with
  | zero => simp
  | succ n ih => rw [List.replicate_succ, List.flatten_cons, List.length_append, ih, Nat.succ_mul]; omega
theorem mkR_size (he : ∀ a, (enc a).length = s) {z0 : List Value} (hz : z0.length = s) (zs : List α) (k : Nat) (h : k ≤ zs.length) : (mkR enc z0 zs k).size = zs.length * s := by
  simp only [mkR, List.size_toArray, List.length_append]
  rw [fl_length he, rep_len, hz, List.length_take, Nat.min_eq_left h, ← Nat.add_mul, Nat.add_sub_cancel' h]
theorem mkR_at (he : ∀ a, (enc a).length = s) {z0 : List Value} (hz : z0.length = s) (zs : List α) (k j : Nat) (h : k < zs.length) (hj : j < s) : (mkR enc z0 zs k)[k * s + j]? = z0[j]? := by
  have hl : (fl enc (zs.take k)).length = k * s := by rw [fl_length he, List.length_take, Nat.min_eq_left (Nat.le_of_lt h)]
  simp only [mkR, List.getElem?_toArray]
  rw [List.getElem?_append_right (by omega), hl, show k * s + j - k * s = j by omega, show zs.length - k = (zs.length - k - 1) + 1 by omega, List.replicate_succ, List.flatten_cons, List.getElem?_append_left (by omega)]
theorem mkR_set (he : ∀ a, (enc a).length = s) {z0 : List Value} (hz : z0.length = s) (zs : List α) (k : Nat) (h : k < zs.length) : setR (mkR enc z0 zs k) (k * s) (enc zs[k]) = mkR enc z0 zs (k + 1) := by
  have hl : (fl enc (zs.take k)).length = k * s := by rw [fl_length he, List.length_take, Nat.min_eq_left (Nat.le_of_lt h)]
  unfold mkR
  rw [show zs.length - k = (zs.length - (k + 1)) + 1 by omega, List.replicate_succ, List.flatten_cons, ← List.append_assoc, setR_mid _ _ _ _ _ hl.symm (by rw [hz, he])]
  congr 1
  rw [List.take_succ_eq_append_getElem h, fl_append, fl_one]
theorem mkR_all (z0 : List Value) (zs : List α) : mkR enc z0 zs zs.length = (fl enc zs).toArray := by simp [mkR]
theorem mkR_none (z0 : Array Value) (zs : List α) (hz : z0.size = s) (hs : 0 < s) : madeCells z0 (zs.length * s) = mkR enc z0.toList zs 0 := by
  apply Array.ext
  · simp [size_madeCells, mkR, fl, hz]
  · intro i h1 h2
    have hi : i < zs.length * s := by simpa [size_madeCells] using h1
    have hq : i / s < zs.length := Nat.div_lt_of_lt_mul (by rw [Nat.mul_comm]; exact hi)
    have hr : i % s < s := Nat.mod_lt _ hs
    have e : i = i / s * s + i % s := by rw [Nat.mul_comm]; exact (Nat.div_add_mod i s).symm
    have h3 : (mkR enc z0.toList zs 0)[i]? = z0[i % s]? := by
      simp only [mkR, List.getElem?_toArray, List.take_zero, Nat.sub_zero]
      have rep : ∀ (n q : Nat), q < n → ((List.replicate n z0.toList).flatten)[q * s + i % s]? = z0.toList[i % s]? := by
        intro n
        induction n with
        | zero => intro q h; omega
        | succ n ih =>
          intro q hq
          rw [List.replicate_succ, List.flatten_cons]
          cases q with
          | zero => rw [Nat.zero_mul, Nat.zero_add, List.getElem?_append_left (by simpa [hz] using hr)]
          | succ q =>
            have h1 : (q + 1) * s + i % s - s = q * s + i % s := by rw [Nat.succ_mul]; omega
            rw [List.getElem?_append_right (by rw [Array.length_toList, hz, Nat.succ_mul]; omega), Array.length_toList, hz, h1]
            exact ih q (by omega)
      have h4 := rep zs.length (i / s) hq
      rw [← e] at h4
      simpa [fl] using h4
    have h5 : (madeCells z0 (zs.length * s))[i]? = z0[i % s]? := by
      simp only [madeCells]
      rw [Array.getElem?_eq_getElem (by simpa [size_madeCells, madeCells] using h1)]
      simp [hz, hr]
    rw [Array.getElem?_eq_getElem h1] at h5
    rw [Array.getElem?_eq_getElem h2] at h3
    exact Option.some.inj (h5.trans h3.symm)
end
end Go.Proofs.YtmodpleonhniaaaGreatDoor

/- Laws on slices for the laws over draws: append of a whole slice onto an empty row, parts of slices. No condition but sizes. -/
namespace Go.Proofs.YtmodpleonhniaaaGreatDoor
set_option linter.unusedVariables false
open Go.RowKit
theorem RdI.part {w : World} {B b off : Nat} {zs : List Int} (h : RdI w B (some ⟨b, off, none⟩) zs) (k : Nat) : RdI w B (some ⟨b, off + k, none⟩) (zs.drop k) := by
  refine ⟨by simp [iv], fun hn => ?_⟩
  obtain ⟨b', o', e, hb, hc⟩ := h.2 (by simp at hn; omega)
  injection e with e; injection e with e1 e2; subst e1; subst e2
  refine ⟨b, off + k, rfl, hb, fun j u hu => ?_⟩
  have := hc (k + j) u (by rw [← hu]; simp [iv, List.getElem?_drop])
  rwa [← Nat.add_assoc] at this
theorem RdI.first {w : World} {B : Nat} {A : Option Addr} {zs : List Int} (h : RdI w B A zs) (k : Nat) : RdI w B A (zs.take k) := by
  refine ⟨by simp [iv], fun hn => ?_⟩
  obtain ⟨b', o', e, hb, hc⟩ := h.2 (by simp at hn; omega)
  refine ⟨b', o', e, hb, fun j u hu => hc j u ?_⟩
  have hj : j < k := by
    rcases Nat.lt_or_ge j k with h | h
    · exact h
    · rw [List.getElem?_eq_none (by simp [iv]; omega)] at hu; cases hu
  rw [← hu]; simp [iv, hj]
theorem own_cap {w : World} {base e size n c : Nat} {A : Option Addr} {xs : List Value} (h : w.ownsRow base e size (.slice A n c) n xs) : n ≤ c := by
  rcases h.2 with ⟨hv, rfl⟩ | ⟨g, cap, cur, hv, hb, hg, hnc, _⟩
  · exact Nat.zero_le _
  · injection hv with _ _ e; omega
theorem own_shape {w : World} {base e size n : Nat} {v : Value} {xs : List Value} (h : w.ownsRow base e size v n xs) : ∃ A c, v = .slice A n c := by
  rcases h.2 with ⟨hv, rfl⟩ | ⟨g, cap, cur, hv, _⟩
  · exact ⟨_, _, hv⟩
  · exact ⟨_, _, hv⟩
theorem wpList_wanted {P : Program} {ops : Array Oper} {Q : Exit → Act → World → Prop} {a : Act} {w : World} {rest : List Oper} {o : Oper} (hw : Region.wanted o (yielded ops a.tmps) = true)
    (h : ∀ K : Act → World → Prop, (∀ a w, wpList P ops Q rest a w → K a w) → o.wp P a w K Q) : wpList P ops Q (o :: rest) a w :=
  wpList_step fun K hK => by rw [if_pos hw]; exact h K hK
/-- append of m elements, read from anywhere, onto a row of the call's own -/
theorem append_any {P : Program} {ops : Array Oper} {rest : List Oper} {o : Oper} {a : Act} {Q : Exit → Act → World → Prop} (hw : Region.wanted o (yielded ops a.tmps) = true) (s x : Operand) (t : TypeId)
    (ho : o.op = .call { callee := .builtin .append, args := #[s, x], argTypes := #[t, t] })
    (e : TypeId) (i : TypeInfo) (z : Value) (size bytes : Nat) (ht : P.underlying t = some (.slice e)) (hi : P.info? e = some i) (hz : i.zero = some z)
    (hsize : i.size = size) (hby : i.bytes = bytes) (hzs : z.cells.size = size) (hsz : 0 < size) (hb64 : bytes ≤ 64)
    (base : Nat) (W : World) (v : Value) (n : Nat) (xs : List Value) (hown : W.ownsRow base e size v n xs) (hbase : base ≤ W.heap.size) (hn : n ≤ 4194304)
    (hs : a.eval s = v) (ad : Addr) (m c : Nat) (hm : m ≤ 4194304) (news : List Value) (hx : a.eval x = .slice (some ad) m c) (hl : news.length = m * size)
    (hnews : ∀ j u, news[j]? = some u → W.cell? (ad.add j) = some u) (hone : ∀ u ∈ news, u.oneCell' = true)
    (h : ∀ A c w', w'.ownsRow base e size (.slice A (n + m) c) (n + m) (xs ++ news) → Below base W w' → W.grownBy w' v.ownBlock →
      wpList P ops Q rest (a.put o.dst (.slice A (n + m) c)) w') : wpList P ops Q (o :: rest) a W := by
  have hmul : (n + m) * bytes ≤ (4194304 + 4194304) * 64 := Nat.mul_le_mul (by omega) hb64
  refine wpList_wanted hw fun K hK => ?_
  refine wp_append_own W s x t ho base e i z size bytes ht hi hz hsize hby hzs hsz v n xs hs hown ad m c news hx hl hnews hone (by unfold maxLen; omega) (by omega) hbase fun v' w' hown' hg _ => hK _ _ ?_
  obtain ⟨A', c', rfl⟩ := own_shape hown'
  exact h A' c' w' hown' ((Below.refl _ _).grown hg hbase fun k hk => (hown.lt k hk).1) hg
theorem RdI.all_ {w : World} {B : Nat} {ad : Addr} {zs : List Int} (h : RdI w B (some ad) zs) : ∀ j u, (iv zs)[j]? = some u → w.cell? (ad.add j) = some u := by
  intro j u hu
  have hj : j < zs.length := by
    rcases Nat.lt_or_ge j zs.length with h1 | h1
    · exact h1
    · rw [List.getElem?_eq_none (by simpa [iv] using h1)] at hu; cases hu
  obtain ⟨b, off, e, hb, hc⟩ := h.2 (by omega)
  injection e with e; subst e
  rw [Go.WideShapes.add_plain]; exact hc j u hu
theorem iv_one_cell (zs : List Int) : ∀ u ∈ iv zs, u.oneCell' = true := by
  intro u hu
  obtain ⟨z, _, rfl⟩ := List.mem_map.1 hu
  rfl
/-- append of one number, laid in a block of its own -/
theorem append_one {P : Program} {ops : Array Oper} {rest : List Oper} {o : Oper} {a : Act} {Q : Exit → Act → World → Prop} (hw : Region.wanted o (yielded ops a.tmps) = true) (s x : Operand) (t : TypeId)
    (ho : o.op = .call { callee := .builtin .append, args := #[s, x], argTypes := #[t, t] })
    (e : TypeId) (i : TypeInfo) (z : Value) (size bytes : Nat) (ht : P.underlying t = some (.slice e)) (hi : P.info? e = some i) (hz : i.zero = some z)
    (hsize : i.size = size) (hby : i.bytes = bytes) (hzs : z.cells.size = size) (hsz : 0 < size) (hb64 : bytes ≤ 64)
    (base : Nat) (W : World) (v : Value) (n : Nat) (xs : List Value) (hown : W.ownsRow base e size v n xs) (hbase : base ≤ W.heap.size) (hn : n ≤ 4194303)
    (hs : a.eval s = v) (us : List Value) (hus : us.length = size) (hone : ∀ u ∈ us, u.oneCell' = true) (hx : a.eval x = .slice (some ⟨W.heap.size, 0, none⟩) 1 1)
    (h : ∀ A c w', w'.ownsRow base e size (.slice A (n + 1) c) (n + 1) (xs ++ us) → Below base W w' → W.heap.size ≤ w'.heap.size →
      wpList P ops Q rest (a.put o.dst (.slice A (n + 1) c)) w') : wpList P ops Q (o :: rest) a (W.alloc (.cells us.toArray e)) := by
  refine append_any hw s x t ho e i z size bytes ht hi hz hsize hby hzs hsz hb64 base (W.alloc (.cells us.toArray e)) v n xs (hown.alloc _) (by simp; omega) (by omega) hs ⟨W.heap.size, 0, none⟩ 1 1 (by omega) us hx (by omega) ?_ hone ?_
  · intro j u hu
    rw [Go.WideShapes.add_plain, Nat.zero_add]
    exact ((Blk.new W e us.toArray).cell j).trans (by simpa using hu)
  · intro A c w' h1 h2 h3
    exact h A c w' h1 (((Below.refl _ _).alloc hbase _).trans h2) (by have := h3.size; simp at this; omega)
theorem own_le_cap {w : World} {base e size n c : Nat} {A : Option Addr} {xs : List Value} (h : w.ownsRow base e size (.slice A n c) n xs) : n ≤ c := by
  rcases h.2 with ⟨hv, rfl⟩ | ⟨g, cap, cur, hv, hb, hg, hnc, _⟩
  · exact Nat.zero_le _
  · injection hv with _ _ e; omega
theorem RdI.none0 {w : World} {B : Nat} {A : Option Addr} {zs : List Int} (h : zs.length = 0) : RdI w B A zs := ⟨by simp [iv], fun hn => by omega⟩
theorem RdI.part0 {w : World} {B b : Nat} {zs : List Int} (h : RdI w B (some ⟨b, 0, none⟩) zs) (k : Nat) : RdI w B (some ⟨b, k, none⟩) (zs.drop k) := by
  have := h.part k; rwa [Nat.zero_add] at this
theorem RdI.of_own2 {w : World} {base c n : Nat} {e : TypeId} {A : Option Addr} {zs : List Int} (h : w.ownsRow base e 1 (.slice A n c) n (iv zs)) (hn : zs.length = n) : RdI w w.heap.size A zs := by subst hn; exact Rd.of_own h
theorem below_cells {w w' : World} (hb : Below w.heap.size w w') : ∀ b o : Nat, b < w.heap.size → w'.cell? ⟨b, o, none⟩ = w.cell? ⟨b, o, none⟩ := fun b o h => hb.cell (p := ⟨b, o, none⟩) h
theorem RdI.al {w : World} {B : Nat} {A : Option Addr} {zs : List Int} (h : RdI w B A zs) (hB : B ≤ w.heap.size) (o : Obj) : RdI (w.alloc o) B A zs := Rd.alloc h hB o
theorem iv_one' (z : Int) : iv [z] = [.int .i64 z] := rfl
end Go.Proofs.YtmodpleonhniaaaGreatDoor

/- Append of one record onto a row of the call's own, with what it leaves alone: in a plain region and in one that draws its order. No condition but sizes. -/
namespace Go.Proofs.YtmodpleonhniaaaGreatDoor
open Go.RowKit
set_option linter.unusedSimpArgs false
set_option linter.unusedVariables false
def obA (A : Option Addr) : Option Nat := A.map (·.block)
theorem ob_slice (A : Option Addr) (n c : Nat) : (Value.slice A n c).ownBlock = obA A := by cases A <;> rfl
/-- what appends have turned: the row's own block and nothing else of old -/
def Grw (w w' : World) (A A2 : Option Addr) : Prop := w.grownBy w' (obA A) ∧ (obA A2 = obA A ∨ ∃ g, obA A2 = some g ∧ w.heap.size ≤ g)
theorem grown_trans2 {a b c : World} {row row2 : Option Nat} (h : a.grownBy b row) (h2 : b.grownBy c row2) (hr : row2 = row ∨ ∃ g, row2 = some g ∧ a.heap.size ≤ g) : a.grownBy c row :=
  ⟨h2.os.trans h.os, h2.tape.trans h.tape, h2.output.trans h.output, Nat.le_trans h.size h2.size, fun k hk hne => (h2.block k (Nat.lt_of_lt_of_le hk h.size) (fun e => by
    rcases hr with e2 | ⟨g, e2, hg⟩
    · exact hne (e.trans e2)
    · rw [e2] at e; injection e with e; omega)).trans (h.block k hk hne)⟩
theorem Grw.refl (w : World) (A : Option Addr) : Grw w w A A := ⟨only_refl w _, .inl rfl⟩
theorem Grw.trans {a b c : World} {A B C : Option Addr} (h : Grw a b A B) (h2 : Grw b c B C) : Grw a c A C := by
  refine ⟨grown_trans2 h.1 h2.1 h.2, ?_⟩
  rcases h2.2 with e | ⟨g, e, hg⟩
  · rw [e]; exact h.2
  · exact .inr ⟨g, e, Nat.le_trans h.1.size hg⟩
theorem Grw.below {w w' : World} {A A2 : Option Addr} {B : Nat} (h : Grw w w' A A2) (hB : B ≤ w.heap.size) (ho : ∀ k, obA A = some k → B ≤ k) : Below B w w' := (Below.refl _ _).grown h.1 hB ho
theorem Grw.blk {w w' : World} {A A2 : Option Addr} {nb : Nat} {t : TypeId} {cs : Array Value} (h : Grw w w' A A2) (hb : Blk w nb t cs) (hne : obA A ≠ some nb) : Blk w' nb t cs := (h.1.block nb hb.lt (fun e => hne e.symm)).trans hb
theorem Grw.ne {w w' : World} {A A2 : Option Addr} {nb : Nat} (h : Grw w w' A A2) (hn : nb < w.heap.size) (hne : obA A ≠ some nb) : obA A2 ≠ some nb := by
  rcases h.2 with e | ⟨g, e, hg⟩
  · rw [e]; exact hne
  · rw [e]; intro e2; injection e2 with e2; omega
theorem app_rec {α : Type} {enc : α → List Value} {s : Nat} {P : Program} {ops : Array Oper} {rest : List Oper} {o : Oper} {a : Act} {Q : Exit → Act → World → Prop} (hgd : o.guard = none) (sl x : Operand) (t : TypeId)
    (ho : o.op = .call { callee := .builtin .append, args := #[sl, x], argTypes := #[t, t] })
    (lo : Nat) (e : TypeId) (i : TypeInfo) (z : Value) (bytes : Nat) (ht : P.underlying t = some (.slice e)) (hi : P.info? e = some i) (hz : i.zero = some z)
    (hsize : i.size = s) (hby : i.bytes = bytes) (hzs : z.cells.size = s) (hsz : 0 < s) (hb64 : bytes ≤ 64)
    (W : World) (A : Option Addr) (c : Nat) (zs : List α) (hown : W.ownsRow lo e s (.slice A zs.length c) zs.length (fl enc zs)) (hlo : lo ≤ W.heap.size) (hn : zs.length ≤ 4194304)
    (hs : a.eval sl = .slice A zs.length c) (y : α) (us : List Value) (hus : us = enc y) (hul : us.length = s) (hone : ∀ u ∈ us, u.oneCell' = true) (gx : Nat) (hgx : gx = W.heap.size) (hx : a.eval x = .slice (some ⟨gx, 0, none⟩) 1 1)
    (h : ∀ g cap w', w'.ownsRow lo e s (.slice (some ⟨g, 0, none⟩) (zs.length + 1) cap) (zs.length + 1) (fl enc (zs ++ [y])) → Grw W w' A (some ⟨g, 0, none⟩) → wpList P ops Q rest (a.put o.dst (.slice (some ⟨g, 0, none⟩) (zs.length + 1) cap)) w') :
    wpList P ops Q (o :: rest) a (W.alloc (.cells us.toArray e)) := by
  subst hgx
  have hmul : (zs.length + 1) * bytes ≤ (4194304 + 1) * 64 := Nat.mul_le_mul (by omega) hb64
  refine wpList_append_lies _ hgd sl x t ho lo e i z s bytes ht hi hz hsize hby hzs hsz _ zs.length (fl enc zs) hs (hown.alloc _) ⟨W.heap.size, 0, none⟩ 1 1 us hx (by omega) ?_ hone (by omega) (by unfold maxLen; omega) (by omega) (by simp; omega) _ rfl ?_
  · intro j u hu
    rw [Go.WideShapes.add_plain, Nat.zero_add]
    exact ((Blk.new W e us.toArray).cell j).trans (by simpa using hu)
  · intro g cap w' ho' hg hat hlt
    subst hus
    refine h g cap w' (by rw [fl_append, fl_one]; exact ho') ⟨?_, ?_⟩
    · have ha := World.grownBy_alloc W (.cells (enc y).toArray e) (obA A)
      rw [ob_slice] at hg
      exact grown_trans2 ha hg (.inl rfl)
    · rw [ob_slice] at hat
      rcases hat with e1 | e1
      · exact .inl e1.symm
      · exact .inr ⟨g, rfl, by rw [e1]; simp⟩
theorem step_app_rec {α : Type} {enc : α → List Value} {s : Nat} {P : Program} {ops : Array Oper} {o : Oper} {a : Act} {K : Act → World → Prop} {Q : Exit → Act → World → Prop} {E : Prop} (hgd : o.guard = none) (sl x : Operand) (t : TypeId)
    (ho : o.op = .call { callee := .builtin .append, args := #[sl, x], argTypes := #[t, t] })
    (lo : Nat) (e : TypeId) (i : TypeInfo) (z : Value) (bytes : Nat) (ht : P.underlying t = some (.slice e)) (hi : P.info? e = some i) (hz : i.zero = some z)
    (hsize : i.size = s) (hby : i.bytes = bytes) (hzs : z.cells.size = s) (hsz : 0 < s) (hb64 : bytes ≤ 64)
    (W : World) (A : Option Addr) (c : Nat) (zs : List α) (hs : a.eval sl = .slice A zs.length c) (hown : W.ownsRow lo e s (.slice A zs.length c) zs.length (fl enc zs)) (hlo : lo ≤ W.heap.size) (hn : zs.length ≤ 4194304)
    (y : α) (us : List Value) (hus : us = enc y) (hul : us.length = s) (hone : ∀ u ∈ us, u.oneCell' = true) (hx : a.eval x = .slice (some ⟨W.heap.size, 0, none⟩) 1 1)
    (h : ∀ g cap w', w'.ownsRow lo e s (.slice (some ⟨g, 0, none⟩) (zs.length + 1) cap) (zs.length + 1) (fl enc (zs ++ [y])) → Grw W w' A (some ⟨g, 0, none⟩) → K (a.put o.dst (.slice (some ⟨g, 0, none⟩) (zs.length + 1) cap)) w') :
    if Region.wanted o (yielded ops a.tmps) = true then Oper.wp P o a (W.alloc (.cells us.toArray e)) K Q else E := by
  have hmul : (zs.length + 1) * bytes ≤ (4194304 + 1) * 64 := Nat.mul_le_mul (by omega) hb64
  refine step_append_lies _ hgd sl x t ho lo e i z s bytes ht hi hz hsize hby hzs hsz _ zs.length (fl enc zs) hs (hown.alloc _) ⟨W.heap.size, 0, none⟩ 1 1 us hx (by omega) ?_ hone (by omega) (by unfold maxLen; omega) (by omega) (by simp; omega) _ rfl ?_
  · intro j u hu
    rw [Go.WideShapes.add_plain, Nat.zero_add]
    exact ((Blk.new W e us.toArray).cell j).trans (by simpa using hu)
  · intro g cap w' ho' hg hat hlt
    subst hus
    refine h g cap w' (by rw [fl_append, fl_one]; exact ho') ⟨?_, ?_⟩
    · have ha := World.grownBy_alloc W (.cells (enc y).toArray e) (obA A)
      rw [ob_slice] at hg
      exact grown_trans2 ha hg (.inl rfl)
    · rw [ob_slice] at hat
      rcases hat with e1 | e1
      · exact .inl e1.symm
      · exact .inr ⟨g, rfl, by rw [e1]; simp⟩
/-- a row is not turned by a store outside its block -/
theorem own_far {w : World} {lo size n c : Nat} {e : TypeId} {A : Option Addr} {xs : List Value} (h : w.ownsRow lo e size (.slice A n c) n xs) {p : Addr} (hp : obA A ≠ some p.block) (u : Value) : (w.setCell p u).ownsRow lo e size (.slice A n c) n xs :=
  h.kept (row := some p.block) (only_setCell (only_refl _ _) (.inl rfl) _) (.inr (by rw [ob_slice]; exact hp))
theorem own_ob {w : World} {lo size n c : Nat} {e : TypeId} {A : Option Addr} {xs : List Value} (h : w.ownsRow lo e size (.slice A n c) n xs) : ∀ k, obA A = some k → lo ≤ k ∧ k < w.heap.size := by
  intro k hk; exact h.lt k (by rw [ob_slice]; exact hk)
theorem Grw.al {a w : World} {A B : Option Addr} (h : Grw a w A B) (o : Obj) : Grw a (w.alloc o) A B := ⟨only_alloc h.1 o, h.2⟩
theorem Grw.drew {a w : World} {A B : Option Addr} (h : Grw a w A B) : Grw a w.drew A B := ⟨⟨h.1.os, h.1.tape, h.1.output, h.1.size, h.1.block⟩, h.2⟩
theorem Grw.bel {a w w' : World} {A B : Option Addr} (h : Grw a w A B) (b : Below w.heap.size w w') : Grw a w' A B := ⟨grown_trans2 h.1 (only_of_below b (obA A)) (.inl rfl), h.2⟩
theorem Grw.own {a w : World} {A B AG : Option Addr} {lo size n c : Nat} {e : TypeId} {xs : List Value} (h : Grw a w A B) (ho : a.ownsRow lo e size (.slice AG n c) n xs) (hd : ∀ g, obA AG = some g → obA A ≠ some g) : w.ownsRow lo e size (.slice AG n c) n xs :=
  ho.kept h.1 (by
    rw [ob_slice]
    cases hh : obA AG with
    | none => exact .inl rfl
    | some g => exact .inr (fun e => hd g hh e.symm))
theorem Grw.apart {a w : World} {A B AG : Option Addr} (h : Grw a w A B) (hlt : ∀ g, obA AG = some g → g < a.heap.size) (hd : ∀ g, obA AG = some g → obA A ≠ some g) : ∀ g, obA AG = some g → obA B ≠ some g :=
  fun g hg => h.ne (hlt g hg) (hd g hg)
theorem own_bel {w w' : World} {lo size n c : Nat} {e : TypeId} {A : Option Addr} {xs : List Value} (h : w.ownsRow lo e size (.slice A n c) n xs) (b : Below w.heap.size w w') : w'.ownsRow lo e size (.slice A n c) n xs :=
  h.kept (row := none) (only_of_below b none) (by rw [ob_slice]; cases obA A <;> simp)
theorem note_one (r d : Bool) (a b c t : Int) : ∀ u ∈ [Value.bool r, .int .i64 a, .int .i64 b, .int .i64 c, .int .i64 t, .bool d], u.oneCell' = true := by simp [Value.oneCell']
end Go.Proofs.YtmodpleonhniaaaGreatDoor

/- Contracts on pitches: copy, compare, valid. No condition. -/
namespace Go.Proofs.YtmodpleonhniaaaGreatDoor
open Go.RowKit
set_option linter.unusedSimpArgs false
set_option linter.unusedVariables false
theorem below_froz {w w' : World} (hb : Below w.heap.size w w') : ∀ b o : Nat, b < w.heap.size → w'.frozen? ⟨b, o, none⟩ = w.frozen? ⟨b, o, none⟩ := fun b o h => hb.frozen (p := ⟨b, o, none⟩) h
def eqP3 (a b c x y z : Int) : Bool := decide (a = x ∧ b = y ∧ c = z)
theorem eqP3_t {a b c x y z : Int} (h : eqP3 a b c x y z = true) : a = x ∧ b = y ∧ c = z := by simpa [eqP3] using h
theorem eqP3_f {a b c x y z : Int} (h : eqP3 a b c x y z = false) : ¬(a = x ∧ b = y ∧ c = z) := by simpa [eqP3] using h
def pvB (a b c : Int) : Bool := inR a 0 6 && inR b (-2) 2 && inR c 0 8
theorem pvB_iff {a b c : Int} : pvB a b c = true ↔ (0 ≤ a ∧ a ≤ 6) ∧ (-2 ≤ b ∧ b ≤ 2) ∧ (0 ≤ c ∧ c ≤ 8) := by simp [pvB, inR, and_assoc]
end Go.Proofs.YtmodpleonhniaaaGreatDoor

/- Contracts of the helpers of the exact laws on slices of Note: copy, compare, write, look. Conditions: lengths at most 2^20 where memory is made. -/
namespace Go.Proofs.YtmodpleonhniaaaGreatDoor
open Go.RowKit
set_option linter.unusedSimpArgs false
set_option linter.unusedVariables false
/-- a record of 6 ints -/
def encNote (z : Bool × Int × Int × Int × Int × Bool) : List Value := [.bool (z.1), .int .i64 (z.2.1), .int .i64 (z.2.2.1), .int .i64 (z.2.2.2.1), .int .i64 (z.2.2.2.2.1), .bool (z.2.2.2.2.2)]
theorem encNote_len (z : Bool × Int × Int × Int × Int × Bool) : (encNote z).length = 6 := rfl
def RdNote (w : World) (B : Nat) (A : Option Addr) (zs : List (Bool × Int × Int × Int × Int × Bool)) : Prop := RdR encNote 6 w B A zs
def glNote (zs : List (Bool × Int × Int × Int × Int × Bool)) (k : Nat) : Bool × Int × Int × Int × Int × Bool := zs.getD k (false, 0, 0, 0, 0, false)
theorem glNote_get {zs : List (Bool × Int × Int × Int × Int × Bool)} {k : Nat} (h : k < zs.length) : zs[k] = glNote zs k := by simp [glNote, h]
theorem RdNote.at_ {w : World} {B : Nat} {A : Option Addr} {zs : List (Bool × Int × Int × Int × Int × Bool)} {k : Nat} (h : RdNote w B A zs) (hk : k < zs.length) :
    ∃ b off, A = some ⟨b, off, none⟩ ∧ b < B ∧ w.cell? ⟨b, off + k * 6, none⟩ = some (.bool ((glNote zs k).1)) ∧ w.cell? ⟨b, off + k * 6 + 1, none⟩ = some (.int .i64 ((glNote zs k).2.1)) ∧ w.cell? ⟨b, off + k * 6 + 2, none⟩ = some (.int .i64 ((glNote zs k).2.2.1)) ∧ w.cell? ⟨b, off + k * 6 + 3, none⟩ = some (.int .i64 ((glNote zs k).2.2.2.1)) ∧ w.cell? ⟨b, off + k * 6 + 4, none⟩ = some (.int .i64 ((glNote zs k).2.2.2.2.1)) ∧ w.cell? ⟨b, off + k * 6 + 5, none⟩ = some (.bool ((glNote zs k).2.2.2.2.2)) := by
  obtain ⟨b, off, e, hb, hc⟩ := RdR.at_ encNote_len h hk
  rw [glNote_get hk] at hc
  exact ⟨b, off, e, hb, hc 0 _ rfl, hc 1 _ rfl, hc 2 _ rfl, hc 3 _ rfl, hc 4 _ rfl, hc 5 _ rfl⟩
theorem RdNote.below {w w' : World} {B C : Nat} {A : Option Addr} {zs : List (Bool × Int × Int × Int × Int × Bool)} (h : RdNote w B A zs) (hb : Below C w w') (hB : B ≤ C) : RdNote w' B A zs := RdR.below h hb hB
theorem RdNote.more {w : World} {B C : Nat} {A : Option Addr} {zs : List (Bool × Int × Int × Int × Int × Bool)} (h : RdNote w B A zs) (hB : B ≤ C) : RdNote w C A zs := RdR.more h hB
theorem RdNote.drewN {w : World} {B : Nat} {A : Option Addr} {zs : List (Bool × Int × Int × Int × Int × Bool)} (h : RdNote w B A zs) (k : Nat) : RdNote (w.drewN k) B A zs := h
theorem RdNote.al {w : World} {B : Nat} {A : Option Addr} {zs : List (Bool × Int × Int × Int × Int × Bool)} (h : RdNote w B A zs) (hB : B ≤ w.heap.size) (o : Obj) : RdNote (w.alloc o) B A zs := RdR.al h hB o
theorem RdNote.far {w w' : World} {B lo' hi' E' size' c' n' : Nat} {A A' : Option Addr} {xs' : List Value} {zs : List (Bool × Int × Int × Int × Int × Bool)} (h : RdNote w B A zs) (h' : Row w lo' hi' E' size' A' c' n' xs')
    (hg : w.grownBy w' (Value.slice A' n' c').ownBlock) (hw : B ≤ w.heap.size) (hd : B ≤ lo') : RdNote w' B A zs := RdR.far h h' hg hw hd
theorem Row.rdNote {w : World} {lo hi E c : Nat} {A : Option Addr} {zs : List (Bool × Int × Int × Int × Int × Bool)} (h : Row w lo hi E 6 A c zs.length (fl encNote zs)) : RdNote w hi A zs := h.rdR
def eqbNote (x y : Bool × Int × Int × Int × Int × Bool) : Bool := decide (x = y)
def sameNote (xs ys : List (Bool × Int × Int × Int × Int × Bool)) : Bool := decide (xs = ys)
theorem sameNote_refl (a : List (Bool × Int × Int × Int × Int × Bool)) : sameNote a a = true := by simp [sameNote]
theorem take_succ_Note {zs : List (Bool × Int × Int × Int × Int × Bool)} {k : Nat} (h : k < zs.length) : zs.take (k + 1) = zs.take k ++ [glNote zs k] := by rw [List.take_succ_eq_append_getElem h, glNote_get h]
theorem take_ne_Note {xs ys : List (Bool × Int × Int × Int × Int × Bool)} {k : Nat} (h : k < xs.length) (h' : k < ys.length) (hne : glNote xs k ≠ glNote ys k) : sameNote xs ys = false := by
  simp only [sameNote, decide_eq_false_iff_not]
  rintro rfl
  exact hne rfl
theorem infoNote : (Tryz.prog.info? 60).map (fun i => (i.zero, i.size, i.bytes)) = some (some (Value.agg #[Value.bool false, Value.int .i64 0, Value.int .i64 0, Value.int .i64 0, Value.int .i64 0, Value.bool false]), 6, 48) := by kernel_rfl
/-- k, k + 1, .. -/
def upNote (k : Int) (n : Nat) : List (Bool × Int × Int × Int × Int × Bool) := (List.range n).map fun (j : Nat) => (((k + 6 * (j : Int)) % 3 == 0), k + 6 * (j : Int) + 1, k + 6 * (j : Int) + 1 + 1, k + 6 * (j : Int) + 1 + 1 + 1, k + 6 * (j : Int) + 1 + 1 + 1 + 1, ((k + 6 * (j : Int) + 1 + 1 + 1 + 1 + 1) % 3 == 0))
theorem upNote_length (k : Int) (n : Nat) : (upNote k n).length = n := by simp [upNote]
theorem upNote_at (k : Int) (n j : Nat) (h : j < n) : glNote (upNote k n) j = (((k + 6 * (j : Int)) % 3 == 0), k + 6 * (j : Int) + 1, k + 6 * (j : Int) + 1 + 1, k + 6 * (j : Int) + 1 + 1 + 1, k + 6 * (j : Int) + 1 + 1 + 1 + 1, ((k + 6 * (j : Int) + 1 + 1 + 1 + 1 + 1) % 3 == 0)) := by simp [glNote, upNote, h]
theorem upNote_succ (k : Int) (n : Nat) : upNote k (n + 1) = upNote k n ++ [(((k + 6 * (n : Int)) % 3 == 0), k + 6 * (n : Int) + 1, k + 6 * (n : Int) + 1 + 1, k + 6 * (n : Int) + 1 + 1 + 1, k + 6 * (n : Int) + 1 + 1 + 1 + 1, ((k + 6 * (n : Int) + 1 + 1 + 1 + 1 + 1) % 3 == 0))] := by simp [upNote, List.range_succ]
def setUpNote (cur : Array Value) (k : Int) (j : Nat) : Array Value := (fl encNote (upNote k j) ++ cur.toList.drop (j * 6)).toArray
theorem setUpNote_zero (cur : Array Value) (k : Int) : setUpNote cur k 0 = cur := by simp [setUpNote, upNote, fl]
theorem setUpNote_size (cur : Array Value) (k : Int) (j : Nat) (h : j * 6 ≤ cur.size) : (setUpNote cur k j).size = cur.size := by
  simp only [setUpNote, List.size_toArray, List.length_append, List.length_drop, Array.length_toList]
  rw [fl_length encNote_len, upNote_length]; omega
theorem setUpNote_at (cur : Array Value) (k : Int) (j i : Nat) (h : j * 6 + i < cur.size) : ∃ u, (setUpNote cur k j)[j * 6 + i]? = some u := ⟨_, Array.getElem?_eq_getElem (by rw [setUpNote_size _ _ _ (by omega)]; exact h)⟩
theorem setUpNote_set (cur : Array Value) (k : Int) (j : Nat) (h : j * 6 + 6 ≤ cur.size) : setR (setUpNote cur k j) (j * 6) [.bool (((k + 6 * (j : Int)) % 3 == 0)), .int .i64 (k + 6 * (j : Int) + 1), .int .i64 (k + 6 * (j : Int) + 1 + 1), .int .i64 (k + 6 * (j : Int) + 1 + 1 + 1), .int .i64 (k + 6 * (j : Int) + 1 + 1 + 1 + 1), .bool (((k + 6 * (j : Int) + 1 + 1 + 1 + 1 + 1) % 3 == 0))] = setUpNote cur k (j + 1) := by
  have e : cur.toList.drop (j * 6) = (cur.toList.drop (j * 6)).take 6 ++ cur.toList.drop ((j + 1) * 6) := by
    rw [show (j + 1) * 6 = j * 6 + 6 by omega, ← List.drop_drop, List.take_append_drop]
  have hl : (fl encNote (upNote k j)).length = j * 6 := by rw [fl_length encNote_len, upNote_length]
  unfold setUpNote
  rw [e, ← List.append_assoc, setR_mid _ _ _ _ _ hl.symm (by simp; omega), upNote_succ, fl_append, fl_one]
  rfl
theorem Blk.setsNote {w : World} {g : Nat} {t : TypeId} {cs : Array Value} (h : Blk w g t cs) (p : Nat) (v0 v1 v2 v3 v4 v5 : Value) : Blk ((((((w.setCell ⟨g, p, none⟩ v0).setCell ⟨g, p + 1, none⟩ v1).setCell ⟨g, p + 1 + 1, none⟩ v2).setCell ⟨g, p + 1 + 2, none⟩ v3).setCell ⟨g, p + 4, none⟩ v4).setCell ⟨g, p + 5, none⟩ v5) g t (setR cs p [v0, v1, v2, v3, v4, v5]) := by
  simp only [setR]
  exact ((((((h.set_ (p) _).set_ (p + 1) _).set_ (p + 2) _).set_ (p + 3) _).set_ (p + 4) _).set_ (p + 5) _)
theorem only_setsNote {a w : World} {g : Nat} (h : a.grownBy w (some g)) (p : Nat) (v0 v1 v2 v3 v4 v5 : Value) : a.grownBy ((((((w.setCell ⟨g, p, none⟩ v0).setCell ⟨g, p + 1, none⟩ v1).setCell ⟨g, p + 1 + 1, none⟩ v2).setCell ⟨g, p + 1 + 2, none⟩ v3).setCell ⟨g, p + 4, none⟩ v4).setCell ⟨g, p + 5, none⟩ v5) (some g) := (only_setCell (only_setCell (only_setCell (only_setCell (only_setCell (only_setCell h (.inl rfl) _) (.inl rfl) _) (.inl rfl) _) (.inl rfl) _) (.inl rfl) _) (.inl rfl) _)
end Go.Proofs.YtmodpleonhniaaaGreatDoor

/- Contracts of the draws of pitches, notes and voices. No condition but bounds on the bytes. -/
namespace Go.Proofs.YtmodpleonhniaaaGreatDoor
open Go.RowKit
set_option linter.unusedSimpArgs false
set_option linter.unusedVariables false
theorem l20_odd0 (g : Nat) (w : World) :
    Calls Tryz.prog 33 #[.pointer (some ⟨g, 0, none⟩), .int .i64 0] w fun e w' => e = .returned (.bool false) ∧ w = w' := by
  go_enter Tryz.func33, Tryz.ntmps33
  go_wp2_with fail
  go_ret
  exact ⟨rfl, rfl⟩
def RetP3 (w : World) (g q : Nat) (e : Ending) (w' : World) : Prop := ∃ s a o : Int, e = .returned (.agg #[.int .i64 s, .int .i64 a, .int .i64 o]) ∧ Rdr w' g q ∧ w.grownBy w' (some g)
/-- a pitch in its box, and the result's cells -/
def St3 (w wr : World) (g q pb : Nat) : Prop := ∃ s a o : Int, Blk wr pb 57 #[.int .i64 s, .int .i64 a, .int .i64 o] ∧ Rdr wr g q ∧ w.grownBy wr (some g) ∧ Blk wr w.heap.size 57 #[.int .i64 0, .int .i64 0, .int .i64 0] ∧ pb < wr.heap.size ∧ w.heap.size < pb
set_option maxRecDepth 100000 in
set_option maxHeartbeats 2000000 in
theorem spec_l20Pitch (g q : Nat) (w : World) (hr : Rdr w g q) (hq : q ≤ 900000) :
    Calls Tryz.prog 81 #[.pointer (some ⟨g, 0, none⟩), .int .i64 0] w (RetP3 w g (q + 8)) := by
  have hlt := hr.lt
  have HR := Lib.hid hr; have HG := Lib.hid (only_refl w (some g)); clear hr
  have HK := Lib.hid (Blk.new w 57 #[.int .i64 0, .int .i64 0, .int .i64 0])
  go_enter Tryz.func81, Tryz.ntmps81
  go_upto_if 14 with (first
    | (go_at_call_of 13 (Value.int IntKind.i64 7); refine (l20_pk g _ 7 _ (by first | with_reducible exact HR.out | with_reducible exact (HR.out).drew | with_reducible exact (HR.out).alloc1 _ | with_reducible exact ((HR.out).drew).alloc1 _ | with_reducible exact ((HR.out).alloc1 _).drew | with_reducible exact ((HR.out).alloc1 _).alloc1 _ | with_reducible exact (((HR.out).drew).alloc1 _).alloc1 _ | with_reducible exact (((HR.out).alloc1 _).alloc1 _).drew | with_reducible exact (((HR.out).alloc1 _).alloc1 _).alloc1 _ | with_reducible exact ((((HR.out).drew).alloc1 _).alloc1 _).alloc1 _ | with_reducible exact ((((HR.out).alloc1 _).alloc1 _).alloc1 _).drew) (by omega) (by omega)).mono ?_; rintro e w2 ⟨k2, rfl, hk2, r_, g_⟩; have z2 := g_.size; (try simp only [World.size_alloc, size_drew] at z2); have hne2 : ¬ w2.heap.size = g := (by omega); have hnf2 : ¬ w2.heap.size + 1 = g := (by omega); have hnh2 : ¬ w2.heap.size + 1 + 1 = g := (by omega); have hq2 := only_cells g_; replace HG := Lib.hid (only_trans (by first | with_reducible exact HG.out | with_reducible exact only_drew (HG.out) | with_reducible exact only_alloc (HG.out) _ | with_reducible exact only_alloc (only_drew (HG.out)) _ | with_reducible exact only_drew (only_alloc (HG.out) _) | with_reducible exact only_alloc (only_alloc (HG.out) _) _ | with_reducible exact only_alloc (only_alloc (only_drew (HG.out)) _) _ | with_reducible exact only_drew (only_alloc (only_alloc (HG.out) _) _) | with_reducible exact only_alloc (only_alloc (only_alloc (HG.out) _) _) _ | with_reducible exact only_alloc (only_alloc (only_alloc (only_drew (HG.out)) _) _) _ | with_reducible exact only_drew (only_alloc (only_alloc (only_alloc (HG.out) _) _) _)) g_); replace HR := Lib.hid r_; replace HK := Lib.hid (HK.out.only g_ (by omega)); clear r_ g_)
    | (go_at_call_of 13 (Value.int IntKind.i64 4); refine (l20_pk g _ 4 _ (by first | with_reducible exact HR.out | with_reducible exact (HR.out).drew | with_reducible exact (HR.out).alloc1 _ | with_reducible exact ((HR.out).drew).alloc1 _ | with_reducible exact ((HR.out).alloc1 _).drew | with_reducible exact ((HR.out).alloc1 _).alloc1 _ | with_reducible exact (((HR.out).drew).alloc1 _).alloc1 _ | with_reducible exact (((HR.out).alloc1 _).alloc1 _).drew | with_reducible exact (((HR.out).alloc1 _).alloc1 _).alloc1 _ | with_reducible exact ((((HR.out).drew).alloc1 _).alloc1 _).alloc1 _ | with_reducible exact ((((HR.out).alloc1 _).alloc1 _).alloc1 _).drew) (by omega) (by omega)).mono ?_; rintro e w3 ⟨k3, rfl, hk3, r_, g_⟩; have z3 := g_.size; (try simp only [World.size_alloc, size_drew] at z3); have hne3 : ¬ w3.heap.size = g := (by omega); have hnf3 : ¬ w3.heap.size + 1 = g := (by omega); have hnh3 : ¬ w3.heap.size + 1 + 1 = g := (by omega); have hq3 := only_cells g_; replace HG := Lib.hid (only_trans (by first | with_reducible exact HG.out | with_reducible exact only_drew (HG.out) | with_reducible exact only_alloc (HG.out) _ | with_reducible exact only_alloc (only_drew (HG.out)) _ | with_reducible exact only_drew (only_alloc (HG.out) _) | with_reducible exact only_alloc (only_alloc (HG.out) _) _ | with_reducible exact only_alloc (only_alloc (only_drew (HG.out)) _) _ | with_reducible exact only_drew (only_alloc (only_alloc (HG.out) _) _) | with_reducible exact only_alloc (only_alloc (only_alloc (HG.out) _) _) _ | with_reducible exact only_alloc (only_alloc (only_alloc (only_drew (HG.out)) _) _) _ | with_reducible exact only_drew (only_alloc (only_alloc (only_alloc (HG.out) _) _) _)) g_); replace HR := Lib.hid r_; replace HK := Lib.hid (HK.out.only g_ (by omega)); clear r_ g_)
    | (go_at_call_of 13 (Value.int IntKind.i64 3); refine (l20_pk g _ 3 _ (by first | with_reducible exact HR.out | with_reducible exact (HR.out).drew | with_reducible exact (HR.out).alloc1 _ | with_reducible exact ((HR.out).drew).alloc1 _ | with_reducible exact ((HR.out).alloc1 _).drew | with_reducible exact ((HR.out).alloc1 _).alloc1 _ | with_reducible exact (((HR.out).drew).alloc1 _).alloc1 _ | with_reducible exact (((HR.out).alloc1 _).alloc1 _).drew | with_reducible exact (((HR.out).alloc1 _).alloc1 _).alloc1 _ | with_reducible exact ((((HR.out).drew).alloc1 _).alloc1 _).alloc1 _ | with_reducible exact ((((HR.out).alloc1 _).alloc1 _).alloc1 _).drew) (by omega) (by omega)).mono ?_; rintro e w4 ⟨k4, rfl, hk4, r_, g_⟩; have z4 := g_.size; (try simp only [World.size_alloc, size_drew] at z4); have hne4 : ¬ w4.heap.size = g := (by omega); have hnf4 : ¬ w4.heap.size + 1 = g := (by omega); have hnh4 : ¬ w4.heap.size + 1 + 1 = g := (by omega); have hq4 := only_cells g_; replace HG := Lib.hid (only_trans (by first | with_reducible exact HG.out | with_reducible exact only_drew (HG.out) | with_reducible exact only_alloc (HG.out) _ | with_reducible exact only_alloc (only_drew (HG.out)) _ | with_reducible exact only_drew (only_alloc (HG.out) _) | with_reducible exact only_alloc (only_alloc (HG.out) _) _ | with_reducible exact only_alloc (only_alloc (only_drew (HG.out)) _) _ | with_reducible exact only_drew (only_alloc (only_alloc (HG.out) _) _) | with_reducible exact only_alloc (only_alloc (only_alloc (HG.out) _) _) _ | with_reducible exact only_alloc (only_alloc (only_alloc (only_drew (HG.out)) _) _) _ | with_reducible exact only_drew (only_alloc (only_alloc (only_alloc (HG.out) _) _) _)) g_); replace HR := Lib.hid r_; have HP := Lib.hid (lit_keep g_ (by omega)); replace HK := Lib.hid ((HK.out.alloc _).only g_ (by omega)); clear r_ g_))
  have hpb : w.heap.size < w3.heap.size := by omega
  generalize hgpb : w3.heap.size = pb at *
  have hpl : pb < w4.heap.size := HP.out.lt
  go_cut [] (fun wx => St3 w wx g (q + 4) pb)
  case first =>
    go_wp2_with (go_at_call_of 13 (Value.int IntKind.i64 3); refine (l20_pk g _ 3 _ (by first | with_reducible exact HR.out | with_reducible exact (HR.out).drew | with_reducible exact (HR.out).alloc1 _ | with_reducible exact ((HR.out).drew).alloc1 _ | with_reducible exact ((HR.out).alloc1 _).drew | with_reducible exact ((HR.out).alloc1 _).alloc1 _ | with_reducible exact (((HR.out).drew).alloc1 _).alloc1 _ | with_reducible exact (((HR.out).alloc1 _).alloc1 _).drew | with_reducible exact (((HR.out).alloc1 _).alloc1 _).alloc1 _ | with_reducible exact ((((HR.out).drew).alloc1 _).alloc1 _).alloc1 _ | with_reducible exact ((((HR.out).alloc1 _).alloc1 _).alloc1 _).drew) (by omega) (by omega)).mono ?_; rintro e w5 ⟨k5, rfl, hk5, r_, g_⟩; have z5 := g_.size; (try simp only [World.size_alloc, size_drew] at z5); have hne5 : ¬ w5.heap.size = g := (by omega); have hnf5 : ¬ w5.heap.size + 1 = g := (by omega); have hnh5 : ¬ w5.heap.size + 1 + 1 = g := (by omega); have hq5 := only_cells g_; replace HG := Lib.hid (only_trans (by first | with_reducible exact HG.out | with_reducible exact only_drew (HG.out) | with_reducible exact only_alloc (HG.out) _ | with_reducible exact only_alloc (only_drew (HG.out)) _ | with_reducible exact only_drew (only_alloc (HG.out) _) | with_reducible exact only_alloc (only_alloc (HG.out) _) _ | with_reducible exact only_alloc (only_alloc (only_drew (HG.out)) _) _ | with_reducible exact only_drew (only_alloc (only_alloc (HG.out) _) _) | with_reducible exact only_alloc (only_alloc (only_alloc (HG.out) _) _) _ | with_reducible exact only_alloc (only_alloc (only_alloc (only_drew (HG.out)) _) _) _ | with_reducible exact only_drew (only_alloc (only_alloc (only_alloc (HG.out) _) _) _)) g_); replace HR := Lib.hid r_; replace HP := Lib.hid (HP.out.only g_ (by omega)); replace HK := Lib.hid (HK.out.only g_ (by omega)); have e5 := HP.out.cell 1; have f5 := HP.out.frozen 1; clear r_ g_)
    · go_meet
      case rel => exact ⟨_, _, _, HP.out.set_ 1 _, HR.out.setFar (by simp; omega) _, only_setCell HG.out (.inr (by simp; omega)) _, HK.out.far (by simp; omega) _, by simp; omega, hpb⟩
    · go_meet
      case rel => exact ⟨_, _, _, HP.out, HR.out.more (by omega), HG.out, HK.out, by omega, hpb⟩
  case rest =>
    obtain ⟨s, a, o, hb_, hr_, hg_, hk_, hl_, -⟩ := hcut
    clear HP HR HG HK
    have HP := Lib.hid hb_; have HR := Lib.hid hr_; have HG := Lib.hid hg_; have HK := Lib.hid hk_
    have zc := hg_.size
    clear hb_ hr_ hg_ hk_
    go_upto_if 21 with (go_at_call_of 13 (Value.int IntKind.i64 12); refine (l20_pk g _ 12 _ (by first | with_reducible exact HR.out | with_reducible exact (HR.out).drew | with_reducible exact (HR.out).alloc1 _ | with_reducible exact ((HR.out).drew).alloc1 _ | with_reducible exact ((HR.out).alloc1 _).drew | with_reducible exact ((HR.out).alloc1 _).alloc1 _ | with_reducible exact (((HR.out).drew).alloc1 _).alloc1 _ | with_reducible exact (((HR.out).alloc1 _).alloc1 _).drew | with_reducible exact (((HR.out).alloc1 _).alloc1 _).alloc1 _ | with_reducible exact ((((HR.out).drew).alloc1 _).alloc1 _).alloc1 _ | with_reducible exact ((((HR.out).alloc1 _).alloc1 _).alloc1 _).drew) (by omega) (by omega)).mono ?_; rintro e w6 ⟨k6, rfl, hk6, r_, g_⟩; have z6 := g_.size; (try simp only [World.size_alloc, size_drew] at z6); have hne6 : ¬ w6.heap.size = g := (by omega); have hnf6 : ¬ w6.heap.size + 1 = g := (by omega); have hnh6 : ¬ w6.heap.size + 1 + 1 = g := (by omega); have hq6 := only_cells g_; replace HG := Lib.hid (only_trans (by first | with_reducible exact HG.out | with_reducible exact only_drew (HG.out) | with_reducible exact only_alloc (HG.out) _ | with_reducible exact only_alloc (only_drew (HG.out)) _ | with_reducible exact only_drew (only_alloc (HG.out) _) | with_reducible exact only_alloc (only_alloc (HG.out) _) _ | with_reducible exact only_alloc (only_alloc (only_drew (HG.out)) _) _ | with_reducible exact only_drew (only_alloc (only_alloc (HG.out) _) _) | with_reducible exact only_alloc (only_alloc (only_alloc (HG.out) _) _) _ | with_reducible exact only_alloc (only_alloc (only_alloc (only_drew (HG.out)) _) _) _ | with_reducible exact only_drew (only_alloc (only_alloc (only_alloc (HG.out) _) _) _)) g_); replace HR := Lib.hid r_; replace HP := Lib.hid (HP.out.only g_ (by omega)); replace HK := Lib.hid (HK.out.only g_ (by omega)); clear r_ g_)
    have hpl6 : pb < w6.heap.size := HP.out.lt
    go_cut [] (fun wx => St3 w wx g (q + 6) pb)
    case first =>
      go_wp2_with (go_at_call_of 13 (Value.int IntKind.i64 2); refine (l20_pk g _ 2 _ (by first | with_reducible exact HR.out | with_reducible exact (HR.out).drew | with_reducible exact (HR.out).alloc1 _ | with_reducible exact ((HR.out).drew).alloc1 _ | with_reducible exact ((HR.out).alloc1 _).drew | with_reducible exact ((HR.out).alloc1 _).alloc1 _ | with_reducible exact (((HR.out).drew).alloc1 _).alloc1 _ | with_reducible exact (((HR.out).alloc1 _).alloc1 _).drew | with_reducible exact (((HR.out).alloc1 _).alloc1 _).alloc1 _ | with_reducible exact ((((HR.out).drew).alloc1 _).alloc1 _).alloc1 _ | with_reducible exact ((((HR.out).alloc1 _).alloc1 _).alloc1 _).drew) (by omega) (by omega)).mono ?_; rintro e w7 ⟨k7, rfl, hk7, r_, g_⟩; have z7 := g_.size; (try simp only [World.size_alloc, size_drew] at z7); have hne7 : ¬ w7.heap.size = g := (by omega); have hnf7 : ¬ w7.heap.size + 1 = g := (by omega); have hnh7 : ¬ w7.heap.size + 1 + 1 = g := (by omega); have hq7 := only_cells g_; replace HG := Lib.hid (only_trans (by first | with_reducible exact HG.out | with_reducible exact only_drew (HG.out) | with_reducible exact only_alloc (HG.out) _ | with_reducible exact only_alloc (only_drew (HG.out)) _ | with_reducible exact only_drew (only_alloc (HG.out) _) | with_reducible exact only_alloc (only_alloc (HG.out) _) _ | with_reducible exact only_alloc (only_alloc (only_drew (HG.out)) _) _ | with_reducible exact only_drew (only_alloc (only_alloc (HG.out) _) _) | with_reducible exact only_alloc (only_alloc (only_alloc (HG.out) _) _) _ | with_reducible exact only_alloc (only_alloc (only_alloc (only_drew (HG.out)) _) _) _ | with_reducible exact only_drew (only_alloc (only_alloc (only_alloc (HG.out) _) _) _)) g_); replace HR := Lib.hid r_; have hv7 := fun o => hq7 w6.heap.size o (by omega) (by simp); clear hq7; replace HP := Lib.hid ((HP.out.alloc _).only g_ (by omega)); replace HK := Lib.hid ((HK.out.alloc _).only g_ (by omega)); have e7 := HP.out.cell 1; have f7 := HP.out.frozen 1; obtain ⟨x, hxx, xlx, xhx⟩ := (show LitIn (-2) (2) (#[Value.int IntKind.i64 (2), Value.int IntKind.i64 (-2)]) from (fun k hk => by simp at hk; rcases k with _ | _ | _ | _ | _ | _ | _ | _ | k <;> first | exact ⟨_, rfl, by omega, by omega⟩ | exact ⟨_, rfl, by rw [IntWalk.i64_in _ (by omega)]; omega, by rw [IntWalk.i64_in _ (by omega)]; omega⟩ | omega)) k7 (by simp; omega); clear r_ g_)
      · go_meet
        case rel => exact ⟨_, _, _, HP.out.set_ 1 _, (HR.out.setFar (by simp; omega) _).more (by omega), only_setCell HG.out (.inr (by simp; omega)) _, HK.out.far (by simp; omega) _, by simp; omega, hpb⟩
      · go_meet
        case rel => exact ⟨_, _, _, HP.out, HR.out.more (by omega), HG.out, HK.out, by omega, hpb⟩
    case rest =>
      obtain ⟨s, a, o, hb_, hr_, hg_, hk_, hl_, -⟩ := hcut
      clear HP HR HG HK
      have HP := Lib.hid hb_; have HR := Lib.hid hr_; have HG := Lib.hid hg_; have HK := Lib.hid hk_
      have zc := hg_.size
      clear hb_ hr_ hg_ hk_
      go_upto_if 30 with (go_at_call_of 13 (Value.int IntKind.i64 9); refine (l20_pk g _ 9 _ (by first | with_reducible exact HR.out | with_reducible exact (HR.out).drew | with_reducible exact (HR.out).alloc1 _ | with_reducible exact ((HR.out).drew).alloc1 _ | with_reducible exact ((HR.out).alloc1 _).drew | with_reducible exact ((HR.out).alloc1 _).alloc1 _ | with_reducible exact (((HR.out).drew).alloc1 _).alloc1 _ | with_reducible exact (((HR.out).alloc1 _).alloc1 _).drew | with_reducible exact (((HR.out).alloc1 _).alloc1 _).alloc1 _ | with_reducible exact ((((HR.out).drew).alloc1 _).alloc1 _).alloc1 _ | with_reducible exact ((((HR.out).alloc1 _).alloc1 _).alloc1 _).drew) (by omega) (by omega)).mono ?_; rintro e w8 ⟨k8, rfl, hk8, r_, g_⟩; have z8 := g_.size; (try simp only [World.size_alloc, size_drew] at z8); have hne8 : ¬ w8.heap.size = g := (by omega); have hnf8 : ¬ w8.heap.size + 1 = g := (by omega); have hnh8 : ¬ w8.heap.size + 1 + 1 = g := (by omega); have hq8 := only_cells g_; replace HG := Lib.hid (only_trans (by first | with_reducible exact HG.out | with_reducible exact only_drew (HG.out) | with_reducible exact only_alloc (HG.out) _ | with_reducible exact only_alloc (only_drew (HG.out)) _ | with_reducible exact only_drew (only_alloc (HG.out) _) | with_reducible exact only_alloc (only_alloc (HG.out) _) _ | with_reducible exact only_alloc (only_alloc (only_drew (HG.out)) _) _ | with_reducible exact only_drew (only_alloc (only_alloc (HG.out) _) _) | with_reducible exact only_alloc (only_alloc (only_alloc (HG.out) _) _) _ | with_reducible exact only_alloc (only_alloc (only_alloc (only_drew (HG.out)) _) _) _ | with_reducible exact only_drew (only_alloc (only_alloc (only_alloc (HG.out) _) _) _)) g_); replace HR := Lib.hid r_; replace HP := Lib.hid (HP.out.only g_ (by omega)); replace HK := Lib.hid (HK.out.only g_ (by omega)); clear r_ g_)
      have hpl8 : pb < w8.heap.size := HP.out.lt
      go_cut [] (fun wx => St3 w wx g (q + 8) pb)
      case first =>
        go_wp2_with (go_at_call_of 13 (Value.int IntKind.i64 2); refine (l20_pk g _ 2 _ (by first | with_reducible exact HR.out | with_reducible exact (HR.out).drew | with_reducible exact (HR.out).alloc1 _ | with_reducible exact ((HR.out).drew).alloc1 _ | with_reducible exact ((HR.out).alloc1 _).drew | with_reducible exact ((HR.out).alloc1 _).alloc1 _ | with_reducible exact (((HR.out).drew).alloc1 _).alloc1 _ | with_reducible exact (((HR.out).alloc1 _).alloc1 _).drew | with_reducible exact (((HR.out).alloc1 _).alloc1 _).alloc1 _ | with_reducible exact ((((HR.out).drew).alloc1 _).alloc1 _).alloc1 _ | with_reducible exact ((((HR.out).alloc1 _).alloc1 _).alloc1 _).drew) (by omega) (by omega)).mono ?_; rintro e w9 ⟨k9, rfl, hk9, r_, g_⟩; have z9 := g_.size; (try simp only [World.size_alloc, size_drew] at z9); have hne9 : ¬ w9.heap.size = g := (by omega); have hnf9 : ¬ w9.heap.size + 1 = g := (by omega); have hnh9 : ¬ w9.heap.size + 1 + 1 = g := (by omega); have hq9 := only_cells g_; replace HG := Lib.hid (only_trans (by first | with_reducible exact HG.out | with_reducible exact only_drew (HG.out) | with_reducible exact only_alloc (HG.out) _ | with_reducible exact only_alloc (only_drew (HG.out)) _ | with_reducible exact only_drew (only_alloc (HG.out) _) | with_reducible exact only_alloc (only_alloc (HG.out) _) _ | with_reducible exact only_alloc (only_alloc (only_drew (HG.out)) _) _ | with_reducible exact only_drew (only_alloc (only_alloc (HG.out) _) _) | with_reducible exact only_alloc (only_alloc (only_alloc (HG.out) _) _) _ | with_reducible exact only_alloc (only_alloc (only_alloc (only_drew (HG.out)) _) _) _ | with_reducible exact only_drew (only_alloc (only_alloc (only_alloc (HG.out) _) _) _)) g_); replace HR := Lib.hid r_; have hv9 := fun o => hq9 w8.heap.size o (by omega) (by simp); clear hq9; replace HP := Lib.hid ((HP.out.alloc _).only g_ (by omega)); replace HK := Lib.hid ((HK.out.alloc _).only g_ (by omega)); have e9 := HP.out.cell 2; have f9 := HP.out.frozen 2; obtain ⟨x, hxx, xlx, xhx⟩ := (show LitIn (0) (8) (#[Value.int IntKind.i64 (0), Value.int IntKind.i64 (8)]) from (fun k hk => by simp at hk; rcases k with _ | _ | _ | _ | _ | _ | _ | _ | k <;> first | exact ⟨_, rfl, by omega, by omega⟩ | exact ⟨_, rfl, by rw [IntWalk.i64_in _ (by omega)]; omega, by rw [IntWalk.i64_in _ (by omega)]; omega⟩ | omega)) k9 (by simp; omega); clear r_ g_)
        · go_meet
          case rel => exact ⟨_, _, _, HP.out.set_ 2 _, (HR.out.setFar (by simp; omega) _).more (by omega), only_setCell HG.out (.inr (by simp; omega)) _, HK.out.far (by simp; omega) _, by simp; omega, hpb⟩
        · go_meet
          case rel => exact ⟨_, _, _, HP.out, HR.out.more (by omega), HG.out, HK.out, by omega, hpb⟩
      case rest =>
        obtain ⟨s, a, o, hb_, hr_, hg_, hk_, hl_, -⟩ := hcut
        clear HP HR HG HK
        have HP := Lib.hid hb_; have HR := Lib.hid hr_; have HG := Lib.hid hg_; have HK := Lib.hid hk_
        have zc := hg_.size
        clear hb_ hr_ hg_ hk_
        have c0 := HP.out.cell 0; have c1 := HP.out.cell 1; have c2 := HP.out.cell 2
        have d0 := HK.out.cell 0; have d1 := HK.out.cell 1; have d2 := HK.out.cell 2
        have f0 := HK.out.frozen 0; have f1 := HK.out.frozen 1; have f2 := HK.out.frozen 2
        go_wp2_with (go_at_call 33; refine (l20_odd0 g _).mono ?_; rintro e w' ⟨rfl, rfl⟩)
        have HK3 := Lib.hid (((HK.out.set_ 0 (.int .i64 s)).set_ 1 (.int .i64 a)).set_ 2 (.int .i64 o))
        have HR3 := Lib.hid (((HR.out.setFar (p := ⟨w.heap.size, 0, none⟩) (by simp; omega) (.int .i64 s)).setFar (p := ⟨w.heap.size, 1, none⟩) (by simp; omega) (.int .i64 a)).setFar (p := ⟨w.heap.size, 2, none⟩) (by simp; omega) (.int .i64 o))
        have HG3 := Lib.hid (only_setCell (only_setCell (only_setCell HG.out (p := ⟨w.heap.size, 0, none⟩) (.inr (by simp)) (.int .i64 s)) (p := ⟨w.heap.size, 1, none⟩) (.inr (by simp)) (.int .i64 a)) (p := ⟨w.heap.size, 2, none⟩) (.inr (by simp)) (.int .i64 o))
        generalize ((wc.setCell ⟨w.heap.size, 0, none⟩ (.int .i64 s)).setCell ⟨w.heap.size, 1, none⟩ (.int .i64 a)).setCell ⟨w.heap.size, 2, none⟩ (.int .i64 o) = W at *
        have r0 : W.cell? ⟨w.heap.size, 0, none⟩ = some (.int .i64 s) := HK3.out.cell 0
        have r1 : W.cell? ⟨w.heap.size, 1, none⟩ = some (.int .i64 a) := HK3.out.cell 1
        have r2 : W.cell? ⟨w.heap.size, 2, none⟩ = some (.int .i64 o) := HK3.out.cell 2
        refine bodyPost_ret (v := .agg #[.int .i64 s, .int .i64 a, .int .i64 o]) (by simp [results, Tryz.results81, go_sem, r0, r1, r2]) rfl ⟨s, a, o, rfl, HR3.out, HG3.out⟩
theorem l20_oddn (g q : Nat) (n : Int) (w : World) (hr : Rdr w g q) (hq : q ≤ 999999) (hn : 0 ≤ n ∧ n ≤ 1000000) :
    Calls Tryz.prog 33 #[.pointer (some ⟨g, 0, none⟩), .int .i64 n] w (RetOdd w g (q + 1)) := by
  by_cases h : n = 0
  · subst h
    refine (l20_odd0 g w).mono ?_
    rintro e w' ⟨rfl, rfl⟩
    exact ⟨false, rfl, hr.more (by omega), only_refl _ _⟩
  · exact l20_odd g q n w hr hq (by omega)
def RetN6 (w : World) (g q : Nat) (e : Ending) (w' : World) : Prop := ∃ (r1 : Bool) (s a o t : Int) (d : Bool), e = .returned (.agg #[.bool r1, .int .i64 s, .int .i64 a, .int .i64 o, .int .i64 t, .bool d]) ∧ Rdr w' g q ∧ w.grownBy w' (some g)
/-- a note in its box, and the result's cells -/
def St6 (w wr : World) (g q pb : Nat) : Prop := ∃ (r1 : Bool) (s a o t : Int) (d : Bool), Blk wr pb 60 #[.bool r1, .int .i64 s, .int .i64 a, .int .i64 o, .int .i64 t, .bool d] ∧ Rdr wr g q ∧ w.grownBy wr (some g) ∧ Blk wr w.heap.size 60 #[.bool false, .int .i64 0, .int .i64 0, .int .i64 0, .int .i64 0, .bool false] ∧ pb < wr.heap.size ∧ w.heap.size < pb
set_option maxRecDepth 100000 in
set_option maxHeartbeats 4000000 in
theorem spec_l20Note (g q : Nat) (n : Int) (w : World) (hr : Rdr w g q) (hq : q ≤ 900000) (hn : 0 ≤ n ∧ n ≤ 1000000) :
    Calls Tryz.prog 59 #[.pointer (some ⟨g, 0, none⟩), .int .i64 n] w (RetN6 w g (q + 15)) := by
  have hlt := hr.lt
  have HR := Lib.hid hr; have HG := Lib.hid (only_refl w (some g)); clear hr
  have HK := Lib.hid (Blk.new w 60 #[.bool false, .int .i64 0, .int .i64 0, .int .i64 0, .int .i64 0, .bool false])
  go_enter Tryz.func59, Tryz.ntmps59
  go_upto_if 16 with (first
    | (go_at_call 81; refine (spec_l20Pitch g q _ (HR.out.alloc1 _) (by omega)).mono ?_; rintro e w2 ⟨s, a, o, rfl, r_, g_⟩; have z2 := g_.size; (try simp only [World.size_alloc, size_drew] at z2); replace HK := Lib.hid (HK.out.only g_ (by omega)); replace HG := Lib.hid (only_trans (only_alloc HG.out _) g_); replace HR := Lib.hid r_; clear r_ g_)
    | (go_at_call_of 13 (Value.int IntKind.i64 7); refine (l20_pk g _ 7 _ (by first | with_reducible exact HR.out | with_reducible exact (HR.out).drew | with_reducible exact (HR.out).alloc1 _ | with_reducible exact ((HR.out).drew).alloc1 _ | with_reducible exact ((HR.out).alloc1 _).drew | with_reducible exact ((HR.out).alloc1 _).alloc1 _ | with_reducible exact (((HR.out).drew).alloc1 _).alloc1 _ | with_reducible exact (((HR.out).alloc1 _).alloc1 _).drew | with_reducible exact (((HR.out).alloc1 _).alloc1 _).alloc1 _ | with_reducible exact ((((HR.out).drew).alloc1 _).alloc1 _).alloc1 _ | with_reducible exact ((((HR.out).alloc1 _).alloc1 _).alloc1 _).drew) (by omega) (by omega)).mono ?_; rintro e w3 ⟨k3, rfl, hk3, r_, g_⟩; have z3 := g_.size; (try simp only [World.size_alloc, size_drew] at z3); have hne3 : ¬ w3.heap.size = g := (by omega); have hnf3 : ¬ w3.heap.size + 1 = g := (by omega); have hnh3 : ¬ w3.heap.size + 1 + 1 = g := (by omega); have hq3 := only_cells g_; replace HG := Lib.hid (only_trans (by first | with_reducible exact HG.out | with_reducible exact only_drew (HG.out) | with_reducible exact only_alloc (HG.out) _ | with_reducible exact only_alloc (only_drew (HG.out)) _ | with_reducible exact only_drew (only_alloc (HG.out) _) | with_reducible exact only_alloc (only_alloc (HG.out) _) _ | with_reducible exact only_alloc (only_alloc (only_drew (HG.out)) _) _ | with_reducible exact only_drew (only_alloc (only_alloc (HG.out) _) _) | with_reducible exact only_alloc (only_alloc (only_alloc (HG.out) _) _) _ | with_reducible exact only_alloc (only_alloc (only_alloc (only_drew (HG.out)) _) _) _ | with_reducible exact only_drew (only_alloc (only_alloc (only_alloc (HG.out) _) _) _)) g_); replace HR := Lib.hid r_; have hv3 := fun o => hq3 w2.heap.size o (by omega) (by simp); clear hq3; replace HK := Lib.hid ((HK.out.alloc _).only g_ (by omega)); obtain ⟨x, hxx, xlx, xhx⟩ := (show LitIn (12) (96) (#[Value.int IntKind.i64 (12), Value.int IntKind.i64 (24), Value.int IntKind.i64 (48), Value.int IntKind.i64 (96), Value.int IntKind.i64 (36), Value.int IntKind.i64 (16), Value.int IntKind.i64 (72)]) from (fun k hk => by simp at hk; rcases k with _ | _ | _ | _ | _ | _ | _ | _ | k <;> first | exact ⟨_, rfl, by omega, by omega⟩ | exact ⟨_, rfl, by rw [IntWalk.i64_in _ (by omega)]; omega, by rw [IntWalk.i64_in _ (by omega)]; omega⟩ | omega)) k3 (by simp; omega); clear r_ g_)
    | (go_at_call_of 13 (Value.int IntKind.i64 14); refine (l20_pk g _ 14 _ (by first | with_reducible exact HR.out | with_reducible exact (HR.out).drew | with_reducible exact (HR.out).alloc1 _ | with_reducible exact ((HR.out).drew).alloc1 _ | with_reducible exact ((HR.out).alloc1 _).drew | with_reducible exact ((HR.out).alloc1 _).alloc1 _ | with_reducible exact (((HR.out).drew).alloc1 _).alloc1 _ | with_reducible exact (((HR.out).alloc1 _).alloc1 _).drew | with_reducible exact (((HR.out).alloc1 _).alloc1 _).alloc1 _ | with_reducible exact ((((HR.out).drew).alloc1 _).alloc1 _).alloc1 _ | with_reducible exact ((((HR.out).alloc1 _).alloc1 _).alloc1 _).drew) (by omega) (by omega)).mono ?_; rintro e w4 ⟨k4, rfl, hk4, r_, g_⟩; have z4 := g_.size; (try simp only [World.size_alloc, size_drew] at z4); have hne4 : ¬ w4.heap.size = g := (by omega); have hnf4 : ¬ w4.heap.size + 1 = g := (by omega); have hnh4 : ¬ w4.heap.size + 1 + 1 = g := (by omega); have hq4 := only_cells g_; replace HG := Lib.hid (only_trans (by first | with_reducible exact HG.out | with_reducible exact only_drew (HG.out) | with_reducible exact only_alloc (HG.out) _ | with_reducible exact only_alloc (only_drew (HG.out)) _ | with_reducible exact only_drew (only_alloc (HG.out) _) | with_reducible exact only_alloc (only_alloc (HG.out) _) _ | with_reducible exact only_alloc (only_alloc (only_drew (HG.out)) _) _ | with_reducible exact only_drew (only_alloc (only_alloc (HG.out) _) _) | with_reducible exact only_alloc (only_alloc (only_alloc (HG.out) _) _) _ | with_reducible exact only_alloc (only_alloc (only_alloc (only_drew (HG.out)) _) _) _ | with_reducible exact only_drew (only_alloc (only_alloc (only_alloc (HG.out) _) _) _)) g_); replace HR := Lib.hid r_; have HP := Lib.hid (lit_keep g_ (by omega)); replace HK := Lib.hid ((HK.out.alloc _).only g_ (by omega)); clear r_ g_))
  have hpb : w.heap.size < w3.heap.size := by omega
  generalize hgpb : w3.heap.size = pb at *
  have hpl : pb < w4.heap.size := HP.out.lt
  go_cut [] (fun wx => St6 w wx g (q + 11) pb)
  case first =>
    go_wp2_with (go_at_call_of 13 (Value.int IntKind.i64 3); refine (l20_pk g _ 3 _ (by first | with_reducible exact HR.out | with_reducible exact (HR.out).drew | with_reducible exact (HR.out).alloc1 _ | with_reducible exact ((HR.out).drew).alloc1 _ | with_reducible exact ((HR.out).alloc1 _).drew | with_reducible exact ((HR.out).alloc1 _).alloc1 _ | with_reducible exact (((HR.out).drew).alloc1 _).alloc1 _ | with_reducible exact (((HR.out).alloc1 _).alloc1 _).drew | with_reducible exact (((HR.out).alloc1 _).alloc1 _).alloc1 _ | with_reducible exact ((((HR.out).drew).alloc1 _).alloc1 _).alloc1 _ | with_reducible exact ((((HR.out).alloc1 _).alloc1 _).alloc1 _).drew) (by omega) (by omega)).mono ?_; rintro e w5 ⟨k5, rfl, hk5, r_, g_⟩; have z5 := g_.size; (try simp only [World.size_alloc, size_drew] at z5); have hne5 : ¬ w5.heap.size = g := (by omega); have hnf5 : ¬ w5.heap.size + 1 = g := (by omega); have hnh5 : ¬ w5.heap.size + 1 + 1 = g := (by omega); have hq5 := only_cells g_; replace HG := Lib.hid (only_trans (by first | with_reducible exact HG.out | with_reducible exact only_drew (HG.out) | with_reducible exact only_alloc (HG.out) _ | with_reducible exact only_alloc (only_drew (HG.out)) _ | with_reducible exact only_drew (only_alloc (HG.out) _) | with_reducible exact only_alloc (only_alloc (HG.out) _) _ | with_reducible exact only_alloc (only_alloc (only_drew (HG.out)) _) _ | with_reducible exact only_drew (only_alloc (only_alloc (HG.out) _) _) | with_reducible exact only_alloc (only_alloc (only_alloc (HG.out) _) _) _ | with_reducible exact only_alloc (only_alloc (only_alloc (only_drew (HG.out)) _) _) _ | with_reducible exact only_drew (only_alloc (only_alloc (only_alloc (HG.out) _) _) _)) g_); replace HR := Lib.hid r_; have hv5 := fun o => hq5 w4.heap.size o (by omega) (by simp); clear hq5; replace HP := Lib.hid ((HP.out.alloc _).only g_ (by omega)); replace HK := Lib.hid ((HK.out.alloc _).only g_ (by omega)); have e5 := HP.out.cell 4; have f5 := HP.out.frozen 4; obtain ⟨x5, hxx5, xlx5, xhx5⟩ := (show LitIn (1) (768) (#[Value.int IntKind.i64 (1), Value.int IntKind.i64 (768), Value.int IntKind.i64 (700)]) from (fun k hk => by simp at hk; rcases k with _ | _ | _ | _ | _ | _ | _ | _ | k <;> first | exact ⟨_, rfl, by omega, by omega⟩ | exact ⟨_, rfl, by rw [IntWalk.i64_in _ (by omega)]; omega, by rw [IntWalk.i64_in _ (by omega)]; omega⟩ | omega)) k5 (by simp; omega); clear r_ g_)
    · go_meet
      case rel => exact ⟨_, _, _, _, _, _, (HP.out.set_ 4 _), (HR.out.setFar (by simp; omega) _).more (by omega), (only_setCell HG.out (.inr (by simp; omega)) _), (HK.out.far (by simp; omega) _), by first | omega | (simp; omega), hpb⟩
    · go_meet
      case rel => exact ⟨_, _, _, _, _, _, HP.out, HR.out.more (by omega), HG.out, HK.out, by first | omega | (simp; omega), hpb⟩
  case rest =>
    obtain ⟨r1, s, a, o, t, d, hb_, hr_, hg_, hk_, hl_, -⟩ := hcut
    clear HP HR HG HK
    have HP := Lib.hid hb_; have HR := Lib.hid hr_; have HG := Lib.hid hg_; have HK := Lib.hid hk_
    have zc := hg_.size
    clear hb_ hr_ hg_ hk_
    go_upto_if 25 with (go_at_call_of 13 (Value.int IntKind.i64 5); refine (l20_pk g _ 5 _ (by first | with_reducible exact HR.out | with_reducible exact (HR.out).drew | with_reducible exact (HR.out).alloc1 _ | with_reducible exact ((HR.out).drew).alloc1 _ | with_reducible exact ((HR.out).alloc1 _).drew | with_reducible exact ((HR.out).alloc1 _).alloc1 _ | with_reducible exact (((HR.out).drew).alloc1 _).alloc1 _ | with_reducible exact (((HR.out).alloc1 _).alloc1 _).drew | with_reducible exact (((HR.out).alloc1 _).alloc1 _).alloc1 _ | with_reducible exact ((((HR.out).drew).alloc1 _).alloc1 _).alloc1 _ | with_reducible exact ((((HR.out).alloc1 _).alloc1 _).alloc1 _).drew) (by omega) (by omega)).mono ?_; rintro e w6 ⟨k6, rfl, hk6, r_, g_⟩; have z6 := g_.size; (try simp only [World.size_alloc, size_drew] at z6); have hne6 : ¬ w6.heap.size = g := (by omega); have hnf6 : ¬ w6.heap.size + 1 = g := (by omega); have hnh6 : ¬ w6.heap.size + 1 + 1 = g := (by omega); have hq6 := only_cells g_; replace HG := Lib.hid (only_trans (by first | with_reducible exact HG.out | with_reducible exact only_drew (HG.out) | with_reducible exact only_alloc (HG.out) _ | with_reducible exact only_alloc (only_drew (HG.out)) _ | with_reducible exact only_drew (only_alloc (HG.out) _) | with_reducible exact only_alloc (only_alloc (HG.out) _) _ | with_reducible exact only_alloc (only_alloc (only_drew (HG.out)) _) _ | with_reducible exact only_drew (only_alloc (only_alloc (HG.out) _) _) | with_reducible exact only_alloc (only_alloc (only_alloc (HG.out) _) _) _ | with_reducible exact only_alloc (only_alloc (only_alloc (only_drew (HG.out)) _) _) _ | with_reducible exact only_drew (only_alloc (only_alloc (only_alloc (HG.out) _) _) _)) g_); replace HR := Lib.hid r_; clear hq6; replace HP := Lib.hid (HP.out.only g_ (by omega)); replace HK := Lib.hid (HK.out.only g_ (by omega)); clear r_ g_)
    have hpl6 : pb < w6.heap.size := HP.out.lt
    have e60 := HP.out.cell 0; have f60 := HP.out.frozen 0
    have e61 := HP.out.cell 1; have f61 := HP.out.frozen 1
    have e62 := HP.out.cell 2; have f62 := HP.out.frozen 2
    have e63 := HP.out.cell 3; have f63 := HP.out.frozen 3
    go_cut [] (fun wx => St6 w wx g (q + 12) pb)
    case first =>
      go_upto_region 6 with fail
      · skip
        replace HP := Lib.hid (HP.out.set_ 0 (.bool true)); replace HR := Lib.hid (HR.out.setFar (p := ⟨pb, 0, none⟩) (by simp; omega) (.bool true)); replace HG := Lib.hid (only_setCell HG.out (p := ⟨pb, 0, none⟩) (.inr (by simp; omega)) (.bool true)); replace HK := Lib.hid (HK.out.far (p := ⟨pb, 0, none⟩) (by simp; omega) (.bool true))
        have zw : (w6.setCell ⟨pb, 0, none⟩ (.bool true)).heap.size = w6.heap.size := by simp
        generalize w6.setCell ⟨pb, 0, none⟩ (.bool true) = wy at *
        have hply : pb < wy.heap.size := HP.out.lt
        have ey1 := HP.out.cell 1; have fy1 := HP.out.frozen 1; have ey2 := HP.out.cell 2; have fy2 := HP.out.frozen 2; have ey3 := HP.out.cell 3; have fy3 := HP.out.frozen 3
        go_wp2_with fail
        · go_meet
          case rel => exact ⟨_, _, _, _, _, _, (((HP.out.set_ 1 _).set_ 2 _).set_ 3 _), (((HR.out.setFar (by simp; omega) _).setFar (by simp; omega) _).setFar (by simp; omega) _).more (by omega), (only_setCell (only_setCell (only_setCell HG.out (.inr (by simp; omega)) _) (.inr (by simp; omega)) _) (.inr (by simp; omega)) _), (((HK.out.far (by simp; omega) _).far (by simp; omega) _).far (by simp; omega) _), by first | omega | (simp; omega), hpb⟩
      · go_meet
        case rel => exact ⟨_, _, _, _, _, _, HP.out, HR.out.more (by omega), HG.out, HK.out, by first | omega | (simp; omega), hpb⟩
    case rest =>
      obtain ⟨r1, s, a, o, t, d, hb_, hr_, hg_, hk_, hl_, -⟩ := hcut
      clear HP HR HG HK
      have HP := Lib.hid hb_; have HR := Lib.hid hr_; have HG := Lib.hid hg_; have HK := Lib.hid hk_
      have zc := hg_.size
      clear hb_ hr_ hg_ hk_
      go_upto_if 31 with (go_at_call 33; refine (l20_oddn g _ n _ HR.out (by omega) hn).mono ?_; rintro e w7 ⟨v7, rfl, r_, g_⟩; have z7 := g_.size; replace HP := Lib.hid (HP.out.only g_ (by omega)); replace HK := Lib.hid (HK.out.only g_ (by omega)); replace HG := Lib.hid (only_trans HG.out g_); replace HR := Lib.hid r_; clear r_ g_)
      have hpl7 : pb < w7.heap.size := HP.out.lt
      go_cut [] (fun wx => St6 w wx g (q + 15) pb)
      case first =>
        cases v7
        · go_wp2_with fail
          · go_meet
            case rel => exact ⟨_, _, _, _, _, _, HP.out, HR.out.more (by omega), HG.out, HK.out, by first | omega | (simp; omega), hpb⟩
        · go_upto_region 11 with (go_at_call_of 13 (Value.int IntKind.i64 4); refine (l20_pk g _ 4 _ (by first | with_reducible exact HR.out | with_reducible exact (HR.out).drew | with_reducible exact (HR.out).alloc1 _ | with_reducible exact ((HR.out).drew).alloc1 _ | with_reducible exact ((HR.out).alloc1 _).drew | with_reducible exact ((HR.out).alloc1 _).alloc1 _ | with_reducible exact (((HR.out).drew).alloc1 _).alloc1 _ | with_reducible exact (((HR.out).alloc1 _).alloc1 _).drew | with_reducible exact (((HR.out).alloc1 _).alloc1 _).alloc1 _ | with_reducible exact ((((HR.out).drew).alloc1 _).alloc1 _).alloc1 _ | with_reducible exact ((((HR.out).alloc1 _).alloc1 _).alloc1 _).drew) (by omega) (by omega)).mono ?_; rintro e w8 ⟨k8, rfl, hk8, r_, g_⟩; have z8 := g_.size; (try simp only [World.size_alloc, size_drew] at z8); have hne8 : ¬ w8.heap.size = g := (by omega); have hnf8 : ¬ w8.heap.size + 1 = g := (by omega); have hnh8 : ¬ w8.heap.size + 1 + 1 = g := (by omega); have hq8 := only_cells g_; replace HG := Lib.hid (only_trans (by first | with_reducible exact HG.out | with_reducible exact only_drew (HG.out) | with_reducible exact only_alloc (HG.out) _ | with_reducible exact only_alloc (only_drew (HG.out)) _ | with_reducible exact only_drew (only_alloc (HG.out) _) | with_reducible exact only_alloc (only_alloc (HG.out) _) _ | with_reducible exact only_alloc (only_alloc (only_drew (HG.out)) _) _ | with_reducible exact only_drew (only_alloc (only_alloc (HG.out) _) _) | with_reducible exact only_alloc (only_alloc (only_alloc (HG.out) _) _) _ | with_reducible exact only_alloc (only_alloc (only_alloc (only_drew (HG.out)) _) _) _ | with_reducible exact only_drew (only_alloc (only_alloc (only_alloc (HG.out) _) _) _)) g_); replace HR := Lib.hid r_; clear hq8; replace HP := Lib.hid (HP.out.only g_ (by omega)); replace HK := Lib.hid (HK.out.only g_ (by omega)); clear r_ g_)
          have hpl8 : pb < w8.heap.size := HP.out.lt
          have hk8c : ((k8 : Int) == 0) = true ∨ (((k8 : Int) == 0) = false ∧ ((k8 : Int) == 1) = true) ∨ (((k8 : Int) == 0) = false ∧ ((k8 : Int) == 1) = false ∧ ((k8 : Int) == 2) = true) ∨ (((k8 : Int) == 0) = false ∧ ((k8 : Int) == 1) = false ∧ ((k8 : Int) == 2) = false) := by simp; omega
          rcases hk8c with g0 | ⟨g0, g1⟩ | ⟨g0, g1, g2⟩ | ⟨g0, g1, g2⟩
          · go_wp2_with (go_at_call_of 13 (Value.int IntKind.i64 2); refine (l20_pk g _ 2 _ (by first | with_reducible exact HR.out | with_reducible exact (HR.out).drew | with_reducible exact (HR.out).alloc1 _ | with_reducible exact ((HR.out).drew).alloc1 _ | with_reducible exact ((HR.out).alloc1 _).drew | with_reducible exact ((HR.out).alloc1 _).alloc1 _ | with_reducible exact (((HR.out).drew).alloc1 _).alloc1 _ | with_reducible exact (((HR.out).alloc1 _).alloc1 _).drew | with_reducible exact (((HR.out).alloc1 _).alloc1 _).alloc1 _ | with_reducible exact ((((HR.out).drew).alloc1 _).alloc1 _).alloc1 _ | with_reducible exact ((((HR.out).alloc1 _).alloc1 _).alloc1 _).drew) (by omega) (by omega)).mono ?_; rintro e w9 ⟨k9, rfl, hk9, r_, g_⟩; have z9 := g_.size; (try simp only [World.size_alloc, size_drew] at z9); have hne9 : ¬ w9.heap.size = g := (by omega); have hnf9 : ¬ w9.heap.size + 1 = g := (by omega); have hnh9 : ¬ w9.heap.size + 1 + 1 = g := (by omega); have hq9 := only_cells g_; replace HG := Lib.hid (only_trans (by first | with_reducible exact HG.out | with_reducible exact only_drew (HG.out) | with_reducible exact only_alloc (HG.out) _ | with_reducible exact only_alloc (only_drew (HG.out)) _ | with_reducible exact only_drew (only_alloc (HG.out) _) | with_reducible exact only_alloc (only_alloc (HG.out) _) _ | with_reducible exact only_alloc (only_alloc (only_drew (HG.out)) _) _ | with_reducible exact only_drew (only_alloc (only_alloc (HG.out) _) _) | with_reducible exact only_alloc (only_alloc (only_alloc (HG.out) _) _) _ | with_reducible exact only_alloc (only_alloc (only_alloc (only_drew (HG.out)) _) _) _ | with_reducible exact only_drew (only_alloc (only_alloc (only_alloc (HG.out) _) _) _)) g_); replace HR := Lib.hid r_; have hv9 := fun o => hq9 w8.heap.size o (by omega) (by simp); clear hq9; replace HP := Lib.hid ((HP.out.alloc _).only g_ (by omega)); replace HK := Lib.hid ((HK.out.alloc _).only g_ (by omega)); have e9 := HP.out.cell 4; have f9 := HP.out.frozen 4; obtain ⟨x9, hxx9, xlx9, xhx9⟩ := (show LitIn (0) (769) (#[Value.int IntKind.i64 (0), Value.int IntKind.i64 (769)]) from (fun k hk => by simp at hk; rcases k with _ | _ | _ | _ | _ | _ | _ | _ | k <;> first | exact ⟨_, rfl, by omega, by omega⟩ | exact ⟨_, rfl, by rw [IntWalk.i64_in _ (by omega)]; omega, by rw [IntWalk.i64_in _ (by omega)]; omega⟩ | omega)) k9 (by simp; omega); clear r_ g_)
            · go_meet
              case rel => exact ⟨_, _, _, _, _, _, (HP.out.set_ 4 _), (HR.out.setFar (by simp; omega) _).more (by omega), (only_setCell HG.out (.inr (by simp; omega)) _), (HK.out.far (by simp; omega) _), by first | omega | (simp; omega), hpb⟩
          · have e80 := HP.out.cell 0; have f80 := HP.out.frozen 0; have e85 := HP.out.cell 5; have f85 := HP.out.frozen 5
            go_wp2_with fail
            · go_meet
              case rel => exact ⟨_, _, _, _, _, _, ((HP.out.set_ 0 _).set_ 5 _), ((HR.out.setFar (by simp; omega) _).setFar (by simp; omega) _).more (by omega), (only_setCell (only_setCell HG.out (.inr (by simp; omega)) _) (.inr (by simp; omega)) _), ((HK.out.far (by simp; omega) _).far (by simp; omega) _), by first | omega | (simp; omega), hpb⟩
          · have e81 := HP.out.cell 1; have f81 := HP.out.frozen 1
            go_wp2_with fail
            · go_meet
              case rel => exact ⟨_, _, _, _, _, _, (HP.out.set_ 1 _), (HR.out.setFar (by simp; omega) _).more (by omega), (only_setCell HG.out (.inr (by simp; omega)) _), (HK.out.far (by simp; omega) _), by first | omega | (simp; omega), hpb⟩
          · have e80 := HP.out.cell 0; have f80 := HP.out.frozen 0
            go_upto_region 10 with fail
            replace HP := Lib.hid (HP.out.set_ 0 (.bool true)); replace HR := Lib.hid (HR.out.setFar (p := ⟨pb, 0, none⟩) (by simp; omega) (.bool true)); replace HG := Lib.hid (only_setCell HG.out (p := ⟨pb, 0, none⟩) (.inr (by simp; omega)) (.bool true)); replace HK := Lib.hid (HK.out.far (p := ⟨pb, 0, none⟩) (by simp; omega) (.bool true))
            have zw : (w8.setCell ⟨pb, 0, none⟩ (.bool true)).heap.size = w8.heap.size := by simp
            generalize w8.setCell ⟨pb, 0, none⟩ (.bool true) = wy at *
            have hply : pb < wy.heap.size := HP.out.lt
            have ey1 := HP.out.cell 1; have fy1 := HP.out.frozen 1; have ey2 := HP.out.cell 2; have fy2 := HP.out.frozen 2; have ey3 := HP.out.cell 3; have fy3 := HP.out.frozen 3
            go_wp2_with fail
            · go_meet
              case rel => exact ⟨_, _, _, _, _, _, (((HP.out.set_ 1 _).set_ 2 _).set_ 3 _), (((HR.out.setFar (by simp; omega) _).setFar (by simp; omega) _).setFar (by simp; omega) _).more (by omega), (only_setCell (only_setCell (only_setCell HG.out (.inr (by simp; omega)) _) (.inr (by simp; omega)) _) (.inr (by simp; omega)) _), (((HK.out.far (by simp; omega) _).far (by simp; omega) _).far (by simp; omega) _), by first | omega | (simp; omega), hpb⟩
      case rest =>
        obtain ⟨r1, s, a, o, t, d, hb_, hr_, hg_, hk_, hl_, -⟩ := hcut
        clear HP HR HG HK
        have HP := Lib.hid hb_; have HR := Lib.hid hr_; have HG := Lib.hid hg_; have HK := Lib.hid hk_
        have zc := hg_.size
        clear hb_ hr_ hg_ hk_
        have c0 := HP.out.cell 0; have d0 := HK.out.cell 0; have f0 := HK.out.frozen 0
        have c1 := HP.out.cell 1; have d1 := HK.out.cell 1; have f1 := HK.out.frozen 1
        have c2 := HP.out.cell 2; have d2 := HK.out.cell 2; have f2 := HK.out.frozen 2
        have c3 := HP.out.cell 3; have d3 := HK.out.cell 3; have f3 := HK.out.frozen 3
        have c4 := HP.out.cell 4; have d4 := HK.out.cell 4; have f4 := HK.out.frozen 4
        have c5 := HP.out.cell 5; have d5 := HK.out.cell 5; have f5 := HK.out.frozen 5
        go_wp2_with fail
        have HK3 := Lib.hid ((((((HK.out.set_ 0 (.bool r1)).set_ 1 (.int .i64 s)).set_ 2 (.int .i64 a)).set_ 3 (.int .i64 o)).set_ 4 (.int .i64 t)).set_ 5 (.bool d))
        have HR3 := Lib.hid ((((((HR.out.setFar (p := ⟨w.heap.size, 0, none⟩) (by simp; omega) (.bool r1)).setFar (p := ⟨w.heap.size, 1, none⟩) (by simp; omega) (.int .i64 s)).setFar (p := ⟨w.heap.size, 2, none⟩) (by simp; omega) (.int .i64 a)).setFar (p := ⟨w.heap.size, 3, none⟩) (by simp; omega) (.int .i64 o)).setFar (p := ⟨w.heap.size, 4, none⟩) (by simp; omega) (.int .i64 t)).setFar (p := ⟨w.heap.size, 5, none⟩) (by simp; omega) (.bool d))
        have HG3 := Lib.hid (only_setCell (only_setCell (only_setCell (only_setCell (only_setCell (only_setCell HG.out (p := ⟨w.heap.size, 0, none⟩) (.inr (by simp)) (.bool r1)) (p := ⟨w.heap.size, 1, none⟩) (.inr (by simp)) (.int .i64 s)) (p := ⟨w.heap.size, 2, none⟩) (.inr (by simp)) (.int .i64 a)) (p := ⟨w.heap.size, 3, none⟩) (.inr (by simp)) (.int .i64 o)) (p := ⟨w.heap.size, 4, none⟩) (.inr (by simp)) (.int .i64 t)) (p := ⟨w.heap.size, 5, none⟩) (.inr (by simp)) (.bool d))
        generalize ((((((wc.setCell ⟨w.heap.size, 0, none⟩ (.bool r1)).setCell ⟨w.heap.size, 1, none⟩ (.int .i64 s)).setCell ⟨w.heap.size, 1 + 1, none⟩ (.int .i64 a)).setCell ⟨w.heap.size, 1 + 2, none⟩ (.int .i64 o)).setCell ⟨w.heap.size, 4, none⟩ (.int .i64 t)).setCell ⟨w.heap.size, 5, none⟩ (.bool d)) = W at *
        have r0_ : W.cell? ⟨w.heap.size, 0, none⟩ = some (.bool r1) := HK3.out.cell 0
        have r1_ : W.cell? ⟨w.heap.size, 1, none⟩ = some (.int .i64 s) := HK3.out.cell 1
        have r2_ : W.cell? ⟨w.heap.size, 2, none⟩ = some (.int .i64 a) := HK3.out.cell 2
        have r3_ : W.cell? ⟨w.heap.size, 3, none⟩ = some (.int .i64 o) := HK3.out.cell 3
        have r4_ : W.cell? ⟨w.heap.size, 4, none⟩ = some (.int .i64 t) := HK3.out.cell 4
        have r5_ : W.cell? ⟨w.heap.size, 5, none⟩ = some (.bool d) := HK3.out.cell 5
        refine bodyPost_ret (v := .agg #[.bool r1, .int .i64 s, .int .i64 a, .int .i64 o, .int .i64 t, .bool d]) (by simp [results, Tryz.results59, go_sem, r0_, r1_, r2_, r3_, r4_, r5_]) rfl ⟨r1, s, a, o, t, d, rfl, HR3.out.more (by omega), HG3.out⟩
end Go.Proofs.YtmodpleonhniaaaGreatDoor

/- Contracts of PitchValid and NoteValid, of the program and of the reference. No condition. -/
namespace Go.Proofs.YtmodpleonhniaaaGreatDoor
open Go.RowKit
set_option linter.unusedSimpArgs false
set_option linter.unusedVariables false
set_option maxRecDepth 100000
abbrev Nt := Bool × Int × Int × Int × Int × Bool
/-- a note is valid -/
def nvB (z : Nt) : Bool := inR z.2.2.2.2.1 1 768 && (if z.1 = true then decide (z.2.1 = 0 ∧ z.2.2.1 = 0 ∧ z.2.2.2.1 = 0) && !z.2.2.2.2.2 else pvB z.2.1 z.2.2.1 z.2.2.2.1)
theorem impl_PitchValid (a b c : Int) (w : World) : Calls Tryz.prog 50 #[.agg #[.int .i64 a, .int .i64 b, .int .i64 c]] w (RetB w (pvB a b c)) := by
  cases ha : inR a 0 6
  · have HF : Hid (pvB a b c = false) := by unfold Hid pvB; rw [ha]; rfl
    go_enter Tryz.func50, Tryz.ntmps50
    go_wp2_with (go_at_call 42; refine (impl_within _ _ _ _).mono ?_; rintro e w' ⟨rfl, rfl⟩)
    go_ret
    exact ⟨ret_bool HF.out.symm, by (repeat (first | exact Below.refl _ _ | refine Below.alloc ?_ (by simp; try omega) _ | refine below_drewN ?_ _ | refine Below.drew ?_))⟩
  cases hb : inR b (-2) 2
  · have HF : Hid (pvB a b c = false) := by unfold Hid pvB; rw [ha, hb]; rfl
    go_enter Tryz.func50, Tryz.ntmps50
    go_wp2_with (go_at_call 42; refine (impl_within _ _ _ _).mono ?_; rintro e w' ⟨rfl, rfl⟩)
    go_ret
    exact ⟨ret_bool HF.out.symm, by (repeat (first | exact Below.refl _ _ | refine Below.alloc ?_ (by simp; try omega) _ | refine below_drewN ?_ _ | refine Below.drew ?_))⟩
  have HF : Hid (pvB a b c = inR c 0 8) := by unfold Hid pvB; rw [ha, hb]; rfl
  go_enter Tryz.func50, Tryz.ntmps50
  go_wp2_with (go_at_call 42; refine (impl_within _ _ _ _).mono ?_; rintro e w' ⟨rfl, rfl⟩)
  go_ret
  exact ⟨ret_bool HF.out.symm, by (repeat (first | exact Below.refl _ _ | refine Below.alloc ?_ (by simp; try omega) _ | refine below_drewN ?_ _ | refine Below.drew ?_))⟩
theorem spec_PitchValid (a b c : Int) (w : World) : Calls Tryz.prog 68 #[.agg #[.int .i64 a, .int .i64 b, .int .i64 c]] w (RetB w (pvB a b c)) := by
  cases ha : inR a 0 6
  · have HF : Hid (pvB a b c = false) := by unfold Hid pvB; rw [ha]; rfl
    go_enter Tryz.func68, Tryz.ntmps68
    go_wp2_with (go_at_call 20; refine (spec_l1In _ _ _ _).mono ?_; rintro e w' ⟨rfl, rfl⟩)
    go_ret
    exact ⟨ret_bool HF.out.symm, by (repeat (first | exact Below.refl _ _ | refine Below.alloc ?_ (by simp; try omega) _ | refine below_drewN ?_ _ | refine Below.drew ?_))⟩
  cases hb : inR b (-2) 2
  · have HF : Hid (pvB a b c = false) := by unfold Hid pvB; rw [ha, hb]; rfl
    go_enter Tryz.func68, Tryz.ntmps68
    go_wp2_with (go_at_call 20; refine (spec_l1In _ _ _ _).mono ?_; rintro e w' ⟨rfl, rfl⟩)
    go_ret
    exact ⟨ret_bool HF.out.symm, by (repeat (first | exact Below.refl _ _ | refine Below.alloc ?_ (by simp; try omega) _ | refine below_drewN ?_ _ | refine Below.drew ?_))⟩
  have HF : Hid (pvB a b c = inR c 0 8) := by unfold Hid pvB; rw [ha, hb]; rfl
  go_enter Tryz.func68, Tryz.ntmps68
  go_wp2_with (go_at_call 20; refine (spec_l1In _ _ _ _).mono ?_; rintro e w' ⟨rfl, rfl⟩)
  go_ret
  exact ⟨ret_bool HF.out.symm, by (repeat (first | exact Below.refl _ _ | refine Below.alloc ?_ (by simp; try omega) _ | refine below_drewN ?_ _ | refine Below.drew ?_))⟩
set_option maxHeartbeats 1000000 in
theorem impl_NoteValid (r : Bool) (a b c t : Int) (d : Bool) (w : World) : Calls Tryz.prog 58 #[.agg #[.bool r, .int .i64 a, .int .i64 b, .int .i64 c, .int .i64 t, .bool d]] w (RetB w (nvB (r, a, b, c, t, d))) := by
  cases ht : inR t 1 768
  · have HF : Hid (nvB (r, a, b, c, t, d) = false) := by unfold Hid nvB; simp only [ht]; rfl
    go_enter Tryz.func58, Tryz.ntmps58
    go_wp2_with (go_at_call 42; refine (impl_within _ _ _ _).mono ?_; rintro e w' ⟨rfl, rfl⟩)
    go_ret
    exact ⟨ret_bool HF.out.symm, by (repeat (first | exact Below.refl _ _ | refine Below.alloc ?_ (by simp; try omega) _ | refine below_drewN ?_ _ | refine Below.drew ?_))⟩
  cases r
  · have HF : Hid (nvB (false, a, b, c, t, d) = pvB a b c) := by unfold Hid nvB; simp [ht]
    go_enter Tryz.func58, Tryz.ntmps58
    go_wp2_with (go_at_call 42; refine (impl_within _ _ _ _).mono ?_; rintro e w' ⟨rfl, rfl⟩)
    refine (impl_PitchValid a b c _).mono ?_
    rintro e w1 ⟨rfl, b1⟩
    have HB := Lib.hid b1; clear b1
    go_wp2_with fail
    go_ret
    exact ⟨ret_bool HF.out.symm, ((Below.refl _ _).alloc (Nat.le_refl _) _).trans (HB.out.mono (by simp))⟩
  · have HF : Hid (nvB (true, a, b, c, t, d) = (decide (a = 0 ∧ b = 0 ∧ c = 0) && !d)) := by unfold Hid nvB; simp [ht]
    go_enter Tryz.func58, Tryz.ntmps58
    go_wp2_with (go_at_call 42; refine (impl_within _ _ _ _).mono ?_; rintro e w' ⟨rfl, rfl⟩)
    all_goals
      go_ret
      exact ⟨ret_bool (by rw [HF.out]; simp [*]), by (repeat (first | exact Below.refl _ _ | refine Below.alloc ?_ (by simp; try omega) _ | refine below_drewN ?_ _ | refine Below.drew ?_))⟩
set_option maxHeartbeats 1000000 in
theorem spec_NoteValid (r : Bool) (a b c t : Int) (d : Bool) (w : World) : Calls Tryz.prog 49 #[.agg #[.bool r, .int .i64 a, .int .i64 b, .int .i64 c, .int .i64 t, .bool d]] w (RetB w (nvB (r, a, b, c, t, d))) := by
  have hz0 : pvB 0 0 0 = true := by decide
  cases r
  · cases ht : inR t 1 768
    · have HF : Hid (nvB (false, a, b, c, t, d) = false) := by unfold Hid nvB; simp only [ht]; rfl
      go_enter Tryz.func49, Tryz.ntmps49
      go_wp2_with (go_at_call 20; refine (spec_l1In _ _ _ _).mono ?_; rintro e w' ⟨rfl, rfl⟩)
      go_ret
      exact ⟨ret_bool HF.out.symm, by (repeat (first | exact Below.refl _ _ | refine Below.alloc ?_ (by simp; try omega) _ | refine below_drewN ?_ _ | refine Below.drew ?_))⟩
    · have HF : Hid (nvB (false, a, b, c, t, d) = pvB a b c) := by unfold Hid nvB; simp [ht]
      go_enter Tryz.func49, Tryz.ntmps49
      go_wp2_with (go_at_call 20; refine (spec_l1In _ _ _ _).mono ?_; rintro e w' ⟨rfl, rfl⟩)
      refine (spec_PitchValid a b c _).mono ?_
      rintro e w1 ⟨rfl, b1⟩
      have HB := Lib.hid b1; clear b1
      go_wp2_with fail
      go_ret
      exact ⟨ret_bool HF.out.symm, ((Below.refl _ _).alloc (Nat.le_refl _) _).trans (HB.out.mono (by simp))⟩
  cases d
  · by_cases h0 : a = 0 ∧ b = 0 ∧ c = 0
    · obtain ⟨rfl, rfl, rfl⟩ := h0
      cases ht : inR t 1 768
      · have HF : Hid (nvB (true, 0, 0, 0, t, false) = false) := by unfold Hid nvB; simp only [ht]; rfl
        go_enter Tryz.func49, Tryz.ntmps49
        go_wp2_with (go_at_call 20; refine (spec_l1In _ _ _ _).mono ?_; rintro e w' ⟨rfl, rfl⟩)
        go_ret
        exact ⟨ret_bool HF.out.symm, by (repeat (first | exact Below.refl _ _ | refine Below.alloc ?_ (by simp; try omega) _ | refine below_drewN ?_ _ | refine Below.drew ?_))⟩
      · have HF : Hid (nvB (true, 0, 0, 0, t, false) = true) := by unfold Hid nvB; simp [ht]
        go_enter Tryz.func49, Tryz.ntmps49
        go_wp2_with (go_at_call 20; refine (spec_l1In _ _ _ _).mono ?_; rintro e w' ⟨rfl, rfl⟩)
        refine (spec_PitchValid 0 0 0 _).mono ?_
        rw [hz0]
        rintro e w1 ⟨rfl, b1⟩
        have HB := Lib.hid b1; clear b1
        go_wp2_with fail
        go_ret
        exact ⟨ret_bool HF.out.symm, ((Below.refl _ _).alloc (Nat.le_refl _) _).trans (HB.out.mono (by simp))⟩
    · have HF : Hid (nvB (true, a, b, c, t, false) = false) := by unfold Hid nvB; simp only [decide_eq_false h0]; simp
      have H0 := Lib.hid h0; clear h0
      go_enter Tryz.func49, Tryz.ntmps49
      go_wp2_with fail
      all_goals first
        | (go_ret; exact ⟨ret_bool HF.out.symm, by (repeat (first | exact Below.refl _ _ | refine Below.alloc ?_ (by simp; try omega) _ | refine below_drewN ?_ _ | refine Below.drew ?_))⟩)
        | (exfalso; exact H0.out ⟨by assumption, by assumption, by assumption⟩)
  · have HF : Hid (nvB (true, a, b, c, t, true) = false) := by unfold Hid nvB; simp
    go_enter Tryz.func49, Tryz.ntmps49
    go_wp2_with fail
    go_ret
    exact ⟨ret_bool HF.out.symm, by (repeat (first | exact Below.refl _ _ | refine Below.alloc ?_ (by simp; try omega) _ | refine below_drewN ?_ _ | refine Below.drew ?_))⟩
end Go.Proofs.YtmodpleonhniaaaGreatDoor

/- Plain laws of voices: when they are valid; no program. -/
namespace Go.Proofs.YtmodpleonhniaaaGreatDoor
set_option linter.unusedVariables false
open Go.RowKit
set_option linter.unusedSimpArgs false
def restN (z : Nt) : Bool := z.1
def stepN (z : Nt) : Int := z.2.1
def altN (z : Nt) : Int := z.2.2.1
def octN (z : Nt) : Int := z.2.2.2.1
def tickN' (z : Nt) : Int := z.2.2.2.2.1
def tiedN (z : Nt) : Bool := z.2.2.2.2.2
/-- the k-th note of a voice is right -/
def vgB (v : List Nt) (k : Nat) : Bool :=
  nvB (glNote v k) && (!(glNote v k).2.2.2.2.2 || (decide (k + 1 < v.length) && (!(glNote v (k + 1)).1 && decide ((glNote v (k + 1)).2.1 = (glNote v k).2.1 ∧ (glNote v (k + 1)).2.2.1 = (glNote v k).2.2.1 ∧ (glNote v (k + 1)).2.2.2.1 = (glNote v k).2.2.2.1))))
def vvB (v : List Nt) : Bool := decide (v.length ≤ 60) && (List.range v.length).all (vgB v)
theorem vv_bad {v : List Nt} {k : Nat} (hk : k < v.length) (h : vgB v k = false) : vvB v = false := by
  unfold vvB
  rw [Bool.and_eq_false_iff]
  exact .inr (List.all_eq_false.2 ⟨k, List.mem_range.2 hk, by simp [h]⟩)
theorem vv_all {v : List Nt} (h : ∀ k, k < v.length → vgB v k = true) : vvB v = decide (v.length ≤ 60) := by
  unfold vvB
  rw [show (List.range v.length).all (vgB v) = true from List.all_eq_true.2 fun k hk => h k (List.mem_range.1 hk), Bool.and_true]
theorem vv_no {v : List Nt} (h : ¬ v.length ≤ 60) : vvB v = false := by
  unfold vvB; rw [decide_eq_false h]; rfl
theorem vvB_iff {v : List Nt} : vvB v = true ↔ v.length ≤ 60 ∧ ∀ k, k < v.length → nvB (glNote v k) = true ∧ ((glNote v k).2.2.2.2.2 = true → k + 1 < v.length ∧ (glNote v (k + 1)).1 = false ∧ (glNote v (k + 1)).2.1 = (glNote v k).2.1 ∧ (glNote v (k + 1)).2.2.1 = (glNote v k).2.2.1 ∧ (glNote v (k + 1)).2.2.2.1 = (glNote v k).2.2.2.1) := by
  simp only [vvB, vgB, Bool.and_eq_true, decide_eq_true_eq, List.all_eq_true, List.mem_range, Bool.or_eq_true, Bool.not_eq_true']
  constructor
  · rintro ⟨h1, h3⟩
    refine ⟨h1, fun k hk => ?_⟩
    obtain ⟨a, b⟩ := h3 k hk
    refine ⟨a, fun h => ?_⟩
    rcases b with b | b
    · rw [h] at b; cases b
    · exact b
  · rintro ⟨h1, h3⟩
    refine ⟨h1, fun k hk => ?_⟩
    obtain ⟨a, b⟩ := h3 k hk
    refine ⟨a, ?_⟩
    cases h : (glNote v k).2.2.2.2.2
    · exact .inl rfl
    · exact .inr (b h)
end Go.Proofs.YtmodpleonhniaaaGreatDoor

/- Contract of the draw of voices. No condition but bounds on the bytes. -/
namespace Go.Proofs.YtmodpleonhniaaaGreatDoor
open Go.RowKit
set_option linter.unusedSimpArgs false
set_option linter.unusedVariables false
theorem fl_set {α : Type} {enc : α → List Value} {s : Nat} (he : ∀ a, (enc a).length = s) {y : α} {u : Value} {j : Nat} (hj : j < s) :
    ∀ {zs : List α} {k : Nat} (hk : k < zs.length), enc y = (enc zs[k]).set j u → (fl enc zs).set (k * s + j) u = fl enc (zs.set k y) := by
  intro zs
  induction zs with
  | nil => intro k hk; exact absurd hk (by simp)
  | cons z zs ih =>
    intro k hk hy
    have e1 : ∀ (x : α) (xs : List α), fl enc (x :: xs) = enc x ++ fl enc xs := fun x xs => by simp [fl]
    cases k with
    | zero =>
      rw [List.set_cons_zero, e1, e1, Nat.zero_mul, Nat.zero_add, List.set_append_left _ _ (by rw [he]; exact hj), hy]
      rfl
    | succ k =>
      rw [List.set_cons_succ, e1, e1, List.set_append_right _ _ (by rw [he, Nat.add_mul]; omega), he, ← ih (by simpa using hk) (by simpa using hy)]
      congr 2
      rw [Nat.add_mul]; omega
theorem own_only2 {w w' : World} {base E size n g : Nat} {v : Value} {xs : List Value} (h : w.ownsRow base E size v n xs) (hg : w.grownBy w' (some g)) (hd : g < base) : w'.ownsRow base E size v n xs := by
  refine h.kept hg ?_
  cases hv : v.ownBlock with
  | none => exact .inl rfl
  | some k =>
    refine .inr fun e => ?_
    injection e with e
    have := (h.lt k hv).1
    omega
/-- what an append has turned lies above the reader -/
theorem rdr_grw {w w' : World} {g q : Nat} {A B : Option Addr} (h : Rdr w g q) (hr : Grw w w' A B) (ho : ∀ k, obA A = some k → g < k) : Rdr w' g q := by
  cases hA : obA A with
  | none => exact h.below (hr.below (Nat.le_refl _) (fun k e => by rw [hA] at e; cases e)) h.lt
  | some k => exact h.below (B := g + 1) (hr.below (B := g + 1) h.lt (fun k' e => ho k' e)) (Nat.lt_succ_self _)
theorem only_grw {a w w' : World} {g : Nat} {A B : Option Addr} (h : a.grownBy w (some g)) (hr : Grw w w' A B) (ho : ∀ k, obA A = some k → a.heap.size ≤ k) : a.grownBy w' (some g) :=
  only_below h (hr.below h.size ho)
/-- a slice's length -/
def lenV : Value → Nat
  | .slice _ n _ => n
  | _ => 0
def RetVo (w : World) (g q : Nat) (e : Ending) (w' : World) : Prop :=
  ∃ (A : Option Addr) (c : Nat) (v : List Nt), e = .returned (.slice A v.length c) ∧ v.length ≤ 61 ∧ w'.ownsRow w.heap.size 60 6 (.slice A v.length c) v.length (fl encNote v) ∧ Rdr w' g q ∧ w.grownBy w' (some g)
set_option maxRecDepth 100000 in
set_option maxHeartbeats 16000000 in
theorem spec_l20Voice (g q : Nat) (n : Int) (w : World) (hr : Rdr w g q) (hq : q ≤ 800000) (hn : 0 ≤ n ∧ n ≤ 1000000) :
    Calls Tryz.prog 32 #[.pointer (some ⟨g, 0, none⟩), .int .i64 n] w (RetVo w g (q + 170)) := by
  obtain ⟨i0, hi, hz0, hz1, hz2⟩ := info_parts infoNote
  have HI := Lib.hid hi; have H0 := Lib.hid hz0; have H1 := Lib.hid hz1; have H2 := Lib.hid hz2; clear hi hz0 hz1 hz2
  have hlt := hr.lt
  have HR := Lib.hid hr; have HG := Lib.hid (only_refl w (some g))
  have HO := Lib.hid (own_empty (e := 60) (size := 6) (Below.refl w.heap.size w) (Nat.le_refl _)).1
  clear hr
  go_enter Tryz.func32, Tryz.ntmps32
  go_wp2_with (go_at_call_of 13 (Value.int IntKind.i64 9); refine (l20_pk g _ 9 _ (by first | with_reducible exact HR.out | with_reducible exact (HR.out).drew | with_reducible exact (HR.out).alloc1 _ | with_reducible exact ((HR.out).drew).alloc1 _ | with_reducible exact ((HR.out).alloc1 _).drew | with_reducible exact ((HR.out).alloc1 _).alloc1 _ | with_reducible exact (((HR.out).drew).alloc1 _).alloc1 _ | with_reducible exact (((HR.out).alloc1 _).alloc1 _).drew | with_reducible exact (((HR.out).alloc1 _).alloc1 _).alloc1 _ | with_reducible exact ((((HR.out).drew).alloc1 _).alloc1 _).alloc1 _ | with_reducible exact ((((HR.out).alloc1 _).alloc1 _).alloc1 _).drew) (by omega) (by omega)).mono ?_; rintro e w2 ⟨k2, rfl, hk2, r_, g_⟩; have z2 := g_.size; (try simp only [World.size_alloc, size_drew] at z2); have hne2 : ¬ w2.heap.size = g := (by omega); have hnf2 : ¬ w2.heap.size + 1 = g := (by omega); have hnh2 : ¬ w2.heap.size + 1 + 1 = g := (by omega); have hq2 := only_cells g_; replace HG := Lib.hid (only_trans (by first | with_reducible exact HG.out | with_reducible exact only_drew (HG.out) | with_reducible exact only_alloc (HG.out) _ | with_reducible exact only_alloc (only_drew (HG.out)) _ | with_reducible exact only_drew (only_alloc (HG.out) _) | with_reducible exact only_alloc (only_alloc (HG.out) _) _ | with_reducible exact only_alloc (only_alloc (only_drew (HG.out)) _) _ | with_reducible exact only_drew (only_alloc (only_alloc (HG.out) _) _) | with_reducible exact only_alloc (only_alloc (only_alloc (HG.out) _) _) _ | with_reducible exact only_alloc (only_alloc (only_alloc (only_drew (HG.out)) _) _) _ | with_reducible exact only_drew (only_alloc (only_alloc (only_alloc (HG.out) _) _) _)) g_); replace HR := Lib.hid r_; clear hq2; replace HO := Lib.hid (own_only2 HO.out g_ (by omega)); clear r_ g_)
  go_loopw [5, 6] (fun v i wr => ∃ (j : Nat) (zs : List Nt) (A : Option Addr) (c : Nat), j ≤ 8 ∧ zs.length + j ≤ 8 ∧ i = .int .i64 j ∧ v = .slice A zs.length c ∧ wr.ownsRow w.heap.size 60 6 (.slice A zs.length c) zs.length (fl encNote zs) ∧ Rdr wr g (q + 137 - 17 * j) ∧ w.grownBy wr (some g)) (fun _ i _ => (intOf i).toNat)
  case atStart => exact ⟨k2, [], _, _, by omega, by simp; omega, rfl, rfl, HO.out, HR.out.more (by omega), HG.out⟩
  case round =>
    clear HO HR HG
    obtain ⟨j, zs, A, c, hj, hl, rfl, rfl, ho, hrd, hgr⟩ := hrel
    have zr := hgr.size
    have HR := Lib.hid hrd; have HG := Lib.hid hgr; have HO := Lib.hid ho
    clear hrd hgr ho
    by_cases h0 : 0 < j
    · obtain ⟨j, rfl⟩ : ∃ i, j = i + 1 := ⟨j - 1, by omega⟩
      go_upto_region 6 with (go_at_call 59; refine (spec_l20Note g _ 0 _ HR.out (by omega) (by omega)).mono ?_; rintro e w3 ⟨r1, s, a, o, t, d, rfl, r_, g_⟩; have z3 := g_.size; replace HO := Lib.hid (own_only2 HO.out g_ (by omega)); replace HG := Lib.hid (only_trans HG.out g_); replace HR := Lib.hid r_; clear r_ g_)
      have HP := Lib.hid (Blk.new w3 60 #[.bool r1, .int .i64 s, .int .i64 a, .int .i64 o, .int .i64 t, .bool d])
      have zx : (w3.alloc (.cells #[.bool r1, .int .i64 s, .int .i64 a, .int .i64 o, .int .i64 t, .bool d] 60)).heap.size = w3.heap.size + 1 := by simp
      have HOB := Lib.hid (own_ob HO.out)
      have HXB : Hid (obA A ≠ some w3.heap.size) := Lib.hid (fun e9 => by have := HOB.out _ e9; omega)
      replace HO := Lib.hid (HO.out.alloc (.cells #[.bool r1, .int .i64 s, .int .i64 a, .int .i64 o, .int .i64 t, .bool d] 60))
      replace HR := Lib.hid (HR.out.alloc1 (.cells #[.bool r1, .int .i64 s, .int .i64 a, .int .i64 o, .int .i64 t, .bool d] 60))
      replace HG := Lib.hid (only_alloc HG.out (.cells #[.bool r1, .int .i64 s, .int .i64 a, .int .i64 o, .int .i64 t, .bool d] 60))
      generalize (w3.alloc (.cells #[.bool r1, .int .i64 s, .int .i64 a, .int .i64 o, .int .i64 t, .bool d] 60)) = wx at *
      generalize hxe : w3.heap.size = xb at *
      have hxl : xb < wx.heap.size := by omega
      have hwx : w.heap.size ≤ wx.heap.size := by omega
      clear zx
      have e0 := HP.out.cell 0; have e1 := HP.out.cell 1; have e2 := HP.out.cell 2; have e3 := HP.out.cell 3; have e4 := HP.out.cell 4; have e5 := HP.out.cell 5
      rcases Nat.eq_zero_or_pos zs.length with hz | hz
      · have hm0 : decide (0 ≤ (zs.length : Int) - 1) = false := decide_eq_false (by omega)
        have hm1 : IntKind.i64.wrap ((zs.length : Int) - 1) = (zs.length : Int) - 1 := IntWalk.i64_in _ (by omega)
        have hm2 : ((1 : Int) ≤ (zs.length : Int)) = False := eq_false (by omega)
        have hl0 : zs.length + (j + 1) ≤ 8 := hl
        clear hz
        go_wp2_with (at_builtin; refine app_rec (enc := encNote) rfl _ _ 34 rfl (w.heap.size) 60 i0 (.agg #[Value.bool false, Value.int .i64 0, Value.int .i64 0, Value.int .i64 0, Value.int .i64 0, Value.bool false]) 48 Tryz.underlying34 HI.out H0.out H1.out H2.out rfl (by decide) (by decide) wx A c zs HO.out (by omega) (by omega) rfl (r1, s, a, o, t, d) [.bool r1, .int .i64 s, .int .i64 a, .int .i64 o, .int .i64 t, .bool d] rfl rfl (note_one _ _ _ _ _ _) (World.heap wx).size rfl rfl ?_; intro g4 cap4 w4 o_ gr_; have O4 := Lib.hid o_; have G4 := Lib.hid gr_; clear o_ gr_)
        go_roundw
        case rel => exact ⟨j, zs ++ [(r1, s, a, o, t, d)], some ⟨g4, 0, none⟩, cap4, by omega, by simp; omega, by go_num, by simp, by rw [List.length_append]; exact O4.out, (rdr_grw HR.out G4.out (fun k e9 => by have := HOB.out k e9; omega)).more (by omega), only_grw HG.out G4.out (fun k e9 => (HOB.out k e9).1)⟩
        case measure => simp [intOf]
      · obtain ⟨ga, cap, e9, -, -⟩ := HO.out.form (by omega)
        injection e9 with e9 e10 e11; subst e9; subst e11
        have hga := HOB.out ga rfl
        have HC : Hid (∀ (W : World) (c2 : Nat), W.ownsRow w.heap.size 60 6 (.slice (some ⟨ga, 0, none⟩) zs.length c2) zs.length (fl encNote zs) → ∀ jj, jj < 6 → W.cell? ⟨ga, (zs.length - 1) * 6 + jj, none⟩ = (encNote (glNote zs (zs.length - 1)))[jj]?) := Lib.hid (fun W c2 ho jj hjj => by
          have h1 := ho.cellAt ((zs.length - 1) * 6 + jj) (by omega)
          have h2 := (fl_at encNote_len (zs := zs) (k := zs.length - 1) (j := jj) (by omega) hjj)
          rw [glNote_get (by omega)] at h2
          exact h1.trans h2)
        have p0 : wx.cell? ⟨ga, (zs.length - 1) * 6, none⟩ = some (.bool (glNote zs (zs.length - 1)).1) := HC.out wx c HO.out 0 (by decide)
        have hb0 : ((1 : Int) ≤ (zs.length : Int)) = True := eq_true (by omega)
        have hb1 : ((zs.length : Int) - 1).toNat = zs.length - 1 := by omega
        have hb2 : (zs.length : Int) - 1 < (zs.length : Int) := by omega
        have hb3 : 0 ≤ (zs.length : Int) - 1 := by omega
        have hb4 : IntKind.i64.wrap ((zs.length : Int) - 1) = (zs.length : Int) - 1 := IntWalk.i64_in _ (by omega)
        generalize hLe : glNote zs (zs.length - 1) = L9 at *
        obtain ⟨lr, ls, la, lo9, lt, ld⟩ := L9
        dsimp only at p0
        cases lr
        case true =>
          go_wp2_with (at_builtin; refine app_rec (enc := encNote) rfl _ _ 34 rfl (w.heap.size) 60 i0 (.agg #[Value.bool false, Value.int .i64 0, Value.int .i64 0, Value.int .i64 0, Value.int .i64 0, Value.bool false]) 48 Tryz.underlying34 HI.out H0.out H1.out H2.out rfl (by decide) (by decide) wx (some ⟨ga, 0, none⟩) c zs HO.out (by omega) (by omega) rfl (r1, s, a, o, t, d) [.bool r1, .int .i64 s, .int .i64 a, .int .i64 o, .int .i64 t, .bool d] rfl rfl (note_one _ _ _ _ _ _) (World.heap wx).size rfl rfl ?_; intro g4 cap4 w4 o_ gr_; have O4 := Lib.hid o_; have G4 := Lib.hid gr_; clear o_ gr_)
          go_roundw
          case rel => exact ⟨j, zs ++ [(r1, s, a, o, t, d)], some ⟨g4, 0, none⟩, cap4, by omega, by simp; omega, by go_num, by simp, by rw [List.length_append]; exact O4.out, (rdr_grw HR.out G4.out (fun k e9 => by have := HOB.out k e9; omega)).more (by omega), only_grw HG.out G4.out (fun k e9 => (HOB.out k e9).1)⟩
          case measure => simp [intOf]
        case false =>
          go_upto_if 35 with (go_at_call_of 13 (Value.int IntKind.i64 4); refine (l20_pk g _ 4 _ (by first | with_reducible exact HR.out | with_reducible exact (HR.out).drew | with_reducible exact (HR.out).alloc1 _ | with_reducible exact ((HR.out).drew).alloc1 _ | with_reducible exact ((HR.out).alloc1 _).drew | with_reducible exact ((HR.out).alloc1 _).alloc1 _ | with_reducible exact (((HR.out).drew).alloc1 _).alloc1 _ | with_reducible exact (((HR.out).alloc1 _).alloc1 _).drew | with_reducible exact (((HR.out).alloc1 _).alloc1 _).alloc1 _ | with_reducible exact ((((HR.out).drew).alloc1 _).alloc1 _).alloc1 _ | with_reducible exact ((((HR.out).alloc1 _).alloc1 _).alloc1 _).drew) (by omega) (by omega)).mono ?_; rintro e w5 ⟨k5, rfl, hk5, r_, g_⟩; have z5 := g_.size; (try simp only [World.size_alloc, size_drew] at z5); have hne5 : ¬ w5.heap.size = g := (by omega); have hnf5 : ¬ w5.heap.size + 1 = g := (by omega); have hnh5 : ¬ w5.heap.size + 1 + 1 = g := (by omega); have hq5 := only_cells g_; replace HG := Lib.hid (only_trans (by first | with_reducible exact HG.out | with_reducible exact only_drew (HG.out) | with_reducible exact only_alloc (HG.out) _ | with_reducible exact only_alloc (only_drew (HG.out)) _ | with_reducible exact only_drew (only_alloc (HG.out) _) | with_reducible exact only_alloc (only_alloc (HG.out) _) _ | with_reducible exact only_alloc (only_alloc (only_drew (HG.out)) _) _ | with_reducible exact only_drew (only_alloc (only_alloc (HG.out) _) _) | with_reducible exact only_alloc (only_alloc (only_alloc (HG.out) _) _) _ | with_reducible exact only_alloc (only_alloc (only_alloc (only_drew (HG.out)) _) _) _ | with_reducible exact only_drew (only_alloc (only_alloc (only_alloc (HG.out) _) _) _)) g_); replace HR := Lib.hid r_; clear hq5; replace HO := Lib.hid (own_only2 HO.out g_ (by omega)); replace HP := Lib.hid (HP.out.only g_ (by omega)); clear r_ g_)
          clear p0 e0 e1 e2 e3 e4 e5
          have hx5 : xb < w5.heap.size := by omega
          by_cases hk5 : k5 = 0
          case neg =>
            have hk6 : ((k5 : Int) == 0) = false := by simp; omega
            have e0 := HP.out.cell 0; have e1 := HP.out.cell 1; have e2 := HP.out.cell 2; have e3 := HP.out.cell 3; have e4 := HP.out.cell 4; have e5 := HP.out.cell 5
            go_wp2_with (at_builtin; refine app_rec (enc := encNote) rfl _ _ 34 rfl (w.heap.size) 60 i0 (.agg #[Value.bool false, Value.int .i64 0, Value.int .i64 0, Value.int .i64 0, Value.int .i64 0, Value.bool false]) 48 Tryz.underlying34 HI.out H0.out H1.out H2.out rfl (by decide) (by decide) w5 (some ⟨ga, 0, none⟩) c zs HO.out (by omega) (by omega) rfl (r1, s, a, o, t, d) [.bool r1, .int .i64 s, .int .i64 a, .int .i64 o, .int .i64 t, .bool d] rfl rfl (note_one _ _ _ _ _ _) (World.heap w5).size rfl rfl ?_; intro g4 cap4 w4 o_ gr_; have O4 := Lib.hid o_; have G4 := Lib.hid gr_; clear o_ gr_)
            go_roundw
            case rel => exact ⟨j, zs ++ [(r1, s, a, o, t, d)], some ⟨g4, 0, none⟩, cap4, by omega, by simp; omega, by go_num, by simp, by rw [List.length_append]; exact O4.out, (rdr_grw HR.out G4.out (fun k e9 => by have := HOB.out k e9; omega)).more (by omega), only_grw HG.out G4.out (fun k e9 => (HOB.out k e9).1)⟩
            case measure => simp [intOf]
          case pos =>
            have hk6 : ((k5 : Int) == 0) = true := by simp; omega
            have e0 := HP.out.cell 0; have f0 := HP.out.frozen 0
            go_upto_region 9 with fail
            replace HP := Lib.hid (HP.out.set_ 0 (.bool false)); replace HR := Lib.hid (HR.out.setFar (p := ⟨xb, 0, none⟩) (by simp; omega) (.bool false)); replace HG := Lib.hid (only_setCell HG.out (p := ⟨xb, 0, none⟩) (.inr (by simp; omega)) (.bool false)); replace HO := Lib.hid (own_far HO.out (p := ⟨xb, 0, none⟩) HXB.out (.bool false))
            have zy : w5.heap.size ≤ (w5.setCell ⟨xb, 0, none⟩ (.bool false)).heap.size := by simp
            generalize w5.setCell ⟨xb, 0, none⟩ (.bool false) = wy at *
            clear e0 f0
            have e1 := HP.out.cell 1; have f1 := HP.out.frozen 1; have e2 := HP.out.cell 2; have f2 := HP.out.frozen 2; have e3 := HP.out.cell 3; have f3 := HP.out.frozen 3
            have p1 : wy.cell? ⟨ga, (zs.length - 1) * 6 + 1, none⟩ = some (.int .i64 ls) := by have h := HC.out wy c HO.out 1 (by decide); exact h
            have p2 : wy.cell? ⟨ga, (zs.length - 1) * 6 + 1 + 1, none⟩ = some (.int .i64 la) := by have h := HC.out wy c HO.out 2 (by decide); exact h
            have p3 : wy.cell? ⟨ga, (zs.length - 1) * 6 + 1 + 2, none⟩ = some (.int .i64 lo9) := by have h := HC.out wy c HO.out 3 (by decide); exact h
            go_upto_region 10 with fail
            replace HP := Lib.hid (HP.out.set_ 1 (.int .i64 ls)); replace HR := Lib.hid (HR.out.setFar (p := ⟨xb, 1, none⟩) (by simp; omega) (.int .i64 ls)); replace HG := Lib.hid (only_setCell HG.out (p := ⟨xb, 1, none⟩) (.inr (by simp; omega)) (.int .i64 ls)); replace HO := Lib.hid (own_far HO.out (p := ⟨xb, 1, none⟩) HXB.out (.int .i64 ls))
            replace HP := Lib.hid (HP.out.set_ 2 (.int .i64 la)); replace HR := Lib.hid (HR.out.setFar (p := ⟨xb, 2, none⟩) (by simp; omega) (.int .i64 la)); replace HG := Lib.hid (only_setCell HG.out (p := ⟨xb, 2, none⟩) (.inr (by simp; omega)) (.int .i64 la)); replace HO := Lib.hid (own_far HO.out (p := ⟨xb, 2, none⟩) HXB.out (.int .i64 la))
            replace HP := Lib.hid (HP.out.set_ 3 (.int .i64 lo9)); replace HR := Lib.hid (HR.out.setFar (p := ⟨xb, 3, none⟩) (by simp; omega) (.int .i64 lo9)); replace HG := Lib.hid (only_setCell HG.out (p := ⟨xb, 3, none⟩) (.inr (by simp; omega)) (.int .i64 lo9)); replace HO := Lib.hid (own_far HO.out (p := ⟨xb, 3, none⟩) HXB.out (.int .i64 lo9))
            have zz : (((wy.setCell ⟨xb, 1, none⟩ (.int .i64 ls)).setCell ⟨xb, 2, none⟩ (.int .i64 la)).setCell ⟨xb, 3, none⟩ (.int .i64 lo9)).heap.size ≥ wy.heap.size := by simp
            generalize hwz : ((wy.setCell ⟨xb, 1, none⟩ (.int .i64 ls)).setCell ⟨xb, 2, none⟩ (.int .i64 la)).setCell ⟨xb, 3, none⟩ (.int .i64 lo9) = wz at *
            clear e1 f1 e2 f2 e3 f3 p1 p2 p3
            go_upto_region 11 with (go_at_call_of 13 (Value.int IntKind.i64 4); refine (l20_pk g _ 4 _ (by first | with_reducible exact HR.out | with_reducible exact (HR.out).drew | with_reducible exact (HR.out).alloc1 _ | with_reducible exact ((HR.out).drew).alloc1 _ | with_reducible exact ((HR.out).alloc1 _).drew | with_reducible exact ((HR.out).alloc1 _).alloc1 _ | with_reducible exact (((HR.out).drew).alloc1 _).alloc1 _ | with_reducible exact (((HR.out).alloc1 _).alloc1 _).drew | with_reducible exact (((HR.out).alloc1 _).alloc1 _).alloc1 _ | with_reducible exact ((((HR.out).drew).alloc1 _).alloc1 _).alloc1 _ | with_reducible exact ((((HR.out).alloc1 _).alloc1 _).alloc1 _).drew) (by omega) (by omega)).mono ?_; rintro e w7 ⟨k7, rfl, hk7, r_, g_⟩; have z7 := g_.size; (try simp only [World.size_alloc, size_drew] at z7); have hne7 : ¬ w7.heap.size = g := (by omega); have hnf7 : ¬ w7.heap.size + 1 = g := (by omega); have hnh7 : ¬ w7.heap.size + 1 + 1 = g := (by omega); have hq7 := only_cells g_; replace HG := Lib.hid (only_trans (by first | with_reducible exact HG.out | with_reducible exact only_drew (HG.out) | with_reducible exact only_alloc (HG.out) _ | with_reducible exact only_alloc (only_drew (HG.out)) _ | with_reducible exact only_drew (only_alloc (HG.out) _) | with_reducible exact only_alloc (only_alloc (HG.out) _) _ | with_reducible exact only_alloc (only_alloc (only_drew (HG.out)) _) _ | with_reducible exact only_drew (only_alloc (only_alloc (HG.out) _) _) | with_reducible exact only_alloc (only_alloc (only_alloc (HG.out) _) _) _ | with_reducible exact only_alloc (only_alloc (only_alloc (only_drew (HG.out)) _) _) _ | with_reducible exact only_drew (only_alloc (only_alloc (only_alloc (HG.out) _) _) _)) g_); replace HR := Lib.hid r_; clear hq7; replace HO := Lib.hid (own_only2 HO.out g_ (by omega)); replace HP := Lib.hid (HP.out.only g_ (by omega)); have p5 : w7.cell? ⟨ga, (zs.length - 1) * 6 + 5, none⟩ = some (.bool ld) := (by have h := HC.out w7 c HO.out 5 (by decide); exact h); have f5 := HO.out.frozenAt ((zs.length - 1) * 6 + 5); clear r_ g_)
            clear p5 f5
            generalize hbt : decide (0 < k7) = bt at *
            have HS := Lib.hid (HO.out.stored ((zs.length - 1) * 6 + 5) (.bool bt)).1
            have HE : Hid ((fl encNote zs).set ((zs.length - 1) * 6 + 5) (.bool bt) = fl encNote (zs.set (zs.length - 1) (false, ls, la, lo9, lt, bt))) := Lib.hid (fl_set encNote_len (by decide) (by omega) (by rw [glNote_get (by omega), hLe]; rfl))
            rw [HE.out] at HS
            replace HP := Lib.hid (HP.out.far (p := ⟨ga, (zs.length - 1) * 6 + 5, none⟩) (by have := hga; simp; omega) (.bool bt))
            replace HR := Lib.hid (HR.out.setFar (p := ⟨ga, (zs.length - 1) * 6 + 5, none⟩) (by simp; omega) (.bool bt))
            replace HG := Lib.hid (only_setCell HG.out (p := ⟨ga, (zs.length - 1) * 6 + 5, none⟩) (.inr (by simp; omega)) (.bool bt))
            have zv : w7.heap.size ≤ (w7.setCell ⟨ga, (zs.length - 1) * 6 + 5, none⟩ (.bool bt)).heap.size := by simp
            generalize w7.setCell ⟨ga, (zs.length - 1) * 6 + 5, none⟩ (.bool bt) = wv at *
            obtain ⟨zs9, hzs9⟩ : ∃ zs9, zs9 = zs.set (zs.length - 1) (false, ls, la, lo9, lt, bt) := ⟨_, rfl⟩
            have hl9 : zs.length = zs9.length := by rw [hzs9, List.length_set]
            have HO9 : Hid (wv.ownsRow w.heap.size 60 6 (.slice (some ⟨ga, 0, none⟩) zs9.length c) zs9.length (fl encNote zs9)) := by rw [← hl9, hzs9]; exact HS
            have hl8 : zs9.length + (j + 1) ≤ 8 := by omega
            clear hzs9 HS HE HO HC hLe
            rw [hl9]
            clear hl9 hb0 hb1 hb2 hb3 hb4
            have e0 := HP.out.cell 0; have e1 := HP.out.cell 1; have e2 := HP.out.cell 2; have e3 := HP.out.cell 3; have e4 := HP.out.cell 4; have e5 := HP.out.cell 5
            go_wp2_with (at_builtin; refine app_rec (enc := encNote) rfl _ _ 34 rfl (w.heap.size) 60 i0 (.agg #[Value.bool false, Value.int .i64 0, Value.int .i64 0, Value.int .i64 0, Value.int .i64 0, Value.bool false]) 48 Tryz.underlying34 HI.out H0.out H1.out H2.out rfl (by decide) (by decide) wv (some ⟨ga, 0, none⟩) c zs9 HO9.out (by omega) (by omega) rfl (false, ls, la, lo9, t, d) [.bool false, .int .i64 ls, .int .i64 la, .int .i64 lo9, .int .i64 t, .bool d] rfl rfl (note_one _ _ _ _ _ _) (World.heap wv).size rfl rfl ?_; intro g4 cap4 w4 o_ gr_; have O4 := Lib.hid o_; have G4 := Lib.hid gr_; clear o_ gr_)
            go_roundw
            case rel => exact ⟨j, zs9 ++ [(false, ls, la, lo9, t, d)], some ⟨g4, 0, none⟩, cap4, by omega, by simp; omega, by go_num, by simp, by rw [List.length_append]; exact O4.out, (rdr_grw HR.out G4.out (fun k e9 => by have := HOB.out k e9; omega)).more (by omega), only_grw HG.out G4.out (fun k e9 => (HOB.out k e9).1)⟩
            case measure => simp [intOf]
    · obtain rfl : j = 0 := by omega
      have HOB := Lib.hid (own_ob HO.out)
      go_upto_if 56 with (go_at_call 33; refine (l20_oddn g _ n _ HR.out (by omega) hn).mono ?_; rintro e w6 ⟨v6, rfl, r_, g_⟩; have z6 := g_.size; replace HO := Lib.hid (own_only2 HO.out g_ (by omega)); replace HG := Lib.hid (only_trans HG.out g_); replace HR := Lib.hid r_; clear r_ g_)
      cases v6
      · go_wp2_with fail
        go_ret
        exact ⟨A, c, zs, rfl, by omega, HO.out, HR.out.more (by omega), HG.out⟩
      · go_upto_region 16 with (go_at_call_of 13 (Value.int IntKind.i64 3); refine (l20_pk g _ 3 _ (by first | with_reducible exact HR.out | with_reducible exact (HR.out).drew | with_reducible exact (HR.out).alloc1 _ | with_reducible exact ((HR.out).drew).alloc1 _ | with_reducible exact ((HR.out).alloc1 _).drew | with_reducible exact ((HR.out).alloc1 _).alloc1 _ | with_reducible exact (((HR.out).drew).alloc1 _).alloc1 _ | with_reducible exact (((HR.out).alloc1 _).alloc1 _).drew | with_reducible exact (((HR.out).alloc1 _).alloc1 _).alloc1 _ | with_reducible exact ((((HR.out).drew).alloc1 _).alloc1 _).alloc1 _ | with_reducible exact ((((HR.out).alloc1 _).alloc1 _).alloc1 _).drew) (by omega) (by omega)).mono ?_; rintro e w7 ⟨k7, rfl, hk7, r_, g_⟩; have z7 := g_.size; (try simp only [World.size_alloc, size_drew] at z7); have hne7 : ¬ w7.heap.size = g := (by omega); have hnf7 : ¬ w7.heap.size + 1 = g := (by omega); have hnh7 : ¬ w7.heap.size + 1 + 1 = g := (by omega); have hq7 := only_cells g_; replace HG := Lib.hid (only_trans (by first | with_reducible exact HG.out | with_reducible exact only_drew (HG.out) | with_reducible exact only_alloc (HG.out) _ | with_reducible exact only_alloc (only_drew (HG.out)) _ | with_reducible exact only_drew (only_alloc (HG.out) _) | with_reducible exact only_alloc (only_alloc (HG.out) _) _ | with_reducible exact only_alloc (only_alloc (only_drew (HG.out)) _) _ | with_reducible exact only_drew (only_alloc (only_alloc (HG.out) _) _) | with_reducible exact only_alloc (only_alloc (only_alloc (HG.out) _) _) _ | with_reducible exact only_alloc (only_alloc (only_alloc (only_drew (HG.out)) _) _) _ | with_reducible exact only_drew (only_alloc (only_alloc (only_alloc (HG.out) _) _) _)) g_); replace HR := Lib.hid r_; clear hq7; replace HO := Lib.hid (own_only2 HO.out g_ (by omega)); clear r_ g_)
        have hkc : ((k7 : Int) == 0) = true ∨ (((k7 : Int) == 0) = false ∧ ((k7 : Int) == 1) = true) ∨ (((k7 : Int) == 0) = false ∧ ((k7 : Int) == 1) = false) := by simp; omega
        rcases hkc with g0 | ⟨g0, g1⟩ | ⟨g0, g1⟩
        · go_wp2_with (first
            | (go_at_call 59; refine (spec_l20Note g _ 1 _ HR.out (by omega) (by omega)).mono ?_; rintro e w3 ⟨r1, s, a, o, t, d, rfl, r_, g_⟩; have z3 := g_.size; replace HO := Lib.hid (own_only2 HO.out g_ (by omega)); replace HG := Lib.hid (only_trans HG.out g_); replace HR := Lib.hid r_; clear r_ g_)
            | (at_builtin; refine app_rec (enc := encNote) rfl _ _ 34 rfl (w.heap.size) 60 i0 (.agg #[Value.bool false, Value.int .i64 0, Value.int .i64 0, Value.int .i64 0, Value.int .i64 0, Value.bool false]) 48 Tryz.underlying34 HI.out H0.out H1.out H2.out rfl (by decide) (by decide) w3 A c zs HO.out (by omega) (by omega) rfl (r1, s, a, o, t, d) [.bool r1, .int .i64 s, .int .i64 a, .int .i64 o, .int .i64 t, .bool d] rfl rfl (note_one _ _ _ _ _ _) (World.heap w3).size rfl rfl ?_; intro g4 cap4 w4 o_ gr_; have O4 := Lib.hid o_; have G4 := Lib.hid gr_; clear o_ gr_))
          go_ret
          exact ⟨some ⟨g4, 0, none⟩, cap4, zs ++ [(r1, s, a, o, t, d)], by simp, by simp; omega, by rw [List.length_append]; exact O4.out, (rdr_grw HR.out G4.out (fun k e9 => by have := HOB.out k e9; omega)).more (by omega), only_grw HG.out G4.out (fun k e9 => (HOB.out k e9).1)⟩
        · go_wp2_with (at_builtin; refine app_rec (enc := encNote) rfl _ _ 34 rfl (w.heap.size) 60 i0 (.agg #[Value.bool false, Value.int .i64 0, Value.int .i64 0, Value.int .i64 0, Value.int .i64 0, Value.bool false]) 48 Tryz.underlying34 HI.out H0.out H1.out H2.out rfl (by decide) (by decide) w7 A c zs HO.out (by omega) (by omega) rfl (false, 0, 0, 0, 12, true) [.bool false, .int .i64 0, .int .i64 0, .int .i64 0, .int .i64 12, .bool true] rfl rfl (note_one _ _ _ _ _ _) (World.heap w7).size rfl rfl ?_; intro g4 cap4 w4 o_ gr_; have O4 := Lib.hid o_; have G4 := Lib.hid gr_; clear o_ gr_)
          go_ret
          exact ⟨some ⟨g4, 0, none⟩, cap4, zs ++ [(false, 0, 0, 0, 12, true)], by simp, by simp; omega, by rw [List.length_append]; exact O4.out, (rdr_grw HR.out G4.out (fun k e9 => by have := HOB.out k e9; omega)).more (by omega), only_grw HG.out G4.out (fun k e9 => (HOB.out k e9).1)⟩
        · go_wp2_with fail
          go_loopw [5] (fun v wr => ∃ (zs : List Nt) (A : Option Addr) (c : Nat), zs.length ≤ 61 ∧ v = .slice A zs.length c ∧ wr.ownsRow w.heap.size 60 6 (.slice A zs.length c) zs.length (fl encNote zs) ∧ Rdr wr g (q + 170) ∧ w.grownBy wr (some g)) (fun v _ => 61 - lenV v)
          case atStart => exact ⟨zs, A, c, by omega, rfl, HO.out, HR.out.more (by omega), HG.out⟩
          case round =>
            clear HO HR HG HOB hl
            obtain ⟨zs, A, c, hl, rfl, ho, hrd, hgr⟩ := hrel
            have zr := hgr.size
            have HR := Lib.hid hrd; have HG := Lib.hid hgr; have HO := Lib.hid ho
            have HOB := Lib.hid (own_ob ho)
            clear hrd hgr ho
            by_cases h60 : zs.length ≤ 60
            · have h61 : ((zs.length : Int) ≤ 60) = True := eq_true (by omega)
              go_wp2_with (at_builtin; refine app_rec (enc := encNote) rfl _ _ 34 rfl (w.heap.size) 60 i0 (.agg #[Value.bool false, Value.int .i64 0, Value.int .i64 0, Value.int .i64 0, Value.int .i64 0, Value.bool false]) 48 Tryz.underlying34 HI.out H0.out H1.out H2.out rfl (by decide) (by decide) wr A c zs HO.out (by omega) (by omega) rfl (true, 0, 0, 0, 12, false) [.bool true, .int .i64 0, .int .i64 0, .int .i64 0, .int .i64 12, .bool false] rfl rfl (note_one _ _ _ _ _ _) (World.heap wr).size rfl rfl ?_; intro g4 cap4 w4 o_ gr_; have O4 := Lib.hid o_; have G4 := Lib.hid gr_; clear o_ gr_)
              go_roundw
              case rel => exact ⟨zs ++ [(true, 0, 0, 0, 12, false)], some ⟨g4, 0, none⟩, cap4, by simp; omega, by simp, by rw [List.length_append]; exact O4.out, (rdr_grw HR.out G4.out (fun k e9 => by have := HOB.out k e9; omega)).more (by omega), only_grw HG.out G4.out (fun k e9 => (HOB.out k e9).1)⟩
              case measure => simp [lenV]; omega
            · have h61 : ((zs.length : Int) ≤ 60) = False := eq_false (by omega)
              go_wp2_with fail
              go_ret
              exact ⟨A, c, zs, rfl, hl, HO.out, HR.out, HG.out⟩
end Go.Proofs.YtmodpleonhniaaaGreatDoor

/- Contracts of the helpers of the exact laws on slices of Tempo: copy, compare, write, look. Conditions: lengths at most 2^20 where memory is made. -/
namespace Go.Proofs.YtmodpleonhniaaaGreatDoor
open Go.RowKit
set_option linter.unusedSimpArgs false
set_option linter.unusedVariables false
/-- a record of 2 ints -/
def encTempo (z : Int × Int) : List Value := [.int .i64 (z.1), .int .i64 (z.2)]
theorem encTempo_len (z : Int × Int) : (encTempo z).length = 2 := rfl
def RdTempo (w : World) (B : Nat) (A : Option Addr) (zs : List (Int × Int)) : Prop := RdR encTempo 2 w B A zs
def glTempo (zs : List (Int × Int)) (k : Nat) : Int × Int := zs.getD k (0, 0)
theorem glTempo_get {zs : List (Int × Int)} {k : Nat} (h : k < zs.length) : zs[k] = glTempo zs k := by simp [glTempo, h]
theorem RdTempo.at_ {w : World} {B : Nat} {A : Option Addr} {zs : List (Int × Int)} {k : Nat} (h : RdTempo w B A zs) (hk : k < zs.length) :
    ∃ b off, A = some ⟨b, off, none⟩ ∧ b < B ∧ w.cell? ⟨b, off + k * 2, none⟩ = some (.int .i64 ((glTempo zs k).1)) ∧ w.cell? ⟨b, off + k * 2 + 1, none⟩ = some (.int .i64 ((glTempo zs k).2)) := by
  obtain ⟨b, off, e, hb, hc⟩ := RdR.at_ encTempo_len h hk
  rw [glTempo_get hk] at hc
  exact ⟨b, off, e, hb, hc 0 _ rfl, hc 1 _ rfl⟩
theorem RdTempo.below {w w' : World} {B C : Nat} {A : Option Addr} {zs : List (Int × Int)} (h : RdTempo w B A zs) (hb : Below C w w') (hB : B ≤ C) : RdTempo w' B A zs := RdR.below h hb hB
theorem RdTempo.more {w : World} {B C : Nat} {A : Option Addr} {zs : List (Int × Int)} (h : RdTempo w B A zs) (hB : B ≤ C) : RdTempo w C A zs := RdR.more h hB
theorem RdTempo.drewN {w : World} {B : Nat} {A : Option Addr} {zs : List (Int × Int)} (h : RdTempo w B A zs) (k : Nat) : RdTempo (w.drewN k) B A zs := h
theorem RdTempo.al {w : World} {B : Nat} {A : Option Addr} {zs : List (Int × Int)} (h : RdTempo w B A zs) (hB : B ≤ w.heap.size) (o : Obj) : RdTempo (w.alloc o) B A zs := RdR.al h hB o
theorem RdTempo.far {w w' : World} {B lo' hi' E' size' c' n' : Nat} {A A' : Option Addr} {xs' : List Value} {zs : List (Int × Int)} (h : RdTempo w B A zs) (h' : Row w lo' hi' E' size' A' c' n' xs')
    (hg : w.grownBy w' (Value.slice A' n' c').ownBlock) (hw : B ≤ w.heap.size) (hd : B ≤ lo') : RdTempo w' B A zs := RdR.far h h' hg hw hd
theorem Row.rdTempo {w : World} {lo hi E c : Nat} {A : Option Addr} {zs : List (Int × Int)} (h : Row w lo hi E 2 A c zs.length (fl encTempo zs)) : RdTempo w hi A zs := h.rdR
def eqbTempo (x y : Int × Int) : Bool := decide (x = y)
def sameTempo (xs ys : List (Int × Int)) : Bool := decide (xs = ys)
theorem sameTempo_refl (a : List (Int × Int)) : sameTempo a a = true := by simp [sameTempo]
theorem take_succ_Tempo {zs : List (Int × Int)} {k : Nat} (h : k < zs.length) : zs.take (k + 1) = zs.take k ++ [glTempo zs k] := by rw [List.take_succ_eq_append_getElem h, glTempo_get h]
theorem take_ne_Tempo {xs ys : List (Int × Int)} {k : Nat} (h : k < xs.length) (h' : k < ys.length) (hne : glTempo xs k ≠ glTempo ys k) : sameTempo xs ys = false := by
  simp only [sameTempo, decide_eq_false_iff_not]
  rintro rfl
  exact hne rfl
theorem infoTempo : (Tryz.prog.info? 78).map (fun i => (i.zero, i.size, i.bytes)) = some (some (Value.agg #[Value.int .i64 0, Value.int .i64 0]), 2, 16) := by kernel_rfl
/-- k, k + 1, .. -/
def upTempo (k : Int) (n : Nat) : List (Int × Int) := (List.range n).map fun (j : Nat) => (k + 2 * (j : Int), k + 2 * (j : Int) + 1)
theorem upTempo_length (k : Int) (n : Nat) : (upTempo k n).length = n := by simp [upTempo]
theorem upTempo_at (k : Int) (n j : Nat) (h : j < n) : glTempo (upTempo k n) j = (k + 2 * (j : Int), k + 2 * (j : Int) + 1) := by simp [glTempo, upTempo, h]
theorem upTempo_succ (k : Int) (n : Nat) : upTempo k (n + 1) = upTempo k n ++ [(k + 2 * (n : Int), k + 2 * (n : Int) + 1)] := by simp [upTempo, List.range_succ]
def setUpTempo (cur : Array Value) (k : Int) (j : Nat) : Array Value := (fl encTempo (upTempo k j) ++ cur.toList.drop (j * 2)).toArray
theorem setUpTempo_zero (cur : Array Value) (k : Int) : setUpTempo cur k 0 = cur := by simp [setUpTempo, upTempo, fl]
theorem setUpTempo_size (cur : Array Value) (k : Int) (j : Nat) (h : j * 2 ≤ cur.size) : (setUpTempo cur k j).size = cur.size := by
  simp only [setUpTempo, List.size_toArray, List.length_append, List.length_drop, Array.length_toList]
  rw [fl_length encTempo_len, upTempo_length]; omega
theorem setUpTempo_at (cur : Array Value) (k : Int) (j i : Nat) (h : j * 2 + i < cur.size) : ∃ u, (setUpTempo cur k j)[j * 2 + i]? = some u := ⟨_, Array.getElem?_eq_getElem (by rw [setUpTempo_size _ _ _ (by omega)]; exact h)⟩
theorem setUpTempo_set (cur : Array Value) (k : Int) (j : Nat) (h : j * 2 + 2 ≤ cur.size) : setR (setUpTempo cur k j) (j * 2) [.int .i64 (k + 2 * (j : Int)), .int .i64 (k + 2 * (j : Int) + 1)] = setUpTempo cur k (j + 1) := by
  have e : cur.toList.drop (j * 2) = (cur.toList.drop (j * 2)).take 2 ++ cur.toList.drop ((j + 1) * 2) := by
    rw [show (j + 1) * 2 = j * 2 + 2 by omega, ← List.drop_drop, List.take_append_drop]
  have hl : (fl encTempo (upTempo k j)).length = j * 2 := by rw [fl_length encTempo_len, upTempo_length]
  unfold setUpTempo
  rw [e, ← List.append_assoc, setR_mid _ _ _ _ _ hl.symm (by simp; omega), upTempo_succ, fl_append, fl_one]
  rfl
theorem Blk.setsTempo {w : World} {g : Nat} {t : TypeId} {cs : Array Value} (h : Blk w g t cs) (p : Nat) (v0 v1 : Value) : Blk ((w.setCell ⟨g, p, none⟩ v0).setCell ⟨g, p + 1, none⟩ v1) g t (setR cs p [v0, v1]) := by
  simp only [setR]
  exact ((h.set_ (p) _).set_ (p + 1) _)
theorem only_setsTempo {a w : World} {g : Nat} (h : a.grownBy w (some g)) (p : Nat) (v0 v1 : Value) : a.grownBy ((w.setCell ⟨g, p, none⟩ v0).setCell ⟨g, p + 1, none⟩ v1) (some g) := (only_setCell (only_setCell h (.inl rfl) _) (.inl rfl) _)
end Go.Proofs.YtmodpleonhniaaaGreatDoor
