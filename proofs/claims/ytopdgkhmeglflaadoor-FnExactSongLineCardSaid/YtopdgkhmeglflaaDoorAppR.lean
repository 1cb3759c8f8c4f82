/- Append of one record onto a row of the call's own, with what it leaves alone: in a plain region and in one that draws its order. No condition but sizes. -/
import Derived.Test.YtopdgkhmeglflaaDoorRecs
import Derived.Test.YtopdgkhmeglflaaDoorMrg1
import Derived.Deep.RegionLaw
import Derived.Deep.AppendLies
namespace Go.Proofs.YtopdgkhmeglflaaDoor
open Go.RowKit
set_option linter.unusedSimpArgs false
set_option linter.unusedVariables false
def obA (A : Option Addr) : Option Nat := A.map (·.block)
theorem ob_slice (A : Option Addr) (n c : Nat) : (Value.slice A n c).ownBlock = obA A := by cases A <;> rfl
/-- what appends have turned: the row's own block and nothing else of old -/
def Grw (w w' : World) (A A2 : Option Addr) : Prop := w.grownBy w' (obA A) ∧ (obA A2 = obA A ∨ ∃ g, obA A2 = some g ∧ w.heap.size ≤ g)
theorem grown_trans2 {a b c : World} {row row2 : Option Nat} (h : a.grownBy b row) (h2 : b.grownBy c row2) (hr : row2 = row ∨ ∃ g, row2 = some g ∧ a.heap.size ≤ g) : a.grownBy c row :=
  ⟨h2.os.trans h.os, h2.tape.trans h.tape, h2.output.trans h.output, Nat.le_trans h.size h2.size, fun k hk hne => (h2.block k (Nat.lt_of_lt_of_le hk h.size) (fun e => by
    rcases hr with e2 | ⟨g, e2, hg⟩
    · exact hne (e.trans e2)
    · rw [e2] at e; injection e with e; omega)).trans (h.block k hk hne)⟩
theorem Grw.refl (w : World) (A : Option Addr) : Grw w w A A := ⟨only_refl w _, .inl rfl⟩
theorem Grw.trans {a b c : World} {A B C : Option Addr} (h : Grw a b A B) (h2 : Grw b c B C) : Grw a c A C := by
  refine ⟨grown_trans2 h.1 h2.1 h.2, ?_⟩
  rcases h2.2 with e | ⟨g, e, hg⟩
  · rw [e]; exact h.2
  · exact .inr ⟨g, e, Nat.le_trans h.1.size hg⟩
theorem Grw.below {w w' : World} {A A2 : Option Addr} {B : Nat} (h : Grw w w' A A2) (hB : B ≤ w.heap.size) (ho : ∀ k, obA A = some k → B ≤ k) : Below B w w' := (Below.refl _ _).grown h.1 hB ho
theorem Grw.blk {w w' : World} {A A2 : Option Addr} {nb : Nat} {t : TypeId} {cs : Array Value} (h : Grw w w' A A2) (hb : Blk w nb t cs) (hne : obA A ≠ some nb) : Blk w' nb t cs := (h.1.block nb hb.lt (fun e => hne e.symm)).trans hb
theorem Grw.ne {w w' : World} {A A2 : Option Addr} {nb : Nat} (h : Grw w w' A A2) (hn : nb < w.heap.size) (hne : obA A ≠ some nb) : obA A2 ≠ some nb := by
  rcases h.2 with e | ⟨g, e, hg⟩
  · rw [e]; exact hne
  · rw [e]; intro e2; injection e2 with e2; omega
theorem app_rec {α : Type} {enc : α → List Value} {s : Nat} {P : Program} {ops : Array Oper} {rest : List Oper} {o : Oper} {a : Act} {Q : Exit → Act → World → Prop} (hgd : o.guard = none) (sl x : Operand) (t : TypeId)
    (ho : o.op = .call { callee := .builtin .append, args := #[sl, x], argTypes := #[t, t] })
    (lo : Nat) (e : TypeId) (i : TypeInfo) (z : Value) (bytes : Nat) (ht : P.underlying t = some (.slice e)) (hi : P.info? e = some i) (hz : i.zero = some z)
    (hsize : i.size = s) (hby : i.bytes = bytes) (hzs : z.cells.size = s) (hsz : 0 < s) (hb64 : bytes ≤ 64)
    (W : World) (A : Option Addr) (c : Nat) (zs : List α) (hown : W.ownsRow lo e s (.slice A zs.length c) zs.length (fl enc zs)) (hlo : lo ≤ W.heap.size) (hn : zs.length ≤ 4194304)
    (hs : a.eval sl = .slice A zs.length c) (y : α) (us : List Value) (hus : us = enc y) (hul : us.length = s) (hone : ∀ u ∈ us, u.oneCell' = true) (gx : Nat) (hgx : gx = W.heap.size) (hx : a.eval x = .slice (some ⟨gx, 0, none⟩) 1 1)
    (h : ∀ g cap w', w'.ownsRow lo e s (.slice (some ⟨g, 0, none⟩) (zs.length + 1) cap) (zs.length + 1) (fl enc (zs ++ [y])) → Grw W w' A (some ⟨g, 0, none⟩) → wpList P ops Q rest (a.put o.dst (.slice (some ⟨g, 0, none⟩) (zs.length + 1) cap)) w') :
    wpList P ops Q (o :: rest) a (W.alloc (.cells us.toArray e)) := by
  subst hgx
  have hmul : (zs.length + 1) * bytes ≤ (4194304 + 1) * 64 := Nat.mul_le_mul (by omega) hb64
  refine wpList_append_lies _ hgd sl x t ho lo e i z s bytes ht hi hz hsize hby hzs hsz _ zs.length (fl enc zs) hs (hown.alloc _) ⟨W.heap.size, 0, none⟩ 1 1 us hx (by omega) ?_ hone (by omega) (by unfold maxLen; omega) (by omega) (by simp; omega) _ rfl ?_
  · intro j u hu
    rw [Go.WideShapes.add_plain, Nat.zero_add]
    exact ((Blk.new W e us.toArray).cell j).trans (by simpa using hu)
  · intro g cap w' ho' hg hat hlt
    subst hus
    refine h g cap w' (by rw [fl_append, fl_one]; exact ho') ⟨?_, ?_⟩
    · have ha := World.grownBy_alloc W (.cells (enc y).toArray e) (obA A)
      rw [ob_slice] at hg
      exact grown_trans2 ha hg (.inl rfl)
    · rw [ob_slice] at hat
      rcases hat with e1 | e1
      · exact .inl e1.symm
      · exact .inr ⟨g, rfl, by rw [e1]; simp⟩
theorem step_app_rec {α : Type} {enc : α → List Value} {s : Nat} {P : Program} {ops : Array Oper} {o : Oper} {a : Act} {K : Act → World → Prop} {Q : Exit → Act → World → Prop} {E : Prop} (hgd : o.guard = none) (sl x : Operand) (t : TypeId)
    (ho : o.op = .call { callee := .builtin .append, args := #[sl, x], argTypes := #[t, t] })
    (lo : Nat) (e : TypeId) (i : TypeInfo) (z : Value) (bytes : Nat) (ht : P.underlying t = some (.slice e)) (hi : P.info? e = some i) (hz : i.zero = some z)
    (hsize : i.size = s) (hby : i.bytes = bytes) (hzs : z.cells.size = s) (hsz : 0 < s) (hb64 : bytes ≤ 64)
    (W : World) (A : Option Addr) (c : Nat) (zs : List α) (hs : a.eval sl = .slice A zs.length c) (hown : W.ownsRow lo e s (.slice A zs.length c) zs.length (fl enc zs)) (hlo : lo ≤ W.heap.size) (hn : zs.length ≤ 4194304)
    (y : α) (us : List Value) (hus : us = enc y) (hul : us.length = s) (hone : ∀ u ∈ us, u.oneCell' = true) (hx : a.eval x = .slice (some ⟨W.heap.size, 0, none⟩) 1 1)
    (h : ∀ g cap w', w'.ownsRow lo e s (.slice (some ⟨g, 0, none⟩) (zs.length + 1) cap) (zs.length + 1) (fl enc (zs ++ [y])) → Grw W w' A (some ⟨g, 0, none⟩) → K (a.put o.dst (.slice (some ⟨g, 0, none⟩) (zs.length + 1) cap)) w') :
    if Region.wanted o (yielded ops a.tmps) = true then Oper.wp P o a (W.alloc (.cells us.toArray e)) K Q else E := by
  have hmul : (zs.length + 1) * bytes ≤ (4194304 + 1) * 64 := Nat.mul_le_mul (by omega) hb64
  refine step_append_lies _ hgd sl x t ho lo e i z s bytes ht hi hz hsize hby hzs hsz _ zs.length (fl enc zs) hs (hown.alloc _) ⟨W.heap.size, 0, none⟩ 1 1 us hx (by omega) ?_ hone (by omega) (by unfold maxLen; omega) (by omega) (by simp; omega) _ rfl ?_
  · intro j u hu
    rw [Go.WideShapes.add_plain, Nat.zero_add]
    exact ((Blk.new W e us.toArray).cell j).trans (by simpa using hu)
  · intro g cap w' ho' hg hat hlt
    subst hus
    refine h g cap w' (by rw [fl_append, fl_one]; exact ho') ⟨?_, ?_⟩
    · have ha := World.grownBy_alloc W (.cells (enc y).toArray e) (obA A)
      rw [ob_slice] at hg
      exact grown_trans2 ha hg (.inl rfl)
    · rw [ob_slice] at hat
      rcases hat with e1 | e1
      · exact .inl e1.symm
      · exact .inr ⟨g, rfl, by rw [e1]; simp⟩
/-- a row is not turned by a store outside its block -/
theorem own_far {w : World} {lo size n c : Nat} {e : TypeId} {A : Option Addr} {xs : List Value} (h : w.ownsRow lo e size (.slice A n c) n xs) {p : Addr} (hp : obA A ≠ some p.block) (u : Value) : (w.setCell p u).ownsRow lo e size (.slice A n c) n xs :=
  h.kept (row := some p.block) (only_setCell (only_refl _ _) (.inl rfl) _) (.inr (by rw [ob_slice]; exact hp))
theorem own_ob {w : World} {lo size n c : Nat} {e : TypeId} {A : Option Addr} {xs : List Value} (h : w.ownsRow lo e size (.slice A n c) n xs) : ∀ k, obA A = some k → lo ≤ k ∧ k < w.heap.size := by
  intro k hk; exact h.lt k (by rw [ob_slice]; exact hk)
theorem Grw.al {a w : World} {A B : Option Addr} (h : Grw a w A B) (o : Obj) : Grw a (w.alloc o) A B := ⟨only_alloc h.1 o, h.2⟩
theorem Grw.drew {a w : World} {A B : Option Addr} (h : Grw a w A B) : Grw a w.drew A B := ⟨⟨h.1.os, h.1.tape, h.1.output, h.1.size, h.1.block⟩, h.2⟩
theorem Grw.bel {a w w' : World} {A B : Option Addr} (h : Grw a w A B) (b : Below w.heap.size w w') : Grw a w' A B := ⟨grown_trans2 h.1 (only_of_below b (obA A)) (.inl rfl), h.2⟩
theorem Grw.own {a w : World} {A B AG : Option Addr} {lo size n c : Nat} {e : TypeId} {xs : List Value} (h : Grw a w A B) (ho : a.ownsRow lo e size (.slice AG n c) n xs) (hd : ∀ g, obA AG = some g → obA A ≠ some g) : w.ownsRow lo e size (.slice AG n c) n xs :=
  ho.kept h.1 (by
    rw [ob_slice]
    cases hh : obA AG with
    | none => exact .inl rfl
    | some g => exact .inr (fun e => hd g hh e.symm))
theorem Grw.apart {a w : World} {A B AG : Option Addr} (h : Grw a w A B) (hlt : ∀ g, obA AG = some g → g < a.heap.size) (hd : ∀ g, obA AG = some g → obA A ≠ some g) : ∀ g, obA AG = some g → obA B ≠ some g :=
  fun g hg => h.ne (hlt g hg) (hd g hg)
theorem own_bel {w w' : World} {lo size n c : Nat} {e : TypeId} {A : Option Addr} {xs : List Value} (h : w.ownsRow lo e size (.slice A n c) n xs) (b : Below w.heap.size w w') : w'.ownsRow lo e size (.slice A n c) n xs :=
  h.kept (row := none) (only_of_below b none) (by rw [ob_slice]; cases obA A <;> simp)
theorem note_one (r d : Bool) (a b c t : Int) : ∀ u ∈ [Value.bool r, .int .i64 a, .int .i64 b, .int .i64 c, .int .i64 t, .bool d], u.oneCell' = true := by simp [Value.oneCell']
end Go.Proofs.YtopdgkhmeglflaaDoor
