/- Slices of slices of notes of the call's own: each row in a block of its own; what marks turn. No program. -/
import Derived.Test.YtmodpleonhniaaaGreatDoorVs
import Derived.Test.YtmodpleonhniaaaGreatDoorMrg1
namespace Go.Proofs.YtmodpleonhniaaaGreatDoor
open Go.RowKit
set_option linter.unusedSimpArgs false
set_option linter.unusedVariables false
theorem info_hdN : (Tryz.prog.info? 34).map (fun i => (i.zero, i.size, i.bytes)) = some (some (Value.slice none 0 0), 1, 24) := by kernel_rfl
theorem Row.keptOff {w w' : World} {lo hi E s c n : Nat} {A B : Option Addr} {xs : List Value} (h : Row w lo hi E s A c n xs) (hg : w.grownBy w' (obA B)) (hd : ∀ g, obA A = some g → obA B ≠ some g) : Row w' lo hi E s A c n xs :=
  ⟨h.1.kept hg (by
    rw [ob_slice]
    cases hh : obA A with
    | none => exact .inl rfl
    | some g => exact .inr (fun e => hd g hh e.symm)), h.2⟩
theorem Row.ob {w : World} {lo hi E s c n : Nat} {A : Option Addr} {xs : List Value} (h : Row w lo hi E s A c n xs) : ∀ g, obA A = some g → lo ≤ g ∧ g < hi := fun g hg => ⟨(own_ob h.1 g hg).1, h.2 g (by rw [ob_slice]; exact hg)⟩
theorem Row.setOff {w : World} {lo hi E s c n : Nat} {A : Option Addr} {xs : List Value} (h : Row w lo hi E s A c n xs) {p : Addr} (hp : p.block < lo ∨ hi ≤ p.block) (u : Value) : Row (w.setCell p u) lo hi E s A c n xs :=
  ⟨own_far h.1 (fun e => by have := h.ob _ e; omega) u, h.2⟩
theorem Row.widen {w : World} {lo hi lo' hi' E s c n : Nat} {A : Option Addr} {xs : List Value} (h : Row w lo hi E s A c n xs) (h1 : lo' ≤ lo) (h2 : hi ≤ hi') : Row w lo' hi' E s A c n xs :=
  ⟨own_mono h.1 h1, fun g hg => Nat.lt_of_lt_of_le (h.2 g hg) h2⟩
/-- only blocks within lo .. hi have turned -/
structure InB (lo hi : Nat) (w w' : World) : Prop where
  os : w'.os = w.os
  tape : w'.tape = w.tape
  output : w'.output = w.output
  size : w.heap.size ≤ w'.heap.size
  block : ∀ k, k < w.heap.size → (k < lo ∨ hi ≤ k) → w'.heap[k]? = w.heap[k]?
theorem InB.refl (lo hi : Nat) (w : World) : InB lo hi w w := ⟨rfl, rfl, rfl, Nat.le_refl _, fun _ _ _ => rfl⟩
theorem InB.trans {lo hi : Nat} {a b c : World} (h : InB lo hi a b) (k : InB lo hi b c) : InB lo hi a c :=
  ⟨k.os.trans h.os, k.tape.trans h.tape, k.output.trans h.output, Nat.le_trans h.size k.size, fun i hi' hd => (k.block i (Nat.lt_of_lt_of_le hi' h.size) hd).trans (h.block i hi' hd)⟩
theorem InB.of_grown {lo hi : Nat} {w w' : World} {row : Option Nat} (h : w.grownBy w' row) (hr : ∀ g, row = some g → lo ≤ g ∧ g < hi) : InB lo hi w w' :=
  ⟨h.os, h.tape, h.output, h.size, fun k hk hd => h.block k hk (fun e => by have := hr k e.symm; omega)⟩
theorem InB.alloc {lo hi : Nat} {a w : World} (h : InB lo hi a w) (o : Obj) : InB lo hi a (w.alloc o) :=
  ⟨h.os, h.tape, h.output, by have := h.size; simp; omega, fun k hk hd => (Below.heap_alloc w o k (Nat.lt_of_lt_of_le hk h.size)).trans (h.block k hk hd)⟩
theorem InB.drew {lo hi : Nat} {a w : World} (h : InB lo hi a w) : InB lo hi a w.drew := ⟨h.os, h.tape, h.output, h.size, h.block⟩
theorem InB.below {lo hi B : Nat} {w w' : World} (h : InB lo hi w w') (hB : B ≤ lo) (hs : B ≤ w.heap.size) : Below B w w' :=
  ⟨h.os, h.tape, h.output, h.size, fun i hi' => h.block i (by omega) (.inl (by omega))⟩
theorem InB.blk {lo hi g : Nat} {w w' : World} {t : TypeId} {cs : Array Value} (h : InB lo hi w w') (hb : Blk w g t cs) (hd : g < lo ∨ hi ≤ g) : Blk w' g t cs := (h.block g hb.lt hd).trans hb
theorem InB.row {lo hi lo' hi' E s c n : Nat} {w w' : World} {A : Option Addr} {xs : List Value} (h : InB lo hi w w') (r : Row w lo' hi' E s A c n xs) (hd : hi' ≤ lo ∨ hi ≤ lo') : Row w' lo' hi' E s A c n xs := by
  refine ⟨⟨r.1.1, ?_⟩, r.2⟩
  rcases r.1.2 with hn | ⟨g, cap, cur, hv, hlo, hg, rest⟩
  · exact .inl hn
  · have hlt := r.2 g (by rw [hv]; rfl)
    exact .inr ⟨g, cap, cur, hv, hlo, (h.block g (by rcases Nat.lt_or_ge g w.heap.size with h1 | h1; exact h1; rw [Array.getElem?_eq_none h1] at hg; cases hg) (by omega)).trans hg, rest⟩
/-- own rows of notes below an own row of their headers, all within lo .. hi, no two in one block -/
structure OwX (w : World) (lo hi : Nat) (A : Option Addr) (c n : Nat) (X : Nat → List Nt) (hs : List Hd) : Prop where
  len : hs.length = n
  out : Row w lo hi 34 1 A c n (fl encHd hs)
  inn : ∀ k, k < n → (glH hs k).2.1 = (X k).length ∧ Row w lo hi 60 6 (glH hs k).1 (glH hs k).2.2 (X k).length (fl encNote (X k))
  da : ∀ k, k < n → ∀ g, obA (glH hs k).1 = some g → obA A ≠ some g
  db : ∀ j k, j < n → k < n → j ≠ k → ∀ g, obA (glH hs j).1 = some g → obA (glH hs k).1 ≠ some g
theorem OwX.below {w w' : World} {lo hi B c n : Nat} {A : Option Addr} {X : Nat → List Nt} {hs : List Hd} (h : OwX w lo hi A c n X hs) (hb : Below B w w') (hB : hi ≤ B) : OwX w' lo hi A c n X hs :=
  ⟨h.len, h.out.below hb hB, fun k hk => ⟨(h.inn k hk).1, (h.inn k hk).2.below hb hB⟩, h.da, h.db⟩
theorem OwX.inB {w w' : World} {lo hi lo' hi' c n : Nat} {A : Option Addr} {X : Nat → List Nt} {hs : List Hd} (h : OwX w lo hi A c n X hs) (hb : InB lo' hi' w w') (hd : hi ≤ lo' ∨ hi' ≤ lo) : OwX w' lo hi A c n X hs :=
  ⟨h.len, hb.row h.out hd, fun k hk => ⟨(h.inn k hk).1, hb.row (h.inn k hk).2 hd⟩, h.da, h.db⟩
theorem size_set' (w : World) (p : Addr) (u : Value) : (w.setCell p u).heap.size = w.heap.size := by simp [World.setCell]
theorem OwX.setOff {w : World} {lo hi c n : Nat} {A : Option Addr} {X : Nat → List Nt} {hs : List Hd} (h : OwX w lo hi A c n X hs) {p : Addr} (hp : p.block < lo) (u : Value) : OwX (w.setCell p u) lo hi A c n X hs :=
  ⟨h.len, h.out.setOff (.inl hp) u, fun k hk => ⟨(h.inn k hk).1, (h.inn k hk).2.setOff (.inl hp) u⟩, h.da, h.db⟩
theorem OwX.rd {w : World} {lo hi c : Nat} {A : Option Addr} {vs : List (List Nt)} {hs : List Hd} (h : OwX w lo hi A c vs.length (glV vs) hs) : RdVs w hi A vs := by
  refine ⟨hs, h.len, ?_, fun k hk => ⟨(h.inn k hk).1, (h.inn k hk).2.rdNote⟩⟩
  have := h.out
  rw [← h.len] at this
  exact this.rdR
/-- cell k of the headers -/
theorem OwX.hd {w : World} {lo hi c n : Nat} {A : Option Addr} {X : Nat → List Nt} {hs : List Hd} (h : OwX w lo hi A c n X hs) {k : Nat} (hk : k < n) :
    ∃ g, A = some ⟨g, 0, none⟩ ∧ lo ≤ g ∧ g < hi ∧ w.cell? ⟨g, k, none⟩ = some (.slice (glH hs k).1 (X k).length (glH hs k).2.2) := by
  obtain ⟨g, cap, hv, -, -⟩ := h.out.1.form (by omega)
  have hA : A = some ⟨g, 0, none⟩ := by injection hv
  subst hA
  have hl := h.len
  refine ⟨g, rfl, (h.out.ob g rfl).1, (h.out.ob g rfl).2, ?_⟩
  have h1 := h.out.1.cellAt k (by omega)
  have h2 := fl_at encHd_len (zs := hs) (k := k) (j := 0) (by omega) (by decide)
  rw [show k * 1 + 0 = k by omega, glH_get (by omega)] at h2
  rw [h1, h2, ← (h.inn k hk).1]; rfl
/-- row k has been written -/
theorem OwX.mark {w w' : World} {lo hi c n : Nat} {A : Option Addr} {X : Nat → List Nt} {hs : List Hd} (h : OwX w lo hi A c n X hs) {k : Nat} (hk : k < n) {Y : List Nt} (hY : Y.length = (X k).length)
    (ho : w'.ownsRow lo 60 6 (.slice (glH hs k).1 (X k).length (glH hs k).2.2) (X k).length (fl encNote Y)) (hg : w.grownBy w' (obA (glH hs k).1)) :
    OwX w' lo hi A c n (fun i => if i = k then Y else X i) hs := by
  refine ⟨h.len, h.out.keptOff hg (fun g e e2 => h.da k hk g e2 e), fun j hj => ?_, h.da, h.db⟩
  by_cases e : j = k
  · subst e
    rw [if_pos rfl, hY]
    exact ⟨(h.inn j hj).1, (h.inn j hj).2.self ho⟩
  · rw [if_neg e]
    exact ⟨(h.inn j hj).1, (h.inn j hj).2.keptOff hg (h.db j k hj hk e)⟩
theorem OwX.congr {w : World} {lo hi c n : Nat} {A : Option Addr} {X Y : Nat → List Nt} {hs : List Hd} (h : OwX w lo hi A c n X hs) (he : ∀ k, k < n → X k = Y k) : OwX w lo hi A c n Y hs :=
  ⟨h.len, h.out, fun k hk => by rw [← he k hk]; exact h.inn k hk, h.da, h.db⟩
/-- how many notes there are -/
def totV (vs : List (List Nt)) : Nat := (vs.map List.length).sum
theorem totV_snoc (vs : List (List Nt)) (v : List Nt) : totV (vs ++ [v]) = totV vs + v.length := by simp [totV]
theorem totV_succ {vs : List (List Nt)} {k : Nat} (h : k < vs.length) : totV (vs.take (k + 1)) = totV (vs.take k) + (glV vs k).length := by rw [take_succ_V h, totV_snoc]
theorem totV_le (vs : List (List Nt)) (k : Nat) : totV (vs.take k) ≤ totV vs := by
  have : totV vs = totV (vs.take k) + totV (vs.drop k) := by
    conv => lhs; rw [← List.take_append_drop k vs, totV, List.map_append, List.sum_append]
    rfl
  omega
theorem len_of_tot {vs : List (List Nt)} {n : Nat} (h : vs.length + totV vs ≤ n) (hn : n ≤ 1048576 := by omega) : LenV vs := by
  refine ⟨by omega, fun v hv => ?_⟩
  have key : ∀ vs : List (List Nt), ∀ v ∈ vs, v.length ≤ totV vs := by
    intro vs
    induction vs with
    | nil => intro v h; cases h
    | cons x vs ih =>
      intro v h
      have e : totV (x :: vs) = x.length + totV vs := by simp [totV]
      rcases List.mem_cons.1 h with rfl | h
      · omega
      · have := ih v h; omega
  have := key vs v hv
  omega
theorem set_hd (L : List Value) (z v : Value) (m : Nat) : (L ++ List.replicate (m + 1) z).toArray.setIfInBounds L.length v = ((L ++ [v]) ++ List.replicate m z).toArray := by
  rw [List.setIfInBounds_toArray, List.set_append_right _ _ (Nat.le_refl _), Nat.sub_self, List.replicate_succ, List.set_cons_zero, List.append_assoc]
  rfl
theorem glH_append {hs : List Hd} {x : Hd} {j : Nat} (h : j < hs.length) : glH (hs ++ [x]) j = glH hs j := by
  unfold glH
  simp [List.getD, List.getElem?_append_left h]
theorem glH_last {hs : List Hd} {x : Hd} : glH (hs ++ [x]) hs.length = x := by simp [glH]
/-- own headers in the making: the first k rows stand -/
structure OwP (w : World) (lo hi : Nat) (vs : List (List Nt)) (k : Nat) (hs : List Hd) : Prop where
  len : hs.length = k
  inn : ∀ j, j < k → (glH hs j).2.1 = (glV vs j).length ∧ Row w lo hi 60 6 (glH hs j).1 (glH hs j).2.2 (glV vs j).length (fl encNote (glV vs j))
  db : ∀ i j, i < k → j < k → i ≠ j → ∀ g, obA (glH hs i).1 = some g → obA (glH hs j).1 ≠ some g
theorem OwP.zero (w : World) (lo hi : Nat) (vs : List (List Nt)) : OwP w lo hi vs 0 [] := ⟨rfl, fun j h => by omega, fun i j h => by omega⟩
theorem OwP.next {w w' : World} {lo : Nat} {vs : List (List Nt)} {k : Nat} {hs : List Hd} (h : OwP w lo w.heap.size vs k hs) (hb : Below w.heap.size w w') (hlo : lo ≤ w.heap.size) {C : Option Addr} {d : Nat}
    (ho : w'.ownsRow w.heap.size 60 6 (.slice C (glV vs k).length d) (glV vs k).length (fl encNote (glV vs k))) : OwP w' lo w'.heap.size vs (k + 1) (hs ++ [(C, (glV vs k).length, d)]) := by
  have hl := h.len
  have hnew := own_ob ho
  have hold : ∀ j, j < k → ∀ g, obA (glH hs j).1 = some g → g < w.heap.size := fun j hj g e => ((h.inn j hj).2.ob g e).2
  refine ⟨by simp [hl], fun j hj => ?_, fun i j hi hj hne g e => ?_⟩
  · rcases Nat.lt_or_ge j k with h1 | h1
    · rw [glH_append (by omega)]
      exact ⟨(h.inn j h1).1, ((h.inn j h1).2.below hb (Nat.le_refl _)).widen (Nat.le_refl _) hb.size⟩
    · obtain rfl : j = k := by omega
      rw [← hl, glH_last, hl]
      exact ⟨rfl, (Row.mk_ ho).widen hlo (Nat.le_refl _)⟩
  · rcases Nat.lt_or_ge i k with h1 | h1
    · rw [glH_append (by omega)] at e
      rcases Nat.lt_or_ge j k with h2 | h2
      · rw [glH_append (by omega)]; exact h.db i j h1 h2 hne g e
      · obtain rfl : j = k := by omega
        rw [← hl, glH_last]
        intro e2
        have := hold i h1 g e; have := hnew g e2; omega
    · obtain rfl : i = k := by omega
      rw [← hl, glH_last] at e
      rw [glH_append (by omega)]
      intro e2
      have := hold j (by omega) g e2; have := hnew g e; omega
theorem OwP.setOff {w : World} {lo hi : Nat} {vs : List (List Nt)} {k : Nat} {hs : List Hd} (h : OwP w lo hi vs k hs) {p : Addr} (hp : p.block < lo) (u : Value) : OwP (w.setCell p u) lo hi vs k hs :=
  ⟨h.len, fun j hj => ⟨(h.inn j hj).1, (h.inn j hj).2.setOff (.inl hp) u⟩, h.db⟩
theorem OwP.drew {w : World} {lo hi : Nat} {vs : List (List Nt)} {k : Nat} {hs : List Hd} (h : OwP w lo hi vs k hs) : OwP w.drew lo hi vs k hs := ⟨h.len, fun j hj => ⟨(h.inn j hj).1, (h.inn j hj).2.drew⟩, h.db⟩
end Go.Proofs.YtmodpleonhniaaaGreatDoor
