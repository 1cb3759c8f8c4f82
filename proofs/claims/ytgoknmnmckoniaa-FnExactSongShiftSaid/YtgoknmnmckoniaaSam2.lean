/- Laws on slices for the laws over draws: append of a whole slice onto an empty row, parts of slices. No condition but sizes. -/
import Derived.Test.YtgoknmnmckoniaaInts
namespace Go.Proofs.Ytgoknmnmckoniaa
set_option linter.unusedVariables false
open Go.RowKit
theorem RdI.part {w : World} {B b off : Nat} {zs : List Int} (h : RdI w B (some ⟨b, off, none⟩) zs) (k : Nat) : RdI w B (some ⟨b, off + k, none⟩) (zs.drop k) := by
  refine ⟨by simp [iv], fun hn => ?_⟩
  obtain ⟨b', o', e, hb, hc⟩ := h.2 (by simp at hn; omega)
  injection e with e; injection e with e1 e2; subst e1; subst e2
  refine ⟨b, off + k, rfl, hb, fun j u hu => ?_⟩
  have := hc (k + j) u (by rw [← hu]; simp [iv, List.getElem?_drop])
  rwa [← Nat.add_assoc] at this
theorem RdI.first {w : World} {B : Nat} {A : Option Addr} {zs : List Int} (h : RdI w B A zs) (k : Nat) : RdI w B A (zs.take k) := by
  refine ⟨by simp [iv], fun hn => ?_⟩
  obtain ⟨b', o', e, hb, hc⟩ := h.2 (by simp at hn; omega)
  refine ⟨b', o', e, hb, fun j u hu => hc j u ?_⟩
  have hj : j < k := by
    rcases Nat.lt_or_ge j k with h | h
    · exact h
    · rw [List.getElem?_eq_none (by simp [iv]; omega)] at hu; cases hu
  rw [← hu]; simp [iv, hj]
theorem own_cap {w : World} {base e size n c : Nat} {A : Option Addr} {xs : List Value} (h : w.ownsRow base e size (.slice A n c) n xs) : n ≤ c := by
  rcases h.2 with ⟨hv, rfl⟩ | ⟨g, cap, cur, hv, hb, hg, hnc, _⟩
  · exact Nat.zero_le _
  · injection hv with _ _ e; omega
theorem own_shape {w : World} {base e size n : Nat} {v : Value} {xs : List Value} (h : w.ownsRow base e size v n xs) : ∃ A c, v = .slice A n c := by
  rcases h.2 with ⟨hv, rfl⟩ | ⟨g, cap, cur, hv, _⟩
  · exact ⟨_, _, hv⟩
  · exact ⟨_, _, hv⟩
theorem wpList_wanted {P : Program} {ops : Array Oper} {Q : Exit → Act → World → Prop} {a : Act} {w : World} {rest : List Oper} {o : Oper} (hw : Region.wanted o (yielded ops a.tmps) = true)
    (h : ∀ K : Act → World → Prop, (∀ a w, wpList P ops Q rest a w → K a w) → o.wp P a w K Q) : wpList P ops Q (o :: rest) a w :=
  wpList_step fun K hK => by rw [if_pos hw]; exact h K hK
/-- append of m elements, read from anywhere, onto a row of the call's own -/
theorem append_any {P : Program} {ops : Array Oper} {rest : List Oper} {o : Oper} {a : Act} {Q : Exit → Act → World → Prop} (hw : Region.wanted o (yielded ops a.tmps) = true) (s x : Operand) (t : TypeId)
    (ho : o.op = .call { callee := .builtin .append, args := #[s, x], argTypes := #[t, t] })
    (e : TypeId) (i : TypeInfo) (z : Value) (size bytes : Nat) (ht : P.underlying t = some (.slice e)) (hi : P.info? e = some i) (hz : i.zero = some z)
    (hsize : i.size = size) (hby : i.bytes = bytes) (hzs : z.cells.size = size) (hsz : 0 < size) (hb64 : bytes ≤ 64)
    (base : Nat) (W : World) (v : Value) (n : Nat) (xs : List Value) (hown : W.ownsRow base e size v n xs) (hbase : base ≤ W.heap.size) (hn : n ≤ 4194304)
    (hs : a.eval s = v) (ad : Addr) (m c : Nat) (hm : m ≤ 4194304) (news : List Value) (hx : a.eval x = .slice (some ad) m c) (hl : news.length = m * size)
    (hnews : ∀ j u, news[j]? = some u → W.cell? (ad.add j) = some u) (hone : ∀ u ∈ news, u.oneCell' = true)
    (h : ∀ A c w', w'.ownsRow base e size (.slice A (n + m) c) (n + m) (xs ++ news) → Below base W w' → W.grownBy w' v.ownBlock →
      wpList P ops Q rest (a.put o.dst (.slice A (n + m) c)) w') : wpList P ops Q (o :: rest) a W := by
  have hmul : (n + m) * bytes ≤ (4194304 + 4194304) * 64 := Nat.mul_le_mul (by omega) hb64
  refine wpList_wanted hw fun K hK => ?_
  refine wp_append_own W s x t ho base e i z size bytes ht hi hz hsize hby hzs hsz v n xs hs hown ad m c news hx hl hnews hone (by unfold maxLen; omega) (by omega) hbase fun v' w' hown' hg _ => hK _ _ ?_
  obtain ⟨A', c', rfl⟩ := own_shape hown'
  exact h A' c' w' hown' ((Below.refl _ _).grown hg hbase fun k hk => (hown.lt k hk).1) hg
theorem RdI.all_ {w : World} {B : Nat} {ad : Addr} {zs : List Int} (h : RdI w B (some ad) zs) : ∀ j u, (iv zs)[j]? = some u → w.cell? (ad.add j) = some u := by
  intro j u hu
  have hj : j < zs.length := by
    rcases Nat.lt_or_ge j zs.length with h1 | h1
    · exact h1
    · rw [List.getElem?_eq_none (by simpa [iv] using h1)] at hu; cases hu
  obtain ⟨b, off, e, hb, hc⟩ := h.2 (by omega)
  injection e with e; subst e
  rw [Go.WideShapes.add_plain]; exact hc j u hu
theorem iv_one_cell (zs : List Int) : ∀ u ∈ iv zs, u.oneCell' = true := by
  intro u hu
  obtain ⟨z, _, rfl⟩ := List.mem_map.1 hu
  rfl
/-- append of one number, laid in a block of its own -/
theorem append_one {P : Program} {ops : Array Oper} {rest : List Oper} {o : Oper} {a : Act} {Q : Exit → Act → World → Prop} (hw : Region.wanted o (yielded ops a.tmps) = true) (s x : Operand) (t : TypeId)
    (ho : o.op = .call { callee := .builtin .append, args := #[s, x], argTypes := #[t, t] })
    (e : TypeId) (i : TypeInfo) (z : Value) (size bytes : Nat) (ht : P.underlying t = some (.slice e)) (hi : P.info? e = some i) (hz : i.zero = some z)
    (hsize : i.size = size) (hby : i.bytes = bytes) (hzs : z.cells.size = size) (hsz : 0 < size) (hb64 : bytes ≤ 64)
    (base : Nat) (W : World) (v : Value) (n : Nat) (xs : List Value) (hown : W.ownsRow base e size v n xs) (hbase : base ≤ W.heap.size) (hn : n ≤ 4194303)
    (hs : a.eval s = v) (us : List Value) (hus : us.length = size) (hone : ∀ u ∈ us, u.oneCell' = true) (hx : a.eval x = .slice (some ⟨W.heap.size, 0, none⟩) 1 1)
    (h : ∀ A c w', w'.ownsRow base e size (.slice A (n + 1) c) (n + 1) (xs ++ us) → Below base W w' → W.heap.size ≤ w'.heap.size →
      wpList P ops Q rest (a.put o.dst (.slice A (n + 1) c)) w') : wpList P ops Q (o :: rest) a (W.alloc (.cells us.toArray e)) := by
  refine append_any hw s x t ho e i z size bytes ht hi hz hsize hby hzs hsz hb64 base (W.alloc (.cells us.toArray e)) v n xs (hown.alloc _) (by simp; omega) (by omega) hs ⟨W.heap.size, 0, none⟩ 1 1 (by omega) us hx (by omega) ?_ hone ?_
  · intro j u hu
    rw [Go.WideShapes.add_plain, Nat.zero_add]
    exact ((Blk.new W e us.toArray).cell j).trans (by simpa using hu)
  · intro A c w' h1 h2 h3
    exact h A c w' h1 (((Below.refl _ _).alloc hbase _).trans h2) (by have := h3.size; simp at this; omega)
theorem own_le_cap {w : World} {base e size n c : Nat} {A : Option Addr} {xs : List Value} (h : w.ownsRow base e size (.slice A n c) n xs) : n ≤ c := by
  rcases h.2 with ⟨hv, rfl⟩ | ⟨g, cap, cur, hv, hb, hg, hnc, _⟩
  · exact Nat.zero_le _
  · injection hv with _ _ e; omega
theorem RdI.none0 {w : World} {B : Nat} {A : Option Addr} {zs : List Int} (h : zs.length = 0) : RdI w B A zs := ⟨by simp [iv], fun hn => by omega⟩
theorem RdI.part0 {w : World} {B b : Nat} {zs : List Int} (h : RdI w B (some ⟨b, 0, none⟩) zs) (k : Nat) : RdI w B (some ⟨b, k, none⟩) (zs.drop k) := by
  have := h.part k; rwa [Nat.zero_add] at this
theorem RdI.of_own2 {w : World} {base c n : Nat} {e : TypeId} {A : Option Addr} {zs : List Int} (h : w.ownsRow base e 1 (.slice A n c) n (iv zs)) (hn : zs.length = n) : RdI w w.heap.size A zs := by subst hn; exact Rd.of_own h
theorem below_cells {w w' : World} (hb : Below w.heap.size w w') : ∀ b o : Nat, b < w.heap.size → w'.cell? ⟨b, o, none⟩ = w.cell? ⟨b, o, none⟩ := fun b o h => hb.cell (p := ⟨b, o, none⟩) h
theorem RdI.al {w : World} {B : Nat} {A : Option Addr} {zs : List Int} (h : RdI w B A zs) (hB : B ≤ w.heap.size) (o : Obj) : RdI (w.alloc o) B A zs := Rd.alloc h hB o
theorem iv_one' (z : Int) : iv [z] = [.int .i64 z] := rfl
end Go.Proofs.Ytgoknmnmckoniaa
