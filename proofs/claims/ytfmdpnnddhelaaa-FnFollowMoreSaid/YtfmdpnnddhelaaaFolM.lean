/- Laws for one key more: append of a whole row, the table with one key more. No condition. -/
import Derived.Test.YtfmdpnnddhelaaaFol3
import Derived.Test.YtfmdpnnddhelaaaDrawS
namespace Go.Proofs.Ytfmdpnnddhelaaa
set_option linter.unusedVariables false
open Go.RowKit
set_option linter.unusedSimpArgs false
theorem gi_app {b : List Int} {y : Int} {j : Nat} (h : j < b.length) : gi (b ++ [y]) j = gi b j := by
  simp [gi, List.getD, List.getElem?_append_left h]
theorem D_app (a b : List Int) (y : Int) : ∀ i j : Nat, j ≤ b.length → D a (b ++ [y]) i j = D a b i j := by
  intro i
  induction i with
  | zero => intro j _; rfl
  | succ i ih =>
    intro j
    induction j with
    | zero => intro _; rfl
    | succ j ihj =>
      intro h
      rw [D_ss, D_ss, ih j (by omega), ih (j + 1) h, ihj (by omega), gi_app (by omega)]
theorem okK_app {b : List Int} (h : okK b = true) (hl : b.length ≤ 39) : okK (b ++ [60]) = true := by
  simp only [okK, Bool.and_eq_true, decide_eq_true_eq, List.length_append, List.all_append] at h ⊢
  refine ⟨by simp; omega, h.2, by decide⟩
theorem D_more (a b : List Int) (y : Int) : D a (b ++ [y]) a.length (b ++ [y]).length - D a b a.length b.length ≤ 2 ∧ D a b a.length b.length - D a (b ++ [y]) a.length (b ++ [y]).length ≤ 2 := by
  have h1 := D_right a (b ++ [y]) a.length b.length
  have h2 := D_left a (b ++ [y]) a.length b.length
  rw [D_app a b y _ _ (Nat.le_refl _)] at h1 h2
  rw [List.length_append, List.length_singleton]
  omega
/-- append of a whole slice that is read, onto an empty row just laid -/
theorem append_all {P : Program} {ops : Array Oper} {rest : List Oper} {o : Oper} {a : Act} {Q : Exit → Act → World → Prop} (hgd : o.guard = none) (s x : Operand) (t : TypeId)
    (ho : o.op = .call { callee := .builtin .append, args := #[s, x], argTypes := #[t, t] })
    (i : TypeInfo) (z : Value) (ht : P.underlying t = some (.slice 3)) (hi : P.info? 3 = some i) (hz : i.zero = some z)
    (hsize : i.size = 1) (hby : i.bytes = 8) (hzs : z.cells.size = 1)
    (W : World) (b off d : Nat) (ys : List Int) (hr : RdI W W.heap.size (some ⟨b, off, none⟩) ys) (hn : ys.length ≤ 4194304)
    (hs : a.eval s = .slice (some ⟨W.heap.size, 0, none⟩) 0 0) (hx : a.eval x = .slice (some ⟨b, off, none⟩) ys.length d)
    (hK : ∀ A' c' w', w'.ownsRow W.heap.size 3 1 (.slice A' ys.length c') ys.length (iv ys) → Below W.heap.size W w' →
      wpList P ops Q rest (a.put o.dst (.slice A' ys.length c')) w') : wpList P ops Q (o :: rest) a (W.alloc (.cells #[] 3)) := by
  have hown := (own_empty (e := 3) (size := 1) (Below.refl W.heap.size W) (Nat.le_refl _)).1
  have hlen : (iv ys).length = ys.length := by simp [iv]
  refine wpList_append_own _ hgd s x t ho W.heap.size 3 i z 1 8 ht hi hz hsize hby hzs (by decide) _ 0 [] hs hown ⟨b, off, none⟩ ys.length d (iv ys) hx (by rw [hlen, Nat.mul_one]) ?_ ?_ (by unfold maxLen; omega) (by omega) (by simp) ?_
  · intro j u hu
    have hj : 0 < ys.length := by
      rcases Nat.eq_zero_or_pos ys.length with h0 | h0
      · rw [List.getElem?_eq_none (by omega)] at hu; cases hu
      · exact h0
    obtain ⟨b', off', e, hb, hc⟩ := (RdI.al hr (Nat.le_refl _) (.cells #[] 3)).2 hj
    injection e with e; injection e with e1 e2; subst e1; subst e2
    rw [Go.WideShapes.add_plain]
    exact hc j u hu
  · intro u hu
    obtain ⟨v, _, rfl⟩ := List.mem_map.1 hu
    simp [Value.oneCell']
  · intro v' w' hown' hg hnil
    rw [Nat.zero_add, List.nil_append] at hown'
    have hgb : Below W.heap.size (W.alloc (.cells #[] 3)) w' := (Below.refl _ _).grown hg (by simp) (fun k hk => by simp [Value.ownBlock] at hk; omega)
    have hB : Below W.heap.size W w' := ((Below.refl _ _).alloc (Nat.le_refl _) _).trans hgb
    rcases hown'.2 with ⟨h0, h1⟩ | ⟨g, cap, cur, rfl, _⟩
    · subst h0
      have e : Value.slice none 0 0 = Value.slice none ys.length 0 := by rw [h1]
      rw [e] at hown' ⊢
      exact hK none 0 w' hown' hB
    · exact hK _ _ w' hown' hB
end Go.Proofs.Ytfmdpnnddhelaaa
