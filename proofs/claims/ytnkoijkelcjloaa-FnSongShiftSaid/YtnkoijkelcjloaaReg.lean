/- A law for append inside a region that draws its order: one element, laid in a block of its own, onto a row of the call's own. No condition but sizes. -/
import Derived.Test.YtnkoijkelcjloaaMrg1
import Derived.Deep.RegionLaw
import Derived.Deep.RegionHeld3
namespace Go.Proofs.Ytnkoijkelcjloaa
set_option linter.unusedVariables false
open Go.RowKit

theorem step_append_el {P : Program} {w : World} {ops : Array Oper} {o : Oper} {a : Act} {K : Act → World → Prop} {Q : Exit → Act → World → Prop} {E : Prop} (hgd : o.guard = none) (s x : Operand) (t : TypeId)
    (ho : o.op = .call { callee := .builtin .append, args := #[s, x], argTypes := #[t, t] })
    (base : Nat) (e : TypeId) (i : TypeInfo) (z : Value) (size bytes : Nat) (ht : P.underlying t = some (.slice e)) (hi : P.info? e = some i) (hz : i.zero = some z)
    (hsize : i.size = size) (hby : i.bytes = bytes) (hzs : z.cells.size = size) (hsz : 0 < size) (hb64 : bytes ≤ 64)
    (v : Value) (n : Nat) (xs : List Value) (hs : a.eval s = v) (hown : w.ownsRow base e size v n xs) (hn : n ≤ 4194304)
    (g : Nat) (us : List Value) (hx : a.eval x = .slice (some ⟨g, 0, none⟩) 1 1) (hg : w.heap[g]? = some (.cells us.toArray e (0, 0))) (hus : us.length = size) (hone : ∀ u ∈ us, u.oneCell' = true) (hbase : base ≤ w.heap.size)
    (h : ∀ A c w', w'.ownsRow base e size (.slice A (n + 1) c) (n + 1) (xs ++ us) → Below base w w' → w.heap.size ≤ w'.heap.size → K (a.put o.dst (.slice A (n + 1) c)) w') :
    if Region.wanted o (yielded ops a.tmps) = true then Oper.wp P o a w K Q else E := by
  have hmul : (n + 1) * bytes ≤ (4194304 + 1) * 64 := Nat.mul_le_mul (by omega) hb64
  refine step_append_lies w hgd s x t ho base e i z size bytes ht hi hz hsize hby hzs hsz v n xs hs hown ⟨g, 0, none⟩ 1 1 us hx (by omega) ?_ hone (by omega) (by unfold maxLen; omega) (by omega) hbase _ rfl ?_
  · intro j u hu
    rw [Go.WideShapes.add_plain, Nat.zero_add]
    have hB : Blk w g e us.toArray := hg
    exact (hB.cell j).trans (by simpa using hu)
  · intro gg cap w' ho' hgr _ _
    exact h _ _ w' ho' ((Below.refl _ _).grown hgr hbase fun k hk => (hown.lt k hk).1) hgr.size
end Go.Proofs.Ytnkoijkelcjloaa
