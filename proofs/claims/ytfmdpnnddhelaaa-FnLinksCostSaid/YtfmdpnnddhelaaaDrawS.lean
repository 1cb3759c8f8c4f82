/- Contracts of the draws of samples. No condition but bounds on the bytes. -/
import Derived.Test.YtfmdpnnddhelaaaDrawN
namespace Go.Proofs.Ytfmdpnnddhelaaa
set_option linter.unusedVariables false
open Go.RowKit
set_option linter.unusedSimpArgs false
def WfS (zs : List Int) : Prop := ∀ z ∈ zs, -32768 ≤ z ∧ z ≤ 32768
theorem Row.al {w : World} {lo hi E size c n : Nat} {A : Option Addr} {xs : List Value} (h : Row w lo hi E size A c n xs) (o : Obj) : Row (w.alloc o) lo hi E size A c n xs := ⟨h.1.alloc o, h.2⟩
theorem own_only {w w' : World} {base E size n g : Nat} {v : Value} {xs : List Value} (h : w.ownsRow base E size v n xs) (hg : w.grownBy w' (some g)) (hd : g < base) : w'.ownsRow base E size v n xs := by
  refine h.kept hg ?_
  cases hv : v.ownBlock with
  | none => exact .inl rfl
  | some k =>
    refine .inr fun e => ?_
    injection e with e
    have := (h.lt k hv).1
    omega
theorem own_only' {w w' : World} {base E size n g : Nat} {v : Value} {xs : List Value} (h : w.ownsRow base E size v n xs) (hg : w.grownBy w' (some g)) (hd : g < base ∨ ∀ k, v.ownBlock = some k → g < k) : w'.ownsRow base E size v n xs := by
  refine h.kept hg ?_
  cases hv : v.ownBlock with
  | none => exact .inl rfl
  | some k =>
    refine .inr fun e => ?_
    injection e with e
    have := (h.lt k hv).1
    rcases hd with hd | hd
    · omega
    · have := hd k hv; omega
theorem own_some {w : World} {base e size n c : Nat} {A : Option Addr} {xs : List Value} (h : w.ownsRow base e size (.slice A n c) n xs) (hn : 0 < n) : ∃ b, A = some ⟨b, 0, none⟩ := by
  obtain ⟨g, cap, hv, _⟩ := h.form hn
  injection hv with e1; exact ⟨g, e1⟩
theorem madeI (n : Nat) : madeCells (Value.cells (.int .i64 0)) (n * 1) = (iv (List.replicate n 0)).toArray := by
  rw [iv, List.map_replicate, Nat.mul_one]; exact madeOne _ _
theorem iv_snoc (zs : List Int) (x : Int) : iv (zs ++ [x]) = iv zs ++ [.int .i64 x] := by rw [iv_append]; rfl
theorem WfS.snoc {zs : List Int} {x : Int} (h : WfS zs) (hx : -32768 ≤ x ∧ x ≤ 32768) : WfS (zs ++ [x]) := fun z hz => by
  rcases List.mem_append.1 hz with h2 | h2
  · exact h z h2
  · rw [List.mem_singleton.1 h2]; exact hx
theorem own_snoc {w : World} {base E c : Nat} {A : Option Addr} {zs : List Int} {x : Int} (h : w.ownsRow base E 1 (.slice A (zs.length + 1) c) (zs.length + 1) (iv zs ++ [.int .i64 x])) :
    w.ownsRow base E 1 (.slice A (zs ++ [x]).length c) (zs ++ [x]).length (iv (zs ++ [x])) := by
  rw [iv_snoc, List.length_append]; exact h
theorem wfS_zero (n : Nat) : WfS (List.replicate n 0) := fun z hz => by rw [List.eq_of_mem_replicate hz]; omega
def RetSam (w : World) (g q : Nat) (e : Ending) (w' : World) : Prop :=
  ∃ (A : Option Addr) (c : Nat) (zs : List Int), e = .returned (.slice A zs.length c) ∧ zs.length ≤ 201 ∧ WfS zs ∧ (∃ b, A = some ⟨b, 0, none⟩) ∧ Row w' w.heap.size w'.heap.size 3 1 A c zs.length (iv zs) ∧ Rdr w' g q ∧ w.grownBy w' (some g)
end Go.Proofs.Ytfmdpnnddhelaaa
