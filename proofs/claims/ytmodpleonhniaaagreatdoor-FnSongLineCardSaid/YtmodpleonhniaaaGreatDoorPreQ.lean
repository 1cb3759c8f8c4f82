/- A region that draws its order, whose operations only read, and whose callees leave what there was as it was (they may draw and lay blocks): walked once, in the order of the text. No program of its own. -/
import Derived.Test.YtmodpleonhniaaaGreatDoorMrg1
import Derived.Deep.QuietTactic
import Derived.BigQuiet
namespace Go.Proofs.YtmodpleonhniaaaGreatDoor
set_option linter.unusedVariables false
open Go.RowKit
/-- a world that has kept all of w -/
structure PreW (w : World) where
  W : World
  ok : Below w.heap.size w W
instance (w : World) : Nonempty (PreW w) := ⟨⟨w, Below.refl _ _⟩⟩
theorem PreW.cell {w : World} (p : PreW w) {a : Addr} {v : Value} (h : w.cell? a = some v) : p.W.cell? a = some v := (p.ok.cell (World.block_lt_of_cell? _ _ h)).trans h
theorem wp_region_quiet_pre {P : Program} {id : Nat} {Q : Exit → Act → World → Prop} {a : Act} {w : World} {l : List Oper} (hm : P.follows .mixedOrders = true) (hB : Region.lexB .any l.toArray = true)
    (h : wpQuiet P l.toArray (fun w' => ∃ p : PreW w, w' = p.W) (fun a' => ∀ w', (∃ p : PreW w, w' = p.W) → Q .normal a' w') l a) : (Code.region id l.toArray true).wp P Q a w :=
  wp_region_quiet (C := fun w' => ∃ p : PreW w, w' = p.W) hm hB ⟨⟨w.drew, (Below.refl _ _).drew⟩, rfl⟩ (by simpa using h)
theorem pre_of {P : Program} {f : FuncId} {args : Array Value} {w : World} {p : PreW w} {v : Value}
    (h : Calls P f args p.W fun e w' => e = .returned v ∧ Below p.W.heap.size p.W w') : Calls P f args p.W fun e w'' => e = .returned v ∧ ∃ p : PreW w, w'' = p.W :=
  h.mono fun _ _ ⟨he, hb⟩ => ⟨he, ⟨_, p.ok.trans (hb.mono p.ok.size)⟩, rfl⟩
theorem pre_same {P : Program} {f : FuncId} {args : Array Value} {w : World} {p : PreW w} {v : Value}
    (h : Calls P f args p.W fun e w' => e = .returned v ∧ p.W = w') : Calls P f args p.W fun e w'' => e = .returned v ∧ ∃ p : PreW w, w'' = p.W :=
  h.mono fun _ _ ⟨he, hb⟩ => ⟨he, p, hb.symm⟩
end Go.Proofs.YtmodpleonhniaaaGreatDoor
