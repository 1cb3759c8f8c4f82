/-
  No cell of these rows narrows 'for every input' (looked for: loops, veiled, ifaces, maps, wideKeys, modest, calm, conditions, laid).
  DERIVED. THE GIVEN ROWS OF THIS SEAT. 6 by the template 'for every input the law returns true; each argument reads behind the call as it read before'; 0 by the template 'total and deterministic' (their statements: YtjabgfhjkjinoaaTotals.lean).
  GIVEN WITH THE SEED: the statements are not yours to turn. If you find one false, say at which input.
  Laid BY PROGRAM, IN A SANDBOX (cutbox-rows.mjs): the forced cells as the released guide's own fill.sh prints them over the translation b89542043f3885e9… (all of the seat's roots in one cut). By AI agents, Wed Nov 11 2026. No macro, syntax, notation, axiom, sorry.
-/
import Derived.Test.YtjabgfhjkjinoaaChecked
import GoSem.Claim
import GoSem.ClaimJoined
import GoSem.ClaimMapViews
import Derived.JoinedTies
import Derived.KernelRfl
namespace Go.Proofs.Ytjabgfhjkjinoaa
/- THE CELL 'sum', in the pinned program and in every row, IS THE sha256 OF THE DUMP (.gsa) THAT YtjabgfhjkjinoaaProg.lean LOADS. Nothing in Lean hashes anything: it is a label: what it is worth is what the hold of that sum in a sandbox is worth. -/
noncomputable def Try.pinned : Pinned := { name := "ytjabgfhjkjinoaa", sum := "b89542043f3885e93d256b237bf5c07d4991bbb9dfe0f7232468f3c769bfe2f5", checked := Try.checked }
namespace Rows
def none {H : Type} : Left H := { results := [], args := [] }

/-- 'laws.FnExactPatternValid': WHATEVER THE INPUT: true; the input reads as it did. -/
def fnExactPatternValidSpec : ChangeSpec := { name := "fnExactPatternValid", fn := fun _ => fun
  | [d] => { results := [.lit (.bool true)], args := [d] }
  | _ => none }
def fnExactPatternValidRow : OpenClaim := { program := "ytjabgfhjkjinoaa", sum := "b89542043f3885e93d256b237bf5c07d4991bbb9dfe0f7232468f3c769bfe2f5", func := "loop.example/musicengine/laws.FnExactPatternValid", spec := "fnExactPatternValid", apart := false }
def FnExactPatternValidSaid : Prop := fnExactPatternValidRow.holds Try.pinned (OpenSpec.ofChange fnExactPatternValidSpec)

/-- ITS FALSE NEIGHBOUR: 'it returns false'. Refute it at one input. -/
def fnExactPatternValidWrong : ChangeSpec := { name := "fnExactPatternValid", fn := fun _ => fun
  | [d] => { results := [.lit (.bool false)], args := [d] }
  | _ => none }
def FnExactPatternValidWrongFalsely : Prop := fnExactPatternValidRow.holds Try.pinned (OpenSpec.ofChange fnExactPatternValidWrong)

/-- 'laws.FnExactEvenPattern': WHATEVER THE INPUT: true; the input reads as it did. -/
def fnExactEvenPatternSpec : ChangeSpec := { name := "fnExactEvenPattern", fn := fun _ => fun
  | [d1, d2] => { results := [.lit (.bool true)], args := [d1, d2] }
  | _ => none }
def fnExactEvenPatternRow : OpenClaim := { program := "ytjabgfhjkjinoaa", sum := "b89542043f3885e93d256b237bf5c07d4991bbb9dfe0f7232468f3c769bfe2f5", func := "loop.example/musicengine/laws.FnExactEvenPattern", spec := "fnExactEvenPattern", apart := false }
def FnExactEvenPatternSaid : Prop := fnExactEvenPatternRow.holds Try.pinned (OpenSpec.ofChange fnExactEvenPatternSpec)

/-- ITS FALSE NEIGHBOUR: 'it returns false'. Refute it at one input. -/
def fnExactEvenPatternWrong : ChangeSpec := { name := "fnExactEvenPattern", fn := fun _ => fun
  | [d1, d2] => { results := [.lit (.bool false)], args := [d1, d2] }
  | _ => none }
def FnExactEvenPatternWrongFalsely : Prop := fnExactEvenPatternRow.holds Try.pinned (OpenSpec.ofChange fnExactEvenPatternWrong)

/-- 'laws.FnExactPatternText': WHATEVER THE INPUT: true; the input reads as it did. -/
def fnExactPatternTextSpec : ChangeSpec := { name := "fnExactPatternText", fn := fun _ => fun
  | [d] => { results := [.lit (.bool true)], args := [d] }
  | _ => none }
def fnExactPatternTextRow : OpenClaim := { program := "ytjabgfhjkjinoaa", sum := "b89542043f3885e93d256b237bf5c07d4991bbb9dfe0f7232468f3c769bfe2f5", func := "loop.example/musicengine/laws.FnExactPatternText", spec := "fnExactPatternText", apart := false }
def FnExactPatternTextSaid : Prop := fnExactPatternTextRow.holds Try.pinned (OpenSpec.ofChange fnExactPatternTextSpec)

/-- ITS FALSE NEIGHBOUR: 'it returns false'. Refute it at one input. -/
def fnExactPatternTextWrong : ChangeSpec := { name := "fnExactPatternText", fn := fun _ => fun
  | [d] => { results := [.lit (.bool false)], args := [d] }
  | _ => none }
def FnExactPatternTextWrongFalsely : Prop := fnExactPatternTextRow.holds Try.pinned (OpenSpec.ofChange fnExactPatternTextWrong)

/-- 'laws.FnExactTurnPattern': WHATEVER THE INPUT: true; the input reads as it did. -/
def fnExactTurnPatternSpec : ChangeSpec := { name := "fnExactTurnPattern", fn := fun _ => fun
  | [d1, d2] => { results := [.lit (.bool true)], args := [d1, d2] }
  | _ => none }
def fnExactTurnPatternRow : OpenClaim := { program := "ytjabgfhjkjinoaa", sum := "b89542043f3885e93d256b237bf5c07d4991bbb9dfe0f7232468f3c769bfe2f5", func := "loop.example/musicengine/laws.FnExactTurnPattern", spec := "fnExactTurnPattern", apart := false }
def FnExactTurnPatternSaid : Prop := fnExactTurnPatternRow.holds Try.pinned (OpenSpec.ofChange fnExactTurnPatternSpec)

/-- ITS FALSE NEIGHBOUR: 'it returns false'. Refute it at one input. -/
def fnExactTurnPatternWrong : ChangeSpec := { name := "fnExactTurnPattern", fn := fun _ => fun
  | [d1, d2] => { results := [.lit (.bool false)], args := [d1, d2] }
  | _ => none }
def FnExactTurnPatternWrongFalsely : Prop := fnExactTurnPatternRow.holds Try.pinned (OpenSpec.ofChange fnExactTurnPatternWrong)

/-- 'laws.FnExactSamePattern': WHATEVER THE INPUT: true; the input reads as it did. -/
def fnExactSamePatternSpec : ChangeSpec := { name := "fnExactSamePattern", fn := fun _ => fun
  | [d1, d2] => { results := [.lit (.bool true)], args := [d1, d2] }
  | _ => none }
def fnExactSamePatternRow : OpenClaim := { program := "ytjabgfhjkjinoaa", sum := "b89542043f3885e93d256b237bf5c07d4991bbb9dfe0f7232468f3c769bfe2f5", func := "loop.example/musicengine/laws.FnExactSamePattern", spec := "fnExactSamePattern", apart := false }
def FnExactSamePatternSaid : Prop := fnExactSamePatternRow.holds Try.pinned (OpenSpec.ofChange fnExactSamePatternSpec)

/-- ITS FALSE NEIGHBOUR: 'it returns false'. Refute it at one input. -/
def fnExactSamePatternWrong : ChangeSpec := { name := "fnExactSamePattern", fn := fun _ => fun
  | [d1, d2] => { results := [.lit (.bool false)], args := [d1, d2] }
  | _ => none }
def FnExactSamePatternWrongFalsely : Prop := fnExactSamePatternRow.holds Try.pinned (OpenSpec.ofChange fnExactSamePatternWrong)

/-- 'laws.FnExactPatternGaps': WHATEVER THE INPUT: true; the input reads as it did. -/
def fnExactPatternGapsSpec : ChangeSpec := { name := "fnExactPatternGaps", fn := fun _ => fun
  | [d] => { results := [.lit (.bool true)], args := [d] }
  | _ => none }
def fnExactPatternGapsRow : OpenClaim := { program := "ytjabgfhjkjinoaa", sum := "b89542043f3885e93d256b237bf5c07d4991bbb9dfe0f7232468f3c769bfe2f5", func := "loop.example/musicengine/laws.FnExactPatternGaps", spec := "fnExactPatternGaps", apart := false }
def FnExactPatternGapsSaid : Prop := fnExactPatternGapsRow.holds Try.pinned (OpenSpec.ofChange fnExactPatternGapsSpec)

/-- ITS FALSE NEIGHBOUR: 'it returns false'. Refute it at one input. -/
def fnExactPatternGapsWrong : ChangeSpec := { name := "fnExactPatternGaps", fn := fun _ => fun
  | [d] => { results := [.lit (.bool false)], args := [d] }
  | _ => none }
def FnExactPatternGapsWrongFalsely : Prop := fnExactPatternGapsRow.holds Try.pinned (OpenSpec.ofChange fnExactPatternGapsWrong)

/- THE SECOND FORM. 'bulk': how many values and letters a reading holds, each counted each time it is reached (what is shared counts as often as it is met; a slice's spare places count too). A statement '..UptoSaid' is the law's where the arguments, and the package variables that the reading takes, are together of bulk at most 1048576: NARROWER than '..Said'. Prove '..Said' where nothing that the law and all that it calls make is longer than what came in: it says more and counts as full. Else prove '..UptoSaid'. A law counts once. -/
mutual
def uptoBulk {H : Type} : DataW H → Nat
  | .lit (.string bytes) => bytes.length + 1
  | .lit _ => 1
  | .nil => 1
  | .ptr d => uptoBulk d + 1
  | .slice elems spare => uptoBulkAll elems + uptoBulkAll spare + 1
  | .agg parts => uptoBulkAll parts + 1
  | .iface _ d => uptoBulk d + 1
  | .map entries => uptoBulkEntries entries + 1
  | .held _ => 1
def uptoBulkAll {H : Type} : List (DataW H) → Nat
  | [] => 0
  | d :: r => uptoBulk d + uptoBulkAll r
def uptoBulkEntries {H : Type} : List (Lit × DataW H) → Nat
  | [] => 0
  | x :: r => uptoBulkEntry x + uptoBulkEntries r
def uptoBulkEntry {H : Type} : Lit × DataW H → Nat
  | (.string bytes, d) => bytes.length + uptoBulk d + 1
  | (_, d) => uptoBulk d + 1
 end
def uptoSmall : (H : Type) → List (DataW H) → Bool := fun _ ds => decide (uptoBulkAll ds ≤ 1048576)
def OpenSpec.upto (s : _root_.Go.ChangeSpec) : _root_.Go.OpenSpec := { _root_.Go.OpenSpec.ofChange s with cond := some uptoSmall }

/-- 'laws.FnExactPatternValid', WHERE WHAT IT READS IS OF BULK AT MOST 1048576: true; the input reads as it did. -/
def fnExactPatternValidUptoRow : OpenClaim := { program := "ytjabgfhjkjinoaa", sum := "b89542043f3885e93d256b237bf5c07d4991bbb9dfe0f7232468f3c769bfe2f5", func := "loop.example/musicengine/laws.FnExactPatternValid", spec := "fnExactPatternValid", apart := false, narrowed := true }
def FnExactPatternValidUptoSaid : Prop := fnExactPatternValidUptoRow.holds Try.pinned (OpenSpec.upto fnExactPatternValidSpec)

/-- 'laws.FnExactEvenPattern', WHERE WHAT IT READS IS OF BULK AT MOST 1048576: true; the input reads as it did. -/
def fnExactEvenPatternUptoRow : OpenClaim := { program := "ytjabgfhjkjinoaa", sum := "b89542043f3885e93d256b237bf5c07d4991bbb9dfe0f7232468f3c769bfe2f5", func := "loop.example/musicengine/laws.FnExactEvenPattern", spec := "fnExactEvenPattern", apart := false, narrowed := true }
def FnExactEvenPatternUptoSaid : Prop := fnExactEvenPatternUptoRow.holds Try.pinned (OpenSpec.upto fnExactEvenPatternSpec)

/-- 'laws.FnExactPatternText', WHERE WHAT IT READS IS OF BULK AT MOST 1048576: true; the input reads as it did. -/
def fnExactPatternTextUptoRow : OpenClaim := { program := "ytjabgfhjkjinoaa", sum := "b89542043f3885e93d256b237bf5c07d4991bbb9dfe0f7232468f3c769bfe2f5", func := "loop.example/musicengine/laws.FnExactPatternText", spec := "fnExactPatternText", apart := false, narrowed := true }
def FnExactPatternTextUptoSaid : Prop := fnExactPatternTextUptoRow.holds Try.pinned (OpenSpec.upto fnExactPatternTextSpec)

/-- 'laws.FnExactTurnPattern', WHERE WHAT IT READS IS OF BULK AT MOST 1048576: true; the input reads as it did. -/
def fnExactTurnPatternUptoRow : OpenClaim := { program := "ytjabgfhjkjinoaa", sum := "b89542043f3885e93d256b237bf5c07d4991bbb9dfe0f7232468f3c769bfe2f5", func := "loop.example/musicengine/laws.FnExactTurnPattern", spec := "fnExactTurnPattern", apart := false, narrowed := true }
def FnExactTurnPatternUptoSaid : Prop := fnExactTurnPatternUptoRow.holds Try.pinned (OpenSpec.upto fnExactTurnPatternSpec)

/-- 'laws.FnExactSamePattern', WHERE WHAT IT READS IS OF BULK AT MOST 1048576: true; the input reads as it did. -/
def fnExactSamePatternUptoRow : OpenClaim := { program := "ytjabgfhjkjinoaa", sum := "b89542043f3885e93d256b237bf5c07d4991bbb9dfe0f7232468f3c769bfe2f5", func := "loop.example/musicengine/laws.FnExactSamePattern", spec := "fnExactSamePattern", apart := false, narrowed := true }
def FnExactSamePatternUptoSaid : Prop := fnExactSamePatternUptoRow.holds Try.pinned (OpenSpec.upto fnExactSamePatternSpec)

/-- 'laws.FnExactPatternGaps', WHERE WHAT IT READS IS OF BULK AT MOST 1048576: true; the input reads as it did. -/
def fnExactPatternGapsUptoRow : OpenClaim := { program := "ytjabgfhjkjinoaa", sum := "b89542043f3885e93d256b237bf5c07d4991bbb9dfe0f7232468f3c769bfe2f5", func := "loop.example/musicengine/laws.FnExactPatternGaps", spec := "fnExactPatternGaps", apart := false, narrowed := true }
def FnExactPatternGapsUptoSaid : Prop := fnExactPatternGapsUptoRow.holds Try.pinned (OpenSpec.upto fnExactPatternGapsSpec)

end Rows
end Go.Proofs.Ytjabgfhjkjinoaa
