/-
  No cell of these rows narrows 'for every input' (looked for: loops, veiled, ifaces, maps, wideKeys, modest, calm, conditions, laid).
  DERIVED. THE GIVEN ROWS OF THIS SEAT. 6 by the template 'for every input the law returns true; each argument reads behind the call as it read before'; 0 by the template 'total and deterministic' (their statements: YtelajonddhoafaaTotals.lean).
  GIVEN WITH THE SEED: the statements are not yours to turn. If you find one false, say at which input.
  Laid BY PROGRAM, IN A SANDBOX (cutbox-rows.mjs): the forced cells as the released guide's own fill.sh prints them over the translation fb5350dd12a411d9… (all of the seat's roots in one cut). By AI agents, Wed Nov 11 2026. No macro, syntax, notation, axiom, sorry.
-/
import Derived.Test.YtelajonddhoafaaChecked
import GoSem.Claim
import GoSem.ClaimJoined
import GoSem.ClaimMapViews
import Derived.JoinedTies
import Derived.KernelRfl
namespace Go.Proofs.Ytelajonddhoafaa
/- THE CELL 'sum', in the pinned program and in every row, IS THE sha256 OF THE DUMP (.gsa) THAT YtelajonddhoafaaProg.lean LOADS. Nothing in Lean hashes anything: it is a label: what it is worth is what the hold of that sum in a sandbox is worth. -/
noncomputable def Try.pinned : Pinned := { name := "ytelajonddhoafaa", sum := "fb5350dd12a411d9e179d83da84ee88228bab091b0b7c89f5f088dfa686c5408", checked := Try.checked }
namespace Rows
def none {H : Type} : Left H := { results := [], args := [] }

/-- 'laws.FnPatternValid': WHATEVER THE INPUT: true; the input reads as it did. -/
def fnPatternValidSpec : ChangeSpec := { name := "fnPatternValid", fn := fun _ => fun
  | [d] => { results := [.lit (.bool true)], args := [d] }
  | _ => none }
def fnPatternValidRow : OpenClaim := { program := "ytelajonddhoafaa", sum := "fb5350dd12a411d9e179d83da84ee88228bab091b0b7c89f5f088dfa686c5408", func := "loop.example/musicengine/laws.FnPatternValid", spec := "fnPatternValid", apart := false }
def FnPatternValidSaid : Prop := fnPatternValidRow.holds Try.pinned (OpenSpec.ofChange fnPatternValidSpec)

/-- ITS FALSE NEIGHBOUR: 'it returns false'. Refute it at one input. -/
def fnPatternValidWrong : ChangeSpec := { name := "fnPatternValid", fn := fun _ => fun
  | [d] => { results := [.lit (.bool false)], args := [d] }
  | _ => none }
def FnPatternValidWrongFalsely : Prop := fnPatternValidRow.holds Try.pinned (OpenSpec.ofChange fnPatternValidWrong)

/-- 'laws.FnPatternText': WHATEVER THE INPUT: true; the input reads as it did. -/
def fnPatternTextSpec : ChangeSpec := { name := "fnPatternText", fn := fun _ => fun
  | [d] => { results := [.lit (.bool true)], args := [d] }
  | _ => none }
def fnPatternTextRow : OpenClaim := { program := "ytelajonddhoafaa", sum := "fb5350dd12a411d9e179d83da84ee88228bab091b0b7c89f5f088dfa686c5408", func := "loop.example/musicengine/laws.FnPatternText", spec := "fnPatternText", apart := false }
def FnPatternTextSaid : Prop := fnPatternTextRow.holds Try.pinned (OpenSpec.ofChange fnPatternTextSpec)

/-- ITS FALSE NEIGHBOUR: 'it returns false'. Refute it at one input. -/
def fnPatternTextWrong : ChangeSpec := { name := "fnPatternText", fn := fun _ => fun
  | [d] => { results := [.lit (.bool false)], args := [d] }
  | _ => none }
def FnPatternTextWrongFalsely : Prop := fnPatternTextRow.holds Try.pinned (OpenSpec.ofChange fnPatternTextWrong)

/-- 'laws.FnEvenPattern': WHATEVER THE INPUT: true; the input reads as it did. -/
def fnEvenPatternSpec : ChangeSpec := { name := "fnEvenPattern", fn := fun _ => fun
  | [d] => { results := [.lit (.bool true)], args := [d] }
  | _ => none }
def fnEvenPatternRow : OpenClaim := { program := "ytelajonddhoafaa", sum := "fb5350dd12a411d9e179d83da84ee88228bab091b0b7c89f5f088dfa686c5408", func := "loop.example/musicengine/laws.FnEvenPattern", spec := "fnEvenPattern", apart := false }
def FnEvenPatternSaid : Prop := fnEvenPatternRow.holds Try.pinned (OpenSpec.ofChange fnEvenPatternSpec)

/-- ITS FALSE NEIGHBOUR: 'it returns false'. Refute it at one input. -/
def fnEvenPatternWrong : ChangeSpec := { name := "fnEvenPattern", fn := fun _ => fun
  | [d] => { results := [.lit (.bool false)], args := [d] }
  | _ => none }
def FnEvenPatternWrongFalsely : Prop := fnEvenPatternRow.holds Try.pinned (OpenSpec.ofChange fnEvenPatternWrong)

/-- 'laws.FnPatternGaps': WHATEVER THE INPUT: true; the input reads as it did. -/
def fnPatternGapsSpec : ChangeSpec := { name := "fnPatternGaps", fn := fun _ => fun
  | [d] => { results := [.lit (.bool true)], args := [d] }
  | _ => none }
def fnPatternGapsRow : OpenClaim := { program := "ytelajonddhoafaa", sum := "fb5350dd12a411d9e179d83da84ee88228bab091b0b7c89f5f088dfa686c5408", func := "loop.example/musicengine/laws.FnPatternGaps", spec := "fnPatternGaps", apart := false }
def FnPatternGapsSaid : Prop := fnPatternGapsRow.holds Try.pinned (OpenSpec.ofChange fnPatternGapsSpec)

/-- ITS FALSE NEIGHBOUR: 'it returns false'. Refute it at one input. -/
def fnPatternGapsWrong : ChangeSpec := { name := "fnPatternGaps", fn := fun _ => fun
  | [d] => { results := [.lit (.bool false)], args := [d] }
  | _ => none }
def FnPatternGapsWrongFalsely : Prop := fnPatternGapsRow.holds Try.pinned (OpenSpec.ofChange fnPatternGapsWrong)

/-- 'laws.FnTurnPattern': WHATEVER THE INPUT: true; the input reads as it did. -/
def fnTurnPatternSpec : ChangeSpec := { name := "fnTurnPattern", fn := fun _ => fun
  | [d] => { results := [.lit (.bool true)], args := [d] }
  | _ => none }
def fnTurnPatternRow : OpenClaim := { program := "ytelajonddhoafaa", sum := "fb5350dd12a411d9e179d83da84ee88228bab091b0b7c89f5f088dfa686c5408", func := "loop.example/musicengine/laws.FnTurnPattern", spec := "fnTurnPattern", apart := false }
def FnTurnPatternSaid : Prop := fnTurnPatternRow.holds Try.pinned (OpenSpec.ofChange fnTurnPatternSpec)

/-- ITS FALSE NEIGHBOUR: 'it returns false'. Refute it at one input. -/
def fnTurnPatternWrong : ChangeSpec := { name := "fnTurnPattern", fn := fun _ => fun
  | [d] => { results := [.lit (.bool false)], args := [d] }
  | _ => none }
def FnTurnPatternWrongFalsely : Prop := fnTurnPatternRow.holds Try.pinned (OpenSpec.ofChange fnTurnPatternWrong)

/-- 'laws.FnSamePattern': WHATEVER THE INPUT: true; the input reads as it did. -/
def fnSamePatternSpec : ChangeSpec := { name := "fnSamePattern", fn := fun _ => fun
  | [d] => { results := [.lit (.bool true)], args := [d] }
  | _ => none }
def fnSamePatternRow : OpenClaim := { program := "ytelajonddhoafaa", sum := "fb5350dd12a411d9e179d83da84ee88228bab091b0b7c89f5f088dfa686c5408", func := "loop.example/musicengine/laws.FnSamePattern", spec := "fnSamePattern", apart := false }
def FnSamePatternSaid : Prop := fnSamePatternRow.holds Try.pinned (OpenSpec.ofChange fnSamePatternSpec)

/-- ITS FALSE NEIGHBOUR: 'it returns false'. Refute it at one input. -/
def fnSamePatternWrong : ChangeSpec := { name := "fnSamePattern", fn := fun _ => fun
  | [d] => { results := [.lit (.bool false)], args := [d] }
  | _ => none }
def FnSamePatternWrongFalsely : Prop := fnSamePatternRow.holds Try.pinned (OpenSpec.ofChange fnSamePatternWrong)

/- THE SECOND FORM. 'bulk': how many values and letters a reading holds, each counted each time it is reached (what is shared counts as often as it is met; a slice's spare places count too). A statement '..UptoSaid' is the law's where the arguments, and the package variables that the reading takes, are together of bulk at most 1048576: NARROWER than '..Said'. Prove '..Said' where nothing that the law and all that it calls make is longer than what came in: it says more and counts as full. Else prove '..UptoSaid'. A law counts once. -/
mutual
def uptoBulk {H : Type} : DataW H → Nat
  | .lit (.string bytes) => bytes.length + 1
  | .lit _ => 1
  | .nil => 1
  | .ptr d => uptoBulk d + 1
  | .slice elems spare => uptoBulkAll elems + uptoBulkAll spare + 1
  | .agg parts => uptoBulkAll parts + 1
  | .iface _ d => uptoBulk d + 1
  | .map entries => uptoBulkEntries entries + 1
  | .held _ => 1
def uptoBulkAll {H : Type} : List (DataW H) → Nat
  | [] => 0
  | d :: r => uptoBulk d + uptoBulkAll r
def uptoBulkEntries {H : Type} : List (Lit × DataW H) → Nat
  | [] => 0
  | x :: r => uptoBulkEntry x + uptoBulkEntries r
def uptoBulkEntry {H : Type} : Lit × DataW H → Nat
  | (.string bytes, d) => bytes.length + uptoBulk d + 1
  | (_, d) => uptoBulk d + 1
 end
def uptoSmall : (H : Type) → List (DataW H) → Bool := fun _ ds => decide (uptoBulkAll ds ≤ 1048576)
def OpenSpec.upto (s : _root_.Go.ChangeSpec) : _root_.Go.OpenSpec := { _root_.Go.OpenSpec.ofChange s with cond := some uptoSmall }

/-- 'laws.FnPatternValid', WHERE WHAT IT READS IS OF BULK AT MOST 1048576: true; the input reads as it did. -/
def fnPatternValidUptoRow : OpenClaim := { program := "ytelajonddhoafaa", sum := "fb5350dd12a411d9e179d83da84ee88228bab091b0b7c89f5f088dfa686c5408", func := "loop.example/musicengine/laws.FnPatternValid", spec := "fnPatternValid", apart := false, narrowed := true }
def FnPatternValidUptoSaid : Prop := fnPatternValidUptoRow.holds Try.pinned (OpenSpec.upto fnPatternValidSpec)

/-- 'laws.FnPatternText', WHERE WHAT IT READS IS OF BULK AT MOST 1048576: true; the input reads as it did. -/
def fnPatternTextUptoRow : OpenClaim := { program := "ytelajonddhoafaa", sum := "fb5350dd12a411d9e179d83da84ee88228bab091b0b7c89f5f088dfa686c5408", func := "loop.example/musicengine/laws.FnPatternText", spec := "fnPatternText", apart := false, narrowed := true }
def FnPatternTextUptoSaid : Prop := fnPatternTextUptoRow.holds Try.pinned (OpenSpec.upto fnPatternTextSpec)

/-- 'laws.FnEvenPattern', WHERE WHAT IT READS IS OF BULK AT MOST 1048576: true; the input reads as it did. -/
def fnEvenPatternUptoRow : OpenClaim := { program := "ytelajonddhoafaa", sum := "fb5350dd12a411d9e179d83da84ee88228bab091b0b7c89f5f088dfa686c5408", func := "loop.example/musicengine/laws.FnEvenPattern", spec := "fnEvenPattern", apart := false, narrowed := true }
def FnEvenPatternUptoSaid : Prop := fnEvenPatternUptoRow.holds Try.pinned (OpenSpec.upto fnEvenPatternSpec)

/-- 'laws.FnPatternGaps', WHERE WHAT IT READS IS OF BULK AT MOST 1048576: true; the input reads as it did. -/
def fnPatternGapsUptoRow : OpenClaim := { program := "ytelajonddhoafaa", sum := "fb5350dd12a411d9e179d83da84ee88228bab091b0b7c89f5f088dfa686c5408", func := "loop.example/musicengine/laws.FnPatternGaps", spec := "fnPatternGaps", apart := false, narrowed := true }
def FnPatternGapsUptoSaid : Prop := fnPatternGapsUptoRow.holds Try.pinned (OpenSpec.upto fnPatternGapsSpec)

/-- 'laws.FnTurnPattern', WHERE WHAT IT READS IS OF BULK AT MOST 1048576: true; the input reads as it did. -/
def fnTurnPatternUptoRow : OpenClaim := { program := "ytelajonddhoafaa", sum := "fb5350dd12a411d9e179d83da84ee88228bab091b0b7c89f5f088dfa686c5408", func := "loop.example/musicengine/laws.FnTurnPattern", spec := "fnTurnPattern", apart := false, narrowed := true }
def FnTurnPatternUptoSaid : Prop := fnTurnPatternUptoRow.holds Try.pinned (OpenSpec.upto fnTurnPatternSpec)

/-- 'laws.FnSamePattern', WHERE WHAT IT READS IS OF BULK AT MOST 1048576: true; the input reads as it did. -/
def fnSamePatternUptoRow : OpenClaim := { program := "ytelajonddhoafaa", sum := "fb5350dd12a411d9e179d83da84ee88228bab091b0b7c89f5f088dfa686c5408", func := "loop.example/musicengine/laws.FnSamePattern", spec := "fnSamePattern", apart := false, narrowed := true }
def FnSamePatternUptoSaid : Prop := fnSamePatternUptoRow.holds Try.pinned (OpenSpec.upto fnSamePatternSpec)

end Rows
end Go.Proofs.Ytelajonddhoafaa
