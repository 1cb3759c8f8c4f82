/-
  No cell of these rows narrows 'for every input' (looked for: loops, veiled, ifaces, maps, wideKeys, modest, calm, conditions, laid).
  DERIVED. THE GIVEN ROWS OF THIS SEAT. 5 by the template 'for every input the law returns true; each argument reads behind the call as it read before'; 0 by the template 'total and deterministic' (their statements: YtkmgmnjggnamfaaTotals.lean).
  GIVEN WITH THE SEED: the statements are not yours to turn. If you find one false, say at which input.
  Laid BY PROGRAM, IN A SANDBOX (cutbox-rows.mjs): the forced cells as the released guide's own fill.sh prints them over the translation 44e5398475737096… (all of the seat's roots in one cut). By AI agents, Wed Nov 11 2026. No macro, syntax, notation, axiom, sorry.
-/
import Derived.Test.YtkmgmnjggnamfaaChecked
import GoSem.Claim
import GoSem.ClaimJoined
import GoSem.ClaimMapViews
import Derived.JoinedTies
import Derived.KernelRfl
namespace Go.Proofs.Ytkmgmnjggnamfaa
/- THE CELL 'sum', in the pinned program and in every row, IS THE sha256 OF THE DUMP (.gsa) THAT YtkmgmnjggnamfaaProg.lean LOADS. Nothing in Lean hashes anything: it is a label: what it is worth is what the hold of that sum in a sandbox is worth. -/
noncomputable def Try.pinned : Pinned := { name := "ytkmgmnjggnamfaa", sum := "44e5398475737096f62856f371b9c7ca3108ce8276920ffc8747f8a17d43aba5", checked := Try.checked }
namespace Rows
def none {H : Type} : Left H := { results := [], args := [] }

/-- 'laws.FnExactNearestGrid': WHATEVER THE INPUT: true; the input reads as it did. -/
def fnExactNearestGridSpec : ChangeSpec := { name := "fnExactNearestGrid", fn := fun _ => fun
  | [d1, d2] => { results := [.lit (.bool true)], args := [d1, d2] }
  | _ => none }
def fnExactNearestGridRow : OpenClaim := { program := "ytkmgmnjggnamfaa", sum := "44e5398475737096f62856f371b9c7ca3108ce8276920ffc8747f8a17d43aba5", func := "loop.example/musicengine/laws.FnExactNearestGrid", spec := "fnExactNearestGrid", apart := false }
def FnExactNearestGridSaid : Prop := fnExactNearestGridRow.holds Try.pinned (OpenSpec.ofChange fnExactNearestGridSpec)

/-- ITS FALSE NEIGHBOUR: 'it returns false'. Refute it at one input. -/
def fnExactNearestGridWrong : ChangeSpec := { name := "fnExactNearestGrid", fn := fun _ => fun
  | [d1, d2] => { results := [.lit (.bool false)], args := [d1, d2] }
  | _ => none }
def FnExactNearestGridWrongFalsely : Prop := fnExactNearestGridRow.holds Try.pinned (OpenSpec.ofChange fnExactNearestGridWrong)

/-- 'laws.FnExactQuantizeError': WHATEVER THE INPUT: true; the input reads as it did. -/
def fnExactQuantizeErrorSpec : ChangeSpec := { name := "fnExactQuantizeError", fn := fun _ => fun
  | [d1, d2, d3] => { results := [.lit (.bool true)], args := [d1, d2, d3] }
  | _ => none }
def fnExactQuantizeErrorRow : OpenClaim := { program := "ytkmgmnjggnamfaa", sum := "44e5398475737096f62856f371b9c7ca3108ce8276920ffc8747f8a17d43aba5", func := "loop.example/musicengine/laws.FnExactQuantizeError", spec := "fnExactQuantizeError", unfollowed := true, recurses := true, apart := false }
def FnExactQuantizeErrorSaid : Prop := fnExactQuantizeErrorRow.holds Try.pinned (OpenSpec.ofChange fnExactQuantizeErrorSpec)

/-- ITS FALSE NEIGHBOUR: 'it returns false'. Refute it at one input. -/
def fnExactQuantizeErrorWrong : ChangeSpec := { name := "fnExactQuantizeError", fn := fun _ => fun
  | [d1, d2, d3] => { results := [.lit (.bool false)], args := [d1, d2, d3] }
  | _ => none }
def FnExactQuantizeErrorWrongFalsely : Prop := fnExactQuantizeErrorRow.holds Try.pinned (OpenSpec.ofChange fnExactQuantizeErrorWrong)

/-- 'laws.FnExactPlainVoice': WHATEVER THE INPUT: true; the input reads as it did. -/
def fnExactPlainVoiceSpec : ChangeSpec := { name := "fnExactPlainVoice", fn := fun _ => fun
  | [d] => { results := [.lit (.bool true)], args := [d] }
  | _ => none }
def fnExactPlainVoiceRow : OpenClaim := { program := "ytkmgmnjggnamfaa", sum := "44e5398475737096f62856f371b9c7ca3108ce8276920ffc8747f8a17d43aba5", func := "loop.example/musicengine/laws.FnExactPlainVoice", spec := "fnExactPlainVoice", apart := false }
def FnExactPlainVoiceSaid : Prop := fnExactPlainVoiceRow.holds Try.pinned (OpenSpec.ofChange fnExactPlainVoiceSpec)

/-- ITS FALSE NEIGHBOUR: 'it returns false'. Refute it at one input. -/
def fnExactPlainVoiceWrong : ChangeSpec := { name := "fnExactPlainVoice", fn := fun _ => fun
  | [d] => { results := [.lit (.bool false)], args := [d] }
  | _ => none }
def FnExactPlainVoiceWrongFalsely : Prop := fnExactPlainVoiceRow.holds Try.pinned (OpenSpec.ofChange fnExactPlainVoiceWrong)

/-- 'laws.FnExactPerform': WHATEVER THE INPUT: true; the input reads as it did. -/
def fnExactPerformSpec : ChangeSpec := { name := "fnExactPerform", fn := fun _ => fun
  | [d1, d2, d3] => { results := [.lit (.bool true)], args := [d1, d2, d3] }
  | _ => none }
def fnExactPerformRow : OpenClaim := { program := "ytkmgmnjggnamfaa", sum := "44e5398475737096f62856f371b9c7ca3108ce8276920ffc8747f8a17d43aba5", func := "loop.example/musicengine/laws.FnExactPerform", spec := "fnExactPerform", apart := false }
def FnExactPerformSaid : Prop := fnExactPerformRow.holds Try.pinned (OpenSpec.ofChange fnExactPerformSpec)

/-- ITS FALSE NEIGHBOUR: 'it returns false'. Refute it at one input. -/
def fnExactPerformWrong : ChangeSpec := { name := "fnExactPerform", fn := fun _ => fun
  | [d1, d2, d3] => { results := [.lit (.bool false)], args := [d1, d2, d3] }
  | _ => none }
def FnExactPerformWrongFalsely : Prop := fnExactPerformRow.holds Try.pinned (OpenSpec.ofChange fnExactPerformWrong)

/-- 'laws.FnExactQuantize': WHATEVER THE INPUT: true; the input reads as it did. -/
def fnExactQuantizeSpec : ChangeSpec := { name := "fnExactQuantize", fn := fun _ => fun
  | [d1, d2, d3] => { results := [.lit (.bool true)], args := [d1, d2, d3] }
  | _ => none }
def fnExactQuantizeRow : OpenClaim := { program := "ytkmgmnjggnamfaa", sum := "44e5398475737096f62856f371b9c7ca3108ce8276920ffc8747f8a17d43aba5", func := "loop.example/musicengine/laws.FnExactQuantize", spec := "fnExactQuantize", unfollowed := true, recurses := true, apart := false }
def FnExactQuantizeSaid : Prop := fnExactQuantizeRow.holds Try.pinned (OpenSpec.ofChange fnExactQuantizeSpec)

/-- ITS FALSE NEIGHBOUR: 'it returns false'. Refute it at one input. -/
def fnExactQuantizeWrong : ChangeSpec := { name := "fnExactQuantize", fn := fun _ => fun
  | [d1, d2, d3] => { results := [.lit (.bool false)], args := [d1, d2, d3] }
  | _ => none }
def FnExactQuantizeWrongFalsely : Prop := fnExactQuantizeRow.holds Try.pinned (OpenSpec.ofChange fnExactQuantizeWrong)

/- THE SECOND FORM. 'bulk': how many values and letters a reading holds, each counted each time it is reached (what is shared counts as often as it is met; a slice's spare places count too). A statement '..UptoSaid' is the law's where the arguments, and the package variables that the reading takes, are together of bulk at most 1048576: NARROWER than '..Said'. Prove '..Said' where nothing that the law and all that it calls make is longer than what came in: it says more and counts as full. Else prove '..UptoSaid'. A law counts once. -/
mutual
def uptoBulk {H : Type} : DataW H → Nat
  | .lit (.string bytes) => bytes.length + 1
  | .lit _ => 1
  | .nil => 1
  | .ptr d => uptoBulk d + 1
  | .slice elems spare => uptoBulkAll elems + uptoBulkAll spare + 1
  | .agg parts => uptoBulkAll parts + 1
  | .iface _ d => uptoBulk d + 1
  | .map entries => uptoBulkEntries entries + 1
  | .held _ => 1
def uptoBulkAll {H : Type} : List (DataW H) → Nat
  | [] => 0
  | d :: r => uptoBulk d + uptoBulkAll r
def uptoBulkEntries {H : Type} : List (Lit × DataW H) → Nat
  | [] => 0
  | x :: r => uptoBulkEntry x + uptoBulkEntries r
def uptoBulkEntry {H : Type} : Lit × DataW H → Nat
  | (.string bytes, d) => bytes.length + uptoBulk d + 1
  | (_, d) => uptoBulk d + 1
 end
def uptoSmall : (H : Type) → List (DataW H) → Bool := fun _ ds => decide (uptoBulkAll ds ≤ 1048576)
def OpenSpec.upto (s : _root_.Go.ChangeSpec) : _root_.Go.OpenSpec := { _root_.Go.OpenSpec.ofChange s with cond := some uptoSmall }

/-- 'laws.FnExactNearestGrid', WHERE WHAT IT READS IS OF BULK AT MOST 1048576: true; the input reads as it did. -/
def fnExactNearestGridUptoRow : OpenClaim := { program := "ytkmgmnjggnamfaa", sum := "44e5398475737096f62856f371b9c7ca3108ce8276920ffc8747f8a17d43aba5", func := "loop.example/musicengine/laws.FnExactNearestGrid", spec := "fnExactNearestGrid", apart := false, narrowed := true }
def FnExactNearestGridUptoSaid : Prop := fnExactNearestGridUptoRow.holds Try.pinned (OpenSpec.upto fnExactNearestGridSpec)

/-- 'laws.FnExactQuantizeError', WHERE WHAT IT READS IS OF BULK AT MOST 1048576: true; the input reads as it did. -/
def fnExactQuantizeErrorUptoRow : OpenClaim := { program := "ytkmgmnjggnamfaa", sum := "44e5398475737096f62856f371b9c7ca3108ce8276920ffc8747f8a17d43aba5", func := "loop.example/musicengine/laws.FnExactQuantizeError", spec := "fnExactQuantizeError", unfollowed := true, recurses := true, apart := false, narrowed := true }
def FnExactQuantizeErrorUptoSaid : Prop := fnExactQuantizeErrorUptoRow.holds Try.pinned (OpenSpec.upto fnExactQuantizeErrorSpec)

/-- 'laws.FnExactPlainVoice', WHERE WHAT IT READS IS OF BULK AT MOST 1048576: true; the input reads as it did. -/
def fnExactPlainVoiceUptoRow : OpenClaim := { program := "ytkmgmnjggnamfaa", sum := "44e5398475737096f62856f371b9c7ca3108ce8276920ffc8747f8a17d43aba5", func := "loop.example/musicengine/laws.FnExactPlainVoice", spec := "fnExactPlainVoice", apart := false, narrowed := true }
def FnExactPlainVoiceUptoSaid : Prop := fnExactPlainVoiceUptoRow.holds Try.pinned (OpenSpec.upto fnExactPlainVoiceSpec)

/-- 'laws.FnExactPerform', WHERE WHAT IT READS IS OF BULK AT MOST 1048576: true; the input reads as it did. -/
def fnExactPerformUptoRow : OpenClaim := { program := "ytkmgmnjggnamfaa", sum := "44e5398475737096f62856f371b9c7ca3108ce8276920ffc8747f8a17d43aba5", func := "loop.example/musicengine/laws.FnExactPerform", spec := "fnExactPerform", apart := false, narrowed := true }
def FnExactPerformUptoSaid : Prop := fnExactPerformUptoRow.holds Try.pinned (OpenSpec.upto fnExactPerformSpec)

/-- 'laws.FnExactQuantize', WHERE WHAT IT READS IS OF BULK AT MOST 1048576: true; the input reads as it did. -/
def fnExactQuantizeUptoRow : OpenClaim := { program := "ytkmgmnjggnamfaa", sum := "44e5398475737096f62856f371b9c7ca3108ce8276920ffc8747f8a17d43aba5", func := "loop.example/musicengine/laws.FnExactQuantize", spec := "fnExactQuantize", unfollowed := true, recurses := true, apart := false, narrowed := true }
def FnExactQuantizeUptoSaid : Prop := fnExactQuantizeUptoRow.holds Try.pinned (OpenSpec.upto fnExactQuantizeSpec)

end Rows
end Go.Proofs.Ytkmgmnjggnamfaa
