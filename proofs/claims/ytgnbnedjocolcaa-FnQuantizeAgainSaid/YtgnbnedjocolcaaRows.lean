/-
  No cell of these rows narrows 'for every input' (looked for: loops, veiled, ifaces, maps, wideKeys, modest, calm, conditions, laid).
  DERIVED. THE GIVEN ROWS OF THIS SEAT. 5 by the template 'for every input the law returns true; each argument reads behind the call as it read before'; 0 by the template 'total and deterministic' (their statements: YtgnbnedjocolcaaTotals.lean).
  GIVEN WITH THE SEED: the statements are not yours to turn. If you find one false, say at which input.
  Laid BY PROGRAM, IN A SANDBOX (cutbox-rows.mjs): the forced cells as the released guide's own fill.sh prints them over the translation 2306e6ba6f8c5723… (all of the seat's roots in one cut). By AI agents, Wed Nov 11 2026. No macro, syntax, notation, axiom, sorry.
-/
import Derived.Test.YtgnbnedjocolcaaChecked
import GoSem.Claim
import GoSem.ClaimJoined
import GoSem.ClaimMapViews
import Derived.JoinedTies
import Derived.KernelRfl
namespace Go.Proofs.Ytgnbnedjocolcaa
/- THE CELL 'sum', in the pinned program and in every row, IS THE sha256 OF THE DUMP (.gsa) THAT YtgnbnedjocolcaaProg.lean LOADS. Nothing in Lean hashes anything: it is a label: what it is worth is what the hold of that sum in a sandbox is worth. -/
noncomputable def Try.pinned : Pinned := { name := "ytgnbnedjocolcaa", sum := "2306e6ba6f8c5723e77f20ffc41f0b86d9afa675840b0fc8e3f3d60c6eb0b94f", checked := Try.checked }
namespace Rows
def none {H : Type} : Left H := { results := [], args := [] }

/-- 'laws.FnNearestGrid': WHATEVER THE INPUT: true; the input reads as it did. -/
def fnNearestGridSpec : ChangeSpec := { name := "fnNearestGrid", fn := fun _ => fun
  | [d] => { results := [.lit (.bool true)], args := [d] }
  | _ => none }
def fnNearestGridRow : OpenClaim := { program := "ytgnbnedjocolcaa", sum := "2306e6ba6f8c5723e77f20ffc41f0b86d9afa675840b0fc8e3f3d60c6eb0b94f", func := "loop.example/musicengine/laws.FnNearestGrid", spec := "fnNearestGrid", apart := false }
def FnNearestGridSaid : Prop := fnNearestGridRow.holds Try.pinned (OpenSpec.ofChange fnNearestGridSpec)

/-- ITS FALSE NEIGHBOUR: 'it returns false'. Refute it at one input. -/
def fnNearestGridWrong : ChangeSpec := { name := "fnNearestGrid", fn := fun _ => fun
  | [d] => { results := [.lit (.bool false)], args := [d] }
  | _ => none }
def FnNearestGridWrongFalsely : Prop := fnNearestGridRow.holds Try.pinned (OpenSpec.ofChange fnNearestGridWrong)

/-- 'laws.FnQuantizeError': WHATEVER THE INPUT: true; the input reads as it did. -/
def fnQuantizeErrorSpec : ChangeSpec := { name := "fnQuantizeError", fn := fun _ => fun
  | [d] => { results := [.lit (.bool true)], args := [d] }
  | _ => none }
def fnQuantizeErrorRow : OpenClaim := { program := "ytgnbnedjocolcaa", sum := "2306e6ba6f8c5723e77f20ffc41f0b86d9afa675840b0fc8e3f3d60c6eb0b94f", func := "loop.example/musicengine/laws.FnQuantizeError", spec := "fnQuantizeError", unfollowed := true, recurses := true, apart := false }
def FnQuantizeErrorSaid : Prop := fnQuantizeErrorRow.holds Try.pinned (OpenSpec.ofChange fnQuantizeErrorSpec)

/-- ITS FALSE NEIGHBOUR: 'it returns false'. Refute it at one input. -/
def fnQuantizeErrorWrong : ChangeSpec := { name := "fnQuantizeError", fn := fun _ => fun
  | [d] => { results := [.lit (.bool false)], args := [d] }
  | _ => none }
def FnQuantizeErrorWrongFalsely : Prop := fnQuantizeErrorRow.holds Try.pinned (OpenSpec.ofChange fnQuantizeErrorWrong)

/-- 'laws.FnPlainVoice': WHATEVER THE INPUT: true; the input reads as it did. -/
def fnPlainVoiceSpec : ChangeSpec := { name := "fnPlainVoice", fn := fun _ => fun
  | [d] => { results := [.lit (.bool true)], args := [d] }
  | _ => none }
def fnPlainVoiceRow : OpenClaim := { program := "ytgnbnedjocolcaa", sum := "2306e6ba6f8c5723e77f20ffc41f0b86d9afa675840b0fc8e3f3d60c6eb0b94f", func := "loop.example/musicengine/laws.FnPlainVoice", spec := "fnPlainVoice", unfollowed := true, recurses := true, apart := false }
def FnPlainVoiceSaid : Prop := fnPlainVoiceRow.holds Try.pinned (OpenSpec.ofChange fnPlainVoiceSpec)

/-- ITS FALSE NEIGHBOUR: 'it returns false'. Refute it at one input. -/
def fnPlainVoiceWrong : ChangeSpec := { name := "fnPlainVoice", fn := fun _ => fun
  | [d] => { results := [.lit (.bool false)], args := [d] }
  | _ => none }
def FnPlainVoiceWrongFalsely : Prop := fnPlainVoiceRow.holds Try.pinned (OpenSpec.ofChange fnPlainVoiceWrong)

/-- 'laws.FnQuantize': WHATEVER THE INPUT: true; the input reads as it did. -/
def fnQuantizeSpec : ChangeSpec := { name := "fnQuantize", fn := fun _ => fun
  | [d] => { results := [.lit (.bool true)], args := [d] }
  | _ => none }
def fnQuantizeRow : OpenClaim := { program := "ytgnbnedjocolcaa", sum := "2306e6ba6f8c5723e77f20ffc41f0b86d9afa675840b0fc8e3f3d60c6eb0b94f", func := "loop.example/musicengine/laws.FnQuantize", spec := "fnQuantize", unfollowed := true, recurses := true, apart := false }
def FnQuantizeSaid : Prop := fnQuantizeRow.holds Try.pinned (OpenSpec.ofChange fnQuantizeSpec)

/-- ITS FALSE NEIGHBOUR: 'it returns false'. Refute it at one input. -/
def fnQuantizeWrong : ChangeSpec := { name := "fnQuantize", fn := fun _ => fun
  | [d] => { results := [.lit (.bool false)], args := [d] }
  | _ => none }
def FnQuantizeWrongFalsely : Prop := fnQuantizeRow.holds Try.pinned (OpenSpec.ofChange fnQuantizeWrong)

/-- 'laws.FnQuantizeAgain': WHATEVER THE INPUT: true; the input reads as it did. -/
def fnQuantizeAgainSpec : ChangeSpec := { name := "fnQuantizeAgain", fn := fun _ => fun
  | [d] => { results := [.lit (.bool true)], args := [d] }
  | _ => none }
def fnQuantizeAgainRow : OpenClaim := { program := "ytgnbnedjocolcaa", sum := "2306e6ba6f8c5723e77f20ffc41f0b86d9afa675840b0fc8e3f3d60c6eb0b94f", func := "loop.example/musicengine/laws.FnQuantizeAgain", spec := "fnQuantizeAgain", unfollowed := true, recurses := true, apart := false }
def FnQuantizeAgainSaid : Prop := fnQuantizeAgainRow.holds Try.pinned (OpenSpec.ofChange fnQuantizeAgainSpec)

/-- ITS FALSE NEIGHBOUR: 'it returns false'. Refute it at one input. -/
def fnQuantizeAgainWrong : ChangeSpec := { name := "fnQuantizeAgain", fn := fun _ => fun
  | [d] => { results := [.lit (.bool false)], args := [d] }
  | _ => none }
def FnQuantizeAgainWrongFalsely : Prop := fnQuantizeAgainRow.holds Try.pinned (OpenSpec.ofChange fnQuantizeAgainWrong)

/- THE SECOND FORM. 'bulk': how many values and letters a reading holds, each counted each time it is reached (what is shared counts as often as it is met; a slice's spare places count too). A statement '..UptoSaid' is the law's where the arguments, and the package variables that the reading takes, are together of bulk at most 1048576: NARROWER than '..Said'. Prove '..Said' where nothing that the law and all that it calls make is longer than what came in: it says more and counts as full. Else prove '..UptoSaid'. A law counts once. -/
mutual
def uptoBulk {H : Type} : DataW H → Nat
  | .lit (.string bytes) => bytes.length + 1
  | .lit _ => 1
  | .nil => 1
  | .ptr d => uptoBulk d + 1
  | .slice elems spare => uptoBulkAll elems + uptoBulkAll spare + 1
  | .agg parts => uptoBulkAll parts + 1
  | .iface _ d => uptoBulk d + 1
  | .map entries => uptoBulkEntries entries + 1
  | .held _ => 1
def uptoBulkAll {H : Type} : List (DataW H) → Nat
  | [] => 0
  | d :: r => uptoBulk d + uptoBulkAll r
def uptoBulkEntries {H : Type} : List (Lit × DataW H) → Nat
  | [] => 0
  | x :: r => uptoBulkEntry x + uptoBulkEntries r
def uptoBulkEntry {H : Type} : Lit × DataW H → Nat
  | (.string bytes, d) => bytes.length + uptoBulk d + 1
  | (_, d) => uptoBulk d + 1
 end
def uptoSmall : (H : Type) → List (DataW H) → Bool := fun _ ds => decide (uptoBulkAll ds ≤ 1048576)
def OpenSpec.upto (s : _root_.Go.ChangeSpec) : _root_.Go.OpenSpec := { _root_.Go.OpenSpec.ofChange s with cond := some uptoSmall }

/-- 'laws.FnNearestGrid', WHERE WHAT IT READS IS OF BULK AT MOST 1048576: true; the input reads as it did. -/
def fnNearestGridUptoRow : OpenClaim := { program := "ytgnbnedjocolcaa", sum := "2306e6ba6f8c5723e77f20ffc41f0b86d9afa675840b0fc8e3f3d60c6eb0b94f", func := "loop.example/musicengine/laws.FnNearestGrid", spec := "fnNearestGrid", apart := false, narrowed := true }
def FnNearestGridUptoSaid : Prop := fnNearestGridUptoRow.holds Try.pinned (OpenSpec.upto fnNearestGridSpec)

/-- 'laws.FnQuantizeError', WHERE WHAT IT READS IS OF BULK AT MOST 1048576: true; the input reads as it did. -/
def fnQuantizeErrorUptoRow : OpenClaim := { program := "ytgnbnedjocolcaa", sum := "2306e6ba6f8c5723e77f20ffc41f0b86d9afa675840b0fc8e3f3d60c6eb0b94f", func := "loop.example/musicengine/laws.FnQuantizeError", spec := "fnQuantizeError", unfollowed := true, recurses := true, apart := false, narrowed := true }
def FnQuantizeErrorUptoSaid : Prop := fnQuantizeErrorUptoRow.holds Try.pinned (OpenSpec.upto fnQuantizeErrorSpec)

/-- 'laws.FnPlainVoice', WHERE WHAT IT READS IS OF BULK AT MOST 1048576: true; the input reads as it did. -/
def fnPlainVoiceUptoRow : OpenClaim := { program := "ytgnbnedjocolcaa", sum := "2306e6ba6f8c5723e77f20ffc41f0b86d9afa675840b0fc8e3f3d60c6eb0b94f", func := "loop.example/musicengine/laws.FnPlainVoice", spec := "fnPlainVoice", unfollowed := true, recurses := true, apart := false, narrowed := true }
def FnPlainVoiceUptoSaid : Prop := fnPlainVoiceUptoRow.holds Try.pinned (OpenSpec.upto fnPlainVoiceSpec)

/-- 'laws.FnQuantize', WHERE WHAT IT READS IS OF BULK AT MOST 1048576: true; the input reads as it did. -/
def fnQuantizeUptoRow : OpenClaim := { program := "ytgnbnedjocolcaa", sum := "2306e6ba6f8c5723e77f20ffc41f0b86d9afa675840b0fc8e3f3d60c6eb0b94f", func := "loop.example/musicengine/laws.FnQuantize", spec := "fnQuantize", unfollowed := true, recurses := true, apart := false, narrowed := true }
def FnQuantizeUptoSaid : Prop := fnQuantizeUptoRow.holds Try.pinned (OpenSpec.upto fnQuantizeSpec)

/-- 'laws.FnQuantizeAgain', WHERE WHAT IT READS IS OF BULK AT MOST 1048576: true; the input reads as it did. -/
def fnQuantizeAgainUptoRow : OpenClaim := { program := "ytgnbnedjocolcaa", sum := "2306e6ba6f8c5723e77f20ffc41f0b86d9afa675840b0fc8e3f3d60c6eb0b94f", func := "loop.example/musicengine/laws.FnQuantizeAgain", spec := "fnQuantizeAgain", unfollowed := true, recurses := true, apart := false, narrowed := true }
def FnQuantizeAgainUptoSaid : Prop := fnQuantizeAgainUptoRow.holds Try.pinned (OpenSpec.upto fnQuantizeAgainSpec)

end Rows
end Go.Proofs.Ytgnbnedjocolcaa
