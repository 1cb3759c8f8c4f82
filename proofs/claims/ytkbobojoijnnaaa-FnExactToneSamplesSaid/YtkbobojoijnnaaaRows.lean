/-
  No cell of these rows narrows 'for every input' (looked for: loops, veiled, ifaces, maps, wideKeys, modest, calm, conditions, laid).
  DERIVED. THE GIVEN ROWS OF THIS SEAT. 10 by the template 'for every input the law returns true; each argument reads behind the call as it read before'; 0 by the template 'total and deterministic' (their statements: YtkbobojoijnnaaaTotals.lean).
  GIVEN WITH THE SEED: the statements are not yours to turn. If you find one false, say at which input.
  Laid BY PROGRAM, IN A SANDBOX (cutbox-rows.mjs): the forced cells as the released guide's own fill.sh prints them over the translation 10e0f69a3e90bf8a… (all of the seat's roots in one cut). By AI agents, Wed Nov 11 2026. No macro, syntax, notation, axiom, sorry.
-/
import Derived.Test.YtkbobojoijnnaaaChecked
import GoSem.Claim
import GoSem.ClaimJoined
import GoSem.ClaimMapViews
import Derived.JoinedTies
import Derived.KernelRfl
namespace Go.Proofs.Ytkbobojoijnnaaa
/- THE CELL 'sum', in the pinned program and in every row, IS THE sha256 OF THE DUMP (.gsa) THAT YtkbobojoijnnaaaProg.lean LOADS. Nothing in Lean hashes anything: it is a label: what it is worth is what the hold of that sum in a sandbox is worth. -/
noncomputable def Try.pinned : Pinned := { name := "ytkbobojoijnnaaa", sum := "10e0f69a3e90bf8a634a7ac90e51b72766f11b86f17920cfc0140401a1ea17ad", checked := Try.checked }
namespace Rows
def none {H : Type} : Left H := { results := [], args := [] }

/-- 'laws.FnExactKeySpeed': WHATEVER THE INPUT: true; the input reads as it did. -/
def fnExactKeySpeedSpec : ChangeSpec := { name := "fnExactKeySpeed", fn := fun _ => fun
  | [d] => { results := [.lit (.bool true)], args := [d] }
  | _ => none }
def fnExactKeySpeedRow : OpenClaim := { program := "ytkbobojoijnnaaa", sum := "10e0f69a3e90bf8a634a7ac90e51b72766f11b86f17920cfc0140401a1ea17ad", func := "loop.example/musicengine/laws.FnExactKeySpeed", spec := "fnExactKeySpeed", apart := false }
def FnExactKeySpeedSaid : Prop := fnExactKeySpeedRow.holds Try.pinned (OpenSpec.ofChange fnExactKeySpeedSpec)

/-- ITS FALSE NEIGHBOUR: 'it returns false'. Refute it at one input. -/
def fnExactKeySpeedWrong : ChangeSpec := { name := "fnExactKeySpeed", fn := fun _ => fun
  | [d] => { results := [.lit (.bool false)], args := [d] }
  | _ => none }
def FnExactKeySpeedWrongFalsely : Prop := fnExactKeySpeedRow.holds Try.pinned (OpenSpec.ofChange fnExactKeySpeedWrong)

/-- 'laws.FnExactShapeValid': WHATEVER THE INPUT: true; the input reads as it did. -/
def fnExactShapeValidSpec : ChangeSpec := { name := "fnExactShapeValid", fn := fun _ => fun
  | [d] => { results := [.lit (.bool true)], args := [d] }
  | _ => none }
def fnExactShapeValidRow : OpenClaim := { program := "ytkbobojoijnnaaa", sum := "10e0f69a3e90bf8a634a7ac90e51b72766f11b86f17920cfc0140401a1ea17ad", func := "loop.example/musicengine/laws.FnExactShapeValid", spec := "fnExactShapeValid", apart := false }
def FnExactShapeValidSaid : Prop := fnExactShapeValidRow.holds Try.pinned (OpenSpec.ofChange fnExactShapeValidSpec)

/-- ITS FALSE NEIGHBOUR: 'it returns false'. Refute it at one input. -/
def fnExactShapeValidWrong : ChangeSpec := { name := "fnExactShapeValid", fn := fun _ => fun
  | [d] => { results := [.lit (.bool false)], args := [d] }
  | _ => none }
def FnExactShapeValidWrongFalsely : Prop := fnExactShapeValidRow.holds Try.pinned (OpenSpec.ofChange fnExactShapeValidWrong)

/-- 'laws.FnExactSamplesValid': WHATEVER THE INPUT: true; the input reads as it did. -/
def fnExactSamplesValidSpec : ChangeSpec := { name := "fnExactSamplesValid", fn := fun _ => fun
  | [d] => { results := [.lit (.bool true)], args := [d] }
  | _ => none }
def fnExactSamplesValidRow : OpenClaim := { program := "ytkbobojoijnnaaa", sum := "10e0f69a3e90bf8a634a7ac90e51b72766f11b86f17920cfc0140401a1ea17ad", func := "loop.example/musicengine/laws.FnExactSamplesValid", spec := "fnExactSamplesValid", apart := false }
def FnExactSamplesValidSaid : Prop := fnExactSamplesValidRow.holds Try.pinned (OpenSpec.ofChange fnExactSamplesValidSpec)

/-- ITS FALSE NEIGHBOUR: 'it returns false'. Refute it at one input. -/
def fnExactSamplesValidWrong : ChangeSpec := { name := "fnExactSamplesValid", fn := fun _ => fun
  | [d] => { results := [.lit (.bool false)], args := [d] }
  | _ => none }
def FnExactSamplesValidWrongFalsely : Prop := fnExactSamplesValidRow.holds Try.pinned (OpenSpec.ofChange fnExactSamplesValidWrong)

/-- 'laws.FnExactWaveAt': WHATEVER THE INPUT: true; the input reads as it did. -/
def fnExactWaveAtSpec : ChangeSpec := { name := "fnExactWaveAt", fn := fun _ => fun
  | [d1, d2] => { results := [.lit (.bool true)], args := [d1, d2] }
  | _ => none }
def fnExactWaveAtRow : OpenClaim := { program := "ytkbobojoijnnaaa", sum := "10e0f69a3e90bf8a634a7ac90e51b72766f11b86f17920cfc0140401a1ea17ad", func := "loop.example/musicengine/laws.FnExactWaveAt", spec := "fnExactWaveAt", apart := false }
def FnExactWaveAtSaid : Prop := fnExactWaveAtRow.holds Try.pinned (OpenSpec.ofChange fnExactWaveAtSpec)

/-- ITS FALSE NEIGHBOUR: 'it returns false'. Refute it at one input. -/
def fnExactWaveAtWrong : ChangeSpec := { name := "fnExactWaveAt", fn := fun _ => fun
  | [d1, d2] => { results := [.lit (.bool false)], args := [d1, d2] }
  | _ => none }
def FnExactWaveAtWrongFalsely : Prop := fnExactWaveAtRow.holds Try.pinned (OpenSpec.ofChange fnExactWaveAtWrong)

/-- 'laws.FnExactLevelAt': WHATEVER THE INPUT: true; the input reads as it did. -/
def fnExactLevelAtSpec : ChangeSpec := { name := "fnExactLevelAt", fn := fun _ => fun
  | [d1, d2, d3] => { results := [.lit (.bool true)], args := [d1, d2, d3] }
  | _ => none }
def fnExactLevelAtRow : OpenClaim := { program := "ytkbobojoijnnaaa", sum := "10e0f69a3e90bf8a634a7ac90e51b72766f11b86f17920cfc0140401a1ea17ad", func := "loop.example/musicengine/laws.FnExactLevelAt", spec := "fnExactLevelAt", apart := false }
def FnExactLevelAtSaid : Prop := fnExactLevelAtRow.holds Try.pinned (OpenSpec.ofChange fnExactLevelAtSpec)

/-- ITS FALSE NEIGHBOUR: 'it returns false'. Refute it at one input. -/
def fnExactLevelAtWrong : ChangeSpec := { name := "fnExactLevelAt", fn := fun _ => fun
  | [d1, d2, d3] => { results := [.lit (.bool false)], args := [d1, d2, d3] }
  | _ => none }
def FnExactLevelAtWrongFalsely : Prop := fnExactLevelAtRow.holds Try.pinned (OpenSpec.ofChange fnExactLevelAtWrong)

/-- 'laws.FnExactPeakOf': WHATEVER THE INPUT: true; the input reads as it did. -/
def fnExactPeakOfSpec : ChangeSpec := { name := "fnExactPeakOf", fn := fun _ => fun
  | [d] => { results := [.lit (.bool true)], args := [d] }
  | _ => none }
def fnExactPeakOfRow : OpenClaim := { program := "ytkbobojoijnnaaa", sum := "10e0f69a3e90bf8a634a7ac90e51b72766f11b86f17920cfc0140401a1ea17ad", func := "loop.example/musicengine/laws.FnExactPeakOf", spec := "fnExactPeakOf", apart := false }
def FnExactPeakOfSaid : Prop := fnExactPeakOfRow.holds Try.pinned (OpenSpec.ofChange fnExactPeakOfSpec)

/-- ITS FALSE NEIGHBOUR: 'it returns false'. Refute it at one input. -/
def fnExactPeakOfWrong : ChangeSpec := { name := "fnExactPeakOf", fn := fun _ => fun
  | [d] => { results := [.lit (.bool false)], args := [d] }
  | _ => none }
def FnExactPeakOfWrongFalsely : Prop := fnExactPeakOfRow.holds Try.pinned (OpenSpec.ofChange fnExactPeakOfWrong)

/-- 'laws.FnExactScaleSamples': WHATEVER THE INPUT: true; the input reads as it did. -/
def fnExactScaleSamplesSpec : ChangeSpec := { name := "fnExactScaleSamples", fn := fun _ => fun
  | [d1, d2] => { results := [.lit (.bool true)], args := [d1, d2] }
  | _ => none }
def fnExactScaleSamplesRow : OpenClaim := { program := "ytkbobojoijnnaaa", sum := "10e0f69a3e90bf8a634a7ac90e51b72766f11b86f17920cfc0140401a1ea17ad", func := "loop.example/musicengine/laws.FnExactScaleSamples", spec := "fnExactScaleSamples", apart := false }
def FnExactScaleSamplesSaid : Prop := fnExactScaleSamplesRow.holds Try.pinned (OpenSpec.ofChange fnExactScaleSamplesSpec)

/-- ITS FALSE NEIGHBOUR: 'it returns false'. Refute it at one input. -/
def fnExactScaleSamplesWrong : ChangeSpec := { name := "fnExactScaleSamples", fn := fun _ => fun
  | [d1, d2] => { results := [.lit (.bool false)], args := [d1, d2] }
  | _ => none }
def FnExactScaleSamplesWrongFalsely : Prop := fnExactScaleSamplesRow.holds Try.pinned (OpenSpec.ofChange fnExactScaleSamplesWrong)

/-- 'laws.FnExactEchoSamples': WHATEVER THE INPUT: true; the input reads as it did. -/
def fnExactEchoSamplesSpec : ChangeSpec := { name := "fnExactEchoSamples", fn := fun _ => fun
  | [d1, d2, d3] => { results := [.lit (.bool true)], args := [d1, d2, d3] }
  | _ => none }
def fnExactEchoSamplesRow : OpenClaim := { program := "ytkbobojoijnnaaa", sum := "10e0f69a3e90bf8a634a7ac90e51b72766f11b86f17920cfc0140401a1ea17ad", func := "loop.example/musicengine/laws.FnExactEchoSamples", spec := "fnExactEchoSamples", apart := false }
def FnExactEchoSamplesSaid : Prop := fnExactEchoSamplesRow.holds Try.pinned (OpenSpec.ofChange fnExactEchoSamplesSpec)

/-- ITS FALSE NEIGHBOUR: 'it returns false'. Refute it at one input. -/
def fnExactEchoSamplesWrong : ChangeSpec := { name := "fnExactEchoSamples", fn := fun _ => fun
  | [d1, d2, d3] => { results := [.lit (.bool false)], args := [d1, d2, d3] }
  | _ => none }
def FnExactEchoSamplesWrongFalsely : Prop := fnExactEchoSamplesRow.holds Try.pinned (OpenSpec.ofChange fnExactEchoSamplesWrong)

/-- 'laws.FnExactMixSamples': WHATEVER THE INPUT: true; the input reads as it did. -/
def fnExactMixSamplesSpec : ChangeSpec := { name := "fnExactMixSamples", fn := fun _ => fun
  | [d1, d2] => { results := [.lit (.bool true)], args := [d1, d2] }
  | _ => none }
def fnExactMixSamplesRow : OpenClaim := { program := "ytkbobojoijnnaaa", sum := "10e0f69a3e90bf8a634a7ac90e51b72766f11b86f17920cfc0140401a1ea17ad", func := "loop.example/musicengine/laws.FnExactMixSamples", spec := "fnExactMixSamples", apart := false }
def FnExactMixSamplesSaid : Prop := fnExactMixSamplesRow.holds Try.pinned (OpenSpec.ofChange fnExactMixSamplesSpec)

/-- ITS FALSE NEIGHBOUR: 'it returns false'. Refute it at one input. -/
def fnExactMixSamplesWrong : ChangeSpec := { name := "fnExactMixSamples", fn := fun _ => fun
  | [d1, d2] => { results := [.lit (.bool false)], args := [d1, d2] }
  | _ => none }
def FnExactMixSamplesWrongFalsely : Prop := fnExactMixSamplesRow.holds Try.pinned (OpenSpec.ofChange fnExactMixSamplesWrong)

/-- 'laws.FnExactToneSamples': WHATEVER THE INPUT: true; the input reads as it did. -/
def fnExactToneSamplesSpec : ChangeSpec := { name := "fnExactToneSamples", fn := fun _ => fun
  | [d1, d2, d3, d4, d5] => { results := [.lit (.bool true)], args := [d1, d2, d3, d4, d5] }
  | _ => none }
def fnExactToneSamplesRow : OpenClaim := { program := "ytkbobojoijnnaaa", sum := "10e0f69a3e90bf8a634a7ac90e51b72766f11b86f17920cfc0140401a1ea17ad", func := "loop.example/musicengine/laws.FnExactToneSamples", spec := "fnExactToneSamples", apart := false }
def FnExactToneSamplesSaid : Prop := fnExactToneSamplesRow.holds Try.pinned (OpenSpec.ofChange fnExactToneSamplesSpec)

/-- ITS FALSE NEIGHBOUR: 'it returns false'. Refute it at one input. -/
def fnExactToneSamplesWrong : ChangeSpec := { name := "fnExactToneSamples", fn := fun _ => fun
  | [d1, d2, d3, d4, d5] => { results := [.lit (.bool false)], args := [d1, d2, d3, d4, d5] }
  | _ => none }
def FnExactToneSamplesWrongFalsely : Prop := fnExactToneSamplesRow.holds Try.pinned (OpenSpec.ofChange fnExactToneSamplesWrong)

/- THE SECOND FORM. 'bulk': how many values and letters a reading holds, each counted each time it is reached (what is shared counts as often as it is met; a slice's spare places count too). A statement '..UptoSaid' is the law's where the arguments, and the package variables that the reading takes, are together of bulk at most 1048576: NARROWER than '..Said'. Prove '..Said' where nothing that the law and all that it calls make is longer than what came in: it says more and counts as full. Else prove '..UptoSaid'. A law counts once. -/
mutual
def uptoBulk {H : Type} : DataW H → Nat
  | .lit (.string bytes) => bytes.length + 1
  | .lit _ => 1
  | .nil => 1
  | .ptr d => uptoBulk d + 1
  | .slice elems spare => uptoBulkAll elems + uptoBulkAll spare + 1
  | .agg parts => uptoBulkAll parts + 1
  | .iface _ d => uptoBulk d + 1
  | .map entries => uptoBulkEntries entries + 1
  | .held _ => 1
def uptoBulkAll {H : Type} : List (DataW H) → Nat
  | [] => 0
  | d :: r => uptoBulk d + uptoBulkAll r
def uptoBulkEntries {H : Type} : List (Lit × DataW H) → Nat
  | [] => 0
  | x :: r => uptoBulkEntry x + uptoBulkEntries r
def uptoBulkEntry {H : Type} : Lit × DataW H → Nat
  | (.string bytes, d) => bytes.length + uptoBulk d + 1
  | (_, d) => uptoBulk d + 1
 end
def uptoSmall : (H : Type) → List (DataW H) → Bool := fun _ ds => decide (uptoBulkAll ds ≤ 1048576)
def OpenSpec.upto (s : _root_.Go.ChangeSpec) : _root_.Go.OpenSpec := { _root_.Go.OpenSpec.ofChange s with cond := some uptoSmall }

/-- 'laws.FnExactKeySpeed', WHERE WHAT IT READS IS OF BULK AT MOST 1048576: true; the input reads as it did. -/
def fnExactKeySpeedUptoRow : OpenClaim := { program := "ytkbobojoijnnaaa", sum := "10e0f69a3e90bf8a634a7ac90e51b72766f11b86f17920cfc0140401a1ea17ad", func := "loop.example/musicengine/laws.FnExactKeySpeed", spec := "fnExactKeySpeed", apart := false, narrowed := true }
def FnExactKeySpeedUptoSaid : Prop := fnExactKeySpeedUptoRow.holds Try.pinned (OpenSpec.upto fnExactKeySpeedSpec)

/-- 'laws.FnExactShapeValid', WHERE WHAT IT READS IS OF BULK AT MOST 1048576: true; the input reads as it did. -/
def fnExactShapeValidUptoRow : OpenClaim := { program := "ytkbobojoijnnaaa", sum := "10e0f69a3e90bf8a634a7ac90e51b72766f11b86f17920cfc0140401a1ea17ad", func := "loop.example/musicengine/laws.FnExactShapeValid", spec := "fnExactShapeValid", apart := false, narrowed := true }
def FnExactShapeValidUptoSaid : Prop := fnExactShapeValidUptoRow.holds Try.pinned (OpenSpec.upto fnExactShapeValidSpec)

/-- 'laws.FnExactSamplesValid', WHERE WHAT IT READS IS OF BULK AT MOST 1048576: true; the input reads as it did. -/
def fnExactSamplesValidUptoRow : OpenClaim := { program := "ytkbobojoijnnaaa", sum := "10e0f69a3e90bf8a634a7ac90e51b72766f11b86f17920cfc0140401a1ea17ad", func := "loop.example/musicengine/laws.FnExactSamplesValid", spec := "fnExactSamplesValid", apart := false, narrowed := true }
def FnExactSamplesValidUptoSaid : Prop := fnExactSamplesValidUptoRow.holds Try.pinned (OpenSpec.upto fnExactSamplesValidSpec)

/-- 'laws.FnExactWaveAt', WHERE WHAT IT READS IS OF BULK AT MOST 1048576: true; the input reads as it did. -/
def fnExactWaveAtUptoRow : OpenClaim := { program := "ytkbobojoijnnaaa", sum := "10e0f69a3e90bf8a634a7ac90e51b72766f11b86f17920cfc0140401a1ea17ad", func := "loop.example/musicengine/laws.FnExactWaveAt", spec := "fnExactWaveAt", apart := false, narrowed := true }
def FnExactWaveAtUptoSaid : Prop := fnExactWaveAtUptoRow.holds Try.pinned (OpenSpec.upto fnExactWaveAtSpec)

/-- 'laws.FnExactLevelAt', WHERE WHAT IT READS IS OF BULK AT MOST 1048576: true; the input reads as it did. -/
def fnExactLevelAtUptoRow : OpenClaim := { program := "ytkbobojoijnnaaa", sum := "10e0f69a3e90bf8a634a7ac90e51b72766f11b86f17920cfc0140401a1ea17ad", func := "loop.example/musicengine/laws.FnExactLevelAt", spec := "fnExactLevelAt", apart := false, narrowed := true }
def FnExactLevelAtUptoSaid : Prop := fnExactLevelAtUptoRow.holds Try.pinned (OpenSpec.upto fnExactLevelAtSpec)

/-- 'laws.FnExactPeakOf', WHERE WHAT IT READS IS OF BULK AT MOST 1048576: true; the input reads as it did. -/
def fnExactPeakOfUptoRow : OpenClaim := { program := "ytkbobojoijnnaaa", sum := "10e0f69a3e90bf8a634a7ac90e51b72766f11b86f17920cfc0140401a1ea17ad", func := "loop.example/musicengine/laws.FnExactPeakOf", spec := "fnExactPeakOf", apart := false, narrowed := true }
def FnExactPeakOfUptoSaid : Prop := fnExactPeakOfUptoRow.holds Try.pinned (OpenSpec.upto fnExactPeakOfSpec)

/-- 'laws.FnExactScaleSamples', WHERE WHAT IT READS IS OF BULK AT MOST 1048576: true; the input reads as it did. -/
def fnExactScaleSamplesUptoRow : OpenClaim := { program := "ytkbobojoijnnaaa", sum := "10e0f69a3e90bf8a634a7ac90e51b72766f11b86f17920cfc0140401a1ea17ad", func := "loop.example/musicengine/laws.FnExactScaleSamples", spec := "fnExactScaleSamples", apart := false, narrowed := true }
def FnExactScaleSamplesUptoSaid : Prop := fnExactScaleSamplesUptoRow.holds Try.pinned (OpenSpec.upto fnExactScaleSamplesSpec)

/-- 'laws.FnExactEchoSamples', WHERE WHAT IT READS IS OF BULK AT MOST 1048576: true; the input reads as it did. -/
def fnExactEchoSamplesUptoRow : OpenClaim := { program := "ytkbobojoijnnaaa", sum := "10e0f69a3e90bf8a634a7ac90e51b72766f11b86f17920cfc0140401a1ea17ad", func := "loop.example/musicengine/laws.FnExactEchoSamples", spec := "fnExactEchoSamples", apart := false, narrowed := true }
def FnExactEchoSamplesUptoSaid : Prop := fnExactEchoSamplesUptoRow.holds Try.pinned (OpenSpec.upto fnExactEchoSamplesSpec)

/-- 'laws.FnExactMixSamples', WHERE WHAT IT READS IS OF BULK AT MOST 1048576: true; the input reads as it did. -/
def fnExactMixSamplesUptoRow : OpenClaim := { program := "ytkbobojoijnnaaa", sum := "10e0f69a3e90bf8a634a7ac90e51b72766f11b86f17920cfc0140401a1ea17ad", func := "loop.example/musicengine/laws.FnExactMixSamples", spec := "fnExactMixSamples", apart := false, narrowed := true }
def FnExactMixSamplesUptoSaid : Prop := fnExactMixSamplesUptoRow.holds Try.pinned (OpenSpec.upto fnExactMixSamplesSpec)

/-- 'laws.FnExactToneSamples', WHERE WHAT IT READS IS OF BULK AT MOST 1048576: true; the input reads as it did. -/
def fnExactToneSamplesUptoRow : OpenClaim := { program := "ytkbobojoijnnaaa", sum := "10e0f69a3e90bf8a634a7ac90e51b72766f11b86f17920cfc0140401a1ea17ad", func := "loop.example/musicengine/laws.FnExactToneSamples", spec := "fnExactToneSamples", apart := false, narrowed := true }
def FnExactToneSamplesUptoSaid : Prop := fnExactToneSamplesUptoRow.holds Try.pinned (OpenSpec.upto fnExactToneSamplesSpec)

end Rows
end Go.Proofs.Ytkbobojoijnnaaa
