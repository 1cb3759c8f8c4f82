/-
  No cell of these rows narrows 'for every input' (looked for: loops, veiled, ifaces, maps, wideKeys, modest, calm, conditions, laid).
  DERIVED. THE GIVEN ROWS OF THIS SEAT. 10 by the template 'for every input the law returns true; each argument reads behind the call as it read before'; 0 by the template 'total and deterministic' (their statements: YtijbciiocmdmmaaTotals.lean).
  GIVEN WITH THE SEED: the statements are not yours to turn. If you find one false, say at which input.
  Laid BY PROGRAM, IN A SANDBOX (cutbox-rows.mjs): the forced cells as the released guide's own fill.sh prints them over the translation 96a193169ace58f7… (all of the seat's roots in one cut). By AI agents, Wed Nov 11 2026. No macro, syntax, notation, axiom, sorry.
-/
import Derived.Test.YtijbciiocmdmmaaChecked
import GoSem.Claim
import GoSem.ClaimJoined
import GoSem.ClaimMapViews
import Derived.JoinedTies
import Derived.KernelRfl
namespace Go.Proofs.Ytijbciiocmdmmaa
/- THE CELL 'sum', in the pinned program and in every row, IS THE sha256 OF THE DUMP (.gsa) THAT YtijbciiocmdmmaaProg.lean LOADS. Nothing in Lean hashes anything: it is a label: what it is worth is what the hold of that sum in a sandbox is worth. -/
noncomputable def Try.pinned : Pinned := { name := "ytijbciiocmdmmaa", sum := "96a193169ace58f76714a3475230c865446ee4b423d7be2fb3239c47ad8f62f1", checked := Try.checked }
namespace Rows
def none {H : Type} : Left H := { results := [], args := [] }

/-- 'laws.FnKeySpeed': WHATEVER THE INPUT: true; the input reads as it did. -/
def fnKeySpeedSpec : ChangeSpec := { name := "fnKeySpeed", fn := fun _ => fun
  | [d] => { results := [.lit (.bool true)], args := [d] }
  | _ => none }
def fnKeySpeedRow : OpenClaim := { program := "ytijbciiocmdmmaa", sum := "96a193169ace58f76714a3475230c865446ee4b423d7be2fb3239c47ad8f62f1", func := "loop.example/musicengine/laws.FnKeySpeed", spec := "fnKeySpeed", apart := false }
def FnKeySpeedSaid : Prop := fnKeySpeedRow.holds Try.pinned (OpenSpec.ofChange fnKeySpeedSpec)

/-- ITS FALSE NEIGHBOUR: 'it returns false'. Refute it at one input. -/
def fnKeySpeedWrong : ChangeSpec := { name := "fnKeySpeed", fn := fun _ => fun
  | [d] => { results := [.lit (.bool false)], args := [d] }
  | _ => none }
def FnKeySpeedWrongFalsely : Prop := fnKeySpeedRow.holds Try.pinned (OpenSpec.ofChange fnKeySpeedWrong)

/-- 'laws.FnShapeValid': WHATEVER THE INPUT: true; the input reads as it did. -/
def fnShapeValidSpec : ChangeSpec := { name := "fnShapeValid", fn := fun _ => fun
  | [d] => { results := [.lit (.bool true)], args := [d] }
  | _ => none }
def fnShapeValidRow : OpenClaim := { program := "ytijbciiocmdmmaa", sum := "96a193169ace58f76714a3475230c865446ee4b423d7be2fb3239c47ad8f62f1", func := "loop.example/musicengine/laws.FnShapeValid", spec := "fnShapeValid", apart := false }
def FnShapeValidSaid : Prop := fnShapeValidRow.holds Try.pinned (OpenSpec.ofChange fnShapeValidSpec)

/-- ITS FALSE NEIGHBOUR: 'it returns false'. Refute it at one input. -/
def fnShapeValidWrong : ChangeSpec := { name := "fnShapeValid", fn := fun _ => fun
  | [d] => { results := [.lit (.bool false)], args := [d] }
  | _ => none }
def FnShapeValidWrongFalsely : Prop := fnShapeValidRow.holds Try.pinned (OpenSpec.ofChange fnShapeValidWrong)

/-- 'laws.FnSamplesValid': WHATEVER THE INPUT: true; the input reads as it did. -/
def fnSamplesValidSpec : ChangeSpec := { name := "fnSamplesValid", fn := fun _ => fun
  | [d] => { results := [.lit (.bool true)], args := [d] }
  | _ => none }
def fnSamplesValidRow : OpenClaim := { program := "ytijbciiocmdmmaa", sum := "96a193169ace58f76714a3475230c865446ee4b423d7be2fb3239c47ad8f62f1", func := "loop.example/musicengine/laws.FnSamplesValid", spec := "fnSamplesValid", apart := false }
def FnSamplesValidSaid : Prop := fnSamplesValidRow.holds Try.pinned (OpenSpec.ofChange fnSamplesValidSpec)

/-- ITS FALSE NEIGHBOUR: 'it returns false'. Refute it at one input. -/
def fnSamplesValidWrong : ChangeSpec := { name := "fnSamplesValid", fn := fun _ => fun
  | [d] => { results := [.lit (.bool false)], args := [d] }
  | _ => none }
def FnSamplesValidWrongFalsely : Prop := fnSamplesValidRow.holds Try.pinned (OpenSpec.ofChange fnSamplesValidWrong)

/-- 'laws.FnWaveAt': WHATEVER THE INPUT: true; the input reads as it did. -/
def fnWaveAtSpec : ChangeSpec := { name := "fnWaveAt", fn := fun _ => fun
  | [d] => { results := [.lit (.bool true)], args := [d] }
  | _ => none }
def fnWaveAtRow : OpenClaim := { program := "ytijbciiocmdmmaa", sum := "96a193169ace58f76714a3475230c865446ee4b423d7be2fb3239c47ad8f62f1", func := "loop.example/musicengine/laws.FnWaveAt", spec := "fnWaveAt", apart := false }
def FnWaveAtSaid : Prop := fnWaveAtRow.holds Try.pinned (OpenSpec.ofChange fnWaveAtSpec)

/-- ITS FALSE NEIGHBOUR: 'it returns false'. Refute it at one input. -/
def fnWaveAtWrong : ChangeSpec := { name := "fnWaveAt", fn := fun _ => fun
  | [d] => { results := [.lit (.bool false)], args := [d] }
  | _ => none }
def FnWaveAtWrongFalsely : Prop := fnWaveAtRow.holds Try.pinned (OpenSpec.ofChange fnWaveAtWrong)

/-- 'laws.FnPeakOf': WHATEVER THE INPUT: true; the input reads as it did. -/
def fnPeakOfSpec : ChangeSpec := { name := "fnPeakOf", fn := fun _ => fun
  | [d] => { results := [.lit (.bool true)], args := [d] }
  | _ => none }
def fnPeakOfRow : OpenClaim := { program := "ytijbciiocmdmmaa", sum := "96a193169ace58f76714a3475230c865446ee4b423d7be2fb3239c47ad8f62f1", func := "loop.example/musicengine/laws.FnPeakOf", spec := "fnPeakOf", apart := false }
def FnPeakOfSaid : Prop := fnPeakOfRow.holds Try.pinned (OpenSpec.ofChange fnPeakOfSpec)

/-- ITS FALSE NEIGHBOUR: 'it returns false'. Refute it at one input. -/
def fnPeakOfWrong : ChangeSpec := { name := "fnPeakOf", fn := fun _ => fun
  | [d] => { results := [.lit (.bool false)], args := [d] }
  | _ => none }
def FnPeakOfWrongFalsely : Prop := fnPeakOfRow.holds Try.pinned (OpenSpec.ofChange fnPeakOfWrong)

/-- 'laws.FnLevelAt': WHATEVER THE INPUT: true; the input reads as it did. -/
def fnLevelAtSpec : ChangeSpec := { name := "fnLevelAt", fn := fun _ => fun
  | [d] => { results := [.lit (.bool true)], args := [d] }
  | _ => none }
def fnLevelAtRow : OpenClaim := { program := "ytijbciiocmdmmaa", sum := "96a193169ace58f76714a3475230c865446ee4b423d7be2fb3239c47ad8f62f1", func := "loop.example/musicengine/laws.FnLevelAt", spec := "fnLevelAt", apart := false }
def FnLevelAtSaid : Prop := fnLevelAtRow.holds Try.pinned (OpenSpec.ofChange fnLevelAtSpec)

/-- ITS FALSE NEIGHBOUR: 'it returns false'. Refute it at one input. -/
def fnLevelAtWrong : ChangeSpec := { name := "fnLevelAt", fn := fun _ => fun
  | [d] => { results := [.lit (.bool false)], args := [d] }
  | _ => none }
def FnLevelAtWrongFalsely : Prop := fnLevelAtRow.holds Try.pinned (OpenSpec.ofChange fnLevelAtWrong)

/-- 'laws.FnScaleSamples': WHATEVER THE INPUT: true; the input reads as it did. -/
def fnScaleSamplesSpec : ChangeSpec := { name := "fnScaleSamples", fn := fun _ => fun
  | [d] => { results := [.lit (.bool true)], args := [d] }
  | _ => none }
def fnScaleSamplesRow : OpenClaim := { program := "ytijbciiocmdmmaa", sum := "96a193169ace58f76714a3475230c865446ee4b423d7be2fb3239c47ad8f62f1", func := "loop.example/musicengine/laws.FnScaleSamples", spec := "fnScaleSamples", apart := false }
def FnScaleSamplesSaid : Prop := fnScaleSamplesRow.holds Try.pinned (OpenSpec.ofChange fnScaleSamplesSpec)

/-- ITS FALSE NEIGHBOUR: 'it returns false'. Refute it at one input. -/
def fnScaleSamplesWrong : ChangeSpec := { name := "fnScaleSamples", fn := fun _ => fun
  | [d] => { results := [.lit (.bool false)], args := [d] }
  | _ => none }
def FnScaleSamplesWrongFalsely : Prop := fnScaleSamplesRow.holds Try.pinned (OpenSpec.ofChange fnScaleSamplesWrong)

/-- 'laws.FnEchoSamples': WHATEVER THE INPUT: true; the input reads as it did. -/
def fnEchoSamplesSpec : ChangeSpec := { name := "fnEchoSamples", fn := fun _ => fun
  | [d] => { results := [.lit (.bool true)], args := [d] }
  | _ => none }
def fnEchoSamplesRow : OpenClaim := { program := "ytijbciiocmdmmaa", sum := "96a193169ace58f76714a3475230c865446ee4b423d7be2fb3239c47ad8f62f1", func := "loop.example/musicengine/laws.FnEchoSamples", spec := "fnEchoSamples", apart := false }
def FnEchoSamplesSaid : Prop := fnEchoSamplesRow.holds Try.pinned (OpenSpec.ofChange fnEchoSamplesSpec)

/-- ITS FALSE NEIGHBOUR: 'it returns false'. Refute it at one input. -/
def fnEchoSamplesWrong : ChangeSpec := { name := "fnEchoSamples", fn := fun _ => fun
  | [d] => { results := [.lit (.bool false)], args := [d] }
  | _ => none }
def FnEchoSamplesWrongFalsely : Prop := fnEchoSamplesRow.holds Try.pinned (OpenSpec.ofChange fnEchoSamplesWrong)

/-- 'laws.FnMixSamples': WHATEVER THE INPUT: true; the input reads as it did. -/
def fnMixSamplesSpec : ChangeSpec := { name := "fnMixSamples", fn := fun _ => fun
  | [d] => { results := [.lit (.bool true)], args := [d] }
  | _ => none }
def fnMixSamplesRow : OpenClaim := { program := "ytijbciiocmdmmaa", sum := "96a193169ace58f76714a3475230c865446ee4b423d7be2fb3239c47ad8f62f1", func := "loop.example/musicengine/laws.FnMixSamples", spec := "fnMixSamples", apart := false }
def FnMixSamplesSaid : Prop := fnMixSamplesRow.holds Try.pinned (OpenSpec.ofChange fnMixSamplesSpec)

/-- ITS FALSE NEIGHBOUR: 'it returns false'. Refute it at one input. -/
def fnMixSamplesWrong : ChangeSpec := { name := "fnMixSamples", fn := fun _ => fun
  | [d] => { results := [.lit (.bool false)], args := [d] }
  | _ => none }
def FnMixSamplesWrongFalsely : Prop := fnMixSamplesRow.holds Try.pinned (OpenSpec.ofChange fnMixSamplesWrong)

/-- 'laws.FnToneSamples': WHATEVER THE INPUT: true; the input reads as it did. -/
def fnToneSamplesSpec : ChangeSpec := { name := "fnToneSamples", fn := fun _ => fun
  | [d] => { results := [.lit (.bool true)], args := [d] }
  | _ => none }
def fnToneSamplesRow : OpenClaim := { program := "ytijbciiocmdmmaa", sum := "96a193169ace58f76714a3475230c865446ee4b423d7be2fb3239c47ad8f62f1", func := "loop.example/musicengine/laws.FnToneSamples", spec := "fnToneSamples", apart := false }
def FnToneSamplesSaid : Prop := fnToneSamplesRow.holds Try.pinned (OpenSpec.ofChange fnToneSamplesSpec)

/-- ITS FALSE NEIGHBOUR: 'it returns false'. Refute it at one input. -/
def fnToneSamplesWrong : ChangeSpec := { name := "fnToneSamples", fn := fun _ => fun
  | [d] => { results := [.lit (.bool false)], args := [d] }
  | _ => none }
def FnToneSamplesWrongFalsely : Prop := fnToneSamplesRow.holds Try.pinned (OpenSpec.ofChange fnToneSamplesWrong)

/- THE SECOND FORM. 'bulk': how many values and letters a reading holds, each counted each time it is reached (what is shared counts as often as it is met; a slice's spare places count too). A statement '..UptoSaid' is the law's where the arguments, and the package variables that the reading takes, are together of bulk at most 1048576: NARROWER than '..Said'. Prove '..Said' where nothing that the law and all that it calls make is longer than what came in: it says more and counts as full. Else prove '..UptoSaid'. A law counts once. -/
mutual
def uptoBulk {H : Type} : DataW H → Nat
  | .lit (.string bytes) => bytes.length + 1
  | .lit _ => 1
  | .nil => 1
  | .ptr d => uptoBulk d + 1
  | .slice elems spare => uptoBulkAll elems + uptoBulkAll spare + 1
  | .agg parts => uptoBulkAll parts + 1
  | .iface _ d => uptoBulk d + 1
  | .map entries => uptoBulkEntries entries + 1
  | .held _ => 1
def uptoBulkAll {H : Type} : List (DataW H) → Nat
  | [] => 0
  | d :: r => uptoBulk d + uptoBulkAll r
def uptoBulkEntries {H : Type} : List (Lit × DataW H) → Nat
  | [] => 0
  | x :: r => uptoBulkEntry x + uptoBulkEntries r
def uptoBulkEntry {H : Type} : Lit × DataW H → Nat
  | (.string bytes, d) => bytes.length + uptoBulk d + 1
  | (_, d) => uptoBulk d + 1
 end
def uptoSmall : (H : Type) → List (DataW H) → Bool := fun _ ds => decide (uptoBulkAll ds ≤ 1048576)
def OpenSpec.upto (s : _root_.Go.ChangeSpec) : _root_.Go.OpenSpec := { _root_.Go.OpenSpec.ofChange s with cond := some uptoSmall }

/-- 'laws.FnKeySpeed', WHERE WHAT IT READS IS OF BULK AT MOST 1048576: true; the input reads as it did. -/
def fnKeySpeedUptoRow : OpenClaim := { program := "ytijbciiocmdmmaa", sum := "96a193169ace58f76714a3475230c865446ee4b423d7be2fb3239c47ad8f62f1", func := "loop.example/musicengine/laws.FnKeySpeed", spec := "fnKeySpeed", apart := false, narrowed := true }
def FnKeySpeedUptoSaid : Prop := fnKeySpeedUptoRow.holds Try.pinned (OpenSpec.upto fnKeySpeedSpec)

/-- 'laws.FnShapeValid', WHERE WHAT IT READS IS OF BULK AT MOST 1048576: true; the input reads as it did. -/
def fnShapeValidUptoRow : OpenClaim := { program := "ytijbciiocmdmmaa", sum := "96a193169ace58f76714a3475230c865446ee4b423d7be2fb3239c47ad8f62f1", func := "loop.example/musicengine/laws.FnShapeValid", spec := "fnShapeValid", apart := false, narrowed := true }
def FnShapeValidUptoSaid : Prop := fnShapeValidUptoRow.holds Try.pinned (OpenSpec.upto fnShapeValidSpec)

/-- 'laws.FnSamplesValid', WHERE WHAT IT READS IS OF BULK AT MOST 1048576: true; the input reads as it did. -/
def fnSamplesValidUptoRow : OpenClaim := { program := "ytijbciiocmdmmaa", sum := "96a193169ace58f76714a3475230c865446ee4b423d7be2fb3239c47ad8f62f1", func := "loop.example/musicengine/laws.FnSamplesValid", spec := "fnSamplesValid", apart := false, narrowed := true }
def FnSamplesValidUptoSaid : Prop := fnSamplesValidUptoRow.holds Try.pinned (OpenSpec.upto fnSamplesValidSpec)

/-- 'laws.FnWaveAt', WHERE WHAT IT READS IS OF BULK AT MOST 1048576: true; the input reads as it did. -/
def fnWaveAtUptoRow : OpenClaim := { program := "ytijbciiocmdmmaa", sum := "96a193169ace58f76714a3475230c865446ee4b423d7be2fb3239c47ad8f62f1", func := "loop.example/musicengine/laws.FnWaveAt", spec := "fnWaveAt", apart := false, narrowed := true }
def FnWaveAtUptoSaid : Prop := fnWaveAtUptoRow.holds Try.pinned (OpenSpec.upto fnWaveAtSpec)

/-- 'laws.FnPeakOf', WHERE WHAT IT READS IS OF BULK AT MOST 1048576: true; the input reads as it did. -/
def fnPeakOfUptoRow : OpenClaim := { program := "ytijbciiocmdmmaa", sum := "96a193169ace58f76714a3475230c865446ee4b423d7be2fb3239c47ad8f62f1", func := "loop.example/musicengine/laws.FnPeakOf", spec := "fnPeakOf", apart := false, narrowed := true }
def FnPeakOfUptoSaid : Prop := fnPeakOfUptoRow.holds Try.pinned (OpenSpec.upto fnPeakOfSpec)

/-- 'laws.FnLevelAt', WHERE WHAT IT READS IS OF BULK AT MOST 1048576: true; the input reads as it did. -/
def fnLevelAtUptoRow : OpenClaim := { program := "ytijbciiocmdmmaa", sum := "96a193169ace58f76714a3475230c865446ee4b423d7be2fb3239c47ad8f62f1", func := "loop.example/musicengine/laws.FnLevelAt", spec := "fnLevelAt", apart := false, narrowed := true }
def FnLevelAtUptoSaid : Prop := fnLevelAtUptoRow.holds Try.pinned (OpenSpec.upto fnLevelAtSpec)

/-- 'laws.FnScaleSamples', WHERE WHAT IT READS IS OF BULK AT MOST 1048576: true; the input reads as it did. -/
def fnScaleSamplesUptoRow : OpenClaim := { program := "ytijbciiocmdmmaa", sum := "96a193169ace58f76714a3475230c865446ee4b423d7be2fb3239c47ad8f62f1", func := "loop.example/musicengine/laws.FnScaleSamples", spec := "fnScaleSamples", apart := false, narrowed := true }
def FnScaleSamplesUptoSaid : Prop := fnScaleSamplesUptoRow.holds Try.pinned (OpenSpec.upto fnScaleSamplesSpec)

/-- 'laws.FnEchoSamples', WHERE WHAT IT READS IS OF BULK AT MOST 1048576: true; the input reads as it did. -/
def fnEchoSamplesUptoRow : OpenClaim := { program := "ytijbciiocmdmmaa", sum := "96a193169ace58f76714a3475230c865446ee4b423d7be2fb3239c47ad8f62f1", func := "loop.example/musicengine/laws.FnEchoSamples", spec := "fnEchoSamples", apart := false, narrowed := true }
def FnEchoSamplesUptoSaid : Prop := fnEchoSamplesUptoRow.holds Try.pinned (OpenSpec.upto fnEchoSamplesSpec)

/-- 'laws.FnMixSamples', WHERE WHAT IT READS IS OF BULK AT MOST 1048576: true; the input reads as it did. -/
def fnMixSamplesUptoRow : OpenClaim := { program := "ytijbciiocmdmmaa", sum := "96a193169ace58f76714a3475230c865446ee4b423d7be2fb3239c47ad8f62f1", func := "loop.example/musicengine/laws.FnMixSamples", spec := "fnMixSamples", apart := false, narrowed := true }
def FnMixSamplesUptoSaid : Prop := fnMixSamplesUptoRow.holds Try.pinned (OpenSpec.upto fnMixSamplesSpec)

/-- 'laws.FnToneSamples', WHERE WHAT IT READS IS OF BULK AT MOST 1048576: true; the input reads as it did. -/
def fnToneSamplesUptoRow : OpenClaim := { program := "ytijbciiocmdmmaa", sum := "96a193169ace58f76714a3475230c865446ee4b423d7be2fb3239c47ad8f62f1", func := "loop.example/musicengine/laws.FnToneSamples", spec := "fnToneSamples", apart := false, narrowed := true }
def FnToneSamplesUptoSaid : Prop := fnToneSamplesUptoRow.holds Try.pinned (OpenSpec.upto fnToneSamplesSpec)

end Rows
end Go.Proofs.Ytijbciiocmdmmaa
