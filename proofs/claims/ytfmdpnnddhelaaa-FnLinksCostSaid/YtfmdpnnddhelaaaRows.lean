/-
  No cell of these rows narrows 'for every input' (looked for: loops, veiled, ifaces, maps, wideKeys, modest, calm, conditions, laid).
  DERIVED. THE GIVEN ROWS OF THIS SEAT. 9 by the template 'for every input the law returns true; each argument reads behind the call as it read before'; 0 by the template 'total and deterministic' (their statements: YtfmdpnnddhelaaaTotals.lean).
  GIVEN WITH THE SEED: the statements are not yours to turn. If you find one false, say at which input.
  Laid BY PROGRAM, IN A SANDBOX (cutbox-rows.mjs): the forced cells as the released guide's own fill.sh prints them over the translation 1fd21122ed563beb… (all of the seat's roots in one cut). By AI agents, Wed Nov 11 2026. No macro, syntax, notation, axiom, sorry.
-/
import Derived.Test.YtfmdpnnddhelaaaChecked
import GoSem.Claim
import GoSem.ClaimJoined
import GoSem.ClaimMapViews
import Derived.JoinedTies
import Derived.KernelRfl
namespace Go.Proofs.Ytfmdpnnddhelaaa
/- THE CELL 'sum', in the pinned program and in every row, IS THE sha256 OF THE DUMP (.gsa) THAT YtfmdpnnddhelaaaProg.lean LOADS. Nothing in Lean hashes anything: it is a label: what it is worth is what the hold of that sum in a sandbox is worth. -/
noncomputable def Try.pinned : Pinned := { name := "ytfmdpnnddhelaaa", sum := "1fd21122ed563beb5e9e3369dadf1ecb2dd9eec7f5e8a19c1119d8b9156d6de3", checked := Try.checked }
namespace Rows
def none {H : Type} : Left H := { results := [], args := [] }

/-- 'laws.FnExactFollowCost': WHATEVER THE INPUT: true; the input reads as it did. -/
def fnExactFollowCostSpec : ChangeSpec := { name := "fnExactFollowCost", fn := fun _ => fun
  | [d1, d2] => { results := [.lit (.bool true)], args := [d1, d2] }
  | _ => none }
def fnExactFollowCostRow : OpenClaim := { program := "ytfmdpnnddhelaaa", sum := "1fd21122ed563beb5e9e3369dadf1ecb2dd9eec7f5e8a19c1119d8b9156d6de3", func := "loop.example/musicengine/laws.FnExactFollowCost", spec := "fnExactFollowCost", apart := false }
def FnExactFollowCostSaid : Prop := fnExactFollowCostRow.holds Try.pinned (OpenSpec.ofChange fnExactFollowCostSpec)

/-- ITS FALSE NEIGHBOUR: 'it returns false'. Refute it at one input. -/
def fnExactFollowCostWrong : ChangeSpec := { name := "fnExactFollowCost", fn := fun _ => fun
  | [d1, d2] => { results := [.lit (.bool false)], args := [d1, d2] }
  | _ => none }
def FnExactFollowCostWrongFalsely : Prop := fnExactFollowCostRow.holds Try.pinned (OpenSpec.ofChange fnExactFollowCostWrong)

/-- 'laws.FnExactFollowPlace': WHATEVER THE INPUT: true; the input reads as it did. -/
def fnExactFollowPlaceSpec : ChangeSpec := { name := "fnExactFollowPlace", fn := fun _ => fun
  | [d1, d2] => { results := [.lit (.bool true)], args := [d1, d2] }
  | _ => none }
def fnExactFollowPlaceRow : OpenClaim := { program := "ytfmdpnnddhelaaa", sum := "1fd21122ed563beb5e9e3369dadf1ecb2dd9eec7f5e8a19c1119d8b9156d6de3", func := "loop.example/musicengine/laws.FnExactFollowPlace", spec := "fnExactFollowPlace", apart := false }
def FnExactFollowPlaceSaid : Prop := fnExactFollowPlaceRow.holds Try.pinned (OpenSpec.ofChange fnExactFollowPlaceSpec)

/-- ITS FALSE NEIGHBOUR: 'it returns false'. Refute it at one input. -/
def fnExactFollowPlaceWrong : ChangeSpec := { name := "fnExactFollowPlace", fn := fun _ => fun
  | [d1, d2] => { results := [.lit (.bool false)], args := [d1, d2] }
  | _ => none }
def FnExactFollowPlaceWrongFalsely : Prop := fnExactFollowPlaceRow.holds Try.pinned (OpenSpec.ofChange fnExactFollowPlaceWrong)

/-- 'laws.FnFollowMore': WHATEVER THE INPUT: true; the input reads as it did. -/
def fnFollowMoreSpec : ChangeSpec := { name := "fnFollowMore", fn := fun _ => fun
  | [d] => { results := [.lit (.bool true)], args := [d] }
  | _ => none }
def fnFollowMoreRow : OpenClaim := { program := "ytfmdpnnddhelaaa", sum := "1fd21122ed563beb5e9e3369dadf1ecb2dd9eec7f5e8a19c1119d8b9156d6de3", func := "loop.example/musicengine/laws.FnFollowMore", spec := "fnFollowMore", apart := false }
def FnFollowMoreSaid : Prop := fnFollowMoreRow.holds Try.pinned (OpenSpec.ofChange fnFollowMoreSpec)

/-- ITS FALSE NEIGHBOUR: 'it returns false'. Refute it at one input. -/
def fnFollowMoreWrong : ChangeSpec := { name := "fnFollowMore", fn := fun _ => fun
  | [d] => { results := [.lit (.bool false)], args := [d] }
  | _ => none }
def FnFollowMoreWrongFalsely : Prop := fnFollowMoreRow.holds Try.pinned (OpenSpec.ofChange fnFollowMoreWrong)

/-- 'laws.FnExactLinksCost': WHATEVER THE INPUT: true; the input reads as it did. -/
def fnExactLinksCostSpec : ChangeSpec := { name := "fnExactLinksCost", fn := fun _ => fun
  | [d1, d2, d3] => { results := [.lit (.bool true)], args := [d1, d2, d3] }
  | _ => none }
def fnExactLinksCostRow : OpenClaim := { program := "ytfmdpnnddhelaaa", sum := "1fd21122ed563beb5e9e3369dadf1ecb2dd9eec7f5e8a19c1119d8b9156d6de3", func := "loop.example/musicengine/laws.FnExactLinksCost", spec := "fnExactLinksCost", apart := false }
def FnExactLinksCostSaid : Prop := fnExactLinksCostRow.holds Try.pinned (OpenSpec.ofChange fnExactLinksCostSpec)

/-- ITS FALSE NEIGHBOUR: 'it returns false'. Refute it at one input. -/
def fnExactLinksCostWrong : ChangeSpec := { name := "fnExactLinksCost", fn := fun _ => fun
  | [d1, d2, d3] => { results := [.lit (.bool false)], args := [d1, d2, d3] }
  | _ => none }
def FnExactLinksCostWrongFalsely : Prop := fnExactLinksCostRow.holds Try.pinned (OpenSpec.ofChange fnExactLinksCostWrong)

/-- 'laws.FnFollowCost': WHATEVER THE INPUT: true; the input reads as it did. -/
def fnFollowCostSpec : ChangeSpec := { name := "fnFollowCost", fn := fun _ => fun
  | [d] => { results := [.lit (.bool true)], args := [d] }
  | _ => none }
def fnFollowCostRow : OpenClaim := { program := "ytfmdpnnddhelaaa", sum := "1fd21122ed563beb5e9e3369dadf1ecb2dd9eec7f5e8a19c1119d8b9156d6de3", func := "loop.example/musicengine/laws.FnFollowCost", spec := "fnFollowCost", apart := false }
def FnFollowCostSaid : Prop := fnFollowCostRow.holds Try.pinned (OpenSpec.ofChange fnFollowCostSpec)

/-- ITS FALSE NEIGHBOUR: 'it returns false'. Refute it at one input. -/
def fnFollowCostWrong : ChangeSpec := { name := "fnFollowCost", fn := fun _ => fun
  | [d] => { results := [.lit (.bool false)], args := [d] }
  | _ => none }
def FnFollowCostWrongFalsely : Prop := fnFollowCostRow.holds Try.pinned (OpenSpec.ofChange fnFollowCostWrong)

/-- 'laws.FnFollowPlace': WHATEVER THE INPUT: true; the input reads as it did. -/
def fnFollowPlaceSpec : ChangeSpec := { name := "fnFollowPlace", fn := fun _ => fun
  | [d] => { results := [.lit (.bool true)], args := [d] }
  | _ => none }
def fnFollowPlaceRow : OpenClaim := { program := "ytfmdpnnddhelaaa", sum := "1fd21122ed563beb5e9e3369dadf1ecb2dd9eec7f5e8a19c1119d8b9156d6de3", func := "loop.example/musicengine/laws.FnFollowPlace", spec := "fnFollowPlace", apart := false }
def FnFollowPlaceSaid : Prop := fnFollowPlaceRow.holds Try.pinned (OpenSpec.ofChange fnFollowPlaceSpec)

/-- ITS FALSE NEIGHBOUR: 'it returns false'. Refute it at one input. -/
def fnFollowPlaceWrong : ChangeSpec := { name := "fnFollowPlace", fn := fun _ => fun
  | [d] => { results := [.lit (.bool false)], args := [d] }
  | _ => none }
def FnFollowPlaceWrongFalsely : Prop := fnFollowPlaceRow.holds Try.pinned (OpenSpec.ofChange fnFollowPlaceWrong)

/-- 'laws.FnExactFollowLinks': WHATEVER THE INPUT: true; the input reads as it did. -/
def fnExactFollowLinksSpec : ChangeSpec := { name := "fnExactFollowLinks", fn := fun _ => fun
  | [d1, d2] => { results := [.lit (.bool true)], args := [d1, d2] }
  | _ => none }
def fnExactFollowLinksRow : OpenClaim := { program := "ytfmdpnnddhelaaa", sum := "1fd21122ed563beb5e9e3369dadf1ecb2dd9eec7f5e8a19c1119d8b9156d6de3", func := "loop.example/musicengine/laws.FnExactFollowLinks", spec := "fnExactFollowLinks", apart := false }
def FnExactFollowLinksSaid : Prop := fnExactFollowLinksRow.holds Try.pinned (OpenSpec.ofChange fnExactFollowLinksSpec)

/-- ITS FALSE NEIGHBOUR: 'it returns false'. Refute it at one input. -/
def fnExactFollowLinksWrong : ChangeSpec := { name := "fnExactFollowLinks", fn := fun _ => fun
  | [d1, d2] => { results := [.lit (.bool false)], args := [d1, d2] }
  | _ => none }
def FnExactFollowLinksWrongFalsely : Prop := fnExactFollowLinksRow.holds Try.pinned (OpenSpec.ofChange fnExactFollowLinksWrong)

/-- 'laws.FnFollowLinks': WHATEVER THE INPUT: true; the input reads as it did. -/
def fnFollowLinksSpec : ChangeSpec := { name := "fnFollowLinks", fn := fun _ => fun
  | [d] => { results := [.lit (.bool true)], args := [d] }
  | _ => none }
def fnFollowLinksRow : OpenClaim := { program := "ytfmdpnnddhelaaa", sum := "1fd21122ed563beb5e9e3369dadf1ecb2dd9eec7f5e8a19c1119d8b9156d6de3", func := "loop.example/musicengine/laws.FnFollowLinks", spec := "fnFollowLinks", apart := false }
def FnFollowLinksSaid : Prop := fnFollowLinksRow.holds Try.pinned (OpenSpec.ofChange fnFollowLinksSpec)

/-- ITS FALSE NEIGHBOUR: 'it returns false'. Refute it at one input. -/
def fnFollowLinksWrong : ChangeSpec := { name := "fnFollowLinks", fn := fun _ => fun
  | [d] => { results := [.lit (.bool false)], args := [d] }
  | _ => none }
def FnFollowLinksWrongFalsely : Prop := fnFollowLinksRow.holds Try.pinned (OpenSpec.ofChange fnFollowLinksWrong)

/-- 'laws.FnLinksCost': WHATEVER THE INPUT: true; the input reads as it did. -/
def fnLinksCostSpec : ChangeSpec := { name := "fnLinksCost", fn := fun _ => fun
  | [d] => { results := [.lit (.bool true)], args := [d] }
  | _ => none }
def fnLinksCostRow : OpenClaim := { program := "ytfmdpnnddhelaaa", sum := "1fd21122ed563beb5e9e3369dadf1ecb2dd9eec7f5e8a19c1119d8b9156d6de3", func := "loop.example/musicengine/laws.FnLinksCost", spec := "fnLinksCost", apart := false }
def FnLinksCostSaid : Prop := fnLinksCostRow.holds Try.pinned (OpenSpec.ofChange fnLinksCostSpec)

/-- ITS FALSE NEIGHBOUR: 'it returns false'. Refute it at one input. -/
def fnLinksCostWrong : ChangeSpec := { name := "fnLinksCost", fn := fun _ => fun
  | [d] => { results := [.lit (.bool false)], args := [d] }
  | _ => none }
def FnLinksCostWrongFalsely : Prop := fnLinksCostRow.holds Try.pinned (OpenSpec.ofChange fnLinksCostWrong)

/- THE SECOND FORM. 'bulk': how many values and letters a reading holds, each counted each time it is reached (what is shared counts as often as it is met; a slice's spare places count too). A statement '..UptoSaid' is the law's where the arguments, and the package variables that the reading takes, are together of bulk at most 1048576: NARROWER than '..Said'. Prove '..Said' where nothing that the law and all that it calls make is longer than what came in: it says more and counts as full. Else prove '..UptoSaid'. A law counts once. -/
mutual
def uptoBulk {H : Type} : DataW H → Nat
  | .lit (.string bytes) => bytes.length + 1
  | .lit _ => 1
  | .nil => 1
  | .ptr d => uptoBulk d + 1
  | .slice elems spare => uptoBulkAll elems + uptoBulkAll spare + 1
  | .agg parts => uptoBulkAll parts + 1
  | .iface _ d => uptoBulk d + 1
  | .map entries => uptoBulkEntries entries + 1
  | .held _ => 1
def uptoBulkAll {H : Type} : List (DataW H) → Nat
  | [] => 0
  | d :: r => uptoBulk d + uptoBulkAll r
def uptoBulkEntries {H : Type} : List (Lit × DataW H) → Nat
  | [] => 0
  | x :: r => uptoBulkEntry x + uptoBulkEntries r
def uptoBulkEntry {H : Type} : Lit × DataW H → Nat
  | (.string bytes, d) => bytes.length + uptoBulk d + 1
  | (_, d) => uptoBulk d + 1
 end
def uptoSmall : (H : Type) → List (DataW H) → Bool := fun _ ds => decide (uptoBulkAll ds ≤ 1048576)
def OpenSpec.upto (s : _root_.Go.ChangeSpec) : _root_.Go.OpenSpec := { _root_.Go.OpenSpec.ofChange s with cond := some uptoSmall }

/-- 'laws.FnExactFollowCost', WHERE WHAT IT READS IS OF BULK AT MOST 1048576: true; the input reads as it did. -/
def fnExactFollowCostUptoRow : OpenClaim := { program := "ytfmdpnnddhelaaa", sum := "1fd21122ed563beb5e9e3369dadf1ecb2dd9eec7f5e8a19c1119d8b9156d6de3", func := "loop.example/musicengine/laws.FnExactFollowCost", spec := "fnExactFollowCost", apart := false, narrowed := true }
def FnExactFollowCostUptoSaid : Prop := fnExactFollowCostUptoRow.holds Try.pinned (OpenSpec.upto fnExactFollowCostSpec)

/-- 'laws.FnExactFollowPlace', WHERE WHAT IT READS IS OF BULK AT MOST 1048576: true; the input reads as it did. -/
def fnExactFollowPlaceUptoRow : OpenClaim := { program := "ytfmdpnnddhelaaa", sum := "1fd21122ed563beb5e9e3369dadf1ecb2dd9eec7f5e8a19c1119d8b9156d6de3", func := "loop.example/musicengine/laws.FnExactFollowPlace", spec := "fnExactFollowPlace", apart := false, narrowed := true }
def FnExactFollowPlaceUptoSaid : Prop := fnExactFollowPlaceUptoRow.holds Try.pinned (OpenSpec.upto fnExactFollowPlaceSpec)

/-- 'laws.FnFollowMore', WHERE WHAT IT READS IS OF BULK AT MOST 1048576: true; the input reads as it did. -/
def fnFollowMoreUptoRow : OpenClaim := { program := "ytfmdpnnddhelaaa", sum := "1fd21122ed563beb5e9e3369dadf1ecb2dd9eec7f5e8a19c1119d8b9156d6de3", func := "loop.example/musicengine/laws.FnFollowMore", spec := "fnFollowMore", apart := false, narrowed := true }
def FnFollowMoreUptoSaid : Prop := fnFollowMoreUptoRow.holds Try.pinned (OpenSpec.upto fnFollowMoreSpec)

/-- 'laws.FnExactLinksCost', WHERE WHAT IT READS IS OF BULK AT MOST 1048576: true; the input reads as it did. -/
def fnExactLinksCostUptoRow : OpenClaim := { program := "ytfmdpnnddhelaaa", sum := "1fd21122ed563beb5e9e3369dadf1ecb2dd9eec7f5e8a19c1119d8b9156d6de3", func := "loop.example/musicengine/laws.FnExactLinksCost", spec := "fnExactLinksCost", apart := false, narrowed := true }
def FnExactLinksCostUptoSaid : Prop := fnExactLinksCostUptoRow.holds Try.pinned (OpenSpec.upto fnExactLinksCostSpec)

/-- 'laws.FnFollowCost', WHERE WHAT IT READS IS OF BULK AT MOST 1048576: true; the input reads as it did. -/
def fnFollowCostUptoRow : OpenClaim := { program := "ytfmdpnnddhelaaa", sum := "1fd21122ed563beb5e9e3369dadf1ecb2dd9eec7f5e8a19c1119d8b9156d6de3", func := "loop.example/musicengine/laws.FnFollowCost", spec := "fnFollowCost", apart := false, narrowed := true }
def FnFollowCostUptoSaid : Prop := fnFollowCostUptoRow.holds Try.pinned (OpenSpec.upto fnFollowCostSpec)

/-- 'laws.FnFollowPlace', WHERE WHAT IT READS IS OF BULK AT MOST 1048576: true; the input reads as it did. -/
def fnFollowPlaceUptoRow : OpenClaim := { program := "ytfmdpnnddhelaaa", sum := "1fd21122ed563beb5e9e3369dadf1ecb2dd9eec7f5e8a19c1119d8b9156d6de3", func := "loop.example/musicengine/laws.FnFollowPlace", spec := "fnFollowPlace", apart := false, narrowed := true }
def FnFollowPlaceUptoSaid : Prop := fnFollowPlaceUptoRow.holds Try.pinned (OpenSpec.upto fnFollowPlaceSpec)

/-- 'laws.FnExactFollowLinks', WHERE WHAT IT READS IS OF BULK AT MOST 1048576: true; the input reads as it did. -/
def fnExactFollowLinksUptoRow : OpenClaim := { program := "ytfmdpnnddhelaaa", sum := "1fd21122ed563beb5e9e3369dadf1ecb2dd9eec7f5e8a19c1119d8b9156d6de3", func := "loop.example/musicengine/laws.FnExactFollowLinks", spec := "fnExactFollowLinks", apart := false, narrowed := true }
def FnExactFollowLinksUptoSaid : Prop := fnExactFollowLinksUptoRow.holds Try.pinned (OpenSpec.upto fnExactFollowLinksSpec)

/-- 'laws.FnFollowLinks', WHERE WHAT IT READS IS OF BULK AT MOST 1048576: true; the input reads as it did. -/
def fnFollowLinksUptoRow : OpenClaim := { program := "ytfmdpnnddhelaaa", sum := "1fd21122ed563beb5e9e3369dadf1ecb2dd9eec7f5e8a19c1119d8b9156d6de3", func := "loop.example/musicengine/laws.FnFollowLinks", spec := "fnFollowLinks", apart := false, narrowed := true }
def FnFollowLinksUptoSaid : Prop := fnFollowLinksUptoRow.holds Try.pinned (OpenSpec.upto fnFollowLinksSpec)

/-- 'laws.FnLinksCost', WHERE WHAT IT READS IS OF BULK AT MOST 1048576: true; the input reads as it did. -/
def fnLinksCostUptoRow : OpenClaim := { program := "ytfmdpnnddhelaaa", sum := "1fd21122ed563beb5e9e3369dadf1ecb2dd9eec7f5e8a19c1119d8b9156d6de3", func := "loop.example/musicengine/laws.FnLinksCost", spec := "fnLinksCost", apart := false, narrowed := true }
def FnLinksCostUptoSaid : Prop := fnLinksCostUptoRow.holds Try.pinned (OpenSpec.upto fnLinksCostSpec)

end Rows
end Go.Proofs.Ytfmdpnnddhelaaa
