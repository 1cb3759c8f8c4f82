/-
  No cell of these rows narrows 'for every input' (looked for: loops, veiled, ifaces, maps, wideKeys, modest, calm, conditions, laid).
  DERIVED. THE GIVEN ROWS OF THIS SEAT. 4 by the template 'for every input the law returns true; each argument reads behind the call as it read before'; 0 by the template 'total and deterministic' (their statements: YthgidfofncbigaaTotals.lean).
  GIVEN WITH THE SEED: the statements are not yours to turn. If you find one false, say at which input.
  Laid BY PROGRAM, IN A SANDBOX (cutbox-rows.mjs): the forced cells as the released guide's own fill.sh prints them over the translation 022acbbf3b617bb6… (all of the seat's roots in one cut). By AI agents, Wed Nov 11 2026. No macro, syntax, notation, axiom, sorry.
-/
import Derived.Test.YthgidfofncbigaaChecked
import GoSem.Claim
import GoSem.ClaimJoined
import GoSem.ClaimMapViews
import Derived.JoinedTies
import Derived.KernelRfl
namespace Go.Proofs.Ythgidfofncbigaa
/- THE CELL 'sum', in the pinned program and in every row, IS THE sha256 OF THE DUMP (.gsa) THAT YthgidfofncbigaaProg.lean LOADS. Nothing in Lean hashes anything: it is a label: what it is worth is what the hold of that sum in a sandbox is worth. -/
noncomputable def Try.pinned : Pinned := { name := "ythgidfofncbigaa", sum := "022acbbf3b617bb62a65628f9404bc2eef6d43e76828b238d2a330b4dfefb081", checked := Try.checked }
namespace Rows
def none {H : Type} : Left H := { results := [], args := [] }

/-- 'laws.FnExactSongValid': WHATEVER THE INPUT: true; the input reads as it did. -/
def fnExactSongValidSpec : ChangeSpec := { name := "fnExactSongValid", fn := fun _ => fun
  | [d] => { results := [.lit (.bool true)], args := [d] }
  | _ => none }
def fnExactSongValidRow : OpenClaim := { program := "ythgidfofncbigaa", sum := "022acbbf3b617bb62a65628f9404bc2eef6d43e76828b238d2a330b4dfefb081", func := "loop.example/musicengine/laws.FnExactSongValid", spec := "fnExactSongValid", apart := false }
def FnExactSongValidSaid : Prop := fnExactSongValidRow.holds Try.pinned (OpenSpec.ofChange fnExactSongValidSpec)

/-- ITS FALSE NEIGHBOUR: 'it returns false'. Refute it at one input. -/
def fnExactSongValidWrong : ChangeSpec := { name := "fnExactSongValid", fn := fun _ => fun
  | [d] => { results := [.lit (.bool false)], args := [d] }
  | _ => none }
def FnExactSongValidWrongFalsely : Prop := fnExactSongValidRow.holds Try.pinned (OpenSpec.ofChange fnExactSongValidWrong)

/-- 'laws.FnExactSongBars': WHATEVER THE INPUT: true; the input reads as it did. -/
def fnExactSongBarsSpec : ChangeSpec := { name := "fnExactSongBars", fn := fun _ => fun
  | [d] => { results := [.lit (.bool true)], args := [d] }
  | _ => none }
def fnExactSongBarsRow : OpenClaim := { program := "ythgidfofncbigaa", sum := "022acbbf3b617bb62a65628f9404bc2eef6d43e76828b238d2a330b4dfefb081", func := "loop.example/musicengine/laws.FnExactSongBars", spec := "fnExactSongBars", apart := false }
def FnExactSongBarsSaid : Prop := fnExactSongBarsRow.holds Try.pinned (OpenSpec.ofChange fnExactSongBarsSpec)

/-- ITS FALSE NEIGHBOUR: 'it returns false'. Refute it at one input. -/
def fnExactSongBarsWrong : ChangeSpec := { name := "fnExactSongBars", fn := fun _ => fun
  | [d] => { results := [.lit (.bool false)], args := [d] }
  | _ => none }
def FnExactSongBarsWrongFalsely : Prop := fnExactSongBarsRow.holds Try.pinned (OpenSpec.ofChange fnExactSongBarsWrong)

/-- 'laws.FnExactSongTime': WHATEVER THE INPUT: true; the input reads as it did. -/
def fnExactSongTimeSpec : ChangeSpec := { name := "fnExactSongTime", fn := fun _ => fun
  | [d] => { results := [.lit (.bool true)], args := [d] }
  | _ => none }
def fnExactSongTimeRow : OpenClaim := { program := "ythgidfofncbigaa", sum := "022acbbf3b617bb62a65628f9404bc2eef6d43e76828b238d2a330b4dfefb081", func := "loop.example/musicengine/laws.FnExactSongTime", spec := "fnExactSongTime", apart := false }
def FnExactSongTimeSaid : Prop := fnExactSongTimeRow.holds Try.pinned (OpenSpec.ofChange fnExactSongTimeSpec)

/-- ITS FALSE NEIGHBOUR: 'it returns false'. Refute it at one input. -/
def fnExactSongTimeWrong : ChangeSpec := { name := "fnExactSongTime", fn := fun _ => fun
  | [d] => { results := [.lit (.bool false)], args := [d] }
  | _ => none }
def FnExactSongTimeWrongFalsely : Prop := fnExactSongTimeRow.holds Try.pinned (OpenSpec.ofChange fnExactSongTimeWrong)

/-- 'laws.FnExactSongFaults': WHATEVER THE INPUT: true; the input reads as it did. -/
def fnExactSongFaultsSpec : ChangeSpec := { name := "fnExactSongFaults", fn := fun _ => fun
  | [d] => { results := [.lit (.bool true)], args := [d] }
  | _ => none }
def fnExactSongFaultsRow : OpenClaim := { program := "ythgidfofncbigaa", sum := "022acbbf3b617bb62a65628f9404bc2eef6d43e76828b238d2a330b4dfefb081", func := "loop.example/musicengine/laws.FnExactSongFaults", spec := "fnExactSongFaults", apart := false }
def FnExactSongFaultsSaid : Prop := fnExactSongFaultsRow.holds Try.pinned (OpenSpec.ofChange fnExactSongFaultsSpec)

/-- ITS FALSE NEIGHBOUR: 'it returns false'. Refute it at one input. -/
def fnExactSongFaultsWrong : ChangeSpec := { name := "fnExactSongFaults", fn := fun _ => fun
  | [d] => { results := [.lit (.bool false)], args := [d] }
  | _ => none }
def FnExactSongFaultsWrongFalsely : Prop := fnExactSongFaultsRow.holds Try.pinned (OpenSpec.ofChange fnExactSongFaultsWrong)

/- THE SECOND FORM. 'bulk': how many values and letters a reading holds, each counted each time it is reached (what is shared counts as often as it is met; a slice's spare places count too). A statement '..UptoSaid' is the law's where the arguments, and the package variables that the reading takes, are together of bulk at most 1048576: NARROWER than '..Said'. Prove '..Said' where nothing that the law and all that it calls make is longer than what came in: it says more and counts as full. Else prove '..UptoSaid'. A law counts once. -/
mutual
def uptoBulk {H : Type} : DataW H → Nat
  | .lit (.string bytes) => bytes.length + 1
  | .lit _ => 1
  | .nil => 1
  | .ptr d => uptoBulk d + 1
  | .slice elems spare => uptoBulkAll elems + uptoBulkAll spare + 1
  | .agg parts => uptoBulkAll parts + 1
  | .iface _ d => uptoBulk d + 1
  | .map entries => uptoBulkEntries entries + 1
  | .held _ => 1
def uptoBulkAll {H : Type} : List (DataW H) → Nat
  | [] => 0
  | d :: r => uptoBulk d + uptoBulkAll r
def uptoBulkEntries {H : Type} : List (Lit × DataW H) → Nat
  | [] => 0
  | x :: r => uptoBulkEntry x + uptoBulkEntries r
def uptoBulkEntry {H : Type} : Lit × DataW H → Nat
  | (.string bytes, d) => bytes.length + uptoBulk d + 1
  | (_, d) => uptoBulk d + 1
 end
def uptoSmall : (H : Type) → List (DataW H) → Bool := fun _ ds => decide (uptoBulkAll ds ≤ 1048576)
def OpenSpec.upto (s : _root_.Go.ChangeSpec) : _root_.Go.OpenSpec := { _root_.Go.OpenSpec.ofChange s with cond := some uptoSmall }

/-- 'laws.FnExactSongValid', WHERE WHAT IT READS IS OF BULK AT MOST 1048576: true; the input reads as it did. -/
def fnExactSongValidUptoRow : OpenClaim := { program := "ythgidfofncbigaa", sum := "022acbbf3b617bb62a65628f9404bc2eef6d43e76828b238d2a330b4dfefb081", func := "loop.example/musicengine/laws.FnExactSongValid", spec := "fnExactSongValid", apart := false, narrowed := true }
def FnExactSongValidUptoSaid : Prop := fnExactSongValidUptoRow.holds Try.pinned (OpenSpec.upto fnExactSongValidSpec)

/-- 'laws.FnExactSongBars', WHERE WHAT IT READS IS OF BULK AT MOST 1048576: true; the input reads as it did. -/
def fnExactSongBarsUptoRow : OpenClaim := { program := "ythgidfofncbigaa", sum := "022acbbf3b617bb62a65628f9404bc2eef6d43e76828b238d2a330b4dfefb081", func := "loop.example/musicengine/laws.FnExactSongBars", spec := "fnExactSongBars", apart := false, narrowed := true }
def FnExactSongBarsUptoSaid : Prop := fnExactSongBarsUptoRow.holds Try.pinned (OpenSpec.upto fnExactSongBarsSpec)

/-- 'laws.FnExactSongTime', WHERE WHAT IT READS IS OF BULK AT MOST 1048576: true; the input reads as it did. -/
def fnExactSongTimeUptoRow : OpenClaim := { program := "ythgidfofncbigaa", sum := "022acbbf3b617bb62a65628f9404bc2eef6d43e76828b238d2a330b4dfefb081", func := "loop.example/musicengine/laws.FnExactSongTime", spec := "fnExactSongTime", apart := false, narrowed := true }
def FnExactSongTimeUptoSaid : Prop := fnExactSongTimeUptoRow.holds Try.pinned (OpenSpec.upto fnExactSongTimeSpec)

/-- 'laws.FnExactSongFaults', WHERE WHAT IT READS IS OF BULK AT MOST 1048576: true; the input reads as it did. -/
def fnExactSongFaultsUptoRow : OpenClaim := { program := "ythgidfofncbigaa", sum := "022acbbf3b617bb62a65628f9404bc2eef6d43e76828b238d2a330b4dfefb081", func := "loop.example/musicengine/laws.FnExactSongFaults", spec := "fnExactSongFaults", apart := false, narrowed := true }
def FnExactSongFaultsUptoSaid : Prop := fnExactSongFaultsUptoRow.holds Try.pinned (OpenSpec.upto fnExactSongFaultsSpec)

end Rows
end Go.Proofs.Ythgidfofncbigaa
