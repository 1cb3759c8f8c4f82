/-
  No cell of these rows narrows 'for every input' (looked for: loops, veiled, ifaces, maps, wideKeys, modest, calm, conditions, laid).
  DERIVED. THE GIVEN ROWS OF THIS SEAT. 4 by the template 'for every input the law returns true; each argument reads behind the call as it read before'; 0 by the template 'total and deterministic' (their statements: YtggjgjcdpnidnaaTotals.lean).
  GIVEN WITH THE SEED: the statements are not yours to turn. If you find one false, say at which input.
  Laid BY PROGRAM, IN A SANDBOX (cutbox-rows.mjs): the forced cells as the released guide's own fill.sh prints them over the translation 082d643cc5aa4d8e… (all of the seat's roots in one cut). By AI agents, Wed Nov 11 2026. No macro, syntax, notation, axiom, sorry.
-/
import Derived.Test.YtggjgjcdpnidnaaChecked
import GoSem.Claim
import GoSem.ClaimJoined
import GoSem.ClaimMapViews
import Derived.JoinedTies
import Derived.KernelRfl
namespace Go.Proofs.Ytggjgjcdpnidnaa
/- THE CELL 'sum', in the pinned program and in every row, IS THE sha256 OF THE DUMP (.gsa) THAT YtggjgjcdpnidnaaProg.lean LOADS. Nothing in Lean hashes anything: it is a label: what it is worth is what the hold of that sum in a sandbox is worth. -/
noncomputable def Try.pinned : Pinned := { name := "ytggjgjcdpnidnaa", sum := "082d643cc5aa4d8e579c0ae93e37affcb57ebe720715f618a935bf434e98f2aa", checked := Try.checked }
namespace Rows
def none {H : Type} : Left H := { results := [], args := [] }

/-- 'laws.FnSongValid': WHATEVER THE INPUT: true; the input reads as it did. -/
def fnSongValidSpec : ChangeSpec := { name := "fnSongValid", fn := fun _ => fun
  | [d] => { results := [.lit (.bool true)], args := [d] }
  | _ => none }
def fnSongValidRow : OpenClaim := { program := "ytggjgjcdpnidnaa", sum := "082d643cc5aa4d8e579c0ae93e37affcb57ebe720715f618a935bf434e98f2aa", func := "loop.example/musicengine/laws.FnSongValid", spec := "fnSongValid", apart := false }
def FnSongValidSaid : Prop := fnSongValidRow.holds Try.pinned (OpenSpec.ofChange fnSongValidSpec)

/-- ITS FALSE NEIGHBOUR: 'it returns false'. Refute it at one input. -/
def fnSongValidWrong : ChangeSpec := { name := "fnSongValid", fn := fun _ => fun
  | [d] => { results := [.lit (.bool false)], args := [d] }
  | _ => none }
def FnSongValidWrongFalsely : Prop := fnSongValidRow.holds Try.pinned (OpenSpec.ofChange fnSongValidWrong)

/-- 'laws.FnSongBars': WHATEVER THE INPUT: true; the input reads as it did. -/
def fnSongBarsSpec : ChangeSpec := { name := "fnSongBars", fn := fun _ => fun
  | [d] => { results := [.lit (.bool true)], args := [d] }
  | _ => none }
def fnSongBarsRow : OpenClaim := { program := "ytggjgjcdpnidnaa", sum := "082d643cc5aa4d8e579c0ae93e37affcb57ebe720715f618a935bf434e98f2aa", func := "loop.example/musicengine/laws.FnSongBars", spec := "fnSongBars", apart := false }
def FnSongBarsSaid : Prop := fnSongBarsRow.holds Try.pinned (OpenSpec.ofChange fnSongBarsSpec)

/-- ITS FALSE NEIGHBOUR: 'it returns false'. Refute it at one input. -/
def fnSongBarsWrong : ChangeSpec := { name := "fnSongBars", fn := fun _ => fun
  | [d] => { results := [.lit (.bool false)], args := [d] }
  | _ => none }
def FnSongBarsWrongFalsely : Prop := fnSongBarsRow.holds Try.pinned (OpenSpec.ofChange fnSongBarsWrong)

/-- 'laws.FnSongTime': WHATEVER THE INPUT: true; the input reads as it did. -/
def fnSongTimeSpec : ChangeSpec := { name := "fnSongTime", fn := fun _ => fun
  | [d] => { results := [.lit (.bool true)], args := [d] }
  | _ => none }
def fnSongTimeRow : OpenClaim := { program := "ytggjgjcdpnidnaa", sum := "082d643cc5aa4d8e579c0ae93e37affcb57ebe720715f618a935bf434e98f2aa", func := "loop.example/musicengine/laws.FnSongTime", spec := "fnSongTime", apart := false }
def FnSongTimeSaid : Prop := fnSongTimeRow.holds Try.pinned (OpenSpec.ofChange fnSongTimeSpec)

/-- ITS FALSE NEIGHBOUR: 'it returns false'. Refute it at one input. -/
def fnSongTimeWrong : ChangeSpec := { name := "fnSongTime", fn := fun _ => fun
  | [d] => { results := [.lit (.bool false)], args := [d] }
  | _ => none }
def FnSongTimeWrongFalsely : Prop := fnSongTimeRow.holds Try.pinned (OpenSpec.ofChange fnSongTimeWrong)

/-- 'laws.FnSongFaults': WHATEVER THE INPUT: true; the input reads as it did. -/
def fnSongFaultsSpec : ChangeSpec := { name := "fnSongFaults", fn := fun _ => fun
  | [d] => { results := [.lit (.bool true)], args := [d] }
  | _ => none }
def fnSongFaultsRow : OpenClaim := { program := "ytggjgjcdpnidnaa", sum := "082d643cc5aa4d8e579c0ae93e37affcb57ebe720715f618a935bf434e98f2aa", func := "loop.example/musicengine/laws.FnSongFaults", spec := "fnSongFaults", apart := false }
def FnSongFaultsSaid : Prop := fnSongFaultsRow.holds Try.pinned (OpenSpec.ofChange fnSongFaultsSpec)

/-- ITS FALSE NEIGHBOUR: 'it returns false'. Refute it at one input. -/
def fnSongFaultsWrong : ChangeSpec := { name := "fnSongFaults", fn := fun _ => fun
  | [d] => { results := [.lit (.bool false)], args := [d] }
  | _ => none }
def FnSongFaultsWrongFalsely : Prop := fnSongFaultsRow.holds Try.pinned (OpenSpec.ofChange fnSongFaultsWrong)

/- THE SECOND FORM. 'bulk': how many values and letters a reading holds, each counted each time it is reached (what is shared counts as often as it is met; a slice's spare places count too). A statement '..UptoSaid' is the law's where the arguments, and the package variables that the reading takes, are together of bulk at most 1048576: NARROWER than '..Said'. Prove '..Said' where nothing that the law and all that it calls make is longer than what came in: it says more and counts as full. Else prove '..UptoSaid'. A law counts once. -/
mutual
def uptoBulk {H : Type} : DataW H → Nat
  | .lit (.string bytes) => bytes.length + 1
  | .lit _ => 1
  | .nil => 1
  | .ptr d => uptoBulk d + 1
  | .slice elems spare => uptoBulkAll elems + uptoBulkAll spare + 1
  | .agg parts => uptoBulkAll parts + 1
  | .iface _ d => uptoBulk d + 1
  | .map entries => uptoBulkEntries entries + 1
  | .held _ => 1
def uptoBulkAll {H : Type} : List (DataW H) → Nat
  | [] => 0
  | d :: r => uptoBulk d + uptoBulkAll r
def uptoBulkEntries {H : Type} : List (Lit × DataW H) → Nat
  | [] => 0
  | x :: r => uptoBulkEntry x + uptoBulkEntries r
def uptoBulkEntry {H : Type} : Lit × DataW H → Nat
  | (.string bytes, d) => bytes.length + uptoBulk d + 1
  | (_, d) => uptoBulk d + 1
 end
def uptoSmall : (H : Type) → List (DataW H) → Bool := fun _ ds => decide (uptoBulkAll ds ≤ 1048576)
def OpenSpec.upto (s : _root_.Go.ChangeSpec) : _root_.Go.OpenSpec := { _root_.Go.OpenSpec.ofChange s with cond := some uptoSmall }

/-- 'laws.FnSongValid', WHERE WHAT IT READS IS OF BULK AT MOST 1048576: true; the input reads as it did. -/
def fnSongValidUptoRow : OpenClaim := { program := "ytggjgjcdpnidnaa", sum := "082d643cc5aa4d8e579c0ae93e37affcb57ebe720715f618a935bf434e98f2aa", func := "loop.example/musicengine/laws.FnSongValid", spec := "fnSongValid", apart := false, narrowed := true }
def FnSongValidUptoSaid : Prop := fnSongValidUptoRow.holds Try.pinned (OpenSpec.upto fnSongValidSpec)

/-- 'laws.FnSongBars', WHERE WHAT IT READS IS OF BULK AT MOST 1048576: true; the input reads as it did. -/
def fnSongBarsUptoRow : OpenClaim := { program := "ytggjgjcdpnidnaa", sum := "082d643cc5aa4d8e579c0ae93e37affcb57ebe720715f618a935bf434e98f2aa", func := "loop.example/musicengine/laws.FnSongBars", spec := "fnSongBars", apart := false, narrowed := true }
def FnSongBarsUptoSaid : Prop := fnSongBarsUptoRow.holds Try.pinned (OpenSpec.upto fnSongBarsSpec)

/-- 'laws.FnSongTime', WHERE WHAT IT READS IS OF BULK AT MOST 1048576: true; the input reads as it did. -/
def fnSongTimeUptoRow : OpenClaim := { program := "ytggjgjcdpnidnaa", sum := "082d643cc5aa4d8e579c0ae93e37affcb57ebe720715f618a935bf434e98f2aa", func := "loop.example/musicengine/laws.FnSongTime", spec := "fnSongTime", apart := false, narrowed := true }
def FnSongTimeUptoSaid : Prop := fnSongTimeUptoRow.holds Try.pinned (OpenSpec.upto fnSongTimeSpec)

/-- 'laws.FnSongFaults', WHERE WHAT IT READS IS OF BULK AT MOST 1048576: true; the input reads as it did. -/
def fnSongFaultsUptoRow : OpenClaim := { program := "ytggjgjcdpnidnaa", sum := "082d643cc5aa4d8e579c0ae93e37affcb57ebe720715f618a935bf434e98f2aa", func := "loop.example/musicengine/laws.FnSongFaults", spec := "fnSongFaults", apart := false, narrowed := true }
def FnSongFaultsUptoSaid : Prop := fnSongFaultsUptoRow.holds Try.pinned (OpenSpec.upto fnSongFaultsSpec)

end Rows
end Go.Proofs.Ytggjgjcdpnidnaa
