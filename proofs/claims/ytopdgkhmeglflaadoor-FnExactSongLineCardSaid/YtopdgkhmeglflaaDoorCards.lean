/-
  DERIVED. GIVEN WITH THE SEED: THE CARDS: each row of YtopdgkhmeglflaaDoorRows.lean that lists a variable, with what it lists TIED to the program's text (the seventh form; the later family's looks); each row that meets fmt, with fmt's text TOLD by the authors' own Lean function (tested against real Go, not proved from fmt's source: count such statements apart). THE CARD IS WHAT COUNTS. Prove the row's statement (the work); the ties are given (YtopdgkhmeglflaaDoorTie.lean); close each card by the builder's one call (the guide's Derived/Test/ToyasCard.lean, 'card_holds'). Laid BY PROGRAM, IN A SANDBOX (cutbox-door.mjs). By AI agents, Wed Nov 11 2026. No macro, syntax, notation, axiom, sorry.
-/
import Derived.Test.YtopdgkhmeglflaaDoorRows
import GoSem.ClaimSeven
namespace Go.Proofs.YtopdgkhmeglflaaDoor
namespace Rows

/-- THE TIED CARD OF 'laws.FnExactSongLine'. -/
def fnExactSongLineCard : Claim7 := { stood := { row := fnExactSongLineRow, standIns := [], harness := (true, "bd518738add8a71fcb52e7ec4cdd21012493f897dff8baa3370a8049a0316aba"), looks := false }, kinds := [], alts := [], laidByText := true, laidKinds := [.data, .data, .data], laidTests := true, laidLooks := .later }
def FnExactSongLineCardSaid : Prop := Claim7.holds Tryd.pinned (.plain (OpenSpec.ofChange fnExactSongLineSpec)) fnExactSongLineCard

/-- THE SECOND FORM's CARD OF 'laws.FnExactSongLine'. -/
def fnExactSongLineUptoCard : Claim7 := { stood := { row := fnExactSongLineUptoRow, standIns := [], harness := (true, "bd518738add8a71fcb52e7ec4cdd21012493f897dff8baa3370a8049a0316aba"), looks := false }, kinds := [], alts := [], laidByText := true, laidKinds := [.data, .data, .data], laidTests := true, laidLooks := .later }
def FnExactSongLineUptoCardSaid : Prop := Claim7.holds Tryd.pinned (.plain (OpenSpec.upto fnExactSongLineSpec)) fnExactSongLineUptoCard
end Rows
end Go.Proofs.YtopdgkhmeglflaaDoor
