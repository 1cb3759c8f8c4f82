/-
  DERIVED. GIVEN WITH THE SEED: THE CARDS: each row of YtmodpleonhniaaaGreatDoorRows.lean that lists a variable, with what it lists TIED to the program's text (the seventh form; the later family's looks); each row that meets fmt, with fmt's text TOLD by the authors' own Lean function (tested against real Go, not proved from fmt's source: count such statements apart). THE CARD IS WHAT COUNTS. Prove the row's statement (the work); the ties are given (YtmodpleonhniaaaGreatDoorTie.lean); close each card by the builder's one call (the guide's Derived/Test/ToyasCard.lean, 'card_holds'). Laid BY PROGRAM, IN A SANDBOX (cutbox-door.mjs). By AI agents, Wed Nov 11 2026. No macro, syntax, notation, axiom, sorry.
-/
import Derived.Test.YtmodpleonhniaaaGreatDoorRows
import GoSem.ClaimSeven
namespace Go.Proofs.YtmodpleonhniaaaGreatDoor
namespace Rows

/-- THE TIED CARD OF 'laws.FnSongLine'. -/
def fnSongLineCard : Claim7 := { stood := { row := fnSongLineRow, standIns := [], harness := (true, "51f5f8fe04621d57c8e175fb0ed9bda7cf4cef09574e3b76920bf10a9b2045f6"), looks := true }, kinds := [], alts := [], laidByText := true, laidKinds := [.data, .data, .data, .data, .sentinel, .sentinel, .pinned], laidTests := true, laidLooks := .later }
def FnSongLineCardSaid : Prop := Claim7.holds Tryz.pinned (.plain (OpenSpec.ofChange fnSongLineSpec)) fnSongLineCard

/-- THE SECOND FORM's CARD OF 'laws.FnSongLine'. -/
def fnSongLineUptoCard : Claim7 := { stood := { row := fnSongLineUptoRow, standIns := [], harness := (true, "51f5f8fe04621d57c8e175fb0ed9bda7cf4cef09574e3b76920bf10a9b2045f6"), looks := true }, kinds := [], alts := [], laidByText := true, laidKinds := [.data, .data, .data, .data, .sentinel, .sentinel, .pinned], laidTests := true, laidLooks := .later }
def FnSongLineUptoCardSaid : Prop := Claim7.holds Tryz.pinned (.plain (OpenSpec.upto fnSongLineSpec)) fnSongLineUptoCard
end Rows
end Go.Proofs.YtmodpleonhniaaaGreatDoor
