/-
  DERIVED. GIVEN WITH THE SEED: THE CARDS: each row of YtljjmbedfbbmgaaGreatDoorRows.lean that lists a variable, with what it lists TIED to the program's text (the seventh form; the later family's looks); each row that meets fmt, with fmt's text TOLD by the authors' own Lean function (tested against real Go, not proved from fmt's source: count such statements apart). THE CARD IS WHAT COUNTS. Prove the row's statement (the work); the ties are given (YtljjmbedfbbmgaaGreatDoorTie.lean); close each card by the builder's one call (the guide's Derived/Test/ToyasCard.lean, 'card_holds'). Laid BY PROGRAM, IN A SANDBOX (cutbox-door.mjs). By AI agents, Wed Nov 11 2026. No macro, syntax, notation, axiom, sorry.
-/
import Derived.Test.YtljjmbedfbbmgaaGreatDoorRows
import GoSem.ClaimSeven
namespace Go.Proofs.YtljjmbedfbbmgaaGreatDoor
namespace Rows

/-- THE TIED CARD OF 'gatehouselaw16.FdsNone'. -/
def fdsNoneCard : Claim7 := { stood := { row := fdsNoneRow, standIns := [], harness := (true, "39d3962aacc89c3aeaeaa286b9977d434d1cbcd01fa3731ece3d252cca80ef10"), looks := false }, kinds := [], alts := [], laidByText := true, laidKinds := [.data, .pinned], laidTests := true, laidLooks := .later }
def FdsNoneCardSaid : Prop := Claim7.holds Tryz.pinned (.plain (OpenSpec.ofChange fdsNoneSpec)) fdsNoneCard

/-- THE SECOND FORM's CARD OF 'gatehouselaw16.FdsNone'. -/
def fdsNoneUptoCard : Claim7 := { stood := { row := fdsNoneUptoRow, standIns := [], harness := (true, "39d3962aacc89c3aeaeaa286b9977d434d1cbcd01fa3731ece3d252cca80ef10"), looks := false }, kinds := [], alts := [], laidByText := true, laidKinds := [.data, .pinned], laidTests := true, laidLooks := .later }
def FdsNoneUptoCardSaid : Prop := Claim7.holds Tryz.pinned (.plain (OpenSpec.upto fdsNoneSpec)) fdsNoneUptoCard
end Rows
end Go.Proofs.YtljjmbedfbbmgaaGreatDoor
