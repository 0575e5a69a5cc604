/-
  DERIVED. GIVEN WITH THE SEED: THE CARDS: each row of YtidapdacihcckaaGreatDoorRows.lean that lists a variable, with what it lists TIED to the program's text (the seventh form; the later family's looks); each row that meets fmt, with fmt's text TOLD by the authors' own Lean function (tested against real Go, not proved from fmt's source: count such statements apart). THE CARD IS WHAT COUNTS. Prove the row's statement (the work); the ties are given (YtidapdacihcckaaGreatDoorTie.lean); close each card by the builder's one call (the guide's Derived/Test/ToyasCard.lean, 'card_holds'). Laid BY PROGRAM, IN A SANDBOX (cutbox-door.mjs). By AI agents, Wed Nov 11 2026. No macro, syntax, notation, axiom, sorry.
-/
import Derived.Test.YtidapdacihcckaaGreatDoorRows
import GoSem.ClaimSeven
namespace Go.Proofs.YtidapdacihcckaaGreatDoor
namespace Rows

/-- THE TIED CARD OF 'cantonlaw06.NodesTells'. -/
def nodesTellsCard : Claim7 := { stood := { row := nodesTellsRow, standIns := [], harness := (true, "83107d30663745fca2980c9f46139acfc122302ea5beddc2fee0e59f87b47f6f"), looks := false }, kinds := [], alts := [], laidByText := true, laidKinds := [.data, .data, .data], laidTests := true, laidLooks := .later }
def NodesTellsCardSaid : Prop := Claim7.holds Tryz.pinned (.plain (OpenSpec.ofChange nodesTellsSpec)) nodesTellsCard

/-- THE SECOND FORM's CARD OF 'cantonlaw06.NodesTells'. -/
def nodesTellsUptoCard : Claim7 := { stood := { row := nodesTellsUptoRow, standIns := [], harness := (true, "83107d30663745fca2980c9f46139acfc122302ea5beddc2fee0e59f87b47f6f"), looks := false }, kinds := [], alts := [], laidByText := true, laidKinds := [.data, .data, .data], laidTests := true, laidLooks := .later }
def NodesTellsUptoCardSaid : Prop := Claim7.holds Tryz.pinned (.plain (OpenSpec.upto nodesTellsSpec)) nodesTellsUptoCard
end Rows
end Go.Proofs.YtidapdacihcckaaGreatDoor
