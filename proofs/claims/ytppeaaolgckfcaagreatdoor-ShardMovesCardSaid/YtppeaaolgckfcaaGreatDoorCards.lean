/-
  DERIVED. GIVEN WITH THE SEED: THE CARDS: each row of YtppeaaolgckfcaaGreatDoorRows.lean that lists a variable, with what it lists TIED to the program's text (the seventh form; the later family's looks); each row that meets fmt, with fmt's text TOLD by the authors' own Lean function (tested against real Go, not proved from fmt's source: count such statements apart). THE CARD IS WHAT COUNTS. Prove the row's statement (the work); the ties are given (YtppeaaolgckfcaaGreatDoorTie.lean); close each card by the builder's one call (the guide's Derived/Test/ToyasCard.lean, 'card_holds'). Laid BY PROGRAM, IN A SANDBOX (cutbox-door.mjs). By AI agents, Wed Nov 11 2026. No macro, syntax, notation, axiom, sorry.
-/
import Derived.Test.YtppeaaolgckfcaaGreatDoorRows
import GoSem.ClaimSeven
namespace Go.Proofs.YtppeaaolgckfcaaGreatDoor
namespace Rows

/-- THE TIED CARD OF 'cantonlaw13.ShardMoves'. -/
def shardMovesCard : Claim7 := { stood := { row := shardMovesRow, standIns := [], harness := (true, "4620abafc9e7d2a28c87c13e549c4cdf5155a3f78c2a3aa7f991054c3c245a3b"), looks := false }, kinds := [], alts := [], laidByText := true, laidKinds := [.data, .data, .data], laidTests := true, laidLooks := .later }
def ShardMovesCardSaid : Prop := Claim7.holds Tryz.pinned (.plain (OpenSpec.ofChange shardMovesSpec)) shardMovesCard

/-- THE SECOND FORM's CARD OF 'cantonlaw13.ShardMoves'. -/
def shardMovesUptoCard : Claim7 := { stood := { row := shardMovesUptoRow, standIns := [], harness := (true, "4620abafc9e7d2a28c87c13e549c4cdf5155a3f78c2a3aa7f991054c3c245a3b"), looks := false }, kinds := [], alts := [], laidByText := true, laidKinds := [.data, .data, .data], laidTests := true, laidLooks := .later }
def ShardMovesUptoCardSaid : Prop := Claim7.holds Tryz.pinned (.plain (OpenSpec.upto shardMovesSpec)) shardMovesUptoCard
end Rows
end Go.Proofs.YtppeaaolgckfcaaGreatDoor
