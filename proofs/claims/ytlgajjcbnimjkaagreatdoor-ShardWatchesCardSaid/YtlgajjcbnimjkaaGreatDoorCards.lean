/-
  DERIVED. GIVEN WITH THE SEED: THE CARDS: each row of YtlgajjcbnimjkaaGreatDoorRows.lean that lists a variable, with what it lists TIED to the program's text (the seventh form; the later family's looks); each row that meets fmt, with fmt's text TOLD by the authors' own Lean function (tested against real Go, not proved from fmt's source: count such statements apart). THE CARD IS WHAT COUNTS. Prove the row's statement (the work); the ties are given (YtlgajjcbnimjkaaGreatDoorTie.lean); close each card by the builder's one call (the guide's Derived/Test/ToyasCard.lean, 'card_holds'). Laid BY PROGRAM, IN A SANDBOX (cutbox-door.mjs). By AI agents, Wed Nov 11 2026. No macro, syntax, notation, axiom, sorry.
-/
import Derived.Test.YtlgajjcbnimjkaaGreatDoorRows
import GoSem.ClaimSeven
namespace Go.Proofs.YtlgajjcbnimjkaaGreatDoor
namespace Rows

/-- THE TIED CARD OF 'cantonlaw13.ShardWatches'. -/
def shardWatchesCard : Claim7 := { stood := { row := shardWatchesRow, standIns := [], harness := (true, "b3f3f221ddcc8f76910a317fcd8cc9acece0e0313dc59813852428ed9d599460"), looks := false }, kinds := [], alts := [], laidByText := true, laidKinds := [.data, .data, .data], laidTests := true, laidLooks := .later }
def ShardWatchesCardSaid : Prop := Claim7.holds Tryz.pinned (.plain (OpenSpec.ofChange shardWatchesSpec)) shardWatchesCard

/-- THE SECOND FORM's CARD OF 'cantonlaw13.ShardWatches'. -/
def shardWatchesUptoCard : Claim7 := { stood := { row := shardWatchesUptoRow, standIns := [], harness := (true, "b3f3f221ddcc8f76910a317fcd8cc9acece0e0313dc59813852428ed9d599460"), looks := false }, kinds := [], alts := [], laidByText := true, laidKinds := [.data, .data, .data], laidTests := true, laidLooks := .later }
def ShardWatchesUptoCardSaid : Prop := Claim7.holds Tryz.pinned (.plain (OpenSpec.upto shardWatchesSpec)) shardWatchesUptoCard
end Rows
end Go.Proofs.YtlgajjcbnimjkaaGreatDoor
