/-
  DERIVED. GIVEN WITH THE SEED: THE CARDS: each row of YteakhlfapjaodaaGreatDoorRows.lean that lists a variable, with what it lists TIED to the program's text (the seventh form; the later family's looks); each row that meets fmt, with fmt's text TOLD by the authors' own Lean function (tested against real Go, not proved from fmt's source: count such statements apart). THE CARD IS WHAT COUNTS. Prove the row's statement (the work); the ties are given (YteakhlfapjaodaaGreatDoorTie.lean); close each card by the builder's one call (the guide's Derived/Test/ToyasCard.lean, 'card_holds'). Laid BY PROGRAM, IN A SANDBOX (cutbox-door.mjs). By AI agents, Wed Nov 11 2026. No macro, syntax, notation, axiom, sorry.
-/
import Derived.Test.YteakhlfapjaodaaGreatDoorRows
import GoSem.ClaimSeven
namespace Go.Proofs.YteakhlfapjaodaaGreatDoor
namespace Rows

/-- THE TIED CARD OF 'cantonlaw13.ShardRuns'. -/
def shardRunsCard : Claim7 := { stood := { row := shardRunsRow, standIns := [], harness := (true, "da42a9d1bc9c293812b3729625ef3243b95bf2ffd826cb751e7fab4e7ea82861"), looks := false }, kinds := [], alts := [], laidByText := true, laidKinds := [.data, .data, .data], laidTests := true, laidLooks := .later }
def ShardRunsCardSaid : Prop := Claim7.holds Tryz.pinned (.plain (OpenSpec.ofChange shardRunsSpec)) shardRunsCard

/-- THE TIED CARD OF 'cantonlaw13.ShardHeld'. -/
def shardHeldCard : Claim7 := { stood := { row := shardHeldRow, standIns := [], harness := (true, "da42a9d1bc9c293812b3729625ef3243b95bf2ffd826cb751e7fab4e7ea82861"), looks := false }, kinds := [], alts := [], laidByText := true, laidKinds := [.data, .data, .data], laidTests := true, laidLooks := .later }
def ShardHeldCardSaid : Prop := Claim7.holds Tryz.pinned (.plain (OpenSpec.ofChange shardHeldSpec)) shardHeldCard

/-- THE TIED CARD OF 'cantonlaw13.ShardMoves'. -/
def shardMovesCard : Claim7 := { stood := { row := shardMovesRow, standIns := [], harness := (true, "da42a9d1bc9c293812b3729625ef3243b95bf2ffd826cb751e7fab4e7ea82861"), looks := false }, kinds := [], alts := [], laidByText := true, laidKinds := [.data, .data, .data], laidTests := true, laidLooks := .later }
def ShardMovesCardSaid : Prop := Claim7.holds Tryz.pinned (.plain (OpenSpec.ofChange shardMovesSpec)) shardMovesCard

/-- THE TIED CARD OF 'cantonlaw13.ShardRight'. -/
def shardRightCard : Claim7 := { stood := { row := shardRightRow, standIns := [], harness := (true, "da42a9d1bc9c293812b3729625ef3243b95bf2ffd826cb751e7fab4e7ea82861"), looks := false }, kinds := [], alts := [], laidByText := true, laidKinds := [.data, .data, .data], laidTests := true, laidLooks := .later }
def ShardRightCardSaid : Prop := Claim7.holds Tryz.pinned (.plain (OpenSpec.ofChange shardRightSpec)) shardRightCard

/-- THE TIED CARD OF 'cantonlaw13.ShardOnce'. -/
def shardOnceCard : Claim7 := { stood := { row := shardOnceRow, standIns := [], harness := (true, "da42a9d1bc9c293812b3729625ef3243b95bf2ffd826cb751e7fab4e7ea82861"), looks := false }, kinds := [], alts := [], laidByText := true, laidKinds := [.data, .data, .data], laidTests := true, laidLooks := .later }
def ShardOnceCardSaid : Prop := Claim7.holds Tryz.pinned (.plain (OpenSpec.ofChange shardOnceSpec)) shardOnceCard

/-- THE SECOND FORM's CARD OF 'cantonlaw13.ShardRuns'. -/
def shardRunsUptoCard : Claim7 := { stood := { row := shardRunsUptoRow, standIns := [], harness := (true, "da42a9d1bc9c293812b3729625ef3243b95bf2ffd826cb751e7fab4e7ea82861"), looks := false }, kinds := [], alts := [], laidByText := true, laidKinds := [.data, .data, .data], laidTests := true, laidLooks := .later }
def ShardRunsUptoCardSaid : Prop := Claim7.holds Tryz.pinned (.plain (OpenSpec.upto shardRunsSpec)) shardRunsUptoCard

/-- THE SECOND FORM's CARD OF 'cantonlaw13.ShardHeld'. -/
def shardHeldUptoCard : Claim7 := { stood := { row := shardHeldUptoRow, standIns := [], harness := (true, "da42a9d1bc9c293812b3729625ef3243b95bf2ffd826cb751e7fab4e7ea82861"), looks := false }, kinds := [], alts := [], laidByText := true, laidKinds := [.data, .data, .data], laidTests := true, laidLooks := .later }
def ShardHeldUptoCardSaid : Prop := Claim7.holds Tryz.pinned (.plain (OpenSpec.upto shardHeldSpec)) shardHeldUptoCard

/-- THE SECOND FORM's CARD OF 'cantonlaw13.ShardMoves'. -/
def shardMovesUptoCard : Claim7 := { stood := { row := shardMovesUptoRow, standIns := [], harness := (true, "da42a9d1bc9c293812b3729625ef3243b95bf2ffd826cb751e7fab4e7ea82861"), looks := false }, kinds := [], alts := [], laidByText := true, laidKinds := [.data, .data, .data], laidTests := true, laidLooks := .later }
def ShardMovesUptoCardSaid : Prop := Claim7.holds Tryz.pinned (.plain (OpenSpec.upto shardMovesSpec)) shardMovesUptoCard

/-- THE SECOND FORM's CARD OF 'cantonlaw13.ShardRight'. -/
def shardRightUptoCard : Claim7 := { stood := { row := shardRightUptoRow, standIns := [], harness := (true, "da42a9d1bc9c293812b3729625ef3243b95bf2ffd826cb751e7fab4e7ea82861"), looks := false }, kinds := [], alts := [], laidByText := true, laidKinds := [.data, .data, .data], laidTests := true, laidLooks := .later }
def ShardRightUptoCardSaid : Prop := Claim7.holds Tryz.pinned (.plain (OpenSpec.upto shardRightSpec)) shardRightUptoCard

/-- THE SECOND FORM's CARD OF 'cantonlaw13.ShardOnce'. -/
def shardOnceUptoCard : Claim7 := { stood := { row := shardOnceUptoRow, standIns := [], harness := (true, "da42a9d1bc9c293812b3729625ef3243b95bf2ffd826cb751e7fab4e7ea82861"), looks := false }, kinds := [], alts := [], laidByText := true, laidKinds := [.data, .data, .data], laidTests := true, laidLooks := .later }
def ShardOnceUptoCardSaid : Prop := Claim7.holds Tryz.pinned (.plain (OpenSpec.upto shardOnceSpec)) shardOnceUptoCard
end Rows
end Go.Proofs.YteakhlfapjaodaaGreatDoor
