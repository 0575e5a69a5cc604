/-
  DERIVED. GIVEN WITH THE SEED: THE CARDS: each row of YtpbgbliikifjjaaGreatDoorRows.lean that lists a variable, with what it lists TIED to the program's text (the seventh form; the later family's looks); each row that meets fmt, with fmt's text TOLD by the authors' own Lean function (tested against real Go, not proved from fmt's source: count such statements apart). THE CARD IS WHAT COUNTS. Prove the row's statement (the work); the ties are given (YtpbgbliikifjjaaGreatDoorTie.lean); close each card by the builder's one call (the guide's Derived/Test/ToyasCard.lean, 'card_holds'). Laid BY PROGRAM, IN A SANDBOX (cutbox-door.mjs). By AI agents, Wed Nov 11 2026. No macro, syntax, notation, axiom, sorry.
-/
import Derived.Test.YtpbgbliikifjjaaGreatDoorRows
import GoSem.ClaimSeven
namespace Go.Proofs.YtpbgbliikifjjaaGreatDoor
namespace Rows

/-- THE TIED CARD OF 'cantonlaw13.ShardRuns'. -/
def shardRunsCard : Claim7 := { stood := { row := shardRunsRow, standIns := [], harness := (true, "34fd1bf5b41da56c9aabd9c06c66e103b895e910d8e1121a49763afe95df31e3"), looks := false }, kinds := [], alts := [], laidByText := true, laidKinds := [.data, .data, .data], laidTests := true, laidLooks := .later }
def ShardRunsCardSaid : Prop := Claim7.holds Tryz.pinned (.plain (OpenSpec.ofChange shardRunsSpec)) shardRunsCard

/-- THE TIED CARD OF 'cantonlaw13.ShardDecides'. -/
def shardDecidesCard : Claim7 := { stood := { row := shardDecidesRow, standIns := [], harness := (true, "34fd1bf5b41da56c9aabd9c06c66e103b895e910d8e1121a49763afe95df31e3"), looks := false }, kinds := [], alts := [], laidByText := true, laidKinds := [.data, .data, .data], laidTests := true, laidLooks := .later }
def ShardDecidesCardSaid : Prop := Claim7.holds Tryz.pinned (.plain (OpenSpec.ofChange shardDecidesSpec)) shardDecidesCard

/-- THE TIED CARD OF 'cantonlaw13.ShardLate'. -/
def shardLateCard : Claim7 := { stood := { row := shardLateRow, standIns := [], harness := (true, "34fd1bf5b41da56c9aabd9c06c66e103b895e910d8e1121a49763afe95df31e3"), looks := false }, kinds := [], alts := [], laidByText := true, laidKinds := [.data, .data, .data], laidTests := true, laidLooks := .later }
def ShardLateCardSaid : Prop := Claim7.holds Tryz.pinned (.plain (OpenSpec.ofChange shardLateSpec)) shardLateCard

/-- THE SECOND FORM's CARD OF 'cantonlaw13.ShardRuns'. -/
def shardRunsUptoCard : Claim7 := { stood := { row := shardRunsUptoRow, standIns := [], harness := (true, "34fd1bf5b41da56c9aabd9c06c66e103b895e910d8e1121a49763afe95df31e3"), looks := false }, kinds := [], alts := [], laidByText := true, laidKinds := [.data, .data, .data], laidTests := true, laidLooks := .later }
def ShardRunsUptoCardSaid : Prop := Claim7.holds Tryz.pinned (.plain (OpenSpec.upto shardRunsSpec)) shardRunsUptoCard

/-- THE SECOND FORM's CARD OF 'cantonlaw13.ShardDecides'. -/
def shardDecidesUptoCard : Claim7 := { stood := { row := shardDecidesUptoRow, standIns := [], harness := (true, "34fd1bf5b41da56c9aabd9c06c66e103b895e910d8e1121a49763afe95df31e3"), looks := false }, kinds := [], alts := [], laidByText := true, laidKinds := [.data, .data, .data], laidTests := true, laidLooks := .later }
def ShardDecidesUptoCardSaid : Prop := Claim7.holds Tryz.pinned (.plain (OpenSpec.upto shardDecidesSpec)) shardDecidesUptoCard

/-- THE SECOND FORM's CARD OF 'cantonlaw13.ShardLate'. -/
def shardLateUptoCard : Claim7 := { stood := { row := shardLateUptoRow, standIns := [], harness := (true, "34fd1bf5b41da56c9aabd9c06c66e103b895e910d8e1121a49763afe95df31e3"), looks := false }, kinds := [], alts := [], laidByText := true, laidKinds := [.data, .data, .data], laidTests := true, laidLooks := .later }
def ShardLateUptoCardSaid : Prop := Claim7.holds Tryz.pinned (.plain (OpenSpec.upto shardLateSpec)) shardLateUptoCard
end Rows
end Go.Proofs.YtpbgbliikifjjaaGreatDoor
