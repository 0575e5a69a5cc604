/-
  DERIVED. GIVEN WITH THE SEED: THE CARDS: each row of YtgdfoajophpblaaGreatDoorRows.lean that lists a variable, with what it lists TIED to the program's text (the seventh form; the later family's looks); each row that meets fmt, with fmt's text TOLD by the authors' own Lean function (tested against real Go, not proved from fmt's source: count such statements apart). THE CARD IS WHAT COUNTS. Prove the row's statement (the work); the ties are given (YtgdfoajophpblaaGreatDoorTie.lean); close each card by the builder's one call (the guide's Derived/Test/ToyasCard.lean, 'card_holds'). Laid BY PROGRAM, IN A SANDBOX (cutbox-door.mjs). By AI agents, Wed Nov 11 2026. No macro, syntax, notation, axiom, sorry.
-/
import Derived.Test.YtgdfoajophpblaaGreatDoorRows
import GoSem.ClaimSeven
namespace Go.Proofs.YtgdfoajophpblaaGreatDoor
namespace Rows

/-- THE TIED CARD OF 'cantonlaw08.MultiTells'. -/
def multiTellsCard : Claim7 := { stood := { row := multiTellsRow, standIns := [], harness := (true, "f3919e2ea0a777e168f7d4a744d6cfd609973f42c9815fab069d0cbf9dd6140f"), looks := false }, kinds := [], alts := [], laidByText := true, laidKinds := [.data, .data, .data], laidTests := true, laidLooks := .later }
def MultiTellsCardSaid : Prop := Claim7.holds Tryz.pinned (.plain (OpenSpec.ofChange multiTellsSpec)) multiTellsCard

/-- THE TIED CARD OF 'cantonlaw08.MultiAll'. -/
def multiAllCard : Claim7 := { stood := { row := multiAllRow, standIns := [], harness := (true, "f3919e2ea0a777e168f7d4a744d6cfd609973f42c9815fab069d0cbf9dd6140f"), looks := false }, kinds := [], alts := [], laidByText := true, laidKinds := [.data, .data, .data], laidTests := true, laidLooks := .later }
def MultiAllCardSaid : Prop := Claim7.holds Tryz.pinned (.plain (OpenSpec.ofChange multiAllSpec)) multiAllCard

/-- THE TIED CARD OF 'cantonlaw08.MultiNone'. -/
def multiNoneCard : Claim7 := { stood := { row := multiNoneRow, standIns := [], harness := (true, "f3919e2ea0a777e168f7d4a744d6cfd609973f42c9815fab069d0cbf9dd6140f"), looks := false }, kinds := [], alts := [], laidByText := true, laidKinds := [.data, .data, .data], laidTests := true, laidLooks := .later }
def MultiNoneCardSaid : Prop := Claim7.holds Tryz.pinned (.plain (OpenSpec.ofChange multiNoneSpec)) multiNoneCard

/-- THE TIED CARD OF 'cantonlaw08.MultiOne'. -/
def multiOneCard : Claim7 := { stood := { row := multiOneRow, standIns := [], harness := (true, "f3919e2ea0a777e168f7d4a744d6cfd609973f42c9815fab069d0cbf9dd6140f"), looks := false }, kinds := [], alts := [], laidByText := true, laidKinds := [.data, .data, .data], laidTests := true, laidLooks := .later }
def MultiOneCardSaid : Prop := Claim7.holds Tryz.pinned (.plain (OpenSpec.ofChange multiOneSpec)) multiOneCard

/-- THE TIED CARD OF 'cantonlaw08.MultiPieces'. -/
def multiPiecesCard : Claim7 := { stood := { row := multiPiecesRow, standIns := [], harness := (true, "f3919e2ea0a777e168f7d4a744d6cfd609973f42c9815fab069d0cbf9dd6140f"), looks := false }, kinds := [], alts := [], laidByText := true, laidKinds := [.data, .data, .data], laidTests := true, laidLooks := .later }
def MultiPiecesCardSaid : Prop := Claim7.holds Tryz.pinned (.plain (OpenSpec.ofChange multiPiecesSpec)) multiPiecesCard

/-- THE TIED CARD OF 'cantonlaw07.PartTells'. -/
def partTellsCard : Claim7 := { stood := { row := partTellsRow, standIns := [], harness := (true, "f3919e2ea0a777e168f7d4a744d6cfd609973f42c9815fab069d0cbf9dd6140f"), looks := false }, kinds := [], alts := [], laidByText := true, laidKinds := [.data, .data, .data], laidTests := true, laidLooks := .later }
def PartTellsCardSaid : Prop := Claim7.holds Tryz.pinned (.plain (OpenSpec.ofChange partTellsSpec)) partTellsCard

/-- THE TIED CARD OF 'cantonlaw07.PartSplits'. -/
def partSplitsCard : Claim7 := { stood := { row := partSplitsRow, standIns := [], harness := (true, "f3919e2ea0a777e168f7d4a744d6cfd609973f42c9815fab069d0cbf9dd6140f"), looks := false }, kinds := [], alts := [], laidByText := true, laidKinds := [.data, .data, .data], laidTests := true, laidLooks := .later }
def PartSplitsCardSaid : Prop := Claim7.holds Tryz.pinned (.plain (OpenSpec.ofChange partSplitsSpec)) partSplitsCard

/-- THE TIED CARD OF 'cantonlaw07.PartBack'. -/
def partBackCard : Claim7 := { stood := { row := partBackRow, standIns := [], harness := (true, "f3919e2ea0a777e168f7d4a744d6cfd609973f42c9815fab069d0cbf9dd6140f"), looks := false }, kinds := [], alts := [], laidByText := true, laidKinds := [.data, .data, .data], laidTests := true, laidLooks := .later }
def PartBackCardSaid : Prop := Claim7.holds Tryz.pinned (.plain (OpenSpec.ofChange partBackSpec)) partBackCard

/-- THE TIED CARD OF 'cantonlaw07.PartStill'. -/
def partStillCard : Claim7 := { stood := { row := partStillRow, standIns := [], harness := (true, "f3919e2ea0a777e168f7d4a744d6cfd609973f42c9815fab069d0cbf9dd6140f"), looks := false }, kinds := [], alts := [], laidByText := true, laidKinds := [.data, .data, .data], laidTests := true, laidLooks := .later }
def PartStillCardSaid : Prop := Claim7.holds Tryz.pinned (.plain (OpenSpec.ofChange partStillSpec)) partStillCard

/-- THE TIED CARD OF 'cantonlaw07.PartPuts'. -/
def partPutsCard : Claim7 := { stood := { row := partPutsRow, standIns := [], harness := (true, "f3919e2ea0a777e168f7d4a744d6cfd609973f42c9815fab069d0cbf9dd6140f"), looks := false }, kinds := [], alts := [], laidByText := true, laidKinds := [.data, .data, .data], laidTests := true, laidLooks := .later }
def PartPutsCardSaid : Prop := Claim7.holds Tryz.pinned (.plain (OpenSpec.ofChange partPutsSpec)) partPutsCard

/-- THE TIED CARD OF 'cantonlaw07.PartDirs'. -/
def partDirsCard : Claim7 := { stood := { row := partDirsRow, standIns := [], harness := (true, "f3919e2ea0a777e168f7d4a744d6cfd609973f42c9815fab069d0cbf9dd6140f"), looks := false }, kinds := [], alts := [], laidByText := true, laidKinds := [.data, .data, .data], laidTests := true, laidLooks := .later }
def PartDirsCardSaid : Prop := Claim7.holds Tryz.pinned (.plain (OpenSpec.ofChange partDirsSpec)) partDirsCard

/-- THE SECOND FORM's CARD OF 'cantonlaw08.MultiTells'. -/
def multiTellsUptoCard : Claim7 := { stood := { row := multiTellsUptoRow, standIns := [], harness := (true, "f3919e2ea0a777e168f7d4a744d6cfd609973f42c9815fab069d0cbf9dd6140f"), looks := false }, kinds := [], alts := [], laidByText := true, laidKinds := [.data, .data, .data], laidTests := true, laidLooks := .later }
def MultiTellsUptoCardSaid : Prop := Claim7.holds Tryz.pinned (.plain (OpenSpec.upto multiTellsSpec)) multiTellsUptoCard

/-- THE SECOND FORM's CARD OF 'cantonlaw08.MultiAll'. -/
def multiAllUptoCard : Claim7 := { stood := { row := multiAllUptoRow, standIns := [], harness := (true, "f3919e2ea0a777e168f7d4a744d6cfd609973f42c9815fab069d0cbf9dd6140f"), looks := false }, kinds := [], alts := [], laidByText := true, laidKinds := [.data, .data, .data], laidTests := true, laidLooks := .later }
def MultiAllUptoCardSaid : Prop := Claim7.holds Tryz.pinned (.plain (OpenSpec.upto multiAllSpec)) multiAllUptoCard

/-- THE SECOND FORM's CARD OF 'cantonlaw08.MultiNone'. -/
def multiNoneUptoCard : Claim7 := { stood := { row := multiNoneUptoRow, standIns := [], harness := (true, "f3919e2ea0a777e168f7d4a744d6cfd609973f42c9815fab069d0cbf9dd6140f"), looks := false }, kinds := [], alts := [], laidByText := true, laidKinds := [.data, .data, .data], laidTests := true, laidLooks := .later }
def MultiNoneUptoCardSaid : Prop := Claim7.holds Tryz.pinned (.plain (OpenSpec.upto multiNoneSpec)) multiNoneUptoCard

/-- THE SECOND FORM's CARD OF 'cantonlaw08.MultiOne'. -/
def multiOneUptoCard : Claim7 := { stood := { row := multiOneUptoRow, standIns := [], harness := (true, "f3919e2ea0a777e168f7d4a744d6cfd609973f42c9815fab069d0cbf9dd6140f"), looks := false }, kinds := [], alts := [], laidByText := true, laidKinds := [.data, .data, .data], laidTests := true, laidLooks := .later }
def MultiOneUptoCardSaid : Prop := Claim7.holds Tryz.pinned (.plain (OpenSpec.upto multiOneSpec)) multiOneUptoCard

/-- THE SECOND FORM's CARD OF 'cantonlaw08.MultiPieces'. -/
def multiPiecesUptoCard : Claim7 := { stood := { row := multiPiecesUptoRow, standIns := [], harness := (true, "f3919e2ea0a777e168f7d4a744d6cfd609973f42c9815fab069d0cbf9dd6140f"), looks := false }, kinds := [], alts := [], laidByText := true, laidKinds := [.data, .data, .data], laidTests := true, laidLooks := .later }
def MultiPiecesUptoCardSaid : Prop := Claim7.holds Tryz.pinned (.plain (OpenSpec.upto multiPiecesSpec)) multiPiecesUptoCard

/-- THE SECOND FORM's CARD OF 'cantonlaw07.PartTells'. -/
def partTellsUptoCard : Claim7 := { stood := { row := partTellsUptoRow, standIns := [], harness := (true, "f3919e2ea0a777e168f7d4a744d6cfd609973f42c9815fab069d0cbf9dd6140f"), looks := false }, kinds := [], alts := [], laidByText := true, laidKinds := [.data, .data, .data], laidTests := true, laidLooks := .later }
def PartTellsUptoCardSaid : Prop := Claim7.holds Tryz.pinned (.plain (OpenSpec.upto partTellsSpec)) partTellsUptoCard

/-- THE SECOND FORM's CARD OF 'cantonlaw07.PartSplits'. -/
def partSplitsUptoCard : Claim7 := { stood := { row := partSplitsUptoRow, standIns := [], harness := (true, "f3919e2ea0a777e168f7d4a744d6cfd609973f42c9815fab069d0cbf9dd6140f"), looks := false }, kinds := [], alts := [], laidByText := true, laidKinds := [.data, .data, .data], laidTests := true, laidLooks := .later }
def PartSplitsUptoCardSaid : Prop := Claim7.holds Tryz.pinned (.plain (OpenSpec.upto partSplitsSpec)) partSplitsUptoCard

/-- THE SECOND FORM's CARD OF 'cantonlaw07.PartBack'. -/
def partBackUptoCard : Claim7 := { stood := { row := partBackUptoRow, standIns := [], harness := (true, "f3919e2ea0a777e168f7d4a744d6cfd609973f42c9815fab069d0cbf9dd6140f"), looks := false }, kinds := [], alts := [], laidByText := true, laidKinds := [.data, .data, .data], laidTests := true, laidLooks := .later }
def PartBackUptoCardSaid : Prop := Claim7.holds Tryz.pinned (.plain (OpenSpec.upto partBackSpec)) partBackUptoCard

/-- THE SECOND FORM's CARD OF 'cantonlaw07.PartStill'. -/
def partStillUptoCard : Claim7 := { stood := { row := partStillUptoRow, standIns := [], harness := (true, "f3919e2ea0a777e168f7d4a744d6cfd609973f42c9815fab069d0cbf9dd6140f"), looks := false }, kinds := [], alts := [], laidByText := true, laidKinds := [.data, .data, .data], laidTests := true, laidLooks := .later }
def PartStillUptoCardSaid : Prop := Claim7.holds Tryz.pinned (.plain (OpenSpec.upto partStillSpec)) partStillUptoCard

/-- THE SECOND FORM's CARD OF 'cantonlaw07.PartPuts'. -/
def partPutsUptoCard : Claim7 := { stood := { row := partPutsUptoRow, standIns := [], harness := (true, "f3919e2ea0a777e168f7d4a744d6cfd609973f42c9815fab069d0cbf9dd6140f"), looks := false }, kinds := [], alts := [], laidByText := true, laidKinds := [.data, .data, .data], laidTests := true, laidLooks := .later }
def PartPutsUptoCardSaid : Prop := Claim7.holds Tryz.pinned (.plain (OpenSpec.upto partPutsSpec)) partPutsUptoCard

/-- THE SECOND FORM's CARD OF 'cantonlaw07.PartDirs'. -/
def partDirsUptoCard : Claim7 := { stood := { row := partDirsUptoRow, standIns := [], harness := (true, "f3919e2ea0a777e168f7d4a744d6cfd609973f42c9815fab069d0cbf9dd6140f"), looks := false }, kinds := [], alts := [], laidByText := true, laidKinds := [.data, .data, .data], laidTests := true, laidLooks := .later }
def PartDirsUptoCardSaid : Prop := Claim7.holds Tryz.pinned (.plain (OpenSpec.upto partDirsSpec)) partDirsUptoCard
end Rows
end Go.Proofs.YtgdfoajophpblaaGreatDoor
