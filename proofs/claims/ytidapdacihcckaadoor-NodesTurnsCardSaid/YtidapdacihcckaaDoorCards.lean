/-
  DERIVED. GIVEN WITH THE SEED: THE CARDS: each row of YtidapdacihcckaaDoorRows.lean that lists a variable, with what it lists TIED to the program's text (the seventh form; the later family's looks); each row that meets fmt, with fmt's text TOLD by the authors' own Lean function (tested against real Go, not proved from fmt's source: count such statements apart). THE CARD IS WHAT COUNTS. Prove the row's statement (the work); the ties are given (YtidapdacihcckaaDoorTie.lean); close each card by the builder's one call (the guide's Derived/Test/ToyasCard.lean, 'card_holds'). Laid BY PROGRAM, IN A SANDBOX (cutbox-door.mjs). By AI agents, Wed Nov 11 2026. No macro, syntax, notation, axiom, sorry.
-/
import Derived.Test.YtidapdacihcckaaDoorRows
import GoSem.ClaimSeven
namespace Go.Proofs.YtidapdacihcckaaDoor
namespace Rows

/-- THE TIED CARD OF 'cantonlaw06.NodesTree'. -/
def nodesTreeCard : Claim7 := { stood := { row := nodesTreeRow, standIns := [], harness := (true, "dd59aed65b1fcea1b13a2e11f0f6825f5795f01d617c47256c00544f94f2d4ca"), looks := false }, kinds := [], alts := [], laidByText := true, laidKinds := [.data, .data, .data], laidTests := true, laidLooks := .later }
def NodesTreeCardSaid : Prop := Claim7.holds Tryd.pinned (.plain (OpenSpec.ofChange nodesTreeSpec)) nodesTreeCard

/-- THE TIED CARD OF 'cantonlaw06.NodesStill'. -/
def nodesStillCard : Claim7 := { stood := { row := nodesStillRow, standIns := [], harness := (true, "dd59aed65b1fcea1b13a2e11f0f6825f5795f01d617c47256c00544f94f2d4ca"), looks := false }, kinds := [], alts := [], laidByText := true, laidKinds := [.data, .data, .data], laidTests := true, laidLooks := .later }
def NodesStillCardSaid : Prop := Claim7.holds Tryd.pinned (.plain (OpenSpec.ofChange nodesStillSpec)) nodesStillCard

/-- THE TIED CARD OF 'cantonlaw06.NodesBoth'. -/
def nodesBothCard : Claim7 := { stood := { row := nodesBothRow, standIns := [], harness := (true, "dd59aed65b1fcea1b13a2e11f0f6825f5795f01d617c47256c00544f94f2d4ca"), looks := false }, kinds := [], alts := [], laidByText := true, laidKinds := [.data, .data, .data], laidTests := true, laidLooks := .later }
def NodesBothCardSaid : Prop := Claim7.holds Tryd.pinned (.plain (OpenSpec.ofChange nodesBothSpec)) nodesBothCard

/-- THE TIED CARD OF 'cantonlaw06.NodesTurns'. -/
def nodesTurnsCard : Claim7 := { stood := { row := nodesTurnsRow, standIns := [], harness := (true, "dd59aed65b1fcea1b13a2e11f0f6825f5795f01d617c47256c00544f94f2d4ca"), looks := false }, kinds := [], alts := [], laidByText := true, laidKinds := [.data, .data, .data], laidTests := true, laidLooks := .later }
def NodesTurnsCardSaid : Prop := Claim7.holds Tryd.pinned (.plain (OpenSpec.ofChange nodesTurnsSpec)) nodesTurnsCard

/-- THE TIED CARD OF 'cantonlaw06.NodesSweeps'. -/
def nodesSweepsCard : Claim7 := { stood := { row := nodesSweepsRow, standIns := [], harness := (true, "dd59aed65b1fcea1b13a2e11f0f6825f5795f01d617c47256c00544f94f2d4ca"), looks := false }, kinds := [], alts := [], laidByText := true, laidKinds := [.data, .data, .data], laidTests := true, laidLooks := .later }
def NodesSweepsCardSaid : Prop := Claim7.holds Tryd.pinned (.plain (OpenSpec.ofChange nodesSweepsSpec)) nodesSweepsCard

/-- THE TIED CARD OF 'cantonlaw06.NodesNames'. -/
def nodesNamesCard : Claim7 := { stood := { row := nodesNamesRow, standIns := [], harness := (true, "dd59aed65b1fcea1b13a2e11f0f6825f5795f01d617c47256c00544f94f2d4ca"), looks := false }, kinds := [], alts := [], laidByText := true, laidKinds := [.data, .data, .data], laidTests := true, laidLooks := .later }
def NodesNamesCardSaid : Prop := Claim7.holds Tryd.pinned (.plain (OpenSpec.ofChange nodesNamesSpec)) nodesNamesCard

/-- THE TIED CARD OF 'cantonlaw06.NodesVersions'. -/
def nodesVersionsCard : Claim7 := { stood := { row := nodesVersionsRow, standIns := [], harness := (true, "dd59aed65b1fcea1b13a2e11f0f6825f5795f01d617c47256c00544f94f2d4ca"), looks := false }, kinds := [], alts := [], laidByText := true, laidKinds := [.data, .data, .data], laidTests := true, laidLooks := .later }
def NodesVersionsCardSaid : Prop := Claim7.holds Tryd.pinned (.plain (OpenSpec.ofChange nodesVersionsSpec)) nodesVersionsCard

/-- THE SECOND FORM's CARD OF 'cantonlaw06.NodesTree'. -/
def nodesTreeUptoCard : Claim7 := { stood := { row := nodesTreeUptoRow, standIns := [], harness := (true, "dd59aed65b1fcea1b13a2e11f0f6825f5795f01d617c47256c00544f94f2d4ca"), looks := false }, kinds := [], alts := [], laidByText := true, laidKinds := [.data, .data, .data], laidTests := true, laidLooks := .later }
def NodesTreeUptoCardSaid : Prop := Claim7.holds Tryd.pinned (.plain (OpenSpec.upto nodesTreeSpec)) nodesTreeUptoCard

/-- THE SECOND FORM's CARD OF 'cantonlaw06.NodesStill'. -/
def nodesStillUptoCard : Claim7 := { stood := { row := nodesStillUptoRow, standIns := [], harness := (true, "dd59aed65b1fcea1b13a2e11f0f6825f5795f01d617c47256c00544f94f2d4ca"), looks := false }, kinds := [], alts := [], laidByText := true, laidKinds := [.data, .data, .data], laidTests := true, laidLooks := .later }
def NodesStillUptoCardSaid : Prop := Claim7.holds Tryd.pinned (.plain (OpenSpec.upto nodesStillSpec)) nodesStillUptoCard

/-- THE SECOND FORM's CARD OF 'cantonlaw06.NodesBoth'. -/
def nodesBothUptoCard : Claim7 := { stood := { row := nodesBothUptoRow, standIns := [], harness := (true, "dd59aed65b1fcea1b13a2e11f0f6825f5795f01d617c47256c00544f94f2d4ca"), looks := false }, kinds := [], alts := [], laidByText := true, laidKinds := [.data, .data, .data], laidTests := true, laidLooks := .later }
def NodesBothUptoCardSaid : Prop := Claim7.holds Tryd.pinned (.plain (OpenSpec.upto nodesBothSpec)) nodesBothUptoCard

/-- THE SECOND FORM's CARD OF 'cantonlaw06.NodesTurns'. -/
def nodesTurnsUptoCard : Claim7 := { stood := { row := nodesTurnsUptoRow, standIns := [], harness := (true, "dd59aed65b1fcea1b13a2e11f0f6825f5795f01d617c47256c00544f94f2d4ca"), looks := false }, kinds := [], alts := [], laidByText := true, laidKinds := [.data, .data, .data], laidTests := true, laidLooks := .later }
def NodesTurnsUptoCardSaid : Prop := Claim7.holds Tryd.pinned (.plain (OpenSpec.upto nodesTurnsSpec)) nodesTurnsUptoCard

/-- THE SECOND FORM's CARD OF 'cantonlaw06.NodesSweeps'. -/
def nodesSweepsUptoCard : Claim7 := { stood := { row := nodesSweepsUptoRow, standIns := [], harness := (true, "dd59aed65b1fcea1b13a2e11f0f6825f5795f01d617c47256c00544f94f2d4ca"), looks := false }, kinds := [], alts := [], laidByText := true, laidKinds := [.data, .data, .data], laidTests := true, laidLooks := .later }
def NodesSweepsUptoCardSaid : Prop := Claim7.holds Tryd.pinned (.plain (OpenSpec.upto nodesSweepsSpec)) nodesSweepsUptoCard

/-- THE SECOND FORM's CARD OF 'cantonlaw06.NodesNames'. -/
def nodesNamesUptoCard : Claim7 := { stood := { row := nodesNamesUptoRow, standIns := [], harness := (true, "dd59aed65b1fcea1b13a2e11f0f6825f5795f01d617c47256c00544f94f2d4ca"), looks := false }, kinds := [], alts := [], laidByText := true, laidKinds := [.data, .data, .data], laidTests := true, laidLooks := .later }
def NodesNamesUptoCardSaid : Prop := Claim7.holds Tryd.pinned (.plain (OpenSpec.upto nodesNamesSpec)) nodesNamesUptoCard

/-- THE SECOND FORM's CARD OF 'cantonlaw06.NodesVersions'. -/
def nodesVersionsUptoCard : Claim7 := { stood := { row := nodesVersionsUptoRow, standIns := [], harness := (true, "dd59aed65b1fcea1b13a2e11f0f6825f5795f01d617c47256c00544f94f2d4ca"), looks := false }, kinds := [], alts := [], laidByText := true, laidKinds := [.data, .data, .data], laidTests := true, laidLooks := .later }
def NodesVersionsUptoCardSaid : Prop := Claim7.holds Tryd.pinned (.plain (OpenSpec.upto nodesVersionsSpec)) nodesVersionsUptoCard
end Rows
end Go.Proofs.YtidapdacihcckaaDoor
