/-
  No cell of these rows narrows 'for every input' (looked for: loops, veiled, ifaces, maps, wideKeys, modest, calm, conditions, laid).
  DERIVED. THE GIVEN ROWS OF THIS SEAT. 6 by the template 'for every input the law returns true; each argument reads behind the call as it read before'; 0 by the template 'total and deterministic' (their statements: YtlocfgonplkcoaaTotals.lean).
  GIVEN WITH THE SEED: the statements are not yours to turn. If you find one false, say at which input.
  Laid BY PROGRAM, IN A SANDBOX (cutbox-rows.mjs): the forced cells as the released guide's own fill.sh prints them over the translation b0f5ad6056bcba2e… (all of the seat's roots in one cut). By AI agents, Wed Nov 11 2026. No macro, syntax, notation, axiom, sorry.
-/
import Derived.Test.YtlocfgonplkcoaaChecked
import GoSem.Claim
import GoSem.ClaimJoined
import GoSem.ClaimMapViews
import Derived.JoinedTies
import Derived.KernelRfl
namespace Go.Proofs.Ytlocfgonplkcoaa
/- THE CELL 'sum', in the pinned program and in every row, IS THE sha256 OF THE DUMP (.gsa) THAT YtlocfgonplkcoaaProg.lean LOADS. Nothing in Lean hashes anything: it is a label: what it is worth is what the hold of that sum in a sandbox is worth. -/
noncomputable def Try.pinned : Pinned := { name := "ytlocfgonplkcoaa", sum := "b0f5ad6056bcba2ef29296bb4bdcc5fb53d41a598fd5f0f215035ca10defedbe", checked := Try.checked }
namespace Rows
def none {H : Type} : Left H := { results := [], args := [] }

/-- 'cantonlaw17.LetterTells': WHATEVER THE INPUT: true; the input reads as it did. -/
def letterTellsSpec : ChangeSpec := { name := "letterTells", fn := fun _ => fun
  | [d1, d2, d3] => { results := [.lit (.bool true)], args := [d1, d2, d3] }
  | _ => none }
def letterTellsRow : OpenClaim := { program := "ytlocfgonplkcoaa", sum := "b0f5ad6056bcba2ef29296bb4bdcc5fb53d41a598fd5f0f215035ca10defedbe", func := "canton/cantonlaw17.LetterTells", spec := "letterTells", unfollowed := true, recurses := true, apart := false }
def LetterTellsSaid : Prop := letterTellsRow.holds Try.pinned (OpenSpec.ofChange letterTellsSpec)

/-- ITS FALSE NEIGHBOUR: 'it returns false'. Refute it at one input. -/
def letterTellsWrong : ChangeSpec := { name := "letterTells", fn := fun _ => fun
  | [d1, d2, d3] => { results := [.lit (.bool false)], args := [d1, d2, d3] }
  | _ => none }
def LetterTellsWrongFalsely : Prop := letterTellsRow.holds Try.pinned (OpenSpec.ofChange letterTellsWrong)

/-- 'cantonlaw17.LetterAnswers': WHATEVER THE INPUT: true; the input reads as it did. -/
def letterAnswersSpec : ChangeSpec := { name := "letterAnswers", fn := fun _ => fun
  | [d1, d2] => { results := [.lit (.bool true)], args := [d1, d2] }
  | _ => none }
def letterAnswersRow : OpenClaim := { program := "ytlocfgonplkcoaa", sum := "b0f5ad6056bcba2ef29296bb4bdcc5fb53d41a598fd5f0f215035ca10defedbe", func := "canton/cantonlaw17.LetterAnswers", spec := "letterAnswers", unfollowed := true, recurses := true, apart := false }
def LetterAnswersSaid : Prop := letterAnswersRow.holds Try.pinned (OpenSpec.ofChange letterAnswersSpec)

/-- ITS FALSE NEIGHBOUR: 'it returns false'. Refute it at one input. -/
def letterAnswersWrong : ChangeSpec := { name := "letterAnswers", fn := fun _ => fun
  | [d1, d2] => { results := [.lit (.bool false)], args := [d1, d2] }
  | _ => none }
def LetterAnswersWrongFalsely : Prop := letterAnswersRow.holds Try.pinned (OpenSpec.ofChange letterAnswersWrong)

/-- 'cantonlaw17.LetterBack': WHATEVER THE INPUT: true; the input reads as it did. -/
def letterBackSpec : ChangeSpec := { name := "letterBack", fn := fun _ => fun
  | [d1, d2, d3] => { results := [.lit (.bool true)], args := [d1, d2, d3] }
  | _ => none }
def letterBackRow : OpenClaim := { program := "ytlocfgonplkcoaa", sum := "b0f5ad6056bcba2ef29296bb4bdcc5fb53d41a598fd5f0f215035ca10defedbe", func := "canton/cantonlaw17.LetterBack", spec := "letterBack", unfollowed := true, recurses := true, apart := false }
def LetterBackSaid : Prop := letterBackRow.holds Try.pinned (OpenSpec.ofChange letterBackSpec)

/-- ITS FALSE NEIGHBOUR: 'it returns false'. Refute it at one input. -/
def letterBackWrong : ChangeSpec := { name := "letterBack", fn := fun _ => fun
  | [d1, d2, d3] => { results := [.lit (.bool false)], args := [d1, d2, d3] }
  | _ => none }
def LetterBackWrongFalsely : Prop := letterBackRow.holds Try.pinned (OpenSpec.ofChange letterBackWrong)

/-- 'cantonlaw17.LetterWhole': WHATEVER THE INPUT: true; the input reads as it did. -/
def letterWholeSpec : ChangeSpec := { name := "letterWhole", fn := fun _ => fun
  | [d1, d2, d3, d4] => { results := [.lit (.bool true)], args := [d1, d2, d3, d4] }
  | _ => none }
def letterWholeRow : OpenClaim := { program := "ytlocfgonplkcoaa", sum := "b0f5ad6056bcba2ef29296bb4bdcc5fb53d41a598fd5f0f215035ca10defedbe", func := "canton/cantonlaw17.LetterWhole", spec := "letterWhole", unfollowed := true, recurses := true, apart := false }
def LetterWholeSaid : Prop := letterWholeRow.holds Try.pinned (OpenSpec.ofChange letterWholeSpec)

/-- ITS FALSE NEIGHBOUR: 'it returns false'. Refute it at one input. -/
def letterWholeWrong : ChangeSpec := { name := "letterWhole", fn := fun _ => fun
  | [d1, d2, d3, d4] => { results := [.lit (.bool false)], args := [d1, d2, d3, d4] }
  | _ => none }
def LetterWholeWrongFalsely : Prop := letterWholeRow.holds Try.pinned (OpenSpec.ofChange letterWholeWrong)

/-- 'cantonlaw17.LetterCut': WHATEVER THE INPUT: true; the input reads as it did. -/
def letterCutSpec : ChangeSpec := { name := "letterCut", fn := fun _ => fun
  | [d1, d2, d3, d4, d5] => { results := [.lit (.bool true)], args := [d1, d2, d3, d4, d5] }
  | _ => none }
def letterCutRow : OpenClaim := { program := "ytlocfgonplkcoaa", sum := "b0f5ad6056bcba2ef29296bb4bdcc5fb53d41a598fd5f0f215035ca10defedbe", func := "canton/cantonlaw17.LetterCut", spec := "letterCut", unfollowed := true, recurses := true, apart := false }
def LetterCutSaid : Prop := letterCutRow.holds Try.pinned (OpenSpec.ofChange letterCutSpec)

/-- ITS FALSE NEIGHBOUR: 'it returns false'. Refute it at one input. -/
def letterCutWrong : ChangeSpec := { name := "letterCut", fn := fun _ => fun
  | [d1, d2, d3, d4, d5] => { results := [.lit (.bool false)], args := [d1, d2, d3, d4, d5] }
  | _ => none }
def LetterCutWrongFalsely : Prop := letterCutRow.holds Try.pinned (OpenSpec.ofChange letterCutWrong)

/-- 'cantonlaw17.LetterMay': WHATEVER THE INPUT: true; the input reads as it did. -/
def letterMaySpec : ChangeSpec := { name := "letterMay", fn := fun _ => fun
  | [d1, d2] => { results := [.lit (.bool true)], args := [d1, d2] }
  | _ => none }
def letterMayRow : OpenClaim := { program := "ytlocfgonplkcoaa", sum := "b0f5ad6056bcba2ef29296bb4bdcc5fb53d41a598fd5f0f215035ca10defedbe", func := "canton/cantonlaw17.LetterMay", spec := "letterMay", unfollowed := true, recurses := true, apart := false }
def LetterMaySaid : Prop := letterMayRow.holds Try.pinned (OpenSpec.ofChange letterMaySpec)

/-- ITS FALSE NEIGHBOUR: 'it returns false'. Refute it at one input. -/
def letterMayWrong : ChangeSpec := { name := "letterMay", fn := fun _ => fun
  | [d1, d2] => { results := [.lit (.bool false)], args := [d1, d2] }
  | _ => none }
def LetterMayWrongFalsely : Prop := letterMayRow.holds Try.pinned (OpenSpec.ofChange letterMayWrong)

/- THE SECOND FORM. 'bulk': how many values and letters a reading holds, each counted each time it is reached (what is shared counts as often as it is met; a slice's spare places count too). A statement '..UptoSaid' is the law's where the arguments, and the package variables that the reading takes, are together of bulk at most 1048576: NARROWER than '..Said'. Prove '..Said' where nothing that the law and all that it calls make is longer than what came in: it says more and counts as full. Else prove '..UptoSaid'. A law counts once. -/
mutual
def uptoBulk {H : Type} : DataW H → Nat
  | .lit (.string bytes) => bytes.length + 1
  | .lit _ => 1
  | .nil => 1
  | .ptr d => uptoBulk d + 1
  | .slice elems spare => uptoBulkAll elems + uptoBulkAll spare + 1
  | .agg parts => uptoBulkAll parts + 1
  | .iface _ d => uptoBulk d + 1
  | .map entries => uptoBulkEntries entries + 1
  | .held _ => 1
def uptoBulkAll {H : Type} : List (DataW H) → Nat
  | [] => 0
  | d :: r => uptoBulk d + uptoBulkAll r
def uptoBulkEntries {H : Type} : List (Lit × DataW H) → Nat
  | [] => 0
  | x :: r => uptoBulkEntry x + uptoBulkEntries r
def uptoBulkEntry {H : Type} : Lit × DataW H → Nat
  | (.string bytes, d) => bytes.length + uptoBulk d + 1
  | (_, d) => uptoBulk d + 1
 end
def uptoSmall : (H : Type) → List (DataW H) → Bool := fun _ ds => decide (uptoBulkAll ds ≤ 1048576)
def OpenSpec.upto (s : _root_.Go.ChangeSpec) : _root_.Go.OpenSpec := { _root_.Go.OpenSpec.ofChange s with cond := some uptoSmall }

/-- 'cantonlaw17.LetterTells', WHERE WHAT IT READS IS OF BULK AT MOST 1048576: true; the input reads as it did. -/
def letterTellsUptoRow : OpenClaim := { program := "ytlocfgonplkcoaa", sum := "b0f5ad6056bcba2ef29296bb4bdcc5fb53d41a598fd5f0f215035ca10defedbe", func := "canton/cantonlaw17.LetterTells", spec := "letterTells", unfollowed := true, recurses := true, apart := false, narrowed := true }
def LetterTellsUptoSaid : Prop := letterTellsUptoRow.holds Try.pinned (OpenSpec.upto letterTellsSpec)

/-- 'cantonlaw17.LetterAnswers', WHERE WHAT IT READS IS OF BULK AT MOST 1048576: true; the input reads as it did. -/
def letterAnswersUptoRow : OpenClaim := { program := "ytlocfgonplkcoaa", sum := "b0f5ad6056bcba2ef29296bb4bdcc5fb53d41a598fd5f0f215035ca10defedbe", func := "canton/cantonlaw17.LetterAnswers", spec := "letterAnswers", unfollowed := true, recurses := true, apart := false, narrowed := true }
def LetterAnswersUptoSaid : Prop := letterAnswersUptoRow.holds Try.pinned (OpenSpec.upto letterAnswersSpec)

/-- 'cantonlaw17.LetterBack', WHERE WHAT IT READS IS OF BULK AT MOST 1048576: true; the input reads as it did. -/
def letterBackUptoRow : OpenClaim := { program := "ytlocfgonplkcoaa", sum := "b0f5ad6056bcba2ef29296bb4bdcc5fb53d41a598fd5f0f215035ca10defedbe", func := "canton/cantonlaw17.LetterBack", spec := "letterBack", unfollowed := true, recurses := true, apart := false, narrowed := true }
def LetterBackUptoSaid : Prop := letterBackUptoRow.holds Try.pinned (OpenSpec.upto letterBackSpec)

/-- 'cantonlaw17.LetterWhole', WHERE WHAT IT READS IS OF BULK AT MOST 1048576: true; the input reads as it did. -/
def letterWholeUptoRow : OpenClaim := { program := "ytlocfgonplkcoaa", sum := "b0f5ad6056bcba2ef29296bb4bdcc5fb53d41a598fd5f0f215035ca10defedbe", func := "canton/cantonlaw17.LetterWhole", spec := "letterWhole", unfollowed := true, recurses := true, apart := false, narrowed := true }
def LetterWholeUptoSaid : Prop := letterWholeUptoRow.holds Try.pinned (OpenSpec.upto letterWholeSpec)

/-- 'cantonlaw17.LetterCut', WHERE WHAT IT READS IS OF BULK AT MOST 1048576: true; the input reads as it did. -/
def letterCutUptoRow : OpenClaim := { program := "ytlocfgonplkcoaa", sum := "b0f5ad6056bcba2ef29296bb4bdcc5fb53d41a598fd5f0f215035ca10defedbe", func := "canton/cantonlaw17.LetterCut", spec := "letterCut", unfollowed := true, recurses := true, apart := false, narrowed := true }
def LetterCutUptoSaid : Prop := letterCutUptoRow.holds Try.pinned (OpenSpec.upto letterCutSpec)

/-- 'cantonlaw17.LetterMay', WHERE WHAT IT READS IS OF BULK AT MOST 1048576: true; the input reads as it did. -/
def letterMayUptoRow : OpenClaim := { program := "ytlocfgonplkcoaa", sum := "b0f5ad6056bcba2ef29296bb4bdcc5fb53d41a598fd5f0f215035ca10defedbe", func := "canton/cantonlaw17.LetterMay", spec := "letterMay", unfollowed := true, recurses := true, apart := false, narrowed := true }
def LetterMayUptoSaid : Prop := letterMayUptoRow.holds Try.pinned (OpenSpec.upto letterMaySpec)

end Rows
end Go.Proofs.Ytlocfgonplkcoaa
