/-
  No cell of these rows narrows 'for every input' (looked for: loops, veiled, ifaces, maps, wideKeys, modest, calm, conditions, laid).
  DERIVED. THE GIVEN ROWS OF THIS SEAT. 11 by the template 'for every input the law returns true; each argument reads behind the call as it read before'; 0 by the template 'total and deterministic' (their statements: YtbjpjbopfhbkmaaTotals.lean).
  GIVEN WITH THE SEED: the statements are not yours to turn. If you find one false, say at which input.
  Laid BY PROGRAM, IN A SANDBOX (cutbox-rows.mjs): the forced cells as the released guide's own fill.sh prints them over the translation 04a4e92092612ece… (all of the seat's roots in one cut). By AI agents, Wed Nov 11 2026. No macro, syntax, notation, axiom, sorry.
-/
import Derived.Test.YtbjpjbopfhbkmaaChecked
import GoSem.Claim
import GoSem.ClaimJoined
import GoSem.ClaimMapViews
import Derived.JoinedTies
import Derived.KernelRfl
namespace Go.Proofs.Ytbjpjbopfhbkmaa
/- THE CELL 'sum', in the pinned program and in every row, IS THE sha256 OF THE DUMP (.gsa) THAT YtbjpjbopfhbkmaaProg.lean LOADS. Nothing in Lean hashes anything: it is a label: what it is worth is what the hold of that sum in a sandbox is worth. -/
noncomputable def Try.pinned : Pinned := { name := "ytbjpjbopfhbkmaa", sum := "04a4e92092612ece943276b554c9651e5808eb6df8cf242ded2b60defe04ea88", checked := Try.checked }
namespace Rows
def none {H : Type} : Left H := { results := [], args := [] }

/-- 'cantonlaw19.PostPlays': WHATEVER THE INPUT: true; the input reads as it did. -/
def postPlaysSpec : ChangeSpec := { name := "postPlays", fn := fun _ => fun
  | [d] => { results := [.lit (.bool true)], args := [d] }
  | _ => none }
def postPlaysRow : OpenClaim := { program := "ytbjpjbopfhbkmaa", sum := "04a4e92092612ece943276b554c9651e5808eb6df8cf242ded2b60defe04ea88", func := "canton/cantonlaw19.PostPlays", spec := "postPlays", unfollowed := true, recurses := true, apart := false }
def PostPlaysSaid : Prop := postPlaysRow.holds Try.pinned (OpenSpec.ofChange postPlaysSpec)

/-- ITS FALSE NEIGHBOUR: 'it returns false'. Refute it at one input. -/
def postPlaysWrong : ChangeSpec := { name := "postPlays", fn := fun _ => fun
  | [d] => { results := [.lit (.bool false)], args := [d] }
  | _ => none }
def PostPlaysWrongFalsely : Prop := postPlaysRow.holds Try.pinned (OpenSpec.ofChange postPlaysWrong)

/-- 'cantonlaw19.PostKeeps': WHATEVER THE INPUT: true; the input reads as it did. -/
def postKeepsSpec : ChangeSpec := { name := "postKeeps", fn := fun _ => fun
  | [d1, d2, d3] => { results := [.lit (.bool true)], args := [d1, d2, d3] }
  | _ => none }
def postKeepsRow : OpenClaim := { program := "ytbjpjbopfhbkmaa", sum := "04a4e92092612ece943276b554c9651e5808eb6df8cf242ded2b60defe04ea88", func := "canton/cantonlaw19.PostKeeps", spec := "postKeeps", unfollowed := true, recurses := true, apart := false }
def PostKeepsSaid : Prop := postKeepsRow.holds Try.pinned (OpenSpec.ofChange postKeepsSpec)

/-- ITS FALSE NEIGHBOUR: 'it returns false'. Refute it at one input. -/
def postKeepsWrong : ChangeSpec := { name := "postKeeps", fn := fun _ => fun
  | [d1, d2, d3] => { results := [.lit (.bool false)], args := [d1, d2, d3] }
  | _ => none }
def PostKeepsWrongFalsely : Prop := postKeepsRow.holds Try.pinned (OpenSpec.ofChange postKeepsWrong)

/-- 'cantonlaw19.PostFull': WHATEVER THE INPUT: true; the input reads as it did. -/
def postFullSpec : ChangeSpec := { name := "postFull", fn := fun _ => fun
  | [d1, d2] => { results := [.lit (.bool true)], args := [d1, d2] }
  | _ => none }
def postFullRow : OpenClaim := { program := "ytbjpjbopfhbkmaa", sum := "04a4e92092612ece943276b554c9651e5808eb6df8cf242ded2b60defe04ea88", func := "canton/cantonlaw19.PostFull", spec := "postFull", unfollowed := true, recurses := true, apart := false }
def PostFullSaid : Prop := postFullRow.holds Try.pinned (OpenSpec.ofChange postFullSpec)

/-- ITS FALSE NEIGHBOUR: 'it returns false'. Refute it at one input. -/
def postFullWrong : ChangeSpec := { name := "postFull", fn := fun _ => fun
  | [d1, d2] => { results := [.lit (.bool false)], args := [d1, d2] }
  | _ => none }
def PostFullWrongFalsely : Prop := postFullRow.holds Try.pinned (OpenSpec.ofChange postFullWrong)

/-- 'cantonlaw19.PostDoubles': WHATEVER THE INPUT: true; the input reads as it did. -/
def postDoublesSpec : ChangeSpec := { name := "postDoubles", fn := fun _ => fun
  | [d1, d2, d3] => { results := [.lit (.bool true)], args := [d1, d2, d3] }
  | _ => none }
def postDoublesRow : OpenClaim := { program := "ytbjpjbopfhbkmaa", sum := "04a4e92092612ece943276b554c9651e5808eb6df8cf242ded2b60defe04ea88", func := "canton/cantonlaw19.PostDoubles", spec := "postDoubles", unfollowed := true, recurses := true, apart := false }
def PostDoublesSaid : Prop := postDoublesRow.holds Try.pinned (OpenSpec.ofChange postDoublesSpec)

/-- ITS FALSE NEIGHBOUR: 'it returns false'. Refute it at one input. -/
def postDoublesWrong : ChangeSpec := { name := "postDoubles", fn := fun _ => fun
  | [d1, d2, d3] => { results := [.lit (.bool false)], args := [d1, d2, d3] }
  | _ => none }
def PostDoublesWrongFalsely : Prop := postDoublesRow.holds Try.pinned (OpenSpec.ofChange postDoublesWrong)

/-- 'cantonlaw02.PackOnce': WHATEVER THE INPUT: true; the input reads as it did. -/
def packOnceSpec : ChangeSpec := { name := "packOnce", fn := fun _ => fun
  | [d] => { results := [.lit (.bool true)], args := [d] }
  | _ => none }
def packOnceRow : OpenClaim := { program := "ytbjpjbopfhbkmaa", sum := "04a4e92092612ece943276b554c9651e5808eb6df8cf242ded2b60defe04ea88", func := "canton/cantonlaw02.PackOnce", spec := "packOnce", apart := false }
def PackOnceSaid : Prop := packOnceRow.holds Try.pinned (OpenSpec.ofChange packOnceSpec)

/-- ITS FALSE NEIGHBOUR: 'it returns false'. Refute it at one input. -/
def packOnceWrong : ChangeSpec := { name := "packOnce", fn := fun _ => fun
  | [d] => { results := [.lit (.bool false)], args := [d] }
  | _ => none }
def PackOnceWrongFalsely : Prop := packOnceRow.holds Try.pinned (OpenSpec.ofChange packOnceWrong)

/-- 'cantonlaw02.PackCuts': WHATEVER THE INPUT: true; the input reads as it did. -/
def packCutsSpec : ChangeSpec := { name := "packCuts", fn := fun _ => fun
  | [d1, d2, d3] => { results := [.lit (.bool true)], args := [d1, d2, d3] }
  | _ => none }
def packCutsRow : OpenClaim := { program := "ytbjpjbopfhbkmaa", sum := "04a4e92092612ece943276b554c9651e5808eb6df8cf242ded2b60defe04ea88", func := "canton/cantonlaw02.PackCuts", spec := "packCuts", apart := false }
def PackCutsSaid : Prop := packCutsRow.holds Try.pinned (OpenSpec.ofChange packCutsSpec)

/-- ITS FALSE NEIGHBOUR: 'it returns false'. Refute it at one input. -/
def packCutsWrong : ChangeSpec := { name := "packCuts", fn := fun _ => fun
  | [d1, d2, d3] => { results := [.lit (.bool false)], args := [d1, d2, d3] }
  | _ => none }
def PackCutsWrongFalsely : Prop := packCutsRow.holds Try.pinned (OpenSpec.ofChange packCutsWrong)

/-- 'cantonlaw02.PackMost': WHATEVER THE INPUT: true; the input reads as it did. -/
def packMostSpec : ChangeSpec := { name := "packMost", fn := fun _ => fun
  | [d1, d2, d3] => { results := [.lit (.bool true)], args := [d1, d2, d3] }
  | _ => none }
def packMostRow : OpenClaim := { program := "ytbjpjbopfhbkmaa", sum := "04a4e92092612ece943276b554c9651e5808eb6df8cf242ded2b60defe04ea88", func := "canton/cantonlaw02.PackMost", spec := "packMost", apart := false }
def PackMostSaid : Prop := packMostRow.holds Try.pinned (OpenSpec.ofChange packMostSpec)

/-- ITS FALSE NEIGHBOUR: 'it returns false'. Refute it at one input. -/
def packMostWrong : ChangeSpec := { name := "packMost", fn := fun _ => fun
  | [d1, d2, d3] => { results := [.lit (.bool false)], args := [d1, d2, d3] }
  | _ => none }
def PackMostWrongFalsely : Prop := packMostRow.holds Try.pinned (OpenSpec.ofChange packMostWrong)

/-- 'cantonlaw02.PackWrites': WHATEVER THE INPUT: true; the input reads as it did. -/
def packWritesSpec : ChangeSpec := { name := "packWrites", fn := fun _ => fun
  | [d] => { results := [.lit (.bool true)], args := [d] }
  | _ => none }
def packWritesRow : OpenClaim := { program := "ytbjpjbopfhbkmaa", sum := "04a4e92092612ece943276b554c9651e5808eb6df8cf242ded2b60defe04ea88", func := "canton/cantonlaw02.PackWrites", spec := "packWrites", apart := false }
def PackWritesSaid : Prop := packWritesRow.holds Try.pinned (OpenSpec.ofChange packWritesSpec)

/-- ITS FALSE NEIGHBOUR: 'it returns false'. Refute it at one input. -/
def packWritesWrong : ChangeSpec := { name := "packWrites", fn := fun _ => fun
  | [d] => { results := [.lit (.bool false)], args := [d] }
  | _ => none }
def PackWritesWrongFalsely : Prop := packWritesRow.holds Try.pinned (OpenSpec.ofChange packWritesWrong)

/-- 'cantonlaw02.PackReads': WHATEVER THE INPUT: true; the input reads as it did. -/
def packReadsSpec : ChangeSpec := { name := "packReads", fn := fun _ => fun
  | [d1, d2] => { results := [.lit (.bool true)], args := [d1, d2] }
  | _ => none }
def packReadsRow : OpenClaim := { program := "ytbjpjbopfhbkmaa", sum := "04a4e92092612ece943276b554c9651e5808eb6df8cf242ded2b60defe04ea88", func := "canton/cantonlaw02.PackReads", spec := "packReads", apart := false }
def PackReadsSaid : Prop := packReadsRow.holds Try.pinned (OpenSpec.ofChange packReadsSpec)

/-- ITS FALSE NEIGHBOUR: 'it returns false'. Refute it at one input. -/
def packReadsWrong : ChangeSpec := { name := "packReads", fn := fun _ => fun
  | [d1, d2] => { results := [.lit (.bool false)], args := [d1, d2] }
  | _ => none }
def PackReadsWrongFalsely : Prop := packReadsRow.holds Try.pinned (OpenSpec.ofChange packReadsWrong)

/-- 'cantonlaw02.PackStays': WHATEVER THE INPUT: true; the input reads as it did. -/
def packStaysSpec : ChangeSpec := { name := "packStays", fn := fun _ => fun
  | [d1, d2] => { results := [.lit (.bool true)], args := [d1, d2] }
  | _ => none }
def packStaysRow : OpenClaim := { program := "ytbjpjbopfhbkmaa", sum := "04a4e92092612ece943276b554c9651e5808eb6df8cf242ded2b60defe04ea88", func := "canton/cantonlaw02.PackStays", spec := "packStays", apart := false }
def PackStaysSaid : Prop := packStaysRow.holds Try.pinned (OpenSpec.ofChange packStaysSpec)

/-- ITS FALSE NEIGHBOUR: 'it returns false'. Refute it at one input. -/
def packStaysWrong : ChangeSpec := { name := "packStays", fn := fun _ => fun
  | [d1, d2] => { results := [.lit (.bool false)], args := [d1, d2] }
  | _ => none }
def PackStaysWrongFalsely : Prop := packStaysRow.holds Try.pinned (OpenSpec.ofChange packStaysWrong)

/-- 'cantonlaw02.PackBack': WHATEVER THE INPUT: true; the input reads as it did. -/
def packBackSpec : ChangeSpec := { name := "packBack", fn := fun _ => fun
  | [d] => { results := [.lit (.bool true)], args := [d] }
  | _ => none }
def packBackRow : OpenClaim := { program := "ytbjpjbopfhbkmaa", sum := "04a4e92092612ece943276b554c9651e5808eb6df8cf242ded2b60defe04ea88", func := "canton/cantonlaw02.PackBack", spec := "packBack", apart := false }
def PackBackSaid : Prop := packBackRow.holds Try.pinned (OpenSpec.ofChange packBackSpec)

/-- ITS FALSE NEIGHBOUR: 'it returns false'. Refute it at one input. -/
def packBackWrong : ChangeSpec := { name := "packBack", fn := fun _ => fun
  | [d] => { results := [.lit (.bool false)], args := [d] }
  | _ => none }
def PackBackWrongFalsely : Prop := packBackRow.holds Try.pinned (OpenSpec.ofChange packBackWrong)

/- THE SECOND FORM. 'bulk': how many values and letters a reading holds, each counted each time it is reached (what is shared counts as often as it is met; a slice's spare places count too). A statement '..UptoSaid' is the law's where the arguments, and the package variables that the reading takes, are together of bulk at most 1048576: NARROWER than '..Said'. Prove '..Said' where nothing that the law and all that it calls make is longer than what came in: it says more and counts as full. Else prove '..UptoSaid'. A law counts once. -/
mutual
def uptoBulk {H : Type} : DataW H → Nat
  | .lit (.string bytes) => bytes.length + 1
  | .lit _ => 1
  | .nil => 1
  | .ptr d => uptoBulk d + 1
  | .slice elems spare => uptoBulkAll elems + uptoBulkAll spare + 1
  | .agg parts => uptoBulkAll parts + 1
  | .iface _ d => uptoBulk d + 1
  | .map entries => uptoBulkEntries entries + 1
  | .held _ => 1
def uptoBulkAll {H : Type} : List (DataW H) → Nat
  | [] => 0
  | d :: r => uptoBulk d + uptoBulkAll r
def uptoBulkEntries {H : Type} : List (Lit × DataW H) → Nat
  | [] => 0
  | x :: r => uptoBulkEntry x + uptoBulkEntries r
def uptoBulkEntry {H : Type} : Lit × DataW H → Nat
  | (.string bytes, d) => bytes.length + uptoBulk d + 1
  | (_, d) => uptoBulk d + 1
 end
def uptoSmall : (H : Type) → List (DataW H) → Bool := fun _ ds => decide (uptoBulkAll ds ≤ 1048576)
def OpenSpec.upto (s : _root_.Go.ChangeSpec) : _root_.Go.OpenSpec := { _root_.Go.OpenSpec.ofChange s with cond := some uptoSmall }

/-- 'cantonlaw19.PostPlays', WHERE WHAT IT READS IS OF BULK AT MOST 1048576: true; the input reads as it did. -/
def postPlaysUptoRow : OpenClaim := { program := "ytbjpjbopfhbkmaa", sum := "04a4e92092612ece943276b554c9651e5808eb6df8cf242ded2b60defe04ea88", func := "canton/cantonlaw19.PostPlays", spec := "postPlays", unfollowed := true, recurses := true, apart := false, narrowed := true }
def PostPlaysUptoSaid : Prop := postPlaysUptoRow.holds Try.pinned (OpenSpec.upto postPlaysSpec)

/-- 'cantonlaw19.PostKeeps', WHERE WHAT IT READS IS OF BULK AT MOST 1048576: true; the input reads as it did. -/
def postKeepsUptoRow : OpenClaim := { program := "ytbjpjbopfhbkmaa", sum := "04a4e92092612ece943276b554c9651e5808eb6df8cf242ded2b60defe04ea88", func := "canton/cantonlaw19.PostKeeps", spec := "postKeeps", unfollowed := true, recurses := true, apart := false, narrowed := true }
def PostKeepsUptoSaid : Prop := postKeepsUptoRow.holds Try.pinned (OpenSpec.upto postKeepsSpec)

/-- 'cantonlaw19.PostFull', WHERE WHAT IT READS IS OF BULK AT MOST 1048576: true; the input reads as it did. -/
def postFullUptoRow : OpenClaim := { program := "ytbjpjbopfhbkmaa", sum := "04a4e92092612ece943276b554c9651e5808eb6df8cf242ded2b60defe04ea88", func := "canton/cantonlaw19.PostFull", spec := "postFull", unfollowed := true, recurses := true, apart := false, narrowed := true }
def PostFullUptoSaid : Prop := postFullUptoRow.holds Try.pinned (OpenSpec.upto postFullSpec)

/-- 'cantonlaw19.PostDoubles', WHERE WHAT IT READS IS OF BULK AT MOST 1048576: true; the input reads as it did. -/
def postDoublesUptoRow : OpenClaim := { program := "ytbjpjbopfhbkmaa", sum := "04a4e92092612ece943276b554c9651e5808eb6df8cf242ded2b60defe04ea88", func := "canton/cantonlaw19.PostDoubles", spec := "postDoubles", unfollowed := true, recurses := true, apart := false, narrowed := true }
def PostDoublesUptoSaid : Prop := postDoublesUptoRow.holds Try.pinned (OpenSpec.upto postDoublesSpec)

/-- 'cantonlaw02.PackOnce', WHERE WHAT IT READS IS OF BULK AT MOST 1048576: true; the input reads as it did. -/
def packOnceUptoRow : OpenClaim := { program := "ytbjpjbopfhbkmaa", sum := "04a4e92092612ece943276b554c9651e5808eb6df8cf242ded2b60defe04ea88", func := "canton/cantonlaw02.PackOnce", spec := "packOnce", apart := false, narrowed := true }
def PackOnceUptoSaid : Prop := packOnceUptoRow.holds Try.pinned (OpenSpec.upto packOnceSpec)

/-- 'cantonlaw02.PackCuts', WHERE WHAT IT READS IS OF BULK AT MOST 1048576: true; the input reads as it did. -/
def packCutsUptoRow : OpenClaim := { program := "ytbjpjbopfhbkmaa", sum := "04a4e92092612ece943276b554c9651e5808eb6df8cf242ded2b60defe04ea88", func := "canton/cantonlaw02.PackCuts", spec := "packCuts", apart := false, narrowed := true }
def PackCutsUptoSaid : Prop := packCutsUptoRow.holds Try.pinned (OpenSpec.upto packCutsSpec)

/-- 'cantonlaw02.PackMost', WHERE WHAT IT READS IS OF BULK AT MOST 1048576: true; the input reads as it did. -/
def packMostUptoRow : OpenClaim := { program := "ytbjpjbopfhbkmaa", sum := "04a4e92092612ece943276b554c9651e5808eb6df8cf242ded2b60defe04ea88", func := "canton/cantonlaw02.PackMost", spec := "packMost", apart := false, narrowed := true }
def PackMostUptoSaid : Prop := packMostUptoRow.holds Try.pinned (OpenSpec.upto packMostSpec)

/-- 'cantonlaw02.PackWrites', WHERE WHAT IT READS IS OF BULK AT MOST 1048576: true; the input reads as it did. -/
def packWritesUptoRow : OpenClaim := { program := "ytbjpjbopfhbkmaa", sum := "04a4e92092612ece943276b554c9651e5808eb6df8cf242ded2b60defe04ea88", func := "canton/cantonlaw02.PackWrites", spec := "packWrites", apart := false, narrowed := true }
def PackWritesUptoSaid : Prop := packWritesUptoRow.holds Try.pinned (OpenSpec.upto packWritesSpec)

/-- 'cantonlaw02.PackReads', WHERE WHAT IT READS IS OF BULK AT MOST 1048576: true; the input reads as it did. -/
def packReadsUptoRow : OpenClaim := { program := "ytbjpjbopfhbkmaa", sum := "04a4e92092612ece943276b554c9651e5808eb6df8cf242ded2b60defe04ea88", func := "canton/cantonlaw02.PackReads", spec := "packReads", apart := false, narrowed := true }
def PackReadsUptoSaid : Prop := packReadsUptoRow.holds Try.pinned (OpenSpec.upto packReadsSpec)

/-- 'cantonlaw02.PackStays', WHERE WHAT IT READS IS OF BULK AT MOST 1048576: true; the input reads as it did. -/
def packStaysUptoRow : OpenClaim := { program := "ytbjpjbopfhbkmaa", sum := "04a4e92092612ece943276b554c9651e5808eb6df8cf242ded2b60defe04ea88", func := "canton/cantonlaw02.PackStays", spec := "packStays", apart := false, narrowed := true }
def PackStaysUptoSaid : Prop := packStaysUptoRow.holds Try.pinned (OpenSpec.upto packStaysSpec)

/-- 'cantonlaw02.PackBack', WHERE WHAT IT READS IS OF BULK AT MOST 1048576: true; the input reads as it did. -/
def packBackUptoRow : OpenClaim := { program := "ytbjpjbopfhbkmaa", sum := "04a4e92092612ece943276b554c9651e5808eb6df8cf242ded2b60defe04ea88", func := "canton/cantonlaw02.PackBack", spec := "packBack", apart := false, narrowed := true }
def PackBackUptoSaid : Prop := packBackUptoRow.holds Try.pinned (OpenSpec.upto packBackSpec)

end Rows
end Go.Proofs.Ytbjpjbopfhbkmaa
