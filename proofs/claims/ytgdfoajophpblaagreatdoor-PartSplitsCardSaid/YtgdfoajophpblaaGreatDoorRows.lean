/-
  NARROWER THAN 'FOR EVERY INPUT', by the rows' own cells (each row's printed sentence says how): MultiTells: laid · MultiAll: laid · MultiNone: laid · MultiOne: laid · MultiPieces: laid · PartTells: laid · PartSplits: laid · PartBack: laid · PartStill: laid · PartPuts: laid · PartDirs: laid.
  DERIVED. THE GIVEN ROWS OF THIS SEAT. 11 by the template 'for every input the law returns true; each argument reads behind the call as it read before'; 0 by the template 'total and deterministic' (their statements: YtgdfoajophpblaaGreatDoorTotals.lean).
  GIVEN WITH THE SEED: the statements are not yours to turn. If you find one false, say at which input.
  Laid BY PROGRAM, IN A SANDBOX (cutbox-rows.mjs): the forced cells as the released guide's own fill.sh prints them over the translation 765b184bc47ec040… (all of the seat's roots in one cut). By AI agents, Wed Nov 11 2026. No macro, syntax, notation, axiom, sorry.
-/
import Derived.Test.YtgdfoajophpblaaGreatDoorChecked
import GoSem.Claim
import GoSem.ClaimJoined
import GoSem.ClaimMapViews
import Derived.JoinedTies
import Derived.KernelRfl
namespace Go.Proofs.YtgdfoajophpblaaGreatDoor
/- THE CELL 'sum', in the pinned program and in every row, IS THE sha256 OF THE DUMP (.gsa) THAT YtgdfoajophpblaaGreatDoorProg.lean LOADS. Nothing in Lean hashes anything: it is a label: what it is worth is what the hold of that sum in a sandbox is worth. -/
noncomputable def Tryz.pinned : Pinned := { name := "ytgdfoajophpblaagreatdoor", sum := "765b184bc47ec040b3a3508be67ce7633adb2f426f79ddb378b7ceda702d2161", checked := Tryz.checked }
namespace Rows
def none {H : Type} : Left H := { results := [], args := [] }

/- WHAT THE LISTED PACKAGE-LEVEL VARIABLES READ AS WHEN THE CALL BEGINS. Each datum BY PROGRAM (the guide's laid-datum.mjs) off the statement by which the dump's own 'gosem.cut.vars' lays the variable. In a bare row this is a premise. The card (YtgdfoajophpblaaGreatDoorCards.lean) ties it to the program's text. -/
def laid_math_bits_deBruijn32tab {H : Type} : DataW H := .agg [.lit (.int .u8 0), .lit (.int .u8 1), .lit (.int .u8 28), .lit (.int .u8 2), .lit (.int .u8 29), .lit (.int .u8 14), .lit (.int .u8 24), .lit (.int .u8 3), .lit (.int .u8 30), .lit (.int .u8 22), .lit (.int .u8 20), .lit (.int .u8 15), .lit (.int .u8 25), .lit (.int .u8 17), .lit (.int .u8 4), .lit (.int .u8 8), .lit (.int .u8 31), .lit (.int .u8 27), .lit (.int .u8 13), .lit (.int .u8 23), .lit (.int .u8 21), .lit (.int .u8 19), .lit (.int .u8 16), .lit (.int .u8 7), .lit (.int .u8 26), .lit (.int .u8 12), .lit (.int .u8 18), .lit (.int .u8 6), .lit (.int .u8 11), .lit (.int .u8 5), .lit (.int .u8 10), .lit (.int .u8 9)]
def laid_math_bits_deBruijn64tab {H : Type} : DataW H := .agg [.lit (.int .u8 0), .lit (.int .u8 1), .lit (.int .u8 56), .lit (.int .u8 2), .lit (.int .u8 57), .lit (.int .u8 49), .lit (.int .u8 28), .lit (.int .u8 3), .lit (.int .u8 61), .lit (.int .u8 58), .lit (.int .u8 42), .lit (.int .u8 50), .lit (.int .u8 38), .lit (.int .u8 29), .lit (.int .u8 17), .lit (.int .u8 4), .lit (.int .u8 62), .lit (.int .u8 47), .lit (.int .u8 59), .lit (.int .u8 36), .lit (.int .u8 45), .lit (.int .u8 43), .lit (.int .u8 51), .lit (.int .u8 22), .lit (.int .u8 53), .lit (.int .u8 39), .lit (.int .u8 33), .lit (.int .u8 30), .lit (.int .u8 24), .lit (.int .u8 18), .lit (.int .u8 12), .lit (.int .u8 5), .lit (.int .u8 63), .lit (.int .u8 55), .lit (.int .u8 48), .lit (.int .u8 27), .lit (.int .u8 60), .lit (.int .u8 41), .lit (.int .u8 37), .lit (.int .u8 16), .lit (.int .u8 46), .lit (.int .u8 35), .lit (.int .u8 44), .lit (.int .u8 21), .lit (.int .u8 52), .lit (.int .u8 32), .lit (.int .u8 23), .lit (.int .u8 11), .lit (.int .u8 54), .lit (.int .u8 26), .lit (.int .u8 40), .lit (.int .u8 15), .lit (.int .u8 34), .lit (.int .u8 20), .lit (.int .u8 31), .lit (.int .u8 10), .lit (.int .u8 25), .lit (.int .u8 14), .lit (.int .u8 19), .lit (.int .u8 9), .lit (.int .u8 13), .lit (.int .u8 8), .lit (.int .u8 7), .lit (.int .u8 6)]
def laid_internal_strconv_uint64pow10 {H : Type} : DataW H := .agg [.lit (.int .u64 1), .lit (.int .u64 10), .lit (.int .u64 100), .lit (.int .u64 1000), .lit (.int .u64 10000), .lit (.int .u64 100000), .lit (.int .u64 1000000), .lit (.int .u64 10000000), .lit (.int .u64 100000000), .lit (.int .u64 1000000000), .lit (.int .u64 10000000000), .lit (.int .u64 100000000000), .lit (.int .u64 1000000000000), .lit (.int .u64 10000000000000), .lit (.int .u64 100000000000000), .lit (.int .u64 1000000000000000), .lit (.int .u64 10000000000000000), .lit (.int .u64 100000000000000000), .lit (.int .u64 1000000000000000000), .lit (.int .u64 10000000000000000000)]

/-- 'cantonlaw08.MultiTells': WHATEVER THE INPUT: true; the input reads as it did. -/
def multiTellsSpec : ChangeSpec := { name := "multiTells", fn := fun _ => fun
  | [d1, d2] => { results := [.lit (.bool true)], args := [d1, d2] }
  | _ => none }
def multiTellsRow : OpenClaim := { program := "ytgdfoajophpblaagreatdoor", sum := "765b184bc47ec040b3a3508be67ce7633adb2f426f79ddb378b7ceda702d2161", func := "canton/cantonlaw08.MultiTells", spec := "multiTells", inPlace := ["internal/bytealg.IndexByteString", "internal/bytealg.IndexString", "internal/bytealg.abigen_runtime_cmpstring", "slices.overlaps[canton/api.Node]", "slices.overlaps[canton/api.Turn]"], unfollowed := true, recurses := true, named := ["internal/strconv.uint64pow10", "math/bits.deBruijn32tab", "math/bits.deBruijn64tab", "internal/bytealg.MaxLen"], apart := false, laid := [("math/bits.deBruijn32tab", laid_math_bits_deBruijn32tab), ("math/bits.deBruijn64tab", laid_math_bits_deBruijn64tab), ("internal/strconv.uint64pow10", laid_internal_strconv_uint64pow10)] }
def MultiTellsSaid : Prop := multiTellsRow.holds Tryz.pinned (OpenSpec.ofChange multiTellsSpec)

/-- ITS FALSE NEIGHBOUR: 'it returns false'. Refute it at one input. -/
def multiTellsWrong : ChangeSpec := { name := "multiTells", fn := fun _ => fun
  | [d1, d2] => { results := [.lit (.bool false)], args := [d1, d2] }
  | _ => none }
def MultiTellsWrongFalsely : Prop := multiTellsRow.holds Tryz.pinned (OpenSpec.ofChange multiTellsWrong)

/-- 'cantonlaw08.MultiAll': WHATEVER THE INPUT: true; the input reads as it did. -/
def multiAllSpec : ChangeSpec := { name := "multiAll", fn := fun _ => fun
  | [d1, d2] => { results := [.lit (.bool true)], args := [d1, d2] }
  | _ => none }
def multiAllRow : OpenClaim := { program := "ytgdfoajophpblaagreatdoor", sum := "765b184bc47ec040b3a3508be67ce7633adb2f426f79ddb378b7ceda702d2161", func := "canton/cantonlaw08.MultiAll", spec := "multiAll", inPlace := ["internal/bytealg.IndexByteString", "internal/bytealg.IndexString", "internal/bytealg.abigen_runtime_cmpstring", "slices.overlaps[canton/api.Node]", "slices.overlaps[canton/api.Turn]"], unfollowed := true, recurses := true, named := ["internal/strconv.uint64pow10", "math/bits.deBruijn32tab", "math/bits.deBruijn64tab", "internal/bytealg.MaxLen"], apart := false, laid := [("math/bits.deBruijn32tab", laid_math_bits_deBruijn32tab), ("math/bits.deBruijn64tab", laid_math_bits_deBruijn64tab), ("internal/strconv.uint64pow10", laid_internal_strconv_uint64pow10)] }
def MultiAllSaid : Prop := multiAllRow.holds Tryz.pinned (OpenSpec.ofChange multiAllSpec)

/-- ITS FALSE NEIGHBOUR: 'it returns false'. Refute it at one input. -/
def multiAllWrong : ChangeSpec := { name := "multiAll", fn := fun _ => fun
  | [d1, d2] => { results := [.lit (.bool false)], args := [d1, d2] }
  | _ => none }
def MultiAllWrongFalsely : Prop := multiAllRow.holds Tryz.pinned (OpenSpec.ofChange multiAllWrong)

/-- 'cantonlaw08.MultiNone': WHATEVER THE INPUT: true; the input reads as it did. -/
def multiNoneSpec : ChangeSpec := { name := "multiNone", fn := fun _ => fun
  | [d1, d2] => { results := [.lit (.bool true)], args := [d1, d2] }
  | _ => none }
def multiNoneRow : OpenClaim := { program := "ytgdfoajophpblaagreatdoor", sum := "765b184bc47ec040b3a3508be67ce7633adb2f426f79ddb378b7ceda702d2161", func := "canton/cantonlaw08.MultiNone", spec := "multiNone", inPlace := ["internal/bytealg.IndexByteString", "internal/bytealg.IndexString", "internal/bytealg.abigen_runtime_cmpstring", "slices.overlaps[canton/api.Node]", "slices.overlaps[canton/api.Turn]"], unfollowed := true, recurses := true, named := ["internal/strconv.uint64pow10", "math/bits.deBruijn32tab", "math/bits.deBruijn64tab", "internal/bytealg.MaxLen"], apart := false, laid := [("math/bits.deBruijn32tab", laid_math_bits_deBruijn32tab), ("math/bits.deBruijn64tab", laid_math_bits_deBruijn64tab), ("internal/strconv.uint64pow10", laid_internal_strconv_uint64pow10)] }
def MultiNoneSaid : Prop := multiNoneRow.holds Tryz.pinned (OpenSpec.ofChange multiNoneSpec)

/-- ITS FALSE NEIGHBOUR: 'it returns false'. Refute it at one input. -/
def multiNoneWrong : ChangeSpec := { name := "multiNone", fn := fun _ => fun
  | [d1, d2] => { results := [.lit (.bool false)], args := [d1, d2] }
  | _ => none }
def MultiNoneWrongFalsely : Prop := multiNoneRow.holds Tryz.pinned (OpenSpec.ofChange multiNoneWrong)

/-- 'cantonlaw08.MultiOne': WHATEVER THE INPUT: true; the input reads as it did. -/
def multiOneSpec : ChangeSpec := { name := "multiOne", fn := fun _ => fun
  | [d1, d2, d3] => { results := [.lit (.bool true)], args := [d1, d2, d3] }
  | _ => none }
def multiOneRow : OpenClaim := { program := "ytgdfoajophpblaagreatdoor", sum := "765b184bc47ec040b3a3508be67ce7633adb2f426f79ddb378b7ceda702d2161", func := "canton/cantonlaw08.MultiOne", spec := "multiOne", inPlace := ["internal/bytealg.IndexByteString", "internal/bytealg.IndexString", "internal/bytealg.abigen_runtime_cmpstring", "slices.overlaps[canton/api.Node]", "slices.overlaps[canton/api.Turn]"], unfollowed := true, recurses := true, named := ["internal/strconv.uint64pow10", "math/bits.deBruijn32tab", "math/bits.deBruijn64tab", "internal/bytealg.MaxLen"], apart := false, laid := [("math/bits.deBruijn32tab", laid_math_bits_deBruijn32tab), ("math/bits.deBruijn64tab", laid_math_bits_deBruijn64tab), ("internal/strconv.uint64pow10", laid_internal_strconv_uint64pow10)] }
def MultiOneSaid : Prop := multiOneRow.holds Tryz.pinned (OpenSpec.ofChange multiOneSpec)

/-- ITS FALSE NEIGHBOUR: 'it returns false'. Refute it at one input. -/
def multiOneWrong : ChangeSpec := { name := "multiOne", fn := fun _ => fun
  | [d1, d2, d3] => { results := [.lit (.bool false)], args := [d1, d2, d3] }
  | _ => none }
def MultiOneWrongFalsely : Prop := multiOneRow.holds Tryz.pinned (OpenSpec.ofChange multiOneWrong)

/-- 'cantonlaw08.MultiPieces': WHATEVER THE INPUT: true; the input reads as it did. -/
def multiPiecesSpec : ChangeSpec := { name := "multiPieces", fn := fun _ => fun
  | [d1, d2] => { results := [.lit (.bool true)], args := [d1, d2] }
  | _ => none }
def multiPiecesRow : OpenClaim := { program := "ytgdfoajophpblaagreatdoor", sum := "765b184bc47ec040b3a3508be67ce7633adb2f426f79ddb378b7ceda702d2161", func := "canton/cantonlaw08.MultiPieces", spec := "multiPieces", inPlace := ["internal/bytealg.IndexByteString", "internal/bytealg.IndexString", "internal/bytealg.abigen_runtime_cmpstring", "slices.overlaps[canton/api.Node]", "slices.overlaps[canton/api.Turn]"], unfollowed := true, recurses := true, named := ["internal/strconv.uint64pow10", "math/bits.deBruijn32tab", "math/bits.deBruijn64tab", "internal/bytealg.MaxLen"], apart := false, laid := [("math/bits.deBruijn32tab", laid_math_bits_deBruijn32tab), ("math/bits.deBruijn64tab", laid_math_bits_deBruijn64tab), ("internal/strconv.uint64pow10", laid_internal_strconv_uint64pow10)] }
def MultiPiecesSaid : Prop := multiPiecesRow.holds Tryz.pinned (OpenSpec.ofChange multiPiecesSpec)

/-- ITS FALSE NEIGHBOUR: 'it returns false'. Refute it at one input. -/
def multiPiecesWrong : ChangeSpec := { name := "multiPieces", fn := fun _ => fun
  | [d1, d2] => { results := [.lit (.bool false)], args := [d1, d2] }
  | _ => none }
def MultiPiecesWrongFalsely : Prop := multiPiecesRow.holds Tryz.pinned (OpenSpec.ofChange multiPiecesWrong)

/-- 'cantonlaw07.PartTells': WHATEVER THE INPUT: true; the input reads as it did. -/
def partTellsSpec : ChangeSpec := { name := "partTells", fn := fun _ => fun
  | [d1, d2] => { results := [.lit (.bool true)], args := [d1, d2] }
  | _ => none }
def partTellsRow : OpenClaim := { program := "ytgdfoajophpblaagreatdoor", sum := "765b184bc47ec040b3a3508be67ce7633adb2f426f79ddb378b7ceda702d2161", func := "canton/cantonlaw07.PartTells", spec := "partTells", inPlace := ["internal/bytealg.IndexByteString", "internal/bytealg.IndexString", "internal/bytealg.abigen_runtime_cmpstring", "slices.overlaps[canton/api.Turn]", "slices.overlaps[canton/api.Node]"], unfollowed := true, recurses := true, named := ["internal/strconv.uint64pow10", "math/bits.deBruijn32tab", "math/bits.deBruijn64tab", "internal/bytealg.MaxLen"], apart := false, laid := [("math/bits.deBruijn32tab", laid_math_bits_deBruijn32tab), ("math/bits.deBruijn64tab", laid_math_bits_deBruijn64tab), ("internal/strconv.uint64pow10", laid_internal_strconv_uint64pow10)] }
def PartTellsSaid : Prop := partTellsRow.holds Tryz.pinned (OpenSpec.ofChange partTellsSpec)

/-- ITS FALSE NEIGHBOUR: 'it returns false'. Refute it at one input. -/
def partTellsWrong : ChangeSpec := { name := "partTells", fn := fun _ => fun
  | [d1, d2] => { results := [.lit (.bool false)], args := [d1, d2] }
  | _ => none }
def PartTellsWrongFalsely : Prop := partTellsRow.holds Tryz.pinned (OpenSpec.ofChange partTellsWrong)

/-- 'cantonlaw07.PartSplits': WHATEVER THE INPUT: true; the input reads as it did. -/
def partSplitsSpec : ChangeSpec := { name := "partSplits", fn := fun _ => fun
  | [d1, d2, d3, d4] => { results := [.lit (.bool true)], args := [d1, d2, d3, d4] }
  | _ => none }
def partSplitsRow : OpenClaim := { program := "ytgdfoajophpblaagreatdoor", sum := "765b184bc47ec040b3a3508be67ce7633adb2f426f79ddb378b7ceda702d2161", func := "canton/cantonlaw07.PartSplits", spec := "partSplits", inPlace := ["internal/bytealg.IndexByteString", "internal/bytealg.IndexString", "internal/bytealg.abigen_runtime_cmpstring", "slices.overlaps[canton/api.Turn]", "slices.overlaps[canton/api.Node]"], unfollowed := true, recurses := true, named := ["internal/strconv.uint64pow10", "math/bits.deBruijn32tab", "math/bits.deBruijn64tab", "internal/bytealg.MaxLen"], apart := false, laid := [("math/bits.deBruijn32tab", laid_math_bits_deBruijn32tab), ("math/bits.deBruijn64tab", laid_math_bits_deBruijn64tab), ("internal/strconv.uint64pow10", laid_internal_strconv_uint64pow10)] }
def PartSplitsSaid : Prop := partSplitsRow.holds Tryz.pinned (OpenSpec.ofChange partSplitsSpec)

/-- ITS FALSE NEIGHBOUR: 'it returns false'. Refute it at one input. -/
def partSplitsWrong : ChangeSpec := { name := "partSplits", fn := fun _ => fun
  | [d1, d2, d3, d4] => { results := [.lit (.bool false)], args := [d1, d2, d3, d4] }
  | _ => none }
def PartSplitsWrongFalsely : Prop := partSplitsRow.holds Tryz.pinned (OpenSpec.ofChange partSplitsWrong)

/-- 'cantonlaw07.PartBack': WHATEVER THE INPUT: true; the input reads as it did. -/
def partBackSpec : ChangeSpec := { name := "partBack", fn := fun _ => fun
  | [d1, d2] => { results := [.lit (.bool true)], args := [d1, d2] }
  | _ => none }
def partBackRow : OpenClaim := { program := "ytgdfoajophpblaagreatdoor", sum := "765b184bc47ec040b3a3508be67ce7633adb2f426f79ddb378b7ceda702d2161", func := "canton/cantonlaw07.PartBack", spec := "partBack", inPlace := ["internal/bytealg.IndexByteString", "internal/bytealg.IndexString", "internal/bytealg.abigen_runtime_cmpstring", "slices.overlaps[canton/api.Turn]", "slices.overlaps[canton/api.Node]"], unfollowed := true, recurses := true, named := ["internal/strconv.uint64pow10", "math/bits.deBruijn32tab", "math/bits.deBruijn64tab", "internal/bytealg.MaxLen"], apart := false, laid := [("math/bits.deBruijn32tab", laid_math_bits_deBruijn32tab), ("math/bits.deBruijn64tab", laid_math_bits_deBruijn64tab), ("internal/strconv.uint64pow10", laid_internal_strconv_uint64pow10)] }
def PartBackSaid : Prop := partBackRow.holds Tryz.pinned (OpenSpec.ofChange partBackSpec)

/-- ITS FALSE NEIGHBOUR: 'it returns false'. Refute it at one input. -/
def partBackWrong : ChangeSpec := { name := "partBack", fn := fun _ => fun
  | [d1, d2] => { results := [.lit (.bool false)], args := [d1, d2] }
  | _ => none }
def PartBackWrongFalsely : Prop := partBackRow.holds Tryz.pinned (OpenSpec.ofChange partBackWrong)

/-- 'cantonlaw07.PartStill': WHATEVER THE INPUT: true; the input reads as it did. -/
def partStillSpec : ChangeSpec := { name := "partStill", fn := fun _ => fun
  | [d1, d2] => { results := [.lit (.bool true)], args := [d1, d2] }
  | _ => none }
def partStillRow : OpenClaim := { program := "ytgdfoajophpblaagreatdoor", sum := "765b184bc47ec040b3a3508be67ce7633adb2f426f79ddb378b7ceda702d2161", func := "canton/cantonlaw07.PartStill", spec := "partStill", inPlace := ["internal/bytealg.IndexByteString", "internal/bytealg.IndexString", "internal/bytealg.abigen_runtime_cmpstring", "slices.overlaps[canton/api.Turn]", "slices.overlaps[canton/api.Node]"], unfollowed := true, recurses := true, named := ["internal/strconv.uint64pow10", "math/bits.deBruijn32tab", "math/bits.deBruijn64tab", "internal/bytealg.MaxLen"], apart := false, laid := [("math/bits.deBruijn32tab", laid_math_bits_deBruijn32tab), ("math/bits.deBruijn64tab", laid_math_bits_deBruijn64tab), ("internal/strconv.uint64pow10", laid_internal_strconv_uint64pow10)] }
def PartStillSaid : Prop := partStillRow.holds Tryz.pinned (OpenSpec.ofChange partStillSpec)

/-- ITS FALSE NEIGHBOUR: 'it returns false'. Refute it at one input. -/
def partStillWrong : ChangeSpec := { name := "partStill", fn := fun _ => fun
  | [d1, d2] => { results := [.lit (.bool false)], args := [d1, d2] }
  | _ => none }
def PartStillWrongFalsely : Prop := partStillRow.holds Tryz.pinned (OpenSpec.ofChange partStillWrong)

/-- 'cantonlaw07.PartPuts': WHATEVER THE INPUT: true; the input reads as it did. -/
def partPutsSpec : ChangeSpec := { name := "partPuts", fn := fun _ => fun
  | [d1, d2] => { results := [.lit (.bool true)], args := [d1, d2] }
  | _ => none }
def partPutsRow : OpenClaim := { program := "ytgdfoajophpblaagreatdoor", sum := "765b184bc47ec040b3a3508be67ce7633adb2f426f79ddb378b7ceda702d2161", func := "canton/cantonlaw07.PartPuts", spec := "partPuts", inPlace := ["internal/bytealg.IndexByteString", "internal/bytealg.IndexString", "internal/bytealg.abigen_runtime_cmpstring", "slices.overlaps[canton/api.Turn]", "slices.overlaps[canton/api.Node]"], unfollowed := true, recurses := true, named := ["internal/strconv.uint64pow10", "math/bits.deBruijn32tab", "math/bits.deBruijn64tab", "internal/bytealg.MaxLen"], apart := false, laid := [("math/bits.deBruijn32tab", laid_math_bits_deBruijn32tab), ("math/bits.deBruijn64tab", laid_math_bits_deBruijn64tab), ("internal/strconv.uint64pow10", laid_internal_strconv_uint64pow10)] }
def PartPutsSaid : Prop := partPutsRow.holds Tryz.pinned (OpenSpec.ofChange partPutsSpec)

/-- ITS FALSE NEIGHBOUR: 'it returns false'. Refute it at one input. -/
def partPutsWrong : ChangeSpec := { name := "partPuts", fn := fun _ => fun
  | [d1, d2] => { results := [.lit (.bool false)], args := [d1, d2] }
  | _ => none }
def PartPutsWrongFalsely : Prop := partPutsRow.holds Tryz.pinned (OpenSpec.ofChange partPutsWrong)

/-- 'cantonlaw07.PartDirs': WHATEVER THE INPUT: true; the input reads as it did. -/
def partDirsSpec : ChangeSpec := { name := "partDirs", fn := fun _ => fun
  | [d1, d2] => { results := [.lit (.bool true)], args := [d1, d2] }
  | _ => none }
def partDirsRow : OpenClaim := { program := "ytgdfoajophpblaagreatdoor", sum := "765b184bc47ec040b3a3508be67ce7633adb2f426f79ddb378b7ceda702d2161", func := "canton/cantonlaw07.PartDirs", spec := "partDirs", inPlace := ["internal/bytealg.IndexByteString", "internal/bytealg.IndexString", "internal/bytealg.abigen_runtime_cmpstring", "slices.overlaps[canton/api.Turn]", "slices.overlaps[canton/api.Node]"], unfollowed := true, recurses := true, named := ["internal/strconv.uint64pow10", "math/bits.deBruijn32tab", "math/bits.deBruijn64tab", "internal/bytealg.MaxLen"], apart := false, laid := [("math/bits.deBruijn32tab", laid_math_bits_deBruijn32tab), ("math/bits.deBruijn64tab", laid_math_bits_deBruijn64tab), ("internal/strconv.uint64pow10", laid_internal_strconv_uint64pow10)] }
def PartDirsSaid : Prop := partDirsRow.holds Tryz.pinned (OpenSpec.ofChange partDirsSpec)

/-- ITS FALSE NEIGHBOUR: 'it returns false'. Refute it at one input. -/
def partDirsWrong : ChangeSpec := { name := "partDirs", fn := fun _ => fun
  | [d1, d2] => { results := [.lit (.bool false)], args := [d1, d2] }
  | _ => none }
def PartDirsWrongFalsely : Prop := partDirsRow.holds Tryz.pinned (OpenSpec.ofChange partDirsWrong)

/- THE SECOND FORM. 'bulk': how many values and letters a reading holds, each counted each time it is reached (what is shared counts as often as it is met; a slice's spare places count too). A statement '..UptoSaid' is the law's where the arguments, and the package variables that the reading takes, are together of bulk at most 1048576: NARROWER than '..Said'. Prove '..Said' where nothing that the law and all that it calls make is longer than what came in: it says more and counts as full. Else prove '..UptoSaid'. A law counts once. -/
mutual
def uptoBulk {H : Type} : DataW H → Nat
  | .lit (.string bytes) => bytes.length + 1
  | .lit _ => 1
  | .nil => 1
  | .ptr d => uptoBulk d + 1
  | .slice elems spare => uptoBulkAll elems + uptoBulkAll spare + 1
  | .agg parts => uptoBulkAll parts + 1
  | .iface _ d => uptoBulk d + 1
  | .map entries => uptoBulkEntries entries + 1
  | .held _ => 1
def uptoBulkAll {H : Type} : List (DataW H) → Nat
  | [] => 0
  | d :: r => uptoBulk d + uptoBulkAll r
def uptoBulkEntries {H : Type} : List (Lit × DataW H) → Nat
  | [] => 0
  | x :: r => uptoBulkEntry x + uptoBulkEntries r
def uptoBulkEntry {H : Type} : Lit × DataW H → Nat
  | (.string bytes, d) => bytes.length + uptoBulk d + 1
  | (_, d) => uptoBulk d + 1
 end
def uptoSmall : (H : Type) → List (DataW H) → Bool := fun _ ds => decide (uptoBulkAll ds ≤ 1048576)
def OpenSpec.upto (s : _root_.Go.ChangeSpec) : _root_.Go.OpenSpec := { _root_.Go.OpenSpec.ofChange s with cond := some uptoSmall }

/-- 'cantonlaw08.MultiTells', WHERE WHAT IT READS IS OF BULK AT MOST 1048576: true; the input reads as it did. -/
def multiTellsUptoRow : OpenClaim := { program := "ytgdfoajophpblaagreatdoor", sum := "765b184bc47ec040b3a3508be67ce7633adb2f426f79ddb378b7ceda702d2161", func := "canton/cantonlaw08.MultiTells", spec := "multiTells", inPlace := ["internal/bytealg.IndexByteString", "internal/bytealg.IndexString", "internal/bytealg.abigen_runtime_cmpstring", "slices.overlaps[canton/api.Node]", "slices.overlaps[canton/api.Turn]"], unfollowed := true, recurses := true, named := ["internal/strconv.uint64pow10", "math/bits.deBruijn32tab", "math/bits.deBruijn64tab", "internal/bytealg.MaxLen"], apart := false, laid := [("math/bits.deBruijn32tab", laid_math_bits_deBruijn32tab), ("math/bits.deBruijn64tab", laid_math_bits_deBruijn64tab), ("internal/strconv.uint64pow10", laid_internal_strconv_uint64pow10)], narrowed := true }
def MultiTellsUptoSaid : Prop := multiTellsUptoRow.holds Tryz.pinned (OpenSpec.upto multiTellsSpec)

/-- 'cantonlaw08.MultiAll', WHERE WHAT IT READS IS OF BULK AT MOST 1048576: true; the input reads as it did. -/
def multiAllUptoRow : OpenClaim := { program := "ytgdfoajophpblaagreatdoor", sum := "765b184bc47ec040b3a3508be67ce7633adb2f426f79ddb378b7ceda702d2161", func := "canton/cantonlaw08.MultiAll", spec := "multiAll", inPlace := ["internal/bytealg.IndexByteString", "internal/bytealg.IndexString", "internal/bytealg.abigen_runtime_cmpstring", "slices.overlaps[canton/api.Node]", "slices.overlaps[canton/api.Turn]"], unfollowed := true, recurses := true, named := ["internal/strconv.uint64pow10", "math/bits.deBruijn32tab", "math/bits.deBruijn64tab", "internal/bytealg.MaxLen"], apart := false, laid := [("math/bits.deBruijn32tab", laid_math_bits_deBruijn32tab), ("math/bits.deBruijn64tab", laid_math_bits_deBruijn64tab), ("internal/strconv.uint64pow10", laid_internal_strconv_uint64pow10)], narrowed := true }
def MultiAllUptoSaid : Prop := multiAllUptoRow.holds Tryz.pinned (OpenSpec.upto multiAllSpec)

/-- 'cantonlaw08.MultiNone', WHERE WHAT IT READS IS OF BULK AT MOST 1048576: true; the input reads as it did. -/
def multiNoneUptoRow : OpenClaim := { program := "ytgdfoajophpblaagreatdoor", sum := "765b184bc47ec040b3a3508be67ce7633adb2f426f79ddb378b7ceda702d2161", func := "canton/cantonlaw08.MultiNone", spec := "multiNone", inPlace := ["internal/bytealg.IndexByteString", "internal/bytealg.IndexString", "internal/bytealg.abigen_runtime_cmpstring", "slices.overlaps[canton/api.Node]", "slices.overlaps[canton/api.Turn]"], unfollowed := true, recurses := true, named := ["internal/strconv.uint64pow10", "math/bits.deBruijn32tab", "math/bits.deBruijn64tab", "internal/bytealg.MaxLen"], apart := false, laid := [("math/bits.deBruijn32tab", laid_math_bits_deBruijn32tab), ("math/bits.deBruijn64tab", laid_math_bits_deBruijn64tab), ("internal/strconv.uint64pow10", laid_internal_strconv_uint64pow10)], narrowed := true }
def MultiNoneUptoSaid : Prop := multiNoneUptoRow.holds Tryz.pinned (OpenSpec.upto multiNoneSpec)

/-- 'cantonlaw08.MultiOne', WHERE WHAT IT READS IS OF BULK AT MOST 1048576: true; the input reads as it did. -/
def multiOneUptoRow : OpenClaim := { program := "ytgdfoajophpblaagreatdoor", sum := "765b184bc47ec040b3a3508be67ce7633adb2f426f79ddb378b7ceda702d2161", func := "canton/cantonlaw08.MultiOne", spec := "multiOne", inPlace := ["internal/bytealg.IndexByteString", "internal/bytealg.IndexString", "internal/bytealg.abigen_runtime_cmpstring", "slices.overlaps[canton/api.Node]", "slices.overlaps[canton/api.Turn]"], unfollowed := true, recurses := true, named := ["internal/strconv.uint64pow10", "math/bits.deBruijn32tab", "math/bits.deBruijn64tab", "internal/bytealg.MaxLen"], apart := false, laid := [("math/bits.deBruijn32tab", laid_math_bits_deBruijn32tab), ("math/bits.deBruijn64tab", laid_math_bits_deBruijn64tab), ("internal/strconv.uint64pow10", laid_internal_strconv_uint64pow10)], narrowed := true }
def MultiOneUptoSaid : Prop := multiOneUptoRow.holds Tryz.pinned (OpenSpec.upto multiOneSpec)

/-- 'cantonlaw08.MultiPieces', WHERE WHAT IT READS IS OF BULK AT MOST 1048576: true; the input reads as it did. -/
def multiPiecesUptoRow : OpenClaim := { program := "ytgdfoajophpblaagreatdoor", sum := "765b184bc47ec040b3a3508be67ce7633adb2f426f79ddb378b7ceda702d2161", func := "canton/cantonlaw08.MultiPieces", spec := "multiPieces", inPlace := ["internal/bytealg.IndexByteString", "internal/bytealg.IndexString", "internal/bytealg.abigen_runtime_cmpstring", "slices.overlaps[canton/api.Node]", "slices.overlaps[canton/api.Turn]"], unfollowed := true, recurses := true, named := ["internal/strconv.uint64pow10", "math/bits.deBruijn32tab", "math/bits.deBruijn64tab", "internal/bytealg.MaxLen"], apart := false, laid := [("math/bits.deBruijn32tab", laid_math_bits_deBruijn32tab), ("math/bits.deBruijn64tab", laid_math_bits_deBruijn64tab), ("internal/strconv.uint64pow10", laid_internal_strconv_uint64pow10)], narrowed := true }
def MultiPiecesUptoSaid : Prop := multiPiecesUptoRow.holds Tryz.pinned (OpenSpec.upto multiPiecesSpec)

/-- 'cantonlaw07.PartTells', WHERE WHAT IT READS IS OF BULK AT MOST 1048576: true; the input reads as it did. -/
def partTellsUptoRow : OpenClaim := { program := "ytgdfoajophpblaagreatdoor", sum := "765b184bc47ec040b3a3508be67ce7633adb2f426f79ddb378b7ceda702d2161", func := "canton/cantonlaw07.PartTells", spec := "partTells", inPlace := ["internal/bytealg.IndexByteString", "internal/bytealg.IndexString", "internal/bytealg.abigen_runtime_cmpstring", "slices.overlaps[canton/api.Turn]", "slices.overlaps[canton/api.Node]"], unfollowed := true, recurses := true, named := ["internal/strconv.uint64pow10", "math/bits.deBruijn32tab", "math/bits.deBruijn64tab", "internal/bytealg.MaxLen"], apart := false, laid := [("math/bits.deBruijn32tab", laid_math_bits_deBruijn32tab), ("math/bits.deBruijn64tab", laid_math_bits_deBruijn64tab), ("internal/strconv.uint64pow10", laid_internal_strconv_uint64pow10)], narrowed := true }
def PartTellsUptoSaid : Prop := partTellsUptoRow.holds Tryz.pinned (OpenSpec.upto partTellsSpec)

/-- 'cantonlaw07.PartSplits', WHERE WHAT IT READS IS OF BULK AT MOST 1048576: true; the input reads as it did. -/
def partSplitsUptoRow : OpenClaim := { program := "ytgdfoajophpblaagreatdoor", sum := "765b184bc47ec040b3a3508be67ce7633adb2f426f79ddb378b7ceda702d2161", func := "canton/cantonlaw07.PartSplits", spec := "partSplits", inPlace := ["internal/bytealg.IndexByteString", "internal/bytealg.IndexString", "internal/bytealg.abigen_runtime_cmpstring", "slices.overlaps[canton/api.Turn]", "slices.overlaps[canton/api.Node]"], unfollowed := true, recurses := true, named := ["internal/strconv.uint64pow10", "math/bits.deBruijn32tab", "math/bits.deBruijn64tab", "internal/bytealg.MaxLen"], apart := false, laid := [("math/bits.deBruijn32tab", laid_math_bits_deBruijn32tab), ("math/bits.deBruijn64tab", laid_math_bits_deBruijn64tab), ("internal/strconv.uint64pow10", laid_internal_strconv_uint64pow10)], narrowed := true }
def PartSplitsUptoSaid : Prop := partSplitsUptoRow.holds Tryz.pinned (OpenSpec.upto partSplitsSpec)

/-- 'cantonlaw07.PartBack', WHERE WHAT IT READS IS OF BULK AT MOST 1048576: true; the input reads as it did. -/
def partBackUptoRow : OpenClaim := { program := "ytgdfoajophpblaagreatdoor", sum := "765b184bc47ec040b3a3508be67ce7633adb2f426f79ddb378b7ceda702d2161", func := "canton/cantonlaw07.PartBack", spec := "partBack", inPlace := ["internal/bytealg.IndexByteString", "internal/bytealg.IndexString", "internal/bytealg.abigen_runtime_cmpstring", "slices.overlaps[canton/api.Turn]", "slices.overlaps[canton/api.Node]"], unfollowed := true, recurses := true, named := ["internal/strconv.uint64pow10", "math/bits.deBruijn32tab", "math/bits.deBruijn64tab", "internal/bytealg.MaxLen"], apart := false, laid := [("math/bits.deBruijn32tab", laid_math_bits_deBruijn32tab), ("math/bits.deBruijn64tab", laid_math_bits_deBruijn64tab), ("internal/strconv.uint64pow10", laid_internal_strconv_uint64pow10)], narrowed := true }
def PartBackUptoSaid : Prop := partBackUptoRow.holds Tryz.pinned (OpenSpec.upto partBackSpec)

/-- 'cantonlaw07.PartStill', WHERE WHAT IT READS IS OF BULK AT MOST 1048576: true; the input reads as it did. -/
def partStillUptoRow : OpenClaim := { program := "ytgdfoajophpblaagreatdoor", sum := "765b184bc47ec040b3a3508be67ce7633adb2f426f79ddb378b7ceda702d2161", func := "canton/cantonlaw07.PartStill", spec := "partStill", inPlace := ["internal/bytealg.IndexByteString", "internal/bytealg.IndexString", "internal/bytealg.abigen_runtime_cmpstring", "slices.overlaps[canton/api.Turn]", "slices.overlaps[canton/api.Node]"], unfollowed := true, recurses := true, named := ["internal/strconv.uint64pow10", "math/bits.deBruijn32tab", "math/bits.deBruijn64tab", "internal/bytealg.MaxLen"], apart := false, laid := [("math/bits.deBruijn32tab", laid_math_bits_deBruijn32tab), ("math/bits.deBruijn64tab", laid_math_bits_deBruijn64tab), ("internal/strconv.uint64pow10", laid_internal_strconv_uint64pow10)], narrowed := true }
def PartStillUptoSaid : Prop := partStillUptoRow.holds Tryz.pinned (OpenSpec.upto partStillSpec)

/-- 'cantonlaw07.PartPuts', WHERE WHAT IT READS IS OF BULK AT MOST 1048576: true; the input reads as it did. -/
def partPutsUptoRow : OpenClaim := { program := "ytgdfoajophpblaagreatdoor", sum := "765b184bc47ec040b3a3508be67ce7633adb2f426f79ddb378b7ceda702d2161", func := "canton/cantonlaw07.PartPuts", spec := "partPuts", inPlace := ["internal/bytealg.IndexByteString", "internal/bytealg.IndexString", "internal/bytealg.abigen_runtime_cmpstring", "slices.overlaps[canton/api.Turn]", "slices.overlaps[canton/api.Node]"], unfollowed := true, recurses := true, named := ["internal/strconv.uint64pow10", "math/bits.deBruijn32tab", "math/bits.deBruijn64tab", "internal/bytealg.MaxLen"], apart := false, laid := [("math/bits.deBruijn32tab", laid_math_bits_deBruijn32tab), ("math/bits.deBruijn64tab", laid_math_bits_deBruijn64tab), ("internal/strconv.uint64pow10", laid_internal_strconv_uint64pow10)], narrowed := true }
def PartPutsUptoSaid : Prop := partPutsUptoRow.holds Tryz.pinned (OpenSpec.upto partPutsSpec)

/-- 'cantonlaw07.PartDirs', WHERE WHAT IT READS IS OF BULK AT MOST 1048576: true; the input reads as it did. -/
def partDirsUptoRow : OpenClaim := { program := "ytgdfoajophpblaagreatdoor", sum := "765b184bc47ec040b3a3508be67ce7633adb2f426f79ddb378b7ceda702d2161", func := "canton/cantonlaw07.PartDirs", spec := "partDirs", inPlace := ["internal/bytealg.IndexByteString", "internal/bytealg.IndexString", "internal/bytealg.abigen_runtime_cmpstring", "slices.overlaps[canton/api.Turn]", "slices.overlaps[canton/api.Node]"], unfollowed := true, recurses := true, named := ["internal/strconv.uint64pow10", "math/bits.deBruijn32tab", "math/bits.deBruijn64tab", "internal/bytealg.MaxLen"], apart := false, laid := [("math/bits.deBruijn32tab", laid_math_bits_deBruijn32tab), ("math/bits.deBruijn64tab", laid_math_bits_deBruijn64tab), ("internal/strconv.uint64pow10", laid_internal_strconv_uint64pow10)], narrowed := true }
def PartDirsUptoSaid : Prop := partDirsUptoRow.holds Tryz.pinned (OpenSpec.upto partDirsSpec)

end Rows
end Go.Proofs.YtgdfoajophpblaaGreatDoor
