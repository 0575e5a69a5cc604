/- The library's tables lie as the rows list them: what a row's walk has of it, and a world in which it is so. -/
import Derived.Test.YtppeaaolgckfcaaGreatDoorRows
import Derived.Test.YtppeaaolgckfcaaGreatDoorN4sm
import Derived.LaidSub
import Derived.LaidLaws
set_option linter.unusedVariables false
set_option linter.unusedSimpArgs false
namespace Go.Proofs.YtppeaaolgckfcaaGreatDoor
open Go Go.Cb Go.ChangeShapes Go.WideShapes Go.ChangeAt Go.RowKit
abbrev Sw:List (String×DataW Unit):=[("math/bits.deBruijn32tab",Rows.laid_math_bits_deBruijn32tab),("math/bits.deBruijn64tab",Rows.laid_math_bits_deBruijn64tab),("internal/strconv.uint64pow10",Rows.laid_internal_strconv_uint64pow10)]
theorem Vh:Tryz.prog.globalNamed Dx=some 1:=by kernel_rfl
theorem JB:(Rows.laid_internal_strconv_uint64pow10:DataW Unit)=Lib.tabData .u64 Lib.pow10Tab:=by kernel_rfl
theorem NG{W:WD}(h:laidMet Tryz.prog Sw W):(Z2 Tryz.prog).p W (λ_=>True):=by
 have h1:=h.filter (λx=>x.1 == Dx);have h2:laidMet Tryz.prog [(Dx,Lib.tabData .u64 Lib.pow10Tab)] W:=by
  rw [← JB];exact h1
 exact ⟨⟨1,Vh,trivial⟩,Lib.tabIs_of_head Vh (t:=352) (e:=255) (n:=20) (by kernel_rfl) Tryz.underlying352 Tryz.underlying255 (by kernel_rfl) (by kernel_rfl) h2⟩
def VO:List Int:=[0,1,28,2,29,14,24,3,30,22,20,15,25,17,4,8,31,27,13,23,21,19,16,7,26,12,18,6,11,5,10,9]
def VP:List Int:=[0,1,56,2,57,49,28,3,61,58,42,50,38,29,17,4,62,47,59,36,45,43,51,22,53,39,33,30,24,18,12,5,63,55,48,27,60,41,37,16,46,35,44,21,52,32,23,11,54,26,40,15,34,20,31,10,25,14,19,9,13,8,7,6]
def Qp(k:IntKind)(zs:List Int):Obj->Obj
 | .cells _ t frozen=>.cells (zs.map λz=>Value.int k z).toArray t frozen
 | o=>o
/-- the settled world, in which the three tables are laid. -/
noncomputable def laidWorld (os:Os):WD:=
 let w0:=World.holding Tryz.prog os ⟨#[],#[],[]⟩
 { w0 with heap:=((w0.heap.modify 2 (Qp .u8 VO)).modify 3 (Qp .u8 VP)).modify 1 (Qp .u64 Lib.pow10Tab) }
set_option maxRecDepth 100000 in
theorem Wg(os:Os)(args:Array VL):laidMet Tryz.prog Sw ((laidWorld os).forCall (λ_ _=>0) ⟨#[],args,[]⟩).memory:=
 laidMet_of_run' 8 (by kernel_rfl) (by kernel_rfl)
end Go.Proofs.YtppeaaolgckfcaaGreatDoor

