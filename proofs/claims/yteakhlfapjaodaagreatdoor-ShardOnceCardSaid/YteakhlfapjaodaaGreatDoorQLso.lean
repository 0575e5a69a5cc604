/- The library's tables lie as the rows list them: what a row's walk has of it, and a world in which it is so. -/
import Derived.Test.YteakhlfapjaodaaGreatDoorRows
import Derived.Test.YteakhlfapjaodaaGreatDoorN4so
import Derived.LaidSub
import Derived.LaidLaws
set_option linter.unusedVariables false
set_option linter.unusedSimpArgs false
namespace Go.Proofs.YteakhlfapjaodaaGreatDoor
open Go Go.Cb Go.ChangeShapes Go.WideShapes Go.ChangeAt Go.RowKit
abbrev Ny:List (String×DataW Unit):=[("math/bits.deBruijn32tab",Rows.laid_math_bits_deBruijn32tab),("math/bits.deBruijn64tab",Rows.laid_math_bits_deBruijn64tab),("internal/strconv.uint64pow10",Rows.laid_internal_strconv_uint64pow10)]
theorem Ql:Tryz.prog.globalNamed Ai=some 1:=by kernel_rfl
theorem DV:(Rows.laid_internal_strconv_uint64pow10:DataW Unit)=Lib.tabData .u64 Lib.pow10Tab:=by kernel_rfl
theorem HO{W:World}(h:laidMet Tryz.prog Ny W):(N2 Tryz.prog).p W (λ _=>True):=by
  have h1:=h.filter (λ x=>x.1 == Ai)
  have h2:laidMet Tryz.prog [(Ai,Lib.tabData .u64 Lib.pow10Tab)] W:=by
    rw [← DV]
    exact h1
  exact ⟨⟨1,Ql,trivial⟩,Lib.tabIs_of_head Ql (t:=370) (e:=286) (n:=20) (by kernel_rfl) Tryz.underlying370 Tryz.underlying286 (by kernel_rfl) (by kernel_rfl) h2⟩
def PU:List Int:=[0,1,28,2,29,14,24,3,30,22,20,15,25,17,4,8,31,27,13,23,21,19,16,7,26,12,18,6,11,5,10,9]
def PV:List Int:=[0,1,56,2,57,49,28,3,61,58,42,50,38,29,17,4,62,47,59,36,45,43,51,22,53,39,33,30,24,18,12,5,63,55,48,27,60,41,37,16,46,35,44,21,52,32,23,11,54,26,40,15,34,20,31,10,25,14,19,9,13,8,7,6]
def Ly(k:IntKind)(zs:List Int):Obj->Obj
  | .cells _ t frozen=>.cells (zs.map λ z=>Value.int k z).toArray t frozen
  | o=>o
/-- the settled world, in which the three tables are laid. -/
noncomputable def laidWorld (os:Os):World:=
  let w0:=World.holding Tryz.prog os ⟨#[],#[],[]⟩
  { w0 with heap:=((w0.heap.modify 2 (Ly .u8 PU)).modify 3 (Ly .u8 PV)).modify 1 (Ly .u64 Lib.pow10Tab) }
set_option maxRecDepth 100000 in
theorem Rf(os:Os)(args:Array Value):laidMet Tryz.prog Ny ((laidWorld os).forCall (λ _ _=>0) ⟨#[],args,[]⟩).memory:=
  laidMet_of_run' 8 (by kernel_rfl) (by kernel_rfl)
end Go.Proofs.YteakhlfapjaodaaGreatDoor

