/- The closed facts of the row of the law ShardHeld. -/
import Derived.Test.YteakhlfapjaodaaGreatDoorCards
import Derived.JoinedOf
import Derived.WalkKit
set_option linter.unusedVariables false
namespace Go.Proofs.YteakhlfapjaodaaGreatDoor
open Go
theorem TY{a b:Bool}(h:a=true)(k:b=true):(a && b)=true:=by rw [h,k];rfl
set_option maxHeartbeats 40000000 in
theorem Rk:joinedFacts Tryz.prog 4 Tryz.f4 Rows.shardHeldSpec Rows.shardHeldRow=true:=by
  unfold joinedFacts
  repeat' with_reducible apply TY
  all_goals (as_aux_lemma=>kernel_rfl)
end Go.Proofs.YteakhlfapjaodaaGreatDoor
