/- The closed facts of the row of the law ShardRight. -/
import Derived.Test.YteakhlfapjaodaaGreatDoorCards
import Derived.JoinedOf
import Derived.WalkKit
set_option linter.unusedVariables false
namespace Go.Proofs.YteakhlfapjaodaaGreatDoor
open Go
theorem PS{a b:Bool}(h:a=true)(k:b=true):(a && b)=true:=by rw [h,k];rfl
set_option maxHeartbeats 40000000 in
theorem Ml:joinedFacts Tryz.prog 6 Tryz.f6 Rows.shardRightSpec Rows.shardRightRow=true:=by
  unfold joinedFacts
  repeat' with_reducible apply PS
  all_goals (as_aux_lemma=>kernel_rfl)
end Go.Proofs.YteakhlfapjaodaaGreatDoor
