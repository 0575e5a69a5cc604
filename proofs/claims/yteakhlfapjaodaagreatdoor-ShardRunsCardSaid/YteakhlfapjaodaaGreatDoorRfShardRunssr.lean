/- The closed facts of the row of the law ShardRuns. -/
import Derived.Test.YteakhlfapjaodaaGreatDoorCards
import Derived.JoinedOf
import Derived.WalkKit
set_option linter.unusedVariables false
namespace Go.Proofs.YteakhlfapjaodaaGreatDoor
open Go
theorem GY{a b:Bool}(h:a=true)(k:b=true):(a && b)=true:=by rw [h,k];rfl
set_option maxHeartbeats 40000000 in
theorem Ie:joinedFacts Tryz.prog 3 Tryz.f3 Rows.shardRunsSpec Rows.shardRunsRow=true:=by
  unfold joinedFacts
  repeat' with_reducible apply GY
  all_goals (as_aux_lemma=>kernel_rfl)
end Go.Proofs.YteakhlfapjaodaaGreatDoor
