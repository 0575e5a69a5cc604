/- The closed facts of the row of the law ShardOnce. -/
import Derived.Test.YteakhlfapjaodaaGreatDoorCards
import Derived.JoinedOf
import Derived.WalkKit
set_option linter.unusedVariables false
namespace Go.Proofs.YteakhlfapjaodaaGreatDoor
open Go
theorem PW{a b:Bool}(h:a=true)(k:b=true):(a && b)=true:=by rw [h,k];rfl
set_option maxHeartbeats 40000000 in
theorem Nz:joinedFacts Tryz.prog 7 Tryz.f7 Rows.shardOnceSpec Rows.shardOnceRow=true:=by
  unfold joinedFacts
  repeat' with_reducible apply PW
  all_goals (as_aux_lemma=>kernel_rfl)
end Go.Proofs.YteakhlfapjaodaaGreatDoor
