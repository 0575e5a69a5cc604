/- The closed facts of the row of the law ShardLate. -/
import Derived.Test.YtpbgbliikifjjaaGreatDoorCards
import Derived.JoinedOf
import Derived.WalkKit
set_option linter.unusedVariables false
namespace Go.Proofs.YtpbgbliikifjjaaGreatDoor
open Go
theorem KC{a b:Bool}(h:a=true)(k:b=true):(a && b)=true:=by rw [h,k];rfl
set_option maxHeartbeats 40000000 in
theorem Fp:joinedFacts Tryz.prog 5 Tryz.f5 Rows.shardLateSpec Rows.shardLateRow=true:=by
  unfold joinedFacts
  repeat' with_reducible apply KC
  all_goals (as_aux_lemma=>kernel_rfl)
end Go.Proofs.YtpbgbliikifjjaaGreatDoor
