/- The closed facts of the row of the law ShardDecides. -/
import Derived.Test.YtpbgbliikifjjaaGreatDoorCards
import Derived.JoinedOf
import Derived.WalkKit
set_option linter.unusedVariables false
namespace Go.Proofs.YtpbgbliikifjjaaGreatDoor
open Go
theorem Ym{a b:Bool}(h:a=true)(k:b=true):(a && b)=true:=by rw [h,k];rfl
set_option maxHeartbeats 40000000 in
theorem O7:joinedFacts Tryz.prog 4 Tryz.f4 Rows.shardDecidesSpec Rows.shardDecidesRow=true:=by
  unfold joinedFacts
  repeat' with_reducible apply Ym
  all_goals (as_aux_lemma=>kernel_rfl)
end Go.Proofs.YtpbgbliikifjjaaGreatDoor
