/- The closed facts of the row of the law ShardMoves. -/
import Derived.Test.YtppeaaolgckfcaaGreatDoorCards
import Derived.JoinedOf
import Derived.WalkKit
set_option linter.unusedVariables false
namespace Go.Proofs.YtppeaaolgckfcaaGreatDoor
open Go
theorem VQ{a b:Bool}(h:a=true)(k:b=true):(a && b)=true:=by rw [h,k];rfl
set_option maxHeartbeats 40000000 in
theorem Qq:joinedFacts Tryz.prog 3 Tryz.f3 Rows.shardMovesSpec Rows.shardMovesRow=true:=by
  unfold joinedFacts
  repeat' with_reducible apply VQ
  all_goals (as_aux_lemma=>kernel_rfl)
end Go.Proofs.YtppeaaolgckfcaaGreatDoor
