/- The closed facts of the row of the law ShardWatches. -/
import Derived.Test.YtlgajjcbnimjkaaGreatDoorCards
import Derived.JoinedOf
import Derived.WalkKit
set_option linter.unusedVariables false
namespace Go.Proofs.YtlgajjcbnimjkaaGreatDoor
open Go
theorem JS{a b:Bool}(h:a=true)(k:b=true):(a && b)=true:=by rw [h,k];rfl
set_option maxHeartbeats 40000000 in
theorem Ai:joinedFacts Tryz.prog 3 Tryz.f3 Rows.shardWatchesSpec Rows.shardWatchesRow=true:=by
  unfold joinedFacts
  repeat' with_reducible apply JS
  all_goals (as_aux_lemma=>kernel_rfl)
end Go.Proofs.YtlgajjcbnimjkaaGreatDoor
