/- The live question of layer 17, answered. -/
import Derived.Test.YtlocfgonplkcoaaB12m
import Derived.ChangeKeysEq
import Derived.Test.YtlocfgonplkcoaaKm3
set_option linter.unusedVariables false
set_option linter.unusedSimpArgs false
namespace Go.Cb
theorem sEq_data (x y : ByteArray) : sEq x y = (x.data.toList == y.data.toList) := by
  unfold sEq; rw [ByteArray.toList_eq, ByteArray.toList_eq]
set_option maxRecDepth 100000 in
theorem head_t : m_cantonlaw17_head = some true := by
  unfold m_cantonlaw17_head
  simp only [sEq_data]
  decide +kernel
end Go.Cb
