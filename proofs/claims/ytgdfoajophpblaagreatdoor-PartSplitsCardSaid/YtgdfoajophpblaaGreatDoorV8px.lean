/- Parts, plainly: the live question; PartTells. -/
import Derived.Test.YtgdfoajophpblaaGreatDoorV7px
import Derived.Test.YtgdfoajophpblaaGreatDoorKpx3
set_option linter.unusedVariables false
set_option linter.unusedSimpArgs false
namespace Go.Cb
open Go.Proofs Go.RowKit

def q71 : Pt1 := ⟨1, mk [47], mk [47, 97], mk [], 0, 0, false⟩
def q72 : Pt1 := ⟨2, mk [47, 97], mk [47, 97, 47, 98], mk [120], 0, 0, false⟩
def s70 : Sto := ⟨[⟨mk [47], mk [], 0, 0, 0⟩, ⟨mk [47, 97], mk [], 0, 0, 0⟩], [⟨mk [47], 3⟩]⟩
def s71 : Sto := ⟨[⟨mk [47], mk [], 0, 0, 0⟩, ⟨mk [47, 97], mk [], 0, 0, 0⟩, ⟨mk [47, 97, 47, 98], mk [120], 0, 0, 0⟩], [⟨mk [47], 3⟩]⟩
def t71 : List Nd := [⟨mk [47], mk [], 0, 3, 0⟩, ⟨mk [47, 97], mk [], 0, 0, 0⟩, ⟨mk [47, 97, 47, 98], mk [120], 0, 0, 0⟩]
set_option maxRecDepth 100000 in
theorem h7_1 : m_part_Of (⟨1, (ByteArray.mk #[47, 97, 47, 98]), (ByteArray.mk #[120]), 0, 0, false⟩ : S_api_Op) = some [q71, q72] := by kernel_rfl
set_option maxRecDepth 100000 in
theorem h7_2 : m_part_Keep ([(⟨(ByteArray.mk #[47]), (ByteArray.mk #[]), 0, 3, 0⟩ : S_api_Node), (⟨(ByteArray.mk #[47, 97]), (ByteArray.mk #[]), 0, 0, 0⟩ : S_api_Node)] : List S_api_Node) = some s70 := by kernel_rfl
set_option maxRecDepth 100000 in
theorem h7_3 : m_part_Do s70 q71 = some (s70, res 0) := by kernel_rfl
set_option maxRecDepth 100000 in
theorem h7_4 : m_part_Do s70 q72 = some (s71, { res 0 with Path := mk [47, 97, 47, 98] }) := by kernel_rfl
set_option maxRecDepth 100000 in
theorem h7_5 : m_part_Do s70 (⟨0, (ByteArray.mk #[]), (ByteArray.mk #[]), (ByteArray.mk #[]), 0, 0, false⟩ : S_api_Part) = some (⟨[], []⟩, res 1) := by kernel_rfl
set_option maxRecDepth 100000 in
theorem h7_6 : m_part_Right s71 = some true := by kernel_rfl
set_option maxRecDepth 100000 in
theorem h7_7 : treeEnd s71.Nodes (putTs (fun _ => none) s71.Turns) s71.Turns.length = some (t71, true) := by kernel_rfl
theorem s71_ok : StoreOk s71 := by
  obtain ⟨b, h1, h2⟩ := partRight_eq s71 (by decide) (by decide)
  rw [h7_6] at h1
  cases h1
  exact h2.1 rfl
theorem h7_8 : m_part_Tree [s71] = some (t71, true) := (tree_one s71 (s71_ok.sms (by decide) (by decide)) s71_ok).trans h7_7
set_option maxRecDepth 100000 in
theorem h7_9 : m_part_Right s70 = some true := by kernel_rfl
set_option maxRecDepth 100000 in
theorem h7_a : m_part_May q71 = some true := by kernel_rfl
theorem head7_t : m_cantonlaw07_head = some true := by
  unfold m_cantonlaw07_head
  rw [h7_1]
  simp only [Option.bind_some]
  rw [h7_2]
  simp only [Option.bind_some]
  rw [if_neg (by decide), show idx [q71, q72] 0 = some q71 from rfl]
  simp only [Option.bind_some]
  rw [h7_3]
  simp only [Option.bind_some]
  unfold m_cantonlaw07_head_j1
  rw [show idx [q71, q72] 1 = some q72 from rfl]
  simp only [Option.bind_some]
  rw [show (⟨s70.Nodes, s70.Turns⟩ : Sto) = s70 from rfl, h7_4]
  simp only [Option.bind_some]
  unfold m_cantonlaw07_head_j2
  rw [h7_5, show (⟨s71.Nodes, s71.Turns⟩ : Sto) = s71 from rfl, h7_8, h7_9]
  simp only [Option.bind_some]
  rw [show idx [q71, q72] 0 = some q71 from rfl, show idx [q71, q72] 1 = some q72 from rfl, show idx t71 0 = some ⟨mk [47], mk [], 0, 3, 0⟩ from rfl]
  simp only [Option.bind_some]
  rw [h7_a]
  kernel_rfl
/-! ### PartTells -/
end Go.Cb
