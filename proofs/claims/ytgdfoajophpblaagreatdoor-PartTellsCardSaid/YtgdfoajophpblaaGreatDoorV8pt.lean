/- Parts, plainly: the live question; PartTells. -/
import Derived.Test.YtgdfoajophpblaaGreatDoorV7pt
import Derived.Test.YtgdfoajophpblaaGreatDoorKpt3
set_option linter.unusedVariables false
set_option linter.unusedSimpArgs false
namespace Go.Cb
open Go.Proofs Go.RowKit

def q71 : Pt1 := ⟨1, mk [47], mk [47, 97], mk [], 0, 0, false⟩
def q72 : Pt1 := ⟨2, mk [47, 97], mk [47, 97, 47, 98], mk [120], 0, 0, false⟩
def s70 : Sto := ⟨[⟨mk [47], mk [], 0, 0, 0⟩, ⟨mk [47, 97], mk [], 0, 0, 0⟩], [⟨mk [47], 3⟩]⟩
def s71 : Sto := ⟨[⟨mk [47], mk [], 0, 0, 0⟩, ⟨mk [47, 97], mk [], 0, 0, 0⟩, ⟨mk [47, 97, 47, 98], mk [120], 0, 0, 0⟩], [⟨mk [47], 3⟩]⟩
def t71 : List Nd := [⟨mk [47], mk [], 0, 3, 0⟩, ⟨mk [47, 97], mk [], 0, 0, 0⟩, ⟨mk [47, 97, 47, 98], mk [120], 0, 0, 0⟩]
set_option maxRecDepth 100000 in
theorem h7_1 : m_part_Of (⟨1, (ByteArray.mk #[47, 97, 47, 98]), (ByteArray.mk #[120]), 0, 0, false⟩ : S_api_Op) = some [q71, q72] := by kernel_rfl
set_option maxRecDepth 100000 in
theorem h7_2 : m_part_Keep ([(⟨(ByteArray.mk #[47]), (ByteArray.mk #[]), 0, 3, 0⟩ : S_api_Node), (⟨(ByteArray.mk #[47, 97]), (ByteArray.mk #[]), 0, 0, 0⟩ : S_api_Node)] : List S_api_Node) = some s70 := by kernel_rfl
set_option maxRecDepth 100000 in
theorem h7_3 : m_part_Do s70 q71 = some (s70, res 0) := by kernel_rfl
set_option maxRecDepth 100000 in
theorem h7_4 : m_part_Do s70 q72 = some (s71, { res 0 with Path := mk [47, 97, 47, 98] }) := by kernel_rfl
set_option maxRecDepth 100000 in
theorem h7_5 : m_part_Do s70 (⟨0, (ByteArray.mk #[]), (ByteArray.mk #[]), (ByteArray.mk #[]), 0, 0, false⟩ : S_api_Part) = some (⟨[], []⟩, res 1) := by kernel_rfl
set_option maxRecDepth 100000 in
theorem h7_6 : m_part_Right s71 = some true := by kernel_rfl
set_option maxRecDepth 100000 in
theorem h7_7 : treeEnd s71.Nodes (putTs (fun _ => none) s71.Turns) s71.Turns.length = some (t71, true) := by kernel_rfl
theorem s71_ok : StoreOk s71 := by
  obtain ⟨b, h1, h2⟩ := partRight_eq s71 (by decide) (by decide)
  rw [h7_6] at h1
  cases h1
  exact h2.1 rfl
theorem h7_8 : m_part_Tree [s71] = some (t71, true) := (tree_one s71 (s71_ok.sms (by decide) (by decide)) s71_ok).trans h7_7
set_option maxRecDepth 100000 in
theorem h7_9 : m_part_Right s70 = some true := by kernel_rfl
set_option maxRecDepth 100000 in
theorem h7_a : m_part_May q71 = some true := by kernel_rfl
theorem head7_t : m_cantonlaw07_head = some true := by
  unfold m_cantonlaw07_head
  rw [h7_1]
  simp only [Option.bind_some]
  rw [h7_2]
  simp only [Option.bind_some]
  rw [if_neg (by decide), show idx [q71, q72] 0 = some q71 from rfl]
  simp only [Option.bind_some]
  rw [h7_3]
  simp only [Option.bind_some]
  unfold m_cantonlaw07_head_j1
  rw [show idx [q71, q72] 1 = some q72 from rfl]
  simp only [Option.bind_some]
  rw [show (⟨s70.Nodes, s70.Turns⟩ : Sto) = s70 from rfl, h7_4]
  simp only [Option.bind_some]
  unfold m_cantonlaw07_head_j2
  rw [h7_5, show (⟨s71.Nodes, s71.Turns⟩ : Sto) = s71 from rfl, h7_8, h7_9]
  simp only [Option.bind_some]
  rw [show idx [q71, q72] 0 = some q71 from rfl, show idx [q71, q72] 1 = some q72 from rfl, show idx t71 0 = some ⟨mk [47], mk [], 0, 3, 0⟩ from rfl]
  simp only [Option.bind_some]
  rw [h7_a]
  kernel_rfl
/-! ### PartTells -/
theorem both_do2 (s : Sto) (p : Pt1) (hs : SmS s) (hp : (bl p.Path).length ≤ 3000) (h1 : s.Nodes.length ≤ 80000) (h2 : s.Turns.length ≤ 80000) : ∃ r, m_part_Do s p = some r ∧ m_cantonref07_Do s p = some r ∧ r.1.Nodes.length ≤ 100000 ∧ r.1.Turns.length ≤ 100000 ∧ r.2.Names.length ≤ 100000 := by
  rcases Classical.em (StoreOk s ∧ mayP p = true) with h | h
  · obtain ⟨g1, g2, g3, g4⟩ := doP_ok s p h.1 h.2
    exact ⟨_, partDo_eq s p (by omega) (by omega) h.1 h.2, rDo_eq s p hs (by omega) h.1 h.2, by omega, by omega, by omega⟩
  · exact ⟨_, partDo_bad s p (by omega) (by omega) h, rDo_bad s p hs (by omega) h, by simp, by simp, by simp [res]⟩
theorem ptells_j1 (s : Sto) (p : Pt1) (hs : SmS s) (h1 : s.Nodes.length ≤ 1666) (h2 : s.Turns.length < 3000) (hp : (bl p.Path).length ≤ 3000) : m_cantonlaw07_PartTells_j1 true s p false = some true := by
  unfold m_cantonlaw07_PartTells_j1
  obtain ⟨r, g1, g2, g3, g4, g5⟩ := both_do2 s p hs hp (by omega) (by omega)
  rw [if_neg (by simp), g1, g2]
  simp only [Option.bind_some, if_true]
  obtain ⟨b, a1, a2⟩ := partRight_eq s (by omega) (by omega)
  obtain ⟨c, b1, b2⟩ := rRightS_eq s hs
  have e : b = c := Bool.eq_iff_iff.2 (a2.trans b2.symm)
  rw [a1, b1, e]
  simp only [Option.bind_some, beq_self_eq_true, if_true]
  rw [partMay_eq, rmayP_eq p (by omega)]
  simp only [Option.bind_some, beq_self_eq_true, if_true]
  rw [sameS_eq _ _ (by omega) (by omega)]
  simp only [Option.bind_some, decide_true, if_true]
  rw [SameOne_eq _ _ (by omega)]
  simp
theorem pure_ptells (s : Sto) (p : Pt1) (hlen : s.Nodes.length ≤ 140737488351232) : m_cantonlaw07_PartTells s p = some true := by
  unfold m_cantonlaw07_PartTells
  rw [head7_t]
  obtain ⟨b, h1, h2⟩ := great7_eq s hlen
  simp only [Option.bind_some]
  rw [h1]
  simp only [Option.bind_some]
  cases b with
  | true => rw [if_pos rfl]; rfl
  | false =>
    obtain ⟨g1, g2, g3⟩ := h2 rfl
    rw [if_neg (by simp)]
    obtain ⟨c, h3, h4⟩ := greatPart_eq p
    rw [h3]
    simp only [Option.bind_some]
    cases c with
    | true => rfl
    | false => exact ptells_j1 s p g1 g2 g3 (h4 rfl).2.1
end Go.Cb
