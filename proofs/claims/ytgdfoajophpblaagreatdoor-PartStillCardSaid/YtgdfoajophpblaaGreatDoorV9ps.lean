/- PartStill, plainly. -/
import Derived.Test.YtgdfoajophpblaaGreatDoorV8ps
import Derived.Test.YtgdfoajophpblaaGreatDoorKps2
set_option linter.unusedVariables false
set_option linter.unusedSimpArgs false
namespace Go.Cb
open Go.Proofs Go.RowKit

theorem doP_ne1 (s : Sto) (p : Pt1) : (doP s p).2.Err ≠ 1 := by
  have e : ∀ l : List Nd, (ndS l p).2 ≠ 1 := fun l => by
    unfold ndS
    split
    · decide
    · split <;> simp
  unfold doP putP
  repeat' split
  all_goals first | exact e _ | simp [res]
theorem doP_back (s : Sto) (p : Pt1) (h : (doP s p).2.Err ≠ 0 ∨ p.Kind = 1 ∨ p.Kind = 6 ∨ p.Kind = 7 ∨ p.Kind = 8 ∨ p.Kind = 9) : (doP s p).1 = s := by
  rcases h with h | h
  · revert h
    unfold doP putP
    repeat' split
    all_goals simp [res]
  · unfold doP
    rw [if_neg (by omega), if_neg (by omega)]
    split
    · rfl
    rw [if_neg (by omega)]
    split
    · rfl
    split
    · rfl
    rw [if_neg (by omega), if_neg (by omega)]
    split
    · rfl
    split <;> rfl
theorem pstill_j1 (s : Sto) (p : Pt1) (S : StoreOk s) (h1 : s.Nodes.length ≤ 1666) (h2 : s.Turns.length < 3000) : m_cantonlaw07_PartStill_j1 true s p false = some true := by
  unfold m_cantonlaw07_PartStill_j1
  rw [if_neg (by simp), ck_b (by simp [LIM]; omega), ck_b (by simp [LIM]; omega), List.nil_append, List.nil_append]
  unfold m_cantonlaw07_PartStill_j2
  rw [show (⟨s.Nodes, s.Turns⟩ : Sto) = s from rfl, sameS_eq s s (by omega) (by omega), decide_eq_true rfl]
  cases hm : mayP p with
  | false =>
    rw [partDo_bad s p (by omega) (by omega) (fun h => by rw [hm] at h; exact absurd h.2 (by simp))]
    simp only [Option.bind_some]
    rw [if_neg (by simp), if_pos (by rfl), if_pos trivial, sameS_eq _ _ (by simp) (by simp), decide_eq_true rfl]
    rfl
  | true =>
    obtain ⟨g1, g2, g3, g4⟩ := doP_ok s p S hm
    have ne := doP_ne1 s p
    rw [partDo_eq s p (by omega) (by omega) S hm]
    simp only [Option.bind_some]
    rw [if_neg (by simp), if_neg (by simpa using ne)]
    have j4t : (doP s p).1 = s → m_cantonlaw07_PartStill_j4 true (doP s p) s true = some true := fun e => by
      unfold m_cantonlaw07_PartStill_j4
      rw [if_pos rfl, if_pos rfl, e, sameS_eq s s (by omega) (by omega), decide_eq_true rfl]
      rfl
    have j3t : (doP s p).1 = s → m_cantonlaw07_PartStill_j3 true (doP s p) s true = some true := fun e => by
      unfold m_cantonlaw07_PartStill_j3
      rw [j4t e]
      split <;> rfl
    by_cases k1 : p.Kind = 1
    · rw [if_pos (by simpa using k1)]; exact j3t (doP_back s p (.inr (.inl k1)))
    rw [if_neg (by simpa using k1)]
    by_cases k2 : p.Kind = 6
    · rw [if_pos (by simpa using k2)]; exact j3t (doP_back s p (.inr (.inr (.inl k2))))
    rw [if_neg (by simpa using k2)]
    by_cases k3 : p.Kind = 7
    · rw [if_pos (by simpa using k3)]; exact j3t (doP_back s p (.inr (.inr (.inr (.inl k3)))))
    rw [if_neg (by simpa using k3)]
    by_cases k4 : p.Kind = 8
    · rw [if_pos (by simpa using k4)]; exact j3t (doP_back s p (.inr (.inr (.inr (.inr (.inl k4))))))
    rw [if_neg (by simpa using k4)]
    by_cases k5 : p.Kind = 9
    · rw [show (p.Kind == 9) = true from by simpa using k5]; exact j3t (doP_back s p (.inr (.inr (.inr (.inr (.inr k5))))))
    rw [show (p.Kind == 9) = false from by simpa using k5]
    unfold m_cantonlaw07_PartStill_j3
    by_cases e : (doP s p).2.Err = 0
    · rw [if_neg (by simpa using e)]
      unfold m_cantonlaw07_PartStill_j4
      obtain ⟨b, b1, b2⟩ := rRightS_eq (doP s p).1 (g1.sms (by omega) (by omega))
      rw [if_neg (by simp), if_pos rfl, b1, b2.2 g1]
      rfl
    · rw [if_pos (by simpa using e)]
      exact j4t (doP_back s p (.inl e))
theorem pure_pstill (s : Sto) (p : Pt1) (hlen : s.Nodes.length ≤ 140737488351232) : m_cantonlaw07_PartStill s p = some true := by
  have up : m_cantonlaw07_PartStill_j1 true s p true = some true := rfl
  unfold m_cantonlaw07_PartStill
  rw [head7_t]
  obtain ⟨b, h1, h2⟩ := great7_eq s hlen
  simp only [Option.bind_some]
  rw [h1]
  simp only [Option.bind_some]
  cases b with
  | true => rw [if_pos rfl]; exact up
  | false =>
    obtain ⟨g1, g2, g3⟩ := h2 rfl
    rw [if_neg (by simp)]
    obtain ⟨c, h3, h4⟩ := greatPart_eq p
    rw [h3]
    simp only [Option.bind_some]
    cases c with
    | true => rw [if_pos rfl]; exact up
    | false =>
      rw [if_neg (by simp)]
      obtain ⟨d, h5, h6⟩ := rRightS_eq s g1
      rw [h5]
      simp only [Option.bind_some]
      cases d with
      | false => exact up
      | true => exact pstill_j1 s p (h6.1 rfl) g2 g3
end Go.Cb
