/- Answers, plainly: how they are read. -/
import Derived.Test.YtlocfgonplkcoaaL6c
import Derived.Test.YtlocfgonplkcoaaKc2
import Derived.Test.YtlocfgonplkcoaaKc4
set_option linter.unusedVariables false
set_option linter.unusedSimpArgs false
namespace Go.Cb
open Go.RowKit
theorem oneResult {l : List Int} (e : Int) (h : Good l) : m_letter_reader_result l e = some (cResult.P l e) := by
  unfold m_letter_reader_result
  rw [num_m e h]
  simp only [Option.bind_some]
  have g1 := rdN_good (M := 281474976710656) e h
  rw [prT _ g1]
  simp only [Option.bind_some]
  have g2 := rdTe_good (rdN 281474976710656 l e).2.2 g1
  rw [prT _ g2]
  simp only [Option.bind_some]
  have g3 := rdTe_good (rdTe (rdN 281474976710656 l e).2.1 (rdN 281474976710656 l e).2.2).2.2 g2
  rw [num_m _ g3]
  simp only [Option.bind_some]
  rw [prL _ (rdN_good _ g3)]
  rfl
theorem oneNode {l : List Int} (e : Int) (h : Good l) : m_letter_reader_node l e = some (cNode.P l e) := by
  unfold m_letter_reader_node
  rw [prT e h]
  simp only [Option.bind_some]
  have g1 := rdTe_good e h
  rw [prT _ g1]
  simp only [Option.bind_some]
  have g2 := rdTe_good (rdTe l e).2.2 g1
  rw [num_m _ g2]
  simp only [Option.bind_some]
  rw [num_m _ (rdN_good _ g2)]
  rfl
theorem oneTurn {l : List Int} (e : Int) (h : Good l) : m_letter_reader_turn l e = some (cTurn.P l e) := by
  unfold m_letter_reader_turn
  rw [prT e h]
  simp only [Option.bind_some]
  rw [num_m _ (rdTe_good e h)]
  rfl
theorem oneEvent {l : List Int} (e : Int) (h : Good l) : m_letter_reader_event l e = some (cEvent.P l e) := by
  unfold m_letter_reader_event
  rw [num_m e h]
  simp only [Option.bind_some]
  have g1 := rdN_good (M := 281474976710656) e h
  rw [small_m _ g1]
  simp only [Option.bind_some]
  have g2 := rdN_good (M := 281474976710656) (rdN 281474976710656 l e).2.2 g1
  rw [prT _ g2]
  simp only [Option.bind_some]
  rw [num_m _ (rdTe_good _ g2)]
  rfl
theorem oneMount {l : List Int} (e : Int) (h : Good l) : m_letter_reader_mount l e = some (cMount.P l e) := by
  unfold m_letter_reader_mount
  rw [prT e h]
  simp only [Option.bind_some]
  have g1 := rdTe_good e h
  rw [small_m _ g1]
  simp only [Option.bind_some]
  have g2 := rdN_good (M := 281474976710656) (rdTe l e).2.2 g1
  rw [num_m _ g2]
  simp only [Option.bind_some]
  rw [small_m _ (rdN_good _ g2)]
  rfl
theorem someResult {l : List Int} (e : Int) (h : Good l) : m_letter_some_api_Result l e = some ((cList cResult).P l e) := by
  unfold m_letter_some_api_Result
  rw [num_m e h]
  simp only [Option.bind_some]
  obtain ⟨n, h1, h2⟩ := rdN_nat (M := 281474976710656) e h
  have g := rdN_good (M := 281474976710656) e h
  have := some_gen cResult m_letter_reader_result (fun l e h => oneResult e h) m_letter_some_api_Result_l1 (fun acc l e => some (acc, l, e)) (fun _ _ _ _ _ => rfl) n (n + 2) [] (rdN 281474976710656 l e).2.1 (rdN 281474976710656 l e).2.2 (by omega) h2 g (fun _ => by have := g.n; simp; omega)
  have e2 : (cList cResult).P l e = rows cResult n [] (rdN 281474976710656 l e).2.1 (rdN 281474976710656 l e).2.2 := by
    show rows _ _ _ _ _ = _
    rw [h1, Int.toNat_natCast]
  rw [h1, Int.toNat_natCast, this, e2]
theorem someNode {l : List Int} (e : Int) (h : Good l) : m_letter_some_api_Node l e = some ((cList cNode).P l e) := by
  unfold m_letter_some_api_Node
  rw [num_m e h]
  simp only [Option.bind_some]
  obtain ⟨n, h1, h2⟩ := rdN_nat (M := 281474976710656) e h
  have g := rdN_good (M := 281474976710656) e h
  have := some_gen cNode m_letter_reader_node (fun l e h => oneNode e h) m_letter_some_api_Node_l1 (fun acc l e => some (acc, l, e)) (fun _ _ _ _ _ => rfl) n (n + 2) [] (rdN 281474976710656 l e).2.1 (rdN 281474976710656 l e).2.2 (by omega) h2 g (fun _ => by have := g.n; simp; omega)
  have e2 : (cList cNode).P l e = rows cNode n [] (rdN 281474976710656 l e).2.1 (rdN 281474976710656 l e).2.2 := by
    show rows _ _ _ _ _ = _
    rw [h1, Int.toNat_natCast]
  rw [h1, Int.toNat_natCast, this, e2]
theorem someTurn {l : List Int} (e : Int) (h : Good l) : m_letter_some_api_Turn l e = some ((cList cTurn).P l e) := by
  unfold m_letter_some_api_Turn
  rw [num_m e h]
  simp only [Option.bind_some]
  obtain ⟨n, h1, h2⟩ := rdN_nat (M := 281474976710656) e h
  have g := rdN_good (M := 281474976710656) e h
  have := some_gen cTurn m_letter_reader_turn (fun l e h => oneTurn e h) m_letter_some_api_Turn_l1 (fun acc l e => some (acc, l, e)) (fun _ _ _ _ _ => rfl) n (n + 2) [] (rdN 281474976710656 l e).2.1 (rdN 281474976710656 l e).2.2 (by omega) h2 g (fun _ => by have := g.n; simp; omega)
  have e2 : (cList cTurn).P l e = rows cTurn n [] (rdN 281474976710656 l e).2.1 (rdN 281474976710656 l e).2.2 := by
    show rows _ _ _ _ _ = _
    rw [h1, Int.toNat_natCast]
  rw [h1, Int.toNat_natCast, this, e2]
theorem someEvent {l : List Int} (e : Int) (h : Good l) : m_letter_some_api_Event l e = some ((cList cEvent).P l e) := by
  unfold m_letter_some_api_Event
  rw [num_m e h]
  simp only [Option.bind_some]
  obtain ⟨n, h1, h2⟩ := rdN_nat (M := 281474976710656) e h
  have g := rdN_good (M := 281474976710656) e h
  have := some_gen cEvent m_letter_reader_event (fun l e h => oneEvent e h) m_letter_some_api_Event_l1 (fun acc l e => some (acc, l, e)) (fun _ _ _ _ _ => rfl) n (n + 2) [] (rdN 281474976710656 l e).2.1 (rdN 281474976710656 l e).2.2 (by omega) h2 g (fun _ => by have := g.n; simp; omega)
  have e2 : (cList cEvent).P l e = rows cEvent n [] (rdN 281474976710656 l e).2.1 (rdN 281474976710656 l e).2.2 := by
    show rows _ _ _ _ _ = _
    rw [h1, Int.toNat_natCast]
  rw [h1, Int.toNat_natCast, this, e2]
theorem someMount {l : List Int} (e : Int) (h : Good l) : m_letter_some_api_Mount l e = some ((cList cMount).P l e) := by
  unfold m_letter_some_api_Mount
  rw [num_m e h]
  simp only [Option.bind_some]
  obtain ⟨n, h1, h2⟩ := rdN_nat (M := 281474976710656) e h
  have g := rdN_good (M := 281474976710656) e h
  have := some_gen cMount m_letter_reader_mount (fun l e h => oneMount e h) m_letter_some_api_Mount_l1 (fun acc l e => some (acc, l, e)) (fun _ _ _ _ _ => rfl) n (n + 2) [] (rdN 281474976710656 l e).2.1 (rdN 281474976710656 l e).2.2 (by omega) h2 g (fun _ => by have := g.n; simp; omega)
  have e2 : (cList cMount).P l e = rows cMount n [] (rdN 281474976710656 l e).2.1 (rdN 281474976710656 l e).2.2 := by
    show rows _ _ _ _ _ = _
    rw [h1, Int.toNat_natCast]
  rw [h1, Int.toNat_natCast, this, e2]
theorem someint {l : List Int} (e : Int) (h : Good l) : m_letter_some_int64 l e = some ((cList cNum).P l e) := by
  unfold m_letter_some_int64
  rw [num_m e h]
  simp only [Option.bind_some]
  obtain ⟨n, h1, h2⟩ := rdN_nat (M := 281474976710656) e h
  have g := rdN_good (M := 281474976710656) e h
  have := some_gen cNum m_letter_reader_num (fun l e h => num_m e h) m_letter_some_int64_l1 (fun acc l e => some (acc, l, e)) (fun _ _ _ _ _ => rfl) n (n + 2) [] (rdN 281474976710656 l e).2.1 (rdN 281474976710656 l e).2.2 (by omega) h2 g (fun _ => by have := g.n; simp; omega)
  have e2 : (cList cNum).P l e = rows cNum n [] (rdN 281474976710656 l e).2.1 (rdN 281474976710656 l e).2.2 := by
    show rows _ _ _ _ _ = _
    rw [h1, Int.toNat_natCast]
  rw [h1, Int.toNat_natCast, this, e2]
theorem getA_m {l : List Int} (h : Good l) : m_letter_GetAnswer l = some (cAnswer.get zAnswer l) := by
  unfold m_letter_GetAnswer
  rw [p_new l (by have := h.n; simp [LIM]; omega)]
  simp only [Option.bind_some]
  rw [num_m 0 h]
  simp only [Option.bind_some]
  have g1 := rdN_good (M := 281474976710656) 0 h
  generalize hx1 : rdN 281474976710656 l 0 = x1 at *
  rw [small_m _ g1]
  simp only [Option.bind_some]
  have g2 := rdN_good (M := 281474976710656) x1.2.2 g1
  generalize hx2 : rdN 281474976710656 x1.2.1 x1.2.2 = x2 at *
  rw [prN _ g2]
  simp only [Option.bind_some]
  have g3 := rdN_good (M := 1) x2.2.2 g2
  generalize hx3 : rdN 1 x2.2.1 x2.2.2 = x3 at *
  rw [num_m _ g3]
  simp only [Option.bind_some]
  have g4 := rdN_good (M := 281474976710656) x3.2.2 g3
  generalize hx4 : rdN 281474976710656 x3.2.1 x3.2.2 = x4 at *
  rw [someResult _ g4]
  simp only [Option.bind_some]
  have g5 := (cList cResult).good x4.2.2 g4
  generalize hx5 : (cList cResult).P x4.2.1 x4.2.2 = x5 at *
  rw [someNode _ g5]
  simp only [Option.bind_some]
  have g6 := (cList cNode).good x5.2.2 g5
  generalize hx6 : (cList cNode).P x5.2.1 x5.2.2 = x6 at *
  rw [someTurn _ g6]
  simp only [Option.bind_some]
  have g7 := (cList cTurn).good x6.2.2 g6
  generalize hx7 : (cList cTurn).P x6.2.1 x6.2.2 = x7 at *
  rw [someEvent _ g7]
  simp only [Option.bind_some]
  have g8 := (cList cEvent).good x7.2.2 g7
  generalize hx8 : (cList cEvent).P x7.2.1 x7.2.2 = x8 at *
  rw [someMount _ g8]
  simp only [Option.bind_some]
  have g9 := (cList cMount).good x8.2.2 g8
  generalize hx9 : (cList cMount).P x8.2.1 x8.2.2 = x9 at *
  rw [someint _ g9]
  simp only [Option.bind_some]
  unfold m_letter_whole_api_Answer
  rw [p_end]
  simp only [Option.bind_some]
  have hP : cAnswer.P l 0 = (⟨x1.1, x2.1, x3.1 == 1, x4.1, x5.1, ⟨x6.1, x7.1⟩, x8.1, x9.1, ((cList cNum).P x9.2.1 x9.2.2).1⟩, ((cList cNum).P x9.2.1 x9.2.2).2) := by
    subst hx9 hx8 hx7 hx6 hx5 hx4 hx3 hx2 hx1
    rfl
  unfold Codec.get
  rw [hP]
  by_cases hc : ((cList cNum).P x9.2.1 x9.2.2).2.2 = 0 ∧ ((cList cNum).P x9.2.1 x9.2.2).2.1 = []
  · rw [if_neg (by rw [p_end']; exact fun h => h hc), if_pos hc]; rfl
  · rw [if_pos (by rw [p_end']; exact hc), if_neg hc]; rfl
end Go.Cb
