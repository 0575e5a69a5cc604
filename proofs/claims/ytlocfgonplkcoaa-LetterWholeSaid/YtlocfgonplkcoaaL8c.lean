/- Answers, plainly: how the document reads them. -/
import Derived.Test.YtlocfgonplkcoaaL7c
set_option linter.unusedVariables false
set_option linter.unusedSimpArgs false
namespace Go.Cb
open Go.RowKit
def rOneResult (l : List Int) (e : Int) : Option (S_api_Result × List Int × Int) :=
  (m_cantonref02_Reader_Num l e 281474976710656).bind fun u28 => (m_cantonref02_Reader_Text u28.2.1 u28.2.2).bind fun u31 => (m_cantonref02_Reader_Text u31.2.1 u31.2.2).bind fun u34 => (m_cantonref02_Reader_Num u34.2.1 u34.2.2 281474976710656).bind fun u37 => (m_cantonref02_Reader_Texts u37.2.1 u37.2.2).bind fun u40 => some (⟨u28.1, u31.1, u34.1, u37.1, u40.1⟩, u40.2.1, u40.2.2)
theorem rOneResult_m (l : List Int) (e : Int) (h : Good l) : rOneResult l e = some (cResult.P l e) := by
  unfold rOneResult
  rw [rrN e h]
  simp only [Option.bind_some]
  have g1 := rdN_good (M := 281474976710656) e h
  rw [rrT _ g1]
  simp only [Option.bind_some]
  have g2 := rdTe_good (rdN 281474976710656 l e).2.2 g1
  rw [rrT _ g2]
  simp only [Option.bind_some]
  have g3 := rdTe_good (rdTe (rdN 281474976710656 l e).2.1 (rdN 281474976710656 l e).2.2).2.2 g2
  rw [rrN _ g3]
  simp only [Option.bind_some]
  rw [rrL _ (rdN_good _ g3)]
  rfl
def rOneNode (l : List Int) (e : Int) : Option (S_api_Node × List Int × Int) :=
  (m_cantonref02_Reader_Text l e).bind fun u68 => (m_cantonref02_Reader_Text u68.2.1 u68.2.2).bind fun u71 => (m_cantonref02_Reader_Num u71.2.1 u71.2.2 281474976710656).bind fun u74 => (m_cantonref02_Reader_Num u74.2.1 u74.2.2 281474976710656).bind fun u77 => some (⟨u68.1, u71.1, u74.1, 0, u77.1⟩, u77.2.1, u77.2.2)
theorem rOneNode_m (l : List Int) (e : Int) (h : Good l) : rOneNode l e = some (cNode.P l e) := by
  unfold rOneNode
  rw [rrT e h]
  simp only [Option.bind_some]
  have g1 := rdTe_good e h
  rw [rrT _ g1]
  simp only [Option.bind_some]
  have g2 := rdTe_good (rdTe l e).2.2 g1
  rw [rrN _ g2]
  simp only [Option.bind_some]
  rw [rrN _ (rdN_good _ g2)]
  rfl
def rOneTurn (l : List Int) (e : Int) : Option (S_api_Turn × List Int × Int) :=
  (m_cantonref02_Reader_Text l e).bind fun u45 => (m_cantonref02_Reader_Num u45.2.1 u45.2.2 281474976710656).bind fun u48 => some (⟨u45.1, u48.1⟩, u48.2.1, u48.2.2)
theorem rOneTurn_m (l : List Int) (e : Int) (h : Good l) : rOneTurn l e = some (cTurn.P l e) := by
  unfold rOneTurn
  rw [rrT e h]
  simp only [Option.bind_some]
  rw [rrN _ (rdTe_good e h)]
  rfl
def rOneEvent (l : List Int) (e : Int) : Option (S_api_Event × List Int × Int) :=
  (m_cantonref02_Reader_Num l e 281474976710656).bind fun u149 => (m_cantonref02_Reader_Num u149.2.1 u149.2.2 281474976710656).bind fun u152 => (m_cantonref02_Reader_Text u152.2.1 u152.2.2).bind fun u155 => (m_cantonref02_Reader_Num u155.2.1 u155.2.2 281474976710656).bind fun u158 => some (⟨u149.1, u152.1, u155.1, u158.1⟩, u158.2.1, u158.2.2)
theorem rOneEvent_m (l : List Int) (e : Int) (h : Good l) : rOneEvent l e = some (cEvent.P l e) := by
  unfold rOneEvent
  rw [rrN e h]
  simp only [Option.bind_some]
  have g1 := rdN_good (M := 281474976710656) e h
  rw [rrN _ g1]
  simp only [Option.bind_some]
  have g2 := rdN_good (M := 281474976710656) (rdN 281474976710656 l e).2.2 g1
  rw [rrT _ g2]
  simp only [Option.bind_some]
  rw [rrN _ (rdTe_good _ g2)]
  rfl
def rOneMount (l : List Int) (e : Int) : Option (S_api_Mount × List Int × Int) :=
  (m_cantonref02_Reader_Text l e).bind fun u118 => (m_cantonref02_Reader_Num u118.2.1 u118.2.2 281474976710656).bind fun u121 => (m_cantonref02_Reader_Num u121.2.1 u121.2.2 281474976710656).bind fun u124 => (m_cantonref02_Reader_Num u124.2.1 u124.2.2 281474976710656).bind fun u127 => some (⟨u118.1, u121.1, u124.1, u127.1⟩, u127.2.1, u127.2.2)
theorem rOneMount_m (l : List Int) (e : Int) (h : Good l) : rOneMount l e = some (cMount.P l e) := by
  unfold rOneMount
  rw [rrT e h]
  simp only [Option.bind_some]
  have g1 := rdTe_good e h
  rw [rrN _ g1]
  simp only [Option.bind_some]
  have g2 := rdN_good (M := 281474976710656) (rdTe l e).2.2 g1
  rw [rrN _ g2]
  simp only [Option.bind_some]
  rw [rrN _ (rdN_good _ g2)]
  rfl
/-- such a loop, begun. -/
theorem up_start {α β : Type} (A : Codec α) {l : List Int} (e : Int) (h : Good l) (one : List Int → Int → Option (α × List Int × Int)) (hone : ∀ l e, Good l → one l e = some (A.P l e)) (F : Nat → List α → Int → List Int → Int → Option β) (K : List α → List Int → Int → Option β)
    (hF : ∀ k acc x l' e', F (k + 1) acc x l' e' = if (decide (x < (rdN 281474976710656 l e).1)) = true then (if (e' == 0) = true then ((one l' e').bind fun u => (ck (acc.length + [u.1].length ≤ LIM)).bind fun _ => F k (acc ++ [u.1]) (IntKind.i64.wrap (x + 1)) u.2.1 u.2.2) else K acc l' e') else K acc l' e') :
    F ((rdN 281474976710656 l e).1.toNat + 2) [] 0 (rdN 281474976710656 l e).2.1 (rdN 281474976710656 l e).2.2 = K ((cList A).P l e).1 ((cList A).P l e).2.1 ((cList A).P l e).2.2 := by
  obtain ⟨n, h1, h2⟩ := rdN_nat (M := 281474976710656) e h
  have g := rdN_good (M := 281474976710656) e h
  rw [h1] at hF
  have := up_gen A n h2 one hone F K hF n (n + 2) [] (rdN 281474976710656 l e).2.1 (rdN 281474976710656 l e).2.2 (Nat.le_refl _) (by omega) g (fun _ => by have := g.n; simp; omega)
  rw [Nat.sub_self] at this
  have e2 : (cList A).P l e = rows A n [] (rdN 281474976710656 l e).2.1 (rdN 281474976710656 l e).2.2 := by
    show rows _ _ _ _ _ = _
    rw [h1, Int.toNat_natCast]
  rw [h1, Int.toNat_natCast, e2]
  exact this
theorem resultsR {l : List Int} (e : Int) (h : Good l) : m_cantonref17_results l e = some ((cList cResult).P l e) := by
  unfold m_cantonref17_results
  rw [rrN e h]
  simp only [Option.bind_some]
  exact up_start cResult e h rOneResult rOneResult_m (m_cantonref17_results_l1 _) (fun acc l e => some (acc, l, e)) (fun k acc x l' e' => by
    rw [m_cantonref17_results_l1]; simp only [rOneResult, Option.bind_assoc, Option.bind_some, m_cantonref17_results_j1])
theorem storeR {l : List Int} (e : Int) (h : Good l) : m_cantonref17_store l e = some (⟨((cList cNode).P l e).1, ((cList cTurn).P ((cList cNode).P l e).2.1 ((cList cNode).P l e).2.2).1⟩, ((cList cTurn).P ((cList cNode).P l e).2.1 ((cList cNode).P l e).2.2).2) := by
  unfold m_cantonref17_store
  rw [rrN e h]
  simp only [Option.bind_some]
  have h1 := up_start cNode e h rOneNode rOneNode_m (fun k acc x l' e' => m_cantonref17_store_l2 (rdN 281474976710656 l e) k x l' e' acc) (fun acc l' e' => m_cantonref17_store_j1 l' e' acc) (fun k acc x l' e' => by
    show m_cantonref17_store_l2 _ (k + 1) x l' e' acc = _
    rw [m_cantonref17_store_l2]; simp only [rOneNode, Option.bind_assoc, Option.bind_some])
  rw [h1]
  have g := (cList cNode).good e h
  unfold m_cantonref17_store_j1
  rw [rrN _ g]
  simp only [Option.bind_some]
  exact up_start cTurn _ g rOneTurn rOneTurn_m (fun k acc x l' e' => m_cantonref17_store_l1 _ _ k x l' e' acc) (fun acc l' e' => m_cantonref17_store_j2 _ acc l' e') (fun k acc x l' e' => by
    show m_cantonref17_store_l1 _ _ (k + 1) x l' e' acc = _
    rw [m_cantonref17_store_l1]; simp only [rOneTurn, Option.bind_assoc, Option.bind_some])
theorem getAR_m {l : List Int} (h : Good l) : m_cantonref17_GetAnswer l = some (cAnswer.get zAnswer l) := by
  unfold m_cantonref17_GetAnswer
  rw [r_new l (by have := h.n; simp [LIM]; omega)]
  simp only [Option.bind_some]
  rw [rrN 0 h]
  simp only [Option.bind_some]
  have g1 := rdN_good (M := 281474976710656) 0 h
  generalize hx1 : rdN 281474976710656 l 0 = x1 at *
  rw [rrN _ g1]
  simp only [Option.bind_some]
  have g2 := rdN_good (M := 281474976710656) x1.2.2 g1
  generalize hx2 : rdN 281474976710656 x1.2.1 x1.2.2 = x2 at *
  rw [rrN _ g2]
  simp only [Option.bind_some]
  have g3 := rdN_good (M := 1) x2.2.2 g2
  generalize hx3 : rdN 1 x2.2.1 x2.2.2 = x3 at *
  rw [rrN _ g3]
  simp only [Option.bind_some]
  have g4 := rdN_good (M := 281474976710656) x3.2.2 g3
  generalize hx4 : rdN 281474976710656 x3.2.1 x3.2.2 = x4 at *
  rw [resultsR _ g4]
  simp only [Option.bind_some]
  have g5 := (cList cResult).good x4.2.2 g4
  generalize hx5 : (cList cResult).P x4.2.1 x4.2.2 = x5 at *
  rw [storeR _ g5]
  simp only [Option.bind_some]
  have g6 := (cList cNode).good x5.2.2 g5
  generalize hx6 : (cList cNode).P x5.2.1 x5.2.2 = x6 at *
  have g7 := (cList cTurn).good x6.2.2 g6
  generalize hx7 : (cList cTurn).P x6.2.1 x6.2.2 = x7 at *
  rw [rrN _ g7]
  simp only [Option.bind_some]
  have k1 := up_start cEvent x7.2.2 g7 rOneEvent rOneEvent_m (fun k acc x l' e' => m_cantonref17_GetAnswer_l3 x1 x2 x3 x4 x5 (⟨x6.1, x7.1⟩, x7.2) (rdN 281474976710656 x7.2.1 x7.2.2) k x l' e' acc) (fun acc l' e' => m_cantonref17_GetAnswer_j1 x1 x2 x3 x4 x5 (⟨x6.1, x7.1⟩, x7.2) l' e' acc) (fun k acc x l' e' => by
    show m_cantonref17_GetAnswer_l3 _ _ _ _ _ _ _ (k + 1) x l' e' acc = _
    rw [m_cantonref17_GetAnswer_l3]; simp only [rOneEvent, Option.bind_assoc, Option.bind_some])
  rw [k1]
  have g8 := (cList cEvent).good x7.2.2 g7
  generalize hx8 : (cList cEvent).P x7.2.1 x7.2.2 = x8 at *
  unfold m_cantonref17_GetAnswer_j1
  rw [rrN _ g8]
  simp only [Option.bind_some]
  have k2 := up_start cMount x8.2.2 g8 rOneMount rOneMount_m (fun k acc x l' e' => m_cantonref17_GetAnswer_l2 x1 x2 x3 x4 x5 (⟨x6.1, x7.1⟩, x7.2) x8.1 (rdN 281474976710656 x8.2.1 x8.2.2) k x l' e' acc) (fun acc l' e' => m_cantonref17_GetAnswer_j2 x1 x2 x3 x4 x5 (⟨x6.1, x7.1⟩, x7.2) x8.1 l' e' acc) (fun k acc x l' e' => by
    show m_cantonref17_GetAnswer_l2 _ _ _ _ _ _ _ _ (k + 1) x l' e' acc = _
    rw [m_cantonref17_GetAnswer_l2]; simp only [rOneMount, Option.bind_assoc, Option.bind_some])
  rw [k2]
  have g9 := (cList cMount).good x8.2.2 g8
  generalize hx9 : (cList cMount).P x8.2.1 x8.2.2 = x9 at *
  unfold m_cantonref17_GetAnswer_j2
  rw [rrN _ g9]
  simp only [Option.bind_some]
  have k3 := up_start cNum x9.2.2 g9 (fun l e => m_cantonref02_Reader_Num l e 281474976710656) (fun l e h => rrN e h) (fun k acc x l' e' => m_cantonref17_GetAnswer_l1 x1 x2 x3 x4 x5 (⟨x6.1, x7.1⟩, x7.2) x8.1 x9.1 (rdN 281474976710656 x9.2.1 x9.2.2) k x l' e' acc) (fun acc l' e' => m_cantonref17_GetAnswer_j3 x1 x2 x3 x4 x5 (⟨x6.1, x7.1⟩, x7.2) x8.1 x9.1 l' e' acc) (fun k acc x l' e' => by
    show m_cantonref17_GetAnswer_l1 _ _ _ _ _ _ _ _ _ (k + 1) x l' e' acc = _
    rw [m_cantonref17_GetAnswer_l1])
  rw [k3]
  unfold m_cantonref17_GetAnswer_j3
  rw [r_end]
  simp only [Option.bind_some]
  have hP : cAnswer.P l 0 = (⟨x1.1, x2.1, x3.1 == 1, x4.1, x5.1, ⟨x6.1, x7.1⟩, x8.1, x9.1, ((cList cNum).P x9.2.1 x9.2.2).1⟩, ((cList cNum).P x9.2.1 x9.2.2).2) := by
    subst hx9 hx8 hx7 hx6 hx5 hx4 hx3 hx2 hx1
    rfl
  unfold Codec.get
  rw [hP]
  by_cases hc : ((cList cNum).P x9.2.1 x9.2.2).2.2 = 0 ∧ ((cList cNum).P x9.2.1 x9.2.2).2.1 = []
  · rw [if_neg (by rw [p_end']; exact fun h => h hc), if_pos hc]
  · rw [if_pos (by rw [p_end']; exact hc), if_neg hc]; rfl
end Go.Cb
