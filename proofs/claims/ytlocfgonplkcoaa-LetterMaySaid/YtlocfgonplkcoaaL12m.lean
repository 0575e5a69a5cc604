/- Letters: LetterMay, plainly. -/
import Derived.Test.YtlocfgonplkcoaaL11m
import Derived.Test.YtlocfgonplkcoaaKm4
set_option linter.unusedVariables false
set_option linter.unusedSimpArgs false
namespace Go.Cb
open Go.RowKit
theorem may_m (x : Int) : m_cantonlaw17_may x = some (!badN x) := by
  unfold m_cantonlaw17_may badN
  by_cases h : x ≥ 0
  · rw [if_pos (by simpa using h)]; simp; intro _; omega
  · rw [if_neg (by simpa using h)]; simp; omega
theorem flag_gen {α β : Type} (L : List α) (hL : L.length ≤ 1000000000000) (g : α → Bool) (F : Nat → Bool → Int → Option β) (K : Bool → Option β) (hF : ∀ k b (i : Nat) (hi : i < L.length), F (k + 1) b (i : Int) = F k (b && g L[i]) (IntKind.i64.wrap ((i : Int) + 1))) (h0 : ∀ k b, F (k + 1) b (L.length : Int) = K b) :
    ∀ (k i f : Nat) (b : Bool), i + k = L.length → k + 1 ≤ f → F f b (i : Int) = K (b && (L.drop i).all g)
  | k, i, 0, b, h, h' => by omega
  | 0, i, f + 1, b, h, h' => by
    have : i = L.length := by omega
    subst this
    rw [h0, List.drop_length]; simp
  | k + 1, i, f + 1, b, h, h' => by
    have hi : i < L.length := by omega
    rw [hF f b i hi, show IntKind.i64.wrap ((i : Int) + 1) = ((i + 1 : Nat) : Int) from by rw [w64 (by omega) (by omega)]; rfl]
    rw [flag_gen L hL g F K hF h0 k (i + 1) f _ (by omega) (by omega)]
    rw [List.drop_eq_getElem_cons hi, List.all_cons, Bool.and_assoc]
theorem flag_start {α β : Type} (L : List α) (hL : L.length ≤ 1000000000000) (g : α → Bool) (F : Nat → Bool → Int → Option β) (K : Bool → Option β) (hF : ∀ k b (i : Nat) (hi : i < L.length), F (k + 1) b (i : Int) = F k (b && g L[i]) (IntKind.i64.wrap ((i : Int) + 1))) (h0 : ∀ k b, F (k + 1) b (L.length : Int) = K b) (b : Bool) :
    F (((L.length : Int) - 0 : Int).toNat + 1) b 0 = K (b && L.all g) := by
  have := flag_gen L hL g F K hF h0 L.length 0 (((L.length : Int) - 0 : Int).toNat + 1) b (by omega) (by omega)
  rw [List.drop_zero] at this
  exact this
theorem all_any {α : Type} (A : Codec α) (g : α → Bool) (hg : ∀ x, g x = !A.bad x) (L : List α) (hL : L.length ≤ 20000) : L.all g = !(cList A).bad L := by
  have e2 : (cList A).bad L = (badN (L.length : Int) || L.any A.bad) := rfl
  rw [e2, (badN_nat (n := L.length) (by omega)).1, Bool.false_or]
  induction L with
  | nil => rfl
  | cons x L ih =>
    have := ih (by simp at hL; omega) rfl
    rw [List.all_cons, List.any_cons, this, hg, Bool.not_or]
theorem pure_may (s : Saved) (a : Answer) (hs : s.Log.length ≤ 140737488351232) (h : InA a) : m_cantonlaw17_LetterMay s a = some true := by
  unfold m_cantonlaw17_LetterMay
  rw [head_t]
  simp only [Option.bind_some]
  have hj : ∀ b, b = true → m_cantonlaw17_LetterMay_j1 a true s b = some true := by rintro _ rfl; rfl
  rcases greatlog_two s.Log hs with hg | ⟨hg, g3, g4, g4'⟩
  · rw [hg]; exact hj _ rfl
  rw [hg]
  simp only [Option.bind_some, Bool.false_eq_true, if_false]
  obtain ⟨b, h1, h2⟩ := greatA a h
  show (m_cantonlaw17_GreatAnswer a).bind _ = _
  rw [h1]
  simp only [Option.bind_some]
  cases b with
  | true => exact hj _ rfl
  | false =>
    have hf := h2 rfl
    have q1 := all_any cResult (fun x => !badN x.Err && !badN x.Version) (fun x => by
      have : cResult.bad x = (badN x.Err || (false || (false || (badN x.Version || false)))) := rfl
      rw [this]; simp) a.Results hf.r
    have q2 := all_any cNode (fun x => !badN x.Version && (!badN x.Owner && x.Turn == 0)) (fun x => by
      have : cNode.bad x = ((false || (false || (badN x.Version || badN x.Owner))) || !(x.Turn == 0)) := rfl
      rw [this]; simp [Bool.and_assoc]) a.Store.Nodes hf.n
    have q3 := all_any cTurn (fun x => !badN x.Next) (fun x => by
      have : cTurn.bad x = (false || badN x.Next) := rfl
      rw [this]; simp) a.Store.Turns hf.t
    have q4 := all_any cEvent (fun x => !badN x.Num && (!badN x.Kind && !badN x.Watch)) (fun x => by
      have : cEvent.bad x = (badN x.Num || (badN x.Kind || (false || badN x.Watch))) := rfl
      rw [this]; simp) a.Events hf.e
    have q5 := all_any cMount (fun x => !badN x.Group && (!badN x.Epoch && !badN x.To)) (fun x => by
      have : cMount.bad x = (false || (badN x.Group || (badN x.Epoch || badN x.To))) := rfl
      rw [this]; simp) a.Mounts hf.m
    have q6 := all_any cNum (fun x => !badN x) (fun x => rfl) a.Wounded hf.w
    have kr := hf.short
    have l1 : ∀ b0 : Bool, m_cantonlaw17_LetterMay_j2 a true s (cSaved.put s) (cAnswer.put a) b0 = some (((cSaved.put s).2 == 0) == (!badN s.View && !badN s.Normal) && (((cAnswer.put a).2 == 0) == (b0 && !(cList cResult).bad a.Results && !(cList cNode).bad a.Store.Nodes && !(cList cTurn).bad a.Store.Turns && !(cList cEvent).bad a.Events && !(cList cMount).bad a.Mounts && !(cList cNum).bad a.Wounded))) := fun b0 => by
      unfold m_cantonlaw17_LetterMay_j2
      rw [flag_start a.Results kr.r (m_cantonlaw17_LetterMay_l1 a true s (cSaved.put s) (cAnswer.put a)) (fun b => m_cantonlaw17_LetterMay_l2 a true s (cSaved.put s) (cAnswer.put a) (((a.Store.Nodes.length : Int) - 0 : Int).toNat + 1) b 0) (g := fun x => !badN x.Err && !badN x.Version)
        (fun k b i hi => by
          rw [m_cantonlaw17_LetterMay_l1, if_pos (by simpa using hi)]
          simp only [idx_lt hi, may_m, Option.bind_some, m_cantonlaw17_LetterMay_j3]
          cases b <;> cases badN a.Results[i].Err <;> simp)
        (fun k b => by rw [m_cantonlaw17_LetterMay_l1, if_neg (by simp)]) b0, q1]
      rw [flag_start a.Store.Nodes kr.n (m_cantonlaw17_LetterMay_l2 a true s (cSaved.put s) (cAnswer.put a)) (fun b => m_cantonlaw17_LetterMay_l3 a true s (cSaved.put s) (cAnswer.put a) (((a.Store.Turns.length : Int) - 0 : Int).toNat + 1) b 0) (g := fun x => !badN x.Version && (!badN x.Owner && x.Turn == 0))
        (fun k b i hi => by
          rw [m_cantonlaw17_LetterMay_l2, if_pos (by simpa using hi)]
          simp only [idx_lt hi, may_m, Option.bind_some, m_cantonlaw17_LetterMay_j4]
          cases b <;> cases badN a.Store.Nodes[i].Version <;> cases badN a.Store.Nodes[i].Owner <;> simp)
        (fun k b => by rw [m_cantonlaw17_LetterMay_l2, if_neg (by simp)]) _, q2]
      rw [flag_start a.Store.Turns kr.t (m_cantonlaw17_LetterMay_l3 a true s (cSaved.put s) (cAnswer.put a)) (fun b => m_cantonlaw17_LetterMay_l4 a true s (cSaved.put s) (cAnswer.put a) (((a.Events.length : Int) - 0 : Int).toNat + 1) b 0) (g := fun x => !badN x.Next)
        (fun k b i hi => by
          rw [m_cantonlaw17_LetterMay_l3, if_pos (by simpa using hi)]
          simp only [idx_lt hi, may_m, Option.bind_some, m_cantonlaw17_LetterMay_j5]
          cases b <;> simp)
        (fun k b => by rw [m_cantonlaw17_LetterMay_l3, if_neg (by simp)]) _, q3]
      rw [flag_start a.Events kr.e (m_cantonlaw17_LetterMay_l4 a true s (cSaved.put s) (cAnswer.put a)) (fun b => m_cantonlaw17_LetterMay_l5 a true s (cSaved.put s) (cAnswer.put a) (((a.Mounts.length : Int) - 0 : Int).toNat + 1) b 0) (g := fun x => !badN x.Num && (!badN x.Kind && !badN x.Watch))
        (fun k b i hi => by
          rw [m_cantonlaw17_LetterMay_l4, if_pos (by simpa using hi)]
          simp only [idx_lt hi, may_m, Option.bind_some, m_cantonlaw17_LetterMay_j6]
          cases b <;> cases badN a.Events[i].Num <;> cases badN a.Events[i].Kind <;> simp)
        (fun k b => by rw [m_cantonlaw17_LetterMay_l4, if_neg (by simp)]) _, q4]
      rw [flag_start a.Mounts kr.m (m_cantonlaw17_LetterMay_l5 a true s (cSaved.put s) (cAnswer.put a)) (fun b => m_cantonlaw17_LetterMay_l6 a true s (cSaved.put s) (cAnswer.put a) (((a.Wounded.length : Int) - 0 : Int).toNat + 1) b 0) (g := fun x => !badN x.Group && (!badN x.Epoch && !badN x.To))
        (fun k b i hi => by
          rw [m_cantonlaw17_LetterMay_l5, if_pos (by simpa using hi)]
          simp only [idx_lt hi, may_m, Option.bind_some, m_cantonlaw17_LetterMay_j7]
          cases b <;> cases badN a.Mounts[i].Group <;> cases badN a.Mounts[i].Epoch <;> simp)
        (fun k b => by rw [m_cantonlaw17_LetterMay_l5, if_neg (by simp)]) _, q5]
      rw [flag_start a.Wounded kr.w (m_cantonlaw17_LetterMay_l6 a true s (cSaved.put s) (cAnswer.put a)) (fun b => some (((cSaved.put s).2 == 0) == (!badN s.View && !badN s.Normal) && (((cAnswer.put a).2 == 0) == b))) (g := fun x => !badN x)
        (fun k b i hi => by
          rw [m_cantonlaw17_LetterMay_l6, if_pos (by simpa using hi)]
          simp only [idx_lt hi, may_m, Option.bind_some, m_cantonlaw17_LetterMay_j8]
          cases b <;> simp)
        (fun k b => by
          rw [m_cantonlaw17_LetterMay_l6, if_neg (by simp)]
          simp only [may_m, Option.bind_some]
          cases badN s.View <;> cases badN s.Normal <;> cases hq : ((cSaved.put s).2 == 0) <;> simp) _, q6]
    unfold m_cantonlaw17_LetterMay_j1
    rw [if_neg (by simp)]
    show (m_letter_PutSaved s).bind _ = _
    rw [putS_m s g3]
    simp only [Option.bind_some]
    show (m_letter_PutAnswer a).bind _ = _
    rw [putA_m a hf]
    simp only [Option.bind_some, may_m]
    have eS : ((cSaved.put s).2 == 0) = (!badN s.View && !badN s.Normal) := by
      have : cSaved.bad s = (badN s.View || (badN s.Normal || false)) := rfl
      unfold Codec.put
      rw [this]
      cases badN s.View <;> cases badN s.Normal <;> simp
    have eA : ((cAnswer.put a).2 == 0) = !cAnswer.bad a := by
      unfold Codec.put
      cases cAnswer.bad a <;> simp
    simp only [l1, eS, eA, ansBad]
    cases badN a.Err <;> cases badN a.At <;> cases badN a.Epoch <;> cases (cList cResult).bad a.Results <;> cases (cList cNode).bad a.Store.Nodes <;> cases (cList cTurn).bad a.Store.Turns <;> cases (cList cEvent).bad a.Events <;> cases (cList cMount).bad a.Mounts <;> cases (cList cNum).bad a.Wounded <;> simp
end Go.Cb
