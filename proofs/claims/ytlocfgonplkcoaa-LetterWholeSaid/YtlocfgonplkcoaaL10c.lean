/- Answers, plainly: the document's writing; alike; too much. -/
import Derived.Test.YtlocfgonplkcoaaL9c
import Derived.Test.YtlocfgonplkcoaaKc5
set_option linter.unusedVariables false
set_option linter.unusedSimpArgs false
namespace Go.Cb
open Go.RowKit
theorem putAR_m (x : Answer) (h : Fit x) : m_cantonref17_PutAnswer x = some (cAnswer.put x) := by
  have h1 := encN_len x.Err
  have h2 := encN_len x.At
  have h3 := encN_len x.Epoch
  have h4 := enc_len (if x.Yes then 1 else 0) (by split <;> omega)
  have r1 := listW_len h.r (fun y hy => lenR y (h.rx y hy))
  have r2 := listW_len h.n (fun y hy => lenN y (h.nx y hy))
  have r3 := listW_len h.t (fun y hy => lenT y (h.tx y hy))
  have r4 := listW_len h.e (fun y hy => lenE y (h.ex y hy))
  have r5 := listW_len h.m (fun y hy => lenM y (h.mx y hy))
  have r6 := listW_len (A := cNum) h.w (fun y hy => lenI y)
  have hLIM : LIM = 274877906944 := rfl
  unfold m_cantonref17_PutAnswer
  rw [rw_n _ _ _ (by simp [LIM])]
  simp only [Option.bind_some, List.nil_append]
  rw [rw_n _ _ _ (by omega)]
  simp only [Option.bind_some]
  have hb : m_cantonref17_bit x.Yes = some (if x.Yes then 1 else 0) := by
    unfold m_cantonref17_bit
    cases x.Yes <;> rfl
  rw [hb]
  simp only [Option.bind_some]
  rw [rw_n _ _ _ (by simp only [List.length_append]; omega), (bit_enc x.Yes).1, (bit_enc x.Yes).2]
  simp only [Option.bind_some]
  rw [rw_n _ _ _ (by simp only [List.length_append]; omega)]
  simp only [Option.bind_some]
  rw [rw_n _ _ _ (by simp only [List.length_append]; omega)]
  simp only [Option.bind_some]
  rw [row_start cResult x.Results h.r rwResult (fun y hy => lenR y (h.rx y hy)) (fun y hy => rwResult_m y (h.rx y hy)) (m_cantonref17_PutAnswer_l1 x) (fun l b => (m_cantonref02_Writer_Num l b (x.Store.Nodes.length : Int)).bind fun u80 => m_cantonref17_PutAnswer_l2 x (((x.Store.Nodes.length : Int) - 0 : Int).toNat + 1) 0 u80.1 u80.2)
    (fun k i l b hi => by rw [m_cantonref17_PutAnswer_l1, if_pos (by simpa using hi)]; simp only [idx_lt hi, rwResult, Option.bind_assoc, Option.bind_some])
    (fun k l b => by rw [m_cantonref17_PutAnswer_l1, if_neg (by simp)]) _ _ (by simp only [List.length_append]; omega)]
  rw [rw_n _ _ _ (by simp only [List.length_append]; omega)]
  simp only [Option.bind_some]
  rw [row_start cNode x.Store.Nodes h.n rwNode (fun y hy => lenN y (h.nx y hy)) (fun y hy => rwNode_m y (h.nx y hy)) (m_cantonref17_PutAnswer_l2 x) (fun l b => (m_cantonref02_Writer_Num l b (x.Store.Turns.length : Int)).bind fun u123 => m_cantonref17_PutAnswer_l3 x (((x.Store.Turns.length : Int) - 0 : Int).toNat + 1) 0 u123.1 u123.2)
    (fun k i l b hi => by
      rw [m_cantonref17_PutAnswer_l2, if_pos (by simpa using hi)]
      simp only [idx_lt hi, rwNode, Option.bind_assoc, Option.bind_some, m_cantonref17_PutAnswer_j1]
      by_cases ht : (x.Store.Nodes[i].Turn != 0) = true
      · simp only [if_pos ht, Option.bind_some]
      · simp only [if_neg ht, Option.bind_some])
    (fun k l b => by rw [m_cantonref17_PutAnswer_l2, if_neg (by simp)]) _ _ (by simp only [List.length_append]; omega)]
  rw [rw_n _ _ _ (by simp only [List.length_append]; omega)]
  simp only [Option.bind_some]
  rw [row_start cTurn x.Store.Turns h.t rwTurn (fun y hy => lenT y (h.tx y hy)) (fun y hy => rwTurn_m y (h.tx y hy)) (m_cantonref17_PutAnswer_l3 x) (fun l b => (m_cantonref02_Writer_Num l b (x.Events.length : Int)).bind fun u150 => m_cantonref17_PutAnswer_l4 x (((x.Events.length : Int) - 0 : Int).toNat + 1) 0 u150.1 u150.2)
    (fun k i l b hi => by rw [m_cantonref17_PutAnswer_l3, if_pos (by simpa using hi)]; simp only [idx_lt hi, rwTurn, Option.bind_assoc, Option.bind_some])
    (fun k l b => by rw [m_cantonref17_PutAnswer_l3, if_neg (by simp)]) _ _ (by simp only [List.length_append]; omega)]
  rw [rw_n _ _ _ (by simp only [List.length_append]; omega)]
  simp only [Option.bind_some]
  rw [row_start cEvent x.Events h.e rwEvent (fun y hy => lenE y (h.ex y hy)) (fun y hy => rwEvent_m y (h.ex y hy)) (m_cantonref17_PutAnswer_l4 x) (fun l b => (m_cantonref02_Writer_Num l b (x.Mounts.length : Int)).bind fun u189 => m_cantonref17_PutAnswer_l5 x (((x.Mounts.length : Int) - 0 : Int).toNat + 1) 0 u189.1 u189.2)
    (fun k i l b hi => by rw [m_cantonref17_PutAnswer_l4, if_pos (by simpa using hi)]; simp only [idx_lt hi, rwEvent, Option.bind_assoc, Option.bind_some])
    (fun k l b => by rw [m_cantonref17_PutAnswer_l4, if_neg (by simp)]) _ _ (by simp only [List.length_append]; omega)]
  rw [rw_n _ _ _ (by simp only [List.length_append]; omega)]
  simp only [Option.bind_some]
  rw [row_start cMount x.Mounts h.m rwMount (fun y hy => lenM y (h.mx y hy)) (fun y hy => rwMount_m y (h.mx y hy)) (m_cantonref17_PutAnswer_l5 x) (fun l b => (m_cantonref02_Writer_Num l b (x.Wounded.length : Int)).bind fun u228 => m_cantonref17_PutAnswer_l6 x (((x.Wounded.length : Int) - 0 : Int).toNat + 1) 0 u228.1 u228.2)
    (fun k i l b hi => by rw [m_cantonref17_PutAnswer_l5, if_pos (by simpa using hi)]; simp only [idx_lt hi, rwMount, Option.bind_assoc, Option.bind_some])
    (fun k l b => by rw [m_cantonref17_PutAnswer_l5, if_neg (by simp)]) _ _ (by simp only [List.length_append]; omega)]
  rw [rw_n _ _ _ (by simp only [List.length_append]; omega)]
  simp only [Option.bind_some]
  rw [row_start cNum x.Wounded h.w m_cantonref02_Writer_Num (fun y hy => lenI y) (fun y hy l b hl => rw_n l b y (by omega)) (m_cantonref17_PutAnswer_l6 x) (fun l b => (m_cantonref02_Writer_Bytes l b).bind fun u249 => some (u249.1, u249.2))
    (fun k i l b hi => by rw [m_cantonref17_PutAnswer_l6, if_pos (by simpa using hi)]; simp only [idx_lt hi, Option.bind_some])
    (fun k l b => by rw [m_cantonref17_PutAnswer_l6, if_neg (by simp)]) _ _ (by simp only [List.length_append]; omega)]
  rw [rw_bytes _ _ (by simp only [List.length_append]; omega)]
  simp only [Option.bind_some]
  unfold Codec.put
  rw [ansW, ansBad]
  simp [Bool.or_assoc]

/-! ### alike: what is one is -/
theorem refl_gen {α β : Type} (L : List α) (hL : L.length ≤ 1000000000000) (F : Nat → Int → Option β) (K : Option β) (hF : ∀ k (i : Nat) (hi : i < L.length), F (k + 1) (i : Int) = F k (IntKind.i64.wrap ((i : Int) + 1))) (h0 : ∀ k, F (k + 1) (L.length : Int) = K) :
    ∀ (k i f : Nat), i + k = L.length → k + 1 ≤ f → F f (i : Int) = K
  | k, i, 0, h, h' => by omega
  | 0, i, f + 1, h, h' => by
    have : i = L.length := by omega
    subst this
    exact h0 f
  | k + 1, i, f + 1, h, h' => by
    have hi : i < L.length := by omega
    rw [hF f i hi, show IntKind.i64.wrap ((i : Int) + 1) = ((i + 1 : Nat) : Int) from by rw [w64 (by omega) (by omega)]; rfl]
    exact refl_gen L hL F K hF h0 k (i + 1) f (by omega) (by omega)
theorem refl_start {α β : Type} (L : List α) (hL : L.length ≤ 1000000000000) (F : Nat → Int → Option β) (K : Option β) (hF : ∀ k (i : Nat) (hi : i < L.length), F (k + 1) (i : Int) = F k (IntKind.i64.wrap ((i : Int) + 1))) (h0 : ∀ k, F (k + 1) (L.length : Int) = K) :
    F (((L.length : Int) - 0 : Int).toNat + 1) 0 = K := refl_gen L hL F K hF h0 L.length 0 _ (by omega) (by omega)
structure Short (a : Answer) : Prop where
  r : a.Results.length ≤ 1000000000000
  rx : ∀ x ∈ a.Results, x.Names.length ≤ 1000000000000
  n : a.Store.Nodes.length ≤ 1000000000000
  t : a.Store.Turns.length ≤ 1000000000000
  e : a.Events.length ≤ 1000000000000
  m : a.Mounts.length ≤ 1000000000000
  w : a.Wounded.length ≤ 1000000000000
theorem Fit.short {a : Answer} (h : Fit a) : Short a := ⟨by have := h.r; omega, fun x hx => by have := (h.rx x hx).n.n; omega, by have := h.n; omega, by have := h.t; omega, by have := h.e; omega, by have := h.m; omega, by have := h.w; omega⟩
theorem same_self (L : List ByteArray) (h : L.length ≤ 1000000000000) : m_cantonref01_Same L L = some true := by
  obtain ⟨r, h1, h2⟩ := same_m L L h
  rw [h1, h2.2 rfl]
theorem sameOne_self (x : S_api_Result) (h : x.Names.length ≤ 1000000000000) : m_cantonref06_SameOne x x = some true := by
  unfold m_cantonref06_SameOne
  rw [same_self _ h]
  simp [sEq_self]
theorem same06_self (L : List S_api_Node) (h : L.length ≤ 1000000000000) : m_cantonref06_Same L L = some true := by
  unfold m_cantonref06_Same
  rw [if_neg (by simp)]
  exact refl_start L h (m_cantonref06_Same_l1 L L) (some true) (fun k i hi => by
    rw [m_cantonref06_Same_l1, if_pos (by simpa using hi), idx_lt hi]
    simp [sEq_self]) (fun k => by rw [m_cantonref06_Same_l1, if_neg (by simp)])
theorem same07_self (x : S_api_Store) (h : x.Nodes.length ≤ 1000000000000) (h' : x.Turns.length ≤ 1000000000000) : m_cantonref07_Same x x = some true := by
  unfold m_cantonref07_Same
  rw [same06_self _ h]
  simp only [Option.bind_some]
  rw [if_neg (by simp)]
  unfold m_cantonref07_Same_j1
  rw [if_neg (by simp)]
  exact refl_start x.Turns h' (m_cantonref07_Same_l1 x x) (some true) (fun k i hi => by
    rw [m_cantonref07_Same_l1, if_pos (by simpa using hi), idx_lt hi]
    simp [sEq_self]) (fun k => by rw [m_cantonref07_Same_l1, if_neg (by simp)])
theorem sameList_self (L : List S_api_Result) (h : L.length ≤ 1000000000000) (hx : ∀ x ∈ L, x.Names.length ≤ 1000000000000) : m_cantonref06_SameList L L = some true := by
  unfold m_cantonref06_SameList
  rw [if_neg (by simp)]
  exact refl_start L h (m_cantonref06_SameList_l1 L L) (some true) (fun k i hi => by
    rw [m_cantonref06_SameList_l1, if_pos (by simpa using hi), idx_lt hi]
    simp only [Option.bind_some]
    rw [sameOne_self _ (hx _ (List.getElem_mem hi))]
    simp) (fun k => by rw [m_cantonref06_SameList_l1, if_neg (by simp)])
theorem sameEvents_self (L : List S_api_Event) (h : L.length ≤ 1000000000000) : m_cantonref09_SameEvents L L = some true := by
  unfold m_cantonref09_SameEvents
  rw [if_neg (by simp)]
  exact refl_start L h (m_cantonref09_SameEvents_l1 L L) (some true) (fun k i hi => by
    rw [m_cantonref09_SameEvents_l1, if_pos (by simpa using hi), idx_lt hi]
    simp [sEq_self]) (fun k => by rw [m_cantonref09_SameEvents_l1, if_neg (by simp)])
theorem sameNums_self (L : List Int) (h : L.length ≤ 1000000000000) : m_cantonref10_SameNums L L = some true := by
  unfold m_cantonref10_SameNums
  rw [if_neg (by simp)]
  exact refl_start L h (m_cantonref10_SameNums_l1 L L) (some true) (fun k i hi => by
    rw [m_cantonref10_SameNums_l1, if_pos (by simpa using hi), idx_lt hi]
    simp) (fun k => by rw [m_cantonref10_SameNums_l1, if_neg (by simp)])
theorem sameA_self (x : Answer) (h : Short x) : m_cantonref13_Same x x = some true := by
  unfold m_cantonref13_Same
  rw [if_neg (by simp), if_neg (by simp), if_neg (by simp), if_neg (by simp)]
  unfold m_cantonref13_Same_j1
  rw [if_neg (by simp)]
  refine refl_start x.Mounts h.m (m_cantonref13_Same_l1 x x) (some true) (fun k i hi => by
    rw [m_cantonref13_Same_l1, if_pos (by simpa using hi), idx_lt hi]
    simp [sEq_self]) (fun k => ?_)
  rw [m_cantonref13_Same_l1, if_neg (by simp), sameList_self _ h.r h.rx]
  simp only [Option.bind_some]
  rw [if_pos (by trivial)]
  show (m_cantonref07_Same x.Store x.Store).bind _ = _
  rw [same07_self _ h.n h.t]
  simp only [Option.bind_some]
  rw [if_pos (by trivial), sameEvents_self _ h.e]
  simp only [Option.bind_some]
  rw [if_pos (by trivial), sameNums_self _ h.w]
  rfl
end Go.Cb
