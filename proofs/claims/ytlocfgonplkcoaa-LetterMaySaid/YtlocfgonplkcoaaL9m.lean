/- Answers, plainly: how they are written. -/
import Derived.Test.YtlocfgonplkcoaaL8m
set_option linter.unusedVariables false
set_option linter.unusedSimpArgs false
namespace Go.Cb
open Go.RowKit
structure FR (x : S_api_Result) : Prop where
  p : x.Path.size ≤ 20000
  d : x.Data.size ≤ 20000
  n : Log x.Names
  w : wL x.Names ≤ 250000
structure FN (x : S_api_Node) : Prop where
  p : x.Path.size ≤ 20000
  d : x.Data.size ≤ 20000
structure Fit (a : Answer) : Prop where
  r : a.Results.length ≤ 20000
  rx : ∀ x ∈ a.Results, FR x
  n : a.Store.Nodes.length ≤ 20000
  nx : ∀ x ∈ a.Store.Nodes, FN x
  t : a.Store.Turns.length ≤ 20000
  tx : ∀ x ∈ a.Store.Turns, x.Dir.size ≤ 20000
  e : a.Events.length ≤ 20000
  ex : ∀ x ∈ a.Events, x.Path.size ≤ 20000
  m : a.Mounts.length ≤ 20000
  mx : ∀ x ∈ a.Mounts, x.Prefix.size ≤ 20000
  w : a.Wounded.length ≤ 20000
theorem lenR (x : S_api_Result) (h : FR x) : (cResult.W x).length ≤ 300000 := by
  have e : cResult.W x = encN x.Err ++ (encT x.Path ++ (encT x.Data ++ (encN x.Version ++ encL x.Names))) := rfl
  have := encN_len x.Err
  have := encN_len x.Version
  have := encT_le x.Path (by have := h.p; omega)
  have := encT_le x.Data (by have := h.d; omega)
  have := encL_len h.n
  have := h.p; have := h.d; have := h.w
  rw [e]; simp only [List.length_append]; omega
theorem lenN (x : S_api_Node) (h : FN x) : (cNode.W x).length ≤ 300000 := by
  have e : cNode.W x = encT x.Path ++ (encT x.Data ++ (encN x.Version ++ encN x.Owner)) := rfl
  have := encN_len x.Owner
  have := encN_len x.Version
  have := encT_le x.Path (by have := h.p; omega)
  have := encT_le x.Data (by have := h.d; omega)
  have := h.p; have := h.d
  rw [e]; simp only [List.length_append]; omega
theorem lenT (x : S_api_Turn) (h : x.Dir.size ≤ 20000) : (cTurn.W x).length ≤ 300000 := by
  have e : cTurn.W x = encT x.Dir ++ encN x.Next := rfl
  have := encN_len x.Next
  have := encT_le x.Dir (by omega)
  rw [e]; simp only [List.length_append]; omega
theorem lenE (x : S_api_Event) (h : x.Path.size ≤ 20000) : (cEvent.W x).length ≤ 300000 := by
  have e : cEvent.W x = encN x.Num ++ (encN x.Kind ++ (encT x.Path ++ encN x.Watch)) := rfl
  have := encN_len x.Num
  have := encN_len x.Kind
  have := encN_len x.Watch
  have := encT_le x.Path (by omega)
  rw [e]; simp only [List.length_append]; omega
theorem lenM (x : S_api_Mount) (h : x.Prefix.size ≤ 20000) : (cMount.W x).length ≤ 300000 := by
  have e : cMount.W x = encT x.Prefix ++ (encN x.Group ++ (encN x.Epoch ++ encN x.To)) := rfl
  have := encN_len x.Group
  have := encN_len x.Epoch
  have := encN_len x.To
  have := encT_le x.Prefix (by omega)
  rw [e]; simp only [List.length_append]; omega
theorem lenI (x : Int) : (cNum.W x).length ≤ 300000 := by
  have := encN_len x
  show (encN x).length ≤ _
  omega
theorem listW_len {α : Type} {A : Codec α} {L : List α} (hL : L.length ≤ 20000) (h : ∀ x ∈ L, (A.W x).length ≤ 300000) : ((cList A).W L).length ≤ 6000000007 := by
  have e : (cList A).W L = encN (L.length : Int) ++ L.flatMap A.W := rfl
  have h1 := encN_len (L.length : Int)
  have h2 : (L.flatMap A.W).length ≤ L.length * 300000 := by
    clear hL h1 e
    induction L with
    | nil => simp
    | cons s L ih =>
      have h1 := ih fun t ht => h t (by simp [ht])
      have h2 := h s (by simp)
      rw [List.flatMap_cons, List.length_append, List.length_cons]
      omega
  rw [e, List.length_append]
  omega
/-- a row is written. -/
theorem row_start {α : Type} (A : Codec α) (L : List α) (hL : L.length ≤ 20000) (one : List Int → Bool → α → Option (List Int × Bool)) (hW : ∀ x ∈ L, (A.W x).length ≤ 300000)
    (hone : ∀ x ∈ L, ∀ l b, l.length + 300000 + 100 ≤ LIM → one l b x = some (l ++ A.W x, b || A.bad x)) {β : Type} (F : Nat → Int → List Int → Bool → Option β) (K : List Int → Bool → Option β)
    (hF : ∀ k (i : Nat) l b (hi : i < L.length), F (k + 1) (i : Int) l b = (one l b L[i]).bind fun u => F k (IntKind.i64.wrap ((i : Int) + 1)) u.1 u.2)
    (h0 : ∀ k l b, F (k + 1) (L.length : Int) l b = K l b) (l : List Int) (b : Bool) (hl : l.length + 6000001000 ≤ LIM) :
    F (((L.length : Int) - 0 : Int).toNat + 1) 0 (l ++ encN (L.length : Int)) (b || badN (L.length : Int)) = K (l ++ (cList A).W L) (b || (cList A).bad L) := by
  have h1 := encN_len (L.length : Int)
  have := row_gen A 300000 L (by omega) one hW hone F K hF h0 L.length 0 (((L.length : Int) - 0 : Int).toNat + 1) (l ++ encN (L.length : Int)) (b || badN (L.length : Int)) (by omega) (by omega) (by rw [List.length_append]; omega)
  rw [List.drop_zero] at this
  have e : (cList A).W L = encN (L.length : Int) ++ L.flatMap A.W := rfl
  have e2 : (cList A).bad L = (badN (L.length : Int) || L.any A.bad) := rfl
  rw [e, e2, ← List.append_assoc, ← Bool.or_assoc]
  exact this
/-! ### one -/
theorem wResult (x : S_api_Result) (h : FR x) (l : List Int) (b : Bool) (hl : l.length + 300000 + 100 ≤ LIM) : m_letter_writer_result l b x = some (l ++ cResult.W x, b || cResult.bad x) := by
  have h1 := encN_len x.Err
  have h2 := encN_len x.Version
  have h3 := encT_le x.Path (by have := h.p; omega)
  have h4 := encT_le x.Data (by have := h.d; omega)
  have h5 := h.p; have h6 := h.d; have h7 := h.w
  unfold m_letter_writer_result
  rw [pw_n _ _ _ (by omega)]
  simp only [Option.bind_some]
  rw [pw_text _ _ _ (by omega) (by simp only [List.length_append]; omega)]
  simp only [Option.bind_some]
  rw [pw_text _ _ _ (by omega) (by simp only [List.length_append]; omega)]
  simp only [Option.bind_some]
  rw [pw_n _ _ _ (by simp only [List.length_append]; omega)]
  simp only [Option.bind_some]
  rw [pw_texts _ _ _ h.n.n h.n.s (by simp only [List.length_append]; omega)]
  simp only [Option.bind_some]
  have e : cResult.W x = encN x.Err ++ (encT x.Path ++ (encT x.Data ++ (encN x.Version ++ encL x.Names))) := rfl
  have e2 : cResult.bad x = (badN x.Err || (false || (false || (badN x.Version || false)))) := rfl
  rw [e, e2]
  simp [Bool.or_assoc]
theorem wNode (x : S_api_Node) (h : FN x) (l : List Int) (b : Bool) (hl : l.length + 300000 + 100 ≤ LIM) : m_letter_writer_node l b x = some (l ++ cNode.W x, b || cNode.bad x) := by
  have h1 := encN_len x.Owner
  have h2 := encN_len x.Version
  have h3 := encT_le x.Path (by have := h.p; omega)
  have h4 := encT_le x.Data (by have := h.d; omega)
  have h5 := h.p; have h6 := h.d
  unfold m_letter_writer_node
  rw [pw_text _ _ _ (by omega) (by omega)]
  simp only [Option.bind_some]
  rw [pw_text _ _ _ (by omega) (by simp only [List.length_append]; omega)]
  simp only [Option.bind_some]
  rw [nums_m _ (by simp) _ _ (by simp only [List.length_append]; omega)]
  simp only [Option.bind_some]
  have e : cNode.W x = encT x.Path ++ (encT x.Data ++ (encN x.Version ++ encN x.Owner)) := rfl
  have e2 : cNode.bad x = ((false || (false || (badN x.Version || badN x.Owner))) || !(x.Turn == 0)) := rfl
  rw [e, e2]
  by_cases ht : x.Turn = 0
  · rw [if_neg (by simpa using ht)]
    simp [ht]
  · rw [if_pos (by simpa using ht), pw_bad _ _ _ (.inl (by omega))]
    simp [ht]
theorem wTurn (x : S_api_Turn) (h : x.Dir.size ≤ 20000) (l : List Int) (b : Bool) (hl : l.length + 300000 + 100 ≤ LIM) : m_letter_writer_turn l b x = some (l ++ cTurn.W x, b || cTurn.bad x) := by
  have h3 := encT_le x.Dir (by omega)
  unfold m_letter_writer_turn
  rw [pw_text _ _ _ (by omega) (by omega)]
  simp only [Option.bind_some]
  rw [pw_n _ _ _ (by simp only [List.length_append]; omega)]
  simp only [Option.bind_some]
  have e : cTurn.W x = encT x.Dir ++ encN x.Next := rfl
  have e2 : cTurn.bad x = (false || badN x.Next) := rfl
  rw [e, e2]
  simp
theorem wEvent (x : S_api_Event) (h : x.Path.size ≤ 20000) (l : List Int) (b : Bool) (hl : l.length + 300000 + 100 ≤ LIM) : m_letter_writer_event l b x = some (l ++ cEvent.W x, b || cEvent.bad x) := by
  have h1 := encN_len x.Num
  have h2 := encN_len x.Kind
  have h3 := encT_le x.Path (by omega)
  unfold m_letter_writer_event
  rw [nums_m _ (by simp) _ _ (by omega)]
  simp only [Option.bind_some, List.flatMap_cons, List.flatMap_nil, List.append_nil]
  rw [pw_text _ _ _ (by omega) (by simp only [List.length_append]; omega)]
  simp only [Option.bind_some]
  rw [pw_n _ _ _ (by simp only [List.length_append]; omega)]
  simp only [Option.bind_some]
  have e : cEvent.W x = encN x.Num ++ (encN x.Kind ++ (encT x.Path ++ encN x.Watch)) := rfl
  have e2 : cEvent.bad x = (badN x.Num || (badN x.Kind || (false || badN x.Watch))) := rfl
  rw [e, e2]
  simp [Bool.or_assoc]
theorem wMount (x : S_api_Mount) (h : x.Prefix.size ≤ 20000) (l : List Int) (b : Bool) (hl : l.length + 300000 + 100 ≤ LIM) : m_letter_writer_mount l b x = some (l ++ cMount.W x, b || cMount.bad x) := by
  have h3 := encT_le x.Prefix (by omega)
  unfold m_letter_writer_mount
  rw [pw_text _ _ _ (by omega) (by omega)]
  simp only [Option.bind_some]
  rw [nums_m _ (by simp) _ _ (by simp only [List.length_append]; omega)]
  simp only [Option.bind_some]
  have e : cMount.W x = encT x.Prefix ++ (encN x.Group ++ (encN x.Epoch ++ encN x.To)) := rfl
  have e2 : cMount.bad x = (false || (badN x.Group || (badN x.Epoch || badN x.To))) := rfl
  rw [e, e2]
  simp
theorem rowResult (L : List S_api_Result) (l : List Int) (b : Bool) (hL : L.length ≤ 20000) (hx : ∀ x ∈ L, FR x) (hl : l.length + 6000001000 ≤ LIM) : m_letter_row_api_Result l b L = some (l ++ (cList cResult).W L, b || (cList cResult).bad L) := by
  unfold m_letter_row_api_Result
  rw [pw_n _ _ _ (by omega)]
  simp only [Option.bind_some]
  exact row_start cResult L hL m_letter_writer_result (fun x h => lenR x (hx x h)) (fun x h l b hl => wResult x (hx x h) l b hl) (m_letter_row_api_Result_l1 L) (fun l b => some (l, b)) (fun k i l b hi => by
    rw [m_letter_row_api_Result_l1, if_pos (by simpa using hi), idx_lt hi]
    rfl) (fun k l b => by rw [m_letter_row_api_Result_l1, if_neg (by simp)]) l b hl
theorem rowNode (L : List S_api_Node) (l : List Int) (b : Bool) (hL : L.length ≤ 20000) (hx : ∀ x ∈ L, FN x) (hl : l.length + 6000001000 ≤ LIM) : m_letter_row_api_Node l b L = some (l ++ (cList cNode).W L, b || (cList cNode).bad L) := by
  unfold m_letter_row_api_Node
  rw [pw_n _ _ _ (by omega)]
  simp only [Option.bind_some]
  exact row_start cNode L hL m_letter_writer_node (fun x h => lenN x (hx x h)) (fun x h l b hl => wNode x (hx x h) l b hl) (m_letter_row_api_Node_l1 L) (fun l b => some (l, b)) (fun k i l b hi => by
    rw [m_letter_row_api_Node_l1, if_pos (by simpa using hi), idx_lt hi]
    rfl) (fun k l b => by rw [m_letter_row_api_Node_l1, if_neg (by simp)]) l b hl
theorem rowTurn (L : List S_api_Turn) (l : List Int) (b : Bool) (hL : L.length ≤ 20000) (hx : ∀ x ∈ L, x.Dir.size ≤ 20000) (hl : l.length + 6000001000 ≤ LIM) : m_letter_row_api_Turn l b L = some (l ++ (cList cTurn).W L, b || (cList cTurn).bad L) := by
  unfold m_letter_row_api_Turn
  rw [pw_n _ _ _ (by omega)]
  simp only [Option.bind_some]
  exact row_start cTurn L hL m_letter_writer_turn (fun x h => lenT x (hx x h)) (fun x h l b hl => wTurn x (hx x h) l b hl) (m_letter_row_api_Turn_l1 L) (fun l b => some (l, b)) (fun k i l b hi => by
    rw [m_letter_row_api_Turn_l1, if_pos (by simpa using hi), idx_lt hi]
    rfl) (fun k l b => by rw [m_letter_row_api_Turn_l1, if_neg (by simp)]) l b hl
theorem rowEvent (L : List S_api_Event) (l : List Int) (b : Bool) (hL : L.length ≤ 20000) (hx : ∀ x ∈ L, x.Path.size ≤ 20000) (hl : l.length + 6000001000 ≤ LIM) : m_letter_row_api_Event l b L = some (l ++ (cList cEvent).W L, b || (cList cEvent).bad L) := by
  unfold m_letter_row_api_Event
  rw [pw_n _ _ _ (by omega)]
  simp only [Option.bind_some]
  exact row_start cEvent L hL m_letter_writer_event (fun x h => lenE x (hx x h)) (fun x h l b hl => wEvent x (hx x h) l b hl) (m_letter_row_api_Event_l1 L) (fun l b => some (l, b)) (fun k i l b hi => by
    rw [m_letter_row_api_Event_l1, if_pos (by simpa using hi), idx_lt hi]
    rfl) (fun k l b => by rw [m_letter_row_api_Event_l1, if_neg (by simp)]) l b hl
theorem rowMount (L : List S_api_Mount) (l : List Int) (b : Bool) (hL : L.length ≤ 20000) (hx : ∀ x ∈ L, x.Prefix.size ≤ 20000) (hl : l.length + 6000001000 ≤ LIM) : m_letter_row_api_Mount l b L = some (l ++ (cList cMount).W L, b || (cList cMount).bad L) := by
  unfold m_letter_row_api_Mount
  rw [pw_n _ _ _ (by omega)]
  simp only [Option.bind_some]
  exact row_start cMount L hL m_letter_writer_mount (fun x h => lenM x (hx x h)) (fun x h l b hl => wMount x (hx x h) l b hl) (m_letter_row_api_Mount_l1 L) (fun l b => some (l, b)) (fun k i l b hi => by
    rw [m_letter_row_api_Mount_l1, if_pos (by simpa using hi), idx_lt hi]
    rfl) (fun k l b => by rw [m_letter_row_api_Mount_l1, if_neg (by simp)]) l b hl
theorem rowint (L : List Int) (l : List Int) (b : Bool) (hL : L.length ≤ 20000) (hx : ∀ x ∈ L, True) (hl : l.length + 6000001000 ≤ LIM) : m_letter_row_int64 l b L = some (l ++ (cList cNum).W L, b || (cList cNum).bad L) := by
  unfold m_letter_row_int64
  rw [pw_n _ _ _ (by omega)]
  simp only [Option.bind_some]
  exact row_start cNum L hL m_pack_Writer_Num (fun x h => lenI x) (fun x h l b hl => pw_n l b x (by omega)) (m_letter_row_int64_l1 L) (fun l b => some (l, b)) (fun k i l b hi => by
    rw [m_letter_row_int64_l1, if_pos (by simpa using hi), idx_lt hi]
    rfl) (fun k l b => by rw [m_letter_row_int64_l1, if_neg (by simp)]) l b hl
theorem ansW (x : Answer) : cAnswer.W x = encN x.Err ++ (encN x.At ++ (enc (if x.Yes then 1 else 0) ++ (encN x.Epoch ++ ((cList cResult).W x.Results ++ ((cList cNode).W x.Store.Nodes ++ ((cList cTurn).W x.Store.Turns ++ ((cList cEvent).W x.Events ++ ((cList cMount).W x.Mounts ++ (cList cNum).W x.Wounded)))))))) := rfl
theorem ansBad (x : Answer) : cAnswer.bad x = (badN x.Err || (badN x.At || (false || (badN x.Epoch || ((cList cResult).bad x.Results || ((cList cNode).bad x.Store.Nodes || ((cList cTurn).bad x.Store.Turns || ((cList cEvent).bad x.Events || ((cList cMount).bad x.Mounts || (cList cNum).bad x.Wounded))))))))) := rfl
theorem bit_enc (b : Bool) : encN (if b then 1 else 0) = enc (if b then 1 else 0) ∧ badN (if b then 1 else 0) = false := by
  cases b
  · have := badN_nat (n := 0) (by omega); exact ⟨this.2, this.1⟩
  · have := badN_nat (n := 1) (by omega); exact ⟨this.2, this.1⟩
theorem putA_m (x : Answer) (h : Fit x) : m_letter_PutAnswer x = some (cAnswer.put x) := by
  have h1 := encN_len x.Err
  have h2 := encN_len x.At
  have h3 := encN_len x.Epoch
  have h4 := enc_len (if x.Yes then 1 else 0) (by split <;> omega)
  have r1 := listW_len h.r (fun y hy => lenR y (h.rx y hy))
  have r2 := listW_len h.n (fun y hy => lenN y (h.nx y hy))
  have r3 := listW_len h.t (fun y hy => lenT y (h.tx y hy))
  have r4 := listW_len h.e (fun y hy => lenE y (h.ex y hy))
  have r5 := listW_len h.m (fun y hy => lenM y (h.mx y hy))
  have r6 := listW_len (A := cNum) h.w (fun y hy => lenI y)
  have hLIM : LIM = 274877906944 := rfl
  unfold m_letter_PutAnswer
  rw [nums_m _ (by simp) _ _ (by simp [LIM])]
  simp only [Option.bind_some, List.nil_append, List.flatMap_cons, List.flatMap_nil, List.append_nil]
  have hb : ∀ (l : List Int) (b : Bool), l.length + 100 ≤ LIM → m_letter_writer_bit l b x.Yes = some (l ++ enc (if x.Yes then 1 else 0), b) := fun l b hl => by
    unfold m_letter_writer_bit
    have := bit_enc x.Yes
    cases hY : x.Yes
    · rw [if_neg (by simp), pw_n _ _ _ (by omega)]
      rw [hY] at this
      have t1 : encN 0 = enc 0 := this.1
      have t2 : badN 0 = false := this.2
      simp [t1, t2]
    · rw [if_pos rfl, pw_n _ _ _ (by omega)]
      rw [hY] at this
      have t1 : encN 1 = enc 1 := this.1
      have t2 : badN 1 = false := this.2
      simp [t1, t2]
  rw [hb _ _ (by simp only [List.length_append]; omega)]
  simp only [Option.bind_some]
  rw [pw_n _ _ _ (by simp only [List.length_append]; omega)]
  simp only [Option.bind_some]
  rw [rowResult _ _ _ h.r h.rx (by simp only [List.length_append]; omega)]
  simp only [Option.bind_some]
  rw [rowNode _ _ _ h.n h.nx (by simp only [List.length_append]; omega)]
  simp only [Option.bind_some]
  rw [rowTurn _ _ _ h.t h.tx (by simp only [List.length_append]; omega)]
  simp only [Option.bind_some]
  rw [rowEvent _ _ _ h.e h.ex (by simp only [List.length_append]; omega)]
  simp only [Option.bind_some]
  rw [rowMount _ _ _ h.m h.mx (by simp only [List.length_append]; omega)]
  simp only [Option.bind_some]
  rw [rowint _ _ _ h.w (fun _ _ => trivial) (by simp only [List.length_append]; omega)]
  simp only [Option.bind_some]
  rw [pw_bytes _ _ (by simp only [List.length_append]; omega)]
  simp only [Option.bind_some]
  unfold Codec.put
  rw [ansW, ansBad]
  simp [Bool.or_assoc]
end Go.Cb
