/- Functions of the program, walked: each comes to its plain function. -/
import Derived.Test.YtlocfgonplkcoaaKm3
set_option linter.unusedVariables false
set_option linter.unusedSimpArgs false
namespace Go.Cb
open Go.Proofs Go.RowKit
def m_cantonlaw17_LetterMay_j3 (rec_1 : Bool → Int → Option Bool) (x62 : Int) (b72 : Bool) : Option Bool :=
  rec_1 b72 (IntKind.i64.wrap (x62 + 1))
def m_cantonlaw17_LetterMay_j4 (rec_2 : Bool → Int → Option Bool) (x95 : Int) (b105 : Bool) : Option Bool :=
  rec_2 b105 (IntKind.i64.wrap (x95 + 1))
def m_cantonlaw17_LetterMay_j5 (rec_3 : Bool → Int → Option Bool) (x132 : Int) (b142 : Bool) : Option Bool :=
  rec_3 b142 (IntKind.i64.wrap (x132 + 1))
def m_cantonlaw17_LetterMay_j6 (rec_4 : Bool → Int → Option Bool) (x159 : Int) (b169 : Bool) : Option Bool :=
  rec_4 b169 (IntKind.i64.wrap (x159 + 1))
def m_cantonlaw17_LetterMay_j7 (rec_5 : Bool → Int → Option Bool) (x198 : Int) (b208 : Bool) : Option Bool :=
  rec_5 b208 (IntKind.i64.wrap (x198 + 1))
def m_cantonlaw17_LetterMay_j8 (rec_6 : Bool → Int → Option Bool) (x237 : Int) (b247 : Bool) : Option Bool :=
  rec_6 b247 (IntKind.i64.wrap (x237 + 1))
def m_cantonlaw17_LetterMay_l6 (x3 : S_api_Answer) (u33 : Bool) (x1 : S_api_Saved) (u45 : (List Int) × Int) (u48 : (List Int) × Int) : Nat → Bool → Int → Option Bool
  | 0, _, _ => none
  | k6 + 1, b236, x237 =>
    if (decide (x237 < (x3.Wounded.length : Int))) = true then (if b236 = true then ((idx x3.Wounded x237).bind fun x258 => (m_cantonlaw17_may x258).bind fun u261 => m_cantonlaw17_LetterMay_j8 (m_cantonlaw17_LetterMay_l6 x3 u33 x1 u45 u48 k6) x237 u261) else (m_cantonlaw17_LetterMay_j8 (m_cantonlaw17_LetterMay_l6 x3 u33 x1 u45 u48 k6) x237 false)) else (if u33 = true then ((m_cantonlaw17_may x1.View).bind fun u264 => if u264 = true then ((m_cantonlaw17_may x1.Normal).bind fun u267 => if ((u45.2 == 0) == u267) = true then (some ((u48.2 == 0) == b236)) else (some (false))) else (if ((u45.2 == 0) == false) = true then (some ((u48.2 == 0) == b236)) else (some (false)))) else (some (false)))
def m_cantonlaw17_LetterMay_l5 (x3 : S_api_Answer) (u33 : Bool) (x1 : S_api_Saved) (u45 : (List Int) × Int) (u48 : (List Int) × Int) : Nat → Bool → Int → Option Bool
  | 0, _, _ => none
  | k5 + 1, b197, x198 =>
    if (decide (x198 < (x3.Mounts.length : Int))) = true then (if b197 = true then ((idx x3.Mounts x198).bind fun x219 => (m_cantonlaw17_may x219.Group).bind fun u222 => if u222 = true then ((idx x3.Mounts x198).bind fun x225 => (m_cantonlaw17_may x225.Epoch).bind fun u228 => if u228 = true then ((idx x3.Mounts x198).bind fun x231 => (m_cantonlaw17_may x231.To).bind fun u234 => m_cantonlaw17_LetterMay_j7 (m_cantonlaw17_LetterMay_l5 x3 u33 x1 u45 u48 k5) x198 u234) else (m_cantonlaw17_LetterMay_j7 (m_cantonlaw17_LetterMay_l5 x3 u33 x1 u45 u48 k5) x198 false)) else (m_cantonlaw17_LetterMay_j7 (m_cantonlaw17_LetterMay_l5 x3 u33 x1 u45 u48 k5) x198 false)) else (m_cantonlaw17_LetterMay_j7 (m_cantonlaw17_LetterMay_l5 x3 u33 x1 u45 u48 k5) x198 false)) else (m_cantonlaw17_LetterMay_l6 x3 u33 x1 u45 u48 (((x3.Wounded.length : Int) - 0 : Int).toNat + 1) b197 0)
def m_cantonlaw17_LetterMay_l4 (x3 : S_api_Answer) (u33 : Bool) (x1 : S_api_Saved) (u45 : (List Int) × Int) (u48 : (List Int) × Int) : Nat → Bool → Int → Option Bool
  | 0, _, _ => none
  | k4 + 1, b158, x159 =>
    if (decide (x159 < (x3.Events.length : Int))) = true then (if b158 = true then ((idx x3.Events x159).bind fun x180 => (m_cantonlaw17_may x180.Num).bind fun u183 => if u183 = true then ((idx x3.Events x159).bind fun x186 => (m_cantonlaw17_may x186.Kind).bind fun u189 => if u189 = true then ((idx x3.Events x159).bind fun x192 => (m_cantonlaw17_may x192.Watch).bind fun u195 => m_cantonlaw17_LetterMay_j6 (m_cantonlaw17_LetterMay_l4 x3 u33 x1 u45 u48 k4) x159 u195) else (m_cantonlaw17_LetterMay_j6 (m_cantonlaw17_LetterMay_l4 x3 u33 x1 u45 u48 k4) x159 false)) else (m_cantonlaw17_LetterMay_j6 (m_cantonlaw17_LetterMay_l4 x3 u33 x1 u45 u48 k4) x159 false)) else (m_cantonlaw17_LetterMay_j6 (m_cantonlaw17_LetterMay_l4 x3 u33 x1 u45 u48 k4) x159 false)) else (m_cantonlaw17_LetterMay_l5 x3 u33 x1 u45 u48 (((x3.Mounts.length : Int) - 0 : Int).toNat + 1) b158 0)
def m_cantonlaw17_LetterMay_l3 (x3 : S_api_Answer) (u33 : Bool) (x1 : S_api_Saved) (u45 : (List Int) × Int) (u48 : (List Int) × Int) : Nat → Bool → Int → Option Bool
  | 0, _, _ => none
  | k3 + 1, b131, x132 =>
    if (decide (x132 < (x3.Store.Turns.length : Int))) = true then (if b131 = true then ((idx x3.Store.Turns x132).bind fun x153 => (m_cantonlaw17_may x153.Next).bind fun u156 => m_cantonlaw17_LetterMay_j5 (m_cantonlaw17_LetterMay_l3 x3 u33 x1 u45 u48 k3) x132 u156) else (m_cantonlaw17_LetterMay_j5 (m_cantonlaw17_LetterMay_l3 x3 u33 x1 u45 u48 k3) x132 false)) else (m_cantonlaw17_LetterMay_l4 x3 u33 x1 u45 u48 (((x3.Events.length : Int) - 0 : Int).toNat + 1) b131 0)
def m_cantonlaw17_LetterMay_l2 (x3 : S_api_Answer) (u33 : Bool) (x1 : S_api_Saved) (u45 : (List Int) × Int) (u48 : (List Int) × Int) : Nat → Bool → Int → Option Bool
  | 0, _, _ => none
  | k2 + 1, b94, x95 =>
    if (decide (x95 < (x3.Store.Nodes.length : Int))) = true then (if b94 = true then ((idx x3.Store.Nodes x95).bind fun x116 => (m_cantonlaw17_may x116.Version).bind fun u119 => if u119 = true then ((idx x3.Store.Nodes x95).bind fun x122 => (m_cantonlaw17_may x122.Owner).bind fun u125 => if u125 = true then ((idx x3.Store.Nodes x95).bind fun x128 => m_cantonlaw17_LetterMay_j4 (m_cantonlaw17_LetterMay_l2 x3 u33 x1 u45 u48 k2) x95 (x128.Turn == 0)) else (m_cantonlaw17_LetterMay_j4 (m_cantonlaw17_LetterMay_l2 x3 u33 x1 u45 u48 k2) x95 false)) else (m_cantonlaw17_LetterMay_j4 (m_cantonlaw17_LetterMay_l2 x3 u33 x1 u45 u48 k2) x95 false)) else (m_cantonlaw17_LetterMay_j4 (m_cantonlaw17_LetterMay_l2 x3 u33 x1 u45 u48 k2) x95 false)) else (m_cantonlaw17_LetterMay_l3 x3 u33 x1 u45 u48 (((x3.Store.Turns.length : Int) - 0 : Int).toNat + 1) b94 0)
def m_cantonlaw17_LetterMay_l1 (x3 : S_api_Answer) (u33 : Bool) (x1 : S_api_Saved) (u45 : (List Int) × Int) (u48 : (List Int) × Int) : Nat → Bool → Int → Option Bool
  | 0, _, _ => none
  | k1 + 1, b61, x62 =>
    if (decide (x62 < (x3.Results.length : Int))) = true then (if b61 = true then ((idx x3.Results x62).bind fun x83 => (m_cantonlaw17_may x83.Err).bind fun u86 => if u86 = true then ((idx x3.Results x62).bind fun x89 => (m_cantonlaw17_may x89.Version).bind fun u92 => m_cantonlaw17_LetterMay_j3 (m_cantonlaw17_LetterMay_l1 x3 u33 x1 u45 u48 k1) x62 u92) else (m_cantonlaw17_LetterMay_j3 (m_cantonlaw17_LetterMay_l1 x3 u33 x1 u45 u48 k1) x62 false)) else (m_cantonlaw17_LetterMay_j3 (m_cantonlaw17_LetterMay_l1 x3 u33 x1 u45 u48 k1) x62 false)) else (m_cantonlaw17_LetterMay_l2 x3 u33 x1 u45 u48 (((x3.Store.Nodes.length : Int) - 0 : Int).toNat + 1) b61 0)
def m_cantonlaw17_LetterMay_j2 (x3 : S_api_Answer) (u33 : Bool) (x1 : S_api_Saved) (u45 : (List Int) × Int) (u48 : (List Int) × Int) (b51 : Bool) : Option Bool :=
  m_cantonlaw17_LetterMay_l1 x3 u33 x1 u45 u48 (((x3.Results.length : Int) - 0 : Int).toNat + 1) b51 0
def m_cantonlaw17_LetterMay_j1 (x3 : S_api_Answer) (u33 : Bool) (x1 : S_api_Saved) (b35 : Bool) : Option Bool :=
  if b35 = true then (some (u33)) else ((m_letter_PutSaved (⟨x1.View, x1.Normal, x1.Log⟩ : S_api_Saved)).bind fun u45 => (m_letter_PutAnswer (⟨x3.Err, x3.At, x3.Yes, x3.Epoch, x3.Results, (⟨x3.Store.Nodes, x3.Store.Turns⟩ : S_api_Store), x3.Events, x3.Mounts, x3.Wounded⟩ : S_api_Answer)).bind fun u48 => (m_cantonlaw17_may x3.Err).bind fun u271 => if u271 = true then ((m_cantonlaw17_may x3.At).bind fun u274 => if u274 = true then ((m_cantonlaw17_may x3.Epoch).bind fun u277 => m_cantonlaw17_LetterMay_j2 x3 u33 x1 u45 u48 u277) else (m_cantonlaw17_LetterMay_j2 x3 u33 x1 u45 u48 false)) else (m_cantonlaw17_LetterMay_j2 x3 u33 x1 u45 u48 false))
def m_cantonlaw17_LetterMay (x1 : S_api_Saved) (x3 : S_api_Answer) : Option Bool :=
  m_cantonlaw17_head.bind fun u33 => (m_cantonlaw17_GreatLog x1.Log).bind fun u279 => if u279 = true then (m_cantonlaw17_LetterMay_j1 x3 u33 x1 true) else ((m_cantonlaw17_GreatAnswer (⟨x3.Err, x3.At, x3.Yes, x3.Epoch, x3.Results, (⟨x3.Store.Nodes, x3.Store.Turns⟩ : S_api_Store), x3.Events, x3.Mounts, x3.Wounded⟩ : S_api_Answer)).bind fun u282 => m_cantonlaw17_LetterMay_j1 x3 u33 x1 u282)
set_option maxRecDepth 20000 in
set_option maxHeartbeats 1000000 in
theorem c_cantonlaw17_LetterMay {w : World} {Fo : List Ob} {rs : List Rp} (x1 : S_api_Saved) (v2 : Value) (x3 : S_api_Answer) (v4 : Value) (v5 : Value) (v6 : Value) (v7 : Value) (v8 : Value) (v9 : Value) (H : Sep w (Fo) rs) (hr10 : rSl kS v2 x1.Log ∈ rs) (hr11 : rSl k_api_Result v4 x3.Results ∈ rs) (hr12 : rSl k_api_Node v5 x3.Store.Nodes ∈ rs) (hr13 : rSl k_api_Turn v6 x3.Store.Turns ∈ rs) (hr14 : rSl k_api_Event v7 x3.Events ∈ rs) (hr15 : rSl k_api_Mount v8 x3.Mounts ∈ rs) (hr16 : rSl (kI .i64) v9 x3.Wounded ∈ rs) {r : Bool} (hm : m_cantonlaw17_LetterMay x1 x3 = some r) :
    Calls Try.prog 8 [.agg #[.int .i64 x1.View, .int .i64 x1.Normal, v2], .agg #[.int .i64 x3.Err, .int .i64 x3.At, .bool x3.Yes, .int .i64 x3.Epoch, v4, v5, v6, v7, v8, v9]].toArray w (Ret fun v w' => .bool r = v ∧ Sep w' (Fo) (rs)) := by
 unfold m_cantonlaw17_LetterMay at hm
 refine enter Try.func8 rfl Try.ntmps8 rfl fun a E => ?_
 simp only [enum, Nat.reduceAdd] at E
 refine wp_seq ?_
 refine wp_region_lit ?_
 obtain ⟨q18, x19, rfl⟩ := H.slform hr10
 refine st_box E H (wn rfl) rfl rfl (cs := [.int .i64 x1.View, .int .i64 x1.Normal, (.slice q18 x1.Log.length x19)]) rfl rfl rfl ?_
 clear E H; clear a; clear w; intro p17 w a H E
 obtain ⟨q21, x22, rfl⟩ := H.slform hr11
 obtain ⟨q23, x24, rfl⟩ := H.slform hr12
 obtain ⟨q25, x26, rfl⟩ := H.slform hr13
 obtain ⟨q27, x28, rfl⟩ := H.slform hr14
 obtain ⟨q29, x30, rfl⟩ := H.slform hr15
 obtain ⟨q31, x32, rfl⟩ := H.slform hr16
 refine st_box E H (wn rfl) rfl rfl (cs := [.int .i64 x3.Err, .int .i64 x3.At, .bool x3.Yes, .int .i64 x3.Epoch, (.slice q21 x3.Results.length x22), (.slice q23 x3.Store.Nodes.length x24), (.slice q25 x3.Store.Turns.length x26), (.slice q27 x3.Events.length x28), (.slice q29 x3.Mounts.length x30), (.slice q31 x3.Wounded.length x32)]) rfl rfl rfl ?_
 clear E H; clear a; clear w; intro p20 w a H E
 refine sv E rfl rfl rfl (x_assign E rfl rfl) ?_
 clear a E;intro a E
 refine wpList_nil ?_
 refine q_then ?_
 refine wp_seq ?_
 refine wp_region_lit ?_
 obtain ⟨u33, hx34, hm⟩ := bnd hm
 refine st_call E (wn rfl) rfl rfl (x_call E rfl rfl (cf9 _)) (c_cantonlaw17_head H hx34) ?_
 clear E H; clear a; clear w; rintro _ w ⟨rfl, H⟩ a E
 refine sv E rfl rfl rfl (x_assign E rfl rfl) ?_
 clear a E;intro a E
 refine wpList_nil ?_
 refine q_then ?_
 refine wp_seq ?_
 refine wp_seq_cut (fun a w => ∃ (b35 : Bool) (rs36 : List Rp), Env 239 a [(2, .pointer (some ⟨p17, 0, none⟩)), (3, .pointer (some ⟨p20, 0, none⟩)), (5, .bool u33), (24, .bool b35)] ∧ Sep w (Blk p17 26 [.int .i64 x1.View, .int .i64 x1.Normal, (.slice q18 x1.Log.length x19)] :: Blk p20 50 [.int .i64 x3.Err, .int .i64 x3.At, .bool x3.Yes, .int .i64 x3.Epoch, (.slice q21 x3.Results.length x22), (.slice q23 x3.Store.Nodes.length x24), (.slice q25 x3.Store.Turns.length x26), (.slice q27 x3.Events.length x28), (.slice q29 x3.Mounts.length x30), (.slice q31 x3.Wounded.length x32)] :: Fo) rs36 ∧ (∀ r, r ∈ rs → r ∈ rs36) ∧ rSl kS (.slice q18 x1.Log.length x19) x1.Log ∈ rs36 ∧ rSl k_api_Result (.slice q21 x3.Results.length x22) x3.Results ∈ rs36 ∧ rSl k_api_Node (.slice q23 x3.Store.Nodes.length x24) x3.Store.Nodes ∈ rs36 ∧ rSl k_api_Turn (.slice q25 x3.Store.Turns.length x26) x3.Store.Turns ∈ rs36 ∧ rSl k_api_Event (.slice q27 x3.Events.length x28) x3.Events ∈ rs36 ∧ rSl k_api_Mount (.slice q29 x3.Mounts.length x30) x3.Mounts ∈ rs36 ∧ rSl (kI .i64) (.slice q31 x3.Wounded.length x32) x3.Wounded ∈ rs36 ∧ m_cantonlaw17_LetterMay_j1 x3 u33 x1 b35 = some r) ?_ ?_
 ·refine wp_region_lit ?_
  refine sv E rfl rfl rfl (x_fa E rfl rfl (v := .pointer (some ⟨p17, 2, none⟩)) (fa26_2 _ _)) ?_
  clear a E;intro a E
  refine sv E rfl rfl rfl (x_ldB (i := 1) E H rfl rfl rfl rfl Try.underlying22 rfl) ?_
  clear a E;intro a E
  obtain ⟨u279, hx280, hm⟩ := bnd hm
  refine st_call E (wn rfl) rfl rfl (x_call E rfl rfl (cf10 _)) (c_cantonlaw17_GreatLog (.slice q18 x1.Log.length x19) x1.Log H hr10 hx280) ?_
  clear E H; clear a; clear w; rintro _ w ⟨rfl, H⟩ a E
  refine sv E rfl rfl rfl (x_move E rfl rfl) ?_
  clear a E;intro a E
  rcases Bool.eq_false_or_eq_true u279 with hb281 | hb281
  ·rw [if_t hb281] at hm
   refine st_no E (wf' E rfl rfl rfl rfl hb281 rfl) rfl rfl ?_
   clear a E;intro a E
   refine st_no E (wf' E rfl rfl rfl rfl hb281 rfl) rfl rfl ?_
   clear a E;intro a E
   refine sv E rfl rfl rfl (x_pickT E rfl rfl hb281 rfl) ?_
   clear a E;intro a E
   refine wpList_nil ?_
   refine q_then ?_
   replace H := H.front 0 rfl
   replace H := H.front 1 rfl
   exact ⟨true, _, ((((E.nil.keep E 24 rfl).keep E 5 rfl).keep E 3 rfl).keep E 2 rfl), H, fun r hr => hr, hr10, hr11, hr12, hr13, hr14, hr15, hr16, hm⟩
  ·rw [if_f hb281] at hm
   refine st_val E (ws' E rfl rfl rfl rfl hb281) rfl rfl (x_ldBN (i := 0) (us := [.int .i64 x3.Err, .int .i64 x3.At, .bool x3.Yes, .int .i64 x3.Epoch, (.slice q21 x3.Results.length x22), (.slice q23 x3.Store.Nodes.length x24), (.slice q25 x3.Store.Turns.length x26), (.slice q27 x3.Events.length x28), (.slice q29 x3.Mounts.length x30), (.slice q31 x3.Wounded.length x32)]) E H rfl rfl rfl rfl Try.underlying50 rfl sz50) ?_
   clear a E;intro a E
   obtain ⟨u282, hx283, hm⟩ := bnd hm
   refine st_call E (ws' E rfl rfl rfl rfl hb281) rfl rfl (x_call E rfl rfl (cf21 _)) (c_cantonlaw17_GreatAnswer (⟨x3.Err, x3.At, x3.Yes, x3.Epoch, x3.Results, (⟨x3.Store.Nodes, x3.Store.Turns⟩ : S_api_Store), x3.Events, x3.Mounts, x3.Wounded⟩ : S_api_Answer) (.slice q21 x3.Results.length x22) (.slice q23 x3.Store.Nodes.length x24) (.slice q25 x3.Store.Turns.length x26) (.slice q27 x3.Events.length x28) (.slice q29 x3.Mounts.length x30) (.slice q31 x3.Wounded.length x32) H hr11 hr12 hr13 hr14 hr15 hr16 hx283) ?_
   clear E H; clear a; clear w; rintro _ w ⟨rfl, H⟩ a E
   refine sv E rfl rfl rfl (x_pickF E rfl rfl hb281 rfl) ?_
   clear a E;intro a E
   refine wpList_nil ?_
   refine q_then ?_
   replace H := H.front 0 rfl
   replace H := H.front 1 rfl
   exact ⟨u282, _, ((((E.nil.keep E 24 rfl).keep E 5 rfl).keep E 3 rfl).keep E 2 rfl), H, fun r hr => hr, hr10, hr11, hr12, hr13, hr14, hr15, hr16, hm⟩
 ·clear E H hm
  rintro a w ⟨b35, rs36, E, H, hs37, hr38, hr39, hr40, hr41, hr42, hr43, hr44, hm⟩
  unfold m_cantonlaw17_LetterMay_j1 at hm
  refine wp_if E rfl ?_ ?_
  ·intro hb
   rw [if_t hb] at hm
   clear hb
   refine wp_seq ?_
   refine wp_region_lit ?_
   refine sv E rfl rfl rfl (x_move E rfl rfl) ?_
   clear a E;intro a E
   refine sv E rfl rfl rfl (x_assign E rfl rfl) ?_
   clear a E;intro a E
   refine wpList_nil ?_
   refine q_then ?_
   refine wp_ret ?_
   refine q_thenR ?_
   refine out1 E rfl rfl ?_
   replace H := H.drop 0
   replace H := H.drop 0
   obtain rfl := Option.some.inj hm
   exact ⟨rfl, H.reads (fun r hr => hs37 r hr)⟩
  ·intro hb
   rw [if_f hb] at hm
   clear hb
   refine wp_skip ?_
   refine q_then ?_
   refine wp_seq ?_
   refine wp_region_lit ?_
   refine sv E rfl rfl rfl (x_ldBN (i := 0) (us := [.int .i64 x1.View, .int .i64 x1.Normal, (.slice q18 x1.Log.length x19)]) E H rfl rfl rfl rfl Try.underlying26 rfl sz26) ?_
   clear a E;intro a E
   obtain ⟨u45, hx46, hm⟩ := bnd hm
   refine st_call E (wn rfl) rfl rfl (x_call E rfl rfl (cf13 _)) (c_letter_PutSaved (⟨x1.View, x1.Normal, x1.Log⟩ : S_api_Saved) (.slice q18 x1.Log.length x19) H hr38 hx46) ?_
   clear E H; clear a; clear w; rintro _ w ⟨v47, rfl, H⟩ a E
   refine sv E rfl rfl rfl (x_move E rfl rfl) ?_
   clear a E;intro a E
   refine sv E rfl rfl rfl (x_ext E rfl rfl rfl) ?_
   clear a E;intro a E
   refine sv E rfl rfl rfl (x_ext E rfl rfl rfl) ?_
   clear a E;intro a E
   refine sv E rfl rfl rfl (x_assign E rfl rfl) ?_
   clear a E;intro a E
   refine sv E rfl rfl rfl (x_assign E rfl rfl) ?_
   clear a E;intro a E
   refine wpList_nil ?_
   refine q_then ?_
   refine wp_seq ?_
   refine wp_region_lit ?_
   refine sv E rfl rfl rfl (x_ldBN (i := 2) (us := [.int .i64 x3.Err, .int .i64 x3.At, .bool x3.Yes, .int .i64 x3.Epoch, (.slice q21 x3.Results.length x22), (.slice q23 x3.Store.Nodes.length x24), (.slice q25 x3.Store.Turns.length x26), (.slice q27 x3.Events.length x28), (.slice q29 x3.Mounts.length x30), (.slice q31 x3.Wounded.length x32)]) E H rfl rfl rfl rfl Try.underlying50 rfl sz50) ?_
   clear a E;intro a E
   obtain ⟨u48, hx49, hm⟩ := bnd hm
   refine st_call E (wn rfl) rfl rfl (x_call E rfl rfl (cf22 _)) (c_letter_PutAnswer (⟨x3.Err, x3.At, x3.Yes, x3.Epoch, x3.Results, (⟨x3.Store.Nodes, x3.Store.Turns⟩ : S_api_Store), x3.Events, x3.Mounts, x3.Wounded⟩ : S_api_Answer) (.slice q21 x3.Results.length x22) (.slice q23 x3.Store.Nodes.length x24) (.slice q25 x3.Store.Turns.length x26) (.slice q27 x3.Events.length x28) (.slice q29 x3.Mounts.length x30) (.slice q31 x3.Wounded.length x32) H hr39 hr40 hr41 hr42 hr43 hr44 hx49) ?_
   clear E H; clear a; clear w; rintro _ w ⟨v50, rfl, H⟩ a E
   refine sv E rfl rfl rfl (x_move E rfl rfl) ?_
   clear a E;intro a E
   refine sv E rfl rfl rfl (x_ext E rfl rfl rfl) ?_
   clear a E;intro a E
   refine sv E rfl rfl rfl (x_ext E rfl rfl rfl) ?_
   clear a E;intro a E
   refine sv E rfl rfl rfl (x_assign E rfl rfl) ?_
   clear a E;intro a E
   refine sv E rfl rfl rfl (x_assign E rfl rfl) ?_
   clear a E;intro a E
   refine wpList_nil ?_
   refine q_then ?_
   refine wp_seq_cut (fun a w => ∃ (b51 : Bool) (rs52 : List Rp), Env 239 a [(2, .pointer (some ⟨p17, 0, none⟩)), (3, .pointer (some ⟨p20, 0, none⟩)), (5, .bool u33), (7, .int .i64 u45.2), (9, .int .i64 u48.2), (10, .bool b51)] ∧ Sep w (Blk p17 26 [.int .i64 x1.View, .int .i64 x1.Normal, (.slice q18 x1.Log.length x19)] :: Blk p20 50 [.int .i64 x3.Err, .int .i64 x3.At, .bool x3.Yes, .int .i64 x3.Epoch, (.slice q21 x3.Results.length x22), (.slice q23 x3.Store.Nodes.length x24), (.slice q25 x3.Store.Turns.length x26), (.slice q27 x3.Events.length x28), (.slice q29 x3.Mounts.length x30), (.slice q31 x3.Wounded.length x32)] :: Fo) rs52 ∧ (∀ r, r ∈ rs → r ∈ rs52) ∧ rSl kS (.slice q18 x1.Log.length x19) x1.Log ∈ rs52 ∧ rSl k_api_Result (.slice q21 x3.Results.length x22) x3.Results ∈ rs52 ∧ rSl k_api_Node (.slice q23 x3.Store.Nodes.length x24) x3.Store.Nodes ∈ rs52 ∧ rSl k_api_Turn (.slice q25 x3.Store.Turns.length x26) x3.Store.Turns ∈ rs52 ∧ rSl k_api_Event (.slice q27 x3.Events.length x28) x3.Events ∈ rs52 ∧ rSl k_api_Mount (.slice q29 x3.Mounts.length x30) x3.Mounts ∈ rs52 ∧ rSl (kI .i64) (.slice q31 x3.Wounded.length x32) x3.Wounded ∈ rs52 ∧ m_cantonlaw17_LetterMay_j2 x3 u33 x1 u45 u48 b51 = some r) ?_ ?_
   ·refine wp_region_lit ?_
    refine sv E rfl rfl rfl (x_fa E rfl rfl (v := .pointer (some ⟨p20, 0, none⟩)) (fa50_0 _ _)) ?_
    clear a E;intro a E
    refine sv E rfl rfl rfl (x_ldB (i := 3) E H rfl rfl rfl rfl Try.underlying30 rfl) ?_
    clear a E;intro a E
    obtain ⟨u271, hx272, hm⟩ := bnd hm
    refine st_call E (wn rfl) rfl rfl (x_call E rfl rfl (cf27 _)) (c_cantonlaw17_may x3.Err H hx272) ?_
    clear E H; clear a; clear w; rintro _ w ⟨rfl, H⟩ a E
    refine sv E rfl rfl rfl (x_move E rfl rfl) ?_
    clear a E;intro a E
    rcases Bool.eq_false_or_eq_true u271 with hb273 | hb273
    ·rw [if_t hb273] at hm
     refine st_val E (ws' E rfl rfl rfl rfl hb273) rfl rfl (x_fa E rfl rfl (v := .pointer (some ⟨p20, 1, none⟩)) (fa50_1 _ _)) ?_
     clear a E;intro a E
     refine st_val E (ws' E rfl rfl rfl rfl hb273) rfl rfl (x_ldB (i := 3) E H rfl rfl rfl rfl Try.underlying3 rfl) ?_
     clear a E;intro a E
     obtain ⟨u274, hx275, hm⟩ := bnd hm
     refine st_call E (ws' E rfl rfl rfl rfl hb273) rfl rfl (x_call E rfl rfl (cf27 _)) (c_cantonlaw17_may x3.At H hx275) ?_
     clear E H; clear a; clear w; rintro _ w ⟨rfl, H⟩ a E
     refine sv E rfl rfl rfl (x_pickT E rfl rfl hb273 rfl) ?_
     clear a E;intro a E
     refine sv E rfl rfl rfl (x_move E rfl rfl) ?_
     clear a E;intro a E
     rcases Bool.eq_false_or_eq_true u274 with hb276 | hb276
     ·rw [if_t hb276] at hm
      refine st_val E (ws' E rfl rfl rfl rfl hb276) rfl rfl (x_fa E rfl rfl (v := .pointer (some ⟨p20, 3, none⟩)) (fa50_3 _ _)) ?_
      clear a E;intro a E
      refine st_val E (ws' E rfl rfl rfl rfl hb276) rfl rfl (x_ldB (i := 3) E H rfl rfl rfl rfl Try.underlying2 rfl) ?_
      clear a E;intro a E
      obtain ⟨u277, hx278, hm⟩ := bnd hm
      refine st_call E (ws' E rfl rfl rfl rfl hb276) rfl rfl (x_call E rfl rfl (cf27 _)) (c_cantonlaw17_may x3.Epoch H hx278) ?_
      clear E H; clear a; clear w; rintro _ w ⟨rfl, H⟩ a E
      refine sv E rfl rfl rfl (x_pickT E rfl rfl hb276 rfl) ?_
      clear a E;intro a E
      refine sv E rfl rfl rfl (x_assign E rfl rfl) ?_
      clear a E;intro a E
      refine wpList_nil ?_
      refine q_then ?_
      replace H := H.drop 0
      replace H := H.drop 0
      exact ⟨u277, _, ((((((E.nil.keep E 10 rfl).keep E 9 rfl).keep E 7 rfl).keep E 5 rfl).keep E 3 rfl).keep E 2 rfl), H, hs37, hr38, hr39, hr40, hr41, hr42, hr43, hr44, hm⟩
     ·rw [if_f hb276] at hm
      refine st_no E (wf' E rfl rfl rfl rfl hb276 rfl) rfl rfl ?_
      clear a E;intro a E
      refine st_no E (wf' E rfl rfl rfl rfl hb276 rfl) rfl rfl ?_
      clear a E;intro a E
      refine st_no E (wf' E rfl rfl rfl rfl hb276 rfl) rfl rfl ?_
      clear a E;intro a E
      refine sv E rfl rfl rfl (x_pickF E rfl rfl hb276 rfl) ?_
      clear a E;intro a E
      refine sv E rfl rfl rfl (x_assign E rfl rfl) ?_
      clear a E;intro a E
      refine wpList_nil ?_
      refine q_then ?_
      replace H := H.drop 0
      replace H := H.drop 0
      exact ⟨false, _, ((((((E.nil.keep E 10 rfl).keep E 9 rfl).keep E 7 rfl).keep E 5 rfl).keep E 3 rfl).keep E 2 rfl), H, hs37, hr38, hr39, hr40, hr41, hr42, hr43, hr44, hm⟩
    ·rw [if_f hb273] at hm
     refine st_no E (wf' E rfl rfl rfl rfl hb273 rfl) rfl rfl ?_
     clear a E;intro a E
     refine st_no E (wf' E rfl rfl rfl rfl hb273 rfl) rfl rfl ?_
     clear a E;intro a E
     refine st_no E (wf' E rfl rfl rfl rfl hb273 rfl) rfl rfl ?_
     clear a E;intro a E
     refine sv E rfl rfl rfl (x_pickF E rfl rfl hb273 rfl) ?_
     clear a E;intro a E
     refine sv E rfl rfl rfl (x_move E rfl rfl) ?_
     clear a E;intro a E
     refine st_no E (wf E rfl rfl rfl rfl rfl) rfl rfl ?_
     clear a E;intro a E
     refine st_no E (wf E rfl rfl rfl rfl rfl) rfl rfl ?_
     clear a E;intro a E
     refine st_no E (wf E rfl rfl rfl rfl rfl) rfl rfl ?_
     clear a E;intro a E
     refine sv E rfl rfl rfl (x_pickF E rfl rfl rfl rfl) ?_
     clear a E;intro a E
     refine sv E rfl rfl rfl (x_assign E rfl rfl) ?_
     clear a E;intro a E
     refine wpList_nil ?_
     refine q_then ?_
     replace H := H.drop 0
     replace H := H.drop 0
     exact ⟨false, _, ((((((E.nil.keep E 10 rfl).keep E 9 rfl).keep E 7 rfl).keep E 5 rfl).keep E 3 rfl).keep E 2 rfl), H, hs37, hr38, hr39, hr40, hr41, hr42, hr43, hr44, hm⟩
   ·clear E H hm
    rintro a w ⟨b51, rs52, E, H, hs53, hr54, hr55, hr56, hr57, hr58, hr59, hr60, hm⟩
    unfold m_cantonlaw17_LetterMay_j2 at hm
    refine wp_seq ?_
    refine wp_seq ?_
    refine wp_region_lit ?_
    refine sv E rfl rfl rfl (x_assign E rfl rfl) ?_
    clear a E;intro a E
    refine wpList_nil ?_
    refine q_then ?_
    refine wp_block ?_
    refine wp_loop_g (fun k1 a w => ∃ (b61 : Bool) (x62 : Int) (rs63 : List Rp), Env 239 a [(2, .pointer (some ⟨p17, 0, none⟩)), (3, .pointer (some ⟨p20, 0, none⟩)), (5, .bool u33), (7, .int .i64 u45.2), (9, .int .i64 u48.2), (10, .bool b61), (11, .int .i64 x62)] ∧ Sep w (Blk p17 26 [.int .i64 x1.View, .int .i64 x1.Normal, (.slice q18 x1.Log.length x19)] :: Blk p20 50 [.int .i64 x3.Err, .int .i64 x3.At, .bool x3.Yes, .int .i64 x3.Epoch, (.slice q21 x3.Results.length x22), (.slice q23 x3.Store.Nodes.length x24), (.slice q25 x3.Store.Turns.length x26), (.slice q27 x3.Events.length x28), (.slice q29 x3.Mounts.length x30), (.slice q31 x3.Wounded.length x32)] :: Fo) rs63 ∧ (∀ r, r ∈ rs → r ∈ rs63) ∧ rSl kS (.slice q18 x1.Log.length x19) x1.Log ∈ rs63 ∧ rSl k_api_Result (.slice q21 x3.Results.length x22) x3.Results ∈ rs63 ∧ rSl k_api_Node (.slice q23 x3.Store.Nodes.length x24) x3.Store.Nodes ∈ rs63 ∧ rSl k_api_Turn (.slice q25 x3.Store.Turns.length x26) x3.Store.Turns ∈ rs63 ∧ rSl k_api_Event (.slice q27 x3.Events.length x28) x3.Events ∈ rs63 ∧ rSl k_api_Mount (.slice q29 x3.Mounts.length x30) x3.Mounts ∈ rs63 ∧ rSl (kI .i64) (.slice q31 x3.Wounded.length x32) x3.Wounded ∈ rs63 ∧ m_cantonlaw17_LetterMay_l1 x3 u33 x1 u45 u48 k1 b61 x62 = some r) (((x3.Results.length : Int) - 0 : Int).toNat + 1) ?_ ?_
    ·exact ⟨b51, 0, _, (((((((E.nil.keep E 11 rfl).keep E 10 rfl).keep E 9 rfl).keep E 7 rfl).keep E 5 rfl).keep E 3 rfl).keep E 2 rfl), H, hs53, hr54, hr55, hr56, hr57, hr58, hr59, hr60, hm⟩
    ·clear E H hm
     rintro k1 a w ⟨b61, x62, rs63, E, H, hs64, hr65, hr66, hr67, hr68, hr69, hr70, hr71, hm⟩
     cases k1 with
     | zero => exact (none_some hm rfl).elim
     | succ k1 =>
      unfold m_cantonlaw17_LetterMay_l1 at hm
      refine wp_seq ?_
      refine wp_seq ?_
      refine wp_region_lit ?_
      refine sv E rfl rfl rfl (x_move E rfl rfl) ?_
      clear a E;intro a E
      refine sv E rfl rfl rfl (x_fa E rfl rfl (v := .pointer (some ⟨p20, 4, none⟩)) (fa50_4 _ _)) ?_
      clear a E;intro a E
      refine sv E rfl rfl rfl (x_ldB (i := 1) E H rfl rfl rfl rfl Try.underlying41 rfl) ?_
      clear a E;intro a E
      refine sv E rfl rfl rfl (x_lenS E H rfl rfl hr66 Try.underlying41) ?_
      clear a E;intro a E
      refine sv E rfl rfl rfl (x_bin E rfl rfl rfl rfl) ?_
      clear a E;intro a E
      refine wpList_nil ?_
      refine q_then ?_
      refine wp_if E rfl ?_ ?_
      ·intro hb
       rw [if_t hb] at hm
       clear hb
       refine wp_skip ?_
       refine q_then ?_
       refine wp_seq_cut (fun a w => ∃ (b72 : Bool) (rs73 : List Rp), Env 239 a [(2, .pointer (some ⟨p17, 0, none⟩)), (3, .pointer (some ⟨p20, 0, none⟩)), (5, .bool u33), (7, .int .i64 u45.2), (9, .int .i64 u48.2), (10, .bool b72), (11, .int .i64 x62)] ∧ Sep w (Blk p17 26 [.int .i64 x1.View, .int .i64 x1.Normal, (.slice q18 x1.Log.length x19)] :: Blk p20 50 [.int .i64 x3.Err, .int .i64 x3.At, .bool x3.Yes, .int .i64 x3.Epoch, (.slice q21 x3.Results.length x22), (.slice q23 x3.Store.Nodes.length x24), (.slice q25 x3.Store.Turns.length x26), (.slice q27 x3.Events.length x28), (.slice q29 x3.Mounts.length x30), (.slice q31 x3.Wounded.length x32)] :: Fo) rs73 ∧ (∀ r, r ∈ rs → r ∈ rs73) ∧ rSl kS (.slice q18 x1.Log.length x19) x1.Log ∈ rs73 ∧ rSl k_api_Result (.slice q21 x3.Results.length x22) x3.Results ∈ rs73 ∧ rSl k_api_Node (.slice q23 x3.Store.Nodes.length x24) x3.Store.Nodes ∈ rs73 ∧ rSl k_api_Turn (.slice q25 x3.Store.Turns.length x26) x3.Store.Turns ∈ rs73 ∧ rSl k_api_Event (.slice q27 x3.Events.length x28) x3.Events ∈ rs73 ∧ rSl k_api_Mount (.slice q29 x3.Mounts.length x30) x3.Mounts ∈ rs73 ∧ rSl (kI .i64) (.slice q31 x3.Wounded.length x32) x3.Wounded ∈ rs73 ∧ m_cantonlaw17_LetterMay_j3 (m_cantonlaw17_LetterMay_l1 x3 u33 x1 u45 u48 k1) x62 b72 = some r) ?_ ?_
       ·refine wp_block ?_
        refine wp_region_lit ?_
        refine sv E rfl rfl rfl (x_move E rfl rfl) ?_
        clear a E;intro a E
        refine sv E rfl rfl rfl (x_move E rfl rfl) ?_
        clear a E;intro a E
        rcases Bool.eq_false_or_eq_true b61 with hb82 | hb82
        ·rw [if_t hb82] at hm
         refine st_val E (ws' E rfl rfl rfl rfl hb82) rfl rfl (x_fa E rfl rfl (v := .pointer (some ⟨p20, 4, none⟩)) (fa50_4 _ _)) ?_
         clear a E;intro a E
         refine st_val E (ws' E rfl rfl rfl rfl hb82) rfl rfl (x_ldB (i := 1) E H rfl rfl rfl rfl Try.underlying41 rfl) ?_
         clear a E;intro a E
         refine st_val E (ws' E rfl rfl rfl rfl hb82) rfl rfl (x_move E rfl rfl) ?_
         clear a E;intro a E
         obtain ⟨x83, hx84, hm⟩ := bnd hm
         refine st_ixS E H (ws' E rfl rfl rfl rfl hb82) rfl rfl rfl rfl rfl hr66 Try.underlying41 sz62 hx84 ?_
         clear E H; clear a; intro q85 a H E
         replace H := H.derive1 (.head _) (rAt (kI .i64) (q85.add 0) x83.Err) (fun ok h => k_api_Result_at0 h)
         refine st_val E (ws' E rfl rfl rfl rfl hb82) rfl rfl (x_fa E rfl rfl (fa62_0 _ _)) ?_
         clear a E;intro a E
         refine st_val E (ws' E rfl rfl rfl rfl hb82) rfl rfl (x_ldA E H rfl rfl (.head _) Try.underlying30 rfl) ?_
         clear a E;intro a E
         obtain ⟨u86, hx87, hm⟩ := bnd hm
         refine st_call E (ws' E rfl rfl rfl rfl hb82) rfl rfl (x_call E rfl rfl (cf27 _)) (c_cantonlaw17_may x83.Err H hx87) ?_
         clear E H; clear a; clear w; rintro _ w ⟨rfl, H⟩ a E
         refine sv E rfl rfl rfl (x_pickT E rfl rfl hb82 rfl) ?_
         clear a E;intro a E
         refine sv E rfl rfl rfl (x_move E rfl rfl) ?_
         clear a E;intro a E
         rcases Bool.eq_false_or_eq_true u86 with hb88 | hb88
         ·rw [if_t hb88] at hm
          refine st_val E (ws' E rfl rfl rfl rfl hb88) rfl rfl (x_fa E rfl rfl (v := .pointer (some ⟨p20, 4, none⟩)) (fa50_4 _ _)) ?_
          clear a E;intro a E
          refine st_val E (ws' E rfl rfl rfl rfl hb88) rfl rfl (x_ldB (i := 1) E H rfl rfl rfl rfl Try.underlying41 rfl) ?_
          clear a E;intro a E
          refine st_val E (ws' E rfl rfl rfl rfl hb88) rfl rfl (x_move E rfl rfl) ?_
          clear a E;intro a E
          obtain ⟨x89, hx90, hm⟩ := bnd hm
          refine st_ixS E H (ws' E rfl rfl rfl rfl hb88) rfl rfl rfl rfl rfl (.tail _ (.tail _ hr66)) Try.underlying41 sz62 hx90 ?_
          clear E H; clear a; intro q91 a H E
          replace H := H.derive1 (.head _) (rAt (kI .i64) (q91.add 3) x89.Version) (fun ok h => k_api_Result_at3 h)
          refine st_val E (ws' E rfl rfl rfl rfl hb88) rfl rfl (x_fa E rfl rfl (fa62_3 _ _)) ?_
          clear a E;intro a E
          refine st_val E (ws' E rfl rfl rfl rfl hb88) rfl rfl (x_ldA E H rfl rfl (.head _) Try.underlying2 rfl) ?_
          clear a E;intro a E
          obtain ⟨u92, hx93, hm⟩ := bnd hm
          refine st_call E (ws' E rfl rfl rfl rfl hb88) rfl rfl (x_call E rfl rfl (cf27 _)) (c_cantonlaw17_may x89.Version H hx93) ?_
          clear E H; clear a; clear w; rintro _ w ⟨rfl, H⟩ a E
          refine sv E rfl rfl rfl (x_pickT E rfl rfl hb88 rfl) ?_
          clear a E;intro a E
          refine sv E rfl rfl rfl (x_assign E rfl rfl) ?_
          clear a E;intro a E
          refine wpList_nil ?_
          refine q_blk ?_
          refine q_then ?_
          exact ⟨u92, _, (((((((E.nil.keep E 11 rfl).keep E 10 rfl).keep E 9 rfl).keep E 7 rfl).keep E 5 rfl).keep E 3 rfl).keep E 2 rfl), H, fun r hr => .tail _ (.tail _ (.tail _ (.tail _ (hs64 r hr)))), (.tail _ (.tail _ (.tail _ (.tail _ hr65)))), (.tail _ (.tail _ (.tail _ (.tail _ hr66)))), (.tail _ (.tail _ (.tail _ (.tail _ hr67)))), (.tail _ (.tail _ (.tail _ (.tail _ hr68)))), (.tail _ (.tail _ (.tail _ (.tail _ hr69)))), (.tail _ (.tail _ (.tail _ (.tail _ hr70)))), (.tail _ (.tail _ (.tail _ (.tail _ hr71)))), hm⟩
         ·rw [if_f hb88] at hm
          refine st_no E (wf' E rfl rfl rfl rfl hb88 rfl) rfl rfl ?_
          clear a E;intro a E
          refine st_no E (wf' E rfl rfl rfl rfl hb88 rfl) rfl rfl ?_
          clear a E;intro a E
          refine st_no E (wf' E rfl rfl rfl rfl hb88 rfl) rfl rfl ?_
          clear a E;intro a E
          refine st_no E (wf' E rfl rfl rfl rfl hb88 rfl) rfl rfl ?_
          clear a E;intro a E
          refine st_no E (wf' E rfl rfl rfl rfl hb88 rfl) rfl rfl ?_
          clear a E;intro a E
          refine st_no E (wf' E rfl rfl rfl rfl hb88 rfl) rfl rfl ?_
          clear a E;intro a E
          refine st_no E (wf' E rfl rfl rfl rfl hb88 rfl) rfl rfl ?_
          clear a E;intro a E
          refine sv E rfl rfl rfl (x_pickF E rfl rfl hb88 rfl) ?_
          clear a E;intro a E
          refine sv E rfl rfl rfl (x_assign E rfl rfl) ?_
          clear a E;intro a E
          refine wpList_nil ?_
          refine q_blk ?_
          refine q_then ?_
          exact ⟨false, _, (((((((E.nil.keep E 11 rfl).keep E 10 rfl).keep E 9 rfl).keep E 7 rfl).keep E 5 rfl).keep E 3 rfl).keep E 2 rfl), H, fun r hr => .tail _ (.tail _ (hs64 r hr)), (.tail _ (.tail _ hr65)), (.tail _ (.tail _ hr66)), (.tail _ (.tail _ hr67)), (.tail _ (.tail _ hr68)), (.tail _ (.tail _ hr69)), (.tail _ (.tail _ hr70)), (.tail _ (.tail _ hr71)), hm⟩
        ·rw [if_f hb82] at hm
         refine st_no E (wf' E rfl rfl rfl rfl hb82 rfl) rfl rfl ?_
         clear a E;intro a E
         refine st_no E (wf' E rfl rfl rfl rfl hb82 rfl) rfl rfl ?_
         clear a E;intro a E
         refine st_no E (wf' E rfl rfl rfl rfl hb82 rfl) rfl rfl ?_
         clear a E;intro a E
         refine st_no E (wf' E rfl rfl rfl rfl hb82 rfl) rfl rfl ?_
         clear a E;intro a E
         refine st_no E (wf' E rfl rfl rfl rfl hb82 rfl) rfl rfl ?_
         clear a E;intro a E
         refine st_no E (wf' E rfl rfl rfl rfl hb82 rfl) rfl rfl ?_
         clear a E;intro a E
         refine st_no E (wf' E rfl rfl rfl rfl hb82 rfl) rfl rfl ?_
         clear a E;intro a E
         refine sv E rfl rfl rfl (x_pickF E rfl rfl hb82 rfl) ?_
         clear a E;intro a E
         refine sv E rfl rfl rfl (x_move E rfl rfl) ?_
         clear a E;intro a E
         refine st_no E (wf E rfl rfl rfl rfl rfl) rfl rfl ?_
         clear a E;intro a E
         refine st_no E (wf E rfl rfl rfl rfl rfl) rfl rfl ?_
         clear a E;intro a E
         refine st_no E (wf E rfl rfl rfl rfl rfl) rfl rfl ?_
         clear a E;intro a E
         refine st_no E (wf E rfl rfl rfl rfl rfl) rfl rfl ?_
         clear a E;intro a E
         refine st_no E (wf E rfl rfl rfl rfl rfl) rfl rfl ?_
         clear a E;intro a E
         refine st_no E (wf E rfl rfl rfl rfl rfl) rfl rfl ?_
         clear a E;intro a E
         refine st_no E (wf E rfl rfl rfl rfl rfl) rfl rfl ?_
         clear a E;intro a E
         refine sv E rfl rfl rfl (x_pickF E rfl rfl rfl rfl) ?_
         clear a E;intro a E
         refine sv E rfl rfl rfl (x_assign E rfl rfl) ?_
         clear a E;intro a E
         refine wpList_nil ?_
         refine q_blk ?_
         refine q_then ?_
         exact ⟨false, _, (((((((E.nil.keep E 11 rfl).keep E 10 rfl).keep E 9 rfl).keep E 7 rfl).keep E 5 rfl).keep E 3 rfl).keep E 2 rfl), H, hs64, hr65, hr66, hr67, hr68, hr69, hr70, hr71, hm⟩
       ·clear E H hm
        rintro a w ⟨b72, rs73, E, H, hs74, hr75, hr76, hr77, hr78, hr79, hr80, hr81, hm⟩
        unfold m_cantonlaw17_LetterMay_j3 at hm
        refine wp_region_lit ?_
        refine sv E rfl rfl rfl (x_move E rfl rfl) ?_
        clear a E;intro a E
        refine sv E rfl rfl rfl (x_bin E rfl rfl rfl rfl) ?_
        clear a E;intro a E
        refine sv E rfl rfl rfl (x_assign E rfl rfl) ?_
        clear a E;intro a E
        refine wpList_nil ?_
        refine q_then ?_
        exact ⟨k1, Nat.lt_succ_self k1, b72, IntKind.i64.wrap (x62 + 1), _, (((((((E.nil.keep E 11 rfl).keep E 10 rfl).keep E 9 rfl).keep E 7 rfl).keep E 5 rfl).keep E 3 rfl).keep E 2 rfl), H, hs74, hr75, hr76, hr77, hr78, hr79, hr80, hr81, hm⟩
      ·intro hb
       rw [if_f hb] at hm
       clear hb
       refine wp_exit ?_
       refine q_thenX ?_
       refine q_thenX ?_
       refine q_hit ?_
       refine q_then ?_
       refine wp_seq ?_
       refine wp_seq ?_
       refine wp_region_lit ?_
       refine sv E rfl rfl rfl (x_assign E rfl rfl) ?_
       clear a E;intro a E
       refine wpList_nil ?_
       refine q_then ?_
       refine wp_block ?_
       refine wp_loop_g (fun k2 a w => ∃ (b94 : Bool) (x95 : Int) (rs96 : List Rp), Env 239 a [(2, .pointer (some ⟨p17, 0, none⟩)), (3, .pointer (some ⟨p20, 0, none⟩)), (5, .bool u33), (7, .int .i64 u45.2), (9, .int .i64 u48.2), (10, .bool b94), (12, .int .i64 x95)] ∧ Sep w (Blk p17 26 [.int .i64 x1.View, .int .i64 x1.Normal, (.slice q18 x1.Log.length x19)] :: Blk p20 50 [.int .i64 x3.Err, .int .i64 x3.At, .bool x3.Yes, .int .i64 x3.Epoch, (.slice q21 x3.Results.length x22), (.slice q23 x3.Store.Nodes.length x24), (.slice q25 x3.Store.Turns.length x26), (.slice q27 x3.Events.length x28), (.slice q29 x3.Mounts.length x30), (.slice q31 x3.Wounded.length x32)] :: Fo) rs96 ∧ (∀ r, r ∈ rs → r ∈ rs96) ∧ rSl kS (.slice q18 x1.Log.length x19) x1.Log ∈ rs96 ∧ rSl k_api_Result (.slice q21 x3.Results.length x22) x3.Results ∈ rs96 ∧ rSl k_api_Node (.slice q23 x3.Store.Nodes.length x24) x3.Store.Nodes ∈ rs96 ∧ rSl k_api_Turn (.slice q25 x3.Store.Turns.length x26) x3.Store.Turns ∈ rs96 ∧ rSl k_api_Event (.slice q27 x3.Events.length x28) x3.Events ∈ rs96 ∧ rSl k_api_Mount (.slice q29 x3.Mounts.length x30) x3.Mounts ∈ rs96 ∧ rSl (kI .i64) (.slice q31 x3.Wounded.length x32) x3.Wounded ∈ rs96 ∧ m_cantonlaw17_LetterMay_l2 x3 u33 x1 u45 u48 k2 b94 x95 = some r) (((x3.Store.Nodes.length : Int) - 0 : Int).toNat + 1) ?_ ?_
       ·exact ⟨b61, 0, _, (((((((E.nil.keep E 12 rfl).keep E 10 rfl).keep E 9 rfl).keep E 7 rfl).keep E 5 rfl).keep E 3 rfl).keep E 2 rfl), H, hs64, hr65, hr66, hr67, hr68, hr69, hr70, hr71, hm⟩
       ·clear E H hm
        rintro k2 a w ⟨b94, x95, rs96, E, H, hs97, hr98, hr99, hr100, hr101, hr102, hr103, hr104, hm⟩
        cases k2 with
        | zero => exact (none_some hm rfl).elim
        | succ k2 =>
         unfold m_cantonlaw17_LetterMay_l2 at hm
         refine wp_seq ?_
         refine wp_seq ?_
         refine wp_region_lit ?_
         refine sv E rfl rfl rfl (x_move E rfl rfl) ?_
         clear a E;intro a E
         refine sv E rfl rfl rfl (x_fa E rfl rfl (v := .pointer (some ⟨p20, 5, none⟩)) (fa50_5 _ _)) ?_
         clear a E;intro a E
         refine sv E rfl rfl rfl (x_fa E rfl rfl (v := .pointer (some ⟨p20, 5, none⟩)) (fa45_0 _ _)) ?_
         clear a E;intro a E
         refine sv E rfl rfl rfl (x_ldB (i := 1) E H rfl rfl rfl rfl Try.underlying42 rfl) ?_
         clear a E;intro a E
         refine sv E rfl rfl rfl (x_lenS E H rfl rfl hr100 Try.underlying42) ?_
         clear a E;intro a E
         refine sv E rfl rfl rfl (x_bin E rfl rfl rfl rfl) ?_
         clear a E;intro a E
         refine wpList_nil ?_
         refine q_then ?_
         refine wp_if E rfl ?_ ?_
         ·intro hb
          rw [if_t hb] at hm
          clear hb
          refine wp_skip ?_
          refine q_then ?_
          refine wp_seq_cut (fun a w => ∃ (b105 : Bool) (rs106 : List Rp), Env 239 a [(2, .pointer (some ⟨p17, 0, none⟩)), (3, .pointer (some ⟨p20, 0, none⟩)), (5, .bool u33), (7, .int .i64 u45.2), (9, .int .i64 u48.2), (10, .bool b105), (12, .int .i64 x95)] ∧ Sep w (Blk p17 26 [.int .i64 x1.View, .int .i64 x1.Normal, (.slice q18 x1.Log.length x19)] :: Blk p20 50 [.int .i64 x3.Err, .int .i64 x3.At, .bool x3.Yes, .int .i64 x3.Epoch, (.slice q21 x3.Results.length x22), (.slice q23 x3.Store.Nodes.length x24), (.slice q25 x3.Store.Turns.length x26), (.slice q27 x3.Events.length x28), (.slice q29 x3.Mounts.length x30), (.slice q31 x3.Wounded.length x32)] :: Fo) rs106 ∧ (∀ r, r ∈ rs → r ∈ rs106) ∧ rSl kS (.slice q18 x1.Log.length x19) x1.Log ∈ rs106 ∧ rSl k_api_Result (.slice q21 x3.Results.length x22) x3.Results ∈ rs106 ∧ rSl k_api_Node (.slice q23 x3.Store.Nodes.length x24) x3.Store.Nodes ∈ rs106 ∧ rSl k_api_Turn (.slice q25 x3.Store.Turns.length x26) x3.Store.Turns ∈ rs106 ∧ rSl k_api_Event (.slice q27 x3.Events.length x28) x3.Events ∈ rs106 ∧ rSl k_api_Mount (.slice q29 x3.Mounts.length x30) x3.Mounts ∈ rs106 ∧ rSl (kI .i64) (.slice q31 x3.Wounded.length x32) x3.Wounded ∈ rs106 ∧ m_cantonlaw17_LetterMay_j4 (m_cantonlaw17_LetterMay_l2 x3 u33 x1 u45 u48 k2) x95 b105 = some r) ?_ ?_
          ·refine wp_block ?_
           refine wp_region_lit ?_
           refine sv E rfl rfl rfl (x_move E rfl rfl) ?_
           clear a E;intro a E
           refine sv E rfl rfl rfl (x_move E rfl rfl) ?_
           clear a E;intro a E
           rcases Bool.eq_false_or_eq_true b94 with hb115 | hb115
           ·rw [if_t hb115] at hm
            refine st_val E (ws' E rfl rfl rfl rfl hb115) rfl rfl (x_fa E rfl rfl (v := .pointer (some ⟨p20, 5, none⟩)) (fa50_5 _ _)) ?_
            clear a E;intro a E
            refine st_val E (ws' E rfl rfl rfl rfl hb115) rfl rfl (x_fa E rfl rfl (v := .pointer (some ⟨p20, 5, none⟩)) (fa45_0 _ _)) ?_
            clear a E;intro a E
            refine st_val E (ws' E rfl rfl rfl rfl hb115) rfl rfl (x_ldB (i := 1) E H rfl rfl rfl rfl Try.underlying42 rfl) ?_
            clear a E;intro a E
            refine st_val E (ws' E rfl rfl rfl rfl hb115) rfl rfl (x_move E rfl rfl) ?_
            clear a E;intro a E
            obtain ⟨x116, hx117, hm⟩ := bnd hm
            refine st_ixS E H (ws' E rfl rfl rfl rfl hb115) rfl rfl rfl rfl rfl hr100 Try.underlying42 sz64 hx117 ?_
            clear E H; clear a; intro q118 a H E
            replace H := H.derive1 (.head _) (rAt (kI .i64) (q118.add 2) x116.Version) (fun ok h => k_api_Node_at2 h)
            refine st_val E (ws' E rfl rfl rfl rfl hb115) rfl rfl (x_fa E rfl rfl (fa64_2 _ _)) ?_
            clear a E;intro a E
            refine st_val E (ws' E rfl rfl rfl rfl hb115) rfl rfl (x_ldA E H rfl rfl (.head _) Try.underlying2 rfl) ?_
            clear a E;intro a E
            obtain ⟨u119, hx120, hm⟩ := bnd hm
            refine st_call E (ws' E rfl rfl rfl rfl hb115) rfl rfl (x_call E rfl rfl (cf27 _)) (c_cantonlaw17_may x116.Version H hx120) ?_
            clear E H; clear a; clear w; rintro _ w ⟨rfl, H⟩ a E
            refine sv E rfl rfl rfl (x_pickT E rfl rfl hb115 rfl) ?_
            clear a E;intro a E
            refine sv E rfl rfl rfl (x_move E rfl rfl) ?_
            clear a E;intro a E
            rcases Bool.eq_false_or_eq_true u119 with hb121 | hb121
            ·rw [if_t hb121] at hm
             refine st_val E (ws' E rfl rfl rfl rfl hb121) rfl rfl (x_fa E rfl rfl (v := .pointer (some ⟨p20, 5, none⟩)) (fa50_5 _ _)) ?_
             clear a E;intro a E
             refine st_val E (ws' E rfl rfl rfl rfl hb121) rfl rfl (x_fa E rfl rfl (v := .pointer (some ⟨p20, 5, none⟩)) (fa45_0 _ _)) ?_
             clear a E;intro a E
             refine st_val E (ws' E rfl rfl rfl rfl hb121) rfl rfl (x_ldB (i := 1) E H rfl rfl rfl rfl Try.underlying42 rfl) ?_
             clear a E;intro a E
             refine st_val E (ws' E rfl rfl rfl rfl hb121) rfl rfl (x_move E rfl rfl) ?_
             clear a E;intro a E
             obtain ⟨x122, hx123, hm⟩ := bnd hm
             refine st_ixS E H (ws' E rfl rfl rfl rfl hb121) rfl rfl rfl rfl rfl (.tail _ (.tail _ hr100)) Try.underlying42 sz64 hx123 ?_
             clear E H; clear a; intro q124 a H E
             replace H := H.derive1 (.head _) (rAt (kI .i64) (q124.add 4) x122.Owner) (fun ok h => k_api_Node_at4 h)
             refine st_val E (ws' E rfl rfl rfl rfl hb121) rfl rfl (x_fa E rfl rfl (fa64_4 _ _)) ?_
             clear a E;intro a E
             refine st_val E (ws' E rfl rfl rfl rfl hb121) rfl rfl (x_ldA E H rfl rfl (.head _) Try.underlying2 rfl) ?_
             clear a E;intro a E
             obtain ⟨u125, hx126, hm⟩ := bnd hm
             refine st_call E (ws' E rfl rfl rfl rfl hb121) rfl rfl (x_call E rfl rfl (cf27 _)) (c_cantonlaw17_may x122.Owner H hx126) ?_
             clear E H; clear a; clear w; rintro _ w ⟨rfl, H⟩ a E
             refine sv E rfl rfl rfl (x_pickT E rfl rfl hb121 rfl) ?_
             clear a E;intro a E
             refine sv E rfl rfl rfl (x_move E rfl rfl) ?_
             clear a E;intro a E
             rcases Bool.eq_false_or_eq_true u125 with hb127 | hb127
             ·rw [if_t hb127] at hm
              refine st_val E (ws' E rfl rfl rfl rfl hb127) rfl rfl (x_fa E rfl rfl (v := .pointer (some ⟨p20, 5, none⟩)) (fa50_5 _ _)) ?_
              clear a E;intro a E
              refine st_val E (ws' E rfl rfl rfl rfl hb127) rfl rfl (x_fa E rfl rfl (v := .pointer (some ⟨p20, 5, none⟩)) (fa45_0 _ _)) ?_
              clear a E;intro a E
              refine st_val E (ws' E rfl rfl rfl rfl hb127) rfl rfl (x_ldB (i := 1) E H rfl rfl rfl rfl Try.underlying42 rfl) ?_
              clear a E;intro a E
              refine st_val E (ws' E rfl rfl rfl rfl hb127) rfl rfl (x_move E rfl rfl) ?_
              clear a E;intro a E
              obtain ⟨x128, hx129, hm⟩ := bnd hm
              refine st_ixS E H (ws' E rfl rfl rfl rfl hb127) rfl rfl rfl rfl rfl (.tail _ (.tail _ (.tail _ (.tail _ hr100)))) Try.underlying42 sz64 hx129 ?_
              clear E H; clear a; intro q130 a H E
              replace H := H.derive1 (.head _) (rAt (kI .i64) (q130.add 3) x128.Turn) (fun ok h => k_api_Node_at3 h)
              refine st_val E (ws' E rfl rfl rfl rfl hb127) rfl rfl (x_fa E rfl rfl (fa64_3 _ _)) ?_
              clear a E;intro a E
              refine st_val E (ws' E rfl rfl rfl rfl hb127) rfl rfl (x_ldA E H rfl rfl (.head _) Try.underlying2 rfl) ?_
              clear a E;intro a E
              refine st_val E (ws' E rfl rfl rfl rfl hb127) rfl rfl (x_bin E rfl rfl rfl rfl) ?_
              clear a E;intro a E
              refine sv E rfl rfl rfl (x_pickT E rfl rfl hb127 rfl) ?_
              clear a E;intro a E
              refine sv E rfl rfl rfl (x_assign E rfl rfl) ?_
              clear a E;intro a E
              refine wpList_nil ?_
              refine q_blk ?_
              refine q_then ?_
              exact ⟨x128.Turn == 0, _, (((((((E.nil.keep E 12 rfl).keep E 10 rfl).keep E 9 rfl).keep E 7 rfl).keep E 5 rfl).keep E 3 rfl).keep E 2 rfl), H, fun r hr => .tail _ (.tail _ (.tail _ (.tail _ (.tail _ (.tail _ (hs97 r hr)))))), (.tail _ (.tail _ (.tail _ (.tail _ (.tail _ (.tail _ hr98)))))), (.tail _ (.tail _ (.tail _ (.tail _ (.tail _ (.tail _ hr99)))))), (.tail _ (.tail _ (.tail _ (.tail _ (.tail _ (.tail _ hr100)))))), (.tail _ (.tail _ (.tail _ (.tail _ (.tail _ (.tail _ hr101)))))), (.tail _ (.tail _ (.tail _ (.tail _ (.tail _ (.tail _ hr102)))))), (.tail _ (.tail _ (.tail _ (.tail _ (.tail _ (.tail _ hr103)))))), (.tail _ (.tail _ (.tail _ (.tail _ (.tail _ (.tail _ hr104)))))), hm⟩
             ·rw [if_f hb127] at hm
              refine st_no E (wf' E rfl rfl rfl rfl hb127 rfl) rfl rfl ?_
              clear a E;intro a E
              refine st_no E (wf' E rfl rfl rfl rfl hb127 rfl) rfl rfl ?_
              clear a E;intro a E
              refine st_no E (wf' E rfl rfl rfl rfl hb127 rfl) rfl rfl ?_
              clear a E;intro a E
              refine st_no E (wf' E rfl rfl rfl rfl hb127 rfl) rfl rfl ?_
              clear a E;intro a E
              refine st_no E (wf' E rfl rfl rfl rfl hb127 rfl) rfl rfl ?_
              clear a E;intro a E
              refine st_no E (wf' E rfl rfl rfl rfl hb127 rfl) rfl rfl ?_
              clear a E;intro a E
              refine st_no E (wf' E rfl rfl rfl rfl hb127 rfl) rfl rfl ?_
              clear a E;intro a E
              refine st_no E (wf' E rfl rfl rfl rfl hb127 rfl) rfl rfl ?_
              clear a E;intro a E
              refine sv E rfl rfl rfl (x_pickF E rfl rfl hb127 rfl) ?_
              clear a E;intro a E
              refine sv E rfl rfl rfl (x_assign E rfl rfl) ?_
              clear a E;intro a E
              refine wpList_nil ?_
              refine q_blk ?_
              refine q_then ?_
              exact ⟨false, _, (((((((E.nil.keep E 12 rfl).keep E 10 rfl).keep E 9 rfl).keep E 7 rfl).keep E 5 rfl).keep E 3 rfl).keep E 2 rfl), H, fun r hr => .tail _ (.tail _ (.tail _ (.tail _ (hs97 r hr)))), (.tail _ (.tail _ (.tail _ (.tail _ hr98)))), (.tail _ (.tail _ (.tail _ (.tail _ hr99)))), (.tail _ (.tail _ (.tail _ (.tail _ hr100)))), (.tail _ (.tail _ (.tail _ (.tail _ hr101)))), (.tail _ (.tail _ (.tail _ (.tail _ hr102)))), (.tail _ (.tail _ (.tail _ (.tail _ hr103)))), (.tail _ (.tail _ (.tail _ (.tail _ hr104)))), hm⟩
            ·rw [if_f hb121] at hm
             refine st_no E (wf' E rfl rfl rfl rfl hb121 rfl) rfl rfl ?_
             clear a E;intro a E
             refine st_no E (wf' E rfl rfl rfl rfl hb121 rfl) rfl rfl ?_
             clear a E;intro a E
             refine st_no E (wf' E rfl rfl rfl rfl hb121 rfl) rfl rfl ?_
             clear a E;intro a E
             refine st_no E (wf' E rfl rfl rfl rfl hb121 rfl) rfl rfl ?_
             clear a E;intro a E
             refine st_no E (wf' E rfl rfl rfl rfl hb121 rfl) rfl rfl ?_
             clear a E;intro a E
             refine st_no E (wf' E rfl rfl rfl rfl hb121 rfl) rfl rfl ?_
             clear a E;intro a E
             refine st_no E (wf' E rfl rfl rfl rfl hb121 rfl) rfl rfl ?_
             clear a E;intro a E
             refine st_no E (wf' E rfl rfl rfl rfl hb121 rfl) rfl rfl ?_
             clear a E;intro a E
             refine sv E rfl rfl rfl (x_pickF E rfl rfl hb121 rfl) ?_
             clear a E;intro a E
             refine sv E rfl rfl rfl (x_move E rfl rfl) ?_
             clear a E;intro a E
             refine st_no E (wf E rfl rfl rfl rfl rfl) rfl rfl ?_
             clear a E;intro a E
             refine st_no E (wf E rfl rfl rfl rfl rfl) rfl rfl ?_
             clear a E;intro a E
             refine st_no E (wf E rfl rfl rfl rfl rfl) rfl rfl ?_
             clear a E;intro a E
             refine st_no E (wf E rfl rfl rfl rfl rfl) rfl rfl ?_
             clear a E;intro a E
             refine st_no E (wf E rfl rfl rfl rfl rfl) rfl rfl ?_
             clear a E;intro a E
             refine st_no E (wf E rfl rfl rfl rfl rfl) rfl rfl ?_
             clear a E;intro a E
             refine st_no E (wf E rfl rfl rfl rfl rfl) rfl rfl ?_
             clear a E;intro a E
             refine st_no E (wf E rfl rfl rfl rfl rfl) rfl rfl ?_
             clear a E;intro a E
             refine sv E rfl rfl rfl (x_pickF E rfl rfl rfl rfl) ?_
             clear a E;intro a E
             refine sv E rfl rfl rfl (x_assign E rfl rfl) ?_
             clear a E;intro a E
             refine wpList_nil ?_
             refine q_blk ?_
             refine q_then ?_
             exact ⟨false, _, (((((((E.nil.keep E 12 rfl).keep E 10 rfl).keep E 9 rfl).keep E 7 rfl).keep E 5 rfl).keep E 3 rfl).keep E 2 rfl), H, fun r hr => .tail _ (.tail _ (hs97 r hr)), (.tail _ (.tail _ hr98)), (.tail _ (.tail _ hr99)), (.tail _ (.tail _ hr100)), (.tail _ (.tail _ hr101)), (.tail _ (.tail _ hr102)), (.tail _ (.tail _ hr103)), (.tail _ (.tail _ hr104)), hm⟩
           ·rw [if_f hb115] at hm
            refine st_no E (wf' E rfl rfl rfl rfl hb115 rfl) rfl rfl ?_
            clear a E;intro a E
            refine st_no E (wf' E rfl rfl rfl rfl hb115 rfl) rfl rfl ?_
            clear a E;intro a E
            refine st_no E (wf' E rfl rfl rfl rfl hb115 rfl) rfl rfl ?_
            clear a E;intro a E
            refine st_no E (wf' E rfl rfl rfl rfl hb115 rfl) rfl rfl ?_
            clear a E;intro a E
            refine st_no E (wf' E rfl rfl rfl rfl hb115 rfl) rfl rfl ?_
            clear a E;intro a E
            refine st_no E (wf' E rfl rfl rfl rfl hb115 rfl) rfl rfl ?_
            clear a E;intro a E
            refine st_no E (wf' E rfl rfl rfl rfl hb115 rfl) rfl rfl ?_
            clear a E;intro a E
            refine st_no E (wf' E rfl rfl rfl rfl hb115 rfl) rfl rfl ?_
            clear a E;intro a E
            refine sv E rfl rfl rfl (x_pickF E rfl rfl hb115 rfl) ?_
            clear a E;intro a E
            refine sv E rfl rfl rfl (x_move E rfl rfl) ?_
            clear a E;intro a E
            refine st_no E (wf E rfl rfl rfl rfl rfl) rfl rfl ?_
            clear a E;intro a E
            refine st_no E (wf E rfl rfl rfl rfl rfl) rfl rfl ?_
            clear a E;intro a E
            refine st_no E (wf E rfl rfl rfl rfl rfl) rfl rfl ?_
            clear a E;intro a E
            refine st_no E (wf E rfl rfl rfl rfl rfl) rfl rfl ?_
            clear a E;intro a E
            refine st_no E (wf E rfl rfl rfl rfl rfl) rfl rfl ?_
            clear a E;intro a E
            refine st_no E (wf E rfl rfl rfl rfl rfl) rfl rfl ?_
            clear a E;intro a E
            refine st_no E (wf E rfl rfl rfl rfl rfl) rfl rfl ?_
            clear a E;intro a E
            refine st_no E (wf E rfl rfl rfl rfl rfl) rfl rfl ?_
            clear a E;intro a E
            refine sv E rfl rfl rfl (x_pickF E rfl rfl rfl rfl) ?_
            clear a E;intro a E
            refine sv E rfl rfl rfl (x_move E rfl rfl) ?_
            clear a E;intro a E
            refine st_no E (wf E rfl rfl rfl rfl rfl) rfl rfl ?_
            clear a E;intro a E
            refine st_no E (wf E rfl rfl rfl rfl rfl) rfl rfl ?_
            clear a E;intro a E
            refine st_no E (wf E rfl rfl rfl rfl rfl) rfl rfl ?_
            clear a E;intro a E
            refine st_no E (wf E rfl rfl rfl rfl rfl) rfl rfl ?_
            clear a E;intro a E
            refine st_no E (wf E rfl rfl rfl rfl rfl) rfl rfl ?_
            clear a E;intro a E
            refine st_no E (wf E rfl rfl rfl rfl rfl) rfl rfl ?_
            clear a E;intro a E
            refine st_no E (wf E rfl rfl rfl rfl rfl) rfl rfl ?_
            clear a E;intro a E
            refine st_no E (wf E rfl rfl rfl rfl rfl) rfl rfl ?_
            clear a E;intro a E
            refine sv E rfl rfl rfl (x_pickF E rfl rfl rfl rfl) ?_
            clear a E;intro a E
            refine sv E rfl rfl rfl (x_assign E rfl rfl) ?_
            clear a E;intro a E
            refine wpList_nil ?_
            refine q_blk ?_
            refine q_then ?_
            exact ⟨false, _, (((((((E.nil.keep E 12 rfl).keep E 10 rfl).keep E 9 rfl).keep E 7 rfl).keep E 5 rfl).keep E 3 rfl).keep E 2 rfl), H, hs97, hr98, hr99, hr100, hr101, hr102, hr103, hr104, hm⟩
          ·clear E H hm
           rintro a w ⟨b105, rs106, E, H, hs107, hr108, hr109, hr110, hr111, hr112, hr113, hr114, hm⟩
           unfold m_cantonlaw17_LetterMay_j4 at hm
           refine wp_region_lit ?_
           refine sv E rfl rfl rfl (x_move E rfl rfl) ?_
           clear a E;intro a E
           refine sv E rfl rfl rfl (x_bin E rfl rfl rfl rfl) ?_
           clear a E;intro a E
           refine sv E rfl rfl rfl (x_assign E rfl rfl) ?_
           clear a E;intro a E
           refine wpList_nil ?_
           refine q_then ?_
           exact ⟨k2, Nat.lt_succ_self k2, b105, IntKind.i64.wrap (x95 + 1), _, (((((((E.nil.keep E 12 rfl).keep E 10 rfl).keep E 9 rfl).keep E 7 rfl).keep E 5 rfl).keep E 3 rfl).keep E 2 rfl), H, hs107, hr108, hr109, hr110, hr111, hr112, hr113, hr114, hm⟩
         ·intro hb
          rw [if_f hb] at hm
          clear hb
          refine wp_exit ?_
          refine q_thenX ?_
          refine q_thenX ?_
          refine q_hit ?_
          refine q_then ?_
          refine wp_seq ?_
          refine wp_seq ?_
          refine wp_region_lit ?_
          refine sv E rfl rfl rfl (x_assign E rfl rfl) ?_
          clear a E;intro a E
          refine wpList_nil ?_
          refine q_then ?_
          refine wp_block ?_
          refine wp_loop_g (fun k3 a w => ∃ (b131 : Bool) (x132 : Int) (rs133 : List Rp), Env 239 a [(2, .pointer (some ⟨p17, 0, none⟩)), (3, .pointer (some ⟨p20, 0, none⟩)), (5, .bool u33), (7, .int .i64 u45.2), (9, .int .i64 u48.2), (10, .bool b131), (13, .int .i64 x132)] ∧ Sep w (Blk p17 26 [.int .i64 x1.View, .int .i64 x1.Normal, (.slice q18 x1.Log.length x19)] :: Blk p20 50 [.int .i64 x3.Err, .int .i64 x3.At, .bool x3.Yes, .int .i64 x3.Epoch, (.slice q21 x3.Results.length x22), (.slice q23 x3.Store.Nodes.length x24), (.slice q25 x3.Store.Turns.length x26), (.slice q27 x3.Events.length x28), (.slice q29 x3.Mounts.length x30), (.slice q31 x3.Wounded.length x32)] :: Fo) rs133 ∧ (∀ r, r ∈ rs → r ∈ rs133) ∧ rSl kS (.slice q18 x1.Log.length x19) x1.Log ∈ rs133 ∧ rSl k_api_Result (.slice q21 x3.Results.length x22) x3.Results ∈ rs133 ∧ rSl k_api_Node (.slice q23 x3.Store.Nodes.length x24) x3.Store.Nodes ∈ rs133 ∧ rSl k_api_Turn (.slice q25 x3.Store.Turns.length x26) x3.Store.Turns ∈ rs133 ∧ rSl k_api_Event (.slice q27 x3.Events.length x28) x3.Events ∈ rs133 ∧ rSl k_api_Mount (.slice q29 x3.Mounts.length x30) x3.Mounts ∈ rs133 ∧ rSl (kI .i64) (.slice q31 x3.Wounded.length x32) x3.Wounded ∈ rs133 ∧ m_cantonlaw17_LetterMay_l3 x3 u33 x1 u45 u48 k3 b131 x132 = some r) (((x3.Store.Turns.length : Int) - 0 : Int).toNat + 1) ?_ ?_
          ·exact ⟨b94, 0, _, (((((((E.nil.keep E 13 rfl).keep E 10 rfl).keep E 9 rfl).keep E 7 rfl).keep E 5 rfl).keep E 3 rfl).keep E 2 rfl), H, hs97, hr98, hr99, hr100, hr101, hr102, hr103, hr104, hm⟩
          ·clear E H hm
           rintro k3 a w ⟨b131, x132, rs133, E, H, hs134, hr135, hr136, hr137, hr138, hr139, hr140, hr141, hm⟩
           cases k3 with
           | zero => exact (none_some hm rfl).elim
           | succ k3 =>
            unfold m_cantonlaw17_LetterMay_l3 at hm
            refine wp_seq ?_
            refine wp_seq ?_
            refine wp_region_lit ?_
            refine sv E rfl rfl rfl (x_move E rfl rfl) ?_
            clear a E;intro a E
            refine sv E rfl rfl rfl (x_fa E rfl rfl (v := .pointer (some ⟨p20, 5, none⟩)) (fa50_5 _ _)) ?_
            clear a E;intro a E
            refine sv E rfl rfl rfl (x_fa E rfl rfl (v := .pointer (some ⟨p20, 6, none⟩)) (fa45_1 _ _)) ?_
            clear a E;intro a E
            refine sv E rfl rfl rfl (x_ldB (i := 1) E H rfl rfl rfl rfl Try.underlying43 rfl) ?_
            clear a E;intro a E
            refine sv E rfl rfl rfl (x_lenS E H rfl rfl hr138 Try.underlying43) ?_
            clear a E;intro a E
            refine sv E rfl rfl rfl (x_bin E rfl rfl rfl rfl) ?_
            clear a E;intro a E
            refine wpList_nil ?_
            refine q_then ?_
            refine wp_if E rfl ?_ ?_
            ·intro hb
             rw [if_t hb] at hm
             clear hb
             refine wp_skip ?_
             refine q_then ?_
             refine wp_seq_cut (fun a w => ∃ (b142 : Bool) (rs143 : List Rp), Env 239 a [(2, .pointer (some ⟨p17, 0, none⟩)), (3, .pointer (some ⟨p20, 0, none⟩)), (5, .bool u33), (7, .int .i64 u45.2), (9, .int .i64 u48.2), (10, .bool b142), (13, .int .i64 x132)] ∧ Sep w (Blk p17 26 [.int .i64 x1.View, .int .i64 x1.Normal, (.slice q18 x1.Log.length x19)] :: Blk p20 50 [.int .i64 x3.Err, .int .i64 x3.At, .bool x3.Yes, .int .i64 x3.Epoch, (.slice q21 x3.Results.length x22), (.slice q23 x3.Store.Nodes.length x24), (.slice q25 x3.Store.Turns.length x26), (.slice q27 x3.Events.length x28), (.slice q29 x3.Mounts.length x30), (.slice q31 x3.Wounded.length x32)] :: Fo) rs143 ∧ (∀ r, r ∈ rs → r ∈ rs143) ∧ rSl kS (.slice q18 x1.Log.length x19) x1.Log ∈ rs143 ∧ rSl k_api_Result (.slice q21 x3.Results.length x22) x3.Results ∈ rs143 ∧ rSl k_api_Node (.slice q23 x3.Store.Nodes.length x24) x3.Store.Nodes ∈ rs143 ∧ rSl k_api_Turn (.slice q25 x3.Store.Turns.length x26) x3.Store.Turns ∈ rs143 ∧ rSl k_api_Event (.slice q27 x3.Events.length x28) x3.Events ∈ rs143 ∧ rSl k_api_Mount (.slice q29 x3.Mounts.length x30) x3.Mounts ∈ rs143 ∧ rSl (kI .i64) (.slice q31 x3.Wounded.length x32) x3.Wounded ∈ rs143 ∧ m_cantonlaw17_LetterMay_j5 (m_cantonlaw17_LetterMay_l3 x3 u33 x1 u45 u48 k3) x132 b142 = some r) ?_ ?_
             ·refine wp_block ?_
              refine wp_region_lit ?_
              refine sv E rfl rfl rfl (x_move E rfl rfl) ?_
              clear a E;intro a E
              refine sv E rfl rfl rfl (x_move E rfl rfl) ?_
              clear a E;intro a E
              rcases Bool.eq_false_or_eq_true b131 with hb152 | hb152
              ·rw [if_t hb152] at hm
               refine st_val E (ws' E rfl rfl rfl rfl hb152) rfl rfl (x_fa E rfl rfl (v := .pointer (some ⟨p20, 5, none⟩)) (fa50_5 _ _)) ?_
               clear a E;intro a E
               refine st_val E (ws' E rfl rfl rfl rfl hb152) rfl rfl (x_fa E rfl rfl (v := .pointer (some ⟨p20, 6, none⟩)) (fa45_1 _ _)) ?_
               clear a E;intro a E
               refine st_val E (ws' E rfl rfl rfl rfl hb152) rfl rfl (x_ldB (i := 1) E H rfl rfl rfl rfl Try.underlying43 rfl) ?_
               clear a E;intro a E
               refine st_val E (ws' E rfl rfl rfl rfl hb152) rfl rfl (x_move E rfl rfl) ?_
               clear a E;intro a E
               obtain ⟨x153, hx154, hm⟩ := bnd hm
               refine st_ixS E H (ws' E rfl rfl rfl rfl hb152) rfl rfl rfl rfl rfl hr138 Try.underlying43 sz66 hx154 ?_
               clear E H; clear a; intro q155 a H E
               replace H := H.derive1 (.head _) (rAt (kI .i64) (q155.add 1) x153.Next) (fun ok h => k_api_Turn_at1 h)
               refine st_val E (ws' E rfl rfl rfl rfl hb152) rfl rfl (x_fa E rfl rfl (fa66_1 _ _)) ?_
               clear a E;intro a E
               refine st_val E (ws' E rfl rfl rfl rfl hb152) rfl rfl (x_ldA E H rfl rfl (.head _) Try.underlying2 rfl) ?_
               clear a E;intro a E
               obtain ⟨u156, hx157, hm⟩ := bnd hm
               refine st_call E (ws' E rfl rfl rfl rfl hb152) rfl rfl (x_call E rfl rfl (cf27 _)) (c_cantonlaw17_may x153.Next H hx157) ?_
               clear E H; clear a; clear w; rintro _ w ⟨rfl, H⟩ a E
               refine sv E rfl rfl rfl (x_pickT E rfl rfl hb152 rfl) ?_
               clear a E;intro a E
               refine sv E rfl rfl rfl (x_assign E rfl rfl) ?_
               clear a E;intro a E
               refine wpList_nil ?_
               refine q_blk ?_
               refine q_then ?_
               exact ⟨u156, _, (((((((E.nil.keep E 13 rfl).keep E 10 rfl).keep E 9 rfl).keep E 7 rfl).keep E 5 rfl).keep E 3 rfl).keep E 2 rfl), H, fun r hr => .tail _ (.tail _ (hs134 r hr)), (.tail _ (.tail _ hr135)), (.tail _ (.tail _ hr136)), (.tail _ (.tail _ hr137)), (.tail _ (.tail _ hr138)), (.tail _ (.tail _ hr139)), (.tail _ (.tail _ hr140)), (.tail _ (.tail _ hr141)), hm⟩
              ·rw [if_f hb152] at hm
               refine st_no E (wf' E rfl rfl rfl rfl hb152 rfl) rfl rfl ?_
               clear a E;intro a E
               refine st_no E (wf' E rfl rfl rfl rfl hb152 rfl) rfl rfl ?_
               clear a E;intro a E
               refine st_no E (wf' E rfl rfl rfl rfl hb152 rfl) rfl rfl ?_
               clear a E;intro a E
               refine st_no E (wf' E rfl rfl rfl rfl hb152 rfl) rfl rfl ?_
               clear a E;intro a E
               refine st_no E (wf' E rfl rfl rfl rfl hb152 rfl) rfl rfl ?_
               clear a E;intro a E
               refine st_no E (wf' E rfl rfl rfl rfl hb152 rfl) rfl rfl ?_
               clear a E;intro a E
               refine st_no E (wf' E rfl rfl rfl rfl hb152 rfl) rfl rfl ?_
               clear a E;intro a E
               refine st_no E (wf' E rfl rfl rfl rfl hb152 rfl) rfl rfl ?_
               clear a E;intro a E
               refine sv E rfl rfl rfl (x_pickF E rfl rfl hb152 rfl) ?_
               clear a E;intro a E
               refine sv E rfl rfl rfl (x_assign E rfl rfl) ?_
               clear a E;intro a E
               refine wpList_nil ?_
               refine q_blk ?_
               refine q_then ?_
               exact ⟨false, _, (((((((E.nil.keep E 13 rfl).keep E 10 rfl).keep E 9 rfl).keep E 7 rfl).keep E 5 rfl).keep E 3 rfl).keep E 2 rfl), H, hs134, hr135, hr136, hr137, hr138, hr139, hr140, hr141, hm⟩
             ·clear E H hm
              rintro a w ⟨b142, rs143, E, H, hs144, hr145, hr146, hr147, hr148, hr149, hr150, hr151, hm⟩
              unfold m_cantonlaw17_LetterMay_j5 at hm
              refine wp_region_lit ?_
              refine sv E rfl rfl rfl (x_move E rfl rfl) ?_
              clear a E;intro a E
              refine sv E rfl rfl rfl (x_bin E rfl rfl rfl rfl) ?_
              clear a E;intro a E
              refine sv E rfl rfl rfl (x_assign E rfl rfl) ?_
              clear a E;intro a E
              refine wpList_nil ?_
              refine q_then ?_
              exact ⟨k3, Nat.lt_succ_self k3, b142, IntKind.i64.wrap (x132 + 1), _, (((((((E.nil.keep E 13 rfl).keep E 10 rfl).keep E 9 rfl).keep E 7 rfl).keep E 5 rfl).keep E 3 rfl).keep E 2 rfl), H, hs144, hr145, hr146, hr147, hr148, hr149, hr150, hr151, hm⟩
            ·intro hb
             rw [if_f hb] at hm
             clear hb
             refine wp_exit ?_
             refine q_thenX ?_
             refine q_thenX ?_
             refine q_hit ?_
             refine q_then ?_
             refine wp_seq ?_
             refine wp_seq ?_
             refine wp_region_lit ?_
             refine sv E rfl rfl rfl (x_assign E rfl rfl) ?_
             clear a E;intro a E
             refine wpList_nil ?_
             refine q_then ?_
             refine wp_block ?_
             refine wp_loop_g (fun k4 a w => ∃ (b158 : Bool) (x159 : Int) (rs160 : List Rp), Env 239 a [(2, .pointer (some ⟨p17, 0, none⟩)), (3, .pointer (some ⟨p20, 0, none⟩)), (5, .bool u33), (7, .int .i64 u45.2), (9, .int .i64 u48.2), (10, .bool b158), (14, .int .i64 x159)] ∧ Sep w (Blk p17 26 [.int .i64 x1.View, .int .i64 x1.Normal, (.slice q18 x1.Log.length x19)] :: Blk p20 50 [.int .i64 x3.Err, .int .i64 x3.At, .bool x3.Yes, .int .i64 x3.Epoch, (.slice q21 x3.Results.length x22), (.slice q23 x3.Store.Nodes.length x24), (.slice q25 x3.Store.Turns.length x26), (.slice q27 x3.Events.length x28), (.slice q29 x3.Mounts.length x30), (.slice q31 x3.Wounded.length x32)] :: Fo) rs160 ∧ (∀ r, r ∈ rs → r ∈ rs160) ∧ rSl kS (.slice q18 x1.Log.length x19) x1.Log ∈ rs160 ∧ rSl k_api_Result (.slice q21 x3.Results.length x22) x3.Results ∈ rs160 ∧ rSl k_api_Node (.slice q23 x3.Store.Nodes.length x24) x3.Store.Nodes ∈ rs160 ∧ rSl k_api_Turn (.slice q25 x3.Store.Turns.length x26) x3.Store.Turns ∈ rs160 ∧ rSl k_api_Event (.slice q27 x3.Events.length x28) x3.Events ∈ rs160 ∧ rSl k_api_Mount (.slice q29 x3.Mounts.length x30) x3.Mounts ∈ rs160 ∧ rSl (kI .i64) (.slice q31 x3.Wounded.length x32) x3.Wounded ∈ rs160 ∧ m_cantonlaw17_LetterMay_l4 x3 u33 x1 u45 u48 k4 b158 x159 = some r) (((x3.Events.length : Int) - 0 : Int).toNat + 1) ?_ ?_
             ·exact ⟨b131, 0, _, (((((((E.nil.keep E 14 rfl).keep E 10 rfl).keep E 9 rfl).keep E 7 rfl).keep E 5 rfl).keep E 3 rfl).keep E 2 rfl), H, hs134, hr135, hr136, hr137, hr138, hr139, hr140, hr141, hm⟩
             ·clear E H hm
              rintro k4 a w ⟨b158, x159, rs160, E, H, hs161, hr162, hr163, hr164, hr165, hr166, hr167, hr168, hm⟩
              cases k4 with
              | zero => exact (none_some hm rfl).elim
              | succ k4 =>
               unfold m_cantonlaw17_LetterMay_l4 at hm
               refine wp_seq ?_
               refine wp_seq ?_
               refine wp_region_lit ?_
               refine sv E rfl rfl rfl (x_move E rfl rfl) ?_
               clear a E;intro a E
               refine sv E rfl rfl rfl (x_fa E rfl rfl (v := .pointer (some ⟨p20, 7, none⟩)) (fa50_6 _ _)) ?_
               clear a E;intro a E
               refine sv E rfl rfl rfl (x_ldB (i := 1) E H rfl rfl rfl rfl Try.underlying46 rfl) ?_
               clear a E;intro a E
               refine sv E rfl rfl rfl (x_lenS E H rfl rfl hr166 Try.underlying46) ?_
               clear a E;intro a E
               refine sv E rfl rfl rfl (x_bin E rfl rfl rfl rfl) ?_
               clear a E;intro a E
               refine wpList_nil ?_
               refine q_then ?_
               refine wp_if E rfl ?_ ?_
               ·intro hb
                rw [if_t hb] at hm
                clear hb
                refine wp_skip ?_
                refine q_then ?_
                refine wp_seq_cut (fun a w => ∃ (b169 : Bool) (rs170 : List Rp), Env 239 a [(2, .pointer (some ⟨p17, 0, none⟩)), (3, .pointer (some ⟨p20, 0, none⟩)), (5, .bool u33), (7, .int .i64 u45.2), (9, .int .i64 u48.2), (10, .bool b169), (14, .int .i64 x159)] ∧ Sep w (Blk p17 26 [.int .i64 x1.View, .int .i64 x1.Normal, (.slice q18 x1.Log.length x19)] :: Blk p20 50 [.int .i64 x3.Err, .int .i64 x3.At, .bool x3.Yes, .int .i64 x3.Epoch, (.slice q21 x3.Results.length x22), (.slice q23 x3.Store.Nodes.length x24), (.slice q25 x3.Store.Turns.length x26), (.slice q27 x3.Events.length x28), (.slice q29 x3.Mounts.length x30), (.slice q31 x3.Wounded.length x32)] :: Fo) rs170 ∧ (∀ r, r ∈ rs → r ∈ rs170) ∧ rSl kS (.slice q18 x1.Log.length x19) x1.Log ∈ rs170 ∧ rSl k_api_Result (.slice q21 x3.Results.length x22) x3.Results ∈ rs170 ∧ rSl k_api_Node (.slice q23 x3.Store.Nodes.length x24) x3.Store.Nodes ∈ rs170 ∧ rSl k_api_Turn (.slice q25 x3.Store.Turns.length x26) x3.Store.Turns ∈ rs170 ∧ rSl k_api_Event (.slice q27 x3.Events.length x28) x3.Events ∈ rs170 ∧ rSl k_api_Mount (.slice q29 x3.Mounts.length x30) x3.Mounts ∈ rs170 ∧ rSl (kI .i64) (.slice q31 x3.Wounded.length x32) x3.Wounded ∈ rs170 ∧ m_cantonlaw17_LetterMay_j6 (m_cantonlaw17_LetterMay_l4 x3 u33 x1 u45 u48 k4) x159 b169 = some r) ?_ ?_
                ·refine wp_block ?_
                 refine wp_region_lit ?_
                 refine sv E rfl rfl rfl (x_move E rfl rfl) ?_
                 clear a E;intro a E
                 refine sv E rfl rfl rfl (x_move E rfl rfl) ?_
                 clear a E;intro a E
                 rcases Bool.eq_false_or_eq_true b158 with hb179 | hb179
                 ·rw [if_t hb179] at hm
                  refine st_val E (ws' E rfl rfl rfl rfl hb179) rfl rfl (x_fa E rfl rfl (v := .pointer (some ⟨p20, 7, none⟩)) (fa50_6 _ _)) ?_
                  clear a E;intro a E
                  refine st_val E (ws' E rfl rfl rfl rfl hb179) rfl rfl (x_ldB (i := 1) E H rfl rfl rfl rfl Try.underlying46 rfl) ?_
                  clear a E;intro a E
                  refine st_val E (ws' E rfl rfl rfl rfl hb179) rfl rfl (x_move E rfl rfl) ?_
                  clear a E;intro a E
                  obtain ⟨x180, hx181, hm⟩ := bnd hm
                  refine st_ixS E H (ws' E rfl rfl rfl rfl hb179) rfl rfl rfl rfl rfl hr166 Try.underlying46 sz68 hx181 ?_
                  clear E H; clear a; intro q182 a H E
                  replace H := H.derive1 (.head _) (rAt (kI .i64) (q182.add 0) x180.Num) (fun ok h => k_api_Event_at0 h)
                  refine st_val E (ws' E rfl rfl rfl rfl hb179) rfl rfl (x_fa E rfl rfl (fa68_0 _ _)) ?_
                  clear a E;intro a E
                  refine st_val E (ws' E rfl rfl rfl rfl hb179) rfl rfl (x_ldA E H rfl rfl (.head _) Try.underlying2 rfl) ?_
                  clear a E;intro a E
                  obtain ⟨u183, hx184, hm⟩ := bnd hm
                  refine st_call E (ws' E rfl rfl rfl rfl hb179) rfl rfl (x_call E rfl rfl (cf27 _)) (c_cantonlaw17_may x180.Num H hx184) ?_
                  clear E H; clear a; clear w; rintro _ w ⟨rfl, H⟩ a E
                  refine sv E rfl rfl rfl (x_pickT E rfl rfl hb179 rfl) ?_
                  clear a E;intro a E
                  refine sv E rfl rfl rfl (x_move E rfl rfl) ?_
                  clear a E;intro a E
                  rcases Bool.eq_false_or_eq_true u183 with hb185 | hb185
                  ·rw [if_t hb185] at hm
                   refine st_val E (ws' E rfl rfl rfl rfl hb185) rfl rfl (x_fa E rfl rfl (v := .pointer (some ⟨p20, 7, none⟩)) (fa50_6 _ _)) ?_
                   clear a E;intro a E
                   refine st_val E (ws' E rfl rfl rfl rfl hb185) rfl rfl (x_ldB (i := 1) E H rfl rfl rfl rfl Try.underlying46 rfl) ?_
                   clear a E;intro a E
                   refine st_val E (ws' E rfl rfl rfl rfl hb185) rfl rfl (x_move E rfl rfl) ?_
                   clear a E;intro a E
                   obtain ⟨x186, hx187, hm⟩ := bnd hm
                   refine st_ixS E H (ws' E rfl rfl rfl rfl hb185) rfl rfl rfl rfl rfl (.tail _ (.tail _ hr166)) Try.underlying46 sz68 hx187 ?_
                   clear E H; clear a; intro q188 a H E
                   replace H := H.derive1 (.head _) (rAt (kI .i64) (q188.add 1) x186.Kind) (fun ok h => k_api_Event_at1 h)
                   refine st_val E (ws' E rfl rfl rfl rfl hb185) rfl rfl (x_fa E rfl rfl (fa68_1 _ _)) ?_
                   clear a E;intro a E
                   refine st_val E (ws' E rfl rfl rfl rfl hb185) rfl rfl (x_ldA E H rfl rfl (.head _) Try.underlying3 rfl) ?_
                   clear a E;intro a E
                   obtain ⟨u189, hx190, hm⟩ := bnd hm
                   refine st_call E (ws' E rfl rfl rfl rfl hb185) rfl rfl (x_call E rfl rfl (cf27 _)) (c_cantonlaw17_may x186.Kind H hx190) ?_
                   clear E H; clear a; clear w; rintro _ w ⟨rfl, H⟩ a E
                   refine sv E rfl rfl rfl (x_pickT E rfl rfl hb185 rfl) ?_
                   clear a E;intro a E
                   refine sv E rfl rfl rfl (x_move E rfl rfl) ?_
                   clear a E;intro a E
                   rcases Bool.eq_false_or_eq_true u189 with hb191 | hb191
                   ·rw [if_t hb191] at hm
                    refine st_val E (ws' E rfl rfl rfl rfl hb191) rfl rfl (x_fa E rfl rfl (v := .pointer (some ⟨p20, 7, none⟩)) (fa50_6 _ _)) ?_
                    clear a E;intro a E
                    refine st_val E (ws' E rfl rfl rfl rfl hb191) rfl rfl (x_ldB (i := 1) E H rfl rfl rfl rfl Try.underlying46 rfl) ?_
                    clear a E;intro a E
                    refine st_val E (ws' E rfl rfl rfl rfl hb191) rfl rfl (x_move E rfl rfl) ?_
                    clear a E;intro a E
                    obtain ⟨x192, hx193, hm⟩ := bnd hm
                    refine st_ixS E H (ws' E rfl rfl rfl rfl hb191) rfl rfl rfl rfl rfl (.tail _ (.tail _ (.tail _ (.tail _ hr166)))) Try.underlying46 sz68 hx193 ?_
                    clear E H; clear a; intro q194 a H E
                    replace H := H.derive1 (.head _) (rAt (kI .i64) (q194.add 3) x192.Watch) (fun ok h => k_api_Event_at3 h)
                    refine st_val E (ws' E rfl rfl rfl rfl hb191) rfl rfl (x_fa E rfl rfl (fa68_3 _ _)) ?_
                    clear a E;intro a E
                    refine st_val E (ws' E rfl rfl rfl rfl hb191) rfl rfl (x_ldA E H rfl rfl (.head _) Try.underlying2 rfl) ?_
                    clear a E;intro a E
                    obtain ⟨u195, hx196, hm⟩ := bnd hm
                    refine st_call E (ws' E rfl rfl rfl rfl hb191) rfl rfl (x_call E rfl rfl (cf27 _)) (c_cantonlaw17_may x192.Watch H hx196) ?_
                    clear E H; clear a; clear w; rintro _ w ⟨rfl, H⟩ a E
                    refine sv E rfl rfl rfl (x_pickT E rfl rfl hb191 rfl) ?_
                    clear a E;intro a E
                    refine sv E rfl rfl rfl (x_assign E rfl rfl) ?_
                    clear a E;intro a E
                    refine wpList_nil ?_
                    refine q_blk ?_
                    refine q_then ?_
                    exact ⟨u195, _, (((((((E.nil.keep E 14 rfl).keep E 10 rfl).keep E 9 rfl).keep E 7 rfl).keep E 5 rfl).keep E 3 rfl).keep E 2 rfl), H, fun r hr => .tail _ (.tail _ (.tail _ (.tail _ (.tail _ (.tail _ (hs161 r hr)))))), (.tail _ (.tail _ (.tail _ (.tail _ (.tail _ (.tail _ hr162)))))), (.tail _ (.tail _ (.tail _ (.tail _ (.tail _ (.tail _ hr163)))))), (.tail _ (.tail _ (.tail _ (.tail _ (.tail _ (.tail _ hr164)))))), (.tail _ (.tail _ (.tail _ (.tail _ (.tail _ (.tail _ hr165)))))), (.tail _ (.tail _ (.tail _ (.tail _ (.tail _ (.tail _ hr166)))))), (.tail _ (.tail _ (.tail _ (.tail _ (.tail _ (.tail _ hr167)))))), (.tail _ (.tail _ (.tail _ (.tail _ (.tail _ (.tail _ hr168)))))), hm⟩
                   ·rw [if_f hb191] at hm
                    refine st_no E (wf' E rfl rfl rfl rfl hb191 rfl) rfl rfl ?_
                    clear a E;intro a E
                    refine st_no E (wf' E rfl rfl rfl rfl hb191 rfl) rfl rfl ?_
                    clear a E;intro a E
                    refine st_no E (wf' E rfl rfl rfl rfl hb191 rfl) rfl rfl ?_
                    clear a E;intro a E
                    refine st_no E (wf' E rfl rfl rfl rfl hb191 rfl) rfl rfl ?_
                    clear a E;intro a E
                    refine st_no E (wf' E rfl rfl rfl rfl hb191 rfl) rfl rfl ?_
                    clear a E;intro a E
                    refine st_no E (wf' E rfl rfl rfl rfl hb191 rfl) rfl rfl ?_
                    clear a E;intro a E
                    refine st_no E (wf' E rfl rfl rfl rfl hb191 rfl) rfl rfl ?_
                    clear a E;intro a E
                    refine sv E rfl rfl rfl (x_pickF E rfl rfl hb191 rfl) ?_
                    clear a E;intro a E
                    refine sv E rfl rfl rfl (x_assign E rfl rfl) ?_
                    clear a E;intro a E
                    refine wpList_nil ?_
                    refine q_blk ?_
                    refine q_then ?_
                    exact ⟨false, _, (((((((E.nil.keep E 14 rfl).keep E 10 rfl).keep E 9 rfl).keep E 7 rfl).keep E 5 rfl).keep E 3 rfl).keep E 2 rfl), H, fun r hr => .tail _ (.tail _ (.tail _ (.tail _ (hs161 r hr)))), (.tail _ (.tail _ (.tail _ (.tail _ hr162)))), (.tail _ (.tail _ (.tail _ (.tail _ hr163)))), (.tail _ (.tail _ (.tail _ (.tail _ hr164)))), (.tail _ (.tail _ (.tail _ (.tail _ hr165)))), (.tail _ (.tail _ (.tail _ (.tail _ hr166)))), (.tail _ (.tail _ (.tail _ (.tail _ hr167)))), (.tail _ (.tail _ (.tail _ (.tail _ hr168)))), hm⟩
                  ·rw [if_f hb185] at hm
                   refine st_no E (wf' E rfl rfl rfl rfl hb185 rfl) rfl rfl ?_
                   clear a E;intro a E
                   refine st_no E (wf' E rfl rfl rfl rfl hb185 rfl) rfl rfl ?_
                   clear a E;intro a E
                   refine st_no E (wf' E rfl rfl rfl rfl hb185 rfl) rfl rfl ?_
                   clear a E;intro a E
                   refine st_no E (wf' E rfl rfl rfl rfl hb185 rfl) rfl rfl ?_
                   clear a E;intro a E
                   refine st_no E (wf' E rfl rfl rfl rfl hb185 rfl) rfl rfl ?_
                   clear a E;intro a E
                   refine st_no E (wf' E rfl rfl rfl rfl hb185 rfl) rfl rfl ?_
                   clear a E;intro a E
                   refine st_no E (wf' E rfl rfl rfl rfl hb185 rfl) rfl rfl ?_
                   clear a E;intro a E
                   refine sv E rfl rfl rfl (x_pickF E rfl rfl hb185 rfl) ?_
                   clear a E;intro a E
                   refine sv E rfl rfl rfl (x_move E rfl rfl) ?_
                   clear a E;intro a E
                   refine st_no E (wf E rfl rfl rfl rfl rfl) rfl rfl ?_
                   clear a E;intro a E
                   refine st_no E (wf E rfl rfl rfl rfl rfl) rfl rfl ?_
                   clear a E;intro a E
                   refine st_no E (wf E rfl rfl rfl rfl rfl) rfl rfl ?_
                   clear a E;intro a E
                   refine st_no E (wf E rfl rfl rfl rfl rfl) rfl rfl ?_
                   clear a E;intro a E
                   refine st_no E (wf E rfl rfl rfl rfl rfl) rfl rfl ?_
                   clear a E;intro a E
                   refine st_no E (wf E rfl rfl rfl rfl rfl) rfl rfl ?_
                   clear a E;intro a E
                   refine st_no E (wf E rfl rfl rfl rfl rfl) rfl rfl ?_
                   clear a E;intro a E
                   refine sv E rfl rfl rfl (x_pickF E rfl rfl rfl rfl) ?_
                   clear a E;intro a E
                   refine sv E rfl rfl rfl (x_assign E rfl rfl) ?_
                   clear a E;intro a E
                   refine wpList_nil ?_
                   refine q_blk ?_
                   refine q_then ?_
                   exact ⟨false, _, (((((((E.nil.keep E 14 rfl).keep E 10 rfl).keep E 9 rfl).keep E 7 rfl).keep E 5 rfl).keep E 3 rfl).keep E 2 rfl), H, fun r hr => .tail _ (.tail _ (hs161 r hr)), (.tail _ (.tail _ hr162)), (.tail _ (.tail _ hr163)), (.tail _ (.tail _ hr164)), (.tail _ (.tail _ hr165)), (.tail _ (.tail _ hr166)), (.tail _ (.tail _ hr167)), (.tail _ (.tail _ hr168)), hm⟩
                 ·rw [if_f hb179] at hm
                  refine st_no E (wf' E rfl rfl rfl rfl hb179 rfl) rfl rfl ?_
                  clear a E;intro a E
                  refine st_no E (wf' E rfl rfl rfl rfl hb179 rfl) rfl rfl ?_
                  clear a E;intro a E
                  refine st_no E (wf' E rfl rfl rfl rfl hb179 rfl) rfl rfl ?_
                  clear a E;intro a E
                  refine st_no E (wf' E rfl rfl rfl rfl hb179 rfl) rfl rfl ?_
                  clear a E;intro a E
                  refine st_no E (wf' E rfl rfl rfl rfl hb179 rfl) rfl rfl ?_
                  clear a E;intro a E
                  refine st_no E (wf' E rfl rfl rfl rfl hb179 rfl) rfl rfl ?_
                  clear a E;intro a E
                  refine st_no E (wf' E rfl rfl rfl rfl hb179 rfl) rfl rfl ?_
                  clear a E;intro a E
                  refine sv E rfl rfl rfl (x_pickF E rfl rfl hb179 rfl) ?_
                  clear a E;intro a E
                  refine sv E rfl rfl rfl (x_move E rfl rfl) ?_
                  clear a E;intro a E
                  refine st_no E (wf E rfl rfl rfl rfl rfl) rfl rfl ?_
                  clear a E;intro a E
                  refine st_no E (wf E rfl rfl rfl rfl rfl) rfl rfl ?_
                  clear a E;intro a E
                  refine st_no E (wf E rfl rfl rfl rfl rfl) rfl rfl ?_
                  clear a E;intro a E
                  refine st_no E (wf E rfl rfl rfl rfl rfl) rfl rfl ?_
                  clear a E;intro a E
                  refine st_no E (wf E rfl rfl rfl rfl rfl) rfl rfl ?_
                  clear a E;intro a E
                  refine st_no E (wf E rfl rfl rfl rfl rfl) rfl rfl ?_
                  clear a E;intro a E
                  refine st_no E (wf E rfl rfl rfl rfl rfl) rfl rfl ?_
                  clear a E;intro a E
                  refine sv E rfl rfl rfl (x_pickF E rfl rfl rfl rfl) ?_
                  clear a E;intro a E
                  refine sv E rfl rfl rfl (x_move E rfl rfl) ?_
                  clear a E;intro a E
                  refine st_no E (wf E rfl rfl rfl rfl rfl) rfl rfl ?_
                  clear a E;intro a E
                  refine st_no E (wf E rfl rfl rfl rfl rfl) rfl rfl ?_
                  clear a E;intro a E
                  refine st_no E (wf E rfl rfl rfl rfl rfl) rfl rfl ?_
                  clear a E;intro a E
                  refine st_no E (wf E rfl rfl rfl rfl rfl) rfl rfl ?_
                  clear a E;intro a E
                  refine st_no E (wf E rfl rfl rfl rfl rfl) rfl rfl ?_
                  clear a E;intro a E
                  refine st_no E (wf E rfl rfl rfl rfl rfl) rfl rfl ?_
                  clear a E;intro a E
                  refine st_no E (wf E rfl rfl rfl rfl rfl) rfl rfl ?_
                  clear a E;intro a E
                  refine sv E rfl rfl rfl (x_pickF E rfl rfl rfl rfl) ?_
                  clear a E;intro a E
                  refine sv E rfl rfl rfl (x_assign E rfl rfl) ?_
                  clear a E;intro a E
                  refine wpList_nil ?_
                  refine q_blk ?_
                  refine q_then ?_
                  exact ⟨false, _, (((((((E.nil.keep E 14 rfl).keep E 10 rfl).keep E 9 rfl).keep E 7 rfl).keep E 5 rfl).keep E 3 rfl).keep E 2 rfl), H, hs161, hr162, hr163, hr164, hr165, hr166, hr167, hr168, hm⟩
                ·clear E H hm
                 rintro a w ⟨b169, rs170, E, H, hs171, hr172, hr173, hr174, hr175, hr176, hr177, hr178, hm⟩
                 unfold m_cantonlaw17_LetterMay_j6 at hm
                 refine wp_region_lit ?_
                 refine sv E rfl rfl rfl (x_move E rfl rfl) ?_
                 clear a E;intro a E
                 refine sv E rfl rfl rfl (x_bin E rfl rfl rfl rfl) ?_
                 clear a E;intro a E
                 refine sv E rfl rfl rfl (x_assign E rfl rfl) ?_
                 clear a E;intro a E
                 refine wpList_nil ?_
                 refine q_then ?_
                 exact ⟨k4, Nat.lt_succ_self k4, b169, IntKind.i64.wrap (x159 + 1), _, (((((((E.nil.keep E 14 rfl).keep E 10 rfl).keep E 9 rfl).keep E 7 rfl).keep E 5 rfl).keep E 3 rfl).keep E 2 rfl), H, hs171, hr172, hr173, hr174, hr175, hr176, hr177, hr178, hm⟩
               ·intro hb
                rw [if_f hb] at hm
                clear hb
                refine wp_exit ?_
                refine q_thenX ?_
                refine q_thenX ?_
                refine q_hit ?_
                refine q_then ?_
                refine wp_seq ?_
                refine wp_seq ?_
                refine wp_region_lit ?_
                refine sv E rfl rfl rfl (x_assign E rfl rfl) ?_
                clear a E;intro a E
                refine wpList_nil ?_
                refine q_then ?_
                refine wp_block ?_
                refine wp_loop_g (fun k5 a w => ∃ (b197 : Bool) (x198 : Int) (rs199 : List Rp), Env 239 a [(2, .pointer (some ⟨p17, 0, none⟩)), (3, .pointer (some ⟨p20, 0, none⟩)), (5, .bool u33), (7, .int .i64 u45.2), (9, .int .i64 u48.2), (10, .bool b197), (15, .int .i64 x198)] ∧ Sep w (Blk p17 26 [.int .i64 x1.View, .int .i64 x1.Normal, (.slice q18 x1.Log.length x19)] :: Blk p20 50 [.int .i64 x3.Err, .int .i64 x3.At, .bool x3.Yes, .int .i64 x3.Epoch, (.slice q21 x3.Results.length x22), (.slice q23 x3.Store.Nodes.length x24), (.slice q25 x3.Store.Turns.length x26), (.slice q27 x3.Events.length x28), (.slice q29 x3.Mounts.length x30), (.slice q31 x3.Wounded.length x32)] :: Fo) rs199 ∧ (∀ r, r ∈ rs → r ∈ rs199) ∧ rSl kS (.slice q18 x1.Log.length x19) x1.Log ∈ rs199 ∧ rSl k_api_Result (.slice q21 x3.Results.length x22) x3.Results ∈ rs199 ∧ rSl k_api_Node (.slice q23 x3.Store.Nodes.length x24) x3.Store.Nodes ∈ rs199 ∧ rSl k_api_Turn (.slice q25 x3.Store.Turns.length x26) x3.Store.Turns ∈ rs199 ∧ rSl k_api_Event (.slice q27 x3.Events.length x28) x3.Events ∈ rs199 ∧ rSl k_api_Mount (.slice q29 x3.Mounts.length x30) x3.Mounts ∈ rs199 ∧ rSl (kI .i64) (.slice q31 x3.Wounded.length x32) x3.Wounded ∈ rs199 ∧ m_cantonlaw17_LetterMay_l5 x3 u33 x1 u45 u48 k5 b197 x198 = some r) (((x3.Mounts.length : Int) - 0 : Int).toNat + 1) ?_ ?_
                ·exact ⟨b158, 0, _, (((((((E.nil.keep E 15 rfl).keep E 10 rfl).keep E 9 rfl).keep E 7 rfl).keep E 5 rfl).keep E 3 rfl).keep E 2 rfl), H, hs161, hr162, hr163, hr164, hr165, hr166, hr167, hr168, hm⟩
                ·clear E H hm
                 rintro k5 a w ⟨b197, x198, rs199, E, H, hs200, hr201, hr202, hr203, hr204, hr205, hr206, hr207, hm⟩
                 cases k5 with
                 | zero => exact (none_some hm rfl).elim
                 | succ k5 =>
                  unfold m_cantonlaw17_LetterMay_l5 at hm
                  refine wp_seq ?_
                  refine wp_seq ?_
                  refine wp_region_lit ?_
                  refine sv E rfl rfl rfl (x_move E rfl rfl) ?_
                  clear a E;intro a E
                  refine sv E rfl rfl rfl (x_fa E rfl rfl (v := .pointer (some ⟨p20, 8, none⟩)) (fa50_7 _ _)) ?_
                  clear a E;intro a E
                  refine sv E rfl rfl rfl (x_ldB (i := 1) E H rfl rfl rfl rfl Try.underlying47 rfl) ?_
                  clear a E;intro a E
                  refine sv E rfl rfl rfl (x_lenS E H rfl rfl hr206 Try.underlying47) ?_
                  clear a E;intro a E
                  refine sv E rfl rfl rfl (x_bin E rfl rfl rfl rfl) ?_
                  clear a E;intro a E
                  refine wpList_nil ?_
                  refine q_then ?_
                  refine wp_if E rfl ?_ ?_
                  ·intro hb
                   rw [if_t hb] at hm
                   clear hb
                   refine wp_skip ?_
                   refine q_then ?_
                   refine wp_seq_cut (fun a w => ∃ (b208 : Bool) (rs209 : List Rp), Env 239 a [(2, .pointer (some ⟨p17, 0, none⟩)), (3, .pointer (some ⟨p20, 0, none⟩)), (5, .bool u33), (7, .int .i64 u45.2), (9, .int .i64 u48.2), (10, .bool b208), (15, .int .i64 x198)] ∧ Sep w (Blk p17 26 [.int .i64 x1.View, .int .i64 x1.Normal, (.slice q18 x1.Log.length x19)] :: Blk p20 50 [.int .i64 x3.Err, .int .i64 x3.At, .bool x3.Yes, .int .i64 x3.Epoch, (.slice q21 x3.Results.length x22), (.slice q23 x3.Store.Nodes.length x24), (.slice q25 x3.Store.Turns.length x26), (.slice q27 x3.Events.length x28), (.slice q29 x3.Mounts.length x30), (.slice q31 x3.Wounded.length x32)] :: Fo) rs209 ∧ (∀ r, r ∈ rs → r ∈ rs209) ∧ rSl kS (.slice q18 x1.Log.length x19) x1.Log ∈ rs209 ∧ rSl k_api_Result (.slice q21 x3.Results.length x22) x3.Results ∈ rs209 ∧ rSl k_api_Node (.slice q23 x3.Store.Nodes.length x24) x3.Store.Nodes ∈ rs209 ∧ rSl k_api_Turn (.slice q25 x3.Store.Turns.length x26) x3.Store.Turns ∈ rs209 ∧ rSl k_api_Event (.slice q27 x3.Events.length x28) x3.Events ∈ rs209 ∧ rSl k_api_Mount (.slice q29 x3.Mounts.length x30) x3.Mounts ∈ rs209 ∧ rSl (kI .i64) (.slice q31 x3.Wounded.length x32) x3.Wounded ∈ rs209 ∧ m_cantonlaw17_LetterMay_j7 (m_cantonlaw17_LetterMay_l5 x3 u33 x1 u45 u48 k5) x198 b208 = some r) ?_ ?_
                   ·refine wp_block ?_
                    refine wp_region_lit ?_
                    refine sv E rfl rfl rfl (x_move E rfl rfl) ?_
                    clear a E;intro a E
                    refine sv E rfl rfl rfl (x_move E rfl rfl) ?_
                    clear a E;intro a E
                    rcases Bool.eq_false_or_eq_true b197 with hb218 | hb218
                    ·rw [if_t hb218] at hm
                     refine st_val E (ws' E rfl rfl rfl rfl hb218) rfl rfl (x_fa E rfl rfl (v := .pointer (some ⟨p20, 8, none⟩)) (fa50_7 _ _)) ?_
                     clear a E;intro a E
                     refine st_val E (ws' E rfl rfl rfl rfl hb218) rfl rfl (x_ldB (i := 1) E H rfl rfl rfl rfl Try.underlying47 rfl) ?_
                     clear a E;intro a E
                     refine st_val E (ws' E rfl rfl rfl rfl hb218) rfl rfl (x_move E rfl rfl) ?_
                     clear a E;intro a E
                     obtain ⟨x219, hx220, hm⟩ := bnd hm
                     refine st_ixS E H (ws' E rfl rfl rfl rfl hb218) rfl rfl rfl rfl rfl hr206 Try.underlying47 sz70 hx220 ?_
                     clear E H; clear a; intro q221 a H E
                     replace H := H.derive1 (.head _) (rAt (kI .i64) (q221.add 1) x219.Group) (fun ok h => k_api_Mount_at1 h)
                     refine st_val E (ws' E rfl rfl rfl rfl hb218) rfl rfl (x_fa E rfl rfl (fa70_1 _ _)) ?_
                     clear a E;intro a E
                     refine st_val E (ws' E rfl rfl rfl rfl hb218) rfl rfl (x_ldA E H rfl rfl (.head _) Try.underlying3 rfl) ?_
                     clear a E;intro a E
                     obtain ⟨u222, hx223, hm⟩ := bnd hm
                     refine st_call E (ws' E rfl rfl rfl rfl hb218) rfl rfl (x_call E rfl rfl (cf27 _)) (c_cantonlaw17_may x219.Group H hx223) ?_
                     clear E H; clear a; clear w; rintro _ w ⟨rfl, H⟩ a E
                     refine sv E rfl rfl rfl (x_pickT E rfl rfl hb218 rfl) ?_
                     clear a E;intro a E
                     refine sv E rfl rfl rfl (x_move E rfl rfl) ?_
                     clear a E;intro a E
                     rcases Bool.eq_false_or_eq_true u222 with hb224 | hb224
                     ·rw [if_t hb224] at hm
                      refine st_val E (ws' E rfl rfl rfl rfl hb224) rfl rfl (x_fa E rfl rfl (v := .pointer (some ⟨p20, 8, none⟩)) (fa50_7 _ _)) ?_
                      clear a E;intro a E
                      refine st_val E (ws' E rfl rfl rfl rfl hb224) rfl rfl (x_ldB (i := 1) E H rfl rfl rfl rfl Try.underlying47 rfl) ?_
                      clear a E;intro a E
                      refine st_val E (ws' E rfl rfl rfl rfl hb224) rfl rfl (x_move E rfl rfl) ?_
                      clear a E;intro a E
                      obtain ⟨x225, hx226, hm⟩ := bnd hm
                      refine st_ixS E H (ws' E rfl rfl rfl rfl hb224) rfl rfl rfl rfl rfl (.tail _ (.tail _ hr206)) Try.underlying47 sz70 hx226 ?_
                      clear E H; clear a; intro q227 a H E
                      replace H := H.derive1 (.head _) (rAt (kI .i64) (q227.add 2) x225.Epoch) (fun ok h => k_api_Mount_at2 h)
                      refine st_val E (ws' E rfl rfl rfl rfl hb224) rfl rfl (x_fa E rfl rfl (fa70_2 _ _)) ?_
                      clear a E;intro a E
                      refine st_val E (ws' E rfl rfl rfl rfl hb224) rfl rfl (x_ldA E H rfl rfl (.head _) Try.underlying2 rfl) ?_
                      clear a E;intro a E
                      obtain ⟨u228, hx229, hm⟩ := bnd hm
                      refine st_call E (ws' E rfl rfl rfl rfl hb224) rfl rfl (x_call E rfl rfl (cf27 _)) (c_cantonlaw17_may x225.Epoch H hx229) ?_
                      clear E H; clear a; clear w; rintro _ w ⟨rfl, H⟩ a E
                      refine sv E rfl rfl rfl (x_pickT E rfl rfl hb224 rfl) ?_
                      clear a E;intro a E
                      refine sv E rfl rfl rfl (x_move E rfl rfl) ?_
                      clear a E;intro a E
                      rcases Bool.eq_false_or_eq_true u228 with hb230 | hb230
                      ·rw [if_t hb230] at hm
                       refine st_val E (ws' E rfl rfl rfl rfl hb230) rfl rfl (x_fa E rfl rfl (v := .pointer (some ⟨p20, 8, none⟩)) (fa50_7 _ _)) ?_
                       clear a E;intro a E
                       refine st_val E (ws' E rfl rfl rfl rfl hb230) rfl rfl (x_ldB (i := 1) E H rfl rfl rfl rfl Try.underlying47 rfl) ?_
                       clear a E;intro a E
                       refine st_val E (ws' E rfl rfl rfl rfl hb230) rfl rfl (x_move E rfl rfl) ?_
                       clear a E;intro a E
                       obtain ⟨x231, hx232, hm⟩ := bnd hm
                       refine st_ixS E H (ws' E rfl rfl rfl rfl hb230) rfl rfl rfl rfl rfl (.tail _ (.tail _ (.tail _ (.tail _ hr206)))) Try.underlying47 sz70 hx232 ?_
                       clear E H; clear a; intro q233 a H E
                       replace H := H.derive1 (.head _) (rAt (kI .i64) (q233.add 3) x231.To) (fun ok h => k_api_Mount_at3 h)
                       refine st_val E (ws' E rfl rfl rfl rfl hb230) rfl rfl (x_fa E rfl rfl (fa70_3 _ _)) ?_
                       clear a E;intro a E
                       refine st_val E (ws' E rfl rfl rfl rfl hb230) rfl rfl (x_ldA E H rfl rfl (.head _) Try.underlying3 rfl) ?_
                       clear a E;intro a E
                       obtain ⟨u234, hx235, hm⟩ := bnd hm
                       refine st_call E (ws' E rfl rfl rfl rfl hb230) rfl rfl (x_call E rfl rfl (cf27 _)) (c_cantonlaw17_may x231.To H hx235) ?_
                       clear E H; clear a; clear w; rintro _ w ⟨rfl, H⟩ a E
                       refine sv E rfl rfl rfl (x_pickT E rfl rfl hb230 rfl) ?_
                       clear a E;intro a E
                       refine sv E rfl rfl rfl (x_assign E rfl rfl) ?_
                       clear a E;intro a E
                       refine wpList_nil ?_
                       refine q_blk ?_
                       refine q_then ?_
                       exact ⟨u234, _, (((((((E.nil.keep E 15 rfl).keep E 10 rfl).keep E 9 rfl).keep E 7 rfl).keep E 5 rfl).keep E 3 rfl).keep E 2 rfl), H, fun r hr => .tail _ (.tail _ (.tail _ (.tail _ (.tail _ (.tail _ (hs200 r hr)))))), (.tail _ (.tail _ (.tail _ (.tail _ (.tail _ (.tail _ hr201)))))), (.tail _ (.tail _ (.tail _ (.tail _ (.tail _ (.tail _ hr202)))))), (.tail _ (.tail _ (.tail _ (.tail _ (.tail _ (.tail _ hr203)))))), (.tail _ (.tail _ (.tail _ (.tail _ (.tail _ (.tail _ hr204)))))), (.tail _ (.tail _ (.tail _ (.tail _ (.tail _ (.tail _ hr205)))))), (.tail _ (.tail _ (.tail _ (.tail _ (.tail _ (.tail _ hr206)))))), (.tail _ (.tail _ (.tail _ (.tail _ (.tail _ (.tail _ hr207)))))), hm⟩
                      ·rw [if_f hb230] at hm
                       refine st_no E (wf' E rfl rfl rfl rfl hb230 rfl) rfl rfl ?_
                       clear a E;intro a E
                       refine st_no E (wf' E rfl rfl rfl rfl hb230 rfl) rfl rfl ?_
                       clear a E;intro a E
                       refine st_no E (wf' E rfl rfl rfl rfl hb230 rfl) rfl rfl ?_
                       clear a E;intro a E
                       refine st_no E (wf' E rfl rfl rfl rfl hb230 rfl) rfl rfl ?_
                       clear a E;intro a E
                       refine st_no E (wf' E rfl rfl rfl rfl hb230 rfl) rfl rfl ?_
                       clear a E;intro a E
                       refine st_no E (wf' E rfl rfl rfl rfl hb230 rfl) rfl rfl ?_
                       clear a E;intro a E
                       refine st_no E (wf' E rfl rfl rfl rfl hb230 rfl) rfl rfl ?_
                       clear a E;intro a E
                       refine sv E rfl rfl rfl (x_pickF E rfl rfl hb230 rfl) ?_
                       clear a E;intro a E
                       refine sv E rfl rfl rfl (x_assign E rfl rfl) ?_
                       clear a E;intro a E
                       refine wpList_nil ?_
                       refine q_blk ?_
                       refine q_then ?_
                       exact ⟨false, _, (((((((E.nil.keep E 15 rfl).keep E 10 rfl).keep E 9 rfl).keep E 7 rfl).keep E 5 rfl).keep E 3 rfl).keep E 2 rfl), H, fun r hr => .tail _ (.tail _ (.tail _ (.tail _ (hs200 r hr)))), (.tail _ (.tail _ (.tail _ (.tail _ hr201)))), (.tail _ (.tail _ (.tail _ (.tail _ hr202)))), (.tail _ (.tail _ (.tail _ (.tail _ hr203)))), (.tail _ (.tail _ (.tail _ (.tail _ hr204)))), (.tail _ (.tail _ (.tail _ (.tail _ hr205)))), (.tail _ (.tail _ (.tail _ (.tail _ hr206)))), (.tail _ (.tail _ (.tail _ (.tail _ hr207)))), hm⟩
                     ·rw [if_f hb224] at hm
                      refine st_no E (wf' E rfl rfl rfl rfl hb224 rfl) rfl rfl ?_
                      clear a E;intro a E
                      refine st_no E (wf' E rfl rfl rfl rfl hb224 rfl) rfl rfl ?_
                      clear a E;intro a E
                      refine st_no E (wf' E rfl rfl rfl rfl hb224 rfl) rfl rfl ?_
                      clear a E;intro a E
                      refine st_no E (wf' E rfl rfl rfl rfl hb224 rfl) rfl rfl ?_
                      clear a E;intro a E
                      refine st_no E (wf' E rfl rfl rfl rfl hb224 rfl) rfl rfl ?_
                      clear a E;intro a E
                      refine st_no E (wf' E rfl rfl rfl rfl hb224 rfl) rfl rfl ?_
                      clear a E;intro a E
                      refine st_no E (wf' E rfl rfl rfl rfl hb224 rfl) rfl rfl ?_
                      clear a E;intro a E
                      refine sv E rfl rfl rfl (x_pickF E rfl rfl hb224 rfl) ?_
                      clear a E;intro a E
                      refine sv E rfl rfl rfl (x_move E rfl rfl) ?_
                      clear a E;intro a E
                      refine st_no E (wf E rfl rfl rfl rfl rfl) rfl rfl ?_
                      clear a E;intro a E
                      refine st_no E (wf E rfl rfl rfl rfl rfl) rfl rfl ?_
                      clear a E;intro a E
                      refine st_no E (wf E rfl rfl rfl rfl rfl) rfl rfl ?_
                      clear a E;intro a E
                      refine st_no E (wf E rfl rfl rfl rfl rfl) rfl rfl ?_
                      clear a E;intro a E
                      refine st_no E (wf E rfl rfl rfl rfl rfl) rfl rfl ?_
                      clear a E;intro a E
                      refine st_no E (wf E rfl rfl rfl rfl rfl) rfl rfl ?_
                      clear a E;intro a E
                      refine st_no E (wf E rfl rfl rfl rfl rfl) rfl rfl ?_
                      clear a E;intro a E
                      refine sv E rfl rfl rfl (x_pickF E rfl rfl rfl rfl) ?_
                      clear a E;intro a E
                      refine sv E rfl rfl rfl (x_assign E rfl rfl) ?_
                      clear a E;intro a E
                      refine wpList_nil ?_
                      refine q_blk ?_
                      refine q_then ?_
                      exact ⟨false, _, (((((((E.nil.keep E 15 rfl).keep E 10 rfl).keep E 9 rfl).keep E 7 rfl).keep E 5 rfl).keep E 3 rfl).keep E 2 rfl), H, fun r hr => .tail _ (.tail _ (hs200 r hr)), (.tail _ (.tail _ hr201)), (.tail _ (.tail _ hr202)), (.tail _ (.tail _ hr203)), (.tail _ (.tail _ hr204)), (.tail _ (.tail _ hr205)), (.tail _ (.tail _ hr206)), (.tail _ (.tail _ hr207)), hm⟩
                    ·rw [if_f hb218] at hm
                     refine st_no E (wf' E rfl rfl rfl rfl hb218 rfl) rfl rfl ?_
                     clear a E;intro a E
                     refine st_no E (wf' E rfl rfl rfl rfl hb218 rfl) rfl rfl ?_
                     clear a E;intro a E
                     refine st_no E (wf' E rfl rfl rfl rfl hb218 rfl) rfl rfl ?_
                     clear a E;intro a E
                     refine st_no E (wf' E rfl rfl rfl rfl hb218 rfl) rfl rfl ?_
                     clear a E;intro a E
                     refine st_no E (wf' E rfl rfl rfl rfl hb218 rfl) rfl rfl ?_
                     clear a E;intro a E
                     refine st_no E (wf' E rfl rfl rfl rfl hb218 rfl) rfl rfl ?_
                     clear a E;intro a E
                     refine st_no E (wf' E rfl rfl rfl rfl hb218 rfl) rfl rfl ?_
                     clear a E;intro a E
                     refine sv E rfl rfl rfl (x_pickF E rfl rfl hb218 rfl) ?_
                     clear a E;intro a E
                     refine sv E rfl rfl rfl (x_move E rfl rfl) ?_
                     clear a E;intro a E
                     refine st_no E (wf E rfl rfl rfl rfl rfl) rfl rfl ?_
                     clear a E;intro a E
                     refine st_no E (wf E rfl rfl rfl rfl rfl) rfl rfl ?_
                     clear a E;intro a E
                     refine st_no E (wf E rfl rfl rfl rfl rfl) rfl rfl ?_
                     clear a E;intro a E
                     refine st_no E (wf E rfl rfl rfl rfl rfl) rfl rfl ?_
                     clear a E;intro a E
                     refine st_no E (wf E rfl rfl rfl rfl rfl) rfl rfl ?_
                     clear a E;intro a E
                     refine st_no E (wf E rfl rfl rfl rfl rfl) rfl rfl ?_
                     clear a E;intro a E
                     refine st_no E (wf E rfl rfl rfl rfl rfl) rfl rfl ?_
                     clear a E;intro a E
                     refine sv E rfl rfl rfl (x_pickF E rfl rfl rfl rfl) ?_
                     clear a E;intro a E
                     refine sv E rfl rfl rfl (x_move E rfl rfl) ?_
                     clear a E;intro a E
                     refine st_no E (wf E rfl rfl rfl rfl rfl) rfl rfl ?_
                     clear a E;intro a E
                     refine st_no E (wf E rfl rfl rfl rfl rfl) rfl rfl ?_
                     clear a E;intro a E
                     refine st_no E (wf E rfl rfl rfl rfl rfl) rfl rfl ?_
                     clear a E;intro a E
                     refine st_no E (wf E rfl rfl rfl rfl rfl) rfl rfl ?_
                     clear a E;intro a E
                     refine st_no E (wf E rfl rfl rfl rfl rfl) rfl rfl ?_
                     clear a E;intro a E
                     refine st_no E (wf E rfl rfl rfl rfl rfl) rfl rfl ?_
                     clear a E;intro a E
                     refine st_no E (wf E rfl rfl rfl rfl rfl) rfl rfl ?_
                     clear a E;intro a E
                     refine sv E rfl rfl rfl (x_pickF E rfl rfl rfl rfl) ?_
                     clear a E;intro a E
                     refine sv E rfl rfl rfl (x_assign E rfl rfl) ?_
                     clear a E;intro a E
                     refine wpList_nil ?_
                     refine q_blk ?_
                     refine q_then ?_
                     exact ⟨false, _, (((((((E.nil.keep E 15 rfl).keep E 10 rfl).keep E 9 rfl).keep E 7 rfl).keep E 5 rfl).keep E 3 rfl).keep E 2 rfl), H, hs200, hr201, hr202, hr203, hr204, hr205, hr206, hr207, hm⟩
                   ·clear E H hm
                    rintro a w ⟨b208, rs209, E, H, hs210, hr211, hr212, hr213, hr214, hr215, hr216, hr217, hm⟩
                    unfold m_cantonlaw17_LetterMay_j7 at hm
                    refine wp_region_lit ?_
                    refine sv E rfl rfl rfl (x_move E rfl rfl) ?_
                    clear a E;intro a E
                    refine sv E rfl rfl rfl (x_bin E rfl rfl rfl rfl) ?_
                    clear a E;intro a E
                    refine sv E rfl rfl rfl (x_assign E rfl rfl) ?_
                    clear a E;intro a E
                    refine wpList_nil ?_
                    refine q_then ?_
                    exact ⟨k5, Nat.lt_succ_self k5, b208, IntKind.i64.wrap (x198 + 1), _, (((((((E.nil.keep E 15 rfl).keep E 10 rfl).keep E 9 rfl).keep E 7 rfl).keep E 5 rfl).keep E 3 rfl).keep E 2 rfl), H, hs210, hr211, hr212, hr213, hr214, hr215, hr216, hr217, hm⟩
                  ·intro hb
                   rw [if_f hb] at hm
                   clear hb
                   refine wp_exit ?_
                   refine q_thenX ?_
                   refine q_thenX ?_
                   refine q_hit ?_
                   refine q_then ?_
                   refine wp_seq ?_
                   refine wp_seq ?_
                   refine wp_region_lit ?_
                   refine sv E rfl rfl rfl (x_assign E rfl rfl) ?_
                   clear a E;intro a E
                   refine wpList_nil ?_
                   refine q_then ?_
                   refine wp_block ?_
                   refine wp_loop_g (fun k6 a w => ∃ (b236 : Bool) (x237 : Int) (rs238 : List Rp), Env 239 a [(2, .pointer (some ⟨p17, 0, none⟩)), (3, .pointer (some ⟨p20, 0, none⟩)), (5, .bool u33), (7, .int .i64 u45.2), (9, .int .i64 u48.2), (10, .bool b236), (16, .int .i64 x237)] ∧ Sep w (Blk p17 26 [.int .i64 x1.View, .int .i64 x1.Normal, (.slice q18 x1.Log.length x19)] :: Blk p20 50 [.int .i64 x3.Err, .int .i64 x3.At, .bool x3.Yes, .int .i64 x3.Epoch, (.slice q21 x3.Results.length x22), (.slice q23 x3.Store.Nodes.length x24), (.slice q25 x3.Store.Turns.length x26), (.slice q27 x3.Events.length x28), (.slice q29 x3.Mounts.length x30), (.slice q31 x3.Wounded.length x32)] :: Fo) rs238 ∧ (∀ r, r ∈ rs → r ∈ rs238) ∧ rSl kS (.slice q18 x1.Log.length x19) x1.Log ∈ rs238 ∧ rSl k_api_Result (.slice q21 x3.Results.length x22) x3.Results ∈ rs238 ∧ rSl k_api_Node (.slice q23 x3.Store.Nodes.length x24) x3.Store.Nodes ∈ rs238 ∧ rSl k_api_Turn (.slice q25 x3.Store.Turns.length x26) x3.Store.Turns ∈ rs238 ∧ rSl k_api_Event (.slice q27 x3.Events.length x28) x3.Events ∈ rs238 ∧ rSl k_api_Mount (.slice q29 x3.Mounts.length x30) x3.Mounts ∈ rs238 ∧ rSl (kI .i64) (.slice q31 x3.Wounded.length x32) x3.Wounded ∈ rs238 ∧ m_cantonlaw17_LetterMay_l6 x3 u33 x1 u45 u48 k6 b236 x237 = some r) (((x3.Wounded.length : Int) - 0 : Int).toNat + 1) ?_ ?_
                   ·exact ⟨b197, 0, _, (((((((E.nil.keep E 16 rfl).keep E 10 rfl).keep E 9 rfl).keep E 7 rfl).keep E 5 rfl).keep E 3 rfl).keep E 2 rfl), H, hs200, hr201, hr202, hr203, hr204, hr205, hr206, hr207, hm⟩
                   ·clear E H hm
                    rintro k6 a w ⟨b236, x237, rs238, E, H, hs239, hr240, hr241, hr242, hr243, hr244, hr245, hr246, hm⟩
                    cases k6 with
                    | zero => exact (none_some hm rfl).elim
                    | succ k6 =>
                     unfold m_cantonlaw17_LetterMay_l6 at hm
                     refine wp_seq ?_
                     refine wp_seq ?_
                     refine wp_region_lit ?_
                     refine sv E rfl rfl rfl (x_move E rfl rfl) ?_
                     clear a E;intro a E
                     refine sv E rfl rfl rfl (x_fa E rfl rfl (v := .pointer (some ⟨p20, 9, none⟩)) (fa50_8 _ _)) ?_
                     clear a E;intro a E
                     refine sv E rfl rfl rfl (x_ldB (i := 1) E H rfl rfl rfl rfl Try.underlying48 rfl) ?_
                     clear a E;intro a E
                     refine sv E rfl rfl rfl (x_lenS E H rfl rfl hr246 Try.underlying48) ?_
                     clear a E;intro a E
                     refine sv E rfl rfl rfl (x_bin E rfl rfl rfl rfl) ?_
                     clear a E;intro a E
                     refine wpList_nil ?_
                     refine q_then ?_
                     refine wp_if E rfl ?_ ?_
                     ·intro hb
                      rw [if_t hb] at hm
                      clear hb
                      refine wp_skip ?_
                      refine q_then ?_
                      refine wp_seq_cut (fun a w => ∃ (b247 : Bool) (rs248 : List Rp), Env 239 a [(2, .pointer (some ⟨p17, 0, none⟩)), (3, .pointer (some ⟨p20, 0, none⟩)), (5, .bool u33), (7, .int .i64 u45.2), (9, .int .i64 u48.2), (10, .bool b247), (16, .int .i64 x237)] ∧ Sep w (Blk p17 26 [.int .i64 x1.View, .int .i64 x1.Normal, (.slice q18 x1.Log.length x19)] :: Blk p20 50 [.int .i64 x3.Err, .int .i64 x3.At, .bool x3.Yes, .int .i64 x3.Epoch, (.slice q21 x3.Results.length x22), (.slice q23 x3.Store.Nodes.length x24), (.slice q25 x3.Store.Turns.length x26), (.slice q27 x3.Events.length x28), (.slice q29 x3.Mounts.length x30), (.slice q31 x3.Wounded.length x32)] :: Fo) rs248 ∧ (∀ r, r ∈ rs → r ∈ rs248) ∧ rSl kS (.slice q18 x1.Log.length x19) x1.Log ∈ rs248 ∧ rSl k_api_Result (.slice q21 x3.Results.length x22) x3.Results ∈ rs248 ∧ rSl k_api_Node (.slice q23 x3.Store.Nodes.length x24) x3.Store.Nodes ∈ rs248 ∧ rSl k_api_Turn (.slice q25 x3.Store.Turns.length x26) x3.Store.Turns ∈ rs248 ∧ rSl k_api_Event (.slice q27 x3.Events.length x28) x3.Events ∈ rs248 ∧ rSl k_api_Mount (.slice q29 x3.Mounts.length x30) x3.Mounts ∈ rs248 ∧ rSl (kI .i64) (.slice q31 x3.Wounded.length x32) x3.Wounded ∈ rs248 ∧ m_cantonlaw17_LetterMay_j8 (m_cantonlaw17_LetterMay_l6 x3 u33 x1 u45 u48 k6) x237 b247 = some r) ?_ ?_
                      ·refine wp_block ?_
                       refine wp_region_lit ?_
                       refine sv E rfl rfl rfl (x_move E rfl rfl) ?_
                       clear a E;intro a E
                       refine sv E rfl rfl rfl (x_move E rfl rfl) ?_
                       clear a E;intro a E
                       rcases Bool.eq_false_or_eq_true b236 with hb257 | hb257
                       ·rw [if_t hb257] at hm
                        refine st_val E (ws' E rfl rfl rfl rfl hb257) rfl rfl (x_fa E rfl rfl (v := .pointer (some ⟨p20, 9, none⟩)) (fa50_8 _ _)) ?_
                        clear a E;intro a E
                        refine st_val E (ws' E rfl rfl rfl rfl hb257) rfl rfl (x_ldB (i := 1) E H rfl rfl rfl rfl Try.underlying48 rfl) ?_
                        clear a E;intro a E
                        refine st_val E (ws' E rfl rfl rfl rfl hb257) rfl rfl (x_move E rfl rfl) ?_
                        clear a E;intro a E
                        obtain ⟨x258, hx259, hm⟩ := bnd hm
                        refine st_ixS E H (ws' E rfl rfl rfl rfl hb257) rfl rfl rfl rfl rfl hr246 Try.underlying48 sz2 hx259 ?_
                        clear E H; clear a; intro q260 a H E
                        refine st_val E (ws' E rfl rfl rfl rfl hb257) rfl rfl (x_ldA E H rfl rfl (.head _) Try.underlying2 rfl) ?_
                        clear a E;intro a E
                        obtain ⟨u261, hx262, hm⟩ := bnd hm
                        refine st_call E (ws' E rfl rfl rfl rfl hb257) rfl rfl (x_call E rfl rfl (cf27 _)) (c_cantonlaw17_may x258 H hx262) ?_
                        clear E H; clear a; clear w; rintro _ w ⟨rfl, H⟩ a E
                        refine sv E rfl rfl rfl (x_pickT E rfl rfl hb257 rfl) ?_
                        clear a E;intro a E
                        refine sv E rfl rfl rfl (x_assign E rfl rfl) ?_
                        clear a E;intro a E
                        refine wpList_nil ?_
                        refine q_blk ?_
                        refine q_then ?_
                        exact ⟨u261, _, (((((((E.nil.keep E 16 rfl).keep E 10 rfl).keep E 9 rfl).keep E 7 rfl).keep E 5 rfl).keep E 3 rfl).keep E 2 rfl), H, fun r hr => .tail _ (hs239 r hr), (.tail _ hr240), (.tail _ hr241), (.tail _ hr242), (.tail _ hr243), (.tail _ hr244), (.tail _ hr245), (.tail _ hr246), hm⟩
                       ·rw [if_f hb257] at hm
                        refine st_no E (wf' E rfl rfl rfl rfl hb257 rfl) rfl rfl ?_
                        clear a E;intro a E
                        refine st_no E (wf' E rfl rfl rfl rfl hb257 rfl) rfl rfl ?_
                        clear a E;intro a E
                        refine st_no E (wf' E rfl rfl rfl rfl hb257 rfl) rfl rfl ?_
                        clear a E;intro a E
                        refine st_no E (wf' E rfl rfl rfl rfl hb257 rfl) rfl rfl ?_
                        clear a E;intro a E
                        refine st_no E (wf' E rfl rfl rfl rfl hb257 rfl) rfl rfl ?_
                        clear a E;intro a E
                        refine st_no E (wf' E rfl rfl rfl rfl hb257 rfl) rfl rfl ?_
                        clear a E;intro a E
                        refine sv E rfl rfl rfl (x_pickF E rfl rfl hb257 rfl) ?_
                        clear a E;intro a E
                        refine sv E rfl rfl rfl (x_assign E rfl rfl) ?_
                        clear a E;intro a E
                        refine wpList_nil ?_
                        refine q_blk ?_
                        refine q_then ?_
                        exact ⟨false, _, (((((((E.nil.keep E 16 rfl).keep E 10 rfl).keep E 9 rfl).keep E 7 rfl).keep E 5 rfl).keep E 3 rfl).keep E 2 rfl), H, hs239, hr240, hr241, hr242, hr243, hr244, hr245, hr246, hm⟩
                      ·clear E H hm
                       rintro a w ⟨b247, rs248, E, H, hs249, hr250, hr251, hr252, hr253, hr254, hr255, hr256, hm⟩
                       unfold m_cantonlaw17_LetterMay_j8 at hm
                       refine wp_region_lit ?_
                       refine sv E rfl rfl rfl (x_move E rfl rfl) ?_
                       clear a E;intro a E
                       refine sv E rfl rfl rfl (x_bin E rfl rfl rfl rfl) ?_
                       clear a E;intro a E
                       refine sv E rfl rfl rfl (x_assign E rfl rfl) ?_
                       clear a E;intro a E
                       refine wpList_nil ?_
                       refine q_then ?_
                       exact ⟨k6, Nat.lt_succ_self k6, b247, IntKind.i64.wrap (x237 + 1), _, (((((((E.nil.keep E 16 rfl).keep E 10 rfl).keep E 9 rfl).keep E 7 rfl).keep E 5 rfl).keep E 3 rfl).keep E 2 rfl), H, hs249, hr250, hr251, hr252, hr253, hr254, hr255, hr256, hm⟩
                     ·intro hb
                      rw [if_f hb] at hm
                      clear hb
                      refine wp_exit ?_
                      refine q_thenX ?_
                      refine q_thenX ?_
                      refine q_hit ?_
                      refine q_then ?_
                      refine wp_seq ?_
                      refine wp_region_lit ?_
                      refine sv E rfl rfl rfl (x_move E rfl rfl) ?_
                      clear a E;intro a E
                      refine sv E rfl rfl rfl (x_move E rfl rfl) ?_
                      clear a E;intro a E
                      rcases Bool.eq_false_or_eq_true u33 with hb263 | hb263
                      ·rw [if_t hb263] at hm
                       refine st_val E (ws' E rfl rfl rfl rfl hb263) rfl rfl (x_move E rfl rfl) ?_
                       clear a E;intro a E
                       refine st_val E (ws' E rfl rfl rfl rfl hb263) rfl rfl (x_bin E rfl rfl rfl rfl) ?_
                       clear a E;intro a E
                       refine st_val E (ws' E rfl rfl rfl rfl hb263) rfl rfl (x_fa E rfl rfl (v := .pointer (some ⟨p17, 0, none⟩)) (fa26_0 _ _)) ?_
                       clear a E;intro a E
                       refine st_val E (ws' E rfl rfl rfl rfl hb263) rfl rfl (x_ldB (i := 0) E H rfl rfl rfl rfl Try.underlying2 rfl) ?_
                       clear a E;intro a E
                       obtain ⟨u264, hx265, hm⟩ := bnd hm
                       refine st_call E (ws' E rfl rfl rfl rfl hb263) rfl rfl (x_call E rfl rfl (cf27 _)) (c_cantonlaw17_may x1.View H hx265) ?_
                       clear E H; clear a; clear w; rintro _ w ⟨rfl, H⟩ a E
                       refine st_val E (ws' E rfl rfl rfl rfl hb263) rfl rfl (x_move E rfl rfl) ?_
                       clear a E;intro a E
                       rcases Bool.eq_false_or_eq_true u264 with hb266 | hb266
                       ·rw [if_t hb266] at hm
                        refine st_val E (ws' E rfl rfl rfl rfl hb266) rfl rfl (x_fa E rfl rfl (v := .pointer (some ⟨p17, 1, none⟩)) (fa26_1 _ _)) ?_
                        clear a E;intro a E
                        refine st_val E (ws' E rfl rfl rfl rfl hb266) rfl rfl (x_ldB (i := 0) E H rfl rfl rfl rfl Try.underlying2 rfl) ?_
                        clear a E;intro a E
                        obtain ⟨u267, hx268, hm⟩ := bnd hm
                        refine st_call E (ws' E rfl rfl rfl rfl hb266) rfl rfl (x_call E rfl rfl (cf27 _)) (c_cantonlaw17_may x1.Normal H hx268) ?_
                        clear E H; clear a; clear w; rintro _ w ⟨rfl, H⟩ a E
                        refine st_val E (ws' E rfl rfl rfl rfl hb263) rfl rfl (x_pickT E rfl rfl hb266 rfl) ?_
                        clear a E;intro a E
                        refine st_val E (ws' E rfl rfl rfl rfl hb263) rfl rfl (x_bin2 E rfl rfl rfl (v := .bool ((u45.2 == 0) == u267)) (by kernel_rfl)) ?_
                        clear a E;intro a E
                        refine sv E rfl rfl rfl (x_pickT E rfl rfl hb263 rfl) ?_
                        clear a E;intro a E
                        refine sv E rfl rfl rfl (x_move E rfl rfl) ?_
                        clear a E;intro a E
                        rcases Bool.eq_false_or_eq_true ((u45.2 == 0) == u267) with hb269 | hb269
                        ·rw [if_t hb269] at hm
                         refine st_val E (ws' E rfl rfl rfl rfl hb269) rfl rfl (x_move E rfl rfl) ?_
                         clear a E;intro a E
                         refine st_val E (ws' E rfl rfl rfl rfl hb269) rfl rfl (x_bin E rfl rfl rfl rfl) ?_
                         clear a E;intro a E
                         refine st_val E (ws' E rfl rfl rfl rfl hb269) rfl rfl (x_move E rfl rfl) ?_
                         clear a E;intro a E
                         refine st_val E (ws' E rfl rfl rfl rfl hb269) rfl rfl (x_bin2 E rfl rfl rfl (v := .bool ((u48.2 == 0) == b236)) (by kernel_rfl)) ?_
                         clear a E;intro a E
                         refine sv E rfl rfl rfl (x_pickT E rfl rfl hb269 rfl) ?_
                         clear a E;intro a E
                         refine sv E rfl rfl rfl (x_assign E rfl rfl) ?_
                         clear a E;intro a E
                         refine wpList_nil ?_
                         refine q_then ?_
                         refine wp_ret ?_
                         refine out1 E rfl rfl ?_
                         replace H := H.drop 0
                         replace H := H.drop 0
                         obtain rfl := Option.some.inj hm
                         exact ⟨rfl, H.reads (fun r hr => hs239 r hr)⟩
                        ·rw [if_f hb269] at hm
                         refine st_no E (wf' E rfl rfl rfl rfl hb269 rfl) rfl rfl ?_
                         clear a E;intro a E
                         refine st_no E (wf' E rfl rfl rfl rfl hb269 rfl) rfl rfl ?_
                         clear a E;intro a E
                         refine st_no E (wf' E rfl rfl rfl rfl hb269 rfl) rfl rfl ?_
                         clear a E;intro a E
                         refine st_no E (wf' E rfl rfl rfl rfl hb269 rfl) rfl rfl ?_
                         clear a E;intro a E
                         refine sv E rfl rfl rfl (x_pickF E rfl rfl hb269 rfl) ?_
                         clear a E;intro a E
                         refine sv E rfl rfl rfl (x_assign E rfl rfl) ?_
                         clear a E;intro a E
                         refine wpList_nil ?_
                         refine q_then ?_
                         refine wp_ret ?_
                         refine out1 E rfl rfl ?_
                         replace H := H.drop 0
                         replace H := H.drop 0
                         obtain rfl := Option.some.inj hm
                         exact ⟨rfl, H.reads (fun r hr => hs239 r hr)⟩
                       ·rw [if_f hb266] at hm
                        refine st_no E (wf' E rfl rfl rfl rfl hb266 rfl) rfl rfl ?_
                        clear a E;intro a E
                        refine st_no E (wf' E rfl rfl rfl rfl hb266 rfl) rfl rfl ?_
                        clear a E;intro a E
                        refine st_no E (wf' E rfl rfl rfl rfl hb266 rfl) rfl rfl ?_
                        clear a E;intro a E
                        refine st_val E (ws' E rfl rfl rfl rfl hb263) rfl rfl (x_pickF E rfl rfl hb266 rfl) ?_
                        clear a E;intro a E
                        refine st_val E (ws' E rfl rfl rfl rfl hb263) rfl rfl (x_bin2 E rfl rfl rfl (v := .bool ((u45.2 == 0) == false)) (by kernel_rfl)) ?_
                        clear a E;intro a E
                        refine sv E rfl rfl rfl (x_pickT E rfl rfl hb263 rfl) ?_
                        clear a E;intro a E
                        refine sv E rfl rfl rfl (x_move E rfl rfl) ?_
                        clear a E;intro a E
                        rcases Bool.eq_false_or_eq_true ((u45.2 == 0) == false) with hb270 | hb270
                        ·rw [if_t hb270] at hm
                         refine st_val E (ws' E rfl rfl rfl rfl hb270) rfl rfl (x_move E rfl rfl) ?_
                         clear a E;intro a E
                         refine st_val E (ws' E rfl rfl rfl rfl hb270) rfl rfl (x_bin E rfl rfl rfl rfl) ?_
                         clear a E;intro a E
                         refine st_val E (ws' E rfl rfl rfl rfl hb270) rfl rfl (x_move E rfl rfl) ?_
                         clear a E;intro a E
                         refine st_val E (ws' E rfl rfl rfl rfl hb270) rfl rfl (x_bin2 E rfl rfl rfl (v := .bool ((u48.2 == 0) == b236)) (by kernel_rfl)) ?_
                         clear a E;intro a E
                         refine sv E rfl rfl rfl (x_pickT E rfl rfl hb270 rfl) ?_
                         clear a E;intro a E
                         refine sv E rfl rfl rfl (x_assign E rfl rfl) ?_
                         clear a E;intro a E
                         refine wpList_nil ?_
                         refine q_then ?_
                         refine wp_ret ?_
                         refine out1 E rfl rfl ?_
                         replace H := H.drop 0
                         replace H := H.drop 0
                         obtain rfl := Option.some.inj hm
                         exact ⟨rfl, H.reads (fun r hr => hs239 r hr)⟩
                        ·rw [if_f hb270] at hm
                         refine st_no E (wf' E rfl rfl rfl rfl hb270 rfl) rfl rfl ?_
                         clear a E;intro a E
                         refine st_no E (wf' E rfl rfl rfl rfl hb270 rfl) rfl rfl ?_
                         clear a E;intro a E
                         refine st_no E (wf' E rfl rfl rfl rfl hb270 rfl) rfl rfl ?_
                         clear a E;intro a E
                         refine st_no E (wf' E rfl rfl rfl rfl hb270 rfl) rfl rfl ?_
                         clear a E;intro a E
                         refine sv E rfl rfl rfl (x_pickF E rfl rfl hb270 rfl) ?_
                         clear a E;intro a E
                         refine sv E rfl rfl rfl (x_assign E rfl rfl) ?_
                         clear a E;intro a E
                         refine wpList_nil ?_
                         refine q_then ?_
                         refine wp_ret ?_
                         refine out1 E rfl rfl ?_
                         replace H := H.drop 0
                         replace H := H.drop 0
                         obtain rfl := Option.some.inj hm
                         exact ⟨rfl, H.reads (fun r hr => hs239 r hr)⟩
                      ·rw [if_f hb263] at hm
                       refine st_no E (wf' E rfl rfl rfl rfl hb263 rfl) rfl rfl ?_
                       clear a E;intro a E
                       refine st_no E (wf' E rfl rfl rfl rfl hb263 rfl) rfl rfl ?_
                       clear a E;intro a E
                       refine st_no E (wf' E rfl rfl rfl rfl hb263 rfl) rfl rfl ?_
                       clear a E;intro a E
                       refine st_no E (wf' E rfl rfl rfl rfl hb263 rfl) rfl rfl ?_
                       clear a E;intro a E
                       refine st_no E (wf' E rfl rfl rfl rfl hb263 rfl) rfl rfl ?_
                       clear a E;intro a E
                       refine st_no E (wf' E rfl rfl rfl rfl hb263 rfl) rfl rfl ?_
                       clear a E;intro a E
                       refine st_no E (wu E rfl rfl rfl rfl) rfl rfl ?_
                       clear a E;intro a E
                       refine st_no E (wu E rfl rfl rfl rfl) rfl rfl ?_
                       clear a E;intro a E
                       refine st_no E (wu E rfl rfl rfl rfl) rfl rfl ?_
                       clear a E;intro a E
                       refine st_no E (wf' E rfl rfl rfl rfl hb263 rfl) rfl rfl ?_
                       clear a E;intro a E
                       refine st_no E (wf' E rfl rfl rfl rfl hb263 rfl) rfl rfl ?_
                       clear a E;intro a E
                       refine sv E rfl rfl rfl (x_pickF E rfl rfl hb263 rfl) ?_
                       clear a E;intro a E
                       refine sv E rfl rfl rfl (x_move E rfl rfl) ?_
                       clear a E;intro a E
                       refine st_no E (wf E rfl rfl rfl rfl rfl) rfl rfl ?_
                       clear a E;intro a E
                       refine st_no E (wf E rfl rfl rfl rfl rfl) rfl rfl ?_
                       clear a E;intro a E
                       refine st_no E (wf E rfl rfl rfl rfl rfl) rfl rfl ?_
                       clear a E;intro a E
                       refine st_no E (wf E rfl rfl rfl rfl rfl) rfl rfl ?_
                       clear a E;intro a E
                       refine sv E rfl rfl rfl (x_pickF E rfl rfl rfl rfl) ?_
                       clear a E;intro a E
                       refine sv E rfl rfl rfl (x_assign E rfl rfl) ?_
                       clear a E;intro a E
                       refine wpList_nil ?_
                       refine q_then ?_
                       refine wp_ret ?_
                       refine out1 E rfl rfl ?_
                       replace H := H.drop 0
                       replace H := H.drop 0
                       obtain rfl := Option.some.inj hm
                       exact ⟨rfl, H.reads (fun r hr => hs239 r hr)⟩
end Go.Cb
