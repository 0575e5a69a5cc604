/- Functions of the program, walked: each comes to its plain function. -/
import Derived.Test.YtlocfgonplkcoaaKa4
set_option linter.unusedVariables false
set_option linter.unusedSimpArgs false
namespace Go.Cb
open Go.Proofs Go.RowKit
def m_cantonlaw17_LetterCut_j4 (u21 : Bool) : Option Bool :=
  some (u21)
def m_cantonlaw17_LetterCut_j5 (u21 : Bool) (b71 : Bool) : Option Bool :=
  if b71 = true then (some (false)) else (m_cantonlaw17_LetterCut_j4 u21)
def m_cantonlaw17_LetterCut_j3 (u21 : Bool) (u35 : (List Int) × Int) (x7 : Int) (x8 : Int) : Option Bool :=
  if (u35.2 == 0) = true then (if ((u35.1.length : Int) == 0) = true then (some (false)) else ((ck ((u35.1.length : Int) ≠ 0)).bind fun u47 => (ck (0 ≤ ((IntKind.i64.wrap x7).tmod (u35.1.length : Int)) ∧ ((IntKind.i64.wrap x7).tmod (u35.1.length : Int)) ≤ u35.1.length)).bind fun u48 => (m_letter_GetSaved (u35.1.take ((IntKind.i64.wrap x7).tmod (u35.1.length : Int)).toNat)).bind fun u51 => (ck (([] : List Int).length + u35.1.length ≤ LIM)).bind fun u59 => (ck ((([] : List Int) ++ u35.1).length + ([x8] : List Int).length ≤ LIM)).bind fun u63 => (m_letter_GetSaved ((([] : List Int) ++ u35.1) ++ ([x8] : List Int))).bind fun u65 => if (u51.2 != 3) = true then (m_cantonlaw17_LetterCut_j5 u21 true) else (m_cantonlaw17_LetterCut_j5 u21 (u65.2 != 3)))) else (m_cantonlaw17_LetterCut_j4 u21)
def m_cantonlaw17_LetterCut_j6 (u21 : Bool) (u35 : (List Int) × Int) (x7 : Int) (x8 : Int) (b100 : Bool) : Option Bool :=
  if b100 = true then (some (false)) else (m_cantonlaw17_LetterCut_j3 u21 u35 x7 x8)
def m_cantonlaw17_LetterCut_j2 (u21 : Bool) (u35 : (List Int) × Int) (x7 : Int) (x8 : Int) (u29 : (List Int) × Int) (b38 : Bool) : Option Bool :=
  if b38 = true then (some (false)) else (if (u29.2 == 0) = true then (if ((u29.1.length : Int) == 0) = true then (some (false)) else ((ck ((u29.1.length : Int) ≠ 0)).bind fun u76 => (ck (0 ≤ ((IntKind.i64.wrap x7).tmod (u29.1.length : Int)) ∧ ((IntKind.i64.wrap x7).tmod (u29.1.length : Int)) ≤ u29.1.length)).bind fun u77 => (m_letter_Get (u29.1.take ((IntKind.i64.wrap x7).tmod (u29.1.length : Int)).toNat)).bind fun u80 => (ck (([] : List Int).length + u29.1.length ≤ LIM)).bind fun u88 => (ck ((([] : List Int) ++ u29.1).length + ([x8] : List Int).length ≤ LIM)).bind fun u92 => (m_letter_Get ((([] : List Int) ++ u29.1) ++ ([x8] : List Int))).bind fun u94 => if (u80.2 != 3) = true then (m_cantonlaw17_LetterCut_j6 u21 u35 x7 x8 true) else (m_cantonlaw17_LetterCut_j6 u21 u35 x7 x8 (u94.2 != 3)))) else (m_cantonlaw17_LetterCut_j3 u21 u35 x7 x8))
def m_cantonlaw17_LetterCut_j1 (u21 : Bool) (x7 : Int) (x8 : Int) (x1 : S_api_Letter) (x3 : S_api_Letter) (x5 : S_api_Saved) (b23 : Bool) : Option Bool :=
  if b23 = true then (some (u21)) else ((m_letter_Put (⟨x1.Kind, x1.View, x1.Normal, x1.Len, x1.Stays, x1.Log, x1.Num, x1.Text⟩ : S_api_Letter)).bind fun u29 => (m_letter_Put (⟨x3.Kind, x3.View, x3.Normal, x3.Len, x3.Stays, x3.Log, x3.Num, x3.Text⟩ : S_api_Letter)).bind fun u32 => (m_letter_PutSaved (⟨x5.View, x5.Normal, x5.Log⟩ : S_api_Saved)).bind fun u35 => if (u29.2 == 0) = true then (if (u32.2 == 0) = true then ((m_cantonref17_Same (⟨x1.Kind, x1.View, x1.Normal, x1.Len, x1.Stays, x1.Log, x1.Num, x1.Text⟩ : S_api_Letter) (⟨x3.Kind, x3.View, x3.Normal, x3.Len, x3.Stays, x3.Log, x3.Num, x3.Text⟩ : S_api_Letter)).bind fun u106 => m_cantonlaw17_LetterCut_j2 u21 u35 x7 x8 u29 ((sEq (strOf u29.1) (strOf u32.1)) != u106)) else (m_cantonlaw17_LetterCut_j2 u21 u35 x7 x8 u29 false)) else (m_cantonlaw17_LetterCut_j2 u21 u35 x7 x8 u29 false))
def m_cantonlaw17_LetterCut (x1 : S_api_Letter) (x3 : S_api_Letter) (x5 : S_api_Saved) (x7 : Int) (x8 : Int) : Option Bool :=
  m_cantonlaw17_head.bind fun u21 => (m_cantonlaw17_GreatLog x1.Log).bind fun u108 => if u108 = true then (m_cantonlaw17_LetterCut_j1 u21 x7 x8 x1 x3 x5 true) else ((m_cantonlaw17_GreatLog x3.Log).bind fun u111 => if u111 = true then (m_cantonlaw17_LetterCut_j1 u21 x7 x8 x1 x3 x5 true) else ((m_cantonlaw17_GreatLog x5.Log).bind fun u114 => if u114 = true then (m_cantonlaw17_LetterCut_j1 u21 x7 x8 x1 x3 x5 true) else (if (decide ((x1.Text.size : Int) > 9000)) = true then (m_cantonlaw17_LetterCut_j1 u21 x7 x8 x1 x3 x5 true) else (m_cantonlaw17_LetterCut_j1 u21 x7 x8 x1 x3 x5 (decide ((x3.Text.size : Int) > 9000))))))
set_option maxRecDepth 20000 in
set_option maxHeartbeats 1000000 in
theorem c_cantonlaw17_LetterCut {w : World} {Fo : List Ob} {rs : List Rp} (x1 : S_api_Letter) (v2 : Value) (x3 : S_api_Letter) (v4 : Value) (x5 : S_api_Saved) (v6 : Value) (x7 : Int) (x8 : Int) (H : Sep w (Fo) rs) (hr9 : rSl kS v2 x1.Log ∈ rs) (hr10 : rSl kS v4 x3.Log ∈ rs) (hr11 : rSl kS v6 x5.Log ∈ rs) {r : Bool} (hm : m_cantonlaw17_LetterCut x1 x3 x5 x7 x8 = some r) :
    Calls Try.prog 7 [.agg #[.int .i64 x1.Kind, .int .i64 x1.View, .int .i64 x1.Normal, .int .i64 x1.Len, .int .i64 x1.Stays, v2, .int .i64 x1.Num, .string x1.Text], .agg #[.int .i64 x3.Kind, .int .i64 x3.View, .int .i64 x3.Normal, .int .i64 x3.Len, .int .i64 x3.Stays, v4, .int .i64 x3.Num, .string x3.Text], .agg #[.int .i64 x5.View, .int .i64 x5.Normal, v6], .int .u16 x7, .int .u8 x8].toArray w (Ret fun v w' => .bool r = v ∧ Sep w' (Fo) (rs)) := by
  unfold m_cantonlaw17_LetterCut at hm
  refine enter Try.func7 rfl Try.ntmps7 rfl fun a E => ?_
  simp only [enum, Nat.reduceAdd] at E
  refine wp_seq ?_
  refine wp_region_lit ?_
  obtain ⟨q13, x14, rfl⟩ := H.slform hr9
  refine st_box E H (wn rfl) rfl rfl (cs := [.int .i64 x1.Kind, .int .i64 x1.View, .int .i64 x1.Normal, .int .i64 x1.Len, .int .i64 x1.Stays, (.slice q13 x1.Log.length x14), .int .i64 x1.Num, .string x1.Text]) rfl rfl rfl ?_
  clear E H; clear a; clear w; intro p12 w a H E
  obtain ⟨q16, x17, rfl⟩ := H.slform hr10
  refine st_box E H (wn rfl) rfl rfl (cs := [.int .i64 x3.Kind, .int .i64 x3.View, .int .i64 x3.Normal, .int .i64 x3.Len, .int .i64 x3.Stays, (.slice q16 x3.Log.length x17), .int .i64 x3.Num, .string x3.Text]) rfl rfl rfl ?_
  clear E H; clear a; clear w; intro p15 w a H E
  obtain ⟨q19, x20, rfl⟩ := H.slform hr11
  refine st_box E H (wn rfl) rfl rfl (cs := [.int .i64 x5.View, .int .i64 x5.Normal, (.slice q19 x5.Log.length x20)]) rfl rfl rfl ?_
  clear E H; clear a; clear w; intro p18 w a H E
  refine st_val E (wn rfl) rfl rfl (x_assign E rfl rfl) ?_
  clear E; clear a; intro a E
  refine wpList_nil ?_
  refine q_then ?_
  refine wp_seq ?_
  refine wp_region_lit ?_
  replace H : Sep w (Blk p18 26 [.int .i64 x5.View, .int .i64 x5.Normal, (.slice q19 x5.Log.length x20)] :: Blk p15 24 [.int .i64 x3.Kind, .int .i64 x3.View, .int .i64 x3.Normal, .int .i64 x3.Len, .int .i64 x3.Stays, (.slice q16 x3.Log.length x17), .int .i64 x3.Num, .string x3.Text] :: Blk p12 24 [.int .i64 x1.Kind, .int .i64 x1.View, .int .i64 x1.Normal, .int .i64 x1.Len, .int .i64 x1.Stays, (.slice q13 x1.Log.length x14), .int .i64 x1.Num, .string x1.Text] :: Fo) (rs) := H
  obtain ⟨u21, hx22, hm⟩ := bnd hm
  refine st_call E (wn rfl) rfl rfl (x_call E rfl rfl (cf9 _)) (c_cantonlaw17_head H hx22) ?_
  clear E H; clear a; clear w; rintro _ w ⟨rfl, H⟩ a E
  refine st_val E (wn rfl) rfl rfl (x_assign E rfl rfl) ?_
  clear E; clear a; intro a E
  refine wpList_nil ?_
  refine q_then ?_
  refine wp_seq ?_
  refine wp_seq_cut (fun a w => ∃ (b23 : Bool) (rs24 : List Rp), Env 150 a [(3, .int .u16 x7), (4, .int .u8 x8), (5, .pointer (some ⟨p12, 0, none⟩)), (6, .pointer (some ⟨p15, 0, none⟩)), (7, .pointer (some ⟨p18, 0, none⟩)), (11, .bool u21), (51, .bool b23)] ∧ Sep w (Blk p12 24 [.int .i64 x1.Kind, .int .i64 x1.View, .int .i64 x1.Normal, .int .i64 x1.Len, .int .i64 x1.Stays, (.slice q13 x1.Log.length x14), .int .i64 x1.Num, .string x1.Text] :: Blk p15 24 [.int .i64 x3.Kind, .int .i64 x3.View, .int .i64 x3.Normal, .int .i64 x3.Len, .int .i64 x3.Stays, (.slice q16 x3.Log.length x17), .int .i64 x3.Num, .string x3.Text] :: Blk p18 26 [.int .i64 x5.View, .int .i64 x5.Normal, (.slice q19 x5.Log.length x20)] :: Fo) rs24 ∧ (∀ r, r ∈ rs → r ∈ rs24) ∧ rSl kS (.slice q13 x1.Log.length x14) x1.Log ∈ rs24 ∧ rSl kS (.slice q16 x3.Log.length x17) x3.Log ∈ rs24 ∧ rSl kS (.slice q19 x5.Log.length x20) x5.Log ∈ rs24 ∧ m_cantonlaw17_LetterCut_j1 u21 x7 x8 x1 x3 x5 b23 = some r) ?_ ?_
  · refine wp_region_lit ?_
    refine st_val E (wn rfl) rfl rfl (x_fa E rfl rfl (v := .pointer (some ⟨p12, 5, none⟩)) (fa24_5 _ _)) ?_
    clear E; clear a; intro a E
    refine st_val E (wn rfl) rfl rfl (x_ldB (i := 2) E H rfl rfl rfl rfl Try.underlying22 rfl) ?_
    clear E; clear a; intro a E
    replace H : Sep w (Blk p18 26 [.int .i64 x5.View, .int .i64 x5.Normal, (.slice q19 x5.Log.length x20)] :: Blk p15 24 [.int .i64 x3.Kind, .int .i64 x3.View, .int .i64 x3.Normal, .int .i64 x3.Len, .int .i64 x3.Stays, (.slice q16 x3.Log.length x17), .int .i64 x3.Num, .string x3.Text] :: Blk p12 24 [.int .i64 x1.Kind, .int .i64 x1.View, .int .i64 x1.Normal, .int .i64 x1.Len, .int .i64 x1.Stays, (.slice q13 x1.Log.length x14), .int .i64 x1.Num, .string x1.Text] :: Fo) (rs) := H
    obtain ⟨u108, hx109, hm⟩ := bnd hm
    refine st_call E (wn rfl) rfl rfl (x_call E rfl rfl (cf10 _)) (c_cantonlaw17_GreatLog (.slice q13 x1.Log.length x14) x1.Log H hr9 hx109) ?_
    clear E H; clear a; clear w; rintro _ w ⟨rfl, H⟩ a E
    refine st_val E (wn rfl) rfl rfl (x_move E rfl rfl) ?_
    clear E; clear a; intro a E
    rcases Bool.eq_false_or_eq_true u108 with hb110 | hb110
    · rw [if_t hb110] at hm
      refine st_no E (wf' E rfl rfl rfl rfl hb110 rfl) rfl rfl ?_
      clear E; clear a; intro a E
      refine st_no E (wf' E rfl rfl rfl rfl hb110 rfl) rfl rfl ?_
      clear E; clear a; intro a E
      refine st_no E (wf' E rfl rfl rfl rfl hb110 rfl) rfl rfl ?_
      clear E; clear a; intro a E
      refine st_val E (wn rfl) rfl rfl (x_pickT E rfl rfl hb110 rfl) ?_
      clear E; clear a; intro a E
      refine st_val E (wn rfl) rfl rfl (x_move E rfl rfl) ?_
      clear E; clear a; intro a E
      refine st_no E (wf E rfl rfl rfl rfl rfl) rfl rfl ?_
      clear E; clear a; intro a E
      refine st_no E (wf E rfl rfl rfl rfl rfl) rfl rfl ?_
      clear E; clear a; intro a E
      refine st_no E (wf E rfl rfl rfl rfl rfl) rfl rfl ?_
      clear E; clear a; intro a E
      refine st_val E (wn rfl) rfl rfl (x_pickT E rfl rfl rfl rfl) ?_
      clear E; clear a; intro a E
      refine st_val E (wn rfl) rfl rfl (x_move E rfl rfl) ?_
      clear E; clear a; intro a E
      refine st_no E (wf E rfl rfl rfl rfl rfl) rfl rfl ?_
      clear E; clear a; intro a E
      refine st_no E (wf E rfl rfl rfl rfl rfl) rfl rfl ?_
      clear E; clear a; intro a E
      refine st_no E (wf E rfl rfl rfl rfl rfl) rfl rfl ?_
      clear E; clear a; intro a E
      refine st_no E (wf E rfl rfl rfl rfl rfl) rfl rfl ?_
      clear E; clear a; intro a E
      refine st_val E (wn rfl) rfl rfl (x_pickT E rfl rfl rfl rfl) ?_
      clear E; clear a; intro a E
      refine st_val E (wn rfl) rfl rfl (x_move E rfl rfl) ?_
      clear E; clear a; intro a E
      refine st_no E (wf E rfl rfl rfl rfl rfl) rfl rfl ?_
      clear E; clear a; intro a E
      refine st_no E (wf E rfl rfl rfl rfl rfl) rfl rfl ?_
      clear E; clear a; intro a E
      refine st_no E (wf E rfl rfl rfl rfl rfl) rfl rfl ?_
      clear E; clear a; intro a E
      refine st_no E (wf E rfl rfl rfl rfl rfl) rfl rfl ?_
      clear E; clear a; intro a E
      refine st_val E (wn rfl) rfl rfl (x_pickT E rfl rfl rfl rfl) ?_
      clear E; clear a; intro a E
      refine wpList_nil ?_
      refine q_then ?_
      replace H := H.front 0 rfl
      replace H := H.front 1 rfl
      replace H := H.front 2 rfl
      exact ⟨true, _, (((((((E.nil.keep E 51 rfl).keep E 11 rfl).keep E 7 rfl).keep E 6 rfl).keep E 5 rfl).keep E 4 rfl).keep E 3 rfl), H, fun r hr => hr, hr9, hr10, hr11, hm⟩
    · rw [if_f hb110] at hm
      refine st_val E (ws' E rfl rfl rfl rfl hb110) rfl rfl (x_fa E rfl rfl (v := .pointer (some ⟨p15, 5, none⟩)) (fa24_5 _ _)) ?_
      clear E; clear a; intro a E
      refine st_val E (ws' E rfl rfl rfl rfl hb110) rfl rfl (x_ldB (i := 1) E H rfl rfl rfl rfl Try.underlying22 rfl) ?_
      clear E; clear a; intro a E
      replace H : Sep w (Blk p18 26 [.int .i64 x5.View, .int .i64 x5.Normal, (.slice q19 x5.Log.length x20)] :: Blk p15 24 [.int .i64 x3.Kind, .int .i64 x3.View, .int .i64 x3.Normal, .int .i64 x3.Len, .int .i64 x3.Stays, (.slice q16 x3.Log.length x17), .int .i64 x3.Num, .string x3.Text] :: Blk p12 24 [.int .i64 x1.Kind, .int .i64 x1.View, .int .i64 x1.Normal, .int .i64 x1.Len, .int .i64 x1.Stays, (.slice q13 x1.Log.length x14), .int .i64 x1.Num, .string x1.Text] :: Fo) (rs) := H
      obtain ⟨u111, hx112, hm⟩ := bnd hm
      refine st_call E (ws' E rfl rfl rfl rfl hb110) rfl rfl (x_call E rfl rfl (cf10 _)) (c_cantonlaw17_GreatLog (.slice q16 x3.Log.length x17) x3.Log H hr10 hx112) ?_
      clear E H; clear a; clear w; rintro _ w ⟨rfl, H⟩ a E
      refine st_val E (wn rfl) rfl rfl (x_pickF E rfl rfl hb110 rfl) ?_
      clear E; clear a; intro a E
      refine st_val E (wn rfl) rfl rfl (x_move E rfl rfl) ?_
      clear E; clear a; intro a E
      rcases Bool.eq_false_or_eq_true u111 with hb113 | hb113
      · rw [if_t hb113] at hm
        refine st_no E (wf' E rfl rfl rfl rfl hb113 rfl) rfl rfl ?_
        clear E; clear a; intro a E
        refine st_no E (wf' E rfl rfl rfl rfl hb113 rfl) rfl rfl ?_
        clear E; clear a; intro a E
        refine st_no E (wf' E rfl rfl rfl rfl hb113 rfl) rfl rfl ?_
        clear E; clear a; intro a E
        refine st_val E (wn rfl) rfl rfl (x_pickT E rfl rfl hb113 rfl) ?_
        clear E; clear a; intro a E
        refine st_val E (wn rfl) rfl rfl (x_move E rfl rfl) ?_
        clear E; clear a; intro a E
        refine st_no E (wf E rfl rfl rfl rfl rfl) rfl rfl ?_
        clear E; clear a; intro a E
        refine st_no E (wf E rfl rfl rfl rfl rfl) rfl rfl ?_
        clear E; clear a; intro a E
        refine st_no E (wf E rfl rfl rfl rfl rfl) rfl rfl ?_
        clear E; clear a; intro a E
        refine st_no E (wf E rfl rfl rfl rfl rfl) rfl rfl ?_
        clear E; clear a; intro a E
        refine st_val E (wn rfl) rfl rfl (x_pickT E rfl rfl rfl rfl) ?_
        clear E; clear a; intro a E
        refine st_val E (wn rfl) rfl rfl (x_move E rfl rfl) ?_
        clear E; clear a; intro a E
        refine st_no E (wf E rfl rfl rfl rfl rfl) rfl rfl ?_
        clear E; clear a; intro a E
        refine st_no E (wf E rfl rfl rfl rfl rfl) rfl rfl ?_
        clear E; clear a; intro a E
        refine st_no E (wf E rfl rfl rfl rfl rfl) rfl rfl ?_
        clear E; clear a; intro a E
        refine st_no E (wf E rfl rfl rfl rfl rfl) rfl rfl ?_
        clear E; clear a; intro a E
        refine st_val E (wn rfl) rfl rfl (x_pickT E rfl rfl rfl rfl) ?_
        clear E; clear a; intro a E
        refine wpList_nil ?_
        refine q_then ?_
        replace H := H.front 0 rfl
        replace H := H.front 1 rfl
        replace H := H.front 2 rfl
        exact ⟨true, _, (((((((E.nil.keep E 51 rfl).keep E 11 rfl).keep E 7 rfl).keep E 6 rfl).keep E 5 rfl).keep E 4 rfl).keep E 3 rfl), H, fun r hr => hr, hr9, hr10, hr11, hm⟩
      · rw [if_f hb113] at hm
        refine st_val E (ws' E rfl rfl rfl rfl hb113) rfl rfl (x_fa E rfl rfl (v := .pointer (some ⟨p18, 2, none⟩)) (fa26_2 _ _)) ?_
        clear E; clear a; intro a E
        refine st_val E (ws' E rfl rfl rfl rfl hb113) rfl rfl (x_ldB (i := 0) E H rfl rfl rfl rfl Try.underlying22 rfl) ?_
        clear E; clear a; intro a E
        replace H : Sep w (Blk p18 26 [.int .i64 x5.View, .int .i64 x5.Normal, (.slice q19 x5.Log.length x20)] :: Blk p15 24 [.int .i64 x3.Kind, .int .i64 x3.View, .int .i64 x3.Normal, .int .i64 x3.Len, .int .i64 x3.Stays, (.slice q16 x3.Log.length x17), .int .i64 x3.Num, .string x3.Text] :: Blk p12 24 [.int .i64 x1.Kind, .int .i64 x1.View, .int .i64 x1.Normal, .int .i64 x1.Len, .int .i64 x1.Stays, (.slice q13 x1.Log.length x14), .int .i64 x1.Num, .string x1.Text] :: Fo) (rs) := H
        obtain ⟨u114, hx115, hm⟩ := bnd hm
        refine st_call E (ws' E rfl rfl rfl rfl hb113) rfl rfl (x_call E rfl rfl (cf10 _)) (c_cantonlaw17_GreatLog (.slice q19 x5.Log.length x20) x5.Log H hr11 hx115) ?_
        clear E H; clear a; clear w; rintro _ w ⟨rfl, H⟩ a E
        refine st_val E (wn rfl) rfl rfl (x_pickF E rfl rfl hb113 rfl) ?_
        clear E; clear a; intro a E
        refine st_val E (wn rfl) rfl rfl (x_move E rfl rfl) ?_
        clear E; clear a; intro a E
        rcases Bool.eq_false_or_eq_true u114 with hb116 | hb116
        · rw [if_t hb116] at hm
          refine st_no E (wf' E rfl rfl rfl rfl hb116 rfl) rfl rfl ?_
          clear E; clear a; intro a E
          refine st_no E (wf' E rfl rfl rfl rfl hb116 rfl) rfl rfl ?_
          clear E; clear a; intro a E
          refine st_no E (wf' E rfl rfl rfl rfl hb116 rfl) rfl rfl ?_
          clear E; clear a; intro a E
          refine st_no E (wf' E rfl rfl rfl rfl hb116 rfl) rfl rfl ?_
          clear E; clear a; intro a E
          refine st_val E (wn rfl) rfl rfl (x_pickT E rfl rfl hb116 rfl) ?_
          clear E; clear a; intro a E
          refine st_val E (wn rfl) rfl rfl (x_move E rfl rfl) ?_
          clear E; clear a; intro a E
          refine st_no E (wf E rfl rfl rfl rfl rfl) rfl rfl ?_
          clear E; clear a; intro a E
          refine st_no E (wf E rfl rfl rfl rfl rfl) rfl rfl ?_
          clear E; clear a; intro a E
          refine st_no E (wf E rfl rfl rfl rfl rfl) rfl rfl ?_
          clear E; clear a; intro a E
          refine st_no E (wf E rfl rfl rfl rfl rfl) rfl rfl ?_
          clear E; clear a; intro a E
          refine st_val E (wn rfl) rfl rfl (x_pickT E rfl rfl rfl rfl) ?_
          clear E; clear a; intro a E
          refine wpList_nil ?_
          refine q_then ?_
          replace H := H.front 0 rfl
          replace H := H.front 1 rfl
          replace H := H.front 2 rfl
          exact ⟨true, _, (((((((E.nil.keep E 51 rfl).keep E 11 rfl).keep E 7 rfl).keep E 6 rfl).keep E 5 rfl).keep E 4 rfl).keep E 3 rfl), H, fun r hr => hr, hr9, hr10, hr11, hm⟩
        · rw [if_f hb116] at hm
          refine st_val E (ws' E rfl rfl rfl rfl hb116) rfl rfl (x_fa E rfl rfl (v := .pointer (some ⟨p12, 7, none⟩)) (fa24_7 _ _)) ?_
          clear E; clear a; intro a E
          refine st_val E (ws' E rfl rfl rfl rfl hb116) rfl rfl (x_ldB (i := 2) E H rfl rfl rfl rfl Try.underlying9 rfl) ?_
          clear E; clear a; intro a E
          refine st_val E (ws' E rfl rfl rfl rfl hb116) rfl rfl (x_lenStr E rfl rfl Try.underlying9) ?_
          clear E; clear a; intro a E
          refine st_val E (ws' E rfl rfl rfl rfl hb116) rfl rfl (x_bin E rfl rfl rfl rfl) ?_
          clear E; clear a; intro a E
          refine st_val E (wn rfl) rfl rfl (x_pickF E rfl rfl hb116 rfl) ?_
          clear E; clear a; intro a E
          refine st_val E (wn rfl) rfl rfl (x_move E rfl rfl) ?_
          clear E; clear a; intro a E
          rcases Bool.eq_false_or_eq_true (decide ((x1.Text.size : Int) > 9000)) with hb117 | hb117
          · rw [if_t hb117] at hm
            refine st_no E (wf' E rfl rfl rfl rfl hb117 rfl) rfl rfl ?_
            clear E; clear a; intro a E
            refine st_no E (wf' E rfl rfl rfl rfl hb117 rfl) rfl rfl ?_
            clear E; clear a; intro a E
            refine st_no E (wf' E rfl rfl rfl rfl hb117 rfl) rfl rfl ?_
            clear E; clear a; intro a E
            refine st_no E (wf' E rfl rfl rfl rfl hb117 rfl) rfl rfl ?_
            clear E; clear a; intro a E
            refine st_val E (wn rfl) rfl rfl (x_pickT E rfl rfl hb117 rfl) ?_
            clear E; clear a; intro a E
            refine wpList_nil ?_
            refine q_then ?_
            replace H := H.front 0 rfl
            replace H := H.front 1 rfl
            replace H := H.front 2 rfl
            exact ⟨true, _, (((((((E.nil.keep E 51 rfl).keep E 11 rfl).keep E 7 rfl).keep E 6 rfl).keep E 5 rfl).keep E 4 rfl).keep E 3 rfl), H, fun r hr => hr, hr9, hr10, hr11, hm⟩
          · rw [if_f hb117] at hm
            refine st_val E (ws' E rfl rfl rfl rfl hb117) rfl rfl (x_fa E rfl rfl (v := .pointer (some ⟨p15, 7, none⟩)) (fa24_7 _ _)) ?_
            clear E; clear a; intro a E
            refine st_val E (ws' E rfl rfl rfl rfl hb117) rfl rfl (x_ldB (i := 1) E H rfl rfl rfl rfl Try.underlying9 rfl) ?_
            clear E; clear a; intro a E
            refine st_val E (ws' E rfl rfl rfl rfl hb117) rfl rfl (x_lenStr E rfl rfl Try.underlying9) ?_
            clear E; clear a; intro a E
            refine st_val E (ws' E rfl rfl rfl rfl hb117) rfl rfl (x_bin E rfl rfl rfl rfl) ?_
            clear E; clear a; intro a E
            refine st_val E (wn rfl) rfl rfl (x_pickF E rfl rfl hb117 rfl) ?_
            clear E; clear a; intro a E
            refine wpList_nil ?_
            refine q_then ?_
            replace H := H.front 0 rfl
            replace H := H.front 1 rfl
            replace H := H.front 2 rfl
            exact ⟨decide ((x3.Text.size : Int) > 9000), _, (((((((E.nil.keep E 51 rfl).keep E 11 rfl).keep E 7 rfl).keep E 6 rfl).keep E 5 rfl).keep E 4 rfl).keep E 3 rfl), H, fun r hr => hr, hr9, hr10, hr11, hm⟩
  · clear E H hm
    rintro a w ⟨b23, rs24, E, H, hs25, hr26, hr27, hr28, hm⟩
    unfold m_cantonlaw17_LetterCut_j1 at hm
    refine wp_if E rfl ?_ ?_
    · intro hb
      rw [if_t hb] at hm
      clear hb
      refine wp_seq ?_
      refine wp_region_lit ?_
      refine st_val E (wn rfl) rfl rfl (x_move E rfl rfl) ?_
      clear E; clear a; intro a E
      refine st_val E (wn rfl) rfl rfl (x_assign E rfl rfl) ?_
      clear E; clear a; intro a E
      refine wpList_nil ?_
      refine q_then ?_
      refine wp_ret ?_
      refine q_thenR ?_
      refine out1 E rfl rfl ?_
      replace H := H.drop 0
      replace H := H.drop 0
      replace H := H.drop 0
      obtain rfl := Option.some.inj hm
      exact ⟨rfl, H.reads (fun r hr => hs25 r hr)⟩
    · intro hb
      rw [if_f hb] at hm
      clear hb
      refine wp_skip ?_
      refine q_then ?_
      refine wp_seq ?_
      refine wp_region_lit ?_
      refine st_val E (wn rfl) rfl rfl (x_ldBN (i := 0) (us := [.int .i64 x1.Kind, .int .i64 x1.View, .int .i64 x1.Normal, .int .i64 x1.Len, .int .i64 x1.Stays, (.slice q13 x1.Log.length x14), .int .i64 x1.Num, .string x1.Text]) E H rfl rfl rfl rfl Try.underlying24 rfl sz24) ?_
      clear E; clear a; intro a E
      replace H : Sep w (Blk p12 24 [.int .i64 x1.Kind, .int .i64 x1.View, .int .i64 x1.Normal, .int .i64 x1.Len, .int .i64 x1.Stays, (.slice q13 x1.Log.length x14), .int .i64 x1.Num, .string x1.Text] :: Blk p15 24 [.int .i64 x3.Kind, .int .i64 x3.View, .int .i64 x3.Normal, .int .i64 x3.Len, .int .i64 x3.Stays, (.slice q16 x3.Log.length x17), .int .i64 x3.Num, .string x3.Text] :: Blk p18 26 [.int .i64 x5.View, .int .i64 x5.Normal, (.slice q19 x5.Log.length x20)] :: Fo) (rs24) := H
      obtain ⟨u29, hx30, hm⟩ := bnd hm
      refine st_call E (wn rfl) rfl rfl (x_call E rfl rfl (cf11 _)) (c_letter_Put (⟨x1.Kind, x1.View, x1.Normal, x1.Len, x1.Stays, x1.Log, x1.Num, x1.Text⟩ : S_api_Letter) (.slice q13 x1.Log.length x14) H hr26 hx30) ?_
      clear E H; clear a; clear w; rintro _ w ⟨v31, rfl, H⟩ a E
      refine st_val E (wn rfl) rfl rfl (x_move E rfl rfl) ?_
      clear E; clear a; intro a E
      refine st_val E (wn rfl) rfl rfl (x_ext E rfl rfl rfl) ?_
      clear E; clear a; intro a E
      refine st_val E (wn rfl) rfl rfl (x_ext E rfl rfl rfl) ?_
      clear E; clear a; intro a E
      refine st_val E (wn rfl) rfl rfl (x_assign E rfl rfl) ?_
      clear E; clear a; intro a E
      refine st_val E (wn rfl) rfl rfl (x_assign E rfl rfl) ?_
      clear E; clear a; intro a E
      refine wpList_nil ?_
      refine q_then ?_
      refine wp_seq ?_
      refine wp_region_lit ?_
      refine st_val E (wn rfl) rfl rfl (x_ldBN (i := 2) (us := [.int .i64 x3.Kind, .int .i64 x3.View, .int .i64 x3.Normal, .int .i64 x3.Len, .int .i64 x3.Stays, (.slice q16 x3.Log.length x17), .int .i64 x3.Num, .string x3.Text]) E H rfl rfl rfl rfl Try.underlying24 rfl sz24) ?_
      clear E; clear a; intro a E
      replace H : Sep w (Row 5 (kI .u8) v31 u29.1 :: Blk p12 24 [.int .i64 x1.Kind, .int .i64 x1.View, .int .i64 x1.Normal, .int .i64 x1.Len, .int .i64 x1.Stays, (.slice q13 x1.Log.length x14), .int .i64 x1.Num, .string x1.Text] :: Blk p15 24 [.int .i64 x3.Kind, .int .i64 x3.View, .int .i64 x3.Normal, .int .i64 x3.Len, .int .i64 x3.Stays, (.slice q16 x3.Log.length x17), .int .i64 x3.Num, .string x3.Text] :: Blk p18 26 [.int .i64 x5.View, .int .i64 x5.Normal, (.slice q19 x5.Log.length x20)] :: Fo) (rs24) := H
      obtain ⟨u32, hx33, hm⟩ := bnd hm
      refine st_call E (wn rfl) rfl rfl (x_call E rfl rfl (cf11 _)) (c_letter_Put (⟨x3.Kind, x3.View, x3.Normal, x3.Len, x3.Stays, x3.Log, x3.Num, x3.Text⟩ : S_api_Letter) (.slice q16 x3.Log.length x17) H hr27 hx33) ?_
      clear E H; clear a; clear w; rintro _ w ⟨v34, rfl, H⟩ a E
      refine st_val E (wn rfl) rfl rfl (x_move E rfl rfl) ?_
      clear E; clear a; intro a E
      refine st_val E (wn rfl) rfl rfl (x_ext E rfl rfl rfl) ?_
      clear E; clear a; intro a E
      refine st_val E (wn rfl) rfl rfl (x_ext E rfl rfl rfl) ?_
      clear E; clear a; intro a E
      refine st_val E (wn rfl) rfl rfl (x_assign E rfl rfl) ?_
      clear E; clear a; intro a E
      refine st_val E (wn rfl) rfl rfl (x_assign E rfl rfl) ?_
      clear E; clear a; intro a E
      refine wpList_nil ?_
      refine q_then ?_
      refine wp_seq ?_
      refine wp_region_lit ?_
      refine st_val E (wn rfl) rfl rfl (x_ldBN (i := 4) (us := [.int .i64 x5.View, .int .i64 x5.Normal, (.slice q19 x5.Log.length x20)]) E H rfl rfl rfl rfl Try.underlying26 rfl sz26) ?_
      clear E; clear a; intro a E
      replace H : Sep w (Row 5 (kI .u8) v34 u32.1 :: Row 5 (kI .u8) v31 u29.1 :: Blk p12 24 [.int .i64 x1.Kind, .int .i64 x1.View, .int .i64 x1.Normal, .int .i64 x1.Len, .int .i64 x1.Stays, (.slice q13 x1.Log.length x14), .int .i64 x1.Num, .string x1.Text] :: Blk p15 24 [.int .i64 x3.Kind, .int .i64 x3.View, .int .i64 x3.Normal, .int .i64 x3.Len, .int .i64 x3.Stays, (.slice q16 x3.Log.length x17), .int .i64 x3.Num, .string x3.Text] :: Blk p18 26 [.int .i64 x5.View, .int .i64 x5.Normal, (.slice q19 x5.Log.length x20)] :: Fo) (rs24) := H
      obtain ⟨u35, hx36, hm⟩ := bnd hm
      refine st_call E (wn rfl) rfl rfl (x_call E rfl rfl (cf13 _)) (c_letter_PutSaved (⟨x5.View, x5.Normal, x5.Log⟩ : S_api_Saved) (.slice q19 x5.Log.length x20) H hr28 hx36) ?_
      clear E H; clear a; clear w; rintro _ w ⟨v37, rfl, H⟩ a E
      refine st_val E (wn rfl) rfl rfl (x_move E rfl rfl) ?_
      clear E; clear a; intro a E
      refine st_val E (wn rfl) rfl rfl (x_ext E rfl rfl rfl) ?_
      clear E; clear a; intro a E
      refine st_val E (wn rfl) rfl rfl (x_ext E rfl rfl rfl) ?_
      clear E; clear a; intro a E
      refine st_val E (wn rfl) rfl rfl (x_assign E rfl rfl) ?_
      clear E; clear a; intro a E
      refine st_val E (wn rfl) rfl rfl (x_assign E rfl rfl) ?_
      clear E; clear a; intro a E
      refine wpList_nil ?_
      refine q_then ?_
      refine wp_seq ?_
      refine wp_seq_cut (fun a w => ∃ (b38 : Bool) (rs39 : List Rp), Env 150 a [(3, .int .u16 x7), (4, .int .u8 x8), (11, .bool u21), (12, v31), (13, .int .i64 u29.2), (16, v37), (17, .int .i64 u35.2), (84, .bool b38)] ∧ Sep w (Row 5 (kI .u8) v37 u35.1 :: Fo) rs39 ∧ (∀ r, r ∈ rs → r ∈ rs39) ∧ rSl (kI .u8) v31 u29.1 ∈ rs39 ∧ m_cantonlaw17_LetterCut_j2 u21 u35 x7 x8 u29 b38 = some r) ?_ ?_
      · replace H := H.thaw (i := 2) rfl
        replace H := H.thaw (i := 1) rfl
        replace H : Sep w (Row 5 (kI .u8) v37 u35.1 :: Blk p12 24 [.int .i64 x1.Kind, .int .i64 x1.View, .int .i64 x1.Normal, .int .i64 x1.Len, .int .i64 x1.Stays, (.slice q13 x1.Log.length x14), .int .i64 x1.Num, .string x1.Text] :: Blk p15 24 [.int .i64 x3.Kind, .int .i64 x3.View, .int .i64 x3.Normal, .int .i64 x3.Len, .int .i64 x3.Stays, (.slice q16 x3.Log.length x17), .int .i64 x3.Num, .string x3.Text] :: Blk p18 26 [.int .i64 x5.View, .int .i64 x5.Normal, (.slice q19 x5.Log.length x20)] :: Fo) (rSl (kI .u8) v34 u32.1 :: rSl (kI .u8) v31 u29.1 :: rs24) := H
        have hI : Still [Blk p12 24 [.int .i64 x1.Kind, .int .i64 x1.View, .int .i64 x1.Normal, .int .i64 x1.Len, .int .i64 x1.Stays, (.slice q13 x1.Log.length x14), .int .i64 x1.Num, .string x1.Text], Blk p15 24 [.int .i64 x3.Kind, .int .i64 x3.View, .int .i64 x3.Normal, .int .i64 x3.Len, .int .i64 x3.Stays, (.slice q16 x3.Log.length x17), .int .i64 x3.Num, .string x3.Text]] [rSl (kI .u8) v31 u29.1, rSl (kI .u8) v34 u32.1] { w with drawn := w.drawn + 1 } := ⟨_, _, H.kept (Kp.drawn _ w _), (subO_cons (.tail _ (.head _)) (subO_cons (.tail _ (.tail _ (.head _))) (subO_nil))), (sub_cons (.tail _ (.head _)) (sub_cons (.head _) (sub_nil)))⟩
        refine wp_draw _ [(0, 0), (1, 0), (2, 0), (3, 0), (4, 0), (5, 0), (6, 0), (7, 0), (8, 0), (9, 0), (10, 0), (11, 0), (12, 0), (13, 0), (14, 1), (15, 0), (16, 0)] mixedOk (by kernel_rfl) (fun _ _ _ h => False.elim h.2) hI ?_
        replace H := H.kept (Kp.drawn _ w (w.drawn + 1))
        generalize ({ w with drawn := w.drawn + 1 } : World) = w at H hI ⊢
        replace hI : ∃ W, Still [Blk p12 24 [.int .i64 x1.Kind, .int .i64 x1.View, .int .i64 x1.Normal, .int .i64 x1.Len, .int .i64 x1.Stays, (.slice q13 x1.Log.length x14), .int .i64 x1.Num, .string x1.Text], Blk p15 24 [.int .i64 x3.Kind, .int .i64 x3.View, .int .i64 x3.Normal, .int .i64 x3.Len, .int .i64 x3.Stays, (.slice q16 x3.Log.length x17), .int .i64 x3.Num, .string x3.Text]] [rSl (kI .u8) v31 u29.1, rSl (kI .u8) v34 u32.1] W := ⟨_, hI⟩
        obtain ⟨W0, hI⟩ := hI
        refine fr_val E rfl (wn rfl) rfl rfl (fun w hW => (x_move E rfl rfl)) ?_
        clear E; clear a; intro a E
        refine fr_val E rfl (wn rfl) rfl rfl (fun w hW => (x_bin E rfl rfl rfl rfl)) ?_
        clear E; clear a; intro a E
        refine fr_val E rfl (wn rfl) rfl rfl (fun w hW => (x_move E rfl rfl)) ?_
        clear E; clear a; intro a E
        rcases Bool.eq_false_or_eq_true (u29.2 == 0) with hb104 | hb104
        · rw [if_t hb104] at hm
          refine fr_val E rfl (ws' E rfl rfl rfl rfl hb104) rfl rfl (fun w hW => (x_move E rfl rfl)) ?_
          clear E; clear a; intro a E
          refine fr_val E rfl (ws' E rfl rfl rfl rfl hb104) rfl rfl (fun w hW => (x_bin E rfl rfl rfl rfl)) ?_
          clear E; clear a; intro a E
          refine fr_val E rfl (wn rfl) rfl rfl (fun w hW => (x_pickT E rfl rfl hb104 rfl)) ?_
          clear E; clear a; intro a E
          refine fr_val E rfl (wn rfl) rfl rfl (fun w hW => (x_move E rfl rfl)) ?_
          clear E; clear a; intro a E
          rcases Bool.eq_false_or_eq_true (u32.2 == 0) with hb105 | hb105
          · rw [if_t hb105] at hm
            refine fr_val E rfl (ws' E rfl rfl rfl rfl hb105) rfl rfl (fun w hW => (x_move E rfl rfl)) ?_
            clear E; clear a; intro a E
            refine fr_val E rfl (ws' E rfl rfl rfl rfl hb105) rfl rfl (fun w hW => x_conv E rfl rfl (ir_b2s (DR.ir (dr_mem (.head _))) Try.underlying27 Try.underlying5 Try.underlying9 w hW)) ?_
            clear E; clear a; intro a E
            refine fr_val E rfl (ws' E rfl rfl rfl rfl hb105) rfl rfl (fun w hW => (x_move E rfl rfl)) ?_
            clear E; clear a; intro a E
            refine fr_val E rfl (ws' E rfl rfl rfl rfl hb105) rfl rfl (fun w hW => x_conv E rfl rfl (ir_b2s (DR.ir (dr_mem (.tail _ (.head _)))) Try.underlying27 Try.underlying5 Try.underlying9 w hW)) ?_
            clear E; clear a; intro a E
            refine fr_val E rfl (ws' E rfl rfl rfl rfl hb105) rfl rfl (fun w hW => (x_str E rfl rfl rfl rfl)) ?_
            clear E; clear a; intro a E
            refine fr_val E rfl (ws' E rfl rfl rfl rfl hb105) rfl rfl (fun w hW => x_ld E rfl rfl (ib_ldN (us := [.int .i64 x1.Kind, .int .i64 x1.View, .int .i64 x1.Normal, .int .i64 x1.Len, .int .i64 x1.Stays, (.slice q13 x1.Log.length x14), .int .i64 x1.Num, .string x1.Text]) (.head _) rfl Try.underlying24 rfl sz24 w hW)) ?_
            clear E; clear a; intro a E
            refine fr_val E rfl (ws' E rfl rfl rfl rfl hb105) rfl rfl (fun w hW => x_ld E rfl rfl (ib_ldN (us := [.int .i64 x3.Kind, .int .i64 x3.View, .int .i64 x3.Normal, .int .i64 x3.Len, .int .i64 x3.Stays, (.slice q16 x3.Log.length x17), .int .i64 x3.Num, .string x3.Text]) (.tail _ (.head _)) rfl Try.underlying24 rfl sz24 w hW)) ?_
            clear E; clear a; intro a E
            refine fr_op rfl ?_
            replace H : Sep w (Row 5 (kI .u8) v37 u35.1 :: Blk p12 24 [.int .i64 x1.Kind, .int .i64 x1.View, .int .i64 x1.Normal, .int .i64 x1.Len, .int .i64 x1.Stays, (.slice q13 x1.Log.length x14), .int .i64 x1.Num, .string x1.Text] :: Blk p15 24 [.int .i64 x3.Kind, .int .i64 x3.View, .int .i64 x3.Normal, .int .i64 x3.Len, .int .i64 x3.Stays, (.slice q16 x3.Log.length x17), .int .i64 x3.Num, .string x3.Text] :: Blk p18 26 [.int .i64 x5.View, .int .i64 x5.Normal, (.slice q19 x5.Log.length x20)] :: Fo) (rSl (kI .u8) v34 u32.1 :: rSl (kI .u8) v31 u29.1 :: rs24) := H
            obtain ⟨u106, hx107, hm⟩ := bnd hm
            refine st_call E (ws' E rfl rfl rfl rfl hb105) rfl rfl (x_call E rfl rfl (cf19 _)) (c_cantonref17_Same (⟨x1.Kind, x1.View, x1.Normal, x1.Len, x1.Stays, x1.Log, x1.Num, x1.Text⟩ : S_api_Letter) (.slice q13 x1.Log.length x14) (⟨x3.Kind, x3.View, x3.Normal, x3.Len, x3.Stays, x3.Log, x3.Num, x3.Text⟩ : S_api_Letter) (.slice q16 x3.Log.length x17) H (.tail _ (.tail _ hr26)) (.tail _ (.tail _ hr27)) hx107) ?_
            clear E H; clear a; clear w; rintro _ w ⟨rfl, H⟩ a E
            refine wpList_nil ?_
            refine q_then ?_
            replace H : Sep w (Row 5 (kI .u8) v37 u35.1 :: Blk p12 24 [.int .i64 x1.Kind, .int .i64 x1.View, .int .i64 x1.Normal, .int .i64 x1.Len, .int .i64 x1.Stays, (.slice q13 x1.Log.length x14), .int .i64 x1.Num, .string x1.Text] :: Blk p15 24 [.int .i64 x3.Kind, .int .i64 x3.View, .int .i64 x3.Normal, .int .i64 x3.Len, .int .i64 x3.Stays, (.slice q16 x3.Log.length x17), .int .i64 x3.Num, .string x3.Text] :: Blk p18 26 [.int .i64 x5.View, .int .i64 x5.Normal, (.slice q19 x5.Log.length x20)] :: Fo) (rSl (kI .u8) v34 u32.1 :: rSl (kI .u8) v31 u29.1 :: rs24) := H
            refine ⟨⟨_, _, H, (subO_cons (.tail _ (.head _)) (subO_cons (.tail _ (.tail _ (.head _))) (subO_nil))), (sub_cons (.tail _ (.head _)) (sub_cons (.head _) (sub_nil)))⟩, ?_⟩
            refine fr_val E rfl (ws' E rfl rfl rfl rfl hb105) rfl rfl (fun w hW => (x_bin2 E rfl rfl rfl (v := .bool ((sEq (strOf u29.1) (strOf u32.1)) != u106)) (by kernel_rfl))) ?_
            clear E; clear a; intro a E
            refine fr_val E rfl (wn rfl) rfl rfl (fun w hW => (x_pickT E rfl rfl hb105 rfl)) ?_
            clear E; clear a; intro a E
            refine fr_nil ?_
            clear hI
            refine q_then ?_
            replace H := H.drop 1
            replace H := H.drop 1
            replace H := H.drop 1
            exact ⟨(sEq (strOf u29.1) (strOf u32.1)) != u106, _, ((((((((E.nil.keep E 84 rfl).keep E 17 rfl).keep E 16 rfl).keep E 13 rfl).keep E 12 rfl).keep E 11 rfl).keep E 4 rfl).keep E 3 rfl), H, fun r hr => .tail _ (.tail _ (hs25 r hr)), (.tail _ (.head _)), hm⟩
          · rw [if_f hb105] at hm
            refine fr_no E rfl (wf' E rfl rfl rfl rfl hb105 rfl) rfl rfl ?_
            clear E; clear a; intro a E
            refine fr_no E rfl (wf' E rfl rfl rfl rfl hb105 rfl) rfl rfl ?_
            clear E; clear a; intro a E
            refine fr_no E rfl (wf' E rfl rfl rfl rfl hb105 rfl) rfl rfl ?_
            clear E; clear a; intro a E
            refine fr_no E rfl (wf' E rfl rfl rfl rfl hb105 rfl) rfl rfl ?_
            clear E; clear a; intro a E
            refine fr_no E rfl (wf' E rfl rfl rfl rfl hb105 rfl) rfl rfl ?_
            clear E; clear a; intro a E
            refine fr_no E rfl (wf' E rfl rfl rfl rfl hb105 rfl) rfl rfl ?_
            clear E; clear a; intro a E
            refine fr_no E rfl (wf' E rfl rfl rfl rfl hb105 rfl) rfl rfl ?_
            clear E; clear a; intro a E
            refine fr_op rfl ?_
            refine st_no E (wf' E rfl rfl rfl rfl hb105 rfl) rfl rfl ?_
            clear E; clear a; intro a E
            refine wpList_nil ?_
            refine q_then ?_
            replace H : Sep w (Row 5 (kI .u8) v37 u35.1 :: Blk p12 24 [.int .i64 x1.Kind, .int .i64 x1.View, .int .i64 x1.Normal, .int .i64 x1.Len, .int .i64 x1.Stays, (.slice q13 x1.Log.length x14), .int .i64 x1.Num, .string x1.Text] :: Blk p15 24 [.int .i64 x3.Kind, .int .i64 x3.View, .int .i64 x3.Normal, .int .i64 x3.Len, .int .i64 x3.Stays, (.slice q16 x3.Log.length x17), .int .i64 x3.Num, .string x3.Text] :: Blk p18 26 [.int .i64 x5.View, .int .i64 x5.Normal, (.slice q19 x5.Log.length x20)] :: Fo) (rSl (kI .u8) v34 u32.1 :: rSl (kI .u8) v31 u29.1 :: rs24) := H
            refine ⟨⟨_, _, H, (subO_cons (.tail _ (.head _)) (subO_cons (.tail _ (.tail _ (.head _))) (subO_nil))), (sub_cons (.tail _ (.head _)) (sub_cons (.head _) (sub_nil)))⟩, ?_⟩
            refine fr_no E rfl (wf' E rfl rfl rfl rfl hb105 rfl) rfl rfl ?_
            clear E; clear a; intro a E
            refine fr_val E rfl (wn rfl) rfl rfl (fun w hW => (x_pickF E rfl rfl hb105 rfl)) ?_
            clear E; clear a; intro a E
            refine fr_nil ?_
            clear hI
            refine q_then ?_
            replace H := H.drop 1
            replace H := H.drop 1
            replace H := H.drop 1
            exact ⟨false, _, ((((((((E.nil.keep E 84 rfl).keep E 17 rfl).keep E 16 rfl).keep E 13 rfl).keep E 12 rfl).keep E 11 rfl).keep E 4 rfl).keep E 3 rfl), H, fun r hr => .tail _ (.tail _ (hs25 r hr)), (.tail _ (.head _)), hm⟩
        · rw [if_f hb104] at hm
          refine fr_no E rfl (wf' E rfl rfl rfl rfl hb104 rfl) rfl rfl ?_
          clear E; clear a; intro a E
          refine fr_no E rfl (wf' E rfl rfl rfl rfl hb104 rfl) rfl rfl ?_
          clear E; clear a; intro a E
          refine fr_val E rfl (wn rfl) rfl rfl (fun w hW => (x_pickF E rfl rfl hb104 rfl)) ?_
          clear E; clear a; intro a E
          refine fr_val E rfl (wn rfl) rfl rfl (fun w hW => (x_move E rfl rfl)) ?_
          clear E; clear a; intro a E
          refine fr_no E rfl (wf E rfl rfl rfl rfl rfl) rfl rfl ?_
          clear E; clear a; intro a E
          refine fr_no E rfl (wf E rfl rfl rfl rfl rfl) rfl rfl ?_
          clear E; clear a; intro a E
          refine fr_no E rfl (wf E rfl rfl rfl rfl rfl) rfl rfl ?_
          clear E; clear a; intro a E
          refine fr_no E rfl (wf E rfl rfl rfl rfl rfl) rfl rfl ?_
          clear E; clear a; intro a E
          refine fr_no E rfl (wf E rfl rfl rfl rfl rfl) rfl rfl ?_
          clear E; clear a; intro a E
          refine fr_no E rfl (wf E rfl rfl rfl rfl rfl) rfl rfl ?_
          clear E; clear a; intro a E
          refine fr_no E rfl (wf E rfl rfl rfl rfl rfl) rfl rfl ?_
          clear E; clear a; intro a E
          refine fr_op rfl ?_
          refine st_no E (wf E rfl rfl rfl rfl rfl) rfl rfl ?_
          clear E; clear a; intro a E
          refine wpList_nil ?_
          refine q_then ?_
          replace H : Sep w (Row 5 (kI .u8) v37 u35.1 :: Blk p12 24 [.int .i64 x1.Kind, .int .i64 x1.View, .int .i64 x1.Normal, .int .i64 x1.Len, .int .i64 x1.Stays, (.slice q13 x1.Log.length x14), .int .i64 x1.Num, .string x1.Text] :: Blk p15 24 [.int .i64 x3.Kind, .int .i64 x3.View, .int .i64 x3.Normal, .int .i64 x3.Len, .int .i64 x3.Stays, (.slice q16 x3.Log.length x17), .int .i64 x3.Num, .string x3.Text] :: Blk p18 26 [.int .i64 x5.View, .int .i64 x5.Normal, (.slice q19 x5.Log.length x20)] :: Fo) (rSl (kI .u8) v34 u32.1 :: rSl (kI .u8) v31 u29.1 :: rs24) := H
          refine ⟨⟨_, _, H, (subO_cons (.tail _ (.head _)) (subO_cons (.tail _ (.tail _ (.head _))) (subO_nil))), (sub_cons (.tail _ (.head _)) (sub_cons (.head _) (sub_nil)))⟩, ?_⟩
          refine fr_no E rfl (wf E rfl rfl rfl rfl rfl) rfl rfl ?_
          clear E; clear a; intro a E
          refine fr_val E rfl (wn rfl) rfl rfl (fun w hW => (x_pickF E rfl rfl rfl rfl)) ?_
          clear E; clear a; intro a E
          refine fr_nil ?_
          clear hI
          refine q_then ?_
          replace H := H.drop 1
          replace H := H.drop 1
          replace H := H.drop 1
          exact ⟨false, _, ((((((((E.nil.keep E 84 rfl).keep E 17 rfl).keep E 16 rfl).keep E 13 rfl).keep E 12 rfl).keep E 11 rfl).keep E 4 rfl).keep E 3 rfl), H, fun r hr => .tail _ (.tail _ (hs25 r hr)), (.tail _ (.head _)), hm⟩
      · clear E H hm
        rintro a w ⟨b38, rs39, E, H, hs40, hr41, hm⟩
        unfold m_cantonlaw17_LetterCut_j2 at hm
        refine wp_if E rfl ?_ ?_
        · intro hb
          rw [if_t hb] at hm
          clear hb
          refine wp_seq ?_
          refine wp_region_lit ?_
          refine st_val E (wn rfl) rfl rfl (x_assign E rfl rfl) ?_
          clear E; clear a; intro a E
          refine wpList_nil ?_
          refine q_then ?_
          refine wp_ret ?_
          refine q_thenR ?_
          refine out1 E rfl rfl ?_
          replace H := H.drop 0
          obtain rfl := Option.some.inj hm
          exact ⟨rfl, H.reads (fun r hr => hs40 r hr)⟩
        · intro hb
          rw [if_f hb] at hm
          clear hb
          refine wp_skip ?_
          refine q_then ?_
          refine wp_seq_cut (fun a w => ∃ (rs42 : List Rp), Env 150 a [(3, .int .u16 x7), (4, .int .u8 x8), (11, .bool u21), (16, v37), (17, .int .i64 u35.2)] ∧ Sep w (Row 5 (kI .u8) v37 u35.1 :: Fo) rs42 ∧ (∀ r, r ∈ rs → r ∈ rs42) ∧ m_cantonlaw17_LetterCut_j3 u21 u35 x7 x8 = some r) ?_ ?_
          · refine wp_seq ?_
            refine wp_region_lit ?_
            refine st_val E (wn rfl) rfl rfl (x_move E rfl rfl) ?_
            clear E; clear a; intro a E
            refine st_val E (wn rfl) rfl rfl (x_bin E rfl rfl rfl rfl) ?_
            clear E; clear a; intro a E
            refine wpList_nil ?_
            refine q_then ?_
            refine wp_if E rfl ?_ ?_
            · intro hb
              rw [if_t hb] at hm
              clear hb
              refine wp_seq ?_
              refine wp_seq ?_
              refine wp_region_lit ?_
              refine st_val E (wn rfl) rfl rfl (x_move E rfl rfl) ?_
              clear E; clear a; intro a E
              refine st_val E (wn rfl) rfl rfl (x_lenS E H rfl rfl hr41 Try.underlying27) ?_
              clear E; clear a; intro a E
              refine st_val E (wn rfl) rfl rfl (x_bin E rfl rfl rfl rfl) ?_
              clear E; clear a; intro a E
              refine wpList_nil ?_
              refine q_then ?_
              refine wp_if E rfl ?_ ?_
              · intro hb
                rw [if_t hb] at hm
                clear hb
                refine wp_seq ?_
                refine wp_region_lit ?_
                refine st_val E (wn rfl) rfl rfl (x_assign E rfl rfl) ?_
                clear E; clear a; intro a E
                refine wpList_nil ?_
                refine q_then ?_
                refine wp_ret ?_
                refine q_thenR ?_
                refine q_thenR ?_
                refine out1 E rfl rfl ?_
                replace H := H.drop 0
                obtain rfl := Option.some.inj hm
                exact ⟨rfl, H.reads (fun r hr => hs40 r hr)⟩
              · intro hb
                rw [if_f hb] at hm
                clear hb
                refine wp_skip ?_
                refine q_then ?_
                refine wp_seq ?_
                refine wp_region_lit ?_
                refine st_val E (wn rfl) rfl rfl (x_move E rfl rfl) ?_
                clear E; clear a; intro a E
                refine st_val E (wn rfl) rfl rfl (x_move E rfl rfl) ?_
                clear E; clear a; intro a E
                refine st_val E (wn rfl) rfl rfl (x_conv E rfl rfl (v := .int .i64 (IntKind.i64.wrap x7)) (by kernel_rfl)) ?_
                clear E; clear a; intro a E
                refine st_val E (wn rfl) rfl rfl (x_move E rfl rfl) ?_
                clear E; clear a; intro a E
                refine st_val E (wn rfl) rfl rfl (x_lenS E H rfl rfl hr41 Try.underlying27) ?_
                clear E; clear a; intro a E
                obtain ⟨u76, hx75, hm⟩ := bnd hm
                refine st_val E (wn rfl) rfl rfl (x_rem E rfl rfl rfl (ck_of hx75)) ?_
                clear E; clear a; intro a E
                obtain ⟨u77, hx78, hm⟩ := bnd hm
                refine st_take E H (wn rfl) rfl rfl rfl rfl rfl hr41 Try.underlying27 sz5 (ck_of hx78) ?_
                clear E H; clear a; intro v79 a H E
                replace H : Sep w (Row 5 (kI .u8) v37 u35.1 :: Fo) (rSl (kI .u8) v79 (u29.1.take ((IntKind.i64.wrap x7).tmod (u29.1.length : Int)).toNat) :: rs39) := H
                obtain ⟨u80, hx81, hm⟩ := bnd hm
                refine st_call E (wn rfl) rfl rfl (x_call E rfl rfl (cf15 _)) (c_letter_Get v79 (u29.1.take ((IntKind.i64.wrap x7).tmod (u29.1.length : Int)).toNat) H (.head _) hx81) ?_
                clear E H; clear a; clear w; rintro _ w ⟨v82, rfl, H⟩ a E
                refine st_val E (wn rfl) rfl rfl (x_move E rfl rfl) ?_
                clear E; clear a; intro a E
                refine st_val E (wn rfl) rfl rfl (x_ext E rfl rfl rfl) ?_
                clear E; clear a; intro a E
                refine st_val E (wn rfl) rfl rfl (x_ext E rfl rfl rfl) ?_
                clear E; clear a; intro a E
                refine st_alloc E H (wn rfl) rfl rfl (cs := [.int .i64 0, .int .i64 0, .int .i64 0, .int .i64 0, .int .i64 0, .slice none 0 0, .int .i64 0, .string (ByteArray.mk #[])]) rfl (z := .agg #[.int .i64 0, .int .i64 0, .int .i64 0, .int .i64 0, .int .i64 0, .slice none 0 0, .int .i64 0, .string ⟨#[]⟩]) (by kernel_rfl) rfl ?_
                clear E H; clear a; clear w; intro p83 w a H E
                obtain ⟨q84, x85, rfl⟩ := H.slform (.head _)
                refine st_st (i := 0) E H (wn rfl) rfl (us := [.int .i64 u80.1.Kind, .int .i64 u80.1.View, .int .i64 u80.1.Normal, .int .i64 u80.1.Len, .int .i64 u80.1.Stays, (.slice q84 u80.1.Log.length x85), .int .i64 u80.1.Num, .string u80.1.Text]) rfl rfl rfl rfl rfl sz24 rfl rfl ?_
                clear H; clear w; intro w H
                replace H : Sep w (Blk p83 24 [.int .i64 u80.1.Kind, .int .i64 u80.1.View, .int .i64 u80.1.Normal, .int .i64 u80.1.Len, .int .i64 u80.1.Stays, (.slice q84 u80.1.Log.length x85), .int .i64 u80.1.Num, .string u80.1.Text] :: Row 5 (kI .u8) v37 u35.1 :: Fo) _ := H
                refine st_val E (wn rfl) rfl rfl (x_assign E rfl rfl) ?_
                clear E; clear a; intro a E
                refine wpList_nil ?_
                refine q_then ?_
                refine wp_seq ?_
                refine wp_region_lit ?_
                refine st_bsO (e := 5) (d := (kI .u8)) (cs := []) (xs := []) E H (wn rfl) rfl rfl (ps := []) (parts := []) rfl rfl (by kernel_rfl) rfl rfl (fun ok hr => Rows.nil _ _ _) ?_
                clear E H; clear a; clear w; intro v86 w a H E
                refine st_val E (wn rfl) rfl rfl (x_move E rfl rfl) ?_
                clear E; clear a; intro a E
                obtain ⟨u88, hx89, hm⟩ := bnd hm
                refine st_append (i := 0) E H (wn rfl) rfl rfl rfl rfl rfl rfl (src_rd (.tail _ (.tail _ hr41))) Try.underlying27 inf5 rfl (ck_of hx89) rfl ?_
                clear E H; clear a; clear w; intro v87 w a H E
                refine st_val E (wn rfl) rfl rfl (x_move E rfl rfl) ?_
                clear E; clear a; intro a E
                refine st_bsR (e := 5) (d := (kI .u8)) (cs := [.int .u8 x8]) (xs := [x8]) E H (wn rfl) rfl rfl (ps := [(0, .tmp 105)]) (parts := [(0, .int .u8 x8)]) rfl (by simp only [List.map]; rw [E.eval (x := .tmp 105) (v := .int .u8 x8) rfl]) (by kernel_rfl) rfl (fun ok hr => (Rows.single (d := (kI .u8)) (cs := [.int .u8 x8]) (x := x8) rfl)) ?_
                clear E H; clear a; clear w; intro v90 w a H E
                obtain ⟨u92, hx93, hm⟩ := bnd hm
                refine st_append (i := 0) E H (wn rfl) rfl rfl rfl rfl rfl rfl (src_rd (.head _)) Try.underlying27 inf5 rfl (ck_of hx93) rfl ?_
                clear E H; clear a; clear w; intro v91 w a H E
                replace H := H.thaw (i := 0) rfl
                replace H : Sep w (Blk p83 24 [.int .i64 u80.1.Kind, .int .i64 u80.1.View, .int .i64 u80.1.Normal, .int .i64 u80.1.Len, .int .i64 u80.1.Stays, (.slice q84 u80.1.Log.length x85), .int .i64 u80.1.Num, .string u80.1.Text] :: Row 5 (kI .u8) v37 u35.1 :: Fo) (rSl (kI .u8) v91 ((([] : List Int) ++ u29.1) ++ ([x8] : List Int)) :: rSl (kI .u8) v90 ([x8] : List Int) :: rSl kS (.slice q84 u80.1.Log.length x85) u80.1.Log :: rSl (kI .u8) v79 (u29.1.take ((IntKind.i64.wrap x7).tmod (u29.1.length : Int)).toNat) :: rs39) := H
                obtain ⟨u94, hx95, hm⟩ := bnd hm
                refine st_call E (wn rfl) rfl rfl (x_call E rfl rfl (cf15 _)) (c_letter_Get v91 ((([] : List Int) ++ u29.1) ++ ([x8] : List Int)) H (.head _) hx95) ?_
                clear E H; clear a; clear w; rintro _ w ⟨v96, rfl, H⟩ a E
                refine st_val E (wn rfl) rfl rfl (x_move E rfl rfl) ?_
                clear E; clear a; intro a E
                refine st_val E (wn rfl) rfl rfl (x_ext E rfl rfl rfl) ?_
                clear E; clear a; intro a E
                refine st_val E (wn rfl) rfl rfl (x_ext E rfl rfl rfl) ?_
                clear E; clear a; intro a E
                refine st_alloc E H (wn rfl) rfl rfl (cs := [.int .i64 0, .int .i64 0, .int .i64 0, .int .i64 0, .int .i64 0, .slice none 0 0, .int .i64 0, .string (ByteArray.mk #[])]) rfl (z := .agg #[.int .i64 0, .int .i64 0, .int .i64 0, .int .i64 0, .int .i64 0, .slice none 0 0, .int .i64 0, .string ⟨#[]⟩]) (by kernel_rfl) rfl ?_
                clear E H; clear a; clear w; intro p97 w a H E
                obtain ⟨q98, x99, rfl⟩ := H.slform (.head _)
                refine st_st (i := 0) E H (wn rfl) rfl (us := [.int .i64 u94.1.Kind, .int .i64 u94.1.View, .int .i64 u94.1.Normal, .int .i64 u94.1.Len, .int .i64 u94.1.Stays, (.slice q98 u94.1.Log.length x99), .int .i64 u94.1.Num, .string u94.1.Text]) rfl rfl rfl rfl rfl sz24 rfl rfl ?_
                clear H; clear w; intro w H
                replace H : Sep w (Blk p97 24 [.int .i64 u94.1.Kind, .int .i64 u94.1.View, .int .i64 u94.1.Normal, .int .i64 u94.1.Len, .int .i64 u94.1.Stays, (.slice q98 u94.1.Log.length x99), .int .i64 u94.1.Num, .string u94.1.Text] :: Blk p83 24 [.int .i64 u80.1.Kind, .int .i64 u80.1.View, .int .i64 u80.1.Normal, .int .i64 u80.1.Len, .int .i64 u80.1.Stays, (.slice q84 u80.1.Log.length x85), .int .i64 u80.1.Num, .string u80.1.Text] :: Row 5 (kI .u8) v37 u35.1 :: Fo) _ := H
                refine st_val E (wn rfl) rfl rfl (x_assign E rfl rfl) ?_
                clear E; clear a; intro a E
                refine wpList_nil ?_
                refine q_then ?_
                refine wp_seq_cut (fun a w => ∃ (b100 : Bool) (rs101 : List Rp), Env 150 a [(3, .int .u16 x7), (4, .int .u8 x8), (11, .bool u21), (16, v37), (17, .int .i64 u35.2), (116, .bool b100)] ∧ Sep w (Row 5 (kI .u8) v37 u35.1 :: Fo) rs101 ∧ (∀ r, r ∈ rs → r ∈ rs101) ∧ m_cantonlaw17_LetterCut_j6 u21 u35 x7 x8 b100 = some r) ?_ ?_
                · refine wp_region_lit ?_
                  refine st_val E (wn rfl) rfl rfl (x_move E rfl rfl) ?_
                  clear E; clear a; intro a E
                  refine st_val E (wn rfl) rfl rfl (x_bin E rfl rfl rfl rfl) ?_
                  clear E; clear a; intro a E
                  refine st_val E (wn rfl) rfl rfl (x_move E rfl rfl) ?_
                  clear E; clear a; intro a E
                  rcases Bool.eq_false_or_eq_true (u80.2 != 3) with hb103 | hb103
                  · rw [if_t hb103] at hm
                    refine st_no E (wf' E rfl rfl rfl rfl hb103 rfl) rfl rfl ?_
                    clear E; clear a; intro a E
                    refine st_no E (wf' E rfl rfl rfl rfl hb103 rfl) rfl rfl ?_
                    clear E; clear a; intro a E
                    refine st_val E (wn rfl) rfl rfl (x_pickT E rfl rfl hb103 rfl) ?_
                    clear E; clear a; intro a E
                    refine wpList_nil ?_
                    refine q_then ?_
                    replace H := H.drop 0
                    replace H := H.drop 0
                    exact ⟨true, _, ((((((E.nil.keep E 116 rfl).keep E 17 rfl).keep E 16 rfl).keep E 11 rfl).keep E 4 rfl).keep E 3 rfl), H, fun r hr => .tail _ (.tail _ (.tail _ (.tail _ (.tail _ (hs40 r hr))))), hm⟩
                  · rw [if_f hb103] at hm
                    refine st_val E (ws' E rfl rfl rfl rfl hb103) rfl rfl (x_move E rfl rfl) ?_
                    clear E; clear a; intro a E
                    refine st_val E (ws' E rfl rfl rfl rfl hb103) rfl rfl (x_bin E rfl rfl rfl rfl) ?_
                    clear E; clear a; intro a E
                    refine st_val E (wn rfl) rfl rfl (x_pickF E rfl rfl hb103 rfl) ?_
                    clear E; clear a; intro a E
                    refine wpList_nil ?_
                    refine q_then ?_
                    replace H := H.drop 0
                    replace H := H.drop 0
                    exact ⟨u94.2 != 3, _, ((((((E.nil.keep E 116 rfl).keep E 17 rfl).keep E 16 rfl).keep E 11 rfl).keep E 4 rfl).keep E 3 rfl), H, fun r hr => .tail _ (.tail _ (.tail _ (.tail _ (.tail _ (hs40 r hr))))), hm⟩
                · clear E H hm
                  rintro a w ⟨b100, rs101, E, H, hs102, hm⟩
                  unfold m_cantonlaw17_LetterCut_j6 at hm
                  refine wp_if E rfl ?_ ?_
                  · intro hb
                    rw [if_t hb] at hm
                    clear hb
                    refine wp_seq ?_
                    refine wp_region_lit ?_
                    refine st_val E (wn rfl) rfl rfl (x_assign E rfl rfl) ?_
                    clear E; clear a; intro a E
                    refine wpList_nil ?_
                    refine q_then ?_
                    refine wp_ret ?_
                    refine q_thenR ?_
                    refine out1 E rfl rfl ?_
                    replace H := H.drop 0
                    obtain rfl := Option.some.inj hm
                    exact ⟨rfl, H.reads (fun r hr => hs102 r hr)⟩
                  · intro hb
                    rw [if_f hb] at hm
                    clear hb
                    refine wp_skip ?_
                    refine q_then ?_
                    exact ⟨_, (((((E.nil.keep E 17 rfl).keep E 16 rfl).keep E 11 rfl).keep E 4 rfl).keep E 3 rfl), H, hs102, hm⟩
            · intro hb
              rw [if_f hb] at hm
              clear hb
              refine wp_skip ?_
              refine q_then ?_
              exact ⟨_, (((((E.nil.keep E 17 rfl).keep E 16 rfl).keep E 11 rfl).keep E 4 rfl).keep E 3 rfl), H, hs40, hm⟩
          · clear E H hm
            rintro a w ⟨rs42, E, H, hs43, hm⟩
            unfold m_cantonlaw17_LetterCut_j3 at hm
            refine wp_seq_cut (fun a w => ∃ (rs44 : List Rp), Env 150 a [(11, .bool u21)] ∧ Sep w (Fo) rs44 ∧ (∀ r, r ∈ rs → r ∈ rs44) ∧ m_cantonlaw17_LetterCut_j4 u21 = some r) ?_ ?_
            · refine wp_seq ?_
              refine wp_region_lit ?_
              refine st_val E (wn rfl) rfl rfl (x_move E rfl rfl) ?_
              clear E; clear a; intro a E
              refine st_val E (wn rfl) rfl rfl (x_bin E rfl rfl rfl rfl) ?_
              clear E; clear a; intro a E
              refine wpList_nil ?_
              refine q_then ?_
              refine wp_if E rfl ?_ ?_
              · intro hb
                rw [if_t hb] at hm
                clear hb
                refine wp_seq ?_
                refine wp_seq ?_
                refine wp_region_lit ?_
                refine st_val E (wn rfl) rfl rfl (x_move E rfl rfl) ?_
                clear E; clear a; intro a E
                refine st_val E (wn rfl) rfl rfl (x_lenR (i := 0) E H rfl rfl rfl Try.underlying27) ?_
                clear E; clear a; intro a E
                refine st_val E (wn rfl) rfl rfl (x_bin E rfl rfl rfl rfl) ?_
                clear E; clear a; intro a E
                refine wpList_nil ?_
                refine q_then ?_
                refine wp_if E rfl ?_ ?_
                · intro hb
                  rw [if_t hb] at hm
                  clear hb
                  refine wp_seq ?_
                  refine wp_region_lit ?_
                  refine st_val E (wn rfl) rfl rfl (x_assign E rfl rfl) ?_
                  clear E; clear a; intro a E
                  refine wpList_nil ?_
                  refine q_then ?_
                  refine wp_ret ?_
                  refine q_thenR ?_
                  refine q_thenR ?_
                  refine out1 E rfl rfl ?_
                  replace H := H.drop 0
                  obtain rfl := Option.some.inj hm
                  exact ⟨rfl, H.reads (fun r hr => hs43 r hr)⟩
                · intro hb
                  rw [if_f hb] at hm
                  clear hb
                  refine wp_skip ?_
                  refine q_then ?_
                  refine wp_seq ?_
                  refine wp_region_lit ?_
                  refine st_val E (wn rfl) rfl rfl (x_move E rfl rfl) ?_
                  clear E; clear a; intro a E
                  refine st_val E (wn rfl) rfl rfl (x_move E rfl rfl) ?_
                  clear E; clear a; intro a E
                  refine st_val E (wn rfl) rfl rfl (x_conv E rfl rfl (v := .int .i64 (IntKind.i64.wrap x7)) (by kernel_rfl)) ?_
                  clear E; clear a; intro a E
                  refine st_val E (wn rfl) rfl rfl (x_move E rfl rfl) ?_
                  clear E; clear a; intro a E
                  refine st_val E (wn rfl) rfl rfl (x_lenR (i := 0) E H rfl rfl rfl Try.underlying27) ?_
                  clear E; clear a; intro a E
                  obtain ⟨u47, hx46, hm⟩ := bnd hm
                  refine st_val E (wn rfl) rfl rfl (x_rem E rfl rfl rfl (ck_of hx46)) ?_
                  clear E; clear a; intro a E
                  replace H := H.thaw (i := 0) rfl
                  obtain ⟨u48, hx49, hm⟩ := bnd hm
                  refine st_take E H (wn rfl) rfl rfl rfl rfl rfl (.head _) Try.underlying27 sz5 (ck_of hx49) ?_
                  clear E H; clear a; intro v50 a H E
                  replace H : Sep w (Fo) (rSl (kI .u8) v50 (u35.1.take ((IntKind.i64.wrap x7).tmod (u35.1.length : Int)).toNat) :: rSl (kI .u8) v37 u35.1 :: rs42) := H
                  obtain ⟨u51, hx52, hm⟩ := bnd hm
                  refine st_call E (wn rfl) rfl rfl (x_call E rfl rfl (cf17 _)) (c_letter_GetSaved v50 (u35.1.take ((IntKind.i64.wrap x7).tmod (u35.1.length : Int)).toNat) H (.head _) hx52) ?_
                  clear E H; clear a; clear w; rintro _ w ⟨v53, rfl, H⟩ a E
                  refine st_val E (wn rfl) rfl rfl (x_move E rfl rfl) ?_
                  clear E; clear a; intro a E
                  refine st_val E (wn rfl) rfl rfl (x_ext E rfl rfl rfl) ?_
                  clear E; clear a; intro a E
                  refine st_val E (wn rfl) rfl rfl (x_ext E rfl rfl rfl) ?_
                  clear E; clear a; intro a E
                  refine st_alloc E H (wn rfl) rfl rfl (cs := [.int .i64 0, .int .i64 0, .slice none 0 0]) rfl (z := .agg #[.int .i64 0, .int .i64 0, .slice none 0 0]) (by kernel_rfl) rfl ?_
                  clear E H; clear a; clear w; intro p54 w a H E
                  obtain ⟨q55, x56, rfl⟩ := H.slform (.head _)
                  refine st_st (i := 0) E H (wn rfl) rfl (us := [.int .i64 u51.1.View, .int .i64 u51.1.Normal, (.slice q55 u51.1.Log.length x56)]) rfl rfl rfl rfl rfl sz26 rfl rfl ?_
                  clear H; clear w; intro w H
                  replace H : Sep w (Blk p54 26 [.int .i64 u51.1.View, .int .i64 u51.1.Normal, (.slice q55 u51.1.Log.length x56)] :: Fo) _ := H
                  refine st_val E (wn rfl) rfl rfl (x_assign E rfl rfl) ?_
                  clear E; clear a; intro a E
                  refine wpList_nil ?_
                  refine q_then ?_
                  refine wp_seq ?_
                  refine wp_region_lit ?_
                  refine st_bsO (e := 5) (d := (kI .u8)) (cs := []) (xs := []) E H (wn rfl) rfl rfl (ps := []) (parts := []) rfl rfl (by kernel_rfl) rfl rfl (fun ok hr => Rows.nil _ _ _) ?_
                  clear E H; clear a; clear w; intro v57 w a H E
                  refine st_val E (wn rfl) rfl rfl (x_move E rfl rfl) ?_
                  clear E; clear a; intro a E
                  obtain ⟨u59, hx60, hm⟩ := bnd hm
                  refine st_append (i := 0) E H (wn rfl) rfl rfl rfl rfl rfl rfl (src_rd (.tail _ (.tail _ (.head _)))) Try.underlying27 inf5 rfl (ck_of hx60) rfl ?_
                  clear E H; clear a; clear w; intro v58 w a H E
                  refine st_val E (wn rfl) rfl rfl (x_move E rfl rfl) ?_
                  clear E; clear a; intro a E
                  refine st_bsR (e := 5) (d := (kI .u8)) (cs := [.int .u8 x8]) (xs := [x8]) E H (wn rfl) rfl rfl (ps := [(0, .tmp 137)]) (parts := [(0, .int .u8 x8)]) rfl (by simp only [List.map]; rw [E.eval (x := .tmp 137) (v := .int .u8 x8) rfl]) (by kernel_rfl) rfl (fun ok hr => (Rows.single (d := (kI .u8)) (cs := [.int .u8 x8]) (x := x8) rfl)) ?_
                  clear E H; clear a; clear w; intro v61 w a H E
                  obtain ⟨u63, hx64, hm⟩ := bnd hm
                  refine st_append (i := 0) E H (wn rfl) rfl rfl rfl rfl rfl rfl (src_rd (.head _)) Try.underlying27 inf5 rfl (ck_of hx64) rfl ?_
                  clear E H; clear a; clear w; intro v62 w a H E
                  replace H := H.thaw (i := 0) rfl
                  replace H : Sep w (Blk p54 26 [.int .i64 u51.1.View, .int .i64 u51.1.Normal, (.slice q55 u51.1.Log.length x56)] :: Fo) (rSl (kI .u8) v62 ((([] : List Int) ++ u35.1) ++ ([x8] : List Int)) :: rSl (kI .u8) v61 ([x8] : List Int) :: rSl kS (.slice q55 u51.1.Log.length x56) u51.1.Log :: rSl (kI .u8) v50 (u35.1.take ((IntKind.i64.wrap x7).tmod (u35.1.length : Int)).toNat) :: rSl (kI .u8) v37 u35.1 :: rs42) := H
                  obtain ⟨u65, hx66, hm⟩ := bnd hm
                  refine st_call E (wn rfl) rfl rfl (x_call E rfl rfl (cf17 _)) (c_letter_GetSaved v62 ((([] : List Int) ++ u35.1) ++ ([x8] : List Int)) H (.head _) hx66) ?_
                  clear E H; clear a; clear w; rintro _ w ⟨v67, rfl, H⟩ a E
                  refine st_val E (wn rfl) rfl rfl (x_move E rfl rfl) ?_
                  clear E; clear a; intro a E
                  refine st_val E (wn rfl) rfl rfl (x_ext E rfl rfl rfl) ?_
                  clear E; clear a; intro a E
                  refine st_val E (wn rfl) rfl rfl (x_ext E rfl rfl rfl) ?_
                  clear E; clear a; intro a E
                  refine st_alloc E H (wn rfl) rfl rfl (cs := [.int .i64 0, .int .i64 0, .slice none 0 0]) rfl (z := .agg #[.int .i64 0, .int .i64 0, .slice none 0 0]) (by kernel_rfl) rfl ?_
                  clear E H; clear a; clear w; intro p68 w a H E
                  obtain ⟨q69, x70, rfl⟩ := H.slform (.head _)
                  refine st_st (i := 0) E H (wn rfl) rfl (us := [.int .i64 u65.1.View, .int .i64 u65.1.Normal, (.slice q69 u65.1.Log.length x70)]) rfl rfl rfl rfl rfl sz26 rfl rfl ?_
                  clear H; clear w; intro w H
                  replace H : Sep w (Blk p68 26 [.int .i64 u65.1.View, .int .i64 u65.1.Normal, (.slice q69 u65.1.Log.length x70)] :: Blk p54 26 [.int .i64 u51.1.View, .int .i64 u51.1.Normal, (.slice q55 u51.1.Log.length x56)] :: Fo) _ := H
                  refine st_val E (wn rfl) rfl rfl (x_assign E rfl rfl) ?_
                  clear E; clear a; intro a E
                  refine wpList_nil ?_
                  refine q_then ?_
                  refine wp_seq_cut (fun a w => ∃ (b71 : Bool) (rs72 : List Rp), Env 150 a [(11, .bool u21), (148, .bool b71)] ∧ Sep w (Fo) rs72 ∧ (∀ r, r ∈ rs → r ∈ rs72) ∧ m_cantonlaw17_LetterCut_j5 u21 b71 = some r) ?_ ?_
                  · refine wp_region_lit ?_
                    refine st_val E (wn rfl) rfl rfl (x_move E rfl rfl) ?_
                    clear E; clear a; intro a E
                    refine st_val E (wn rfl) rfl rfl (x_bin E rfl rfl rfl rfl) ?_
                    clear E; clear a; intro a E
                    refine st_val E (wn rfl) rfl rfl (x_move E rfl rfl) ?_
                    clear E; clear a; intro a E
                    rcases Bool.eq_false_or_eq_true (u51.2 != 3) with hb74 | hb74
                    · rw [if_t hb74] at hm
                      refine st_no E (wf' E rfl rfl rfl rfl hb74 rfl) rfl rfl ?_
                      clear E; clear a; intro a E
                      refine st_no E (wf' E rfl rfl rfl rfl hb74 rfl) rfl rfl ?_
                      clear E; clear a; intro a E
                      refine st_val E (wn rfl) rfl rfl (x_pickT E rfl rfl hb74 rfl) ?_
                      clear E; clear a; intro a E
                      refine wpList_nil ?_
                      refine q_then ?_
                      replace H := H.drop 0
                      replace H := H.drop 0
                      exact ⟨true, _, ((E.nil.keep E 148 rfl).keep E 11 rfl), H, fun r hr => .tail _ (.tail _ (.tail _ (.tail _ (.tail _ (.tail _ (hs43 r hr)))))), hm⟩
                    · rw [if_f hb74] at hm
                      refine st_val E (ws' E rfl rfl rfl rfl hb74) rfl rfl (x_move E rfl rfl) ?_
                      clear E; clear a; intro a E
                      refine st_val E (ws' E rfl rfl rfl rfl hb74) rfl rfl (x_bin E rfl rfl rfl rfl) ?_
                      clear E; clear a; intro a E
                      refine st_val E (wn rfl) rfl rfl (x_pickF E rfl rfl hb74 rfl) ?_
                      clear E; clear a; intro a E
                      refine wpList_nil ?_
                      refine q_then ?_
                      replace H := H.drop 0
                      replace H := H.drop 0
                      exact ⟨u65.2 != 3, _, ((E.nil.keep E 148 rfl).keep E 11 rfl), H, fun r hr => .tail _ (.tail _ (.tail _ (.tail _ (.tail _ (.tail _ (hs43 r hr)))))), hm⟩
                  · clear E H hm
                    rintro a w ⟨b71, rs72, E, H, hs73, hm⟩
                    unfold m_cantonlaw17_LetterCut_j5 at hm
                    refine wp_if E rfl ?_ ?_
                    · intro hb
                      rw [if_t hb] at hm
                      clear hb
                      refine wp_seq ?_
                      refine wp_region_lit ?_
                      refine st_val E (wn rfl) rfl rfl (x_assign E rfl rfl) ?_
                      clear E; clear a; intro a E
                      refine wpList_nil ?_
                      refine q_then ?_
                      refine wp_ret ?_
                      refine q_thenR ?_
                      refine out1 E rfl rfl ?_
                      obtain rfl := Option.some.inj hm
                      exact ⟨rfl, H.reads (fun r hr => hs73 r hr)⟩
                    · intro hb
                      rw [if_f hb] at hm
                      clear hb
                      refine wp_skip ?_
                      refine q_then ?_
                      exact ⟨_, (E.nil.keep E 11 rfl), H, hs73, hm⟩
              · intro hb
                rw [if_f hb] at hm
                clear hb
                refine wp_skip ?_
                refine q_then ?_
                replace H := H.drop 0
                exact ⟨_, (E.nil.keep E 11 rfl), H, hs43, hm⟩
            · clear E H hm
              rintro a w ⟨rs44, E, H, hs45, hm⟩
              unfold m_cantonlaw17_LetterCut_j4 at hm
              refine wp_seq ?_
              refine wp_region_lit ?_
              refine st_val E (wn rfl) rfl rfl (x_move E rfl rfl) ?_
              clear E; clear a; intro a E
              refine st_val E (wn rfl) rfl rfl (x_assign E rfl rfl) ?_
              clear E; clear a; intro a E
              refine wpList_nil ?_
              refine q_then ?_
              refine wp_ret ?_
              refine out1 E rfl rfl ?_
              obtain rfl := Option.some.inj hm
              exact ⟨rfl, H.reads (fun r hr => hs45 r hr)⟩
end Go.Cb
