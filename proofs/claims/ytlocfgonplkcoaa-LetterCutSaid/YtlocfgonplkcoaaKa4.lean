/- Functions of the program, walked: each comes to its plain function. -/
import Derived.Test.YtlocfgonplkcoaaKa3
set_option linter.unusedVariables false
set_option linter.unusedSimpArgs false
namespace Go.Cb
open Go.Proofs Go.RowKit
def m_cantonref17_Same (x1 : S_api_Letter) (x3 : S_api_Letter) : Option Bool :=
  if (x1.Kind == x3.Kind) = true then (if (x1.View == x3.View) = true then (if (x1.Normal == x3.Normal) = true then (if (x1.Len == x3.Len) = true then (if (x1.Stays == x3.Stays) = true then ((m_cantonref01_Same x1.Log x3.Log).bind fun u18 => if u18 = true then (if (x1.Num == x3.Num) = true then (some (sEq x1.Text x3.Text)) else (some (false))) else (some (false))) else (some (false))) else (some (false))) else (some (false))) else (some (false))) else (some (false))
set_option maxRecDepth 20000 in
set_option maxHeartbeats 1000000 in
theorem c_cantonref17_Same {w : World} {Fo : List Ob} {rs : List Rp} (x1 : S_api_Letter) (v2 : Value) (x3 : S_api_Letter) (v4 : Value) (H : Sep w (Fo) rs) (hr5 : rSl kS v2 x1.Log ∈ rs) (hr6 : rSl kS v4 x3.Log ∈ rs) {r : Bool} (hm : m_cantonref17_Same x1 x3 = some r) :
    Calls Try.prog 19 [.agg #[.int .i64 x1.Kind, .int .i64 x1.View, .int .i64 x1.Normal, .int .i64 x1.Len, .int .i64 x1.Stays, v2, .int .i64 x1.Num, .string x1.Text], .agg #[.int .i64 x3.Kind, .int .i64 x3.View, .int .i64 x3.Normal, .int .i64 x3.Len, .int .i64 x3.Stays, v4, .int .i64 x3.Num, .string x3.Text]].toArray w (Ret fun v w' => .bool r = v ∧ Sep w' (Fo) (rs)) := by
  unfold m_cantonref17_Same at hm
  refine enter Try.func19 rfl Try.ntmps19 rfl fun a E => ?_
  simp only [enum, Nat.reduceAdd] at E
  refine wp_seq ?_
  refine wp_region_lit ?_
  obtain ⟨q8, x9, rfl⟩ := H.slform hr5
  refine st_box E H (wn rfl) rfl rfl (cs := [.int .i64 x1.Kind, .int .i64 x1.View, .int .i64 x1.Normal, .int .i64 x1.Len, .int .i64 x1.Stays, (.slice q8 x1.Log.length x9), .int .i64 x1.Num, .string x1.Text]) rfl rfl rfl ?_
  clear E H; clear a; clear w; intro p7 w a H E
  obtain ⟨q11, x12, rfl⟩ := H.slform hr6
  refine st_box E H (wn rfl) rfl rfl (cs := [.int .i64 x3.Kind, .int .i64 x3.View, .int .i64 x3.Normal, .int .i64 x3.Len, .int .i64 x3.Stays, (.slice q11 x3.Log.length x12), .int .i64 x3.Num, .string x3.Text]) rfl rfl rfl ?_
  clear E H; clear a; clear w; intro p10 w a H E
  refine st_val E (wn rfl) rfl rfl (x_assign E rfl rfl) ?_
  clear E; clear a; intro a E
  refine wpList_nil ?_
  refine q_then ?_
  refine wp_seq ?_
  refine wp_region_lit ?_
  refine st_val E (wn rfl) rfl rfl (x_fa E rfl rfl (v := .pointer (some ⟨p7, 0, none⟩)) (fa24_0 _ _)) ?_
  clear E; clear a; intro a E
  refine st_val E (wn rfl) rfl rfl (x_ldB (i := 1) E H rfl rfl rfl rfl Try.underlying3 rfl) ?_
  clear E; clear a; intro a E
  refine st_val E (wn rfl) rfl rfl (x_fa E rfl rfl (v := .pointer (some ⟨p10, 0, none⟩)) (fa24_0 _ _)) ?_
  clear E; clear a; intro a E
  refine st_val E (wn rfl) rfl rfl (x_ldB (i := 0) E H rfl rfl rfl rfl Try.underlying3 rfl) ?_
  clear E; clear a; intro a E
  refine st_val E (wn rfl) rfl rfl (x_bin E rfl rfl rfl rfl) ?_
  clear E; clear a; intro a E
  refine st_val E (wn rfl) rfl rfl (x_move E rfl rfl) ?_
  clear E; clear a; intro a E
  rcases Bool.eq_false_or_eq_true (x1.Kind == x3.Kind) with hb13 | hb13
  · rw [if_t hb13] at hm
    refine st_val E (ws' E rfl rfl rfl rfl hb13) rfl rfl (x_fa E rfl rfl (v := .pointer (some ⟨p7, 1, none⟩)) (fa24_1 _ _)) ?_
    clear E; clear a; intro a E
    refine st_val E (ws' E rfl rfl rfl rfl hb13) rfl rfl (x_ldB (i := 1) E H rfl rfl rfl rfl Try.underlying2 rfl) ?_
    clear E; clear a; intro a E
    refine st_val E (ws' E rfl rfl rfl rfl hb13) rfl rfl (x_fa E rfl rfl (v := .pointer (some ⟨p10, 1, none⟩)) (fa24_1 _ _)) ?_
    clear E; clear a; intro a E
    refine st_val E (ws' E rfl rfl rfl rfl hb13) rfl rfl (x_ldB (i := 0) E H rfl rfl rfl rfl Try.underlying2 rfl) ?_
    clear E; clear a; intro a E
    refine st_val E (ws' E rfl rfl rfl rfl hb13) rfl rfl (x_bin E rfl rfl rfl rfl) ?_
    clear E; clear a; intro a E
    refine st_val E (wn rfl) rfl rfl (x_pickT E rfl rfl hb13 rfl) ?_
    clear E; clear a; intro a E
    refine st_val E (wn rfl) rfl rfl (x_move E rfl rfl) ?_
    clear E; clear a; intro a E
    rcases Bool.eq_false_or_eq_true (x1.View == x3.View) with hb14 | hb14
    · rw [if_t hb14] at hm
      refine st_val E (ws' E rfl rfl rfl rfl hb14) rfl rfl (x_fa E rfl rfl (v := .pointer (some ⟨p7, 2, none⟩)) (fa24_2 _ _)) ?_
      clear E; clear a; intro a E
      refine st_val E (ws' E rfl rfl rfl rfl hb14) rfl rfl (x_ldB (i := 1) E H rfl rfl rfl rfl Try.underlying2 rfl) ?_
      clear E; clear a; intro a E
      refine st_val E (ws' E rfl rfl rfl rfl hb14) rfl rfl (x_fa E rfl rfl (v := .pointer (some ⟨p10, 2, none⟩)) (fa24_2 _ _)) ?_
      clear E; clear a; intro a E
      refine st_val E (ws' E rfl rfl rfl rfl hb14) rfl rfl (x_ldB (i := 0) E H rfl rfl rfl rfl Try.underlying2 rfl) ?_
      clear E; clear a; intro a E
      refine st_val E (ws' E rfl rfl rfl rfl hb14) rfl rfl (x_bin E rfl rfl rfl rfl) ?_
      clear E; clear a; intro a E
      refine st_val E (wn rfl) rfl rfl (x_pickT E rfl rfl hb14 rfl) ?_
      clear E; clear a; intro a E
      refine st_val E (wn rfl) rfl rfl (x_move E rfl rfl) ?_
      clear E; clear a; intro a E
      rcases Bool.eq_false_or_eq_true (x1.Normal == x3.Normal) with hb15 | hb15
      · rw [if_t hb15] at hm
        refine st_val E (ws' E rfl rfl rfl rfl hb15) rfl rfl (x_fa E rfl rfl (v := .pointer (some ⟨p7, 3, none⟩)) (fa24_3 _ _)) ?_
        clear E; clear a; intro a E
        refine st_val E (ws' E rfl rfl rfl rfl hb15) rfl rfl (x_ldB (i := 1) E H rfl rfl rfl rfl Try.underlying3 rfl) ?_
        clear E; clear a; intro a E
        refine st_val E (ws' E rfl rfl rfl rfl hb15) rfl rfl (x_fa E rfl rfl (v := .pointer (some ⟨p10, 3, none⟩)) (fa24_3 _ _)) ?_
        clear E; clear a; intro a E
        refine st_val E (ws' E rfl rfl rfl rfl hb15) rfl rfl (x_ldB (i := 0) E H rfl rfl rfl rfl Try.underlying3 rfl) ?_
        clear E; clear a; intro a E
        refine st_val E (ws' E rfl rfl rfl rfl hb15) rfl rfl (x_bin E rfl rfl rfl rfl) ?_
        clear E; clear a; intro a E
        refine st_val E (wn rfl) rfl rfl (x_pickT E rfl rfl hb15 rfl) ?_
        clear E; clear a; intro a E
        refine st_val E (wn rfl) rfl rfl (x_move E rfl rfl) ?_
        clear E; clear a; intro a E
        rcases Bool.eq_false_or_eq_true (x1.Len == x3.Len) with hb16 | hb16
        · rw [if_t hb16] at hm
          refine st_val E (ws' E rfl rfl rfl rfl hb16) rfl rfl (x_fa E rfl rfl (v := .pointer (some ⟨p7, 4, none⟩)) (fa24_4 _ _)) ?_
          clear E; clear a; intro a E
          refine st_val E (ws' E rfl rfl rfl rfl hb16) rfl rfl (x_ldB (i := 1) E H rfl rfl rfl rfl Try.underlying3 rfl) ?_
          clear E; clear a; intro a E
          refine st_val E (ws' E rfl rfl rfl rfl hb16) rfl rfl (x_fa E rfl rfl (v := .pointer (some ⟨p10, 4, none⟩)) (fa24_4 _ _)) ?_
          clear E; clear a; intro a E
          refine st_val E (ws' E rfl rfl rfl rfl hb16) rfl rfl (x_ldB (i := 0) E H rfl rfl rfl rfl Try.underlying3 rfl) ?_
          clear E; clear a; intro a E
          refine st_val E (ws' E rfl rfl rfl rfl hb16) rfl rfl (x_bin E rfl rfl rfl rfl) ?_
          clear E; clear a; intro a E
          refine st_val E (wn rfl) rfl rfl (x_pickT E rfl rfl hb16 rfl) ?_
          clear E; clear a; intro a E
          refine st_val E (wn rfl) rfl rfl (x_move E rfl rfl) ?_
          clear E; clear a; intro a E
          rcases Bool.eq_false_or_eq_true (x1.Stays == x3.Stays) with hb17 | hb17
          · rw [if_t hb17] at hm
            refine st_val E (ws' E rfl rfl rfl rfl hb17) rfl rfl (x_fa E rfl rfl (v := .pointer (some ⟨p7, 5, none⟩)) (fa24_5 _ _)) ?_
            clear E; clear a; intro a E
            refine st_val E (ws' E rfl rfl rfl rfl hb17) rfl rfl (x_ldB (i := 1) E H rfl rfl rfl rfl Try.underlying22 rfl) ?_
            clear E; clear a; intro a E
            refine st_val E (ws' E rfl rfl rfl rfl hb17) rfl rfl (x_fa E rfl rfl (v := .pointer (some ⟨p10, 5, none⟩)) (fa24_5 _ _)) ?_
            clear E; clear a; intro a E
            refine st_val E (ws' E rfl rfl rfl rfl hb17) rfl rfl (x_ldB (i := 0) E H rfl rfl rfl rfl Try.underlying22 rfl) ?_
            clear E; clear a; intro a E
            replace H : Sep w (Blk p10 24 [.int .i64 x3.Kind, .int .i64 x3.View, .int .i64 x3.Normal, .int .i64 x3.Len, .int .i64 x3.Stays, (.slice q11 x3.Log.length x12), .int .i64 x3.Num, .string x3.Text] :: Blk p7 24 [.int .i64 x1.Kind, .int .i64 x1.View, .int .i64 x1.Normal, .int .i64 x1.Len, .int .i64 x1.Stays, (.slice q8 x1.Log.length x9), .int .i64 x1.Num, .string x1.Text] :: Fo) (rs) := H
            obtain ⟨u18, hx19, hm⟩ := bnd hm
            refine st_call E (ws' E rfl rfl rfl rfl hb17) rfl rfl (x_call E rfl rfl (cf49 _)) (c_cantonref01_Same (.slice q8 x1.Log.length x9) x1.Log (.slice q11 x3.Log.length x12) x3.Log H hr5 hr6 hx19) ?_
            clear E H; clear a; clear w; rintro _ w ⟨rfl, H⟩ a E
            refine st_val E (wn rfl) rfl rfl (x_pickT E rfl rfl hb17 rfl) ?_
            clear E; clear a; intro a E
            refine st_val E (wn rfl) rfl rfl (x_move E rfl rfl) ?_
            clear E; clear a; intro a E
            rcases Bool.eq_false_or_eq_true u18 with hb20 | hb20
            · rw [if_t hb20] at hm
              refine st_val E (ws' E rfl rfl rfl rfl hb20) rfl rfl (x_fa E rfl rfl (v := .pointer (some ⟨p7, 6, none⟩)) (fa24_6 _ _)) ?_
              clear E; clear a; intro a E
              refine st_val E (ws' E rfl rfl rfl rfl hb20) rfl rfl (x_ldB (i := 1) E H rfl rfl rfl rfl Try.underlying2 rfl) ?_
              clear E; clear a; intro a E
              refine st_val E (ws' E rfl rfl rfl rfl hb20) rfl rfl (x_fa E rfl rfl (v := .pointer (some ⟨p10, 6, none⟩)) (fa24_6 _ _)) ?_
              clear E; clear a; intro a E
              refine st_val E (ws' E rfl rfl rfl rfl hb20) rfl rfl (x_ldB (i := 0) E H rfl rfl rfl rfl Try.underlying2 rfl) ?_
              clear E; clear a; intro a E
              refine st_val E (ws' E rfl rfl rfl rfl hb20) rfl rfl (x_bin E rfl rfl rfl rfl) ?_
              clear E; clear a; intro a E
              refine st_val E (wn rfl) rfl rfl (x_pickT E rfl rfl hb20 rfl) ?_
              clear E; clear a; intro a E
              refine st_val E (wn rfl) rfl rfl (x_move E rfl rfl) ?_
              clear E; clear a; intro a E
              rcases Bool.eq_false_or_eq_true (x1.Num == x3.Num) with hb21 | hb21
              · rw [if_t hb21] at hm
                refine st_val E (ws' E rfl rfl rfl rfl hb21) rfl rfl (x_fa E rfl rfl (v := .pointer (some ⟨p7, 7, none⟩)) (fa24_7 _ _)) ?_
                clear E; clear a; intro a E
                refine st_val E (ws' E rfl rfl rfl rfl hb21) rfl rfl (x_ldB (i := 1) E H rfl rfl rfl rfl Try.underlying9 rfl) ?_
                clear E; clear a; intro a E
                refine st_val E (ws' E rfl rfl rfl rfl hb21) rfl rfl (x_fa E rfl rfl (v := .pointer (some ⟨p10, 7, none⟩)) (fa24_7 _ _)) ?_
                clear E; clear a; intro a E
                refine st_val E (ws' E rfl rfl rfl rfl hb21) rfl rfl (x_ldB (i := 0) E H rfl rfl rfl rfl Try.underlying9 rfl) ?_
                clear E; clear a; intro a E
                refine st_val E (ws' E rfl rfl rfl rfl hb21) rfl rfl (x_str E rfl rfl rfl rfl) ?_
                clear E; clear a; intro a E
                refine st_val E (wn rfl) rfl rfl (x_pickT E rfl rfl hb21 rfl) ?_
                clear E; clear a; intro a E
                refine st_val E (wn rfl) rfl rfl (x_assign E rfl rfl) ?_
                clear E; clear a; intro a E
                refine wpList_nil ?_
                refine q_then ?_
                refine wp_ret ?_
                refine out1 E rfl rfl ?_
                replace H := H.drop 0
                replace H := H.drop 0
                obtain rfl := Option.some.inj hm
                exact ⟨rfl, H.reads (fun r hr => hr)⟩
              · rw [if_f hb21] at hm
                refine st_no E (wf' E rfl rfl rfl rfl hb21 rfl) rfl rfl ?_
                clear E; clear a; intro a E
                refine st_no E (wf' E rfl rfl rfl rfl hb21 rfl) rfl rfl ?_
                clear E; clear a; intro a E
                refine st_no E (wf' E rfl rfl rfl rfl hb21 rfl) rfl rfl ?_
                clear E; clear a; intro a E
                refine st_no E (wf' E rfl rfl rfl rfl hb21 rfl) rfl rfl ?_
                clear E; clear a; intro a E
                refine st_no E (wf' E rfl rfl rfl rfl hb21 rfl) rfl rfl ?_
                clear E; clear a; intro a E
                refine st_val E (wn rfl) rfl rfl (x_pickF E rfl rfl hb21 rfl) ?_
                clear E; clear a; intro a E
                refine st_val E (wn rfl) rfl rfl (x_assign E rfl rfl) ?_
                clear E; clear a; intro a E
                refine wpList_nil ?_
                refine q_then ?_
                refine wp_ret ?_
                refine out1 E rfl rfl ?_
                replace H := H.drop 0
                replace H := H.drop 0
                obtain rfl := Option.some.inj hm
                exact ⟨rfl, H.reads (fun r hr => hr)⟩
            · rw [if_f hb20] at hm
              refine st_no E (wf' E rfl rfl rfl rfl hb20 rfl) rfl rfl ?_
              clear E; clear a; intro a E
              refine st_no E (wf' E rfl rfl rfl rfl hb20 rfl) rfl rfl ?_
              clear E; clear a; intro a E
              refine st_no E (wf' E rfl rfl rfl rfl hb20 rfl) rfl rfl ?_
              clear E; clear a; intro a E
              refine st_no E (wf' E rfl rfl rfl rfl hb20 rfl) rfl rfl ?_
              clear E; clear a; intro a E
              refine st_no E (wf' E rfl rfl rfl rfl hb20 rfl) rfl rfl ?_
              clear E; clear a; intro a E
              refine st_val E (wn rfl) rfl rfl (x_pickF E rfl rfl hb20 rfl) ?_
              clear E; clear a; intro a E
              refine st_val E (wn rfl) rfl rfl (x_move E rfl rfl) ?_
              clear E; clear a; intro a E
              refine st_no E (wf E rfl rfl rfl rfl rfl) rfl rfl ?_
              clear E; clear a; intro a E
              refine st_no E (wf E rfl rfl rfl rfl rfl) rfl rfl ?_
              clear E; clear a; intro a E
              refine st_no E (wf E rfl rfl rfl rfl rfl) rfl rfl ?_
              clear E; clear a; intro a E
              refine st_no E (wf E rfl rfl rfl rfl rfl) rfl rfl ?_
              clear E; clear a; intro a E
              refine st_no E (wf E rfl rfl rfl rfl rfl) rfl rfl ?_
              clear E; clear a; intro a E
              refine st_val E (wn rfl) rfl rfl (x_pickF E rfl rfl rfl rfl) ?_
              clear E; clear a; intro a E
              refine st_val E (wn rfl) rfl rfl (x_assign E rfl rfl) ?_
              clear E; clear a; intro a E
              refine wpList_nil ?_
              refine q_then ?_
              refine wp_ret ?_
              refine out1 E rfl rfl ?_
              replace H := H.drop 0
              replace H := H.drop 0
              obtain rfl := Option.some.inj hm
              exact ⟨rfl, H.reads (fun r hr => hr)⟩
          · rw [if_f hb17] at hm
            refine st_no E (wf' E rfl rfl rfl rfl hb17 rfl) rfl rfl ?_
            clear E; clear a; intro a E
            refine st_no E (wf' E rfl rfl rfl rfl hb17 rfl) rfl rfl ?_
            clear E; clear a; intro a E
            refine st_no E (wf' E rfl rfl rfl rfl hb17 rfl) rfl rfl ?_
            clear E; clear a; intro a E
            refine st_no E (wf' E rfl rfl rfl rfl hb17 rfl) rfl rfl ?_
            clear E; clear a; intro a E
            refine st_no E (wf' E rfl rfl rfl rfl hb17 rfl) rfl rfl ?_
            clear E; clear a; intro a E
            refine st_val E (wn rfl) rfl rfl (x_pickF E rfl rfl hb17 rfl) ?_
            clear E; clear a; intro a E
            refine st_val E (wn rfl) rfl rfl (x_move E rfl rfl) ?_
            clear E; clear a; intro a E
            refine st_no E (wf E rfl rfl rfl rfl rfl) rfl rfl ?_
            clear E; clear a; intro a E
            refine st_no E (wf E rfl rfl rfl rfl rfl) rfl rfl ?_
            clear E; clear a; intro a E
            refine st_no E (wf E rfl rfl rfl rfl rfl) rfl rfl ?_
            clear E; clear a; intro a E
            refine st_no E (wf E rfl rfl rfl rfl rfl) rfl rfl ?_
            clear E; clear a; intro a E
            refine st_no E (wf E rfl rfl rfl rfl rfl) rfl rfl ?_
            clear E; clear a; intro a E
            refine st_val E (wn rfl) rfl rfl (x_pickF E rfl rfl rfl rfl) ?_
            clear E; clear a; intro a E
            refine st_val E (wn rfl) rfl rfl (x_move E rfl rfl) ?_
            clear E; clear a; intro a E
            refine st_no E (wf E rfl rfl rfl rfl rfl) rfl rfl ?_
            clear E; clear a; intro a E
            refine st_no E (wf E rfl rfl rfl rfl rfl) rfl rfl ?_
            clear E; clear a; intro a E
            refine st_no E (wf E rfl rfl rfl rfl rfl) rfl rfl ?_
            clear E; clear a; intro a E
            refine st_no E (wf E rfl rfl rfl rfl rfl) rfl rfl ?_
            clear E; clear a; intro a E
            refine st_no E (wf E rfl rfl rfl rfl rfl) rfl rfl ?_
            clear E; clear a; intro a E
            refine st_val E (wn rfl) rfl rfl (x_pickF E rfl rfl rfl rfl) ?_
            clear E; clear a; intro a E
            refine st_val E (wn rfl) rfl rfl (x_assign E rfl rfl) ?_
            clear E; clear a; intro a E
            refine wpList_nil ?_
            refine q_then ?_
            refine wp_ret ?_
            refine out1 E rfl rfl ?_
            replace H := H.drop 0
            replace H := H.drop 0
            obtain rfl := Option.some.inj hm
            exact ⟨rfl, H.reads (fun r hr => hr)⟩
        · rw [if_f hb16] at hm
          refine st_no E (wf' E rfl rfl rfl rfl hb16 rfl) rfl rfl ?_
          clear E; clear a; intro a E
          refine st_no E (wf' E rfl rfl rfl rfl hb16 rfl) rfl rfl ?_
          clear E; clear a; intro a E
          refine st_no E (wf' E rfl rfl rfl rfl hb16 rfl) rfl rfl ?_
          clear E; clear a; intro a E
          refine st_no E (wf' E rfl rfl rfl rfl hb16 rfl) rfl rfl ?_
          clear E; clear a; intro a E
          refine st_no E (wf' E rfl rfl rfl rfl hb16 rfl) rfl rfl ?_
          clear E; clear a; intro a E
          refine st_val E (wn rfl) rfl rfl (x_pickF E rfl rfl hb16 rfl) ?_
          clear E; clear a; intro a E
          refine st_val E (wn rfl) rfl rfl (x_move E rfl rfl) ?_
          clear E; clear a; intro a E
          refine st_no E (wf E rfl rfl rfl rfl rfl) rfl rfl ?_
          clear E; clear a; intro a E
          refine st_no E (wf E rfl rfl rfl rfl rfl) rfl rfl ?_
          clear E; clear a; intro a E
          refine st_no E (wf E rfl rfl rfl rfl rfl) rfl rfl ?_
          clear E; clear a; intro a E
          refine st_no E (wf E rfl rfl rfl rfl rfl) rfl rfl ?_
          clear E; clear a; intro a E
          refine st_no E (wf E rfl rfl rfl rfl rfl) rfl rfl ?_
          clear E; clear a; intro a E
          refine st_val E (wn rfl) rfl rfl (x_pickF E rfl rfl rfl rfl) ?_
          clear E; clear a; intro a E
          refine st_val E (wn rfl) rfl rfl (x_move E rfl rfl) ?_
          clear E; clear a; intro a E
          refine st_no E (wf E rfl rfl rfl rfl rfl) rfl rfl ?_
          clear E; clear a; intro a E
          refine st_no E (wf E rfl rfl rfl rfl rfl) rfl rfl ?_
          clear E; clear a; intro a E
          refine st_no E (wf E rfl rfl rfl rfl rfl) rfl rfl ?_
          clear E; clear a; intro a E
          refine st_no E (wf E rfl rfl rfl rfl rfl) rfl rfl ?_
          clear E; clear a; intro a E
          refine st_no E (wf E rfl rfl rfl rfl rfl) rfl rfl ?_
          clear E; clear a; intro a E
          refine st_val E (wn rfl) rfl rfl (x_pickF E rfl rfl rfl rfl) ?_
          clear E; clear a; intro a E
          refine st_val E (wn rfl) rfl rfl (x_move E rfl rfl) ?_
          clear E; clear a; intro a E
          refine st_no E (wf E rfl rfl rfl rfl rfl) rfl rfl ?_
          clear E; clear a; intro a E
          refine st_no E (wf E rfl rfl rfl rfl rfl) rfl rfl ?_
          clear E; clear a; intro a E
          refine st_no E (wf E rfl rfl rfl rfl rfl) rfl rfl ?_
          clear E; clear a; intro a E
          refine st_no E (wf E rfl rfl rfl rfl rfl) rfl rfl ?_
          clear E; clear a; intro a E
          refine st_no E (wf E rfl rfl rfl rfl rfl) rfl rfl ?_
          clear E; clear a; intro a E
          refine st_val E (wn rfl) rfl rfl (x_pickF E rfl rfl rfl rfl) ?_
          clear E; clear a; intro a E
          refine st_val E (wn rfl) rfl rfl (x_assign E rfl rfl) ?_
          clear E; clear a; intro a E
          refine wpList_nil ?_
          refine q_then ?_
          refine wp_ret ?_
          refine out1 E rfl rfl ?_
          replace H := H.drop 0
          replace H := H.drop 0
          obtain rfl := Option.some.inj hm
          exact ⟨rfl, H.reads (fun r hr => hr)⟩
      · rw [if_f hb15] at hm
        refine st_no E (wf' E rfl rfl rfl rfl hb15 rfl) rfl rfl ?_
        clear E; clear a; intro a E
        refine st_no E (wf' E rfl rfl rfl rfl hb15 rfl) rfl rfl ?_
        clear E; clear a; intro a E
        refine st_no E (wf' E rfl rfl rfl rfl hb15 rfl) rfl rfl ?_
        clear E; clear a; intro a E
        refine st_no E (wf' E rfl rfl rfl rfl hb15 rfl) rfl rfl ?_
        clear E; clear a; intro a E
        refine st_no E (wf' E rfl rfl rfl rfl hb15 rfl) rfl rfl ?_
        clear E; clear a; intro a E
        refine st_val E (wn rfl) rfl rfl (x_pickF E rfl rfl hb15 rfl) ?_
        clear E; clear a; intro a E
        refine st_val E (wn rfl) rfl rfl (x_move E rfl rfl) ?_
        clear E; clear a; intro a E
        refine st_no E (wf E rfl rfl rfl rfl rfl) rfl rfl ?_
        clear E; clear a; intro a E
        refine st_no E (wf E rfl rfl rfl rfl rfl) rfl rfl ?_
        clear E; clear a; intro a E
        refine st_no E (wf E rfl rfl rfl rfl rfl) rfl rfl ?_
        clear E; clear a; intro a E
        refine st_no E (wf E rfl rfl rfl rfl rfl) rfl rfl ?_
        clear E; clear a; intro a E
        refine st_no E (wf E rfl rfl rfl rfl rfl) rfl rfl ?_
        clear E; clear a; intro a E
        refine st_val E (wn rfl) rfl rfl (x_pickF E rfl rfl rfl rfl) ?_
        clear E; clear a; intro a E
        refine st_val E (wn rfl) rfl rfl (x_move E rfl rfl) ?_
        clear E; clear a; intro a E
        refine st_no E (wf E rfl rfl rfl rfl rfl) rfl rfl ?_
        clear E; clear a; intro a E
        refine st_no E (wf E rfl rfl rfl rfl rfl) rfl rfl ?_
        clear E; clear a; intro a E
        refine st_no E (wf E rfl rfl rfl rfl rfl) rfl rfl ?_
        clear E; clear a; intro a E
        refine st_no E (wf E rfl rfl rfl rfl rfl) rfl rfl ?_
        clear E; clear a; intro a E
        refine st_no E (wf E rfl rfl rfl rfl rfl) rfl rfl ?_
        clear E; clear a; intro a E
        refine st_val E (wn rfl) rfl rfl (x_pickF E rfl rfl rfl rfl) ?_
        clear E; clear a; intro a E
        refine st_val E (wn rfl) rfl rfl (x_move E rfl rfl) ?_
        clear E; clear a; intro a E
        refine st_no E (wf E rfl rfl rfl rfl rfl) rfl rfl ?_
        clear E; clear a; intro a E
        refine st_no E (wf E rfl rfl rfl rfl rfl) rfl rfl ?_
        clear E; clear a; intro a E
        refine st_no E (wf E rfl rfl rfl rfl rfl) rfl rfl ?_
        clear E; clear a; intro a E
        refine st_no E (wf E rfl rfl rfl rfl rfl) rfl rfl ?_
        clear E; clear a; intro a E
        refine st_no E (wf E rfl rfl rfl rfl rfl) rfl rfl ?_
        clear E; clear a; intro a E
        refine st_val E (wn rfl) rfl rfl (x_pickF E rfl rfl rfl rfl) ?_
        clear E; clear a; intro a E
        refine st_val E (wn rfl) rfl rfl (x_move E rfl rfl) ?_
        clear E; clear a; intro a E
        refine st_no E (wf E rfl rfl rfl rfl rfl) rfl rfl ?_
        clear E; clear a; intro a E
        refine st_no E (wf E rfl rfl rfl rfl rfl) rfl rfl ?_
        clear E; clear a; intro a E
        refine st_no E (wf E rfl rfl rfl rfl rfl) rfl rfl ?_
        clear E; clear a; intro a E
        refine st_no E (wf E rfl rfl rfl rfl rfl) rfl rfl ?_
        clear E; clear a; intro a E
        refine st_no E (wf E rfl rfl rfl rfl rfl) rfl rfl ?_
        clear E; clear a; intro a E
        refine st_val E (wn rfl) rfl rfl (x_pickF E rfl rfl rfl rfl) ?_
        clear E; clear a; intro a E
        refine st_val E (wn rfl) rfl rfl (x_assign E rfl rfl) ?_
        clear E; clear a; intro a E
        refine wpList_nil ?_
        refine q_then ?_
        refine wp_ret ?_
        refine out1 E rfl rfl ?_
        replace H := H.drop 0
        replace H := H.drop 0
        obtain rfl := Option.some.inj hm
        exact ⟨rfl, H.reads (fun r hr => hr)⟩
    · rw [if_f hb14] at hm
      refine st_no E (wf' E rfl rfl rfl rfl hb14 rfl) rfl rfl ?_
      clear E; clear a; intro a E
      refine st_no E (wf' E rfl rfl rfl rfl hb14 rfl) rfl rfl ?_
      clear E; clear a; intro a E
      refine st_no E (wf' E rfl rfl rfl rfl hb14 rfl) rfl rfl ?_
      clear E; clear a; intro a E
      refine st_no E (wf' E rfl rfl rfl rfl hb14 rfl) rfl rfl ?_
      clear E; clear a; intro a E
      refine st_no E (wf' E rfl rfl rfl rfl hb14 rfl) rfl rfl ?_
      clear E; clear a; intro a E
      refine st_val E (wn rfl) rfl rfl (x_pickF E rfl rfl hb14 rfl) ?_
      clear E; clear a; intro a E
      refine st_val E (wn rfl) rfl rfl (x_move E rfl rfl) ?_
      clear E; clear a; intro a E
      refine st_no E (wf E rfl rfl rfl rfl rfl) rfl rfl ?_
      clear E; clear a; intro a E
      refine st_no E (wf E rfl rfl rfl rfl rfl) rfl rfl ?_
      clear E; clear a; intro a E
      refine st_no E (wf E rfl rfl rfl rfl rfl) rfl rfl ?_
      clear E; clear a; intro a E
      refine st_no E (wf E rfl rfl rfl rfl rfl) rfl rfl ?_
      clear E; clear a; intro a E
      refine st_no E (wf E rfl rfl rfl rfl rfl) rfl rfl ?_
      clear E; clear a; intro a E
      refine st_val E (wn rfl) rfl rfl (x_pickF E rfl rfl rfl rfl) ?_
      clear E; clear a; intro a E
      refine st_val E (wn rfl) rfl rfl (x_move E rfl rfl) ?_
      clear E; clear a; intro a E
      refine st_no E (wf E rfl rfl rfl rfl rfl) rfl rfl ?_
      clear E; clear a; intro a E
      refine st_no E (wf E rfl rfl rfl rfl rfl) rfl rfl ?_
      clear E; clear a; intro a E
      refine st_no E (wf E rfl rfl rfl rfl rfl) rfl rfl ?_
      clear E; clear a; intro a E
      refine st_no E (wf E rfl rfl rfl rfl rfl) rfl rfl ?_
      clear E; clear a; intro a E
      refine st_no E (wf E rfl rfl rfl rfl rfl) rfl rfl ?_
      clear E; clear a; intro a E
      refine st_val E (wn rfl) rfl rfl (x_pickF E rfl rfl rfl rfl) ?_
      clear E; clear a; intro a E
      refine st_val E (wn rfl) rfl rfl (x_move E rfl rfl) ?_
      clear E; clear a; intro a E
      refine st_no E (wf E rfl rfl rfl rfl rfl) rfl rfl ?_
      clear E; clear a; intro a E
      refine st_no E (wf E rfl rfl rfl rfl rfl) rfl rfl ?_
      clear E; clear a; intro a E
      refine st_no E (wf E rfl rfl rfl rfl rfl) rfl rfl ?_
      clear E; clear a; intro a E
      refine st_no E (wf E rfl rfl rfl rfl rfl) rfl rfl ?_
      clear E; clear a; intro a E
      refine st_no E (wf E rfl rfl rfl rfl rfl) rfl rfl ?_
      clear E; clear a; intro a E
      refine st_val E (wn rfl) rfl rfl (x_pickF E rfl rfl rfl rfl) ?_
      clear E; clear a; intro a E
      refine st_val E (wn rfl) rfl rfl (x_move E rfl rfl) ?_
      clear E; clear a; intro a E
      refine st_no E (wf E rfl rfl rfl rfl rfl) rfl rfl ?_
      clear E; clear a; intro a E
      refine st_no E (wf E rfl rfl rfl rfl rfl) rfl rfl ?_
      clear E; clear a; intro a E
      refine st_no E (wf E rfl rfl rfl rfl rfl) rfl rfl ?_
      clear E; clear a; intro a E
      refine st_no E (wf E rfl rfl rfl rfl rfl) rfl rfl ?_
      clear E; clear a; intro a E
      refine st_no E (wf E rfl rfl rfl rfl rfl) rfl rfl ?_
      clear E; clear a; intro a E
      refine st_val E (wn rfl) rfl rfl (x_pickF E rfl rfl rfl rfl) ?_
      clear E; clear a; intro a E
      refine st_val E (wn rfl) rfl rfl (x_move E rfl rfl) ?_
      clear E; clear a; intro a E
      refine st_no E (wf E rfl rfl rfl rfl rfl) rfl rfl ?_
      clear E; clear a; intro a E
      refine st_no E (wf E rfl rfl rfl rfl rfl) rfl rfl ?_
      clear E; clear a; intro a E
      refine st_no E (wf E rfl rfl rfl rfl rfl) rfl rfl ?_
      clear E; clear a; intro a E
      refine st_no E (wf E rfl rfl rfl rfl rfl) rfl rfl ?_
      clear E; clear a; intro a E
      refine st_no E (wf E rfl rfl rfl rfl rfl) rfl rfl ?_
      clear E; clear a; intro a E
      refine st_val E (wn rfl) rfl rfl (x_pickF E rfl rfl rfl rfl) ?_
      clear E; clear a; intro a E
      refine st_val E (wn rfl) rfl rfl (x_assign E rfl rfl) ?_
      clear E; clear a; intro a E
      refine wpList_nil ?_
      refine q_then ?_
      refine wp_ret ?_
      refine out1 E rfl rfl ?_
      replace H := H.drop 0
      replace H := H.drop 0
      obtain rfl := Option.some.inj hm
      exact ⟨rfl, H.reads (fun r hr => hr)⟩
  · rw [if_f hb13] at hm
    refine st_no E (wf' E rfl rfl rfl rfl hb13 rfl) rfl rfl ?_
    clear E; clear a; intro a E
    refine st_no E (wf' E rfl rfl rfl rfl hb13 rfl) rfl rfl ?_
    clear E; clear a; intro a E
    refine st_no E (wf' E rfl rfl rfl rfl hb13 rfl) rfl rfl ?_
    clear E; clear a; intro a E
    refine st_no E (wf' E rfl rfl rfl rfl hb13 rfl) rfl rfl ?_
    clear E; clear a; intro a E
    refine st_no E (wf' E rfl rfl rfl rfl hb13 rfl) rfl rfl ?_
    clear E; clear a; intro a E
    refine st_val E (wn rfl) rfl rfl (x_pickF E rfl rfl hb13 rfl) ?_
    clear E; clear a; intro a E
    refine st_val E (wn rfl) rfl rfl (x_move E rfl rfl) ?_
    clear E; clear a; intro a E
    refine st_no E (wf E rfl rfl rfl rfl rfl) rfl rfl ?_
    clear E; clear a; intro a E
    refine st_no E (wf E rfl rfl rfl rfl rfl) rfl rfl ?_
    clear E; clear a; intro a E
    refine st_no E (wf E rfl rfl rfl rfl rfl) rfl rfl ?_
    clear E; clear a; intro a E
    refine st_no E (wf E rfl rfl rfl rfl rfl) rfl rfl ?_
    clear E; clear a; intro a E
    refine st_no E (wf E rfl rfl rfl rfl rfl) rfl rfl ?_
    clear E; clear a; intro a E
    refine st_val E (wn rfl) rfl rfl (x_pickF E rfl rfl rfl rfl) ?_
    clear E; clear a; intro a E
    refine st_val E (wn rfl) rfl rfl (x_move E rfl rfl) ?_
    clear E; clear a; intro a E
    refine st_no E (wf E rfl rfl rfl rfl rfl) rfl rfl ?_
    clear E; clear a; intro a E
    refine st_no E (wf E rfl rfl rfl rfl rfl) rfl rfl ?_
    clear E; clear a; intro a E
    refine st_no E (wf E rfl rfl rfl rfl rfl) rfl rfl ?_
    clear E; clear a; intro a E
    refine st_no E (wf E rfl rfl rfl rfl rfl) rfl rfl ?_
    clear E; clear a; intro a E
    refine st_no E (wf E rfl rfl rfl rfl rfl) rfl rfl ?_
    clear E; clear a; intro a E
    refine st_val E (wn rfl) rfl rfl (x_pickF E rfl rfl rfl rfl) ?_
    clear E; clear a; intro a E
    refine st_val E (wn rfl) rfl rfl (x_move E rfl rfl) ?_
    clear E; clear a; intro a E
    refine st_no E (wf E rfl rfl rfl rfl rfl) rfl rfl ?_
    clear E; clear a; intro a E
    refine st_no E (wf E rfl rfl rfl rfl rfl) rfl rfl ?_
    clear E; clear a; intro a E
    refine st_no E (wf E rfl rfl rfl rfl rfl) rfl rfl ?_
    clear E; clear a; intro a E
    refine st_no E (wf E rfl rfl rfl rfl rfl) rfl rfl ?_
    clear E; clear a; intro a E
    refine st_no E (wf E rfl rfl rfl rfl rfl) rfl rfl ?_
    clear E; clear a; intro a E
    refine st_val E (wn rfl) rfl rfl (x_pickF E rfl rfl rfl rfl) ?_
    clear E; clear a; intro a E
    refine st_val E (wn rfl) rfl rfl (x_move E rfl rfl) ?_
    clear E; clear a; intro a E
    refine st_no E (wf E rfl rfl rfl rfl rfl) rfl rfl ?_
    clear E; clear a; intro a E
    refine st_no E (wf E rfl rfl rfl rfl rfl) rfl rfl ?_
    clear E; clear a; intro a E
    refine st_no E (wf E rfl rfl rfl rfl rfl) rfl rfl ?_
    clear E; clear a; intro a E
    refine st_no E (wf E rfl rfl rfl rfl rfl) rfl rfl ?_
    clear E; clear a; intro a E
    refine st_no E (wf E rfl rfl rfl rfl rfl) rfl rfl ?_
    clear E; clear a; intro a E
    refine st_val E (wn rfl) rfl rfl (x_pickF E rfl rfl rfl rfl) ?_
    clear E; clear a; intro a E
    refine st_val E (wn rfl) rfl rfl (x_move E rfl rfl) ?_
    clear E; clear a; intro a E
    refine st_no E (wf E rfl rfl rfl rfl rfl) rfl rfl ?_
    clear E; clear a; intro a E
    refine st_no E (wf E rfl rfl rfl rfl rfl) rfl rfl ?_
    clear E; clear a; intro a E
    refine st_no E (wf E rfl rfl rfl rfl rfl) rfl rfl ?_
    clear E; clear a; intro a E
    refine st_no E (wf E rfl rfl rfl rfl rfl) rfl rfl ?_
    clear E; clear a; intro a E
    refine st_no E (wf E rfl rfl rfl rfl rfl) rfl rfl ?_
    clear E; clear a; intro a E
    refine st_val E (wn rfl) rfl rfl (x_pickF E rfl rfl rfl rfl) ?_
    clear E; clear a; intro a E
    refine st_val E (wn rfl) rfl rfl (x_move E rfl rfl) ?_
    clear E; clear a; intro a E
    refine st_no E (wf E rfl rfl rfl rfl rfl) rfl rfl ?_
    clear E; clear a; intro a E
    refine st_no E (wf E rfl rfl rfl rfl rfl) rfl rfl ?_
    clear E; clear a; intro a E
    refine st_no E (wf E rfl rfl rfl rfl rfl) rfl rfl ?_
    clear E; clear a; intro a E
    refine st_no E (wf E rfl rfl rfl rfl rfl) rfl rfl ?_
    clear E; clear a; intro a E
    refine st_no E (wf E rfl rfl rfl rfl rfl) rfl rfl ?_
    clear E; clear a; intro a E
    refine st_val E (wn rfl) rfl rfl (x_pickF E rfl rfl rfl rfl) ?_
    clear E; clear a; intro a E
    refine st_val E (wn rfl) rfl rfl (x_assign E rfl rfl) ?_
    clear E; clear a; intro a E
    refine wpList_nil ?_
    refine q_then ?_
    refine wp_ret ?_
    refine out1 E rfl rfl ?_
    replace H := H.drop 0
    replace H := H.drop 0
    obtain rfl := Option.some.inj hm
    exact ⟨rfl, H.reads (fun r hr => hr)⟩
end Go.Cb

set_option linter.unusedVariables false
set_option linter.unusedSimpArgs false
namespace Go.Cb
open Go.Proofs Go.RowKit
def m_cantonlaw17_sameSaved (x1 : S_api_Saved) (x3 : S_api_Saved) : Option Bool :=
  if (x1.View == x3.View) = true then (if (x1.Normal == x3.Normal) = true then ((m_cantonref01_Same x1.Log x3.Log).bind fun u15 => some (u15)) else (some (false))) else (some (false))
set_option maxRecDepth 20000 in
set_option maxHeartbeats 1000000 in
theorem c_cantonlaw17_sameSaved {w : World} {Fo : List Ob} {rs : List Rp} (x1 : S_api_Saved) (v2 : Value) (x3 : S_api_Saved) (v4 : Value) (H : Sep w (Fo) rs) (hr5 : rSl kS v2 x1.Log ∈ rs) (hr6 : rSl kS v4 x3.Log ∈ rs) {r : Bool} (hm : m_cantonlaw17_sameSaved x1 x3 = some r) :
    Calls Try.prog 20 [.agg #[.int .i64 x1.View, .int .i64 x1.Normal, v2], .agg #[.int .i64 x3.View, .int .i64 x3.Normal, v4]].toArray w (Ret fun v w' => .bool r = v ∧ Sep w' (Fo) (rs)) := by
  unfold m_cantonlaw17_sameSaved at hm
  refine enter Try.func20 rfl Try.ntmps20 rfl fun a E => ?_
  simp only [enum, Nat.reduceAdd] at E
  refine wp_seq ?_
  refine wp_region_lit ?_
  obtain ⟨q8, x9, rfl⟩ := H.slform hr5
  refine st_box E H (wn rfl) rfl rfl (cs := [.int .i64 x1.View, .int .i64 x1.Normal, (.slice q8 x1.Log.length x9)]) rfl rfl rfl ?_
  clear E H; clear a; clear w; intro p7 w a H E
  obtain ⟨q11, x12, rfl⟩ := H.slform hr6
  refine st_box E H (wn rfl) rfl rfl (cs := [.int .i64 x3.View, .int .i64 x3.Normal, (.slice q11 x3.Log.length x12)]) rfl rfl rfl ?_
  clear E H; clear a; clear w; intro p10 w a H E
  refine st_val E (wn rfl) rfl rfl (x_assign E rfl rfl) ?_
  clear E; clear a; intro a E
  refine wpList_nil ?_
  refine q_then ?_
  refine wp_seq ?_
  refine wp_region_lit ?_
  refine st_val E (wn rfl) rfl rfl (x_fa E rfl rfl (v := .pointer (some ⟨p7, 0, none⟩)) (fa26_0 _ _)) ?_
  clear E; clear a; intro a E
  refine st_val E (wn rfl) rfl rfl (x_ldB (i := 1) E H rfl rfl rfl rfl Try.underlying2 rfl) ?_
  clear E; clear a; intro a E
  refine st_val E (wn rfl) rfl rfl (x_fa E rfl rfl (v := .pointer (some ⟨p10, 0, none⟩)) (fa26_0 _ _)) ?_
  clear E; clear a; intro a E
  refine st_val E (wn rfl) rfl rfl (x_ldB (i := 0) E H rfl rfl rfl rfl Try.underlying2 rfl) ?_
  clear E; clear a; intro a E
  refine st_val E (wn rfl) rfl rfl (x_bin E rfl rfl rfl rfl) ?_
  clear E; clear a; intro a E
  refine st_val E (wn rfl) rfl rfl (x_move E rfl rfl) ?_
  clear E; clear a; intro a E
  rcases Bool.eq_false_or_eq_true (x1.View == x3.View) with hb13 | hb13
  · rw [if_t hb13] at hm
    refine st_val E (ws' E rfl rfl rfl rfl hb13) rfl rfl (x_fa E rfl rfl (v := .pointer (some ⟨p7, 1, none⟩)) (fa26_1 _ _)) ?_
    clear E; clear a; intro a E
    refine st_val E (ws' E rfl rfl rfl rfl hb13) rfl rfl (x_ldB (i := 1) E H rfl rfl rfl rfl Try.underlying2 rfl) ?_
    clear E; clear a; intro a E
    refine st_val E (ws' E rfl rfl rfl rfl hb13) rfl rfl (x_fa E rfl rfl (v := .pointer (some ⟨p10, 1, none⟩)) (fa26_1 _ _)) ?_
    clear E; clear a; intro a E
    refine st_val E (ws' E rfl rfl rfl rfl hb13) rfl rfl (x_ldB (i := 0) E H rfl rfl rfl rfl Try.underlying2 rfl) ?_
    clear E; clear a; intro a E
    refine st_val E (ws' E rfl rfl rfl rfl hb13) rfl rfl (x_bin E rfl rfl rfl rfl) ?_
    clear E; clear a; intro a E
    refine st_val E (wn rfl) rfl rfl (x_pickT E rfl rfl hb13 rfl) ?_
    clear E; clear a; intro a E
    refine st_val E (wn rfl) rfl rfl (x_move E rfl rfl) ?_
    clear E; clear a; intro a E
    rcases Bool.eq_false_or_eq_true (x1.Normal == x3.Normal) with hb14 | hb14
    · rw [if_t hb14] at hm
      refine st_val E (ws' E rfl rfl rfl rfl hb14) rfl rfl (x_fa E rfl rfl (v := .pointer (some ⟨p7, 2, none⟩)) (fa26_2 _ _)) ?_
      clear E; clear a; intro a E
      refine st_val E (ws' E rfl rfl rfl rfl hb14) rfl rfl (x_ldB (i := 1) E H rfl rfl rfl rfl Try.underlying22 rfl) ?_
      clear E; clear a; intro a E
      refine st_val E (ws' E rfl rfl rfl rfl hb14) rfl rfl (x_fa E rfl rfl (v := .pointer (some ⟨p10, 2, none⟩)) (fa26_2 _ _)) ?_
      clear E; clear a; intro a E
      refine st_val E (ws' E rfl rfl rfl rfl hb14) rfl rfl (x_ldB (i := 0) E H rfl rfl rfl rfl Try.underlying22 rfl) ?_
      clear E; clear a; intro a E
      replace H : Sep w (Blk p10 26 [.int .i64 x3.View, .int .i64 x3.Normal, (.slice q11 x3.Log.length x12)] :: Blk p7 26 [.int .i64 x1.View, .int .i64 x1.Normal, (.slice q8 x1.Log.length x9)] :: Fo) (rs) := H
      obtain ⟨u15, hx16, hm⟩ := bnd hm
      refine st_call E (ws' E rfl rfl rfl rfl hb14) rfl rfl (x_call E rfl rfl (cf49 _)) (c_cantonref01_Same (.slice q8 x1.Log.length x9) x1.Log (.slice q11 x3.Log.length x12) x3.Log H hr5 hr6 hx16) ?_
      clear E H; clear a; clear w; rintro _ w ⟨rfl, H⟩ a E
      refine st_val E (wn rfl) rfl rfl (x_pickT E rfl rfl hb14 rfl) ?_
      clear E; clear a; intro a E
      refine st_val E (wn rfl) rfl rfl (x_assign E rfl rfl) ?_
      clear E; clear a; intro a E
      refine wpList_nil ?_
      refine q_then ?_
      refine wp_ret ?_
      refine out1 E rfl rfl ?_
      replace H := H.drop 0
      replace H := H.drop 0
      obtain rfl := Option.some.inj hm
      exact ⟨rfl, H.reads (fun r hr => hr)⟩
    · rw [if_f hb14] at hm
      refine st_no E (wf' E rfl rfl rfl rfl hb14 rfl) rfl rfl ?_
      clear E; clear a; intro a E
      refine st_no E (wf' E rfl rfl rfl rfl hb14 rfl) rfl rfl ?_
      clear E; clear a; intro a E
      refine st_no E (wf' E rfl rfl rfl rfl hb14 rfl) rfl rfl ?_
      clear E; clear a; intro a E
      refine st_no E (wf' E rfl rfl rfl rfl hb14 rfl) rfl rfl ?_
      clear E; clear a; intro a E
      refine st_no E (wf' E rfl rfl rfl rfl hb14 rfl) rfl rfl ?_
      clear E; clear a; intro a E
      refine st_val E (wn rfl) rfl rfl (x_pickF E rfl rfl hb14 rfl) ?_
      clear E; clear a; intro a E
      refine st_val E (wn rfl) rfl rfl (x_assign E rfl rfl) ?_
      clear E; clear a; intro a E
      refine wpList_nil ?_
      refine q_then ?_
      refine wp_ret ?_
      refine out1 E rfl rfl ?_
      replace H := H.drop 0
      replace H := H.drop 0
      obtain rfl := Option.some.inj hm
      exact ⟨rfl, H.reads (fun r hr => hr)⟩
  · rw [if_f hb13] at hm
    refine st_no E (wf' E rfl rfl rfl rfl hb13 rfl) rfl rfl ?_
    clear E; clear a; intro a E
    refine st_no E (wf' E rfl rfl rfl rfl hb13 rfl) rfl rfl ?_
    clear E; clear a; intro a E
    refine st_no E (wf' E rfl rfl rfl rfl hb13 rfl) rfl rfl ?_
    clear E; clear a; intro a E
    refine st_no E (wf' E rfl rfl rfl rfl hb13 rfl) rfl rfl ?_
    clear E; clear a; intro a E
    refine st_no E (wf' E rfl rfl rfl rfl hb13 rfl) rfl rfl ?_
    clear E; clear a; intro a E
    refine st_val E (wn rfl) rfl rfl (x_pickF E rfl rfl hb13 rfl) ?_
    clear E; clear a; intro a E
    refine st_val E (wn rfl) rfl rfl (x_move E rfl rfl) ?_
    clear E; clear a; intro a E
    refine st_no E (wf E rfl rfl rfl rfl rfl) rfl rfl ?_
    clear E; clear a; intro a E
    refine st_no E (wf E rfl rfl rfl rfl rfl) rfl rfl ?_
    clear E; clear a; intro a E
    refine st_no E (wf E rfl rfl rfl rfl rfl) rfl rfl ?_
    clear E; clear a; intro a E
    refine st_no E (wf E rfl rfl rfl rfl rfl) rfl rfl ?_
    clear E; clear a; intro a E
    refine st_no E (wf E rfl rfl rfl rfl rfl) rfl rfl ?_
    clear E; clear a; intro a E
    refine st_val E (wn rfl) rfl rfl (x_pickF E rfl rfl rfl rfl) ?_
    clear E; clear a; intro a E
    refine st_val E (wn rfl) rfl rfl (x_assign E rfl rfl) ?_
    clear E; clear a; intro a E
    refine wpList_nil ?_
    refine q_then ?_
    refine wp_ret ?_
    refine out1 E rfl rfl ?_
    replace H := H.drop 0
    replace H := H.drop 0
    obtain rfl := Option.some.inj hm
    exact ⟨rfl, H.reads (fun r hr => hr)⟩
end Go.Cb

set_option linter.unusedVariables false
set_option linter.unusedSimpArgs false
namespace Go.Cb
open Go.Proofs Go.RowKit
def m_cantonlaw17_GreatLog_j1 (x4 : Int) : Option Bool :=
  some (decide (x4 ≥ 30000))
def m_cantonlaw17_GreatLog_l1 (l2 : List ByteArray) : Nat → Int → Int → Option Bool
  | 0, _, _ => none
  | k1 + 1, x7, x8 =>
    if (decide (x8 < (l2.length : Int))) = true then (if (decide (x7 < 30000)) = true then ((idx l2 x8).bind fun x13 => m_cantonlaw17_GreatLog_l1 l2 k1 (IntKind.i64.wrap (x7 + (min (x13.size : Int) 30000))) (IntKind.i64.wrap (x8 + 1))) else (m_cantonlaw17_GreatLog_j1 x7)) else (m_cantonlaw17_GreatLog_j1 x7)
def m_cantonlaw17_GreatLog (l2 : List ByteArray) : Option Bool :=
  m_cantonlaw17_GreatLog_l1 l2 30002 (l2.length : Int) 0
set_option maxRecDepth 20000 in
set_option maxHeartbeats 1000000 in
theorem c_cantonlaw17_GreatLog {w : World} {Fo : List Ob} {rs : List Rp} (v1 : Value) (l2 : List ByteArray) (H : Sep w (Fo) rs) (hr3 : rSl kS v1 l2 ∈ rs) {r : Bool} (hm : m_cantonlaw17_GreatLog l2 = some r) :
    Calls Try.prog 10 [v1].toArray w (Ret fun v w' => .bool r = v ∧ Sep w' (Fo) (rs)) := by
  unfold m_cantonlaw17_GreatLog at hm
  refine enter Try.func10 rfl Try.ntmps10 rfl fun a E => ?_
  simp only [enum, Nat.reduceAdd] at E
  refine wp_seq ?_
  refine wp_region_lit ?_
  refine st_val E (wn rfl) rfl rfl (x_assign E rfl rfl) ?_
  clear E; clear a; intro a E
  refine wpList_nil ?_
  refine q_then ?_
  refine wp_seq ?_
  refine wp_region_lit ?_
  refine st_val E (wn rfl) rfl rfl (x_move E rfl rfl) ?_
  clear E; clear a; intro a E
  refine st_val E (wn rfl) rfl rfl (x_lenS E H rfl rfl hr3 Try.underlying22) ?_
  clear E; clear a; intro a E
  refine st_val E (wn rfl) rfl rfl (x_assign E rfl rfl) ?_
  clear E; clear a; intro a E
  refine wpList_nil ?_
  refine q_then ?_
  refine wp_seq_cut (fun a w => ∃ (x4 : Int) (rs5 : List Rp), Env 27 a [(3, .int .i64 x4)] ∧ Sep w (Fo) rs5 ∧ (∀ r, r ∈ rs → r ∈ rs5) ∧ m_cantonlaw17_GreatLog_j1 x4 = some r) ?_ ?_
  · refine wp_seq ?_
    refine wp_region_lit ?_
    refine st_val E (wn rfl) rfl rfl (x_assign E rfl rfl) ?_
    clear E; clear a; intro a E
    refine wpList_nil ?_
    refine q_then ?_
    refine wp_block ?_
    refine wp_loop_g (fun k1 a w => ∃ (x7 : Int) (x8 : Int) (rs9 : List Rp), Env 27 a [(0, v1), (3, .int .i64 x7), (4, .int .i64 x8)] ∧ Sep w (Fo) rs9 ∧ (∀ r, r ∈ rs → r ∈ rs9) ∧ rSl kS v1 l2 ∈ rs9 ∧ m_cantonlaw17_GreatLog_l1 l2 k1 x7 x8 = some r) (30002) ?_ ?_
    · exact ⟨(l2.length : Int), 0, _, (((E.nil.keep E 4 rfl).keep E 3 rfl).keep E 0 rfl), H, fun r hr => hr, hr3, hm⟩
    · clear E H hm
      rintro k1 a w ⟨x7, x8, rs9, E, H, hs10, hr11, hm⟩
      cases k1 with
      | zero => exact (none_some hm rfl).elim
      | succ k1 =>
        unfold m_cantonlaw17_GreatLog_l1 at hm
        refine wp_seq ?_
        refine wp_seq ?_
        refine wp_region_lit ?_
        refine st_val E (wn rfl) rfl rfl (x_move E rfl rfl) ?_
        clear E; clear a; intro a E
        refine st_val E (wn rfl) rfl rfl (x_move E rfl rfl) ?_
        clear E; clear a; intro a E
        refine st_val E (wn rfl) rfl rfl (x_lenS E H rfl rfl hr11 Try.underlying22) ?_
        clear E; clear a; intro a E
        refine st_val E (wn rfl) rfl rfl (x_bin E rfl rfl rfl rfl) ?_
        clear E; clear a; intro a E
        refine st_val E (wn rfl) rfl rfl (x_move E rfl rfl) ?_
        clear E; clear a; intro a E
        rcases Bool.eq_false_or_eq_true (decide (x8 < (l2.length : Int))) with hb12 | hb12
        · rw [if_t hb12] at hm
          refine st_val E (ws' E rfl rfl rfl rfl hb12) rfl rfl (x_move E rfl rfl) ?_
          clear E; clear a; intro a E
          refine st_val E (ws' E rfl rfl rfl rfl hb12) rfl rfl (x_bin E rfl rfl rfl rfl) ?_
          clear E; clear a; intro a E
          refine st_val E (wn rfl) rfl rfl (x_pickT E rfl rfl hb12 rfl) ?_
          clear E; clear a; intro a E
          refine wpList_nil ?_
          refine q_then ?_
          refine wp_if E rfl ?_ ?_
          · intro hb
            rw [if_t hb] at hm
            clear hb
            refine wp_skip ?_
            refine q_then ?_
            refine wp_seq ?_
            refine wp_block ?_
            refine wp_region_lit ?_
            refine st_val E (wn rfl) rfl rfl (x_move E rfl rfl) ?_
            clear E; clear a; intro a E
            refine st_val E (wn rfl) rfl rfl (x_move E rfl rfl) ?_
            clear E; clear a; intro a E
            refine st_val E (wn rfl) rfl rfl (x_move E rfl rfl) ?_
            clear E; clear a; intro a E
            obtain ⟨x13, hx14, hm⟩ := bnd hm
            refine st_ixS E H (wn rfl) rfl rfl rfl rfl rfl hr11 Try.underlying22 sz9 hx14 ?_
            clear E H; clear a; intro q15 a H E
            refine st_val E (wn rfl) rfl rfl (x_ldA E H rfl rfl (.head _) Try.underlying9 rfl) ?_
            clear E; clear a; intro a E
            refine st_val E (wn rfl) rfl rfl (x_lenStr E rfl rfl Try.underlying9) ?_
            clear E; clear a; intro a E
            refine st_val E (wn rfl) rfl rfl (x_min (t := 0) E rfl rfl rfl) ?_
            clear E; clear a; intro a E
            refine st_val E (wn rfl) rfl rfl (x_bin E rfl rfl rfl rfl) ?_
            clear E; clear a; intro a E
            refine st_val E (wn rfl) rfl rfl (x_assign E rfl rfl) ?_
            clear E; clear a; intro a E
            refine wpList_nil ?_
            refine q_blk ?_
            refine q_then ?_
            refine wp_region_lit ?_
            refine st_val E (wn rfl) rfl rfl (x_move E rfl rfl) ?_
            clear E; clear a; intro a E
            refine st_val E (wn rfl) rfl rfl (x_bin E rfl rfl rfl rfl) ?_
            clear E; clear a; intro a E
            refine st_val E (wn rfl) rfl rfl (x_assign E rfl rfl) ?_
            clear E; clear a; intro a E
            refine wpList_nil ?_
            refine q_then ?_
            exact ⟨k1, Nat.lt_succ_self k1, IntKind.i64.wrap (x7 + (min (x13.size : Int) 30000)), IntKind.i64.wrap (x8 + 1), _, (((E.nil.keep E 4 rfl).keep E 3 rfl).keep E 0 rfl), H, fun r hr => .tail _ (hs10 r hr), (.tail _ hr11), hm⟩
          · intro hb
            rw [if_f hb] at hm
            clear hb
            refine wp_exit ?_
            refine q_thenX ?_
            refine q_thenX ?_
            refine q_hit ?_
            refine q_then ?_
            exact ⟨x7, _, (E.nil.keep E 3 rfl), H, hs10, hm⟩
        · rw [if_f hb12] at hm
          refine st_no E (wf' E rfl rfl rfl rfl hb12 rfl) rfl rfl ?_
          clear E; clear a; intro a E
          refine st_no E (wf' E rfl rfl rfl rfl hb12 rfl) rfl rfl ?_
          clear E; clear a; intro a E
          refine st_val E (wn rfl) rfl rfl (x_pickF E rfl rfl hb12 rfl) ?_
          clear E; clear a; intro a E
          refine wpList_nil ?_
          refine q_then ?_
          refine wp_cond_false (E.eval rfl) ?_
          refine wp_exit ?_
          refine q_thenX ?_
          refine q_thenX ?_
          refine q_hit ?_
          refine q_then ?_
          exact ⟨x7, _, (E.nil.keep E 3 rfl), H, hs10, hm⟩
  · clear E H hm
    rintro a w ⟨x4, rs5, E, H, hs6, hm⟩
    unfold m_cantonlaw17_GreatLog_j1 at hm
    refine wp_seq ?_
    refine wp_region_lit ?_
    refine st_val E (wn rfl) rfl rfl (x_move E rfl rfl) ?_
    clear E; clear a; intro a E
    refine st_val E (wn rfl) rfl rfl (x_bin E rfl rfl rfl rfl) ?_
    clear E; clear a; intro a E
    refine st_val E (wn rfl) rfl rfl (x_assign E rfl rfl) ?_
    clear E; clear a; intro a E
    refine wpList_nil ?_
    refine q_then ?_
    refine wp_ret ?_
    refine out1 E rfl rfl ?_
    obtain rfl := Option.some.inj hm
    exact ⟨rfl, H.reads (fun r hr => hs6 r hr)⟩
end Go.Cb

set_option linter.unusedVariables false
set_option linter.unusedSimpArgs false
namespace Go.Cb
open Go.Proofs Go.RowKit
def m_cantonlaw17_LetterTells_j2 (l6 : List Int) (u16 : Bool) (b36 : Bool) : Option Bool :=
  if b36 = true then (some (false)) else ((m_letter_Get l6).bind fun u40 => (m_cantonref17_Get l6).bind fun u46 => (m_letter_GetSaved l6).bind fun u52 => (m_cantonref17_GetSaved l6).bind fun u58 => if u16 = true then ((m_cantonref17_Same (⟨u40.1.Kind, u40.1.View, u40.1.Normal, u40.1.Len, u40.1.Stays, u40.1.Log, u40.1.Num, u40.1.Text⟩ : S_api_Letter) (⟨u46.1.Kind, u46.1.View, u46.1.Normal, u46.1.Len, u46.1.Stays, u46.1.Log, u46.1.Num, u46.1.Text⟩ : S_api_Letter)).bind fun u65 => if u65 = true then (if (u40.2 == u46.2) = true then ((m_cantonlaw17_sameSaved (⟨u52.1.View, u52.1.Normal, u52.1.Log⟩ : S_api_Saved) (⟨u58.1.View, u58.1.Normal, u58.1.Log⟩ : S_api_Saved)).bind fun u69 => if u69 = true then (some (u52.2 == u58.2)) else (some (false))) else (some (false))) else (some (false))) else (some (false)))
def m_cantonlaw17_LetterTells_j1 (l6 : List Int) (u16 : Bool) (x1 : S_api_Letter) (x3 : S_api_Saved) (b18 : Bool) : Option Bool :=
  if b18 = true then (some (u16)) else ((m_letter_Put (⟨x1.Kind, x1.View, x1.Normal, x1.Len, x1.Stays, x1.Log, x1.Num, x1.Text⟩ : S_api_Letter)).bind fun u24 => (m_cantonref17_Put (⟨x1.Kind, x1.View, x1.Normal, x1.Len, x1.Stays, x1.Log, x1.Num, x1.Text⟩ : S_api_Letter)).bind fun u27 => (m_letter_PutSaved (⟨x3.View, x3.Normal, x3.Log⟩ : S_api_Saved)).bind fun u30 => (m_cantonref17_PutSaved (⟨x3.View, x3.Normal, x3.Log⟩ : S_api_Saved)).bind fun u33 => if (!(sEq (strOf u24.1) (strOf u27.1))) = true then (m_cantonlaw17_LetterTells_j2 l6 u16 true) else (if (u24.2 != u27.2) = true then (m_cantonlaw17_LetterTells_j2 l6 u16 true) else (if (!(sEq (strOf u30.1) (strOf u33.1))) = true then (m_cantonlaw17_LetterTells_j2 l6 u16 true) else (m_cantonlaw17_LetterTells_j2 l6 u16 (u30.2 != u33.2)))))
def m_cantonlaw17_LetterTells (x1 : S_api_Letter) (x3 : S_api_Saved) (l6 : List Int) : Option Bool :=
  m_cantonlaw17_head.bind fun u16 => (m_cantonlaw17_GreatLog x1.Log).bind fun u75 => if u75 = true then (m_cantonlaw17_LetterTells_j1 l6 u16 x1 x3 true) else ((m_cantonlaw17_GreatLog x3.Log).bind fun u78 => if u78 = true then (m_cantonlaw17_LetterTells_j1 l6 u16 x1 x3 true) else (if (decide ((x1.Text.size : Int) > 20000)) = true then (m_cantonlaw17_LetterTells_j1 l6 u16 x1 x3 true) else (m_cantonlaw17_LetterTells_j1 l6 u16 x1 x3 (decide ((l6.length : Int) > 20000)))))
set_option maxRecDepth 20000 in
set_option maxHeartbeats 1000000 in
theorem c_cantonlaw17_LetterTells {w : World} {Fo : List Ob} {rs : List Rp} (x1 : S_api_Letter) (v2 : Value) (x3 : S_api_Saved) (v4 : Value) (v5 : Value) (l6 : List Int) (H : Sep w (Fo) rs) (hr7 : rSl kS v2 x1.Log ∈ rs) (hr8 : rSl kS v4 x3.Log ∈ rs) (hr9 : rSl (kI .u8) v5 l6 ∈ rs) {r : Bool} (hm : m_cantonlaw17_LetterTells x1 x3 l6 = some r) :
    Calls Try.prog 3 [.agg #[.int .i64 x1.Kind, .int .i64 x1.View, .int .i64 x1.Normal, .int .i64 x1.Len, .int .i64 x1.Stays, v2, .int .i64 x1.Num, .string x1.Text], .agg #[.int .i64 x3.View, .int .i64 x3.Normal, v4], v5].toArray w (Ret fun v w' => .bool r = v ∧ Sep w' (Fo) (rs)) := by
  unfold m_cantonlaw17_LetterTells at hm
  refine enter Try.func3 rfl Try.ntmps3 rfl fun a E => ?_
  simp only [enum, Nat.reduceAdd] at E
  refine wp_seq ?_
  refine wp_region_lit ?_
  obtain ⟨q11, x12, rfl⟩ := H.slform hr7
  refine st_box E H (wn rfl) rfl rfl (cs := [.int .i64 x1.Kind, .int .i64 x1.View, .int .i64 x1.Normal, .int .i64 x1.Len, .int .i64 x1.Stays, (.slice q11 x1.Log.length x12), .int .i64 x1.Num, .string x1.Text]) rfl rfl rfl ?_
  clear E H; clear a; clear w; intro p10 w a H E
  obtain ⟨q14, x15, rfl⟩ := H.slform hr8
  refine st_box E H (wn rfl) rfl rfl (cs := [.int .i64 x3.View, .int .i64 x3.Normal, (.slice q14 x3.Log.length x15)]) rfl rfl rfl ?_
  clear E H; clear a; clear w; intro p13 w a H E
  refine st_val E (wn rfl) rfl rfl (x_assign E rfl rfl) ?_
  clear E; clear a; intro a E
  refine wpList_nil ?_
  refine q_then ?_
  refine wp_seq ?_
  refine wp_region_lit ?_
  replace H : Sep w (Blk p13 26 [.int .i64 x3.View, .int .i64 x3.Normal, (.slice q14 x3.Log.length x15)] :: Blk p10 24 [.int .i64 x1.Kind, .int .i64 x1.View, .int .i64 x1.Normal, .int .i64 x1.Len, .int .i64 x1.Stays, (.slice q11 x1.Log.length x12), .int .i64 x1.Num, .string x1.Text] :: Fo) (rs) := H
  obtain ⟨u16, hx17, hm⟩ := bnd hm
  refine st_call E (wn rfl) rfl rfl (x_call E rfl rfl (cf9 _)) (c_cantonlaw17_head H hx17) ?_
  clear E H; clear a; clear w; rintro _ w ⟨rfl, H⟩ a E
  refine st_val E (wn rfl) rfl rfl (x_assign E rfl rfl) ?_
  clear E; clear a; intro a E
  refine wpList_nil ?_
  refine q_then ?_
  refine wp_seq ?_
  refine wp_seq_cut (fun a w => ∃ (b18 : Bool) (rs19 : List Rp), Env 128 a [(2, v5), (3, .pointer (some ⟨p10, 0, none⟩)), (4, .pointer (some ⟨p13, 0, none⟩)), (7, .bool u16), (43, .bool b18)] ∧ Sep w (Blk p10 24 [.int .i64 x1.Kind, .int .i64 x1.View, .int .i64 x1.Normal, .int .i64 x1.Len, .int .i64 x1.Stays, (.slice q11 x1.Log.length x12), .int .i64 x1.Num, .string x1.Text] :: Blk p13 26 [.int .i64 x3.View, .int .i64 x3.Normal, (.slice q14 x3.Log.length x15)] :: Fo) rs19 ∧ (∀ r, r ∈ rs → r ∈ rs19) ∧ rSl (kI .u8) v5 l6 ∈ rs19 ∧ rSl kS (.slice q11 x1.Log.length x12) x1.Log ∈ rs19 ∧ rSl kS (.slice q14 x3.Log.length x15) x3.Log ∈ rs19 ∧ m_cantonlaw17_LetterTells_j1 l6 u16 x1 x3 b18 = some r) ?_ ?_
  · refine wp_region_lit ?_
    refine st_val E (wn rfl) rfl rfl (x_fa E rfl rfl (v := .pointer (some ⟨p10, 5, none⟩)) (fa24_5 _ _)) ?_
    clear E; clear a; intro a E
    refine st_val E (wn rfl) rfl rfl (x_ldB (i := 1) E H rfl rfl rfl rfl Try.underlying22 rfl) ?_
    clear E; clear a; intro a E
    replace H : Sep w (Blk p13 26 [.int .i64 x3.View, .int .i64 x3.Normal, (.slice q14 x3.Log.length x15)] :: Blk p10 24 [.int .i64 x1.Kind, .int .i64 x1.View, .int .i64 x1.Normal, .int .i64 x1.Len, .int .i64 x1.Stays, (.slice q11 x1.Log.length x12), .int .i64 x1.Num, .string x1.Text] :: Fo) (rs) := H
    obtain ⟨u75, hx76, hm⟩ := bnd hm
    refine st_call E (wn rfl) rfl rfl (x_call E rfl rfl (cf10 _)) (c_cantonlaw17_GreatLog (.slice q11 x1.Log.length x12) x1.Log H hr7 hx76) ?_
    clear E H; clear a; clear w; rintro _ w ⟨rfl, H⟩ a E
    refine st_val E (wn rfl) rfl rfl (x_move E rfl rfl) ?_
    clear E; clear a; intro a E
    rcases Bool.eq_false_or_eq_true u75 with hb77 | hb77
    · rw [if_t hb77] at hm
      refine st_no E (wf' E rfl rfl rfl rfl hb77 rfl) rfl rfl ?_
      clear E; clear a; intro a E
      refine st_no E (wf' E rfl rfl rfl rfl hb77 rfl) rfl rfl ?_
      clear E; clear a; intro a E
      refine st_no E (wf' E rfl rfl rfl rfl hb77 rfl) rfl rfl ?_
      clear E; clear a; intro a E
      refine st_val E (wn rfl) rfl rfl (x_pickT E rfl rfl hb77 rfl) ?_
      clear E; clear a; intro a E
      refine st_val E (wn rfl) rfl rfl (x_move E rfl rfl) ?_
      clear E; clear a; intro a E
      refine st_no E (wf E rfl rfl rfl rfl rfl) rfl rfl ?_
      clear E; clear a; intro a E
      refine st_no E (wf E rfl rfl rfl rfl rfl) rfl rfl ?_
      clear E; clear a; intro a E
      refine st_no E (wf E rfl rfl rfl rfl rfl) rfl rfl ?_
      clear E; clear a; intro a E
      refine st_no E (wf E rfl rfl rfl rfl rfl) rfl rfl ?_
      clear E; clear a; intro a E
      refine st_val E (wn rfl) rfl rfl (x_pickT E rfl rfl rfl rfl) ?_
      clear E; clear a; intro a E
      refine st_val E (wn rfl) rfl rfl (x_move E rfl rfl) ?_
      clear E; clear a; intro a E
      refine st_no E (wf E rfl rfl rfl rfl rfl) rfl rfl ?_
      clear E; clear a; intro a E
      refine st_no E (wf E rfl rfl rfl rfl rfl) rfl rfl ?_
      clear E; clear a; intro a E
      refine st_no E (wf E rfl rfl rfl rfl rfl) rfl rfl ?_
      clear E; clear a; intro a E
      refine st_val E (wn rfl) rfl rfl (x_pickT E rfl rfl rfl rfl) ?_
      clear E; clear a; intro a E
      refine wpList_nil ?_
      refine q_then ?_
      replace H := H.front 0 rfl
      replace H := H.front 1 rfl
      exact ⟨true, _, (((((E.nil.keep E 43 rfl).keep E 7 rfl).keep E 4 rfl).keep E 3 rfl).keep E 2 rfl), H, fun r hr => hr, hr9, hr7, hr8, hm⟩
    · rw [if_f hb77] at hm
      refine st_val E (ws' E rfl rfl rfl rfl hb77) rfl rfl (x_fa E rfl rfl (v := .pointer (some ⟨p13, 2, none⟩)) (fa26_2 _ _)) ?_
      clear E; clear a; intro a E
      refine st_val E (ws' E rfl rfl rfl rfl hb77) rfl rfl (x_ldB (i := 0) E H rfl rfl rfl rfl Try.underlying22 rfl) ?_
      clear E; clear a; intro a E
      replace H : Sep w (Blk p13 26 [.int .i64 x3.View, .int .i64 x3.Normal, (.slice q14 x3.Log.length x15)] :: Blk p10 24 [.int .i64 x1.Kind, .int .i64 x1.View, .int .i64 x1.Normal, .int .i64 x1.Len, .int .i64 x1.Stays, (.slice q11 x1.Log.length x12), .int .i64 x1.Num, .string x1.Text] :: Fo) (rs) := H
      obtain ⟨u78, hx79, hm⟩ := bnd hm
      refine st_call E (ws' E rfl rfl rfl rfl hb77) rfl rfl (x_call E rfl rfl (cf10 _)) (c_cantonlaw17_GreatLog (.slice q14 x3.Log.length x15) x3.Log H hr8 hx79) ?_
      clear E H; clear a; clear w; rintro _ w ⟨rfl, H⟩ a E
      refine st_val E (wn rfl) rfl rfl (x_pickF E rfl rfl hb77 rfl) ?_
      clear E; clear a; intro a E
      refine st_val E (wn rfl) rfl rfl (x_move E rfl rfl) ?_
      clear E; clear a; intro a E
      rcases Bool.eq_false_or_eq_true u78 with hb80 | hb80
      · rw [if_t hb80] at hm
        refine st_no E (wf' E rfl rfl rfl rfl hb80 rfl) rfl rfl ?_
        clear E; clear a; intro a E
        refine st_no E (wf' E rfl rfl rfl rfl hb80 rfl) rfl rfl ?_
        clear E; clear a; intro a E
        refine st_no E (wf' E rfl rfl rfl rfl hb80 rfl) rfl rfl ?_
        clear E; clear a; intro a E
        refine st_no E (wf' E rfl rfl rfl rfl hb80 rfl) rfl rfl ?_
        clear E; clear a; intro a E
        refine st_val E (wn rfl) rfl rfl (x_pickT E rfl rfl hb80 rfl) ?_
        clear E; clear a; intro a E
        refine st_val E (wn rfl) rfl rfl (x_move E rfl rfl) ?_
        clear E; clear a; intro a E
        refine st_no E (wf E rfl rfl rfl rfl rfl) rfl rfl ?_
        clear E; clear a; intro a E
        refine st_no E (wf E rfl rfl rfl rfl rfl) rfl rfl ?_
        clear E; clear a; intro a E
        refine st_no E (wf E rfl rfl rfl rfl rfl) rfl rfl ?_
        clear E; clear a; intro a E
        refine st_val E (wn rfl) rfl rfl (x_pickT E rfl rfl rfl rfl) ?_
        clear E; clear a; intro a E
        refine wpList_nil ?_
        refine q_then ?_
        replace H := H.front 0 rfl
        replace H := H.front 1 rfl
        exact ⟨true, _, (((((E.nil.keep E 43 rfl).keep E 7 rfl).keep E 4 rfl).keep E 3 rfl).keep E 2 rfl), H, fun r hr => hr, hr9, hr7, hr8, hm⟩
      · rw [if_f hb80] at hm
        refine st_val E (ws' E rfl rfl rfl rfl hb80) rfl rfl (x_fa E rfl rfl (v := .pointer (some ⟨p10, 7, none⟩)) (fa24_7 _ _)) ?_
        clear E; clear a; intro a E
        refine st_val E (ws' E rfl rfl rfl rfl hb80) rfl rfl (x_ldB (i := 1) E H rfl rfl rfl rfl Try.underlying9 rfl) ?_
        clear E; clear a; intro a E
        refine st_val E (ws' E rfl rfl rfl rfl hb80) rfl rfl (x_lenStr E rfl rfl Try.underlying9) ?_
        clear E; clear a; intro a E
        refine st_val E (ws' E rfl rfl rfl rfl hb80) rfl rfl (x_bin E rfl rfl rfl rfl) ?_
        clear E; clear a; intro a E
        refine st_val E (wn rfl) rfl rfl (x_pickF E rfl rfl hb80 rfl) ?_
        clear E; clear a; intro a E
        refine st_val E (wn rfl) rfl rfl (x_move E rfl rfl) ?_
        clear E; clear a; intro a E
        rcases Bool.eq_false_or_eq_true (decide ((x1.Text.size : Int) > 20000)) with hb81 | hb81
        · rw [if_t hb81] at hm
          refine st_no E (wf' E rfl rfl rfl rfl hb81 rfl) rfl rfl ?_
          clear E; clear a; intro a E
          refine st_no E (wf' E rfl rfl rfl rfl hb81 rfl) rfl rfl ?_
          clear E; clear a; intro a E
          refine st_no E (wf' E rfl rfl rfl rfl hb81 rfl) rfl rfl ?_
          clear E; clear a; intro a E
          refine st_val E (wn rfl) rfl rfl (x_pickT E rfl rfl hb81 rfl) ?_
          clear E; clear a; intro a E
          refine wpList_nil ?_
          refine q_then ?_
          replace H := H.front 0 rfl
          replace H := H.front 1 rfl
          exact ⟨true, _, (((((E.nil.keep E 43 rfl).keep E 7 rfl).keep E 4 rfl).keep E 3 rfl).keep E 2 rfl), H, fun r hr => hr, hr9, hr7, hr8, hm⟩
        · rw [if_f hb81] at hm
          refine st_val E (ws' E rfl rfl rfl rfl hb81) rfl rfl (x_move E rfl rfl) ?_
          clear E; clear a; intro a E
          refine st_val E (ws' E rfl rfl rfl rfl hb81) rfl rfl (x_lenS E H rfl rfl hr9 Try.underlying27) ?_
          clear E; clear a; intro a E
          refine st_val E (ws' E rfl rfl rfl rfl hb81) rfl rfl (x_bin E rfl rfl rfl rfl) ?_
          clear E; clear a; intro a E
          refine st_val E (wn rfl) rfl rfl (x_pickF E rfl rfl hb81 rfl) ?_
          clear E; clear a; intro a E
          refine wpList_nil ?_
          refine q_then ?_
          replace H := H.front 0 rfl
          replace H := H.front 1 rfl
          exact ⟨decide ((l6.length : Int) > 20000), _, (((((E.nil.keep E 43 rfl).keep E 7 rfl).keep E 4 rfl).keep E 3 rfl).keep E 2 rfl), H, fun r hr => hr, hr9, hr7, hr8, hm⟩
  · clear E H hm
    rintro a w ⟨b18, rs19, E, H, hs20, hr21, hr22, hr23, hm⟩
    unfold m_cantonlaw17_LetterTells_j1 at hm
    refine wp_if E rfl ?_ ?_
    · intro hb
      rw [if_t hb] at hm
      clear hb
      refine wp_seq ?_
      refine wp_region_lit ?_
      refine st_val E (wn rfl) rfl rfl (x_move E rfl rfl) ?_
      clear E; clear a; intro a E
      refine st_val E (wn rfl) rfl rfl (x_assign E rfl rfl) ?_
      clear E; clear a; intro a E
      refine wpList_nil ?_
      refine q_then ?_
      refine wp_ret ?_
      refine q_thenR ?_
      refine out1 E rfl rfl ?_
      replace H := H.drop 0
      replace H := H.drop 0
      obtain rfl := Option.some.inj hm
      exact ⟨rfl, H.reads (fun r hr => hs20 r hr)⟩
    · intro hb
      rw [if_f hb] at hm
      clear hb
      refine wp_skip ?_
      refine q_then ?_
      refine wp_seq ?_
      refine wp_region_lit ?_
      refine st_val E (wn rfl) rfl rfl (x_ldBN (i := 0) (us := [.int .i64 x1.Kind, .int .i64 x1.View, .int .i64 x1.Normal, .int .i64 x1.Len, .int .i64 x1.Stays, (.slice q11 x1.Log.length x12), .int .i64 x1.Num, .string x1.Text]) E H rfl rfl rfl rfl Try.underlying24 rfl sz24) ?_
      clear E; clear a; intro a E
      replace H : Sep w (Blk p10 24 [.int .i64 x1.Kind, .int .i64 x1.View, .int .i64 x1.Normal, .int .i64 x1.Len, .int .i64 x1.Stays, (.slice q11 x1.Log.length x12), .int .i64 x1.Num, .string x1.Text] :: Blk p13 26 [.int .i64 x3.View, .int .i64 x3.Normal, (.slice q14 x3.Log.length x15)] :: Fo) (rs19) := H
      obtain ⟨u24, hx25, hm⟩ := bnd hm
      refine st_call E (wn rfl) rfl rfl (x_call E rfl rfl (cf11 _)) (c_letter_Put (⟨x1.Kind, x1.View, x1.Normal, x1.Len, x1.Stays, x1.Log, x1.Num, x1.Text⟩ : S_api_Letter) (.slice q11 x1.Log.length x12) H hr22 hx25) ?_
      clear E H; clear a; clear w; rintro _ w ⟨v26, rfl, H⟩ a E
      refine st_val E (wn rfl) rfl rfl (x_move E rfl rfl) ?_
      clear E; clear a; intro a E
      refine st_val E (wn rfl) rfl rfl (x_ext E rfl rfl rfl) ?_
      clear E; clear a; intro a E
      refine st_val E (wn rfl) rfl rfl (x_ext E rfl rfl rfl) ?_
      clear E; clear a; intro a E
      refine st_val E (wn rfl) rfl rfl (x_assign E rfl rfl) ?_
      clear E; clear a; intro a E
      refine st_val E (wn rfl) rfl rfl (x_assign E rfl rfl) ?_
      clear E; clear a; intro a E
      refine wpList_nil ?_
      refine q_then ?_
      refine wp_seq ?_
      refine wp_region_lit ?_
      refine st_val E (wn rfl) rfl rfl (x_ldBN (i := 1) (us := [.int .i64 x1.Kind, .int .i64 x1.View, .int .i64 x1.Normal, .int .i64 x1.Len, .int .i64 x1.Stays, (.slice q11 x1.Log.length x12), .int .i64 x1.Num, .string x1.Text]) E H rfl rfl rfl rfl Try.underlying24 rfl sz24) ?_
      clear E; clear a; intro a E
      replace H : Sep w (Row 5 (kI .u8) v26 u24.1 :: Blk p10 24 [.int .i64 x1.Kind, .int .i64 x1.View, .int .i64 x1.Normal, .int .i64 x1.Len, .int .i64 x1.Stays, (.slice q11 x1.Log.length x12), .int .i64 x1.Num, .string x1.Text] :: Blk p13 26 [.int .i64 x3.View, .int .i64 x3.Normal, (.slice q14 x3.Log.length x15)] :: Fo) (rs19) := H
      obtain ⟨u27, hx28, hm⟩ := bnd hm
      refine st_call E (wn rfl) rfl rfl (x_call E rfl rfl (cf12 _)) (c_cantonref17_Put (⟨x1.Kind, x1.View, x1.Normal, x1.Len, x1.Stays, x1.Log, x1.Num, x1.Text⟩ : S_api_Letter) (.slice q11 x1.Log.length x12) H hr22 hx28) ?_
      clear E H; clear a; clear w; rintro _ w ⟨v29, rfl, H⟩ a E
      refine st_val E (wn rfl) rfl rfl (x_move E rfl rfl) ?_
      clear E; clear a; intro a E
      refine st_val E (wn rfl) rfl rfl (x_ext E rfl rfl rfl) ?_
      clear E; clear a; intro a E
      refine st_val E (wn rfl) rfl rfl (x_ext E rfl rfl rfl) ?_
      clear E; clear a; intro a E
      refine st_val E (wn rfl) rfl rfl (x_assign E rfl rfl) ?_
      clear E; clear a; intro a E
      refine st_val E (wn rfl) rfl rfl (x_assign E rfl rfl) ?_
      clear E; clear a; intro a E
      refine wpList_nil ?_
      refine q_then ?_
      refine wp_seq ?_
      refine wp_region_lit ?_
      refine st_val E (wn rfl) rfl rfl (x_ldBN (i := 3) (us := [.int .i64 x3.View, .int .i64 x3.Normal, (.slice q14 x3.Log.length x15)]) E H rfl rfl rfl rfl Try.underlying26 rfl sz26) ?_
      clear E; clear a; intro a E
      replace H : Sep w (Row 5 (kI .u8) v29 u27.1 :: Row 5 (kI .u8) v26 u24.1 :: Blk p10 24 [.int .i64 x1.Kind, .int .i64 x1.View, .int .i64 x1.Normal, .int .i64 x1.Len, .int .i64 x1.Stays, (.slice q11 x1.Log.length x12), .int .i64 x1.Num, .string x1.Text] :: Blk p13 26 [.int .i64 x3.View, .int .i64 x3.Normal, (.slice q14 x3.Log.length x15)] :: Fo) (rs19) := H
      obtain ⟨u30, hx31, hm⟩ := bnd hm
      refine st_call E (wn rfl) rfl rfl (x_call E rfl rfl (cf13 _)) (c_letter_PutSaved (⟨x3.View, x3.Normal, x3.Log⟩ : S_api_Saved) (.slice q14 x3.Log.length x15) H hr23 hx31) ?_
      clear E H; clear a; clear w; rintro _ w ⟨v32, rfl, H⟩ a E
      refine st_val E (wn rfl) rfl rfl (x_move E rfl rfl) ?_
      clear E; clear a; intro a E
      refine st_val E (wn rfl) rfl rfl (x_ext E rfl rfl rfl) ?_
      clear E; clear a; intro a E
      refine st_val E (wn rfl) rfl rfl (x_ext E rfl rfl rfl) ?_
      clear E; clear a; intro a E
      refine st_val E (wn rfl) rfl rfl (x_assign E rfl rfl) ?_
      clear E; clear a; intro a E
      refine st_val E (wn rfl) rfl rfl (x_assign E rfl rfl) ?_
      clear E; clear a; intro a E
      refine wpList_nil ?_
      refine q_then ?_
      refine wp_seq ?_
      refine wp_region_lit ?_
      refine st_val E (wn rfl) rfl rfl (x_ldBN (i := 4) (us := [.int .i64 x3.View, .int .i64 x3.Normal, (.slice q14 x3.Log.length x15)]) E H rfl rfl rfl rfl Try.underlying26 rfl sz26) ?_
      clear E; clear a; intro a E
      replace H : Sep w (Row 5 (kI .u8) v32 u30.1 :: Row 5 (kI .u8) v29 u27.1 :: Row 5 (kI .u8) v26 u24.1 :: Blk p10 24 [.int .i64 x1.Kind, .int .i64 x1.View, .int .i64 x1.Normal, .int .i64 x1.Len, .int .i64 x1.Stays, (.slice q11 x1.Log.length x12), .int .i64 x1.Num, .string x1.Text] :: Blk p13 26 [.int .i64 x3.View, .int .i64 x3.Normal, (.slice q14 x3.Log.length x15)] :: Fo) (rs19) := H
      obtain ⟨u33, hx34, hm⟩ := bnd hm
      refine st_call E (wn rfl) rfl rfl (x_call E rfl rfl (cf14 _)) (c_cantonref17_PutSaved (⟨x3.View, x3.Normal, x3.Log⟩ : S_api_Saved) (.slice q14 x3.Log.length x15) H hr23 hx34) ?_
      clear E H; clear a; clear w; rintro _ w ⟨v35, rfl, H⟩ a E
      refine st_val E (wn rfl) rfl rfl (x_move E rfl rfl) ?_
      clear E; clear a; intro a E
      refine st_val E (wn rfl) rfl rfl (x_ext E rfl rfl rfl) ?_
      clear E; clear a; intro a E
      refine st_val E (wn rfl) rfl rfl (x_ext E rfl rfl rfl) ?_
      clear E; clear a; intro a E
      refine st_val E (wn rfl) rfl rfl (x_assign E rfl rfl) ?_
      clear E; clear a; intro a E
      refine st_val E (wn rfl) rfl rfl (x_assign E rfl rfl) ?_
      clear E; clear a; intro a E
      refine wpList_nil ?_
      refine q_then ?_
      refine wp_seq ?_
      refine wp_seq_cut (fun a w => ∃ (b36 : Bool) (rs37 : List Rp), Env 128 a [(2, v5), (7, .bool u16), (86, .bool b36)] ∧ Sep w (Fo) rs37 ∧ (∀ r, r ∈ rs → r ∈ rs37) ∧ rSl (kI .u8) v5 l6 ∈ rs37 ∧ m_cantonlaw17_LetterTells_j2 l6 u16 b36 = some r) ?_ ?_
      · refine wp_region_lit ?_
        refine st_val E (wn rfl) rfl rfl (x_move E rfl rfl) ?_
        clear E; clear a; intro a E
        replace H := H.thaw (i := 3) rfl
        refine st_val E (wn rfl) rfl rfl (x_b2s E H rfl rfl (.head _) Try.underlying27 Try.underlying5 Try.underlying9) ?_
        clear E; clear a; intro a E
        refine st_val E (wn rfl) rfl rfl (x_move E rfl rfl) ?_
        clear E; clear a; intro a E
        replace H := H.thaw (i := 2) rfl
        refine st_val E (wn rfl) rfl rfl (x_b2s E H rfl rfl (.head _) Try.underlying27 Try.underlying5 Try.underlying9) ?_
        clear E; clear a; intro a E
        refine st_val E (wn rfl) rfl rfl (x_str E rfl rfl rfl rfl) ?_
        clear E; clear a; intro a E
        refine st_val E (wn rfl) rfl rfl (x_move E rfl rfl) ?_
        clear E; clear a; intro a E
        rcases Bool.eq_false_or_eq_true (!(sEq (strOf u24.1) (strOf u27.1))) with hb72 | hb72
        · rw [if_t hb72] at hm
          refine st_no E (wf' E rfl rfl rfl rfl hb72 rfl) rfl rfl ?_
          clear E; clear a; intro a E
          refine st_no E (wf' E rfl rfl rfl rfl hb72 rfl) rfl rfl ?_
          clear E; clear a; intro a E
          refine st_no E (wf' E rfl rfl rfl rfl hb72 rfl) rfl rfl ?_
          clear E; clear a; intro a E
          refine st_val E (wn rfl) rfl rfl (x_pickT E rfl rfl hb72 rfl) ?_
          clear E; clear a; intro a E
          refine st_val E (wn rfl) rfl rfl (x_move E rfl rfl) ?_
          clear E; clear a; intro a E
          refine st_no E (wf E rfl rfl rfl rfl rfl) rfl rfl ?_
          clear E; clear a; intro a E
          refine st_no E (wf E rfl rfl rfl rfl rfl) rfl rfl ?_
          clear E; clear a; intro a E
          refine st_no E (wf E rfl rfl rfl rfl rfl) rfl rfl ?_
          clear E; clear a; intro a E
          refine st_no E (wf E rfl rfl rfl rfl rfl) rfl rfl ?_
          clear E; clear a; intro a E
          refine st_no E (wf E rfl rfl rfl rfl rfl) rfl rfl ?_
          clear E; clear a; intro a E
          refine st_val E (wn rfl) rfl rfl (x_pickT E rfl rfl rfl rfl) ?_
          clear E; clear a; intro a E
          refine st_val E (wn rfl) rfl rfl (x_move E rfl rfl) ?_
          clear E; clear a; intro a E
          refine st_no E (wf E rfl rfl rfl rfl rfl) rfl rfl ?_
          clear E; clear a; intro a E
          refine st_no E (wf E rfl rfl rfl rfl rfl) rfl rfl ?_
          clear E; clear a; intro a E
          refine st_no E (wf E rfl rfl rfl rfl rfl) rfl rfl ?_
          clear E; clear a; intro a E
          refine st_val E (wn rfl) rfl rfl (x_pickT E rfl rfl rfl rfl) ?_
          clear E; clear a; intro a E
          refine wpList_nil ?_
          refine q_then ?_
          replace H := H.drop 0
          replace H := H.drop 0
          replace H := H.drop 0
          replace H := H.drop 0
          exact ⟨true, _, (((E.nil.keep E 86 rfl).keep E 7 rfl).keep E 2 rfl), H, fun r hr => .tail _ (.tail _ (hs20 r hr)), (.tail _ (.tail _ hr21)), hm⟩
        · rw [if_f hb72] at hm
          refine st_val E (ws' E rfl rfl rfl rfl hb72) rfl rfl (x_move E rfl rfl) ?_
          clear E; clear a; intro a E
          refine st_val E (ws' E rfl rfl rfl rfl hb72) rfl rfl (x_move E rfl rfl) ?_
          clear E; clear a; intro a E
          refine st_val E (ws' E rfl rfl rfl rfl hb72) rfl rfl (x_bin E rfl rfl rfl rfl) ?_
          clear E; clear a; intro a E
          refine st_val E (wn rfl) rfl rfl (x_pickF E rfl rfl hb72 rfl) ?_
          clear E; clear a; intro a E
          refine st_val E (wn rfl) rfl rfl (x_move E rfl rfl) ?_
          clear E; clear a; intro a E
          rcases Bool.eq_false_or_eq_true (u24.2 != u27.2) with hb73 | hb73
          · rw [if_t hb73] at hm
            refine st_no E (wf' E rfl rfl rfl rfl hb73 rfl) rfl rfl ?_
            clear E; clear a; intro a E
            refine st_no E (wf' E rfl rfl rfl rfl hb73 rfl) rfl rfl ?_
            clear E; clear a; intro a E
            refine st_no E (wf' E rfl rfl rfl rfl hb73 rfl) rfl rfl ?_
            clear E; clear a; intro a E
            refine st_no E (wf' E rfl rfl rfl rfl hb73 rfl) rfl rfl ?_
            clear E; clear a; intro a E
            refine st_no E (wf' E rfl rfl rfl rfl hb73 rfl) rfl rfl ?_
            clear E; clear a; intro a E
            refine st_val E (wn rfl) rfl rfl (x_pickT E rfl rfl hb73 rfl) ?_
            clear E; clear a; intro a E
            refine st_val E (wn rfl) rfl rfl (x_move E rfl rfl) ?_
            clear E; clear a; intro a E
            refine st_no E (wf E rfl rfl rfl rfl rfl) rfl rfl ?_
            clear E; clear a; intro a E
            refine st_no E (wf E rfl rfl rfl rfl rfl) rfl rfl ?_
            clear E; clear a; intro a E
            refine st_no E (wf E rfl rfl rfl rfl rfl) rfl rfl ?_
            clear E; clear a; intro a E
            refine st_val E (wn rfl) rfl rfl (x_pickT E rfl rfl rfl rfl) ?_
            clear E; clear a; intro a E
            refine wpList_nil ?_
            refine q_then ?_
            replace H := H.drop 0
            replace H := H.drop 0
            replace H := H.drop 0
            replace H := H.drop 0
            exact ⟨true, _, (((E.nil.keep E 86 rfl).keep E 7 rfl).keep E 2 rfl), H, fun r hr => .tail _ (.tail _ (hs20 r hr)), (.tail _ (.tail _ hr21)), hm⟩
          · rw [if_f hb73] at hm
            refine st_val E (ws' E rfl rfl rfl rfl hb73) rfl rfl (x_move E rfl rfl) ?_
            clear E; clear a; intro a E
            replace H := H.thaw (i := 1) rfl
            refine st_val E (ws' E rfl rfl rfl rfl hb73) rfl rfl (x_b2s E H rfl rfl (.head _) Try.underlying27 Try.underlying5 Try.underlying9) ?_
            clear E; clear a; intro a E
            refine st_val E (ws' E rfl rfl rfl rfl hb73) rfl rfl (x_move E rfl rfl) ?_
            clear E; clear a; intro a E
            replace H := H.thaw (i := 0) rfl
            refine st_val E (ws' E rfl rfl rfl rfl hb73) rfl rfl (x_b2s E H rfl rfl (.head _) Try.underlying27 Try.underlying5 Try.underlying9) ?_
            clear E; clear a; intro a E
            refine st_val E (ws' E rfl rfl rfl rfl hb73) rfl rfl (x_str E rfl rfl rfl rfl) ?_
            clear E; clear a; intro a E
            refine st_val E (wn rfl) rfl rfl (x_pickF E rfl rfl hb73 rfl) ?_
            clear E; clear a; intro a E
            refine st_val E (wn rfl) rfl rfl (x_move E rfl rfl) ?_
            clear E; clear a; intro a E
            rcases Bool.eq_false_or_eq_true (!(sEq (strOf u30.1) (strOf u33.1))) with hb74 | hb74
            · rw [if_t hb74] at hm
              refine st_no E (wf' E rfl rfl rfl rfl hb74 rfl) rfl rfl ?_
              clear E; clear a; intro a E
              refine st_no E (wf' E rfl rfl rfl rfl hb74 rfl) rfl rfl ?_
              clear E; clear a; intro a E
              refine st_no E (wf' E rfl rfl rfl rfl hb74 rfl) rfl rfl ?_
              clear E; clear a; intro a E
              refine st_val E (wn rfl) rfl rfl (x_pickT E rfl rfl hb74 rfl) ?_
              clear E; clear a; intro a E
              refine wpList_nil ?_
              refine q_then ?_
              replace H := H.drop 0
              replace H := H.drop 0
              exact ⟨true, _, (((E.nil.keep E 86 rfl).keep E 7 rfl).keep E 2 rfl), H, fun r hr => .tail _ (.tail _ (.tail _ (.tail _ (hs20 r hr)))), (.tail _ (.tail _ (.tail _ (.tail _ hr21)))), hm⟩
            · rw [if_f hb74] at hm
              refine st_val E (ws' E rfl rfl rfl rfl hb74) rfl rfl (x_move E rfl rfl) ?_
              clear E; clear a; intro a E
              refine st_val E (ws' E rfl rfl rfl rfl hb74) rfl rfl (x_move E rfl rfl) ?_
              clear E; clear a; intro a E
              refine st_val E (ws' E rfl rfl rfl rfl hb74) rfl rfl (x_bin E rfl rfl rfl rfl) ?_
              clear E; clear a; intro a E
              refine st_val E (wn rfl) rfl rfl (x_pickF E rfl rfl hb74 rfl) ?_
              clear E; clear a; intro a E
              refine wpList_nil ?_
              refine q_then ?_
              replace H := H.drop 0
              replace H := H.drop 0
              exact ⟨u30.2 != u33.2, _, (((E.nil.keep E 86 rfl).keep E 7 rfl).keep E 2 rfl), H, fun r hr => .tail _ (.tail _ (.tail _ (.tail _ (hs20 r hr)))), (.tail _ (.tail _ (.tail _ (.tail _ hr21)))), hm⟩
      · clear E H hm
        rintro a w ⟨b36, rs37, E, H, hs38, hr39, hm⟩
        unfold m_cantonlaw17_LetterTells_j2 at hm
        refine wp_if E rfl ?_ ?_
        · intro hb
          rw [if_t hb] at hm
          clear hb
          refine wp_seq ?_
          refine wp_region_lit ?_
          refine st_val E (wn rfl) rfl rfl (x_assign E rfl rfl) ?_
          clear E; clear a; intro a E
          refine wpList_nil ?_
          refine q_then ?_
          refine wp_ret ?_
          refine q_thenR ?_
          refine out1 E rfl rfl ?_
          obtain rfl := Option.some.inj hm
          exact ⟨rfl, H.reads (fun r hr => hs38 r hr)⟩
        · intro hb
          rw [if_f hb] at hm
          clear hb
          refine wp_skip ?_
          refine q_then ?_
          refine wp_seq ?_
          refine wp_region_lit ?_
          refine st_val E (wn rfl) rfl rfl (x_move E rfl rfl) ?_
          clear E; clear a; intro a E
          replace H : Sep w (Fo) (rs37) := H
          obtain ⟨u40, hx41, hm⟩ := bnd hm
          refine st_call E (wn rfl) rfl rfl (x_call E rfl rfl (cf15 _)) (c_letter_Get v5 l6 H hr39 hx41) ?_
          clear E H; clear a; clear w; rintro _ w ⟨v42, rfl, H⟩ a E
          refine st_val E (wn rfl) rfl rfl (x_move E rfl rfl) ?_
          clear E; clear a; intro a E
          refine st_val E (wn rfl) rfl rfl (x_ext E rfl rfl rfl) ?_
          clear E; clear a; intro a E
          refine st_val E (wn rfl) rfl rfl (x_ext E rfl rfl rfl) ?_
          clear E; clear a; intro a E
          refine st_alloc E H (wn rfl) rfl rfl (cs := [.int .i64 0, .int .i64 0, .int .i64 0, .int .i64 0, .int .i64 0, .slice none 0 0, .int .i64 0, .string (ByteArray.mk #[])]) rfl (z := .agg #[.int .i64 0, .int .i64 0, .int .i64 0, .int .i64 0, .int .i64 0, .slice none 0 0, .int .i64 0, .string ⟨#[]⟩]) (by kernel_rfl) rfl ?_
          clear E H; clear a; clear w; intro p43 w a H E
          obtain ⟨q44, x45, rfl⟩ := H.slform (.head _)
          refine st_st (i := 0) E H (wn rfl) rfl (us := [.int .i64 u40.1.Kind, .int .i64 u40.1.View, .int .i64 u40.1.Normal, .int .i64 u40.1.Len, .int .i64 u40.1.Stays, (.slice q44 u40.1.Log.length x45), .int .i64 u40.1.Num, .string u40.1.Text]) rfl rfl rfl rfl rfl sz24 rfl rfl ?_
          clear H; clear w; intro w H
          replace H : Sep w (Blk p43 24 [.int .i64 u40.1.Kind, .int .i64 u40.1.View, .int .i64 u40.1.Normal, .int .i64 u40.1.Len, .int .i64 u40.1.Stays, (.slice q44 u40.1.Log.length x45), .int .i64 u40.1.Num, .string u40.1.Text] :: Fo) _ := H
          refine st_val E (wn rfl) rfl rfl (x_assign E rfl rfl) ?_
          clear E; clear a; intro a E
          refine wpList_nil ?_
          refine q_then ?_
          refine wp_seq ?_
          refine wp_region_lit ?_
          refine st_val E (wn rfl) rfl rfl (x_move E rfl rfl) ?_
          clear E; clear a; intro a E
          replace H : Sep w (Blk p43 24 [.int .i64 u40.1.Kind, .int .i64 u40.1.View, .int .i64 u40.1.Normal, .int .i64 u40.1.Len, .int .i64 u40.1.Stays, (.slice q44 u40.1.Log.length x45), .int .i64 u40.1.Num, .string u40.1.Text] :: Fo) (rSl kS (.slice q44 u40.1.Log.length x45) u40.1.Log :: rs37) := H
          obtain ⟨u46, hx47, hm⟩ := bnd hm
          refine st_call E (wn rfl) rfl rfl (x_call E rfl rfl (cf16 _)) (c_cantonref17_Get v5 l6 H (.tail _ hr39) hx47) ?_
          clear E H; clear a; clear w; rintro _ w ⟨v48, rfl, H⟩ a E
          refine st_val E (wn rfl) rfl rfl (x_move E rfl rfl) ?_
          clear E; clear a; intro a E
          refine st_val E (wn rfl) rfl rfl (x_ext E rfl rfl rfl) ?_
          clear E; clear a; intro a E
          refine st_val E (wn rfl) rfl rfl (x_ext E rfl rfl rfl) ?_
          clear E; clear a; intro a E
          refine st_alloc E H (wn rfl) rfl rfl (cs := [.int .i64 0, .int .i64 0, .int .i64 0, .int .i64 0, .int .i64 0, .slice none 0 0, .int .i64 0, .string (ByteArray.mk #[])]) rfl (z := .agg #[.int .i64 0, .int .i64 0, .int .i64 0, .int .i64 0, .int .i64 0, .slice none 0 0, .int .i64 0, .string ⟨#[]⟩]) (by kernel_rfl) rfl ?_
          clear E H; clear a; clear w; intro p49 w a H E
          obtain ⟨q50, x51, rfl⟩ := H.slform (.head _)
          refine st_st (i := 0) E H (wn rfl) rfl (us := [.int .i64 u46.1.Kind, .int .i64 u46.1.View, .int .i64 u46.1.Normal, .int .i64 u46.1.Len, .int .i64 u46.1.Stays, (.slice q50 u46.1.Log.length x51), .int .i64 u46.1.Num, .string u46.1.Text]) rfl rfl rfl rfl rfl sz24 rfl rfl ?_
          clear H; clear w; intro w H
          replace H : Sep w (Blk p49 24 [.int .i64 u46.1.Kind, .int .i64 u46.1.View, .int .i64 u46.1.Normal, .int .i64 u46.1.Len, .int .i64 u46.1.Stays, (.slice q50 u46.1.Log.length x51), .int .i64 u46.1.Num, .string u46.1.Text] :: Blk p43 24 [.int .i64 u40.1.Kind, .int .i64 u40.1.View, .int .i64 u40.1.Normal, .int .i64 u40.1.Len, .int .i64 u40.1.Stays, (.slice q44 u40.1.Log.length x45), .int .i64 u40.1.Num, .string u40.1.Text] :: Fo) _ := H
          refine st_val E (wn rfl) rfl rfl (x_assign E rfl rfl) ?_
          clear E; clear a; intro a E
          refine wpList_nil ?_
          refine q_then ?_
          refine wp_seq ?_
          refine wp_region_lit ?_
          refine st_val E (wn rfl) rfl rfl (x_move E rfl rfl) ?_
          clear E; clear a; intro a E
          replace H : Sep w (Blk p49 24 [.int .i64 u46.1.Kind, .int .i64 u46.1.View, .int .i64 u46.1.Normal, .int .i64 u46.1.Len, .int .i64 u46.1.Stays, (.slice q50 u46.1.Log.length x51), .int .i64 u46.1.Num, .string u46.1.Text] :: Blk p43 24 [.int .i64 u40.1.Kind, .int .i64 u40.1.View, .int .i64 u40.1.Normal, .int .i64 u40.1.Len, .int .i64 u40.1.Stays, (.slice q44 u40.1.Log.length x45), .int .i64 u40.1.Num, .string u40.1.Text] :: Fo) (rSl kS (.slice q50 u46.1.Log.length x51) u46.1.Log :: rSl kS (.slice q44 u40.1.Log.length x45) u40.1.Log :: rs37) := H
          obtain ⟨u52, hx53, hm⟩ := bnd hm
          refine st_call E (wn rfl) rfl rfl (x_call E rfl rfl (cf17 _)) (c_letter_GetSaved v5 l6 H (.tail _ (.tail _ hr39)) hx53) ?_
          clear E H; clear a; clear w; rintro _ w ⟨v54, rfl, H⟩ a E
          refine st_val E (wn rfl) rfl rfl (x_move E rfl rfl) ?_
          clear E; clear a; intro a E
          refine st_val E (wn rfl) rfl rfl (x_ext E rfl rfl rfl) ?_
          clear E; clear a; intro a E
          refine st_val E (wn rfl) rfl rfl (x_ext E rfl rfl rfl) ?_
          clear E; clear a; intro a E
          refine st_alloc E H (wn rfl) rfl rfl (cs := [.int .i64 0, .int .i64 0, .slice none 0 0]) rfl (z := .agg #[.int .i64 0, .int .i64 0, .slice none 0 0]) (by kernel_rfl) rfl ?_
          clear E H; clear a; clear w; intro p55 w a H E
          obtain ⟨q56, x57, rfl⟩ := H.slform (.head _)
          refine st_st (i := 0) E H (wn rfl) rfl (us := [.int .i64 u52.1.View, .int .i64 u52.1.Normal, (.slice q56 u52.1.Log.length x57)]) rfl rfl rfl rfl rfl sz26 rfl rfl ?_
          clear H; clear w; intro w H
          replace H : Sep w (Blk p55 26 [.int .i64 u52.1.View, .int .i64 u52.1.Normal, (.slice q56 u52.1.Log.length x57)] :: Blk p49 24 [.int .i64 u46.1.Kind, .int .i64 u46.1.View, .int .i64 u46.1.Normal, .int .i64 u46.1.Len, .int .i64 u46.1.Stays, (.slice q50 u46.1.Log.length x51), .int .i64 u46.1.Num, .string u46.1.Text] :: Blk p43 24 [.int .i64 u40.1.Kind, .int .i64 u40.1.View, .int .i64 u40.1.Normal, .int .i64 u40.1.Len, .int .i64 u40.1.Stays, (.slice q44 u40.1.Log.length x45), .int .i64 u40.1.Num, .string u40.1.Text] :: Fo) _ := H
          refine st_val E (wn rfl) rfl rfl (x_assign E rfl rfl) ?_
          clear E; clear a; intro a E
          refine wpList_nil ?_
          refine q_then ?_
          refine wp_seq ?_
          refine wp_region_lit ?_
          refine st_val E (wn rfl) rfl rfl (x_move E rfl rfl) ?_
          clear E; clear a; intro a E
          replace H : Sep w (Blk p55 26 [.int .i64 u52.1.View, .int .i64 u52.1.Normal, (.slice q56 u52.1.Log.length x57)] :: Blk p49 24 [.int .i64 u46.1.Kind, .int .i64 u46.1.View, .int .i64 u46.1.Normal, .int .i64 u46.1.Len, .int .i64 u46.1.Stays, (.slice q50 u46.1.Log.length x51), .int .i64 u46.1.Num, .string u46.1.Text] :: Blk p43 24 [.int .i64 u40.1.Kind, .int .i64 u40.1.View, .int .i64 u40.1.Normal, .int .i64 u40.1.Len, .int .i64 u40.1.Stays, (.slice q44 u40.1.Log.length x45), .int .i64 u40.1.Num, .string u40.1.Text] :: Fo) (rSl kS (.slice q56 u52.1.Log.length x57) u52.1.Log :: rSl kS (.slice q50 u46.1.Log.length x51) u46.1.Log :: rSl kS (.slice q44 u40.1.Log.length x45) u40.1.Log :: rs37) := H
          obtain ⟨u58, hx59, hm⟩ := bnd hm
          refine st_call E (wn rfl) rfl rfl (x_call E rfl rfl (cf18 _)) (c_cantonref17_GetSaved v5 l6 H (.tail _ (.tail _ (.tail _ hr39))) hx59) ?_
          clear E H; clear a; clear w; rintro _ w ⟨v60, rfl, H⟩ a E
          refine st_val E (wn rfl) rfl rfl (x_move E rfl rfl) ?_
          clear E; clear a; intro a E
          refine st_val E (wn rfl) rfl rfl (x_ext E rfl rfl rfl) ?_
          clear E; clear a; intro a E
          refine st_val E (wn rfl) rfl rfl (x_ext E rfl rfl rfl) ?_
          clear E; clear a; intro a E
          refine st_alloc E H (wn rfl) rfl rfl (cs := [.int .i64 0, .int .i64 0, .slice none 0 0]) rfl (z := .agg #[.int .i64 0, .int .i64 0, .slice none 0 0]) (by kernel_rfl) rfl ?_
          clear E H; clear a; clear w; intro p61 w a H E
          obtain ⟨q62, x63, rfl⟩ := H.slform (.head _)
          refine st_st (i := 0) E H (wn rfl) rfl (us := [.int .i64 u58.1.View, .int .i64 u58.1.Normal, (.slice q62 u58.1.Log.length x63)]) rfl rfl rfl rfl rfl sz26 rfl rfl ?_
          clear H; clear w; intro w H
          replace H : Sep w (Blk p61 26 [.int .i64 u58.1.View, .int .i64 u58.1.Normal, (.slice q62 u58.1.Log.length x63)] :: Blk p55 26 [.int .i64 u52.1.View, .int .i64 u52.1.Normal, (.slice q56 u52.1.Log.length x57)] :: Blk p49 24 [.int .i64 u46.1.Kind, .int .i64 u46.1.View, .int .i64 u46.1.Normal, .int .i64 u46.1.Len, .int .i64 u46.1.Stays, (.slice q50 u46.1.Log.length x51), .int .i64 u46.1.Num, .string u46.1.Text] :: Blk p43 24 [.int .i64 u40.1.Kind, .int .i64 u40.1.View, .int .i64 u40.1.Normal, .int .i64 u40.1.Len, .int .i64 u40.1.Stays, (.slice q44 u40.1.Log.length x45), .int .i64 u40.1.Num, .string u40.1.Text] :: Fo) _ := H
          refine st_val E (wn rfl) rfl rfl (x_assign E rfl rfl) ?_
          clear E; clear a; intro a E
          refine wpList_nil ?_
          refine q_then ?_
          refine wp_seq ?_
          refine wp_region_lit ?_
          refine st_val E (wn rfl) rfl rfl (x_move E rfl rfl) ?_
          clear E; clear a; intro a E
          refine st_val E (wn rfl) rfl rfl (x_move E rfl rfl) ?_
          clear E; clear a; intro a E
          rcases Bool.eq_false_or_eq_true u16 with hb64 | hb64
          · rw [if_t hb64] at hm
            refine st_val E (ws' E rfl rfl rfl rfl hb64) rfl rfl (x_ldBN (i := 3) (us := [.int .i64 u40.1.Kind, .int .i64 u40.1.View, .int .i64 u40.1.Normal, .int .i64 u40.1.Len, .int .i64 u40.1.Stays, (.slice q44 u40.1.Log.length x45), .int .i64 u40.1.Num, .string u40.1.Text]) E H rfl rfl rfl rfl Try.underlying24 rfl sz24) ?_
            clear E; clear a; intro a E
            refine st_val E (ws' E rfl rfl rfl rfl hb64) rfl rfl (x_ldBN (i := 2) (us := [.int .i64 u46.1.Kind, .int .i64 u46.1.View, .int .i64 u46.1.Normal, .int .i64 u46.1.Len, .int .i64 u46.1.Stays, (.slice q50 u46.1.Log.length x51), .int .i64 u46.1.Num, .string u46.1.Text]) E H rfl rfl rfl rfl Try.underlying24 rfl sz24) ?_
            clear E; clear a; intro a E
            replace H : Sep w (Blk p61 26 [.int .i64 u58.1.View, .int .i64 u58.1.Normal, (.slice q62 u58.1.Log.length x63)] :: Blk p55 26 [.int .i64 u52.1.View, .int .i64 u52.1.Normal, (.slice q56 u52.1.Log.length x57)] :: Blk p49 24 [.int .i64 u46.1.Kind, .int .i64 u46.1.View, .int .i64 u46.1.Normal, .int .i64 u46.1.Len, .int .i64 u46.1.Stays, (.slice q50 u46.1.Log.length x51), .int .i64 u46.1.Num, .string u46.1.Text] :: Blk p43 24 [.int .i64 u40.1.Kind, .int .i64 u40.1.View, .int .i64 u40.1.Normal, .int .i64 u40.1.Len, .int .i64 u40.1.Stays, (.slice q44 u40.1.Log.length x45), .int .i64 u40.1.Num, .string u40.1.Text] :: Fo) (rSl kS (.slice q62 u58.1.Log.length x63) u58.1.Log :: rSl kS (.slice q56 u52.1.Log.length x57) u52.1.Log :: rSl kS (.slice q50 u46.1.Log.length x51) u46.1.Log :: rSl kS (.slice q44 u40.1.Log.length x45) u40.1.Log :: rs37) := H
            obtain ⟨u65, hx66, hm⟩ := bnd hm
            refine st_call E (ws' E rfl rfl rfl rfl hb64) rfl rfl (x_call E rfl rfl (cf19 _)) (c_cantonref17_Same (⟨u40.1.Kind, u40.1.View, u40.1.Normal, u40.1.Len, u40.1.Stays, u40.1.Log, u40.1.Num, u40.1.Text⟩ : S_api_Letter) (.slice q44 u40.1.Log.length x45) (⟨u46.1.Kind, u46.1.View, u46.1.Normal, u46.1.Len, u46.1.Stays, u46.1.Log, u46.1.Num, u46.1.Text⟩ : S_api_Letter) (.slice q50 u46.1.Log.length x51) H (.tail _ (.tail _ (.tail _ (.head _)))) (.tail _ (.tail _ (.head _))) hx66) ?_
            clear E H; clear a; clear w; rintro _ w ⟨rfl, H⟩ a E
            refine st_val E (wn rfl) rfl rfl (x_pickT E rfl rfl hb64 rfl) ?_
            clear E; clear a; intro a E
            refine st_val E (wn rfl) rfl rfl (x_move E rfl rfl) ?_
            clear E; clear a; intro a E
            rcases Bool.eq_false_or_eq_true u65 with hb67 | hb67
            · rw [if_t hb67] at hm
              refine st_val E (ws' E rfl rfl rfl rfl hb67) rfl rfl (x_move E rfl rfl) ?_
              clear E; clear a; intro a E
              refine st_val E (ws' E rfl rfl rfl rfl hb67) rfl rfl (x_move E rfl rfl) ?_
              clear E; clear a; intro a E
              refine st_val E (ws' E rfl rfl rfl rfl hb67) rfl rfl (x_bin E rfl rfl rfl rfl) ?_
              clear E; clear a; intro a E
              refine st_val E (wn rfl) rfl rfl (x_pickT E rfl rfl hb67 rfl) ?_
              clear E; clear a; intro a E
              refine st_val E (wn rfl) rfl rfl (x_move E rfl rfl) ?_
              clear E; clear a; intro a E
              rcases Bool.eq_false_or_eq_true (u40.2 == u46.2) with hb68 | hb68
              · rw [if_t hb68] at hm
                refine st_val E (ws' E rfl rfl rfl rfl hb68) rfl rfl (x_ldBN (i := 1) (us := [.int .i64 u52.1.View, .int .i64 u52.1.Normal, (.slice q56 u52.1.Log.length x57)]) E H rfl rfl rfl rfl Try.underlying26 rfl sz26) ?_
                clear E; clear a; intro a E
                refine st_val E (ws' E rfl rfl rfl rfl hb68) rfl rfl (x_ldBN (i := 0) (us := [.int .i64 u58.1.View, .int .i64 u58.1.Normal, (.slice q62 u58.1.Log.length x63)]) E H rfl rfl rfl rfl Try.underlying26 rfl sz26) ?_
                clear E; clear a; intro a E
                replace H : Sep w (Blk p61 26 [.int .i64 u58.1.View, .int .i64 u58.1.Normal, (.slice q62 u58.1.Log.length x63)] :: Blk p55 26 [.int .i64 u52.1.View, .int .i64 u52.1.Normal, (.slice q56 u52.1.Log.length x57)] :: Blk p49 24 [.int .i64 u46.1.Kind, .int .i64 u46.1.View, .int .i64 u46.1.Normal, .int .i64 u46.1.Len, .int .i64 u46.1.Stays, (.slice q50 u46.1.Log.length x51), .int .i64 u46.1.Num, .string u46.1.Text] :: Blk p43 24 [.int .i64 u40.1.Kind, .int .i64 u40.1.View, .int .i64 u40.1.Normal, .int .i64 u40.1.Len, .int .i64 u40.1.Stays, (.slice q44 u40.1.Log.length x45), .int .i64 u40.1.Num, .string u40.1.Text] :: Fo) (rSl kS (.slice q62 u58.1.Log.length x63) u58.1.Log :: rSl kS (.slice q56 u52.1.Log.length x57) u52.1.Log :: rSl kS (.slice q50 u46.1.Log.length x51) u46.1.Log :: rSl kS (.slice q44 u40.1.Log.length x45) u40.1.Log :: rs37) := H
                obtain ⟨u69, hx70, hm⟩ := bnd hm
                refine st_call E (ws' E rfl rfl rfl rfl hb68) rfl rfl (x_call E rfl rfl (cf20 _)) (c_cantonlaw17_sameSaved (⟨u52.1.View, u52.1.Normal, u52.1.Log⟩ : S_api_Saved) (.slice q56 u52.1.Log.length x57) (⟨u58.1.View, u58.1.Normal, u58.1.Log⟩ : S_api_Saved) (.slice q62 u58.1.Log.length x63) H (.tail _ (.head _)) (.head _) hx70) ?_
                clear E H; clear a; clear w; rintro _ w ⟨rfl, H⟩ a E
                refine st_val E (wn rfl) rfl rfl (x_pickT E rfl rfl hb68 rfl) ?_
                clear E; clear a; intro a E
                refine st_val E (wn rfl) rfl rfl (x_move E rfl rfl) ?_
                clear E; clear a; intro a E
                rcases Bool.eq_false_or_eq_true u69 with hb71 | hb71
                · rw [if_t hb71] at hm
                  refine st_val E (ws' E rfl rfl rfl rfl hb71) rfl rfl (x_move E rfl rfl) ?_
                  clear E; clear a; intro a E
                  refine st_val E (ws' E rfl rfl rfl rfl hb71) rfl rfl (x_move E rfl rfl) ?_
                  clear E; clear a; intro a E
                  refine st_val E (ws' E rfl rfl rfl rfl hb71) rfl rfl (x_bin E rfl rfl rfl rfl) ?_
                  clear E; clear a; intro a E
                  refine st_val E (wn rfl) rfl rfl (x_pickT E rfl rfl hb71 rfl) ?_
                  clear E; clear a; intro a E
                  refine st_val E (wn rfl) rfl rfl (x_assign E rfl rfl) ?_
                  clear E; clear a; intro a E
                  refine wpList_nil ?_
                  refine q_then ?_
                  refine wp_ret ?_
                  refine out1 E rfl rfl ?_
                  replace H := H.drop 0
                  replace H := H.drop 0
                  replace H := H.drop 0
                  replace H := H.drop 0
                  obtain rfl := Option.some.inj hm
                  exact ⟨rfl, H.reads (fun r hr => .tail _ (.tail _ (.tail _ (.tail _ (hs38 r hr)))))⟩
                · rw [if_f hb71] at hm
                  refine st_no E (wf' E rfl rfl rfl rfl hb71 rfl) rfl rfl ?_
                  clear E; clear a; intro a E
                  refine st_no E (wf' E rfl rfl rfl rfl hb71 rfl) rfl rfl ?_
                  clear E; clear a; intro a E
                  refine st_no E (wf' E rfl rfl rfl rfl hb71 rfl) rfl rfl ?_
                  clear E; clear a; intro a E
                  refine st_val E (wn rfl) rfl rfl (x_pickF E rfl rfl hb71 rfl) ?_
                  clear E; clear a; intro a E
                  refine st_val E (wn rfl) rfl rfl (x_assign E rfl rfl) ?_
                  clear E; clear a; intro a E
                  refine wpList_nil ?_
                  refine q_then ?_
                  refine wp_ret ?_
                  refine out1 E rfl rfl ?_
                  replace H := H.drop 0
                  replace H := H.drop 0
                  replace H := H.drop 0
                  replace H := H.drop 0
                  obtain rfl := Option.some.inj hm
                  exact ⟨rfl, H.reads (fun r hr => .tail _ (.tail _ (.tail _ (.tail _ (hs38 r hr)))))⟩
              · rw [if_f hb68] at hm
                refine st_no E (wf' E rfl rfl rfl rfl hb68 rfl) rfl rfl ?_
                clear E; clear a; intro a E
                refine st_no E (wf' E rfl rfl rfl rfl hb68 rfl) rfl rfl ?_
                clear E; clear a; intro a E
                refine st_no E (wf' E rfl rfl rfl rfl hb68 rfl) rfl rfl ?_
                clear E; clear a; intro a E
                refine st_val E (wn rfl) rfl rfl (x_pickF E rfl rfl hb68 rfl) ?_
                clear E; clear a; intro a E
                refine st_val E (wn rfl) rfl rfl (x_move E rfl rfl) ?_
                clear E; clear a; intro a E
                refine st_no E (wf E rfl rfl rfl rfl rfl) rfl rfl ?_
                clear E; clear a; intro a E
                refine st_no E (wf E rfl rfl rfl rfl rfl) rfl rfl ?_
                clear E; clear a; intro a E
                refine st_no E (wf E rfl rfl rfl rfl rfl) rfl rfl ?_
                clear E; clear a; intro a E
                refine st_val E (wn rfl) rfl rfl (x_pickF E rfl rfl rfl rfl) ?_
                clear E; clear a; intro a E
                refine st_val E (wn rfl) rfl rfl (x_assign E rfl rfl) ?_
                clear E; clear a; intro a E
                refine wpList_nil ?_
                refine q_then ?_
                refine wp_ret ?_
                refine out1 E rfl rfl ?_
                replace H := H.drop 0
                replace H := H.drop 0
                replace H := H.drop 0
                replace H := H.drop 0
                obtain rfl := Option.some.inj hm
                exact ⟨rfl, H.reads (fun r hr => .tail _ (.tail _ (.tail _ (.tail _ (hs38 r hr)))))⟩
            · rw [if_f hb67] at hm
              refine st_no E (wf' E rfl rfl rfl rfl hb67 rfl) rfl rfl ?_
              clear E; clear a; intro a E
              refine st_no E (wf' E rfl rfl rfl rfl hb67 rfl) rfl rfl ?_
              clear E; clear a; intro a E
              refine st_no E (wf' E rfl rfl rfl rfl hb67 rfl) rfl rfl ?_
              clear E; clear a; intro a E
              refine st_val E (wn rfl) rfl rfl (x_pickF E rfl rfl hb67 rfl) ?_
              clear E; clear a; intro a E
              refine st_val E (wn rfl) rfl rfl (x_move E rfl rfl) ?_
              clear E; clear a; intro a E
              refine st_no E (wf E rfl rfl rfl rfl rfl) rfl rfl ?_
              clear E; clear a; intro a E
              refine st_no E (wf E rfl rfl rfl rfl rfl) rfl rfl ?_
              clear E; clear a; intro a E
              refine st_no E (wf E rfl rfl rfl rfl rfl) rfl rfl ?_
              clear E; clear a; intro a E
              refine st_val E (wn rfl) rfl rfl (x_pickF E rfl rfl rfl rfl) ?_
              clear E; clear a; intro a E
              refine st_val E (wn rfl) rfl rfl (x_move E rfl rfl) ?_
              clear E; clear a; intro a E
              refine st_no E (wf E rfl rfl rfl rfl rfl) rfl rfl ?_
              clear E; clear a; intro a E
              refine st_no E (wf E rfl rfl rfl rfl rfl) rfl rfl ?_
              clear E; clear a; intro a E
              refine st_no E (wf E rfl rfl rfl rfl rfl) rfl rfl ?_
              clear E; clear a; intro a E
              refine st_val E (wn rfl) rfl rfl (x_pickF E rfl rfl rfl rfl) ?_
              clear E; clear a; intro a E
              refine st_val E (wn rfl) rfl rfl (x_assign E rfl rfl) ?_
              clear E; clear a; intro a E
              refine wpList_nil ?_
              refine q_then ?_
              refine wp_ret ?_
              refine out1 E rfl rfl ?_
              replace H := H.drop 0
              replace H := H.drop 0
              replace H := H.drop 0
              replace H := H.drop 0
              obtain rfl := Option.some.inj hm
              exact ⟨rfl, H.reads (fun r hr => .tail _ (.tail _ (.tail _ (.tail _ (hs38 r hr)))))⟩
          · rw [if_f hb64] at hm
            refine st_no E (wf' E rfl rfl rfl rfl hb64 rfl) rfl rfl ?_
            clear E; clear a; intro a E
            refine st_no E (wf' E rfl rfl rfl rfl hb64 rfl) rfl rfl ?_
            clear E; clear a; intro a E
            refine st_no E (wf' E rfl rfl rfl rfl hb64 rfl) rfl rfl ?_
            clear E; clear a; intro a E
            refine st_val E (wn rfl) rfl rfl (x_pickF E rfl rfl hb64 rfl) ?_
            clear E; clear a; intro a E
            refine st_val E (wn rfl) rfl rfl (x_move E rfl rfl) ?_
            clear E; clear a; intro a E
            refine st_no E (wf E rfl rfl rfl rfl rfl) rfl rfl ?_
            clear E; clear a; intro a E
            refine st_no E (wf E rfl rfl rfl rfl rfl) rfl rfl ?_
            clear E; clear a; intro a E
            refine st_no E (wf E rfl rfl rfl rfl rfl) rfl rfl ?_
            clear E; clear a; intro a E
            refine st_val E (wn rfl) rfl rfl (x_pickF E rfl rfl rfl rfl) ?_
            clear E; clear a; intro a E
            refine st_val E (wn rfl) rfl rfl (x_move E rfl rfl) ?_
            clear E; clear a; intro a E
            refine st_no E (wf E rfl rfl rfl rfl rfl) rfl rfl ?_
            clear E; clear a; intro a E
            refine st_no E (wf E rfl rfl rfl rfl rfl) rfl rfl ?_
            clear E; clear a; intro a E
            refine st_no E (wf E rfl rfl rfl rfl rfl) rfl rfl ?_
            clear E; clear a; intro a E
            refine st_val E (wn rfl) rfl rfl (x_pickF E rfl rfl rfl rfl) ?_
            clear E; clear a; intro a E
            refine st_val E (wn rfl) rfl rfl (x_move E rfl rfl) ?_
            clear E; clear a; intro a E
            refine st_no E (wf E rfl rfl rfl rfl rfl) rfl rfl ?_
            clear E; clear a; intro a E
            refine st_no E (wf E rfl rfl rfl rfl rfl) rfl rfl ?_
            clear E; clear a; intro a E
            refine st_no E (wf E rfl rfl rfl rfl rfl) rfl rfl ?_
            clear E; clear a; intro a E
            refine st_val E (wn rfl) rfl rfl (x_pickF E rfl rfl rfl rfl) ?_
            clear E; clear a; intro a E
            refine st_val E (wn rfl) rfl rfl (x_assign E rfl rfl) ?_
            clear E; clear a; intro a E
            refine wpList_nil ?_
            refine q_then ?_
            refine wp_ret ?_
            refine out1 E rfl rfl ?_
            replace H := H.drop 0
            replace H := H.drop 0
            replace H := H.drop 0
            replace H := H.drop 0
            obtain rfl := Option.some.inj hm
            exact ⟨rfl, H.reads (fun r hr => .tail _ (.tail _ (.tail _ (.tail _ (hs38 r hr)))))⟩
end Go.Cb

set_option linter.unusedVariables false
set_option linter.unusedSimpArgs false
namespace Go.Cb
open Go.Proofs Go.RowKit
def m_cantonlaw17_LetterBack_j5 (u16 : Bool) (u37 : S_api_Letter × Int) (u47 : S_api_Saved × Int) : Option Bool :=
  if u16 = true then (if (u37.2 == 0) = true then (if (u47.2 == 0) = true then (some (true)) else ((m_cantonlaw17_sameSaved (⟨u47.1.View, u47.1.Normal, u47.1.Log⟩ : S_api_Saved) (⟨0, 0, []⟩ : S_api_Saved)).bind fun u60 => some (u60))) else ((m_cantonref17_Same (⟨u37.1.Kind, u37.1.View, u37.1.Normal, u37.1.Len, u37.1.Stays, u37.1.Log, u37.1.Num, u37.1.Text⟩ : S_api_Letter) (⟨0, 0, 0, 0, 0, [], 0, (ByteArray.mk #[])⟩ : S_api_Letter)).bind fun u62 => if u62 = true then (if (u47.2 == 0) = true then (some (true)) else ((m_cantonlaw17_sameSaved (⟨u47.1.View, u47.1.Normal, u47.1.Log⟩ : S_api_Saved) (⟨0, 0, []⟩ : S_api_Saved)).bind fun u66 => some (u66))) else (some (false)))) else (some (false))
def m_cantonlaw17_LetterBack_j6 (u16 : Bool) (u37 : S_api_Letter × Int) (u47 : S_api_Saved × Int) (b71 : Bool) : Option Bool :=
  if b71 = true then (some (false)) else (m_cantonlaw17_LetterBack_j5 u16 u37 u47)
def m_cantonlaw17_LetterBack_j4 (u16 : Bool) (u37 : S_api_Letter × Int) (l6 : List Int) : Option Bool :=
  (m_letter_GetSaved l6).bind fun u47 => if (u47.2 == 0) = true then ((m_letter_PutSaved (⟨u47.1.View, u47.1.Normal, u47.1.Log⟩ : S_api_Saved)).bind fun u68 => if (u68.2 != 0) = true then (m_cantonlaw17_LetterBack_j6 u16 u37 u47 true) else (m_cantonlaw17_LetterBack_j6 u16 u37 u47 (!(sEq (strOf u68.1) (strOf l6))))) else (m_cantonlaw17_LetterBack_j5 u16 u37 u47)
def m_cantonlaw17_LetterBack_j7 (u16 : Bool) (u37 : S_api_Letter × Int) (l6 : List Int) (b80 : Bool) : Option Bool :=
  if b80 = true then (some (false)) else (m_cantonlaw17_LetterBack_j4 u16 u37 l6)
def m_cantonlaw17_LetterBack_j3 (u16 : Bool) (l6 : List Int) : Option Bool :=
  (m_letter_Get l6).bind fun u37 => if (u37.2 == 0) = true then ((m_letter_Put (⟨u37.1.Kind, u37.1.View, u37.1.Normal, u37.1.Len, u37.1.Stays, u37.1.Log, u37.1.Num, u37.1.Text⟩ : S_api_Letter)).bind fun u77 => if (u77.2 != 0) = true then (m_cantonlaw17_LetterBack_j7 u16 u37 l6 true) else (m_cantonlaw17_LetterBack_j7 u16 u37 l6 (!(sEq (strOf u77.1) (strOf l6))))) else (m_cantonlaw17_LetterBack_j4 u16 u37 l6)
def m_cantonlaw17_LetterBack_j8 (u16 : Bool) (l6 : List Int) (b92 : Bool) : Option Bool :=
  if b92 = true then (some (false)) else (m_cantonlaw17_LetterBack_j3 u16 l6)
def m_cantonlaw17_LetterBack_j2 (u16 : Bool) (l6 : List Int) (x3 : S_api_Saved) : Option Bool :=
  (m_letter_PutSaved (⟨x3.View, x3.Normal, x3.Log⟩ : S_api_Saved)).bind fun u31 => if (u31.2 == 0) = true then ((m_letter_GetSaved u31.1).bind fun u86 => if (u86.2 != 0) = true then (m_cantonlaw17_LetterBack_j8 u16 l6 true) else ((m_cantonlaw17_sameSaved (⟨x3.View, x3.Normal, x3.Log⟩ : S_api_Saved) (⟨u86.1.View, u86.1.Normal, u86.1.Log⟩ : S_api_Saved)).bind fun u97 => m_cantonlaw17_LetterBack_j8 u16 l6 (!u97))) else (m_cantonlaw17_LetterBack_j3 u16 l6)
def m_cantonlaw17_LetterBack_j9 (u16 : Bool) (l6 : List Int) (x3 : S_api_Saved) (b105 : Bool) : Option Bool :=
  if b105 = true then (some (false)) else (m_cantonlaw17_LetterBack_j2 u16 l6 x3)
def m_cantonlaw17_LetterBack_j1 (u16 : Bool) (l6 : List Int) (x3 : S_api_Saved) (x1 : S_api_Letter) (b18 : Bool) : Option Bool :=
  if b18 = true then (some (u16)) else ((m_letter_Put (⟨x1.Kind, x1.View, x1.Normal, x1.Len, x1.Stays, x1.Log, x1.Num, x1.Text⟩ : S_api_Letter)).bind fun u24 => if (u24.2 == 0) = true then ((m_letter_Get u24.1).bind fun u99 => if (u99.2 != 0) = true then (m_cantonlaw17_LetterBack_j9 u16 l6 x3 true) else ((m_cantonref17_Same (⟨x1.Kind, x1.View, x1.Normal, x1.Len, x1.Stays, x1.Log, x1.Num, x1.Text⟩ : S_api_Letter) (⟨u99.1.Kind, u99.1.View, u99.1.Normal, u99.1.Len, u99.1.Stays, u99.1.Log, u99.1.Num, u99.1.Text⟩ : S_api_Letter)).bind fun u111 => m_cantonlaw17_LetterBack_j9 u16 l6 x3 (!u111))) else (m_cantonlaw17_LetterBack_j2 u16 l6 x3))
def m_cantonlaw17_LetterBack (x1 : S_api_Letter) (x3 : S_api_Saved) (l6 : List Int) : Option Bool :=
  m_cantonlaw17_head.bind fun u16 => (m_cantonlaw17_GreatLog x1.Log).bind fun u113 => if u113 = true then (m_cantonlaw17_LetterBack_j1 u16 l6 x3 x1 true) else ((m_cantonlaw17_GreatLog x3.Log).bind fun u116 => if u116 = true then (m_cantonlaw17_LetterBack_j1 u16 l6 x3 x1 true) else (if (decide ((x1.Text.size : Int) > 20000)) = true then (m_cantonlaw17_LetterBack_j1 u16 l6 x3 x1 true) else (m_cantonlaw17_LetterBack_j1 u16 l6 x3 x1 (decide ((l6.length : Int) > 20000)))))
set_option maxRecDepth 20000 in
set_option maxHeartbeats 1000000 in
theorem c_cantonlaw17_LetterBack {w : World} {Fo : List Ob} {rs : List Rp} (x1 : S_api_Letter) (v2 : Value) (x3 : S_api_Saved) (v4 : Value) (v5 : Value) (l6 : List Int) (H : Sep w (Fo) rs) (hr7 : rSl kS v2 x1.Log ∈ rs) (hr8 : rSl kS v4 x3.Log ∈ rs) (hr9 : rSl (kI .u8) v5 l6 ∈ rs) {r : Bool} (hm : m_cantonlaw17_LetterBack x1 x3 l6 = some r) :
    Calls Try.prog 5 [.agg #[.int .i64 x1.Kind, .int .i64 x1.View, .int .i64 x1.Normal, .int .i64 x1.Len, .int .i64 x1.Stays, v2, .int .i64 x1.Num, .string x1.Text], .agg #[.int .i64 x3.View, .int .i64 x3.Normal, v4], v5].toArray w (Ret fun v w' => .bool r = v ∧ Sep w' (Fo) (rs)) := by
  unfold m_cantonlaw17_LetterBack at hm
  refine enter Try.func5 rfl Try.ntmps5 rfl fun a E => ?_
  simp only [enum, Nat.reduceAdd] at E
  refine wp_seq ?_
  refine wp_region_lit ?_
  obtain ⟨q11, x12, rfl⟩ := H.slform hr7
  refine st_box E H (wn rfl) rfl rfl (cs := [.int .i64 x1.Kind, .int .i64 x1.View, .int .i64 x1.Normal, .int .i64 x1.Len, .int .i64 x1.Stays, (.slice q11 x1.Log.length x12), .int .i64 x1.Num, .string x1.Text]) rfl rfl rfl ?_
  clear E H; clear a; clear w; intro p10 w a H E
  obtain ⟨q14, x15, rfl⟩ := H.slform hr8
  refine st_box E H (wn rfl) rfl rfl (cs := [.int .i64 x3.View, .int .i64 x3.Normal, (.slice q14 x3.Log.length x15)]) rfl rfl rfl ?_
  clear E H; clear a; clear w; intro p13 w a H E
  refine st_val E (wn rfl) rfl rfl (x_assign E rfl rfl) ?_
  clear E; clear a; intro a E
  refine wpList_nil ?_
  refine q_then ?_
  refine wp_seq ?_
  refine wp_region_lit ?_
  replace H : Sep w (Blk p13 26 [.int .i64 x3.View, .int .i64 x3.Normal, (.slice q14 x3.Log.length x15)] :: Blk p10 24 [.int .i64 x1.Kind, .int .i64 x1.View, .int .i64 x1.Normal, .int .i64 x1.Len, .int .i64 x1.Stays, (.slice q11 x1.Log.length x12), .int .i64 x1.Num, .string x1.Text] :: Fo) (rs) := H
  obtain ⟨u16, hx17, hm⟩ := bnd hm
  refine st_call E (wn rfl) rfl rfl (x_call E rfl rfl (cf9 _)) (c_cantonlaw17_head H hx17) ?_
  clear E H; clear a; clear w; rintro _ w ⟨rfl, H⟩ a E
  refine st_val E (wn rfl) rfl rfl (x_assign E rfl rfl) ?_
  clear E; clear a; intro a E
  refine wpList_nil ?_
  refine q_then ?_
  refine wp_seq ?_
  refine wp_seq_cut (fun a w => ∃ (b18 : Bool) (rs19 : List Rp), Env 146 a [(2, v5), (3, .pointer (some ⟨p10, 0, none⟩)), (4, .pointer (some ⟨p13, 0, none⟩)), (7, .bool u16), (43, .bool b18)] ∧ Sep w (Blk p10 24 [.int .i64 x1.Kind, .int .i64 x1.View, .int .i64 x1.Normal, .int .i64 x1.Len, .int .i64 x1.Stays, (.slice q11 x1.Log.length x12), .int .i64 x1.Num, .string x1.Text] :: Blk p13 26 [.int .i64 x3.View, .int .i64 x3.Normal, (.slice q14 x3.Log.length x15)] :: Fo) rs19 ∧ (∀ r, r ∈ rs → r ∈ rs19) ∧ rSl (kI .u8) v5 l6 ∈ rs19 ∧ rSl kS (.slice q11 x1.Log.length x12) x1.Log ∈ rs19 ∧ rSl kS (.slice q14 x3.Log.length x15) x3.Log ∈ rs19 ∧ m_cantonlaw17_LetterBack_j1 u16 l6 x3 x1 b18 = some r) ?_ ?_
  · refine wp_region_lit ?_
    refine st_val E (wn rfl) rfl rfl (x_fa E rfl rfl (v := .pointer (some ⟨p10, 5, none⟩)) (fa24_5 _ _)) ?_
    clear E; clear a; intro a E
    refine st_val E (wn rfl) rfl rfl (x_ldB (i := 1) E H rfl rfl rfl rfl Try.underlying22 rfl) ?_
    clear E; clear a; intro a E
    replace H : Sep w (Blk p13 26 [.int .i64 x3.View, .int .i64 x3.Normal, (.slice q14 x3.Log.length x15)] :: Blk p10 24 [.int .i64 x1.Kind, .int .i64 x1.View, .int .i64 x1.Normal, .int .i64 x1.Len, .int .i64 x1.Stays, (.slice q11 x1.Log.length x12), .int .i64 x1.Num, .string x1.Text] :: Fo) (rs) := H
    obtain ⟨u113, hx114, hm⟩ := bnd hm
    refine st_call E (wn rfl) rfl rfl (x_call E rfl rfl (cf10 _)) (c_cantonlaw17_GreatLog (.slice q11 x1.Log.length x12) x1.Log H hr7 hx114) ?_
    clear E H; clear a; clear w; rintro _ w ⟨rfl, H⟩ a E
    refine st_val E (wn rfl) rfl rfl (x_move E rfl rfl) ?_
    clear E; clear a; intro a E
    rcases Bool.eq_false_or_eq_true u113 with hb115 | hb115
    · rw [if_t hb115] at hm
      refine st_no E (wf' E rfl rfl rfl rfl hb115 rfl) rfl rfl ?_
      clear E; clear a; intro a E
      refine st_no E (wf' E rfl rfl rfl rfl hb115 rfl) rfl rfl ?_
      clear E; clear a; intro a E
      refine st_no E (wf' E rfl rfl rfl rfl hb115 rfl) rfl rfl ?_
      clear E; clear a; intro a E
      refine st_val E (wn rfl) rfl rfl (x_pickT E rfl rfl hb115 rfl) ?_
      clear E; clear a; intro a E
      refine st_val E (wn rfl) rfl rfl (x_move E rfl rfl) ?_
      clear E; clear a; intro a E
      refine st_no E (wf E rfl rfl rfl rfl rfl) rfl rfl ?_
      clear E; clear a; intro a E
      refine st_no E (wf E rfl rfl rfl rfl rfl) rfl rfl ?_
      clear E; clear a; intro a E
      refine st_no E (wf E rfl rfl rfl rfl rfl) rfl rfl ?_
      clear E; clear a; intro a E
      refine st_no E (wf E rfl rfl rfl rfl rfl) rfl rfl ?_
      clear E; clear a; intro a E
      refine st_val E (wn rfl) rfl rfl (x_pickT E rfl rfl rfl rfl) ?_
      clear E; clear a; intro a E
      refine st_val E (wn rfl) rfl rfl (x_move E rfl rfl) ?_
      clear E; clear a; intro a E
      refine st_no E (wf E rfl rfl rfl rfl rfl) rfl rfl ?_
      clear E; clear a; intro a E
      refine st_no E (wf E rfl rfl rfl rfl rfl) rfl rfl ?_
      clear E; clear a; intro a E
      refine st_no E (wf E rfl rfl rfl rfl rfl) rfl rfl ?_
      clear E; clear a; intro a E
      refine st_val E (wn rfl) rfl rfl (x_pickT E rfl rfl rfl rfl) ?_
      clear E; clear a; intro a E
      refine wpList_nil ?_
      refine q_then ?_
      replace H := H.front 0 rfl
      replace H := H.front 1 rfl
      exact ⟨true, _, (((((E.nil.keep E 43 rfl).keep E 7 rfl).keep E 4 rfl).keep E 3 rfl).keep E 2 rfl), H, fun r hr => hr, hr9, hr7, hr8, hm⟩
    · rw [if_f hb115] at hm
      refine st_val E (ws' E rfl rfl rfl rfl hb115) rfl rfl (x_fa E rfl rfl (v := .pointer (some ⟨p13, 2, none⟩)) (fa26_2 _ _)) ?_
      clear E; clear a; intro a E
      refine st_val E (ws' E rfl rfl rfl rfl hb115) rfl rfl (x_ldB (i := 0) E H rfl rfl rfl rfl Try.underlying22 rfl) ?_
      clear E; clear a; intro a E
      replace H : Sep w (Blk p13 26 [.int .i64 x3.View, .int .i64 x3.Normal, (.slice q14 x3.Log.length x15)] :: Blk p10 24 [.int .i64 x1.Kind, .int .i64 x1.View, .int .i64 x1.Normal, .int .i64 x1.Len, .int .i64 x1.Stays, (.slice q11 x1.Log.length x12), .int .i64 x1.Num, .string x1.Text] :: Fo) (rs) := H
      obtain ⟨u116, hx117, hm⟩ := bnd hm
      refine st_call E (ws' E rfl rfl rfl rfl hb115) rfl rfl (x_call E rfl rfl (cf10 _)) (c_cantonlaw17_GreatLog (.slice q14 x3.Log.length x15) x3.Log H hr8 hx117) ?_
      clear E H; clear a; clear w; rintro _ w ⟨rfl, H⟩ a E
      refine st_val E (wn rfl) rfl rfl (x_pickF E rfl rfl hb115 rfl) ?_
      clear E; clear a; intro a E
      refine st_val E (wn rfl) rfl rfl (x_move E rfl rfl) ?_
      clear E; clear a; intro a E
      rcases Bool.eq_false_or_eq_true u116 with hb118 | hb118
      · rw [if_t hb118] at hm
        refine st_no E (wf' E rfl rfl rfl rfl hb118 rfl) rfl rfl ?_
        clear E; clear a; intro a E
        refine st_no E (wf' E rfl rfl rfl rfl hb118 rfl) rfl rfl ?_
        clear E; clear a; intro a E
        refine st_no E (wf' E rfl rfl rfl rfl hb118 rfl) rfl rfl ?_
        clear E; clear a; intro a E
        refine st_no E (wf' E rfl rfl rfl rfl hb118 rfl) rfl rfl ?_
        clear E; clear a; intro a E
        refine st_val E (wn rfl) rfl rfl (x_pickT E rfl rfl hb118 rfl) ?_
        clear E; clear a; intro a E
        refine st_val E (wn rfl) rfl rfl (x_move E rfl rfl) ?_
        clear E; clear a; intro a E
        refine st_no E (wf E rfl rfl rfl rfl rfl) rfl rfl ?_
        clear E; clear a; intro a E
        refine st_no E (wf E rfl rfl rfl rfl rfl) rfl rfl ?_
        clear E; clear a; intro a E
        refine st_no E (wf E rfl rfl rfl rfl rfl) rfl rfl ?_
        clear E; clear a; intro a E
        refine st_val E (wn rfl) rfl rfl (x_pickT E rfl rfl rfl rfl) ?_
        clear E; clear a; intro a E
        refine wpList_nil ?_
        refine q_then ?_
        replace H := H.front 0 rfl
        replace H := H.front 1 rfl
        exact ⟨true, _, (((((E.nil.keep E 43 rfl).keep E 7 rfl).keep E 4 rfl).keep E 3 rfl).keep E 2 rfl), H, fun r hr => hr, hr9, hr7, hr8, hm⟩
      · rw [if_f hb118] at hm
        refine st_val E (ws' E rfl rfl rfl rfl hb118) rfl rfl (x_fa E rfl rfl (v := .pointer (some ⟨p10, 7, none⟩)) (fa24_7 _ _)) ?_
        clear E; clear a; intro a E
        refine st_val E (ws' E rfl rfl rfl rfl hb118) rfl rfl (x_ldB (i := 1) E H rfl rfl rfl rfl Try.underlying9 rfl) ?_
        clear E; clear a; intro a E
        refine st_val E (ws' E rfl rfl rfl rfl hb118) rfl rfl (x_lenStr E rfl rfl Try.underlying9) ?_
        clear E; clear a; intro a E
        refine st_val E (ws' E rfl rfl rfl rfl hb118) rfl rfl (x_bin E rfl rfl rfl rfl) ?_
        clear E; clear a; intro a E
        refine st_val E (wn rfl) rfl rfl (x_pickF E rfl rfl hb118 rfl) ?_
        clear E; clear a; intro a E
        refine st_val E (wn rfl) rfl rfl (x_move E rfl rfl) ?_
        clear E; clear a; intro a E
        rcases Bool.eq_false_or_eq_true (decide ((x1.Text.size : Int) > 20000)) with hb119 | hb119
        · rw [if_t hb119] at hm
          refine st_no E (wf' E rfl rfl rfl rfl hb119 rfl) rfl rfl ?_
          clear E; clear a; intro a E
          refine st_no E (wf' E rfl rfl rfl rfl hb119 rfl) rfl rfl ?_
          clear E; clear a; intro a E
          refine st_no E (wf' E rfl rfl rfl rfl hb119 rfl) rfl rfl ?_
          clear E; clear a; intro a E
          refine st_val E (wn rfl) rfl rfl (x_pickT E rfl rfl hb119 rfl) ?_
          clear E; clear a; intro a E
          refine wpList_nil ?_
          refine q_then ?_
          replace H := H.front 0 rfl
          replace H := H.front 1 rfl
          exact ⟨true, _, (((((E.nil.keep E 43 rfl).keep E 7 rfl).keep E 4 rfl).keep E 3 rfl).keep E 2 rfl), H, fun r hr => hr, hr9, hr7, hr8, hm⟩
        · rw [if_f hb119] at hm
          refine st_val E (ws' E rfl rfl rfl rfl hb119) rfl rfl (x_move E rfl rfl) ?_
          clear E; clear a; intro a E
          refine st_val E (ws' E rfl rfl rfl rfl hb119) rfl rfl (x_lenS E H rfl rfl hr9 Try.underlying27) ?_
          clear E; clear a; intro a E
          refine st_val E (ws' E rfl rfl rfl rfl hb119) rfl rfl (x_bin E rfl rfl rfl rfl) ?_
          clear E; clear a; intro a E
          refine st_val E (wn rfl) rfl rfl (x_pickF E rfl rfl hb119 rfl) ?_
          clear E; clear a; intro a E
          refine wpList_nil ?_
          refine q_then ?_
          replace H := H.front 0 rfl
          replace H := H.front 1 rfl
          exact ⟨decide ((l6.length : Int) > 20000), _, (((((E.nil.keep E 43 rfl).keep E 7 rfl).keep E 4 rfl).keep E 3 rfl).keep E 2 rfl), H, fun r hr => hr, hr9, hr7, hr8, hm⟩
  · clear E H hm
    rintro a w ⟨b18, rs19, E, H, hs20, hr21, hr22, hr23, hm⟩
    unfold m_cantonlaw17_LetterBack_j1 at hm
    refine wp_if E rfl ?_ ?_
    · intro hb
      rw [if_t hb] at hm
      clear hb
      refine wp_seq ?_
      refine wp_region_lit ?_
      refine st_val E (wn rfl) rfl rfl (x_move E rfl rfl) ?_
      clear E; clear a; intro a E
      refine st_val E (wn rfl) rfl rfl (x_assign E rfl rfl) ?_
      clear E; clear a; intro a E
      refine wpList_nil ?_
      refine q_then ?_
      refine wp_ret ?_
      refine q_thenR ?_
      refine out1 E rfl rfl ?_
      replace H := H.drop 0
      replace H := H.drop 0
      obtain rfl := Option.some.inj hm
      exact ⟨rfl, H.reads (fun r hr => hs20 r hr)⟩
    · intro hb
      rw [if_f hb] at hm
      clear hb
      refine wp_skip ?_
      refine q_then ?_
      refine wp_seq ?_
      refine wp_region_lit ?_
      refine st_val E (wn rfl) rfl rfl (x_ldBN (i := 0) (us := [.int .i64 x1.Kind, .int .i64 x1.View, .int .i64 x1.Normal, .int .i64 x1.Len, .int .i64 x1.Stays, (.slice q11 x1.Log.length x12), .int .i64 x1.Num, .string x1.Text]) E H rfl rfl rfl rfl Try.underlying24 rfl sz24) ?_
      clear E; clear a; intro a E
      replace H : Sep w (Blk p10 24 [.int .i64 x1.Kind, .int .i64 x1.View, .int .i64 x1.Normal, .int .i64 x1.Len, .int .i64 x1.Stays, (.slice q11 x1.Log.length x12), .int .i64 x1.Num, .string x1.Text] :: Blk p13 26 [.int .i64 x3.View, .int .i64 x3.Normal, (.slice q14 x3.Log.length x15)] :: Fo) (rs19) := H
      obtain ⟨u24, hx25, hm⟩ := bnd hm
      refine st_call E (wn rfl) rfl rfl (x_call E rfl rfl (cf11 _)) (c_letter_Put (⟨x1.Kind, x1.View, x1.Normal, x1.Len, x1.Stays, x1.Log, x1.Num, x1.Text⟩ : S_api_Letter) (.slice q11 x1.Log.length x12) H hr22 hx25) ?_
      clear E H; clear a; clear w; rintro _ w ⟨v26, rfl, H⟩ a E
      refine st_val E (wn rfl) rfl rfl (x_move E rfl rfl) ?_
      clear E; clear a; intro a E
      refine st_val E (wn rfl) rfl rfl (x_ext E rfl rfl rfl) ?_
      clear E; clear a; intro a E
      refine st_val E (wn rfl) rfl rfl (x_ext E rfl rfl rfl) ?_
      clear E; clear a; intro a E
      refine st_val E (wn rfl) rfl rfl (x_assign E rfl rfl) ?_
      clear E; clear a; intro a E
      refine st_val E (wn rfl) rfl rfl (x_assign E rfl rfl) ?_
      clear E; clear a; intro a E
      refine wpList_nil ?_
      refine q_then ?_
      refine wp_seq_cut (fun a w => ∃ (rs27 : List Rp), Env 146 a [(2, v5), (4, .pointer (some ⟨p13, 0, none⟩)), (7, .bool u16)] ∧ Sep w (Blk p13 26 [.int .i64 x3.View, .int .i64 x3.Normal, (.slice q14 x3.Log.length x15)] :: Fo) rs27 ∧ (∀ r, r ∈ rs → r ∈ rs27) ∧ rSl (kI .u8) v5 l6 ∈ rs27 ∧ rSl kS (.slice q14 x3.Log.length x15) x3.Log ∈ rs27 ∧ m_cantonlaw17_LetterBack_j2 u16 l6 x3 = some r) ?_ ?_
      · refine wp_seq ?_
        refine wp_region_lit ?_
        refine st_val E (wn rfl) rfl rfl (x_move E rfl rfl) ?_
        clear E; clear a; intro a E
        refine st_val E (wn rfl) rfl rfl (x_bin E rfl rfl rfl rfl) ?_
        clear E; clear a; intro a E
        refine wpList_nil ?_
        refine q_then ?_
        refine wp_if E rfl ?_ ?_
        · intro hb
          rw [if_t hb] at hm
          clear hb
          refine wp_seq ?_
          refine wp_region_lit ?_
          refine st_val E (wn rfl) rfl rfl (x_move E rfl rfl) ?_
          clear E; clear a; intro a E
          replace H := H.thaw (i := 0) rfl
          replace H : Sep w (Blk p10 24 [.int .i64 x1.Kind, .int .i64 x1.View, .int .i64 x1.Normal, .int .i64 x1.Len, .int .i64 x1.Stays, (.slice q11 x1.Log.length x12), .int .i64 x1.Num, .string x1.Text] :: Blk p13 26 [.int .i64 x3.View, .int .i64 x3.Normal, (.slice q14 x3.Log.length x15)] :: Fo) (rSl (kI .u8) v26 u24.1 :: rs19) := H
          obtain ⟨u99, hx100, hm⟩ := bnd hm
          refine st_call E (wn rfl) rfl rfl (x_call E rfl rfl (cf15 _)) (c_letter_Get v26 u24.1 H (.head _) hx100) ?_
          clear E H; clear a; clear w; rintro _ w ⟨v101, rfl, H⟩ a E
          refine st_val E (wn rfl) rfl rfl (x_move E rfl rfl) ?_
          clear E; clear a; intro a E
          refine st_val E (wn rfl) rfl rfl (x_ext E rfl rfl rfl) ?_
          clear E; clear a; intro a E
          refine st_val E (wn rfl) rfl rfl (x_ext E rfl rfl rfl) ?_
          clear E; clear a; intro a E
          refine st_alloc E H (wn rfl) rfl rfl (cs := [.int .i64 0, .int .i64 0, .int .i64 0, .int .i64 0, .int .i64 0, .slice none 0 0, .int .i64 0, .string (ByteArray.mk #[])]) rfl (z := .agg #[.int .i64 0, .int .i64 0, .int .i64 0, .int .i64 0, .int .i64 0, .slice none 0 0, .int .i64 0, .string ⟨#[]⟩]) (by kernel_rfl) rfl ?_
          clear E H; clear a; clear w; intro p102 w a H E
          obtain ⟨q103, x104, rfl⟩ := H.slform (.head _)
          refine st_st (i := 0) E H (wn rfl) rfl (us := [.int .i64 u99.1.Kind, .int .i64 u99.1.View, .int .i64 u99.1.Normal, .int .i64 u99.1.Len, .int .i64 u99.1.Stays, (.slice q103 u99.1.Log.length x104), .int .i64 u99.1.Num, .string u99.1.Text]) rfl rfl rfl rfl rfl sz24 rfl rfl ?_
          clear H; clear w; intro w H
          replace H : Sep w (Blk p102 24 [.int .i64 u99.1.Kind, .int .i64 u99.1.View, .int .i64 u99.1.Normal, .int .i64 u99.1.Len, .int .i64 u99.1.Stays, (.slice q103 u99.1.Log.length x104), .int .i64 u99.1.Num, .string u99.1.Text] :: Blk p10 24 [.int .i64 x1.Kind, .int .i64 x1.View, .int .i64 x1.Normal, .int .i64 x1.Len, .int .i64 x1.Stays, (.slice q11 x1.Log.length x12), .int .i64 x1.Num, .string x1.Text] :: Blk p13 26 [.int .i64 x3.View, .int .i64 x3.Normal, (.slice q14 x3.Log.length x15)] :: Fo) _ := H
          refine st_val E (wn rfl) rfl rfl (x_assign E rfl rfl) ?_
          clear E; clear a; intro a E
          refine wpList_nil ?_
          refine q_then ?_
          refine wp_seq_cut (fun a w => ∃ (b105 : Bool) (rs106 : List Rp), Env 146 a [(2, v5), (4, .pointer (some ⟨p13, 0, none⟩)), (7, .bool u16), (64, .bool b105)] ∧ Sep w (Blk p13 26 [.int .i64 x3.View, .int .i64 x3.Normal, (.slice q14 x3.Log.length x15)] :: Fo) rs106 ∧ (∀ r, r ∈ rs → r ∈ rs106) ∧ rSl (kI .u8) v5 l6 ∈ rs106 ∧ rSl kS (.slice q14 x3.Log.length x15) x3.Log ∈ rs106 ∧ m_cantonlaw17_LetterBack_j9 u16 l6 x3 b105 = some r) ?_ ?_
          · refine wp_region_lit ?_
            refine st_val E (wn rfl) rfl rfl (x_move E rfl rfl) ?_
            clear E; clear a; intro a E
            refine st_val E (wn rfl) rfl rfl (x_bin E rfl rfl rfl rfl) ?_
            clear E; clear a; intro a E
            refine st_val E (wn rfl) rfl rfl (x_move E rfl rfl) ?_
            clear E; clear a; intro a E
            rcases Bool.eq_false_or_eq_true (u99.2 != 0) with hb110 | hb110
            · rw [if_t hb110] at hm
              refine st_no E (wf' E rfl rfl rfl rfl hb110 rfl) rfl rfl ?_
              clear E; clear a; intro a E
              refine st_no E (wf' E rfl rfl rfl rfl hb110 rfl) rfl rfl ?_
              clear E; clear a; intro a E
              refine st_no E (wf' E rfl rfl rfl rfl hb110 rfl) rfl rfl ?_
              clear E; clear a; intro a E
              refine st_no E (wf' E rfl rfl rfl rfl hb110 rfl) rfl rfl ?_
              clear E; clear a; intro a E
              refine st_val E (wn rfl) rfl rfl (x_pickT E rfl rfl hb110 rfl) ?_
              clear E; clear a; intro a E
              refine wpList_nil ?_
              refine q_then ?_
              replace H := H.drop 0
              replace H := H.drop 0
              exact ⟨true, _, ((((E.nil.keep E 64 rfl).keep E 7 rfl).keep E 4 rfl).keep E 2 rfl), H, fun r hr => .tail _ (.tail _ (hs20 r hr)), (.tail _ (.tail _ hr21)), (.tail _ (.tail _ hr23)), hm⟩
            · rw [if_f hb110] at hm
              refine st_val E (ws' E rfl rfl rfl rfl hb110) rfl rfl (x_ldBN (i := 1) (us := [.int .i64 x1.Kind, .int .i64 x1.View, .int .i64 x1.Normal, .int .i64 x1.Len, .int .i64 x1.Stays, (.slice q11 x1.Log.length x12), .int .i64 x1.Num, .string x1.Text]) E H rfl rfl rfl rfl Try.underlying24 rfl sz24) ?_
              clear E; clear a; intro a E
              refine st_val E (ws' E rfl rfl rfl rfl hb110) rfl rfl (x_ldBN (i := 0) (us := [.int .i64 u99.1.Kind, .int .i64 u99.1.View, .int .i64 u99.1.Normal, .int .i64 u99.1.Len, .int .i64 u99.1.Stays, (.slice q103 u99.1.Log.length x104), .int .i64 u99.1.Num, .string u99.1.Text]) E H rfl rfl rfl rfl Try.underlying24 rfl sz24) ?_
              clear E; clear a; intro a E
              replace H : Sep w (Blk p102 24 [.int .i64 u99.1.Kind, .int .i64 u99.1.View, .int .i64 u99.1.Normal, .int .i64 u99.1.Len, .int .i64 u99.1.Stays, (.slice q103 u99.1.Log.length x104), .int .i64 u99.1.Num, .string u99.1.Text] :: Blk p10 24 [.int .i64 x1.Kind, .int .i64 x1.View, .int .i64 x1.Normal, .int .i64 x1.Len, .int .i64 x1.Stays, (.slice q11 x1.Log.length x12), .int .i64 x1.Num, .string x1.Text] :: Blk p13 26 [.int .i64 x3.View, .int .i64 x3.Normal, (.slice q14 x3.Log.length x15)] :: Fo) (rSl kS (.slice q103 u99.1.Log.length x104) u99.1.Log :: rSl (kI .u8) v26 u24.1 :: rs19) := H
              obtain ⟨u111, hx112, hm⟩ := bnd hm
              refine st_call E (ws' E rfl rfl rfl rfl hb110) rfl rfl (x_call E rfl rfl (cf19 _)) (c_cantonref17_Same (⟨x1.Kind, x1.View, x1.Normal, x1.Len, x1.Stays, x1.Log, x1.Num, x1.Text⟩ : S_api_Letter) (.slice q11 x1.Log.length x12) (⟨u99.1.Kind, u99.1.View, u99.1.Normal, u99.1.Len, u99.1.Stays, u99.1.Log, u99.1.Num, u99.1.Text⟩ : S_api_Letter) (.slice q103 u99.1.Log.length x104) H (.tail _ (.tail _ hr22)) (.head _) hx112) ?_
              clear E H; clear a; clear w; rintro _ w ⟨rfl, H⟩ a E
              refine st_val E (ws' E rfl rfl rfl rfl hb110) rfl rfl (x_not E rfl rfl) ?_
              clear E; clear a; intro a E
              refine st_val E (wn rfl) rfl rfl (x_pickF E rfl rfl hb110 rfl) ?_
              clear E; clear a; intro a E
              refine wpList_nil ?_
              refine q_then ?_
              replace H := H.drop 0
              replace H := H.drop 0
              exact ⟨!u111, _, ((((E.nil.keep E 64 rfl).keep E 7 rfl).keep E 4 rfl).keep E 2 rfl), H, fun r hr => .tail _ (.tail _ (hs20 r hr)), (.tail _ (.tail _ hr21)), (.tail _ (.tail _ hr23)), hm⟩
          · clear E H hm
            rintro a w ⟨b105, rs106, E, H, hs107, hr108, hr109, hm⟩
            unfold m_cantonlaw17_LetterBack_j9 at hm
            refine wp_if E rfl ?_ ?_
            · intro hb
              rw [if_t hb] at hm
              clear hb
              refine wp_seq ?_
              refine wp_region_lit ?_
              refine st_val E (wn rfl) rfl rfl (x_assign E rfl rfl) ?_
              clear E; clear a; intro a E
              refine wpList_nil ?_
              refine q_then ?_
              refine wp_ret ?_
              refine q_thenR ?_
              refine out1 E rfl rfl ?_
              replace H := H.drop 0
              obtain rfl := Option.some.inj hm
              exact ⟨rfl, H.reads (fun r hr => hs107 r hr)⟩
            · intro hb
              rw [if_f hb] at hm
              clear hb
              refine wp_skip ?_
              refine q_then ?_
              exact ⟨_, (((E.nil.keep E 7 rfl).keep E 4 rfl).keep E 2 rfl), H, hs107, hr108, hr109, hm⟩
        · intro hb
          rw [if_f hb] at hm
          clear hb
          refine wp_skip ?_
          refine q_then ?_
          replace H := H.drop 0
          replace H := H.drop 0
          exact ⟨_, (((E.nil.keep E 7 rfl).keep E 4 rfl).keep E 2 rfl), H, hs20, hr21, hr23, hm⟩
      · clear E H hm
        rintro a w ⟨rs27, E, H, hs28, hr29, hr30, hm⟩
        unfold m_cantonlaw17_LetterBack_j2 at hm
        refine wp_seq ?_
        refine wp_region_lit ?_
        refine st_val E (wn rfl) rfl rfl (x_ldBN (i := 0) (us := [.int .i64 x3.View, .int .i64 x3.Normal, (.slice q14 x3.Log.length x15)]) E H rfl rfl rfl rfl Try.underlying26 rfl sz26) ?_
        clear E; clear a; intro a E
        replace H : Sep w (Blk p13 26 [.int .i64 x3.View, .int .i64 x3.Normal, (.slice q14 x3.Log.length x15)] :: Fo) (rs27) := H
        obtain ⟨u31, hx32, hm⟩ := bnd hm
        refine st_call E (wn rfl) rfl rfl (x_call E rfl rfl (cf13 _)) (c_letter_PutSaved (⟨x3.View, x3.Normal, x3.Log⟩ : S_api_Saved) (.slice q14 x3.Log.length x15) H hr30 hx32) ?_
        clear E H; clear a; clear w; rintro _ w ⟨v33, rfl, H⟩ a E
        refine st_val E (wn rfl) rfl rfl (x_move E rfl rfl) ?_
        clear E; clear a; intro a E
        refine st_val E (wn rfl) rfl rfl (x_ext E rfl rfl rfl) ?_
        clear E; clear a; intro a E
        refine st_val E (wn rfl) rfl rfl (x_ext E rfl rfl rfl) ?_
        clear E; clear a; intro a E
        refine st_val E (wn rfl) rfl rfl (x_assign E rfl rfl) ?_
        clear E; clear a; intro a E
        refine st_val E (wn rfl) rfl rfl (x_assign E rfl rfl) ?_
        clear E; clear a; intro a E
        refine wpList_nil ?_
        refine q_then ?_
        refine wp_seq_cut (fun a w => ∃ (rs34 : List Rp), Env 146 a [(2, v5), (7, .bool u16)] ∧ Sep w (Fo) rs34 ∧ (∀ r, r ∈ rs → r ∈ rs34) ∧ rSl (kI .u8) v5 l6 ∈ rs34 ∧ m_cantonlaw17_LetterBack_j3 u16 l6 = some r) ?_ ?_
        · refine wp_seq ?_
          refine wp_region_lit ?_
          refine st_val E (wn rfl) rfl rfl (x_move E rfl rfl) ?_
          clear E; clear a; intro a E
          refine st_val E (wn rfl) rfl rfl (x_bin E rfl rfl rfl rfl) ?_
          clear E; clear a; intro a E
          refine wpList_nil ?_
          refine q_then ?_
          refine wp_if E rfl ?_ ?_
          · intro hb
            rw [if_t hb] at hm
            clear hb
            refine wp_seq ?_
            refine wp_region_lit ?_
            refine st_val E (wn rfl) rfl rfl (x_move E rfl rfl) ?_
            clear E; clear a; intro a E
            replace H := H.thaw (i := 0) rfl
            replace H : Sep w (Blk p13 26 [.int .i64 x3.View, .int .i64 x3.Normal, (.slice q14 x3.Log.length x15)] :: Fo) (rSl (kI .u8) v33 u31.1 :: rs27) := H
            obtain ⟨u86, hx87, hm⟩ := bnd hm
            refine st_call E (wn rfl) rfl rfl (x_call E rfl rfl (cf17 _)) (c_letter_GetSaved v33 u31.1 H (.head _) hx87) ?_
            clear E H; clear a; clear w; rintro _ w ⟨v88, rfl, H⟩ a E
            refine st_val E (wn rfl) rfl rfl (x_move E rfl rfl) ?_
            clear E; clear a; intro a E
            refine st_val E (wn rfl) rfl rfl (x_ext E rfl rfl rfl) ?_
            clear E; clear a; intro a E
            refine st_val E (wn rfl) rfl rfl (x_ext E rfl rfl rfl) ?_
            clear E; clear a; intro a E
            refine st_alloc E H (wn rfl) rfl rfl (cs := [.int .i64 0, .int .i64 0, .slice none 0 0]) rfl (z := .agg #[.int .i64 0, .int .i64 0, .slice none 0 0]) (by kernel_rfl) rfl ?_
            clear E H; clear a; clear w; intro p89 w a H E
            obtain ⟨q90, x91, rfl⟩ := H.slform (.head _)
            refine st_st (i := 0) E H (wn rfl) rfl (us := [.int .i64 u86.1.View, .int .i64 u86.1.Normal, (.slice q90 u86.1.Log.length x91)]) rfl rfl rfl rfl rfl sz26 rfl rfl ?_
            clear H; clear w; intro w H
            replace H : Sep w (Blk p89 26 [.int .i64 u86.1.View, .int .i64 u86.1.Normal, (.slice q90 u86.1.Log.length x91)] :: Blk p13 26 [.int .i64 x3.View, .int .i64 x3.Normal, (.slice q14 x3.Log.length x15)] :: Fo) _ := H
            refine st_val E (wn rfl) rfl rfl (x_assign E rfl rfl) ?_
            clear E; clear a; intro a E
            refine wpList_nil ?_
            refine q_then ?_
            refine wp_seq_cut (fun a w => ∃ (b92 : Bool) (rs93 : List Rp), Env 146 a [(2, v5), (7, .bool u16), (84, .bool b92)] ∧ Sep w (Fo) rs93 ∧ (∀ r, r ∈ rs → r ∈ rs93) ∧ rSl (kI .u8) v5 l6 ∈ rs93 ∧ m_cantonlaw17_LetterBack_j8 u16 l6 b92 = some r) ?_ ?_
            · refine wp_region_lit ?_
              refine st_val E (wn rfl) rfl rfl (x_move E rfl rfl) ?_
              clear E; clear a; intro a E
              refine st_val E (wn rfl) rfl rfl (x_bin E rfl rfl rfl rfl) ?_
              clear E; clear a; intro a E
              refine st_val E (wn rfl) rfl rfl (x_move E rfl rfl) ?_
              clear E; clear a; intro a E
              rcases Bool.eq_false_or_eq_true (u86.2 != 0) with hb96 | hb96
              · rw [if_t hb96] at hm
                refine st_no E (wf' E rfl rfl rfl rfl hb96 rfl) rfl rfl ?_
                clear E; clear a; intro a E
                refine st_no E (wf' E rfl rfl rfl rfl hb96 rfl) rfl rfl ?_
                clear E; clear a; intro a E
                refine st_no E (wf' E rfl rfl rfl rfl hb96 rfl) rfl rfl ?_
                clear E; clear a; intro a E
                refine st_no E (wf' E rfl rfl rfl rfl hb96 rfl) rfl rfl ?_
                clear E; clear a; intro a E
                refine st_val E (wn rfl) rfl rfl (x_pickT E rfl rfl hb96 rfl) ?_
                clear E; clear a; intro a E
                refine wpList_nil ?_
                refine q_then ?_
                replace H := H.drop 0
                replace H := H.drop 0
                exact ⟨true, _, (((E.nil.keep E 84 rfl).keep E 7 rfl).keep E 2 rfl), H, fun r hr => .tail _ (.tail _ (hs28 r hr)), (.tail _ (.tail _ hr29)), hm⟩
              · rw [if_f hb96] at hm
                refine st_val E (ws' E rfl rfl rfl rfl hb96) rfl rfl (x_ldBN (i := 1) (us := [.int .i64 x3.View, .int .i64 x3.Normal, (.slice q14 x3.Log.length x15)]) E H rfl rfl rfl rfl Try.underlying26 rfl sz26) ?_
                clear E; clear a; intro a E
                refine st_val E (ws' E rfl rfl rfl rfl hb96) rfl rfl (x_ldBN (i := 0) (us := [.int .i64 u86.1.View, .int .i64 u86.1.Normal, (.slice q90 u86.1.Log.length x91)]) E H rfl rfl rfl rfl Try.underlying26 rfl sz26) ?_
                clear E; clear a; intro a E
                replace H : Sep w (Blk p89 26 [.int .i64 u86.1.View, .int .i64 u86.1.Normal, (.slice q90 u86.1.Log.length x91)] :: Blk p13 26 [.int .i64 x3.View, .int .i64 x3.Normal, (.slice q14 x3.Log.length x15)] :: Fo) (rSl kS (.slice q90 u86.1.Log.length x91) u86.1.Log :: rSl (kI .u8) v33 u31.1 :: rs27) := H
                obtain ⟨u97, hx98, hm⟩ := bnd hm
                refine st_call E (ws' E rfl rfl rfl rfl hb96) rfl rfl (x_call E rfl rfl (cf20 _)) (c_cantonlaw17_sameSaved (⟨x3.View, x3.Normal, x3.Log⟩ : S_api_Saved) (.slice q14 x3.Log.length x15) (⟨u86.1.View, u86.1.Normal, u86.1.Log⟩ : S_api_Saved) (.slice q90 u86.1.Log.length x91) H (.tail _ (.tail _ hr30)) (.head _) hx98) ?_
                clear E H; clear a; clear w; rintro _ w ⟨rfl, H⟩ a E
                refine st_val E (ws' E rfl rfl rfl rfl hb96) rfl rfl (x_not E rfl rfl) ?_
                clear E; clear a; intro a E
                refine st_val E (wn rfl) rfl rfl (x_pickF E rfl rfl hb96 rfl) ?_
                clear E; clear a; intro a E
                refine wpList_nil ?_
                refine q_then ?_
                replace H := H.drop 0
                replace H := H.drop 0
                exact ⟨!u97, _, (((E.nil.keep E 84 rfl).keep E 7 rfl).keep E 2 rfl), H, fun r hr => .tail _ (.tail _ (hs28 r hr)), (.tail _ (.tail _ hr29)), hm⟩
            · clear E H hm
              rintro a w ⟨b92, rs93, E, H, hs94, hr95, hm⟩
              unfold m_cantonlaw17_LetterBack_j8 at hm
              refine wp_if E rfl ?_ ?_
              · intro hb
                rw [if_t hb] at hm
                clear hb
                refine wp_seq ?_
                refine wp_region_lit ?_
                refine st_val E (wn rfl) rfl rfl (x_assign E rfl rfl) ?_
                clear E; clear a; intro a E
                refine wpList_nil ?_
                refine q_then ?_
                refine wp_ret ?_
                refine q_thenR ?_
                refine out1 E rfl rfl ?_
                obtain rfl := Option.some.inj hm
                exact ⟨rfl, H.reads (fun r hr => hs94 r hr)⟩
              · intro hb
                rw [if_f hb] at hm
                clear hb
                refine wp_skip ?_
                refine q_then ?_
                exact ⟨_, ((E.nil.keep E 7 rfl).keep E 2 rfl), H, hs94, hr95, hm⟩
          · intro hb
            rw [if_f hb] at hm
            clear hb
            refine wp_skip ?_
            refine q_then ?_
            replace H := H.drop 0
            replace H := H.drop 0
            exact ⟨_, ((E.nil.keep E 7 rfl).keep E 2 rfl), H, hs28, hr29, hm⟩
        · clear E H hm
          rintro a w ⟨rs34, E, H, hs35, hr36, hm⟩
          unfold m_cantonlaw17_LetterBack_j3 at hm
          refine wp_seq ?_
          refine wp_region_lit ?_
          refine st_val E (wn rfl) rfl rfl (x_move E rfl rfl) ?_
          clear E; clear a; intro a E
          replace H : Sep w (Fo) (rs34) := H
          obtain ⟨u37, hx38, hm⟩ := bnd hm
          refine st_call E (wn rfl) rfl rfl (x_call E rfl rfl (cf15 _)) (c_letter_Get v5 l6 H hr36 hx38) ?_
          clear E H; clear a; clear w; rintro _ w ⟨v39, rfl, H⟩ a E
          refine st_val E (wn rfl) rfl rfl (x_move E rfl rfl) ?_
          clear E; clear a; intro a E
          refine st_val E (wn rfl) rfl rfl (x_ext E rfl rfl rfl) ?_
          clear E; clear a; intro a E
          refine st_val E (wn rfl) rfl rfl (x_ext E rfl rfl rfl) ?_
          clear E; clear a; intro a E
          refine st_alloc E H (wn rfl) rfl rfl (cs := [.int .i64 0, .int .i64 0, .int .i64 0, .int .i64 0, .int .i64 0, .slice none 0 0, .int .i64 0, .string (ByteArray.mk #[])]) rfl (z := .agg #[.int .i64 0, .int .i64 0, .int .i64 0, .int .i64 0, .int .i64 0, .slice none 0 0, .int .i64 0, .string ⟨#[]⟩]) (by kernel_rfl) rfl ?_
          clear E H; clear a; clear w; intro p40 w a H E
          obtain ⟨q41, x42, rfl⟩ := H.slform (.head _)
          refine st_st (i := 0) E H (wn rfl) rfl (us := [.int .i64 u37.1.Kind, .int .i64 u37.1.View, .int .i64 u37.1.Normal, .int .i64 u37.1.Len, .int .i64 u37.1.Stays, (.slice q41 u37.1.Log.length x42), .int .i64 u37.1.Num, .string u37.1.Text]) rfl rfl rfl rfl rfl sz24 rfl rfl ?_
          clear H; clear w; intro w H
          replace H : Sep w (Blk p40 24 [.int .i64 u37.1.Kind, .int .i64 u37.1.View, .int .i64 u37.1.Normal, .int .i64 u37.1.Len, .int .i64 u37.1.Stays, (.slice q41 u37.1.Log.length x42), .int .i64 u37.1.Num, .string u37.1.Text] :: Fo) _ := H
          refine st_val E (wn rfl) rfl rfl (x_assign E rfl rfl) ?_
          clear E; clear a; intro a E
          refine wpList_nil ?_
          refine q_then ?_
          refine wp_seq_cut (fun a w => ∃ (rs43 : List Rp), Env 146 a [(2, v5), (7, .bool u16), (16, .pointer (some ⟨p40, 0, none⟩)), (17, .int .i64 u37.2)] ∧ Sep w (Blk p40 24 [.int .i64 u37.1.Kind, .int .i64 u37.1.View, .int .i64 u37.1.Normal, .int .i64 u37.1.Len, .int .i64 u37.1.Stays, (.slice q41 u37.1.Log.length x42), .int .i64 u37.1.Num, .string u37.1.Text] :: Fo) rs43 ∧ (∀ r, r ∈ rs → r ∈ rs43) ∧ rSl (kI .u8) v5 l6 ∈ rs43 ∧ rSl kS (.slice q41 u37.1.Log.length x42) u37.1.Log ∈ rs43 ∧ m_cantonlaw17_LetterBack_j4 u16 u37 l6 = some r) ?_ ?_
          · refine wp_seq ?_
            refine wp_region_lit ?_
            refine st_val E (wn rfl) rfl rfl (x_move E rfl rfl) ?_
            clear E; clear a; intro a E
            refine st_val E (wn rfl) rfl rfl (x_bin E rfl rfl rfl rfl) ?_
            clear E; clear a; intro a E
            refine wpList_nil ?_
            refine q_then ?_
            refine wp_if E rfl ?_ ?_
            · intro hb
              rw [if_t hb] at hm
              clear hb
              refine wp_seq ?_
              refine wp_region_lit ?_
              refine st_val E (wn rfl) rfl rfl (x_ldBN (i := 0) (us := [.int .i64 u37.1.Kind, .int .i64 u37.1.View, .int .i64 u37.1.Normal, .int .i64 u37.1.Len, .int .i64 u37.1.Stays, (.slice q41 u37.1.Log.length x42), .int .i64 u37.1.Num, .string u37.1.Text]) E H rfl rfl rfl rfl Try.underlying24 rfl sz24) ?_
              clear E; clear a; intro a E
              replace H : Sep w (Blk p40 24 [.int .i64 u37.1.Kind, .int .i64 u37.1.View, .int .i64 u37.1.Normal, .int .i64 u37.1.Len, .int .i64 u37.1.Stays, (.slice q41 u37.1.Log.length x42), .int .i64 u37.1.Num, .string u37.1.Text] :: Fo) (rSl kS (.slice q41 u37.1.Log.length x42) u37.1.Log :: rs34) := H
              obtain ⟨u77, hx78, hm⟩ := bnd hm
              refine st_call E (wn rfl) rfl rfl (x_call E rfl rfl (cf11 _)) (c_letter_Put (⟨u37.1.Kind, u37.1.View, u37.1.Normal, u37.1.Len, u37.1.Stays, u37.1.Log, u37.1.Num, u37.1.Text⟩ : S_api_Letter) (.slice q41 u37.1.Log.length x42) H (.head _) hx78) ?_
              clear E H; clear a; clear w; rintro _ w ⟨v79, rfl, H⟩ a E
              refine st_val E (wn rfl) rfl rfl (x_move E rfl rfl) ?_
              clear E; clear a; intro a E
              refine st_val E (wn rfl) rfl rfl (x_ext E rfl rfl rfl) ?_
              clear E; clear a; intro a E
              refine st_val E (wn rfl) rfl rfl (x_ext E rfl rfl rfl) ?_
              clear E; clear a; intro a E
              refine st_val E (wn rfl) rfl rfl (x_assign E rfl rfl) ?_
              clear E; clear a; intro a E
              refine st_val E (wn rfl) rfl rfl (x_assign E rfl rfl) ?_
              clear E; clear a; intro a E
              refine wpList_nil ?_
              refine q_then ?_
              refine wp_seq_cut (fun a w => ∃ (b80 : Bool) (rs81 : List Rp), Env 146 a [(2, v5), (7, .bool u16), (16, .pointer (some ⟨p40, 0, none⟩)), (17, .int .i64 u37.2), (105, .bool b80)] ∧ Sep w (Blk p40 24 [.int .i64 u37.1.Kind, .int .i64 u37.1.View, .int .i64 u37.1.Normal, .int .i64 u37.1.Len, .int .i64 u37.1.Stays, (.slice q41 u37.1.Log.length x42), .int .i64 u37.1.Num, .string u37.1.Text] :: Fo) rs81 ∧ (∀ r, r ∈ rs → r ∈ rs81) ∧ rSl (kI .u8) v5 l6 ∈ rs81 ∧ rSl kS (.slice q41 u37.1.Log.length x42) u37.1.Log ∈ rs81 ∧ m_cantonlaw17_LetterBack_j7 u16 u37 l6 b80 = some r) ?_ ?_
              · refine wp_region_lit ?_
                refine st_val E (wn rfl) rfl rfl (x_move E rfl rfl) ?_
                clear E; clear a; intro a E
                refine st_val E (wn rfl) rfl rfl (x_bin E rfl rfl rfl rfl) ?_
                clear E; clear a; intro a E
                refine st_val E (wn rfl) rfl rfl (x_move E rfl rfl) ?_
                clear E; clear a; intro a E
                rcases Bool.eq_false_or_eq_true (u77.2 != 0) with hb85 | hb85
                · rw [if_t hb85] at hm
                  refine st_no E (wf' E rfl rfl rfl rfl hb85 rfl) rfl rfl ?_
                  clear E; clear a; intro a E
                  refine st_no E (wf' E rfl rfl rfl rfl hb85 rfl) rfl rfl ?_
                  clear E; clear a; intro a E
                  refine st_no E (wf' E rfl rfl rfl rfl hb85 rfl) rfl rfl ?_
                  clear E; clear a; intro a E
                  refine st_no E (wf' E rfl rfl rfl rfl hb85 rfl) rfl rfl ?_
                  clear E; clear a; intro a E
                  refine st_no E (wf' E rfl rfl rfl rfl hb85 rfl) rfl rfl ?_
                  clear E; clear a; intro a E
                  refine st_val E (wn rfl) rfl rfl (x_pickT E rfl rfl hb85 rfl) ?_
                  clear E; clear a; intro a E
                  refine wpList_nil ?_
                  refine q_then ?_
                  replace H := H.drop 0
                  exact ⟨true, _, (((((E.nil.keep E 105 rfl).keep E 17 rfl).keep E 16 rfl).keep E 7 rfl).keep E 2 rfl), H, fun r hr => .tail _ (hs35 r hr), (.tail _ hr36), (.head _), hm⟩
                · rw [if_f hb85] at hm
                  refine st_val E (ws' E rfl rfl rfl rfl hb85) rfl rfl (x_move E rfl rfl) ?_
                  clear E; clear a; intro a E
                  replace H := H.thaw (i := 0) rfl
                  refine st_val E (ws' E rfl rfl rfl rfl hb85) rfl rfl (x_b2s E H rfl rfl (.head _) Try.underlying27 Try.underlying5 Try.underlying9) ?_
                  clear E; clear a; intro a E
                  refine st_val E (ws' E rfl rfl rfl rfl hb85) rfl rfl (x_move E rfl rfl) ?_
                  clear E; clear a; intro a E
                  refine st_val E (ws' E rfl rfl rfl rfl hb85) rfl rfl (x_b2s E H rfl rfl (.tail _ (.tail _ hr36)) Try.underlying27 Try.underlying5 Try.underlying9) ?_
                  clear E; clear a; intro a E
                  refine st_val E (ws' E rfl rfl rfl rfl hb85) rfl rfl (x_str E rfl rfl rfl rfl) ?_
                  clear E; clear a; intro a E
                  refine st_val E (wn rfl) rfl rfl (x_pickF E rfl rfl hb85 rfl) ?_
                  clear E; clear a; intro a E
                  refine wpList_nil ?_
                  refine q_then ?_
                  exact ⟨!(sEq (strOf u77.1) (strOf l6)), _, (((((E.nil.keep E 105 rfl).keep E 17 rfl).keep E 16 rfl).keep E 7 rfl).keep E 2 rfl), H, fun r hr => .tail _ (.tail _ (hs35 r hr)), (.tail _ (.tail _ hr36)), (.tail _ (.head _)), hm⟩
              · clear E H hm
                rintro a w ⟨b80, rs81, E, H, hs82, hr83, hr84, hm⟩
                unfold m_cantonlaw17_LetterBack_j7 at hm
                refine wp_if E rfl ?_ ?_
                · intro hb
                  rw [if_t hb] at hm
                  clear hb
                  refine wp_seq ?_
                  refine wp_region_lit ?_
                  refine st_val E (wn rfl) rfl rfl (x_assign E rfl rfl) ?_
                  clear E; clear a; intro a E
                  refine wpList_nil ?_
                  refine q_then ?_
                  refine wp_ret ?_
                  refine q_thenR ?_
                  refine out1 E rfl rfl ?_
                  replace H := H.drop 0
                  obtain rfl := Option.some.inj hm
                  exact ⟨rfl, H.reads (fun r hr => hs82 r hr)⟩
                · intro hb
                  rw [if_f hb] at hm
                  clear hb
                  refine wp_skip ?_
                  refine q_then ?_
                  exact ⟨_, ((((E.nil.keep E 17 rfl).keep E 16 rfl).keep E 7 rfl).keep E 2 rfl), H, hs82, hr83, hr84, hm⟩
            · intro hb
              rw [if_f hb] at hm
              clear hb
              refine wp_skip ?_
              refine q_then ?_
              exact ⟨_, ((((E.nil.keep E 17 rfl).keep E 16 rfl).keep E 7 rfl).keep E 2 rfl), H, fun r hr => .tail _ (hs35 r hr), (.tail _ hr36), (.head _), hm⟩
          · clear E H hm
            rintro a w ⟨rs43, E, H, hs44, hr45, hr46, hm⟩
            unfold m_cantonlaw17_LetterBack_j4 at hm
            refine wp_seq ?_
            refine wp_region_lit ?_
            refine st_val E (wn rfl) rfl rfl (x_move E rfl rfl) ?_
            clear E; clear a; intro a E
            replace H : Sep w (Blk p40 24 [.int .i64 u37.1.Kind, .int .i64 u37.1.View, .int .i64 u37.1.Normal, .int .i64 u37.1.Len, .int .i64 u37.1.Stays, (.slice q41 u37.1.Log.length x42), .int .i64 u37.1.Num, .string u37.1.Text] :: Fo) (rs43) := H
            obtain ⟨u47, hx48, hm⟩ := bnd hm
            refine st_call E (wn rfl) rfl rfl (x_call E rfl rfl (cf17 _)) (c_letter_GetSaved v5 l6 H hr45 hx48) ?_
            clear E H; clear a; clear w; rintro _ w ⟨v49, rfl, H⟩ a E
            refine st_val E (wn rfl) rfl rfl (x_move E rfl rfl) ?_
            clear E; clear a; intro a E
            refine st_val E (wn rfl) rfl rfl (x_ext E rfl rfl rfl) ?_
            clear E; clear a; intro a E
            refine st_val E (wn rfl) rfl rfl (x_ext E rfl rfl rfl) ?_
            clear E; clear a; intro a E
            refine st_alloc E H (wn rfl) rfl rfl (cs := [.int .i64 0, .int .i64 0, .slice none 0 0]) rfl (z := .agg #[.int .i64 0, .int .i64 0, .slice none 0 0]) (by kernel_rfl) rfl ?_
            clear E H; clear a; clear w; intro p50 w a H E
            obtain ⟨q51, x52, rfl⟩ := H.slform (.head _)
            refine st_st (i := 0) E H (wn rfl) rfl (us := [.int .i64 u47.1.View, .int .i64 u47.1.Normal, (.slice q51 u47.1.Log.length x52)]) rfl rfl rfl rfl rfl sz26 rfl rfl ?_
            clear H; clear w; intro w H
            replace H : Sep w (Blk p50 26 [.int .i64 u47.1.View, .int .i64 u47.1.Normal, (.slice q51 u47.1.Log.length x52)] :: Blk p40 24 [.int .i64 u37.1.Kind, .int .i64 u37.1.View, .int .i64 u37.1.Normal, .int .i64 u37.1.Len, .int .i64 u37.1.Stays, (.slice q41 u37.1.Log.length x42), .int .i64 u37.1.Num, .string u37.1.Text] :: Fo) _ := H
            refine st_val E (wn rfl) rfl rfl (x_assign E rfl rfl) ?_
            clear E; clear a; intro a E
            refine wpList_nil ?_
            refine q_then ?_
            refine wp_seq_cut (fun a w => ∃ (rs53 : List Rp), Env 146 a [(7, .bool u16), (16, .pointer (some ⟨p40, 0, none⟩)), (17, .int .i64 u37.2), (20, .pointer (some ⟨p50, 0, none⟩)), (21, .int .i64 u47.2)] ∧ Sep w (Blk p40 24 [.int .i64 u37.1.Kind, .int .i64 u37.1.View, .int .i64 u37.1.Normal, .int .i64 u37.1.Len, .int .i64 u37.1.Stays, (.slice q41 u37.1.Log.length x42), .int .i64 u37.1.Num, .string u37.1.Text] :: Blk p50 26 [.int .i64 u47.1.View, .int .i64 u47.1.Normal, (.slice q51 u47.1.Log.length x52)] :: Fo) rs53 ∧ (∀ r, r ∈ rs → r ∈ rs53) ∧ rSl kS (.slice q41 u37.1.Log.length x42) u37.1.Log ∈ rs53 ∧ rSl kS (.slice q51 u47.1.Log.length x52) u47.1.Log ∈ rs53 ∧ m_cantonlaw17_LetterBack_j5 u16 u37 u47 = some r) ?_ ?_
            · refine wp_seq ?_
              refine wp_region_lit ?_
              refine st_val E (wn rfl) rfl rfl (x_move E rfl rfl) ?_
              clear E; clear a; intro a E
              refine st_val E (wn rfl) rfl rfl (x_bin E rfl rfl rfl rfl) ?_
              clear E; clear a; intro a E
              refine wpList_nil ?_
              refine q_then ?_
              refine wp_if E rfl ?_ ?_
              · intro hb
                rw [if_t hb] at hm
                clear hb
                refine wp_seq ?_
                refine wp_region_lit ?_
                refine st_val E (wn rfl) rfl rfl (x_ldBN (i := 0) (us := [.int .i64 u47.1.View, .int .i64 u47.1.Normal, (.slice q51 u47.1.Log.length x52)]) E H rfl rfl rfl rfl Try.underlying26 rfl sz26) ?_
                clear E; clear a; intro a E
                replace H : Sep w (Blk p50 26 [.int .i64 u47.1.View, .int .i64 u47.1.Normal, (.slice q51 u47.1.Log.length x52)] :: Blk p40 24 [.int .i64 u37.1.Kind, .int .i64 u37.1.View, .int .i64 u37.1.Normal, .int .i64 u37.1.Len, .int .i64 u37.1.Stays, (.slice q41 u37.1.Log.length x42), .int .i64 u37.1.Num, .string u37.1.Text] :: Fo) (rSl kS (.slice q51 u47.1.Log.length x52) u47.1.Log :: rs43) := H
                obtain ⟨u68, hx69, hm⟩ := bnd hm
                refine st_call E (wn rfl) rfl rfl (x_call E rfl rfl (cf13 _)) (c_letter_PutSaved (⟨u47.1.View, u47.1.Normal, u47.1.Log⟩ : S_api_Saved) (.slice q51 u47.1.Log.length x52) H (.head _) hx69) ?_
                clear E H; clear a; clear w; rintro _ w ⟨v70, rfl, H⟩ a E
                refine st_val E (wn rfl) rfl rfl (x_move E rfl rfl) ?_
                clear E; clear a; intro a E
                refine st_val E (wn rfl) rfl rfl (x_ext E rfl rfl rfl) ?_
                clear E; clear a; intro a E
                refine st_val E (wn rfl) rfl rfl (x_ext E rfl rfl rfl) ?_
                clear E; clear a; intro a E
                refine st_val E (wn rfl) rfl rfl (x_assign E rfl rfl) ?_
                clear E; clear a; intro a E
                refine st_val E (wn rfl) rfl rfl (x_assign E rfl rfl) ?_
                clear E; clear a; intro a E
                refine wpList_nil ?_
                refine q_then ?_
                refine wp_seq_cut (fun a w => ∃ (b71 : Bool) (rs72 : List Rp), Env 146 a [(7, .bool u16), (16, .pointer (some ⟨p40, 0, none⟩)), (17, .int .i64 u37.2), (20, .pointer (some ⟨p50, 0, none⟩)), (21, .int .i64 u47.2), (126, .bool b71)] ∧ Sep w (Blk p40 24 [.int .i64 u37.1.Kind, .int .i64 u37.1.View, .int .i64 u37.1.Normal, .int .i64 u37.1.Len, .int .i64 u37.1.Stays, (.slice q41 u37.1.Log.length x42), .int .i64 u37.1.Num, .string u37.1.Text] :: Blk p50 26 [.int .i64 u47.1.View, .int .i64 u47.1.Normal, (.slice q51 u47.1.Log.length x52)] :: Fo) rs72 ∧ (∀ r, r ∈ rs → r ∈ rs72) ∧ rSl kS (.slice q41 u37.1.Log.length x42) u37.1.Log ∈ rs72 ∧ rSl kS (.slice q51 u47.1.Log.length x52) u47.1.Log ∈ rs72 ∧ m_cantonlaw17_LetterBack_j6 u16 u37 u47 b71 = some r) ?_ ?_
                · refine wp_region_lit ?_
                  refine st_val E (wn rfl) rfl rfl (x_move E rfl rfl) ?_
                  clear E; clear a; intro a E
                  refine st_val E (wn rfl) rfl rfl (x_bin E rfl rfl rfl rfl) ?_
                  clear E; clear a; intro a E
                  refine st_val E (wn rfl) rfl rfl (x_move E rfl rfl) ?_
                  clear E; clear a; intro a E
                  rcases Bool.eq_false_or_eq_true (u68.2 != 0) with hb76 | hb76
                  · rw [if_t hb76] at hm
                    refine st_no E (wf' E rfl rfl rfl rfl hb76 rfl) rfl rfl ?_
                    clear E; clear a; intro a E
                    refine st_no E (wf' E rfl rfl rfl rfl hb76 rfl) rfl rfl ?_
                    clear E; clear a; intro a E
                    refine st_no E (wf' E rfl rfl rfl rfl hb76 rfl) rfl rfl ?_
                    clear E; clear a; intro a E
                    refine st_no E (wf' E rfl rfl rfl rfl hb76 rfl) rfl rfl ?_
                    clear E; clear a; intro a E
                    refine st_no E (wf' E rfl rfl rfl rfl hb76 rfl) rfl rfl ?_
                    clear E; clear a; intro a E
                    refine st_val E (wn rfl) rfl rfl (x_pickT E rfl rfl hb76 rfl) ?_
                    clear E; clear a; intro a E
                    refine wpList_nil ?_
                    refine q_then ?_
                    replace H := H.drop 0
                    replace H := H.front 0 rfl
                    replace H := H.front 1 rfl
                    exact ⟨true, _, ((((((E.nil.keep E 126 rfl).keep E 21 rfl).keep E 20 rfl).keep E 17 rfl).keep E 16 rfl).keep E 7 rfl), H, fun r hr => .tail _ (hs44 r hr), (.tail _ hr46), (.head _), hm⟩
                  · rw [if_f hb76] at hm
                    refine st_val E (ws' E rfl rfl rfl rfl hb76) rfl rfl (x_move E rfl rfl) ?_
                    clear E; clear a; intro a E
                    replace H := H.thaw (i := 0) rfl
                    refine st_val E (ws' E rfl rfl rfl rfl hb76) rfl rfl (x_b2s E H rfl rfl (.head _) Try.underlying27 Try.underlying5 Try.underlying9) ?_
                    clear E; clear a; intro a E
                    refine st_val E (ws' E rfl rfl rfl rfl hb76) rfl rfl (x_move E rfl rfl) ?_
                    clear E; clear a; intro a E
                    refine st_val E (ws' E rfl rfl rfl rfl hb76) rfl rfl (x_b2s E H rfl rfl (.tail _ (.tail _ hr45)) Try.underlying27 Try.underlying5 Try.underlying9) ?_
                    clear E; clear a; intro a E
                    refine st_val E (ws' E rfl rfl rfl rfl hb76) rfl rfl (x_str E rfl rfl rfl rfl) ?_
                    clear E; clear a; intro a E
                    refine st_val E (wn rfl) rfl rfl (x_pickF E rfl rfl hb76 rfl) ?_
                    clear E; clear a; intro a E
                    refine wpList_nil ?_
                    refine q_then ?_
                    replace H := H.front 0 rfl
                    replace H := H.front 1 rfl
                    exact ⟨!(sEq (strOf u68.1) (strOf l6)), _, ((((((E.nil.keep E 126 rfl).keep E 21 rfl).keep E 20 rfl).keep E 17 rfl).keep E 16 rfl).keep E 7 rfl), H, fun r hr => .tail _ (.tail _ (hs44 r hr)), (.tail _ (.tail _ hr46)), (.tail _ (.head _)), hm⟩
                · clear E H hm
                  rintro a w ⟨b71, rs72, E, H, hs73, hr74, hr75, hm⟩
                  unfold m_cantonlaw17_LetterBack_j6 at hm
                  refine wp_if E rfl ?_ ?_
                  · intro hb
                    rw [if_t hb] at hm
                    clear hb
                    refine wp_seq ?_
                    refine wp_region_lit ?_
                    refine st_val E (wn rfl) rfl rfl (x_assign E rfl rfl) ?_
                    clear E; clear a; intro a E
                    refine wpList_nil ?_
                    refine q_then ?_
                    refine wp_ret ?_
                    refine q_thenR ?_
                    refine out1 E rfl rfl ?_
                    replace H := H.drop 0
                    replace H := H.drop 0
                    obtain rfl := Option.some.inj hm
                    exact ⟨rfl, H.reads (fun r hr => hs73 r hr)⟩
                  · intro hb
                    rw [if_f hb] at hm
                    clear hb
                    refine wp_skip ?_
                    refine q_then ?_
                    exact ⟨_, (((((E.nil.keep E 21 rfl).keep E 20 rfl).keep E 17 rfl).keep E 16 rfl).keep E 7 rfl), H, hs73, hr74, hr75, hm⟩
              · intro hb
                rw [if_f hb] at hm
                clear hb
                refine wp_skip ?_
                refine q_then ?_
                replace H := H.front 0 rfl
                replace H := H.front 1 rfl
                exact ⟨_, (((((E.nil.keep E 21 rfl).keep E 20 rfl).keep E 17 rfl).keep E 16 rfl).keep E 7 rfl), H, fun r hr => .tail _ (hs44 r hr), (.tail _ hr46), (.head _), hm⟩
            · clear E H hm
              rintro a w ⟨rs53, E, H, hs54, hr55, hr56, hm⟩
              unfold m_cantonlaw17_LetterBack_j5 at hm
              refine wp_seq ?_
              refine wp_region_lit ?_
              refine st_val E (wn rfl) rfl rfl (x_move E rfl rfl) ?_
              clear E; clear a; intro a E
              refine st_val E (wn rfl) rfl rfl (x_move E rfl rfl) ?_
              clear E; clear a; intro a E
              rcases Bool.eq_false_or_eq_true u16 with hb57 | hb57
              · rw [if_t hb57] at hm
                refine st_val E (ws' E rfl rfl rfl rfl hb57) rfl rfl (x_move E rfl rfl) ?_
                clear E; clear a; intro a E
                refine st_val E (ws' E rfl rfl rfl rfl hb57) rfl rfl (x_bin E rfl rfl rfl rfl) ?_
                clear E; clear a; intro a E
                refine st_val E (ws' E rfl rfl rfl rfl hb57) rfl rfl (x_move E rfl rfl) ?_
                clear E; clear a; intro a E
                rcases Bool.eq_false_or_eq_true (u37.2 == 0) with hb58 | hb58
                · rw [if_t hb58] at hm
                  refine st_no E (wf' E rfl rfl rfl rfl hb58 rfl) rfl rfl ?_
                  clear E; clear a; intro a E
                  refine st_no E (wf' E rfl rfl rfl rfl hb58 rfl) rfl rfl ?_
                  clear E; clear a; intro a E
                  refine st_no E (wf' E rfl rfl rfl rfl hb58 rfl) rfl rfl ?_
                  clear E; clear a; intro a E
                  refine st_val E (ws' E rfl rfl rfl rfl hb57) rfl rfl (x_pickT E rfl rfl hb58 rfl) ?_
                  clear E; clear a; intro a E
                  refine st_val E (wn rfl) rfl rfl (x_pickT E rfl rfl hb57 rfl) ?_
                  clear E; clear a; intro a E
                  refine st_val E (wn rfl) rfl rfl (x_move E rfl rfl) ?_
                  clear E; clear a; intro a E
                  refine st_val E (ws E rfl rfl rfl rfl) rfl rfl (x_move E rfl rfl) ?_
                  clear E; clear a; intro a E
                  refine st_val E (ws E rfl rfl rfl rfl) rfl rfl (x_bin E rfl rfl rfl rfl) ?_
                  clear E; clear a; intro a E
                  refine st_val E (ws E rfl rfl rfl rfl) rfl rfl (x_move E rfl rfl) ?_
                  clear E; clear a; intro a E
                  rcases Bool.eq_false_or_eq_true (u47.2 == 0) with hb59 | hb59
                  · rw [if_t hb59] at hm
                    refine st_no E (wf' E rfl rfl rfl rfl hb59 rfl) rfl rfl ?_
                    clear E; clear a; intro a E
                    refine st_no E (wf' E rfl rfl rfl rfl hb59 rfl) rfl rfl ?_
                    clear E; clear a; intro a E
                    refine st_no E (wf' E rfl rfl rfl rfl hb59 rfl) rfl rfl ?_
                    clear E; clear a; intro a E
                    refine st_val E (ws E rfl rfl rfl rfl) rfl rfl (x_pickT E rfl rfl hb59 rfl) ?_
                    clear E; clear a; intro a E
                    refine st_val E (wn rfl) rfl rfl (x_pickT E rfl rfl rfl rfl) ?_
                    clear E; clear a; intro a E
                    refine st_val E (wn rfl) rfl rfl (x_assign E rfl rfl) ?_
                    clear E; clear a; intro a E
                    refine wpList_nil ?_
                    refine q_then ?_
                    refine wp_ret ?_
                    refine out1 E rfl rfl ?_
                    replace H := H.drop 0
                    replace H := H.drop 0
                    obtain rfl := Option.some.inj hm
                    exact ⟨rfl, H.reads (fun r hr => hs54 r hr)⟩
                  · rw [if_f hb59] at hm
                    refine st_val E (ws' E rfl rfl rfl rfl hb59) rfl rfl (x_ldBN (i := 1) (us := [.int .i64 u47.1.View, .int .i64 u47.1.Normal, (.slice q51 u47.1.Log.length x52)]) E H rfl rfl rfl rfl Try.underlying26 rfl sz26) ?_
                    clear E; clear a; intro a E
                    refine st_val E (ws' E rfl rfl rfl rfl hb59) rfl rfl (x_build E (ps := []) (vs := []) rfl rfl (v := .agg #[.int .i64 0, .int .i64 0, .slice none 0 0]) (by kernel_rfl)) ?_
                    clear E; clear a; intro a E
                    replace H := H.nilSl kS
                    replace H : Sep w (Blk p40 24 [.int .i64 u37.1.Kind, .int .i64 u37.1.View, .int .i64 u37.1.Normal, .int .i64 u37.1.Len, .int .i64 u37.1.Stays, (.slice q41 u37.1.Log.length x42), .int .i64 u37.1.Num, .string u37.1.Text] :: Blk p50 26 [.int .i64 u47.1.View, .int .i64 u47.1.Normal, (.slice q51 u47.1.Log.length x52)] :: Fo) (rSl kS (.slice none 0 0) ([] : List ByteArray) :: rs53) := H
                    obtain ⟨u60, hx61, hm⟩ := bnd hm
                    refine st_call E (ws' E rfl rfl rfl rfl hb59) rfl rfl (x_call E rfl rfl (cf20 _)) (c_cantonlaw17_sameSaved (⟨u47.1.View, u47.1.Normal, u47.1.Log⟩ : S_api_Saved) (.slice q51 u47.1.Log.length x52) (⟨0, 0, []⟩ : S_api_Saved) (.slice none 0 0) H (.tail _ hr56) (.head _) hx61) ?_
                    clear E H; clear a; clear w; rintro _ w ⟨rfl, H⟩ a E
                    refine st_val E (ws E rfl rfl rfl rfl) rfl rfl (x_pickF E rfl rfl hb59 rfl) ?_
                    clear E; clear a; intro a E
                    refine st_val E (wn rfl) rfl rfl (x_pickT E rfl rfl rfl rfl) ?_
                    clear E; clear a; intro a E
                    refine st_val E (wn rfl) rfl rfl (x_assign E rfl rfl) ?_
                    clear E; clear a; intro a E
                    refine wpList_nil ?_
                    refine q_then ?_
                    refine wp_ret ?_
                    refine out1 E rfl rfl ?_
                    replace H := H.drop 0
                    replace H := H.drop 0
                    obtain rfl := Option.some.inj hm
                    exact ⟨rfl, H.reads (fun r hr => .tail _ (hs54 r hr))⟩
                · rw [if_f hb58] at hm
                  refine st_val E (ws' E rfl rfl rfl rfl hb58) rfl rfl (x_ldBN (i := 0) (us := [.int .i64 u37.1.Kind, .int .i64 u37.1.View, .int .i64 u37.1.Normal, .int .i64 u37.1.Len, .int .i64 u37.1.Stays, (.slice q41 u37.1.Log.length x42), .int .i64 u37.1.Num, .string u37.1.Text]) E H rfl rfl rfl rfl Try.underlying24 rfl sz24) ?_
                  clear E; clear a; intro a E
                  refine st_val E (ws' E rfl rfl rfl rfl hb58) rfl rfl (x_build E (ps := []) (vs := []) rfl rfl (v := .agg #[.int .i64 0, .int .i64 0, .int .i64 0, .int .i64 0, .int .i64 0, .slice none 0 0, .int .i64 0, .string (ByteArray.mk #[])]) (by kernel_rfl)) ?_
                  clear E; clear a; intro a E
                  replace H := H.nilSl kS
                  replace H : Sep w (Blk p40 24 [.int .i64 u37.1.Kind, .int .i64 u37.1.View, .int .i64 u37.1.Normal, .int .i64 u37.1.Len, .int .i64 u37.1.Stays, (.slice q41 u37.1.Log.length x42), .int .i64 u37.1.Num, .string u37.1.Text] :: Blk p50 26 [.int .i64 u47.1.View, .int .i64 u47.1.Normal, (.slice q51 u47.1.Log.length x52)] :: Fo) (rSl kS (.slice none 0 0) ([] : List ByteArray) :: rs53) := H
                  obtain ⟨u62, hx63, hm⟩ := bnd hm
                  refine st_call E (ws' E rfl rfl rfl rfl hb58) rfl rfl (x_call E rfl rfl (cf19 _)) (c_cantonref17_Same (⟨u37.1.Kind, u37.1.View, u37.1.Normal, u37.1.Len, u37.1.Stays, u37.1.Log, u37.1.Num, u37.1.Text⟩ : S_api_Letter) (.slice q41 u37.1.Log.length x42) (⟨0, 0, 0, 0, 0, [], 0, (ByteArray.mk #[])⟩ : S_api_Letter) (.slice none 0 0) H (.tail _ hr55) (.head _) hx63) ?_
                  clear E H; clear a; clear w; rintro _ w ⟨rfl, H⟩ a E
                  refine st_val E (ws' E rfl rfl rfl rfl hb57) rfl rfl (x_pickF E rfl rfl hb58 rfl) ?_
                  clear E; clear a; intro a E
                  refine st_val E (wn rfl) rfl rfl (x_pickT E rfl rfl hb57 rfl) ?_
                  clear E; clear a; intro a E
                  refine st_val E (wn rfl) rfl rfl (x_move E rfl rfl) ?_
                  clear E; clear a; intro a E
                  rcases Bool.eq_false_or_eq_true u62 with hb64 | hb64
                  · rw [if_t hb64] at hm
                    refine st_val E (ws' E rfl rfl rfl rfl hb64) rfl rfl (x_move E rfl rfl) ?_
                    clear E; clear a; intro a E
                    refine st_val E (ws' E rfl rfl rfl rfl hb64) rfl rfl (x_bin E rfl rfl rfl rfl) ?_
                    clear E; clear a; intro a E
                    refine st_val E (ws' E rfl rfl rfl rfl hb64) rfl rfl (x_move E rfl rfl) ?_
                    clear E; clear a; intro a E
                    rcases Bool.eq_false_or_eq_true (u47.2 == 0) with hb65 | hb65
                    · rw [if_t hb65] at hm
                      refine st_no E (wf' E rfl rfl rfl rfl hb65 rfl) rfl rfl ?_
                      clear E; clear a; intro a E
                      refine st_no E (wf' E rfl rfl rfl rfl hb65 rfl) rfl rfl ?_
                      clear E; clear a; intro a E
                      refine st_no E (wf' E rfl rfl rfl rfl hb65 rfl) rfl rfl ?_
                      clear E; clear a; intro a E
                      refine st_val E (ws' E rfl rfl rfl rfl hb64) rfl rfl (x_pickT E rfl rfl hb65 rfl) ?_
                      clear E; clear a; intro a E
                      refine st_val E (wn rfl) rfl rfl (x_pickT E rfl rfl hb64 rfl) ?_
                      clear E; clear a; intro a E
                      refine st_val E (wn rfl) rfl rfl (x_assign E rfl rfl) ?_
                      clear E; clear a; intro a E
                      refine wpList_nil ?_
                      refine q_then ?_
                      refine wp_ret ?_
                      refine out1 E rfl rfl ?_
                      replace H := H.drop 0
                      replace H := H.drop 0
                      obtain rfl := Option.some.inj hm
                      exact ⟨rfl, H.reads (fun r hr => .tail _ (hs54 r hr))⟩
                    · rw [if_f hb65] at hm
                      refine st_val E (ws' E rfl rfl rfl rfl hb65) rfl rfl (x_ldBN (i := 1) (us := [.int .i64 u47.1.View, .int .i64 u47.1.Normal, (.slice q51 u47.1.Log.length x52)]) E H rfl rfl rfl rfl Try.underlying26 rfl sz26) ?_
                      clear E; clear a; intro a E
                      refine st_val E (ws' E rfl rfl rfl rfl hb65) rfl rfl (x_build E (ps := []) (vs := []) rfl rfl (v := .agg #[.int .i64 0, .int .i64 0, .slice none 0 0]) (by kernel_rfl)) ?_
                      clear E; clear a; intro a E
                      replace H := H.nilSl kS
                      replace H : Sep w (Blk p40 24 [.int .i64 u37.1.Kind, .int .i64 u37.1.View, .int .i64 u37.1.Normal, .int .i64 u37.1.Len, .int .i64 u37.1.Stays, (.slice q41 u37.1.Log.length x42), .int .i64 u37.1.Num, .string u37.1.Text] :: Blk p50 26 [.int .i64 u47.1.View, .int .i64 u47.1.Normal, (.slice q51 u47.1.Log.length x52)] :: Fo) (rSl kS (.slice none 0 0) ([] : List ByteArray) :: rSl kS (.slice none 0 0) ([] : List ByteArray) :: rs53) := H
                      obtain ⟨u66, hx67, hm⟩ := bnd hm
                      refine st_call E (ws' E rfl rfl rfl rfl hb65) rfl rfl (x_call E rfl rfl (cf20 _)) (c_cantonlaw17_sameSaved (⟨u47.1.View, u47.1.Normal, u47.1.Log⟩ : S_api_Saved) (.slice q51 u47.1.Log.length x52) (⟨0, 0, []⟩ : S_api_Saved) (.slice none 0 0) H (.tail _ (.tail _ hr56)) (.head _) hx67) ?_
                      clear E H; clear a; clear w; rintro _ w ⟨rfl, H⟩ a E
                      refine st_val E (ws' E rfl rfl rfl rfl hb64) rfl rfl (x_pickF E rfl rfl hb65 rfl) ?_
                      clear E; clear a; intro a E
                      refine st_val E (wn rfl) rfl rfl (x_pickT E rfl rfl hb64 rfl) ?_
                      clear E; clear a; intro a E
                      refine st_val E (wn rfl) rfl rfl (x_assign E rfl rfl) ?_
                      clear E; clear a; intro a E
                      refine wpList_nil ?_
                      refine q_then ?_
                      refine wp_ret ?_
                      refine out1 E rfl rfl ?_
                      replace H := H.drop 0
                      replace H := H.drop 0
                      obtain rfl := Option.some.inj hm
                      exact ⟨rfl, H.reads (fun r hr => .tail _ (.tail _ (hs54 r hr)))⟩
                  · rw [if_f hb64] at hm
                    refine st_no E (wf' E rfl rfl rfl rfl hb64 rfl) rfl rfl ?_
                    clear E; clear a; intro a E
                    refine st_no E (wf' E rfl rfl rfl rfl hb64 rfl) rfl rfl ?_
                    clear E; clear a; intro a E
                    refine st_no E (wf' E rfl rfl rfl rfl hb64 rfl) rfl rfl ?_
                    clear E; clear a; intro a E
                    refine st_no E (wu E rfl rfl rfl rfl) rfl rfl ?_
                    clear E; clear a; intro a E
                    refine st_no E (wu E rfl rfl rfl rfl) rfl rfl ?_
                    clear E; clear a; intro a E
                    refine st_no E (wu E rfl rfl rfl rfl) rfl rfl ?_
                    clear E; clear a; intro a E
                    refine st_no E (wf' E rfl rfl rfl rfl hb64 rfl) rfl rfl ?_
                    clear E; clear a; intro a E
                    refine st_val E (wn rfl) rfl rfl (x_pickF E rfl rfl hb64 rfl) ?_
                    clear E; clear a; intro a E
                    refine st_val E (wn rfl) rfl rfl (x_assign E rfl rfl) ?_
                    clear E; clear a; intro a E
                    refine wpList_nil ?_
                    refine q_then ?_
                    refine wp_ret ?_
                    refine out1 E rfl rfl ?_
                    replace H := H.drop 0
                    replace H := H.drop 0
                    obtain rfl := Option.some.inj hm
                    exact ⟨rfl, H.reads (fun r hr => .tail _ (hs54 r hr))⟩
              · rw [if_f hb57] at hm
                refine st_no E (wf' E rfl rfl rfl rfl hb57 rfl) rfl rfl ?_
                clear E; clear a; intro a E
                refine st_no E (wf' E rfl rfl rfl rfl hb57 rfl) rfl rfl ?_
                clear E; clear a; intro a E
                refine st_no E (wf' E rfl rfl rfl rfl hb57 rfl) rfl rfl ?_
                clear E; clear a; intro a E
                refine st_no E (wu E rfl rfl rfl rfl) rfl rfl ?_
                clear E; clear a; intro a E
                refine st_no E (wu E rfl rfl rfl rfl) rfl rfl ?_
                clear E; clear a; intro a E
                refine st_no E (wu E rfl rfl rfl rfl) rfl rfl ?_
                clear E; clear a; intro a E
                refine st_no E (wf' E rfl rfl rfl rfl hb57 rfl) rfl rfl ?_
                clear E; clear a; intro a E
                refine st_val E (wn rfl) rfl rfl (x_pickF E rfl rfl hb57 rfl) ?_
                clear E; clear a; intro a E
                refine st_val E (wn rfl) rfl rfl (x_move E rfl rfl) ?_
                clear E; clear a; intro a E
                refine st_no E (wf E rfl rfl rfl rfl rfl) rfl rfl ?_
                clear E; clear a; intro a E
                refine st_no E (wf E rfl rfl rfl rfl rfl) rfl rfl ?_
                clear E; clear a; intro a E
                refine st_no E (wf E rfl rfl rfl rfl rfl) rfl rfl ?_
                clear E; clear a; intro a E
                refine st_no E (wu E rfl rfl rfl rfl) rfl rfl ?_
                clear E; clear a; intro a E
                refine st_no E (wu E rfl rfl rfl rfl) rfl rfl ?_
                clear E; clear a; intro a E
                refine st_no E (wu E rfl rfl rfl rfl) rfl rfl ?_
                clear E; clear a; intro a E
                refine st_no E (wf E rfl rfl rfl rfl rfl) rfl rfl ?_
                clear E; clear a; intro a E
                refine st_val E (wn rfl) rfl rfl (x_pickF E rfl rfl rfl rfl) ?_
                clear E; clear a; intro a E
                refine st_val E (wn rfl) rfl rfl (x_assign E rfl rfl) ?_
                clear E; clear a; intro a E
                refine wpList_nil ?_
                refine q_then ?_
                refine wp_ret ?_
                refine out1 E rfl rfl ?_
                replace H := H.drop 0
                replace H := H.drop 0
                obtain rfl := Option.some.inj hm
                exact ⟨rfl, H.reads (fun r hr => hs54 r hr)⟩
end Go.Cb
