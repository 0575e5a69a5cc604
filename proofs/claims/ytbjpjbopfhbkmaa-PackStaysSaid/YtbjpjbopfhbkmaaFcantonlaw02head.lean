/- A function of the program, walked: it comes to its plain function. -/
import Derived.Test.YtbjpjbopfhbkmaaT
import Derived.Test.YtbjpjbopfhbkmaaFpackNew
import Derived.Test.YtbjpjbopfhbkmaaFpackReaderEnd
import Derived.Test.YtbjpjbopfhbkmaaFpackReaderErr
import Derived.Test.YtbjpjbopfhbkmaaFpackReaderNum
import Derived.Test.YtbjpjbopfhbkmaaFpackReaderText
import Derived.Test.YtbjpjbopfhbkmaaFpackWriterBytes
import Derived.Test.YtbjpjbopfhbkmaaFpackWriterNum
import Derived.Test.YtbjpjbopfhbkmaaFpackWriterText
set_option linter.unusedVariables false
set_option linter.unusedSimpArgs false
namespace Go.Cb
open Go.Proofs Go.RowKit
def m_cantonlaw02_head : Option Bool :=
  (m_pack_Writer_Num [] false 300).bind fun u2 => (m_pack_Writer_Text u2.1 u2.2 (⟨#[97, 98]⟩)).bind fun u5 => (m_pack_Writer_Bytes u5.1 u5.2).bind fun u8 => (m_pack_New u8.1).bind fun u11 => (m_pack_Reader_Num u11 0 1000).bind fun u15 => (m_pack_Reader_Text u15.2.1 u15.2.2).bind fun u18 => (m_pack_Reader_End u18.2.1 u18.2.2).bind fun u21 => (m_pack_Reader_Num u18.2.1 u18.2.2 1).bind fun u23 => if (u8.2 == 0) = true then (if ((u8.1.length : Int) == 5) = true then ((idx u8.1 0).bind fun x28 => if (x28 == 130) = true then ((idx u8.1 1).bind fun x32 => if (x32 == 44) = true then (if (u15.1 == 300) = true then (if (sEq u18.1 (⟨#[97, 98]⟩)) = true then (if u21 = true then ((m_pack_Reader_Err u23.2.1 u23.2.2).bind fun u39 => if (u23.2.2 == 21) = true then ((m_pack_Reader_End u23.2.1 u23.2.2).bind fun u42 => some (!u42)) else (some (false))) else (some (false))) else (some (false))) else (some (false))) else (some (false))) else (some (false))) else (some (false))) else (some (false))
set_option maxRecDepth 20000 in
set_option maxHeartbeats 1000000 in
theorem c_cantonlaw02_head {w : World} {Fo : List Ob} {rs : List Rp} (H : Sep w (Fo) rs) {r : Bool} (hm : m_cantonlaw02_head = some r) :
    Calls Try.prog 28 [].toArray w (Ret fun v w' => .bool r = v ∧ Sep w' (Fo) (rs)) := by
  unfold m_cantonlaw02_head at hm
  refine enter Try.func28 rfl Try.ntmps28 rfl fun a E => ?_
  simp only [enum, Nat.reduceAdd] at E
  refine wp_seq ?_
  refine wp_region_lit ?_
  refine st_val E (wn rfl) rfl rfl (x_assign E rfl rfl) ?_
  clear E; clear a; intro a E
  refine wpList_nil ?_
  refine q_then ?_
  refine wp_seq ?_
  refine wp_region_lit ?_
  refine st_val E (wn rfl) rfl rfl (x_build E (ps := []) (vs := []) rfl rfl (v := .agg #[.slice none 0 0, .bool false]) (by kernel_rfl)) ?_
  clear E; clear a; intro a E
  refine st_box E H (wn rfl) rfl rfl (cs := [.slice none 0 0, .bool false]) rfl rfl rfl ?_
  clear E H; clear a; clear w; intro p1 w a H E
  refine st_val E (wn rfl) rfl rfl (x_assign E rfl rfl) ?_
  clear E; clear a; intro a E
  refine wpList_nil ?_
  refine q_then ?_
  refine wp_seq ?_
  refine wp_region_lit ?_
  refine st_val E (wn rfl) rfl rfl (x_move E rfl rfl) ?_
  clear E; clear a; intro a E
  replace H := H.nilRow 5 (kI .u8)
  replace H := H.front 0 rfl
  replace H := H.front 1 rfl
  replace H : Sep w (Blk p1 51 [.slice none 0 0, .bool false] :: Row 5 (kI .u8) (.slice none 0 0) ([] : List Int) :: Fo) (rs) := H
  obtain ⟨u2, hx3, hm⟩ := bnd hm
  refine st_call E (wn rfl) rfl rfl (x_call E rfl rfl (cf33 _)) (c_pack_Writer_Num p1 (.slice none 0 0) [] false 300 H hx3) ?_
  clear E H; clear a; clear w; rintro _ w ⟨v4, rfl, H⟩ a E
  refine wpList_nil ?_
  refine q_then ?_
  refine wp_seq ?_
  refine wp_region_lit ?_
  refine st_val E (wn rfl) rfl rfl (x_move E rfl rfl) ?_
  clear E; clear a; intro a E
  replace H : Sep w (Blk p1 51 [v4, .bool u2.2] :: Row 5 (kI .u8) v4 u2.1 :: Fo) (rs) := H
  obtain ⟨u5, hx6, hm⟩ := bnd hm
  refine st_call E (wn rfl) rfl rfl (x_call E rfl rfl (cf35 _)) (c_pack_Writer_Text p1 v4 u2.1 u2.2 (⟨#[97, 98]⟩) H hx6) ?_
  clear E H; clear a; clear w; rintro _ w ⟨v7, rfl, H⟩ a E
  refine wpList_nil ?_
  refine q_then ?_
  refine wp_seq ?_
  refine wp_region_lit ?_
  refine st_val E (wn rfl) rfl rfl (x_move E rfl rfl) ?_
  clear E; clear a; intro a E
  replace H : Sep w (Blk p1 51 [v7, .bool u5.2] :: Row 5 (kI .u8) v7 u5.1 :: Fo) (rs) := H
  obtain ⟨u8, hx9, hm⟩ := bnd hm
  refine st_call E (wn rfl) rfl rfl (x_call E rfl rfl (cf34 _)) (c_pack_Writer_Bytes p1 v7 u5.1 u5.2 H hx9) ?_
  clear E H; clear a; clear w; rintro _ w ⟨v10, rfl, H⟩ a E
  refine st_val E (wn rfl) rfl rfl (x_move E rfl rfl) ?_
  clear E; clear a; intro a E
  refine st_val E (wn rfl) rfl rfl (x_ext E rfl rfl rfl) ?_
  clear E; clear a; intro a E
  refine st_val E (wn rfl) rfl rfl (x_ext E rfl rfl rfl) ?_
  clear E; clear a; intro a E
  refine st_val E (wn rfl) rfl rfl (x_assign E rfl rfl) ?_
  clear E; clear a; intro a E
  refine st_val E (wn rfl) rfl rfl (x_assign E rfl rfl) ?_
  clear E; clear a; intro a E
  refine wpList_nil ?_
  refine q_then ?_
  refine wp_seq ?_
  refine wp_region_lit ?_
  refine st_val E (wn rfl) rfl rfl (x_move E rfl rfl) ?_
  clear E; clear a; intro a E
  replace H := H.thaw (i := 0) rfl
  replace H : Sep w (Blk p1 51 [v7, .bool u5.2] :: Row 5 (kI .u8) v7 u5.1 :: Fo) (rSl (kI .u8) v10 u8.1 :: rs) := H
  obtain ⟨u11, hx12, hm⟩ := bnd hm
  refine st_call E (wn rfl) rfl rfl (x_call E rfl rfl (cf29 _)) (c_pack_New v10 u8.1 H (.head _) hx12) ?_
  clear E H; clear a; clear w; rintro _ w ⟨p13, v14, rfl, H⟩ a E
  refine st_val E (wn rfl) rfl rfl (x_assign E rfl rfl) ?_
  clear E; clear a; intro a E
  refine wpList_nil ?_
  refine q_then ?_
  refine wp_seq ?_
  refine wp_seq ?_
  refine wp_region_lit ?_
  refine st_val E (wn rfl) rfl rfl (x_move E rfl rfl) ?_
  clear E; clear a; intro a E
  refine st_val E (wn rfl) rfl rfl (x_bin2 E rfl rfl rfl (v := .bool false) (by kernel_rfl)) ?_
  clear E; clear a; intro a E
  refine wpList_nil ?_
  refine q_then ?_
  refine wp_cond_false (E.eval rfl) ?_
  refine wp_skip ?_
  refine q_then ?_
  refine wp_seq ?_
  refine wp_region_lit ?_
  refine st_val E (wn rfl) rfl rfl (x_move E rfl rfl) ?_
  clear E; clear a; intro a E
  replace H := H.thaw (i := 1) rfl
  replace H : Sep w (Blk p13 91 [v14, .int .i64 0] :: Blk p1 51 [v7, .bool u5.2] :: Row 5 (kI .u8) v7 u5.1 :: Fo) (rSl (kI .u8) v14 u11 :: rSl (kI .u8) v10 u8.1 :: rs) := H
  obtain ⟨u15, hx16, hm⟩ := bnd hm
  refine st_call E (wn rfl) rfl rfl (x_call E rfl rfl (cf32 _)) (c_pack_Reader_Num p13 v14 u11 0 1000 H (.head _) hx16) ?_
  clear E H; clear a; clear w; rintro _ w ⟨v17, rfl, H⟩ a E
  refine st_val E (wn rfl) rfl rfl (x_assign E rfl rfl) ?_
  clear E; clear a; intro a E
  refine wpList_nil ?_
  refine q_then ?_
  refine wp_seq ?_
  refine wp_region_lit ?_
  refine st_val E (wn rfl) rfl rfl (x_move E rfl rfl) ?_
  clear E; clear a; intro a E
  replace H : Sep w (Blk p13 91 [v17, .int .i64 u15.2.2] :: Blk p1 51 [v7, .bool u5.2] :: Row 5 (kI .u8) v7 u5.1 :: Fo) (rSl (kI .u8) v17 u15.2.1 :: rSl (kI .u8) v14 u11 :: rSl (kI .u8) v10 u8.1 :: rs) := H
  obtain ⟨u18, hx19, hm⟩ := bnd hm
  refine st_call E (wn rfl) rfl rfl (x_call E rfl rfl (cf36 _)) (c_pack_Reader_Text p13 v17 u15.2.1 u15.2.2 H (.head _) hx19) ?_
  clear E H; clear a; clear w; rintro _ w ⟨v20, rfl, H⟩ a E
  refine st_val E (wn rfl) rfl rfl (x_assign E rfl rfl) ?_
  clear E; clear a; intro a E
  refine wpList_nil ?_
  refine q_then ?_
  refine wp_seq ?_
  refine wp_region_lit ?_
  refine st_val E (wn rfl) rfl rfl (x_move E rfl rfl) ?_
  clear E; clear a; intro a E
  replace H : Sep w (Blk p13 91 [v20, .int .i64 u18.2.2] :: Blk p1 51 [v7, .bool u5.2] :: Row 5 (kI .u8) v7 u5.1 :: Fo) (rSl (kI .u8) v20 u18.2.1 :: rSl (kI .u8) v17 u15.2.1 :: rSl (kI .u8) v14 u11 :: rSl (kI .u8) v10 u8.1 :: rs) := H
  obtain ⟨u21, hx22, hm⟩ := bnd hm
  refine st_call E (wn rfl) rfl rfl (x_call E rfl rfl (cf30 _)) (c_pack_Reader_End p13 v20 u18.2.1 u18.2.2 H (.head _) hx22) ?_
  clear E H; clear a; clear w; rintro _ w ⟨rfl, H⟩ a E
  refine st_val E (wn rfl) rfl rfl (x_assign E rfl rfl) ?_
  clear E; clear a; intro a E
  refine wpList_nil ?_
  refine q_then ?_
  refine wp_seq ?_
  refine wp_region_lit ?_
  refine st_val E (wn rfl) rfl rfl (x_move E rfl rfl) ?_
  clear E; clear a; intro a E
  replace H : Sep w (Blk p13 91 [v20, .int .i64 u18.2.2] :: Blk p1 51 [v7, .bool u5.2] :: Row 5 (kI .u8) v7 u5.1 :: Fo) (rSl (kI .u8) v20 u18.2.1 :: rSl (kI .u8) v17 u15.2.1 :: rSl (kI .u8) v14 u11 :: rSl (kI .u8) v10 u8.1 :: rs) := H
  obtain ⟨u23, hx24, hm⟩ := bnd hm
  refine st_call E (wn rfl) rfl rfl (x_call E rfl rfl (cf32 _)) (c_pack_Reader_Num p13 v20 u18.2.1 u18.2.2 1 H (.head _) hx24) ?_
  clear E H; clear a; clear w; rintro _ w ⟨v25, rfl, H⟩ a E
  refine wpList_nil ?_
  refine q_then ?_
  refine wp_seq ?_
  refine wp_region_lit ?_
  refine st_val E (wn rfl) rfl rfl (x_move E rfl rfl) ?_
  clear E; clear a; intro a E
  refine st_val E (wn rfl) rfl rfl (x_bin E rfl rfl rfl rfl) ?_
  clear E; clear a; intro a E
  refine st_val E (wn rfl) rfl rfl (x_move E rfl rfl) ?_
  clear E; clear a; intro a E
  rcases Bool.eq_false_or_eq_true (u8.2 == 0) with hb26 | hb26
  · rw [if_t hb26] at hm
    refine st_val E (ws' E rfl rfl rfl rfl hb26) rfl rfl (x_move E rfl rfl) ?_
    clear E; clear a; intro a E
    refine st_val E (ws' E rfl rfl rfl rfl hb26) rfl rfl (x_lenS E H rfl rfl (.tail _ (.tail _ (.tail _ (.tail _ (.head _))))) Try.underlying46) ?_
    clear E; clear a; intro a E
    refine st_val E (ws' E rfl rfl rfl rfl hb26) rfl rfl (x_bin E rfl rfl rfl rfl) ?_
    clear E; clear a; intro a E
    refine st_val E (wn rfl) rfl rfl (x_pickT E rfl rfl hb26 rfl) ?_
    clear E; clear a; intro a E
    refine st_val E (wn rfl) rfl rfl (x_move E rfl rfl) ?_
    clear E; clear a; intro a E
    rcases Bool.eq_false_or_eq_true ((u8.1.length : Int) == 5) with hb27 | hb27
    · rw [if_t hb27] at hm
      refine st_val E (ws' E rfl rfl rfl rfl hb27) rfl rfl (x_move E rfl rfl) ?_
      clear E; clear a; intro a E
      obtain ⟨x28, hx29, hm⟩ := bnd hm
      refine st_ixS E H (ws' E rfl rfl rfl rfl hb27) rfl rfl rfl rfl rfl (.tail _ (.tail _ (.tail _ (.tail _ (.head _))))) Try.underlying46 sz5 hx29 ?_
      clear E H; clear a; intro q30 a H E
      refine st_val E (ws' E rfl rfl rfl rfl hb27) rfl rfl (x_ldA E H rfl rfl (.head _) Try.underlying5 rfl) ?_
      clear E; clear a; intro a E
      refine st_val E (ws' E rfl rfl rfl rfl hb27) rfl rfl (x_bin E rfl rfl rfl rfl) ?_
      clear E; clear a; intro a E
      refine st_val E (wn rfl) rfl rfl (x_pickT E rfl rfl hb27 rfl) ?_
      clear E; clear a; intro a E
      refine st_val E (wn rfl) rfl rfl (x_move E rfl rfl) ?_
      clear E; clear a; intro a E
      rcases Bool.eq_false_or_eq_true (x28 == 130) with hb31 | hb31
      · rw [if_t hb31] at hm
        refine st_val E (ws' E rfl rfl rfl rfl hb31) rfl rfl (x_move E rfl rfl) ?_
        clear E; clear a; intro a E
        obtain ⟨x32, hx33, hm⟩ := bnd hm
        refine st_ixS E H (ws' E rfl rfl rfl rfl hb31) rfl rfl rfl rfl rfl (.tail _ (.tail _ (.tail _ (.tail _ (.tail _ (.head _)))))) Try.underlying46 sz5 hx33 ?_
        clear E H; clear a; intro q34 a H E
        refine st_val E (ws' E rfl rfl rfl rfl hb31) rfl rfl (x_ldA E H rfl rfl (.head _) Try.underlying5 rfl) ?_
        clear E; clear a; intro a E
        refine st_val E (ws' E rfl rfl rfl rfl hb31) rfl rfl (x_bin E rfl rfl rfl rfl) ?_
        clear E; clear a; intro a E
        refine st_val E (wn rfl) rfl rfl (x_pickT E rfl rfl hb31 rfl) ?_
        clear E; clear a; intro a E
        refine st_val E (wn rfl) rfl rfl (x_move E rfl rfl) ?_
        clear E; clear a; intro a E
        rcases Bool.eq_false_or_eq_true (x32 == 44) with hb35 | hb35
        · rw [if_t hb35] at hm
          refine st_val E (ws' E rfl rfl rfl rfl hb35) rfl rfl (x_move E rfl rfl) ?_
          clear E; clear a; intro a E
          refine st_val E (ws' E rfl rfl rfl rfl hb35) rfl rfl (x_bin E rfl rfl rfl rfl) ?_
          clear E; clear a; intro a E
          refine st_val E (wn rfl) rfl rfl (x_pickT E rfl rfl hb35 rfl) ?_
          clear E; clear a; intro a E
          refine st_val E (wn rfl) rfl rfl (x_move E rfl rfl) ?_
          clear E; clear a; intro a E
          rcases Bool.eq_false_or_eq_true (u15.1 == 300) with hb36 | hb36
          · rw [if_t hb36] at hm
            refine st_val E (ws' E rfl rfl rfl rfl hb36) rfl rfl (x_move E rfl rfl) ?_
            clear E; clear a; intro a E
            refine st_val E (ws' E rfl rfl rfl rfl hb36) rfl rfl (x_str E rfl rfl rfl rfl) ?_
            clear E; clear a; intro a E
            refine st_val E (wn rfl) rfl rfl (x_pickT E rfl rfl hb36 rfl) ?_
            clear E; clear a; intro a E
            refine st_val E (wn rfl) rfl rfl (x_move E rfl rfl) ?_
            clear E; clear a; intro a E
            rcases Bool.eq_false_or_eq_true (sEq u18.1 (⟨#[97, 98]⟩)) with hb37 | hb37
            · rw [if_t hb37] at hm
              refine st_val E (ws' E rfl rfl rfl rfl hb37) rfl rfl (x_move E rfl rfl) ?_
              clear E; clear a; intro a E
              refine st_val E (wn rfl) rfl rfl (x_pickT E rfl rfl hb37 rfl) ?_
              clear E; clear a; intro a E
              refine st_val E (wn rfl) rfl rfl (x_move E rfl rfl) ?_
              clear E; clear a; intro a E
              rcases Bool.eq_false_or_eq_true u21 with hb38 | hb38
              · rw [if_t hb38] at hm
                refine st_val E (ws' E rfl rfl rfl rfl hb38) rfl rfl (x_move E rfl rfl) ?_
                clear E; clear a; intro a E
                replace H : Sep w (Blk p13 91 [v25, .int .i64 u23.2.2] :: Blk p1 51 [v7, .bool u5.2] :: Row 5 (kI .u8) v7 u5.1 :: Fo) (rAt (kI .u8) q34 x32 :: rAt (kI .u8) q30 x28 :: rSl (kI .u8) v25 u23.2.1 :: rSl (kI .u8) v20 u18.2.1 :: rSl (kI .u8) v17 u15.2.1 :: rSl (kI .u8) v14 u11 :: rSl (kI .u8) v10 u8.1 :: rs) := H
                obtain ⟨u39, hx40, hm⟩ := bnd hm
                refine st_call E (ws' E rfl rfl rfl rfl hb38) rfl rfl (x_call E rfl rfl (cf31 _)) (c_pack_Reader_Err p13 v25 u23.2.1 u23.2.2 H (.tail _ (.tail _ (.head _))) hx40) ?_
                clear E H; clear a; clear w; rintro _ w ⟨rfl, H⟩ a E
                refine st_val E (ws' E rfl rfl rfl rfl hb38) rfl rfl (x_bin E rfl rfl rfl rfl) ?_
                clear E; clear a; intro a E
                refine st_val E (wn rfl) rfl rfl (x_pickT E rfl rfl hb38 rfl) ?_
                clear E; clear a; intro a E
                refine st_val E (wn rfl) rfl rfl (x_move E rfl rfl) ?_
                clear E; clear a; intro a E
                rcases Bool.eq_false_or_eq_true (u23.2.2 == 21) with hb41 | hb41
                · rw [if_t hb41] at hm
                  refine st_val E (ws' E rfl rfl rfl rfl hb41) rfl rfl (x_move E rfl rfl) ?_
                  clear E; clear a; intro a E
                  replace H : Sep w (Blk p13 91 [v25, .int .i64 u23.2.2] :: Blk p1 51 [v7, .bool u5.2] :: Row 5 (kI .u8) v7 u5.1 :: Fo) (rAt (kI .u8) q34 x32 :: rAt (kI .u8) q30 x28 :: rSl (kI .u8) v25 u23.2.1 :: rSl (kI .u8) v20 u18.2.1 :: rSl (kI .u8) v17 u15.2.1 :: rSl (kI .u8) v14 u11 :: rSl (kI .u8) v10 u8.1 :: rs) := H
                  obtain ⟨u42, hx43, hm⟩ := bnd hm
                  refine st_call E (ws' E rfl rfl rfl rfl hb41) rfl rfl (x_call E rfl rfl (cf30 _)) (c_pack_Reader_End p13 v25 u23.2.1 u23.2.2 H (.tail _ (.tail _ (.head _))) hx43) ?_
                  clear E H; clear a; clear w; rintro _ w ⟨rfl, H⟩ a E
                  refine st_val E (ws' E rfl rfl rfl rfl hb41) rfl rfl (x_not E rfl rfl) ?_
                  clear E; clear a; intro a E
                  refine st_val E (wn rfl) rfl rfl (x_pickT E rfl rfl hb41 rfl) ?_
                  clear E; clear a; intro a E
                  refine st_val E (wn rfl) rfl rfl (x_assign E rfl rfl) ?_
                  clear E; clear a; intro a E
                  refine wpList_nil ?_
                  refine q_then ?_
                  refine wp_ret ?_
                  refine out1 E rfl rfl ?_
                  replace H := H.drop 0
                  replace H := H.drop 0
                  replace H := H.drop 0
                  obtain rfl := Option.some.inj hm
                  exact ⟨rfl, H.reads (fun r hr => .tail _ (.tail _ (.tail _ (.tail _ (.tail _ (.tail _ (.tail _ (hr))))))))⟩
                · rw [if_f hb41] at hm
                  refine st_no E (wf' E rfl rfl rfl rfl hb41 rfl) rfl rfl ?_
                  clear E; clear a; intro a E
                  refine st_no E (wf' E rfl rfl rfl rfl hb41 rfl) rfl rfl ?_
                  clear E; clear a; intro a E
                  refine st_no E (wf' E rfl rfl rfl rfl hb41 rfl) rfl rfl ?_
                  clear E; clear a; intro a E
                  refine st_val E (wn rfl) rfl rfl (x_pickF E rfl rfl hb41 rfl) ?_
                  clear E; clear a; intro a E
                  refine st_val E (wn rfl) rfl rfl (x_assign E rfl rfl) ?_
                  clear E; clear a; intro a E
                  refine wpList_nil ?_
                  refine q_then ?_
                  refine wp_ret ?_
                  refine out1 E rfl rfl ?_
                  replace H := H.drop 0
                  replace H := H.drop 0
                  replace H := H.drop 0
                  obtain rfl := Option.some.inj hm
                  exact ⟨rfl, H.reads (fun r hr => .tail _ (.tail _ (.tail _ (.tail _ (.tail _ (.tail _ (.tail _ (hr))))))))⟩
              · rw [if_f hb38] at hm
                refine st_no E (wf' E rfl rfl rfl rfl hb38 rfl) rfl rfl ?_
                clear E; clear a; intro a E
                refine st_no E (wf' E rfl rfl rfl rfl hb38 rfl) rfl rfl ?_
                clear E; clear a; intro a E
                refine st_no E (wf' E rfl rfl rfl rfl hb38 rfl) rfl rfl ?_
                clear E; clear a; intro a E
                refine st_val E (wn rfl) rfl rfl (x_pickF E rfl rfl hb38 rfl) ?_
                clear E; clear a; intro a E
                refine st_val E (wn rfl) rfl rfl (x_move E rfl rfl) ?_
                clear E; clear a; intro a E
                refine st_no E (wf E rfl rfl rfl rfl rfl) rfl rfl ?_
                clear E; clear a; intro a E
                refine st_no E (wf E rfl rfl rfl rfl rfl) rfl rfl ?_
                clear E; clear a; intro a E
                refine st_no E (wf E rfl rfl rfl rfl rfl) rfl rfl ?_
                clear E; clear a; intro a E
                refine st_val E (wn rfl) rfl rfl (x_pickF E rfl rfl rfl rfl) ?_
                clear E; clear a; intro a E
                refine st_val E (wn rfl) rfl rfl (x_assign E rfl rfl) ?_
                clear E; clear a; intro a E
                refine wpList_nil ?_
                refine q_then ?_
                refine wp_ret ?_
                refine out1 E rfl rfl ?_
                replace H := H.drop 0
                replace H := H.drop 0
                replace H := H.drop 0
                obtain rfl := Option.some.inj hm
                exact ⟨rfl, H.reads (fun r hr => .tail _ (.tail _ (.tail _ (.tail _ (.tail _ (.tail _ (.tail _ (hr))))))))⟩
            · rw [if_f hb37] at hm
              refine st_no E (wf' E rfl rfl rfl rfl hb37 rfl) rfl rfl ?_
              clear E; clear a; intro a E
              refine st_val E (wn rfl) rfl rfl (x_pickF E rfl rfl hb37 rfl) ?_
              clear E; clear a; intro a E
              refine st_val E (wn rfl) rfl rfl (x_move E rfl rfl) ?_
              clear E; clear a; intro a E
              refine st_no E (wf E rfl rfl rfl rfl rfl) rfl rfl ?_
              clear E; clear a; intro a E
              refine st_no E (wf E rfl rfl rfl rfl rfl) rfl rfl ?_
              clear E; clear a; intro a E
              refine st_no E (wf E rfl rfl rfl rfl rfl) rfl rfl ?_
              clear E; clear a; intro a E
              refine st_val E (wn rfl) rfl rfl (x_pickF E rfl rfl rfl rfl) ?_
              clear E; clear a; intro a E
              refine st_val E (wn rfl) rfl rfl (x_move E rfl rfl) ?_
              clear E; clear a; intro a E
              refine st_no E (wf E rfl rfl rfl rfl rfl) rfl rfl ?_
              clear E; clear a; intro a E
              refine st_no E (wf E rfl rfl rfl rfl rfl) rfl rfl ?_
              clear E; clear a; intro a E
              refine st_no E (wf E rfl rfl rfl rfl rfl) rfl rfl ?_
              clear E; clear a; intro a E
              refine st_val E (wn rfl) rfl rfl (x_pickF E rfl rfl rfl rfl) ?_
              clear E; clear a; intro a E
              refine st_val E (wn rfl) rfl rfl (x_assign E rfl rfl) ?_
              clear E; clear a; intro a E
              refine wpList_nil ?_
              refine q_then ?_
              refine wp_ret ?_
              refine out1 E rfl rfl ?_
              replace H := H.drop 0
              replace H := H.drop 0
              replace H := H.drop 0
              obtain rfl := Option.some.inj hm
              exact ⟨rfl, H.reads (fun r hr => .tail _ (.tail _ (.tail _ (.tail _ (.tail _ (.tail _ (.tail _ (hr))))))))⟩
          · rw [if_f hb36] at hm
            refine st_no E (wf' E rfl rfl rfl rfl hb36 rfl) rfl rfl ?_
            clear E; clear a; intro a E
            refine st_no E (wf' E rfl rfl rfl rfl hb36 rfl) rfl rfl ?_
            clear E; clear a; intro a E
            refine st_val E (wn rfl) rfl rfl (x_pickF E rfl rfl hb36 rfl) ?_
            clear E; clear a; intro a E
            refine st_val E (wn rfl) rfl rfl (x_move E rfl rfl) ?_
            clear E; clear a; intro a E
            refine st_no E (wf E rfl rfl rfl rfl rfl) rfl rfl ?_
            clear E; clear a; intro a E
            refine st_val E (wn rfl) rfl rfl (x_pickF E rfl rfl rfl rfl) ?_
            clear E; clear a; intro a E
            refine st_val E (wn rfl) rfl rfl (x_move E rfl rfl) ?_
            clear E; clear a; intro a E
            refine st_no E (wf E rfl rfl rfl rfl rfl) rfl rfl ?_
            clear E; clear a; intro a E
            refine st_no E (wf E rfl rfl rfl rfl rfl) rfl rfl ?_
            clear E; clear a; intro a E
            refine st_no E (wf E rfl rfl rfl rfl rfl) rfl rfl ?_
            clear E; clear a; intro a E
            refine st_val E (wn rfl) rfl rfl (x_pickF E rfl rfl rfl rfl) ?_
            clear E; clear a; intro a E
            refine st_val E (wn rfl) rfl rfl (x_move E rfl rfl) ?_
            clear E; clear a; intro a E
            refine st_no E (wf E rfl rfl rfl rfl rfl) rfl rfl ?_
            clear E; clear a; intro a E
            refine st_no E (wf E rfl rfl rfl rfl rfl) rfl rfl ?_
            clear E; clear a; intro a E
            refine st_no E (wf E rfl rfl rfl rfl rfl) rfl rfl ?_
            clear E; clear a; intro a E
            refine st_val E (wn rfl) rfl rfl (x_pickF E rfl rfl rfl rfl) ?_
            clear E; clear a; intro a E
            refine st_val E (wn rfl) rfl rfl (x_assign E rfl rfl) ?_
            clear E; clear a; intro a E
            refine wpList_nil ?_
            refine q_then ?_
            refine wp_ret ?_
            refine out1 E rfl rfl ?_
            replace H := H.drop 0
            replace H := H.drop 0
            replace H := H.drop 0
            obtain rfl := Option.some.inj hm
            exact ⟨rfl, H.reads (fun r hr => .tail _ (.tail _ (.tail _ (.tail _ (.tail _ (.tail _ (.tail _ (hr))))))))⟩
        · rw [if_f hb35] at hm
          refine st_no E (wf' E rfl rfl rfl rfl hb35 rfl) rfl rfl ?_
          clear E; clear a; intro a E
          refine st_no E (wf' E rfl rfl rfl rfl hb35 rfl) rfl rfl ?_
          clear E; clear a; intro a E
          refine st_val E (wn rfl) rfl rfl (x_pickF E rfl rfl hb35 rfl) ?_
          clear E; clear a; intro a E
          refine st_val E (wn rfl) rfl rfl (x_move E rfl rfl) ?_
          clear E; clear a; intro a E
          refine st_no E (wf E rfl rfl rfl rfl rfl) rfl rfl ?_
          clear E; clear a; intro a E
          refine st_no E (wf E rfl rfl rfl rfl rfl) rfl rfl ?_
          clear E; clear a; intro a E
          refine st_val E (wn rfl) rfl rfl (x_pickF E rfl rfl rfl rfl) ?_
          clear E; clear a; intro a E
          refine st_val E (wn rfl) rfl rfl (x_move E rfl rfl) ?_
          clear E; clear a; intro a E
          refine st_no E (wf E rfl rfl rfl rfl rfl) rfl rfl ?_
          clear E; clear a; intro a E
          refine st_val E (wn rfl) rfl rfl (x_pickF E rfl rfl rfl rfl) ?_
          clear E; clear a; intro a E
          refine st_val E (wn rfl) rfl rfl (x_move E rfl rfl) ?_
          clear E; clear a; intro a E
          refine st_no E (wf E rfl rfl rfl rfl rfl) rfl rfl ?_
          clear E; clear a; intro a E
          refine st_no E (wf E rfl rfl rfl rfl rfl) rfl rfl ?_
          clear E; clear a; intro a E
          refine st_no E (wf E rfl rfl rfl rfl rfl) rfl rfl ?_
          clear E; clear a; intro a E
          refine st_val E (wn rfl) rfl rfl (x_pickF E rfl rfl rfl rfl) ?_
          clear E; clear a; intro a E
          refine st_val E (wn rfl) rfl rfl (x_move E rfl rfl) ?_
          clear E; clear a; intro a E
          refine st_no E (wf E rfl rfl rfl rfl rfl) rfl rfl ?_
          clear E; clear a; intro a E
          refine st_no E (wf E rfl rfl rfl rfl rfl) rfl rfl ?_
          clear E; clear a; intro a E
          refine st_no E (wf E rfl rfl rfl rfl rfl) rfl rfl ?_
          clear E; clear a; intro a E
          refine st_val E (wn rfl) rfl rfl (x_pickF E rfl rfl rfl rfl) ?_
          clear E; clear a; intro a E
          refine st_val E (wn rfl) rfl rfl (x_assign E rfl rfl) ?_
          clear E; clear a; intro a E
          refine wpList_nil ?_
          refine q_then ?_
          refine wp_ret ?_
          refine out1 E rfl rfl ?_
          replace H := H.drop 0
          replace H := H.drop 0
          replace H := H.drop 0
          obtain rfl := Option.some.inj hm
          exact ⟨rfl, H.reads (fun r hr => .tail _ (.tail _ (.tail _ (.tail _ (.tail _ (.tail _ (.tail _ (hr))))))))⟩
      · rw [if_f hb31] at hm
        refine st_no E (wf' E rfl rfl rfl rfl hb31 rfl) rfl rfl ?_
        clear E; clear a; intro a E
        refine st_no E (wf' E rfl rfl rfl rfl hb31 rfl) rfl rfl ?_
        clear E; clear a; intro a E
        refine st_no E (wf' E rfl rfl rfl rfl hb31 rfl) rfl rfl ?_
        clear E; clear a; intro a E
        refine st_no E (wf' E rfl rfl rfl rfl hb31 rfl) rfl rfl ?_
        clear E; clear a; intro a E
        refine st_val E (wn rfl) rfl rfl (x_pickF E rfl rfl hb31 rfl) ?_
        clear E; clear a; intro a E
        refine st_val E (wn rfl) rfl rfl (x_move E rfl rfl) ?_
        clear E; clear a; intro a E
        refine st_no E (wf E rfl rfl rfl rfl rfl) rfl rfl ?_
        clear E; clear a; intro a E
        refine st_no E (wf E rfl rfl rfl rfl rfl) rfl rfl ?_
        clear E; clear a; intro a E
        refine st_val E (wn rfl) rfl rfl (x_pickF E rfl rfl rfl rfl) ?_
        clear E; clear a; intro a E
        refine st_val E (wn rfl) rfl rfl (x_move E rfl rfl) ?_
        clear E; clear a; intro a E
        refine st_no E (wf E rfl rfl rfl rfl rfl) rfl rfl ?_
        clear E; clear a; intro a E
        refine st_no E (wf E rfl rfl rfl rfl rfl) rfl rfl ?_
        clear E; clear a; intro a E
        refine st_val E (wn rfl) rfl rfl (x_pickF E rfl rfl rfl rfl) ?_
        clear E; clear a; intro a E
        refine st_val E (wn rfl) rfl rfl (x_move E rfl rfl) ?_
        clear E; clear a; intro a E
        refine st_no E (wf E rfl rfl rfl rfl rfl) rfl rfl ?_
        clear E; clear a; intro a E
        refine st_val E (wn rfl) rfl rfl (x_pickF E rfl rfl rfl rfl) ?_
        clear E; clear a; intro a E
        refine st_val E (wn rfl) rfl rfl (x_move E rfl rfl) ?_
        clear E; clear a; intro a E
        refine st_no E (wf E rfl rfl rfl rfl rfl) rfl rfl ?_
        clear E; clear a; intro a E
        refine st_no E (wf E rfl rfl rfl rfl rfl) rfl rfl ?_
        clear E; clear a; intro a E
        refine st_no E (wf E rfl rfl rfl rfl rfl) rfl rfl ?_
        clear E; clear a; intro a E
        refine st_val E (wn rfl) rfl rfl (x_pickF E rfl rfl rfl rfl) ?_
        clear E; clear a; intro a E
        refine st_val E (wn rfl) rfl rfl (x_move E rfl rfl) ?_
        clear E; clear a; intro a E
        refine st_no E (wf E rfl rfl rfl rfl rfl) rfl rfl ?_
        clear E; clear a; intro a E
        refine st_no E (wf E rfl rfl rfl rfl rfl) rfl rfl ?_
        clear E; clear a; intro a E
        refine st_no E (wf E rfl rfl rfl rfl rfl) rfl rfl ?_
        clear E; clear a; intro a E
        refine st_val E (wn rfl) rfl rfl (x_pickF E rfl rfl rfl rfl) ?_
        clear E; clear a; intro a E
        refine st_val E (wn rfl) rfl rfl (x_assign E rfl rfl) ?_
        clear E; clear a; intro a E
        refine wpList_nil ?_
        refine q_then ?_
        refine wp_ret ?_
        refine out1 E rfl rfl ?_
        replace H := H.drop 0
        replace H := H.drop 0
        replace H := H.drop 0
        obtain rfl := Option.some.inj hm
        exact ⟨rfl, H.reads (fun r hr => .tail _ (.tail _ (.tail _ (.tail _ (.tail _ (.tail _ (hr)))))))⟩
    · rw [if_f hb27] at hm
      refine st_no E (wf' E rfl rfl rfl rfl hb27 rfl) rfl rfl ?_
      clear E; clear a; intro a E
      refine st_no E (wf' E rfl rfl rfl rfl hb27 rfl) rfl rfl ?_
      clear E; clear a; intro a E
      refine st_no E (wf' E rfl rfl rfl rfl hb27 rfl) rfl rfl ?_
      clear E; clear a; intro a E
      refine st_no E (wf' E rfl rfl rfl rfl hb27 rfl) rfl rfl ?_
      clear E; clear a; intro a E
      refine st_val E (wn rfl) rfl rfl (x_pickF E rfl rfl hb27 rfl) ?_
      clear E; clear a; intro a E
      refine st_val E (wn rfl) rfl rfl (x_move E rfl rfl) ?_
      clear E; clear a; intro a E
      refine st_no E (wf E rfl rfl rfl rfl rfl) rfl rfl ?_
      clear E; clear a; intro a E
      refine st_no E (wf E rfl rfl rfl rfl rfl) rfl rfl ?_
      clear E; clear a; intro a E
      refine st_no E (wf E rfl rfl rfl rfl rfl) rfl rfl ?_
      clear E; clear a; intro a E
      refine st_no E (wf E rfl rfl rfl rfl rfl) rfl rfl ?_
      clear E; clear a; intro a E
      refine st_val E (wn rfl) rfl rfl (x_pickF E rfl rfl rfl rfl) ?_
      clear E; clear a; intro a E
      refine st_val E (wn rfl) rfl rfl (x_move E rfl rfl) ?_
      clear E; clear a; intro a E
      refine st_no E (wf E rfl rfl rfl rfl rfl) rfl rfl ?_
      clear E; clear a; intro a E
      refine st_no E (wf E rfl rfl rfl rfl rfl) rfl rfl ?_
      clear E; clear a; intro a E
      refine st_val E (wn rfl) rfl rfl (x_pickF E rfl rfl rfl rfl) ?_
      clear E; clear a; intro a E
      refine st_val E (wn rfl) rfl rfl (x_move E rfl rfl) ?_
      clear E; clear a; intro a E
      refine st_no E (wf E rfl rfl rfl rfl rfl) rfl rfl ?_
      clear E; clear a; intro a E
      refine st_no E (wf E rfl rfl rfl rfl rfl) rfl rfl ?_
      clear E; clear a; intro a E
      refine st_val E (wn rfl) rfl rfl (x_pickF E rfl rfl rfl rfl) ?_
      clear E; clear a; intro a E
      refine st_val E (wn rfl) rfl rfl (x_move E rfl rfl) ?_
      clear E; clear a; intro a E
      refine st_no E (wf E rfl rfl rfl rfl rfl) rfl rfl ?_
      clear E; clear a; intro a E
      refine st_val E (wn rfl) rfl rfl (x_pickF E rfl rfl rfl rfl) ?_
      clear E; clear a; intro a E
      refine st_val E (wn rfl) rfl rfl (x_move E rfl rfl) ?_
      clear E; clear a; intro a E
      refine st_no E (wf E rfl rfl rfl rfl rfl) rfl rfl ?_
      clear E; clear a; intro a E
      refine st_no E (wf E rfl rfl rfl rfl rfl) rfl rfl ?_
      clear E; clear a; intro a E
      refine st_no E (wf E rfl rfl rfl rfl rfl) rfl rfl ?_
      clear E; clear a; intro a E
      refine st_val E (wn rfl) rfl rfl (x_pickF E rfl rfl rfl rfl) ?_
      clear E; clear a; intro a E
      refine st_val E (wn rfl) rfl rfl (x_move E rfl rfl) ?_
      clear E; clear a; intro a E
      refine st_no E (wf E rfl rfl rfl rfl rfl) rfl rfl ?_
      clear E; clear a; intro a E
      refine st_no E (wf E rfl rfl rfl rfl rfl) rfl rfl ?_
      clear E; clear a; intro a E
      refine st_no E (wf E rfl rfl rfl rfl rfl) rfl rfl ?_
      clear E; clear a; intro a E
      refine st_val E (wn rfl) rfl rfl (x_pickF E rfl rfl rfl rfl) ?_
      clear E; clear a; intro a E
      refine st_val E (wn rfl) rfl rfl (x_assign E rfl rfl) ?_
      clear E; clear a; intro a E
      refine wpList_nil ?_
      refine q_then ?_
      refine wp_ret ?_
      refine out1 E rfl rfl ?_
      replace H := H.drop 0
      replace H := H.drop 0
      replace H := H.drop 0
      obtain rfl := Option.some.inj hm
      exact ⟨rfl, H.reads (fun r hr => .tail _ (.tail _ (.tail _ (.tail _ (.tail _ (hr))))))⟩
  · rw [if_f hb26] at hm
    refine st_no E (wf' E rfl rfl rfl rfl hb26 rfl) rfl rfl ?_
    clear E; clear a; intro a E
    refine st_no E (wf' E rfl rfl rfl rfl hb26 rfl) rfl rfl ?_
    clear E; clear a; intro a E
    refine st_no E (wf' E rfl rfl rfl rfl hb26 rfl) rfl rfl ?_
    clear E; clear a; intro a E
    refine st_val E (wn rfl) rfl rfl (x_pickF E rfl rfl hb26 rfl) ?_
    clear E; clear a; intro a E
    refine st_val E (wn rfl) rfl rfl (x_move E rfl rfl) ?_
    clear E; clear a; intro a E
    refine st_no E (wf E rfl rfl rfl rfl rfl) rfl rfl ?_
    clear E; clear a; intro a E
    refine st_no E (wf E rfl rfl rfl rfl rfl) rfl rfl ?_
    clear E; clear a; intro a E
    refine st_no E (wf E rfl rfl rfl rfl rfl) rfl rfl ?_
    clear E; clear a; intro a E
    refine st_no E (wf E rfl rfl rfl rfl rfl) rfl rfl ?_
    clear E; clear a; intro a E
    refine st_val E (wn rfl) rfl rfl (x_pickF E rfl rfl rfl rfl) ?_
    clear E; clear a; intro a E
    refine st_val E (wn rfl) rfl rfl (x_move E rfl rfl) ?_
    clear E; clear a; intro a E
    refine st_no E (wf E rfl rfl rfl rfl rfl) rfl rfl ?_
    clear E; clear a; intro a E
    refine st_no E (wf E rfl rfl rfl rfl rfl) rfl rfl ?_
    clear E; clear a; intro a E
    refine st_no E (wf E rfl rfl rfl rfl rfl) rfl rfl ?_
    clear E; clear a; intro a E
    refine st_no E (wf E rfl rfl rfl rfl rfl) rfl rfl ?_
    clear E; clear a; intro a E
    refine st_val E (wn rfl) rfl rfl (x_pickF E rfl rfl rfl rfl) ?_
    clear E; clear a; intro a E
    refine st_val E (wn rfl) rfl rfl (x_move E rfl rfl) ?_
    clear E; clear a; intro a E
    refine st_no E (wf E rfl rfl rfl rfl rfl) rfl rfl ?_
    clear E; clear a; intro a E
    refine st_no E (wf E rfl rfl rfl rfl rfl) rfl rfl ?_
    clear E; clear a; intro a E
    refine st_val E (wn rfl) rfl rfl (x_pickF E rfl rfl rfl rfl) ?_
    clear E; clear a; intro a E
    refine st_val E (wn rfl) rfl rfl (x_move E rfl rfl) ?_
    clear E; clear a; intro a E
    refine st_no E (wf E rfl rfl rfl rfl rfl) rfl rfl ?_
    clear E; clear a; intro a E
    refine st_no E (wf E rfl rfl rfl rfl rfl) rfl rfl ?_
    clear E; clear a; intro a E
    refine st_val E (wn rfl) rfl rfl (x_pickF E rfl rfl rfl rfl) ?_
    clear E; clear a; intro a E
    refine st_val E (wn rfl) rfl rfl (x_move E rfl rfl) ?_
    clear E; clear a; intro a E
    refine st_no E (wf E rfl rfl rfl rfl rfl) rfl rfl ?_
    clear E; clear a; intro a E
    refine st_val E (wn rfl) rfl rfl (x_pickF E rfl rfl rfl rfl) ?_
    clear E; clear a; intro a E
    refine st_val E (wn rfl) rfl rfl (x_move E rfl rfl) ?_
    clear E; clear a; intro a E
    refine st_no E (wf E rfl rfl rfl rfl rfl) rfl rfl ?_
    clear E; clear a; intro a E
    refine st_no E (wf E rfl rfl rfl rfl rfl) rfl rfl ?_
    clear E; clear a; intro a E
    refine st_no E (wf E rfl rfl rfl rfl rfl) rfl rfl ?_
    clear E; clear a; intro a E
    refine st_val E (wn rfl) rfl rfl (x_pickF E rfl rfl rfl rfl) ?_
    clear E; clear a; intro a E
    refine st_val E (wn rfl) rfl rfl (x_move E rfl rfl) ?_
    clear E; clear a; intro a E
    refine st_no E (wf E rfl rfl rfl rfl rfl) rfl rfl ?_
    clear E; clear a; intro a E
    refine st_no E (wf E rfl rfl rfl rfl rfl) rfl rfl ?_
    clear E; clear a; intro a E
    refine st_no E (wf E rfl rfl rfl rfl rfl) rfl rfl ?_
    clear E; clear a; intro a E
    refine st_val E (wn rfl) rfl rfl (x_pickF E rfl rfl rfl rfl) ?_
    clear E; clear a; intro a E
    refine st_val E (wn rfl) rfl rfl (x_assign E rfl rfl) ?_
    clear E; clear a; intro a E
    refine wpList_nil ?_
    refine q_then ?_
    refine wp_ret ?_
    refine out1 E rfl rfl ?_
    replace H := H.drop 0
    replace H := H.drop 0
    replace H := H.drop 0
    obtain rfl := Option.some.inj hm
    exact ⟨rfl, H.reads (fun r hr => .tail _ (.tail _ (.tail _ (.tail _ (.tail _ (hr))))))⟩
end Go.Cb
