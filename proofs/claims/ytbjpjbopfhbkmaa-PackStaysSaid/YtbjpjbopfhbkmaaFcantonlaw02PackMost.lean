/- A function of the program, walked: it comes to its plain function. -/
import Derived.Test.YtbjpjbopfhbkmaaT
import Derived.Test.YtbjpjbopfhbkmaaFcantonlaw02head
import Derived.Test.YtbjpjbopfhbkmaaFpackNew
import Derived.Test.YtbjpjbopfhbkmaaFpackReaderEnd
import Derived.Test.YtbjpjbopfhbkmaaFpackReaderErr
import Derived.Test.YtbjpjbopfhbkmaaFpackReaderNum
import Derived.Test.YtbjpjbopfhbkmaaFpackWriterBytes
import Derived.Test.YtbjpjbopfhbkmaaFpackWriterNum
set_option linter.unusedVariables false
set_option linter.unusedSimpArgs false
namespace Go.Cb
open Go.Proofs Go.RowKit
def m_cantonlaw02_PackMost_j3 (u4 : Bool) (x1 : Int) (x2 : Int) (u17 : (List Int) × Int) (u20 : (List Int) × Int) (b34 : Bool) : Option Bool :=
  if b34 = true then (some (false)) else (if u4 = true then (if (decide (x1 > x2)) = true then (some ((sEq (strOf u17.1) (strOf u20.1)) == (x1 == x2))) else (if (decide ((u17.1.length : Int) ≤ (u20.1.length : Int))) = true then (some ((sEq (strOf u17.1) (strOf u20.1)) == (x1 == x2))) else (some (false)))) else (some (false)))
def m_cantonlaw02_PackMost_j2 (u4 : Bool) (x1 : Int) (x2 : Int) (u17 : (List Int) × Int) (u20 : (List Int) × Int) (u23 : (List Int)) (x3 : Int) (b27 : Bool) : Option Bool :=
  if b27 = true then (some (false)) else ((m_pack_Reader_Num u23 0 x3).bind fun u31 => if (decide (x1 ≤ x3)) = true then (if (u31.1 != x1) = true then (m_cantonlaw02_PackMost_j3 u4 x1 x2 u17 u20 true) else ((m_pack_Reader_End u31.2.1 u31.2.2).bind fun u43 => if (!u43) = true then (m_cantonlaw02_PackMost_j3 u4 x1 x2 u17 u20 true) else (if (decide (x1 > x3)) = true then (if (u31.1 != 0) = true then (m_cantonlaw02_PackMost_j3 u4 x1 x2 u17 u20 true) else ((m_pack_Reader_Err u31.2.1 u31.2.2).bind fun u48 => m_cantonlaw02_PackMost_j3 u4 x1 x2 u17 u20 (u31.2.2 != 3))) else (m_cantonlaw02_PackMost_j3 u4 x1 x2 u17 u20 false)))) else (if (decide (x1 > x3)) = true then (if (u31.1 != 0) = true then (m_cantonlaw02_PackMost_j3 u4 x1 x2 u17 u20 true) else ((m_pack_Reader_Err u31.2.1 u31.2.2).bind fun u52 => m_cantonlaw02_PackMost_j3 u4 x1 x2 u17 u20 (u31.2.2 != 3))) else (m_cantonlaw02_PackMost_j3 u4 x1 x2 u17 u20 false)))
def m_cantonlaw02_PackMost_j1 (u4 : Bool) (x1 : Int) (x2 : Int) (x3 : Int) (b6 : Bool) : Option Bool :=
  if b6 = true then (some (u4)) else ((m_pack_Writer_Num [] false x1).bind fun u11 => (m_pack_Writer_Num [] false x2).bind fun u14 => (m_pack_Writer_Bytes u11.1 u11.2).bind fun u17 => (m_pack_Writer_Bytes u14.1 u14.2).bind fun u20 => (m_pack_New u17.1).bind fun u23 => if (u17.2 != 0) = true then (m_cantonlaw02_PackMost_j2 u4 x1 x2 u17 u20 u23 x3 true) else (m_cantonlaw02_PackMost_j2 u4 x1 x2 u17 u20 u23 x3 (u20.2 != 0)))
def m_cantonlaw02_PackMost (x1 : Int) (x2 : Int) (x3 : Int) : Option Bool :=
  m_cantonlaw02_head.bind fun u4 => if (decide (x1 < 0)) = true then (m_cantonlaw02_PackMost_j1 u4 x1 x2 x3 true) else (if (decide (x2 < 0)) = true then (m_cantonlaw02_PackMost_j1 u4 x1 x2 x3 true) else (if (decide (x1 > 281474976710656)) = true then (m_cantonlaw02_PackMost_j1 u4 x1 x2 x3 true) else (m_cantonlaw02_PackMost_j1 u4 x1 x2 x3 (decide (x2 > 281474976710656)))))
set_option maxRecDepth 20000 in
set_option maxHeartbeats 1000000 in
theorem c_cantonlaw02_PackMost {w : World} {Fo : List Ob} {rs : List Rp} (x1 : Int) (x2 : Int) (x3 : Int) (H : Sep w (Fo) rs) {r : Bool} (hm : m_cantonlaw02_PackMost x1 x2 x3 = some r) :
    Calls Try.prog 9 [.int .i64 x1, .int .i64 x2, .int .i64 x3].toArray w (Ret fun v w' => .bool r = v ∧ Sep w' (Fo) (rs)) := by
  unfold m_cantonlaw02_PackMost at hm
  refine enter Try.func9 rfl Try.ntmps9 rfl fun a E => ?_
  simp only [enum, Nat.reduceAdd] at E
  refine wp_seq ?_
  refine wp_region_lit ?_
  refine st_val E (wn rfl) rfl rfl (x_assign E rfl rfl) ?_
  clear E; clear a; intro a E
  refine wpList_nil ?_
  refine q_then ?_
  refine wp_seq ?_
  refine wp_region_lit ?_
  replace H : Sep w (Fo) (rs) := H
  obtain ⟨u4, hx5, hm⟩ := bnd hm
  refine st_call E (wn rfl) rfl rfl (x_call E rfl rfl (cf28 _)) (c_cantonlaw02_head H hx5) ?_
  clear E H; clear a; clear w; rintro _ w ⟨rfl, H⟩ a E
  refine st_val E (wn rfl) rfl rfl (x_assign E rfl rfl) ?_
  clear E; clear a; intro a E
  refine wpList_nil ?_
  refine q_then ?_
  refine wp_seq ?_
  refine wp_seq_cut (fun a w => ∃ (b6 : Bool) (rs7 : List Rp), Env 118 a [(0, .int .i64 x1), (1, .int .i64 x2), (2, .int .i64 x3), (7, .bool u4), (30, .bool b6)] ∧ Sep w (Fo) rs7 ∧ (∀ r, r ∈ rs → r ∈ rs7) ∧ m_cantonlaw02_PackMost_j1 u4 x1 x2 x3 b6 = some r) ?_ ?_
  · refine wp_region_lit ?_
    refine st_val E (wn rfl) rfl rfl (x_move E rfl rfl) ?_
    clear E; clear a; intro a E
    refine st_val E (wn rfl) rfl rfl (x_bin E rfl rfl rfl rfl) ?_
    clear E; clear a; intro a E
    refine st_val E (wn rfl) rfl rfl (x_move E rfl rfl) ?_
    clear E; clear a; intro a E
    rcases Bool.eq_false_or_eq_true (decide (x1 < 0)) with hb55 | hb55
    · rw [if_t hb55] at hm
      refine st_no E (wf' E rfl rfl rfl rfl hb55 rfl) rfl rfl ?_
      clear E; clear a; intro a E
      refine st_no E (wf' E rfl rfl rfl rfl hb55 rfl) rfl rfl ?_
      clear E; clear a; intro a E
      refine st_val E (wn rfl) rfl rfl (x_pickT E rfl rfl hb55 rfl) ?_
      clear E; clear a; intro a E
      refine st_val E (wn rfl) rfl rfl (x_move E rfl rfl) ?_
      clear E; clear a; intro a E
      refine st_no E (wf E rfl rfl rfl rfl rfl) rfl rfl ?_
      clear E; clear a; intro a E
      refine st_no E (wf E rfl rfl rfl rfl rfl) rfl rfl ?_
      clear E; clear a; intro a E
      refine st_val E (wn rfl) rfl rfl (x_pickT E rfl rfl rfl rfl) ?_
      clear E; clear a; intro a E
      refine st_val E (wn rfl) rfl rfl (x_move E rfl rfl) ?_
      clear E; clear a; intro a E
      refine st_no E (wf E rfl rfl rfl rfl rfl) rfl rfl ?_
      clear E; clear a; intro a E
      refine st_no E (wf E rfl rfl rfl rfl rfl) rfl rfl ?_
      clear E; clear a; intro a E
      refine st_val E (wn rfl) rfl rfl (x_pickT E rfl rfl rfl rfl) ?_
      clear E; clear a; intro a E
      refine wpList_nil ?_
      refine q_then ?_
      exact ⟨true, _, (((((E.nil.keep E 30 rfl).keep E 7 rfl).keep E 2 rfl).keep E 1 rfl).keep E 0 rfl), H, fun r hr => hr, hm⟩
    · rw [if_f hb55] at hm
      refine st_val E (ws' E rfl rfl rfl rfl hb55) rfl rfl (x_move E rfl rfl) ?_
      clear E; clear a; intro a E
      refine st_val E (ws' E rfl rfl rfl rfl hb55) rfl rfl (x_bin E rfl rfl rfl rfl) ?_
      clear E; clear a; intro a E
      refine st_val E (wn rfl) rfl rfl (x_pickF E rfl rfl hb55 rfl) ?_
      clear E; clear a; intro a E
      refine st_val E (wn rfl) rfl rfl (x_move E rfl rfl) ?_
      clear E; clear a; intro a E
      rcases Bool.eq_false_or_eq_true (decide (x2 < 0)) with hb56 | hb56
      · rw [if_t hb56] at hm
        refine st_no E (wf' E rfl rfl rfl rfl hb56 rfl) rfl rfl ?_
        clear E; clear a; intro a E
        refine st_no E (wf' E rfl rfl rfl rfl hb56 rfl) rfl rfl ?_
        clear E; clear a; intro a E
        refine st_val E (wn rfl) rfl rfl (x_pickT E rfl rfl hb56 rfl) ?_
        clear E; clear a; intro a E
        refine st_val E (wn rfl) rfl rfl (x_move E rfl rfl) ?_
        clear E; clear a; intro a E
        refine st_no E (wf E rfl rfl rfl rfl rfl) rfl rfl ?_
        clear E; clear a; intro a E
        refine st_no E (wf E rfl rfl rfl rfl rfl) rfl rfl ?_
        clear E; clear a; intro a E
        refine st_val E (wn rfl) rfl rfl (x_pickT E rfl rfl rfl rfl) ?_
        clear E; clear a; intro a E
        refine wpList_nil ?_
        refine q_then ?_
        exact ⟨true, _, (((((E.nil.keep E 30 rfl).keep E 7 rfl).keep E 2 rfl).keep E 1 rfl).keep E 0 rfl), H, fun r hr => hr, hm⟩
      · rw [if_f hb56] at hm
        refine st_val E (ws' E rfl rfl rfl rfl hb56) rfl rfl (x_move E rfl rfl) ?_
        clear E; clear a; intro a E
        refine st_val E (ws' E rfl rfl rfl rfl hb56) rfl rfl (x_bin E rfl rfl rfl rfl) ?_
        clear E; clear a; intro a E
        refine st_val E (wn rfl) rfl rfl (x_pickF E rfl rfl hb56 rfl) ?_
        clear E; clear a; intro a E
        refine st_val E (wn rfl) rfl rfl (x_move E rfl rfl) ?_
        clear E; clear a; intro a E
        rcases Bool.eq_false_or_eq_true (decide (x1 > 281474976710656)) with hb57 | hb57
        · rw [if_t hb57] at hm
          refine st_no E (wf' E rfl rfl rfl rfl hb57 rfl) rfl rfl ?_
          clear E; clear a; intro a E
          refine st_no E (wf' E rfl rfl rfl rfl hb57 rfl) rfl rfl ?_
          clear E; clear a; intro a E
          refine st_val E (wn rfl) rfl rfl (x_pickT E rfl rfl hb57 rfl) ?_
          clear E; clear a; intro a E
          refine wpList_nil ?_
          refine q_then ?_
          exact ⟨true, _, (((((E.nil.keep E 30 rfl).keep E 7 rfl).keep E 2 rfl).keep E 1 rfl).keep E 0 rfl), H, fun r hr => hr, hm⟩
        · rw [if_f hb57] at hm
          refine st_val E (ws' E rfl rfl rfl rfl hb57) rfl rfl (x_move E rfl rfl) ?_
          clear E; clear a; intro a E
          refine st_val E (ws' E rfl rfl rfl rfl hb57) rfl rfl (x_bin E rfl rfl rfl rfl) ?_
          clear E; clear a; intro a E
          refine st_val E (wn rfl) rfl rfl (x_pickF E rfl rfl hb57 rfl) ?_
          clear E; clear a; intro a E
          refine wpList_nil ?_
          refine q_then ?_
          exact ⟨decide (x2 > 281474976710656), _, (((((E.nil.keep E 30 rfl).keep E 7 rfl).keep E 2 rfl).keep E 1 rfl).keep E 0 rfl), H, fun r hr => hr, hm⟩
  · clear E H hm
    rintro a w ⟨b6, rs7, E, H, hs8, hm⟩
    unfold m_cantonlaw02_PackMost_j1 at hm
    refine wp_if E rfl ?_ ?_
    · intro hb
      rw [if_t hb] at hm
      clear hb
      refine wp_seq ?_
      refine wp_region_lit ?_
      refine st_val E (wn rfl) rfl rfl (x_move E rfl rfl) ?_
      clear E; clear a; intro a E
      refine st_val E (wn rfl) rfl rfl (x_assign E rfl rfl) ?_
      clear E; clear a; intro a E
      refine wpList_nil ?_
      refine q_then ?_
      refine wp_ret ?_
      refine q_thenR ?_
      refine out1 E rfl rfl ?_
      obtain rfl := Option.some.inj hm
      exact ⟨rfl, H.reads (fun r hr => hs8 r hr)⟩
    · intro hb
      rw [if_f hb] at hm
      clear hb
      refine wp_skip ?_
      refine q_then ?_
      refine wp_seq ?_
      refine wp_region_lit ?_
      refine st_val E (wn rfl) rfl rfl (x_build E (ps := []) (vs := []) rfl rfl (v := .agg #[.slice none 0 0, .bool false]) (by kernel_rfl)) ?_
      clear E; clear a; intro a E
      refine st_box E H (wn rfl) rfl rfl (cs := [.slice none 0 0, .bool false]) rfl rfl rfl ?_
      clear E H; clear a; clear w; intro p9 w a H E
      refine st_val E (wn rfl) rfl rfl (x_assign E rfl rfl) ?_
      clear E; clear a; intro a E
      refine wpList_nil ?_
      refine q_then ?_
      refine wp_seq ?_
      refine wp_region_lit ?_
      refine st_val E (wn rfl) rfl rfl (x_build E (ps := []) (vs := []) rfl rfl (v := .agg #[.slice none 0 0, .bool false]) (by kernel_rfl)) ?_
      clear E; clear a; intro a E
      refine st_box E H (wn rfl) rfl rfl (cs := [.slice none 0 0, .bool false]) rfl rfl rfl ?_
      clear E H; clear a; clear w; intro p10 w a H E
      refine st_val E (wn rfl) rfl rfl (x_assign E rfl rfl) ?_
      clear E; clear a; intro a E
      refine wpList_nil ?_
      refine q_then ?_
      refine wp_seq ?_
      refine wp_region_lit ?_
      refine st_val E (wn rfl) rfl rfl (x_move E rfl rfl) ?_
      clear E; clear a; intro a E
      refine st_val E (wn rfl) rfl rfl (x_move E rfl rfl) ?_
      clear E; clear a; intro a E
      replace H := H.nilRow 5 (kI .u8)
      replace H := H.front 1 rfl
      replace H := H.front 1 rfl
      replace H := H.front 2 rfl
      replace H : Sep w (Blk p9 51 [.slice none 0 0, .bool false] :: Row 5 (kI .u8) (.slice none 0 0) ([] : List Int) :: Blk p10 51 [.slice none 0 0, .bool false] :: Fo) (rs7) := H
      obtain ⟨u11, hx12, hm⟩ := bnd hm
      refine st_call E (wn rfl) rfl rfl (x_call E rfl rfl (cf33 _)) (c_pack_Writer_Num p9 (.slice none 0 0) [] false x1 H hx12) ?_
      clear E H; clear a; clear w; rintro _ w ⟨v13, rfl, H⟩ a E
      refine wpList_nil ?_
      refine q_then ?_
      refine wp_seq ?_
      refine wp_region_lit ?_
      refine st_val E (wn rfl) rfl rfl (x_move E rfl rfl) ?_
      clear E; clear a; intro a E
      refine st_val E (wn rfl) rfl rfl (x_move E rfl rfl) ?_
      clear E; clear a; intro a E
      replace H := H.nilRow 5 (kI .u8)
      replace H := H.front 2 rfl
      replace H := H.front 2 rfl
      replace H := H.front 2 rfl
      replace H := H.front 3 rfl
      replace H : Sep w (Blk p10 51 [.slice none 0 0, .bool false] :: Row 5 (kI .u8) (.slice none 0 0) ([] : List Int) :: Blk p9 51 [v13, .bool u11.2] :: Row 5 (kI .u8) v13 u11.1 :: Fo) (rs7) := H
      obtain ⟨u14, hx15, hm⟩ := bnd hm
      refine st_call E (wn rfl) rfl rfl (x_call E rfl rfl (cf33 _)) (c_pack_Writer_Num p10 (.slice none 0 0) [] false x2 H hx15) ?_
      clear E H; clear a; clear w; rintro _ w ⟨v16, rfl, H⟩ a E
      refine wpList_nil ?_
      refine q_then ?_
      refine wp_seq ?_
      refine wp_region_lit ?_
      refine st_val E (wn rfl) rfl rfl (x_move E rfl rfl) ?_
      clear E; clear a; intro a E
      replace H := H.front 1 rfl
      replace H := H.front 1 rfl
      replace H := H.front 3 rfl
      replace H := H.front 3 rfl
      replace H : Sep w (Blk p9 51 [v13, .bool u11.2] :: Row 5 (kI .u8) v13 u11.1 :: Blk p10 51 [v16, .bool u14.2] :: Row 5 (kI .u8) v16 u14.1 :: Fo) (rs7) := H
      obtain ⟨u17, hx18, hm⟩ := bnd hm
      refine st_call E (wn rfl) rfl rfl (x_call E rfl rfl (cf34 _)) (c_pack_Writer_Bytes p9 v13 u11.1 u11.2 H hx18) ?_
      clear E H; clear a; clear w; rintro _ w ⟨v19, rfl, H⟩ a E
      refine st_val E (wn rfl) rfl rfl (x_move E rfl rfl) ?_
      clear E; clear a; intro a E
      refine st_val E (wn rfl) rfl rfl (x_ext E rfl rfl rfl) ?_
      clear E; clear a; intro a E
      refine st_val E (wn rfl) rfl rfl (x_ext E rfl rfl rfl) ?_
      clear E; clear a; intro a E
      refine st_val E (wn rfl) rfl rfl (x_assign E rfl rfl) ?_
      clear E; clear a; intro a E
      refine st_val E (wn rfl) rfl rfl (x_assign E rfl rfl) ?_
      clear E; clear a; intro a E
      refine wpList_nil ?_
      refine q_then ?_
      refine wp_seq ?_
      refine wp_region_lit ?_
      refine st_val E (wn rfl) rfl rfl (x_move E rfl rfl) ?_
      clear E; clear a; intro a E
      replace H := H.front 2 rfl
      replace H := H.front 2 rfl
      replace H := H.front 2 rfl
      replace H := H.front 4 rfl
      replace H := H.front 4 rfl
      replace H : Sep w (Blk p10 51 [v16, .bool u14.2] :: Row 5 (kI .u8) v16 u14.1 :: Row 5 (kI .u8) v19 u17.1 :: Blk p9 51 [v13, .bool u11.2] :: Row 5 (kI .u8) v13 u11.1 :: Fo) (rs7) := H
      obtain ⟨u20, hx21, hm⟩ := bnd hm
      refine st_call E (wn rfl) rfl rfl (x_call E rfl rfl (cf34 _)) (c_pack_Writer_Bytes p10 v16 u14.1 u14.2 H hx21) ?_
      clear E H; clear a; clear w; rintro _ w ⟨v22, rfl, H⟩ a E
      refine st_val E (wn rfl) rfl rfl (x_move E rfl rfl) ?_
      clear E; clear a; intro a E
      refine st_val E (wn rfl) rfl rfl (x_ext E rfl rfl rfl) ?_
      clear E; clear a; intro a E
      refine st_val E (wn rfl) rfl rfl (x_ext E rfl rfl rfl) ?_
      clear E; clear a; intro a E
      refine st_val E (wn rfl) rfl rfl (x_assign E rfl rfl) ?_
      clear E; clear a; intro a E
      refine st_val E (wn rfl) rfl rfl (x_assign E rfl rfl) ?_
      clear E; clear a; intro a E
      refine wpList_nil ?_
      refine q_then ?_
      refine wp_seq ?_
      refine wp_region_lit ?_
      refine st_val E (wn rfl) rfl rfl (x_move E rfl rfl) ?_
      clear E; clear a; intro a E
      replace H := H.thaw (i := 3) rfl
      replace H : Sep w (Row 5 (kI .u8) v22 u20.1 :: Blk p10 51 [v16, .bool u14.2] :: Row 5 (kI .u8) v16 u14.1 :: Blk p9 51 [v13, .bool u11.2] :: Row 5 (kI .u8) v13 u11.1 :: Fo) (rSl (kI .u8) v19 u17.1 :: rs7) := H
      obtain ⟨u23, hx24, hm⟩ := bnd hm
      refine st_call E (wn rfl) rfl rfl (x_call E rfl rfl (cf29 _)) (c_pack_New v19 u17.1 H (.head _) hx24) ?_
      clear E H; clear a; clear w; rintro _ w ⟨p25, v26, rfl, H⟩ a E
      refine st_val E (wn rfl) rfl rfl (x_assign E rfl rfl) ?_
      clear E; clear a; intro a E
      refine wpList_nil ?_
      refine q_then ?_
      refine wp_seq ?_
      refine wp_seq_cut (fun a w => ∃ (b27 : Bool) (rs28 : List Rp), Env 118 a [(0, .int .i64 x1), (1, .int .i64 x2), (2, .int .i64 x3), (7, .bool u4), (10, v19), (12, v22), (14, .pointer (some ⟨p25, 0, none⟩)), (63, .bool b27)] ∧ Sep w (Row 5 (kI .u8) v22 u20.1 :: Blk p25 91 [v26, .int .i64 0] :: Row 5 (kI .u8) v26 u23 :: Fo) rs28 ∧ (∀ r, r ∈ rs → r ∈ rs28) ∧ rSl (kI .u8) v19 u17.1 ∈ rs28 ∧ m_cantonlaw02_PackMost_j2 u4 x1 x2 u17 u20 u23 x3 b27 = some r) ?_ ?_
      · refine wp_region_lit ?_
        refine st_val E (wn rfl) rfl rfl (x_move E rfl rfl) ?_
        clear E; clear a; intro a E
        refine st_val E (wn rfl) rfl rfl (x_bin2 E rfl rfl rfl (v := .bool false) (by kernel_rfl)) ?_
        clear E; clear a; intro a E
        refine st_val E (wn rfl) rfl rfl (x_move E rfl rfl) ?_
        clear E; clear a; intro a E
        refine st_val E (ws E rfl rfl rfl rfl) rfl rfl (x_move E rfl rfl) ?_
        clear E; clear a; intro a E
        refine st_val E (ws E rfl rfl rfl rfl) rfl rfl (x_bin E rfl rfl rfl rfl) ?_
        clear E; clear a; intro a E
        refine st_val E (wn rfl) rfl rfl (x_pickF E rfl rfl rfl rfl) ?_
        clear E; clear a; intro a E
        refine st_val E (wn rfl) rfl rfl (x_move E rfl rfl) ?_
        clear E; clear a; intro a E
        rcases Bool.eq_false_or_eq_true (u17.2 != 0) with hb54 | hb54
        · rw [if_t hb54] at hm
          refine st_no E (wf' E rfl rfl rfl rfl hb54 rfl) rfl rfl ?_
          clear E; clear a; intro a E
          refine st_no E (wf' E rfl rfl rfl rfl hb54 rfl) rfl rfl ?_
          clear E; clear a; intro a E
          refine st_val E (wn rfl) rfl rfl (x_pickT E rfl rfl hb54 rfl) ?_
          clear E; clear a; intro a E
          refine wpList_nil ?_
          refine q_then ?_
          replace H := H.drop 3
          replace H := H.drop 3
          replace H := H.drop 3
          replace H := H.drop 3
          replace H := H.front 1 rfl
          replace H := H.front 1 rfl
          replace H := H.front 2 rfl
          exact ⟨true, _, ((((((((E.nil.keep E 63 rfl).keep E 14 rfl).keep E 12 rfl).keep E 10 rfl).keep E 7 rfl).keep E 2 rfl).keep E 1 rfl).keep E 0 rfl), H, fun r hr => .tail _ (hs8 r hr), (.head _), hm⟩
        · rw [if_f hb54] at hm
          refine st_val E (ws' E rfl rfl rfl rfl hb54) rfl rfl (x_move E rfl rfl) ?_
          clear E; clear a; intro a E
          refine st_val E (ws' E rfl rfl rfl rfl hb54) rfl rfl (x_bin E rfl rfl rfl rfl) ?_
          clear E; clear a; intro a E
          refine st_val E (wn rfl) rfl rfl (x_pickF E rfl rfl hb54 rfl) ?_
          clear E; clear a; intro a E
          refine wpList_nil ?_
          refine q_then ?_
          replace H := H.drop 3
          replace H := H.drop 3
          replace H := H.drop 3
          replace H := H.drop 3
          replace H := H.front 1 rfl
          replace H := H.front 1 rfl
          replace H := H.front 2 rfl
          exact ⟨u20.2 != 0, _, ((((((((E.nil.keep E 63 rfl).keep E 14 rfl).keep E 12 rfl).keep E 10 rfl).keep E 7 rfl).keep E 2 rfl).keep E 1 rfl).keep E 0 rfl), H, fun r hr => .tail _ (hs8 r hr), (.head _), hm⟩
      · clear E H hm
        rintro a w ⟨b27, rs28, E, H, hs29, hr30, hm⟩
        unfold m_cantonlaw02_PackMost_j2 at hm
        refine wp_if E rfl ?_ ?_
        · intro hb
          rw [if_t hb] at hm
          clear hb
          refine wp_seq ?_
          refine wp_region_lit ?_
          refine st_val E (wn rfl) rfl rfl (x_assign E rfl rfl) ?_
          clear E; clear a; intro a E
          refine wpList_nil ?_
          refine q_then ?_
          refine wp_ret ?_
          refine q_thenR ?_
          refine out1 E rfl rfl ?_
          replace H := H.drop 0
          replace H := H.drop 0
          replace H := H.drop 0
          obtain rfl := Option.some.inj hm
          exact ⟨rfl, H.reads (fun r hr => hs29 r hr)⟩
        · intro hb
          rw [if_f hb] at hm
          clear hb
          refine wp_skip ?_
          refine q_then ?_
          refine wp_seq ?_
          refine wp_region_lit ?_
          refine st_val E (wn rfl) rfl rfl (x_move E rfl rfl) ?_
          clear E; clear a; intro a E
          refine st_val E (wn rfl) rfl rfl (x_move E rfl rfl) ?_
          clear E; clear a; intro a E
          replace H := H.thaw (i := 2) rfl
          replace H := H.front 0 rfl
          replace H := H.front 1 rfl
          replace H : Sep w (Blk p25 91 [v26, .int .i64 0] :: Row 5 (kI .u8) v22 u20.1 :: Fo) (rSl (kI .u8) v26 u23 :: rs28) := H
          obtain ⟨u31, hx32, hm⟩ := bnd hm
          refine st_call E (wn rfl) rfl rfl (x_call E rfl rfl (cf32 _)) (c_pack_Reader_Num p25 v26 u23 0 x3 H (.head _) hx32) ?_
          clear E H; clear a; clear w; rintro _ w ⟨v33, rfl, H⟩ a E
          refine st_val E (wn rfl) rfl rfl (x_assign E rfl rfl) ?_
          clear E; clear a; intro a E
          refine wpList_nil ?_
          refine q_then ?_
          refine wp_seq ?_
          refine wp_seq_cut (fun a w => ∃ (b34 : Bool) (rs35 : List Rp), Env 118 a [(0, .int .i64 x1), (1, .int .i64 x2), (7, .bool u4), (10, v19), (12, v22), (93, .bool b34)] ∧ Sep w (Row 5 (kI .u8) v22 u20.1 :: Fo) rs35 ∧ (∀ r, r ∈ rs → r ∈ rs35) ∧ rSl (kI .u8) v19 u17.1 ∈ rs35 ∧ m_cantonlaw02_PackMost_j3 u4 x1 x2 u17 u20 b34 = some r) ?_ ?_
          · refine wp_region_lit ?_
            refine st_val E (wn rfl) rfl rfl (x_move E rfl rfl) ?_
            clear E; clear a; intro a E
            refine st_val E (wn rfl) rfl rfl (x_move E rfl rfl) ?_
            clear E; clear a; intro a E
            refine st_val E (wn rfl) rfl rfl (x_bin E rfl rfl rfl rfl) ?_
            clear E; clear a; intro a E
            refine st_val E (wn rfl) rfl rfl (x_move E rfl rfl) ?_
            clear E; clear a; intro a E
            rcases Bool.eq_false_or_eq_true (decide (x1 ≤ x3)) with hb41 | hb41
            · rw [if_t hb41] at hm
              refine st_val E (ws' E rfl rfl rfl rfl hb41) rfl rfl (x_move E rfl rfl) ?_
              clear E; clear a; intro a E
              refine st_val E (ws' E rfl rfl rfl rfl hb41) rfl rfl (x_move E rfl rfl) ?_
              clear E; clear a; intro a E
              refine st_val E (ws' E rfl rfl rfl rfl hb41) rfl rfl (x_bin E rfl rfl rfl rfl) ?_
              clear E; clear a; intro a E
              refine st_val E (ws' E rfl rfl rfl rfl hb41) rfl rfl (x_move E rfl rfl) ?_
              clear E; clear a; intro a E
              rcases Bool.eq_false_or_eq_true (u31.1 != x1) with hb42 | hb42
              · rw [if_t hb42] at hm
                refine st_no E (wf' E rfl rfl rfl rfl hb42 rfl) rfl rfl ?_
                clear E; clear a; intro a E
                refine st_no E (wf' E rfl rfl rfl rfl hb42 rfl) rfl rfl ?_
                clear E; clear a; intro a E
                refine st_no E (wf' E rfl rfl rfl rfl hb42 rfl) rfl rfl ?_
                clear E; clear a; intro a E
                refine st_val E (ws' E rfl rfl rfl rfl hb41) rfl rfl (x_pickT E rfl rfl hb42 rfl) ?_
                clear E; clear a; intro a E
                refine st_val E (wn rfl) rfl rfl (x_pickT E rfl rfl hb41 rfl) ?_
                clear E; clear a; intro a E
                refine st_val E (wn rfl) rfl rfl (x_move E rfl rfl) ?_
                clear E; clear a; intro a E
                refine st_no E (wf E rfl rfl rfl rfl rfl) rfl rfl ?_
                clear E; clear a; intro a E
                refine st_no E (wf E rfl rfl rfl rfl rfl) rfl rfl ?_
                clear E; clear a; intro a E
                refine st_no E (wf E rfl rfl rfl rfl rfl) rfl rfl ?_
                clear E; clear a; intro a E
                refine st_no E (wf E rfl rfl rfl rfl rfl) rfl rfl ?_
                clear E; clear a; intro a E
                refine st_no E (wu E rfl rfl rfl rfl) rfl rfl ?_
                clear E; clear a; intro a E
                refine st_no E (wu E rfl rfl rfl rfl) rfl rfl ?_
                clear E; clear a; intro a E
                refine st_no E (wu E rfl rfl rfl rfl) rfl rfl ?_
                clear E; clear a; intro a E
                refine st_no E (wu E rfl rfl rfl rfl) rfl rfl ?_
                clear E; clear a; intro a E
                refine st_no E (wu E rfl rfl rfl rfl) rfl rfl ?_
                clear E; clear a; intro a E
                refine st_no E (wu E rfl rfl rfl rfl) rfl rfl ?_
                clear E; clear a; intro a E
                refine st_no E (wu E rfl rfl rfl rfl) rfl rfl ?_
                clear E; clear a; intro a E
                refine st_no E (wf E rfl rfl rfl rfl rfl) rfl rfl ?_
                clear E; clear a; intro a E
                refine st_val E (wn rfl) rfl rfl (x_pickT E rfl rfl rfl rfl) ?_
                clear E; clear a; intro a E
                refine wpList_nil ?_
                refine q_then ?_
                replace H := H.drop 0
                exact ⟨true, _, ((((((E.nil.keep E 93 rfl).keep E 12 rfl).keep E 10 rfl).keep E 7 rfl).keep E 1 rfl).keep E 0 rfl), H, fun r hr => .tail _ (.tail _ (hs29 r hr)), (.tail _ (.tail _ hr30)), hm⟩
              · rw [if_f hb42] at hm
                refine st_val E (ws' E rfl rfl rfl rfl hb42) rfl rfl (x_move E rfl rfl) ?_
                clear E; clear a; intro a E
                replace H : Sep w (Blk p25 91 [v33, .int .i64 u31.2.2] :: Row 5 (kI .u8) v22 u20.1 :: Fo) (rSl (kI .u8) v33 u31.2.1 :: rSl (kI .u8) v26 u23 :: rs28) := H
                obtain ⟨u43, hx44, hm⟩ := bnd hm
                refine st_call E (ws' E rfl rfl rfl rfl hb42) rfl rfl (x_call E rfl rfl (cf30 _)) (c_pack_Reader_End p25 v33 u31.2.1 u31.2.2 H (.head _) hx44) ?_
                clear E H; clear a; clear w; rintro _ w ⟨rfl, H⟩ a E
                refine st_val E (ws' E rfl rfl rfl rfl hb42) rfl rfl (x_not E rfl rfl) ?_
                clear E; clear a; intro a E
                refine st_val E (ws' E rfl rfl rfl rfl hb41) rfl rfl (x_pickF E rfl rfl hb42 rfl) ?_
                clear E; clear a; intro a E
                refine st_val E (wn rfl) rfl rfl (x_pickT E rfl rfl hb41 rfl) ?_
                clear E; clear a; intro a E
                refine st_val E (wn rfl) rfl rfl (x_move E rfl rfl) ?_
                clear E; clear a; intro a E
                rcases Bool.eq_false_or_eq_true (!u43) with hb45 | hb45
                · rw [if_t hb45] at hm
                  refine st_no E (wf' E rfl rfl rfl rfl hb45 rfl) rfl rfl ?_
                  clear E; clear a; intro a E
                  refine st_no E (wf' E rfl rfl rfl rfl hb45 rfl) rfl rfl ?_
                  clear E; clear a; intro a E
                  refine st_no E (wf' E rfl rfl rfl rfl hb45 rfl) rfl rfl ?_
                  clear E; clear a; intro a E
                  refine st_no E (wf' E rfl rfl rfl rfl hb45 rfl) rfl rfl ?_
                  clear E; clear a; intro a E
                  refine st_no E (wu E rfl rfl rfl rfl) rfl rfl ?_
                  clear E; clear a; intro a E
                  refine st_no E (wu E rfl rfl rfl rfl) rfl rfl ?_
                  clear E; clear a; intro a E
                  refine st_no E (wu E rfl rfl rfl rfl) rfl rfl ?_
                  clear E; clear a; intro a E
                  refine st_no E (wu E rfl rfl rfl rfl) rfl rfl ?_
                  clear E; clear a; intro a E
                  refine st_no E (wu E rfl rfl rfl rfl) rfl rfl ?_
                  clear E; clear a; intro a E
                  refine st_no E (wu E rfl rfl rfl rfl) rfl rfl ?_
                  clear E; clear a; intro a E
                  refine st_no E (wu E rfl rfl rfl rfl) rfl rfl ?_
                  clear E; clear a; intro a E
                  refine st_no E (wf' E rfl rfl rfl rfl hb45 rfl) rfl rfl ?_
                  clear E; clear a; intro a E
                  refine st_val E (wn rfl) rfl rfl (x_pickT E rfl rfl hb45 rfl) ?_
                  clear E; clear a; intro a E
                  refine wpList_nil ?_
                  refine q_then ?_
                  replace H := H.drop 0
                  exact ⟨true, _, ((((((E.nil.keep E 93 rfl).keep E 12 rfl).keep E 10 rfl).keep E 7 rfl).keep E 1 rfl).keep E 0 rfl), H, fun r hr => .tail _ (.tail _ (hs29 r hr)), (.tail _ (.tail _ hr30)), hm⟩
                · rw [if_f hb45] at hm
                  refine st_val E (ws' E rfl rfl rfl rfl hb45) rfl rfl (x_move E rfl rfl) ?_
                  clear E; clear a; intro a E
                  refine st_val E (ws' E rfl rfl rfl rfl hb45) rfl rfl (x_move E rfl rfl) ?_
                  clear E; clear a; intro a E
                  refine st_val E (ws' E rfl rfl rfl rfl hb45) rfl rfl (x_bin E rfl rfl rfl rfl) ?_
                  clear E; clear a; intro a E
                  refine st_val E (ws' E rfl rfl rfl rfl hb45) rfl rfl (x_move E rfl rfl) ?_
                  clear E; clear a; intro a E
                  rcases Bool.eq_false_or_eq_true (decide (x1 > x3)) with hb46 | hb46
                  · rw [if_t hb46] at hm
                    refine st_val E (ws' E rfl rfl rfl rfl hb46) rfl rfl (x_move E rfl rfl) ?_
                    clear E; clear a; intro a E
                    refine st_val E (ws' E rfl rfl rfl rfl hb46) rfl rfl (x_bin E rfl rfl rfl rfl) ?_
                    clear E; clear a; intro a E
                    refine st_val E (ws' E rfl rfl rfl rfl hb46) rfl rfl (x_move E rfl rfl) ?_
                    clear E; clear a; intro a E
                    rcases Bool.eq_false_or_eq_true (u31.1 != 0) with hb47 | hb47
                    · rw [if_t hb47] at hm
                      refine st_no E (wf' E rfl rfl rfl rfl hb47 rfl) rfl rfl ?_
                      clear E; clear a; intro a E
                      refine st_no E (wf' E rfl rfl rfl rfl hb47 rfl) rfl rfl ?_
                      clear E; clear a; intro a E
                      refine st_no E (wf' E rfl rfl rfl rfl hb47 rfl) rfl rfl ?_
                      clear E; clear a; intro a E
                      refine st_val E (ws' E rfl rfl rfl rfl hb46) rfl rfl (x_pickT E rfl rfl hb47 rfl) ?_
                      clear E; clear a; intro a E
                      refine st_val E (ws' E rfl rfl rfl rfl hb45) rfl rfl (x_pickT E rfl rfl hb46 rfl) ?_
                      clear E; clear a; intro a E
                      refine st_val E (wn rfl) rfl rfl (x_pickF E rfl rfl hb45 rfl) ?_
                      clear E; clear a; intro a E
                      refine wpList_nil ?_
                      refine q_then ?_
                      replace H := H.drop 0
                      exact ⟨true, _, ((((((E.nil.keep E 93 rfl).keep E 12 rfl).keep E 10 rfl).keep E 7 rfl).keep E 1 rfl).keep E 0 rfl), H, fun r hr => .tail _ (.tail _ (hs29 r hr)), (.tail _ (.tail _ hr30)), hm⟩
                    · rw [if_f hb47] at hm
                      refine st_val E (ws' E rfl rfl rfl rfl hb47) rfl rfl (x_move E rfl rfl) ?_
                      clear E; clear a; intro a E
                      replace H : Sep w (Blk p25 91 [v33, .int .i64 u31.2.2] :: Row 5 (kI .u8) v22 u20.1 :: Fo) (rSl (kI .u8) v33 u31.2.1 :: rSl (kI .u8) v26 u23 :: rs28) := H
                      obtain ⟨u48, hx49, hm⟩ := bnd hm
                      refine st_call E (ws' E rfl rfl rfl rfl hb47) rfl rfl (x_call E rfl rfl (cf31 _)) (c_pack_Reader_Err p25 v33 u31.2.1 u31.2.2 H (.head _) hx49) ?_
                      clear E H; clear a; clear w; rintro _ w ⟨rfl, H⟩ a E
                      refine st_val E (ws' E rfl rfl rfl rfl hb47) rfl rfl (x_bin E rfl rfl rfl rfl) ?_
                      clear E; clear a; intro a E
                      refine st_val E (ws' E rfl rfl rfl rfl hb46) rfl rfl (x_pickF E rfl rfl hb47 rfl) ?_
                      clear E; clear a; intro a E
                      refine st_val E (ws' E rfl rfl rfl rfl hb45) rfl rfl (x_pickT E rfl rfl hb46 rfl) ?_
                      clear E; clear a; intro a E
                      refine st_val E (wn rfl) rfl rfl (x_pickF E rfl rfl hb45 rfl) ?_
                      clear E; clear a; intro a E
                      refine wpList_nil ?_
                      refine q_then ?_
                      replace H := H.drop 0
                      exact ⟨u31.2.2 != 3, _, ((((((E.nil.keep E 93 rfl).keep E 12 rfl).keep E 10 rfl).keep E 7 rfl).keep E 1 rfl).keep E 0 rfl), H, fun r hr => .tail _ (.tail _ (hs29 r hr)), (.tail _ (.tail _ hr30)), hm⟩
                  · rw [if_f hb46] at hm
                    refine st_no E (wf' E rfl rfl rfl rfl hb46 rfl) rfl rfl ?_
                    clear E; clear a; intro a E
                    refine st_no E (wf' E rfl rfl rfl rfl hb46 rfl) rfl rfl ?_
                    clear E; clear a; intro a E
                    refine st_no E (wf' E rfl rfl rfl rfl hb46 rfl) rfl rfl ?_
                    clear E; clear a; intro a E
                    refine st_no E (wu E rfl rfl rfl rfl) rfl rfl ?_
                    clear E; clear a; intro a E
                    refine st_no E (wu E rfl rfl rfl rfl) rfl rfl ?_
                    clear E; clear a; intro a E
                    refine st_no E (wu E rfl rfl rfl rfl) rfl rfl ?_
                    clear E; clear a; intro a E
                    refine st_no E (wf' E rfl rfl rfl rfl hb46 rfl) rfl rfl ?_
                    clear E; clear a; intro a E
                    refine st_val E (ws' E rfl rfl rfl rfl hb45) rfl rfl (x_pickF E rfl rfl hb46 rfl) ?_
                    clear E; clear a; intro a E
                    refine st_val E (wn rfl) rfl rfl (x_pickF E rfl rfl hb45 rfl) ?_
                    clear E; clear a; intro a E
                    refine wpList_nil ?_
                    refine q_then ?_
                    replace H := H.drop 0
                    exact ⟨false, _, ((((((E.nil.keep E 93 rfl).keep E 12 rfl).keep E 10 rfl).keep E 7 rfl).keep E 1 rfl).keep E 0 rfl), H, fun r hr => .tail _ (.tail _ (hs29 r hr)), (.tail _ (.tail _ hr30)), hm⟩
            · rw [if_f hb41] at hm
              refine st_no E (wf' E rfl rfl rfl rfl hb41 rfl) rfl rfl ?_
              clear E; clear a; intro a E
              refine st_no E (wf' E rfl rfl rfl rfl hb41 rfl) rfl rfl ?_
              clear E; clear a; intro a E
              refine st_no E (wf' E rfl rfl rfl rfl hb41 rfl) rfl rfl ?_
              clear E; clear a; intro a E
              refine st_no E (wf' E rfl rfl rfl rfl hb41 rfl) rfl rfl ?_
              clear E; clear a; intro a E
              refine st_no E (wu E rfl rfl rfl rfl) rfl rfl ?_
              clear E; clear a; intro a E
              refine st_no E (wu E rfl rfl rfl rfl) rfl rfl ?_
              clear E; clear a; intro a E
              refine st_no E (wu E rfl rfl rfl rfl) rfl rfl ?_
              clear E; clear a; intro a E
              refine st_no E (wf' E rfl rfl rfl rfl hb41 rfl) rfl rfl ?_
              clear E; clear a; intro a E
              refine st_val E (wn rfl) rfl rfl (x_pickF E rfl rfl hb41 rfl) ?_
              clear E; clear a; intro a E
              refine st_val E (wn rfl) rfl rfl (x_move E rfl rfl) ?_
              clear E; clear a; intro a E
              refine st_val E (ws E rfl rfl rfl rfl) rfl rfl (x_move E rfl rfl) ?_
              clear E; clear a; intro a E
              refine st_val E (ws E rfl rfl rfl rfl) rfl rfl (x_move E rfl rfl) ?_
              clear E; clear a; intro a E
              refine st_val E (ws E rfl rfl rfl rfl) rfl rfl (x_bin E rfl rfl rfl rfl) ?_
              clear E; clear a; intro a E
              refine st_val E (ws E rfl rfl rfl rfl) rfl rfl (x_move E rfl rfl) ?_
              clear E; clear a; intro a E
              rcases Bool.eq_false_or_eq_true (decide (x1 > x3)) with hb50 | hb50
              · rw [if_t hb50] at hm
                refine st_val E (ws' E rfl rfl rfl rfl hb50) rfl rfl (x_move E rfl rfl) ?_
                clear E; clear a; intro a E
                refine st_val E (ws' E rfl rfl rfl rfl hb50) rfl rfl (x_bin E rfl rfl rfl rfl) ?_
                clear E; clear a; intro a E
                refine st_val E (ws' E rfl rfl rfl rfl hb50) rfl rfl (x_move E rfl rfl) ?_
                clear E; clear a; intro a E
                rcases Bool.eq_false_or_eq_true (u31.1 != 0) with hb51 | hb51
                · rw [if_t hb51] at hm
                  refine st_no E (wf' E rfl rfl rfl rfl hb51 rfl) rfl rfl ?_
                  clear E; clear a; intro a E
                  refine st_no E (wf' E rfl rfl rfl rfl hb51 rfl) rfl rfl ?_
                  clear E; clear a; intro a E
                  refine st_no E (wf' E rfl rfl rfl rfl hb51 rfl) rfl rfl ?_
                  clear E; clear a; intro a E
                  refine st_val E (ws' E rfl rfl rfl rfl hb50) rfl rfl (x_pickT E rfl rfl hb51 rfl) ?_
                  clear E; clear a; intro a E
                  refine st_val E (ws E rfl rfl rfl rfl) rfl rfl (x_pickT E rfl rfl hb50 rfl) ?_
                  clear E; clear a; intro a E
                  refine st_val E (wn rfl) rfl rfl (x_pickF E rfl rfl rfl rfl) ?_
                  clear E; clear a; intro a E
                  refine wpList_nil ?_
                  refine q_then ?_
                  replace H := H.drop 0
                  exact ⟨true, _, ((((((E.nil.keep E 93 rfl).keep E 12 rfl).keep E 10 rfl).keep E 7 rfl).keep E 1 rfl).keep E 0 rfl), H, fun r hr => .tail _ (.tail _ (hs29 r hr)), (.tail _ (.tail _ hr30)), hm⟩
                · rw [if_f hb51] at hm
                  refine st_val E (ws' E rfl rfl rfl rfl hb51) rfl rfl (x_move E rfl rfl) ?_
                  clear E; clear a; intro a E
                  replace H : Sep w (Blk p25 91 [v33, .int .i64 u31.2.2] :: Row 5 (kI .u8) v22 u20.1 :: Fo) (rSl (kI .u8) v33 u31.2.1 :: rSl (kI .u8) v26 u23 :: rs28) := H
                  obtain ⟨u52, hx53, hm⟩ := bnd hm
                  refine st_call E (ws' E rfl rfl rfl rfl hb51) rfl rfl (x_call E rfl rfl (cf31 _)) (c_pack_Reader_Err p25 v33 u31.2.1 u31.2.2 H (.head _) hx53) ?_
                  clear E H; clear a; clear w; rintro _ w ⟨rfl, H⟩ a E
                  refine st_val E (ws' E rfl rfl rfl rfl hb51) rfl rfl (x_bin E rfl rfl rfl rfl) ?_
                  clear E; clear a; intro a E
                  refine st_val E (ws' E rfl rfl rfl rfl hb50) rfl rfl (x_pickF E rfl rfl hb51 rfl) ?_
                  clear E; clear a; intro a E
                  refine st_val E (ws E rfl rfl rfl rfl) rfl rfl (x_pickT E rfl rfl hb50 rfl) ?_
                  clear E; clear a; intro a E
                  refine st_val E (wn rfl) rfl rfl (x_pickF E rfl rfl rfl rfl) ?_
                  clear E; clear a; intro a E
                  refine wpList_nil ?_
                  refine q_then ?_
                  replace H := H.drop 0
                  exact ⟨u31.2.2 != 3, _, ((((((E.nil.keep E 93 rfl).keep E 12 rfl).keep E 10 rfl).keep E 7 rfl).keep E 1 rfl).keep E 0 rfl), H, fun r hr => .tail _ (.tail _ (hs29 r hr)), (.tail _ (.tail _ hr30)), hm⟩
              · rw [if_f hb50] at hm
                refine st_no E (wf' E rfl rfl rfl rfl hb50 rfl) rfl rfl ?_
                clear E; clear a; intro a E
                refine st_no E (wf' E rfl rfl rfl rfl hb50 rfl) rfl rfl ?_
                clear E; clear a; intro a E
                refine st_no E (wf' E rfl rfl rfl rfl hb50 rfl) rfl rfl ?_
                clear E; clear a; intro a E
                refine st_no E (wu E rfl rfl rfl rfl) rfl rfl ?_
                clear E; clear a; intro a E
                refine st_no E (wu E rfl rfl rfl rfl) rfl rfl ?_
                clear E; clear a; intro a E
                refine st_no E (wu E rfl rfl rfl rfl) rfl rfl ?_
                clear E; clear a; intro a E
                refine st_no E (wf' E rfl rfl rfl rfl hb50 rfl) rfl rfl ?_
                clear E; clear a; intro a E
                refine st_val E (ws E rfl rfl rfl rfl) rfl rfl (x_pickF E rfl rfl hb50 rfl) ?_
                clear E; clear a; intro a E
                refine st_val E (wn rfl) rfl rfl (x_pickF E rfl rfl rfl rfl) ?_
                clear E; clear a; intro a E
                refine wpList_nil ?_
                refine q_then ?_
                replace H := H.drop 0
                exact ⟨false, _, ((((((E.nil.keep E 93 rfl).keep E 12 rfl).keep E 10 rfl).keep E 7 rfl).keep E 1 rfl).keep E 0 rfl), H, fun r hr => .tail _ (.tail _ (hs29 r hr)), (.tail _ (.tail _ hr30)), hm⟩
          · clear E H hm
            rintro a w ⟨b34, rs35, E, H, hs36, hr37, hm⟩
            unfold m_cantonlaw02_PackMost_j3 at hm
            refine wp_if E rfl ?_ ?_
            · intro hb
              rw [if_t hb] at hm
              clear hb
              refine wp_seq ?_
              refine wp_region_lit ?_
              refine st_val E (wn rfl) rfl rfl (x_assign E rfl rfl) ?_
              clear E; clear a; intro a E
              refine wpList_nil ?_
              refine q_then ?_
              refine wp_ret ?_
              refine q_thenR ?_
              refine out1 E rfl rfl ?_
              replace H := H.drop 0
              obtain rfl := Option.some.inj hm
              exact ⟨rfl, H.reads (fun r hr => hs36 r hr)⟩
            · intro hb
              rw [if_f hb] at hm
              clear hb
              refine wp_skip ?_
              refine q_then ?_
              refine wp_seq ?_
              refine wp_region_lit ?_
              refine st_val E (wn rfl) rfl rfl (x_move E rfl rfl) ?_
              clear E; clear a; intro a E
              refine st_val E (wn rfl) rfl rfl (x_move E rfl rfl) ?_
              clear E; clear a; intro a E
              rcases Bool.eq_false_or_eq_true u4 with hb38 | hb38
              · rw [if_t hb38] at hm
                refine st_val E (ws' E rfl rfl rfl rfl hb38) rfl rfl (x_move E rfl rfl) ?_
                clear E; clear a; intro a E
                refine st_val E (ws' E rfl rfl rfl rfl hb38) rfl rfl (x_move E rfl rfl) ?_
                clear E; clear a; intro a E
                refine st_val E (ws' E rfl rfl rfl rfl hb38) rfl rfl (x_bin E rfl rfl rfl rfl) ?_
                clear E; clear a; intro a E
                refine st_val E (ws' E rfl rfl rfl rfl hb38) rfl rfl (x_move E rfl rfl) ?_
                clear E; clear a; intro a E
                rcases Bool.eq_false_or_eq_true (decide (x1 > x2)) with hb39 | hb39
                · rw [if_t hb39] at hm
                  refine st_no E (wf' E rfl rfl rfl rfl hb39 rfl) rfl rfl ?_
                  clear E; clear a; intro a E
                  refine st_no E (wf' E rfl rfl rfl rfl hb39 rfl) rfl rfl ?_
                  clear E; clear a; intro a E
                  refine st_no E (wf' E rfl rfl rfl rfl hb39 rfl) rfl rfl ?_
                  clear E; clear a; intro a E
                  refine st_no E (wf' E rfl rfl rfl rfl hb39 rfl) rfl rfl ?_
                  clear E; clear a; intro a E
                  refine st_no E (wf' E rfl rfl rfl rfl hb39 rfl) rfl rfl ?_
                  clear E; clear a; intro a E
                  refine st_val E (ws' E rfl rfl rfl rfl hb38) rfl rfl (x_pickT E rfl rfl hb39 rfl) ?_
                  clear E; clear a; intro a E
                  refine st_val E (wn rfl) rfl rfl (x_pickT E rfl rfl hb38 rfl) ?_
                  clear E; clear a; intro a E
                  refine st_val E (wn rfl) rfl rfl (x_move E rfl rfl) ?_
                  clear E; clear a; intro a E
                  refine st_val E (ws E rfl rfl rfl rfl) rfl rfl (x_move E rfl rfl) ?_
                  clear E; clear a; intro a E
                  refine st_val E (ws E rfl rfl rfl rfl) rfl rfl (x_b2s E H rfl rfl hr37 Try.underlying46 Try.underlying5 Try.underlying9) ?_
                  clear E; clear a; intro a E
                  refine st_val E (ws E rfl rfl rfl rfl) rfl rfl (x_move E rfl rfl) ?_
                  clear E; clear a; intro a E
                  replace H := H.thaw (i := 0) rfl
                  refine st_val E (ws E rfl rfl rfl rfl) rfl rfl (x_b2s E H rfl rfl (.head _) Try.underlying46 Try.underlying5 Try.underlying9) ?_
                  clear E; clear a; intro a E
                  refine st_val E (ws E rfl rfl rfl rfl) rfl rfl (x_str E rfl rfl rfl rfl) ?_
                  clear E; clear a; intro a E
                  refine st_val E (ws E rfl rfl rfl rfl) rfl rfl (x_move E rfl rfl) ?_
                  clear E; clear a; intro a E
                  refine st_val E (ws E rfl rfl rfl rfl) rfl rfl (x_move E rfl rfl) ?_
                  clear E; clear a; intro a E
                  refine st_val E (ws E rfl rfl rfl rfl) rfl rfl (x_bin E rfl rfl rfl rfl) ?_
                  clear E; clear a; intro a E
                  refine st_val E (ws E rfl rfl rfl rfl) rfl rfl (x_bin2 E rfl rfl rfl (v := .bool ((sEq (strOf u17.1) (strOf u20.1)) == (x1 == x2))) (by kernel_rfl)) ?_
                  clear E; clear a; intro a E
                  refine st_val E (wn rfl) rfl rfl (x_pickT E rfl rfl rfl rfl) ?_
                  clear E; clear a; intro a E
                  refine st_val E (wn rfl) rfl rfl (x_assign E rfl rfl) ?_
                  clear E; clear a; intro a E
                  refine wpList_nil ?_
                  refine q_then ?_
                  refine wp_ret ?_
                  refine out1 E rfl rfl ?_
                  obtain rfl := Option.some.inj hm
                  exact ⟨rfl, H.reads (fun r hr => .tail _ (hs36 r hr))⟩
                · rw [if_f hb39] at hm
                  refine st_val E (ws' E rfl rfl rfl rfl hb39) rfl rfl (x_move E rfl rfl) ?_
                  clear E; clear a; intro a E
                  refine st_val E (ws' E rfl rfl rfl rfl hb39) rfl rfl (x_lenS E H rfl rfl hr37 Try.underlying46) ?_
                  clear E; clear a; intro a E
                  refine st_val E (ws' E rfl rfl rfl rfl hb39) rfl rfl (x_move E rfl rfl) ?_
                  clear E; clear a; intro a E
                  refine st_val E (ws' E rfl rfl rfl rfl hb39) rfl rfl (x_lenR (i := 0) E H rfl rfl rfl Try.underlying46) ?_
                  clear E; clear a; intro a E
                  refine st_val E (ws' E rfl rfl rfl rfl hb39) rfl rfl (x_bin E rfl rfl rfl rfl) ?_
                  clear E; clear a; intro a E
                  refine st_val E (ws' E rfl rfl rfl rfl hb38) rfl rfl (x_pickF E rfl rfl hb39 rfl) ?_
                  clear E; clear a; intro a E
                  refine st_val E (wn rfl) rfl rfl (x_pickT E rfl rfl hb38 rfl) ?_
                  clear E; clear a; intro a E
                  refine st_val E (wn rfl) rfl rfl (x_move E rfl rfl) ?_
                  clear E; clear a; intro a E
                  rcases Bool.eq_false_or_eq_true (decide ((u17.1.length : Int) ≤ (u20.1.length : Int))) with hb40 | hb40
                  · rw [if_t hb40] at hm
                    refine st_val E (ws' E rfl rfl rfl rfl hb40) rfl rfl (x_move E rfl rfl) ?_
                    clear E; clear a; intro a E
                    refine st_val E (ws' E rfl rfl rfl rfl hb40) rfl rfl (x_b2s E H rfl rfl hr37 Try.underlying46 Try.underlying5 Try.underlying9) ?_
                    clear E; clear a; intro a E
                    refine st_val E (ws' E rfl rfl rfl rfl hb40) rfl rfl (x_move E rfl rfl) ?_
                    clear E; clear a; intro a E
                    replace H := H.thaw (i := 0) rfl
                    refine st_val E (ws' E rfl rfl rfl rfl hb40) rfl rfl (x_b2s E H rfl rfl (.head _) Try.underlying46 Try.underlying5 Try.underlying9) ?_
                    clear E; clear a; intro a E
                    refine st_val E (ws' E rfl rfl rfl rfl hb40) rfl rfl (x_str E rfl rfl rfl rfl) ?_
                    clear E; clear a; intro a E
                    refine st_val E (ws' E rfl rfl rfl rfl hb40) rfl rfl (x_move E rfl rfl) ?_
                    clear E; clear a; intro a E
                    refine st_val E (ws' E rfl rfl rfl rfl hb40) rfl rfl (x_move E rfl rfl) ?_
                    clear E; clear a; intro a E
                    refine st_val E (ws' E rfl rfl rfl rfl hb40) rfl rfl (x_bin E rfl rfl rfl rfl) ?_
                    clear E; clear a; intro a E
                    refine st_val E (ws' E rfl rfl rfl rfl hb40) rfl rfl (x_bin2 E rfl rfl rfl (v := .bool ((sEq (strOf u17.1) (strOf u20.1)) == (x1 == x2))) (by kernel_rfl)) ?_
                    clear E; clear a; intro a E
                    refine st_val E (wn rfl) rfl rfl (x_pickT E rfl rfl hb40 rfl) ?_
                    clear E; clear a; intro a E
                    refine st_val E (wn rfl) rfl rfl (x_assign E rfl rfl) ?_
                    clear E; clear a; intro a E
                    refine wpList_nil ?_
                    refine q_then ?_
                    refine wp_ret ?_
                    refine out1 E rfl rfl ?_
                    obtain rfl := Option.some.inj hm
                    exact ⟨rfl, H.reads (fun r hr => .tail _ (hs36 r hr))⟩
                  · rw [if_f hb40] at hm
                    refine st_no E (wf' E rfl rfl rfl rfl hb40 rfl) rfl rfl ?_
                    clear E; clear a; intro a E
                    refine st_no E (wf' E rfl rfl rfl rfl hb40 rfl) rfl rfl ?_
                    clear E; clear a; intro a E
                    refine st_no E (wf' E rfl rfl rfl rfl hb40 rfl) rfl rfl ?_
                    clear E; clear a; intro a E
                    refine st_no E (wf' E rfl rfl rfl rfl hb40 rfl) rfl rfl ?_
                    clear E; clear a; intro a E
                    refine st_no E (wf' E rfl rfl rfl rfl hb40 rfl) rfl rfl ?_
                    clear E; clear a; intro a E
                    refine st_no E (wf' E rfl rfl rfl rfl hb40 rfl) rfl rfl ?_
                    clear E; clear a; intro a E
                    refine st_no E (wf' E rfl rfl rfl rfl hb40 rfl) rfl rfl ?_
                    clear E; clear a; intro a E
                    refine st_no E (wf' E rfl rfl rfl rfl hb40 rfl) rfl rfl ?_
                    clear E; clear a; intro a E
                    refine st_no E (wf' E rfl rfl rfl rfl hb40 rfl) rfl rfl ?_
                    clear E; clear a; intro a E
                    refine st_val E (wn rfl) rfl rfl (x_pickF E rfl rfl hb40 rfl) ?_
                    clear E; clear a; intro a E
                    refine st_val E (wn rfl) rfl rfl (x_assign E rfl rfl) ?_
                    clear E; clear a; intro a E
                    refine wpList_nil ?_
                    refine q_then ?_
                    refine wp_ret ?_
                    refine out1 E rfl rfl ?_
                    replace H := H.drop 0
                    obtain rfl := Option.some.inj hm
                    exact ⟨rfl, H.reads (fun r hr => hs36 r hr)⟩
              · rw [if_f hb38] at hm
                refine st_no E (wf' E rfl rfl rfl rfl hb38 rfl) rfl rfl ?_
                clear E; clear a; intro a E
                refine st_no E (wf' E rfl rfl rfl rfl hb38 rfl) rfl rfl ?_
                clear E; clear a; intro a E
                refine st_no E (wf' E rfl rfl rfl rfl hb38 rfl) rfl rfl ?_
                clear E; clear a; intro a E
                refine st_no E (wf' E rfl rfl rfl rfl hb38 rfl) rfl rfl ?_
                clear E; clear a; intro a E
                refine st_no E (wu E rfl rfl rfl rfl) rfl rfl ?_
                clear E; clear a; intro a E
                refine st_no E (wu E rfl rfl rfl rfl) rfl rfl ?_
                clear E; clear a; intro a E
                refine st_no E (wu E rfl rfl rfl rfl) rfl rfl ?_
                clear E; clear a; intro a E
                refine st_no E (wu E rfl rfl rfl rfl) rfl rfl ?_
                clear E; clear a; intro a E
                refine st_no E (wu E rfl rfl rfl rfl) rfl rfl ?_
                clear E; clear a; intro a E
                refine st_no E (wf' E rfl rfl rfl rfl hb38 rfl) rfl rfl ?_
                clear E; clear a; intro a E
                refine st_val E (wn rfl) rfl rfl (x_pickF E rfl rfl hb38 rfl) ?_
                clear E; clear a; intro a E
                refine st_val E (wn rfl) rfl rfl (x_move E rfl rfl) ?_
                clear E; clear a; intro a E
                refine st_no E (wf E rfl rfl rfl rfl rfl) rfl rfl ?_
                clear E; clear a; intro a E
                refine st_no E (wf E rfl rfl rfl rfl rfl) rfl rfl ?_
                clear E; clear a; intro a E
                refine st_no E (wf E rfl rfl rfl rfl rfl) rfl rfl ?_
                clear E; clear a; intro a E
                refine st_no E (wf E rfl rfl rfl rfl rfl) rfl rfl ?_
                clear E; clear a; intro a E
                refine st_no E (wf E rfl rfl rfl rfl rfl) rfl rfl ?_
                clear E; clear a; intro a E
                refine st_no E (wf E rfl rfl rfl rfl rfl) rfl rfl ?_
                clear E; clear a; intro a E
                refine st_no E (wf E rfl rfl rfl rfl rfl) rfl rfl ?_
                clear E; clear a; intro a E
                refine st_no E (wf E rfl rfl rfl rfl rfl) rfl rfl ?_
                clear E; clear a; intro a E
                refine st_no E (wf E rfl rfl rfl rfl rfl) rfl rfl ?_
                clear E; clear a; intro a E
                refine st_val E (wn rfl) rfl rfl (x_pickF E rfl rfl rfl rfl) ?_
                clear E; clear a; intro a E
                refine st_val E (wn rfl) rfl rfl (x_assign E rfl rfl) ?_
                clear E; clear a; intro a E
                refine wpList_nil ?_
                refine q_then ?_
                refine wp_ret ?_
                refine out1 E rfl rfl ?_
                replace H := H.drop 0
                obtain rfl := Option.some.inj hm
                exact ⟨rfl, H.reads (fun r hr => hs36 r hr)⟩
end Go.Cb
