/- A function of the program, walked: it comes to its plain function. -/
import Derived.Test.YtbjpjbopfhbkmaaT
import Derived.Test.YtbjpjbopfhbkmaaFcantonlaw02head
import Derived.Test.YtbjpjbopfhbkmaaFpackNew
import Derived.Test.YtbjpjbopfhbkmaaFpackReaderEnd
import Derived.Test.YtbjpjbopfhbkmaaFpackReaderErr
import Derived.Test.YtbjpjbopfhbkmaaFpackReaderNum
import Derived.Test.YtbjpjbopfhbkmaaFpackWriterBytes
import Derived.Test.YtbjpjbopfhbkmaaFpackWriterNum
set_option linter.unusedVariables false
set_option linter.unusedSimpArgs false
namespace Go.Cb
open Go.Proofs Go.RowKit
def m_cantonlaw02_PackOnce_j1 (rec_1 : Int → (List Int) → Int → (List Int) → Bool → Option Bool) (x11 : Int) (l29 : (List Int)) (x30 : Int) (l32 : (List Int)) (b33 : Bool) : Option Bool :=
  rec_1 (IntKind.i64.wrap (x11 + 1)) l29 x30 l32 b33
def m_cantonlaw02_PackOnce_l1 (l2 : List Int) (u4 : Bool) : Nat → Int → (List Int) → Int → (List Int) → Bool → Option Bool
  | 0, _, _, _, _, _ => none
  | k1 + 1, x11, l13, x14, l16, b17 =>
    if (decide (x11 < (l2.length : Int))) = true then ((m_pack_Reader_End l13 x14).bind fun u23 => if (!u23) = true then ((m_pack_Reader_Err l13 x14).bind fun u26 => if (x14 == 0) = true then ((m_pack_Reader_Num l13 x14 281474976710656).bind fun u38 => (m_pack_Reader_Err u38.2.1 u38.2.2).bind fun u41 => if (u38.2.2 == 0) = true then ((m_pack_Writer_Num l16 b17 u38.1).bind fun u43 => m_cantonlaw02_PackOnce_j1 (m_cantonlaw02_PackOnce_l1 l2 u4 k1) x11 u38.2.1 u38.2.2 u43.1 u43.2) else (m_cantonlaw02_PackOnce_j1 (m_cantonlaw02_PackOnce_l1 l2 u4 k1) x11 u38.2.1 u38.2.2 l16 b17)) else ((m_pack_Reader_Err l13 x14).bind fun u46 => if (x14 != 0) = true then (some (u4)) else ((m_pack_Writer_Bytes l16 b17).bind fun u48 => if u4 = true then ((m_pack_Reader_End l13 x14).bind fun u52 => if u52 = true then (if (u48.2 == 0) = true then (some (sEq (strOf u48.1) (strOf l2))) else (some (false))) else (some (false))) else (some (false))))) else ((m_pack_Reader_Err l13 x14).bind fun u56 => if (x14 != 0) = true then (some (u4)) else ((m_pack_Writer_Bytes l16 b17).bind fun u58 => if u4 = true then ((m_pack_Reader_End l13 x14).bind fun u62 => if u62 = true then (if (u58.2 == 0) = true then (some (sEq (strOf u58.1) (strOf l2))) else (some (false))) else (some (false))) else (some (false))))) else ((m_pack_Reader_Err l13 x14).bind fun u66 => if (x14 != 0) = true then (some (u4)) else ((m_pack_Writer_Bytes l16 b17).bind fun u68 => if u4 = true then ((m_pack_Reader_End l13 x14).bind fun u72 => if u72 = true then (if (u68.2 == 0) = true then (some (sEq (strOf u68.1) (strOf l2))) else (some (false))) else (some (false))) else (some (false))))
def m_cantonlaw02_PackOnce (l2 : List Int) : Option Bool :=
  m_cantonlaw02_head.bind fun u4 => if (decide ((l2.length : Int) > 20000)) = true then (some (u4)) else ((m_pack_New l2).bind fun u6 => m_cantonlaw02_PackOnce_l1 l2 u4 (l2.length + 2) 0 u6 0 [] false)
set_option maxRecDepth 20000 in
set_option maxHeartbeats 1000000 in
theorem c_cantonlaw02_PackOnce {w : World} {Fo : List Ob} {rs : List Rp} (v1 : Value) (l2 : List Int) (H : Sep w (Fo) rs) (hr3 : rSl (kI .u8) v1 l2 ∈ rs) {r : Bool} (hm : m_cantonlaw02_PackOnce l2 = some r) :
    Calls Try.prog 7 [v1].toArray w (Ret fun v w' => .bool r = v ∧ Sep w' (Fo) (rs)) := by
  unfold m_cantonlaw02_PackOnce at hm
  refine enter Try.func7 rfl Try.ntmps7 rfl fun a E => ?_
  simp only [enum, Nat.reduceAdd] at E
  refine wp_seq ?_
  refine wp_region_lit ?_
  refine st_val E (wn rfl) rfl rfl (x_assign E rfl rfl) ?_
  clear E; clear a; intro a E
  refine wpList_nil ?_
  refine q_then ?_
  refine wp_seq ?_
  refine wp_region_lit ?_
  replace H : Sep w (Fo) (rs) := H
  obtain ⟨u4, hx5, hm⟩ := bnd hm
  refine st_call E (wn rfl) rfl rfl (x_call E rfl rfl (cf28 _)) (c_cantonlaw02_head H hx5) ?_
  clear E H; clear a; clear w; rintro _ w ⟨rfl, H⟩ a E
  refine st_val E (wn rfl) rfl rfl (x_assign E rfl rfl) ?_
  clear E; clear a; intro a E
  refine wpList_nil ?_
  refine q_then ?_
  refine wp_seq ?_
  refine wp_seq ?_
  refine wp_region_lit ?_
  refine st_val E (wn rfl) rfl rfl (x_move E rfl rfl) ?_
  clear E; clear a; intro a E
  refine st_val E (wn rfl) rfl rfl (x_lenS E H rfl rfl hr3 Try.underlying46) ?_
  clear E; clear a; intro a E
  refine st_val E (wn rfl) rfl rfl (x_bin E rfl rfl rfl rfl) ?_
  clear E; clear a; intro a E
  refine wpList_nil ?_
  refine q_then ?_
  refine wp_if E rfl ?_ ?_
  · intro hb
    rw [if_t hb] at hm
    clear hb
    refine wp_seq ?_
    refine wp_region_lit ?_
    refine st_val E (wn rfl) rfl rfl (x_move E rfl rfl) ?_
    clear E; clear a; intro a E
    refine st_val E (wn rfl) rfl rfl (x_assign E rfl rfl) ?_
    clear E; clear a; intro a E
    refine wpList_nil ?_
    refine q_then ?_
    refine wp_ret ?_
    refine q_thenR ?_
    refine out1 E rfl rfl ?_
    obtain rfl := Option.some.inj hm
    exact ⟨rfl, H.reads (fun r hr => hr)⟩
  · intro hb
    rw [if_f hb] at hm
    clear hb
    refine wp_skip ?_
    refine q_then ?_
    refine wp_seq ?_
    refine wp_region_lit ?_
    refine st_val E (wn rfl) rfl rfl (x_move E rfl rfl) ?_
    clear E; clear a; intro a E
    replace H : Sep w (Fo) (rs) := H
    obtain ⟨u6, hx7, hm⟩ := bnd hm
    refine st_call E (wn rfl) rfl rfl (x_call E rfl rfl (cf29 _)) (c_pack_New v1 l2 H hr3 hx7) ?_
    clear E H; clear a; clear w; rintro _ w ⟨p8, v9, rfl, H⟩ a E
    refine st_val E (wn rfl) rfl rfl (x_assign E rfl rfl) ?_
    clear E; clear a; intro a E
    refine wpList_nil ?_
    refine q_then ?_
    refine wp_seq ?_
    refine wp_seq ?_
    refine wp_region_lit ?_
    refine st_val E (wn rfl) rfl rfl (x_move E rfl rfl) ?_
    clear E; clear a; intro a E
    refine st_val E (wn rfl) rfl rfl (x_bin2 E rfl rfl rfl (v := .bool false) (by kernel_rfl)) ?_
    clear E; clear a; intro a E
    refine wpList_nil ?_
    refine q_then ?_
    refine wp_cond_false (E.eval rfl) ?_
    refine wp_skip ?_
    refine q_then ?_
    refine wp_seq ?_
    refine wp_region_lit ?_
    refine st_val E (wn rfl) rfl rfl (x_build E (ps := []) (vs := []) rfl rfl (v := .agg #[.slice none 0 0, .bool false]) (by kernel_rfl)) ?_
    clear E; clear a; intro a E
    refine st_box E H (wn rfl) rfl rfl (cs := [.slice none 0 0, .bool false]) rfl rfl rfl ?_
    clear E H; clear a; clear w; intro p10 w a H E
    refine st_val E (wn rfl) rfl rfl (x_assign E rfl rfl) ?_
    clear E; clear a; intro a E
    refine wpList_nil ?_
    refine q_then ?_
    refine wp_seq ?_
    refine wp_seq ?_
    refine wp_region_lit ?_
    refine st_val E (wn rfl) rfl rfl (x_assign E rfl rfl) ?_
    clear E; clear a; intro a E
    refine wpList_nil ?_
    refine q_then ?_
    refine wp_block ?_
    refine wp_loop_g (fun k1 a w => ∃ (v12 : Value) (v15 : Value) (x11 : Int) (l13 : (List Int)) (x14 : Int) (l16 : (List Int)) (b17 : Bool) (rs18 : List Rp), Env 70 a [(0, v1), (3, .bool u4), (4, .pointer (some ⟨p8, 0, none⟩)), (5, .pointer (some ⟨p10, 0, none⟩)), (6, .int .i64 x11)] ∧ Sep w (Blk p8 91 [v12, .int .i64 x14] :: Blk p10 51 [v15, .bool b17] :: Row 5 (kI .u8) v15 l16 :: Fo) rs18 ∧ (∀ r, r ∈ rs → r ∈ rs18) ∧ rSl (kI .u8) v1 l2 ∈ rs18 ∧ rSl (kI .u8) v12 l13 ∈ rs18 ∧ m_cantonlaw02_PackOnce_l1 l2 u4 k1 x11 l13 x14 l16 b17 = some r) (l2.length + 2) ?_ ?_
    · replace H := H.thaw (i := 2) rfl
      replace H := H.nilRow 5 (kI .u8)
      replace H := H.front 0 rfl
      replace H := H.front 1 rfl
      replace H := H.front 2 rfl
      exact ⟨v9, (.slice none 0 0), 0, u6, 0, [], false, _, (((((E.nil.keep E 6 rfl).keep E 5 rfl).keep E 4 rfl).keep E 3 rfl).keep E 0 rfl), H, fun r hr => .tail _ (hr), (.tail _ hr3), (.head _), hm⟩
    · clear E H hm
      rintro k1 a w ⟨v12, v15, x11, l13, x14, l16, b17, rs18, E, H, hs19, hr20, hr21, hm⟩
      cases k1 with
      | zero => exact (none_some hm rfl).elim
      | succ k1 =>
        unfold m_cantonlaw02_PackOnce_l1 at hm
        refine wp_seq ?_
        refine wp_seq ?_
        refine wp_region_lit ?_
        refine st_val E (wn rfl) rfl rfl (x_move E rfl rfl) ?_
        clear E; clear a; intro a E
        refine st_val E (wn rfl) rfl rfl (x_move E rfl rfl) ?_
        clear E; clear a; intro a E
        refine st_val E (wn rfl) rfl rfl (x_lenS E H rfl rfl hr20 Try.underlying46) ?_
        clear E; clear a; intro a E
        refine st_val E (wn rfl) rfl rfl (x_bin E rfl rfl rfl rfl) ?_
        clear E; clear a; intro a E
        refine st_val E (wn rfl) rfl rfl (x_move E rfl rfl) ?_
        clear E; clear a; intro a E
        rcases Bool.eq_false_or_eq_true (decide (x11 < (l2.length : Int))) with hb22 | hb22
        · rw [if_t hb22] at hm
          refine st_val E (ws' E rfl rfl rfl rfl hb22) rfl rfl (x_move E rfl rfl) ?_
          clear E; clear a; intro a E
          replace H : Sep w (Blk p8 91 [v12, .int .i64 x14] :: Blk p10 51 [v15, .bool b17] :: Row 5 (kI .u8) v15 l16 :: Fo) (rs18) := H
          obtain ⟨u23, hx24, hm⟩ := bnd hm
          refine st_call E (ws' E rfl rfl rfl rfl hb22) rfl rfl (x_call E rfl rfl (cf30 _)) (c_pack_Reader_End p8 v12 l13 x14 H hr21 hx24) ?_
          clear E H; clear a; clear w; rintro _ w ⟨rfl, H⟩ a E
          refine st_val E (ws' E rfl rfl rfl rfl hb22) rfl rfl (x_not E rfl rfl) ?_
          clear E; clear a; intro a E
          refine st_val E (wn rfl) rfl rfl (x_pickT E rfl rfl hb22 rfl) ?_
          clear E; clear a; intro a E
          refine st_val E (wn rfl) rfl rfl (x_move E rfl rfl) ?_
          clear E; clear a; intro a E
          rcases Bool.eq_false_or_eq_true (!u23) with hb25 | hb25
          · rw [if_t hb25] at hm
            refine st_val E (ws' E rfl rfl rfl rfl hb25) rfl rfl (x_move E rfl rfl) ?_
            clear E; clear a; intro a E
            replace H : Sep w (Blk p8 91 [v12, .int .i64 x14] :: Blk p10 51 [v15, .bool b17] :: Row 5 (kI .u8) v15 l16 :: Fo) (rs18) := H
            obtain ⟨u26, hx27, hm⟩ := bnd hm
            refine st_call E (ws' E rfl rfl rfl rfl hb25) rfl rfl (x_call E rfl rfl (cf31 _)) (c_pack_Reader_Err p8 v12 l13 x14 H hr21 hx27) ?_
            clear E H; clear a; clear w; rintro _ w ⟨rfl, H⟩ a E
            refine st_val E (ws' E rfl rfl rfl rfl hb25) rfl rfl (x_bin E rfl rfl rfl rfl) ?_
            clear E; clear a; intro a E
            refine st_val E (wn rfl) rfl rfl (x_pickT E rfl rfl hb25 rfl) ?_
            clear E; clear a; intro a E
            refine wpList_nil ?_
            refine q_then ?_
            refine wp_if E rfl ?_ ?_
            · intro hb
              rw [if_t hb] at hm
              clear hb
              refine wp_skip ?_
              refine q_then ?_
              refine wp_seq_cut (fun a w => ∃ (v28 : Value) (v31 : Value) (l29 : (List Int)) (x30 : Int) (l32 : (List Int)) (b33 : Bool) (rs34 : List Rp), Env 70 a [(0, v1), (3, .bool u4), (4, .pointer (some ⟨p8, 0, none⟩)), (5, .pointer (some ⟨p10, 0, none⟩)), (6, .int .i64 x11)] ∧ Sep w (Blk p8 91 [v28, .int .i64 x30] :: Blk p10 51 [v31, .bool b33] :: Row 5 (kI .u8) v31 l32 :: Fo) rs34 ∧ (∀ r, r ∈ rs → r ∈ rs34) ∧ rSl (kI .u8) v1 l2 ∈ rs34 ∧ rSl (kI .u8) v28 l29 ∈ rs34 ∧ m_cantonlaw02_PackOnce_j1 (m_cantonlaw02_PackOnce_l1 l2 u4 k1) x11 l29 x30 l32 b33 = some r) ?_ ?_
              · refine wp_block ?_
                refine wp_seq ?_
                refine wp_region_lit ?_
                refine st_val E (wn rfl) rfl rfl (x_move E rfl rfl) ?_
                clear E; clear a; intro a E
                replace H : Sep w (Blk p8 91 [v12, .int .i64 x14] :: Blk p10 51 [v15, .bool b17] :: Row 5 (kI .u8) v15 l16 :: Fo) (rs18) := H
                obtain ⟨u38, hx39, hm⟩ := bnd hm
                refine st_call E (wn rfl) rfl rfl (x_call E rfl rfl (cf32 _)) (c_pack_Reader_Num p8 v12 l13 x14 281474976710656 H hr21 hx39) ?_
                clear E H; clear a; clear w; rintro _ w ⟨v40, rfl, H⟩ a E
                refine st_val E (wn rfl) rfl rfl (x_assign E rfl rfl) ?_
                clear E; clear a; intro a E
                refine wpList_nil ?_
                refine q_then ?_
                refine wp_seq ?_
                refine wp_region_lit ?_
                refine st_val E (wn rfl) rfl rfl (x_move E rfl rfl) ?_
                clear E; clear a; intro a E
                replace H : Sep w (Blk p8 91 [v40, .int .i64 u38.2.2] :: Blk p10 51 [v15, .bool b17] :: Row 5 (kI .u8) v15 l16 :: Fo) (rSl (kI .u8) v40 u38.2.1 :: rs18) := H
                obtain ⟨u41, hx42, hm⟩ := bnd hm
                refine st_call E (wn rfl) rfl rfl (x_call E rfl rfl (cf31 _)) (c_pack_Reader_Err p8 v40 u38.2.1 u38.2.2 H (.head _) hx42) ?_
                clear E H; clear a; clear w; rintro _ w ⟨rfl, H⟩ a E
                refine st_val E (wn rfl) rfl rfl (x_bin E rfl rfl rfl rfl) ?_
                clear E; clear a; intro a E
                refine wpList_nil ?_
                refine q_then ?_
                refine wp_if E rfl ?_ ?_
                · intro hb
                  rw [if_t hb] at hm
                  clear hb
                  refine wp_region_lit ?_
                  refine st_val E (wn rfl) rfl rfl (x_move E rfl rfl) ?_
                  clear E; clear a; intro a E
                  refine st_val E (wn rfl) rfl rfl (x_move E rfl rfl) ?_
                  clear E; clear a; intro a E
                  replace H := H.front 0 rfl
                  replace H := H.front 2 rfl
                  replace H := H.front 2 rfl
                  replace H : Sep w (Blk p10 51 [v15, .bool b17] :: Row 5 (kI .u8) v15 l16 :: Blk p8 91 [v40, .int .i64 u38.2.2] :: Fo) (rSl (kI .u8) v40 u38.2.1 :: rs18) := H
                  obtain ⟨u43, hx44, hm⟩ := bnd hm
                  refine st_call E (wn rfl) rfl rfl (x_call E rfl rfl (cf33 _)) (c_pack_Writer_Num p10 v15 l16 b17 u38.1 H hx44) ?_
                  clear E H; clear a; clear w; rintro _ w ⟨v45, rfl, H⟩ a E
                  refine wpList_nil ?_
                  refine q_blk ?_
                  refine q_then ?_
                  replace H := H.front 1 rfl
                  replace H := H.front 1 rfl
                  replace H := H.front 2 rfl
                  exact ⟨v40, v45, u38.2.1, u38.2.2, u43.1, u43.2, _, (((((E.nil.keep E 6 rfl).keep E 5 rfl).keep E 4 rfl).keep E 3 rfl).keep E 0 rfl), H, fun r hr => .tail _ (hs19 r hr), (.tail _ hr20), (.head _), hm⟩
                · intro hb
                  rw [if_f hb] at hm
                  clear hb
                  refine wp_skip ?_
                  refine q_blk ?_
                  refine q_then ?_
                  exact ⟨v40, v15, u38.2.1, u38.2.2, l16, b17, _, (((((E.nil.keep E 6 rfl).keep E 5 rfl).keep E 4 rfl).keep E 3 rfl).keep E 0 rfl), H, fun r hr => .tail _ (hs19 r hr), (.tail _ hr20), (.head _), hm⟩
              · clear E H hm
                rintro a w ⟨v28, v31, l29, x30, l32, b33, rs34, E, H, hs35, hr36, hr37, hm⟩
                unfold m_cantonlaw02_PackOnce_j1 at hm
                refine wp_region_lit ?_
                refine st_val E (wn rfl) rfl rfl (x_move E rfl rfl) ?_
                clear E; clear a; intro a E
                refine st_val E (wn rfl) rfl rfl (x_bin E rfl rfl rfl rfl) ?_
                clear E; clear a; intro a E
                refine st_val E (wn rfl) rfl rfl (x_assign E rfl rfl) ?_
                clear E; clear a; intro a E
                refine wpList_nil ?_
                refine q_then ?_
                exact ⟨k1, Nat.lt_succ_self k1, v28, v31, IntKind.i64.wrap (x11 + 1), l29, x30, l32, b33, _, (((((E.nil.keep E 6 rfl).keep E 5 rfl).keep E 4 rfl).keep E 3 rfl).keep E 0 rfl), H, hs35, hr36, hr37, hm⟩
            · intro hb
              rw [if_f hb] at hm
              clear hb
              refine wp_exit ?_
              refine q_thenX ?_
              refine q_thenX ?_
              refine q_hit ?_
              refine q_then ?_
              refine wp_seq ?_
              refine wp_seq ?_
              refine wp_region_lit ?_
              refine st_val E (wn rfl) rfl rfl (x_move E rfl rfl) ?_
              clear E; clear a; intro a E
              replace H : Sep w (Blk p8 91 [v12, .int .i64 x14] :: Blk p10 51 [v15, .bool b17] :: Row 5 (kI .u8) v15 l16 :: Fo) (rs18) := H
              obtain ⟨u46, hx47, hm⟩ := bnd hm
              refine st_call E (wn rfl) rfl rfl (x_call E rfl rfl (cf31 _)) (c_pack_Reader_Err p8 v12 l13 x14 H hr21 hx47) ?_
              clear E H; clear a; clear w; rintro _ w ⟨rfl, H⟩ a E
              refine st_val E (wn rfl) rfl rfl (x_bin E rfl rfl rfl rfl) ?_
              clear E; clear a; intro a E
              refine wpList_nil ?_
              refine q_then ?_
              refine wp_if E rfl ?_ ?_
              · intro hb
                rw [if_t hb] at hm
                clear hb
                refine wp_seq ?_
                refine wp_region_lit ?_
                refine st_val E (wn rfl) rfl rfl (x_move E rfl rfl) ?_
                clear E; clear a; intro a E
                refine st_val E (wn rfl) rfl rfl (x_assign E rfl rfl) ?_
                clear E; clear a; intro a E
                refine wpList_nil ?_
                refine q_then ?_
                refine wp_ret ?_
                refine q_thenR ?_
                refine out1 E rfl rfl ?_
                replace H := H.drop 0
                replace H := H.drop 0
                replace H := H.drop 0
                obtain rfl := Option.some.inj hm
                exact ⟨rfl, H.reads (fun r hr => hs19 r hr)⟩
              · intro hb
                rw [if_f hb] at hm
                clear hb
                refine wp_skip ?_
                refine q_then ?_
                refine wp_seq ?_
                refine wp_region_lit ?_
                refine st_val E (wn rfl) rfl rfl (x_move E rfl rfl) ?_
                clear E; clear a; intro a E
                replace H := H.front 0 rfl
                replace H := H.front 2 rfl
                replace H := H.front 2 rfl
                replace H : Sep w (Blk p10 51 [v15, .bool b17] :: Row 5 (kI .u8) v15 l16 :: Blk p8 91 [v12, .int .i64 x14] :: Fo) (rs18) := H
                obtain ⟨u48, hx49, hm⟩ := bnd hm
                refine st_call E (wn rfl) rfl rfl (x_call E rfl rfl (cf34 _)) (c_pack_Writer_Bytes p10 v15 l16 b17 H hx49) ?_
                clear E H; clear a; clear w; rintro _ w ⟨v50, rfl, H⟩ a E
                refine st_val E (wn rfl) rfl rfl (x_move E rfl rfl) ?_
                clear E; clear a; intro a E
                refine st_val E (wn rfl) rfl rfl (x_ext E rfl rfl rfl) ?_
                clear E; clear a; intro a E
                refine st_val E (wn rfl) rfl rfl (x_ext E rfl rfl rfl) ?_
                clear E; clear a; intro a E
                refine st_val E (wn rfl) rfl rfl (x_assign E rfl rfl) ?_
                clear E; clear a; intro a E
                refine st_val E (wn rfl) rfl rfl (x_assign E rfl rfl) ?_
                clear E; clear a; intro a E
                refine wpList_nil ?_
                refine q_then ?_
                refine wp_seq ?_
                refine wp_region_lit ?_
                refine st_val E (wn rfl) rfl rfl (x_move E rfl rfl) ?_
                clear E; clear a; intro a E
                refine st_val E (wn rfl) rfl rfl (x_move E rfl rfl) ?_
                clear E; clear a; intro a E
                rcases Bool.eq_false_or_eq_true u4 with hb51 | hb51
                · rw [if_t hb51] at hm
                  refine st_val E (ws' E rfl rfl rfl rfl hb51) rfl rfl (x_move E rfl rfl) ?_
                  clear E; clear a; intro a E
                  replace H := H.front 2 rfl
                  replace H := H.front 2 rfl
                  replace H := H.front 2 rfl
                  replace H := H.front 3 rfl
                  replace H : Sep w (Blk p8 91 [v12, .int .i64 x14] :: Row 5 (kI .u8) v50 u48.1 :: Blk p10 51 [v15, .bool b17] :: Row 5 (kI .u8) v15 l16 :: Fo) (rs18) := H
                  obtain ⟨u52, hx53, hm⟩ := bnd hm
                  refine st_call E (ws' E rfl rfl rfl rfl hb51) rfl rfl (x_call E rfl rfl (cf30 _)) (c_pack_Reader_End p8 v12 l13 x14 H hr21 hx53) ?_
                  clear E H; clear a; clear w; rintro _ w ⟨rfl, H⟩ a E
                  refine st_val E (wn rfl) rfl rfl (x_pickT E rfl rfl hb51 rfl) ?_
                  clear E; clear a; intro a E
                  refine st_val E (wn rfl) rfl rfl (x_move E rfl rfl) ?_
                  clear E; clear a; intro a E
                  rcases Bool.eq_false_or_eq_true u52 with hb54 | hb54
                  · rw [if_t hb54] at hm
                    refine st_val E (ws' E rfl rfl rfl rfl hb54) rfl rfl (x_move E rfl rfl) ?_
                    clear E; clear a; intro a E
                    refine st_val E (ws' E rfl rfl rfl rfl hb54) rfl rfl (x_bin E rfl rfl rfl rfl) ?_
                    clear E; clear a; intro a E
                    refine st_val E (wn rfl) rfl rfl (x_pickT E rfl rfl hb54 rfl) ?_
                    clear E; clear a; intro a E
                    refine st_val E (wn rfl) rfl rfl (x_move E rfl rfl) ?_
                    clear E; clear a; intro a E
                    rcases Bool.eq_false_or_eq_true (u48.2 == 0) with hb55 | hb55
                    · rw [if_t hb55] at hm
                      refine st_val E (ws' E rfl rfl rfl rfl hb55) rfl rfl (x_move E rfl rfl) ?_
                      clear E; clear a; intro a E
                      replace H := H.thaw (i := 1) rfl
                      refine st_val E (ws' E rfl rfl rfl rfl hb55) rfl rfl (x_b2s E H rfl rfl (.head _) Try.underlying46 Try.underlying5 Try.underlying9) ?_
                      clear E; clear a; intro a E
                      refine st_val E (ws' E rfl rfl rfl rfl hb55) rfl rfl (x_move E rfl rfl) ?_
                      clear E; clear a; intro a E
                      refine st_val E (ws' E rfl rfl rfl rfl hb55) rfl rfl (x_b2s E H rfl rfl (.tail _ hr20) Try.underlying46 Try.underlying5 Try.underlying9) ?_
                      clear E; clear a; intro a E
                      refine st_val E (ws' E rfl rfl rfl rfl hb55) rfl rfl (x_str E rfl rfl rfl rfl) ?_
                      clear E; clear a; intro a E
                      refine st_val E (wn rfl) rfl rfl (x_pickT E rfl rfl hb55 rfl) ?_
                      clear E; clear a; intro a E
                      refine st_val E (wn rfl) rfl rfl (x_assign E rfl rfl) ?_
                      clear E; clear a; intro a E
                      refine wpList_nil ?_
                      refine q_then ?_
                      refine wp_ret ?_
                      refine out1 E rfl rfl ?_
                      replace H := H.drop 0
                      replace H := H.drop 0
                      replace H := H.drop 0
                      obtain rfl := Option.some.inj hm
                      exact ⟨rfl, H.reads (fun r hr => .tail _ (hs19 r hr))⟩
                    · rw [if_f hb55] at hm
                      refine st_no E (wf' E rfl rfl rfl rfl hb55 rfl) rfl rfl ?_
                      clear E; clear a; intro a E
                      refine st_no E (wf' E rfl rfl rfl rfl hb55 rfl) rfl rfl ?_
                      clear E; clear a; intro a E
                      refine st_no E (wf' E rfl rfl rfl rfl hb55 rfl) rfl rfl ?_
                      clear E; clear a; intro a E
                      refine st_no E (wf' E rfl rfl rfl rfl hb55 rfl) rfl rfl ?_
                      clear E; clear a; intro a E
                      refine st_no E (wf' E rfl rfl rfl rfl hb55 rfl) rfl rfl ?_
                      clear E; clear a; intro a E
                      refine st_val E (wn rfl) rfl rfl (x_pickF E rfl rfl hb55 rfl) ?_
                      clear E; clear a; intro a E
                      refine st_val E (wn rfl) rfl rfl (x_assign E rfl rfl) ?_
                      clear E; clear a; intro a E
                      refine wpList_nil ?_
                      refine q_then ?_
                      refine wp_ret ?_
                      refine out1 E rfl rfl ?_
                      replace H := H.drop 0
                      replace H := H.drop 0
                      replace H := H.drop 0
                      replace H := H.drop 0
                      obtain rfl := Option.some.inj hm
                      exact ⟨rfl, H.reads (fun r hr => hs19 r hr)⟩
                  · rw [if_f hb54] at hm
                    refine st_no E (wf' E rfl rfl rfl rfl hb54 rfl) rfl rfl ?_
                    clear E; clear a; intro a E
                    refine st_no E (wf' E rfl rfl rfl rfl hb54 rfl) rfl rfl ?_
                    clear E; clear a; intro a E
                    refine st_val E (wn rfl) rfl rfl (x_pickF E rfl rfl hb54 rfl) ?_
                    clear E; clear a; intro a E
                    refine st_val E (wn rfl) rfl rfl (x_move E rfl rfl) ?_
                    clear E; clear a; intro a E
                    refine st_no E (wf E rfl rfl rfl rfl rfl) rfl rfl ?_
                    clear E; clear a; intro a E
                    refine st_no E (wf E rfl rfl rfl rfl rfl) rfl rfl ?_
                    clear E; clear a; intro a E
                    refine st_no E (wf E rfl rfl rfl rfl rfl) rfl rfl ?_
                    clear E; clear a; intro a E
                    refine st_no E (wf E rfl rfl rfl rfl rfl) rfl rfl ?_
                    clear E; clear a; intro a E
                    refine st_no E (wf E rfl rfl rfl rfl rfl) rfl rfl ?_
                    clear E; clear a; intro a E
                    refine st_val E (wn rfl) rfl rfl (x_pickF E rfl rfl rfl rfl) ?_
                    clear E; clear a; intro a E
                    refine st_val E (wn rfl) rfl rfl (x_assign E rfl rfl) ?_
                    clear E; clear a; intro a E
                    refine wpList_nil ?_
                    refine q_then ?_
                    refine wp_ret ?_
                    refine out1 E rfl rfl ?_
                    replace H := H.drop 0
                    replace H := H.drop 0
                    replace H := H.drop 0
                    replace H := H.drop 0
                    obtain rfl := Option.some.inj hm
                    exact ⟨rfl, H.reads (fun r hr => hs19 r hr)⟩
                · rw [if_f hb51] at hm
                  refine st_no E (wf' E rfl rfl rfl rfl hb51 rfl) rfl rfl ?_
                  clear E; clear a; intro a E
                  refine st_no E (wf' E rfl rfl rfl rfl hb51 rfl) rfl rfl ?_
                  clear E; clear a; intro a E
                  refine st_val E (wn rfl) rfl rfl (x_pickF E rfl rfl hb51 rfl) ?_
                  clear E; clear a; intro a E
                  refine st_val E (wn rfl) rfl rfl (x_move E rfl rfl) ?_
                  clear E; clear a; intro a E
                  refine st_no E (wf E rfl rfl rfl rfl rfl) rfl rfl ?_
                  clear E; clear a; intro a E
                  refine st_no E (wf E rfl rfl rfl rfl rfl) rfl rfl ?_
                  clear E; clear a; intro a E
                  refine st_val E (wn rfl) rfl rfl (x_pickF E rfl rfl rfl rfl) ?_
                  clear E; clear a; intro a E
                  refine st_val E (wn rfl) rfl rfl (x_move E rfl rfl) ?_
                  clear E; clear a; intro a E
                  refine st_no E (wf E rfl rfl rfl rfl rfl) rfl rfl ?_
                  clear E; clear a; intro a E
                  refine st_no E (wf E rfl rfl rfl rfl rfl) rfl rfl ?_
                  clear E; clear a; intro a E
                  refine st_no E (wf E rfl rfl rfl rfl rfl) rfl rfl ?_
                  clear E; clear a; intro a E
                  refine st_no E (wf E rfl rfl rfl rfl rfl) rfl rfl ?_
                  clear E; clear a; intro a E
                  refine st_no E (wf E rfl rfl rfl rfl rfl) rfl rfl ?_
                  clear E; clear a; intro a E
                  refine st_val E (wn rfl) rfl rfl (x_pickF E rfl rfl rfl rfl) ?_
                  clear E; clear a; intro a E
                  refine st_val E (wn rfl) rfl rfl (x_assign E rfl rfl) ?_
                  clear E; clear a; intro a E
                  refine wpList_nil ?_
                  refine q_then ?_
                  refine wp_ret ?_
                  refine out1 E rfl rfl ?_
                  replace H := H.drop 0
                  replace H := H.drop 0
                  replace H := H.drop 0
                  replace H := H.drop 0
                  obtain rfl := Option.some.inj hm
                  exact ⟨rfl, H.reads (fun r hr => hs19 r hr)⟩
          · rw [if_f hb25] at hm
            refine st_no E (wf' E rfl rfl rfl rfl hb25 rfl) rfl rfl ?_
            clear E; clear a; intro a E
            refine st_no E (wf' E rfl rfl rfl rfl hb25 rfl) rfl rfl ?_
            clear E; clear a; intro a E
            refine st_no E (wf' E rfl rfl rfl rfl hb25 rfl) rfl rfl ?_
            clear E; clear a; intro a E
            refine st_val E (wn rfl) rfl rfl (x_pickF E rfl rfl hb25 rfl) ?_
            clear E; clear a; intro a E
            refine wpList_nil ?_
            refine q_then ?_
            refine wp_cond_false (E.eval rfl) ?_
            refine wp_exit ?_
            refine q_thenX ?_
            refine q_thenX ?_
            refine q_hit ?_
            refine q_then ?_
            refine wp_seq ?_
            refine wp_seq ?_
            refine wp_region_lit ?_
            refine st_val E (wn rfl) rfl rfl (x_move E rfl rfl) ?_
            clear E; clear a; intro a E
            replace H : Sep w (Blk p8 91 [v12, .int .i64 x14] :: Blk p10 51 [v15, .bool b17] :: Row 5 (kI .u8) v15 l16 :: Fo) (rs18) := H
            obtain ⟨u56, hx57, hm⟩ := bnd hm
            refine st_call E (wn rfl) rfl rfl (x_call E rfl rfl (cf31 _)) (c_pack_Reader_Err p8 v12 l13 x14 H hr21 hx57) ?_
            clear E H; clear a; clear w; rintro _ w ⟨rfl, H⟩ a E
            refine st_val E (wn rfl) rfl rfl (x_bin E rfl rfl rfl rfl) ?_
            clear E; clear a; intro a E
            refine wpList_nil ?_
            refine q_then ?_
            refine wp_if E rfl ?_ ?_
            · intro hb
              rw [if_t hb] at hm
              clear hb
              refine wp_seq ?_
              refine wp_region_lit ?_
              refine st_val E (wn rfl) rfl rfl (x_move E rfl rfl) ?_
              clear E; clear a; intro a E
              refine st_val E (wn rfl) rfl rfl (x_assign E rfl rfl) ?_
              clear E; clear a; intro a E
              refine wpList_nil ?_
              refine q_then ?_
              refine wp_ret ?_
              refine q_thenR ?_
              refine out1 E rfl rfl ?_
              replace H := H.drop 0
              replace H := H.drop 0
              replace H := H.drop 0
              obtain rfl := Option.some.inj hm
              exact ⟨rfl, H.reads (fun r hr => hs19 r hr)⟩
            · intro hb
              rw [if_f hb] at hm
              clear hb
              refine wp_skip ?_
              refine q_then ?_
              refine wp_seq ?_
              refine wp_region_lit ?_
              refine st_val E (wn rfl) rfl rfl (x_move E rfl rfl) ?_
              clear E; clear a; intro a E
              replace H := H.front 0 rfl
              replace H := H.front 2 rfl
              replace H := H.front 2 rfl
              replace H : Sep w (Blk p10 51 [v15, .bool b17] :: Row 5 (kI .u8) v15 l16 :: Blk p8 91 [v12, .int .i64 x14] :: Fo) (rs18) := H
              obtain ⟨u58, hx59, hm⟩ := bnd hm
              refine st_call E (wn rfl) rfl rfl (x_call E rfl rfl (cf34 _)) (c_pack_Writer_Bytes p10 v15 l16 b17 H hx59) ?_
              clear E H; clear a; clear w; rintro _ w ⟨v60, rfl, H⟩ a E
              refine st_val E (wn rfl) rfl rfl (x_move E rfl rfl) ?_
              clear E; clear a; intro a E
              refine st_val E (wn rfl) rfl rfl (x_ext E rfl rfl rfl) ?_
              clear E; clear a; intro a E
              refine st_val E (wn rfl) rfl rfl (x_ext E rfl rfl rfl) ?_
              clear E; clear a; intro a E
              refine st_val E (wn rfl) rfl rfl (x_assign E rfl rfl) ?_
              clear E; clear a; intro a E
              refine st_val E (wn rfl) rfl rfl (x_assign E rfl rfl) ?_
              clear E; clear a; intro a E
              refine wpList_nil ?_
              refine q_then ?_
              refine wp_seq ?_
              refine wp_region_lit ?_
              refine st_val E (wn rfl) rfl rfl (x_move E rfl rfl) ?_
              clear E; clear a; intro a E
              refine st_val E (wn rfl) rfl rfl (x_move E rfl rfl) ?_
              clear E; clear a; intro a E
              rcases Bool.eq_false_or_eq_true u4 with hb61 | hb61
              · rw [if_t hb61] at hm
                refine st_val E (ws' E rfl rfl rfl rfl hb61) rfl rfl (x_move E rfl rfl) ?_
                clear E; clear a; intro a E
                replace H := H.front 2 rfl
                replace H := H.front 2 rfl
                replace H := H.front 2 rfl
                replace H := H.front 3 rfl
                replace H : Sep w (Blk p8 91 [v12, .int .i64 x14] :: Row 5 (kI .u8) v60 u58.1 :: Blk p10 51 [v15, .bool b17] :: Row 5 (kI .u8) v15 l16 :: Fo) (rs18) := H
                obtain ⟨u62, hx63, hm⟩ := bnd hm
                refine st_call E (ws' E rfl rfl rfl rfl hb61) rfl rfl (x_call E rfl rfl (cf30 _)) (c_pack_Reader_End p8 v12 l13 x14 H hr21 hx63) ?_
                clear E H; clear a; clear w; rintro _ w ⟨rfl, H⟩ a E
                refine st_val E (wn rfl) rfl rfl (x_pickT E rfl rfl hb61 rfl) ?_
                clear E; clear a; intro a E
                refine st_val E (wn rfl) rfl rfl (x_move E rfl rfl) ?_
                clear E; clear a; intro a E
                rcases Bool.eq_false_or_eq_true u62 with hb64 | hb64
                · rw [if_t hb64] at hm
                  refine st_val E (ws' E rfl rfl rfl rfl hb64) rfl rfl (x_move E rfl rfl) ?_
                  clear E; clear a; intro a E
                  refine st_val E (ws' E rfl rfl rfl rfl hb64) rfl rfl (x_bin E rfl rfl rfl rfl) ?_
                  clear E; clear a; intro a E
                  refine st_val E (wn rfl) rfl rfl (x_pickT E rfl rfl hb64 rfl) ?_
                  clear E; clear a; intro a E
                  refine st_val E (wn rfl) rfl rfl (x_move E rfl rfl) ?_
                  clear E; clear a; intro a E
                  rcases Bool.eq_false_or_eq_true (u58.2 == 0) with hb65 | hb65
                  · rw [if_t hb65] at hm
                    refine st_val E (ws' E rfl rfl rfl rfl hb65) rfl rfl (x_move E rfl rfl) ?_
                    clear E; clear a; intro a E
                    replace H := H.thaw (i := 1) rfl
                    refine st_val E (ws' E rfl rfl rfl rfl hb65) rfl rfl (x_b2s E H rfl rfl (.head _) Try.underlying46 Try.underlying5 Try.underlying9) ?_
                    clear E; clear a; intro a E
                    refine st_val E (ws' E rfl rfl rfl rfl hb65) rfl rfl (x_move E rfl rfl) ?_
                    clear E; clear a; intro a E
                    refine st_val E (ws' E rfl rfl rfl rfl hb65) rfl rfl (x_b2s E H rfl rfl (.tail _ hr20) Try.underlying46 Try.underlying5 Try.underlying9) ?_
                    clear E; clear a; intro a E
                    refine st_val E (ws' E rfl rfl rfl rfl hb65) rfl rfl (x_str E rfl rfl rfl rfl) ?_
                    clear E; clear a; intro a E
                    refine st_val E (wn rfl) rfl rfl (x_pickT E rfl rfl hb65 rfl) ?_
                    clear E; clear a; intro a E
                    refine st_val E (wn rfl) rfl rfl (x_assign E rfl rfl) ?_
                    clear E; clear a; intro a E
                    refine wpList_nil ?_
                    refine q_then ?_
                    refine wp_ret ?_
                    refine out1 E rfl rfl ?_
                    replace H := H.drop 0
                    replace H := H.drop 0
                    replace H := H.drop 0
                    obtain rfl := Option.some.inj hm
                    exact ⟨rfl, H.reads (fun r hr => .tail _ (hs19 r hr))⟩
                  · rw [if_f hb65] at hm
                    refine st_no E (wf' E rfl rfl rfl rfl hb65 rfl) rfl rfl ?_
                    clear E; clear a; intro a E
                    refine st_no E (wf' E rfl rfl rfl rfl hb65 rfl) rfl rfl ?_
                    clear E; clear a; intro a E
                    refine st_no E (wf' E rfl rfl rfl rfl hb65 rfl) rfl rfl ?_
                    clear E; clear a; intro a E
                    refine st_no E (wf' E rfl rfl rfl rfl hb65 rfl) rfl rfl ?_
                    clear E; clear a; intro a E
                    refine st_no E (wf' E rfl rfl rfl rfl hb65 rfl) rfl rfl ?_
                    clear E; clear a; intro a E
                    refine st_val E (wn rfl) rfl rfl (x_pickF E rfl rfl hb65 rfl) ?_
                    clear E; clear a; intro a E
                    refine st_val E (wn rfl) rfl rfl (x_assign E rfl rfl) ?_
                    clear E; clear a; intro a E
                    refine wpList_nil ?_
                    refine q_then ?_
                    refine wp_ret ?_
                    refine out1 E rfl rfl ?_
                    replace H := H.drop 0
                    replace H := H.drop 0
                    replace H := H.drop 0
                    replace H := H.drop 0
                    obtain rfl := Option.some.inj hm
                    exact ⟨rfl, H.reads (fun r hr => hs19 r hr)⟩
                · rw [if_f hb64] at hm
                  refine st_no E (wf' E rfl rfl rfl rfl hb64 rfl) rfl rfl ?_
                  clear E; clear a; intro a E
                  refine st_no E (wf' E rfl rfl rfl rfl hb64 rfl) rfl rfl ?_
                  clear E; clear a; intro a E
                  refine st_val E (wn rfl) rfl rfl (x_pickF E rfl rfl hb64 rfl) ?_
                  clear E; clear a; intro a E
                  refine st_val E (wn rfl) rfl rfl (x_move E rfl rfl) ?_
                  clear E; clear a; intro a E
                  refine st_no E (wf E rfl rfl rfl rfl rfl) rfl rfl ?_
                  clear E; clear a; intro a E
                  refine st_no E (wf E rfl rfl rfl rfl rfl) rfl rfl ?_
                  clear E; clear a; intro a E
                  refine st_no E (wf E rfl rfl rfl rfl rfl) rfl rfl ?_
                  clear E; clear a; intro a E
                  refine st_no E (wf E rfl rfl rfl rfl rfl) rfl rfl ?_
                  clear E; clear a; intro a E
                  refine st_no E (wf E rfl rfl rfl rfl rfl) rfl rfl ?_
                  clear E; clear a; intro a E
                  refine st_val E (wn rfl) rfl rfl (x_pickF E rfl rfl rfl rfl) ?_
                  clear E; clear a; intro a E
                  refine st_val E (wn rfl) rfl rfl (x_assign E rfl rfl) ?_
                  clear E; clear a; intro a E
                  refine wpList_nil ?_
                  refine q_then ?_
                  refine wp_ret ?_
                  refine out1 E rfl rfl ?_
                  replace H := H.drop 0
                  replace H := H.drop 0
                  replace H := H.drop 0
                  replace H := H.drop 0
                  obtain rfl := Option.some.inj hm
                  exact ⟨rfl, H.reads (fun r hr => hs19 r hr)⟩
              · rw [if_f hb61] at hm
                refine st_no E (wf' E rfl rfl rfl rfl hb61 rfl) rfl rfl ?_
                clear E; clear a; intro a E
                refine st_no E (wf' E rfl rfl rfl rfl hb61 rfl) rfl rfl ?_
                clear E; clear a; intro a E
                refine st_val E (wn rfl) rfl rfl (x_pickF E rfl rfl hb61 rfl) ?_
                clear E; clear a; intro a E
                refine st_val E (wn rfl) rfl rfl (x_move E rfl rfl) ?_
                clear E; clear a; intro a E
                refine st_no E (wf E rfl rfl rfl rfl rfl) rfl rfl ?_
                clear E; clear a; intro a E
                refine st_no E (wf E rfl rfl rfl rfl rfl) rfl rfl ?_
                clear E; clear a; intro a E
                refine st_val E (wn rfl) rfl rfl (x_pickF E rfl rfl rfl rfl) ?_
                clear E; clear a; intro a E
                refine st_val E (wn rfl) rfl rfl (x_move E rfl rfl) ?_
                clear E; clear a; intro a E
                refine st_no E (wf E rfl rfl rfl rfl rfl) rfl rfl ?_
                clear E; clear a; intro a E
                refine st_no E (wf E rfl rfl rfl rfl rfl) rfl rfl ?_
                clear E; clear a; intro a E
                refine st_no E (wf E rfl rfl rfl rfl rfl) rfl rfl ?_
                clear E; clear a; intro a E
                refine st_no E (wf E rfl rfl rfl rfl rfl) rfl rfl ?_
                clear E; clear a; intro a E
                refine st_no E (wf E rfl rfl rfl rfl rfl) rfl rfl ?_
                clear E; clear a; intro a E
                refine st_val E (wn rfl) rfl rfl (x_pickF E rfl rfl rfl rfl) ?_
                clear E; clear a; intro a E
                refine st_val E (wn rfl) rfl rfl (x_assign E rfl rfl) ?_
                clear E; clear a; intro a E
                refine wpList_nil ?_
                refine q_then ?_
                refine wp_ret ?_
                refine out1 E rfl rfl ?_
                replace H := H.drop 0
                replace H := H.drop 0
                replace H := H.drop 0
                replace H := H.drop 0
                obtain rfl := Option.some.inj hm
                exact ⟨rfl, H.reads (fun r hr => hs19 r hr)⟩
        · rw [if_f hb22] at hm
          refine st_no E (wf' E rfl rfl rfl rfl hb22 rfl) rfl rfl ?_
          clear E; clear a; intro a E
          refine st_no E (wf' E rfl rfl rfl rfl hb22 rfl) rfl rfl ?_
          clear E; clear a; intro a E
          refine st_no E (wf' E rfl rfl rfl rfl hb22 rfl) rfl rfl ?_
          clear E; clear a; intro a E
          refine st_val E (wn rfl) rfl rfl (x_pickF E rfl rfl hb22 rfl) ?_
          clear E; clear a; intro a E
          refine st_val E (wn rfl) rfl rfl (x_move E rfl rfl) ?_
          clear E; clear a; intro a E
          refine st_no E (wf E rfl rfl rfl rfl rfl) rfl rfl ?_
          clear E; clear a; intro a E
          refine st_no E (wf E rfl rfl rfl rfl rfl) rfl rfl ?_
          clear E; clear a; intro a E
          refine st_no E (wf E rfl rfl rfl rfl rfl) rfl rfl ?_
          clear E; clear a; intro a E
          refine st_val E (wn rfl) rfl rfl (x_pickF E rfl rfl rfl rfl) ?_
          clear E; clear a; intro a E
          refine wpList_nil ?_
          refine q_then ?_
          refine wp_cond_false (E.eval rfl) ?_
          refine wp_exit ?_
          refine q_thenX ?_
          refine q_thenX ?_
          refine q_hit ?_
          refine q_then ?_
          refine wp_seq ?_
          refine wp_seq ?_
          refine wp_region_lit ?_
          refine st_val E (wn rfl) rfl rfl (x_move E rfl rfl) ?_
          clear E; clear a; intro a E
          replace H : Sep w (Blk p8 91 [v12, .int .i64 x14] :: Blk p10 51 [v15, .bool b17] :: Row 5 (kI .u8) v15 l16 :: Fo) (rs18) := H
          obtain ⟨u66, hx67, hm⟩ := bnd hm
          refine st_call E (wn rfl) rfl rfl (x_call E rfl rfl (cf31 _)) (c_pack_Reader_Err p8 v12 l13 x14 H hr21 hx67) ?_
          clear E H; clear a; clear w; rintro _ w ⟨rfl, H⟩ a E
          refine st_val E (wn rfl) rfl rfl (x_bin E rfl rfl rfl rfl) ?_
          clear E; clear a; intro a E
          refine wpList_nil ?_
          refine q_then ?_
          refine wp_if E rfl ?_ ?_
          · intro hb
            rw [if_t hb] at hm
            clear hb
            refine wp_seq ?_
            refine wp_region_lit ?_
            refine st_val E (wn rfl) rfl rfl (x_move E rfl rfl) ?_
            clear E; clear a; intro a E
            refine st_val E (wn rfl) rfl rfl (x_assign E rfl rfl) ?_
            clear E; clear a; intro a E
            refine wpList_nil ?_
            refine q_then ?_
            refine wp_ret ?_
            refine q_thenR ?_
            refine out1 E rfl rfl ?_
            replace H := H.drop 0
            replace H := H.drop 0
            replace H := H.drop 0
            obtain rfl := Option.some.inj hm
            exact ⟨rfl, H.reads (fun r hr => hs19 r hr)⟩
          · intro hb
            rw [if_f hb] at hm
            clear hb
            refine wp_skip ?_
            refine q_then ?_
            refine wp_seq ?_
            refine wp_region_lit ?_
            refine st_val E (wn rfl) rfl rfl (x_move E rfl rfl) ?_
            clear E; clear a; intro a E
            replace H := H.front 0 rfl
            replace H := H.front 2 rfl
            replace H := H.front 2 rfl
            replace H : Sep w (Blk p10 51 [v15, .bool b17] :: Row 5 (kI .u8) v15 l16 :: Blk p8 91 [v12, .int .i64 x14] :: Fo) (rs18) := H
            obtain ⟨u68, hx69, hm⟩ := bnd hm
            refine st_call E (wn rfl) rfl rfl (x_call E rfl rfl (cf34 _)) (c_pack_Writer_Bytes p10 v15 l16 b17 H hx69) ?_
            clear E H; clear a; clear w; rintro _ w ⟨v70, rfl, H⟩ a E
            refine st_val E (wn rfl) rfl rfl (x_move E rfl rfl) ?_
            clear E; clear a; intro a E
            refine st_val E (wn rfl) rfl rfl (x_ext E rfl rfl rfl) ?_
            clear E; clear a; intro a E
            refine st_val E (wn rfl) rfl rfl (x_ext E rfl rfl rfl) ?_
            clear E; clear a; intro a E
            refine st_val E (wn rfl) rfl rfl (x_assign E rfl rfl) ?_
            clear E; clear a; intro a E
            refine st_val E (wn rfl) rfl rfl (x_assign E rfl rfl) ?_
            clear E; clear a; intro a E
            refine wpList_nil ?_
            refine q_then ?_
            refine wp_seq ?_
            refine wp_region_lit ?_
            refine st_val E (wn rfl) rfl rfl (x_move E rfl rfl) ?_
            clear E; clear a; intro a E
            refine st_val E (wn rfl) rfl rfl (x_move E rfl rfl) ?_
            clear E; clear a; intro a E
            rcases Bool.eq_false_or_eq_true u4 with hb71 | hb71
            · rw [if_t hb71] at hm
              refine st_val E (ws' E rfl rfl rfl rfl hb71) rfl rfl (x_move E rfl rfl) ?_
              clear E; clear a; intro a E
              replace H := H.front 2 rfl
              replace H := H.front 2 rfl
              replace H := H.front 2 rfl
              replace H := H.front 3 rfl
              replace H : Sep w (Blk p8 91 [v12, .int .i64 x14] :: Row 5 (kI .u8) v70 u68.1 :: Blk p10 51 [v15, .bool b17] :: Row 5 (kI .u8) v15 l16 :: Fo) (rs18) := H
              obtain ⟨u72, hx73, hm⟩ := bnd hm
              refine st_call E (ws' E rfl rfl rfl rfl hb71) rfl rfl (x_call E rfl rfl (cf30 _)) (c_pack_Reader_End p8 v12 l13 x14 H hr21 hx73) ?_
              clear E H; clear a; clear w; rintro _ w ⟨rfl, H⟩ a E
              refine st_val E (wn rfl) rfl rfl (x_pickT E rfl rfl hb71 rfl) ?_
              clear E; clear a; intro a E
              refine st_val E (wn rfl) rfl rfl (x_move E rfl rfl) ?_
              clear E; clear a; intro a E
              rcases Bool.eq_false_or_eq_true u72 with hb74 | hb74
              · rw [if_t hb74] at hm
                refine st_val E (ws' E rfl rfl rfl rfl hb74) rfl rfl (x_move E rfl rfl) ?_
                clear E; clear a; intro a E
                refine st_val E (ws' E rfl rfl rfl rfl hb74) rfl rfl (x_bin E rfl rfl rfl rfl) ?_
                clear E; clear a; intro a E
                refine st_val E (wn rfl) rfl rfl (x_pickT E rfl rfl hb74 rfl) ?_
                clear E; clear a; intro a E
                refine st_val E (wn rfl) rfl rfl (x_move E rfl rfl) ?_
                clear E; clear a; intro a E
                rcases Bool.eq_false_or_eq_true (u68.2 == 0) with hb75 | hb75
                · rw [if_t hb75] at hm
                  refine st_val E (ws' E rfl rfl rfl rfl hb75) rfl rfl (x_move E rfl rfl) ?_
                  clear E; clear a; intro a E
                  replace H := H.thaw (i := 1) rfl
                  refine st_val E (ws' E rfl rfl rfl rfl hb75) rfl rfl (x_b2s E H rfl rfl (.head _) Try.underlying46 Try.underlying5 Try.underlying9) ?_
                  clear E; clear a; intro a E
                  refine st_val E (ws' E rfl rfl rfl rfl hb75) rfl rfl (x_move E rfl rfl) ?_
                  clear E; clear a; intro a E
                  refine st_val E (ws' E rfl rfl rfl rfl hb75) rfl rfl (x_b2s E H rfl rfl (.tail _ hr20) Try.underlying46 Try.underlying5 Try.underlying9) ?_
                  clear E; clear a; intro a E
                  refine st_val E (ws' E rfl rfl rfl rfl hb75) rfl rfl (x_str E rfl rfl rfl rfl) ?_
                  clear E; clear a; intro a E
                  refine st_val E (wn rfl) rfl rfl (x_pickT E rfl rfl hb75 rfl) ?_
                  clear E; clear a; intro a E
                  refine st_val E (wn rfl) rfl rfl (x_assign E rfl rfl) ?_
                  clear E; clear a; intro a E
                  refine wpList_nil ?_
                  refine q_then ?_
                  refine wp_ret ?_
                  refine out1 E rfl rfl ?_
                  replace H := H.drop 0
                  replace H := H.drop 0
                  replace H := H.drop 0
                  obtain rfl := Option.some.inj hm
                  exact ⟨rfl, H.reads (fun r hr => .tail _ (hs19 r hr))⟩
                · rw [if_f hb75] at hm
                  refine st_no E (wf' E rfl rfl rfl rfl hb75 rfl) rfl rfl ?_
                  clear E; clear a; intro a E
                  refine st_no E (wf' E rfl rfl rfl rfl hb75 rfl) rfl rfl ?_
                  clear E; clear a; intro a E
                  refine st_no E (wf' E rfl rfl rfl rfl hb75 rfl) rfl rfl ?_
                  clear E; clear a; intro a E
                  refine st_no E (wf' E rfl rfl rfl rfl hb75 rfl) rfl rfl ?_
                  clear E; clear a; intro a E
                  refine st_no E (wf' E rfl rfl rfl rfl hb75 rfl) rfl rfl ?_
                  clear E; clear a; intro a E
                  refine st_val E (wn rfl) rfl rfl (x_pickF E rfl rfl hb75 rfl) ?_
                  clear E; clear a; intro a E
                  refine st_val E (wn rfl) rfl rfl (x_assign E rfl rfl) ?_
                  clear E; clear a; intro a E
                  refine wpList_nil ?_
                  refine q_then ?_
                  refine wp_ret ?_
                  refine out1 E rfl rfl ?_
                  replace H := H.drop 0
                  replace H := H.drop 0
                  replace H := H.drop 0
                  replace H := H.drop 0
                  obtain rfl := Option.some.inj hm
                  exact ⟨rfl, H.reads (fun r hr => hs19 r hr)⟩
              · rw [if_f hb74] at hm
                refine st_no E (wf' E rfl rfl rfl rfl hb74 rfl) rfl rfl ?_
                clear E; clear a; intro a E
                refine st_no E (wf' E rfl rfl rfl rfl hb74 rfl) rfl rfl ?_
                clear E; clear a; intro a E
                refine st_val E (wn rfl) rfl rfl (x_pickF E rfl rfl hb74 rfl) ?_
                clear E; clear a; intro a E
                refine st_val E (wn rfl) rfl rfl (x_move E rfl rfl) ?_
                clear E; clear a; intro a E
                refine st_no E (wf E rfl rfl rfl rfl rfl) rfl rfl ?_
                clear E; clear a; intro a E
                refine st_no E (wf E rfl rfl rfl rfl rfl) rfl rfl ?_
                clear E; clear a; intro a E
                refine st_no E (wf E rfl rfl rfl rfl rfl) rfl rfl ?_
                clear E; clear a; intro a E
                refine st_no E (wf E rfl rfl rfl rfl rfl) rfl rfl ?_
                clear E; clear a; intro a E
                refine st_no E (wf E rfl rfl rfl rfl rfl) rfl rfl ?_
                clear E; clear a; intro a E
                refine st_val E (wn rfl) rfl rfl (x_pickF E rfl rfl rfl rfl) ?_
                clear E; clear a; intro a E
                refine st_val E (wn rfl) rfl rfl (x_assign E rfl rfl) ?_
                clear E; clear a; intro a E
                refine wpList_nil ?_
                refine q_then ?_
                refine wp_ret ?_
                refine out1 E rfl rfl ?_
                replace H := H.drop 0
                replace H := H.drop 0
                replace H := H.drop 0
                replace H := H.drop 0
                obtain rfl := Option.some.inj hm
                exact ⟨rfl, H.reads (fun r hr => hs19 r hr)⟩
            · rw [if_f hb71] at hm
              refine st_no E (wf' E rfl rfl rfl rfl hb71 rfl) rfl rfl ?_
              clear E; clear a; intro a E
              refine st_no E (wf' E rfl rfl rfl rfl hb71 rfl) rfl rfl ?_
              clear E; clear a; intro a E
              refine st_val E (wn rfl) rfl rfl (x_pickF E rfl rfl hb71 rfl) ?_
              clear E; clear a; intro a E
              refine st_val E (wn rfl) rfl rfl (x_move E rfl rfl) ?_
              clear E; clear a; intro a E
              refine st_no E (wf E rfl rfl rfl rfl rfl) rfl rfl ?_
              clear E; clear a; intro a E
              refine st_no E (wf E rfl rfl rfl rfl rfl) rfl rfl ?_
              clear E; clear a; intro a E
              refine st_val E (wn rfl) rfl rfl (x_pickF E rfl rfl rfl rfl) ?_
              clear E; clear a; intro a E
              refine st_val E (wn rfl) rfl rfl (x_move E rfl rfl) ?_
              clear E; clear a; intro a E
              refine st_no E (wf E rfl rfl rfl rfl rfl) rfl rfl ?_
              clear E; clear a; intro a E
              refine st_no E (wf E rfl rfl rfl rfl rfl) rfl rfl ?_
              clear E; clear a; intro a E
              refine st_no E (wf E rfl rfl rfl rfl rfl) rfl rfl ?_
              clear E; clear a; intro a E
              refine st_no E (wf E rfl rfl rfl rfl rfl) rfl rfl ?_
              clear E; clear a; intro a E
              refine st_no E (wf E rfl rfl rfl rfl rfl) rfl rfl ?_
              clear E; clear a; intro a E
              refine st_val E (wn rfl) rfl rfl (x_pickF E rfl rfl rfl rfl) ?_
              clear E; clear a; intro a E
              refine st_val E (wn rfl) rfl rfl (x_assign E rfl rfl) ?_
              clear E; clear a; intro a E
              refine wpList_nil ?_
              refine q_then ?_
              refine wp_ret ?_
              refine out1 E rfl rfl ?_
              replace H := H.drop 0
              replace H := H.drop 0
              replace H := H.drop 0
              replace H := H.drop 0
              obtain rfl := Option.some.inj hm
              exact ⟨rfl, H.reads (fun r hr => hs19 r hr)⟩
end Go.Cb
