/- A function of the program, walked: it comes to its plain function. -/
import Derived.Test.YtbjpjbopfhbkmaaT
import Derived.Test.YtbjpjbopfhbkmaaFcantonlaw02Great
import Derived.Test.YtbjpjbopfhbkmaaFcantonlaw02head
import Derived.Test.YtbjpjbopfhbkmaaFcantonref02WriterBytes
import Derived.Test.YtbjpjbopfhbkmaaFcantonref02WriterNum
import Derived.Test.YtbjpjbopfhbkmaaFcantonref02WriterText
import Derived.Test.YtbjpjbopfhbkmaaFcantonref02WriterTexts
import Derived.Test.YtbjpjbopfhbkmaaFpackWriterBytes
import Derived.Test.YtbjpjbopfhbkmaaFpackWriterNum
import Derived.Test.YtbjpjbopfhbkmaaFpackWriterText
import Derived.Test.YtbjpjbopfhbkmaaFpackWriterTexts
set_option linter.unusedVariables false
set_option linter.unusedSimpArgs false
namespace Go.Cb
open Go.Proofs Go.RowKit
def m_cantonlaw02_PackWrites_j1 (rec_1 : Int → (List Int) → Bool → (List Int) → Bool → Option Bool) (x10 : Int) (l21 : (List Int)) (b22 : Bool) (l24 : (List Int)) (b25 : Bool) : Option Bool :=
  rec_1 (IntKind.i64.wrap (x10 + 1)) l21 b22 l24 b25
def m_cantonlaw02_PackWrites_l1 (l2 : List S_cantonlaw02_Item) (u4 : Bool) : Nat → Int → (List Int) → Bool → (List Int) → Bool → Option Bool
  | 0, _, _, _, _, _ => none
  | k1 + 1, x10, l12, b13, l15, b16 =>
    if (decide (x10 < (l2.length : Int))) = true then ((idx l2 x10).bind fun x29 => if (x29.What == 0) = true then ((idx l2 x10).bind fun x32 => (m_pack_Writer_Num l12 b13 x32.N).bind fun u35 => (idx l2 x10).bind fun x38 => (m_cantonref02_Writer_Num l15 b16 x38.N).bind fun u41 => m_cantonlaw02_PackWrites_j1 (m_cantonlaw02_PackWrites_l1 l2 u4 k1) x10 u35.1 u35.2 u41.1 u41.2) else (if (x29.What == 1) = true then ((idx l2 x10).bind fun x44 => (m_pack_Writer_Text l12 b13 x44.S).bind fun u47 => (idx l2 x10).bind fun x50 => (m_cantonref02_Writer_Text l15 b16 x50.S).bind fun u53 => m_cantonlaw02_PackWrites_j1 (m_cantonlaw02_PackWrites_l1 l2 u4 k1) x10 u47.1 u47.2 u53.1 u53.2) else (if (x29.What == 2) = true then ((idx l2 x10).bind fun x56 => (m_pack_Writer_Texts l12 b13 x56.L).bind fun u60 => (idx l2 x10).bind fun x63 => (m_cantonref02_Writer_Texts l15 b16 x63.L).bind fun u67 => m_cantonlaw02_PackWrites_j1 (m_cantonlaw02_PackWrites_l1 l2 u4 k1) x10 u60.1 u60.2 u67.1 u67.2) else (m_cantonlaw02_PackWrites_j1 (m_cantonlaw02_PackWrites_l1 l2 u4 k1) x10 l12 b13 l15 b16)))) else ((m_pack_Writer_Bytes l12 b13).bind fun u70 => (m_cantonref02_Writer_Bytes l15 b16).bind fun u73 => if u4 = true then (if (sEq (strOf u70.1) (strOf u73.1)) = true then (some (u70.2 == u73.2)) else (some (false))) else (some (false)))
def m_cantonlaw02_PackWrites (l2 : List S_cantonlaw02_Item) : Option Bool :=
  m_cantonlaw02_head.bind fun u4 => (m_cantonlaw02_Great l2).bind fun u6 => if u6 = true then (some (u4)) else (m_cantonlaw02_PackWrites_l1 l2 u4 (((l2.length : Int) - 0 : Int).toNat + 1) 0 [] false [] false)
set_option maxRecDepth 20000 in
set_option maxHeartbeats 1000000 in
theorem c_cantonlaw02_PackWrites {w : World} {Fo : List Ob} {rs : List Rp} (v1 : Value) (l2 : List S_cantonlaw02_Item) (H : Sep w (Fo) rs) (hr3 : rSl k_cantonlaw02_Item v1 l2 ∈ rs) {r : Bool} (hm : m_cantonlaw02_PackWrites l2 = some r) :
    Calls Try.prog 10 [v1].toArray w (Ret fun v w' => .bool r = v ∧ Sep w' (Fo) (rs)) := by
  unfold m_cantonlaw02_PackWrites at hm
  refine enter Try.func10 rfl Try.ntmps10 rfl fun a E => ?_
  simp only [enum, Nat.reduceAdd] at E
  refine wp_seq ?_
  refine wp_region_lit ?_
  refine st_val E (wn rfl) rfl rfl (x_assign E rfl rfl) ?_
  clear E; clear a; intro a E
  refine wpList_nil ?_
  refine q_then ?_
  refine wp_seq ?_
  refine wp_region_lit ?_
  replace H : Sep w (Fo) (rs) := H
  obtain ⟨u4, hx5, hm⟩ := bnd hm
  refine st_call E (wn rfl) rfl rfl (x_call E rfl rfl (cf28 _)) (c_cantonlaw02_head H hx5) ?_
  clear E H; clear a; clear w; rintro _ w ⟨rfl, H⟩ a E
  refine st_val E (wn rfl) rfl rfl (x_assign E rfl rfl) ?_
  clear E; clear a; intro a E
  refine wpList_nil ?_
  refine q_then ?_
  refine wp_seq ?_
  refine wp_seq ?_
  refine wp_region_lit ?_
  refine st_val E (wn rfl) rfl rfl (x_move E rfl rfl) ?_
  clear E; clear a; intro a E
  replace H : Sep w (Fo) (rs) := H
  obtain ⟨u6, hx7, hm⟩ := bnd hm
  refine st_call E (wn rfl) rfl rfl (x_call E rfl rfl (cf37 _)) (c_cantonlaw02_Great v1 l2 H hr3 hx7) ?_
  clear E H; clear a; clear w; rintro _ w ⟨rfl, H⟩ a E
  refine wpList_nil ?_
  refine q_then ?_
  refine wp_if E rfl ?_ ?_
  · intro hb
    rw [if_t hb] at hm
    clear hb
    refine wp_seq ?_
    refine wp_region_lit ?_
    refine st_val E (wn rfl) rfl rfl (x_move E rfl rfl) ?_
    clear E; clear a; intro a E
    refine st_val E (wn rfl) rfl rfl (x_assign E rfl rfl) ?_
    clear E; clear a; intro a E
    refine wpList_nil ?_
    refine q_then ?_
    refine wp_ret ?_
    refine q_thenR ?_
    refine out1 E rfl rfl ?_
    obtain rfl := Option.some.inj hm
    exact ⟨rfl, H.reads (fun r hr => hr)⟩
  · intro hb
    rw [if_f hb] at hm
    clear hb
    refine wp_skip ?_
    refine q_then ?_
    refine wp_seq ?_
    refine wp_region_lit ?_
    refine st_val E (wn rfl) rfl rfl (x_build E (ps := []) (vs := []) rfl rfl (v := .agg #[.slice none 0 0, .bool false]) (by kernel_rfl)) ?_
    clear E; clear a; intro a E
    refine st_box E H (wn rfl) rfl rfl (cs := [.slice none 0 0, .bool false]) rfl rfl rfl ?_
    clear E H; clear a; clear w; intro p8 w a H E
    refine st_val E (wn rfl) rfl rfl (x_assign E rfl rfl) ?_
    clear E; clear a; intro a E
    refine wpList_nil ?_
    refine q_then ?_
    refine wp_seq ?_
    refine wp_region_lit ?_
    refine st_val E (wn rfl) rfl rfl (x_build E (ps := []) (vs := []) rfl rfl (v := .agg #[.slice none 0 0, .bool false]) (by kernel_rfl)) ?_
    clear E; clear a; intro a E
    refine st_box E H (wn rfl) rfl rfl (cs := [.slice none 0 0, .bool false]) rfl rfl rfl ?_
    clear E H; clear a; clear w; intro p9 w a H E
    refine st_val E (wn rfl) rfl rfl (x_assign E rfl rfl) ?_
    clear E; clear a; intro a E
    refine wpList_nil ?_
    refine q_then ?_
    refine wp_seq ?_
    refine wp_seq ?_
    refine wp_region_lit ?_
    refine st_val E (wn rfl) rfl rfl (x_assign E rfl rfl) ?_
    clear E; clear a; intro a E
    refine wpList_nil ?_
    refine q_then ?_
    refine wp_block ?_
    refine wp_loop_g (fun k1 a w => ∃ (v11 : Value) (v14 : Value) (x10 : Int) (l12 : (List Int)) (b13 : Bool) (l15 : (List Int)) (b16 : Bool) (rs17 : List Rp), Env 101 a [(0, v1), (3, .bool u4), (4, .pointer (some ⟨p8, 0, none⟩)), (5, .pointer (some ⟨p9, 0, none⟩)), (6, .int .i64 x10)] ∧ Sep w (Blk p8 51 [v11, .bool b13] :: Blk p9 67 [v14, .bool b16] :: Row 5 (kI .u8) v11 l12 :: Row 5 (kI .u8) v14 l15 :: Fo) rs17 ∧ (∀ r, r ∈ rs → r ∈ rs17) ∧ rSl k_cantonlaw02_Item v1 l2 ∈ rs17 ∧ m_cantonlaw02_PackWrites_l1 l2 u4 k1 x10 l12 b13 l15 b16 = some r) (((l2.length : Int) - 0 : Int).toNat + 1) ?_ ?_
    · replace H := H.nilRow 5 (kI .u8)
      replace H := H.nilRow 5 (kI .u8)
      replace H := H.front 0 rfl
      replace H := H.front 1 rfl
      replace H := H.front 2 rfl
      replace H := H.front 3 rfl
      exact ⟨(.slice none 0 0), (.slice none 0 0), 0, [], false, [], false, _, (((((E.nil.keep E 6 rfl).keep E 5 rfl).keep E 4 rfl).keep E 3 rfl).keep E 0 rfl), H, fun r hr => hr, hr3, hm⟩
    · clear E H hm
      rintro k1 a w ⟨v11, v14, x10, l12, b13, l15, b16, rs17, E, H, hs18, hr19, hm⟩
      cases k1 with
      | zero => exact (none_some hm rfl).elim
      | succ k1 =>
        unfold m_cantonlaw02_PackWrites_l1 at hm
        refine wp_seq ?_
        refine wp_seq ?_
        refine wp_region_lit ?_
        refine st_val E (wn rfl) rfl rfl (x_move E rfl rfl) ?_
        clear E; clear a; intro a E
        refine st_val E (wn rfl) rfl rfl (x_move E rfl rfl) ?_
        clear E; clear a; intro a E
        refine st_val E (wn rfl) rfl rfl (x_lenS E H rfl rfl hr19 Try.underlying63) ?_
        clear E; clear a; intro a E
        refine st_val E (wn rfl) rfl rfl (x_bin E rfl rfl rfl rfl) ?_
        clear E; clear a; intro a E
        refine wpList_nil ?_
        refine q_then ?_
        refine wp_if E rfl ?_ ?_
        · intro hb
          rw [if_t hb] at hm
          clear hb
          refine wp_skip ?_
          refine q_then ?_
          refine wp_seq_cut (fun a w => ∃ (v20 : Value) (v23 : Value) (l21 : (List Int)) (b22 : Bool) (l24 : (List Int)) (b25 : Bool) (rs26 : List Rp), Env 101 a [(0, v1), (3, .bool u4), (4, .pointer (some ⟨p8, 0, none⟩)), (5, .pointer (some ⟨p9, 0, none⟩)), (6, .int .i64 x10)] ∧ Sep w (Blk p8 51 [v20, .bool b22] :: Blk p9 67 [v23, .bool b25] :: Row 5 (kI .u8) v20 l21 :: Row 5 (kI .u8) v23 l24 :: Fo) rs26 ∧ (∀ r, r ∈ rs → r ∈ rs26) ∧ rSl k_cantonlaw02_Item v1 l2 ∈ rs26 ∧ m_cantonlaw02_PackWrites_j1 (m_cantonlaw02_PackWrites_l1 l2 u4 k1) x10 l21 b22 l24 b25 = some r) ?_ ?_
          · refine wp_block ?_
            refine wp_seq ?_
            refine wp_region_lit ?_
            refine st_val E (wn rfl) rfl rfl (x_move E rfl rfl) ?_
            clear E; clear a; intro a E
            refine st_val E (wn rfl) rfl rfl (x_move E rfl rfl) ?_
            clear E; clear a; intro a E
            obtain ⟨x29, hx30, hm⟩ := bnd hm
            refine st_ixS E H (wn rfl) rfl rfl rfl rfl rfl hr19 Try.underlying63 sz70 hx30 ?_
            clear E H; clear a; intro q31 a H E
            replace H := H.derive1 (.head _) (rAt (kI .i64) (q31.add 0) x29.What) (fun ok h => k_cantonlaw02_Item_at0 h)
            refine st_val E (wn rfl) rfl rfl (x_fa E rfl rfl (fa70_0 _ _)) ?_
            clear E; clear a; intro a E
            refine st_val E (wn rfl) rfl rfl (x_ldA E H rfl rfl (.head _) Try.underlying3 rfl) ?_
            clear E; clear a; intro a E
            refine wpList_nil ?_
            refine q_then ?_
            refine wp_block ?_
            refine wp_seq ?_
            refine wp_region_lit ?_
            refine st_val E (wn rfl) rfl rfl (x_bin E rfl rfl rfl rfl) ?_
            clear E; clear a; intro a E
            refine st_val E (wn rfl) rfl rfl (x_assign E rfl rfl) ?_
            clear E; clear a; intro a E
            refine wpList_nil ?_
            refine q_then ?_
            refine wp_if E rfl ?_ ?_
            · intro hb
              rw [if_t hb] at hm
              clear hb
              refine wp_seq ?_
              refine wp_region_lit ?_
              refine st_val E (wn rfl) rfl rfl (x_move E rfl rfl) ?_
              clear E; clear a; intro a E
              refine st_val E (wn rfl) rfl rfl (x_move E rfl rfl) ?_
              clear E; clear a; intro a E
              refine st_val E (wn rfl) rfl rfl (x_move E rfl rfl) ?_
              clear E; clear a; intro a E
              obtain ⟨x32, hx33, hm⟩ := bnd hm
              refine st_ixS E H (wn rfl) rfl rfl rfl rfl rfl (.tail _ (.tail _ hr19)) Try.underlying63 sz70 hx33 ?_
              clear E H; clear a; intro q34 a H E
              replace H := H.derive1 (.head _) (rAt (kI .i64) (q34.add 1) x32.N) (fun ok h => k_cantonlaw02_Item_at1 h)
              refine st_val E (wn rfl) rfl rfl (x_fa E rfl rfl (fa70_1 _ _)) ?_
              clear E; clear a; intro a E
              refine st_val E (wn rfl) rfl rfl (x_ldA E H rfl rfl (.head _) Try.underlying2 rfl) ?_
              clear E; clear a; intro a E
              replace H := H.front 3 rfl
              replace H := H.front 2 rfl
              replace H := H.front 3 rfl
              replace H := H.front 3 rfl
              replace H : Sep w (Blk p8 51 [v11, .bool b13] :: Row 5 (kI .u8) v11 l12 :: Blk p9 67 [v14, .bool b16] :: Row 5 (kI .u8) v14 l15 :: Fo) (rAt (kI .i64) (q34.add 1) x32.N :: rAt k_cantonlaw02_Item q34 x32 :: rAt (kI .i64) (q31.add 0) x29.What :: rAt k_cantonlaw02_Item q31 x29 :: rs17) := H
              obtain ⟨u35, hx36, hm⟩ := bnd hm
              refine st_call E (wn rfl) rfl rfl (x_call E rfl rfl (cf33 _)) (c_pack_Writer_Num p8 v11 l12 b13 x32.N H hx36) ?_
              clear E H; clear a; clear w; rintro _ w ⟨v37, rfl, H⟩ a E
              refine wpList_nil ?_
              refine q_then ?_
              refine wp_region_lit ?_
              refine st_val E (wn rfl) rfl rfl (x_move E rfl rfl) ?_
              clear E; clear a; intro a E
              refine st_val E (wn rfl) rfl rfl (x_move E rfl rfl) ?_
              clear E; clear a; intro a E
              refine st_val E (wn rfl) rfl rfl (x_move E rfl rfl) ?_
              clear E; clear a; intro a E
              obtain ⟨x38, hx39, hm⟩ := bnd hm
              refine st_ixS E H (wn rfl) rfl rfl rfl rfl rfl (.tail _ (.tail _ (.tail _ (.tail _ hr19)))) Try.underlying63 sz70 hx39 ?_
              clear E H; clear a; intro q40 a H E
              replace H := H.derive1 (.head _) (rAt (kI .i64) (q40.add 1) x38.N) (fun ok h => k_cantonlaw02_Item_at1 h)
              refine st_val E (wn rfl) rfl rfl (x_fa E rfl rfl (fa70_1 _ _)) ?_
              clear E; clear a; intro a E
              refine st_val E (wn rfl) rfl rfl (x_ldA E H rfl rfl (.head _) Try.underlying2 rfl) ?_
              clear E; clear a; intro a E
              replace H := H.front 1 rfl
              replace H := H.front 1 rfl
              replace H := H.front 3 rfl
              replace H := H.front 3 rfl
              replace H : Sep w (Blk p9 67 [v14, .bool b16] :: Row 5 (kI .u8) v14 l15 :: Blk p8 51 [v37, .bool u35.2] :: Row 5 (kI .u8) v37 u35.1 :: Fo) (rAt (kI .i64) (q40.add 1) x38.N :: rAt k_cantonlaw02_Item q40 x38 :: rAt (kI .i64) (q34.add 1) x32.N :: rAt k_cantonlaw02_Item q34 x32 :: rAt (kI .i64) (q31.add 0) x29.What :: rAt k_cantonlaw02_Item q31 x29 :: rs17) := H
              obtain ⟨u41, hx42, hm⟩ := bnd hm
              refine st_call E (wn rfl) rfl rfl (x_call E rfl rfl (cf38 _)) (c_cantonref02_Writer_Num p9 v14 l15 b16 x38.N H hx42) ?_
              clear E H; clear a; clear w; rintro _ w ⟨v43, rfl, H⟩ a E
              refine wpList_nil ?_
              refine q_blk ?_
              refine q_blk ?_
              refine q_then ?_
              replace H := H.front 1 rfl
              replace H := H.front 3 rfl
              replace H := H.front 2 rfl
              replace H := H.front 3 rfl
              exact ⟨v37, v43, u35.1, u35.2, u41.1, u41.2, _, (((((E.nil.keep E 6 rfl).keep E 5 rfl).keep E 4 rfl).keep E 3 rfl).keep E 0 rfl), H, fun r hr => .tail _ (.tail _ (.tail _ (.tail _ (.tail _ (.tail _ (hs18 r hr)))))), (.tail _ (.tail _ (.tail _ (.tail _ (.tail _ (.tail _ hr19)))))), hm⟩
            · intro hb
              rw [if_f hb] at hm
              clear hb
              refine wp_seq ?_
              refine wp_region_lit ?_
              refine st_val E (wn rfl) rfl rfl (x_bin E rfl rfl rfl rfl) ?_
              clear E; clear a; intro a E
              refine st_val E (wn rfl) rfl rfl (x_assign E rfl rfl) ?_
              clear E; clear a; intro a E
              refine wpList_nil ?_
              refine q_then ?_
              refine wp_if E rfl ?_ ?_
              · intro hb
                rw [if_t hb] at hm
                clear hb
                refine wp_seq ?_
                refine wp_region_lit ?_
                refine st_val E (wn rfl) rfl rfl (x_move E rfl rfl) ?_
                clear E; clear a; intro a E
                refine st_val E (wn rfl) rfl rfl (x_move E rfl rfl) ?_
                clear E; clear a; intro a E
                refine st_val E (wn rfl) rfl rfl (x_move E rfl rfl) ?_
                clear E; clear a; intro a E
                obtain ⟨x44, hx45, hm⟩ := bnd hm
                refine st_ixS E H (wn rfl) rfl rfl rfl rfl rfl (.tail _ (.tail _ hr19)) Try.underlying63 sz70 hx45 ?_
                clear E H; clear a; intro q46 a H E
                replace H := H.derive1 (.head _) (rAt kS (q46.add 2) x44.S) (fun ok h => k_cantonlaw02_Item_at2 h)
                refine st_val E (wn rfl) rfl rfl (x_fa E rfl rfl (fa70_2 _ _)) ?_
                clear E; clear a; intro a E
                refine st_val E (wn rfl) rfl rfl (x_ldA E H rfl rfl (.head _) Try.underlying9 rfl) ?_
                clear E; clear a; intro a E
                replace H := H.front 3 rfl
                replace H := H.front 2 rfl
                replace H := H.front 3 rfl
                replace H := H.front 3 rfl
                replace H : Sep w (Blk p8 51 [v11, .bool b13] :: Row 5 (kI .u8) v11 l12 :: Blk p9 67 [v14, .bool b16] :: Row 5 (kI .u8) v14 l15 :: Fo) (rAt kS (q46.add 2) x44.S :: rAt k_cantonlaw02_Item q46 x44 :: rAt (kI .i64) (q31.add 0) x29.What :: rAt k_cantonlaw02_Item q31 x29 :: rs17) := H
                obtain ⟨u47, hx48, hm⟩ := bnd hm
                refine st_call E (wn rfl) rfl rfl (x_call E rfl rfl (cf35 _)) (c_pack_Writer_Text p8 v11 l12 b13 x44.S H hx48) ?_
                clear E H; clear a; clear w; rintro _ w ⟨v49, rfl, H⟩ a E
                refine wpList_nil ?_
                refine q_then ?_
                refine wp_region_lit ?_
                refine st_val E (wn rfl) rfl rfl (x_move E rfl rfl) ?_
                clear E; clear a; intro a E
                refine st_val E (wn rfl) rfl rfl (x_move E rfl rfl) ?_
                clear E; clear a; intro a E
                refine st_val E (wn rfl) rfl rfl (x_move E rfl rfl) ?_
                clear E; clear a; intro a E
                obtain ⟨x50, hx51, hm⟩ := bnd hm
                refine st_ixS E H (wn rfl) rfl rfl rfl rfl rfl (.tail _ (.tail _ (.tail _ (.tail _ hr19)))) Try.underlying63 sz70 hx51 ?_
                clear E H; clear a; intro q52 a H E
                replace H := H.derive1 (.head _) (rAt kS (q52.add 2) x50.S) (fun ok h => k_cantonlaw02_Item_at2 h)
                refine st_val E (wn rfl) rfl rfl (x_fa E rfl rfl (fa70_2 _ _)) ?_
                clear E; clear a; intro a E
                refine st_val E (wn rfl) rfl rfl (x_ldA E H rfl rfl (.head _) Try.underlying9 rfl) ?_
                clear E; clear a; intro a E
                replace H := H.front 1 rfl
                replace H := H.front 1 rfl
                replace H := H.front 3 rfl
                replace H := H.front 3 rfl
                replace H : Sep w (Blk p9 67 [v14, .bool b16] :: Row 5 (kI .u8) v14 l15 :: Blk p8 51 [v49, .bool u47.2] :: Row 5 (kI .u8) v49 u47.1 :: Fo) (rAt kS (q52.add 2) x50.S :: rAt k_cantonlaw02_Item q52 x50 :: rAt kS (q46.add 2) x44.S :: rAt k_cantonlaw02_Item q46 x44 :: rAt (kI .i64) (q31.add 0) x29.What :: rAt k_cantonlaw02_Item q31 x29 :: rs17) := H
                obtain ⟨u53, hx54, hm⟩ := bnd hm
                refine st_call E (wn rfl) rfl rfl (x_call E rfl rfl (cf39 _)) (c_cantonref02_Writer_Text p9 v14 l15 b16 x50.S H hx54) ?_
                clear E H; clear a; clear w; rintro _ w ⟨v55, rfl, H⟩ a E
                refine wpList_nil ?_
                refine q_blk ?_
                refine q_blk ?_
                refine q_then ?_
                replace H := H.front 1 rfl
                replace H := H.front 3 rfl
                replace H := H.front 2 rfl
                replace H := H.front 3 rfl
                exact ⟨v49, v55, u47.1, u47.2, u53.1, u53.2, _, (((((E.nil.keep E 6 rfl).keep E 5 rfl).keep E 4 rfl).keep E 3 rfl).keep E 0 rfl), H, fun r hr => .tail _ (.tail _ (.tail _ (.tail _ (.tail _ (.tail _ (hs18 r hr)))))), (.tail _ (.tail _ (.tail _ (.tail _ (.tail _ (.tail _ hr19)))))), hm⟩
              · intro hb
                rw [if_f hb] at hm
                clear hb
                refine wp_seq ?_
                refine wp_region_lit ?_
                refine st_val E (wn rfl) rfl rfl (x_bin E rfl rfl rfl rfl) ?_
                clear E; clear a; intro a E
                refine st_val E (wn rfl) rfl rfl (x_assign E rfl rfl) ?_
                clear E; clear a; intro a E
                refine wpList_nil ?_
                refine q_then ?_
                refine wp_if E rfl ?_ ?_
                · intro hb
                  rw [if_t hb] at hm
                  clear hb
                  refine wp_seq ?_
                  refine wp_region_lit ?_
                  refine st_val E (wn rfl) rfl rfl (x_move E rfl rfl) ?_
                  clear E; clear a; intro a E
                  refine st_val E (wn rfl) rfl rfl (x_move E rfl rfl) ?_
                  clear E; clear a; intro a E
                  refine st_val E (wn rfl) rfl rfl (x_move E rfl rfl) ?_
                  clear E; clear a; intro a E
                  obtain ⟨x56, hx57, hm⟩ := bnd hm
                  refine st_ixS E H (wn rfl) rfl rfl rfl rfl rfl (.tail _ (.tail _ hr19)) Try.underlying63 sz70 hx57 ?_
                  clear E H; clear a; intro q58 a H E
                  replace H := H.derive1 (.head _) (rAt (kL kS) (q58.add 3) x56.L) (fun ok h => k_cantonlaw02_Item_at3 h)
                  refine st_val E (wn rfl) rfl rfl (x_fa E rfl rfl (fa70_3 _ _)) ?_
                  clear E; clear a; intro a E
                  refine st_ldL E H (wn rfl) rfl rfl rfl rfl (.head _) Try.underlying68 rfl ?_
                  clear E H; clear a; intro v59 a H E
                  replace H := H.front 3 rfl
                  replace H := H.front 2 rfl
                  replace H := H.front 3 rfl
                  replace H := H.front 3 rfl
                  replace H : Sep w (Blk p8 51 [v11, .bool b13] :: Row 5 (kI .u8) v11 l12 :: Blk p9 67 [v14, .bool b16] :: Row 5 (kI .u8) v14 l15 :: Fo) (rSl kS v59 x56.L :: rAt (kL kS) (q58.add 3) x56.L :: rAt k_cantonlaw02_Item q58 x56 :: rAt (kI .i64) (q31.add 0) x29.What :: rAt k_cantonlaw02_Item q31 x29 :: rs17) := H
                  obtain ⟨u60, hx61, hm⟩ := bnd hm
                  refine st_call E (wn rfl) rfl rfl (x_call E rfl rfl (cf40 _)) (c_pack_Writer_Texts p8 v11 l12 b13 v59 x56.L H (.head _) hx61) ?_
                  clear E H; clear a; clear w; rintro _ w ⟨v62, rfl, H⟩ a E
                  refine wpList_nil ?_
                  refine q_then ?_
                  refine wp_region_lit ?_
                  refine st_val E (wn rfl) rfl rfl (x_move E rfl rfl) ?_
                  clear E; clear a; intro a E
                  refine st_val E (wn rfl) rfl rfl (x_move E rfl rfl) ?_
                  clear E; clear a; intro a E
                  refine st_val E (wn rfl) rfl rfl (x_move E rfl rfl) ?_
                  clear E; clear a; intro a E
                  obtain ⟨x63, hx64, hm⟩ := bnd hm
                  refine st_ixS E H (wn rfl) rfl rfl rfl rfl rfl (.tail _ (.tail _ (.tail _ (.tail _ (.tail _ hr19))))) Try.underlying63 sz70 hx64 ?_
                  clear E H; clear a; intro q65 a H E
                  replace H := H.derive1 (.head _) (rAt (kL kS) (q65.add 3) x63.L) (fun ok h => k_cantonlaw02_Item_at3 h)
                  refine st_val E (wn rfl) rfl rfl (x_fa E rfl rfl (fa70_3 _ _)) ?_
                  clear E; clear a; intro a E
                  refine st_ldL E H (wn rfl) rfl rfl rfl rfl (.head _) Try.underlying68 rfl ?_
                  clear E H; clear a; intro v66 a H E
                  replace H := H.front 1 rfl
                  replace H := H.front 1 rfl
                  replace H := H.front 3 rfl
                  replace H := H.front 3 rfl
                  replace H : Sep w (Blk p9 67 [v14, .bool b16] :: Row 5 (kI .u8) v14 l15 :: Blk p8 51 [v62, .bool u60.2] :: Row 5 (kI .u8) v62 u60.1 :: Fo) (rSl kS v66 x63.L :: rAt (kL kS) (q65.add 3) x63.L :: rAt k_cantonlaw02_Item q65 x63 :: rSl kS v59 x56.L :: rAt (kL kS) (q58.add 3) x56.L :: rAt k_cantonlaw02_Item q58 x56 :: rAt (kI .i64) (q31.add 0) x29.What :: rAt k_cantonlaw02_Item q31 x29 :: rs17) := H
                  obtain ⟨u67, hx68, hm⟩ := bnd hm
                  refine st_call E (wn rfl) rfl rfl (x_call E rfl rfl (cf41 _)) (c_cantonref02_Writer_Texts p9 v14 l15 b16 v66 x63.L H (.head _) hx68) ?_
                  clear E H; clear a; clear w; rintro _ w ⟨v69, rfl, H⟩ a E
                  refine wpList_nil ?_
                  refine q_blk ?_
                  refine q_blk ?_
                  refine q_then ?_
                  replace H := H.front 1 rfl
                  replace H := H.front 3 rfl
                  replace H := H.front 2 rfl
                  replace H := H.front 3 rfl
                  exact ⟨v62, v69, u60.1, u60.2, u67.1, u67.2, _, (((((E.nil.keep E 6 rfl).keep E 5 rfl).keep E 4 rfl).keep E 3 rfl).keep E 0 rfl), H, fun r hr => .tail _ (.tail _ (.tail _ (.tail _ (.tail _ (.tail _ (.tail _ (.tail _ (hs18 r hr)))))))), (.tail _ (.tail _ (.tail _ (.tail _ (.tail _ (.tail _ (.tail _ (.tail _ hr19)))))))), hm⟩
                · intro hb
                  rw [if_f hb] at hm
                  clear hb
                  refine wp_skip ?_
                  refine q_blk ?_
                  refine q_blk ?_
                  refine q_then ?_
                  exact ⟨v11, v14, l12, b13, l15, b16, _, (((((E.nil.keep E 6 rfl).keep E 5 rfl).keep E 4 rfl).keep E 3 rfl).keep E 0 rfl), H, fun r hr => .tail _ (.tail _ (hs18 r hr)), (.tail _ (.tail _ hr19)), hm⟩
          · clear E H hm
            rintro a w ⟨v20, v23, l21, b22, l24, b25, rs26, E, H, hs27, hr28, hm⟩
            unfold m_cantonlaw02_PackWrites_j1 at hm
            refine wp_region_lit ?_
            refine st_val E (wn rfl) rfl rfl (x_move E rfl rfl) ?_
            clear E; clear a; intro a E
            refine st_val E (wn rfl) rfl rfl (x_bin E rfl rfl rfl rfl) ?_
            clear E; clear a; intro a E
            refine st_val E (wn rfl) rfl rfl (x_assign E rfl rfl) ?_
            clear E; clear a; intro a E
            refine wpList_nil ?_
            refine q_then ?_
            exact ⟨k1, Nat.lt_succ_self k1, v20, v23, IntKind.i64.wrap (x10 + 1), l21, b22, l24, b25, _, (((((E.nil.keep E 6 rfl).keep E 5 rfl).keep E 4 rfl).keep E 3 rfl).keep E 0 rfl), H, hs27, hr28, hm⟩
        · intro hb
          rw [if_f hb] at hm
          clear hb
          refine wp_exit ?_
          refine q_thenX ?_
          refine q_thenX ?_
          refine q_hit ?_
          refine q_then ?_
          refine wp_seq ?_
          refine wp_region_lit ?_
          refine st_val E (wn rfl) rfl rfl (x_move E rfl rfl) ?_
          clear E; clear a; intro a E
          replace H := H.front 3 rfl
          replace H := H.front 2 rfl
          replace H := H.front 3 rfl
          replace H := H.front 3 rfl
          replace H : Sep w (Blk p8 51 [v11, .bool b13] :: Row 5 (kI .u8) v11 l12 :: Blk p9 67 [v14, .bool b16] :: Row 5 (kI .u8) v14 l15 :: Fo) (rs17) := H
          obtain ⟨u70, hx71, hm⟩ := bnd hm
          refine st_call E (wn rfl) rfl rfl (x_call E rfl rfl (cf34 _)) (c_pack_Writer_Bytes p8 v11 l12 b13 H hx71) ?_
          clear E H; clear a; clear w; rintro _ w ⟨v72, rfl, H⟩ a E
          refine st_val E (wn rfl) rfl rfl (x_move E rfl rfl) ?_
          clear E; clear a; intro a E
          refine st_val E (wn rfl) rfl rfl (x_ext E rfl rfl rfl) ?_
          clear E; clear a; intro a E
          refine st_val E (wn rfl) rfl rfl (x_ext E rfl rfl rfl) ?_
          clear E; clear a; intro a E
          refine st_val E (wn rfl) rfl rfl (x_assign E rfl rfl) ?_
          clear E; clear a; intro a E
          refine st_val E (wn rfl) rfl rfl (x_assign E rfl rfl) ?_
          clear E; clear a; intro a E
          refine wpList_nil ?_
          refine q_then ?_
          refine wp_seq ?_
          refine wp_region_lit ?_
          refine st_val E (wn rfl) rfl rfl (x_move E rfl rfl) ?_
          clear E; clear a; intro a E
          replace H := H.front 2 rfl
          replace H := H.front 2 rfl
          replace H := H.front 2 rfl
          replace H := H.front 4 rfl
          replace H := H.front 4 rfl
          replace H : Sep w (Blk p9 67 [v14, .bool b16] :: Row 5 (kI .u8) v14 l15 :: Row 5 (kI .u8) v72 u70.1 :: Blk p8 51 [v11, .bool b13] :: Row 5 (kI .u8) v11 l12 :: Fo) (rs17) := H
          obtain ⟨u73, hx74, hm⟩ := bnd hm
          refine st_call E (wn rfl) rfl rfl (x_call E rfl rfl (cf42 _)) (c_cantonref02_Writer_Bytes p9 v14 l15 b16 H hx74) ?_
          clear E H; clear a; clear w; rintro _ w ⟨v75, rfl, H⟩ a E
          refine st_val E (wn rfl) rfl rfl (x_move E rfl rfl) ?_
          clear E; clear a; intro a E
          refine st_val E (wn rfl) rfl rfl (x_ext E rfl rfl rfl) ?_
          clear E; clear a; intro a E
          refine st_val E (wn rfl) rfl rfl (x_ext E rfl rfl rfl) ?_
          clear E; clear a; intro a E
          refine st_val E (wn rfl) rfl rfl (x_assign E rfl rfl) ?_
          clear E; clear a; intro a E
          refine st_val E (wn rfl) rfl rfl (x_assign E rfl rfl) ?_
          clear E; clear a; intro a E
          refine wpList_nil ?_
          refine q_then ?_
          refine wp_seq ?_
          refine wp_region_lit ?_
          refine st_val E (wn rfl) rfl rfl (x_move E rfl rfl) ?_
          clear E; clear a; intro a E
          refine st_val E (wn rfl) rfl rfl (x_move E rfl rfl) ?_
          clear E; clear a; intro a E
          rcases Bool.eq_false_or_eq_true u4 with hb76 | hb76
          · rw [if_t hb76] at hm
            refine st_val E (ws' E rfl rfl rfl rfl hb76) rfl rfl (x_move E rfl rfl) ?_
            clear E; clear a; intro a E
            replace H := H.thaw (i := 3) rfl
            refine st_val E (ws' E rfl rfl rfl rfl hb76) rfl rfl (x_b2s E H rfl rfl (.head _) Try.underlying46 Try.underlying5 Try.underlying9) ?_
            clear E; clear a; intro a E
            refine st_val E (ws' E rfl rfl rfl rfl hb76) rfl rfl (x_move E rfl rfl) ?_
            clear E; clear a; intro a E
            replace H := H.thaw (i := 0) rfl
            refine st_val E (ws' E rfl rfl rfl rfl hb76) rfl rfl (x_b2s E H rfl rfl (.head _) Try.underlying46 Try.underlying5 Try.underlying9) ?_
            clear E; clear a; intro a E
            refine st_val E (ws' E rfl rfl rfl rfl hb76) rfl rfl (x_str E rfl rfl rfl rfl) ?_
            clear E; clear a; intro a E
            refine st_val E (wn rfl) rfl rfl (x_pickT E rfl rfl hb76 rfl) ?_
            clear E; clear a; intro a E
            refine st_val E (wn rfl) rfl rfl (x_move E rfl rfl) ?_
            clear E; clear a; intro a E
            rcases Bool.eq_false_or_eq_true (sEq (strOf u70.1) (strOf u73.1)) with hb77 | hb77
            · rw [if_t hb77] at hm
              refine st_val E (ws' E rfl rfl rfl rfl hb77) rfl rfl (x_move E rfl rfl) ?_
              clear E; clear a; intro a E
              refine st_val E (ws' E rfl rfl rfl rfl hb77) rfl rfl (x_move E rfl rfl) ?_
              clear E; clear a; intro a E
              refine st_val E (ws' E rfl rfl rfl rfl hb77) rfl rfl (x_bin E rfl rfl rfl rfl) ?_
              clear E; clear a; intro a E
              refine st_val E (wn rfl) rfl rfl (x_pickT E rfl rfl hb77 rfl) ?_
              clear E; clear a; intro a E
              refine st_val E (wn rfl) rfl rfl (x_assign E rfl rfl) ?_
              clear E; clear a; intro a E
              refine wpList_nil ?_
              refine q_then ?_
              refine wp_ret ?_
              refine out1 E rfl rfl ?_
              replace H := H.drop 0
              replace H := H.drop 0
              replace H := H.drop 0
              replace H := H.drop 0
              obtain rfl := Option.some.inj hm
              exact ⟨rfl, H.reads (fun r hr => .tail _ (.tail _ (hs18 r hr)))⟩
            · rw [if_f hb77] at hm
              refine st_no E (wf' E rfl rfl rfl rfl hb77 rfl) rfl rfl ?_
              clear E; clear a; intro a E
              refine st_no E (wf' E rfl rfl rfl rfl hb77 rfl) rfl rfl ?_
              clear E; clear a; intro a E
              refine st_no E (wf' E rfl rfl rfl rfl hb77 rfl) rfl rfl ?_
              clear E; clear a; intro a E
              refine st_val E (wn rfl) rfl rfl (x_pickF E rfl rfl hb77 rfl) ?_
              clear E; clear a; intro a E
              refine st_val E (wn rfl) rfl rfl (x_assign E rfl rfl) ?_
              clear E; clear a; intro a E
              refine wpList_nil ?_
              refine q_then ?_
              refine wp_ret ?_
              refine out1 E rfl rfl ?_
              replace H := H.drop 0
              replace H := H.drop 0
              replace H := H.drop 0
              replace H := H.drop 0
              obtain rfl := Option.some.inj hm
              exact ⟨rfl, H.reads (fun r hr => .tail _ (.tail _ (hs18 r hr)))⟩
          · rw [if_f hb76] at hm
            refine st_no E (wf' E rfl rfl rfl rfl hb76 rfl) rfl rfl ?_
            clear E; clear a; intro a E
            refine st_no E (wf' E rfl rfl rfl rfl hb76 rfl) rfl rfl ?_
            clear E; clear a; intro a E
            refine st_no E (wf' E rfl rfl rfl rfl hb76 rfl) rfl rfl ?_
            clear E; clear a; intro a E
            refine st_no E (wf' E rfl rfl rfl rfl hb76 rfl) rfl rfl ?_
            clear E; clear a; intro a E
            refine st_no E (wf' E rfl rfl rfl rfl hb76 rfl) rfl rfl ?_
            clear E; clear a; intro a E
            refine st_val E (wn rfl) rfl rfl (x_pickF E rfl rfl hb76 rfl) ?_
            clear E; clear a; intro a E
            refine st_val E (wn rfl) rfl rfl (x_move E rfl rfl) ?_
            clear E; clear a; intro a E
            refine st_no E (wf E rfl rfl rfl rfl rfl) rfl rfl ?_
            clear E; clear a; intro a E
            refine st_no E (wf E rfl rfl rfl rfl rfl) rfl rfl ?_
            clear E; clear a; intro a E
            refine st_no E (wf E rfl rfl rfl rfl rfl) rfl rfl ?_
            clear E; clear a; intro a E
            refine st_val E (wn rfl) rfl rfl (x_pickF E rfl rfl rfl rfl) ?_
            clear E; clear a; intro a E
            refine st_val E (wn rfl) rfl rfl (x_assign E rfl rfl) ?_
            clear E; clear a; intro a E
            refine wpList_nil ?_
            refine q_then ?_
            refine wp_ret ?_
            refine out1 E rfl rfl ?_
            replace H := H.drop 0
            replace H := H.drop 0
            replace H := H.drop 0
            replace H := H.drop 0
            replace H := H.drop 0
            replace H := H.drop 0
            obtain rfl := Option.some.inj hm
            exact ⟨rfl, H.reads (fun r hr => hs18 r hr)⟩
end Go.Cb
