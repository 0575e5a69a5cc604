/- A function of the program, walked: it comes to its plain function. -/
import Derived.Test.YtbjpjbopfhbkmaaT
import Derived.Test.YtbjpjbopfhbkmaaFcantonlaw02Great
import Derived.Test.YtbjpjbopfhbkmaaFcantonlaw02head
import Derived.Test.YtbjpjbopfhbkmaaFcantonref01Same
import Derived.Test.YtbjpjbopfhbkmaaFpackNew
import Derived.Test.YtbjpjbopfhbkmaaFpackReaderEnd
import Derived.Test.YtbjpjbopfhbkmaaFpackReaderErr
import Derived.Test.YtbjpjbopfhbkmaaFpackReaderNum
import Derived.Test.YtbjpjbopfhbkmaaFpackReaderText
import Derived.Test.YtbjpjbopfhbkmaaFpackReaderTexts
import Derived.Test.YtbjpjbopfhbkmaaFpackWriterBytes
import Derived.Test.YtbjpjbopfhbkmaaFpackWriterNum
import Derived.Test.YtbjpjbopfhbkmaaFpackWriterText
import Derived.Test.YtbjpjbopfhbkmaaFpackWriterTexts
set_option linter.unusedVariables false
set_option linter.unusedSimpArgs false
namespace Go.Cb
open Go.Proofs Go.RowKit
def m_cantonlaw02_PackBack_j1 (rec_1 : Int → (List Int) → Bool → Option Bool) (x9 : Int) (l17 : (List Int)) (b18 : Bool) : Option Bool :=
  rec_1 (IntKind.i64.wrap (x9 + 1)) l17 b18
def m_cantonlaw02_PackBack_j2 (rec_1 : Int → (List Int) → Bool → Option Bool) (x9 : Int) (u4 : Bool) (l2 : List S_cantonlaw02_Item) (l11 : (List Int)) (b12 : Bool) (b25 : Bool) : Option Bool :=
  if b25 = true then (some (u4)) else ((idx l2 x9).bind fun x29 => (m_pack_Writer_Num l11 b12 x29.N).bind fun u32 => m_cantonlaw02_PackBack_j1 rec_1 x9 u32.1 u32.2)
def m_cantonlaw02_PackBack_j3 (rec_2 : Int → (List Int) → Int → Option Bool) (x62 : Int) (l71 : (List Int)) (x72 : Int) : Option Bool :=
  rec_2 (IntKind.i64.wrap (x62 + 1)) l71 x72
def m_cantonlaw02_PackBack_l2 (l2 : List S_cantonlaw02_Item) (u4 : Bool) : Nat → Int → (List Int) → Int → Option Bool
  | 0, _, _, _ => none
  | k2 + 1, x62, l64, x65 =>
    if (decide (x62 < (l2.length : Int))) = true then ((idx l2 x62).bind fun x77 => if (x77.What == 0) = true then ((idx l2 x62).bind fun x80 => (m_pack_Reader_Num l64 x65 x80.N).bind fun u83 => (idx l2 x62).bind fun x86 => if (u83.1 != x86.N) = true then (some (false)) else (m_cantonlaw02_PackBack_j3 (m_cantonlaw02_PackBack_l2 l2 u4 k2) x62 u83.2.1 u83.2.2)) else (if (x77.What == 1) = true then ((m_pack_Reader_Text l64 x65).bind fun u89 => (idx l2 x62).bind fun x92 => if (!(sEq u89.1 x92.S)) = true then (some (false)) else (m_cantonlaw02_PackBack_j3 (m_cantonlaw02_PackBack_l2 l2 u4 k2) x62 u89.2.1 u89.2.2)) else (if (x77.What == 2) = true then ((m_pack_Reader_Texts l64 x65).bind fun u95 => (idx l2 x62).bind fun x99 => (m_cantonref01_Same u95.1 x99.L).bind fun u103 => if (!u103) = true then (some (false)) else (m_cantonlaw02_PackBack_j3 (m_cantonlaw02_PackBack_l2 l2 u4 k2) x62 u95.2.1 u95.2.2)) else (m_cantonlaw02_PackBack_j3 (m_cantonlaw02_PackBack_l2 l2 u4 k2) x62 l64 x65)))) else ((m_pack_Reader_End l64 x65).bind fun u105 => (m_pack_Reader_Num l64 x65 281474976710656).bind fun u107 => if u4 = true then (if u105 = true then ((m_pack_Reader_Err u107.2.1 u107.2.2).bind fun u112 => some (u107.2.2 == 21)) else (some (false))) else (some (false)))
def m_cantonlaw02_PackBack_l1 (u4 : Bool) (l2 : List S_cantonlaw02_Item) : Nat → Int → (List Int) → Bool → Option Bool
  | 0, _, _, _ => none
  | k1 + 1, x9, l11, b12 =>
    if (decide (x9 < (l2.length : Int))) = true then ((idx l2 x9).bind fun x22 => if (x22.What == 0) = true then ((idx l2 x9).bind fun x35 => if (decide (x35.N < 0)) = true then (m_cantonlaw02_PackBack_j2 (m_cantonlaw02_PackBack_l1 u4 l2 k1) x9 u4 l2 l11 b12 true) else ((idx l2 x9).bind fun x39 => m_cantonlaw02_PackBack_j2 (m_cantonlaw02_PackBack_l1 u4 l2 k1) x9 u4 l2 l11 b12 (decide (x39.N > 281474976710656)))) else (if (x22.What == 1) = true then ((idx l2 x9).bind fun x42 => (m_pack_Writer_Text l11 b12 x42.S).bind fun u45 => m_cantonlaw02_PackBack_j1 (m_cantonlaw02_PackBack_l1 u4 l2 k1) x9 u45.1 u45.2) else (if (x22.What == 2) = true then ((idx l2 x9).bind fun x48 => (m_pack_Writer_Texts l11 b12 x48.L).bind fun u52 => m_cantonlaw02_PackBack_j1 (m_cantonlaw02_PackBack_l1 u4 l2 k1) x9 u52.1 u52.2) else (m_cantonlaw02_PackBack_j1 (m_cantonlaw02_PackBack_l1 u4 l2 k1) x9 l11 b12)))) else ((m_pack_Writer_Bytes l11 b12).bind fun u55 => (m_pack_New u55.1).bind fun u58 => if (u55.2 != 0) = true then (some (false)) else (m_cantonlaw02_PackBack_l2 l2 u4 (((l2.length : Int) - 0 : Int).toNat + 1) 0 u58 0))
def m_cantonlaw02_PackBack (l2 : List S_cantonlaw02_Item) : Option Bool :=
  m_cantonlaw02_head.bind fun u4 => (m_cantonlaw02_Great l2).bind fun u6 => if u6 = true then (some (u4)) else (m_cantonlaw02_PackBack_l1 u4 l2 (((l2.length : Int) - 0 : Int).toNat + 1) 0 [] false)
set_option maxRecDepth 20000 in
set_option maxHeartbeats 1000000 in
theorem c_cantonlaw02_PackBack {w : World} {Fo : List Ob} {rs : List Rp} (v1 : Value) (l2 : List S_cantonlaw02_Item) (H : Sep w (Fo) rs) (hr3 : rSl k_cantonlaw02_Item v1 l2 ∈ rs) {r : Bool} (hm : m_cantonlaw02_PackBack l2 = some r) :
    Calls Try.prog 13 [v1].toArray w (Ret fun v w' => .bool r = v ∧ Sep w' (Fo) (rs)) := by
  unfold m_cantonlaw02_PackBack at hm
  refine enter Try.func13 rfl Try.ntmps13 rfl fun a E => ?_
  simp only [enum, Nat.reduceAdd] at E
  refine wp_seq ?_
  refine wp_region_lit ?_
  refine st_val E (wn rfl) rfl rfl (x_assign E rfl rfl) ?_
  clear E; clear a; intro a E
  refine wpList_nil ?_
  refine q_then ?_
  refine wp_seq ?_
  refine wp_region_lit ?_
  replace H : Sep w (Fo) (rs) := H
  obtain ⟨u4, hx5, hm⟩ := bnd hm
  refine st_call E (wn rfl) rfl rfl (x_call E rfl rfl (cf28 _)) (c_cantonlaw02_head H hx5) ?_
  clear E H; clear a; clear w; rintro _ w ⟨rfl, H⟩ a E
  refine st_val E (wn rfl) rfl rfl (x_assign E rfl rfl) ?_
  clear E; clear a; intro a E
  refine wpList_nil ?_
  refine q_then ?_
  refine wp_seq ?_
  refine wp_seq ?_
  refine wp_region_lit ?_
  refine st_val E (wn rfl) rfl rfl (x_move E rfl rfl) ?_
  clear E; clear a; intro a E
  replace H : Sep w (Fo) (rs) := H
  obtain ⟨u6, hx7, hm⟩ := bnd hm
  refine st_call E (wn rfl) rfl rfl (x_call E rfl rfl (cf37 _)) (c_cantonlaw02_Great v1 l2 H hr3 hx7) ?_
  clear E H; clear a; clear w; rintro _ w ⟨rfl, H⟩ a E
  refine wpList_nil ?_
  refine q_then ?_
  refine wp_if E rfl ?_ ?_
  · intro hb
    rw [if_t hb] at hm
    clear hb
    refine wp_seq ?_
    refine wp_region_lit ?_
    refine st_val E (wn rfl) rfl rfl (x_move E rfl rfl) ?_
    clear E; clear a; intro a E
    refine st_val E (wn rfl) rfl rfl (x_assign E rfl rfl) ?_
    clear E; clear a; intro a E
    refine wpList_nil ?_
    refine q_then ?_
    refine wp_ret ?_
    refine q_thenR ?_
    refine out1 E rfl rfl ?_
    obtain rfl := Option.some.inj hm
    exact ⟨rfl, H.reads (fun r hr => hr)⟩
  · intro hb
    rw [if_f hb] at hm
    clear hb
    refine wp_skip ?_
    refine q_then ?_
    refine wp_seq ?_
    refine wp_region_lit ?_
    refine st_val E (wn rfl) rfl rfl (x_build E (ps := []) (vs := []) rfl rfl (v := .agg #[.slice none 0 0, .bool false]) (by kernel_rfl)) ?_
    clear E; clear a; intro a E
    refine st_box E H (wn rfl) rfl rfl (cs := [.slice none 0 0, .bool false]) rfl rfl rfl ?_
    clear E H; clear a; clear w; intro p8 w a H E
    refine st_val E (wn rfl) rfl rfl (x_assign E rfl rfl) ?_
    clear E; clear a; intro a E
    refine wpList_nil ?_
    refine q_then ?_
    refine wp_seq ?_
    refine wp_seq ?_
    refine wp_region_lit ?_
    refine st_val E (wn rfl) rfl rfl (x_assign E rfl rfl) ?_
    clear E; clear a; intro a E
    refine wpList_nil ?_
    refine q_then ?_
    refine wp_block ?_
    refine wp_loop_g (fun k1 a w => ∃ (v10 : Value) (x9 : Int) (l11 : (List Int)) (b12 : Bool) (rs13 : List Rp), Env 149 a [(0, v1), (3, .bool u4), (4, .pointer (some ⟨p8, 0, none⟩)), (5, .int .i64 x9)] ∧ Sep w (Blk p8 51 [v10, .bool b12] :: Row 5 (kI .u8) v10 l11 :: Fo) rs13 ∧ (∀ r, r ∈ rs → r ∈ rs13) ∧ rSl k_cantonlaw02_Item v1 l2 ∈ rs13 ∧ m_cantonlaw02_PackBack_l1 u4 l2 k1 x9 l11 b12 = some r) (((l2.length : Int) - 0 : Int).toNat + 1) ?_ ?_
    · replace H := H.nilRow 5 (kI .u8)
      replace H := H.front 0 rfl
      replace H := H.front 1 rfl
      exact ⟨(.slice none 0 0), 0, [], false, _, ((((E.nil.keep E 5 rfl).keep E 4 rfl).keep E 3 rfl).keep E 0 rfl), H, fun r hr => hr, hr3, hm⟩
    · clear E H hm
      rintro k1 a w ⟨v10, x9, l11, b12, rs13, E, H, hs14, hr15, hm⟩
      cases k1 with
      | zero => exact (none_some hm rfl).elim
      | succ k1 =>
        unfold m_cantonlaw02_PackBack_l1 at hm
        refine wp_seq ?_
        refine wp_seq ?_
        refine wp_region_lit ?_
        refine st_val E (wn rfl) rfl rfl (x_move E rfl rfl) ?_
        clear E; clear a; intro a E
        refine st_val E (wn rfl) rfl rfl (x_move E rfl rfl) ?_
        clear E; clear a; intro a E
        refine st_val E (wn rfl) rfl rfl (x_lenS E H rfl rfl hr15 Try.underlying63) ?_
        clear E; clear a; intro a E
        refine st_val E (wn rfl) rfl rfl (x_bin E rfl rfl rfl rfl) ?_
        clear E; clear a; intro a E
        refine wpList_nil ?_
        refine q_then ?_
        refine wp_if E rfl ?_ ?_
        · intro hb
          rw [if_t hb] at hm
          clear hb
          refine wp_skip ?_
          refine q_then ?_
          refine wp_seq_cut (fun a w => ∃ (v16 : Value) (l17 : (List Int)) (b18 : Bool) (rs19 : List Rp), Env 149 a [(0, v1), (3, .bool u4), (4, .pointer (some ⟨p8, 0, none⟩)), (5, .int .i64 x9)] ∧ Sep w (Blk p8 51 [v16, .bool b18] :: Row 5 (kI .u8) v16 l17 :: Fo) rs19 ∧ (∀ r, r ∈ rs → r ∈ rs19) ∧ rSl k_cantonlaw02_Item v1 l2 ∈ rs19 ∧ m_cantonlaw02_PackBack_j1 (m_cantonlaw02_PackBack_l1 u4 l2 k1) x9 l17 b18 = some r) ?_ ?_
          · refine wp_block ?_
            refine wp_seq ?_
            refine wp_region_lit ?_
            refine st_val E (wn rfl) rfl rfl (x_move E rfl rfl) ?_
            clear E; clear a; intro a E
            refine st_val E (wn rfl) rfl rfl (x_move E rfl rfl) ?_
            clear E; clear a; intro a E
            obtain ⟨x22, hx23, hm⟩ := bnd hm
            refine st_ixS E H (wn rfl) rfl rfl rfl rfl rfl hr15 Try.underlying63 sz70 hx23 ?_
            clear E H; clear a; intro q24 a H E
            replace H := H.derive1 (.head _) (rAt (kI .i64) (q24.add 0) x22.What) (fun ok h => k_cantonlaw02_Item_at0 h)
            refine st_val E (wn rfl) rfl rfl (x_fa E rfl rfl (fa70_0 _ _)) ?_
            clear E; clear a; intro a E
            refine st_val E (wn rfl) rfl rfl (x_ldA E H rfl rfl (.head _) Try.underlying3 rfl) ?_
            clear E; clear a; intro a E
            refine wpList_nil ?_
            refine q_then ?_
            refine wp_block ?_
            refine wp_seq ?_
            refine wp_region_lit ?_
            refine st_val E (wn rfl) rfl rfl (x_bin E rfl rfl rfl rfl) ?_
            clear E; clear a; intro a E
            refine st_val E (wn rfl) rfl rfl (x_assign E rfl rfl) ?_
            clear E; clear a; intro a E
            refine wpList_nil ?_
            refine q_then ?_
            refine wp_if E rfl ?_ ?_
            · intro hb
              rw [if_t hb] at hm
              clear hb
              refine wp_seq ?_
              refine wp_seq_cut (fun a w => ∃ (b25 : Bool) (rs26 : List Rp), Env 149 a [(0, v1), (3, .bool u4), (4, .pointer (some ⟨p8, 0, none⟩)), (5, .int .i64 x9), (46, .bool b25)] ∧ Sep w (Blk p8 51 [v10, .bool b12] :: Row 5 (kI .u8) v10 l11 :: Fo) rs26 ∧ (∀ r, r ∈ rs → r ∈ rs26) ∧ rSl k_cantonlaw02_Item v1 l2 ∈ rs26 ∧ m_cantonlaw02_PackBack_j2 (m_cantonlaw02_PackBack_l1 u4 l2 k1) x9 u4 l2 l11 b12 b25 = some r) ?_ ?_
              · refine wp_region_lit ?_
                refine st_val E (wn rfl) rfl rfl (x_move E rfl rfl) ?_
                clear E; clear a; intro a E
                refine st_val E (wn rfl) rfl rfl (x_move E rfl rfl) ?_
                clear E; clear a; intro a E
                obtain ⟨x35, hx36, hm⟩ := bnd hm
                refine st_ixS E H (wn rfl) rfl rfl rfl rfl rfl (.tail _ (.tail _ hr15)) Try.underlying63 sz70 hx36 ?_
                clear E H; clear a; intro q37 a H E
                replace H := H.derive1 (.head _) (rAt (kI .i64) (q37.add 1) x35.N) (fun ok h => k_cantonlaw02_Item_at1 h)
                refine st_val E (wn rfl) rfl rfl (x_fa E rfl rfl (fa70_1 _ _)) ?_
                clear E; clear a; intro a E
                refine st_val E (wn rfl) rfl rfl (x_ldA E H rfl rfl (.head _) Try.underlying2 rfl) ?_
                clear E; clear a; intro a E
                refine st_val E (wn rfl) rfl rfl (x_bin E rfl rfl rfl rfl) ?_
                clear E; clear a; intro a E
                refine st_val E (wn rfl) rfl rfl (x_move E rfl rfl) ?_
                clear E; clear a; intro a E
                rcases Bool.eq_false_or_eq_true (decide (x35.N < 0)) with hb38 | hb38
                · rw [if_t hb38] at hm
                  refine st_no E (wf' E rfl rfl rfl rfl hb38 rfl) rfl rfl ?_
                  clear E; clear a; intro a E
                  refine st_no E (wf' E rfl rfl rfl rfl hb38 rfl) rfl rfl ?_
                  clear E; clear a; intro a E
                  refine st_no E (wf' E rfl rfl rfl rfl hb38 rfl) rfl rfl ?_
                  clear E; clear a; intro a E
                  refine st_no E (wf' E rfl rfl rfl rfl hb38 rfl) rfl rfl ?_
                  clear E; clear a; intro a E
                  refine st_no E (wf' E rfl rfl rfl rfl hb38 rfl) rfl rfl ?_
                  clear E; clear a; intro a E
                  refine st_no E (wf' E rfl rfl rfl rfl hb38 rfl) rfl rfl ?_
                  clear E; clear a; intro a E
                  refine st_val E (wn rfl) rfl rfl (x_pickT E rfl rfl hb38 rfl) ?_
                  clear E; clear a; intro a E
                  refine wpList_nil ?_
                  refine q_then ?_
                  exact ⟨true, _, (((((E.nil.keep E 46 rfl).keep E 5 rfl).keep E 4 rfl).keep E 3 rfl).keep E 0 rfl), H, fun r hr => .tail _ (.tail _ (.tail _ (.tail _ (hs14 r hr)))), (.tail _ (.tail _ (.tail _ (.tail _ hr15)))), hm⟩
                · rw [if_f hb38] at hm
                  refine st_val E (ws' E rfl rfl rfl rfl hb38) rfl rfl (x_move E rfl rfl) ?_
                  clear E; clear a; intro a E
                  refine st_val E (ws' E rfl rfl rfl rfl hb38) rfl rfl (x_move E rfl rfl) ?_
                  clear E; clear a; intro a E
                  obtain ⟨x39, hx40, hm⟩ := bnd hm
                  refine st_ixS E H (ws' E rfl rfl rfl rfl hb38) rfl rfl rfl rfl rfl (.tail _ (.tail _ (.tail _ (.tail _ hr15)))) Try.underlying63 sz70 hx40 ?_
                  clear E H; clear a; intro q41 a H E
                  replace H := H.derive1 (.head _) (rAt (kI .i64) (q41.add 1) x39.N) (fun ok h => k_cantonlaw02_Item_at1 h)
                  refine st_val E (ws' E rfl rfl rfl rfl hb38) rfl rfl (x_fa E rfl rfl (fa70_1 _ _)) ?_
                  clear E; clear a; intro a E
                  refine st_val E (ws' E rfl rfl rfl rfl hb38) rfl rfl (x_ldA E H rfl rfl (.head _) Try.underlying2 rfl) ?_
                  clear E; clear a; intro a E
                  refine st_val E (ws' E rfl rfl rfl rfl hb38) rfl rfl (x_bin E rfl rfl rfl rfl) ?_
                  clear E; clear a; intro a E
                  refine st_val E (wn rfl) rfl rfl (x_pickF E rfl rfl hb38 rfl) ?_
                  clear E; clear a; intro a E
                  refine wpList_nil ?_
                  refine q_then ?_
                  exact ⟨decide (x39.N > 281474976710656), _, (((((E.nil.keep E 46 rfl).keep E 5 rfl).keep E 4 rfl).keep E 3 rfl).keep E 0 rfl), H, fun r hr => .tail _ (.tail _ (.tail _ (.tail _ (.tail _ (.tail _ (hs14 r hr)))))), (.tail _ (.tail _ (.tail _ (.tail _ (.tail _ (.tail _ hr15)))))), hm⟩
              · clear E H hm
                rintro a w ⟨b25, rs26, E, H, hs27, hr28, hm⟩
                unfold m_cantonlaw02_PackBack_j2 at hm
                refine wp_if E rfl ?_ ?_
                · intro hb
                  rw [if_t hb] at hm
                  clear hb
                  refine wp_seq ?_
                  refine wp_region_lit ?_
                  refine st_val E (wn rfl) rfl rfl (x_move E rfl rfl) ?_
                  clear E; clear a; intro a E
                  refine st_val E (wn rfl) rfl rfl (x_assign E rfl rfl) ?_
                  clear E; clear a; intro a E
                  refine wpList_nil ?_
                  refine q_then ?_
                  refine wp_ret ?_
                  refine q_thenR ?_
                  refine q_blkR ?_
                  refine q_blkR ?_
                  refine q_thenR ?_
                  refine q_thenR ?_
                  refine q_blkR ?_
                  refine q_thenR ?_
                  refine out1 E rfl rfl ?_
                  replace H := H.drop 0
                  replace H := H.drop 0
                  obtain rfl := Option.some.inj hm
                  exact ⟨rfl, H.reads (fun r hr => hs27 r hr)⟩
                · intro hb
                  rw [if_f hb] at hm
                  clear hb
                  refine wp_skip ?_
                  refine q_then ?_
                  refine wp_region_lit ?_
                  refine st_val E (wn rfl) rfl rfl (x_move E rfl rfl) ?_
                  clear E; clear a; intro a E
                  refine st_val E (wn rfl) rfl rfl (x_move E rfl rfl) ?_
                  clear E; clear a; intro a E
                  refine st_val E (wn rfl) rfl rfl (x_move E rfl rfl) ?_
                  clear E; clear a; intro a E
                  obtain ⟨x29, hx30, hm⟩ := bnd hm
                  refine st_ixS E H (wn rfl) rfl rfl rfl rfl rfl hr28 Try.underlying63 sz70 hx30 ?_
                  clear E H; clear a; intro q31 a H E
                  replace H := H.derive1 (.head _) (rAt (kI .i64) (q31.add 1) x29.N) (fun ok h => k_cantonlaw02_Item_at1 h)
                  refine st_val E (wn rfl) rfl rfl (x_fa E rfl rfl (fa70_1 _ _)) ?_
                  clear E; clear a; intro a E
                  refine st_val E (wn rfl) rfl rfl (x_ldA E H rfl rfl (.head _) Try.underlying2 rfl) ?_
                  clear E; clear a; intro a E
                  replace H : Sep w (Blk p8 51 [v10, .bool b12] :: Row 5 (kI .u8) v10 l11 :: Fo) (rAt (kI .i64) (q31.add 1) x29.N :: rAt k_cantonlaw02_Item q31 x29 :: rs26) := H
                  obtain ⟨u32, hx33, hm⟩ := bnd hm
                  refine st_call E (wn rfl) rfl rfl (x_call E rfl rfl (cf33 _)) (c_pack_Writer_Num p8 v10 l11 b12 x29.N H hx33) ?_
                  clear E H; clear a; clear w; rintro _ w ⟨v34, rfl, H⟩ a E
                  refine wpList_nil ?_
                  refine q_blk ?_
                  refine q_blk ?_
                  refine q_then ?_
                  exact ⟨v34, u32.1, u32.2, _, ((((E.nil.keep E 5 rfl).keep E 4 rfl).keep E 3 rfl).keep E 0 rfl), H, fun r hr => .tail _ (.tail _ (hs27 r hr)), (.tail _ (.tail _ hr28)), hm⟩
            · intro hb
              rw [if_f hb] at hm
              clear hb
              refine wp_seq ?_
              refine wp_region_lit ?_
              refine st_val E (wn rfl) rfl rfl (x_bin E rfl rfl rfl rfl) ?_
              clear E; clear a; intro a E
              refine st_val E (wn rfl) rfl rfl (x_assign E rfl rfl) ?_
              clear E; clear a; intro a E
              refine wpList_nil ?_
              refine q_then ?_
              refine wp_if E rfl ?_ ?_
              · intro hb
                rw [if_t hb] at hm
                clear hb
                refine wp_region_lit ?_
                refine st_val E (wn rfl) rfl rfl (x_move E rfl rfl) ?_
                clear E; clear a; intro a E
                refine st_val E (wn rfl) rfl rfl (x_move E rfl rfl) ?_
                clear E; clear a; intro a E
                refine st_val E (wn rfl) rfl rfl (x_move E rfl rfl) ?_
                clear E; clear a; intro a E
                obtain ⟨x42, hx43, hm⟩ := bnd hm
                refine st_ixS E H (wn rfl) rfl rfl rfl rfl rfl (.tail _ (.tail _ hr15)) Try.underlying63 sz70 hx43 ?_
                clear E H; clear a; intro q44 a H E
                replace H := H.derive1 (.head _) (rAt kS (q44.add 2) x42.S) (fun ok h => k_cantonlaw02_Item_at2 h)
                refine st_val E (wn rfl) rfl rfl (x_fa E rfl rfl (fa70_2 _ _)) ?_
                clear E; clear a; intro a E
                refine st_val E (wn rfl) rfl rfl (x_ldA E H rfl rfl (.head _) Try.underlying9 rfl) ?_
                clear E; clear a; intro a E
                replace H : Sep w (Blk p8 51 [v10, .bool b12] :: Row 5 (kI .u8) v10 l11 :: Fo) (rAt kS (q44.add 2) x42.S :: rAt k_cantonlaw02_Item q44 x42 :: rAt (kI .i64) (q24.add 0) x22.What :: rAt k_cantonlaw02_Item q24 x22 :: rs13) := H
                obtain ⟨u45, hx46, hm⟩ := bnd hm
                refine st_call E (wn rfl) rfl rfl (x_call E rfl rfl (cf35 _)) (c_pack_Writer_Text p8 v10 l11 b12 x42.S H hx46) ?_
                clear E H; clear a; clear w; rintro _ w ⟨v47, rfl, H⟩ a E
                refine wpList_nil ?_
                refine q_blk ?_
                refine q_blk ?_
                refine q_then ?_
                exact ⟨v47, u45.1, u45.2, _, ((((E.nil.keep E 5 rfl).keep E 4 rfl).keep E 3 rfl).keep E 0 rfl), H, fun r hr => .tail _ (.tail _ (.tail _ (.tail _ (hs14 r hr)))), (.tail _ (.tail _ (.tail _ (.tail _ hr15)))), hm⟩
              · intro hb
                rw [if_f hb] at hm
                clear hb
                refine wp_seq ?_
                refine wp_region_lit ?_
                refine st_val E (wn rfl) rfl rfl (x_bin E rfl rfl rfl rfl) ?_
                clear E; clear a; intro a E
                refine st_val E (wn rfl) rfl rfl (x_assign E rfl rfl) ?_
                clear E; clear a; intro a E
                refine wpList_nil ?_
                refine q_then ?_
                refine wp_if E rfl ?_ ?_
                · intro hb
                  rw [if_t hb] at hm
                  clear hb
                  refine wp_region_lit ?_
                  refine st_val E (wn rfl) rfl rfl (x_move E rfl rfl) ?_
                  clear E; clear a; intro a E
                  refine st_val E (wn rfl) rfl rfl (x_move E rfl rfl) ?_
                  clear E; clear a; intro a E
                  refine st_val E (wn rfl) rfl rfl (x_move E rfl rfl) ?_
                  clear E; clear a; intro a E
                  obtain ⟨x48, hx49, hm⟩ := bnd hm
                  refine st_ixS E H (wn rfl) rfl rfl rfl rfl rfl (.tail _ (.tail _ hr15)) Try.underlying63 sz70 hx49 ?_
                  clear E H; clear a; intro q50 a H E
                  replace H := H.derive1 (.head _) (rAt (kL kS) (q50.add 3) x48.L) (fun ok h => k_cantonlaw02_Item_at3 h)
                  refine st_val E (wn rfl) rfl rfl (x_fa E rfl rfl (fa70_3 _ _)) ?_
                  clear E; clear a; intro a E
                  refine st_ldL E H (wn rfl) rfl rfl rfl rfl (.head _) Try.underlying68 rfl ?_
                  clear E H; clear a; intro v51 a H E
                  replace H : Sep w (Blk p8 51 [v10, .bool b12] :: Row 5 (kI .u8) v10 l11 :: Fo) (rSl kS v51 x48.L :: rAt (kL kS) (q50.add 3) x48.L :: rAt k_cantonlaw02_Item q50 x48 :: rAt (kI .i64) (q24.add 0) x22.What :: rAt k_cantonlaw02_Item q24 x22 :: rs13) := H
                  obtain ⟨u52, hx53, hm⟩ := bnd hm
                  refine st_call E (wn rfl) rfl rfl (x_call E rfl rfl (cf40 _)) (c_pack_Writer_Texts p8 v10 l11 b12 v51 x48.L H (.head _) hx53) ?_
                  clear E H; clear a; clear w; rintro _ w ⟨v54, rfl, H⟩ a E
                  refine wpList_nil ?_
                  refine q_blk ?_
                  refine q_blk ?_
                  refine q_then ?_
                  exact ⟨v54, u52.1, u52.2, _, ((((E.nil.keep E 5 rfl).keep E 4 rfl).keep E 3 rfl).keep E 0 rfl), H, fun r hr => .tail _ (.tail _ (.tail _ (.tail _ (.tail _ (hs14 r hr))))), (.tail _ (.tail _ (.tail _ (.tail _ (.tail _ hr15))))), hm⟩
                · intro hb
                  rw [if_f hb] at hm
                  clear hb
                  refine wp_skip ?_
                  refine q_blk ?_
                  refine q_blk ?_
                  refine q_then ?_
                  exact ⟨v10, l11, b12, _, ((((E.nil.keep E 5 rfl).keep E 4 rfl).keep E 3 rfl).keep E 0 rfl), H, fun r hr => .tail _ (.tail _ (hs14 r hr)), (.tail _ (.tail _ hr15)), hm⟩
          · clear E H hm
            rintro a w ⟨v16, l17, b18, rs19, E, H, hs20, hr21, hm⟩
            unfold m_cantonlaw02_PackBack_j1 at hm
            refine wp_region_lit ?_
            refine st_val E (wn rfl) rfl rfl (x_move E rfl rfl) ?_
            clear E; clear a; intro a E
            refine st_val E (wn rfl) rfl rfl (x_bin E rfl rfl rfl rfl) ?_
            clear E; clear a; intro a E
            refine st_val E (wn rfl) rfl rfl (x_assign E rfl rfl) ?_
            clear E; clear a; intro a E
            refine wpList_nil ?_
            refine q_then ?_
            exact ⟨k1, Nat.lt_succ_self k1, v16, IntKind.i64.wrap (x9 + 1), l17, b18, _, ((((E.nil.keep E 5 rfl).keep E 4 rfl).keep E 3 rfl).keep E 0 rfl), H, hs20, hr21, hm⟩
        · intro hb
          rw [if_f hb] at hm
          clear hb
          refine wp_exit ?_
          refine q_thenX ?_
          refine q_thenX ?_
          refine q_hit ?_
          refine q_then ?_
          refine wp_seq ?_
          refine wp_region_lit ?_
          refine st_val E (wn rfl) rfl rfl (x_move E rfl rfl) ?_
          clear E; clear a; intro a E
          replace H : Sep w (Blk p8 51 [v10, .bool b12] :: Row 5 (kI .u8) v10 l11 :: Fo) (rs13) := H
          obtain ⟨u55, hx56, hm⟩ := bnd hm
          refine st_call E (wn rfl) rfl rfl (x_call E rfl rfl (cf34 _)) (c_pack_Writer_Bytes p8 v10 l11 b12 H hx56) ?_
          clear E H; clear a; clear w; rintro _ w ⟨v57, rfl, H⟩ a E
          refine st_val E (wn rfl) rfl rfl (x_move E rfl rfl) ?_
          clear E; clear a; intro a E
          refine st_val E (wn rfl) rfl rfl (x_ext E rfl rfl rfl) ?_
          clear E; clear a; intro a E
          refine st_val E (wn rfl) rfl rfl (x_ext E rfl rfl rfl) ?_
          clear E; clear a; intro a E
          refine st_val E (wn rfl) rfl rfl (x_assign E rfl rfl) ?_
          clear E; clear a; intro a E
          refine st_val E (wn rfl) rfl rfl (x_assign E rfl rfl) ?_
          clear E; clear a; intro a E
          refine wpList_nil ?_
          refine q_then ?_
          refine wp_seq ?_
          refine wp_region_lit ?_
          refine st_val E (wn rfl) rfl rfl (x_move E rfl rfl) ?_
          clear E; clear a; intro a E
          replace H := H.thaw (i := 0) rfl
          replace H : Sep w (Blk p8 51 [v10, .bool b12] :: Row 5 (kI .u8) v10 l11 :: Fo) (rSl (kI .u8) v57 u55.1 :: rs13) := H
          obtain ⟨u58, hx59, hm⟩ := bnd hm
          refine st_call E (wn rfl) rfl rfl (x_call E rfl rfl (cf29 _)) (c_pack_New v57 u55.1 H (.head _) hx59) ?_
          clear E H; clear a; clear w; rintro _ w ⟨p60, v61, rfl, H⟩ a E
          refine st_val E (wn rfl) rfl rfl (x_assign E rfl rfl) ?_
          clear E; clear a; intro a E
          refine wpList_nil ?_
          refine q_then ?_
          refine wp_seq ?_
          refine wp_seq ?_
          refine wp_region_lit ?_
          refine st_val E (wn rfl) rfl rfl (x_move E rfl rfl) ?_
          clear E; clear a; intro a E
          refine st_val E (wn rfl) rfl rfl (x_bin2 E rfl rfl rfl (v := .bool false) (by kernel_rfl)) ?_
          clear E; clear a; intro a E
          refine st_val E (wn rfl) rfl rfl (x_move E rfl rfl) ?_
          clear E; clear a; intro a E
          refine st_val E (ws E rfl rfl rfl rfl) rfl rfl (x_move E rfl rfl) ?_
          clear E; clear a; intro a E
          refine st_val E (ws E rfl rfl rfl rfl) rfl rfl (x_bin E rfl rfl rfl rfl) ?_
          clear E; clear a; intro a E
          refine st_val E (wn rfl) rfl rfl (x_pickF E rfl rfl rfl rfl) ?_
          clear E; clear a; intro a E
          refine wpList_nil ?_
          refine q_then ?_
          refine wp_if E rfl ?_ ?_
          · intro hb
            rw [if_t hb] at hm
            clear hb
            refine wp_seq ?_
            refine wp_region_lit ?_
            refine st_val E (wn rfl) rfl rfl (x_assign E rfl rfl) ?_
            clear E; clear a; intro a E
            refine wpList_nil ?_
            refine q_then ?_
            refine wp_ret ?_
            refine q_thenR ?_
            refine out1 E rfl rfl ?_
            replace H := H.drop 0
            replace H := H.drop 0
            replace H := H.drop 0
            replace H := H.drop 0
            obtain rfl := Option.some.inj hm
            exact ⟨rfl, H.reads (fun r hr => .tail _ (hs14 r hr))⟩
          · intro hb
            rw [if_f hb] at hm
            clear hb
            refine wp_skip ?_
            refine q_then ?_
            refine wp_seq ?_
            refine wp_seq ?_
            refine wp_region_lit ?_
            refine st_val E (wn rfl) rfl rfl (x_assign E rfl rfl) ?_
            clear E; clear a; intro a E
            refine wpList_nil ?_
            refine q_then ?_
            refine wp_block ?_
            refine wp_loop_g (fun k2 a w => ∃ (v63 : Value) (x62 : Int) (l64 : (List Int)) (x65 : Int) (rs66 : List Rp), Env 149 a [(0, v1), (3, .bool u4), (8, .pointer (some ⟨p60, 0, none⟩)), (9, .int .i64 x62)] ∧ Sep w (Blk p60 91 [v63, .int .i64 x65] :: Fo) rs66 ∧ (∀ r, r ∈ rs → r ∈ rs66) ∧ rSl k_cantonlaw02_Item v1 l2 ∈ rs66 ∧ rSl (kI .u8) v63 l64 ∈ rs66 ∧ m_cantonlaw02_PackBack_l2 l2 u4 k2 x62 l64 x65 = some r) (((l2.length : Int) - 0 : Int).toNat + 1) ?_ ?_
            · replace H := H.thaw (i := 1) rfl
              replace H := H.drop 1
              replace H := H.drop 1
              exact ⟨v61, 0, u58, 0, _, ((((E.nil.keep E 9 rfl).keep E 8 rfl).keep E 3 rfl).keep E 0 rfl), H, fun r hr => .tail _ (.tail _ (hs14 r hr)), (.tail _ (.tail _ hr15)), (.head _), hm⟩
            · clear E H hm
              rintro k2 a w ⟨v63, x62, l64, x65, rs66, E, H, hs67, hr68, hr69, hm⟩
              cases k2 with
              | zero => exact (none_some hm rfl).elim
              | succ k2 =>
                unfold m_cantonlaw02_PackBack_l2 at hm
                refine wp_seq ?_
                refine wp_seq ?_
                refine wp_region_lit ?_
                refine st_val E (wn rfl) rfl rfl (x_move E rfl rfl) ?_
                clear E; clear a; intro a E
                refine st_val E (wn rfl) rfl rfl (x_move E rfl rfl) ?_
                clear E; clear a; intro a E
                refine st_val E (wn rfl) rfl rfl (x_lenS E H rfl rfl hr68 Try.underlying63) ?_
                clear E; clear a; intro a E
                refine st_val E (wn rfl) rfl rfl (x_bin E rfl rfl rfl rfl) ?_
                clear E; clear a; intro a E
                refine wpList_nil ?_
                refine q_then ?_
                refine wp_if E rfl ?_ ?_
                · intro hb
                  rw [if_t hb] at hm
                  clear hb
                  refine wp_skip ?_
                  refine q_then ?_
                  refine wp_seq_cut (fun a w => ∃ (v70 : Value) (l71 : (List Int)) (x72 : Int) (rs73 : List Rp), Env 149 a [(0, v1), (3, .bool u4), (8, .pointer (some ⟨p60, 0, none⟩)), (9, .int .i64 x62)] ∧ Sep w (Blk p60 91 [v70, .int .i64 x72] :: Fo) rs73 ∧ (∀ r, r ∈ rs → r ∈ rs73) ∧ rSl k_cantonlaw02_Item v1 l2 ∈ rs73 ∧ rSl (kI .u8) v70 l71 ∈ rs73 ∧ m_cantonlaw02_PackBack_j3 (m_cantonlaw02_PackBack_l2 l2 u4 k2) x62 l71 x72 = some r) ?_ ?_
                  · refine wp_block ?_
                    refine wp_seq ?_
                    refine wp_region_lit ?_
                    refine st_val E (wn rfl) rfl rfl (x_move E rfl rfl) ?_
                    clear E; clear a; intro a E
                    refine st_val E (wn rfl) rfl rfl (x_move E rfl rfl) ?_
                    clear E; clear a; intro a E
                    obtain ⟨x77, hx78, hm⟩ := bnd hm
                    refine st_ixS E H (wn rfl) rfl rfl rfl rfl rfl hr68 Try.underlying63 sz70 hx78 ?_
                    clear E H; clear a; intro q79 a H E
                    replace H := H.derive1 (.head _) (rAt (kI .i64) (q79.add 0) x77.What) (fun ok h => k_cantonlaw02_Item_at0 h)
                    refine st_val E (wn rfl) rfl rfl (x_fa E rfl rfl (fa70_0 _ _)) ?_
                    clear E; clear a; intro a E
                    refine st_val E (wn rfl) rfl rfl (x_ldA E H rfl rfl (.head _) Try.underlying3 rfl) ?_
                    clear E; clear a; intro a E
                    refine wpList_nil ?_
                    refine q_then ?_
                    refine wp_block ?_
                    refine wp_seq ?_
                    refine wp_region_lit ?_
                    refine st_val E (wn rfl) rfl rfl (x_bin E rfl rfl rfl rfl) ?_
                    clear E; clear a; intro a E
                    refine st_val E (wn rfl) rfl rfl (x_assign E rfl rfl) ?_
                    clear E; clear a; intro a E
                    refine wpList_nil ?_
                    refine q_then ?_
                    refine wp_if E rfl ?_ ?_
                    · intro hb
                      rw [if_t hb] at hm
                      clear hb
                      refine wp_seq ?_
                      refine wp_region_lit ?_
                      refine st_val E (wn rfl) rfl rfl (x_move E rfl rfl) ?_
                      clear E; clear a; intro a E
                      refine st_val E (wn rfl) rfl rfl (x_move E rfl rfl) ?_
                      clear E; clear a; intro a E
                      refine st_val E (wn rfl) rfl rfl (x_move E rfl rfl) ?_
                      clear E; clear a; intro a E
                      obtain ⟨x80, hx81, hm⟩ := bnd hm
                      refine st_ixS E H (wn rfl) rfl rfl rfl rfl rfl (.tail _ (.tail _ hr68)) Try.underlying63 sz70 hx81 ?_
                      clear E H; clear a; intro q82 a H E
                      replace H := H.derive1 (.head _) (rAt (kI .i64) (q82.add 1) x80.N) (fun ok h => k_cantonlaw02_Item_at1 h)
                      refine st_val E (wn rfl) rfl rfl (x_fa E rfl rfl (fa70_1 _ _)) ?_
                      clear E; clear a; intro a E
                      refine st_val E (wn rfl) rfl rfl (x_ldA E H rfl rfl (.head _) Try.underlying2 rfl) ?_
                      clear E; clear a; intro a E
                      replace H : Sep w (Blk p60 91 [v63, .int .i64 x65] :: Fo) (rAt (kI .i64) (q82.add 1) x80.N :: rAt k_cantonlaw02_Item q82 x80 :: rAt (kI .i64) (q79.add 0) x77.What :: rAt k_cantonlaw02_Item q79 x77 :: rs66) := H
                      obtain ⟨u83, hx84, hm⟩ := bnd hm
                      refine st_call E (wn rfl) rfl rfl (x_call E rfl rfl (cf32 _)) (c_pack_Reader_Num p60 v63 l64 x65 x80.N H (.tail _ (.tail _ (.tail _ (.tail _ hr69)))) hx84) ?_
                      clear E H; clear a; clear w; rintro _ w ⟨v85, rfl, H⟩ a E
                      refine st_val E (wn rfl) rfl rfl (x_assign E rfl rfl) ?_
                      clear E; clear a; intro a E
                      refine wpList_nil ?_
                      refine q_then ?_
                      refine wp_seq ?_
                      refine wp_region_lit ?_
                      refine st_val E (wn rfl) rfl rfl (x_move E rfl rfl) ?_
                      clear E; clear a; intro a E
                      refine st_val E (wn rfl) rfl rfl (x_move E rfl rfl) ?_
                      clear E; clear a; intro a E
                      refine st_val E (wn rfl) rfl rfl (x_move E rfl rfl) ?_
                      clear E; clear a; intro a E
                      obtain ⟨x86, hx87, hm⟩ := bnd hm
                      refine st_ixS E H (wn rfl) rfl rfl rfl rfl rfl (.tail _ (.tail _ (.tail _ (.tail _ (.tail _ hr68))))) Try.underlying63 sz70 hx87 ?_
                      clear E H; clear a; intro q88 a H E
                      replace H := H.derive1 (.head _) (rAt (kI .i64) (q88.add 1) x86.N) (fun ok h => k_cantonlaw02_Item_at1 h)
                      refine st_val E (wn rfl) rfl rfl (x_fa E rfl rfl (fa70_1 _ _)) ?_
                      clear E; clear a; intro a E
                      refine st_val E (wn rfl) rfl rfl (x_ldA E H rfl rfl (.head _) Try.underlying2 rfl) ?_
                      clear E; clear a; intro a E
                      refine st_val E (wn rfl) rfl rfl (x_bin E rfl rfl rfl rfl) ?_
                      clear E; clear a; intro a E
                      refine wpList_nil ?_
                      refine q_then ?_
                      refine wp_if E rfl ?_ ?_
                      · intro hb
                        rw [if_t hb] at hm
                        clear hb
                        refine wp_seq ?_
                        refine wp_region_lit ?_
                        refine st_val E (wn rfl) rfl rfl (x_assign E rfl rfl) ?_
                        clear E; clear a; intro a E
                        refine wpList_nil ?_
                        refine q_then ?_
                        refine wp_ret ?_
                        refine q_blkR ?_
                        refine q_blkR ?_
                        refine q_thenR ?_
                        refine q_thenR ?_
                        refine q_blkR ?_
                        refine q_thenR ?_
                        refine out1 E rfl rfl ?_
                        replace H := H.drop 0
                        obtain rfl := Option.some.inj hm
                        exact ⟨rfl, H.reads (fun r hr => .tail _ (.tail _ (.tail _ (.tail _ (.tail _ (.tail _ (.tail _ (hs67 r hr))))))))⟩
                      · intro hb
                        rw [if_f hb] at hm
                        clear hb
                        refine wp_skip ?_
                        refine q_blk ?_
                        refine q_blk ?_
                        refine q_then ?_
                        exact ⟨v85, u83.2.1, u83.2.2, _, ((((E.nil.keep E 9 rfl).keep E 8 rfl).keep E 3 rfl).keep E 0 rfl), H, fun r hr => .tail _ (.tail _ (.tail _ (.tail _ (.tail _ (.tail _ (.tail _ (hs67 r hr))))))), (.tail _ (.tail _ (.tail _ (.tail _ (.tail _ (.tail _ (.tail _ hr68))))))), (.tail _ (.tail _ (.head _))), hm⟩
                    · intro hb
                      rw [if_f hb] at hm
                      clear hb
                      refine wp_seq ?_
                      refine wp_region_lit ?_
                      refine st_val E (wn rfl) rfl rfl (x_bin E rfl rfl rfl rfl) ?_
                      clear E; clear a; intro a E
                      refine st_val E (wn rfl) rfl rfl (x_assign E rfl rfl) ?_
                      clear E; clear a; intro a E
                      refine wpList_nil ?_
                      refine q_then ?_
                      refine wp_if E rfl ?_ ?_
                      · intro hb
                        rw [if_t hb] at hm
                        clear hb
                        refine wp_seq ?_
                        refine wp_region_lit ?_
                        refine st_val E (wn rfl) rfl rfl (x_move E rfl rfl) ?_
                        clear E; clear a; intro a E
                        replace H : Sep w (Blk p60 91 [v63, .int .i64 x65] :: Fo) (rAt (kI .i64) (q79.add 0) x77.What :: rAt k_cantonlaw02_Item q79 x77 :: rs66) := H
                        obtain ⟨u89, hx90, hm⟩ := bnd hm
                        refine st_call E (wn rfl) rfl rfl (x_call E rfl rfl (cf36 _)) (c_pack_Reader_Text p60 v63 l64 x65 H (.tail _ (.tail _ hr69)) hx90) ?_
                        clear E H; clear a; clear w; rintro _ w ⟨v91, rfl, H⟩ a E
                        refine st_val E (wn rfl) rfl rfl (x_assign E rfl rfl) ?_
                        clear E; clear a; intro a E
                        refine wpList_nil ?_
                        refine q_then ?_
                        refine wp_seq ?_
                        refine wp_region_lit ?_
                        refine st_val E (wn rfl) rfl rfl (x_move E rfl rfl) ?_
                        clear E; clear a; intro a E
                        refine st_val E (wn rfl) rfl rfl (x_move E rfl rfl) ?_
                        clear E; clear a; intro a E
                        refine st_val E (wn rfl) rfl rfl (x_move E rfl rfl) ?_
                        clear E; clear a; intro a E
                        obtain ⟨x92, hx93, hm⟩ := bnd hm
                        refine st_ixS E H (wn rfl) rfl rfl rfl rfl rfl (.tail _ (.tail _ (.tail _ hr68))) Try.underlying63 sz70 hx93 ?_
                        clear E H; clear a; intro q94 a H E
                        replace H := H.derive1 (.head _) (rAt kS (q94.add 2) x92.S) (fun ok h => k_cantonlaw02_Item_at2 h)
                        refine st_val E (wn rfl) rfl rfl (x_fa E rfl rfl (fa70_2 _ _)) ?_
                        clear E; clear a; intro a E
                        refine st_val E (wn rfl) rfl rfl (x_ldA E H rfl rfl (.head _) Try.underlying9 rfl) ?_
                        clear E; clear a; intro a E
                        refine st_val E (wn rfl) rfl rfl (x_str E rfl rfl rfl rfl) ?_
                        clear E; clear a; intro a E
                        refine wpList_nil ?_
                        refine q_then ?_
                        refine wp_if E rfl ?_ ?_
                        · intro hb
                          rw [if_t hb] at hm
                          clear hb
                          refine wp_seq ?_
                          refine wp_region_lit ?_
                          refine st_val E (wn rfl) rfl rfl (x_assign E rfl rfl) ?_
                          clear E; clear a; intro a E
                          refine wpList_nil ?_
                          refine q_then ?_
                          refine wp_ret ?_
                          refine q_blkR ?_
                          refine q_blkR ?_
                          refine q_thenR ?_
                          refine q_thenR ?_
                          refine q_blkR ?_
                          refine q_thenR ?_
                          refine out1 E rfl rfl ?_
                          replace H := H.drop 0
                          obtain rfl := Option.some.inj hm
                          exact ⟨rfl, H.reads (fun r hr => .tail _ (.tail _ (.tail _ (.tail _ (.tail _ (hs67 r hr))))))⟩
                        · intro hb
                          rw [if_f hb] at hm
                          clear hb
                          refine wp_skip ?_
                          refine q_blk ?_
                          refine q_blk ?_
                          refine q_then ?_
                          exact ⟨v91, u89.2.1, u89.2.2, _, ((((E.nil.keep E 9 rfl).keep E 8 rfl).keep E 3 rfl).keep E 0 rfl), H, fun r hr => .tail _ (.tail _ (.tail _ (.tail _ (.tail _ (hs67 r hr))))), (.tail _ (.tail _ (.tail _ (.tail _ (.tail _ hr68))))), (.tail _ (.tail _ (.head _))), hm⟩
                      · intro hb
                        rw [if_f hb] at hm
                        clear hb
                        refine wp_seq ?_
                        refine wp_region_lit ?_
                        refine st_val E (wn rfl) rfl rfl (x_bin E rfl rfl rfl rfl) ?_
                        clear E; clear a; intro a E
                        refine st_val E (wn rfl) rfl rfl (x_assign E rfl rfl) ?_
                        clear E; clear a; intro a E
                        refine wpList_nil ?_
                        refine q_then ?_
                        refine wp_if E rfl ?_ ?_
                        · intro hb
                          rw [if_t hb] at hm
                          clear hb
                          refine wp_seq ?_
                          refine wp_region_lit ?_
                          refine st_val E (wn rfl) rfl rfl (x_move E rfl rfl) ?_
                          clear E; clear a; intro a E
                          replace H : Sep w (Blk p60 91 [v63, .int .i64 x65] :: Fo) (rAt (kI .i64) (q79.add 0) x77.What :: rAt k_cantonlaw02_Item q79 x77 :: rs66) := H
                          obtain ⟨u95, hx96, hm⟩ := bnd hm
                          refine st_call E (wn rfl) rfl rfl (x_call E rfl rfl (cf46 _)) (c_pack_Reader_Texts p60 v63 l64 x65 H (.tail _ (.tail _ hr69)) hx96) ?_
                          clear E H; clear a; clear w; rintro _ w ⟨v97, v98, rfl, H⟩ a E
                          refine st_val E (wn rfl) rfl rfl (x_assign E rfl rfl) ?_
                          clear E; clear a; intro a E
                          refine wpList_nil ?_
                          refine q_then ?_
                          refine wp_seq ?_
                          refine wp_region_lit ?_
                          refine st_val E (wn rfl) rfl rfl (x_move E rfl rfl) ?_
                          clear E; clear a; intro a E
                          refine st_val E (wn rfl) rfl rfl (x_move E rfl rfl) ?_
                          clear E; clear a; intro a E
                          refine st_val E (wn rfl) rfl rfl (x_move E rfl rfl) ?_
                          clear E; clear a; intro a E
                          obtain ⟨x99, hx100, hm⟩ := bnd hm
                          refine st_ixS E H (wn rfl) rfl rfl rfl rfl rfl (.tail _ (.tail _ (.tail _ hr68))) Try.underlying63 sz70 hx100 ?_
                          clear E H; clear a; intro q101 a H E
                          replace H := H.derive1 (.head _) (rAt (kL kS) (q101.add 3) x99.L) (fun ok h => k_cantonlaw02_Item_at3 h)
                          refine st_val E (wn rfl) rfl rfl (x_fa E rfl rfl (fa70_3 _ _)) ?_
                          clear E; clear a; intro a E
                          refine st_ldL E H (wn rfl) rfl rfl rfl rfl (.head _) Try.underlying68 rfl ?_
                          clear E H; clear a; intro v102 a H E
                          replace H := H.thaw (i := 0) rfl
                          replace H : Sep w (Blk p60 91 [v98, .int .i64 u95.2.2] :: Fo) (rSl kS v97 u95.1 :: rSl kS v102 x99.L :: rAt (kL kS) (q101.add 3) x99.L :: rAt k_cantonlaw02_Item q101 x99 :: rSl (kI .u8) v98 u95.2.1 :: rAt (kI .i64) (q79.add 0) x77.What :: rAt k_cantonlaw02_Item q79 x77 :: rs66) := H
                          obtain ⟨u103, hx104, hm⟩ := bnd hm
                          refine st_call E (wn rfl) rfl rfl (x_call E rfl rfl (cf48 _)) (c_cantonref01_Same v97 u95.1 v102 x99.L H (.head _) (.tail _ (.head _)) hx104) ?_
                          clear E H; clear a; clear w; rintro _ w ⟨rfl, H⟩ a E
                          refine st_val E (wn rfl) rfl rfl (x_not E rfl rfl) ?_
                          clear E; clear a; intro a E
                          refine wpList_nil ?_
                          refine q_then ?_
                          refine wp_if E rfl ?_ ?_
                          · intro hb
                            rw [if_t hb] at hm
                            clear hb
                            refine wp_seq ?_
                            refine wp_region_lit ?_
                            refine st_val E (wn rfl) rfl rfl (x_assign E rfl rfl) ?_
                            clear E; clear a; intro a E
                            refine wpList_nil ?_
                            refine q_then ?_
                            refine wp_ret ?_
                            refine q_blkR ?_
                            refine q_blkR ?_
                            refine q_thenR ?_
                            refine q_thenR ?_
                            refine q_blkR ?_
                            refine q_thenR ?_
                            refine out1 E rfl rfl ?_
                            replace H := H.drop 0
                            obtain rfl := Option.some.inj hm
                            exact ⟨rfl, H.reads (fun r hr => .tail _ (.tail _ (.tail _ (.tail _ (.tail _ (.tail _ (.tail _ (hs67 r hr))))))))⟩
                          · intro hb
                            rw [if_f hb] at hm
                            clear hb
                            refine wp_skip ?_
                            refine q_blk ?_
                            refine q_blk ?_
                            refine q_then ?_
                            exact ⟨v98, u95.2.1, u95.2.2, _, ((((E.nil.keep E 9 rfl).keep E 8 rfl).keep E 3 rfl).keep E 0 rfl), H, fun r hr => .tail _ (.tail _ (.tail _ (.tail _ (.tail _ (.tail _ (.tail _ (hs67 r hr))))))), (.tail _ (.tail _ (.tail _ (.tail _ (.tail _ (.tail _ (.tail _ hr68))))))), (.tail _ (.tail _ (.tail _ (.tail _ (.head _))))), hm⟩
                        · intro hb
                          rw [if_f hb] at hm
                          clear hb
                          refine wp_skip ?_
                          refine q_blk ?_
                          refine q_blk ?_
                          refine q_then ?_
                          exact ⟨v63, l64, x65, _, ((((E.nil.keep E 9 rfl).keep E 8 rfl).keep E 3 rfl).keep E 0 rfl), H, fun r hr => .tail _ (.tail _ (hs67 r hr)), (.tail _ (.tail _ hr68)), (.tail _ (.tail _ hr69)), hm⟩
                  · clear E H hm
                    rintro a w ⟨v70, l71, x72, rs73, E, H, hs74, hr75, hr76, hm⟩
                    unfold m_cantonlaw02_PackBack_j3 at hm
                    refine wp_region_lit ?_
                    refine st_val E (wn rfl) rfl rfl (x_move E rfl rfl) ?_
                    clear E; clear a; intro a E
                    refine st_val E (wn rfl) rfl rfl (x_bin E rfl rfl rfl rfl) ?_
                    clear E; clear a; intro a E
                    refine st_val E (wn rfl) rfl rfl (x_assign E rfl rfl) ?_
                    clear E; clear a; intro a E
                    refine wpList_nil ?_
                    refine q_then ?_
                    exact ⟨k2, Nat.lt_succ_self k2, v70, IntKind.i64.wrap (x62 + 1), l71, x72, _, ((((E.nil.keep E 9 rfl).keep E 8 rfl).keep E 3 rfl).keep E 0 rfl), H, hs74, hr75, hr76, hm⟩
                · intro hb
                  rw [if_f hb] at hm
                  clear hb
                  refine wp_exit ?_
                  refine q_thenX ?_
                  refine q_thenX ?_
                  refine q_hit ?_
                  refine q_then ?_
                  refine wp_seq ?_
                  refine wp_region_lit ?_
                  refine st_val E (wn rfl) rfl rfl (x_move E rfl rfl) ?_
                  clear E; clear a; intro a E
                  replace H : Sep w (Blk p60 91 [v63, .int .i64 x65] :: Fo) (rs66) := H
                  obtain ⟨u105, hx106, hm⟩ := bnd hm
                  refine st_call E (wn rfl) rfl rfl (x_call E rfl rfl (cf30 _)) (c_pack_Reader_End p60 v63 l64 x65 H hr69 hx106) ?_
                  clear E H; clear a; clear w; rintro _ w ⟨rfl, H⟩ a E
                  refine st_val E (wn rfl) rfl rfl (x_assign E rfl rfl) ?_
                  clear E; clear a; intro a E
                  refine wpList_nil ?_
                  refine q_then ?_
                  refine wp_seq ?_
                  refine wp_region_lit ?_
                  refine st_val E (wn rfl) rfl rfl (x_move E rfl rfl) ?_
                  clear E; clear a; intro a E
                  replace H : Sep w (Blk p60 91 [v63, .int .i64 x65] :: Fo) (rs66) := H
                  obtain ⟨u107, hx108, hm⟩ := bnd hm
                  refine st_call E (wn rfl) rfl rfl (x_call E rfl rfl (cf32 _)) (c_pack_Reader_Num p60 v63 l64 x65 281474976710656 H hr69 hx108) ?_
                  clear E H; clear a; clear w; rintro _ w ⟨v109, rfl, H⟩ a E
                  refine wpList_nil ?_
                  refine q_then ?_
                  refine wp_seq ?_
                  refine wp_region_lit ?_
                  refine st_val E (wn rfl) rfl rfl (x_move E rfl rfl) ?_
                  clear E; clear a; intro a E
                  refine st_val E (wn rfl) rfl rfl (x_move E rfl rfl) ?_
                  clear E; clear a; intro a E
                  rcases Bool.eq_false_or_eq_true u4 with hb110 | hb110
                  · rw [if_t hb110] at hm
                    refine st_val E (ws' E rfl rfl rfl rfl hb110) rfl rfl (x_move E rfl rfl) ?_
                    clear E; clear a; intro a E
                    refine st_val E (wn rfl) rfl rfl (x_pickT E rfl rfl hb110 rfl) ?_
                    clear E; clear a; intro a E
                    refine st_val E (wn rfl) rfl rfl (x_move E rfl rfl) ?_
                    clear E; clear a; intro a E
                    rcases Bool.eq_false_or_eq_true u105 with hb111 | hb111
                    · rw [if_t hb111] at hm
                      refine st_val E (ws' E rfl rfl rfl rfl hb111) rfl rfl (x_move E rfl rfl) ?_
                      clear E; clear a; intro a E
                      replace H : Sep w (Blk p60 91 [v109, .int .i64 u107.2.2] :: Fo) (rSl (kI .u8) v109 u107.2.1 :: rs66) := H
                      obtain ⟨u112, hx113, hm⟩ := bnd hm
                      refine st_call E (ws' E rfl rfl rfl rfl hb111) rfl rfl (x_call E rfl rfl (cf31 _)) (c_pack_Reader_Err p60 v109 u107.2.1 u107.2.2 H (.head _) hx113) ?_
                      clear E H; clear a; clear w; rintro _ w ⟨rfl, H⟩ a E
                      refine st_val E (ws' E rfl rfl rfl rfl hb111) rfl rfl (x_bin E rfl rfl rfl rfl) ?_
                      clear E; clear a; intro a E
                      refine st_val E (wn rfl) rfl rfl (x_pickT E rfl rfl hb111 rfl) ?_
                      clear E; clear a; intro a E
                      refine st_val E (wn rfl) rfl rfl (x_assign E rfl rfl) ?_
                      clear E; clear a; intro a E
                      refine wpList_nil ?_
                      refine q_then ?_
                      refine wp_ret ?_
                      refine out1 E rfl rfl ?_
                      replace H := H.drop 0
                      obtain rfl := Option.some.inj hm
                      exact ⟨rfl, H.reads (fun r hr => .tail _ (hs67 r hr))⟩
                    · rw [if_f hb111] at hm
                      refine st_no E (wf' E rfl rfl rfl rfl hb111 rfl) rfl rfl ?_
                      clear E; clear a; intro a E
                      refine st_no E (wf' E rfl rfl rfl rfl hb111 rfl) rfl rfl ?_
                      clear E; clear a; intro a E
                      refine st_no E (wf' E rfl rfl rfl rfl hb111 rfl) rfl rfl ?_
                      clear E; clear a; intro a E
                      refine st_val E (wn rfl) rfl rfl (x_pickF E rfl rfl hb111 rfl) ?_
                      clear E; clear a; intro a E
                      refine st_val E (wn rfl) rfl rfl (x_assign E rfl rfl) ?_
                      clear E; clear a; intro a E
                      refine wpList_nil ?_
                      refine q_then ?_
                      refine wp_ret ?_
                      refine out1 E rfl rfl ?_
                      replace H := H.drop 0
                      obtain rfl := Option.some.inj hm
                      exact ⟨rfl, H.reads (fun r hr => .tail _ (hs67 r hr))⟩
                  · rw [if_f hb110] at hm
                    refine st_no E (wf' E rfl rfl rfl rfl hb110 rfl) rfl rfl ?_
                    clear E; clear a; intro a E
                    refine st_val E (wn rfl) rfl rfl (x_pickF E rfl rfl hb110 rfl) ?_
                    clear E; clear a; intro a E
                    refine st_val E (wn rfl) rfl rfl (x_move E rfl rfl) ?_
                    clear E; clear a; intro a E
                    refine st_no E (wf E rfl rfl rfl rfl rfl) rfl rfl ?_
                    clear E; clear a; intro a E
                    refine st_no E (wf E rfl rfl rfl rfl rfl) rfl rfl ?_
                    clear E; clear a; intro a E
                    refine st_no E (wf E rfl rfl rfl rfl rfl) rfl rfl ?_
                    clear E; clear a; intro a E
                    refine st_val E (wn rfl) rfl rfl (x_pickF E rfl rfl rfl rfl) ?_
                    clear E; clear a; intro a E
                    refine st_val E (wn rfl) rfl rfl (x_assign E rfl rfl) ?_
                    clear E; clear a; intro a E
                    refine wpList_nil ?_
                    refine q_then ?_
                    refine wp_ret ?_
                    refine out1 E rfl rfl ?_
                    replace H := H.drop 0
                    obtain rfl := Option.some.inj hm
                    exact ⟨rfl, H.reads (fun r hr => .tail _ (hs67 r hr))⟩
end Go.Cb
