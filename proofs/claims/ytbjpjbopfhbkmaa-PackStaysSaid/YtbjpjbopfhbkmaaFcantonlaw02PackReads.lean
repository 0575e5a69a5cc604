/- A function of the program, walked: it comes to its plain function. -/
import Derived.Test.YtbjpjbopfhbkmaaT
import Derived.Test.YtbjpjbopfhbkmaaFcantonlaw02Great
import Derived.Test.YtbjpjbopfhbkmaaFcantonlaw02head
import Derived.Test.YtbjpjbopfhbkmaaFcantonref01Same
import Derived.Test.YtbjpjbopfhbkmaaFcantonref02New
import Derived.Test.YtbjpjbopfhbkmaaFcantonref02ReaderEnd
import Derived.Test.YtbjpjbopfhbkmaaFcantonref02ReaderNum
import Derived.Test.YtbjpjbopfhbkmaaFcantonref02ReaderText
import Derived.Test.YtbjpjbopfhbkmaaFcantonref02ReaderTexts
import Derived.Test.YtbjpjbopfhbkmaaFpackNew
import Derived.Test.YtbjpjbopfhbkmaaFpackReaderEnd
import Derived.Test.YtbjpjbopfhbkmaaFpackReaderErr
import Derived.Test.YtbjpjbopfhbkmaaFpackReaderNum
import Derived.Test.YtbjpjbopfhbkmaaFpackReaderText
import Derived.Test.YtbjpjbopfhbkmaaFpackReaderTexts
set_option linter.unusedVariables false
set_option linter.unusedSimpArgs false
namespace Go.Cb
open Go.Proofs Go.RowKit
def m_cantonlaw02_PackReads_j3 (rec_1 : Int → (List Int) → Int → (List Int) → Int → Option Bool) (x22 : Int) (l35 : (List Int)) (x36 : Int) (l38 : (List Int)) (x39 : Int) (b45 : Bool) : Option Bool :=
  if b45 = true then (some (false)) else (rec_1 (IntKind.i64.wrap (x22 + 1)) l35 x36 l38 x39)
def m_cantonlaw02_PackReads_j2 (rec_1 : Int → (List Int) → Int → (List Int) → Int → Option Bool) (x22 : Int) (l35 : (List Int)) (x36 : Int) (l38 : (List Int)) (x39 : Int) : Option Bool :=
  (m_pack_Reader_Err l35 x36).bind fun u51 => if (x36 != x39) = true then (m_cantonlaw02_PackReads_j3 rec_1 x22 l35 x36 l38 x39 true) else ((m_pack_Reader_End l35 x36).bind fun u54 => (m_cantonref02_Reader_End l38 x39).bind fun u56 => m_cantonlaw02_PackReads_j3 rec_1 x22 l35 x36 l38 x39 (u54 != u56))
def m_cantonlaw02_PackReads_l1 (l4 : List S_cantonlaw02_Item) (u7 : Bool) : Nat → Int → (List Int) → Int → (List Int) → Int → Option Bool
  | 0, _, _, _, _, _ => none
  | k1 + 1, x22, l24, x25, l27, x28 =>
    if (decide (x22 < (l4.length : Int))) = true then ((idx l4 x22).bind fun x58 => if (x58.What == 0) = true then ((idx l4 x22).bind fun x61 => (m_pack_Reader_Num l24 x25 x61.N).bind fun u64 => (idx l4 x22).bind fun x67 => (m_cantonref02_Reader_Num l27 x28 x67.N).bind fun u70 => if (u64.1 != u70.1) = true then (some (false)) else (m_cantonlaw02_PackReads_j2 (m_cantonlaw02_PackReads_l1 l4 u7 k1) x22 u64.2.1 u64.2.2 u70.2.1 u70.2.2)) else (if (x58.What == 1) = true then ((m_pack_Reader_Text l24 x25).bind fun u73 => (m_cantonref02_Reader_Text l27 x28).bind fun u76 => if (!(sEq u73.1 u76.1)) = true then (some (false)) else (m_cantonlaw02_PackReads_j2 (m_cantonlaw02_PackReads_l1 l4 u7 k1) x22 u73.2.1 u73.2.2 u76.2.1 u76.2.2)) else (if (x58.What == 2) = true then ((m_pack_Reader_Texts l24 x25).bind fun u79 => (m_cantonref02_Reader_Texts l27 x28).bind fun u83 => (m_cantonref01_Same u79.1 u83.1).bind fun u87 => if (!u87) = true then (some (false)) else (m_cantonlaw02_PackReads_j2 (m_cantonlaw02_PackReads_l1 l4 u7 k1) x22 u79.2.1 u79.2.2 u83.2.1 u83.2.2)) else (m_cantonlaw02_PackReads_j2 (m_cantonlaw02_PackReads_l1 l4 u7 k1) x22 l24 x25 l27 x28)))) else (some (u7))
def m_cantonlaw02_PackReads_j1 (l4 : List S_cantonlaw02_Item) (u7 : Bool) (l2 : List Int) (b9 : Bool) : Option Bool :=
  if b9 = true then (some (u7)) else ((m_pack_New l2).bind fun u14 => (m_cantonref02_New l2).bind fun u18 => m_cantonlaw02_PackReads_l1 l4 u7 (((l4.length : Int) - 0 : Int).toNat + 1) 0 u14 0 u18 0)
def m_cantonlaw02_PackReads (l2 : List Int) (l4 : List S_cantonlaw02_Item) : Option Bool :=
  m_cantonlaw02_head.bind fun u7 => (m_cantonlaw02_Great l4).bind fun u89 => if u89 = true then (m_cantonlaw02_PackReads_j1 l4 u7 l2 true) else (m_cantonlaw02_PackReads_j1 l4 u7 l2 (decide ((l2.length : Int) > 20000)))
set_option maxRecDepth 20000 in
set_option maxHeartbeats 1000000 in
theorem c_cantonlaw02_PackReads {w : World} {Fo : List Ob} {rs : List Rp} (v1 : Value) (l2 : List Int) (v3 : Value) (l4 : List S_cantonlaw02_Item) (H : Sep w (Fo) rs) (hr5 : rSl (kI .u8) v1 l2 ∈ rs) (hr6 : rSl k_cantonlaw02_Item v3 l4 ∈ rs) {r : Bool} (hm : m_cantonlaw02_PackReads l2 l4 = some r) :
    Calls Try.prog 11 [v1, v3].toArray w (Ret fun v w' => .bool r = v ∧ Sep w' (Fo) (rs)) := by
  unfold m_cantonlaw02_PackReads at hm
  refine enter Try.func11 rfl Try.ntmps11 rfl fun a E => ?_
  simp only [enum, Nat.reduceAdd] at E
  refine wp_seq ?_
  refine wp_region_lit ?_
  refine st_val E (wn rfl) rfl rfl (x_assign E rfl rfl) ?_
  clear E; clear a; intro a E
  refine wpList_nil ?_
  refine q_then ?_
  refine wp_seq ?_
  refine wp_region_lit ?_
  replace H : Sep w (Fo) (rs) := H
  obtain ⟨u7, hx8, hm⟩ := bnd hm
  refine st_call E (wn rfl) rfl rfl (x_call E rfl rfl (cf28 _)) (c_cantonlaw02_head H hx8) ?_
  clear E H; clear a; clear w; rintro _ w ⟨rfl, H⟩ a E
  refine st_val E (wn rfl) rfl rfl (x_assign E rfl rfl) ?_
  clear E; clear a; intro a E
  refine wpList_nil ?_
  refine q_then ?_
  refine wp_seq ?_
  refine wp_seq_cut (fun a w => ∃ (b9 : Bool) (rs10 : List Rp), Env 94 a [(0, v1), (1, v3), (5, .bool u7), (22, .bool b9)] ∧ Sep w (Fo) rs10 ∧ (∀ r, r ∈ rs → r ∈ rs10) ∧ rSl (kI .u8) v1 l2 ∈ rs10 ∧ rSl k_cantonlaw02_Item v3 l4 ∈ rs10 ∧ m_cantonlaw02_PackReads_j1 l4 u7 l2 b9 = some r) ?_ ?_
  · refine wp_region_lit ?_
    refine st_val E (wn rfl) rfl rfl (x_move E rfl rfl) ?_
    clear E; clear a; intro a E
    replace H : Sep w (Fo) (rs) := H
    obtain ⟨u89, hx90, hm⟩ := bnd hm
    refine st_call E (wn rfl) rfl rfl (x_call E rfl rfl (cf37 _)) (c_cantonlaw02_Great v3 l4 H hr6 hx90) ?_
    clear E H; clear a; clear w; rintro _ w ⟨rfl, H⟩ a E
    refine st_val E (wn rfl) rfl rfl (x_move E rfl rfl) ?_
    clear E; clear a; intro a E
    rcases Bool.eq_false_or_eq_true u89 with hb91 | hb91
    · rw [if_t hb91] at hm
      refine st_no E (wf' E rfl rfl rfl rfl hb91 rfl) rfl rfl ?_
      clear E; clear a; intro a E
      refine st_no E (wf' E rfl rfl rfl rfl hb91 rfl) rfl rfl ?_
      clear E; clear a; intro a E
      refine st_no E (wf' E rfl rfl rfl rfl hb91 rfl) rfl rfl ?_
      clear E; clear a; intro a E
      refine st_val E (wn rfl) rfl rfl (x_pickT E rfl rfl hb91 rfl) ?_
      clear E; clear a; intro a E
      refine wpList_nil ?_
      refine q_then ?_
      exact ⟨true, _, ((((E.nil.keep E 22 rfl).keep E 5 rfl).keep E 1 rfl).keep E 0 rfl), H, fun r hr => hr, hr5, hr6, hm⟩
    · rw [if_f hb91] at hm
      refine st_val E (ws' E rfl rfl rfl rfl hb91) rfl rfl (x_move E rfl rfl) ?_
      clear E; clear a; intro a E
      refine st_val E (ws' E rfl rfl rfl rfl hb91) rfl rfl (x_lenS E H rfl rfl hr5 Try.underlying46) ?_
      clear E; clear a; intro a E
      refine st_val E (ws' E rfl rfl rfl rfl hb91) rfl rfl (x_bin E rfl rfl rfl rfl) ?_
      clear E; clear a; intro a E
      refine st_val E (wn rfl) rfl rfl (x_pickF E rfl rfl hb91 rfl) ?_
      clear E; clear a; intro a E
      refine wpList_nil ?_
      refine q_then ?_
      exact ⟨decide ((l2.length : Int) > 20000), _, ((((E.nil.keep E 22 rfl).keep E 5 rfl).keep E 1 rfl).keep E 0 rfl), H, fun r hr => hr, hr5, hr6, hm⟩
  · clear E H hm
    rintro a w ⟨b9, rs10, E, H, hs11, hr12, hr13, hm⟩
    unfold m_cantonlaw02_PackReads_j1 at hm
    refine wp_if E rfl ?_ ?_
    · intro hb
      rw [if_t hb] at hm
      clear hb
      refine wp_seq ?_
      refine wp_region_lit ?_
      refine st_val E (wn rfl) rfl rfl (x_move E rfl rfl) ?_
      clear E; clear a; intro a E
      refine st_val E (wn rfl) rfl rfl (x_assign E rfl rfl) ?_
      clear E; clear a; intro a E
      refine wpList_nil ?_
      refine q_then ?_
      refine wp_ret ?_
      refine q_thenR ?_
      refine out1 E rfl rfl ?_
      obtain rfl := Option.some.inj hm
      exact ⟨rfl, H.reads (fun r hr => hs11 r hr)⟩
    · intro hb
      rw [if_f hb] at hm
      clear hb
      refine wp_skip ?_
      refine q_then ?_
      refine wp_seq ?_
      refine wp_region_lit ?_
      refine st_val E (wn rfl) rfl rfl (x_move E rfl rfl) ?_
      clear E; clear a; intro a E
      replace H : Sep w (Fo) (rs10) := H
      obtain ⟨u14, hx15, hm⟩ := bnd hm
      refine st_call E (wn rfl) rfl rfl (x_call E rfl rfl (cf29 _)) (c_pack_New v1 l2 H hr12 hx15) ?_
      clear E H; clear a; clear w; rintro _ w ⟨p16, v17, rfl, H⟩ a E
      refine st_val E (wn rfl) rfl rfl (x_assign E rfl rfl) ?_
      clear E; clear a; intro a E
      refine wpList_nil ?_
      refine q_then ?_
      refine wp_seq ?_
      refine wp_region_lit ?_
      refine st_val E (wn rfl) rfl rfl (x_move E rfl rfl) ?_
      clear E; clear a; intro a E
      replace H : Sep w (Blk p16 91 [v17, .int .i64 0] :: Row 5 (kI .u8) v17 u14 :: Fo) (rs10) := H
      obtain ⟨u18, hx19, hm⟩ := bnd hm
      refine st_call E (wn rfl) rfl rfl (x_call E rfl rfl (cf43 _)) (c_cantonref02_New v1 l2 H hr12 hx19) ?_
      clear E H; clear a; clear w; rintro _ w ⟨p20, v21, rfl, H⟩ a E
      refine st_val E (wn rfl) rfl rfl (x_assign E rfl rfl) ?_
      clear E; clear a; intro a E
      refine wpList_nil ?_
      refine q_then ?_
      refine wp_seq ?_
      refine wp_seq ?_
      refine wp_region_lit ?_
      refine st_val E (wn rfl) rfl rfl (x_move E rfl rfl) ?_
      clear E; clear a; intro a E
      refine st_val E (wn rfl) rfl rfl (x_bin2 E rfl rfl rfl (v := .bool false) (by kernel_rfl)) ?_
      clear E; clear a; intro a E
      refine wpList_nil ?_
      refine q_then ?_
      refine wp_cond_false (E.eval rfl) ?_
      refine wp_skip ?_
      refine q_then ?_
      refine wp_seq ?_
      refine wp_seq ?_
      refine wp_region_lit ?_
      refine st_val E (wn rfl) rfl rfl (x_assign E rfl rfl) ?_
      clear E; clear a; intro a E
      refine wpList_nil ?_
      refine q_then ?_
      refine wp_block ?_
      refine wp_loop_g (fun k1 a w => ∃ (v23 : Value) (v26 : Value) (x22 : Int) (l24 : (List Int)) (x25 : Int) (l27 : (List Int)) (x28 : Int) (rs29 : List Rp), Env 94 a [(1, v3), (5, .bool u7), (6, .pointer (some ⟨p16, 0, none⟩)), (7, .pointer (some ⟨p20, 0, none⟩)), (8, .int .i64 x22)] ∧ Sep w (Blk p16 91 [v23, .int .i64 x25] :: Blk p20 77 [v26, .int .i64 x28] :: Fo) rs29 ∧ (∀ r, r ∈ rs → r ∈ rs29) ∧ rSl k_cantonlaw02_Item v3 l4 ∈ rs29 ∧ rSl (kI .u8) v23 l24 ∈ rs29 ∧ rSl (kI .u8) v26 l27 ∈ rs29 ∧ m_cantonlaw02_PackReads_l1 l4 u7 k1 x22 l24 x25 l27 x28 = some r) (((l4.length : Int) - 0 : Int).toNat + 1) ?_ ?_
      · replace H := H.thaw (i := 3) rfl
        replace H := H.thaw (i := 1) rfl
        replace H := H.front 0 rfl
        replace H := H.front 1 rfl
        exact ⟨v17, v21, 0, u14, 0, u18, 0, _, (((((E.nil.keep E 8 rfl).keep E 7 rfl).keep E 6 rfl).keep E 5 rfl).keep E 1 rfl), H, fun r hr => .tail _ (.tail _ (hs11 r hr)), (.tail _ (.tail _ hr13)), (.tail _ (.head _)), (.head _), hm⟩
      · clear E H hm
        rintro k1 a w ⟨v23, v26, x22, l24, x25, l27, x28, rs29, E, H, hs30, hr31, hr32, hr33, hm⟩
        cases k1 with
        | zero => exact (none_some hm rfl).elim
        | succ k1 =>
          unfold m_cantonlaw02_PackReads_l1 at hm
          refine wp_seq ?_
          refine wp_seq ?_
          refine wp_region_lit ?_
          refine st_val E (wn rfl) rfl rfl (x_move E rfl rfl) ?_
          clear E; clear a; intro a E
          refine st_val E (wn rfl) rfl rfl (x_move E rfl rfl) ?_
          clear E; clear a; intro a E
          refine st_val E (wn rfl) rfl rfl (x_lenS E H rfl rfl hr31 Try.underlying63) ?_
          clear E; clear a; intro a E
          refine st_val E (wn rfl) rfl rfl (x_bin E rfl rfl rfl rfl) ?_
          clear E; clear a; intro a E
          refine wpList_nil ?_
          refine q_then ?_
          refine wp_if E rfl ?_ ?_
          · intro hb
            rw [if_t hb] at hm
            clear hb
            refine wp_skip ?_
            refine q_then ?_
            refine wp_seq ?_
            refine wp_block ?_
            refine wp_seq_cut (fun a w => ∃ (v34 : Value) (v37 : Value) (l35 : (List Int)) (x36 : Int) (l38 : (List Int)) (x39 : Int) (rs40 : List Rp), Env 94 a [(1, v3), (5, .bool u7), (6, .pointer (some ⟨p16, 0, none⟩)), (7, .pointer (some ⟨p20, 0, none⟩)), (8, .int .i64 x22)] ∧ Sep w (Blk p16 91 [v34, .int .i64 x36] :: Blk p20 77 [v37, .int .i64 x39] :: Fo) rs40 ∧ (∀ r, r ∈ rs → r ∈ rs40) ∧ rSl k_cantonlaw02_Item v3 l4 ∈ rs40 ∧ rSl (kI .u8) v34 l35 ∈ rs40 ∧ rSl (kI .u8) v37 l38 ∈ rs40 ∧ m_cantonlaw02_PackReads_j2 (m_cantonlaw02_PackReads_l1 l4 u7 k1) x22 l35 x36 l38 x39 = some r) ?_ ?_
            · refine wp_seq ?_
              refine wp_region_lit ?_
              refine st_val E (wn rfl) rfl rfl (x_move E rfl rfl) ?_
              clear E; clear a; intro a E
              refine st_val E (wn rfl) rfl rfl (x_move E rfl rfl) ?_
              clear E; clear a; intro a E
              obtain ⟨x58, hx59, hm⟩ := bnd hm
              refine st_ixS E H (wn rfl) rfl rfl rfl rfl rfl hr31 Try.underlying63 sz70 hx59 ?_
              clear E H; clear a; intro q60 a H E
              replace H := H.derive1 (.head _) (rAt (kI .i64) (q60.add 0) x58.What) (fun ok h => k_cantonlaw02_Item_at0 h)
              refine st_val E (wn rfl) rfl rfl (x_fa E rfl rfl (fa70_0 _ _)) ?_
              clear E; clear a; intro a E
              refine st_val E (wn rfl) rfl rfl (x_ldA E H rfl rfl (.head _) Try.underlying3 rfl) ?_
              clear E; clear a; intro a E
              refine wpList_nil ?_
              refine q_then ?_
              refine wp_block ?_
              refine wp_seq ?_
              refine wp_region_lit ?_
              refine st_val E (wn rfl) rfl rfl (x_bin E rfl rfl rfl rfl) ?_
              clear E; clear a; intro a E
              refine st_val E (wn rfl) rfl rfl (x_assign E rfl rfl) ?_
              clear E; clear a; intro a E
              refine wpList_nil ?_
              refine q_then ?_
              refine wp_if E rfl ?_ ?_
              · intro hb
                rw [if_t hb] at hm
                clear hb
                refine wp_seq ?_
                refine wp_region_lit ?_
                refine st_val E (wn rfl) rfl rfl (x_move E rfl rfl) ?_
                clear E; clear a; intro a E
                refine st_val E (wn rfl) rfl rfl (x_move E rfl rfl) ?_
                clear E; clear a; intro a E
                refine st_val E (wn rfl) rfl rfl (x_move E rfl rfl) ?_
                clear E; clear a; intro a E
                obtain ⟨x61, hx62, hm⟩ := bnd hm
                refine st_ixS E H (wn rfl) rfl rfl rfl rfl rfl (.tail _ (.tail _ hr31)) Try.underlying63 sz70 hx62 ?_
                clear E H; clear a; intro q63 a H E
                replace H := H.derive1 (.head _) (rAt (kI .i64) (q63.add 1) x61.N) (fun ok h => k_cantonlaw02_Item_at1 h)
                refine st_val E (wn rfl) rfl rfl (x_fa E rfl rfl (fa70_1 _ _)) ?_
                clear E; clear a; intro a E
                refine st_val E (wn rfl) rfl rfl (x_ldA E H rfl rfl (.head _) Try.underlying2 rfl) ?_
                clear E; clear a; intro a E
                replace H : Sep w (Blk p16 91 [v23, .int .i64 x25] :: Blk p20 77 [v26, .int .i64 x28] :: Fo) (rAt (kI .i64) (q63.add 1) x61.N :: rAt k_cantonlaw02_Item q63 x61 :: rAt (kI .i64) (q60.add 0) x58.What :: rAt k_cantonlaw02_Item q60 x58 :: rs29) := H
                obtain ⟨u64, hx65, hm⟩ := bnd hm
                refine st_call E (wn rfl) rfl rfl (x_call E rfl rfl (cf32 _)) (c_pack_Reader_Num p16 v23 l24 x25 x61.N H (.tail _ (.tail _ (.tail _ (.tail _ hr32)))) hx65) ?_
                clear E H; clear a; clear w; rintro _ w ⟨v66, rfl, H⟩ a E
                refine st_val E (wn rfl) rfl rfl (x_assign E rfl rfl) ?_
                clear E; clear a; intro a E
                refine wpList_nil ?_
                refine q_then ?_
                refine wp_seq ?_
                refine wp_region_lit ?_
                refine st_val E (wn rfl) rfl rfl (x_move E rfl rfl) ?_
                clear E; clear a; intro a E
                refine st_val E (wn rfl) rfl rfl (x_move E rfl rfl) ?_
                clear E; clear a; intro a E
                refine st_val E (wn rfl) rfl rfl (x_move E rfl rfl) ?_
                clear E; clear a; intro a E
                obtain ⟨x67, hx68, hm⟩ := bnd hm
                refine st_ixS E H (wn rfl) rfl rfl rfl rfl rfl (.tail _ (.tail _ (.tail _ (.tail _ (.tail _ hr31))))) Try.underlying63 sz70 hx68 ?_
                clear E H; clear a; intro q69 a H E
                replace H := H.derive1 (.head _) (rAt (kI .i64) (q69.add 1) x67.N) (fun ok h => k_cantonlaw02_Item_at1 h)
                refine st_val E (wn rfl) rfl rfl (x_fa E rfl rfl (fa70_1 _ _)) ?_
                clear E; clear a; intro a E
                refine st_val E (wn rfl) rfl rfl (x_ldA E H rfl rfl (.head _) Try.underlying2 rfl) ?_
                clear E; clear a; intro a E
                replace H := H.front 0 rfl
                replace H := H.front 1 rfl
                replace H : Sep w (Blk p20 77 [v26, .int .i64 x28] :: Blk p16 91 [v66, .int .i64 u64.2.2] :: Fo) (rAt (kI .i64) (q69.add 1) x67.N :: rAt k_cantonlaw02_Item q69 x67 :: rSl (kI .u8) v66 u64.2.1 :: rAt (kI .i64) (q63.add 1) x61.N :: rAt k_cantonlaw02_Item q63 x61 :: rAt (kI .i64) (q60.add 0) x58.What :: rAt k_cantonlaw02_Item q60 x58 :: rs29) := H
                obtain ⟨u70, hx71, hm⟩ := bnd hm
                refine st_call E (wn rfl) rfl rfl (x_call E rfl rfl (cf44 _)) (c_cantonref02_Reader_Num p20 v26 l27 x28 x67.N H (.tail _ (.tail _ (.tail _ (.tail _ (.tail _ (.tail _ (.tail _ hr33))))))) hx71) ?_
                clear E H; clear a; clear w; rintro _ w ⟨v72, rfl, H⟩ a E
                refine st_val E (wn rfl) rfl rfl (x_assign E rfl rfl) ?_
                clear E; clear a; intro a E
                refine wpList_nil ?_
                refine q_then ?_
                refine wp_seq ?_
                refine wp_region_lit ?_
                refine st_val E (wn rfl) rfl rfl (x_move E rfl rfl) ?_
                clear E; clear a; intro a E
                refine st_val E (wn rfl) rfl rfl (x_move E rfl rfl) ?_
                clear E; clear a; intro a E
                refine st_val E (wn rfl) rfl rfl (x_bin E rfl rfl rfl rfl) ?_
                clear E; clear a; intro a E
                refine wpList_nil ?_
                refine q_then ?_
                refine wp_if E rfl ?_ ?_
                · intro hb
                  rw [if_t hb] at hm
                  clear hb
                  refine wp_seq ?_
                  refine wp_region_lit ?_
                  refine st_val E (wn rfl) rfl rfl (x_assign E rfl rfl) ?_
                  clear E; clear a; intro a E
                  refine wpList_nil ?_
                  refine q_then ?_
                  refine wp_ret ?_
                  refine q_blkR ?_
                  refine q_thenR ?_
                  refine q_blkR ?_
                  refine q_thenR ?_
                  refine q_thenR ?_
                  refine q_blkR ?_
                  refine q_thenR ?_
                  refine out1 E rfl rfl ?_
                  replace H := H.drop 0
                  replace H := H.drop 0
                  obtain rfl := Option.some.inj hm
                  exact ⟨rfl, H.reads (fun r hr => .tail _ (.tail _ (.tail _ (.tail _ (.tail _ (.tail _ (.tail _ (.tail _ (hs30 r hr)))))))))⟩
                · intro hb
                  rw [if_f hb] at hm
                  clear hb
                  refine wp_skip ?_
                  refine q_blk ?_
                  refine q_then ?_
                  replace H := H.front 0 rfl
                  replace H := H.front 1 rfl
                  exact ⟨v66, v72, u64.2.1, u64.2.2, u70.2.1, u70.2.2, _, (((((E.nil.keep E 8 rfl).keep E 7 rfl).keep E 6 rfl).keep E 5 rfl).keep E 1 rfl), H, fun r hr => .tail _ (.tail _ (.tail _ (.tail _ (.tail _ (.tail _ (.tail _ (.tail _ (hs30 r hr)))))))), (.tail _ (.tail _ (.tail _ (.tail _ (.tail _ (.tail _ (.tail _ (.tail _ hr31)))))))), (.tail _ (.tail _ (.tail _ (.head _)))), (.head _), hm⟩
              · intro hb
                rw [if_f hb] at hm
                clear hb
                refine wp_seq ?_
                refine wp_region_lit ?_
                refine st_val E (wn rfl) rfl rfl (x_bin E rfl rfl rfl rfl) ?_
                clear E; clear a; intro a E
                refine st_val E (wn rfl) rfl rfl (x_assign E rfl rfl) ?_
                clear E; clear a; intro a E
                refine wpList_nil ?_
                refine q_then ?_
                refine wp_if E rfl ?_ ?_
                · intro hb
                  rw [if_t hb] at hm
                  clear hb
                  refine wp_seq ?_
                  refine wp_region_lit ?_
                  refine st_val E (wn rfl) rfl rfl (x_move E rfl rfl) ?_
                  clear E; clear a; intro a E
                  replace H : Sep w (Blk p16 91 [v23, .int .i64 x25] :: Blk p20 77 [v26, .int .i64 x28] :: Fo) (rAt (kI .i64) (q60.add 0) x58.What :: rAt k_cantonlaw02_Item q60 x58 :: rs29) := H
                  obtain ⟨u73, hx74, hm⟩ := bnd hm
                  refine st_call E (wn rfl) rfl rfl (x_call E rfl rfl (cf36 _)) (c_pack_Reader_Text p16 v23 l24 x25 H (.tail _ (.tail _ hr32)) hx74) ?_
                  clear E H; clear a; clear w; rintro _ w ⟨v75, rfl, H⟩ a E
                  refine st_val E (wn rfl) rfl rfl (x_assign E rfl rfl) ?_
                  clear E; clear a; intro a E
                  refine wpList_nil ?_
                  refine q_then ?_
                  refine wp_seq ?_
                  refine wp_region_lit ?_
                  refine st_val E (wn rfl) rfl rfl (x_move E rfl rfl) ?_
                  clear E; clear a; intro a E
                  replace H := H.front 0 rfl
                  replace H := H.front 1 rfl
                  replace H : Sep w (Blk p20 77 [v26, .int .i64 x28] :: Blk p16 91 [v75, .int .i64 u73.2.2] :: Fo) (rSl (kI .u8) v75 u73.2.1 :: rAt (kI .i64) (q60.add 0) x58.What :: rAt k_cantonlaw02_Item q60 x58 :: rs29) := H
                  obtain ⟨u76, hx77, hm⟩ := bnd hm
                  refine st_call E (wn rfl) rfl rfl (x_call E rfl rfl (cf45 _)) (c_cantonref02_Reader_Text p20 v26 l27 x28 H (.tail _ (.tail _ (.tail _ hr33))) hx77) ?_
                  clear E H; clear a; clear w; rintro _ w ⟨v78, rfl, H⟩ a E
                  refine st_val E (wn rfl) rfl rfl (x_assign E rfl rfl) ?_
                  clear E; clear a; intro a E
                  refine wpList_nil ?_
                  refine q_then ?_
                  refine wp_seq ?_
                  refine wp_region_lit ?_
                  refine st_val E (wn rfl) rfl rfl (x_move E rfl rfl) ?_
                  clear E; clear a; intro a E
                  refine st_val E (wn rfl) rfl rfl (x_move E rfl rfl) ?_
                  clear E; clear a; intro a E
                  refine st_val E (wn rfl) rfl rfl (x_str E rfl rfl rfl rfl) ?_
                  clear E; clear a; intro a E
                  refine wpList_nil ?_
                  refine q_then ?_
                  refine wp_if E rfl ?_ ?_
                  · intro hb
                    rw [if_t hb] at hm
                    clear hb
                    refine wp_seq ?_
                    refine wp_region_lit ?_
                    refine st_val E (wn rfl) rfl rfl (x_assign E rfl rfl) ?_
                    clear E; clear a; intro a E
                    refine wpList_nil ?_
                    refine q_then ?_
                    refine wp_ret ?_
                    refine q_blkR ?_
                    refine q_thenR ?_
                    refine q_blkR ?_
                    refine q_thenR ?_
                    refine q_thenR ?_
                    refine q_blkR ?_
                    refine q_thenR ?_
                    refine out1 E rfl rfl ?_
                    replace H := H.drop 0
                    replace H := H.drop 0
                    obtain rfl := Option.some.inj hm
                    exact ⟨rfl, H.reads (fun r hr => .tail _ (.tail _ (.tail _ (.tail _ (hs30 r hr)))))⟩
                  · intro hb
                    rw [if_f hb] at hm
                    clear hb
                    refine wp_skip ?_
                    refine q_blk ?_
                    refine q_then ?_
                    replace H := H.front 0 rfl
                    replace H := H.front 1 rfl
                    exact ⟨v75, v78, u73.2.1, u73.2.2, u76.2.1, u76.2.2, _, (((((E.nil.keep E 8 rfl).keep E 7 rfl).keep E 6 rfl).keep E 5 rfl).keep E 1 rfl), H, fun r hr => .tail _ (.tail _ (.tail _ (.tail _ (hs30 r hr)))), (.tail _ (.tail _ (.tail _ (.tail _ hr31)))), (.tail _ (.head _)), (.head _), hm⟩
                · intro hb
                  rw [if_f hb] at hm
                  clear hb
                  refine wp_seq ?_
                  refine wp_region_lit ?_
                  refine st_val E (wn rfl) rfl rfl (x_bin E rfl rfl rfl rfl) ?_
                  clear E; clear a; intro a E
                  refine st_val E (wn rfl) rfl rfl (x_assign E rfl rfl) ?_
                  clear E; clear a; intro a E
                  refine wpList_nil ?_
                  refine q_then ?_
                  refine wp_if E rfl ?_ ?_
                  · intro hb
                    rw [if_t hb] at hm
                    clear hb
                    refine wp_seq ?_
                    refine wp_region_lit ?_
                    refine st_val E (wn rfl) rfl rfl (x_move E rfl rfl) ?_
                    clear E; clear a; intro a E
                    replace H : Sep w (Blk p16 91 [v23, .int .i64 x25] :: Blk p20 77 [v26, .int .i64 x28] :: Fo) (rAt (kI .i64) (q60.add 0) x58.What :: rAt k_cantonlaw02_Item q60 x58 :: rs29) := H
                    obtain ⟨u79, hx80, hm⟩ := bnd hm
                    refine st_call E (wn rfl) rfl rfl (x_call E rfl rfl (cf46 _)) (c_pack_Reader_Texts p16 v23 l24 x25 H (.tail _ (.tail _ hr32)) hx80) ?_
                    clear E H; clear a; clear w; rintro _ w ⟨v81, v82, rfl, H⟩ a E
                    refine st_val E (wn rfl) rfl rfl (x_assign E rfl rfl) ?_
                    clear E; clear a; intro a E
                    refine wpList_nil ?_
                    refine q_then ?_
                    refine wp_seq ?_
                    refine wp_region_lit ?_
                    refine st_val E (wn rfl) rfl rfl (x_move E rfl rfl) ?_
                    clear E; clear a; intro a E
                    replace H := H.front 1 rfl
                    replace H := H.front 1 rfl
                    replace H := H.front 2 rfl
                    replace H : Sep w (Blk p20 77 [v26, .int .i64 x28] :: Row 9 kS v81 u79.1 :: Blk p16 91 [v82, .int .i64 u79.2.2] :: Fo) (rSl (kI .u8) v82 u79.2.1 :: rAt (kI .i64) (q60.add 0) x58.What :: rAt k_cantonlaw02_Item q60 x58 :: rs29) := H
                    obtain ⟨u83, hx84, hm⟩ := bnd hm
                    refine st_call E (wn rfl) rfl rfl (x_call E rfl rfl (cf47 _)) (c_cantonref02_Reader_Texts p20 v26 l27 x28 H (.tail _ (.tail _ (.tail _ hr33))) hx84) ?_
                    clear E H; clear a; clear w; rintro _ w ⟨v85, v86, rfl, H⟩ a E
                    refine st_val E (wn rfl) rfl rfl (x_assign E rfl rfl) ?_
                    clear E; clear a; intro a E
                    refine wpList_nil ?_
                    refine q_then ?_
                    refine wp_seq ?_
                    refine wp_region_lit ?_
                    refine st_val E (wn rfl) rfl rfl (x_move E rfl rfl) ?_
                    clear E; clear a; intro a E
                    refine st_val E (wn rfl) rfl rfl (x_move E rfl rfl) ?_
                    clear E; clear a; intro a E
                    replace H := H.thaw (i := 2) rfl
                    replace H := H.thaw (i := 0) rfl
                    replace H : Sep w (Blk p20 77 [v86, .int .i64 u83.2.2] :: Blk p16 91 [v82, .int .i64 u79.2.2] :: Fo) (rSl kS v85 u83.1 :: rSl kS v81 u79.1 :: rSl (kI .u8) v86 u83.2.1 :: rSl (kI .u8) v82 u79.2.1 :: rAt (kI .i64) (q60.add 0) x58.What :: rAt k_cantonlaw02_Item q60 x58 :: rs29) := H
                    obtain ⟨u87, hx88, hm⟩ := bnd hm
                    refine st_call E (wn rfl) rfl rfl (x_call E rfl rfl (cf48 _)) (c_cantonref01_Same v81 u79.1 v85 u83.1 H (.tail _ (.head _)) (.head _) hx88) ?_
                    clear E H; clear a; clear w; rintro _ w ⟨rfl, H⟩ a E
                    refine st_val E (wn rfl) rfl rfl (x_not E rfl rfl) ?_
                    clear E; clear a; intro a E
                    refine wpList_nil ?_
                    refine q_then ?_
                    refine wp_if E rfl ?_ ?_
                    · intro hb
                      rw [if_t hb] at hm
                      clear hb
                      refine wp_seq ?_
                      refine wp_region_lit ?_
                      refine st_val E (wn rfl) rfl rfl (x_assign E rfl rfl) ?_
                      clear E; clear a; intro a E
                      refine wpList_nil ?_
                      refine q_then ?_
                      refine wp_ret ?_
                      refine q_blkR ?_
                      refine q_thenR ?_
                      refine q_blkR ?_
                      refine q_thenR ?_
                      refine q_thenR ?_
                      refine q_blkR ?_
                      refine q_thenR ?_
                      refine out1 E rfl rfl ?_
                      replace H := H.drop 0
                      replace H := H.drop 0
                      obtain rfl := Option.some.inj hm
                      exact ⟨rfl, H.reads (fun r hr => .tail _ (.tail _ (.tail _ (.tail _ (.tail _ (.tail _ (hs30 r hr)))))))⟩
                    · intro hb
                      rw [if_f hb] at hm
                      clear hb
                      refine wp_skip ?_
                      refine q_blk ?_
                      refine q_then ?_
                      replace H := H.front 0 rfl
                      replace H := H.front 1 rfl
                      exact ⟨v82, v86, u79.2.1, u79.2.2, u83.2.1, u83.2.2, _, (((((E.nil.keep E 8 rfl).keep E 7 rfl).keep E 6 rfl).keep E 5 rfl).keep E 1 rfl), H, fun r hr => .tail _ (.tail _ (.tail _ (.tail _ (.tail _ (.tail _ (hs30 r hr)))))), (.tail _ (.tail _ (.tail _ (.tail _ (.tail _ (.tail _ hr31)))))), (.tail _ (.tail _ (.tail _ (.head _)))), (.tail _ (.tail _ (.head _))), hm⟩
                  · intro hb
                    rw [if_f hb] at hm
                    clear hb
                    refine wp_skip ?_
                    refine q_blk ?_
                    refine q_then ?_
                    exact ⟨v23, v26, l24, x25, l27, x28, _, (((((E.nil.keep E 8 rfl).keep E 7 rfl).keep E 6 rfl).keep E 5 rfl).keep E 1 rfl), H, fun r hr => .tail _ (.tail _ (hs30 r hr)), (.tail _ (.tail _ hr31)), (.tail _ (.tail _ hr32)), (.tail _ (.tail _ hr33)), hm⟩
            · clear E H hm
              rintro a w ⟨v34, v37, l35, x36, l38, x39, rs40, E, H, hs41, hr42, hr43, hr44, hm⟩
              unfold m_cantonlaw02_PackReads_j2 at hm
              refine wp_seq_cut (fun a w => ∃ (b45 : Bool) (rs46 : List Rp), Env 94 a [(1, v3), (5, .bool u7), (6, .pointer (some ⟨p16, 0, none⟩)), (7, .pointer (some ⟨p20, 0, none⟩)), (8, .int .i64 x22), (92, .bool b45)] ∧ Sep w (Blk p16 91 [v34, .int .i64 x36] :: Blk p20 77 [v37, .int .i64 x39] :: Fo) rs46 ∧ (∀ r, r ∈ rs → r ∈ rs46) ∧ rSl k_cantonlaw02_Item v3 l4 ∈ rs46 ∧ rSl (kI .u8) v34 l35 ∈ rs46 ∧ rSl (kI .u8) v37 l38 ∈ rs46 ∧ m_cantonlaw02_PackReads_j3 (m_cantonlaw02_PackReads_l1 l4 u7 k1) x22 l35 x36 l38 x39 b45 = some r) ?_ ?_
              · replace H : Sep w (Blk p16 91 [v34, .int .i64 x36] :: Blk p20 77 [v37, .int .i64 x39] :: Fo) (rs40) := H
                have hI : Still [Blk p20 77 [v37, .int .i64 x39]] [] { w with drawn := w.drawn + 1 } := ⟨_, _, H.kept (Kp.drawn _ w _), (subO_cons (.tail _ (.head _)) (subO_nil)), (sub_nil)⟩
                refine wp_draw _ [(0, 0), (2, 0), (3, 0), (4, 0), (5, 0), (1, 1), (6, 0), (7, 0), (8, 0), (10, 0), (9, 1), (11, 1), (12, 0), (13, 0)] mixedOk (by kernel_rfl) (fun _ _ _ h => False.elim h.2) hI ?_
                replace H := H.kept (Kp.drawn _ w (w.drawn + 1))
                generalize ({ w with drawn := w.drawn + 1 } : World) = w at H hI ⊢
                replace hI : ∃ W, Still [Blk p20 77 [v37, .int .i64 x39]] [] W := ⟨_, hI⟩
                obtain ⟨W0, hI⟩ := hI
                refine fr_val E rfl (wn rfl) rfl rfl (fun w hW => (x_move E rfl rfl)) ?_
                clear E; clear a; intro a E
                refine fr_val E rfl (wn rfl) rfl rfl (fun w hW => (x_move E rfl rfl)) ?_
                clear E; clear a; intro a E
                refine fr_val E rfl (wn rfl) rfl rfl (fun w hW => (x_nil E rfl rfl)) ?_
                clear E; clear a; intro a E
                refine fr_val E rfl (wn rfl) rfl rfl (fun w hW => x_fa E rfl rfl (v := .pointer (some ⟨p20, 1, none⟩)) (fa77_1 _ _)) ?_
                clear E; clear a; intro a E
                refine fr_val E rfl (wn rfl) rfl rfl (fun w hW => x_ld E rfl rfl (ib_ld (.head _) rfl Try.underlying52 rfl w hW)) ?_
                clear E; clear a; intro a E
                refine fr_op rfl ?_
                replace H : Sep w (Blk p16 91 [v34, .int .i64 x36] :: Blk p20 77 [v37, .int .i64 x39] :: Fo) (rs40) := H
                obtain ⟨u51, hx52, hm⟩ := bnd hm
                refine st_call E (wn rfl) rfl rfl (x_call E rfl rfl (cf31 _)) (c_pack_Reader_Err p16 v34 l35 x36 H hr43 hx52) ?_
                clear E H; clear a; clear w; rintro _ w ⟨rfl, H⟩ a E
                refine wpList_nil ?_
                refine q_then ?_
                replace H : Sep w (Blk p16 91 [v34, .int .i64 x36] :: Blk p20 77 [v37, .int .i64 x39] :: Fo) (rs40) := H
                refine ⟨⟨_, _, H, (subO_cons (.tail _ (.head _)) (subO_nil)), (sub_nil)⟩, ?_⟩
                refine fr_val E rfl (wn rfl) rfl rfl (fun w hW => (x_bin E rfl rfl rfl rfl)) ?_
                clear E; clear a; intro a E
                refine fr_val E rfl (wn rfl) rfl rfl (fun w hW => (x_move E rfl rfl)) ?_
                clear E; clear a; intro a E
                rcases Bool.eq_false_or_eq_true (x36 != x39) with hb53 | hb53
                · rw [if_t hb53] at hm
                  refine fr_no E rfl (wf' E rfl rfl rfl rfl hb53 rfl) rfl rfl ?_
                  clear E; clear a; intro a E
                  refine fr_no E rfl (wf' E rfl rfl rfl rfl hb53 rfl) rfl rfl ?_
                  clear E; clear a; intro a E
                  refine fr_op rfl ?_
                  refine st_no E (wf' E rfl rfl rfl rfl hb53 rfl) rfl rfl ?_
                  clear E; clear a; intro a E
                  refine wpList_nil ?_
                  refine q_then ?_
                  replace H : Sep w (Blk p16 91 [v34, .int .i64 x36] :: Blk p20 77 [v37, .int .i64 x39] :: Fo) (rs40) := H
                  refine ⟨⟨_, _, H, (subO_cons (.tail _ (.head _)) (subO_nil)), (sub_nil)⟩, ?_⟩
                  refine fr_op rfl ?_
                  refine st_no E (wf' E rfl rfl rfl rfl hb53 rfl) rfl rfl ?_
                  clear E; clear a; intro a E
                  refine wpList_nil ?_
                  refine q_then ?_
                  replace H : Sep w (Blk p16 91 [v34, .int .i64 x36] :: Blk p20 77 [v37, .int .i64 x39] :: Fo) (rs40) := H
                  refine ⟨⟨_, _, H, (subO_cons (.tail _ (.head _)) (subO_nil)), (sub_nil)⟩, ?_⟩
                  refine fr_no E rfl (wf' E rfl rfl rfl rfl hb53 rfl) rfl rfl ?_
                  clear E; clear a; intro a E
                  refine fr_val E rfl (wn rfl) rfl rfl (fun w hW => (x_pickT E rfl rfl hb53 rfl)) ?_
                  clear E; clear a; intro a E
                  refine fr_nil ?_
                  clear hI
                  refine q_then ?_
                  exact ⟨true, _, ((((((E.nil.keep E 92 rfl).keep E 8 rfl).keep E 7 rfl).keep E 6 rfl).keep E 5 rfl).keep E 1 rfl), H, hs41, hr42, hr43, hr44, hm⟩
                · rw [if_f hb53] at hm
                  refine fr_val E rfl (ws' E rfl rfl rfl rfl hb53) rfl rfl (fun w hW => (x_move E rfl rfl)) ?_
                  clear E; clear a; intro a E
                  refine fr_val E rfl (ws' E rfl rfl rfl rfl hb53) rfl rfl (fun w hW => (x_move E rfl rfl)) ?_
                  clear E; clear a; intro a E
                  refine fr_op rfl ?_
                  replace H : Sep w (Blk p16 91 [v34, .int .i64 x36] :: Blk p20 77 [v37, .int .i64 x39] :: Fo) (rs40) := H
                  obtain ⟨u54, hx55, hm⟩ := bnd hm
                  refine st_call E (ws' E rfl rfl rfl rfl hb53) rfl rfl (x_call E rfl rfl (cf30 _)) (c_pack_Reader_End p16 v34 l35 x36 H hr43 hx55) ?_
                  clear E H; clear a; clear w; rintro _ w ⟨rfl, H⟩ a E
                  refine wpList_nil ?_
                  refine q_then ?_
                  replace H : Sep w (Blk p16 91 [v34, .int .i64 x36] :: Blk p20 77 [v37, .int .i64 x39] :: Fo) (rs40) := H
                  refine ⟨⟨_, _, H, (subO_cons (.tail _ (.head _)) (subO_nil)), (sub_nil)⟩, ?_⟩
                  refine fr_op rfl ?_
                  replace H := H.front 0 rfl
                  replace H := H.front 1 rfl
                  replace H : Sep w (Blk p20 77 [v37, .int .i64 x39] :: Blk p16 91 [v34, .int .i64 x36] :: Fo) (rs40) := H
                  obtain ⟨u56, hx57, hm⟩ := bnd hm
                  refine st_call E (ws' E rfl rfl rfl rfl hb53) rfl rfl (x_call E rfl rfl (cf49 _)) (c_cantonref02_Reader_End p20 v37 l38 x39 H hr44 hx57) ?_
                  clear E H; clear a; clear w; rintro _ w ⟨rfl, H⟩ a E
                  refine wpList_nil ?_
                  refine q_then ?_
                  replace H : Sep w (Blk p20 77 [v37, .int .i64 x39] :: Blk p16 91 [v34, .int .i64 x36] :: Fo) (rs40) := H
                  refine ⟨⟨_, _, H, (subO_cons (.head _) (subO_nil)), (sub_nil)⟩, ?_⟩
                  refine fr_val E rfl (ws' E rfl rfl rfl rfl hb53) rfl rfl (fun w hW => (x_bin2 E rfl rfl rfl (v := .bool (u54 != u56)) (by kernel_rfl))) ?_
                  clear E; clear a; intro a E
                  refine fr_val E rfl (wn rfl) rfl rfl (fun w hW => (x_pickF E rfl rfl hb53 rfl)) ?_
                  clear E; clear a; intro a E
                  refine fr_nil ?_
                  clear hI
                  refine q_then ?_
                  replace H := H.front 0 rfl
                  replace H := H.front 1 rfl
                  exact ⟨u54 != u56, _, ((((((E.nil.keep E 92 rfl).keep E 8 rfl).keep E 7 rfl).keep E 6 rfl).keep E 5 rfl).keep E 1 rfl), H, hs41, hr42, hr43, hr44, hm⟩
              · clear E H hm
                rintro a w ⟨b45, rs46, E, H, hs47, hr48, hr49, hr50, hm⟩
                unfold m_cantonlaw02_PackReads_j3 at hm
                refine wp_if E rfl ?_ ?_
                · intro hb
                  rw [if_t hb] at hm
                  clear hb
                  refine wp_seq ?_
                  refine wp_region_lit ?_
                  refine st_val E (wn rfl) rfl rfl (x_assign E rfl rfl) ?_
                  clear E; clear a; intro a E
                  refine wpList_nil ?_
                  refine q_then ?_
                  refine wp_ret ?_
                  refine q_blkR ?_
                  refine q_thenR ?_
                  refine q_thenR ?_
                  refine q_blkR ?_
                  refine q_thenR ?_
                  refine out1 E rfl rfl ?_
                  replace H := H.drop 0
                  replace H := H.drop 0
                  obtain rfl := Option.some.inj hm
                  exact ⟨rfl, H.reads (fun r hr => hs47 r hr)⟩
                · intro hb
                  rw [if_f hb] at hm
                  clear hb
                  refine wp_skip ?_
                  refine q_blk ?_
                  refine q_then ?_
                  refine wp_region_lit ?_
                  refine st_val E (wn rfl) rfl rfl (x_move E rfl rfl) ?_
                  clear E; clear a; intro a E
                  refine st_val E (wn rfl) rfl rfl (x_bin E rfl rfl rfl rfl) ?_
                  clear E; clear a; intro a E
                  refine st_val E (wn rfl) rfl rfl (x_assign E rfl rfl) ?_
                  clear E; clear a; intro a E
                  refine wpList_nil ?_
                  refine q_then ?_
                  exact ⟨k1, Nat.lt_succ_self k1, v34, v37, IntKind.i64.wrap (x22 + 1), l35, x36, l38, x39, _, (((((E.nil.keep E 8 rfl).keep E 7 rfl).keep E 6 rfl).keep E 5 rfl).keep E 1 rfl), H, hs47, hr48, hr49, hr50, hm⟩
          · intro hb
            rw [if_f hb] at hm
            clear hb
            refine wp_exit ?_
            refine q_thenX ?_
            refine q_thenX ?_
            refine q_hit ?_
            refine q_then ?_
            refine wp_seq ?_
            refine wp_region_lit ?_
            refine st_val E (wn rfl) rfl rfl (x_move E rfl rfl) ?_
            clear E; clear a; intro a E
            refine st_val E (wn rfl) rfl rfl (x_assign E rfl rfl) ?_
            clear E; clear a; intro a E
            refine wpList_nil ?_
            refine q_then ?_
            refine wp_ret ?_
            refine out1 E rfl rfl ?_
            replace H := H.drop 0
            replace H := H.drop 0
            obtain rfl := Option.some.inj hm
            exact ⟨rfl, H.reads (fun r hr => hs30 r hr)⟩
end Go.Cb
