/- A function of the program, walked: it comes to its plain function. -/
import Derived.Test.YtbjpjbopfhbkmaaT
import Derived.Test.YtbjpjbopfhbkmaaFcantonlaw02head
import Derived.Test.YtbjpjbopfhbkmaaFpackNew
import Derived.Test.YtbjpjbopfhbkmaaFpackReaderErr
import Derived.Test.YtbjpjbopfhbkmaaFpackReaderNum
import Derived.Test.YtbjpjbopfhbkmaaFpackReaderText
import Derived.Test.YtbjpjbopfhbkmaaFpackWriterBytes
import Derived.Test.YtbjpjbopfhbkmaaFpackWriterNum
import Derived.Test.YtbjpjbopfhbkmaaFpackWriterText
set_option linter.unusedVariables false
set_option linter.unusedSimpArgs false
namespace Go.Cb
open Go.Proofs Go.RowKit
def m_cantonlaw02_PackCuts_j3 (u22 : (List Int) × Int) (x3 : Int) (u4 : Bool) (b25 : Bool) : Option Bool :=
  if b25 = true then (some (false)) else ((ck ((u22.1.length : Int) ≠ 0)).bind fun u29 => (ck (0 ≤ ((IntKind.i64.wrap x3).tmod (u22.1.length : Int)) ∧ ((IntKind.i64.wrap x3).tmod (u22.1.length : Int)) ≤ u22.1.length)).bind fun u30 => (m_pack_New (u22.1.take ((IntKind.i64.wrap x3).tmod (u22.1.length : Int)).toNat)).bind fun u33 => (m_pack_Reader_Text u33 0).bind fun u37 => if u4 = true then (if (sEq u37.1 (⟨#[]⟩)) = true then ((m_pack_Reader_Err u37.2.1 u37.2.2).bind fun u42 => some (u37.2.2 == 21)) else (some (false))) else (some (false)))
def m_cantonlaw02_PackCuts_j2 (x3 : Int) (u4 : Bool) (s2 : ByteArray) : Option Bool :=
  (m_pack_Writer_Text [] false s2).bind fun u19 => (m_pack_Writer_Bytes u19.1 u19.2).bind fun u22 => if (u22.2 != 0) = true then (m_cantonlaw02_PackCuts_j3 u22 x3 u4 true) else (m_cantonlaw02_PackCuts_j3 u22 x3 u4 (decide ((u22.1.length : Int) < 1)))
def m_cantonlaw02_PackCuts_j5 (x3 : Int) (u4 : Bool) (s2 : ByteArray) (b60 : Bool) : Option Bool :=
  if b60 = true then (some (false)) else (m_cantonlaw02_PackCuts_j2 x3 u4 s2)
def m_cantonlaw02_PackCuts_j4 (x3 : Int) (u4 : Bool) (s2 : ByteArray) (u10 : (List Int) × Int) (b45 : Bool) : Option Bool :=
  if b45 = true then (some (false)) else ((ck ((u10.1.length : Int) ≠ 0)).bind fun u49 => (ck (0 ≤ ((IntKind.i64.wrap x3).tmod (u10.1.length : Int)) ∧ ((IntKind.i64.wrap x3).tmod (u10.1.length : Int)) ≤ u10.1.length)).bind fun u50 => (m_pack_New (u10.1.take ((IntKind.i64.wrap x3).tmod (u10.1.length : Int)).toNat)).bind fun u53 => (m_pack_Reader_Num u53 0 281474976710656).bind fun u57 => if (u57.1 != 0) = true then (m_cantonlaw02_PackCuts_j5 x3 u4 s2 true) else ((m_pack_Reader_Err u57.2.1 u57.2.2).bind fun u64 => m_cantonlaw02_PackCuts_j5 x3 u4 s2 (u57.2.2 != 21)))
def m_cantonlaw02_PackCuts_j1 (x3 : Int) (u4 : Bool) (s2 : ByteArray) (u10 : (List Int) × Int) (b13 : Bool) : Option Bool :=
  if b13 = true then (some (false)) else (if (u10.2 == 0) = true then (if (decide ((u10.1.length : Int) < 1)) = true then (m_cantonlaw02_PackCuts_j4 x3 u4 s2 u10 true) else (m_cantonlaw02_PackCuts_j4 x3 u4 s2 u10 (decide ((u10.1.length : Int) > 7)))) else (m_cantonlaw02_PackCuts_j2 x3 u4 s2))
def m_cantonlaw02_PackCuts (x1 : Int) (s2 : ByteArray) (x3 : Int) : Option Bool :=
  m_cantonlaw02_head.bind fun u4 => if (decide ((s2.size : Int) > 20000)) = true then (some (u4)) else ((m_pack_Writer_Num [] false x1).bind fun u7 => (m_pack_Writer_Bytes u7.1 u7.2).bind fun u10 => if (decide (x1 ≥ 0)) = true then (m_cantonlaw02_PackCuts_j1 x3 u4 s2 u10 ((u10.2 == 0) != (decide (x1 ≤ 281474976710656)))) else (m_cantonlaw02_PackCuts_j1 x3 u4 s2 u10 ((u10.2 == 0) != false)))
set_option maxRecDepth 20000 in
set_option maxHeartbeats 1000000 in
theorem c_cantonlaw02_PackCuts {w : World} {Fo : List Ob} {rs : List Rp} (x1 : Int) (s2 : ByteArray) (x3 : Int) (H : Sep w (Fo) rs) {r : Bool} (hm : m_cantonlaw02_PackCuts x1 s2 x3 = some r) :
    Calls Try.prog 8 [.int .i64 x1, .string s2, .int .u8 x3].toArray w (Ret fun v w' => .bool r = v ∧ Sep w' (Fo) (rs)) := by
  unfold m_cantonlaw02_PackCuts at hm
  refine enter Try.func8 rfl Try.ntmps8 rfl fun a E => ?_
  simp only [enum, Nat.reduceAdd] at E
  refine wp_seq ?_
  refine wp_region_lit ?_
  refine st_val E (wn rfl) rfl rfl (x_assign E rfl rfl) ?_
  clear E; clear a; intro a E
  refine wpList_nil ?_
  refine q_then ?_
  refine wp_seq ?_
  refine wp_region_lit ?_
  replace H : Sep w (Fo) (rs) := H
  obtain ⟨u4, hx5, hm⟩ := bnd hm
  refine st_call E (wn rfl) rfl rfl (x_call E rfl rfl (cf28 _)) (c_cantonlaw02_head H hx5) ?_
  clear E H; clear a; clear w; rintro _ w ⟨rfl, H⟩ a E
  refine st_val E (wn rfl) rfl rfl (x_assign E rfl rfl) ?_
  clear E; clear a; intro a E
  refine wpList_nil ?_
  refine q_then ?_
  refine wp_seq ?_
  refine wp_seq ?_
  refine wp_region_lit ?_
  refine st_val E (wn rfl) rfl rfl (x_move E rfl rfl) ?_
  clear E; clear a; intro a E
  refine st_val E (wn rfl) rfl rfl (x_lenStr E rfl rfl Try.underlying9) ?_
  clear E; clear a; intro a E
  refine st_val E (wn rfl) rfl rfl (x_bin E rfl rfl rfl rfl) ?_
  clear E; clear a; intro a E
  refine wpList_nil ?_
  refine q_then ?_
  refine wp_if E rfl ?_ ?_
  · intro hb
    rw [if_t hb] at hm
    clear hb
    refine wp_seq ?_
    refine wp_region_lit ?_
    refine st_val E (wn rfl) rfl rfl (x_move E rfl rfl) ?_
    clear E; clear a; intro a E
    refine st_val E (wn rfl) rfl rfl (x_assign E rfl rfl) ?_
    clear E; clear a; intro a E
    refine wpList_nil ?_
    refine q_then ?_
    refine wp_ret ?_
    refine q_thenR ?_
    refine out1 E rfl rfl ?_
    obtain rfl := Option.some.inj hm
    exact ⟨rfl, H.reads (fun r hr => hr)⟩
  · intro hb
    rw [if_f hb] at hm
    clear hb
    refine wp_skip ?_
    refine q_then ?_
    refine wp_seq ?_
    refine wp_region_lit ?_
    refine st_val E (wn rfl) rfl rfl (x_build E (ps := []) (vs := []) rfl rfl (v := .agg #[.slice none 0 0, .bool false]) (by kernel_rfl)) ?_
    clear E; clear a; intro a E
    refine st_box E H (wn rfl) rfl rfl (cs := [.slice none 0 0, .bool false]) rfl rfl rfl ?_
    clear E H; clear a; clear w; intro p6 w a H E
    refine st_val E (wn rfl) rfl rfl (x_assign E rfl rfl) ?_
    clear E; clear a; intro a E
    refine wpList_nil ?_
    refine q_then ?_
    refine wp_seq ?_
    refine wp_region_lit ?_
    refine st_val E (wn rfl) rfl rfl (x_move E rfl rfl) ?_
    clear E; clear a; intro a E
    refine st_val E (wn rfl) rfl rfl (x_move E rfl rfl) ?_
    clear E; clear a; intro a E
    replace H := H.nilRow 5 (kI .u8)
    replace H := H.front 0 rfl
    replace H := H.front 1 rfl
    replace H : Sep w (Blk p6 51 [.slice none 0 0, .bool false] :: Row 5 (kI .u8) (.slice none 0 0) ([] : List Int) :: Fo) (rs) := H
    obtain ⟨u7, hx8, hm⟩ := bnd hm
    refine st_call E (wn rfl) rfl rfl (x_call E rfl rfl (cf33 _)) (c_pack_Writer_Num p6 (.slice none 0 0) [] false x1 H hx8) ?_
    clear E H; clear a; clear w; rintro _ w ⟨v9, rfl, H⟩ a E
    refine wpList_nil ?_
    refine q_then ?_
    refine wp_seq ?_
    refine wp_region_lit ?_
    refine st_val E (wn rfl) rfl rfl (x_move E rfl rfl) ?_
    clear E; clear a; intro a E
    replace H : Sep w (Blk p6 51 [v9, .bool u7.2] :: Row 5 (kI .u8) v9 u7.1 :: Fo) (rs) := H
    obtain ⟨u10, hx11, hm⟩ := bnd hm
    refine st_call E (wn rfl) rfl rfl (x_call E rfl rfl (cf34 _)) (c_pack_Writer_Bytes p6 v9 u7.1 u7.2 H hx11) ?_
    clear E H; clear a; clear w; rintro _ w ⟨v12, rfl, H⟩ a E
    refine st_val E (wn rfl) rfl rfl (x_move E rfl rfl) ?_
    clear E; clear a; intro a E
    refine st_val E (wn rfl) rfl rfl (x_ext E rfl rfl rfl) ?_
    clear E; clear a; intro a E
    refine st_val E (wn rfl) rfl rfl (x_ext E rfl rfl rfl) ?_
    clear E; clear a; intro a E
    refine st_val E (wn rfl) rfl rfl (x_assign E rfl rfl) ?_
    clear E; clear a; intro a E
    refine st_val E (wn rfl) rfl rfl (x_assign E rfl rfl) ?_
    clear E; clear a; intro a E
    refine wpList_nil ?_
    refine q_then ?_
    refine wp_seq ?_
    refine wp_seq_cut (fun a w => ∃ (b13 : Bool) (rs14 : List Rp), Env 110 a [(1, .string s2), (2, .int .u8 x3), (7, .bool u4), (9, v12), (10, .int .i64 u10.2), (41, .bool b13)] ∧ Sep w (Row 5 (kI .u8) v12 u10.1 :: Fo) rs14 ∧ (∀ r, r ∈ rs → r ∈ rs14) ∧ m_cantonlaw02_PackCuts_j1 x3 u4 s2 u10 b13 = some r) ?_ ?_
    · refine wp_region_lit ?_
      refine st_val E (wn rfl) rfl rfl (x_move E rfl rfl) ?_
      clear E; clear a; intro a E
      refine st_val E (wn rfl) rfl rfl (x_bin E rfl rfl rfl rfl) ?_
      clear E; clear a; intro a E
      refine st_val E (wn rfl) rfl rfl (x_move E rfl rfl) ?_
      clear E; clear a; intro a E
      refine st_val E (wn rfl) rfl rfl (x_bin E rfl rfl rfl rfl) ?_
      clear E; clear a; intro a E
      refine st_val E (wn rfl) rfl rfl (x_move E rfl rfl) ?_
      clear E; clear a; intro a E
      rcases Bool.eq_false_or_eq_true (decide (x1 ≥ 0)) with hb67 | hb67
      · rw [if_t hb67] at hm
        refine st_val E (ws' E rfl rfl rfl rfl hb67) rfl rfl (x_move E rfl rfl) ?_
        clear E; clear a; intro a E
        refine st_val E (ws' E rfl rfl rfl rfl hb67) rfl rfl (x_bin E rfl rfl rfl rfl) ?_
        clear E; clear a; intro a E
        refine st_val E (wn rfl) rfl rfl (x_pickT E rfl rfl hb67 rfl) ?_
        clear E; clear a; intro a E
        refine st_val E (wn rfl) rfl rfl (x_bin2 E rfl rfl rfl (v := .bool ((u10.2 == 0) != (decide (x1 ≤ 281474976710656)))) (by kernel_rfl)) ?_
        clear E; clear a; intro a E
        refine wpList_nil ?_
        refine q_then ?_
        replace H := H.drop 1
        replace H := H.drop 1
        exact ⟨(u10.2 == 0) != (decide (x1 ≤ 281474976710656)), _, ((((((E.nil.keep E 41 rfl).keep E 10 rfl).keep E 9 rfl).keep E 7 rfl).keep E 2 rfl).keep E 1 rfl), H, fun r hr => hr, hm⟩
      · rw [if_f hb67] at hm
        refine st_no E (wf' E rfl rfl rfl rfl hb67 rfl) rfl rfl ?_
        clear E; clear a; intro a E
        refine st_no E (wf' E rfl rfl rfl rfl hb67 rfl) rfl rfl ?_
        clear E; clear a; intro a E
        refine st_val E (wn rfl) rfl rfl (x_pickF E rfl rfl hb67 rfl) ?_
        clear E; clear a; intro a E
        refine st_val E (wn rfl) rfl rfl (x_bin2 E rfl rfl rfl (v := .bool ((u10.2 == 0) != false)) (by kernel_rfl)) ?_
        clear E; clear a; intro a E
        refine wpList_nil ?_
        refine q_then ?_
        replace H := H.drop 1
        replace H := H.drop 1
        exact ⟨(u10.2 == 0) != false, _, ((((((E.nil.keep E 41 rfl).keep E 10 rfl).keep E 9 rfl).keep E 7 rfl).keep E 2 rfl).keep E 1 rfl), H, fun r hr => hr, hm⟩
    · clear E H hm
      rintro a w ⟨b13, rs14, E, H, hs15, hm⟩
      unfold m_cantonlaw02_PackCuts_j1 at hm
      refine wp_if E rfl ?_ ?_
      · intro hb
        rw [if_t hb] at hm
        clear hb
        refine wp_seq ?_
        refine wp_region_lit ?_
        refine st_val E (wn rfl) rfl rfl (x_assign E rfl rfl) ?_
        clear E; clear a; intro a E
        refine wpList_nil ?_
        refine q_then ?_
        refine wp_ret ?_
        refine q_thenR ?_
        refine out1 E rfl rfl ?_
        replace H := H.drop 0
        obtain rfl := Option.some.inj hm
        exact ⟨rfl, H.reads (fun r hr => hs15 r hr)⟩
      · intro hb
        rw [if_f hb] at hm
        clear hb
        refine wp_skip ?_
        refine q_then ?_
        refine wp_seq_cut (fun a w => ∃ (rs16 : List Rp), Env 110 a [(1, .string s2), (2, .int .u8 x3), (7, .bool u4)] ∧ Sep w (Fo) rs16 ∧ (∀ r, r ∈ rs → r ∈ rs16) ∧ m_cantonlaw02_PackCuts_j2 x3 u4 s2 = some r) ?_ ?_
        · refine wp_seq ?_
          refine wp_region_lit ?_
          refine st_val E (wn rfl) rfl rfl (x_move E rfl rfl) ?_
          clear E; clear a; intro a E
          refine st_val E (wn rfl) rfl rfl (x_bin E rfl rfl rfl rfl) ?_
          clear E; clear a; intro a E
          refine wpList_nil ?_
          refine q_then ?_
          refine wp_if E rfl ?_ ?_
          · intro hb
            rw [if_t hb] at hm
            clear hb
            refine wp_seq ?_
            refine wp_seq_cut (fun a w => ∃ (b45 : Bool) (rs46 : List Rp), Env 110 a [(1, .string s2), (2, .int .u8 x3), (7, .bool u4), (9, v12), (51, .bool b45)] ∧ Sep w (Row 5 (kI .u8) v12 u10.1 :: Fo) rs46 ∧ (∀ r, r ∈ rs → r ∈ rs46) ∧ m_cantonlaw02_PackCuts_j4 x3 u4 s2 u10 b45 = some r) ?_ ?_
            · refine wp_region_lit ?_
              refine st_val E (wn rfl) rfl rfl (x_move E rfl rfl) ?_
              clear E; clear a; intro a E
              refine st_val E (wn rfl) rfl rfl (x_lenR (i := 0) E H rfl rfl rfl Try.underlying46) ?_
              clear E; clear a; intro a E
              refine st_val E (wn rfl) rfl rfl (x_bin E rfl rfl rfl rfl) ?_
              clear E; clear a; intro a E
              refine st_val E (wn rfl) rfl rfl (x_move E rfl rfl) ?_
              clear E; clear a; intro a E
              rcases Bool.eq_false_or_eq_true (decide ((u10.1.length : Int) < 1)) with hb66 | hb66
              · rw [if_t hb66] at hm
                refine st_no E (wf' E rfl rfl rfl rfl hb66 rfl) rfl rfl ?_
                clear E; clear a; intro a E
                refine st_no E (wf' E rfl rfl rfl rfl hb66 rfl) rfl rfl ?_
                clear E; clear a; intro a E
                refine st_no E (wf' E rfl rfl rfl rfl hb66 rfl) rfl rfl ?_
                clear E; clear a; intro a E
                refine st_val E (wn rfl) rfl rfl (x_pickT E rfl rfl hb66 rfl) ?_
                clear E; clear a; intro a E
                refine wpList_nil ?_
                refine q_then ?_
                exact ⟨true, _, (((((E.nil.keep E 51 rfl).keep E 9 rfl).keep E 7 rfl).keep E 2 rfl).keep E 1 rfl), H, hs15, hm⟩
              · rw [if_f hb66] at hm
                refine st_val E (ws' E rfl rfl rfl rfl hb66) rfl rfl (x_move E rfl rfl) ?_
                clear E; clear a; intro a E
                refine st_val E (ws' E rfl rfl rfl rfl hb66) rfl rfl (x_lenR (i := 0) E H rfl rfl rfl Try.underlying46) ?_
                clear E; clear a; intro a E
                refine st_val E (ws' E rfl rfl rfl rfl hb66) rfl rfl (x_bin E rfl rfl rfl rfl) ?_
                clear E; clear a; intro a E
                refine st_val E (wn rfl) rfl rfl (x_pickF E rfl rfl hb66 rfl) ?_
                clear E; clear a; intro a E
                refine wpList_nil ?_
                refine q_then ?_
                exact ⟨decide ((u10.1.length : Int) > 7), _, (((((E.nil.keep E 51 rfl).keep E 9 rfl).keep E 7 rfl).keep E 2 rfl).keep E 1 rfl), H, hs15, hm⟩
            · clear E H hm
              rintro a w ⟨b45, rs46, E, H, hs47, hm⟩
              unfold m_cantonlaw02_PackCuts_j4 at hm
              refine wp_if E rfl ?_ ?_
              · intro hb
                rw [if_t hb] at hm
                clear hb
                refine wp_seq ?_
                refine wp_region_lit ?_
                refine st_val E (wn rfl) rfl rfl (x_assign E rfl rfl) ?_
                clear E; clear a; intro a E
                refine wpList_nil ?_
                refine q_then ?_
                refine wp_ret ?_
                refine q_thenR ?_
                refine q_thenR ?_
                refine out1 E rfl rfl ?_
                replace H := H.drop 0
                obtain rfl := Option.some.inj hm
                exact ⟨rfl, H.reads (fun r hr => hs47 r hr)⟩
              · intro hb
                rw [if_f hb] at hm
                clear hb
                refine wp_skip ?_
                refine q_then ?_
                refine wp_seq ?_
                refine wp_region_lit ?_
                refine st_val E (wn rfl) rfl rfl (x_move E rfl rfl) ?_
                clear E; clear a; intro a E
                refine st_val E (wn rfl) rfl rfl (x_move E rfl rfl) ?_
                clear E; clear a; intro a E
                refine st_val E (wn rfl) rfl rfl (x_conv E rfl rfl (v := .int .i64 (IntKind.i64.wrap x3)) (by kernel_rfl)) ?_
                clear E; clear a; intro a E
                refine st_val E (wn rfl) rfl rfl (x_move E rfl rfl) ?_
                clear E; clear a; intro a E
                refine st_val E (wn rfl) rfl rfl (x_lenR (i := 0) E H rfl rfl rfl Try.underlying46) ?_
                clear E; clear a; intro a E
                obtain ⟨u49, hx48, hm⟩ := bnd hm
                refine st_val E (wn rfl) rfl rfl (x_rem E rfl rfl rfl (ck_of hx48)) ?_
                clear E; clear a; intro a E
                replace H := H.thaw (i := 0) rfl
                obtain ⟨u50, hx51, hm⟩ := bnd hm
                refine st_take E H (wn rfl) rfl rfl rfl rfl rfl (.head _) Try.underlying46 sz5 (ck_of hx51) ?_
                clear E H; clear a; intro v52 a H E
                replace H : Sep w (Fo) (rSl (kI .u8) v52 (u10.1.take ((IntKind.i64.wrap x3).tmod (u10.1.length : Int)).toNat) :: rSl (kI .u8) v12 u10.1 :: rs46) := H
                obtain ⟨u53, hx54, hm⟩ := bnd hm
                refine st_call E (wn rfl) rfl rfl (x_call E rfl rfl (cf29 _)) (c_pack_New v52 (u10.1.take ((IntKind.i64.wrap x3).tmod (u10.1.length : Int)).toNat) H (.head _) hx54) ?_
                clear E H; clear a; clear w; rintro _ w ⟨p55, v56, rfl, H⟩ a E
                refine st_val E (wn rfl) rfl rfl (x_assign E rfl rfl) ?_
                clear E; clear a; intro a E
                refine wpList_nil ?_
                refine q_then ?_
                refine wp_seq ?_
                refine wp_seq ?_
                refine wp_region_lit ?_
                refine st_val E (wn rfl) rfl rfl (x_move E rfl rfl) ?_
                clear E; clear a; intro a E
                refine st_val E (wn rfl) rfl rfl (x_bin2 E rfl rfl rfl (v := .bool false) (by kernel_rfl)) ?_
                clear E; clear a; intro a E
                refine wpList_nil ?_
                refine q_then ?_
                refine wp_cond_false (E.eval rfl) ?_
                refine wp_skip ?_
                refine q_then ?_
                refine wp_seq ?_
                refine wp_region_lit ?_
                refine st_val E (wn rfl) rfl rfl (x_move E rfl rfl) ?_
                clear E; clear a; intro a E
                replace H := H.thaw (i := 1) rfl
                replace H : Sep w (Blk p55 91 [v56, .int .i64 0] :: Fo) (rSl (kI .u8) v56 u53 :: rSl (kI .u8) v52 (u10.1.take ((IntKind.i64.wrap x3).tmod (u10.1.length : Int)).toNat) :: rSl (kI .u8) v12 u10.1 :: rs46) := H
                obtain ⟨u57, hx58, hm⟩ := bnd hm
                refine st_call E (wn rfl) rfl rfl (x_call E rfl rfl (cf32 _)) (c_pack_Reader_Num p55 v56 u53 0 281474976710656 H (.head _) hx58) ?_
                clear E H; clear a; clear w; rintro _ w ⟨v59, rfl, H⟩ a E
                refine st_val E (wn rfl) rfl rfl (x_assign E rfl rfl) ?_
                clear E; clear a; intro a E
                refine wpList_nil ?_
                refine q_then ?_
                refine wp_seq_cut (fun a w => ∃ (b60 : Bool) (rs61 : List Rp), Env 110 a [(1, .string s2), (2, .int .u8 x3), (7, .bool u4), (70, .bool b60)] ∧ Sep w (Fo) rs61 ∧ (∀ r, r ∈ rs → r ∈ rs61) ∧ m_cantonlaw02_PackCuts_j5 x3 u4 s2 b60 = some r) ?_ ?_
                · refine wp_region_lit ?_
                  refine st_val E (wn rfl) rfl rfl (x_move E rfl rfl) ?_
                  clear E; clear a; intro a E
                  refine st_val E (wn rfl) rfl rfl (x_bin E rfl rfl rfl rfl) ?_
                  clear E; clear a; intro a E
                  refine st_val E (wn rfl) rfl rfl (x_move E rfl rfl) ?_
                  clear E; clear a; intro a E
                  rcases Bool.eq_false_or_eq_true (u57.1 != 0) with hb63 | hb63
                  · rw [if_t hb63] at hm
                    refine st_no E (wf' E rfl rfl rfl rfl hb63 rfl) rfl rfl ?_
                    clear E; clear a; intro a E
                    refine st_no E (wf' E rfl rfl rfl rfl hb63 rfl) rfl rfl ?_
                    clear E; clear a; intro a E
                    refine st_no E (wf' E rfl rfl rfl rfl hb63 rfl) rfl rfl ?_
                    clear E; clear a; intro a E
                    refine st_val E (wn rfl) rfl rfl (x_pickT E rfl rfl hb63 rfl) ?_
                    clear E; clear a; intro a E
                    refine wpList_nil ?_
                    refine q_then ?_
                    replace H := H.drop 0
                    exact ⟨true, _, ((((E.nil.keep E 70 rfl).keep E 7 rfl).keep E 2 rfl).keep E 1 rfl), H, fun r hr => .tail _ (.tail _ (.tail _ (.tail _ (hs47 r hr)))), hm⟩
                  · rw [if_f hb63] at hm
                    refine st_val E (ws' E rfl rfl rfl rfl hb63) rfl rfl (x_move E rfl rfl) ?_
                    clear E; clear a; intro a E
                    replace H : Sep w (Blk p55 91 [v59, .int .i64 u57.2.2] :: Fo) (rSl (kI .u8) v59 u57.2.1 :: rSl (kI .u8) v56 u53 :: rSl (kI .u8) v52 (u10.1.take ((IntKind.i64.wrap x3).tmod (u10.1.length : Int)).toNat) :: rSl (kI .u8) v12 u10.1 :: rs46) := H
                    obtain ⟨u64, hx65, hm⟩ := bnd hm
                    refine st_call E (ws' E rfl rfl rfl rfl hb63) rfl rfl (x_call E rfl rfl (cf31 _)) (c_pack_Reader_Err p55 v59 u57.2.1 u57.2.2 H (.head _) hx65) ?_
                    clear E H; clear a; clear w; rintro _ w ⟨rfl, H⟩ a E
                    refine st_val E (ws' E rfl rfl rfl rfl hb63) rfl rfl (x_bin E rfl rfl rfl rfl) ?_
                    clear E; clear a; intro a E
                    refine st_val E (wn rfl) rfl rfl (x_pickF E rfl rfl hb63 rfl) ?_
                    clear E; clear a; intro a E
                    refine wpList_nil ?_
                    refine q_then ?_
                    replace H := H.drop 0
                    exact ⟨u57.2.2 != 21, _, ((((E.nil.keep E 70 rfl).keep E 7 rfl).keep E 2 rfl).keep E 1 rfl), H, fun r hr => .tail _ (.tail _ (.tail _ (.tail _ (hs47 r hr)))), hm⟩
                · clear E H hm
                  rintro a w ⟨b60, rs61, E, H, hs62, hm⟩
                  unfold m_cantonlaw02_PackCuts_j5 at hm
                  refine wp_if E rfl ?_ ?_
                  · intro hb
                    rw [if_t hb] at hm
                    clear hb
                    refine wp_seq ?_
                    refine wp_region_lit ?_
                    refine st_val E (wn rfl) rfl rfl (x_assign E rfl rfl) ?_
                    clear E; clear a; intro a E
                    refine wpList_nil ?_
                    refine q_then ?_
                    refine wp_ret ?_
                    refine q_thenR ?_
                    refine out1 E rfl rfl ?_
                    obtain rfl := Option.some.inj hm
                    exact ⟨rfl, H.reads (fun r hr => hs62 r hr)⟩
                  · intro hb
                    rw [if_f hb] at hm
                    clear hb
                    refine wp_skip ?_
                    refine q_then ?_
                    exact ⟨_, (((E.nil.keep E 7 rfl).keep E 2 rfl).keep E 1 rfl), H, hs62, hm⟩
          · intro hb
            rw [if_f hb] at hm
            clear hb
            refine wp_skip ?_
            refine q_then ?_
            replace H := H.drop 0
            exact ⟨_, (((E.nil.keep E 7 rfl).keep E 2 rfl).keep E 1 rfl), H, hs15, hm⟩
        · clear E H hm
          rintro a w ⟨rs16, E, H, hs17, hm⟩
          unfold m_cantonlaw02_PackCuts_j2 at hm
          refine wp_seq ?_
          refine wp_region_lit ?_
          refine st_val E (wn rfl) rfl rfl (x_build E (ps := []) (vs := []) rfl rfl (v := .agg #[.slice none 0 0, .bool false]) (by kernel_rfl)) ?_
          clear E; clear a; intro a E
          refine st_box E H (wn rfl) rfl rfl (cs := [.slice none 0 0, .bool false]) rfl rfl rfl ?_
          clear E H; clear a; clear w; intro p18 w a H E
          refine st_val E (wn rfl) rfl rfl (x_assign E rfl rfl) ?_
          clear E; clear a; intro a E
          refine wpList_nil ?_
          refine q_then ?_
          refine wp_seq ?_
          refine wp_region_lit ?_
          refine st_val E (wn rfl) rfl rfl (x_move E rfl rfl) ?_
          clear E; clear a; intro a E
          refine st_val E (wn rfl) rfl rfl (x_move E rfl rfl) ?_
          clear E; clear a; intro a E
          replace H := H.nilRow 5 (kI .u8)
          replace H := H.front 0 rfl
          replace H := H.front 1 rfl
          replace H : Sep w (Blk p18 51 [.slice none 0 0, .bool false] :: Row 5 (kI .u8) (.slice none 0 0) ([] : List Int) :: Fo) (rs16) := H
          obtain ⟨u19, hx20, hm⟩ := bnd hm
          refine st_call E (wn rfl) rfl rfl (x_call E rfl rfl (cf35 _)) (c_pack_Writer_Text p18 (.slice none 0 0) [] false s2 H hx20) ?_
          clear E H; clear a; clear w; rintro _ w ⟨v21, rfl, H⟩ a E
          refine wpList_nil ?_
          refine q_then ?_
          refine wp_seq ?_
          refine wp_region_lit ?_
          refine st_val E (wn rfl) rfl rfl (x_move E rfl rfl) ?_
          clear E; clear a; intro a E
          replace H : Sep w (Blk p18 51 [v21, .bool u19.2] :: Row 5 (kI .u8) v21 u19.1 :: Fo) (rs16) := H
          obtain ⟨u22, hx23, hm⟩ := bnd hm
          refine st_call E (wn rfl) rfl rfl (x_call E rfl rfl (cf34 _)) (c_pack_Writer_Bytes p18 v21 u19.1 u19.2 H hx23) ?_
          clear E H; clear a; clear w; rintro _ w ⟨v24, rfl, H⟩ a E
          refine st_val E (wn rfl) rfl rfl (x_move E rfl rfl) ?_
          clear E; clear a; intro a E
          refine st_val E (wn rfl) rfl rfl (x_ext E rfl rfl rfl) ?_
          clear E; clear a; intro a E
          refine st_val E (wn rfl) rfl rfl (x_ext E rfl rfl rfl) ?_
          clear E; clear a; intro a E
          refine st_val E (wn rfl) rfl rfl (x_assign E rfl rfl) ?_
          clear E; clear a; intro a E
          refine st_val E (wn rfl) rfl rfl (x_assign E rfl rfl) ?_
          clear E; clear a; intro a E
          refine wpList_nil ?_
          refine q_then ?_
          refine wp_seq ?_
          refine wp_seq_cut (fun a w => ∃ (b25 : Bool) (rs26 : List Rp), Env 110 a [(2, .int .u8 x3), (7, .bool u4), (14, v24), (87, .bool b25)] ∧ Sep w (Row 5 (kI .u8) v24 u22.1 :: Fo) rs26 ∧ (∀ r, r ∈ rs → r ∈ rs26) ∧ m_cantonlaw02_PackCuts_j3 u22 x3 u4 b25 = some r) ?_ ?_
          · refine wp_region_lit ?_
            refine st_val E (wn rfl) rfl rfl (x_move E rfl rfl) ?_
            clear E; clear a; intro a E
            refine st_val E (wn rfl) rfl rfl (x_bin E rfl rfl rfl rfl) ?_
            clear E; clear a; intro a E
            refine st_val E (wn rfl) rfl rfl (x_move E rfl rfl) ?_
            clear E; clear a; intro a E
            rcases Bool.eq_false_or_eq_true (u22.2 != 0) with hb44 | hb44
            · rw [if_t hb44] at hm
              refine st_no E (wf' E rfl rfl rfl rfl hb44 rfl) rfl rfl ?_
              clear E; clear a; intro a E
              refine st_no E (wf' E rfl rfl rfl rfl hb44 rfl) rfl rfl ?_
              clear E; clear a; intro a E
              refine st_no E (wf' E rfl rfl rfl rfl hb44 rfl) rfl rfl ?_
              clear E; clear a; intro a E
              refine st_val E (wn rfl) rfl rfl (x_pickT E rfl rfl hb44 rfl) ?_
              clear E; clear a; intro a E
              refine wpList_nil ?_
              refine q_then ?_
              replace H := H.drop 1
              replace H := H.drop 1
              exact ⟨true, _, ((((E.nil.keep E 87 rfl).keep E 14 rfl).keep E 7 rfl).keep E 2 rfl), H, hs17, hm⟩
            · rw [if_f hb44] at hm
              refine st_val E (ws' E rfl rfl rfl rfl hb44) rfl rfl (x_move E rfl rfl) ?_
              clear E; clear a; intro a E
              refine st_val E (ws' E rfl rfl rfl rfl hb44) rfl rfl (x_lenR (i := 0) E H rfl rfl rfl Try.underlying46) ?_
              clear E; clear a; intro a E
              refine st_val E (ws' E rfl rfl rfl rfl hb44) rfl rfl (x_bin E rfl rfl rfl rfl) ?_
              clear E; clear a; intro a E
              refine st_val E (wn rfl) rfl rfl (x_pickF E rfl rfl hb44 rfl) ?_
              clear E; clear a; intro a E
              refine wpList_nil ?_
              refine q_then ?_
              replace H := H.drop 1
              replace H := H.drop 1
              exact ⟨decide ((u22.1.length : Int) < 1), _, ((((E.nil.keep E 87 rfl).keep E 14 rfl).keep E 7 rfl).keep E 2 rfl), H, hs17, hm⟩
          · clear E H hm
            rintro a w ⟨b25, rs26, E, H, hs27, hm⟩
            unfold m_cantonlaw02_PackCuts_j3 at hm
            refine wp_if E rfl ?_ ?_
            · intro hb
              rw [if_t hb] at hm
              clear hb
              refine wp_seq ?_
              refine wp_region_lit ?_
              refine st_val E (wn rfl) rfl rfl (x_assign E rfl rfl) ?_
              clear E; clear a; intro a E
              refine wpList_nil ?_
              refine q_then ?_
              refine wp_ret ?_
              refine q_thenR ?_
              refine out1 E rfl rfl ?_
              replace H := H.drop 0
              obtain rfl := Option.some.inj hm
              exact ⟨rfl, H.reads (fun r hr => hs27 r hr)⟩
            · intro hb
              rw [if_f hb] at hm
              clear hb
              refine wp_skip ?_
              refine q_then ?_
              refine wp_seq ?_
              refine wp_region_lit ?_
              refine st_val E (wn rfl) rfl rfl (x_move E rfl rfl) ?_
              clear E; clear a; intro a E
              refine st_val E (wn rfl) rfl rfl (x_move E rfl rfl) ?_
              clear E; clear a; intro a E
              refine st_val E (wn rfl) rfl rfl (x_conv E rfl rfl (v := .int .i64 (IntKind.i64.wrap x3)) (by kernel_rfl)) ?_
              clear E; clear a; intro a E
              refine st_val E (wn rfl) rfl rfl (x_move E rfl rfl) ?_
              clear E; clear a; intro a E
              refine st_val E (wn rfl) rfl rfl (x_lenR (i := 0) E H rfl rfl rfl Try.underlying46) ?_
              clear E; clear a; intro a E
              obtain ⟨u29, hx28, hm⟩ := bnd hm
              refine st_val E (wn rfl) rfl rfl (x_rem E rfl rfl rfl (ck_of hx28)) ?_
              clear E; clear a; intro a E
              replace H := H.thaw (i := 0) rfl
              obtain ⟨u30, hx31, hm⟩ := bnd hm
              refine st_take E H (wn rfl) rfl rfl rfl rfl rfl (.head _) Try.underlying46 sz5 (ck_of hx31) ?_
              clear E H; clear a; intro v32 a H E
              replace H : Sep w (Fo) (rSl (kI .u8) v32 (u22.1.take ((IntKind.i64.wrap x3).tmod (u22.1.length : Int)).toNat) :: rSl (kI .u8) v24 u22.1 :: rs26) := H
              obtain ⟨u33, hx34, hm⟩ := bnd hm
              refine st_call E (wn rfl) rfl rfl (x_call E rfl rfl (cf29 _)) (c_pack_New v32 (u22.1.take ((IntKind.i64.wrap x3).tmod (u22.1.length : Int)).toNat) H (.head _) hx34) ?_
              clear E H; clear a; clear w; rintro _ w ⟨p35, v36, rfl, H⟩ a E
              refine st_val E (wn rfl) rfl rfl (x_assign E rfl rfl) ?_
              clear E; clear a; intro a E
              refine wpList_nil ?_
              refine q_then ?_
              refine wp_seq ?_
              refine wp_seq ?_
              refine wp_region_lit ?_
              refine st_val E (wn rfl) rfl rfl (x_move E rfl rfl) ?_
              clear E; clear a; intro a E
              refine st_val E (wn rfl) rfl rfl (x_bin2 E rfl rfl rfl (v := .bool false) (by kernel_rfl)) ?_
              clear E; clear a; intro a E
              refine wpList_nil ?_
              refine q_then ?_
              refine wp_cond_false (E.eval rfl) ?_
              refine wp_skip ?_
              refine q_then ?_
              refine wp_seq ?_
              refine wp_region_lit ?_
              refine st_val E (wn rfl) rfl rfl (x_move E rfl rfl) ?_
              clear E; clear a; intro a E
              replace H := H.thaw (i := 1) rfl
              replace H : Sep w (Blk p35 91 [v36, .int .i64 0] :: Fo) (rSl (kI .u8) v36 u33 :: rSl (kI .u8) v32 (u22.1.take ((IntKind.i64.wrap x3).tmod (u22.1.length : Int)).toNat) :: rSl (kI .u8) v24 u22.1 :: rs26) := H
              obtain ⟨u37, hx38, hm⟩ := bnd hm
              refine st_call E (wn rfl) rfl rfl (x_call E rfl rfl (cf36 _)) (c_pack_Reader_Text p35 v36 u33 0 H (.head _) hx38) ?_
              clear E H; clear a; clear w; rintro _ w ⟨v39, rfl, H⟩ a E
              refine st_val E (wn rfl) rfl rfl (x_assign E rfl rfl) ?_
              clear E; clear a; intro a E
              refine wpList_nil ?_
              refine q_then ?_
              refine wp_seq ?_
              refine wp_region_lit ?_
              refine st_val E (wn rfl) rfl rfl (x_move E rfl rfl) ?_
              clear E; clear a; intro a E
              refine st_val E (wn rfl) rfl rfl (x_move E rfl rfl) ?_
              clear E; clear a; intro a E
              rcases Bool.eq_false_or_eq_true u4 with hb40 | hb40
              · rw [if_t hb40] at hm
                refine st_val E (ws' E rfl rfl rfl rfl hb40) rfl rfl (x_move E rfl rfl) ?_
                clear E; clear a; intro a E
                refine st_val E (ws' E rfl rfl rfl rfl hb40) rfl rfl (x_str E rfl rfl rfl rfl) ?_
                clear E; clear a; intro a E
                refine st_val E (wn rfl) rfl rfl (x_pickT E rfl rfl hb40 rfl) ?_
                clear E; clear a; intro a E
                refine st_val E (wn rfl) rfl rfl (x_move E rfl rfl) ?_
                clear E; clear a; intro a E
                rcases Bool.eq_false_or_eq_true (sEq u37.1 (⟨#[]⟩)) with hb41 | hb41
                · rw [if_t hb41] at hm
                  refine st_val E (ws' E rfl rfl rfl rfl hb41) rfl rfl (x_move E rfl rfl) ?_
                  clear E; clear a; intro a E
                  replace H : Sep w (Blk p35 91 [v39, .int .i64 u37.2.2] :: Fo) (rSl (kI .u8) v39 u37.2.1 :: rSl (kI .u8) v36 u33 :: rSl (kI .u8) v32 (u22.1.take ((IntKind.i64.wrap x3).tmod (u22.1.length : Int)).toNat) :: rSl (kI .u8) v24 u22.1 :: rs26) := H
                  obtain ⟨u42, hx43, hm⟩ := bnd hm
                  refine st_call E (ws' E rfl rfl rfl rfl hb41) rfl rfl (x_call E rfl rfl (cf31 _)) (c_pack_Reader_Err p35 v39 u37.2.1 u37.2.2 H (.head _) hx43) ?_
                  clear E H; clear a; clear w; rintro _ w ⟨rfl, H⟩ a E
                  refine st_val E (ws' E rfl rfl rfl rfl hb41) rfl rfl (x_bin E rfl rfl rfl rfl) ?_
                  clear E; clear a; intro a E
                  refine st_val E (wn rfl) rfl rfl (x_pickT E rfl rfl hb41 rfl) ?_
                  clear E; clear a; intro a E
                  refine st_val E (wn rfl) rfl rfl (x_assign E rfl rfl) ?_
                  clear E; clear a; intro a E
                  refine wpList_nil ?_
                  refine q_then ?_
                  refine wp_ret ?_
                  refine out1 E rfl rfl ?_
                  replace H := H.drop 0
                  obtain rfl := Option.some.inj hm
                  exact ⟨rfl, H.reads (fun r hr => .tail _ (.tail _ (.tail _ (.tail _ (hs27 r hr)))))⟩
                · rw [if_f hb41] at hm
                  refine st_no E (wf' E rfl rfl rfl rfl hb41 rfl) rfl rfl ?_
                  clear E; clear a; intro a E
                  refine st_no E (wf' E rfl rfl rfl rfl hb41 rfl) rfl rfl ?_
                  clear E; clear a; intro a E
                  refine st_no E (wf' E rfl rfl rfl rfl hb41 rfl) rfl rfl ?_
                  clear E; clear a; intro a E
                  refine st_val E (wn rfl) rfl rfl (x_pickF E rfl rfl hb41 rfl) ?_
                  clear E; clear a; intro a E
                  refine st_val E (wn rfl) rfl rfl (x_assign E rfl rfl) ?_
                  clear E; clear a; intro a E
                  refine wpList_nil ?_
                  refine q_then ?_
                  refine wp_ret ?_
                  refine out1 E rfl rfl ?_
                  replace H := H.drop 0
                  obtain rfl := Option.some.inj hm
                  exact ⟨rfl, H.reads (fun r hr => .tail _ (.tail _ (.tail _ (.tail _ (hs27 r hr)))))⟩
              · rw [if_f hb40] at hm
                refine st_no E (wf' E rfl rfl rfl rfl hb40 rfl) rfl rfl ?_
                clear E; clear a; intro a E
                refine st_no E (wf' E rfl rfl rfl rfl hb40 rfl) rfl rfl ?_
                clear E; clear a; intro a E
                refine st_val E (wn rfl) rfl rfl (x_pickF E rfl rfl hb40 rfl) ?_
                clear E; clear a; intro a E
                refine st_val E (wn rfl) rfl rfl (x_move E rfl rfl) ?_
                clear E; clear a; intro a E
                refine st_no E (wf E rfl rfl rfl rfl rfl) rfl rfl ?_
                clear E; clear a; intro a E
                refine st_no E (wf E rfl rfl rfl rfl rfl) rfl rfl ?_
                clear E; clear a; intro a E
                refine st_no E (wf E rfl rfl rfl rfl rfl) rfl rfl ?_
                clear E; clear a; intro a E
                refine st_val E (wn rfl) rfl rfl (x_pickF E rfl rfl rfl rfl) ?_
                clear E; clear a; intro a E
                refine st_val E (wn rfl) rfl rfl (x_assign E rfl rfl) ?_
                clear E; clear a; intro a E
                refine wpList_nil ?_
                refine q_then ?_
                refine wp_ret ?_
                refine out1 E rfl rfl ?_
                replace H := H.drop 0
                obtain rfl := Option.some.inj hm
                exact ⟨rfl, H.reads (fun r hr => .tail _ (.tail _ (.tail _ (.tail _ (hs27 r hr)))))⟩
end Go.Cb
