/- Functions of the program, walked: each comes to its plain function. -/
import Derived.Test.YtlocfgonplkcoaaKm1
set_option linter.unusedVariables false
set_option linter.unusedSimpArgs false
namespace Go.Cb
open Go.Proofs Go.RowKit
def m_letter_GetAnswer (l2 : List Int) : Option (S_api_Answer × Int) :=
  (m_pack_New l2).bind fun u5 => (m_letter_reader_num u5 0).bind fun u10 => (m_letter_reader_small u10.2.1 u10.2.2).bind fun u14 => (m_pack_Reader_Num u14.2.1 u14.2.2 1).bind fun u17 => (m_letter_reader_num u17.2.1 u17.2.2).bind fun u20 => (m_letter_some_api_Result u20.2.1 u20.2.2).bind fun u23 => (m_letter_some_api_Node u23.2.1 u23.2.2).bind fun u29 => (m_letter_some_api_Turn u29.2.1 u29.2.2).bind fun u35 => (m_letter_some_api_Event u35.2.1 u35.2.2).bind fun u41 => (m_letter_some_api_Mount u41.2.1 u41.2.2).bind fun u47 => (m_letter_some_int64 u47.2.1 u47.2.2).bind fun u53 => (m_letter_whole_api_Answer u53.2.1 u53.2.2 (⟨u10.1, u14.1, u17.1 == 1, u20.1, u23.1, (⟨u29.1, u35.1⟩ : S_api_Store), u41.1, u47.1, u53.1⟩ : S_api_Answer)).bind fun u59 => some ((⟨u59.1.Err, u59.1.At, u59.1.Yes, u59.1.Epoch, u59.1.Results, (⟨u59.1.Store.Nodes, u59.1.Store.Turns⟩ : S_api_Store), u59.1.Events, u59.1.Mounts, u59.1.Wounded⟩ : S_api_Answer), u59.2)
set_option maxRecDepth 20000 in
set_option maxHeartbeats 1000000 in
theorem c_letter_GetAnswer {w : World} {Fo : List Ob} {rs : List Rp} (v1 : Value) (l2 : List Int) (H : Sep w (Fo) rs) (hr3 : rSl (kI .u8) v1 l2 ∈ rs) {r : S_api_Answer × Int} (hm : m_letter_GetAnswer l2 = some r) :
    Calls Try.prog 24 [v1].toArray w (Ret fun v w' => ∃ (v5002 : Value) (v5003 : Value) (v5004 : Value) (v5005 : Value) (v5006 : Value) (v5007 : Value), .tuple #[.agg #[.int .i64 r.1.Err, .int .i64 r.1.At, .bool r.1.Yes, .int .i64 r.1.Epoch, v5002, v5003, v5004, v5005, v5006, v5007], .int .i64 r.2] = v ∧ Sep w' (Fo) (rSl k_api_Result v5002 r.1.Results :: rSl k_api_Node v5003 r.1.Store.Nodes :: rSl k_api_Turn v5004 r.1.Store.Turns :: rSl k_api_Event v5005 r.1.Events :: rSl k_api_Mount v5006 r.1.Mounts :: rSl (kI .i64) v5007 r.1.Wounded :: rs)) := by
 unfold m_letter_GetAnswer at hm
 refine enter Try.func24 rfl Try.ntmps24 rfl fun a E => ?_
 simp only [enum, Nat.reduceAdd] at E
 refine wp_seq ?_
 refine wp_region_lit ?_
 refine st_alloc E H (wn rfl) rfl rfl (cs := [.int .i64 0, .int .i64 0, .bool false, .int .i64 0, .slice none 0 0, .slice none 0 0, .slice none 0 0, .slice none 0 0, .slice none 0 0, .slice none 0 0]) rfl (z := .agg #[.int .i64 0, .int .i64 0, .bool false, .int .i64 0, .slice none 0 0, .slice none 0 0, .slice none 0 0, .slice none 0 0, .slice none 0 0, .slice none 0 0]) (by kernel_rfl) rfl ?_
 clear E H; clear a; clear w; intro p4 w a H E
 refine sv E rfl rfl rfl (x_assign E rfl rfl) ?_
 clear a E;intro a E
 refine wpList_nil ?_
 refine q_then ?_
 refine wp_seq ?_
 refine wp_region_lit ?_
 refine sv E rfl rfl rfl (x_move E rfl rfl) ?_
 clear a E;intro a E
 obtain ⟨u5, hx6, hm⟩ := bnd hm
 refine st_call E (wn rfl) rfl rfl (x_call E rfl rfl (cf37 _)) (c_pack_New v1 l2 H hr3 hx6) ?_
 clear E H; clear a; clear w; rintro _ w ⟨p7, v8, rfl, H⟩ a E
 refine sv E rfl rfl rfl (x_build E (ps := [(0, .tmp 7)]) (vs := [(0, .pointer (some ⟨p7, 0, none⟩))]) rfl (by simp only [List.map]; rw [E.eval (x := .tmp 7) (v := .pointer (some ⟨p7, 0, none⟩)) rfl]) (v := .agg #[.pointer (some ⟨p7, 0, none⟩)]) (by kernel_rfl)) ?_
 clear a E;intro a E
 refine st_alloc E H (wn rfl) rfl rfl (cs := [.pointer none]) rfl (z := .agg #[.pointer none]) (by kernel_rfl) rfl ?_
 clear E H; clear a; clear w; intro p9 w a H E
 refine st_st (i := 0) E H (wn rfl) rfl (us := [.pointer (some ⟨p7, 0, none⟩)]) rfl rfl rfl rfl rfl sz88 rfl rfl ?_
 clear H; clear w; intro w H
 replace H : Sep w (Blk p9 88 [.pointer (some ⟨p7, 0, none⟩)] :: Blk p7 137 [v8, .int .i64 0] :: Row 5 (kI .u8) v8 u5 :: Blk p4 50 [.int .i64 0, .int .i64 0, .bool false, .int .i64 0, .slice none 0 0, .slice none 0 0, .slice none 0 0, .slice none 0 0, .slice none 0 0, .slice none 0 0] :: Fo) _ := H
 refine wpList_nil ?_
 refine q_then ?_
 refine wp_seq ?_
 refine wp_region_lit ?_
 refine sv E rfl rfl rfl (x_ldBN (i := 0) (us := [.pointer (some ⟨p7, 0, none⟩)]) E H rfl rfl rfl rfl Try.underlying88 rfl sz88) ?_
 clear a E;intro a E
 replace H := H.thaw (i := 2) rfl
 replace H := H.front 2 rfl
 replace H := H.front 1 rfl
 replace H := H.front 2 rfl
 replace H : Sep w (Blk p7 137 [v8, .int .i64 0] :: Blk p9 88 [.pointer (some ⟨p7, 0, none⟩)] :: Blk p4 50 [.int .i64 0, .int .i64 0, .bool false, .int .i64 0, .slice none 0 0, .slice none 0 0, .slice none 0 0, .slice none 0 0, .slice none 0 0, .slice none 0 0] :: Fo) (rSl (kI .u8) v8 u5 :: rs) := H
 obtain ⟨u10, hx11, hm⟩ := bnd hm
 refine st_call E (wn rfl) rfl rfl (x_call E rfl rfl (cf39 _)) (c_letter_reader_num p7 v8 u5 0 H (.head _) hx11) ?_
 clear E H; clear a; clear w; rintro _ w ⟨v12, rfl, H⟩ a E
 refine sv E rfl rfl rfl (x_build E (ps := [(0, .tmp 10)]) (vs := [(0, .int .i64 u10.1)]) rfl (by simp only [List.map]; rw [E.eval (x := .tmp 10) (v := .int .i64 u10.1) rfl]) (v := .agg #[.int .i64 u10.1, .int .i64 0, .bool false, .int .i64 0, .slice none 0 0, .slice none 0 0, .slice none 0 0, .slice none 0 0, .slice none 0 0, .slice none 0 0]) (by kernel_rfl)) ?_
 clear a E;intro a E
 refine st_alloc E H (wn rfl) rfl rfl (cs := [.int .i64 0, .int .i64 0, .bool false, .int .i64 0, .slice none 0 0, .slice none 0 0, .slice none 0 0, .slice none 0 0, .slice none 0 0, .slice none 0 0]) rfl (z := .agg #[.int .i64 0, .int .i64 0, .bool false, .int .i64 0, .slice none 0 0, .slice none 0 0, .slice none 0 0, .slice none 0 0, .slice none 0 0, .slice none 0 0]) (by kernel_rfl) rfl ?_
 clear E H; clear a; clear w; intro p13 w a H E
 refine st_st (i := 0) E H (wn rfl) rfl (us := [.int .i64 u10.1, .int .i64 0, .bool false, .int .i64 0, .slice none 0 0, .slice none 0 0, .slice none 0 0, .slice none 0 0, .slice none 0 0, .slice none 0 0]) rfl rfl rfl rfl rfl sz50 rfl rfl ?_
 clear H; clear w; intro w H
 replace H : Sep w (Blk p13 50 [.int .i64 u10.1, .int .i64 0, .bool false, .int .i64 0, .slice none 0 0, .slice none 0 0, .slice none 0 0, .slice none 0 0, .slice none 0 0, .slice none 0 0] :: Blk p7 137 [v12, .int .i64 u10.2.2] :: Blk p9 88 [.pointer (some ⟨p7, 0, none⟩)] :: Blk p4 50 [.int .i64 0, .int .i64 0, .bool false, .int .i64 0, .slice none 0 0, .slice none 0 0, .slice none 0 0, .slice none 0 0, .slice none 0 0, .slice none 0 0] :: Fo) _ := H
 refine wpList_nil ?_
 refine q_then ?_
 refine wp_seq ?_
 refine wp_region_lit ?_
 refine sv E rfl rfl rfl (x_ldBN (i := 2) (us := [.pointer (some ⟨p7, 0, none⟩)]) E H rfl rfl rfl rfl Try.underlying88 rfl sz88) ?_
 clear a E;intro a E
 replace H := H.front 3 rfl
 replace H := H.front 3 rfl
 replace H := H.front 2 rfl
 replace H := H.front 3 rfl
 replace H : Sep w (Blk p7 137 [v12, .int .i64 u10.2.2] :: Blk p13 50 [.int .i64 u10.1, .int .i64 0, .bool false, .int .i64 0, .slice none 0 0, .slice none 0 0, .slice none 0 0, .slice none 0 0, .slice none 0 0, .slice none 0 0] :: Blk p9 88 [.pointer (some ⟨p7, 0, none⟩)] :: Blk p4 50 [.int .i64 0, .int .i64 0, .bool false, .int .i64 0, .slice none 0 0, .slice none 0 0, .slice none 0 0, .slice none 0 0, .slice none 0 0, .slice none 0 0] :: Fo) (rSl (kI .u8) v12 u10.2.1 :: rSl (kI .u8) v8 u5 :: rs) := H
 obtain ⟨u14, hx15, hm⟩ := bnd hm
 refine st_call E (wn rfl) rfl rfl (x_call E rfl rfl (cf38 _)) (c_letter_reader_small p7 v12 u10.2.1 u10.2.2 H (.head _) hx15) ?_
 clear E H; clear a; clear w; rintro _ w ⟨v16, rfl, H⟩ a E
 refine sv E rfl rfl rfl (x_fa E rfl rfl (v := .pointer (some ⟨p13, 1, none⟩)) (fa50_1 _ _)) ?_
 clear a E;intro a E
 refine st_st (i := 1) E H (wn rfl) rfl (us := [.int .i64 u14.1]) rfl rfl rfl rfl rfl sz3 rfl rfl ?_
 clear H; clear w; intro w H
 replace H : Sep w (Blk p7 137 [v16, .int .i64 u14.2.2] :: Blk p13 50 [.int .i64 u10.1, .int .i64 u14.1, .bool false, .int .i64 0, .slice none 0 0, .slice none 0 0, .slice none 0 0, .slice none 0 0, .slice none 0 0, .slice none 0 0] :: Blk p9 88 [.pointer (some ⟨p7, 0, none⟩)] :: Blk p4 50 [.int .i64 0, .int .i64 0, .bool false, .int .i64 0, .slice none 0 0, .slice none 0 0, .slice none 0 0, .slice none 0 0, .slice none 0 0, .slice none 0 0] :: Fo) _ := H
 refine wpList_nil ?_
 refine q_then ?_
 refine wp_seq ?_
 refine wp_region_lit ?_
 refine sv E rfl rfl rfl (x_fa E rfl rfl (v := .pointer (some ⟨p9, 0, none⟩)) (fa88_0 _ _)) ?_
 clear a E;intro a E
 refine sv E rfl rfl rfl (x_ldB (i := 2) E H rfl rfl rfl rfl Try.underlying85 rfl) ?_
 clear a E;intro a E
 obtain ⟨u17, hx18, hm⟩ := bnd hm
 refine st_call E (wn rfl) rfl rfl (x_call E rfl rfl (cf64 _)) (c_pack_Reader_Num p7 v16 u14.2.1 u14.2.2 1 H (.head _) hx18) ?_
 clear E H; clear a; clear w; rintro _ w ⟨v19, rfl, H⟩ a E
 refine sv E rfl rfl rfl (x_bin E rfl rfl rfl rfl) ?_
 clear a E;intro a E
 refine sv E rfl rfl rfl (x_fa E rfl rfl (v := .pointer (some ⟨p13, 2, none⟩)) (fa50_2 _ _)) ?_
 clear a E;intro a E
 refine st_st (i := 1) E H (wn rfl) rfl (us := [.bool (u17.1 == 1)]) rfl rfl rfl rfl rfl sz4 rfl rfl ?_
 clear H; clear w; intro w H
 replace H : Sep w (Blk p7 137 [v19, .int .i64 u17.2.2] :: Blk p13 50 [.int .i64 u10.1, .int .i64 u14.1, .bool (u17.1 == 1), .int .i64 0, .slice none 0 0, .slice none 0 0, .slice none 0 0, .slice none 0 0, .slice none 0 0, .slice none 0 0] :: Blk p9 88 [.pointer (some ⟨p7, 0, none⟩)] :: Blk p4 50 [.int .i64 0, .int .i64 0, .bool false, .int .i64 0, .slice none 0 0, .slice none 0 0, .slice none 0 0, .slice none 0 0, .slice none 0 0, .slice none 0 0] :: Fo) _ := H
 refine wpList_nil ?_
 refine q_then ?_
 refine wp_seq ?_
 refine wp_region_lit ?_
 refine sv E rfl rfl rfl (x_ldBN (i := 2) (us := [.pointer (some ⟨p7, 0, none⟩)]) E H rfl rfl rfl rfl Try.underlying88 rfl sz88) ?_
 clear a E;intro a E
 obtain ⟨u20, hx21, hm⟩ := bnd hm
 refine st_call E (wn rfl) rfl rfl (x_call E rfl rfl (cf39 _)) (c_letter_reader_num p7 v19 u17.2.1 u17.2.2 H (.head _) hx21) ?_
 clear E H; clear a; clear w; rintro _ w ⟨v22, rfl, H⟩ a E
 refine sv E rfl rfl rfl (x_fa E rfl rfl (v := .pointer (some ⟨p13, 3, none⟩)) (fa50_3 _ _)) ?_
 clear a E;intro a E
 refine st_st (i := 1) E H (wn rfl) rfl (us := [.int .i64 u20.1]) rfl rfl rfl rfl rfl sz2 rfl rfl ?_
 clear H; clear w; intro w H
 replace H : Sep w (Blk p7 137 [v22, .int .i64 u20.2.2] :: Blk p13 50 [.int .i64 u10.1, .int .i64 u14.1, .bool (u17.1 == 1), .int .i64 u20.1, .slice none 0 0, .slice none 0 0, .slice none 0 0, .slice none 0 0, .slice none 0 0, .slice none 0 0] :: Blk p9 88 [.pointer (some ⟨p7, 0, none⟩)] :: Blk p4 50 [.int .i64 0, .int .i64 0, .bool false, .int .i64 0, .slice none 0 0, .slice none 0 0, .slice none 0 0, .slice none 0 0, .slice none 0 0, .slice none 0 0] :: Fo) _ := H
 refine wpList_nil ?_
 refine q_then ?_
 refine wp_seq ?_
 refine wp_region_lit ?_
 refine sv E rfl rfl rfl (x_ldBN (i := 2) (us := [.pointer (some ⟨p7, 0, none⟩)]) E H rfl rfl rfl rfl Try.underlying88 rfl sz88) ?_
 clear a E;intro a E
 refine sv E rfl rfl rfl (x_ldBN (i := 2) (us := [.pointer (some ⟨p7, 0, none⟩)]) E H rfl rfl rfl rfl Try.underlying88 rfl sz88) ?_
 clear a E;intro a E
 refine sv E rfl rfl rfl (x_func E rfl rfl rfl) ?_
 clear a E;intro a E
 obtain ⟨u23, hx24, hm⟩ := bnd hm
 refine st_call E (wn rfl) rfl rfl (x_call E rfl rfl (cf65 _)) (c_letter_some_api_Result p7 v22 u20.2.1 u20.2.2 H (.head _) hx24) ?_
 clear E H; clear a; clear w; rintro _ w ⟨v25, v26, rfl, H⟩ a E
 refine sv E rfl rfl rfl (x_fa E rfl rfl (v := .pointer (some ⟨p13, 4, none⟩)) (fa50_4 _ _)) ?_
 clear a E;intro a E
 obtain ⟨q27, x28, rfl⟩ := H.rowform (i := 0) rfl
 refine st_st (i := 2) E H (wn rfl) rfl (us := [(.slice q27 u23.1.length x28)]) rfl rfl rfl rfl rfl sz41 rfl rfl ?_
 clear H; clear w; intro w H
 replace H : Sep w (Row 62 k_api_Result (.slice q27 u23.1.length x28) u23.1 :: Blk p7 137 [v26, .int .i64 u23.2.2] :: Blk p13 50 [.int .i64 u10.1, .int .i64 u14.1, .bool (u17.1 == 1), .int .i64 u20.1, (.slice q27 u23.1.length x28), .slice none 0 0, .slice none 0 0, .slice none 0 0, .slice none 0 0, .slice none 0 0] :: Blk p9 88 [.pointer (some ⟨p7, 0, none⟩)] :: Blk p4 50 [.int .i64 0, .int .i64 0, .bool false, .int .i64 0, .slice none 0 0, .slice none 0 0, .slice none 0 0, .slice none 0 0, .slice none 0 0, .slice none 0 0] :: Fo) _ := H
 refine wpList_nil ?_
 refine q_then ?_
 refine wp_seq ?_
 refine wp_region_lit ?_
 refine sv E rfl rfl rfl (x_ldBN (i := 3) (us := [.pointer (some ⟨p7, 0, none⟩)]) E H rfl rfl rfl rfl Try.underlying88 rfl sz88) ?_
 clear a E;intro a E
 refine sv E rfl rfl rfl (x_ldBN (i := 3) (us := [.pointer (some ⟨p7, 0, none⟩)]) E H rfl rfl rfl rfl Try.underlying88 rfl sz88) ?_
 clear a E;intro a E
 refine sv E rfl rfl rfl (x_func E rfl rfl rfl) ?_
 clear a E;intro a E
 replace H := H.front 4 rfl
 replace H := H.front 4 rfl
 replace H := H.front 4 rfl
 replace H := H.front 3 rfl
 replace H := H.front 4 rfl
 replace H : Sep w (Blk p7 137 [v26, .int .i64 u23.2.2] :: Row 62 k_api_Result (.slice q27 u23.1.length x28) u23.1 :: Blk p13 50 [.int .i64 u10.1, .int .i64 u14.1, .bool (u17.1 == 1), .int .i64 u20.1, (.slice q27 u23.1.length x28), .slice none 0 0, .slice none 0 0, .slice none 0 0, .slice none 0 0, .slice none 0 0] :: Blk p9 88 [.pointer (some ⟨p7, 0, none⟩)] :: Blk p4 50 [.int .i64 0, .int .i64 0, .bool false, .int .i64 0, .slice none 0 0, .slice none 0 0, .slice none 0 0, .slice none 0 0, .slice none 0 0, .slice none 0 0] :: Fo) (rSl (kI .u8) v26 u23.2.1 :: rSl (kI .u8) v22 u20.2.1 :: rSl (kI .u8) v19 u17.2.1 :: rSl (kI .u8) v16 u14.2.1 :: rSl (kI .u8) v12 u10.2.1 :: rSl (kI .u8) v8 u5 :: rs) := H
 obtain ⟨u29, hx30, hm⟩ := bnd hm
 refine st_call E (wn rfl) rfl rfl (x_call E rfl rfl (cf67 _)) (c_letter_some_api_Node p7 v26 u23.2.1 u23.2.2 H (.head _) hx30) ?_
 clear E H; clear a; clear w; rintro _ w ⟨v31, v32, rfl, H⟩ a E
 refine sv E rfl rfl rfl (x_fa E rfl rfl (v := .pointer (some ⟨p13, 5, none⟩)) (fa50_5 _ _)) ?_
 clear a E;intro a E
 refine sv E rfl rfl rfl (x_fa E rfl rfl (v := .pointer (some ⟨p13, 5, none⟩)) (fa45_0 _ _)) ?_
 clear a E;intro a E
 obtain ⟨q33, x34, rfl⟩ := H.rowform (i := 0) rfl
 refine st_st (i := 3) E H (wn rfl) rfl (us := [(.slice q33 u29.1.length x34)]) rfl rfl rfl rfl rfl sz42 rfl rfl ?_
 clear H; clear w; intro w H
 replace H : Sep w (Row 64 k_api_Node (.slice q33 u29.1.length x34) u29.1 :: Blk p7 137 [v32, .int .i64 u29.2.2] :: Row 62 k_api_Result (.slice q27 u23.1.length x28) u23.1 :: Blk p13 50 [.int .i64 u10.1, .int .i64 u14.1, .bool (u17.1 == 1), .int .i64 u20.1, (.slice q27 u23.1.length x28), (.slice q33 u29.1.length x34), .slice none 0 0, .slice none 0 0, .slice none 0 0, .slice none 0 0] :: Blk p9 88 [.pointer (some ⟨p7, 0, none⟩)] :: Blk p4 50 [.int .i64 0, .int .i64 0, .bool false, .int .i64 0, .slice none 0 0, .slice none 0 0, .slice none 0 0, .slice none 0 0, .slice none 0 0, .slice none 0 0] :: Fo) _ := H
 refine wpList_nil ?_
 refine q_then ?_
 refine wp_seq ?_
 refine wp_region_lit ?_
 refine sv E rfl rfl rfl (x_ldBN (i := 4) (us := [.pointer (some ⟨p7, 0, none⟩)]) E H rfl rfl rfl rfl Try.underlying88 rfl sz88) ?_
 clear a E;intro a E
 refine sv E rfl rfl rfl (x_ldBN (i := 4) (us := [.pointer (some ⟨p7, 0, none⟩)]) E H rfl rfl rfl rfl Try.underlying88 rfl sz88) ?_
 clear a E;intro a E
 refine sv E rfl rfl rfl (x_func E rfl rfl rfl) ?_
 clear a E;intro a E
 replace H := H.front 5 rfl
 replace H := H.front 5 rfl
 replace H := H.front 5 rfl
 replace H := H.front 5 rfl
 replace H := H.front 4 rfl
 replace H := H.front 5 rfl
 replace H : Sep w (Blk p7 137 [v32, .int .i64 u29.2.2] :: Row 64 k_api_Node (.slice q33 u29.1.length x34) u29.1 :: Row 62 k_api_Result (.slice q27 u23.1.length x28) u23.1 :: Blk p13 50 [.int .i64 u10.1, .int .i64 u14.1, .bool (u17.1 == 1), .int .i64 u20.1, (.slice q27 u23.1.length x28), (.slice q33 u29.1.length x34), .slice none 0 0, .slice none 0 0, .slice none 0 0, .slice none 0 0] :: Blk p9 88 [.pointer (some ⟨p7, 0, none⟩)] :: Blk p4 50 [.int .i64 0, .int .i64 0, .bool false, .int .i64 0, .slice none 0 0, .slice none 0 0, .slice none 0 0, .slice none 0 0, .slice none 0 0, .slice none 0 0] :: Fo) (rSl (kI .u8) v32 u29.2.1 :: rSl (kI .u8) v26 u23.2.1 :: rSl (kI .u8) v22 u20.2.1 :: rSl (kI .u8) v19 u17.2.1 :: rSl (kI .u8) v16 u14.2.1 :: rSl (kI .u8) v12 u10.2.1 :: rSl (kI .u8) v8 u5 :: rs) := H
 obtain ⟨u35, hx36, hm⟩ := bnd hm
 refine st_call E (wn rfl) rfl rfl (x_call E rfl rfl (cf69 _)) (c_letter_some_api_Turn p7 v32 u29.2.1 u29.2.2 H (.head _) hx36) ?_
 clear E H; clear a; clear w; rintro _ w ⟨v37, v38, rfl, H⟩ a E
 refine sv E rfl rfl rfl (x_fa E rfl rfl (v := .pointer (some ⟨p13, 5, none⟩)) (fa50_5 _ _)) ?_
 clear a E;intro a E
 refine sv E rfl rfl rfl (x_fa E rfl rfl (v := .pointer (some ⟨p13, 6, none⟩)) (fa45_1 _ _)) ?_
 clear a E;intro a E
 obtain ⟨q39, x40, rfl⟩ := H.rowform (i := 0) rfl
 refine st_st (i := 4) E H (wn rfl) rfl (us := [(.slice q39 u35.1.length x40)]) rfl rfl rfl rfl rfl sz43 rfl rfl ?_
 clear H; clear w; intro w H
 replace H : Sep w (Row 66 k_api_Turn (.slice q39 u35.1.length x40) u35.1 :: Blk p7 137 [v38, .int .i64 u35.2.2] :: Row 64 k_api_Node (.slice q33 u29.1.length x34) u29.1 :: Row 62 k_api_Result (.slice q27 u23.1.length x28) u23.1 :: Blk p13 50 [.int .i64 u10.1, .int .i64 u14.1, .bool (u17.1 == 1), .int .i64 u20.1, (.slice q27 u23.1.length x28), (.slice q33 u29.1.length x34), (.slice q39 u35.1.length x40), .slice none 0 0, .slice none 0 0, .slice none 0 0] :: Blk p9 88 [.pointer (some ⟨p7, 0, none⟩)] :: Blk p4 50 [.int .i64 0, .int .i64 0, .bool false, .int .i64 0, .slice none 0 0, .slice none 0 0, .slice none 0 0, .slice none 0 0, .slice none 0 0, .slice none 0 0] :: Fo) _ := H
 refine wpList_nil ?_
 refine q_then ?_
 refine wp_seq ?_
 refine wp_region_lit ?_
 refine sv E rfl rfl rfl (x_ldBN (i := 5) (us := [.pointer (some ⟨p7, 0, none⟩)]) E H rfl rfl rfl rfl Try.underlying88 rfl sz88) ?_
 clear a E;intro a E
 refine sv E rfl rfl rfl (x_ldBN (i := 5) (us := [.pointer (some ⟨p7, 0, none⟩)]) E H rfl rfl rfl rfl Try.underlying88 rfl sz88) ?_
 clear a E;intro a E
 refine sv E rfl rfl rfl (x_func E rfl rfl rfl) ?_
 clear a E;intro a E
 replace H := H.front 6 rfl
 replace H := H.front 6 rfl
 replace H := H.front 6 rfl
 replace H := H.front 6 rfl
 replace H := H.front 6 rfl
 replace H := H.front 5 rfl
 replace H := H.front 6 rfl
 replace H : Sep w (Blk p7 137 [v38, .int .i64 u35.2.2] :: Row 66 k_api_Turn (.slice q39 u35.1.length x40) u35.1 :: Row 64 k_api_Node (.slice q33 u29.1.length x34) u29.1 :: Row 62 k_api_Result (.slice q27 u23.1.length x28) u23.1 :: Blk p13 50 [.int .i64 u10.1, .int .i64 u14.1, .bool (u17.1 == 1), .int .i64 u20.1, (.slice q27 u23.1.length x28), (.slice q33 u29.1.length x34), (.slice q39 u35.1.length x40), .slice none 0 0, .slice none 0 0, .slice none 0 0] :: Blk p9 88 [.pointer (some ⟨p7, 0, none⟩)] :: Blk p4 50 [.int .i64 0, .int .i64 0, .bool false, .int .i64 0, .slice none 0 0, .slice none 0 0, .slice none 0 0, .slice none 0 0, .slice none 0 0, .slice none 0 0] :: Fo) (rSl (kI .u8) v38 u35.2.1 :: rSl (kI .u8) v32 u29.2.1 :: rSl (kI .u8) v26 u23.2.1 :: rSl (kI .u8) v22 u20.2.1 :: rSl (kI .u8) v19 u17.2.1 :: rSl (kI .u8) v16 u14.2.1 :: rSl (kI .u8) v12 u10.2.1 :: rSl (kI .u8) v8 u5 :: rs) := H
 obtain ⟨u41, hx42, hm⟩ := bnd hm
 refine st_call E (wn rfl) rfl rfl (x_call E rfl rfl (cf71 _)) (c_letter_some_api_Event p7 v38 u35.2.1 u35.2.2 H (.head _) hx42) ?_
 clear E H; clear a; clear w; rintro _ w ⟨v43, v44, rfl, H⟩ a E
 refine sv E rfl rfl rfl (x_fa E rfl rfl (v := .pointer (some ⟨p13, 7, none⟩)) (fa50_6 _ _)) ?_
 clear a E;intro a E
 obtain ⟨q45, x46, rfl⟩ := H.rowform (i := 0) rfl
 refine st_st (i := 5) E H (wn rfl) rfl (us := [(.slice q45 u41.1.length x46)]) rfl rfl rfl rfl rfl sz46 rfl rfl ?_
 clear H; clear w; intro w H
 replace H : Sep w (Row 68 k_api_Event (.slice q45 u41.1.length x46) u41.1 :: Blk p7 137 [v44, .int .i64 u41.2.2] :: Row 66 k_api_Turn (.slice q39 u35.1.length x40) u35.1 :: Row 64 k_api_Node (.slice q33 u29.1.length x34) u29.1 :: Row 62 k_api_Result (.slice q27 u23.1.length x28) u23.1 :: Blk p13 50 [.int .i64 u10.1, .int .i64 u14.1, .bool (u17.1 == 1), .int .i64 u20.1, (.slice q27 u23.1.length x28), (.slice q33 u29.1.length x34), (.slice q39 u35.1.length x40), (.slice q45 u41.1.length x46), .slice none 0 0, .slice none 0 0] :: Blk p9 88 [.pointer (some ⟨p7, 0, none⟩)] :: Blk p4 50 [.int .i64 0, .int .i64 0, .bool false, .int .i64 0, .slice none 0 0, .slice none 0 0, .slice none 0 0, .slice none 0 0, .slice none 0 0, .slice none 0 0] :: Fo) _ := H
 refine wpList_nil ?_
 refine q_then ?_
 refine wp_seq ?_
 refine wp_region_lit ?_
 refine sv E rfl rfl rfl (x_ldBN (i := 6) (us := [.pointer (some ⟨p7, 0, none⟩)]) E H rfl rfl rfl rfl Try.underlying88 rfl sz88) ?_
 clear a E;intro a E
 refine sv E rfl rfl rfl (x_ldBN (i := 6) (us := [.pointer (some ⟨p7, 0, none⟩)]) E H rfl rfl rfl rfl Try.underlying88 rfl sz88) ?_
 clear a E;intro a E
 refine sv E rfl rfl rfl (x_func E rfl rfl rfl) ?_
 clear a E;intro a E
 replace H := H.front 7 rfl
 replace H := H.front 7 rfl
 replace H := H.front 7 rfl
 replace H := H.front 7 rfl
 replace H := H.front 7 rfl
 replace H := H.front 7 rfl
 replace H := H.front 6 rfl
 replace H := H.front 7 rfl
 replace H : Sep w (Blk p7 137 [v44, .int .i64 u41.2.2] :: Row 68 k_api_Event (.slice q45 u41.1.length x46) u41.1 :: Row 66 k_api_Turn (.slice q39 u35.1.length x40) u35.1 :: Row 64 k_api_Node (.slice q33 u29.1.length x34) u29.1 :: Row 62 k_api_Result (.slice q27 u23.1.length x28) u23.1 :: Blk p13 50 [.int .i64 u10.1, .int .i64 u14.1, .bool (u17.1 == 1), .int .i64 u20.1, (.slice q27 u23.1.length x28), (.slice q33 u29.1.length x34), (.slice q39 u35.1.length x40), (.slice q45 u41.1.length x46), .slice none 0 0, .slice none 0 0] :: Blk p9 88 [.pointer (some ⟨p7, 0, none⟩)] :: Blk p4 50 [.int .i64 0, .int .i64 0, .bool false, .int .i64 0, .slice none 0 0, .slice none 0 0, .slice none 0 0, .slice none 0 0, .slice none 0 0, .slice none 0 0] :: Fo) (rSl (kI .u8) v44 u41.2.1 :: rSl (kI .u8) v38 u35.2.1 :: rSl (kI .u8) v32 u29.2.1 :: rSl (kI .u8) v26 u23.2.1 :: rSl (kI .u8) v22 u20.2.1 :: rSl (kI .u8) v19 u17.2.1 :: rSl (kI .u8) v16 u14.2.1 :: rSl (kI .u8) v12 u10.2.1 :: rSl (kI .u8) v8 u5 :: rs) := H
 obtain ⟨u47, hx48, hm⟩ := bnd hm
 refine st_call E (wn rfl) rfl rfl (x_call E rfl rfl (cf73 _)) (c_letter_some_api_Mount p7 v44 u41.2.1 u41.2.2 H (.head _) hx48) ?_
 clear E H; clear a; clear w; rintro _ w ⟨v49, v50, rfl, H⟩ a E
 refine sv E rfl rfl rfl (x_fa E rfl rfl (v := .pointer (some ⟨p13, 8, none⟩)) (fa50_7 _ _)) ?_
 clear a E;intro a E
 obtain ⟨q51, x52, rfl⟩ := H.rowform (i := 0) rfl
 refine st_st (i := 6) E H (wn rfl) rfl (us := [(.slice q51 u47.1.length x52)]) rfl rfl rfl rfl rfl sz47 rfl rfl ?_
 clear H; clear w; intro w H
 replace H : Sep w (Row 70 k_api_Mount (.slice q51 u47.1.length x52) u47.1 :: Blk p7 137 [v50, .int .i64 u47.2.2] :: Row 68 k_api_Event (.slice q45 u41.1.length x46) u41.1 :: Row 66 k_api_Turn (.slice q39 u35.1.length x40) u35.1 :: Row 64 k_api_Node (.slice q33 u29.1.length x34) u29.1 :: Row 62 k_api_Result (.slice q27 u23.1.length x28) u23.1 :: Blk p13 50 [.int .i64 u10.1, .int .i64 u14.1, .bool (u17.1 == 1), .int .i64 u20.1, (.slice q27 u23.1.length x28), (.slice q33 u29.1.length x34), (.slice q39 u35.1.length x40), (.slice q45 u41.1.length x46), (.slice q51 u47.1.length x52), .slice none 0 0] :: Blk p9 88 [.pointer (some ⟨p7, 0, none⟩)] :: Blk p4 50 [.int .i64 0, .int .i64 0, .bool false, .int .i64 0, .slice none 0 0, .slice none 0 0, .slice none 0 0, .slice none 0 0, .slice none 0 0, .slice none 0 0] :: Fo) _ := H
 refine wpList_nil ?_
 refine q_then ?_
 refine wp_seq ?_
 refine wp_region_lit ?_
 refine sv E rfl rfl rfl (x_ldBN (i := 7) (us := [.pointer (some ⟨p7, 0, none⟩)]) E H rfl rfl rfl rfl Try.underlying88 rfl sz88) ?_
 clear a E;intro a E
 refine sv E rfl rfl rfl (x_ldBN (i := 7) (us := [.pointer (some ⟨p7, 0, none⟩)]) E H rfl rfl rfl rfl Try.underlying88 rfl sz88) ?_
 clear a E;intro a E
 refine sv E rfl rfl rfl (x_func E rfl rfl rfl) ?_
 clear a E;intro a E
 replace H := H.front 8 rfl
 replace H := H.front 8 rfl
 replace H := H.front 8 rfl
 replace H := H.front 8 rfl
 replace H := H.front 8 rfl
 replace H := H.front 8 rfl
 replace H := H.front 8 rfl
 replace H := H.front 7 rfl
 replace H := H.front 8 rfl
 replace H : Sep w (Blk p7 137 [v50, .int .i64 u47.2.2] :: Row 70 k_api_Mount (.slice q51 u47.1.length x52) u47.1 :: Row 68 k_api_Event (.slice q45 u41.1.length x46) u41.1 :: Row 66 k_api_Turn (.slice q39 u35.1.length x40) u35.1 :: Row 64 k_api_Node (.slice q33 u29.1.length x34) u29.1 :: Row 62 k_api_Result (.slice q27 u23.1.length x28) u23.1 :: Blk p13 50 [.int .i64 u10.1, .int .i64 u14.1, .bool (u17.1 == 1), .int .i64 u20.1, (.slice q27 u23.1.length x28), (.slice q33 u29.1.length x34), (.slice q39 u35.1.length x40), (.slice q45 u41.1.length x46), (.slice q51 u47.1.length x52), .slice none 0 0] :: Blk p9 88 [.pointer (some ⟨p7, 0, none⟩)] :: Blk p4 50 [.int .i64 0, .int .i64 0, .bool false, .int .i64 0, .slice none 0 0, .slice none 0 0, .slice none 0 0, .slice none 0 0, .slice none 0 0, .slice none 0 0] :: Fo) (rSl (kI .u8) v50 u47.2.1 :: rSl (kI .u8) v44 u41.2.1 :: rSl (kI .u8) v38 u35.2.1 :: rSl (kI .u8) v32 u29.2.1 :: rSl (kI .u8) v26 u23.2.1 :: rSl (kI .u8) v22 u20.2.1 :: rSl (kI .u8) v19 u17.2.1 :: rSl (kI .u8) v16 u14.2.1 :: rSl (kI .u8) v12 u10.2.1 :: rSl (kI .u8) v8 u5 :: rs) := H
 obtain ⟨u53, hx54, hm⟩ := bnd hm
 refine st_call E (wn rfl) rfl rfl (x_call E rfl rfl (cf75 _)) (c_letter_some_int64 p7 v50 u47.2.1 u47.2.2 H (.head _) hx54) ?_
 clear E H; clear a; clear w; rintro _ w ⟨v55, v56, rfl, H⟩ a E
 refine sv E rfl rfl rfl (x_fa E rfl rfl (v := .pointer (some ⟨p13, 9, none⟩)) (fa50_8 _ _)) ?_
 clear a E;intro a E
 obtain ⟨q57, x58, rfl⟩ := H.rowform (i := 0) rfl
 refine st_st (i := 7) E H (wn rfl) rfl (us := [(.slice q57 u53.1.length x58)]) rfl rfl rfl rfl rfl sz48 rfl rfl ?_
 clear H; clear w; intro w H
 replace H : Sep w (Row 2 (kI .i64) (.slice q57 u53.1.length x58) u53.1 :: Blk p7 137 [v56, .int .i64 u53.2.2] :: Row 70 k_api_Mount (.slice q51 u47.1.length x52) u47.1 :: Row 68 k_api_Event (.slice q45 u41.1.length x46) u41.1 :: Row 66 k_api_Turn (.slice q39 u35.1.length x40) u35.1 :: Row 64 k_api_Node (.slice q33 u29.1.length x34) u29.1 :: Row 62 k_api_Result (.slice q27 u23.1.length x28) u23.1 :: Blk p13 50 [.int .i64 u10.1, .int .i64 u14.1, .bool (u17.1 == 1), .int .i64 u20.1, (.slice q27 u23.1.length x28), (.slice q33 u29.1.length x34), (.slice q39 u35.1.length x40), (.slice q45 u41.1.length x46), (.slice q51 u47.1.length x52), (.slice q57 u53.1.length x58)] :: Blk p9 88 [.pointer (some ⟨p7, 0, none⟩)] :: Blk p4 50 [.int .i64 0, .int .i64 0, .bool false, .int .i64 0, .slice none 0 0, .slice none 0 0, .slice none 0 0, .slice none 0 0, .slice none 0 0, .slice none 0 0] :: Fo) _ := H
 refine wpList_nil ?_
 refine q_then ?_
 refine wp_seq ?_
 refine wp_region_lit ?_
 refine sv E rfl rfl rfl (x_ldBN (i := 8) (us := [.pointer (some ⟨p7, 0, none⟩)]) E H rfl rfl rfl rfl Try.underlying88 rfl sz88) ?_
 clear a E;intro a E
 refine sv E rfl rfl rfl (x_ldBN (i := 7) (us := [.int .i64 u10.1, .int .i64 u14.1, .bool (u17.1 == 1), .int .i64 u20.1, (.slice q27 u23.1.length x28), (.slice q33 u29.1.length x34), (.slice q39 u35.1.length x40), (.slice q45 u41.1.length x46), (.slice q51 u47.1.length x52), (.slice q57 u53.1.length x58)]) E H rfl rfl rfl rfl Try.underlying50 rfl sz50) ?_
 clear a E;intro a E
 replace H := H.thaw (i := 6) rfl
 replace H := H.thaw (i := 5) rfl
 replace H := H.thaw (i := 4) rfl
 replace H := H.thaw (i := 3) rfl
 replace H := H.thaw (i := 2) rfl
 replace H := H.thaw (i := 0) rfl
 replace H : Sep w (Blk p7 137 [v56, .int .i64 u53.2.2] :: Blk p13 50 [.int .i64 u10.1, .int .i64 u14.1, .bool (u17.1 == 1), .int .i64 u20.1, (.slice q27 u23.1.length x28), (.slice q33 u29.1.length x34), (.slice q39 u35.1.length x40), (.slice q45 u41.1.length x46), (.slice q51 u47.1.length x52), (.slice q57 u53.1.length x58)] :: Blk p9 88 [.pointer (some ⟨p7, 0, none⟩)] :: Blk p4 50 [.int .i64 0, .int .i64 0, .bool false, .int .i64 0, .slice none 0 0, .slice none 0 0, .slice none 0 0, .slice none 0 0, .slice none 0 0, .slice none 0 0] :: Fo) (rSl (kI .i64) (.slice q57 u53.1.length x58) u53.1 :: rSl k_api_Mount (.slice q51 u47.1.length x52) u47.1 :: rSl k_api_Event (.slice q45 u41.1.length x46) u41.1 :: rSl k_api_Turn (.slice q39 u35.1.length x40) u35.1 :: rSl k_api_Node (.slice q33 u29.1.length x34) u29.1 :: rSl k_api_Result (.slice q27 u23.1.length x28) u23.1 :: rSl (kI .u8) v56 u53.2.1 :: rSl (kI .u8) v50 u47.2.1 :: rSl (kI .u8) v44 u41.2.1 :: rSl (kI .u8) v38 u35.2.1 :: rSl (kI .u8) v32 u29.2.1 :: rSl (kI .u8) v26 u23.2.1 :: rSl (kI .u8) v22 u20.2.1 :: rSl (kI .u8) v19 u17.2.1 :: rSl (kI .u8) v16 u14.2.1 :: rSl (kI .u8) v12 u10.2.1 :: rSl (kI .u8) v8 u5 :: rs) := H
 obtain ⟨u59, hx60, hm⟩ := bnd hm
 refine st_call E (wn rfl) rfl rfl (x_call E rfl rfl (cf76 _)) (c_letter_whole_api_Answer p7 v56 u53.2.1 u53.2.2 (⟨u10.1, u14.1, u17.1 == 1, u20.1, u23.1, (⟨u29.1, u35.1⟩ : S_api_Store), u41.1, u47.1, u53.1⟩ : S_api_Answer) (.slice q27 u23.1.length x28) (.slice q33 u29.1.length x34) (.slice q39 u35.1.length x40) (.slice q45 u41.1.length x46) (.slice q51 u47.1.length x52) (.slice q57 u53.1.length x58) H (.tail _ (.tail _ (.tail _ (.tail _ (.tail _ (.tail _ (.head _))))))) (.tail _ (.tail _ (.tail _ (.tail _ (.tail _ (.head _)))))) (.tail _ (.tail _ (.tail _ (.tail _ (.head _))))) (.tail _ (.tail _ (.tail _ (.head _)))) (.tail _ (.tail _ (.head _))) (.tail _ (.head _)) (.head _) hx60) ?_
 clear E H; clear a; clear w; rintro _ w ⟨v61, v62, v63, v64, v65, v66, rfl, H⟩ a E
 refine sv E rfl rfl rfl (x_ext E rfl rfl rfl) ?_
 clear a E;intro a E
 refine sv E rfl rfl rfl (x_ext E rfl rfl rfl) ?_
 clear a E;intro a E
 obtain ⟨q67, x68, rfl⟩ := H.slform (.head _)
 obtain ⟨q69, x70, rfl⟩ := H.slform (.tail _ (.head _))
 obtain ⟨q71, x72, rfl⟩ := H.slform (.tail _ (.tail _ (.head _)))
 obtain ⟨q73, x74, rfl⟩ := H.slform (.tail _ (.tail _ (.tail _ (.head _))))
 obtain ⟨q75, x76, rfl⟩ := H.slform (.tail _ (.tail _ (.tail _ (.tail _ (.head _)))))
 obtain ⟨q77, x78, rfl⟩ := H.slform (.tail _ (.tail _ (.tail _ (.tail _ (.tail _ (.head _))))))
 refine st_st (i := 3) E H (wn rfl) rfl (us := [.int .i64 u59.1.Err, .int .i64 u59.1.At, .bool u59.1.Yes, .int .i64 u59.1.Epoch, (.slice q67 u59.1.Results.length x68), (.slice q69 u59.1.Store.Nodes.length x70), (.slice q71 u59.1.Store.Turns.length x72), (.slice q73 u59.1.Events.length x74), (.slice q75 u59.1.Mounts.length x76), (.slice q77 u59.1.Wounded.length x78)]) rfl rfl rfl rfl rfl sz50 rfl rfl ?_
 clear H; clear w; intro w H
 replace H : Sep w (Blk p7 137 [v56, .int .i64 u53.2.2] :: Blk p13 50 [.int .i64 u10.1, .int .i64 u14.1, .bool (u17.1 == 1), .int .i64 u20.1, (.slice q27 u23.1.length x28), (.slice q33 u29.1.length x34), (.slice q39 u35.1.length x40), (.slice q45 u41.1.length x46), (.slice q51 u47.1.length x52), (.slice q57 u53.1.length x58)] :: Blk p9 88 [.pointer (some ⟨p7, 0, none⟩)] :: Blk p4 50 [.int .i64 u59.1.Err, .int .i64 u59.1.At, .bool u59.1.Yes, .int .i64 u59.1.Epoch, (.slice q67 u59.1.Results.length x68), (.slice q69 u59.1.Store.Nodes.length x70), (.slice q71 u59.1.Store.Turns.length x72), (.slice q73 u59.1.Events.length x74), (.slice q75 u59.1.Mounts.length x76), (.slice q77 u59.1.Wounded.length x78)] :: Fo) _ := H
 refine sv E rfl rfl rfl (x_assign E rfl rfl) ?_
 clear a E;intro a E
 refine wpList_nil ?_
 refine q_then ?_
 refine wp_ret ?_
 refine outR2 E rfl (rvBN (i := 3) (us := [.int .i64 u59.1.Err, .int .i64 u59.1.At, .bool u59.1.Yes, .int .i64 u59.1.Epoch, (.slice q67 u59.1.Results.length x68), (.slice q69 u59.1.Store.Nodes.length x70), (.slice q71 u59.1.Store.Turns.length x72), (.slice q73 u59.1.Events.length x74), (.slice q75 u59.1.Mounts.length x76), (.slice q77 u59.1.Wounded.length x78)]) H rfl rfl rfl Try.underlying50 rfl sz50) (rvT rfl) ?_
 replace H := H.drop 0
 replace H := H.drop 0
 replace H := H.drop 0
 replace H := H.drop 0
 obtain rfl := Option.some.inj hm
 exact ⟨(.slice q67 u59.1.Results.length x68), (.slice q69 u59.1.Store.Nodes.length x70), (.slice q71 u59.1.Store.Turns.length x72), (.slice q73 u59.1.Events.length x74), (.slice q75 u59.1.Mounts.length x76), (.slice q77 u59.1.Wounded.length x78), rfl, H.reads (sub_cons (.head _) (sub_cons (.tail _ (.head _)) (sub_cons (.tail _ (.tail _ (.head _))) (sub_cons (.tail _ (.tail _ (.tail _ (.head _)))) (sub_cons (.tail _ (.tail _ (.tail _ (.tail _ (.head _))))) (sub_cons (.tail _ (.tail _ (.tail _ (.tail _ (.tail _ (.head _)))))) (fun r hr => .tail _ (.tail _ (.tail _ (.tail _ (.tail _ (.tail _ (.tail _ (.tail _ (.tail _ (.tail _ (.tail _ (.tail _ (.tail _ (.tail _ (.tail _ (.tail _ (.tail _ (.tail _ (.tail _ (.tail _ (.tail _ (.tail _ (.tail _ (hr))))))))))))))))))))))))))))))⟩
end Go.Cb

set_option linter.unusedVariables false
set_option linter.unusedSimpArgs false
namespace Go.Cb
open Go.Proofs Go.RowKit
def m_letter_whole_api_Saved (l3 : List Int) (x4 : Int) (x5 : S_api_Saved) : Option (S_api_Saved × Int) :=
  (m_pack_Reader_End l3 x4).bind fun u15 => if (!u15) = true then (some ((⟨0, 0, []⟩ : S_api_Saved), 3)) else (some ((⟨x5.View, x5.Normal, x5.Log⟩ : S_api_Saved), 0))
set_option maxRecDepth 20000 in
set_option maxHeartbeats 1000000 in
theorem c_letter_whole_api_Saved {w : World} {Fo : List Ob} {rs : List Rp} (p1 : Nat) (v2 : Value) (l3 : List Int) (x4 : Int) (x5 : S_api_Saved) (v6 : Value) (H : Sep w (Blk p1 137 [v2, .int .i64 x4] :: Fo) rs) (hr7 : rSl (kI .u8) v2 l3 ∈ rs) (hr8 : rSl kS v6 x5.Log ∈ rs) {r : S_api_Saved × Int} (hm : m_letter_whole_api_Saved l3 x4 x5 = some r) :
    Calls Try.prog 48 [.agg #[.pointer (some ⟨p1, 0, none⟩)], .agg #[.int .i64 x5.View, .int .i64 x5.Normal, v6]].toArray w (Ret fun v w' => ∃ (v5002 : Value), .tuple #[.agg #[.int .i64 r.1.View, .int .i64 r.1.Normal, v5002], .int .i64 r.2] = v ∧ Sep w' (Blk p1 137 [v2, .int .i64 x4] :: Fo) (rSl kS v5002 r.1.Log :: rs)) := by
 unfold m_letter_whole_api_Saved at hm
 refine enter Try.func48 rfl Try.ntmps48 rfl fun a E => ?_
 simp only [enum, Nat.reduceAdd] at E
 refine wp_seq ?_
 refine wp_region_lit ?_
 refine st_box E H (wn rfl) rfl rfl (cs := [.pointer (some ⟨p1, 0, none⟩)]) rfl rfl rfl ?_
 clear E H; clear a; clear w; intro p9 w a H E
 obtain ⟨q11, x12, rfl⟩ := H.slform hr8
 refine st_box E H (wn rfl) rfl rfl (cs := [.int .i64 x5.View, .int .i64 x5.Normal, (.slice q11 x5.Log.length x12)]) rfl rfl rfl ?_
 clear E H; clear a; clear w; intro p10 w a H E
 refine st_alloc E H (wn rfl) rfl rfl (cs := [.int .i64 0, .int .i64 0, .slice none 0 0]) rfl (z := .agg #[.int .i64 0, .int .i64 0, .slice none 0 0]) (by kernel_rfl) rfl ?_
 clear E H; clear a; clear w; intro p13 w a H E
 refine sv E rfl rfl rfl (x_assign E rfl rfl) ?_
 clear a E;intro a E
 refine wpList_nil ?_
 refine q_then ?_
 refine wp_seq ?_
 refine wp_region_lit ?_
 refine st_alloc E H (wn rfl) rfl rfl (cs := [.int .i64 0, .int .i64 0, .slice none 0 0]) rfl (z := .agg #[.int .i64 0, .int .i64 0, .slice none 0 0]) (by kernel_rfl) rfl ?_
 clear E H; clear a; clear w; intro p14 w a H E
 refine wpList_nil ?_
 refine q_then ?_
 refine wp_seq ?_
 refine wp_seq ?_
 refine wp_region_lit ?_
 refine sv E rfl rfl rfl (x_fa E rfl rfl (v := .pointer (some ⟨p9, 0, none⟩)) (fa88_0 _ _)) ?_
 clear a E;intro a E
 refine sv E rfl rfl rfl (x_ldB (i := 3) E H rfl rfl rfl rfl Try.underlying85 rfl) ?_
 clear a E;intro a E
 replace H := H.front 3 rfl
 replace H := H.front 3 rfl
 replace H := H.front 3 rfl
 replace H := H.front 3 rfl
 replace H := H.front 4 rfl
 replace H : Sep w (Blk p1 137 [v2, .int .i64 x4] :: Blk p14 26 [.int .i64 0, .int .i64 0, .slice none 0 0] :: Blk p13 26 [.int .i64 0, .int .i64 0, .slice none 0 0] :: Blk p10 26 [.int .i64 x5.View, .int .i64 x5.Normal, (.slice q11 x5.Log.length x12)] :: Blk p9 88 [.pointer (some ⟨p1, 0, none⟩)] :: Fo) (rs) := H
 obtain ⟨u15, hx16, hm⟩ := bnd hm
 refine st_call E (wn rfl) rfl rfl (x_call E rfl rfl (cf85 _)) (c_pack_Reader_End p1 v2 l3 x4 H hr7 hx16) ?_
 clear E H; clear a; clear w; rintro _ w ⟨rfl, H⟩ a E
 refine sv E rfl rfl rfl (x_not E rfl rfl) ?_
 clear a E;intro a E
 refine wpList_nil ?_
 refine q_then ?_
 refine wp_if E rfl ?_ ?_
 ·intro hb
  rw [if_t hb] at hm
  clear hb
  refine wp_seq ?_
  refine wp_region_lit ?_
  refine sv E rfl rfl rfl (x_ldBN (i := 1) (us := [.int .i64 0, .int .i64 0, .slice none 0 0]) E H rfl rfl rfl rfl Try.underlying26 rfl sz26) ?_
  clear a E;intro a E
  refine st_st (i := 2) E H (wn rfl) rfl (us := [.int .i64 0, .int .i64 0, .slice none 0 0]) rfl rfl rfl rfl rfl sz26 rfl rfl ?_
  clear H; clear w; intro w H
  replace H : Sep w (Blk p1 137 [v2, .int .i64 x4] :: Blk p14 26 [.int .i64 0, .int .i64 0, .slice none 0 0] :: Blk p13 26 [.int .i64 0, .int .i64 0, .slice none 0 0] :: Blk p10 26 [.int .i64 x5.View, .int .i64 x5.Normal, (.slice q11 x5.Log.length x12)] :: Blk p9 88 [.pointer (some ⟨p1, 0, none⟩)] :: Fo) _ := H
  refine sv E rfl rfl rfl (x_assign E rfl rfl) ?_
  clear a E;intro a E
  refine wpList_nil ?_
  refine q_then ?_
  refine wp_ret ?_
  refine q_thenR ?_
  refine outR2 E rfl (rvBN (i := 2) (us := [.int .i64 0, .int .i64 0, .slice none 0 0]) H rfl rfl rfl Try.underlying26 rfl sz26) (rvT rfl) ?_
  replace H := H.nilSl kS
  replace H := H.drop 1
  replace H := H.drop 1
  replace H := H.drop 1
  replace H := H.drop 1
  obtain rfl := Option.some.inj hm
  exact ⟨(.slice none 0 0), rfl, H.reads (sub_cons (.head _) (fun r hr => .tail _ (hr)))⟩
 ·intro hb
  rw [if_f hb] at hm
  clear hb
  refine wp_skip ?_
  refine q_then ?_
  refine wp_seq ?_
  refine wp_region_lit ?_
  refine sv E rfl rfl rfl (x_ldBN (i := 3) (us := [.int .i64 x5.View, .int .i64 x5.Normal, (.slice q11 x5.Log.length x12)]) E H rfl rfl rfl rfl Try.underlying26 rfl sz26) ?_
  clear a E;intro a E
  refine st_st (i := 2) E H (wn rfl) rfl (us := [.int .i64 x5.View, .int .i64 x5.Normal, (.slice q11 x5.Log.length x12)]) rfl rfl rfl rfl rfl sz26 rfl rfl ?_
  clear H; clear w; intro w H
  replace H : Sep w (Blk p1 137 [v2, .int .i64 x4] :: Blk p14 26 [.int .i64 0, .int .i64 0, .slice none 0 0] :: Blk p13 26 [.int .i64 x5.View, .int .i64 x5.Normal, (.slice q11 x5.Log.length x12)] :: Blk p10 26 [.int .i64 x5.View, .int .i64 x5.Normal, (.slice q11 x5.Log.length x12)] :: Blk p9 88 [.pointer (some ⟨p1, 0, none⟩)] :: Fo) _ := H
  refine sv E rfl rfl rfl (x_assign E rfl rfl) ?_
  clear a E;intro a E
  refine wpList_nil ?_
  refine q_then ?_
  refine wp_ret ?_
  refine outR2 E rfl (rvBN (i := 2) (us := [.int .i64 x5.View, .int .i64 x5.Normal, (.slice q11 x5.Log.length x12)]) H rfl rfl rfl Try.underlying26 rfl sz26) (rvT rfl) ?_
  replace H := H.drop 1
  replace H := H.drop 1
  replace H := H.drop 1
  replace H := H.drop 1
  obtain rfl := Option.some.inj hm
  exact ⟨(.slice q11 x5.Log.length x12), rfl, H.reads (sub_cons hr8 (fun r hr => hr))⟩
end Go.Cb

set_option linter.unusedVariables false
set_option linter.unusedSimpArgs false
namespace Go.Cb
open Go.Proofs Go.RowKit
def m_letter_GetSaved (l2 : List Int) : Option (S_api_Saved × Int) :=
  (m_pack_New l2).bind fun u5 => (m_letter_reader_num u5 0).bind fun u10 => (m_letter_reader_num u10.2.1 u10.2.2).bind fun u14 => (m_pack_Reader_Texts u14.2.1 u14.2.2).bind fun u17 => (m_letter_whole_api_Saved u17.2.1 u17.2.2 (⟨u10.1, u14.1, u17.1⟩ : S_api_Saved)).bind fun u23 => some ((⟨u23.1.View, u23.1.Normal, u23.1.Log⟩ : S_api_Saved), u23.2)
set_option maxRecDepth 20000 in
set_option maxHeartbeats 1000000 in
theorem c_letter_GetSaved {w : World} {Fo : List Ob} {rs : List Rp} (v1 : Value) (l2 : List Int) (H : Sep w (Fo) rs) (hr3 : rSl (kI .u8) v1 l2 ∈ rs) {r : S_api_Saved × Int} (hm : m_letter_GetSaved l2 = some r) :
    Calls Try.prog 17 [v1].toArray w (Ret fun v w' => ∃ (v5002 : Value), .tuple #[.agg #[.int .i64 r.1.View, .int .i64 r.1.Normal, v5002], .int .i64 r.2] = v ∧ Sep w' (Fo) (rSl kS v5002 r.1.Log :: rs)) := by
 unfold m_letter_GetSaved at hm
 refine enter Try.func17 rfl Try.ntmps17 rfl fun a E => ?_
 simp only [enum, Nat.reduceAdd] at E
 refine wp_seq ?_
 refine wp_region_lit ?_
 refine st_alloc E H (wn rfl) rfl rfl (cs := [.int .i64 0, .int .i64 0, .slice none 0 0]) rfl (z := .agg #[.int .i64 0, .int .i64 0, .slice none 0 0]) (by kernel_rfl) rfl ?_
 clear E H; clear a; clear w; intro p4 w a H E
 refine sv E rfl rfl rfl (x_assign E rfl rfl) ?_
 clear a E;intro a E
 refine wpList_nil ?_
 refine q_then ?_
 refine wp_seq ?_
 refine wp_region_lit ?_
 refine sv E rfl rfl rfl (x_move E rfl rfl) ?_
 clear a E;intro a E
 obtain ⟨u5, hx6, hm⟩ := bnd hm
 refine st_call E (wn rfl) rfl rfl (x_call E rfl rfl (cf37 _)) (c_pack_New v1 l2 H hr3 hx6) ?_
 clear E H; clear a; clear w; rintro _ w ⟨p7, v8, rfl, H⟩ a E
 refine sv E rfl rfl rfl (x_build E (ps := [(0, .tmp 7)]) (vs := [(0, .pointer (some ⟨p7, 0, none⟩))]) rfl (by simp only [List.map]; rw [E.eval (x := .tmp 7) (v := .pointer (some ⟨p7, 0, none⟩)) rfl]) (v := .agg #[.pointer (some ⟨p7, 0, none⟩)]) (by kernel_rfl)) ?_
 clear a E;intro a E
 refine st_alloc E H (wn rfl) rfl rfl (cs := [.pointer none]) rfl (z := .agg #[.pointer none]) (by kernel_rfl) rfl ?_
 clear E H; clear a; clear w; intro p9 w a H E
 refine st_st (i := 0) E H (wn rfl) rfl (us := [.pointer (some ⟨p7, 0, none⟩)]) rfl rfl rfl rfl rfl sz88 rfl rfl ?_
 clear H; clear w; intro w H
 replace H : Sep w (Blk p9 88 [.pointer (some ⟨p7, 0, none⟩)] :: Blk p7 137 [v8, .int .i64 0] :: Row 5 (kI .u8) v8 u5 :: Blk p4 26 [.int .i64 0, .int .i64 0, .slice none 0 0] :: Fo) _ := H
 refine wpList_nil ?_
 refine q_then ?_
 refine wp_seq ?_
 refine wp_region_lit ?_
 refine sv E rfl rfl rfl (x_ldBN (i := 0) (us := [.pointer (some ⟨p7, 0, none⟩)]) E H rfl rfl rfl rfl Try.underlying88 rfl sz88) ?_
 clear a E;intro a E
 replace H := H.thaw (i := 2) rfl
 replace H := H.front 2 rfl
 replace H := H.front 1 rfl
 replace H := H.front 2 rfl
 replace H : Sep w (Blk p7 137 [v8, .int .i64 0] :: Blk p9 88 [.pointer (some ⟨p7, 0, none⟩)] :: Blk p4 26 [.int .i64 0, .int .i64 0, .slice none 0 0] :: Fo) (rSl (kI .u8) v8 u5 :: rs) := H
 obtain ⟨u10, hx11, hm⟩ := bnd hm
 refine st_call E (wn rfl) rfl rfl (x_call E rfl rfl (cf39 _)) (c_letter_reader_num p7 v8 u5 0 H (.head _) hx11) ?_
 clear E H; clear a; clear w; rintro _ w ⟨v12, rfl, H⟩ a E
 refine sv E rfl rfl rfl (x_build E (ps := [(0, .tmp 10)]) (vs := [(0, .int .i64 u10.1)]) rfl (by simp only [List.map]; rw [E.eval (x := .tmp 10) (v := .int .i64 u10.1) rfl]) (v := .agg #[.int .i64 u10.1, .int .i64 0, .slice none 0 0]) (by kernel_rfl)) ?_
 clear a E;intro a E
 refine st_alloc E H (wn rfl) rfl rfl (cs := [.int .i64 0, .int .i64 0, .slice none 0 0]) rfl (z := .agg #[.int .i64 0, .int .i64 0, .slice none 0 0]) (by kernel_rfl) rfl ?_
 clear E H; clear a; clear w; intro p13 w a H E
 refine st_st (i := 0) E H (wn rfl) rfl (us := [.int .i64 u10.1, .int .i64 0, .slice none 0 0]) rfl rfl rfl rfl rfl sz26 rfl rfl ?_
 clear H; clear w; intro w H
 replace H : Sep w (Blk p13 26 [.int .i64 u10.1, .int .i64 0, .slice none 0 0] :: Blk p7 137 [v12, .int .i64 u10.2.2] :: Blk p9 88 [.pointer (some ⟨p7, 0, none⟩)] :: Blk p4 26 [.int .i64 0, .int .i64 0, .slice none 0 0] :: Fo) _ := H
 refine wpList_nil ?_
 refine q_then ?_
 refine wp_seq ?_
 refine wp_region_lit ?_
 refine sv E rfl rfl rfl (x_ldBN (i := 2) (us := [.pointer (some ⟨p7, 0, none⟩)]) E H rfl rfl rfl rfl Try.underlying88 rfl sz88) ?_
 clear a E;intro a E
 replace H := H.front 3 rfl
 replace H := H.front 3 rfl
 replace H := H.front 2 rfl
 replace H := H.front 3 rfl
 replace H : Sep w (Blk p7 137 [v12, .int .i64 u10.2.2] :: Blk p13 26 [.int .i64 u10.1, .int .i64 0, .slice none 0 0] :: Blk p9 88 [.pointer (some ⟨p7, 0, none⟩)] :: Blk p4 26 [.int .i64 0, .int .i64 0, .slice none 0 0] :: Fo) (rSl (kI .u8) v12 u10.2.1 :: rSl (kI .u8) v8 u5 :: rs) := H
 obtain ⟨u14, hx15, hm⟩ := bnd hm
 refine st_call E (wn rfl) rfl rfl (x_call E rfl rfl (cf39 _)) (c_letter_reader_num p7 v12 u10.2.1 u10.2.2 H (.head _) hx15) ?_
 clear E H; clear a; clear w; rintro _ w ⟨v16, rfl, H⟩ a E
 refine sv E rfl rfl rfl (x_fa E rfl rfl (v := .pointer (some ⟨p13, 1, none⟩)) (fa26_1 _ _)) ?_
 clear a E;intro a E
 refine st_st (i := 1) E H (wn rfl) rfl (us := [.int .i64 u14.1]) rfl rfl rfl rfl rfl sz2 rfl rfl ?_
 clear H; clear w; intro w H
 replace H : Sep w (Blk p7 137 [v16, .int .i64 u14.2.2] :: Blk p13 26 [.int .i64 u10.1, .int .i64 u14.1, .slice none 0 0] :: Blk p9 88 [.pointer (some ⟨p7, 0, none⟩)] :: Blk p4 26 [.int .i64 0, .int .i64 0, .slice none 0 0] :: Fo) _ := H
 refine wpList_nil ?_
 refine q_then ?_
 refine wp_seq ?_
 refine wp_region_lit ?_
 refine sv E rfl rfl rfl (x_fa E rfl rfl (v := .pointer (some ⟨p9, 0, none⟩)) (fa88_0 _ _)) ?_
 clear a E;intro a E
 refine sv E rfl rfl rfl (x_ldB (i := 2) E H rfl rfl rfl rfl Try.underlying85 rfl) ?_
 clear a E;intro a E
 obtain ⟨u17, hx18, hm⟩ := bnd hm
 refine st_call E (wn rfl) rfl rfl (x_call E rfl rfl (cf40 _)) (c_pack_Reader_Texts p7 v16 u14.2.1 u14.2.2 H (.head _) hx18) ?_
 clear E H; clear a; clear w; rintro _ w ⟨v19, v20, rfl, H⟩ a E
 refine sv E rfl rfl rfl (x_fa E rfl rfl (v := .pointer (some ⟨p13, 2, none⟩)) (fa26_2 _ _)) ?_
 clear a E;intro a E
 obtain ⟨q21, x22, rfl⟩ := H.rowform (i := 0) rfl
 refine st_st (i := 2) E H (wn rfl) rfl (us := [(.slice q21 u17.1.length x22)]) rfl rfl rfl rfl rfl sz22 rfl rfl ?_
 clear H; clear w; intro w H
 replace H : Sep w (Row 9 kS (.slice q21 u17.1.length x22) u17.1 :: Blk p7 137 [v20, .int .i64 u17.2.2] :: Blk p13 26 [.int .i64 u10.1, .int .i64 u14.1, (.slice q21 u17.1.length x22)] :: Blk p9 88 [.pointer (some ⟨p7, 0, none⟩)] :: Blk p4 26 [.int .i64 0, .int .i64 0, .slice none 0 0] :: Fo) _ := H
 refine wpList_nil ?_
 refine q_then ?_
 refine wp_seq ?_
 refine wp_region_lit ?_
 refine sv E rfl rfl rfl (x_ldBN (i := 3) (us := [.pointer (some ⟨p7, 0, none⟩)]) E H rfl rfl rfl rfl Try.underlying88 rfl sz88) ?_
 clear a E;intro a E
 refine sv E rfl rfl rfl (x_ldBN (i := 2) (us := [.int .i64 u10.1, .int .i64 u14.1, (.slice q21 u17.1.length x22)]) E H rfl rfl rfl rfl Try.underlying26 rfl sz26) ?_
 clear a E;intro a E
 replace H := H.thaw (i := 0) rfl
 replace H : Sep w (Blk p7 137 [v20, .int .i64 u17.2.2] :: Blk p13 26 [.int .i64 u10.1, .int .i64 u14.1, (.slice q21 u17.1.length x22)] :: Blk p9 88 [.pointer (some ⟨p7, 0, none⟩)] :: Blk p4 26 [.int .i64 0, .int .i64 0, .slice none 0 0] :: Fo) (rSl kS (.slice q21 u17.1.length x22) u17.1 :: rSl (kI .u8) v20 u17.2.1 :: rSl (kI .u8) v16 u14.2.1 :: rSl (kI .u8) v12 u10.2.1 :: rSl (kI .u8) v8 u5 :: rs) := H
 obtain ⟨u23, hx24, hm⟩ := bnd hm
 refine st_call E (wn rfl) rfl rfl (x_call E rfl rfl (cf48 _)) (c_letter_whole_api_Saved p7 v20 u17.2.1 u17.2.2 (⟨u10.1, u14.1, u17.1⟩ : S_api_Saved) (.slice q21 u17.1.length x22) H (.tail _ (.head _)) (.head _) hx24) ?_
 clear E H; clear a; clear w; rintro _ w ⟨v25, rfl, H⟩ a E
 refine sv E rfl rfl rfl (x_ext E rfl rfl rfl) ?_
 clear a E;intro a E
 refine sv E rfl rfl rfl (x_ext E rfl rfl rfl) ?_
 clear a E;intro a E
 obtain ⟨q26, x27, rfl⟩ := H.slform (.head _)
 refine st_st (i := 3) E H (wn rfl) rfl (us := [.int .i64 u23.1.View, .int .i64 u23.1.Normal, (.slice q26 u23.1.Log.length x27)]) rfl rfl rfl rfl rfl sz26 rfl rfl ?_
 clear H; clear w; intro w H
 replace H : Sep w (Blk p7 137 [v20, .int .i64 u17.2.2] :: Blk p13 26 [.int .i64 u10.1, .int .i64 u14.1, (.slice q21 u17.1.length x22)] :: Blk p9 88 [.pointer (some ⟨p7, 0, none⟩)] :: Blk p4 26 [.int .i64 u23.1.View, .int .i64 u23.1.Normal, (.slice q26 u23.1.Log.length x27)] :: Fo) _ := H
 refine sv E rfl rfl rfl (x_assign E rfl rfl) ?_
 clear a E;intro a E
 refine wpList_nil ?_
 refine q_then ?_
 refine wp_ret ?_
 refine outR2 E rfl (rvBN (i := 3) (us := [.int .i64 u23.1.View, .int .i64 u23.1.Normal, (.slice q26 u23.1.Log.length x27)]) H rfl rfl rfl Try.underlying26 rfl sz26) (rvT rfl) ?_
 replace H := H.drop 0
 replace H := H.drop 0
 replace H := H.drop 0
 replace H := H.drop 0
 obtain rfl := Option.some.inj hm
 exact ⟨(.slice q26 u23.1.Log.length x27), rfl, H.reads (sub_cons (.head _) (fun r hr => .tail _ (.tail _ (.tail _ (.tail _ (.tail _ (.tail _ (hr))))))))⟩
end Go.Cb

set_option linter.unusedVariables false
set_option linter.unusedSimpArgs false
namespace Go.Cb
open Go.Proofs Go.RowKit
def m_letter_writer_nums_l1 (l6 : List Int) : Nat → Int → (List Int) → Bool → Option ((List Int) × Bool)
  | 0, _, _, _ => none
  | k1 + 1, x8, l10, b11 =>
    if (decide (x8 < (l6.length : Int))) = true then ((idx l6 x8).bind fun x15 => (m_pack_Writer_Num l10 b11 x15).bind fun u18 => m_letter_writer_nums_l1 l6 k1 (IntKind.i64.wrap (x8 + 1)) u18.1 u18.2) else (some (l10, b11))
def m_letter_writer_nums (l3 : List Int) (b4 : Bool) (l6 : List Int) : Option ((List Int) × Bool) :=
  m_letter_writer_nums_l1 l6 (((l6.length : Int) - 0 : Int).toNat + 1) 0 l3 b4
set_option maxRecDepth 20000 in
set_option maxHeartbeats 1000000 in
theorem c_letter_writer_nums {w : World} {Fo : List Ob} {rs : List Rp} (p1 : Nat) (v2 : Value) (l3 : List Int) (b4 : Bool) (v5 : Value) (l6 : List Int) (H : Sep w (Blk p1 76 [v2, .bool b4] :: Row 5 (kI .u8) v2 l3 :: Fo) rs) (hr7 : rSl (kI .i64) v5 l6 ∈ rs) {r : (List Int) × Bool} (hm : m_letter_writer_nums l3 b4 l6 = some r) :
    Calls Try.prog 28 [.pointer (some ⟨p1, 0, none⟩), v5].toArray w (Ret fun v w' => ∃ (v5001 : Value), .tuple #[] = v ∧ Sep w' (Blk p1 76 [v5001, .bool r.2] :: Row 5 (kI .u8) v5001 r.1 :: Fo) (rs)) := by
 unfold m_letter_writer_nums at hm
 refine enter Try.func28 rfl Try.ntmps28 rfl fun a E => ?_
 simp only [enum, Nat.reduceAdd] at E
 refine wp_seq ?_
 refine wp_region_lit ?_
 refine sv E rfl rfl rfl (x_move E rfl rfl) ?_
 clear a E;intro a E
 refine sv E rfl rfl rfl (x_lenS E H rfl rfl hr7 Try.underlying48) ?_
 clear a E;intro a E
 refine sv E rfl rfl rfl (x_move E rfl rfl) ?_
 clear a E;intro a E
 refine wpList_nil ?_
 refine q_then ?_
 refine wp_block ?_
 refine wp_loop_g (fun k1 a w => ∃ (v9 : Value) (x8 : Int) (l10 : (List Int)) (b11 : Bool) (rs12 : List Rp), Env 18 a [(0, .pointer (some ⟨p1, 0, none⟩)), (6, v5), (7, .int .i64 (l6.length : Int)), (8, .int .i64 x8)] ∧ Sep w (Blk p1 76 [v9, .bool b11] :: Row 5 (kI .u8) v9 l10 :: Fo) rs12 ∧ (∀ r, r ∈ rs → r ∈ rs12) ∧ rSl (kI .i64) v5 l6 ∈ rs12 ∧ m_letter_writer_nums_l1 l6 k1 x8 l10 b11 = some r) (((l6.length : Int) - 0 : Int).toNat + 1) ?_ ?_
 ·exact ⟨v2, 0, l3, b4, _, ((((E.nil.keep E 8 rfl).keep E 7 rfl).keep E 6 rfl).keep E 0 rfl), H, fun r hr => hr, hr7, hm⟩
 ·clear E H hm
  rintro k1 a w ⟨v9, x8, l10, b11, rs12, E, H, hs13, hr14, hm⟩
  cases k1 with
  | zero => exact (none_some hm rfl).elim
  | succ k1 =>
   unfold m_letter_writer_nums_l1 at hm
   refine wp_seq ?_
   refine wp_region_lit ?_
   refine sv E rfl rfl rfl (x_bin E rfl rfl rfl rfl) ?_
   clear a E;intro a E
   refine wpList_nil ?_
   refine q_then ?_
   refine wp_seq ?_
   refine wp_if E rfl ?_ ?_
   ·intro hb
    rw [if_t hb] at hm
    clear hb
    refine wp_skip ?_
    refine q_then ?_
    refine wp_seq ?_
    refine wp_block ?_
    refine wp_seq ?_
    refine wp_region_lit ?_
    obtain ⟨x15, hx16, hm⟩ := bnd hm
    refine st_ixS E H (wn rfl) rfl rfl rfl rfl rfl hr14 Try.underlying48 sz2 hx16 ?_
    clear E H; clear a; intro q17 a H E
    refine sv E rfl rfl rfl (x_ldA E H rfl rfl (.head _) Try.underlying2 rfl) ?_
    clear a E;intro a E
    refine sv E rfl rfl rfl (x_assign E rfl rfl) ?_
    clear a E;intro a E
    refine wpList_nil ?_
    refine q_then ?_
    refine wp_region_lit ?_
    refine sv E rfl rfl rfl (x_move E rfl rfl) ?_
    clear a E;intro a E
    refine sv E rfl rfl rfl (x_nil E rfl rfl) ?_
    clear a E;intro a E
    refine sv E rfl rfl rfl (x_fa E rfl rfl (v := .pointer (some ⟨p1, 0, none⟩)) (fa76_0 _ _)) ?_
    clear a E;intro a E
    refine sv E rfl rfl rfl (x_move E rfl rfl) ?_
    clear a E;intro a E
    obtain ⟨u18, hx19, hm⟩ := bnd hm
    refine st_call E (wn rfl) rfl rfl (x_call E rfl rfl (cf30 _)) (c_pack_Writer_Num p1 v9 l10 b11 x15 H hx19) ?_
    clear E H; clear a; clear w; rintro _ w ⟨v20, rfl, H⟩ a E
    refine wpList_nil ?_
    refine q_blk ?_
    refine q_then ?_
    refine wp_region_lit ?_
    refine sv E rfl rfl rfl (x_bin E rfl rfl rfl rfl) ?_
    clear a E;intro a E
    refine sv E rfl rfl rfl (x_move E rfl rfl) ?_
    clear a E;intro a E
    refine wpList_nil ?_
    refine q_then ?_
    exact ⟨k1, Nat.lt_succ_self k1, v20, IntKind.i64.wrap (x8 + 1), u18.1, u18.2, _, ((((E.nil.keep E 8 rfl).keep E 7 rfl).keep E 6 rfl).keep E 0 rfl), H, fun r hr => .tail _ (hs13 r hr), (.tail _ hr14), hm⟩
   ·intro hb
    rw [if_f hb] at hm
    clear hb
    refine wp_exit ?_
    refine q_thenX ?_
    refine q_thenX ?_
    refine q_hit ?_
    refine out0 E rfl ?_
    obtain rfl := Option.some.inj hm
    exact ⟨v9, rfl, H.reads (fun r hr => hs13 r hr)⟩
end Go.Cb

set_option linter.unusedVariables false
set_option linter.unusedSimpArgs false
namespace Go.Cb
open Go.Proofs Go.RowKit
def m_letter_Put (x1 : S_api_Letter) : Option ((List Int) × Int) :=
  (m_letter_writer_nums [] false ([x1.Kind, x1.View, x1.Normal, x1.Len, x1.Stays] : List Int)).bind fun u9 => (m_pack_Writer_Texts u9.1 u9.2 x1.Log).bind fun u12 => (m_pack_Writer_Num u12.1 u12.2 x1.Num).bind fun u15 => (m_pack_Writer_Text u15.1 u15.2 x1.Text).bind fun u18 => (m_pack_Writer_Bytes u18.1 u18.2).bind fun u21 => some (u21.1, u21.2)
set_option maxRecDepth 20000 in
set_option maxHeartbeats 1000000 in
theorem c_letter_Put {w : World} {Fo : List Ob} {rs : List Rp} (x1 : S_api_Letter) (v2 : Value) (H : Sep w (Fo) rs) (hr3 : rSl kS v2 x1.Log ∈ rs) {r : (List Int) × Int} (hm : m_letter_Put x1 = some r) :
    Calls Try.prog 11 [.agg #[.int .i64 x1.Kind, .int .i64 x1.View, .int .i64 x1.Normal, .int .i64 x1.Len, .int .i64 x1.Stays, v2, .int .i64 x1.Num, .string x1.Text]].toArray w (Ret fun v w' => ∃ (v5001 : Value), .tuple #[v5001, .int .i64 r.2] = v ∧ Sep w' (Row 5 (kI .u8) v5001 r.1 :: Fo) (rs)) := by
 unfold m_letter_Put at hm
 refine enter Try.func11 rfl Try.ntmps11 rfl fun a E => ?_
 simp only [enum, Nat.reduceAdd] at E
 refine wp_seq ?_
 refine wp_region_lit ?_
 obtain ⟨q5, x6, rfl⟩ := H.slform hr3
 refine st_box E H (wn rfl) rfl rfl (cs := [.int .i64 x1.Kind, .int .i64 x1.View, .int .i64 x1.Normal, .int .i64 x1.Len, .int .i64 x1.Stays, (.slice q5 x1.Log.length x6), .int .i64 x1.Num, .string x1.Text]) rfl rfl rfl ?_
 clear E H; clear a; clear w; intro p4 w a H E
 refine sv E rfl rfl rfl (x_assign E rfl rfl) ?_
 clear a E;intro a E
 refine sv E rfl rfl rfl (x_assign E rfl rfl) ?_
 clear a E;intro a E
 refine wpList_nil ?_
 refine q_then ?_
 refine wp_seq ?_
 refine wp_region_lit ?_
 refine sv E rfl rfl rfl (x_build E (ps := []) (vs := []) rfl rfl (v := .agg #[.slice none 0 0, .bool false]) (by kernel_rfl)) ?_
 clear a E;intro a E
 refine st_box E H (wn rfl) rfl rfl (cs := [.slice none 0 0, .bool false]) rfl rfl rfl ?_
 clear E H; clear a; clear w; intro p7 w a H E
 refine sv E rfl rfl rfl (x_assign E rfl rfl) ?_
 clear a E;intro a E
 refine wpList_nil ?_
 refine q_then ?_
 refine wp_seq ?_
 refine wp_region_lit ?_
 refine sv E rfl rfl rfl (x_move E rfl rfl) ?_
 clear a E;intro a E
 refine sv E rfl rfl rfl (x_fa E rfl rfl (v := .pointer (some ⟨p4, 0, none⟩)) (fa24_0 _ _)) ?_
 clear a E;intro a E
 refine sv E rfl rfl rfl (x_ldB (i := 1) E H rfl rfl rfl rfl Try.underlying3 rfl) ?_
 clear a E;intro a E
 refine sv E rfl rfl rfl (x_fa E rfl rfl (v := .pointer (some ⟨p4, 1, none⟩)) (fa24_1 _ _)) ?_
 clear a E;intro a E
 refine sv E rfl rfl rfl (x_ldB (i := 1) E H rfl rfl rfl rfl Try.underlying2 rfl) ?_
 clear a E;intro a E
 refine sv E rfl rfl rfl (x_fa E rfl rfl (v := .pointer (some ⟨p4, 2, none⟩)) (fa24_2 _ _)) ?_
 clear a E;intro a E
 refine sv E rfl rfl rfl (x_ldB (i := 1) E H rfl rfl rfl rfl Try.underlying2 rfl) ?_
 clear a E;intro a E
 refine sv E rfl rfl rfl (x_fa E rfl rfl (v := .pointer (some ⟨p4, 3, none⟩)) (fa24_3 _ _)) ?_
 clear a E;intro a E
 refine sv E rfl rfl rfl (x_ldB (i := 1) E H rfl rfl rfl rfl Try.underlying3 rfl) ?_
 clear a E;intro a E
 refine sv E rfl rfl rfl (x_fa E rfl rfl (v := .pointer (some ⟨p4, 4, none⟩)) (fa24_4 _ _)) ?_
 clear a E;intro a E
 refine sv E rfl rfl rfl (x_ldB (i := 1) E H rfl rfl rfl rfl Try.underlying3 rfl) ?_
 clear a E;intro a E
 refine st_bsO (e := 2) (d := (kI .i64)) (cs := [.int .i64 x1.Kind, .int .i64 x1.View, .int .i64 x1.Normal, .int .i64 x1.Len, .int .i64 x1.Stays]) (xs := [x1.Kind, x1.View, x1.Normal, x1.Len, x1.Stays]) E H (wn rfl) rfl rfl (ps := [(0, .tmp 9), (1, .tmp 11), (2, .tmp 13), (3, .tmp 15), (4, .tmp 17)]) (parts := [(0, .int .i64 x1.Kind), (1, .int .i64 x1.View), (2, .int .i64 x1.Normal), (3, .int .i64 x1.Len), (4, .int .i64 x1.Stays)]) rfl (by simp only [List.map]; rw [E.eval (x := .tmp 9) (v := .int .i64 x1.Kind) rfl, E.eval (x := .tmp 11) (v := .int .i64 x1.View) rfl, E.eval (x := .tmp 13) (v := .int .i64 x1.Normal) rfl, E.eval (x := .tmp 15) (v := .int .i64 x1.Len) rfl, E.eval (x := .tmp 17) (v := .int .i64 x1.Stays) rfl]) (by kernel_rfl) rfl rfl (fun ok hr => (Rows.append (Rows.append (Rows.append (Rows.append (Rows.single (d := (kI .i64)) (cs := [.int .i64 x1.Kind]) (x := x1.Kind) rfl) (Rows.single (d := (kI .i64)) (cs := [.int .i64 x1.View]) (x := x1.View) rfl)) (Rows.single (d := (kI .i64)) (cs := [.int .i64 x1.Normal]) (x := x1.Normal) rfl)) (Rows.single (d := (kI .i64)) (cs := [.int .i64 x1.Len]) (x := x1.Len) rfl)) (Rows.single (d := (kI .i64)) (cs := [.int .i64 x1.Stays]) (x := x1.Stays) rfl))) ?_
 clear E H; clear a; clear w; intro v8 w a H E
 replace H := H.thaw (i := 0) rfl
 replace H := H.nilRow 5 (kI .u8)
 replace H := H.front 2 rfl
 replace H := H.front 1 rfl
 replace H := H.front 2 rfl
 replace H : Sep w (Blk p7 76 [.slice none 0 0, .bool false] :: Row 5 (kI .u8) (.slice none 0 0) ([] : List Int) :: Blk p4 24 [.int .i64 x1.Kind, .int .i64 x1.View, .int .i64 x1.Normal, .int .i64 x1.Len, .int .i64 x1.Stays, (.slice q5 x1.Log.length x6), .int .i64 x1.Num, .string x1.Text] :: Fo) (rSl (kI .i64) v8 ([x1.Kind, x1.View, x1.Normal, x1.Len, x1.Stays] : List Int) :: rs) := H
 obtain ⟨u9, hx10, hm⟩ := bnd hm
 refine st_call E (wn rfl) rfl rfl (x_call E rfl rfl (cf28 _)) (c_letter_writer_nums p7 (.slice none 0 0) [] false v8 ([x1.Kind, x1.View, x1.Normal, x1.Len, x1.Stays] : List Int) H (.head _) hx10) ?_
 clear E H; clear a; clear w; rintro _ w ⟨v11, rfl, H⟩ a E
 refine wpList_nil ?_
 refine q_then ?_
 refine wp_seq ?_
 replace H : Sep w (Blk p7 76 [v11, .bool u9.2] :: Row 5 (kI .u8) v11 u9.1 :: Blk p4 24 [.int .i64 x1.Kind, .int .i64 x1.View, .int .i64 x1.Normal, .int .i64 x1.Len, .int .i64 x1.Stays, (.slice q5 x1.Log.length x6), .int .i64 x1.Num, .string x1.Text] :: Fo) (rSl (kI .i64) v8 ([x1.Kind, x1.View, x1.Normal, x1.Len, x1.Stays] : List Int) :: rs) := H
 have hI : Still [Blk p4 24 [.int .i64 x1.Kind, .int .i64 x1.View, .int .i64 x1.Normal, .int .i64 x1.Len, .int .i64 x1.Stays, (.slice q5 x1.Log.length x6), .int .i64 x1.Num, .string x1.Text]] [] { w with drawn := w.drawn + 1 } := ⟨_, _, H.kept (Kp.drawn _ w _), (subO_cons (.tail _ (.tail _ (.head _))) (subO_nil)), (sub_nil)⟩
 refine wp_draw _ [(0, 0), (1, 0), (2, 0), (3, 0), (4, 0), (5, 1)] mixedOk (by kernel_rfl) (fun _ _ _ h => False.elim h.2) hI ?_
 replace H := H.kept (Kp.drawn _ w (w.drawn + 1))
 generalize ({ w with drawn := w.drawn + 1 } : World) = w at H hI ⊢
 replace hI : ∃ W, Still [Blk p4 24 [.int .i64 x1.Kind, .int .i64 x1.View, .int .i64 x1.Normal, .int .i64 x1.Len, .int .i64 x1.Stays, (.slice q5 x1.Log.length x6), .int .i64 x1.Num, .string x1.Text]] [] W := ⟨_, hI⟩
 obtain ⟨W0, hI⟩ := hI
 refine fr_val E rfl (wn rfl) rfl rfl (fun w hW => (x_move E rfl rfl)) ?_
 clear a E;intro a E
 refine fr_val E rfl (wn rfl) rfl rfl (fun w hW => (x_nil E rfl rfl)) ?_
 clear a E;intro a E
 refine fr_val E rfl (wn rfl) rfl rfl (fun w hW => x_fa E rfl rfl (v := .pointer (some ⟨p7, 0, none⟩)) (fa76_0 _ _)) ?_
 clear a E;intro a E
 refine fr_val E rfl (wn rfl) rfl rfl (fun w hW => x_fa E rfl rfl (v := .pointer (some ⟨p4, 5, none⟩)) (fa24_5 _ _)) ?_
 clear a E;intro a E
 refine fr_val E rfl (wn rfl) rfl rfl (fun w hW => x_ld E rfl rfl (ib_ld (.head _) rfl Try.underlying22 rfl w hW)) ?_
 clear a E;intro a E
 refine fr_op rfl ?_
 obtain ⟨u12, hx13, hm⟩ := bnd hm
 refine st_call E (wn rfl) rfl rfl (x_call E rfl rfl (cf29 _)) (c_pack_Writer_Texts p7 v11 u9.1 u9.2 (.slice q5 x1.Log.length x6) x1.Log H (.tail _ hr3) hx13) ?_
 clear E H; clear a; clear w; rintro _ w ⟨v14, rfl, H⟩ a E
 refine wpList_nil ?_
 refine q_then ?_
 replace H : Sep w (Blk p7 76 [v14, .bool u12.2] :: Row 5 (kI .u8) v14 u12.1 :: Blk p4 24 [.int .i64 x1.Kind, .int .i64 x1.View, .int .i64 x1.Normal, .int .i64 x1.Len, .int .i64 x1.Stays, (.slice q5 x1.Log.length x6), .int .i64 x1.Num, .string x1.Text] :: Fo) (rSl (kI .i64) v8 ([x1.Kind, x1.View, x1.Normal, x1.Len, x1.Stays] : List Int) :: rs) := H
 refine ⟨⟨_, _, H, (subO_cons (.tail _ (.tail _ (.head _))) (subO_nil)), (sub_nil)⟩, ?_⟩
 refine fr_nil ?_
 clear hI
 refine q_then ?_
 refine wp_seq ?_
 replace H : Sep w (Blk p7 76 [v14, .bool u12.2] :: Row 5 (kI .u8) v14 u12.1 :: Blk p4 24 [.int .i64 x1.Kind, .int .i64 x1.View, .int .i64 x1.Normal, .int .i64 x1.Len, .int .i64 x1.Stays, (.slice q5 x1.Log.length x6), .int .i64 x1.Num, .string x1.Text] :: Fo) (rSl (kI .i64) v8 ([x1.Kind, x1.View, x1.Normal, x1.Len, x1.Stays] : List Int) :: rs) := H
 have hI : Still [Blk p4 24 [.int .i64 x1.Kind, .int .i64 x1.View, .int .i64 x1.Normal, .int .i64 x1.Len, .int .i64 x1.Stays, (.slice q5 x1.Log.length x6), .int .i64 x1.Num, .string x1.Text]] [] { w with drawn := w.drawn + 1 } := ⟨_, _, H.kept (Kp.drawn _ w _), (subO_cons (.tail _ (.tail _ (.head _))) (subO_nil)), (sub_nil)⟩
 refine wp_draw _ [(0, 0), (1, 0), (2, 0), (3, 0), (4, 0), (5, 1)] mixedOk (by kernel_rfl) (fun _ _ _ h => False.elim h.2) hI ?_
 replace H := H.kept (Kp.drawn _ w (w.drawn + 1))
 generalize ({ w with drawn := w.drawn + 1 } : World) = w at H hI ⊢
 replace hI : ∃ W, Still [Blk p4 24 [.int .i64 x1.Kind, .int .i64 x1.View, .int .i64 x1.Normal, .int .i64 x1.Len, .int .i64 x1.Stays, (.slice q5 x1.Log.length x6), .int .i64 x1.Num, .string x1.Text]] [] W := ⟨_, hI⟩
 obtain ⟨W0, hI⟩ := hI
 refine fr_val E rfl (wn rfl) rfl rfl (fun w hW => (x_move E rfl rfl)) ?_
 clear a E;intro a E
 refine fr_val E rfl (wn rfl) rfl rfl (fun w hW => (x_nil E rfl rfl)) ?_
 clear a E;intro a E
 refine fr_val E rfl (wn rfl) rfl rfl (fun w hW => x_fa E rfl rfl (v := .pointer (some ⟨p7, 0, none⟩)) (fa76_0 _ _)) ?_
 clear a E;intro a E
 refine fr_val E rfl (wn rfl) rfl rfl (fun w hW => x_fa E rfl rfl (v := .pointer (some ⟨p4, 6, none⟩)) (fa24_6 _ _)) ?_
 clear a E;intro a E
 refine fr_val E rfl (wn rfl) rfl rfl (fun w hW => x_ld E rfl rfl (ib_ld (.head _) rfl Try.underlying2 rfl w hW)) ?_
 clear a E;intro a E
 refine fr_op rfl ?_
 obtain ⟨u15, hx16, hm⟩ := bnd hm
 refine st_call E (wn rfl) rfl rfl (x_call E rfl rfl (cf30 _)) (c_pack_Writer_Num p7 v14 u12.1 u12.2 x1.Num H hx16) ?_
 clear E H; clear a; clear w; rintro _ w ⟨v17, rfl, H⟩ a E
 refine wpList_nil ?_
 refine q_then ?_
 replace H : Sep w (Blk p7 76 [v17, .bool u15.2] :: Row 5 (kI .u8) v17 u15.1 :: Blk p4 24 [.int .i64 x1.Kind, .int .i64 x1.View, .int .i64 x1.Normal, .int .i64 x1.Len, .int .i64 x1.Stays, (.slice q5 x1.Log.length x6), .int .i64 x1.Num, .string x1.Text] :: Fo) (rSl (kI .i64) v8 ([x1.Kind, x1.View, x1.Normal, x1.Len, x1.Stays] : List Int) :: rs) := H
 refine ⟨⟨_, _, H, (subO_cons (.tail _ (.tail _ (.head _))) (subO_nil)), (sub_nil)⟩, ?_⟩
 refine fr_nil ?_
 clear hI
 refine q_then ?_
 refine wp_seq ?_
 replace H : Sep w (Blk p7 76 [v17, .bool u15.2] :: Row 5 (kI .u8) v17 u15.1 :: Blk p4 24 [.int .i64 x1.Kind, .int .i64 x1.View, .int .i64 x1.Normal, .int .i64 x1.Len, .int .i64 x1.Stays, (.slice q5 x1.Log.length x6), .int .i64 x1.Num, .string x1.Text] :: Fo) (rSl (kI .i64) v8 ([x1.Kind, x1.View, x1.Normal, x1.Len, x1.Stays] : List Int) :: rs) := H
 have hI : Still [Blk p4 24 [.int .i64 x1.Kind, .int .i64 x1.View, .int .i64 x1.Normal, .int .i64 x1.Len, .int .i64 x1.Stays, (.slice q5 x1.Log.length x6), .int .i64 x1.Num, .string x1.Text]] [] { w with drawn := w.drawn + 1 } := ⟨_, _, H.kept (Kp.drawn _ w _), (subO_cons (.tail _ (.tail _ (.head _))) (subO_nil)), (sub_nil)⟩
 refine wp_draw _ [(0, 0), (1, 0), (2, 0), (3, 0), (4, 0), (5, 1)] mixedOk (by kernel_rfl) (fun _ _ _ h => False.elim h.2) hI ?_
 replace H := H.kept (Kp.drawn _ w (w.drawn + 1))
 generalize ({ w with drawn := w.drawn + 1 } : World) = w at H hI ⊢
 replace hI : ∃ W, Still [Blk p4 24 [.int .i64 x1.Kind, .int .i64 x1.View, .int .i64 x1.Normal, .int .i64 x1.Len, .int .i64 x1.Stays, (.slice q5 x1.Log.length x6), .int .i64 x1.Num, .string x1.Text]] [] W := ⟨_, hI⟩
 obtain ⟨W0, hI⟩ := hI
 refine fr_val E rfl (wn rfl) rfl rfl (fun w hW => (x_move E rfl rfl)) ?_
 clear a E;intro a E
 refine fr_val E rfl (wn rfl) rfl rfl (fun w hW => (x_nil E rfl rfl)) ?_
 clear a E;intro a E
 refine fr_val E rfl (wn rfl) rfl rfl (fun w hW => x_fa E rfl rfl (v := .pointer (some ⟨p7, 0, none⟩)) (fa76_0 _ _)) ?_
 clear a E;intro a E
 refine fr_val E rfl (wn rfl) rfl rfl (fun w hW => x_fa E rfl rfl (v := .pointer (some ⟨p4, 7, none⟩)) (fa24_7 _ _)) ?_
 clear a E;intro a E
 refine fr_val E rfl (wn rfl) rfl rfl (fun w hW => x_ld E rfl rfl (ib_ld (.head _) rfl Try.underlying9 rfl w hW)) ?_
 clear a E;intro a E
 refine fr_op rfl ?_
 obtain ⟨u18, hx19, hm⟩ := bnd hm
 refine st_call E (wn rfl) rfl rfl (x_call E rfl rfl (cf31 _)) (c_pack_Writer_Text p7 v17 u15.1 u15.2 x1.Text H hx19) ?_
 clear E H; clear a; clear w; rintro _ w ⟨v20, rfl, H⟩ a E
 refine wpList_nil ?_
 refine q_then ?_
 replace H : Sep w (Blk p7 76 [v20, .bool u18.2] :: Row 5 (kI .u8) v20 u18.1 :: Blk p4 24 [.int .i64 x1.Kind, .int .i64 x1.View, .int .i64 x1.Normal, .int .i64 x1.Len, .int .i64 x1.Stays, (.slice q5 x1.Log.length x6), .int .i64 x1.Num, .string x1.Text] :: Fo) (rSl (kI .i64) v8 ([x1.Kind, x1.View, x1.Normal, x1.Len, x1.Stays] : List Int) :: rs) := H
 refine ⟨⟨_, _, H, (subO_cons (.tail _ (.tail _ (.head _))) (subO_nil)), (sub_nil)⟩, ?_⟩
 refine fr_nil ?_
 clear hI
 refine q_then ?_
 refine wp_seq ?_
 refine wp_region_lit ?_
 refine sv E rfl rfl rfl (x_move E rfl rfl) ?_
 clear a E;intro a E
 refine sv E rfl rfl rfl (x_nil E rfl rfl) ?_
 clear a E;intro a E
 refine sv E rfl rfl rfl (x_fa E rfl rfl (v := .pointer (some ⟨p7, 0, none⟩)) (fa76_0 _ _)) ?_
 clear a E;intro a E
 obtain ⟨u21, hx22, hm⟩ := bnd hm
 refine st_call E (wn rfl) rfl rfl (x_call E rfl rfl (cf32 _)) (c_pack_Writer_Bytes p7 v20 u18.1 u18.2 H hx22) ?_
 clear E H; clear a; clear w; rintro _ w ⟨v23, rfl, H⟩ a E
 refine sv E rfl rfl rfl (x_ext E rfl rfl rfl) ?_
 clear a E;intro a E
 refine sv E rfl rfl rfl (x_ext E rfl rfl rfl) ?_
 clear a E;intro a E
 refine sv E rfl rfl rfl (x_assign E rfl rfl) ?_
 clear a E;intro a E
 refine sv E rfl rfl rfl (x_assign E rfl rfl) ?_
 clear a E;intro a E
 refine wpList_nil ?_
 refine q_then ?_
 refine wp_ret ?_
 refine out2 E rfl rfl rfl ?_
 replace H := H.drop 1
 replace H := H.drop 1
 replace H := H.drop 1
 obtain rfl := Option.some.inj hm
 exact ⟨v23, rfl, H.reads (fun r hr => .tail _ (hr))⟩
end Go.Cb

set_option linter.unusedVariables false
set_option linter.unusedSimpArgs false
namespace Go.Cb
open Go.Proofs Go.RowKit
def m_letter_writer_event (l3 : List Int) (b4 : Bool) (x5 : S_api_Event) : Option ((List Int) × Bool) :=
  (m_letter_writer_nums l3 b4 ([x5.Num, x5.Kind] : List Int)).bind fun u8 => (m_pack_Writer_Text u8.1 u8.2 x5.Path).bind fun u11 => (m_pack_Writer_Num u11.1 u11.2 x5.Watch).bind fun u14 => some (u14.1, u14.2)
set_option maxRecDepth 20000 in
set_option maxHeartbeats 1000000 in
theorem c_letter_writer_event {w : World} {Fo : List Ob} {rs : List Rp} (p1 : Nat) (v2 : Value) (l3 : List Int) (b4 : Bool) (x5 : S_api_Event) (H : Sep w (Blk p1 76 [v2, .bool b4] :: Row 5 (kI .u8) v2 l3 :: Fo) rs) {r : (List Int) × Bool} (hm : m_letter_writer_event l3 b4 x5 = some r) :
    Calls Try.prog 59 [.pointer (some ⟨p1, 0, none⟩), .agg #[.int .i64 x5.Num, .int .i64 x5.Kind, .string x5.Path, .int .i64 x5.Watch]].toArray w (Ret fun v w' => ∃ (v5001 : Value), .tuple #[] = v ∧ Sep w' (Blk p1 76 [v5001, .bool r.2] :: Row 5 (kI .u8) v5001 r.1 :: Fo) (rs)) := by
 unfold m_letter_writer_event at hm
 refine enter Try.func59 rfl Try.ntmps59 rfl fun a E => ?_
 simp only [enum, Nat.reduceAdd] at E
 refine wp_seq ?_
 refine wp_region_lit ?_
 refine st_box E H (wn rfl) rfl rfl (cs := [.int .i64 x5.Num, .int .i64 x5.Kind, .string x5.Path, .int .i64 x5.Watch]) rfl rfl rfl ?_
 clear E H; clear a; clear w; intro p6 w a H E
 refine wpList_nil ?_
 refine q_then ?_
 refine wp_seq ?_
 refine wp_region_lit ?_
 refine sv E rfl rfl rfl (x_move E rfl rfl) ?_
 clear a E;intro a E
 refine sv E rfl rfl rfl (x_fa E rfl rfl (v := .pointer (some ⟨p6, 0, none⟩)) (fa68_0 _ _)) ?_
 clear a E;intro a E
 refine sv E rfl rfl rfl (x_ldB (i := 0) E H rfl rfl rfl rfl Try.underlying2 rfl) ?_
 clear a E;intro a E
 refine sv E rfl rfl rfl (x_fa E rfl rfl (v := .pointer (some ⟨p6, 1, none⟩)) (fa68_1 _ _)) ?_
 clear a E;intro a E
 refine sv E rfl rfl rfl (x_ldB (i := 0) E H rfl rfl rfl rfl Try.underlying3 rfl) ?_
 clear a E;intro a E
 refine st_bsO (e := 2) (d := (kI .i64)) (cs := [.int .i64 x5.Num, .int .i64 x5.Kind]) (xs := [x5.Num, x5.Kind]) E H (wn rfl) rfl rfl (ps := [(0, .tmp 6), (1, .tmp 8)]) (parts := [(0, .int .i64 x5.Num), (1, .int .i64 x5.Kind)]) rfl (by simp only [List.map]; rw [E.eval (x := .tmp 6) (v := .int .i64 x5.Num) rfl, E.eval (x := .tmp 8) (v := .int .i64 x5.Kind) rfl]) (by kernel_rfl) rfl rfl (fun ok hr => (Rows.append (Rows.single (d := (kI .i64)) (cs := [.int .i64 x5.Num]) (x := x5.Num) rfl) (Rows.single (d := (kI .i64)) (cs := [.int .i64 x5.Kind]) (x := x5.Kind) rfl))) ?_
 clear E H; clear a; clear w; intro v7 w a H E
 replace H := H.thaw (i := 0) rfl
 replace H := H.front 0 rfl
 replace H := H.front 2 rfl
 replace H := H.front 2 rfl
 replace H : Sep w (Blk p1 76 [v2, .bool b4] :: Row 5 (kI .u8) v2 l3 :: Blk p6 68 [.int .i64 x5.Num, .int .i64 x5.Kind, .string x5.Path, .int .i64 x5.Watch] :: Fo) (rSl (kI .i64) v7 ([x5.Num, x5.Kind] : List Int) :: rs) := H
 obtain ⟨u8, hx9, hm⟩ := bnd hm
 refine st_call E (wn rfl) rfl rfl (x_call E rfl rfl (cf28 _)) (c_letter_writer_nums p1 v2 l3 b4 v7 ([x5.Num, x5.Kind] : List Int) H (.head _) hx9) ?_
 clear E H; clear a; clear w; rintro _ w ⟨v10, rfl, H⟩ a E
 refine wpList_nil ?_
 refine q_then ?_
 refine wp_seq ?_
 replace H : Sep w (Blk p1 76 [v10, .bool u8.2] :: Row 5 (kI .u8) v10 u8.1 :: Blk p6 68 [.int .i64 x5.Num, .int .i64 x5.Kind, .string x5.Path, .int .i64 x5.Watch] :: Fo) (rSl (kI .i64) v7 ([x5.Num, x5.Kind] : List Int) :: rs) := H
 have hI : Still [Blk p6 68 [.int .i64 x5.Num, .int .i64 x5.Kind, .string x5.Path, .int .i64 x5.Watch]] [] { w with drawn := w.drawn + 1 } := ⟨_, _, H.kept (Kp.drawn _ w _), (subO_cons (.tail _ (.tail _ (.head _))) (subO_nil)), (sub_nil)⟩
 refine wp_draw _ [(0, 0), (1, 0), (2, 0), (3, 0), (4, 0), (5, 1)] mixedOk (by kernel_rfl) (fun _ _ _ h => False.elim h.2) hI ?_
 replace H := H.kept (Kp.drawn _ w (w.drawn + 1))
 generalize ({ w with drawn := w.drawn + 1 } : World) = w at H hI ⊢
 replace hI : ∃ W, Still [Blk p6 68 [.int .i64 x5.Num, .int .i64 x5.Kind, .string x5.Path, .int .i64 x5.Watch]] [] W := ⟨_, hI⟩
 obtain ⟨W0, hI⟩ := hI
 refine fr_val E rfl (wn rfl) rfl rfl (fun w hW => (x_move E rfl rfl)) ?_
 clear a E;intro a E
 refine fr_val E rfl (wn rfl) rfl rfl (fun w hW => (x_nil E rfl rfl)) ?_
 clear a E;intro a E
 refine fr_val E rfl (wn rfl) rfl rfl (fun w hW => x_fa E rfl rfl (v := .pointer (some ⟨p1, 0, none⟩)) (fa76_0 _ _)) ?_
 clear a E;intro a E
 refine fr_val E rfl (wn rfl) rfl rfl (fun w hW => x_fa E rfl rfl (v := .pointer (some ⟨p6, 2, none⟩)) (fa68_2 _ _)) ?_
 clear a E;intro a E
 refine fr_val E rfl (wn rfl) rfl rfl (fun w hW => x_ld E rfl rfl (ib_ld (.head _) rfl Try.underlying9 rfl w hW)) ?_
 clear a E;intro a E
 refine fr_op rfl ?_
 obtain ⟨u11, hx12, hm⟩ := bnd hm
 refine st_call E (wn rfl) rfl rfl (x_call E rfl rfl (cf31 _)) (c_pack_Writer_Text p1 v10 u8.1 u8.2 x5.Path H hx12) ?_
 clear E H; clear a; clear w; rintro _ w ⟨v13, rfl, H⟩ a E
 refine wpList_nil ?_
 refine q_then ?_
 replace H : Sep w (Blk p1 76 [v13, .bool u11.2] :: Row 5 (kI .u8) v13 u11.1 :: Blk p6 68 [.int .i64 x5.Num, .int .i64 x5.Kind, .string x5.Path, .int .i64 x5.Watch] :: Fo) (rSl (kI .i64) v7 ([x5.Num, x5.Kind] : List Int) :: rs) := H
 refine ⟨⟨_, _, H, (subO_cons (.tail _ (.tail _ (.head _))) (subO_nil)), (sub_nil)⟩, ?_⟩
 refine fr_nil ?_
 clear hI
 refine q_then ?_
 replace H : Sep w (Blk p1 76 [v13, .bool u11.2] :: Row 5 (kI .u8) v13 u11.1 :: Blk p6 68 [.int .i64 x5.Num, .int .i64 x5.Kind, .string x5.Path, .int .i64 x5.Watch] :: Fo) (rSl (kI .i64) v7 ([x5.Num, x5.Kind] : List Int) :: rs) := H
 have hI : Still [Blk p6 68 [.int .i64 x5.Num, .int .i64 x5.Kind, .string x5.Path, .int .i64 x5.Watch]] [] { w with drawn := w.drawn + 1 } := ⟨_, _, H.kept (Kp.drawn _ w _), (subO_cons (.tail _ (.tail _ (.head _))) (subO_nil)), (sub_nil)⟩
 refine wp_draw _ [(0, 0), (1, 0), (2, 0), (3, 0), (4, 0), (5, 1)] mixedOk (by kernel_rfl) (fun _ _ _ h => False.elim h.2) hI ?_
 replace H := H.kept (Kp.drawn _ w (w.drawn + 1))
 generalize ({ w with drawn := w.drawn + 1 } : World) = w at H hI ⊢
 replace hI : ∃ W, Still [Blk p6 68 [.int .i64 x5.Num, .int .i64 x5.Kind, .string x5.Path, .int .i64 x5.Watch]] [] W := ⟨_, hI⟩
 obtain ⟨W0, hI⟩ := hI
 refine fr_val E rfl (wn rfl) rfl rfl (fun w hW => (x_move E rfl rfl)) ?_
 clear a E;intro a E
 refine fr_val E rfl (wn rfl) rfl rfl (fun w hW => (x_nil E rfl rfl)) ?_
 clear a E;intro a E
 refine fr_val E rfl (wn rfl) rfl rfl (fun w hW => x_fa E rfl rfl (v := .pointer (some ⟨p1, 0, none⟩)) (fa76_0 _ _)) ?_
 clear a E;intro a E
 refine fr_val E rfl (wn rfl) rfl rfl (fun w hW => x_fa E rfl rfl (v := .pointer (some ⟨p6, 3, none⟩)) (fa68_3 _ _)) ?_
 clear a E;intro a E
 refine fr_val E rfl (wn rfl) rfl rfl (fun w hW => x_ld E rfl rfl (ib_ld (.head _) rfl Try.underlying2 rfl w hW)) ?_
 clear a E;intro a E
 refine fr_op rfl ?_
 obtain ⟨u14, hx15, hm⟩ := bnd hm
 refine st_call E (wn rfl) rfl rfl (x_call E rfl rfl (cf30 _)) (c_pack_Writer_Num p1 v13 u11.1 u11.2 x5.Watch H hx15) ?_
 clear E H; clear a; clear w; rintro _ w ⟨v16, rfl, H⟩ a E
 refine wpList_nil ?_
 refine q_then ?_
 replace H : Sep w (Blk p1 76 [v16, .bool u14.2] :: Row 5 (kI .u8) v16 u14.1 :: Blk p6 68 [.int .i64 x5.Num, .int .i64 x5.Kind, .string x5.Path, .int .i64 x5.Watch] :: Fo) (rSl (kI .i64) v7 ([x5.Num, x5.Kind] : List Int) :: rs) := H
 refine ⟨⟨_, _, H, (subO_cons (.tail _ (.tail _ (.head _))) (subO_nil)), (sub_nil)⟩, ?_⟩
 refine fr_nil ?_
 clear hI
 refine out0 E rfl ?_
 replace H := H.drop 2
 obtain rfl := Option.some.inj hm
 exact ⟨v16, rfl, H.reads (fun r hr => .tail _ (hr))⟩
end Go.Cb

set_option linter.unusedVariables false
set_option linter.unusedSimpArgs false
namespace Go.Cb
open Go.Proofs Go.RowKit
def m_letter_row_api_Event_l1 (l6 : List S_api_Event) : Nat → Int → (List Int) → Bool → Option ((List Int) × Bool)
  | 0, _, _, _ => none
  | k1 + 1, x11, l13, b14 =>
    if (decide (x11 < (l6.length : Int))) = true then ((idx l6 x11).bind fun x18 => (m_letter_writer_event l13 b14 (⟨x18.Num, x18.Kind, x18.Path, x18.Watch⟩ : S_api_Event)).bind fun u23 => m_letter_row_api_Event_l1 l6 k1 (IntKind.i64.wrap (x11 + 1)) u23.1 u23.2) else (some (l13, b14))
def m_letter_row_api_Event (l3 : List Int) (b4 : Bool) (l6 : List S_api_Event) : Option ((List Int) × Bool) :=
  (m_pack_Writer_Num l3 b4 (l6.length : Int)).bind fun u8 => m_letter_row_api_Event_l1 l6 (((l6.length : Int) - 0 : Int).toNat + 1) 0 u8.1 u8.2
set_option maxRecDepth 20000 in
set_option maxHeartbeats 1000000 in
theorem c_letter_row_api_Event {w : World} {Fo : List Ob} {rs : List Rp} (p1 : Nat) (v2 : Value) (l3 : List Int) (b4 : Bool) (v5 : Value) (l6 : List S_api_Event) (H : Sep w (Blk p1 76 [v2, .bool b4] :: Row 5 (kI .u8) v2 l3 :: Fo) rs) (hr7 : rSl k_api_Event v5 l6 ∈ rs) {r : (List Int) × Bool} (hm : m_letter_row_api_Event l3 b4 l6 = some r) :
    Calls Try.prog 58 [.pointer (some ⟨p1, 0, none⟩), v5, .func (.func 59) #[.pointer (some ⟨p1, 0, none⟩)] #[]].toArray w (Ret fun v w' => ∃ (v5001 : Value), .tuple #[] = v ∧ Sep w' (Blk p1 76 [v5001, .bool r.2] :: Row 5 (kI .u8) v5001 r.1 :: Fo) (rs)) := by
 unfold m_letter_row_api_Event at hm
 refine enter Try.func58 rfl Try.ntmps58 rfl fun a E => ?_
 simp only [enum, Nat.reduceAdd] at E
 refine wp_seq ?_
 refine wp_region_lit ?_
 refine sv E rfl rfl rfl (x_move E rfl rfl) ?_
 clear a E;intro a E
 refine sv E rfl rfl rfl (x_nil E rfl rfl) ?_
 clear a E;intro a E
 refine sv E rfl rfl rfl (x_fa E rfl rfl (v := .pointer (some ⟨p1, 0, none⟩)) (fa76_0 _ _)) ?_
 clear a E;intro a E
 refine sv E rfl rfl rfl (x_move E rfl rfl) ?_
 clear a E;intro a E
 refine sv E rfl rfl rfl (x_lenS E H rfl rfl hr7 Try.underlying46) ?_
 clear a E;intro a E
 obtain ⟨u8, hx9, hm⟩ := bnd hm
 refine st_call E (wn rfl) rfl rfl (x_call E rfl rfl (cf30 _)) (c_pack_Writer_Num p1 v2 l3 b4 (l6.length : Int) H hx9) ?_
 clear E H; clear a; clear w; rintro _ w ⟨v10, rfl, H⟩ a E
 refine wpList_nil ?_
 refine q_then ?_
 refine wp_seq ?_
 refine wp_region_lit ?_
 refine sv E rfl rfl rfl (x_move E rfl rfl) ?_
 clear a E;intro a E
 refine sv E rfl rfl rfl (x_lenS E H rfl rfl hr7 Try.underlying46) ?_
 clear a E;intro a E
 refine sv E rfl rfl rfl (x_move E rfl rfl) ?_
 clear a E;intro a E
 refine wpList_nil ?_
 refine q_then ?_
 refine wp_block ?_
 refine wp_loop_g (fun k1 a w => ∃ (v12 : Value) (x11 : Int) (l13 : (List Int)) (b14 : Bool) (rs15 : List Rp), Env 24 a [(2, .func (.func 59) #[.pointer (some ⟨p1, 0, none⟩)] #[]), (14, v5), (15, .int .i64 (l6.length : Int)), (16, .int .i64 x11)] ∧ Sep w (Blk p1 76 [v12, .bool b14] :: Row 5 (kI .u8) v12 l13 :: Fo) rs15 ∧ (∀ r, r ∈ rs → r ∈ rs15) ∧ rSl k_api_Event v5 l6 ∈ rs15 ∧ m_letter_row_api_Event_l1 l6 k1 x11 l13 b14 = some r) (((l6.length : Int) - 0 : Int).toNat + 1) ?_ ?_
 ·exact ⟨v10, 0, u8.1, u8.2, _, ((((E.nil.keep E 16 rfl).keep E 15 rfl).keep E 14 rfl).keep E 2 rfl), H, fun r hr => hr, hr7, hm⟩
 ·clear E H hm
  rintro k1 a w ⟨v12, x11, l13, b14, rs15, E, H, hs16, hr17, hm⟩
  cases k1 with
  | zero => exact (none_some hm rfl).elim
  | succ k1 =>
   unfold m_letter_row_api_Event_l1 at hm
   refine wp_seq ?_
   refine wp_region_lit ?_
   refine sv E rfl rfl rfl (x_bin E rfl rfl rfl rfl) ?_
   clear a E;intro a E
   refine wpList_nil ?_
   refine q_then ?_
   refine wp_seq ?_
   refine wp_if E rfl ?_ ?_
   ·intro hb
    rw [if_t hb] at hm
    clear hb
    refine wp_skip ?_
    refine q_then ?_
    refine wp_seq ?_
    refine wp_block ?_
    refine wp_seq ?_
    refine wp_region_lit ?_
    obtain ⟨x18, hx19, hm⟩ := bnd hm
    refine st_ixS E H (wn rfl) rfl rfl rfl rfl rfl hr17 Try.underlying46 sz68 hx19 ?_
    clear E H; clear a; intro q20 a H E
    refine st_ldN E H (wn rfl) rfl rfl rfl rfl (.head _) Try.underlying68 rfl sz68 ?_
    clear E H; clear a; intro u21 a H E
    obtain ⟨_, hcs⟩ := H.rd (.head _)
    obtain rfl := k_api_Event_open hcs
    clear hcs
    refine st_alloc E H (wn rfl) rfl rfl (cs := [.int .i64 0, .int .i64 0, .string (ByteArray.mk #[]), .int .i64 0]) rfl (z := .agg #[.int .i64 0, .int .i64 0, .string ⟨#[]⟩, .int .i64 0]) (by kernel_rfl) rfl ?_
    clear E H; clear a; clear w; intro p22 w a H E
    refine st_st (i := 0) E H (wn rfl) rfl (us := [.int .i64 x18.Num, .int .i64 x18.Kind, .string x18.Path, .int .i64 x18.Watch]) rfl rfl rfl rfl rfl sz68 rfl rfl ?_
    clear H; clear w; intro w H
    replace H : Sep w (Blk p22 68 [.int .i64 x18.Num, .int .i64 x18.Kind, .string x18.Path, .int .i64 x18.Watch] :: Blk p1 76 [v12, .bool b14] :: Row 5 (kI .u8) v12 l13 :: Fo) _ := H
    refine wpList_nil ?_
    refine q_then ?_
    refine wp_region_lit ?_
    refine sv E rfl rfl rfl (x_move E rfl rfl) ?_
    clear a E;intro a E
    refine sv E rfl rfl rfl (x_ldBN (i := 0) (us := [.int .i64 x18.Num, .int .i64 x18.Kind, .string x18.Path, .int .i64 x18.Watch]) E H rfl rfl rfl rfl Try.underlying68 rfl sz68) ?_
    clear a E;intro a E
    replace H := H.front 0 rfl
    replace H := H.front 2 rfl
    replace H := H.front 2 rfl
    replace H : Sep w (Blk p1 76 [v12, .bool b14] :: Row 5 (kI .u8) v12 l13 :: Blk p22 68 [.int .i64 x18.Num, .int .i64 x18.Kind, .string x18.Path, .int .i64 x18.Watch] :: Fo) (rCs k_api_Event [.int .i64 x18.Num, .int .i64 x18.Kind, .string x18.Path, .int .i64 x18.Watch] x18 :: rAt k_api_Event q20 x18 :: rs15) := H
    obtain ⟨u23, hx24, hm⟩ := bnd hm
    refine st_call E (wn rfl) rfl rfl (x_callv E rfl rfl rfl (cf59 _)) (c_letter_writer_event p1 v12 l13 b14 (⟨x18.Num, x18.Kind, x18.Path, x18.Watch⟩ : S_api_Event) H hx24) ?_
    clear E H; clear a; clear w; rintro _ w ⟨v25, rfl, H⟩ a E
    refine wpList_nil ?_
    refine q_blk ?_
    refine q_then ?_
    refine wp_region_lit ?_
    refine sv E rfl rfl rfl (x_bin E rfl rfl rfl rfl) ?_
    clear a E;intro a E
    refine sv E rfl rfl rfl (x_move E rfl rfl) ?_
    clear a E;intro a E
    refine wpList_nil ?_
    refine q_then ?_
    replace H := H.drop 2
    exact ⟨k1, Nat.lt_succ_self k1, v25, IntKind.i64.wrap (x11 + 1), u23.1, u23.2, _, ((((E.nil.keep E 16 rfl).keep E 15 rfl).keep E 14 rfl).keep E 2 rfl), H, fun r hr => .tail _ (.tail _ (hs16 r hr)), (.tail _ (.tail _ hr17)), hm⟩
   ·intro hb
    rw [if_f hb] at hm
    clear hb
    refine wp_exit ?_
    refine q_thenX ?_
    refine q_thenX ?_
    refine q_hit ?_
    refine out0 E rfl ?_
    obtain rfl := Option.some.inj hm
    exact ⟨v12, rfl, H.reads (fun r hr => hs16 r hr)⟩
end Go.Cb

set_option linter.unusedVariables false
set_option linter.unusedSimpArgs false
namespace Go.Cb
open Go.Proofs Go.RowKit
def m_letter_writer_mount (l3 : List Int) (b4 : Bool) (x5 : S_api_Mount) : Option ((List Int) × Bool) :=
  (m_pack_Writer_Text l3 b4 x5.Prefix).bind fun u7 => (m_letter_writer_nums u7.1 u7.2 ([x5.Group, x5.Epoch, x5.To] : List Int)).bind fun u11 => some (u11.1, u11.2)
set_option maxRecDepth 20000 in
set_option maxHeartbeats 1000000 in
theorem c_letter_writer_mount {w : World} {Fo : List Ob} {rs : List Rp} (p1 : Nat) (v2 : Value) (l3 : List Int) (b4 : Bool) (x5 : S_api_Mount) (H : Sep w (Blk p1 76 [v2, .bool b4] :: Row 5 (kI .u8) v2 l3 :: Fo) rs) {r : (List Int) × Bool} (hm : m_letter_writer_mount l3 b4 x5 = some r) :
    Calls Try.prog 61 [.pointer (some ⟨p1, 0, none⟩), .agg #[.string x5.Prefix, .int .i64 x5.Group, .int .i64 x5.Epoch, .int .i64 x5.To]].toArray w (Ret fun v w' => ∃ (v5001 : Value), .tuple #[] = v ∧ Sep w' (Blk p1 76 [v5001, .bool r.2] :: Row 5 (kI .u8) v5001 r.1 :: Fo) (rs)) := by
 unfold m_letter_writer_mount at hm
 refine enter Try.func61 rfl Try.ntmps61 rfl fun a E => ?_
 simp only [enum, Nat.reduceAdd] at E
 refine wp_seq ?_
 refine wp_region_lit ?_
 refine st_box E H (wn rfl) rfl rfl (cs := [.string x5.Prefix, .int .i64 x5.Group, .int .i64 x5.Epoch, .int .i64 x5.To]) rfl rfl rfl ?_
 clear E H; clear a; clear w; intro p6 w a H E
 refine wpList_nil ?_
 refine q_then ?_
 refine wp_seq ?_
 replace H : Sep w (Blk p6 70 [.string x5.Prefix, .int .i64 x5.Group, .int .i64 x5.Epoch, .int .i64 x5.To] :: Blk p1 76 [v2, .bool b4] :: Row 5 (kI .u8) v2 l3 :: Fo) (rs) := H
 have hI : Still [Blk p6 70 [.string x5.Prefix, .int .i64 x5.Group, .int .i64 x5.Epoch, .int .i64 x5.To]] [] { w with drawn := w.drawn + 1 } := ⟨_, _, H.kept (Kp.drawn _ w _), (subO_cons (.head _) (subO_nil)), (sub_nil)⟩
 refine wp_draw _ [(0, 0), (1, 0), (2, 0), (3, 0), (4, 0), (5, 1)] mixedOk (by kernel_rfl) (fun _ _ _ h => False.elim h.2) hI ?_
 replace H := H.kept (Kp.drawn _ w (w.drawn + 1))
 generalize ({ w with drawn := w.drawn + 1 } : World) = w at H hI ⊢
 replace hI : ∃ W, Still [Blk p6 70 [.string x5.Prefix, .int .i64 x5.Group, .int .i64 x5.Epoch, .int .i64 x5.To]] [] W := ⟨_, hI⟩
 obtain ⟨W0, hI⟩ := hI
 refine fr_val E rfl (wn rfl) rfl rfl (fun w hW => (x_move E rfl rfl)) ?_
 clear a E;intro a E
 refine fr_val E rfl (wn rfl) rfl rfl (fun w hW => (x_nil E rfl rfl)) ?_
 clear a E;intro a E
 refine fr_val E rfl (wn rfl) rfl rfl (fun w hW => x_fa E rfl rfl (v := .pointer (some ⟨p1, 0, none⟩)) (fa76_0 _ _)) ?_
 clear a E;intro a E
 refine fr_val E rfl (wn rfl) rfl rfl (fun w hW => x_fa E rfl rfl (v := .pointer (some ⟨p6, 0, none⟩)) (fa70_0 _ _)) ?_
 clear a E;intro a E
 refine fr_val E rfl (wn rfl) rfl rfl (fun w hW => x_ld E rfl rfl (ib_ld (.head _) rfl Try.underlying9 rfl w hW)) ?_
 clear a E;intro a E
 refine fr_op rfl ?_
 replace H := H.front 0 rfl
 replace H := H.front 2 rfl
 replace H := H.front 2 rfl
 replace H : Sep w (Blk p1 76 [v2, .bool b4] :: Row 5 (kI .u8) v2 l3 :: Blk p6 70 [.string x5.Prefix, .int .i64 x5.Group, .int .i64 x5.Epoch, .int .i64 x5.To] :: Fo) (rs) := H
 obtain ⟨u7, hx8, hm⟩ := bnd hm
 refine st_call E (wn rfl) rfl rfl (x_call E rfl rfl (cf31 _)) (c_pack_Writer_Text p1 v2 l3 b4 x5.Prefix H hx8) ?_
 clear E H; clear a; clear w; rintro _ w ⟨v9, rfl, H⟩ a E
 refine wpList_nil ?_
 refine q_then ?_
 replace H : Sep w (Blk p1 76 [v9, .bool u7.2] :: Row 5 (kI .u8) v9 u7.1 :: Blk p6 70 [.string x5.Prefix, .int .i64 x5.Group, .int .i64 x5.Epoch, .int .i64 x5.To] :: Fo) (rs) := H
 refine ⟨⟨_, _, H, (subO_cons (.tail _ (.tail _ (.head _))) (subO_nil)), (sub_nil)⟩, ?_⟩
 refine fr_nil ?_
 clear hI
 refine q_then ?_
 refine wp_region_lit ?_
 refine sv E rfl rfl rfl (x_move E rfl rfl) ?_
 clear a E;intro a E
 refine sv E rfl rfl rfl (x_fa E rfl rfl (v := .pointer (some ⟨p6, 1, none⟩)) (fa70_1 _ _)) ?_
 clear a E;intro a E
 refine sv E rfl rfl rfl (x_ldB (i := 2) E H rfl rfl rfl rfl Try.underlying3 rfl) ?_
 clear a E;intro a E
 refine sv E rfl rfl rfl (x_fa E rfl rfl (v := .pointer (some ⟨p6, 2, none⟩)) (fa70_2 _ _)) ?_
 clear a E;intro a E
 refine sv E rfl rfl rfl (x_ldB (i := 2) E H rfl rfl rfl rfl Try.underlying2 rfl) ?_
 clear a E;intro a E
 refine sv E rfl rfl rfl (x_fa E rfl rfl (v := .pointer (some ⟨p6, 3, none⟩)) (fa70_3 _ _)) ?_
 clear a E;intro a E
 refine sv E rfl rfl rfl (x_ldB (i := 2) E H rfl rfl rfl rfl Try.underlying3 rfl) ?_
 clear a E;intro a E
 refine st_bsO (e := 2) (d := (kI .i64)) (cs := [.int .i64 x5.Group, .int .i64 x5.Epoch, .int .i64 x5.To]) (xs := [x5.Group, x5.Epoch, x5.To]) E H (wn rfl) rfl rfl (ps := [(0, .tmp 12), (1, .tmp 14), (2, .tmp 16)]) (parts := [(0, .int .i64 x5.Group), (1, .int .i64 x5.Epoch), (2, .int .i64 x5.To)]) rfl (by simp only [List.map]; rw [E.eval (x := .tmp 12) (v := .int .i64 x5.Group) rfl, E.eval (x := .tmp 14) (v := .int .i64 x5.Epoch) rfl, E.eval (x := .tmp 16) (v := .int .i64 x5.To) rfl]) (by kernel_rfl) rfl rfl (fun ok hr => (Rows.append (Rows.append (Rows.single (d := (kI .i64)) (cs := [.int .i64 x5.Group]) (x := x5.Group) rfl) (Rows.single (d := (kI .i64)) (cs := [.int .i64 x5.Epoch]) (x := x5.Epoch) rfl)) (Rows.single (d := (kI .i64)) (cs := [.int .i64 x5.To]) (x := x5.To) rfl))) ?_
 clear E H; clear a; clear w; intro v10 w a H E
 replace H := H.thaw (i := 0) rfl
 replace H : Sep w (Blk p1 76 [v9, .bool u7.2] :: Row 5 (kI .u8) v9 u7.1 :: Blk p6 70 [.string x5.Prefix, .int .i64 x5.Group, .int .i64 x5.Epoch, .int .i64 x5.To] :: Fo) (rSl (kI .i64) v10 ([x5.Group, x5.Epoch, x5.To] : List Int) :: rs) := H
 obtain ⟨u11, hx12, hm⟩ := bnd hm
 refine st_call E (wn rfl) rfl rfl (x_call E rfl rfl (cf28 _)) (c_letter_writer_nums p1 v9 u7.1 u7.2 v10 ([x5.Group, x5.Epoch, x5.To] : List Int) H (.head _) hx12) ?_
 clear E H; clear a; clear w; rintro _ w ⟨v13, rfl, H⟩ a E
 refine wpList_nil ?_
 refine out0 E rfl ?_
 replace H := H.drop 2
 obtain rfl := Option.some.inj hm
 exact ⟨v13, rfl, H.reads (fun r hr => .tail _ (hr))⟩
end Go.Cb

set_option linter.unusedVariables false
set_option linter.unusedSimpArgs false
namespace Go.Cb
open Go.Proofs Go.RowKit
def m_letter_row_api_Mount_l1 (l6 : List S_api_Mount) : Nat → Int → (List Int) → Bool → Option ((List Int) × Bool)
  | 0, _, _, _ => none
  | k1 + 1, x11, l13, b14 =>
    if (decide (x11 < (l6.length : Int))) = true then ((idx l6 x11).bind fun x18 => (m_letter_writer_mount l13 b14 (⟨x18.Prefix, x18.Group, x18.Epoch, x18.To⟩ : S_api_Mount)).bind fun u23 => m_letter_row_api_Mount_l1 l6 k1 (IntKind.i64.wrap (x11 + 1)) u23.1 u23.2) else (some (l13, b14))
def m_letter_row_api_Mount (l3 : List Int) (b4 : Bool) (l6 : List S_api_Mount) : Option ((List Int) × Bool) :=
  (m_pack_Writer_Num l3 b4 (l6.length : Int)).bind fun u8 => m_letter_row_api_Mount_l1 l6 (((l6.length : Int) - 0 : Int).toNat + 1) 0 u8.1 u8.2
set_option maxRecDepth 20000 in
set_option maxHeartbeats 1000000 in
theorem c_letter_row_api_Mount {w : World} {Fo : List Ob} {rs : List Rp} (p1 : Nat) (v2 : Value) (l3 : List Int) (b4 : Bool) (v5 : Value) (l6 : List S_api_Mount) (H : Sep w (Blk p1 76 [v2, .bool b4] :: Row 5 (kI .u8) v2 l3 :: Fo) rs) (hr7 : rSl k_api_Mount v5 l6 ∈ rs) {r : (List Int) × Bool} (hm : m_letter_row_api_Mount l3 b4 l6 = some r) :
    Calls Try.prog 60 [.pointer (some ⟨p1, 0, none⟩), v5, .func (.func 61) #[.pointer (some ⟨p1, 0, none⟩)] #[]].toArray w (Ret fun v w' => ∃ (v5001 : Value), .tuple #[] = v ∧ Sep w' (Blk p1 76 [v5001, .bool r.2] :: Row 5 (kI .u8) v5001 r.1 :: Fo) (rs)) := by
 unfold m_letter_row_api_Mount at hm
 refine enter Try.func60 rfl Try.ntmps60 rfl fun a E => ?_
 simp only [enum, Nat.reduceAdd] at E
 refine wp_seq ?_
 refine wp_region_lit ?_
 refine sv E rfl rfl rfl (x_move E rfl rfl) ?_
 clear a E;intro a E
 refine sv E rfl rfl rfl (x_nil E rfl rfl) ?_
 clear a E;intro a E
 refine sv E rfl rfl rfl (x_fa E rfl rfl (v := .pointer (some ⟨p1, 0, none⟩)) (fa76_0 _ _)) ?_
 clear a E;intro a E
 refine sv E rfl rfl rfl (x_move E rfl rfl) ?_
 clear a E;intro a E
 refine sv E rfl rfl rfl (x_lenS E H rfl rfl hr7 Try.underlying47) ?_
 clear a E;intro a E
 obtain ⟨u8, hx9, hm⟩ := bnd hm
 refine st_call E (wn rfl) rfl rfl (x_call E rfl rfl (cf30 _)) (c_pack_Writer_Num p1 v2 l3 b4 (l6.length : Int) H hx9) ?_
 clear E H; clear a; clear w; rintro _ w ⟨v10, rfl, H⟩ a E
 refine wpList_nil ?_
 refine q_then ?_
 refine wp_seq ?_
 refine wp_region_lit ?_
 refine sv E rfl rfl rfl (x_move E rfl rfl) ?_
 clear a E;intro a E
 refine sv E rfl rfl rfl (x_lenS E H rfl rfl hr7 Try.underlying47) ?_
 clear a E;intro a E
 refine sv E rfl rfl rfl (x_move E rfl rfl) ?_
 clear a E;intro a E
 refine wpList_nil ?_
 refine q_then ?_
 refine wp_block ?_
 refine wp_loop_g (fun k1 a w => ∃ (v12 : Value) (x11 : Int) (l13 : (List Int)) (b14 : Bool) (rs15 : List Rp), Env 24 a [(2, .func (.func 61) #[.pointer (some ⟨p1, 0, none⟩)] #[]), (14, v5), (15, .int .i64 (l6.length : Int)), (16, .int .i64 x11)] ∧ Sep w (Blk p1 76 [v12, .bool b14] :: Row 5 (kI .u8) v12 l13 :: Fo) rs15 ∧ (∀ r, r ∈ rs → r ∈ rs15) ∧ rSl k_api_Mount v5 l6 ∈ rs15 ∧ m_letter_row_api_Mount_l1 l6 k1 x11 l13 b14 = some r) (((l6.length : Int) - 0 : Int).toNat + 1) ?_ ?_
 ·exact ⟨v10, 0, u8.1, u8.2, _, ((((E.nil.keep E 16 rfl).keep E 15 rfl).keep E 14 rfl).keep E 2 rfl), H, fun r hr => hr, hr7, hm⟩
 ·clear E H hm
  rintro k1 a w ⟨v12, x11, l13, b14, rs15, E, H, hs16, hr17, hm⟩
  cases k1 with
  | zero => exact (none_some hm rfl).elim
  | succ k1 =>
   unfold m_letter_row_api_Mount_l1 at hm
   refine wp_seq ?_
   refine wp_region_lit ?_
   refine sv E rfl rfl rfl (x_bin E rfl rfl rfl rfl) ?_
   clear a E;intro a E
   refine wpList_nil ?_
   refine q_then ?_
   refine wp_seq ?_
   refine wp_if E rfl ?_ ?_
   ·intro hb
    rw [if_t hb] at hm
    clear hb
    refine wp_skip ?_
    refine q_then ?_
    refine wp_seq ?_
    refine wp_block ?_
    refine wp_seq ?_
    refine wp_region_lit ?_
    obtain ⟨x18, hx19, hm⟩ := bnd hm
    refine st_ixS E H (wn rfl) rfl rfl rfl rfl rfl hr17 Try.underlying47 sz70 hx19 ?_
    clear E H; clear a; intro q20 a H E
    refine st_ldN E H (wn rfl) rfl rfl rfl rfl (.head _) Try.underlying70 rfl sz70 ?_
    clear E H; clear a; intro u21 a H E
    obtain ⟨_, hcs⟩ := H.rd (.head _)
    obtain rfl := k_api_Mount_open hcs
    clear hcs
    refine st_alloc E H (wn rfl) rfl rfl (cs := [.string (ByteArray.mk #[]), .int .i64 0, .int .i64 0, .int .i64 0]) rfl (z := .agg #[.string ⟨#[]⟩, .int .i64 0, .int .i64 0, .int .i64 0]) (by kernel_rfl) rfl ?_
    clear E H; clear a; clear w; intro p22 w a H E
    refine st_st (i := 0) E H (wn rfl) rfl (us := [.string x18.Prefix, .int .i64 x18.Group, .int .i64 x18.Epoch, .int .i64 x18.To]) rfl rfl rfl rfl rfl sz70 rfl rfl ?_
    clear H; clear w; intro w H
    replace H : Sep w (Blk p22 70 [.string x18.Prefix, .int .i64 x18.Group, .int .i64 x18.Epoch, .int .i64 x18.To] :: Blk p1 76 [v12, .bool b14] :: Row 5 (kI .u8) v12 l13 :: Fo) _ := H
    refine wpList_nil ?_
    refine q_then ?_
    refine wp_region_lit ?_
    refine sv E rfl rfl rfl (x_move E rfl rfl) ?_
    clear a E;intro a E
    refine sv E rfl rfl rfl (x_ldBN (i := 0) (us := [.string x18.Prefix, .int .i64 x18.Group, .int .i64 x18.Epoch, .int .i64 x18.To]) E H rfl rfl rfl rfl Try.underlying70 rfl sz70) ?_
    clear a E;intro a E
    replace H := H.front 0 rfl
    replace H := H.front 2 rfl
    replace H := H.front 2 rfl
    replace H : Sep w (Blk p1 76 [v12, .bool b14] :: Row 5 (kI .u8) v12 l13 :: Blk p22 70 [.string x18.Prefix, .int .i64 x18.Group, .int .i64 x18.Epoch, .int .i64 x18.To] :: Fo) (rCs k_api_Mount [.string x18.Prefix, .int .i64 x18.Group, .int .i64 x18.Epoch, .int .i64 x18.To] x18 :: rAt k_api_Mount q20 x18 :: rs15) := H
    obtain ⟨u23, hx24, hm⟩ := bnd hm
    refine st_call E (wn rfl) rfl rfl (x_callv E rfl rfl rfl (cf61 _)) (c_letter_writer_mount p1 v12 l13 b14 (⟨x18.Prefix, x18.Group, x18.Epoch, x18.To⟩ : S_api_Mount) H hx24) ?_
    clear E H; clear a; clear w; rintro _ w ⟨v25, rfl, H⟩ a E
    refine wpList_nil ?_
    refine q_blk ?_
    refine q_then ?_
    refine wp_region_lit ?_
    refine sv E rfl rfl rfl (x_bin E rfl rfl rfl rfl) ?_
    clear a E;intro a E
    refine sv E rfl rfl rfl (x_move E rfl rfl) ?_
    clear a E;intro a E
    refine wpList_nil ?_
    refine q_then ?_
    replace H := H.drop 2
    exact ⟨k1, Nat.lt_succ_self k1, v25, IntKind.i64.wrap (x11 + 1), u23.1, u23.2, _, ((((E.nil.keep E 16 rfl).keep E 15 rfl).keep E 14 rfl).keep E 2 rfl), H, fun r hr => .tail _ (.tail _ (hs16 r hr)), (.tail _ (.tail _ hr17)), hm⟩
   ·intro hb
    rw [if_f hb] at hm
    clear hb
    refine wp_exit ?_
    refine q_thenX ?_
    refine q_thenX ?_
    refine q_hit ?_
    refine out0 E rfl ?_
    obtain rfl := Option.some.inj hm
    exact ⟨v12, rfl, H.reads (fun r hr => hs16 r hr)⟩
end Go.Cb

set_option linter.unusedVariables false
set_option linter.unusedSimpArgs false
namespace Go.Cb
open Go.Proofs Go.RowKit
def m_letter_writer_node (l3 : List Int) (b4 : Bool) (x5 : S_api_Node) : Option ((List Int) × Bool) :=
  (m_pack_Writer_Text l3 b4 x5.Path).bind fun u7 => (m_pack_Writer_Text u7.1 u7.2 x5.Data).bind fun u10 => (m_letter_writer_nums u10.1 u10.2 ([x5.Version, x5.Owner] : List Int)).bind fun u14 => if (x5.Turn != 0) = true then ((m_pack_Writer_Num u14.1 u14.2 (-1)).bind fun u17 => some (u17.1, u17.2)) else (some (u14.1, u14.2))
set_option maxRecDepth 20000 in
set_option maxHeartbeats 1000000 in
theorem c_letter_writer_node {w : World} {Fo : List Ob} {rs : List Rp} (p1 : Nat) (v2 : Value) (l3 : List Int) (b4 : Bool) (x5 : S_api_Node) (H : Sep w (Blk p1 76 [v2, .bool b4] :: Row 5 (kI .u8) v2 l3 :: Fo) rs) {r : (List Int) × Bool} (hm : m_letter_writer_node l3 b4 x5 = some r) :
    Calls Try.prog 55 [.pointer (some ⟨p1, 0, none⟩), .agg #[.string x5.Path, .string x5.Data, .int .i64 x5.Version, .int .i64 x5.Turn, .int .i64 x5.Owner]].toArray w (Ret fun v w' => ∃ (v5001 : Value), .tuple #[] = v ∧ Sep w' (Blk p1 76 [v5001, .bool r.2] :: Row 5 (kI .u8) v5001 r.1 :: Fo) (rs)) := by
 unfold m_letter_writer_node at hm
 refine enter Try.func55 rfl Try.ntmps55 rfl fun a E => ?_
 simp only [enum, Nat.reduceAdd] at E
 refine wp_seq ?_
 refine wp_region_lit ?_
 refine st_box E H (wn rfl) rfl rfl (cs := [.string x5.Path, .string x5.Data, .int .i64 x5.Version, .int .i64 x5.Turn, .int .i64 x5.Owner]) rfl rfl rfl ?_
 clear E H; clear a; clear w; intro p6 w a H E
 refine wpList_nil ?_
 refine q_then ?_
 refine wp_seq ?_
 replace H : Sep w (Blk p6 64 [.string x5.Path, .string x5.Data, .int .i64 x5.Version, .int .i64 x5.Turn, .int .i64 x5.Owner] :: Blk p1 76 [v2, .bool b4] :: Row 5 (kI .u8) v2 l3 :: Fo) (rs) := H
 have hI : Still [Blk p6 64 [.string x5.Path, .string x5.Data, .int .i64 x5.Version, .int .i64 x5.Turn, .int .i64 x5.Owner]] [] { w with drawn := w.drawn + 1 } := ⟨_, _, H.kept (Kp.drawn _ w _), (subO_cons (.head _) (subO_nil)), (sub_nil)⟩
 refine wp_draw _ [(0, 0), (1, 0), (2, 0), (3, 0), (4, 0), (5, 1)] mixedOk (by kernel_rfl) (fun _ _ _ h => False.elim h.2) hI ?_
 replace H := H.kept (Kp.drawn _ w (w.drawn + 1))
 generalize ({ w with drawn := w.drawn + 1 } : World) = w at H hI ⊢
 replace hI : ∃ W, Still [Blk p6 64 [.string x5.Path, .string x5.Data, .int .i64 x5.Version, .int .i64 x5.Turn, .int .i64 x5.Owner]] [] W := ⟨_, hI⟩
 obtain ⟨W0, hI⟩ := hI
 refine fr_val E rfl (wn rfl) rfl rfl (fun w hW => (x_move E rfl rfl)) ?_
 clear a E;intro a E
 refine fr_val E rfl (wn rfl) rfl rfl (fun w hW => (x_nil E rfl rfl)) ?_
 clear a E;intro a E
 refine fr_val E rfl (wn rfl) rfl rfl (fun w hW => x_fa E rfl rfl (v := .pointer (some ⟨p1, 0, none⟩)) (fa76_0 _ _)) ?_
 clear a E;intro a E
 refine fr_val E rfl (wn rfl) rfl rfl (fun w hW => x_fa E rfl rfl (v := .pointer (some ⟨p6, 0, none⟩)) (fa64_0 _ _)) ?_
 clear a E;intro a E
 refine fr_val E rfl (wn rfl) rfl rfl (fun w hW => x_ld E rfl rfl (ib_ld (.head _) rfl Try.underlying9 rfl w hW)) ?_
 clear a E;intro a E
 refine fr_op rfl ?_
 replace H := H.front 0 rfl
 replace H := H.front 2 rfl
 replace H := H.front 2 rfl
 replace H : Sep w (Blk p1 76 [v2, .bool b4] :: Row 5 (kI .u8) v2 l3 :: Blk p6 64 [.string x5.Path, .string x5.Data, .int .i64 x5.Version, .int .i64 x5.Turn, .int .i64 x5.Owner] :: Fo) (rs) := H
 obtain ⟨u7, hx8, hm⟩ := bnd hm
 refine st_call E (wn rfl) rfl rfl (x_call E rfl rfl (cf31 _)) (c_pack_Writer_Text p1 v2 l3 b4 x5.Path H hx8) ?_
 clear E H; clear a; clear w; rintro _ w ⟨v9, rfl, H⟩ a E
 refine wpList_nil ?_
 refine q_then ?_
 replace H : Sep w (Blk p1 76 [v9, .bool u7.2] :: Row 5 (kI .u8) v9 u7.1 :: Blk p6 64 [.string x5.Path, .string x5.Data, .int .i64 x5.Version, .int .i64 x5.Turn, .int .i64 x5.Owner] :: Fo) (rs) := H
 refine ⟨⟨_, _, H, (subO_cons (.tail _ (.tail _ (.head _))) (subO_nil)), (sub_nil)⟩, ?_⟩
 refine fr_nil ?_
 clear hI
 refine q_then ?_
 refine wp_seq ?_
 replace H : Sep w (Blk p1 76 [v9, .bool u7.2] :: Row 5 (kI .u8) v9 u7.1 :: Blk p6 64 [.string x5.Path, .string x5.Data, .int .i64 x5.Version, .int .i64 x5.Turn, .int .i64 x5.Owner] :: Fo) (rs) := H
 have hI : Still [Blk p6 64 [.string x5.Path, .string x5.Data, .int .i64 x5.Version, .int .i64 x5.Turn, .int .i64 x5.Owner]] [] { w with drawn := w.drawn + 1 } := ⟨_, _, H.kept (Kp.drawn _ w _), (subO_cons (.tail _ (.tail _ (.head _))) (subO_nil)), (sub_nil)⟩
 refine wp_draw _ [(0, 0), (1, 0), (2, 0), (3, 0), (4, 0), (5, 1)] mixedOk (by kernel_rfl) (fun _ _ _ h => False.elim h.2) hI ?_
 replace H := H.kept (Kp.drawn _ w (w.drawn + 1))
 generalize ({ w with drawn := w.drawn + 1 } : World) = w at H hI ⊢
 replace hI : ∃ W, Still [Blk p6 64 [.string x5.Path, .string x5.Data, .int .i64 x5.Version, .int .i64 x5.Turn, .int .i64 x5.Owner]] [] W := ⟨_, hI⟩
 obtain ⟨W0, hI⟩ := hI
 refine fr_val E rfl (wn rfl) rfl rfl (fun w hW => (x_move E rfl rfl)) ?_
 clear a E;intro a E
 refine fr_val E rfl (wn rfl) rfl rfl (fun w hW => (x_nil E rfl rfl)) ?_
 clear a E;intro a E
 refine fr_val E rfl (wn rfl) rfl rfl (fun w hW => x_fa E rfl rfl (v := .pointer (some ⟨p1, 0, none⟩)) (fa76_0 _ _)) ?_
 clear a E;intro a E
 refine fr_val E rfl (wn rfl) rfl rfl (fun w hW => x_fa E rfl rfl (v := .pointer (some ⟨p6, 1, none⟩)) (fa64_1 _ _)) ?_
 clear a E;intro a E
 refine fr_val E rfl (wn rfl) rfl rfl (fun w hW => x_ld E rfl rfl (ib_ld (.head _) rfl Try.underlying9 rfl w hW)) ?_
 clear a E;intro a E
 refine fr_op rfl ?_
 obtain ⟨u10, hx11, hm⟩ := bnd hm
 refine st_call E (wn rfl) rfl rfl (x_call E rfl rfl (cf31 _)) (c_pack_Writer_Text p1 v9 u7.1 u7.2 x5.Data H hx11) ?_
 clear E H; clear a; clear w; rintro _ w ⟨v12, rfl, H⟩ a E
 refine wpList_nil ?_
 refine q_then ?_
 replace H : Sep w (Blk p1 76 [v12, .bool u10.2] :: Row 5 (kI .u8) v12 u10.1 :: Blk p6 64 [.string x5.Path, .string x5.Data, .int .i64 x5.Version, .int .i64 x5.Turn, .int .i64 x5.Owner] :: Fo) (rs) := H
 refine ⟨⟨_, _, H, (subO_cons (.tail _ (.tail _ (.head _))) (subO_nil)), (sub_nil)⟩, ?_⟩
 refine fr_nil ?_
 clear hI
 refine q_then ?_
 refine wp_seq ?_
 refine wp_region_lit ?_
 refine sv E rfl rfl rfl (x_move E rfl rfl) ?_
 clear a E;intro a E
 refine sv E rfl rfl rfl (x_fa E rfl rfl (v := .pointer (some ⟨p6, 2, none⟩)) (fa64_2 _ _)) ?_
 clear a E;intro a E
 refine sv E rfl rfl rfl (x_ldB (i := 2) E H rfl rfl rfl rfl Try.underlying2 rfl) ?_
 clear a E;intro a E
 refine sv E rfl rfl rfl (x_fa E rfl rfl (v := .pointer (some ⟨p6, 4, none⟩)) (fa64_4 _ _)) ?_
 clear a E;intro a E
 refine sv E rfl rfl rfl (x_ldB (i := 2) E H rfl rfl rfl rfl Try.underlying2 rfl) ?_
 clear a E;intro a E
 refine st_bsO (e := 2) (d := (kI .i64)) (cs := [.int .i64 x5.Version, .int .i64 x5.Owner]) (xs := [x5.Version, x5.Owner]) E H (wn rfl) rfl rfl (ps := [(0, .tmp 18), (1, .tmp 20)]) (parts := [(0, .int .i64 x5.Version), (1, .int .i64 x5.Owner)]) rfl (by simp only [List.map]; rw [E.eval (x := .tmp 18) (v := .int .i64 x5.Version) rfl, E.eval (x := .tmp 20) (v := .int .i64 x5.Owner) rfl]) (by kernel_rfl) rfl rfl (fun ok hr => (Rows.append (Rows.single (d := (kI .i64)) (cs := [.int .i64 x5.Version]) (x := x5.Version) rfl) (Rows.single (d := (kI .i64)) (cs := [.int .i64 x5.Owner]) (x := x5.Owner) rfl))) ?_
 clear E H; clear a; clear w; intro v13 w a H E
 replace H := H.thaw (i := 0) rfl
 replace H : Sep w (Blk p1 76 [v12, .bool u10.2] :: Row 5 (kI .u8) v12 u10.1 :: Blk p6 64 [.string x5.Path, .string x5.Data, .int .i64 x5.Version, .int .i64 x5.Turn, .int .i64 x5.Owner] :: Fo) (rSl (kI .i64) v13 ([x5.Version, x5.Owner] : List Int) :: rs) := H
 obtain ⟨u14, hx15, hm⟩ := bnd hm
 refine st_call E (wn rfl) rfl rfl (x_call E rfl rfl (cf28 _)) (c_letter_writer_nums p1 v12 u10.1 u10.2 v13 ([x5.Version, x5.Owner] : List Int) H (.head _) hx15) ?_
 clear E H; clear a; clear w; rintro _ w ⟨v16, rfl, H⟩ a E
 refine wpList_nil ?_
 refine q_then ?_
 refine wp_seq ?_
 refine wp_region_lit ?_
 refine sv E rfl rfl rfl (x_fa E rfl rfl (v := .pointer (some ⟨p6, 3, none⟩)) (fa64_3 _ _)) ?_
 clear a E;intro a E
 refine sv E rfl rfl rfl (x_ldB (i := 2) E H rfl rfl rfl rfl Try.underlying2 rfl) ?_
 clear a E;intro a E
 refine sv E rfl rfl rfl (x_bin E rfl rfl rfl rfl) ?_
 clear a E;intro a E
 refine wpList_nil ?_
 refine q_then ?_
 refine wp_if E rfl ?_ ?_
 ·intro hb
  rw [if_t hb] at hm
  clear hb
  refine wp_region_lit ?_
  refine sv E rfl rfl rfl (x_move E rfl rfl) ?_
  clear a E;intro a E
  refine sv E rfl rfl rfl (x_nil E rfl rfl) ?_
  clear a E;intro a E
  refine sv E rfl rfl rfl (x_fa E rfl rfl (v := .pointer (some ⟨p1, 0, none⟩)) (fa76_0 _ _)) ?_
  clear a E;intro a E
  obtain ⟨u17, hx18, hm⟩ := bnd hm
  refine st_call E (wn rfl) rfl rfl (x_call E rfl rfl (cf30 _)) (c_pack_Writer_Num p1 v16 u14.1 u14.2 (-1) H hx18) ?_
  clear E H; clear a; clear w; rintro _ w ⟨v19, rfl, H⟩ a E
  refine wpList_nil ?_
  refine out0 E rfl ?_
  replace H := H.drop 2
  obtain rfl := Option.some.inj hm
  exact ⟨v19, rfl, H.reads (fun r hr => .tail _ (hr))⟩
 ·intro hb
  rw [if_f hb] at hm
  clear hb
  refine wp_skip ?_
  refine out0 E rfl ?_
  replace H := H.drop 2
  obtain rfl := Option.some.inj hm
  exact ⟨v16, rfl, H.reads (fun r hr => .tail _ (hr))⟩
end Go.Cb

set_option linter.unusedVariables false
set_option linter.unusedSimpArgs false
namespace Go.Cb
open Go.Proofs Go.RowKit
def m_letter_row_api_Node_l1 (l6 : List S_api_Node) : Nat → Int → (List Int) → Bool → Option ((List Int) × Bool)
  | 0, _, _, _ => none
  | k1 + 1, x11, l13, b14 =>
    if (decide (x11 < (l6.length : Int))) = true then ((idx l6 x11).bind fun x18 => (m_letter_writer_node l13 b14 (⟨x18.Path, x18.Data, x18.Version, x18.Turn, x18.Owner⟩ : S_api_Node)).bind fun u23 => m_letter_row_api_Node_l1 l6 k1 (IntKind.i64.wrap (x11 + 1)) u23.1 u23.2) else (some (l13, b14))
def m_letter_row_api_Node (l3 : List Int) (b4 : Bool) (l6 : List S_api_Node) : Option ((List Int) × Bool) :=
  (m_pack_Writer_Num l3 b4 (l6.length : Int)).bind fun u8 => m_letter_row_api_Node_l1 l6 (((l6.length : Int) - 0 : Int).toNat + 1) 0 u8.1 u8.2
set_option maxRecDepth 20000 in
set_option maxHeartbeats 1000000 in
theorem c_letter_row_api_Node {w : World} {Fo : List Ob} {rs : List Rp} (p1 : Nat) (v2 : Value) (l3 : List Int) (b4 : Bool) (v5 : Value) (l6 : List S_api_Node) (H : Sep w (Blk p1 76 [v2, .bool b4] :: Row 5 (kI .u8) v2 l3 :: Fo) rs) (hr7 : rSl k_api_Node v5 l6 ∈ rs) {r : (List Int) × Bool} (hm : m_letter_row_api_Node l3 b4 l6 = some r) :
    Calls Try.prog 54 [.pointer (some ⟨p1, 0, none⟩), v5, .func (.func 55) #[.pointer (some ⟨p1, 0, none⟩)] #[]].toArray w (Ret fun v w' => ∃ (v5001 : Value), .tuple #[] = v ∧ Sep w' (Blk p1 76 [v5001, .bool r.2] :: Row 5 (kI .u8) v5001 r.1 :: Fo) (rs)) := by
 unfold m_letter_row_api_Node at hm
 refine enter Try.func54 rfl Try.ntmps54 rfl fun a E => ?_
 simp only [enum, Nat.reduceAdd] at E
 refine wp_seq ?_
 refine wp_region_lit ?_
 refine sv E rfl rfl rfl (x_move E rfl rfl) ?_
 clear a E;intro a E
 refine sv E rfl rfl rfl (x_nil E rfl rfl) ?_
 clear a E;intro a E
 refine sv E rfl rfl rfl (x_fa E rfl rfl (v := .pointer (some ⟨p1, 0, none⟩)) (fa76_0 _ _)) ?_
 clear a E;intro a E
 refine sv E rfl rfl rfl (x_move E rfl rfl) ?_
 clear a E;intro a E
 refine sv E rfl rfl rfl (x_lenS E H rfl rfl hr7 Try.underlying42) ?_
 clear a E;intro a E
 obtain ⟨u8, hx9, hm⟩ := bnd hm
 refine st_call E (wn rfl) rfl rfl (x_call E rfl rfl (cf30 _)) (c_pack_Writer_Num p1 v2 l3 b4 (l6.length : Int) H hx9) ?_
 clear E H; clear a; clear w; rintro _ w ⟨v10, rfl, H⟩ a E
 refine wpList_nil ?_
 refine q_then ?_
 refine wp_seq ?_
 refine wp_region_lit ?_
 refine sv E rfl rfl rfl (x_move E rfl rfl) ?_
 clear a E;intro a E
 refine sv E rfl rfl rfl (x_lenS E H rfl rfl hr7 Try.underlying42) ?_
 clear a E;intro a E
 refine sv E rfl rfl rfl (x_move E rfl rfl) ?_
 clear a E;intro a E
 refine wpList_nil ?_
 refine q_then ?_
 refine wp_block ?_
 refine wp_loop_g (fun k1 a w => ∃ (v12 : Value) (x11 : Int) (l13 : (List Int)) (b14 : Bool) (rs15 : List Rp), Env 24 a [(2, .func (.func 55) #[.pointer (some ⟨p1, 0, none⟩)] #[]), (14, v5), (15, .int .i64 (l6.length : Int)), (16, .int .i64 x11)] ∧ Sep w (Blk p1 76 [v12, .bool b14] :: Row 5 (kI .u8) v12 l13 :: Fo) rs15 ∧ (∀ r, r ∈ rs → r ∈ rs15) ∧ rSl k_api_Node v5 l6 ∈ rs15 ∧ m_letter_row_api_Node_l1 l6 k1 x11 l13 b14 = some r) (((l6.length : Int) - 0 : Int).toNat + 1) ?_ ?_
 ·exact ⟨v10, 0, u8.1, u8.2, _, ((((E.nil.keep E 16 rfl).keep E 15 rfl).keep E 14 rfl).keep E 2 rfl), H, fun r hr => hr, hr7, hm⟩
 ·clear E H hm
  rintro k1 a w ⟨v12, x11, l13, b14, rs15, E, H, hs16, hr17, hm⟩
  cases k1 with
  | zero => exact (none_some hm rfl).elim
  | succ k1 =>
   unfold m_letter_row_api_Node_l1 at hm
   refine wp_seq ?_
   refine wp_region_lit ?_
   refine sv E rfl rfl rfl (x_bin E rfl rfl rfl rfl) ?_
   clear a E;intro a E
   refine wpList_nil ?_
   refine q_then ?_
   refine wp_seq ?_
   refine wp_if E rfl ?_ ?_
   ·intro hb
    rw [if_t hb] at hm
    clear hb
    refine wp_skip ?_
    refine q_then ?_
    refine wp_seq ?_
    refine wp_block ?_
    refine wp_seq ?_
    refine wp_region_lit ?_
    obtain ⟨x18, hx19, hm⟩ := bnd hm
    refine st_ixS E H (wn rfl) rfl rfl rfl rfl rfl hr17 Try.underlying42 sz64 hx19 ?_
    clear E H; clear a; intro q20 a H E
    refine st_ldN E H (wn rfl) rfl rfl rfl rfl (.head _) Try.underlying64 rfl sz64 ?_
    clear E H; clear a; intro u21 a H E
    obtain ⟨_, hcs⟩ := H.rd (.head _)
    obtain rfl := k_api_Node_open hcs
    clear hcs
    refine st_alloc E H (wn rfl) rfl rfl (cs := [.string (ByteArray.mk #[]), .string (ByteArray.mk #[]), .int .i64 0, .int .i64 0, .int .i64 0]) rfl (z := .agg #[.string ⟨#[]⟩, .string ⟨#[]⟩, .int .i64 0, .int .i64 0, .int .i64 0]) (by kernel_rfl) rfl ?_
    clear E H; clear a; clear w; intro p22 w a H E
    refine st_st (i := 0) E H (wn rfl) rfl (us := [.string x18.Path, .string x18.Data, .int .i64 x18.Version, .int .i64 x18.Turn, .int .i64 x18.Owner]) rfl rfl rfl rfl rfl sz64 rfl rfl ?_
    clear H; clear w; intro w H
    replace H : Sep w (Blk p22 64 [.string x18.Path, .string x18.Data, .int .i64 x18.Version, .int .i64 x18.Turn, .int .i64 x18.Owner] :: Blk p1 76 [v12, .bool b14] :: Row 5 (kI .u8) v12 l13 :: Fo) _ := H
    refine wpList_nil ?_
    refine q_then ?_
    refine wp_region_lit ?_
    refine sv E rfl rfl rfl (x_move E rfl rfl) ?_
    clear a E;intro a E
    refine sv E rfl rfl rfl (x_ldBN (i := 0) (us := [.string x18.Path, .string x18.Data, .int .i64 x18.Version, .int .i64 x18.Turn, .int .i64 x18.Owner]) E H rfl rfl rfl rfl Try.underlying64 rfl sz64) ?_
    clear a E;intro a E
    replace H := H.front 0 rfl
    replace H := H.front 2 rfl
    replace H := H.front 2 rfl
    replace H : Sep w (Blk p1 76 [v12, .bool b14] :: Row 5 (kI .u8) v12 l13 :: Blk p22 64 [.string x18.Path, .string x18.Data, .int .i64 x18.Version, .int .i64 x18.Turn, .int .i64 x18.Owner] :: Fo) (rCs k_api_Node [.string x18.Path, .string x18.Data, .int .i64 x18.Version, .int .i64 x18.Turn, .int .i64 x18.Owner] x18 :: rAt k_api_Node q20 x18 :: rs15) := H
    obtain ⟨u23, hx24, hm⟩ := bnd hm
    refine st_call E (wn rfl) rfl rfl (x_callv E rfl rfl rfl (cf55 _)) (c_letter_writer_node p1 v12 l13 b14 (⟨x18.Path, x18.Data, x18.Version, x18.Turn, x18.Owner⟩ : S_api_Node) H hx24) ?_
    clear E H; clear a; clear w; rintro _ w ⟨v25, rfl, H⟩ a E
    refine wpList_nil ?_
    refine q_blk ?_
    refine q_then ?_
    refine wp_region_lit ?_
    refine sv E rfl rfl rfl (x_bin E rfl rfl rfl rfl) ?_
    clear a E;intro a E
    refine sv E rfl rfl rfl (x_move E rfl rfl) ?_
    clear a E;intro a E
    refine wpList_nil ?_
    refine q_then ?_
    replace H := H.drop 2
    exact ⟨k1, Nat.lt_succ_self k1, v25, IntKind.i64.wrap (x11 + 1), u23.1, u23.2, _, ((((E.nil.keep E 16 rfl).keep E 15 rfl).keep E 14 rfl).keep E 2 rfl), H, fun r hr => .tail _ (.tail _ (hs16 r hr)), (.tail _ (.tail _ hr17)), hm⟩
   ·intro hb
    rw [if_f hb] at hm
    clear hb
    refine wp_exit ?_
    refine q_thenX ?_
    refine q_thenX ?_
    refine q_hit ?_
    refine out0 E rfl ?_
    obtain rfl := Option.some.inj hm
    exact ⟨v12, rfl, H.reads (fun r hr => hs16 r hr)⟩
end Go.Cb

set_option linter.unusedVariables false
set_option linter.unusedSimpArgs false
namespace Go.Cb
open Go.Proofs Go.RowKit
def m_letter_writer_result (l3 : List Int) (b4 : Bool) (x5 : S_api_Result) : Option ((List Int) × Bool) :=
  (m_pack_Writer_Num l3 b4 x5.Err).bind fun u11 => (m_pack_Writer_Text u11.1 u11.2 x5.Path).bind fun u14 => (m_pack_Writer_Text u14.1 u14.2 x5.Data).bind fun u17 => (m_pack_Writer_Num u17.1 u17.2 x5.Version).bind fun u20 => (m_pack_Writer_Texts u20.1 u20.2 x5.Names).bind fun u23 => some (u23.1, u23.2)
set_option maxRecDepth 20000 in
set_option maxHeartbeats 1000000 in
theorem c_letter_writer_result {w : World} {Fo : List Ob} {rs : List Rp} (p1 : Nat) (v2 : Value) (l3 : List Int) (b4 : Bool) (x5 : S_api_Result) (v6 : Value) (H : Sep w (Blk p1 76 [v2, .bool b4] :: Row 5 (kI .u8) v2 l3 :: Fo) rs) (hr7 : rSl kS v6 x5.Names ∈ rs) {r : (List Int) × Bool} (hm : m_letter_writer_result l3 b4 x5 = some r) :
    Calls Try.prog 53 [.pointer (some ⟨p1, 0, none⟩), .agg #[.int .i64 x5.Err, .string x5.Path, .string x5.Data, .int .i64 x5.Version, v6]].toArray w (Ret fun v w' => ∃ (v5001 : Value), .tuple #[] = v ∧ Sep w' (Blk p1 76 [v5001, .bool r.2] :: Row 5 (kI .u8) v5001 r.1 :: Fo) (rs)) := by
 unfold m_letter_writer_result at hm
 refine enter Try.func53 rfl Try.ntmps53 rfl fun a E => ?_
 simp only [enum, Nat.reduceAdd] at E
 refine wp_seq ?_
 refine wp_region_lit ?_
 obtain ⟨q9, x10, rfl⟩ := H.slform hr7
 refine st_box E H (wn rfl) rfl rfl (cs := [.int .i64 x5.Err, .string x5.Path, .string x5.Data, .int .i64 x5.Version, (.slice q9 x5.Names.length x10)]) rfl rfl rfl ?_
 clear E H; clear a; clear w; intro p8 w a H E
 refine wpList_nil ?_
 refine q_then ?_
 refine wp_seq ?_
 replace H : Sep w (Blk p8 62 [.int .i64 x5.Err, .string x5.Path, .string x5.Data, .int .i64 x5.Version, (.slice q9 x5.Names.length x10)] :: Blk p1 76 [v2, .bool b4] :: Row 5 (kI .u8) v2 l3 :: Fo) (rs) := H
 have hI : Still [Blk p8 62 [.int .i64 x5.Err, .string x5.Path, .string x5.Data, .int .i64 x5.Version, (.slice q9 x5.Names.length x10)]] [] { w with drawn := w.drawn + 1 } := ⟨_, _, H.kept (Kp.drawn _ w _), (subO_cons (.head _) (subO_nil)), (sub_nil)⟩
 refine wp_draw _ [(0, 0), (1, 0), (2, 0), (3, 0), (4, 0), (5, 1)] mixedOk (by kernel_rfl) (fun _ _ _ h => False.elim h.2) hI ?_
 replace H := H.kept (Kp.drawn _ w (w.drawn + 1))
 generalize ({ w with drawn := w.drawn + 1 } : World) = w at H hI ⊢
 replace hI : ∃ W, Still [Blk p8 62 [.int .i64 x5.Err, .string x5.Path, .string x5.Data, .int .i64 x5.Version, (.slice q9 x5.Names.length x10)]] [] W := ⟨_, hI⟩
 obtain ⟨W0, hI⟩ := hI
 refine fr_val E rfl (wn rfl) rfl rfl (fun w hW => (x_move E rfl rfl)) ?_
 clear a E;intro a E
 refine fr_val E rfl (wn rfl) rfl rfl (fun w hW => (x_nil E rfl rfl)) ?_
 clear a E;intro a E
 refine fr_val E rfl (wn rfl) rfl rfl (fun w hW => x_fa E rfl rfl (v := .pointer (some ⟨p1, 0, none⟩)) (fa76_0 _ _)) ?_
 clear a E;intro a E
 refine fr_val E rfl (wn rfl) rfl rfl (fun w hW => x_fa E rfl rfl (v := .pointer (some ⟨p8, 0, none⟩)) (fa62_0 _ _)) ?_
 clear a E;intro a E
 refine fr_val E rfl (wn rfl) rfl rfl (fun w hW => x_ld E rfl rfl (ib_ld (.head _) rfl Try.underlying30 rfl w hW)) ?_
 clear a E;intro a E
 refine fr_op rfl ?_
 replace H := H.front 0 rfl
 replace H := H.front 2 rfl
 replace H := H.front 2 rfl
 replace H : Sep w (Blk p1 76 [v2, .bool b4] :: Row 5 (kI .u8) v2 l3 :: Blk p8 62 [.int .i64 x5.Err, .string x5.Path, .string x5.Data, .int .i64 x5.Version, (.slice q9 x5.Names.length x10)] :: Fo) (rs) := H
 obtain ⟨u11, hx12, hm⟩ := bnd hm
 refine st_call E (wn rfl) rfl rfl (x_call E rfl rfl (cf30 _)) (c_pack_Writer_Num p1 v2 l3 b4 x5.Err H hx12) ?_
 clear E H; clear a; clear w; rintro _ w ⟨v13, rfl, H⟩ a E
 refine wpList_nil ?_
 refine q_then ?_
 replace H : Sep w (Blk p1 76 [v13, .bool u11.2] :: Row 5 (kI .u8) v13 u11.1 :: Blk p8 62 [.int .i64 x5.Err, .string x5.Path, .string x5.Data, .int .i64 x5.Version, (.slice q9 x5.Names.length x10)] :: Fo) (rs) := H
 refine ⟨⟨_, _, H, (subO_cons (.tail _ (.tail _ (.head _))) (subO_nil)), (sub_nil)⟩, ?_⟩
 refine fr_nil ?_
 clear hI
 refine q_then ?_
 refine wp_seq ?_
 replace H : Sep w (Blk p1 76 [v13, .bool u11.2] :: Row 5 (kI .u8) v13 u11.1 :: Blk p8 62 [.int .i64 x5.Err, .string x5.Path, .string x5.Data, .int .i64 x5.Version, (.slice q9 x5.Names.length x10)] :: Fo) (rs) := H
 have hI : Still [Blk p8 62 [.int .i64 x5.Err, .string x5.Path, .string x5.Data, .int .i64 x5.Version, (.slice q9 x5.Names.length x10)]] [] { w with drawn := w.drawn + 1 } := ⟨_, _, H.kept (Kp.drawn _ w _), (subO_cons (.tail _ (.tail _ (.head _))) (subO_nil)), (sub_nil)⟩
 refine wp_draw _ [(0, 0), (1, 0), (2, 0), (3, 0), (4, 0), (5, 1)] mixedOk (by kernel_rfl) (fun _ _ _ h => False.elim h.2) hI ?_
 replace H := H.kept (Kp.drawn _ w (w.drawn + 1))
 generalize ({ w with drawn := w.drawn + 1 } : World) = w at H hI ⊢
 replace hI : ∃ W, Still [Blk p8 62 [.int .i64 x5.Err, .string x5.Path, .string x5.Data, .int .i64 x5.Version, (.slice q9 x5.Names.length x10)]] [] W := ⟨_, hI⟩
 obtain ⟨W0, hI⟩ := hI
 refine fr_val E rfl (wn rfl) rfl rfl (fun w hW => (x_move E rfl rfl)) ?_
 clear a E;intro a E
 refine fr_val E rfl (wn rfl) rfl rfl (fun w hW => (x_nil E rfl rfl)) ?_
 clear a E;intro a E
 refine fr_val E rfl (wn rfl) rfl rfl (fun w hW => x_fa E rfl rfl (v := .pointer (some ⟨p1, 0, none⟩)) (fa76_0 _ _)) ?_
 clear a E;intro a E
 refine fr_val E rfl (wn rfl) rfl rfl (fun w hW => x_fa E rfl rfl (v := .pointer (some ⟨p8, 1, none⟩)) (fa62_1 _ _)) ?_
 clear a E;intro a E
 refine fr_val E rfl (wn rfl) rfl rfl (fun w hW => x_ld E rfl rfl (ib_ld (.head _) rfl Try.underlying9 rfl w hW)) ?_
 clear a E;intro a E
 refine fr_op rfl ?_
 obtain ⟨u14, hx15, hm⟩ := bnd hm
 refine st_call E (wn rfl) rfl rfl (x_call E rfl rfl (cf31 _)) (c_pack_Writer_Text p1 v13 u11.1 u11.2 x5.Path H hx15) ?_
 clear E H; clear a; clear w; rintro _ w ⟨v16, rfl, H⟩ a E
 refine wpList_nil ?_
 refine q_then ?_
 replace H : Sep w (Blk p1 76 [v16, .bool u14.2] :: Row 5 (kI .u8) v16 u14.1 :: Blk p8 62 [.int .i64 x5.Err, .string x5.Path, .string x5.Data, .int .i64 x5.Version, (.slice q9 x5.Names.length x10)] :: Fo) (rs) := H
 refine ⟨⟨_, _, H, (subO_cons (.tail _ (.tail _ (.head _))) (subO_nil)), (sub_nil)⟩, ?_⟩
 refine fr_nil ?_
 clear hI
 refine q_then ?_
 refine wp_seq ?_
 replace H : Sep w (Blk p1 76 [v16, .bool u14.2] :: Row 5 (kI .u8) v16 u14.1 :: Blk p8 62 [.int .i64 x5.Err, .string x5.Path, .string x5.Data, .int .i64 x5.Version, (.slice q9 x5.Names.length x10)] :: Fo) (rs) := H
 have hI : Still [Blk p8 62 [.int .i64 x5.Err, .string x5.Path, .string x5.Data, .int .i64 x5.Version, (.slice q9 x5.Names.length x10)]] [] { w with drawn := w.drawn + 1 } := ⟨_, _, H.kept (Kp.drawn _ w _), (subO_cons (.tail _ (.tail _ (.head _))) (subO_nil)), (sub_nil)⟩
 refine wp_draw _ [(0, 0), (1, 0), (2, 0), (3, 0), (4, 0), (5, 1)] mixedOk (by kernel_rfl) (fun _ _ _ h => False.elim h.2) hI ?_
 replace H := H.kept (Kp.drawn _ w (w.drawn + 1))
 generalize ({ w with drawn := w.drawn + 1 } : World) = w at H hI ⊢
 replace hI : ∃ W, Still [Blk p8 62 [.int .i64 x5.Err, .string x5.Path, .string x5.Data, .int .i64 x5.Version, (.slice q9 x5.Names.length x10)]] [] W := ⟨_, hI⟩
 obtain ⟨W0, hI⟩ := hI
 refine fr_val E rfl (wn rfl) rfl rfl (fun w hW => (x_move E rfl rfl)) ?_
 clear a E;intro a E
 refine fr_val E rfl (wn rfl) rfl rfl (fun w hW => (x_nil E rfl rfl)) ?_
 clear a E;intro a E
 refine fr_val E rfl (wn rfl) rfl rfl (fun w hW => x_fa E rfl rfl (v := .pointer (some ⟨p1, 0, none⟩)) (fa76_0 _ _)) ?_
 clear a E;intro a E
 refine fr_val E rfl (wn rfl) rfl rfl (fun w hW => x_fa E rfl rfl (v := .pointer (some ⟨p8, 2, none⟩)) (fa62_2 _ _)) ?_
 clear a E;intro a E
 refine fr_val E rfl (wn rfl) rfl rfl (fun w hW => x_ld E rfl rfl (ib_ld (.head _) rfl Try.underlying9 rfl w hW)) ?_
 clear a E;intro a E
 refine fr_op rfl ?_
 obtain ⟨u17, hx18, hm⟩ := bnd hm
 refine st_call E (wn rfl) rfl rfl (x_call E rfl rfl (cf31 _)) (c_pack_Writer_Text p1 v16 u14.1 u14.2 x5.Data H hx18) ?_
 clear E H; clear a; clear w; rintro _ w ⟨v19, rfl, H⟩ a E
 refine wpList_nil ?_
 refine q_then ?_
 replace H : Sep w (Blk p1 76 [v19, .bool u17.2] :: Row 5 (kI .u8) v19 u17.1 :: Blk p8 62 [.int .i64 x5.Err, .string x5.Path, .string x5.Data, .int .i64 x5.Version, (.slice q9 x5.Names.length x10)] :: Fo) (rs) := H
 refine ⟨⟨_, _, H, (subO_cons (.tail _ (.tail _ (.head _))) (subO_nil)), (sub_nil)⟩, ?_⟩
 refine fr_nil ?_
 clear hI
 refine q_then ?_
 refine wp_seq ?_
 replace H : Sep w (Blk p1 76 [v19, .bool u17.2] :: Row 5 (kI .u8) v19 u17.1 :: Blk p8 62 [.int .i64 x5.Err, .string x5.Path, .string x5.Data, .int .i64 x5.Version, (.slice q9 x5.Names.length x10)] :: Fo) (rs) := H
 have hI : Still [Blk p8 62 [.int .i64 x5.Err, .string x5.Path, .string x5.Data, .int .i64 x5.Version, (.slice q9 x5.Names.length x10)]] [] { w with drawn := w.drawn + 1 } := ⟨_, _, H.kept (Kp.drawn _ w _), (subO_cons (.tail _ (.tail _ (.head _))) (subO_nil)), (sub_nil)⟩
 refine wp_draw _ [(0, 0), (1, 0), (2, 0), (3, 0), (4, 0), (5, 1)] mixedOk (by kernel_rfl) (fun _ _ _ h => False.elim h.2) hI ?_
 replace H := H.kept (Kp.drawn _ w (w.drawn + 1))
 generalize ({ w with drawn := w.drawn + 1 } : World) = w at H hI ⊢
 replace hI : ∃ W, Still [Blk p8 62 [.int .i64 x5.Err, .string x5.Path, .string x5.Data, .int .i64 x5.Version, (.slice q9 x5.Names.length x10)]] [] W := ⟨_, hI⟩
 obtain ⟨W0, hI⟩ := hI
 refine fr_val E rfl (wn rfl) rfl rfl (fun w hW => (x_move E rfl rfl)) ?_
 clear a E;intro a E
 refine fr_val E rfl (wn rfl) rfl rfl (fun w hW => (x_nil E rfl rfl)) ?_
 clear a E;intro a E
 refine fr_val E rfl (wn rfl) rfl rfl (fun w hW => x_fa E rfl rfl (v := .pointer (some ⟨p1, 0, none⟩)) (fa76_0 _ _)) ?_
 clear a E;intro a E
 refine fr_val E rfl (wn rfl) rfl rfl (fun w hW => x_fa E rfl rfl (v := .pointer (some ⟨p8, 3, none⟩)) (fa62_3 _ _)) ?_
 clear a E;intro a E
 refine fr_val E rfl (wn rfl) rfl rfl (fun w hW => x_ld E rfl rfl (ib_ld (.head _) rfl Try.underlying2 rfl w hW)) ?_
 clear a E;intro a E
 refine fr_op rfl ?_
 obtain ⟨u20, hx21, hm⟩ := bnd hm
 refine st_call E (wn rfl) rfl rfl (x_call E rfl rfl (cf30 _)) (c_pack_Writer_Num p1 v19 u17.1 u17.2 x5.Version H hx21) ?_
 clear E H; clear a; clear w; rintro _ w ⟨v22, rfl, H⟩ a E
 refine wpList_nil ?_
 refine q_then ?_
 replace H : Sep w (Blk p1 76 [v22, .bool u20.2] :: Row 5 (kI .u8) v22 u20.1 :: Blk p8 62 [.int .i64 x5.Err, .string x5.Path, .string x5.Data, .int .i64 x5.Version, (.slice q9 x5.Names.length x10)] :: Fo) (rs) := H
 refine ⟨⟨_, _, H, (subO_cons (.tail _ (.tail _ (.head _))) (subO_nil)), (sub_nil)⟩, ?_⟩
 refine fr_nil ?_
 clear hI
 refine q_then ?_
 replace H : Sep w (Blk p1 76 [v22, .bool u20.2] :: Row 5 (kI .u8) v22 u20.1 :: Blk p8 62 [.int .i64 x5.Err, .string x5.Path, .string x5.Data, .int .i64 x5.Version, (.slice q9 x5.Names.length x10)] :: Fo) (rs) := H
 have hI : Still [Blk p8 62 [.int .i64 x5.Err, .string x5.Path, .string x5.Data, .int .i64 x5.Version, (.slice q9 x5.Names.length x10)]] [] { w with drawn := w.drawn + 1 } := ⟨_, _, H.kept (Kp.drawn _ w _), (subO_cons (.tail _ (.tail _ (.head _))) (subO_nil)), (sub_nil)⟩
 refine wp_draw _ [(0, 0), (1, 0), (2, 0), (3, 0), (4, 0), (5, 1)] mixedOk (by kernel_rfl) (fun _ _ _ h => False.elim h.2) hI ?_
 replace H := H.kept (Kp.drawn _ w (w.drawn + 1))
 generalize ({ w with drawn := w.drawn + 1 } : World) = w at H hI ⊢
 replace hI : ∃ W, Still [Blk p8 62 [.int .i64 x5.Err, .string x5.Path, .string x5.Data, .int .i64 x5.Version, (.slice q9 x5.Names.length x10)]] [] W := ⟨_, hI⟩
 obtain ⟨W0, hI⟩ := hI
 refine fr_val E rfl (wn rfl) rfl rfl (fun w hW => (x_move E rfl rfl)) ?_
 clear a E;intro a E
 refine fr_val E rfl (wn rfl) rfl rfl (fun w hW => (x_nil E rfl rfl)) ?_
 clear a E;intro a E
 refine fr_val E rfl (wn rfl) rfl rfl (fun w hW => x_fa E rfl rfl (v := .pointer (some ⟨p1, 0, none⟩)) (fa76_0 _ _)) ?_
 clear a E;intro a E
 refine fr_val E rfl (wn rfl) rfl rfl (fun w hW => x_fa E rfl rfl (v := .pointer (some ⟨p8, 4, none⟩)) (fa62_4 _ _)) ?_
 clear a E;intro a E
 refine fr_val E rfl (wn rfl) rfl rfl (fun w hW => x_ld E rfl rfl (ib_ld (.head _) rfl Try.underlying22 rfl w hW)) ?_
 clear a E;intro a E
 refine fr_op rfl ?_
 obtain ⟨u23, hx24, hm⟩ := bnd hm
 refine st_call E (wn rfl) rfl rfl (x_call E rfl rfl (cf29 _)) (c_pack_Writer_Texts p1 v22 u20.1 u20.2 (.slice q9 x5.Names.length x10) x5.Names H hr7 hx24) ?_
 clear E H; clear a; clear w; rintro _ w ⟨v25, rfl, H⟩ a E
 refine wpList_nil ?_
 refine q_then ?_
 replace H : Sep w (Blk p1 76 [v25, .bool u23.2] :: Row 5 (kI .u8) v25 u23.1 :: Blk p8 62 [.int .i64 x5.Err, .string x5.Path, .string x5.Data, .int .i64 x5.Version, (.slice q9 x5.Names.length x10)] :: Fo) (rs) := H
 refine ⟨⟨_, _, H, (subO_cons (.tail _ (.tail _ (.head _))) (subO_nil)), (sub_nil)⟩, ?_⟩
 refine fr_nil ?_
 clear hI
 refine out0 E rfl ?_
 replace H := H.drop 2
 obtain rfl := Option.some.inj hm
 exact ⟨v25, rfl, H.reads (fun r hr => hr)⟩
end Go.Cb

set_option linter.unusedVariables false
set_option linter.unusedSimpArgs false
namespace Go.Cb
open Go.Proofs Go.RowKit
def m_letter_row_api_Result_l1 (l6 : List S_api_Result) : Nat → Int → (List Int) → Bool → Option ((List Int) × Bool)
  | 0, _, _, _ => none
  | k1 + 1, x11, l13, b14 =>
    if (decide (x11 < (l6.length : Int))) = true then ((idx l6 x11).bind fun x18 => (m_letter_writer_result l13 b14 (⟨x18.Err, x18.Path, x18.Data, x18.Version, x18.Names⟩ : S_api_Result)).bind fun u26 => m_letter_row_api_Result_l1 l6 k1 (IntKind.i64.wrap (x11 + 1)) u26.1 u26.2) else (some (l13, b14))
def m_letter_row_api_Result (l3 : List Int) (b4 : Bool) (l6 : List S_api_Result) : Option ((List Int) × Bool) :=
  (m_pack_Writer_Num l3 b4 (l6.length : Int)).bind fun u8 => m_letter_row_api_Result_l1 l6 (((l6.length : Int) - 0 : Int).toNat + 1) 0 u8.1 u8.2
set_option maxRecDepth 20000 in
set_option maxHeartbeats 1000000 in
theorem c_letter_row_api_Result {w : World} {Fo : List Ob} {rs : List Rp} (p1 : Nat) (v2 : Value) (l3 : List Int) (b4 : Bool) (v5 : Value) (l6 : List S_api_Result) (H : Sep w (Blk p1 76 [v2, .bool b4] :: Row 5 (kI .u8) v2 l3 :: Fo) rs) (hr7 : rSl k_api_Result v5 l6 ∈ rs) {r : (List Int) × Bool} (hm : m_letter_row_api_Result l3 b4 l6 = some r) :
    Calls Try.prog 52 [.pointer (some ⟨p1, 0, none⟩), v5, .func (.func 53) #[.pointer (some ⟨p1, 0, none⟩)] #[]].toArray w (Ret fun v w' => ∃ (v5001 : Value), .tuple #[] = v ∧ Sep w' (Blk p1 76 [v5001, .bool r.2] :: Row 5 (kI .u8) v5001 r.1 :: Fo) (rs)) := by
 unfold m_letter_row_api_Result at hm
 refine enter Try.func52 rfl Try.ntmps52 rfl fun a E => ?_
 simp only [enum, Nat.reduceAdd] at E
 refine wp_seq ?_
 refine wp_region_lit ?_
 refine sv E rfl rfl rfl (x_move E rfl rfl) ?_
 clear a E;intro a E
 refine sv E rfl rfl rfl (x_nil E rfl rfl) ?_
 clear a E;intro a E
 refine sv E rfl rfl rfl (x_fa E rfl rfl (v := .pointer (some ⟨p1, 0, none⟩)) (fa76_0 _ _)) ?_
 clear a E;intro a E
 refine sv E rfl rfl rfl (x_move E rfl rfl) ?_
 clear a E;intro a E
 refine sv E rfl rfl rfl (x_lenS E H rfl rfl hr7 Try.underlying41) ?_
 clear a E;intro a E
 obtain ⟨u8, hx9, hm⟩ := bnd hm
 refine st_call E (wn rfl) rfl rfl (x_call E rfl rfl (cf30 _)) (c_pack_Writer_Num p1 v2 l3 b4 (l6.length : Int) H hx9) ?_
 clear E H; clear a; clear w; rintro _ w ⟨v10, rfl, H⟩ a E
 refine wpList_nil ?_
 refine q_then ?_
 refine wp_seq ?_
 refine wp_region_lit ?_
 refine sv E rfl rfl rfl (x_move E rfl rfl) ?_
 clear a E;intro a E
 refine sv E rfl rfl rfl (x_lenS E H rfl rfl hr7 Try.underlying41) ?_
 clear a E;intro a E
 refine sv E rfl rfl rfl (x_move E rfl rfl) ?_
 clear a E;intro a E
 refine wpList_nil ?_
 refine q_then ?_
 refine wp_block ?_
 refine wp_loop_g (fun k1 a w => ∃ (v12 : Value) (x11 : Int) (l13 : (List Int)) (b14 : Bool) (rs15 : List Rp), Env 24 a [(2, .func (.func 53) #[.pointer (some ⟨p1, 0, none⟩)] #[]), (14, v5), (15, .int .i64 (l6.length : Int)), (16, .int .i64 x11)] ∧ Sep w (Blk p1 76 [v12, .bool b14] :: Row 5 (kI .u8) v12 l13 :: Fo) rs15 ∧ (∀ r, r ∈ rs → r ∈ rs15) ∧ rSl k_api_Result v5 l6 ∈ rs15 ∧ m_letter_row_api_Result_l1 l6 k1 x11 l13 b14 = some r) (((l6.length : Int) - 0 : Int).toNat + 1) ?_ ?_
 ·exact ⟨v10, 0, u8.1, u8.2, _, ((((E.nil.keep E 16 rfl).keep E 15 rfl).keep E 14 rfl).keep E 2 rfl), H, fun r hr => hr, hr7, hm⟩
 ·clear E H hm
  rintro k1 a w ⟨v12, x11, l13, b14, rs15, E, H, hs16, hr17, hm⟩
  cases k1 with
  | zero => exact (none_some hm rfl).elim
  | succ k1 =>
   unfold m_letter_row_api_Result_l1 at hm
   refine wp_seq ?_
   refine wp_region_lit ?_
   refine sv E rfl rfl rfl (x_bin E rfl rfl rfl rfl) ?_
   clear a E;intro a E
   refine wpList_nil ?_
   refine q_then ?_
   refine wp_seq ?_
   refine wp_if E rfl ?_ ?_
   ·intro hb
    rw [if_t hb] at hm
    clear hb
    refine wp_skip ?_
    refine q_then ?_
    refine wp_seq ?_
    refine wp_block ?_
    refine wp_seq ?_
    refine wp_region_lit ?_
    obtain ⟨x18, hx19, hm⟩ := bnd hm
    refine st_ixS E H (wn rfl) rfl rfl rfl rfl rfl hr17 Try.underlying41 sz62 hx19 ?_
    clear E H; clear a; intro q20 a H E
    refine st_ldN E H (wn rfl) rfl rfl rfl rfl (.head _) Try.underlying62 rfl sz62 ?_
    clear E H; clear a; intro u21 a H E
    obtain ⟨_, hcs⟩ := H.rd (.head _)
    obtain ⟨v22, rfl, -⟩ := k_api_Result_open hcs
    clear hcs
    replace H := H.derive1 (.head _) (rSl kS v22 x18.Names) (fun ok h => k_api_Result_get1 h)
    refine st_alloc E H (wn rfl) rfl rfl (cs := [.int .i64 0, .string (ByteArray.mk #[]), .string (ByteArray.mk #[]), .int .i64 0, .slice none 0 0]) rfl (z := .agg #[.int .i64 0, .string ⟨#[]⟩, .string ⟨#[]⟩, .int .i64 0, .slice none 0 0]) (by kernel_rfl) rfl ?_
    clear E H; clear a; clear w; intro p23 w a H E
    obtain ⟨q24, x25, rfl⟩ := H.slform (.head _)
    refine st_st (i := 0) E H (wn rfl) rfl (us := [.int .i64 x18.Err, .string x18.Path, .string x18.Data, .int .i64 x18.Version, (.slice q24 x18.Names.length x25)]) rfl rfl rfl rfl rfl sz62 rfl rfl ?_
    clear H; clear w; intro w H
    replace H : Sep w (Blk p23 62 [.int .i64 x18.Err, .string x18.Path, .string x18.Data, .int .i64 x18.Version, (.slice q24 x18.Names.length x25)] :: Blk p1 76 [v12, .bool b14] :: Row 5 (kI .u8) v12 l13 :: Fo) _ := H
    refine wpList_nil ?_
    refine q_then ?_
    refine wp_region_lit ?_
    refine sv E rfl rfl rfl (x_move E rfl rfl) ?_
    clear a E;intro a E
    refine sv E rfl rfl rfl (x_ldBN (i := 0) (us := [.int .i64 x18.Err, .string x18.Path, .string x18.Data, .int .i64 x18.Version, (.slice q24 x18.Names.length x25)]) E H rfl rfl rfl rfl Try.underlying62 rfl sz62) ?_
    clear a E;intro a E
    replace H := H.front 0 rfl
    replace H := H.front 2 rfl
    replace H := H.front 2 rfl
    replace H : Sep w (Blk p1 76 [v12, .bool b14] :: Row 5 (kI .u8) v12 l13 :: Blk p23 62 [.int .i64 x18.Err, .string x18.Path, .string x18.Data, .int .i64 x18.Version, (.slice q24 x18.Names.length x25)] :: Fo) (rSl kS (.slice q24 x18.Names.length x25) x18.Names :: rCs k_api_Result [.int .i64 x18.Err, .string x18.Path, .string x18.Data, .int .i64 x18.Version, (.slice q24 x18.Names.length x25)] x18 :: rAt k_api_Result q20 x18 :: rs15) := H
    obtain ⟨u26, hx27, hm⟩ := bnd hm
    refine st_call E (wn rfl) rfl rfl (x_callv E rfl rfl rfl (cf53 _)) (c_letter_writer_result p1 v12 l13 b14 (⟨x18.Err, x18.Path, x18.Data, x18.Version, x18.Names⟩ : S_api_Result) (.slice q24 x18.Names.length x25) H (.head _) hx27) ?_
    clear E H; clear a; clear w; rintro _ w ⟨v28, rfl, H⟩ a E
    refine wpList_nil ?_
    refine q_blk ?_
    refine q_then ?_
    refine wp_region_lit ?_
    refine sv E rfl rfl rfl (x_bin E rfl rfl rfl rfl) ?_
    clear a E;intro a E
    refine sv E rfl rfl rfl (x_move E rfl rfl) ?_
    clear a E;intro a E
    refine wpList_nil ?_
    refine q_then ?_
    replace H := H.drop 2
    exact ⟨k1, Nat.lt_succ_self k1, v28, IntKind.i64.wrap (x11 + 1), u26.1, u26.2, _, ((((E.nil.keep E 16 rfl).keep E 15 rfl).keep E 14 rfl).keep E 2 rfl), H, fun r hr => .tail _ (.tail _ (.tail _ (hs16 r hr))), (.tail _ (.tail _ (.tail _ hr17))), hm⟩
   ·intro hb
    rw [if_f hb] at hm
    clear hb
    refine wp_exit ?_
    refine q_thenX ?_
    refine q_thenX ?_
    refine q_hit ?_
    refine out0 E rfl ?_
    obtain rfl := Option.some.inj hm
    exact ⟨v12, rfl, H.reads (fun r hr => hs16 r hr)⟩
end Go.Cb

set_option linter.unusedVariables false
set_option linter.unusedSimpArgs false
namespace Go.Cb
open Go.Proofs Go.RowKit
def m_letter_writer_turn (l3 : List Int) (b4 : Bool) (x5 : S_api_Turn) : Option ((List Int) × Bool) :=
  (m_pack_Writer_Text l3 b4 x5.Dir).bind fun u7 => (m_pack_Writer_Num u7.1 u7.2 x5.Next).bind fun u10 => some (u10.1, u10.2)
set_option maxRecDepth 20000 in
set_option maxHeartbeats 1000000 in
theorem c_letter_writer_turn {w : World} {Fo : List Ob} {rs : List Rp} (p1 : Nat) (v2 : Value) (l3 : List Int) (b4 : Bool) (x5 : S_api_Turn) (H : Sep w (Blk p1 76 [v2, .bool b4] :: Row 5 (kI .u8) v2 l3 :: Fo) rs) {r : (List Int) × Bool} (hm : m_letter_writer_turn l3 b4 x5 = some r) :
    Calls Try.prog 57 [.pointer (some ⟨p1, 0, none⟩), .agg #[.string x5.Dir, .int .i64 x5.Next]].toArray w (Ret fun v w' => ∃ (v5001 : Value), .tuple #[] = v ∧ Sep w' (Blk p1 76 [v5001, .bool r.2] :: Row 5 (kI .u8) v5001 r.1 :: Fo) (rs)) := by
 unfold m_letter_writer_turn at hm
 refine enter Try.func57 rfl Try.ntmps57 rfl fun a E => ?_
 simp only [enum, Nat.reduceAdd] at E
 refine wp_seq ?_
 refine wp_region_lit ?_
 refine st_box E H (wn rfl) rfl rfl (cs := [.string x5.Dir, .int .i64 x5.Next]) rfl rfl rfl ?_
 clear E H; clear a; clear w; intro p6 w a H E
 refine wpList_nil ?_
 refine q_then ?_
 refine wp_seq ?_
 replace H : Sep w (Blk p6 66 [.string x5.Dir, .int .i64 x5.Next] :: Blk p1 76 [v2, .bool b4] :: Row 5 (kI .u8) v2 l3 :: Fo) (rs) := H
 have hI : Still [Blk p6 66 [.string x5.Dir, .int .i64 x5.Next]] [] { w with drawn := w.drawn + 1 } := ⟨_, _, H.kept (Kp.drawn _ w _), (subO_cons (.head _) (subO_nil)), (sub_nil)⟩
 refine wp_draw _ [(0, 0), (1, 0), (2, 0), (3, 0), (4, 0), (5, 1)] mixedOk (by kernel_rfl) (fun _ _ _ h => False.elim h.2) hI ?_
 replace H := H.kept (Kp.drawn _ w (w.drawn + 1))
 generalize ({ w with drawn := w.drawn + 1 } : World) = w at H hI ⊢
 replace hI : ∃ W, Still [Blk p6 66 [.string x5.Dir, .int .i64 x5.Next]] [] W := ⟨_, hI⟩
 obtain ⟨W0, hI⟩ := hI
 refine fr_val E rfl (wn rfl) rfl rfl (fun w hW => (x_move E rfl rfl)) ?_
 clear a E;intro a E
 refine fr_val E rfl (wn rfl) rfl rfl (fun w hW => (x_nil E rfl rfl)) ?_
 clear a E;intro a E
 refine fr_val E rfl (wn rfl) rfl rfl (fun w hW => x_fa E rfl rfl (v := .pointer (some ⟨p1, 0, none⟩)) (fa76_0 _ _)) ?_
 clear a E;intro a E
 refine fr_val E rfl (wn rfl) rfl rfl (fun w hW => x_fa E rfl rfl (v := .pointer (some ⟨p6, 0, none⟩)) (fa66_0 _ _)) ?_
 clear a E;intro a E
 refine fr_val E rfl (wn rfl) rfl rfl (fun w hW => x_ld E rfl rfl (ib_ld (.head _) rfl Try.underlying9 rfl w hW)) ?_
 clear a E;intro a E
 refine fr_op rfl ?_
 replace H := H.front 0 rfl
 replace H := H.front 2 rfl
 replace H := H.front 2 rfl
 replace H : Sep w (Blk p1 76 [v2, .bool b4] :: Row 5 (kI .u8) v2 l3 :: Blk p6 66 [.string x5.Dir, .int .i64 x5.Next] :: Fo) (rs) := H
 obtain ⟨u7, hx8, hm⟩ := bnd hm
 refine st_call E (wn rfl) rfl rfl (x_call E rfl rfl (cf31 _)) (c_pack_Writer_Text p1 v2 l3 b4 x5.Dir H hx8) ?_
 clear E H; clear a; clear w; rintro _ w ⟨v9, rfl, H⟩ a E
 refine wpList_nil ?_
 refine q_then ?_
 replace H : Sep w (Blk p1 76 [v9, .bool u7.2] :: Row 5 (kI .u8) v9 u7.1 :: Blk p6 66 [.string x5.Dir, .int .i64 x5.Next] :: Fo) (rs) := H
 refine ⟨⟨_, _, H, (subO_cons (.tail _ (.tail _ (.head _))) (subO_nil)), (sub_nil)⟩, ?_⟩
 refine fr_nil ?_
 clear hI
 refine q_then ?_
 replace H : Sep w (Blk p1 76 [v9, .bool u7.2] :: Row 5 (kI .u8) v9 u7.1 :: Blk p6 66 [.string x5.Dir, .int .i64 x5.Next] :: Fo) (rs) := H
 have hI : Still [Blk p6 66 [.string x5.Dir, .int .i64 x5.Next]] [] { w with drawn := w.drawn + 1 } := ⟨_, _, H.kept (Kp.drawn _ w _), (subO_cons (.tail _ (.tail _ (.head _))) (subO_nil)), (sub_nil)⟩
 refine wp_draw _ [(0, 0), (1, 0), (2, 0), (3, 0), (4, 0), (5, 1)] mixedOk (by kernel_rfl) (fun _ _ _ h => False.elim h.2) hI ?_
 replace H := H.kept (Kp.drawn _ w (w.drawn + 1))
 generalize ({ w with drawn := w.drawn + 1 } : World) = w at H hI ⊢
 replace hI : ∃ W, Still [Blk p6 66 [.string x5.Dir, .int .i64 x5.Next]] [] W := ⟨_, hI⟩
 obtain ⟨W0, hI⟩ := hI
 refine fr_val E rfl (wn rfl) rfl rfl (fun w hW => (x_move E rfl rfl)) ?_
 clear a E;intro a E
 refine fr_val E rfl (wn rfl) rfl rfl (fun w hW => (x_nil E rfl rfl)) ?_
 clear a E;intro a E
 refine fr_val E rfl (wn rfl) rfl rfl (fun w hW => x_fa E rfl rfl (v := .pointer (some ⟨p1, 0, none⟩)) (fa76_0 _ _)) ?_
 clear a E;intro a E
 refine fr_val E rfl (wn rfl) rfl rfl (fun w hW => x_fa E rfl rfl (v := .pointer (some ⟨p6, 1, none⟩)) (fa66_1 _ _)) ?_
 clear a E;intro a E
 refine fr_val E rfl (wn rfl) rfl rfl (fun w hW => x_ld E rfl rfl (ib_ld (.head _) rfl Try.underlying2 rfl w hW)) ?_
 clear a E;intro a E
 refine fr_op rfl ?_
 obtain ⟨u10, hx11, hm⟩ := bnd hm
 refine st_call E (wn rfl) rfl rfl (x_call E rfl rfl (cf30 _)) (c_pack_Writer_Num p1 v9 u7.1 u7.2 x5.Next H hx11) ?_
 clear E H; clear a; clear w; rintro _ w ⟨v12, rfl, H⟩ a E
 refine wpList_nil ?_
 refine q_then ?_
 replace H : Sep w (Blk p1 76 [v12, .bool u10.2] :: Row 5 (kI .u8) v12 u10.1 :: Blk p6 66 [.string x5.Dir, .int .i64 x5.Next] :: Fo) (rs) := H
 refine ⟨⟨_, _, H, (subO_cons (.tail _ (.tail _ (.head _))) (subO_nil)), (sub_nil)⟩, ?_⟩
 refine fr_nil ?_
 clear hI
 refine out0 E rfl ?_
 replace H := H.drop 2
 obtain rfl := Option.some.inj hm
 exact ⟨v12, rfl, H.reads (fun r hr => hr)⟩
end Go.Cb

set_option linter.unusedVariables false
set_option linter.unusedSimpArgs false
namespace Go.Cb
open Go.Proofs Go.RowKit
def m_letter_row_api_Turn_l1 (l6 : List S_api_Turn) : Nat → Int → (List Int) → Bool → Option ((List Int) × Bool)
  | 0, _, _, _ => none
  | k1 + 1, x11, l13, b14 =>
    if (decide (x11 < (l6.length : Int))) = true then ((idx l6 x11).bind fun x18 => (m_letter_writer_turn l13 b14 (⟨x18.Dir, x18.Next⟩ : S_api_Turn)).bind fun u23 => m_letter_row_api_Turn_l1 l6 k1 (IntKind.i64.wrap (x11 + 1)) u23.1 u23.2) else (some (l13, b14))
def m_letter_row_api_Turn (l3 : List Int) (b4 : Bool) (l6 : List S_api_Turn) : Option ((List Int) × Bool) :=
  (m_pack_Writer_Num l3 b4 (l6.length : Int)).bind fun u8 => m_letter_row_api_Turn_l1 l6 (((l6.length : Int) - 0 : Int).toNat + 1) 0 u8.1 u8.2
set_option maxRecDepth 20000 in
set_option maxHeartbeats 1000000 in
theorem c_letter_row_api_Turn {w : World} {Fo : List Ob} {rs : List Rp} (p1 : Nat) (v2 : Value) (l3 : List Int) (b4 : Bool) (v5 : Value) (l6 : List S_api_Turn) (H : Sep w (Blk p1 76 [v2, .bool b4] :: Row 5 (kI .u8) v2 l3 :: Fo) rs) (hr7 : rSl k_api_Turn v5 l6 ∈ rs) {r : (List Int) × Bool} (hm : m_letter_row_api_Turn l3 b4 l6 = some r) :
    Calls Try.prog 56 [.pointer (some ⟨p1, 0, none⟩), v5, .func (.func 57) #[.pointer (some ⟨p1, 0, none⟩)] #[]].toArray w (Ret fun v w' => ∃ (v5001 : Value), .tuple #[] = v ∧ Sep w' (Blk p1 76 [v5001, .bool r.2] :: Row 5 (kI .u8) v5001 r.1 :: Fo) (rs)) := by
 unfold m_letter_row_api_Turn at hm
 refine enter Try.func56 rfl Try.ntmps56 rfl fun a E => ?_
 simp only [enum, Nat.reduceAdd] at E
 refine wp_seq ?_
 refine wp_region_lit ?_
 refine sv E rfl rfl rfl (x_move E rfl rfl) ?_
 clear a E;intro a E
 refine sv E rfl rfl rfl (x_nil E rfl rfl) ?_
 clear a E;intro a E
 refine sv E rfl rfl rfl (x_fa E rfl rfl (v := .pointer (some ⟨p1, 0, none⟩)) (fa76_0 _ _)) ?_
 clear a E;intro a E
 refine sv E rfl rfl rfl (x_move E rfl rfl) ?_
 clear a E;intro a E
 refine sv E rfl rfl rfl (x_lenS E H rfl rfl hr7 Try.underlying43) ?_
 clear a E;intro a E
 obtain ⟨u8, hx9, hm⟩ := bnd hm
 refine st_call E (wn rfl) rfl rfl (x_call E rfl rfl (cf30 _)) (c_pack_Writer_Num p1 v2 l3 b4 (l6.length : Int) H hx9) ?_
 clear E H; clear a; clear w; rintro _ w ⟨v10, rfl, H⟩ a E
 refine wpList_nil ?_
 refine q_then ?_
 refine wp_seq ?_
 refine wp_region_lit ?_
 refine sv E rfl rfl rfl (x_move E rfl rfl) ?_
 clear a E;intro a E
 refine sv E rfl rfl rfl (x_lenS E H rfl rfl hr7 Try.underlying43) ?_
 clear a E;intro a E
 refine sv E rfl rfl rfl (x_move E rfl rfl) ?_
 clear a E;intro a E
 refine wpList_nil ?_
 refine q_then ?_
 refine wp_block ?_
 refine wp_loop_g (fun k1 a w => ∃ (v12 : Value) (x11 : Int) (l13 : (List Int)) (b14 : Bool) (rs15 : List Rp), Env 24 a [(2, .func (.func 57) #[.pointer (some ⟨p1, 0, none⟩)] #[]), (14, v5), (15, .int .i64 (l6.length : Int)), (16, .int .i64 x11)] ∧ Sep w (Blk p1 76 [v12, .bool b14] :: Row 5 (kI .u8) v12 l13 :: Fo) rs15 ∧ (∀ r, r ∈ rs → r ∈ rs15) ∧ rSl k_api_Turn v5 l6 ∈ rs15 ∧ m_letter_row_api_Turn_l1 l6 k1 x11 l13 b14 = some r) (((l6.length : Int) - 0 : Int).toNat + 1) ?_ ?_
 ·exact ⟨v10, 0, u8.1, u8.2, _, ((((E.nil.keep E 16 rfl).keep E 15 rfl).keep E 14 rfl).keep E 2 rfl), H, fun r hr => hr, hr7, hm⟩
 ·clear E H hm
  rintro k1 a w ⟨v12, x11, l13, b14, rs15, E, H, hs16, hr17, hm⟩
  cases k1 with
  | zero => exact (none_some hm rfl).elim
  | succ k1 =>
   unfold m_letter_row_api_Turn_l1 at hm
   refine wp_seq ?_
   refine wp_region_lit ?_
   refine sv E rfl rfl rfl (x_bin E rfl rfl rfl rfl) ?_
   clear a E;intro a E
   refine wpList_nil ?_
   refine q_then ?_
   refine wp_seq ?_
   refine wp_if E rfl ?_ ?_
   ·intro hb
    rw [if_t hb] at hm
    clear hb
    refine wp_skip ?_
    refine q_then ?_
    refine wp_seq ?_
    refine wp_block ?_
    refine wp_seq ?_
    refine wp_region_lit ?_
    obtain ⟨x18, hx19, hm⟩ := bnd hm
    refine st_ixS E H (wn rfl) rfl rfl rfl rfl rfl hr17 Try.underlying43 sz66 hx19 ?_
    clear E H; clear a; intro q20 a H E
    refine st_ldN E H (wn rfl) rfl rfl rfl rfl (.head _) Try.underlying66 rfl sz66 ?_
    clear E H; clear a; intro u21 a H E
    obtain ⟨_, hcs⟩ := H.rd (.head _)
    obtain rfl := k_api_Turn_open hcs
    clear hcs
    refine st_alloc E H (wn rfl) rfl rfl (cs := [.string (ByteArray.mk #[]), .int .i64 0]) rfl (z := .agg #[.string ⟨#[]⟩, .int .i64 0]) (by kernel_rfl) rfl ?_
    clear E H; clear a; clear w; intro p22 w a H E
    refine st_st (i := 0) E H (wn rfl) rfl (us := [.string x18.Dir, .int .i64 x18.Next]) rfl rfl rfl rfl rfl sz66 rfl rfl ?_
    clear H; clear w; intro w H
    replace H : Sep w (Blk p22 66 [.string x18.Dir, .int .i64 x18.Next] :: Blk p1 76 [v12, .bool b14] :: Row 5 (kI .u8) v12 l13 :: Fo) _ := H
    refine wpList_nil ?_
    refine q_then ?_
    refine wp_region_lit ?_
    refine sv E rfl rfl rfl (x_move E rfl rfl) ?_
    clear a E;intro a E
    refine sv E rfl rfl rfl (x_ldBN (i := 0) (us := [.string x18.Dir, .int .i64 x18.Next]) E H rfl rfl rfl rfl Try.underlying66 rfl sz66) ?_
    clear a E;intro a E
    replace H := H.front 0 rfl
    replace H := H.front 2 rfl
    replace H := H.front 2 rfl
    replace H : Sep w (Blk p1 76 [v12, .bool b14] :: Row 5 (kI .u8) v12 l13 :: Blk p22 66 [.string x18.Dir, .int .i64 x18.Next] :: Fo) (rCs k_api_Turn [.string x18.Dir, .int .i64 x18.Next] x18 :: rAt k_api_Turn q20 x18 :: rs15) := H
    obtain ⟨u23, hx24, hm⟩ := bnd hm
    refine st_call E (wn rfl) rfl rfl (x_callv E rfl rfl rfl (cf57 _)) (c_letter_writer_turn p1 v12 l13 b14 (⟨x18.Dir, x18.Next⟩ : S_api_Turn) H hx24) ?_
    clear E H; clear a; clear w; rintro _ w ⟨v25, rfl, H⟩ a E
    refine wpList_nil ?_
    refine q_blk ?_
    refine q_then ?_
    refine wp_region_lit ?_
    refine sv E rfl rfl rfl (x_bin E rfl rfl rfl rfl) ?_
    clear a E;intro a E
    refine sv E rfl rfl rfl (x_move E rfl rfl) ?_
    clear a E;intro a E
    refine wpList_nil ?_
    refine q_then ?_
    replace H := H.drop 2
    exact ⟨k1, Nat.lt_succ_self k1, v25, IntKind.i64.wrap (x11 + 1), u23.1, u23.2, _, ((((E.nil.keep E 16 rfl).keep E 15 rfl).keep E 14 rfl).keep E 2 rfl), H, fun r hr => .tail _ (.tail _ (hs16 r hr)), (.tail _ (.tail _ hr17)), hm⟩
   ·intro hb
    rw [if_f hb] at hm
    clear hb
    refine wp_exit ?_
    refine q_thenX ?_
    refine q_thenX ?_
    refine q_hit ?_
    refine out0 E rfl ?_
    obtain rfl := Option.some.inj hm
    exact ⟨v12, rfl, H.reads (fun r hr => hs16 r hr)⟩
end Go.Cb

set_option linter.unusedVariables false
set_option linter.unusedSimpArgs false
namespace Go.Cb
open Go.Proofs Go.RowKit
def m_letter_row_int64_l1 (l6 : List Int) : Nat → Int → (List Int) → Bool → Option ((List Int) × Bool)
  | 0, _, _, _ => none
  | k1 + 1, x11, l13, b14 =>
    if (decide (x11 < (l6.length : Int))) = true then ((idx l6 x11).bind fun x18 => (m_pack_Writer_Num l13 b14 x18).bind fun u21 => m_letter_row_int64_l1 l6 k1 (IntKind.i64.wrap (x11 + 1)) u21.1 u21.2) else (some (l13, b14))
def m_letter_row_int64 (l3 : List Int) (b4 : Bool) (l6 : List Int) : Option ((List Int) × Bool) :=
  (m_pack_Writer_Num l3 b4 (l6.length : Int)).bind fun u8 => m_letter_row_int64_l1 l6 (((l6.length : Int) - 0 : Int).toNat + 1) 0 u8.1 u8.2
set_option maxRecDepth 20000 in
set_option maxHeartbeats 1000000 in
theorem c_letter_row_int64 {w : World} {Fo : List Ob} {rs : List Rp} (p1 : Nat) (v2 : Value) (l3 : List Int) (b4 : Bool) (v5 : Value) (l6 : List Int) (H : Sep w (Blk p1 76 [v2, .bool b4] :: Row 5 (kI .u8) v2 l3 :: Fo) rs) (hr7 : rSl (kI .i64) v5 l6 ∈ rs) {r : (List Int) × Bool} (hm : m_letter_row_int64 l3 b4 l6 = some r) :
    Calls Try.prog 62 [.pointer (some ⟨p1, 0, none⟩), v5, .func (.func 30) #[.pointer (some ⟨p1, 0, none⟩)] #[]].toArray w (Ret fun v w' => ∃ (v5001 : Value), .tuple #[] = v ∧ Sep w' (Blk p1 76 [v5001, .bool r.2] :: Row 5 (kI .u8) v5001 r.1 :: Fo) (rs)) := by
 unfold m_letter_row_int64 at hm
 refine enter Try.func62 rfl Try.ntmps62 rfl fun a E => ?_
 simp only [enum, Nat.reduceAdd] at E
 refine wp_seq ?_
 refine wp_region_lit ?_
 refine sv E rfl rfl rfl (x_move E rfl rfl) ?_
 clear a E;intro a E
 refine sv E rfl rfl rfl (x_nil E rfl rfl) ?_
 clear a E;intro a E
 refine sv E rfl rfl rfl (x_fa E rfl rfl (v := .pointer (some ⟨p1, 0, none⟩)) (fa76_0 _ _)) ?_
 clear a E;intro a E
 refine sv E rfl rfl rfl (x_move E rfl rfl) ?_
 clear a E;intro a E
 refine sv E rfl rfl rfl (x_lenS E H rfl rfl hr7 Try.underlying48) ?_
 clear a E;intro a E
 obtain ⟨u8, hx9, hm⟩ := bnd hm
 refine st_call E (wn rfl) rfl rfl (x_call E rfl rfl (cf30 _)) (c_pack_Writer_Num p1 v2 l3 b4 (l6.length : Int) H hx9) ?_
 clear E H; clear a; clear w; rintro _ w ⟨v10, rfl, H⟩ a E
 refine wpList_nil ?_
 refine q_then ?_
 refine wp_seq ?_
 refine wp_region_lit ?_
 refine sv E rfl rfl rfl (x_move E rfl rfl) ?_
 clear a E;intro a E
 refine sv E rfl rfl rfl (x_lenS E H rfl rfl hr7 Try.underlying48) ?_
 clear a E;intro a E
 refine sv E rfl rfl rfl (x_move E rfl rfl) ?_
 clear a E;intro a E
 refine wpList_nil ?_
 refine q_then ?_
 refine wp_block ?_
 refine wp_loop_g (fun k1 a w => ∃ (v12 : Value) (x11 : Int) (l13 : (List Int)) (b14 : Bool) (rs15 : List Rp), Env 24 a [(2, .func (.func 30) #[.pointer (some ⟨p1, 0, none⟩)] #[]), (14, v5), (15, .int .i64 (l6.length : Int)), (16, .int .i64 x11)] ∧ Sep w (Blk p1 76 [v12, .bool b14] :: Row 5 (kI .u8) v12 l13 :: Fo) rs15 ∧ (∀ r, r ∈ rs → r ∈ rs15) ∧ rSl (kI .i64) v5 l6 ∈ rs15 ∧ m_letter_row_int64_l1 l6 k1 x11 l13 b14 = some r) (((l6.length : Int) - 0 : Int).toNat + 1) ?_ ?_
 ·exact ⟨v10, 0, u8.1, u8.2, _, ((((E.nil.keep E 16 rfl).keep E 15 rfl).keep E 14 rfl).keep E 2 rfl), H, fun r hr => hr, hr7, hm⟩
 ·clear E H hm
  rintro k1 a w ⟨v12, x11, l13, b14, rs15, E, H, hs16, hr17, hm⟩
  cases k1 with
  | zero => exact (none_some hm rfl).elim
  | succ k1 =>
   unfold m_letter_row_int64_l1 at hm
   refine wp_seq ?_
   refine wp_region_lit ?_
   refine sv E rfl rfl rfl (x_bin E rfl rfl rfl rfl) ?_
   clear a E;intro a E
   refine wpList_nil ?_
   refine q_then ?_
   refine wp_seq ?_
   refine wp_if E rfl ?_ ?_
   ·intro hb
    rw [if_t hb] at hm
    clear hb
    refine wp_skip ?_
    refine q_then ?_
    refine wp_seq ?_
    refine wp_block ?_
    refine wp_seq ?_
    refine wp_region_lit ?_
    obtain ⟨x18, hx19, hm⟩ := bnd hm
    refine st_ixS E H (wn rfl) rfl rfl rfl rfl rfl hr17 Try.underlying48 sz2 hx19 ?_
    clear E H; clear a; intro q20 a H E
    refine sv E rfl rfl rfl (x_ldA E H rfl rfl (.head _) Try.underlying2 rfl) ?_
    clear a E;intro a E
    refine sv E rfl rfl rfl (x_assign E rfl rfl) ?_
    clear a E;intro a E
    refine wpList_nil ?_
    refine q_then ?_
    refine wp_region_lit ?_
    refine sv E rfl rfl rfl (x_move E rfl rfl) ?_
    clear a E;intro a E
    refine sv E rfl rfl rfl (x_move E rfl rfl) ?_
    clear a E;intro a E
    obtain ⟨u21, hx22, hm⟩ := bnd hm
    refine st_call E (wn rfl) rfl rfl (x_callv E rfl rfl rfl (cf30 _)) (c_pack_Writer_Num p1 v12 l13 b14 x18 H hx22) ?_
    clear E H; clear a; clear w; rintro _ w ⟨v23, rfl, H⟩ a E
    refine wpList_nil ?_
    refine q_blk ?_
    refine q_then ?_
    refine wp_region_lit ?_
    refine sv E rfl rfl rfl (x_bin E rfl rfl rfl rfl) ?_
    clear a E;intro a E
    refine sv E rfl rfl rfl (x_move E rfl rfl) ?_
    clear a E;intro a E
    refine wpList_nil ?_
    refine q_then ?_
    exact ⟨k1, Nat.lt_succ_self k1, v23, IntKind.i64.wrap (x11 + 1), u21.1, u21.2, _, ((((E.nil.keep E 16 rfl).keep E 15 rfl).keep E 14 rfl).keep E 2 rfl), H, fun r hr => .tail _ (hs16 r hr), (.tail _ hr17), hm⟩
   ·intro hb
    rw [if_f hb] at hm
    clear hb
    refine wp_exit ?_
    refine q_thenX ?_
    refine q_thenX ?_
    refine q_hit ?_
    refine out0 E rfl ?_
    obtain rfl := Option.some.inj hm
    exact ⟨v12, rfl, H.reads (fun r hr => hs16 r hr)⟩
end Go.Cb

set_option linter.unusedVariables false
set_option linter.unusedSimpArgs false
namespace Go.Cb
open Go.Proofs Go.RowKit
def m_letter_writer_bit (l3 : List Int) (b4 : Bool) (b5 : Bool) : Option ((List Int) × Bool) :=
  if b5 = true then ((m_pack_Writer_Num l3 b4 1).bind fun u6 => some (u6.1, u6.2)) else ((m_pack_Writer_Num l3 b4 0).bind fun u9 => some (u9.1, u9.2))
set_option maxRecDepth 20000 in
set_option maxHeartbeats 1000000 in
theorem c_letter_writer_bit {w : World} {Fo : List Ob} {rs : List Rp} (p1 : Nat) (v2 : Value) (l3 : List Int) (b4 : Bool) (b5 : Bool) (H : Sep w (Blk p1 76 [v2, .bool b4] :: Row 5 (kI .u8) v2 l3 :: Fo) rs) {r : (List Int) × Bool} (hm : m_letter_writer_bit l3 b4 b5 = some r) :
    Calls Try.prog 51 [.pointer (some ⟨p1, 0, none⟩), .bool b5].toArray w (Ret fun v w' => ∃ (v5001 : Value), .tuple #[] = v ∧ Sep w' (Blk p1 76 [v5001, .bool r.2] :: Row 5 (kI .u8) v5001 r.1 :: Fo) (rs)) := by
 unfold m_letter_writer_bit at hm
 refine enter Try.func51 rfl Try.ntmps51 rfl fun a E => ?_
 simp only [enum, Nat.reduceAdd] at E
 refine wp_seq ?_
 refine wp_region_lit ?_
 refine sv E rfl rfl rfl (x_move E rfl rfl) ?_
 clear a E;intro a E
 refine wpList_nil ?_
 refine q_then ?_
 refine wp_if E rfl ?_ ?_
 ·intro hb
  rw [if_t hb] at hm
  clear hb
  refine wp_region_lit ?_
  refine sv E rfl rfl rfl (x_move E rfl rfl) ?_
  clear a E;intro a E
  refine sv E rfl rfl rfl (x_nil E rfl rfl) ?_
  clear a E;intro a E
  refine sv E rfl rfl rfl (x_fa E rfl rfl (v := .pointer (some ⟨p1, 0, none⟩)) (fa76_0 _ _)) ?_
  clear a E;intro a E
  obtain ⟨u6, hx7, hm⟩ := bnd hm
  refine st_call E (wn rfl) rfl rfl (x_call E rfl rfl (cf30 _)) (c_pack_Writer_Num p1 v2 l3 b4 1 H hx7) ?_
  clear E H; clear a; clear w; rintro _ w ⟨v8, rfl, H⟩ a E
  refine wpList_nil ?_
  refine out0 E rfl ?_
  obtain rfl := Option.some.inj hm
  exact ⟨v8, rfl, H.reads (fun r hr => hr)⟩
 ·intro hb
  rw [if_f hb] at hm
  clear hb
  refine wp_region_lit ?_
  refine sv E rfl rfl rfl (x_move E rfl rfl) ?_
  clear a E;intro a E
  refine sv E rfl rfl rfl (x_nil E rfl rfl) ?_
  clear a E;intro a E
  refine sv E rfl rfl rfl (x_fa E rfl rfl (v := .pointer (some ⟨p1, 0, none⟩)) (fa76_0 _ _)) ?_
  clear a E;intro a E
  obtain ⟨u9, hx10, hm⟩ := bnd hm
  refine st_call E (wn rfl) rfl rfl (x_call E rfl rfl (cf30 _)) (c_pack_Writer_Num p1 v2 l3 b4 0 H hx10) ?_
  clear E H; clear a; clear w; rintro _ w ⟨v11, rfl, H⟩ a E
  refine wpList_nil ?_
  refine out0 E rfl ?_
  obtain rfl := Option.some.inj hm
  exact ⟨v11, rfl, H.reads (fun r hr => hr)⟩
end Go.Cb

set_option linter.unusedVariables false
set_option linter.unusedSimpArgs false
namespace Go.Cb
open Go.Proofs Go.RowKit
def m_letter_PutAnswer (x1 : S_api_Answer) : Option ((List Int) × Int) :=
  (m_letter_writer_nums [] false ([x1.Err, x1.At] : List Int)).bind fun u29 => (m_letter_writer_bit u29.1 u29.2 x1.Yes).bind fun u32 => (m_pack_Writer_Num u32.1 u32.2 x1.Epoch).bind fun u35 => (m_letter_row_api_Result u35.1 u35.2 x1.Results).bind fun u38 => (m_letter_row_api_Node u38.1 u38.2 x1.Store.Nodes).bind fun u41 => (m_letter_row_api_Turn u41.1 u41.2 x1.Store.Turns).bind fun u44 => (m_letter_row_api_Event u44.1 u44.2 x1.Events).bind fun u47 => (m_letter_row_api_Mount u47.1 u47.2 x1.Mounts).bind fun u50 => (m_letter_row_int64 u50.1 u50.2 x1.Wounded).bind fun u53 => (m_pack_Writer_Bytes u53.1 u53.2).bind fun u56 => some (u56.1, u56.2)
set_option maxRecDepth 20000 in
set_option maxHeartbeats 1000000 in
theorem c_letter_PutAnswer {w : World} {Fo : List Ob} {rs : List Rp} (x1 : S_api_Answer) (v2 : Value) (v3 : Value) (v4 : Value) (v5 : Value) (v6 : Value) (v7 : Value) (H : Sep w (Fo) rs) (hr8 : rSl k_api_Result v2 x1.Results ∈ rs) (hr9 : rSl k_api_Node v3 x1.Store.Nodes ∈ rs) (hr10 : rSl k_api_Turn v4 x1.Store.Turns ∈ rs) (hr11 : rSl k_api_Event v5 x1.Events ∈ rs) (hr12 : rSl k_api_Mount v6 x1.Mounts ∈ rs) (hr13 : rSl (kI .i64) v7 x1.Wounded ∈ rs) {r : (List Int) × Int} (hm : m_letter_PutAnswer x1 = some r) :
    Calls Try.prog 22 [.agg #[.int .i64 x1.Err, .int .i64 x1.At, .bool x1.Yes, .int .i64 x1.Epoch, v2, v3, v4, v5, v6, v7]].toArray w (Ret fun v w' => ∃ (v5001 : Value), .tuple #[v5001, .int .i64 r.2] = v ∧ Sep w' (Row 5 (kI .u8) v5001 r.1 :: Fo) (rs)) := by
 unfold m_letter_PutAnswer at hm
 refine enter Try.func22 rfl Try.ntmps22 rfl fun a E => ?_
 simp only [enum, Nat.reduceAdd] at E
 refine wp_seq ?_
 refine wp_region_lit ?_
 obtain ⟨q15, x16, rfl⟩ := H.slform hr8
 obtain ⟨q17, x18, rfl⟩ := H.slform hr9
 obtain ⟨q19, x20, rfl⟩ := H.slform hr10
 obtain ⟨q21, x22, rfl⟩ := H.slform hr11
 obtain ⟨q23, x24, rfl⟩ := H.slform hr12
 obtain ⟨q25, x26, rfl⟩ := H.slform hr13
 refine st_box E H (wn rfl) rfl rfl (cs := [.int .i64 x1.Err, .int .i64 x1.At, .bool x1.Yes, .int .i64 x1.Epoch, (.slice q15 x1.Results.length x16), (.slice q17 x1.Store.Nodes.length x18), (.slice q19 x1.Store.Turns.length x20), (.slice q21 x1.Events.length x22), (.slice q23 x1.Mounts.length x24), (.slice q25 x1.Wounded.length x26)]) rfl rfl rfl ?_
 clear E H; clear a; clear w; intro p14 w a H E
 refine sv E rfl rfl rfl (x_assign E rfl rfl) ?_
 clear a E;intro a E
 refine sv E rfl rfl rfl (x_assign E rfl rfl) ?_
 clear a E;intro a E
 refine wpList_nil ?_
 refine q_then ?_
 refine wp_seq ?_
 refine wp_region_lit ?_
 refine sv E rfl rfl rfl (x_build E (ps := []) (vs := []) rfl rfl (v := .agg #[.slice none 0 0, .bool false]) (by kernel_rfl)) ?_
 clear a E;intro a E
 refine st_box E H (wn rfl) rfl rfl (cs := [.slice none 0 0, .bool false]) rfl rfl rfl ?_
 clear E H; clear a; clear w; intro p27 w a H E
 refine sv E rfl rfl rfl (x_assign E rfl rfl) ?_
 clear a E;intro a E
 refine wpList_nil ?_
 refine q_then ?_
 refine wp_seq ?_
 refine wp_region_lit ?_
 refine sv E rfl rfl rfl (x_move E rfl rfl) ?_
 clear a E;intro a E
 refine sv E rfl rfl rfl (x_fa E rfl rfl (v := .pointer (some ⟨p14, 0, none⟩)) (fa50_0 _ _)) ?_
 clear a E;intro a E
 refine sv E rfl rfl rfl (x_ldB (i := 1) E H rfl rfl rfl rfl Try.underlying30 rfl) ?_
 clear a E;intro a E
 refine sv E rfl rfl rfl (x_fa E rfl rfl (v := .pointer (some ⟨p14, 1, none⟩)) (fa50_1 _ _)) ?_
 clear a E;intro a E
 refine sv E rfl rfl rfl (x_ldB (i := 1) E H rfl rfl rfl rfl Try.underlying3 rfl) ?_
 clear a E;intro a E
 refine st_bsO (e := 2) (d := (kI .i64)) (cs := [.int .i64 x1.Err, .int .i64 x1.At]) (xs := [x1.Err, x1.At]) E H (wn rfl) rfl rfl (ps := [(0, .tmp 9), (1, .tmp 11)]) (parts := [(0, .int .i64 x1.Err), (1, .int .i64 x1.At)]) rfl (by simp only [List.map]; rw [E.eval (x := .tmp 9) (v := .int .i64 x1.Err) rfl, E.eval (x := .tmp 11) (v := .int .i64 x1.At) rfl]) (by kernel_rfl) rfl rfl (fun ok hr => (Rows.append (Rows.single (d := (kI .i64)) (cs := [.int .i64 x1.Err]) (x := x1.Err) rfl) (Rows.single (d := (kI .i64)) (cs := [.int .i64 x1.At]) (x := x1.At) rfl))) ?_
 clear E H; clear a; clear w; intro v28 w a H E
 replace H := H.thaw (i := 0) rfl
 replace H := H.nilRow 5 (kI .u8)
 replace H := H.front 2 rfl
 replace H := H.front 1 rfl
 replace H := H.front 2 rfl
 replace H : Sep w (Blk p27 76 [.slice none 0 0, .bool false] :: Row 5 (kI .u8) (.slice none 0 0) ([] : List Int) :: Blk p14 50 [.int .i64 x1.Err, .int .i64 x1.At, .bool x1.Yes, .int .i64 x1.Epoch, (.slice q15 x1.Results.length x16), (.slice q17 x1.Store.Nodes.length x18), (.slice q19 x1.Store.Turns.length x20), (.slice q21 x1.Events.length x22), (.slice q23 x1.Mounts.length x24), (.slice q25 x1.Wounded.length x26)] :: Fo) (rSl (kI .i64) v28 ([x1.Err, x1.At] : List Int) :: rs) := H
 obtain ⟨u29, hx30, hm⟩ := bnd hm
 refine st_call E (wn rfl) rfl rfl (x_call E rfl rfl (cf28 _)) (c_letter_writer_nums p27 (.slice none 0 0) [] false v28 ([x1.Err, x1.At] : List Int) H (.head _) hx30) ?_
 clear E H; clear a; clear w; rintro _ w ⟨v31, rfl, H⟩ a E
 refine wpList_nil ?_
 refine q_then ?_
 refine wp_seq ?_
 refine wp_region_lit ?_
 refine sv E rfl rfl rfl (x_move E rfl rfl) ?_
 clear a E;intro a E
 refine sv E rfl rfl rfl (x_fa E rfl rfl (v := .pointer (some ⟨p14, 2, none⟩)) (fa50_2 _ _)) ?_
 clear a E;intro a E
 refine sv E rfl rfl rfl (x_ldB (i := 2) E H rfl rfl rfl rfl Try.underlying4 rfl) ?_
 clear a E;intro a E
 obtain ⟨u32, hx33, hm⟩ := bnd hm
 refine st_call E (wn rfl) rfl rfl (x_call E rfl rfl (cf51 _)) (c_letter_writer_bit p27 v31 u29.1 u29.2 x1.Yes H hx33) ?_
 clear E H; clear a; clear w; rintro _ w ⟨v34, rfl, H⟩ a E
 refine wpList_nil ?_
 refine q_then ?_
 refine wp_seq ?_
 replace H : Sep w (Blk p27 76 [v34, .bool u32.2] :: Row 5 (kI .u8) v34 u32.1 :: Blk p14 50 [.int .i64 x1.Err, .int .i64 x1.At, .bool x1.Yes, .int .i64 x1.Epoch, (.slice q15 x1.Results.length x16), (.slice q17 x1.Store.Nodes.length x18), (.slice q19 x1.Store.Turns.length x20), (.slice q21 x1.Events.length x22), (.slice q23 x1.Mounts.length x24), (.slice q25 x1.Wounded.length x26)] :: Fo) (rSl (kI .i64) v28 ([x1.Err, x1.At] : List Int) :: rs) := H
 have hI : Still [Blk p14 50 [.int .i64 x1.Err, .int .i64 x1.At, .bool x1.Yes, .int .i64 x1.Epoch, (.slice q15 x1.Results.length x16), (.slice q17 x1.Store.Nodes.length x18), (.slice q19 x1.Store.Turns.length x20), (.slice q21 x1.Events.length x22), (.slice q23 x1.Mounts.length x24), (.slice q25 x1.Wounded.length x26)]] [] { w with drawn := w.drawn + 1 } := ⟨_, _, H.kept (Kp.drawn _ w _), (subO_cons (.tail _ (.tail _ (.head _))) (subO_nil)), (sub_nil)⟩
 refine wp_draw _ [(0, 0), (1, 0), (2, 0), (3, 0), (4, 0), (5, 1)] mixedOk (by kernel_rfl) (fun _ _ _ h => False.elim h.2) hI ?_
 replace H := H.kept (Kp.drawn _ w (w.drawn + 1))
 generalize ({ w with drawn := w.drawn + 1 } : World) = w at H hI ⊢
 replace hI : ∃ W, Still [Blk p14 50 [.int .i64 x1.Err, .int .i64 x1.At, .bool x1.Yes, .int .i64 x1.Epoch, (.slice q15 x1.Results.length x16), (.slice q17 x1.Store.Nodes.length x18), (.slice q19 x1.Store.Turns.length x20), (.slice q21 x1.Events.length x22), (.slice q23 x1.Mounts.length x24), (.slice q25 x1.Wounded.length x26)]] [] W := ⟨_, hI⟩
 obtain ⟨W0, hI⟩ := hI
 refine fr_val E rfl (wn rfl) rfl rfl (fun w hW => (x_move E rfl rfl)) ?_
 clear a E;intro a E
 refine fr_val E rfl (wn rfl) rfl rfl (fun w hW => (x_nil E rfl rfl)) ?_
 clear a E;intro a E
 refine fr_val E rfl (wn rfl) rfl rfl (fun w hW => x_fa E rfl rfl (v := .pointer (some ⟨p27, 0, none⟩)) (fa76_0 _ _)) ?_
 clear a E;intro a E
 refine fr_val E rfl (wn rfl) rfl rfl (fun w hW => x_fa E rfl rfl (v := .pointer (some ⟨p14, 3, none⟩)) (fa50_3 _ _)) ?_
 clear a E;intro a E
 refine fr_val E rfl (wn rfl) rfl rfl (fun w hW => x_ld E rfl rfl (ib_ld (.head _) rfl Try.underlying2 rfl w hW)) ?_
 clear a E;intro a E
 refine fr_op rfl ?_
 obtain ⟨u35, hx36, hm⟩ := bnd hm
 refine st_call E (wn rfl) rfl rfl (x_call E rfl rfl (cf30 _)) (c_pack_Writer_Num p27 v34 u32.1 u32.2 x1.Epoch H hx36) ?_
 clear E H; clear a; clear w; rintro _ w ⟨v37, rfl, H⟩ a E
 refine wpList_nil ?_
 refine q_then ?_
 replace H : Sep w (Blk p27 76 [v37, .bool u35.2] :: Row 5 (kI .u8) v37 u35.1 :: Blk p14 50 [.int .i64 x1.Err, .int .i64 x1.At, .bool x1.Yes, .int .i64 x1.Epoch, (.slice q15 x1.Results.length x16), (.slice q17 x1.Store.Nodes.length x18), (.slice q19 x1.Store.Turns.length x20), (.slice q21 x1.Events.length x22), (.slice q23 x1.Mounts.length x24), (.slice q25 x1.Wounded.length x26)] :: Fo) (rSl (kI .i64) v28 ([x1.Err, x1.At] : List Int) :: rs) := H
 refine ⟨⟨_, _, H, (subO_cons (.tail _ (.tail _ (.head _))) (subO_nil)), (sub_nil)⟩, ?_⟩
 refine fr_nil ?_
 clear hI
 refine q_then ?_
 refine wp_seq ?_
 refine wp_region_lit ?_
 refine sv E rfl rfl rfl (x_move E rfl rfl) ?_
 clear a E;intro a E
 refine sv E rfl rfl rfl (x_fa E rfl rfl (v := .pointer (some ⟨p14, 4, none⟩)) (fa50_4 _ _)) ?_
 clear a E;intro a E
 refine sv E rfl rfl rfl (x_ldB (i := 2) E H rfl rfl rfl rfl Try.underlying41 rfl) ?_
 clear a E;intro a E
 refine sv E rfl rfl rfl (x_move E rfl rfl) ?_
 clear a E;intro a E
 refine sv E rfl rfl rfl (x_func E rfl rfl rfl) ?_
 clear a E;intro a E
 obtain ⟨u38, hx39, hm⟩ := bnd hm
 refine st_call E (wn rfl) rfl rfl (x_call E rfl rfl (cf52 _)) (c_letter_row_api_Result p27 v37 u35.1 u35.2 (.slice q15 x1.Results.length x16) x1.Results H (.tail _ hr8) hx39) ?_
 clear E H; clear a; clear w; rintro _ w ⟨v40, rfl, H⟩ a E
 refine wpList_nil ?_
 refine q_then ?_
 refine wp_seq ?_
 refine wp_region_lit ?_
 refine sv E rfl rfl rfl (x_move E rfl rfl) ?_
 clear a E;intro a E
 refine sv E rfl rfl rfl (x_fa E rfl rfl (v := .pointer (some ⟨p14, 5, none⟩)) (fa50_5 _ _)) ?_
 clear a E;intro a E
 refine sv E rfl rfl rfl (x_fa E rfl rfl (v := .pointer (some ⟨p14, 5, none⟩)) (fa45_0 _ _)) ?_
 clear a E;intro a E
 refine sv E rfl rfl rfl (x_ldB (i := 2) E H rfl rfl rfl rfl Try.underlying42 rfl) ?_
 clear a E;intro a E
 refine sv E rfl rfl rfl (x_move E rfl rfl) ?_
 clear a E;intro a E
 refine sv E rfl rfl rfl (x_func E rfl rfl rfl) ?_
 clear a E;intro a E
 obtain ⟨u41, hx42, hm⟩ := bnd hm
 refine st_call E (wn rfl) rfl rfl (x_call E rfl rfl (cf54 _)) (c_letter_row_api_Node p27 v40 u38.1 u38.2 (.slice q17 x1.Store.Nodes.length x18) x1.Store.Nodes H (.tail _ hr9) hx42) ?_
 clear E H; clear a; clear w; rintro _ w ⟨v43, rfl, H⟩ a E
 refine wpList_nil ?_
 refine q_then ?_
 refine wp_seq ?_
 refine wp_region_lit ?_
 refine sv E rfl rfl rfl (x_move E rfl rfl) ?_
 clear a E;intro a E
 refine sv E rfl rfl rfl (x_fa E rfl rfl (v := .pointer (some ⟨p14, 5, none⟩)) (fa50_5 _ _)) ?_
 clear a E;intro a E
 refine sv E rfl rfl rfl (x_fa E rfl rfl (v := .pointer (some ⟨p14, 6, none⟩)) (fa45_1 _ _)) ?_
 clear a E;intro a E
 refine sv E rfl rfl rfl (x_ldB (i := 2) E H rfl rfl rfl rfl Try.underlying43 rfl) ?_
 clear a E;intro a E
 refine sv E rfl rfl rfl (x_move E rfl rfl) ?_
 clear a E;intro a E
 refine sv E rfl rfl rfl (x_func E rfl rfl rfl) ?_
 clear a E;intro a E
 obtain ⟨u44, hx45, hm⟩ := bnd hm
 refine st_call E (wn rfl) rfl rfl (x_call E rfl rfl (cf56 _)) (c_letter_row_api_Turn p27 v43 u41.1 u41.2 (.slice q19 x1.Store.Turns.length x20) x1.Store.Turns H (.tail _ hr10) hx45) ?_
 clear E H; clear a; clear w; rintro _ w ⟨v46, rfl, H⟩ a E
 refine wpList_nil ?_
 refine q_then ?_
 refine wp_seq ?_
 refine wp_region_lit ?_
 refine sv E rfl rfl rfl (x_move E rfl rfl) ?_
 clear a E;intro a E
 refine sv E rfl rfl rfl (x_fa E rfl rfl (v := .pointer (some ⟨p14, 7, none⟩)) (fa50_6 _ _)) ?_
 clear a E;intro a E
 refine sv E rfl rfl rfl (x_ldB (i := 2) E H rfl rfl rfl rfl Try.underlying46 rfl) ?_
 clear a E;intro a E
 refine sv E rfl rfl rfl (x_move E rfl rfl) ?_
 clear a E;intro a E
 refine sv E rfl rfl rfl (x_func E rfl rfl rfl) ?_
 clear a E;intro a E
 obtain ⟨u47, hx48, hm⟩ := bnd hm
 refine st_call E (wn rfl) rfl rfl (x_call E rfl rfl (cf58 _)) (c_letter_row_api_Event p27 v46 u44.1 u44.2 (.slice q21 x1.Events.length x22) x1.Events H (.tail _ hr11) hx48) ?_
 clear E H; clear a; clear w; rintro _ w ⟨v49, rfl, H⟩ a E
 refine wpList_nil ?_
 refine q_then ?_
 refine wp_seq ?_
 refine wp_region_lit ?_
 refine sv E rfl rfl rfl (x_move E rfl rfl) ?_
 clear a E;intro a E
 refine sv E rfl rfl rfl (x_fa E rfl rfl (v := .pointer (some ⟨p14, 8, none⟩)) (fa50_7 _ _)) ?_
 clear a E;intro a E
 refine sv E rfl rfl rfl (x_ldB (i := 2) E H rfl rfl rfl rfl Try.underlying47 rfl) ?_
 clear a E;intro a E
 refine sv E rfl rfl rfl (x_move E rfl rfl) ?_
 clear a E;intro a E
 refine sv E rfl rfl rfl (x_func E rfl rfl rfl) ?_
 clear a E;intro a E
 obtain ⟨u50, hx51, hm⟩ := bnd hm
 refine st_call E (wn rfl) rfl rfl (x_call E rfl rfl (cf60 _)) (c_letter_row_api_Mount p27 v49 u47.1 u47.2 (.slice q23 x1.Mounts.length x24) x1.Mounts H (.tail _ hr12) hx51) ?_
 clear E H; clear a; clear w; rintro _ w ⟨v52, rfl, H⟩ a E
 refine wpList_nil ?_
 refine q_then ?_
 refine wp_seq ?_
 replace H : Sep w (Blk p27 76 [v52, .bool u50.2] :: Row 5 (kI .u8) v52 u50.1 :: Blk p14 50 [.int .i64 x1.Err, .int .i64 x1.At, .bool x1.Yes, .int .i64 x1.Epoch, (.slice q15 x1.Results.length x16), (.slice q17 x1.Store.Nodes.length x18), (.slice q19 x1.Store.Turns.length x20), (.slice q21 x1.Events.length x22), (.slice q23 x1.Mounts.length x24), (.slice q25 x1.Wounded.length x26)] :: Fo) (rSl (kI .i64) v28 ([x1.Err, x1.At] : List Int) :: rs) := H
 have hI : Still [Blk p14 50 [.int .i64 x1.Err, .int .i64 x1.At, .bool x1.Yes, .int .i64 x1.Epoch, (.slice q15 x1.Results.length x16), (.slice q17 x1.Store.Nodes.length x18), (.slice q19 x1.Store.Turns.length x20), (.slice q21 x1.Events.length x22), (.slice q23 x1.Mounts.length x24), (.slice q25 x1.Wounded.length x26)]] [] { w with drawn := w.drawn + 1 } := ⟨_, _, H.kept (Kp.drawn _ w _), (subO_cons (.tail _ (.tail _ (.head _))) (subO_nil)), (sub_nil)⟩
 refine wp_draw _ [(0, 0), (1, 0), (2, 0), (3, 0), (4, 0), (5, 0), (6, 0), (7, 1)] mixedOk (by kernel_rfl) (fun _ _ _ h => False.elim h.2) hI ?_
 replace H := H.kept (Kp.drawn _ w (w.drawn + 1))
 generalize ({ w with drawn := w.drawn + 1 } : World) = w at H hI ⊢
 replace hI : ∃ W, Still [Blk p14 50 [.int .i64 x1.Err, .int .i64 x1.At, .bool x1.Yes, .int .i64 x1.Epoch, (.slice q15 x1.Results.length x16), (.slice q17 x1.Store.Nodes.length x18), (.slice q19 x1.Store.Turns.length x20), (.slice q21 x1.Events.length x22), (.slice q23 x1.Mounts.length x24), (.slice q25 x1.Wounded.length x26)]] [] W := ⟨_, hI⟩
 obtain ⟨W0, hI⟩ := hI
 refine fr_val E rfl (wn rfl) rfl rfl (fun w hW => (x_move E rfl rfl)) ?_
 clear a E;intro a E
 refine fr_val E rfl (wn rfl) rfl rfl (fun w hW => x_fa E rfl rfl (v := .pointer (some ⟨p14, 9, none⟩)) (fa50_8 _ _)) ?_
 clear a E;intro a E
 refine fr_val E rfl (wn rfl) rfl rfl (fun w hW => x_ld E rfl rfl (ib_ld (.head _) rfl Try.underlying48 rfl w hW)) ?_
 clear a E;intro a E
 refine fr_val E rfl (wn rfl) rfl rfl (fun w hW => (x_move E rfl rfl)) ?_
 clear a E;intro a E
 refine fr_val E rfl (wn rfl) rfl rfl (fun w hW => (x_nil E rfl rfl)) ?_
 clear a E;intro a E
 refine fr_val E rfl (wn rfl) rfl rfl (fun w hW => x_fa E rfl rfl (v := .pointer (some ⟨p27, 0, none⟩)) (fa76_0 _ _)) ?_
 clear a E;intro a E
 refine fr_val E rfl (wn rfl) rfl rfl (fun w hW => (x_func E rfl rfl rfl)) ?_
 clear a E;intro a E
 refine fr_op rfl ?_
 obtain ⟨u53, hx54, hm⟩ := bnd hm
 refine st_call E (wn rfl) rfl rfl (x_call E rfl rfl (cf62 _)) (c_letter_row_int64 p27 v52 u50.1 u50.2 (.slice q25 x1.Wounded.length x26) x1.Wounded H (.tail _ hr13) hx54) ?_
 clear E H; clear a; clear w; rintro _ w ⟨v55, rfl, H⟩ a E
 refine wpList_nil ?_
 refine q_then ?_
 replace H : Sep w (Blk p27 76 [v55, .bool u53.2] :: Row 5 (kI .u8) v55 u53.1 :: Blk p14 50 [.int .i64 x1.Err, .int .i64 x1.At, .bool x1.Yes, .int .i64 x1.Epoch, (.slice q15 x1.Results.length x16), (.slice q17 x1.Store.Nodes.length x18), (.slice q19 x1.Store.Turns.length x20), (.slice q21 x1.Events.length x22), (.slice q23 x1.Mounts.length x24), (.slice q25 x1.Wounded.length x26)] :: Fo) (rSl (kI .i64) v28 ([x1.Err, x1.At] : List Int) :: rs) := H
 refine ⟨⟨_, _, H, (subO_cons (.tail _ (.tail _ (.head _))) (subO_nil)), (sub_nil)⟩, ?_⟩
 refine fr_nil ?_
 clear hI
 refine q_then ?_
 refine wp_seq ?_
 refine wp_region_lit ?_
 refine sv E rfl rfl rfl (x_move E rfl rfl) ?_
 clear a E;intro a E
 refine sv E rfl rfl rfl (x_nil E rfl rfl) ?_
 clear a E;intro a E
 refine sv E rfl rfl rfl (x_fa E rfl rfl (v := .pointer (some ⟨p27, 0, none⟩)) (fa76_0 _ _)) ?_
 clear a E;intro a E
 obtain ⟨u56, hx57, hm⟩ := bnd hm
 refine st_call E (wn rfl) rfl rfl (x_call E rfl rfl (cf32 _)) (c_pack_Writer_Bytes p27 v55 u53.1 u53.2 H hx57) ?_
 clear E H; clear a; clear w; rintro _ w ⟨v58, rfl, H⟩ a E
 refine sv E rfl rfl rfl (x_ext E rfl rfl rfl) ?_
 clear a E;intro a E
 refine sv E rfl rfl rfl (x_ext E rfl rfl rfl) ?_
 clear a E;intro a E
 refine sv E rfl rfl rfl (x_assign E rfl rfl) ?_
 clear a E;intro a E
 refine sv E rfl rfl rfl (x_assign E rfl rfl) ?_
 clear a E;intro a E
 refine wpList_nil ?_
 refine q_then ?_
 refine wp_ret ?_
 refine out2 E rfl rfl rfl ?_
 replace H := H.drop 1
 replace H := H.drop 1
 replace H := H.drop 1
 obtain rfl := Option.some.inj hm
 exact ⟨v58, rfl, H.reads (fun r hr => .tail _ (hr))⟩
end Go.Cb

set_option linter.unusedVariables false
set_option linter.unusedSimpArgs false
namespace Go.Cb
open Go.Proofs Go.RowKit
def m_letter_PutSaved (x1 : S_api_Saved) : Option ((List Int) × Int) :=
  (m_letter_writer_nums [] false ([x1.View, x1.Normal] : List Int)).bind fun u9 => (m_pack_Writer_Texts u9.1 u9.2 x1.Log).bind fun u12 => (m_pack_Writer_Bytes u12.1 u12.2).bind fun u15 => some (u15.1, u15.2)
set_option maxRecDepth 20000 in
set_option maxHeartbeats 1000000 in
theorem c_letter_PutSaved {w : World} {Fo : List Ob} {rs : List Rp} (x1 : S_api_Saved) (v2 : Value) (H : Sep w (Fo) rs) (hr3 : rSl kS v2 x1.Log ∈ rs) {r : (List Int) × Int} (hm : m_letter_PutSaved x1 = some r) :
    Calls Try.prog 13 [.agg #[.int .i64 x1.View, .int .i64 x1.Normal, v2]].toArray w (Ret fun v w' => ∃ (v5001 : Value), .tuple #[v5001, .int .i64 r.2] = v ∧ Sep w' (Row 5 (kI .u8) v5001 r.1 :: Fo) (rs)) := by
 unfold m_letter_PutSaved at hm
 refine enter Try.func13 rfl Try.ntmps13 rfl fun a E => ?_
 simp only [enum, Nat.reduceAdd] at E
 refine wp_seq ?_
 refine wp_region_lit ?_
 obtain ⟨q5, x6, rfl⟩ := H.slform hr3
 refine st_box E H (wn rfl) rfl rfl (cs := [.int .i64 x1.View, .int .i64 x1.Normal, (.slice q5 x1.Log.length x6)]) rfl rfl rfl ?_
 clear E H; clear a; clear w; intro p4 w a H E
 refine sv E rfl rfl rfl (x_assign E rfl rfl) ?_
 clear a E;intro a E
 refine sv E rfl rfl rfl (x_assign E rfl rfl) ?_
 clear a E;intro a E
 refine wpList_nil ?_
 refine q_then ?_
 refine wp_seq ?_
 refine wp_region_lit ?_
 refine sv E rfl rfl rfl (x_build E (ps := []) (vs := []) rfl rfl (v := .agg #[.slice none 0 0, .bool false]) (by kernel_rfl)) ?_
 clear a E;intro a E
 refine st_box E H (wn rfl) rfl rfl (cs := [.slice none 0 0, .bool false]) rfl rfl rfl ?_
 clear E H; clear a; clear w; intro p7 w a H E
 refine sv E rfl rfl rfl (x_assign E rfl rfl) ?_
 clear a E;intro a E
 refine wpList_nil ?_
 refine q_then ?_
 refine wp_seq ?_
 refine wp_region_lit ?_
 refine sv E rfl rfl rfl (x_move E rfl rfl) ?_
 clear a E;intro a E
 refine sv E rfl rfl rfl (x_fa E rfl rfl (v := .pointer (some ⟨p4, 0, none⟩)) (fa26_0 _ _)) ?_
 clear a E;intro a E
 refine sv E rfl rfl rfl (x_ldB (i := 1) E H rfl rfl rfl rfl Try.underlying2 rfl) ?_
 clear a E;intro a E
 refine sv E rfl rfl rfl (x_fa E rfl rfl (v := .pointer (some ⟨p4, 1, none⟩)) (fa26_1 _ _)) ?_
 clear a E;intro a E
 refine sv E rfl rfl rfl (x_ldB (i := 1) E H rfl rfl rfl rfl Try.underlying2 rfl) ?_
 clear a E;intro a E
 refine st_bsO (e := 2) (d := (kI .i64)) (cs := [.int .i64 x1.View, .int .i64 x1.Normal]) (xs := [x1.View, x1.Normal]) E H (wn rfl) rfl rfl (ps := [(0, .tmp 9), (1, .tmp 11)]) (parts := [(0, .int .i64 x1.View), (1, .int .i64 x1.Normal)]) rfl (by simp only [List.map]; rw [E.eval (x := .tmp 9) (v := .int .i64 x1.View) rfl, E.eval (x := .tmp 11) (v := .int .i64 x1.Normal) rfl]) (by kernel_rfl) rfl rfl (fun ok hr => (Rows.append (Rows.single (d := (kI .i64)) (cs := [.int .i64 x1.View]) (x := x1.View) rfl) (Rows.single (d := (kI .i64)) (cs := [.int .i64 x1.Normal]) (x := x1.Normal) rfl))) ?_
 clear E H; clear a; clear w; intro v8 w a H E
 replace H := H.thaw (i := 0) rfl
 replace H := H.nilRow 5 (kI .u8)
 replace H := H.front 2 rfl
 replace H := H.front 1 rfl
 replace H := H.front 2 rfl
 replace H : Sep w (Blk p7 76 [.slice none 0 0, .bool false] :: Row 5 (kI .u8) (.slice none 0 0) ([] : List Int) :: Blk p4 26 [.int .i64 x1.View, .int .i64 x1.Normal, (.slice q5 x1.Log.length x6)] :: Fo) (rSl (kI .i64) v8 ([x1.View, x1.Normal] : List Int) :: rs) := H
 obtain ⟨u9, hx10, hm⟩ := bnd hm
 refine st_call E (wn rfl) rfl rfl (x_call E rfl rfl (cf28 _)) (c_letter_writer_nums p7 (.slice none 0 0) [] false v8 ([x1.View, x1.Normal] : List Int) H (.head _) hx10) ?_
 clear E H; clear a; clear w; rintro _ w ⟨v11, rfl, H⟩ a E
 refine wpList_nil ?_
 refine q_then ?_
 refine wp_seq ?_
 replace H : Sep w (Blk p7 76 [v11, .bool u9.2] :: Row 5 (kI .u8) v11 u9.1 :: Blk p4 26 [.int .i64 x1.View, .int .i64 x1.Normal, (.slice q5 x1.Log.length x6)] :: Fo) (rSl (kI .i64) v8 ([x1.View, x1.Normal] : List Int) :: rs) := H
 have hI : Still [Blk p4 26 [.int .i64 x1.View, .int .i64 x1.Normal, (.slice q5 x1.Log.length x6)]] [] { w with drawn := w.drawn + 1 } := ⟨_, _, H.kept (Kp.drawn _ w _), (subO_cons (.tail _ (.tail _ (.head _))) (subO_nil)), (sub_nil)⟩
 refine wp_draw _ [(0, 0), (1, 0), (2, 0), (3, 0), (4, 0), (5, 1)] mixedOk (by kernel_rfl) (fun _ _ _ h => False.elim h.2) hI ?_
 replace H := H.kept (Kp.drawn _ w (w.drawn + 1))
 generalize ({ w with drawn := w.drawn + 1 } : World) = w at H hI ⊢
 replace hI : ∃ W, Still [Blk p4 26 [.int .i64 x1.View, .int .i64 x1.Normal, (.slice q5 x1.Log.length x6)]] [] W := ⟨_, hI⟩
 obtain ⟨W0, hI⟩ := hI
 refine fr_val E rfl (wn rfl) rfl rfl (fun w hW => (x_move E rfl rfl)) ?_
 clear a E;intro a E
 refine fr_val E rfl (wn rfl) rfl rfl (fun w hW => (x_nil E rfl rfl)) ?_
 clear a E;intro a E
 refine fr_val E rfl (wn rfl) rfl rfl (fun w hW => x_fa E rfl rfl (v := .pointer (some ⟨p7, 0, none⟩)) (fa76_0 _ _)) ?_
 clear a E;intro a E
 refine fr_val E rfl (wn rfl) rfl rfl (fun w hW => x_fa E rfl rfl (v := .pointer (some ⟨p4, 2, none⟩)) (fa26_2 _ _)) ?_
 clear a E;intro a E
 refine fr_val E rfl (wn rfl) rfl rfl (fun w hW => x_ld E rfl rfl (ib_ld (.head _) rfl Try.underlying22 rfl w hW)) ?_
 clear a E;intro a E
 refine fr_op rfl ?_
 obtain ⟨u12, hx13, hm⟩ := bnd hm
 refine st_call E (wn rfl) rfl rfl (x_call E rfl rfl (cf29 _)) (c_pack_Writer_Texts p7 v11 u9.1 u9.2 (.slice q5 x1.Log.length x6) x1.Log H (.tail _ hr3) hx13) ?_
 clear E H; clear a; clear w; rintro _ w ⟨v14, rfl, H⟩ a E
 refine wpList_nil ?_
 refine q_then ?_
 replace H : Sep w (Blk p7 76 [v14, .bool u12.2] :: Row 5 (kI .u8) v14 u12.1 :: Blk p4 26 [.int .i64 x1.View, .int .i64 x1.Normal, (.slice q5 x1.Log.length x6)] :: Fo) (rSl (kI .i64) v8 ([x1.View, x1.Normal] : List Int) :: rs) := H
 refine ⟨⟨_, _, H, (subO_cons (.tail _ (.tail _ (.head _))) (subO_nil)), (sub_nil)⟩, ?_⟩
 refine fr_nil ?_
 clear hI
 refine q_then ?_
 refine wp_seq ?_
 refine wp_region_lit ?_
 refine sv E rfl rfl rfl (x_move E rfl rfl) ?_
 clear a E;intro a E
 refine sv E rfl rfl rfl (x_nil E rfl rfl) ?_
 clear a E;intro a E
 refine sv E rfl rfl rfl (x_fa E rfl rfl (v := .pointer (some ⟨p7, 0, none⟩)) (fa76_0 _ _)) ?_
 clear a E;intro a E
 obtain ⟨u15, hx16, hm⟩ := bnd hm
 refine st_call E (wn rfl) rfl rfl (x_call E rfl rfl (cf32 _)) (c_pack_Writer_Bytes p7 v14 u12.1 u12.2 H hx16) ?_
 clear E H; clear a; clear w; rintro _ w ⟨v17, rfl, H⟩ a E
 refine sv E rfl rfl rfl (x_ext E rfl rfl rfl) ?_
 clear a E;intro a E
 refine sv E rfl rfl rfl (x_ext E rfl rfl rfl) ?_
 clear a E;intro a E
 refine sv E rfl rfl rfl (x_assign E rfl rfl) ?_
 clear a E;intro a E
 refine sv E rfl rfl rfl (x_assign E rfl rfl) ?_
 clear a E;intro a E
 refine wpList_nil ?_
 refine q_then ?_
 refine wp_ret ?_
 refine out2 E rfl rfl rfl ?_
 replace H := H.drop 1
 replace H := H.drop 1
 replace H := H.drop 1
 obtain rfl := Option.some.inj hm
 exact ⟨v17, rfl, H.reads (fun r hr => .tail _ (hr))⟩
end Go.Cb
