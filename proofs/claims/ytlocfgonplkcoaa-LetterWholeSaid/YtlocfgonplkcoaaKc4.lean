/- Functions of the program, walked: each comes to its plain function. -/
import Derived.Test.YtlocfgonplkcoaaKc3
set_option linter.unusedVariables false
set_option linter.unusedSimpArgs false
namespace Go.Cb
open Go.Proofs Go.RowKit
def m_cantonref17_GetAnswer_j3 (u10 : Int × (List Int) × Int) (u13 : Int × (List Int) × Int) (u16 : Int × (List Int) × Int) (u19 : Int × (List Int) × Int) (u22 : (List S_api_Result) × (List Int) × Int) (u28 : S_api_Store × (List Int) × Int) (l44 : (List S_api_Event)) (l57 : (List S_api_Mount)) (l67 : (List Int)) (x68 : Int) (l70 : (List Int)) : Option (S_api_Answer × Int) :=
  (m_cantonref02_Reader_End l67 x68).bind fun u76 => if (!u76) = true then (some ((⟨0, 0, false, 0, [], (⟨[], []⟩ : S_api_Store), [], [], []⟩ : S_api_Answer), 3)) else (some ((⟨u10.1, u13.1, u16.1 == 1, u19.1, u22.1, (⟨u28.1.Nodes, u28.1.Turns⟩ : S_api_Store), l44, l57, l70⟩ : S_api_Answer), 0))
def m_cantonref17_GetAnswer_l1 (u10 : Int × (List Int) × Int) (u13 : Int × (List Int) × Int) (u16 : Int × (List Int) × Int) (u19 : Int × (List Int) × Int) (u22 : (List S_api_Result) × (List Int) × Int) (u28 : S_api_Store × (List Int) × Int) (l44 : (List S_api_Event)) (l57 : (List S_api_Mount)) (u63 : Int × (List Int) × Int) : Nat → Int → (List Int) → Int → (List Int) → Option (S_api_Answer × Int)
  | 0, _, _, _, _ => none
  | k1 + 1, x84, l86, x87, l89 =>
    if (decide (x84 < u63.1)) = true then (if (x87 == 0) = true then ((m_cantonref02_Reader_Num l86 x87 281474976710656).bind fun u96 => (ck (l89.length + ([u96.1] : List Int).length ≤ LIM)).bind fun u101 => m_cantonref17_GetAnswer_l1 u10 u13 u16 u19 u22 u28 l44 l57 u63 k1 (IntKind.i64.wrap (x84 + 1)) u96.2.1 u96.2.2 (l89 ++ ([u96.1] : List Int))) else (m_cantonref17_GetAnswer_j3 u10 u13 u16 u19 u22 u28 l44 l57 l86 x87 l89)) else (m_cantonref17_GetAnswer_j3 u10 u13 u16 u19 u22 u28 l44 l57 l86 x87 l89)
def m_cantonref17_GetAnswer_j2 (u10 : Int × (List Int) × Int) (u13 : Int × (List Int) × Int) (u16 : Int × (List Int) × Int) (u19 : Int × (List Int) × Int) (u22 : (List S_api_Result) × (List Int) × Int) (u28 : S_api_Store × (List Int) × Int) (l44 : (List S_api_Event)) (l54 : (List Int)) (x55 : Int) (l57 : (List S_api_Mount)) : Option (S_api_Answer × Int) :=
  (m_cantonref02_Reader_Num l54 x55 281474976710656).bind fun u63 => m_cantonref17_GetAnswer_l1 u10 u13 u16 u19 u22 u28 l44 l57 u63 (u63.1.toNat + 2) 0 u63.2.1 u63.2.2 []
def m_cantonref17_GetAnswer_l2 (u10 : Int × (List Int) × Int) (u13 : Int × (List Int) × Int) (u16 : Int × (List Int) × Int) (u19 : Int × (List Int) × Int) (u22 : (List S_api_Result) × (List Int) × Int) (u28 : S_api_Store × (List Int) × Int) (l44 : (List S_api_Event)) (u50 : Int × (List Int) × Int) : Nat → Int → (List Int) → Int → (List S_api_Mount) → Option (S_api_Answer × Int)
  | 0, _, _, _, _ => none
  | k2 + 1, x105, l107, x108, l110 =>
    if (decide (x105 < u50.1)) = true then (if (x108 == 0) = true then ((m_cantonref02_Reader_Text l107 x108).bind fun u118 => (m_cantonref02_Reader_Num u118.2.1 u118.2.2 281474976710656).bind fun u121 => (m_cantonref02_Reader_Num u121.2.1 u121.2.2 281474976710656).bind fun u124 => (m_cantonref02_Reader_Num u124.2.1 u124.2.2 281474976710656).bind fun u127 => (ck (l110.length + ([(⟨u118.1, u121.1, u124.1, u127.1⟩ : S_api_Mount)] : List S_api_Mount).length ≤ LIM)).bind fun u132 => m_cantonref17_GetAnswer_l2 u10 u13 u16 u19 u22 u28 l44 u50 k2 (IntKind.i64.wrap (x105 + 1)) u127.2.1 u127.2.2 (l110 ++ ([(⟨u118.1, u121.1, u124.1, u127.1⟩ : S_api_Mount)] : List S_api_Mount))) else (m_cantonref17_GetAnswer_j2 u10 u13 u16 u19 u22 u28 l44 l107 x108 l110)) else (m_cantonref17_GetAnswer_j2 u10 u13 u16 u19 u22 u28 l44 l107 x108 l110)
def m_cantonref17_GetAnswer_j1 (u10 : Int × (List Int) × Int) (u13 : Int × (List Int) × Int) (u16 : Int × (List Int) × Int) (u19 : Int × (List Int) × Int) (u22 : (List S_api_Result) × (List Int) × Int) (u28 : S_api_Store × (List Int) × Int) (l41 : (List Int)) (x42 : Int) (l44 : (List S_api_Event)) : Option (S_api_Answer × Int) :=
  (m_cantonref02_Reader_Num l41 x42 281474976710656).bind fun u50 => m_cantonref17_GetAnswer_l2 u10 u13 u16 u19 u22 u28 l44 u50 (u50.1.toNat + 2) 0 u50.2.1 u50.2.2 []
def m_cantonref17_GetAnswer_l3 (u10 : Int × (List Int) × Int) (u13 : Int × (List Int) × Int) (u16 : Int × (List Int) × Int) (u19 : Int × (List Int) × Int) (u22 : (List S_api_Result) × (List Int) × Int) (u28 : S_api_Store × (List Int) × Int) (u37 : Int × (List Int) × Int) : Nat → Int → (List Int) → Int → (List S_api_Event) → Option (S_api_Answer × Int)
  | 0, _, _, _, _ => none
  | k3 + 1, x136, l138, x139, l141 =>
    if (decide (x136 < u37.1)) = true then (if (x139 == 0) = true then ((m_cantonref02_Reader_Num l138 x139 281474976710656).bind fun u149 => (m_cantonref02_Reader_Num u149.2.1 u149.2.2 281474976710656).bind fun u152 => (m_cantonref02_Reader_Text u152.2.1 u152.2.2).bind fun u155 => (m_cantonref02_Reader_Num u155.2.1 u155.2.2 281474976710656).bind fun u158 => (ck (l141.length + ([(⟨u149.1, u152.1, u155.1, u158.1⟩ : S_api_Event)] : List S_api_Event).length ≤ LIM)).bind fun u163 => m_cantonref17_GetAnswer_l3 u10 u13 u16 u19 u22 u28 u37 k3 (IntKind.i64.wrap (x136 + 1)) u158.2.1 u158.2.2 (l141 ++ ([(⟨u149.1, u152.1, u155.1, u158.1⟩ : S_api_Event)] : List S_api_Event))) else (m_cantonref17_GetAnswer_j1 u10 u13 u16 u19 u22 u28 l138 x139 l141)) else (m_cantonref17_GetAnswer_j1 u10 u13 u16 u19 u22 u28 l138 x139 l141)
def m_cantonref17_GetAnswer (l2 : List Int) : Option (S_api_Answer × Int) :=
  (m_cantonref02_New l2).bind fun u5 => (m_cantonref02_Reader_Num u5 0 281474976710656).bind fun u10 => (m_cantonref02_Reader_Num u10.2.1 u10.2.2 281474976710656).bind fun u13 => (m_cantonref02_Reader_Num u13.2.1 u13.2.2 1).bind fun u16 => (m_cantonref02_Reader_Num u16.2.1 u16.2.2 281474976710656).bind fun u19 => (m_cantonref17_results u19.2.1 u19.2.2).bind fun u22 => (m_cantonref17_store u22.2.1 u22.2.2).bind fun u28 => (m_cantonref02_Reader_Num u28.2.1 u28.2.2 281474976710656).bind fun u37 => m_cantonref17_GetAnswer_l3 u10 u13 u16 u19 u22 u28 u37 (u37.1.toNat + 2) 0 u37.2.1 u37.2.2 []
set_option maxRecDepth 20000 in
set_option maxHeartbeats 1000000 in
theorem c_cantonref17_GetAnswer {w : World} {Fo : List Ob} {rs : List Rp} (v1 : Value) (l2 : List Int) (H : Sep w (Fo) rs) (hr3 : rSl (kI .u8) v1 l2 ∈ rs) {r : S_api_Answer × Int} (hm : m_cantonref17_GetAnswer l2 = some r) :
    Calls Try.prog 25 [v1].toArray w (Ret fun v w' => ∃ (v5002 : Value) (v5003 : Value) (v5004 : Value) (v5005 : Value) (v5006 : Value) (v5007 : Value), .tuple #[.agg #[.int .i64 r.1.Err, .int .i64 r.1.At, .bool r.1.Yes, .int .i64 r.1.Epoch, v5002, v5003, v5004, v5005, v5006, v5007], .int .i64 r.2] = v ∧ Sep w' (Fo) (rSl k_api_Result v5002 r.1.Results :: rSl k_api_Node v5003 r.1.Store.Nodes :: rSl k_api_Turn v5004 r.1.Store.Turns :: rSl k_api_Event v5005 r.1.Events :: rSl k_api_Mount v5006 r.1.Mounts :: rSl (kI .i64) v5007 r.1.Wounded :: rs)) := by
 unfold m_cantonref17_GetAnswer at hm
 refine enter Try.func25 rfl Try.ntmps25 rfl fun a E => ?_
 simp only [enum, Nat.reduceAdd] at E
 refine wp_seq ?_
 refine wp_region_lit ?_
 refine st_alloc E H (wn rfl) rfl rfl (cs := [.int .i64 0, .int .i64 0, .bool false, .int .i64 0, .slice none 0 0, .slice none 0 0, .slice none 0 0, .slice none 0 0, .slice none 0 0, .slice none 0 0]) rfl (z := .agg #[.int .i64 0, .int .i64 0, .bool false, .int .i64 0, .slice none 0 0, .slice none 0 0, .slice none 0 0, .slice none 0 0, .slice none 0 0, .slice none 0 0]) (by kernel_rfl) rfl ?_
 clear E H; clear a; clear w; intro p4 w a H E
 refine st_val E (wn rfl) rfl rfl (x_assign E rfl rfl) ?_
 clear a E;intro a E
 refine wpList_nil ?_
 refine q_then ?_
 refine wp_seq ?_
 refine wp_region_lit ?_
 refine st_val E (wn rfl) rfl rfl (x_move E rfl rfl) ?_
 clear a E;intro a E
 obtain ⟨u5, hx6, hm⟩ := bnd hm
 refine st_call E (wn rfl) rfl rfl (x_call E rfl rfl (cf43 _)) (c_cantonref02_New v1 l2 H hr3 hx6) ?_
 clear E H; clear a; clear w; rintro _ w ⟨p7, v8, rfl, H⟩ a E
 refine st_val E (wn rfl) rfl rfl (x_assign E rfl rfl) ?_
 clear a E;intro a E
 refine wpList_nil ?_
 refine q_then ?_
 refine wp_seq ?_
 refine wp_region_lit ?_
 refine st_alloc E H (wn rfl) rfl rfl (cs := [.int .i64 0, .int .i64 0, .bool false, .int .i64 0, .slice none 0 0, .slice none 0 0, .slice none 0 0, .slice none 0 0, .slice none 0 0, .slice none 0 0]) rfl (z := .agg #[.int .i64 0, .int .i64 0, .bool false, .int .i64 0, .slice none 0 0, .slice none 0 0, .slice none 0 0, .slice none 0 0, .slice none 0 0, .slice none 0 0]) (by kernel_rfl) rfl ?_
 clear E H; clear a; clear w; intro p9 w a H E
 refine wpList_nil ?_
 refine q_then ?_
 refine wp_seq ?_
 refine wp_region_lit ?_
 refine st_val E (wn rfl) rfl rfl (x_move E rfl rfl) ?_
 clear a E;intro a E
 replace H := H.thaw (i := 2) rfl
 replace H := H.front 2 rfl
 replace H := H.front 1 rfl
 replace H := H.front 2 rfl
 replace H : Sep w (Blk p7 128 [v8, .int .i64 0] :: Blk p9 50 [.int .i64 0, .int .i64 0, .bool false, .int .i64 0, .slice none 0 0, .slice none 0 0, .slice none 0 0, .slice none 0 0, .slice none 0 0, .slice none 0 0] :: Blk p4 50 [.int .i64 0, .int .i64 0, .bool false, .int .i64 0, .slice none 0 0, .slice none 0 0, .slice none 0 0, .slice none 0 0, .slice none 0 0, .slice none 0 0] :: Fo) (rSl (kI .u8) v8 u5 :: rs) := H
 obtain ⟨u10, hx11, hm⟩ := bnd hm
 refine st_call E (wn rfl) rfl rfl (x_call E rfl rfl (cf44 _)) (c_cantonref02_Reader_Num p7 v8 u5 0 281474976710656 H (.head _) hx11) ?_
 clear E H; clear a; clear w; rintro _ w ⟨v12, rfl, H⟩ a E
 refine st_val E (wn rfl) rfl rfl (x_fa E rfl rfl (v := .pointer (some ⟨p9, 0, none⟩)) (fa50_0 _ _)) ?_
 clear a E;intro a E
 refine st_st (i := 1) E H (wn rfl) rfl (us := [.int .i64 u10.1]) rfl rfl rfl rfl rfl sz30 rfl rfl ?_
 clear H; clear w; intro w H
 replace H : Sep w (Blk p7 128 [v12, .int .i64 u10.2.2] :: Blk p9 50 [.int .i64 u10.1, .int .i64 0, .bool false, .int .i64 0, .slice none 0 0, .slice none 0 0, .slice none 0 0, .slice none 0 0, .slice none 0 0, .slice none 0 0] :: Blk p4 50 [.int .i64 0, .int .i64 0, .bool false, .int .i64 0, .slice none 0 0, .slice none 0 0, .slice none 0 0, .slice none 0 0, .slice none 0 0, .slice none 0 0] :: Fo) _ := H
 refine wpList_nil ?_
 refine q_then ?_
 refine wp_seq ?_
 refine wp_region_lit ?_
 refine st_val E (wn rfl) rfl rfl (x_move E rfl rfl) ?_
 clear a E;intro a E
 obtain ⟨u13, hx14, hm⟩ := bnd hm
 refine st_call E (wn rfl) rfl rfl (x_call E rfl rfl (cf44 _)) (c_cantonref02_Reader_Num p7 v12 u10.2.1 u10.2.2 281474976710656 H (.head _) hx14) ?_
 clear E H; clear a; clear w; rintro _ w ⟨v15, rfl, H⟩ a E
 refine st_val E (wn rfl) rfl rfl (x_fa E rfl rfl (v := .pointer (some ⟨p9, 1, none⟩)) (fa50_1 _ _)) ?_
 clear a E;intro a E
 refine st_st (i := 1) E H (wn rfl) rfl (us := [.int .i64 u13.1]) rfl rfl rfl rfl rfl sz3 rfl rfl ?_
 clear H; clear w; intro w H
 replace H : Sep w (Blk p7 128 [v15, .int .i64 u13.2.2] :: Blk p9 50 [.int .i64 u10.1, .int .i64 u13.1, .bool false, .int .i64 0, .slice none 0 0, .slice none 0 0, .slice none 0 0, .slice none 0 0, .slice none 0 0, .slice none 0 0] :: Blk p4 50 [.int .i64 0, .int .i64 0, .bool false, .int .i64 0, .slice none 0 0, .slice none 0 0, .slice none 0 0, .slice none 0 0, .slice none 0 0, .slice none 0 0] :: Fo) _ := H
 refine wpList_nil ?_
 refine q_then ?_
 refine wp_seq ?_
 refine wp_region_lit ?_
 refine st_val E (wn rfl) rfl rfl (x_move E rfl rfl) ?_
 clear a E;intro a E
 obtain ⟨u16, hx17, hm⟩ := bnd hm
 refine st_call E (wn rfl) rfl rfl (x_call E rfl rfl (cf44 _)) (c_cantonref02_Reader_Num p7 v15 u13.2.1 u13.2.2 1 H (.head _) hx17) ?_
 clear E H; clear a; clear w; rintro _ w ⟨v18, rfl, H⟩ a E
 refine st_val E (wn rfl) rfl rfl (x_bin E rfl rfl rfl rfl) ?_
 clear a E;intro a E
 refine st_val E (wn rfl) rfl rfl (x_fa E rfl rfl (v := .pointer (some ⟨p9, 2, none⟩)) (fa50_2 _ _)) ?_
 clear a E;intro a E
 refine st_st (i := 1) E H (wn rfl) rfl (us := [.bool (u16.1 == 1)]) rfl rfl rfl rfl rfl sz4 rfl rfl ?_
 clear H; clear w; intro w H
 replace H : Sep w (Blk p7 128 [v18, .int .i64 u16.2.2] :: Blk p9 50 [.int .i64 u10.1, .int .i64 u13.1, .bool (u16.1 == 1), .int .i64 0, .slice none 0 0, .slice none 0 0, .slice none 0 0, .slice none 0 0, .slice none 0 0, .slice none 0 0] :: Blk p4 50 [.int .i64 0, .int .i64 0, .bool false, .int .i64 0, .slice none 0 0, .slice none 0 0, .slice none 0 0, .slice none 0 0, .slice none 0 0, .slice none 0 0] :: Fo) _ := H
 refine wpList_nil ?_
 refine q_then ?_
 refine wp_seq ?_
 refine wp_region_lit ?_
 refine st_val E (wn rfl) rfl rfl (x_move E rfl rfl) ?_
 clear a E;intro a E
 obtain ⟨u19, hx20, hm⟩ := bnd hm
 refine st_call E (wn rfl) rfl rfl (x_call E rfl rfl (cf44 _)) (c_cantonref02_Reader_Num p7 v18 u16.2.1 u16.2.2 281474976710656 H (.head _) hx20) ?_
 clear E H; clear a; clear w; rintro _ w ⟨v21, rfl, H⟩ a E
 refine st_val E (wn rfl) rfl rfl (x_fa E rfl rfl (v := .pointer (some ⟨p9, 3, none⟩)) (fa50_3 _ _)) ?_
 clear a E;intro a E
 refine st_st (i := 1) E H (wn rfl) rfl (us := [.int .i64 u19.1]) rfl rfl rfl rfl rfl sz2 rfl rfl ?_
 clear H; clear w; intro w H
 replace H : Sep w (Blk p7 128 [v21, .int .i64 u19.2.2] :: Blk p9 50 [.int .i64 u10.1, .int .i64 u13.1, .bool (u16.1 == 1), .int .i64 u19.1, .slice none 0 0, .slice none 0 0, .slice none 0 0, .slice none 0 0, .slice none 0 0, .slice none 0 0] :: Blk p4 50 [.int .i64 0, .int .i64 0, .bool false, .int .i64 0, .slice none 0 0, .slice none 0 0, .slice none 0 0, .slice none 0 0, .slice none 0 0, .slice none 0 0] :: Fo) _ := H
 refine wpList_nil ?_
 refine q_then ?_
 refine wp_seq ?_
 refine wp_region_lit ?_
 refine st_val E (wn rfl) rfl rfl (x_move E rfl rfl) ?_
 clear a E;intro a E
 obtain ⟨u22, hx23, hm⟩ := bnd hm
 refine st_call E (wn rfl) rfl rfl (x_call E rfl rfl (cf77 _)) (c_cantonref17_results p7 v21 u19.2.1 u19.2.2 H (.head _) hx23) ?_
 clear E H; clear a; clear w; rintro _ w ⟨v24, v25, rfl, H⟩ a E
 refine st_val E (wn rfl) rfl rfl (x_fa E rfl rfl (v := .pointer (some ⟨p9, 4, none⟩)) (fa50_4 _ _)) ?_
 clear a E;intro a E
 obtain ⟨q26, x27, rfl⟩ := H.rowform (i := 0) rfl
 refine st_st (i := 2) E H (wn rfl) rfl (us := [(.slice q26 u22.1.length x27)]) rfl rfl rfl rfl rfl sz41 rfl rfl ?_
 clear H; clear w; intro w H
 replace H : Sep w (Row 62 k_api_Result (.slice q26 u22.1.length x27) u22.1 :: Blk p7 128 [v25, .int .i64 u22.2.2] :: Blk p9 50 [.int .i64 u10.1, .int .i64 u13.1, .bool (u16.1 == 1), .int .i64 u19.1, (.slice q26 u22.1.length x27), .slice none 0 0, .slice none 0 0, .slice none 0 0, .slice none 0 0, .slice none 0 0] :: Blk p4 50 [.int .i64 0, .int .i64 0, .bool false, .int .i64 0, .slice none 0 0, .slice none 0 0, .slice none 0 0, .slice none 0 0, .slice none 0 0, .slice none 0 0] :: Fo) _ := H
 refine wpList_nil ?_
 refine q_then ?_
 refine wp_seq ?_
 refine wp_region_lit ?_
 refine st_val E (wn rfl) rfl rfl (x_move E rfl rfl) ?_
 clear a E;intro a E
 replace H := H.front 3 rfl
 replace H := H.front 3 rfl
 replace H := H.front 2 rfl
 replace H := H.front 3 rfl
 replace H : Sep w (Blk p7 128 [v25, .int .i64 u22.2.2] :: Row 62 k_api_Result (.slice q26 u22.1.length x27) u22.1 :: Blk p9 50 [.int .i64 u10.1, .int .i64 u13.1, .bool (u16.1 == 1), .int .i64 u19.1, (.slice q26 u22.1.length x27), .slice none 0 0, .slice none 0 0, .slice none 0 0, .slice none 0 0, .slice none 0 0] :: Blk p4 50 [.int .i64 0, .int .i64 0, .bool false, .int .i64 0, .slice none 0 0, .slice none 0 0, .slice none 0 0, .slice none 0 0, .slice none 0 0, .slice none 0 0] :: Fo) (rSl (kI .u8) v25 u22.2.1 :: rSl (kI .u8) v21 u19.2.1 :: rSl (kI .u8) v18 u16.2.1 :: rSl (kI .u8) v15 u13.2.1 :: rSl (kI .u8) v12 u10.2.1 :: rSl (kI .u8) v8 u5 :: rs) := H
 obtain ⟨u28, hx29, hm⟩ := bnd hm
 refine st_call E (wn rfl) rfl rfl (x_call E rfl rfl (cf78 _)) (c_cantonref17_store p7 v25 u22.2.1 u22.2.2 H (.head _) hx29) ?_
 clear E H; clear a; clear w; rintro _ w ⟨v30, v31, v32, rfl, H⟩ a E
 refine st_val E (wn rfl) rfl rfl (x_fa E rfl rfl (v := .pointer (some ⟨p9, 5, none⟩)) (fa50_5 _ _)) ?_
 clear a E;intro a E
 obtain ⟨q33, x34, rfl⟩ := H.slform (.head _)
 obtain ⟨q35, x36, rfl⟩ := H.slform (.tail _ (.head _))
 refine st_st (i := 2) E H (wn rfl) rfl (us := [(.slice q33 u28.1.Nodes.length x34), (.slice q35 u28.1.Turns.length x36)]) rfl rfl rfl rfl rfl sz45 rfl rfl ?_
 clear H; clear w; intro w H
 replace H : Sep w (Blk p7 128 [v32, .int .i64 u28.2.2] :: Row 62 k_api_Result (.slice q26 u22.1.length x27) u22.1 :: Blk p9 50 [.int .i64 u10.1, .int .i64 u13.1, .bool (u16.1 == 1), .int .i64 u19.1, (.slice q26 u22.1.length x27), (.slice q33 u28.1.Nodes.length x34), (.slice q35 u28.1.Turns.length x36), .slice none 0 0, .slice none 0 0, .slice none 0 0] :: Blk p4 50 [.int .i64 0, .int .i64 0, .bool false, .int .i64 0, .slice none 0 0, .slice none 0 0, .slice none 0 0, .slice none 0 0, .slice none 0 0, .slice none 0 0] :: Fo) _ := H
 refine wpList_nil ?_
 refine q_then ?_
 refine wp_seq ?_
 refine wp_region_lit ?_
 refine st_val E (wn rfl) rfl rfl (x_move E rfl rfl) ?_
 clear a E;intro a E
 obtain ⟨u37, hx38, hm⟩ := bnd hm
 refine st_call E (wn rfl) rfl rfl (x_call E rfl rfl (cf44 _)) (c_cantonref02_Reader_Num p7 v32 u28.2.1 u28.2.2 281474976710656 H (.tail _ (.tail _ (.head _))) hx38) ?_
 clear E H; clear a; clear w; rintro _ w ⟨v39, rfl, H⟩ a E
 refine st_val E (wn rfl) rfl rfl (x_assign E rfl rfl) ?_
 clear a E;intro a E
 refine wpList_nil ?_
 refine q_then ?_
 refine wp_seq_cut (fun a w => ∃ (v40 : Value) (v43 : Value) (l41 : (List Int)) (x42 : Int) (l44 : (List S_api_Event)) (rs45 : List Rp), Env 125 a [(2, .pointer (some ⟨p4, 0, none⟩)), (4, .pointer (some ⟨p7, 0, none⟩)), (5, .pointer (some ⟨p9, 0, none⟩))] ∧ Sep w (Blk p4 50 [.int .i64 0, .int .i64 0, .bool false, .int .i64 0, .slice none 0 0, .slice none 0 0, .slice none 0 0, .slice none 0 0, .slice none 0 0, .slice none 0 0] :: Blk p7 128 [v40, .int .i64 x42] :: Blk p9 50 [.int .i64 u10.1, .int .i64 u13.1, .bool (u16.1 == 1), .int .i64 u19.1, (.slice q26 u22.1.length x27), (.slice q33 u28.1.Nodes.length x34), (.slice q35 u28.1.Turns.length x36), v43, .slice none 0 0, .slice none 0 0] :: Row 62 k_api_Result (.slice q26 u22.1.length x27) u22.1 :: Row 68 k_api_Event v43 l44 :: Fo) rs45 ∧ (∀ r, r ∈ rs → r ∈ rs45) ∧ rSl (kI .u8) v40 l41 ∈ rs45 ∧ rSl k_api_Node (.slice q33 u28.1.Nodes.length x34) u28.1.Nodes ∈ rs45 ∧ rSl k_api_Turn (.slice q35 u28.1.Turns.length x36) u28.1.Turns ∈ rs45 ∧ m_cantonref17_GetAnswer_j1 u10 u13 u16 u19 u22 u28 l41 x42 l44 = some r) ?_ ?_
 ·refine wp_seq ?_
  refine wp_region_lit ?_
  refine st_val E (wn rfl) rfl rfl (x_assign E rfl rfl) ?_
  clear a E;intro a E
  refine wpList_nil ?_
  refine q_then ?_
  refine wp_block ?_
  refine wp_loop_g (fun k3 a w => ∃ (v137 : Value) (v140 : Value) (x136 : Int) (l138 : (List Int)) (x139 : Int) (l141 : (List S_api_Event)) (rs142 : List Rp), Env 125 a [(2, .pointer (some ⟨p4, 0, none⟩)), (4, .pointer (some ⟨p7, 0, none⟩)), (5, .pointer (some ⟨p9, 0, none⟩)), (6, .int .i64 u37.1), (7, .int .i64 x136)] ∧ Sep w (Blk p4 50 [.int .i64 0, .int .i64 0, .bool false, .int .i64 0, .slice none 0 0, .slice none 0 0, .slice none 0 0, .slice none 0 0, .slice none 0 0, .slice none 0 0] :: Blk p7 128 [v137, .int .i64 x139] :: Blk p9 50 [.int .i64 u10.1, .int .i64 u13.1, .bool (u16.1 == 1), .int .i64 u19.1, (.slice q26 u22.1.length x27), (.slice q33 u28.1.Nodes.length x34), (.slice q35 u28.1.Turns.length x36), v140, .slice none 0 0, .slice none 0 0] :: Row 62 k_api_Result (.slice q26 u22.1.length x27) u22.1 :: Row 68 k_api_Event v140 l141 :: Fo) rs142 ∧ (∀ r, r ∈ rs → r ∈ rs142) ∧ rSl (kI .u8) v137 l138 ∈ rs142 ∧ rSl k_api_Node (.slice q33 u28.1.Nodes.length x34) u28.1.Nodes ∈ rs142 ∧ rSl k_api_Turn (.slice q35 u28.1.Turns.length x36) u28.1.Turns ∈ rs142 ∧ m_cantonref17_GetAnswer_l3 u10 u13 u16 u19 u22 u28 u37 k3 x136 l138 x139 l141 = some r) (u37.1.toNat + 2) ?_ ?_
  ·replace H := H.nilRow 68 k_api_Event
   replace H := H.front 0 rfl
   replace H := H.front 2 rfl
   replace H := H.front 3 rfl
   replace H := H.front 3 rfl
   replace H := H.front 4 rfl
   exact ⟨v39, (.slice none 0 0), 0, u37.2.1, u37.2.2, [], _, (((((E.nil.keep E 7 rfl).keep E 6 rfl).keep E 5 rfl).keep E 4 rfl).keep E 2 rfl), H, fun r hr => .tail _ (.tail _ (.tail _ (.tail _ (.tail _ (.tail _ (.tail _ (.tail _ (.tail _ (.tail _ (hr)))))))))), (.head _), (.tail _ (.head _)), (.tail _ (.tail _ (.head _))), hm⟩
  ·clear E H hm
   rintro k3 a w ⟨v137, v140, x136, l138, x139, l141, rs142, E, H, hs143, hr144, hr145, hr146, hm⟩
   cases k3 with
   | zero => exact (none_some hm rfl).elim
   | succ k3 =>
    unfold m_cantonref17_GetAnswer_l3 at hm
    refine wp_seq ?_
    refine wp_seq ?_
    refine wp_region_lit ?_
    refine st_val E (wn rfl) rfl rfl (x_move E rfl rfl) ?_
    clear a E;intro a E
    refine st_val E (wn rfl) rfl rfl (x_move E rfl rfl) ?_
    clear a E;intro a E
    refine st_val E (wn rfl) rfl rfl (x_bin E rfl rfl rfl rfl) ?_
    clear a E;intro a E
    refine st_val E (wn rfl) rfl rfl (x_move E rfl rfl) ?_
    clear a E;intro a E
    rcases Bool.eq_false_or_eq_true (decide (x136 < u37.1)) with hb147 | hb147
    ·rw [if_t hb147] at hm
     refine st_val E (ws' E rfl rfl rfl rfl hb147) rfl rfl (x_move E rfl rfl) ?_
     clear a E;intro a E
     refine st_val E (ws' E rfl rfl rfl rfl hb147) rfl rfl (x_nil E rfl rfl) ?_
     clear a E;intro a E
     refine st_val E (ws' E rfl rfl rfl rfl hb147) rfl rfl (x_fa E rfl rfl (v := .pointer (some ⟨p7, 1, none⟩)) (fa128_1 _ _)) ?_
     clear a E;intro a E
     refine st_val E (ws' E rfl rfl rfl rfl hb147) rfl rfl (x_ldB (i := 1) E H rfl rfl rfl rfl Try.underlying30 rfl) ?_
     clear a E;intro a E
     refine st_val E (ws' E rfl rfl rfl rfl hb147) rfl rfl (x_bin E rfl rfl rfl rfl) ?_
     clear a E;intro a E
     refine st_val E (wn rfl) rfl rfl (x_pickT E rfl rfl hb147 rfl) ?_
     clear a E;intro a E
     refine wpList_nil ?_
     refine q_then ?_
     refine wp_if E rfl ?_ ?_
     ·intro hb
      rw [if_t hb] at hm
      clear hb
      refine wp_skip ?_
      refine q_then ?_
      refine wp_seq ?_
      refine wp_block ?_
      refine wp_seq ?_
      refine wp_region_lit ?_
      refine st_alloc E H (wn rfl) rfl rfl (cs := [.int .i64 0, .int .i64 0, .string (ByteArray.mk #[]), .int .i64 0]) rfl (z := .agg #[.int .i64 0, .int .i64 0, .string ⟨#[]⟩, .int .i64 0]) (by kernel_rfl) rfl ?_
      clear E H; clear a; clear w; intro p148 w a H E
      refine wpList_nil ?_
      refine q_then ?_
      refine wp_seq ?_
      refine wp_region_lit ?_
      refine st_val E (wn rfl) rfl rfl (x_move E rfl rfl) ?_
      clear a E;intro a E
      replace H := H.front 5 rfl
      replace H := H.front 5 rfl
      replace H := H.front 5 rfl
      replace H := H.front 4 rfl
      replace H := H.front 4 rfl
      replace H := H.front 5 rfl
      replace H : Sep w (Blk p7 128 [v137, .int .i64 x139] :: Blk p148 68 [.int .i64 0, .int .i64 0, .string (ByteArray.mk #[]), .int .i64 0] :: Blk p4 50 [.int .i64 0, .int .i64 0, .bool false, .int .i64 0, .slice none 0 0, .slice none 0 0, .slice none 0 0, .slice none 0 0, .slice none 0 0, .slice none 0 0] :: Blk p9 50 [.int .i64 u10.1, .int .i64 u13.1, .bool (u16.1 == 1), .int .i64 u19.1, (.slice q26 u22.1.length x27), (.slice q33 u28.1.Nodes.length x34), (.slice q35 u28.1.Turns.length x36), v140, .slice none 0 0, .slice none 0 0] :: Row 62 k_api_Result (.slice q26 u22.1.length x27) u22.1 :: Row 68 k_api_Event v140 l141 :: Fo) (rs142) := H
      obtain ⟨u149, hx150, hm⟩ := bnd hm
      refine st_call E (wn rfl) rfl rfl (x_call E rfl rfl (cf44 _)) (c_cantonref02_Reader_Num p7 v137 l138 x139 281474976710656 H hr144 hx150) ?_
      clear E H; clear a; clear w; rintro _ w ⟨v151, rfl, H⟩ a E
      refine st_val E (wn rfl) rfl rfl (x_fa E rfl rfl (v := .pointer (some ⟨p148, 0, none⟩)) (fa68_0 _ _)) ?_
      clear a E;intro a E
      refine st_st (i := 1) E H (wn rfl) rfl (us := [.int .i64 u149.1]) rfl rfl rfl rfl rfl sz2 rfl rfl ?_
      clear H; clear w; intro w H
      replace H : Sep w (Blk p7 128 [v151, .int .i64 u149.2.2] :: Blk p148 68 [.int .i64 u149.1, .int .i64 0, .string (ByteArray.mk #[]), .int .i64 0] :: Blk p4 50 [.int .i64 0, .int .i64 0, .bool false, .int .i64 0, .slice none 0 0, .slice none 0 0, .slice none 0 0, .slice none 0 0, .slice none 0 0, .slice none 0 0] :: Blk p9 50 [.int .i64 u10.1, .int .i64 u13.1, .bool (u16.1 == 1), .int .i64 u19.1, (.slice q26 u22.1.length x27), (.slice q33 u28.1.Nodes.length x34), (.slice q35 u28.1.Turns.length x36), v140, .slice none 0 0, .slice none 0 0] :: Row 62 k_api_Result (.slice q26 u22.1.length x27) u22.1 :: Row 68 k_api_Event v140 l141 :: Fo) _ := H
      refine wpList_nil ?_
      refine q_then ?_
      refine wp_seq ?_
      refine wp_region_lit ?_
      refine st_val E (wn rfl) rfl rfl (x_move E rfl rfl) ?_
      clear a E;intro a E
      obtain ⟨u152, hx153, hm⟩ := bnd hm
      refine st_call E (wn rfl) rfl rfl (x_call E rfl rfl (cf44 _)) (c_cantonref02_Reader_Num p7 v151 u149.2.1 u149.2.2 281474976710656 H (.head _) hx153) ?_
      clear E H; clear a; clear w; rintro _ w ⟨v154, rfl, H⟩ a E
      refine st_val E (wn rfl) rfl rfl (x_fa E rfl rfl (v := .pointer (some ⟨p148, 1, none⟩)) (fa68_1 _ _)) ?_
      clear a E;intro a E
      refine st_st (i := 1) E H (wn rfl) rfl (us := [.int .i64 u152.1]) rfl rfl rfl rfl rfl sz3 rfl rfl ?_
      clear H; clear w; intro w H
      replace H : Sep w (Blk p7 128 [v154, .int .i64 u152.2.2] :: Blk p148 68 [.int .i64 u149.1, .int .i64 u152.1, .string (ByteArray.mk #[]), .int .i64 0] :: Blk p4 50 [.int .i64 0, .int .i64 0, .bool false, .int .i64 0, .slice none 0 0, .slice none 0 0, .slice none 0 0, .slice none 0 0, .slice none 0 0, .slice none 0 0] :: Blk p9 50 [.int .i64 u10.1, .int .i64 u13.1, .bool (u16.1 == 1), .int .i64 u19.1, (.slice q26 u22.1.length x27), (.slice q33 u28.1.Nodes.length x34), (.slice q35 u28.1.Turns.length x36), v140, .slice none 0 0, .slice none 0 0] :: Row 62 k_api_Result (.slice q26 u22.1.length x27) u22.1 :: Row 68 k_api_Event v140 l141 :: Fo) _ := H
      refine wpList_nil ?_
      refine q_then ?_
      refine wp_seq ?_
      refine wp_region_lit ?_
      refine st_val E (wn rfl) rfl rfl (x_move E rfl rfl) ?_
      clear a E;intro a E
      obtain ⟨u155, hx156, hm⟩ := bnd hm
      refine st_call E (wn rfl) rfl rfl (x_call E rfl rfl (cf46 _)) (c_cantonref02_Reader_Text p7 v154 u152.2.1 u152.2.2 H (.head _) hx156) ?_
      clear E H; clear a; clear w; rintro _ w ⟨v157, rfl, H⟩ a E
      refine st_val E (wn rfl) rfl rfl (x_fa E rfl rfl (v := .pointer (some ⟨p148, 2, none⟩)) (fa68_2 _ _)) ?_
      clear a E;intro a E
      refine st_st (i := 1) E H (wn rfl) rfl (us := [.string u155.1]) rfl rfl rfl rfl rfl sz9 rfl rfl ?_
      clear H; clear w; intro w H
      replace H : Sep w (Blk p7 128 [v157, .int .i64 u155.2.2] :: Blk p148 68 [.int .i64 u149.1, .int .i64 u152.1, .string u155.1, .int .i64 0] :: Blk p4 50 [.int .i64 0, .int .i64 0, .bool false, .int .i64 0, .slice none 0 0, .slice none 0 0, .slice none 0 0, .slice none 0 0, .slice none 0 0, .slice none 0 0] :: Blk p9 50 [.int .i64 u10.1, .int .i64 u13.1, .bool (u16.1 == 1), .int .i64 u19.1, (.slice q26 u22.1.length x27), (.slice q33 u28.1.Nodes.length x34), (.slice q35 u28.1.Turns.length x36), v140, .slice none 0 0, .slice none 0 0] :: Row 62 k_api_Result (.slice q26 u22.1.length x27) u22.1 :: Row 68 k_api_Event v140 l141 :: Fo) _ := H
      refine wpList_nil ?_
      refine q_then ?_
      refine wp_seq ?_
      refine wp_region_lit ?_
      refine st_val E (wn rfl) rfl rfl (x_move E rfl rfl) ?_
      clear a E;intro a E
      obtain ⟨u158, hx159, hm⟩ := bnd hm
      refine st_call E (wn rfl) rfl rfl (x_call E rfl rfl (cf44 _)) (c_cantonref02_Reader_Num p7 v157 u155.2.1 u155.2.2 281474976710656 H (.head _) hx159) ?_
      clear E H; clear a; clear w; rintro _ w ⟨v160, rfl, H⟩ a E
      refine st_val E (wn rfl) rfl rfl (x_fa E rfl rfl (v := .pointer (some ⟨p148, 3, none⟩)) (fa68_3 _ _)) ?_
      clear a E;intro a E
      refine st_st (i := 1) E H (wn rfl) rfl (us := [.int .i64 u158.1]) rfl rfl rfl rfl rfl sz2 rfl rfl ?_
      clear H; clear w; intro w H
      replace H : Sep w (Blk p7 128 [v160, .int .i64 u158.2.2] :: Blk p148 68 [.int .i64 u149.1, .int .i64 u152.1, .string u155.1, .int .i64 u158.1] :: Blk p4 50 [.int .i64 0, .int .i64 0, .bool false, .int .i64 0, .slice none 0 0, .slice none 0 0, .slice none 0 0, .slice none 0 0, .slice none 0 0, .slice none 0 0] :: Blk p9 50 [.int .i64 u10.1, .int .i64 u13.1, .bool (u16.1 == 1), .int .i64 u19.1, (.slice q26 u22.1.length x27), (.slice q33 u28.1.Nodes.length x34), (.slice q35 u28.1.Turns.length x36), v140, .slice none 0 0, .slice none 0 0] :: Row 62 k_api_Result (.slice q26 u22.1.length x27) u22.1 :: Row 68 k_api_Event v140 l141 :: Fo) _ := H
      refine wpList_nil ?_
      refine q_then ?_
      refine wp_region_lit ?_
      refine st_val E (wn rfl) rfl rfl (x_fa E rfl rfl (v := .pointer (some ⟨p9, 7, none⟩)) (fa50_6 _ _)) ?_
      clear a E;intro a E
      refine st_val E (wn rfl) rfl rfl (x_ldB (i := 3) E H rfl rfl rfl rfl Try.underlying46 rfl) ?_
      clear a E;intro a E
      refine st_val E (wn rfl) rfl rfl (x_ldBN (i := 1) (us := [.int .i64 u149.1, .int .i64 u152.1, .string u155.1, .int .i64 u158.1]) E H rfl rfl rfl rfl Try.underlying68 rfl sz68) ?_
      clear a E;intro a E
      refine st_bsR (e := 68) (d := k_api_Event) (cs := [.int .i64 u149.1, .int .i64 u152.1, .string u155.1, .int .i64 u158.1]) (xs := [(⟨u149.1, u152.1, u155.1, u158.1⟩ : S_api_Event)]) E H (wn rfl) rfl rfl (ps := [(0, .tmp 62)]) (parts := [(0, .agg #[.int .i64 u149.1, .int .i64 u152.1, .string u155.1, .int .i64 u158.1])]) rfl (by simp only [List.map]; rw [E.eval (x := .tmp 62) (v := .agg #[.int .i64 u149.1, .int .i64 u152.1, .string u155.1, .int .i64 u158.1]) rfl]) (by kernel_rfl) rfl (fun ok hr => (Rows.single (d := k_api_Event) (cs := [.int .i64 u149.1, .int .i64 u152.1, .string u155.1, .int .i64 u158.1]) (x := (⟨u149.1, u152.1, u155.1, u158.1⟩ : S_api_Event)) k_api_Event_mk)) ?_
      clear E H; clear a; clear w; intro v161 w a H E
      obtain ⟨u163, hx164, hm⟩ := bnd hm
      refine st_append (i := 5) E H (wn rfl) rfl rfl rfl rfl rfl rfl (src_rd (.head _)) Try.underlying46 inf68 rfl (ck_of hx164) rfl ?_
      clear E H; clear a; clear w; intro v162 w a H E
      refine st_val E (wn rfl) rfl rfl (x_fa E rfl rfl (v := .pointer (some ⟨p9, 7, none⟩)) (fa50_6 _ _)) ?_
      clear a E;intro a E
      obtain ⟨q165, x166, rfl⟩ := H.rowform (i := 5) rfl
      refine st_st (i := 3) E H (wn rfl) rfl (us := [(.slice q165 (l141 ++ ([(⟨u149.1, u152.1, u155.1, u158.1⟩ : S_api_Event)] : List S_api_Event)).length x166)]) rfl rfl rfl rfl rfl sz46 rfl rfl ?_
      clear H; clear w; intro w H
      replace H : Sep w (Blk p7 128 [v160, .int .i64 u158.2.2] :: Blk p148 68 [.int .i64 u149.1, .int .i64 u152.1, .string u155.1, .int .i64 u158.1] :: Blk p4 50 [.int .i64 0, .int .i64 0, .bool false, .int .i64 0, .slice none 0 0, .slice none 0 0, .slice none 0 0, .slice none 0 0, .slice none 0 0, .slice none 0 0] :: Blk p9 50 [.int .i64 u10.1, .int .i64 u13.1, .bool (u16.1 == 1), .int .i64 u19.1, (.slice q26 u22.1.length x27), (.slice q33 u28.1.Nodes.length x34), (.slice q35 u28.1.Turns.length x36), (.slice q165 (l141 ++ ([(⟨u149.1, u152.1, u155.1, u158.1⟩ : S_api_Event)] : List S_api_Event)).length x166), .slice none 0 0, .slice none 0 0] :: Row 62 k_api_Result (.slice q26 u22.1.length x27) u22.1 :: Row 68 k_api_Event (.slice q165 (l141 ++ ([(⟨u149.1, u152.1, u155.1, u158.1⟩ : S_api_Event)] : List S_api_Event)).length x166) (l141 ++ ([(⟨u149.1, u152.1, u155.1, u158.1⟩ : S_api_Event)] : List S_api_Event)) :: Fo) _ := H
      refine wpList_nil ?_
      refine q_blk ?_
      refine q_then ?_
      refine wp_region_lit ?_
      refine st_val E (wn rfl) rfl rfl (x_move E rfl rfl) ?_
      clear a E;intro a E
      refine st_val E (wn rfl) rfl rfl (x_bin E rfl rfl rfl rfl) ?_
      clear a E;intro a E
      refine st_val E (wn rfl) rfl rfl (x_assign E rfl rfl) ?_
      clear a E;intro a E
      refine wpList_nil ?_
      refine q_then ?_
      replace H := H.drop 1
      replace H := H.front 4 rfl
      replace H := H.front 4 rfl
      replace H := H.front 4 rfl
      replace H := H.front 3 rfl
      replace H := H.front 4 rfl
      exact ⟨k3, Nat.lt_succ_self k3, v160, (.slice q165 (l141 ++ ([(⟨u149.1, u152.1, u155.1, u158.1⟩ : S_api_Event)] : List S_api_Event)).length x166), IntKind.i64.wrap (x136 + 1), u158.2.1, u158.2.2, l141 ++ ([(⟨u149.1, u152.1, u155.1, u158.1⟩ : S_api_Event)] : List S_api_Event), _, (((((E.nil.keep E 7 rfl).keep E 6 rfl).keep E 5 rfl).keep E 4 rfl).keep E 2 rfl), H, fun r hr => .tail _ (.tail _ (.tail _ (.tail _ (.tail _ (hs143 r hr))))), (.tail _ (.head _)), (.tail _ (.tail _ (.tail _ (.tail _ (.tail _ hr145))))), (.tail _ (.tail _ (.tail _ (.tail _ (.tail _ hr146))))), hm⟩
     ·intro hb
      rw [if_f hb] at hm
      clear hb
      refine wp_exit ?_
      refine q_thenX ?_
      refine q_thenX ?_
      refine q_hit ?_
      refine q_then ?_
      exact ⟨v137, v140, l138, x139, l141, _, (((E.nil.keep E 5 rfl).keep E 4 rfl).keep E 2 rfl), H, hs143, hr144, hr145, hr146, hm⟩
    ·rw [if_f hb147] at hm
     refine st_no E (wf' E rfl rfl rfl rfl hb147 rfl) rfl rfl ?_
     clear a E;intro a E
     refine st_no E (wf' E rfl rfl rfl rfl hb147 rfl) rfl rfl ?_
     clear a E;intro a E
     refine st_no E (wf' E rfl rfl rfl rfl hb147 rfl) rfl rfl ?_
     clear a E;intro a E
     refine st_no E (wf' E rfl rfl rfl rfl hb147 rfl) rfl rfl ?_
     clear a E;intro a E
     refine st_no E (wf' E rfl rfl rfl rfl hb147 rfl) rfl rfl ?_
     clear a E;intro a E
     refine st_val E (wn rfl) rfl rfl (x_pickF E rfl rfl hb147 rfl) ?_
     clear a E;intro a E
     refine wpList_nil ?_
     refine q_then ?_
     refine wp_cond_false (E.eval rfl) ?_
     refine wp_exit ?_
     refine q_thenX ?_
     refine q_thenX ?_
     refine q_hit ?_
     refine q_then ?_
     exact ⟨v137, v140, l138, x139, l141, _, (((E.nil.keep E 5 rfl).keep E 4 rfl).keep E 2 rfl), H, hs143, hr144, hr145, hr146, hm⟩
 ·clear E H hm
  rintro a w ⟨v40, v43, l41, x42, l44, rs45, E, H, hs46, hr47, hr48, hr49, hm⟩
  unfold m_cantonref17_GetAnswer_j1 at hm
  refine wp_seq ?_
  refine wp_region_lit ?_
  refine st_val E (wn rfl) rfl rfl (x_move E rfl rfl) ?_
  clear a E;intro a E
  replace H := H.front 4 rfl
  replace H := H.front 4 rfl
  replace H := H.front 4 rfl
  replace H := H.front 3 rfl
  replace H := H.front 4 rfl
  replace H : Sep w (Blk p7 128 [v40, .int .i64 x42] :: Blk p4 50 [.int .i64 0, .int .i64 0, .bool false, .int .i64 0, .slice none 0 0, .slice none 0 0, .slice none 0 0, .slice none 0 0, .slice none 0 0, .slice none 0 0] :: Blk p9 50 [.int .i64 u10.1, .int .i64 u13.1, .bool (u16.1 == 1), .int .i64 u19.1, (.slice q26 u22.1.length x27), (.slice q33 u28.1.Nodes.length x34), (.slice q35 u28.1.Turns.length x36), v43, .slice none 0 0, .slice none 0 0] :: Row 62 k_api_Result (.slice q26 u22.1.length x27) u22.1 :: Row 68 k_api_Event v43 l44 :: Fo) (rs45) := H
  obtain ⟨u50, hx51, hm⟩ := bnd hm
  refine st_call E (wn rfl) rfl rfl (x_call E rfl rfl (cf44 _)) (c_cantonref02_Reader_Num p7 v40 l41 x42 281474976710656 H hr47 hx51) ?_
  clear E H; clear a; clear w; rintro _ w ⟨v52, rfl, H⟩ a E
  refine st_val E (wn rfl) rfl rfl (x_assign E rfl rfl) ?_
  clear a E;intro a E
  refine wpList_nil ?_
  refine q_then ?_
  refine wp_seq_cut (fun a w => ∃ (v53 : Value) (v56 : Value) (l54 : (List Int)) (x55 : Int) (l57 : (List S_api_Mount)) (rs58 : List Rp), Env 125 a [(2, .pointer (some ⟨p4, 0, none⟩)), (4, .pointer (some ⟨p7, 0, none⟩)), (5, .pointer (some ⟨p9, 0, none⟩))] ∧ Sep w (Blk p4 50 [.int .i64 0, .int .i64 0, .bool false, .int .i64 0, .slice none 0 0, .slice none 0 0, .slice none 0 0, .slice none 0 0, .slice none 0 0, .slice none 0 0] :: Blk p7 128 [v53, .int .i64 x55] :: Blk p9 50 [.int .i64 u10.1, .int .i64 u13.1, .bool (u16.1 == 1), .int .i64 u19.1, (.slice q26 u22.1.length x27), (.slice q33 u28.1.Nodes.length x34), (.slice q35 u28.1.Turns.length x36), v43, v56, .slice none 0 0] :: Row 62 k_api_Result (.slice q26 u22.1.length x27) u22.1 :: Row 68 k_api_Event v43 l44 :: Row 70 k_api_Mount v56 l57 :: Fo) rs58 ∧ (∀ r, r ∈ rs → r ∈ rs58) ∧ rSl (kI .u8) v53 l54 ∈ rs58 ∧ rSl k_api_Node (.slice q33 u28.1.Nodes.length x34) u28.1.Nodes ∈ rs58 ∧ rSl k_api_Turn (.slice q35 u28.1.Turns.length x36) u28.1.Turns ∈ rs58 ∧ m_cantonref17_GetAnswer_j2 u10 u13 u16 u19 u22 u28 l44 l54 x55 l57 = some r) ?_ ?_
  ·refine wp_seq ?_
   refine wp_region_lit ?_
   refine st_val E (wn rfl) rfl rfl (x_assign E rfl rfl) ?_
   clear a E;intro a E
   refine wpList_nil ?_
   refine q_then ?_
   refine wp_block ?_
   refine wp_loop_g (fun k2 a w => ∃ (v106 : Value) (v109 : Value) (x105 : Int) (l107 : (List Int)) (x108 : Int) (l110 : (List S_api_Mount)) (rs111 : List Rp), Env 125 a [(2, .pointer (some ⟨p4, 0, none⟩)), (4, .pointer (some ⟨p7, 0, none⟩)), (5, .pointer (some ⟨p9, 0, none⟩)), (6, .int .i64 u50.1), (9, .int .i64 x105)] ∧ Sep w (Blk p4 50 [.int .i64 0, .int .i64 0, .bool false, .int .i64 0, .slice none 0 0, .slice none 0 0, .slice none 0 0, .slice none 0 0, .slice none 0 0, .slice none 0 0] :: Blk p7 128 [v106, .int .i64 x108] :: Blk p9 50 [.int .i64 u10.1, .int .i64 u13.1, .bool (u16.1 == 1), .int .i64 u19.1, (.slice q26 u22.1.length x27), (.slice q33 u28.1.Nodes.length x34), (.slice q35 u28.1.Turns.length x36), v43, v109, .slice none 0 0] :: Row 62 k_api_Result (.slice q26 u22.1.length x27) u22.1 :: Row 68 k_api_Event v43 l44 :: Row 70 k_api_Mount v109 l110 :: Fo) rs111 ∧ (∀ r, r ∈ rs → r ∈ rs111) ∧ rSl (kI .u8) v106 l107 ∈ rs111 ∧ rSl k_api_Node (.slice q33 u28.1.Nodes.length x34) u28.1.Nodes ∈ rs111 ∧ rSl k_api_Turn (.slice q35 u28.1.Turns.length x36) u28.1.Turns ∈ rs111 ∧ m_cantonref17_GetAnswer_l2 u10 u13 u16 u19 u22 u28 l44 u50 k2 x105 l107 x108 l110 = some r) (u50.1.toNat + 2) ?_ ?_
   ·replace H := H.nilRow 70 k_api_Mount
    replace H := H.front 0 rfl
    replace H := H.front 5 rfl
    replace H := H.front 5 rfl
    replace H := H.front 5 rfl
    replace H := H.front 4 rfl
    replace H := H.front 5 rfl
    exact ⟨v52, (.slice none 0 0), 0, u50.2.1, u50.2.2, [], _, (((((E.nil.keep E 9 rfl).keep E 6 rfl).keep E 5 rfl).keep E 4 rfl).keep E 2 rfl), H, fun r hr => .tail _ (hs46 r hr), (.head _), (.tail _ hr48), (.tail _ hr49), hm⟩
   ·clear E H hm
    rintro k2 a w ⟨v106, v109, x105, l107, x108, l110, rs111, E, H, hs112, hr113, hr114, hr115, hm⟩
    cases k2 with
    | zero => exact (none_some hm rfl).elim
    | succ k2 =>
     unfold m_cantonref17_GetAnswer_l2 at hm
     refine wp_seq ?_
     refine wp_seq ?_
     refine wp_region_lit ?_
     refine st_val E (wn rfl) rfl rfl (x_move E rfl rfl) ?_
     clear a E;intro a E
     refine st_val E (wn rfl) rfl rfl (x_move E rfl rfl) ?_
     clear a E;intro a E
     refine st_val E (wn rfl) rfl rfl (x_bin E rfl rfl rfl rfl) ?_
     clear a E;intro a E
     refine st_val E (wn rfl) rfl rfl (x_move E rfl rfl) ?_
     clear a E;intro a E
     rcases Bool.eq_false_or_eq_true (decide (x105 < u50.1)) with hb116 | hb116
     ·rw [if_t hb116] at hm
      refine st_val E (ws' E rfl rfl rfl rfl hb116) rfl rfl (x_move E rfl rfl) ?_
      clear a E;intro a E
      refine st_val E (ws' E rfl rfl rfl rfl hb116) rfl rfl (x_nil E rfl rfl) ?_
      clear a E;intro a E
      refine st_val E (ws' E rfl rfl rfl rfl hb116) rfl rfl (x_fa E rfl rfl (v := .pointer (some ⟨p7, 1, none⟩)) (fa128_1 _ _)) ?_
      clear a E;intro a E
      refine st_val E (ws' E rfl rfl rfl rfl hb116) rfl rfl (x_ldB (i := 1) E H rfl rfl rfl rfl Try.underlying30 rfl) ?_
      clear a E;intro a E
      refine st_val E (ws' E rfl rfl rfl rfl hb116) rfl rfl (x_bin E rfl rfl rfl rfl) ?_
      clear a E;intro a E
      refine st_val E (wn rfl) rfl rfl (x_pickT E rfl rfl hb116 rfl) ?_
      clear a E;intro a E
      refine wpList_nil ?_
      refine q_then ?_
      refine wp_if E rfl ?_ ?_
      ·intro hb
       rw [if_t hb] at hm
       clear hb
       refine wp_skip ?_
       refine q_then ?_
       refine wp_seq ?_
       refine wp_block ?_
       refine wp_seq ?_
       refine wp_region_lit ?_
       refine st_alloc E H (wn rfl) rfl rfl (cs := [.string (ByteArray.mk #[]), .int .i64 0, .int .i64 0, .int .i64 0]) rfl (z := .agg #[.string ⟨#[]⟩, .int .i64 0, .int .i64 0, .int .i64 0]) (by kernel_rfl) rfl ?_
       clear E H; clear a; clear w; intro p117 w a H E
       refine wpList_nil ?_
       refine q_then ?_
       refine wp_seq ?_
       refine wp_region_lit ?_
       refine st_val E (wn rfl) rfl rfl (x_move E rfl rfl) ?_
       clear a E;intro a E
       replace H := H.front 6 rfl
       replace H := H.front 6 rfl
       replace H := H.front 6 rfl
       replace H := H.front 6 rfl
       replace H := H.front 5 rfl
       replace H := H.front 5 rfl
       replace H := H.front 6 rfl
       replace H : Sep w (Blk p7 128 [v106, .int .i64 x108] :: Blk p117 70 [.string (ByteArray.mk #[]), .int .i64 0, .int .i64 0, .int .i64 0] :: Blk p4 50 [.int .i64 0, .int .i64 0, .bool false, .int .i64 0, .slice none 0 0, .slice none 0 0, .slice none 0 0, .slice none 0 0, .slice none 0 0, .slice none 0 0] :: Blk p9 50 [.int .i64 u10.1, .int .i64 u13.1, .bool (u16.1 == 1), .int .i64 u19.1, (.slice q26 u22.1.length x27), (.slice q33 u28.1.Nodes.length x34), (.slice q35 u28.1.Turns.length x36), v43, v109, .slice none 0 0] :: Row 62 k_api_Result (.slice q26 u22.1.length x27) u22.1 :: Row 68 k_api_Event v43 l44 :: Row 70 k_api_Mount v109 l110 :: Fo) (rs111) := H
       obtain ⟨u118, hx119, hm⟩ := bnd hm
       refine st_call E (wn rfl) rfl rfl (x_call E rfl rfl (cf46 _)) (c_cantonref02_Reader_Text p7 v106 l107 x108 H hr113 hx119) ?_
       clear E H; clear a; clear w; rintro _ w ⟨v120, rfl, H⟩ a E
       refine st_val E (wn rfl) rfl rfl (x_fa E rfl rfl (v := .pointer (some ⟨p117, 0, none⟩)) (fa70_0 _ _)) ?_
       clear a E;intro a E
       refine st_st (i := 1) E H (wn rfl) rfl (us := [.string u118.1]) rfl rfl rfl rfl rfl sz9 rfl rfl ?_
       clear H; clear w; intro w H
       replace H : Sep w (Blk p7 128 [v120, .int .i64 u118.2.2] :: Blk p117 70 [.string u118.1, .int .i64 0, .int .i64 0, .int .i64 0] :: Blk p4 50 [.int .i64 0, .int .i64 0, .bool false, .int .i64 0, .slice none 0 0, .slice none 0 0, .slice none 0 0, .slice none 0 0, .slice none 0 0, .slice none 0 0] :: Blk p9 50 [.int .i64 u10.1, .int .i64 u13.1, .bool (u16.1 == 1), .int .i64 u19.1, (.slice q26 u22.1.length x27), (.slice q33 u28.1.Nodes.length x34), (.slice q35 u28.1.Turns.length x36), v43, v109, .slice none 0 0] :: Row 62 k_api_Result (.slice q26 u22.1.length x27) u22.1 :: Row 68 k_api_Event v43 l44 :: Row 70 k_api_Mount v109 l110 :: Fo) _ := H
       refine wpList_nil ?_
       refine q_then ?_
       refine wp_seq ?_
       refine wp_region_lit ?_
       refine st_val E (wn rfl) rfl rfl (x_move E rfl rfl) ?_
       clear a E;intro a E
       obtain ⟨u121, hx122, hm⟩ := bnd hm
       refine st_call E (wn rfl) rfl rfl (x_call E rfl rfl (cf44 _)) (c_cantonref02_Reader_Num p7 v120 u118.2.1 u118.2.2 281474976710656 H (.head _) hx122) ?_
       clear E H; clear a; clear w; rintro _ w ⟨v123, rfl, H⟩ a E
       refine st_val E (wn rfl) rfl rfl (x_fa E rfl rfl (v := .pointer (some ⟨p117, 1, none⟩)) (fa70_1 _ _)) ?_
       clear a E;intro a E
       refine st_st (i := 1) E H (wn rfl) rfl (us := [.int .i64 u121.1]) rfl rfl rfl rfl rfl sz3 rfl rfl ?_
       clear H; clear w; intro w H
       replace H : Sep w (Blk p7 128 [v123, .int .i64 u121.2.2] :: Blk p117 70 [.string u118.1, .int .i64 u121.1, .int .i64 0, .int .i64 0] :: Blk p4 50 [.int .i64 0, .int .i64 0, .bool false, .int .i64 0, .slice none 0 0, .slice none 0 0, .slice none 0 0, .slice none 0 0, .slice none 0 0, .slice none 0 0] :: Blk p9 50 [.int .i64 u10.1, .int .i64 u13.1, .bool (u16.1 == 1), .int .i64 u19.1, (.slice q26 u22.1.length x27), (.slice q33 u28.1.Nodes.length x34), (.slice q35 u28.1.Turns.length x36), v43, v109, .slice none 0 0] :: Row 62 k_api_Result (.slice q26 u22.1.length x27) u22.1 :: Row 68 k_api_Event v43 l44 :: Row 70 k_api_Mount v109 l110 :: Fo) _ := H
       refine wpList_nil ?_
       refine q_then ?_
       refine wp_seq ?_
       refine wp_region_lit ?_
       refine st_val E (wn rfl) rfl rfl (x_move E rfl rfl) ?_
       clear a E;intro a E
       obtain ⟨u124, hx125, hm⟩ := bnd hm
       refine st_call E (wn rfl) rfl rfl (x_call E rfl rfl (cf44 _)) (c_cantonref02_Reader_Num p7 v123 u121.2.1 u121.2.2 281474976710656 H (.head _) hx125) ?_
       clear E H; clear a; clear w; rintro _ w ⟨v126, rfl, H⟩ a E
       refine st_val E (wn rfl) rfl rfl (x_fa E rfl rfl (v := .pointer (some ⟨p117, 2, none⟩)) (fa70_2 _ _)) ?_
       clear a E;intro a E
       refine st_st (i := 1) E H (wn rfl) rfl (us := [.int .i64 u124.1]) rfl rfl rfl rfl rfl sz2 rfl rfl ?_
       clear H; clear w; intro w H
       replace H : Sep w (Blk p7 128 [v126, .int .i64 u124.2.2] :: Blk p117 70 [.string u118.1, .int .i64 u121.1, .int .i64 u124.1, .int .i64 0] :: Blk p4 50 [.int .i64 0, .int .i64 0, .bool false, .int .i64 0, .slice none 0 0, .slice none 0 0, .slice none 0 0, .slice none 0 0, .slice none 0 0, .slice none 0 0] :: Blk p9 50 [.int .i64 u10.1, .int .i64 u13.1, .bool (u16.1 == 1), .int .i64 u19.1, (.slice q26 u22.1.length x27), (.slice q33 u28.1.Nodes.length x34), (.slice q35 u28.1.Turns.length x36), v43, v109, .slice none 0 0] :: Row 62 k_api_Result (.slice q26 u22.1.length x27) u22.1 :: Row 68 k_api_Event v43 l44 :: Row 70 k_api_Mount v109 l110 :: Fo) _ := H
       refine wpList_nil ?_
       refine q_then ?_
       refine wp_seq ?_
       refine wp_region_lit ?_
       refine st_val E (wn rfl) rfl rfl (x_move E rfl rfl) ?_
       clear a E;intro a E
       obtain ⟨u127, hx128, hm⟩ := bnd hm
       refine st_call E (wn rfl) rfl rfl (x_call E rfl rfl (cf44 _)) (c_cantonref02_Reader_Num p7 v126 u124.2.1 u124.2.2 281474976710656 H (.head _) hx128) ?_
       clear E H; clear a; clear w; rintro _ w ⟨v129, rfl, H⟩ a E
       refine st_val E (wn rfl) rfl rfl (x_fa E rfl rfl (v := .pointer (some ⟨p117, 3, none⟩)) (fa70_3 _ _)) ?_
       clear a E;intro a E
       refine st_st (i := 1) E H (wn rfl) rfl (us := [.int .i64 u127.1]) rfl rfl rfl rfl rfl sz3 rfl rfl ?_
       clear H; clear w; intro w H
       replace H : Sep w (Blk p7 128 [v129, .int .i64 u127.2.2] :: Blk p117 70 [.string u118.1, .int .i64 u121.1, .int .i64 u124.1, .int .i64 u127.1] :: Blk p4 50 [.int .i64 0, .int .i64 0, .bool false, .int .i64 0, .slice none 0 0, .slice none 0 0, .slice none 0 0, .slice none 0 0, .slice none 0 0, .slice none 0 0] :: Blk p9 50 [.int .i64 u10.1, .int .i64 u13.1, .bool (u16.1 == 1), .int .i64 u19.1, (.slice q26 u22.1.length x27), (.slice q33 u28.1.Nodes.length x34), (.slice q35 u28.1.Turns.length x36), v43, v109, .slice none 0 0] :: Row 62 k_api_Result (.slice q26 u22.1.length x27) u22.1 :: Row 68 k_api_Event v43 l44 :: Row 70 k_api_Mount v109 l110 :: Fo) _ := H
       refine wpList_nil ?_
       refine q_then ?_
       refine wp_region_lit ?_
       refine st_val E (wn rfl) rfl rfl (x_fa E rfl rfl (v := .pointer (some ⟨p9, 8, none⟩)) (fa50_7 _ _)) ?_
       clear a E;intro a E
       refine st_val E (wn rfl) rfl rfl (x_ldB (i := 3) E H rfl rfl rfl rfl Try.underlying47 rfl) ?_
       clear a E;intro a E
       refine st_val E (wn rfl) rfl rfl (x_ldBN (i := 1) (us := [.string u118.1, .int .i64 u121.1, .int .i64 u124.1, .int .i64 u127.1]) E H rfl rfl rfl rfl Try.underlying70 rfl sz70) ?_
       clear a E;intro a E
       refine st_bsR (e := 70) (d := k_api_Mount) (cs := [.string u118.1, .int .i64 u121.1, .int .i64 u124.1, .int .i64 u127.1]) (xs := [(⟨u118.1, u121.1, u124.1, u127.1⟩ : S_api_Mount)]) E H (wn rfl) rfl rfl (ps := [(0, .tmp 94)]) (parts := [(0, .agg #[.string u118.1, .int .i64 u121.1, .int .i64 u124.1, .int .i64 u127.1])]) rfl (by simp only [List.map]; rw [E.eval (x := .tmp 94) (v := .agg #[.string u118.1, .int .i64 u121.1, .int .i64 u124.1, .int .i64 u127.1]) rfl]) (by kernel_rfl) rfl (fun ok hr => (Rows.single (d := k_api_Mount) (cs := [.string u118.1, .int .i64 u121.1, .int .i64 u124.1, .int .i64 u127.1]) (x := (⟨u118.1, u121.1, u124.1, u127.1⟩ : S_api_Mount)) k_api_Mount_mk)) ?_
       clear E H; clear a; clear w; intro v130 w a H E
       obtain ⟨u132, hx133, hm⟩ := bnd hm
       refine st_append (i := 6) E H (wn rfl) rfl rfl rfl rfl rfl rfl (src_rd (.head _)) Try.underlying47 inf70 rfl (ck_of hx133) rfl ?_
       clear E H; clear a; clear w; intro v131 w a H E
       refine st_val E (wn rfl) rfl rfl (x_fa E rfl rfl (v := .pointer (some ⟨p9, 8, none⟩)) (fa50_7 _ _)) ?_
       clear a E;intro a E
       obtain ⟨q134, x135, rfl⟩ := H.rowform (i := 6) rfl
       refine st_st (i := 3) E H (wn rfl) rfl (us := [(.slice q134 (l110 ++ ([(⟨u118.1, u121.1, u124.1, u127.1⟩ : S_api_Mount)] : List S_api_Mount)).length x135)]) rfl rfl rfl rfl rfl sz47 rfl rfl ?_
       clear H; clear w; intro w H
       replace H : Sep w (Blk p7 128 [v129, .int .i64 u127.2.2] :: Blk p117 70 [.string u118.1, .int .i64 u121.1, .int .i64 u124.1, .int .i64 u127.1] :: Blk p4 50 [.int .i64 0, .int .i64 0, .bool false, .int .i64 0, .slice none 0 0, .slice none 0 0, .slice none 0 0, .slice none 0 0, .slice none 0 0, .slice none 0 0] :: Blk p9 50 [.int .i64 u10.1, .int .i64 u13.1, .bool (u16.1 == 1), .int .i64 u19.1, (.slice q26 u22.1.length x27), (.slice q33 u28.1.Nodes.length x34), (.slice q35 u28.1.Turns.length x36), v43, (.slice q134 (l110 ++ ([(⟨u118.1, u121.1, u124.1, u127.1⟩ : S_api_Mount)] : List S_api_Mount)).length x135), .slice none 0 0] :: Row 62 k_api_Result (.slice q26 u22.1.length x27) u22.1 :: Row 68 k_api_Event v43 l44 :: Row 70 k_api_Mount (.slice q134 (l110 ++ ([(⟨u118.1, u121.1, u124.1, u127.1⟩ : S_api_Mount)] : List S_api_Mount)).length x135) (l110 ++ ([(⟨u118.1, u121.1, u124.1, u127.1⟩ : S_api_Mount)] : List S_api_Mount)) :: Fo) _ := H
       refine wpList_nil ?_
       refine q_blk ?_
       refine q_then ?_
       refine wp_region_lit ?_
       refine st_val E (wn rfl) rfl rfl (x_move E rfl rfl) ?_
       clear a E;intro a E
       refine st_val E (wn rfl) rfl rfl (x_bin E rfl rfl rfl rfl) ?_
       clear a E;intro a E
       refine st_val E (wn rfl) rfl rfl (x_assign E rfl rfl) ?_
       clear a E;intro a E
       refine wpList_nil ?_
       refine q_then ?_
       replace H := H.drop 1
       replace H := H.front 5 rfl
       replace H := H.front 5 rfl
       replace H := H.front 5 rfl
       replace H := H.front 5 rfl
       replace H := H.front 4 rfl
       replace H := H.front 5 rfl
       exact ⟨k2, Nat.lt_succ_self k2, v129, (.slice q134 (l110 ++ ([(⟨u118.1, u121.1, u124.1, u127.1⟩ : S_api_Mount)] : List S_api_Mount)).length x135), IntKind.i64.wrap (x105 + 1), u127.2.1, u127.2.2, l110 ++ ([(⟨u118.1, u121.1, u124.1, u127.1⟩ : S_api_Mount)] : List S_api_Mount), _, (((((E.nil.keep E 9 rfl).keep E 6 rfl).keep E 5 rfl).keep E 4 rfl).keep E 2 rfl), H, fun r hr => .tail _ (.tail _ (.tail _ (.tail _ (.tail _ (hs112 r hr))))), (.tail _ (.head _)), (.tail _ (.tail _ (.tail _ (.tail _ (.tail _ hr114))))), (.tail _ (.tail _ (.tail _ (.tail _ (.tail _ hr115))))), hm⟩
      ·intro hb
       rw [if_f hb] at hm
       clear hb
       refine wp_exit ?_
       refine q_thenX ?_
       refine q_thenX ?_
       refine q_hit ?_
       refine q_then ?_
       exact ⟨v106, v109, l107, x108, l110, _, (((E.nil.keep E 5 rfl).keep E 4 rfl).keep E 2 rfl), H, hs112, hr113, hr114, hr115, hm⟩
     ·rw [if_f hb116] at hm
      refine st_no E (wf' E rfl rfl rfl rfl hb116 rfl) rfl rfl ?_
      clear a E;intro a E
      refine st_no E (wf' E rfl rfl rfl rfl hb116 rfl) rfl rfl ?_
      clear a E;intro a E
      refine st_no E (wf' E rfl rfl rfl rfl hb116 rfl) rfl rfl ?_
      clear a E;intro a E
      refine st_no E (wf' E rfl rfl rfl rfl hb116 rfl) rfl rfl ?_
      clear a E;intro a E
      refine st_no E (wf' E rfl rfl rfl rfl hb116 rfl) rfl rfl ?_
      clear a E;intro a E
      refine st_val E (wn rfl) rfl rfl (x_pickF E rfl rfl hb116 rfl) ?_
      clear a E;intro a E
      refine wpList_nil ?_
      refine q_then ?_
      refine wp_cond_false (E.eval rfl) ?_
      refine wp_exit ?_
      refine q_thenX ?_
      refine q_thenX ?_
      refine q_hit ?_
      refine q_then ?_
      exact ⟨v106, v109, l107, x108, l110, _, (((E.nil.keep E 5 rfl).keep E 4 rfl).keep E 2 rfl), H, hs112, hr113, hr114, hr115, hm⟩
  ·clear E H hm
   rintro a w ⟨v53, v56, l54, x55, l57, rs58, E, H, hs59, hr60, hr61, hr62, hm⟩
   unfold m_cantonref17_GetAnswer_j2 at hm
   refine wp_seq ?_
   refine wp_region_lit ?_
   refine st_val E (wn rfl) rfl rfl (x_move E rfl rfl) ?_
   clear a E;intro a E
   replace H := H.front 5 rfl
   replace H := H.front 5 rfl
   replace H := H.front 5 rfl
   replace H := H.front 5 rfl
   replace H := H.front 4 rfl
   replace H := H.front 5 rfl
   replace H : Sep w (Blk p7 128 [v53, .int .i64 x55] :: Blk p4 50 [.int .i64 0, .int .i64 0, .bool false, .int .i64 0, .slice none 0 0, .slice none 0 0, .slice none 0 0, .slice none 0 0, .slice none 0 0, .slice none 0 0] :: Blk p9 50 [.int .i64 u10.1, .int .i64 u13.1, .bool (u16.1 == 1), .int .i64 u19.1, (.slice q26 u22.1.length x27), (.slice q33 u28.1.Nodes.length x34), (.slice q35 u28.1.Turns.length x36), v43, v56, .slice none 0 0] :: Row 62 k_api_Result (.slice q26 u22.1.length x27) u22.1 :: Row 68 k_api_Event v43 l44 :: Row 70 k_api_Mount v56 l57 :: Fo) (rs58) := H
   obtain ⟨u63, hx64, hm⟩ := bnd hm
   refine st_call E (wn rfl) rfl rfl (x_call E rfl rfl (cf44 _)) (c_cantonref02_Reader_Num p7 v53 l54 x55 281474976710656 H hr60 hx64) ?_
   clear E H; clear a; clear w; rintro _ w ⟨v65, rfl, H⟩ a E
   refine st_val E (wn rfl) rfl rfl (x_assign E rfl rfl) ?_
   clear a E;intro a E
   refine wpList_nil ?_
   refine q_then ?_
   refine wp_seq_cut (fun a w => ∃ (v66 : Value) (v69 : Value) (l67 : (List Int)) (x68 : Int) (l70 : (List Int)) (rs71 : List Rp), Env 125 a [(2, .pointer (some ⟨p4, 0, none⟩)), (4, .pointer (some ⟨p7, 0, none⟩)), (5, .pointer (some ⟨p9, 0, none⟩))] ∧ Sep w (Blk p4 50 [.int .i64 0, .int .i64 0, .bool false, .int .i64 0, .slice none 0 0, .slice none 0 0, .slice none 0 0, .slice none 0 0, .slice none 0 0, .slice none 0 0] :: Blk p7 128 [v66, .int .i64 x68] :: Blk p9 50 [.int .i64 u10.1, .int .i64 u13.1, .bool (u16.1 == 1), .int .i64 u19.1, (.slice q26 u22.1.length x27), (.slice q33 u28.1.Nodes.length x34), (.slice q35 u28.1.Turns.length x36), v43, v56, v69] :: Row 62 k_api_Result (.slice q26 u22.1.length x27) u22.1 :: Row 68 k_api_Event v43 l44 :: Row 70 k_api_Mount v56 l57 :: Row 2 (kI .i64) v69 l70 :: Fo) rs71 ∧ (∀ r, r ∈ rs → r ∈ rs71) ∧ rSl (kI .u8) v66 l67 ∈ rs71 ∧ rSl k_api_Node (.slice q33 u28.1.Nodes.length x34) u28.1.Nodes ∈ rs71 ∧ rSl k_api_Turn (.slice q35 u28.1.Turns.length x36) u28.1.Turns ∈ rs71 ∧ m_cantonref17_GetAnswer_j3 u10 u13 u16 u19 u22 u28 l44 l57 l67 x68 l70 = some r) ?_ ?_
   ·refine wp_seq ?_
    refine wp_region_lit ?_
    refine st_val E (wn rfl) rfl rfl (x_assign E rfl rfl) ?_
    clear a E;intro a E
    refine wpList_nil ?_
    refine q_then ?_
    refine wp_block ?_
    refine wp_loop_g (fun k1 a w => ∃ (v85 : Value) (v88 : Value) (x84 : Int) (l86 : (List Int)) (x87 : Int) (l89 : (List Int)) (rs90 : List Rp), Env 125 a [(2, .pointer (some ⟨p4, 0, none⟩)), (4, .pointer (some ⟨p7, 0, none⟩)), (5, .pointer (some ⟨p9, 0, none⟩)), (6, .int .i64 u63.1), (11, .int .i64 x84)] ∧ Sep w (Blk p4 50 [.int .i64 0, .int .i64 0, .bool false, .int .i64 0, .slice none 0 0, .slice none 0 0, .slice none 0 0, .slice none 0 0, .slice none 0 0, .slice none 0 0] :: Blk p7 128 [v85, .int .i64 x87] :: Blk p9 50 [.int .i64 u10.1, .int .i64 u13.1, .bool (u16.1 == 1), .int .i64 u19.1, (.slice q26 u22.1.length x27), (.slice q33 u28.1.Nodes.length x34), (.slice q35 u28.1.Turns.length x36), v43, v56, v88] :: Row 62 k_api_Result (.slice q26 u22.1.length x27) u22.1 :: Row 68 k_api_Event v43 l44 :: Row 70 k_api_Mount v56 l57 :: Row 2 (kI .i64) v88 l89 :: Fo) rs90 ∧ (∀ r, r ∈ rs → r ∈ rs90) ∧ rSl (kI .u8) v85 l86 ∈ rs90 ∧ rSl k_api_Node (.slice q33 u28.1.Nodes.length x34) u28.1.Nodes ∈ rs90 ∧ rSl k_api_Turn (.slice q35 u28.1.Turns.length x36) u28.1.Turns ∈ rs90 ∧ m_cantonref17_GetAnswer_l1 u10 u13 u16 u19 u22 u28 l44 l57 u63 k1 x84 l86 x87 l89 = some r) (u63.1.toNat + 2) ?_ ?_
    ·replace H := H.nilRow 2 (kI .i64)
     replace H := H.front 0 rfl
     replace H := H.front 6 rfl
     replace H := H.front 6 rfl
     replace H := H.front 6 rfl
     replace H := H.front 6 rfl
     replace H := H.front 5 rfl
     replace H := H.front 6 rfl
     exact ⟨v65, (.slice none 0 0), 0, u63.2.1, u63.2.2, [], _, (((((E.nil.keep E 11 rfl).keep E 6 rfl).keep E 5 rfl).keep E 4 rfl).keep E 2 rfl), H, fun r hr => .tail _ (hs59 r hr), (.head _), (.tail _ hr61), (.tail _ hr62), hm⟩
    ·clear E H hm
     rintro k1 a w ⟨v85, v88, x84, l86, x87, l89, rs90, E, H, hs91, hr92, hr93, hr94, hm⟩
     cases k1 with
     | zero => exact (none_some hm rfl).elim
     | succ k1 =>
      unfold m_cantonref17_GetAnswer_l1 at hm
      refine wp_seq ?_
      refine wp_seq ?_
      refine wp_region_lit ?_
      refine st_val E (wn rfl) rfl rfl (x_move E rfl rfl) ?_
      clear a E;intro a E
      refine st_val E (wn rfl) rfl rfl (x_move E rfl rfl) ?_
      clear a E;intro a E
      refine st_val E (wn rfl) rfl rfl (x_bin E rfl rfl rfl rfl) ?_
      clear a E;intro a E
      refine st_val E (wn rfl) rfl rfl (x_move E rfl rfl) ?_
      clear a E;intro a E
      rcases Bool.eq_false_or_eq_true (decide (x84 < u63.1)) with hb95 | hb95
      ·rw [if_t hb95] at hm
       refine st_val E (ws' E rfl rfl rfl rfl hb95) rfl rfl (x_move E rfl rfl) ?_
       clear a E;intro a E
       refine st_val E (ws' E rfl rfl rfl rfl hb95) rfl rfl (x_nil E rfl rfl) ?_
       clear a E;intro a E
       refine st_val E (ws' E rfl rfl rfl rfl hb95) rfl rfl (x_fa E rfl rfl (v := .pointer (some ⟨p7, 1, none⟩)) (fa128_1 _ _)) ?_
       clear a E;intro a E
       refine st_val E (ws' E rfl rfl rfl rfl hb95) rfl rfl (x_ldB (i := 1) E H rfl rfl rfl rfl Try.underlying30 rfl) ?_
       clear a E;intro a E
       refine st_val E (ws' E rfl rfl rfl rfl hb95) rfl rfl (x_bin E rfl rfl rfl rfl) ?_
       clear a E;intro a E
       refine st_val E (wn rfl) rfl rfl (x_pickT E rfl rfl hb95 rfl) ?_
       clear a E;intro a E
       refine wpList_nil ?_
       refine q_then ?_
       refine wp_if E rfl ?_ ?_
       ·intro hb
        rw [if_t hb] at hm
        clear hb
        refine wp_skip ?_
        refine q_then ?_
        refine wp_seq ?_
        refine wp_block ?_
        refine wp_seq ?_
        refine wp_region_lit ?_
        refine st_val E (wn rfl) rfl rfl (x_move E rfl rfl) ?_
        clear a E;intro a E
        replace H := H.front 6 rfl
        replace H := H.front 6 rfl
        replace H := H.front 6 rfl
        replace H := H.front 6 rfl
        replace H := H.front 6 rfl
        replace H := H.front 5 rfl
        replace H := H.front 6 rfl
        replace H : Sep w (Blk p7 128 [v85, .int .i64 x87] :: Blk p4 50 [.int .i64 0, .int .i64 0, .bool false, .int .i64 0, .slice none 0 0, .slice none 0 0, .slice none 0 0, .slice none 0 0, .slice none 0 0, .slice none 0 0] :: Blk p9 50 [.int .i64 u10.1, .int .i64 u13.1, .bool (u16.1 == 1), .int .i64 u19.1, (.slice q26 u22.1.length x27), (.slice q33 u28.1.Nodes.length x34), (.slice q35 u28.1.Turns.length x36), v43, v56, v88] :: Row 62 k_api_Result (.slice q26 u22.1.length x27) u22.1 :: Row 68 k_api_Event v43 l44 :: Row 70 k_api_Mount v56 l57 :: Row 2 (kI .i64) v88 l89 :: Fo) (rs90) := H
        obtain ⟨u96, hx97, hm⟩ := bnd hm
        refine st_call E (wn rfl) rfl rfl (x_call E rfl rfl (cf44 _)) (c_cantonref02_Reader_Num p7 v85 l86 x87 281474976710656 H hr92 hx97) ?_
        clear E H; clear a; clear w; rintro _ w ⟨v98, rfl, H⟩ a E
        refine st_val E (wn rfl) rfl rfl (x_assign E rfl rfl) ?_
        clear a E;intro a E
        refine wpList_nil ?_
        refine q_then ?_
        refine wp_region_lit ?_
        refine st_val E (wn rfl) rfl rfl (x_fa E rfl rfl (v := .pointer (some ⟨p9, 9, none⟩)) (fa50_8 _ _)) ?_
        clear a E;intro a E
        refine st_val E (wn rfl) rfl rfl (x_ldB (i := 2) E H rfl rfl rfl rfl Try.underlying48 rfl) ?_
        clear a E;intro a E
        refine st_val E (wn rfl) rfl rfl (x_move E rfl rfl) ?_
        clear a E;intro a E
        refine st_bsR (e := 2) (d := (kI .i64)) (cs := [.int .i64 u96.1]) (xs := [u96.1]) E H (wn rfl) rfl rfl (ps := [(0, .tmp 116)]) (parts := [(0, .int .i64 u96.1)]) rfl (by simp only [List.map]; rw [E.eval (x := .tmp 116) (v := .int .i64 u96.1) rfl]) (by kernel_rfl) rfl (fun ok hr => (Rows.single (d := (kI .i64)) (cs := [.int .i64 u96.1]) (x := u96.1) rfl)) ?_
        clear E H; clear a; clear w; intro v99 w a H E
        obtain ⟨u101, hx102, hm⟩ := bnd hm
        refine st_append (i := 6) E H (wn rfl) rfl rfl rfl rfl rfl rfl (src_rd (.head _)) Try.underlying48 inf2 rfl (ck_of hx102) rfl ?_
        clear E H; clear a; clear w; intro v100 w a H E
        refine st_val E (wn rfl) rfl rfl (x_fa E rfl rfl (v := .pointer (some ⟨p9, 9, none⟩)) (fa50_8 _ _)) ?_
        clear a E;intro a E
        obtain ⟨q103, x104, rfl⟩ := H.rowform (i := 6) rfl
        refine st_st (i := 2) E H (wn rfl) rfl (us := [(.slice q103 (l89 ++ ([u96.1] : List Int)).length x104)]) rfl rfl rfl rfl rfl sz48 rfl rfl ?_
        clear H; clear w; intro w H
        replace H : Sep w (Blk p7 128 [v98, .int .i64 u96.2.2] :: Blk p4 50 [.int .i64 0, .int .i64 0, .bool false, .int .i64 0, .slice none 0 0, .slice none 0 0, .slice none 0 0, .slice none 0 0, .slice none 0 0, .slice none 0 0] :: Blk p9 50 [.int .i64 u10.1, .int .i64 u13.1, .bool (u16.1 == 1), .int .i64 u19.1, (.slice q26 u22.1.length x27), (.slice q33 u28.1.Nodes.length x34), (.slice q35 u28.1.Turns.length x36), v43, v56, (.slice q103 (l89 ++ ([u96.1] : List Int)).length x104)] :: Row 62 k_api_Result (.slice q26 u22.1.length x27) u22.1 :: Row 68 k_api_Event v43 l44 :: Row 70 k_api_Mount v56 l57 :: Row 2 (kI .i64) (.slice q103 (l89 ++ ([u96.1] : List Int)).length x104) (l89 ++ ([u96.1] : List Int)) :: Fo) _ := H
        refine wpList_nil ?_
        refine q_blk ?_
        refine q_then ?_
        refine wp_region_lit ?_
        refine st_val E (wn rfl) rfl rfl (x_move E rfl rfl) ?_
        clear a E;intro a E
        refine st_val E (wn rfl) rfl rfl (x_bin E rfl rfl rfl rfl) ?_
        clear a E;intro a E
        refine st_val E (wn rfl) rfl rfl (x_assign E rfl rfl) ?_
        clear a E;intro a E
        refine wpList_nil ?_
        refine q_then ?_
        replace H := H.front 6 rfl
        replace H := H.front 6 rfl
        replace H := H.front 6 rfl
        replace H := H.front 6 rfl
        replace H := H.front 6 rfl
        replace H := H.front 5 rfl
        replace H := H.front 6 rfl
        exact ⟨k1, Nat.lt_succ_self k1, v98, (.slice q103 (l89 ++ ([u96.1] : List Int)).length x104), IntKind.i64.wrap (x84 + 1), u96.2.1, u96.2.2, l89 ++ ([u96.1] : List Int), _, (((((E.nil.keep E 11 rfl).keep E 6 rfl).keep E 5 rfl).keep E 4 rfl).keep E 2 rfl), H, fun r hr => .tail _ (.tail _ (hs91 r hr)), (.tail _ (.head _)), (.tail _ (.tail _ hr93)), (.tail _ (.tail _ hr94)), hm⟩
       ·intro hb
        rw [if_f hb] at hm
        clear hb
        refine wp_exit ?_
        refine q_thenX ?_
        refine q_thenX ?_
        refine q_hit ?_
        refine q_then ?_
        exact ⟨v85, v88, l86, x87, l89, _, (((E.nil.keep E 5 rfl).keep E 4 rfl).keep E 2 rfl), H, hs91, hr92, hr93, hr94, hm⟩
      ·rw [if_f hb95] at hm
       refine st_no E (wf' E rfl rfl rfl rfl hb95 rfl) rfl rfl ?_
       clear a E;intro a E
       refine st_no E (wf' E rfl rfl rfl rfl hb95 rfl) rfl rfl ?_
       clear a E;intro a E
       refine st_no E (wf' E rfl rfl rfl rfl hb95 rfl) rfl rfl ?_
       clear a E;intro a E
       refine st_no E (wf' E rfl rfl rfl rfl hb95 rfl) rfl rfl ?_
       clear a E;intro a E
       refine st_no E (wf' E rfl rfl rfl rfl hb95 rfl) rfl rfl ?_
       clear a E;intro a E
       refine st_val E (wn rfl) rfl rfl (x_pickF E rfl rfl hb95 rfl) ?_
       clear a E;intro a E
       refine wpList_nil ?_
       refine q_then ?_
       refine wp_cond_false (E.eval rfl) ?_
       refine wp_exit ?_
       refine q_thenX ?_
       refine q_thenX ?_
       refine q_hit ?_
       refine q_then ?_
       exact ⟨v85, v88, l86, x87, l89, _, (((E.nil.keep E 5 rfl).keep E 4 rfl).keep E 2 rfl), H, hs91, hr92, hr93, hr94, hm⟩
   ·clear E H hm
    rintro a w ⟨v66, v69, l67, x68, l70, rs71, E, H, hs72, hr73, hr74, hr75, hm⟩
    unfold m_cantonref17_GetAnswer_j3 at hm
    refine wp_seq ?_
    refine wp_seq ?_
    refine wp_region_lit ?_
    refine st_val E (wn rfl) rfl rfl (x_move E rfl rfl) ?_
    clear a E;intro a E
    replace H := H.front 6 rfl
    replace H := H.front 6 rfl
    replace H := H.front 6 rfl
    replace H := H.front 6 rfl
    replace H := H.front 6 rfl
    replace H := H.front 5 rfl
    replace H := H.front 6 rfl
    replace H : Sep w (Blk p7 128 [v66, .int .i64 x68] :: Blk p4 50 [.int .i64 0, .int .i64 0, .bool false, .int .i64 0, .slice none 0 0, .slice none 0 0, .slice none 0 0, .slice none 0 0, .slice none 0 0, .slice none 0 0] :: Blk p9 50 [.int .i64 u10.1, .int .i64 u13.1, .bool (u16.1 == 1), .int .i64 u19.1, (.slice q26 u22.1.length x27), (.slice q33 u28.1.Nodes.length x34), (.slice q35 u28.1.Turns.length x36), v43, v56, v69] :: Row 62 k_api_Result (.slice q26 u22.1.length x27) u22.1 :: Row 68 k_api_Event v43 l44 :: Row 70 k_api_Mount v56 l57 :: Row 2 (kI .i64) v69 l70 :: Fo) (rs71) := H
    obtain ⟨u76, hx77, hm⟩ := bnd hm
    refine st_call E (wn rfl) rfl rfl (x_call E rfl rfl (cf47 _)) (c_cantonref02_Reader_End p7 v66 l67 x68 H hr73 hx77) ?_
    clear E H; clear a; clear w; rintro _ w ⟨rfl, H⟩ a E
    refine st_val E (wn rfl) rfl rfl (x_not E rfl rfl) ?_
    clear a E;intro a E
    refine wpList_nil ?_
    refine q_then ?_
    refine wp_if E rfl ?_ ?_
    ·intro hb
     rw [if_t hb] at hm
     clear hb
     refine wp_seq ?_
     refine wp_region_lit ?_
     refine st_val E (wn rfl) rfl rfl (x_build E (ps := []) (vs := []) rfl rfl (v := .agg #[.int .i64 0, .int .i64 0, .bool false, .int .i64 0, .slice none 0 0, .slice none 0 0, .slice none 0 0, .slice none 0 0, .slice none 0 0, .slice none 0 0]) (by kernel_rfl)) ?_
     clear a E;intro a E
     refine st_st (i := 1) E H (wn rfl) rfl (us := [.int .i64 0, .int .i64 0, .bool false, .int .i64 0, .slice none 0 0, .slice none 0 0, .slice none 0 0, .slice none 0 0, .slice none 0 0, .slice none 0 0]) rfl rfl rfl rfl rfl sz50 rfl rfl ?_
     clear H; clear w; intro w H
     replace H : Sep w (Blk p7 128 [v66, .int .i64 x68] :: Blk p4 50 [.int .i64 0, .int .i64 0, .bool false, .int .i64 0, .slice none 0 0, .slice none 0 0, .slice none 0 0, .slice none 0 0, .slice none 0 0, .slice none 0 0] :: Blk p9 50 [.int .i64 u10.1, .int .i64 u13.1, .bool (u16.1 == 1), .int .i64 u19.1, (.slice q26 u22.1.length x27), (.slice q33 u28.1.Nodes.length x34), (.slice q35 u28.1.Turns.length x36), v43, v56, v69] :: Row 62 k_api_Result (.slice q26 u22.1.length x27) u22.1 :: Row 68 k_api_Event v43 l44 :: Row 70 k_api_Mount v56 l57 :: Row 2 (kI .i64) v69 l70 :: Fo) _ := H
     refine st_val E (wn rfl) rfl rfl (x_assign E rfl rfl) ?_
     clear a E;intro a E
     refine wpList_nil ?_
     refine q_then ?_
     refine wp_ret ?_
     refine q_thenR ?_
     refine outR2 E rfl (rvBN (i := 1) (us := [.int .i64 0, .int .i64 0, .bool false, .int .i64 0, .slice none 0 0, .slice none 0 0, .slice none 0 0, .slice none 0 0, .slice none 0 0, .slice none 0 0]) H rfl rfl rfl Try.underlying50 rfl sz50) (rvT rfl) ?_
     replace H := H.nilSl k_api_Result
     replace H := H.nilSl k_api_Node
     replace H := H.nilSl k_api_Turn
     replace H := H.nilSl k_api_Event
     replace H := H.nilSl k_api_Mount
     replace H := H.nilSl (kI .i64)
     replace H := H.drop 0
     replace H := H.drop 0
     replace H := H.drop 0
     replace H := H.drop 0
     replace H := H.drop 0
     replace H := H.drop 0
     replace H := H.drop 0
     obtain rfl := Option.some.inj hm
     exact ⟨(.slice none 0 0), (.slice none 0 0), (.slice none 0 0), (.slice none 0 0), (.slice none 0 0), (.slice none 0 0), rfl, H.reads (sub_cons (.tail _ (.tail _ (.tail _ (.tail _ (.tail _ (.head _)))))) (sub_cons (.tail _ (.tail _ (.tail _ (.tail _ (.head _))))) (sub_cons (.tail _ (.tail _ (.tail _ (.head _)))) (sub_cons (.tail _ (.tail _ (.head _))) (sub_cons (.tail _ (.head _)) (sub_cons (.head _) (fun r hr => .tail _ (.tail _ (.tail _ (.tail _ (.tail _ (.tail _ (hs72 r hr)))))))))))))⟩
    ·intro hb
     rw [if_f hb] at hm
     clear hb
     refine wp_skip ?_
     refine q_then ?_
     refine wp_seq ?_
     refine wp_region_lit ?_
     refine st_val E (wn rfl) rfl rfl (x_ldBN (i := 2) (us := [.int .i64 u10.1, .int .i64 u13.1, .bool (u16.1 == 1), .int .i64 u19.1, (.slice q26 u22.1.length x27), (.slice q33 u28.1.Nodes.length x34), (.slice q35 u28.1.Turns.length x36), v43, v56, v69]) E H rfl rfl rfl rfl Try.underlying50 rfl sz50) ?_
     clear a E;intro a E
     obtain ⟨q78, x79, rfl⟩ := H.rowform (i := 4) rfl
     obtain ⟨q80, x81, rfl⟩ := H.rowform (i := 5) rfl
     obtain ⟨q82, x83, rfl⟩ := H.rowform (i := 6) rfl
     refine st_st (i := 1) E H (wn rfl) rfl (us := [.int .i64 u10.1, .int .i64 u13.1, .bool (u16.1 == 1), .int .i64 u19.1, (.slice q26 u22.1.length x27), (.slice q33 u28.1.Nodes.length x34), (.slice q35 u28.1.Turns.length x36), (.slice q78 l44.length x79), (.slice q80 l57.length x81), (.slice q82 l70.length x83)]) rfl rfl rfl rfl rfl sz50 rfl rfl ?_
     clear H; clear w; intro w H
     replace H : Sep w (Blk p7 128 [v66, .int .i64 x68] :: Blk p4 50 [.int .i64 u10.1, .int .i64 u13.1, .bool (u16.1 == 1), .int .i64 u19.1, (.slice q26 u22.1.length x27), (.slice q33 u28.1.Nodes.length x34), (.slice q35 u28.1.Turns.length x36), (.slice q78 l44.length x79), (.slice q80 l57.length x81), (.slice q82 l70.length x83)] :: Blk p9 50 [.int .i64 u10.1, .int .i64 u13.1, .bool (u16.1 == 1), .int .i64 u19.1, (.slice q26 u22.1.length x27), (.slice q33 u28.1.Nodes.length x34), (.slice q35 u28.1.Turns.length x36), (.slice q78 l44.length x79), (.slice q80 l57.length x81), (.slice q82 l70.length x83)] :: Row 62 k_api_Result (.slice q26 u22.1.length x27) u22.1 :: Row 68 k_api_Event (.slice q78 l44.length x79) l44 :: Row 70 k_api_Mount (.slice q80 l57.length x81) l57 :: Row 2 (kI .i64) (.slice q82 l70.length x83) l70 :: Fo) _ := H
     refine st_val E (wn rfl) rfl rfl (x_assign E rfl rfl) ?_
     clear a E;intro a E
     refine wpList_nil ?_
     refine q_then ?_
     refine wp_ret ?_
     refine outR2 E rfl (rvBN (i := 1) (us := [.int .i64 u10.1, .int .i64 u13.1, .bool (u16.1 == 1), .int .i64 u19.1, (.slice q26 u22.1.length x27), (.slice q33 u28.1.Nodes.length x34), (.slice q35 u28.1.Turns.length x36), (.slice q78 l44.length x79), (.slice q80 l57.length x81), (.slice q82 l70.length x83)]) H rfl rfl rfl Try.underlying50 rfl sz50) (rvT rfl) ?_
     replace H := H.thaw (i := 3) rfl
     replace H := H.thaw (i := 3) rfl
     replace H := H.thaw (i := 3) rfl
     replace H := H.thaw (i := 3) rfl
     replace H := H.drop 0
     replace H := H.drop 0
     replace H := H.drop 0
     obtain rfl := Option.some.inj hm
     exact ⟨(.slice q26 u22.1.length x27), (.slice q33 u28.1.Nodes.length x34), (.slice q35 u28.1.Turns.length x36), (.slice q78 l44.length x79), (.slice q80 l57.length x81), (.slice q82 l70.length x83), rfl, H.reads (sub_cons (.tail _ (.tail _ (.tail _ (.head _)))) (sub_cons (.tail _ (.tail _ (.tail _ (.tail _ hr74)))) (sub_cons (.tail _ (.tail _ (.tail _ (.tail _ hr75)))) (sub_cons (.tail _ (.tail _ (.head _))) (sub_cons (.tail _ (.head _)) (sub_cons (.head _) (fun r hr => .tail _ (.tail _ (.tail _ (.tail _ (hs72 r hr)))))))))))⟩
end Go.Cb

set_option linter.unusedVariables false
set_option linter.unusedSimpArgs false
namespace Go.Cb
open Go.Proofs Go.RowKit
def m_cantonref17_bit (b1 : Bool) : Option Int :=
  if b1 = true then (some (1)) else (some (0))
set_option maxRecDepth 20000 in
set_option maxHeartbeats 1000000 in
theorem c_cantonref17_bit {w : World} {Fo : List Ob} {rs : List Rp} (b1 : Bool) (H : Sep w (Fo) rs) {r : Int} (hm : m_cantonref17_bit b1 = some r) :
    Calls Try.prog 63 [.bool b1].toArray w (Ret fun v w' => .int .i64 r = v ∧ Sep w' (Fo) (rs)) := by
 unfold m_cantonref17_bit at hm
 refine enter Try.func63 rfl Try.ntmps63 rfl fun a E => ?_
 simp only [enum, Nat.reduceAdd] at E
 refine wp_seq ?_
 refine wp_region_lit ?_
 refine st_val E (wn rfl) rfl rfl (x_assign E rfl rfl) ?_
 clear a E;intro a E
 refine wpList_nil ?_
 refine q_then ?_
 refine wp_seq ?_
 refine wp_seq ?_
 refine wp_region_lit ?_
 refine st_val E (wn rfl) rfl rfl (x_move E rfl rfl) ?_
 clear a E;intro a E
 refine wpList_nil ?_
 refine q_then ?_
 refine wp_if E rfl ?_ ?_
 ·intro hb
  rw [if_t hb] at hm
  clear hb
  refine wp_seq ?_
  refine wp_region_lit ?_
  refine st_val E (wn rfl) rfl rfl (x_assign E rfl rfl) ?_
  clear a E;intro a E
  refine wpList_nil ?_
  refine q_then ?_
  refine wp_ret ?_
  refine q_thenR ?_
  refine out1 E rfl rfl ?_
  obtain rfl := Option.some.inj hm
  exact ⟨rfl, H.reads (fun r hr => hr)⟩
 ·intro hb
  rw [if_f hb] at hm
  clear hb
  refine wp_skip ?_
  refine q_then ?_
  refine wp_seq ?_
  refine wp_region_lit ?_
  refine st_val E (wn rfl) rfl rfl (x_assign E rfl rfl) ?_
  clear a E;intro a E
  refine wpList_nil ?_
  refine q_then ?_
  refine wp_ret ?_
  refine out1 E rfl rfl ?_
  obtain rfl := Option.some.inj hm
  exact ⟨rfl, H.reads (fun r hr => hr)⟩
end Go.Cb

set_option linter.unusedVariables false
set_option linter.unusedSimpArgs false
namespace Go.Cb
open Go.Proofs Go.RowKit
def m_cantonref17_PutAnswer_j1 (rec_2 : Int → (List Int) → Bool → Option ((List Int) × Int)) (x83 : Int) (l96 : (List Int)) (b97 : Bool) : Option ((List Int) × Int) :=
  rec_2 (IntKind.i64.wrap (x83 + 1)) l96 b97
def m_cantonref17_PutAnswer_l6 (x1 : S_api_Answer) : Nat → Int → (List Int) → Bool → Option ((List Int) × Int)
  | 0, _, _, _ => none
  | k6 + 1, x231, l233, b234 =>
    if (decide (x231 < (x1.Wounded.length : Int))) = true then ((idx x1.Wounded x231).bind fun x243 => (m_cantonref02_Writer_Num l233 b234 x243).bind fun u246 => m_cantonref17_PutAnswer_l6 x1 k6 (IntKind.i64.wrap (x231 + 1)) u246.1 u246.2) else ((m_cantonref02_Writer_Bytes l233 b234).bind fun u249 => some (u249.1, u249.2))
def m_cantonref17_PutAnswer_l5 (x1 : S_api_Answer) : Nat → Int → (List Int) → Bool → Option ((List Int) × Int)
  | 0, _, _, _ => none
  | k5 + 1, x192, l194, b195 =>
    if (decide (x192 < (x1.Mounts.length : Int))) = true then ((idx x1.Mounts x192).bind fun x204 => (m_cantonref02_Writer_Text l194 b195 x204.Prefix).bind fun u207 => (idx x1.Mounts x192).bind fun x210 => (m_cantonref02_Writer_Num u207.1 u207.2 x210.Group).bind fun u213 => (idx x1.Mounts x192).bind fun x216 => (m_cantonref02_Writer_Num u213.1 u213.2 x216.Epoch).bind fun u219 => (idx x1.Mounts x192).bind fun x222 => (m_cantonref02_Writer_Num u219.1 u219.2 x222.To).bind fun u225 => m_cantonref17_PutAnswer_l5 x1 k5 (IntKind.i64.wrap (x192 + 1)) u225.1 u225.2) else ((m_cantonref02_Writer_Num l194 b195 (x1.Wounded.length : Int)).bind fun u228 => m_cantonref17_PutAnswer_l6 x1 (((x1.Wounded.length : Int) - 0 : Int).toNat + 1) 0 u228.1 u228.2)
def m_cantonref17_PutAnswer_l4 (x1 : S_api_Answer) : Nat → Int → (List Int) → Bool → Option ((List Int) × Int)
  | 0, _, _, _ => none
  | k4 + 1, x153, l155, b156 =>
    if (decide (x153 < (x1.Events.length : Int))) = true then ((idx x1.Events x153).bind fun x165 => (m_cantonref02_Writer_Num l155 b156 x165.Num).bind fun u168 => (idx x1.Events x153).bind fun x171 => (m_cantonref02_Writer_Num u168.1 u168.2 x171.Kind).bind fun u174 => (idx x1.Events x153).bind fun x177 => (m_cantonref02_Writer_Text u174.1 u174.2 x177.Path).bind fun u180 => (idx x1.Events x153).bind fun x183 => (m_cantonref02_Writer_Num u180.1 u180.2 x183.Watch).bind fun u186 => m_cantonref17_PutAnswer_l4 x1 k4 (IntKind.i64.wrap (x153 + 1)) u186.1 u186.2) else ((m_cantonref02_Writer_Num l155 b156 (x1.Mounts.length : Int)).bind fun u189 => m_cantonref17_PutAnswer_l5 x1 (((x1.Mounts.length : Int) - 0 : Int).toNat + 1) 0 u189.1 u189.2)
def m_cantonref17_PutAnswer_l3 (x1 : S_api_Answer) : Nat → Int → (List Int) → Bool → Option ((List Int) × Int)
  | 0, _, _, _ => none
  | k3 + 1, x126, l128, b129 =>
    if (decide (x126 < (x1.Store.Turns.length : Int))) = true then ((idx x1.Store.Turns x126).bind fun x138 => (m_cantonref02_Writer_Text l128 b129 x138.Dir).bind fun u141 => (idx x1.Store.Turns x126).bind fun x144 => (m_cantonref02_Writer_Num u141.1 u141.2 x144.Next).bind fun u147 => m_cantonref17_PutAnswer_l3 x1 k3 (IntKind.i64.wrap (x126 + 1)) u147.1 u147.2) else ((m_cantonref02_Writer_Num l128 b129 (x1.Events.length : Int)).bind fun u150 => m_cantonref17_PutAnswer_l4 x1 (((x1.Events.length : Int) - 0 : Int).toNat + 1) 0 u150.1 u150.2)
def m_cantonref17_PutAnswer_l2 (x1 : S_api_Answer) : Nat → Int → (List Int) → Bool → Option ((List Int) × Int)
  | 0, _, _, _ => none
  | k2 + 1, x83, l85, b86 =>
    if (decide (x83 < (x1.Store.Nodes.length : Int))) = true then ((idx x1.Store.Nodes x83).bind fun x106 => (m_cantonref02_Writer_Text l85 b86 x106.Path).bind fun u111 => (m_cantonref02_Writer_Text u111.1 u111.2 x106.Data).bind fun u114 => (m_cantonref02_Writer_Num u114.1 u114.2 x106.Version).bind fun u117 => (m_cantonref02_Writer_Num u117.1 u117.2 x106.Owner).bind fun u120 => if (x106.Turn != 0) = true then (m_cantonref17_PutAnswer_j1 (m_cantonref17_PutAnswer_l2 x1 k2) x83 u120.1 true) else (m_cantonref17_PutAnswer_j1 (m_cantonref17_PutAnswer_l2 x1 k2) x83 u120.1 u120.2)) else ((m_cantonref02_Writer_Num l85 b86 (x1.Store.Turns.length : Int)).bind fun u123 => m_cantonref17_PutAnswer_l3 x1 (((x1.Store.Turns.length : Int) - 0 : Int).toNat + 1) 0 u123.1 u123.2)
def m_cantonref17_PutAnswer_l1 (x1 : S_api_Answer) : Nat → Int → (List Int) → Bool → Option ((List Int) × Int)
  | 0, _, _, _ => none
  | k1 + 1, x45, l47, b48 =>
    if (decide (x45 < (x1.Results.length : Int))) = true then ((idx x1.Results x45).bind fun x57 => (m_cantonref02_Writer_Num l47 b48 x57.Err).bind fun u65 => (m_cantonref02_Writer_Text u65.1 u65.2 x57.Path).bind fun u68 => (m_cantonref02_Writer_Text u68.1 u68.2 x57.Data).bind fun u71 => (m_cantonref02_Writer_Num u71.1 u71.2 x57.Version).bind fun u74 => (m_cantonref02_Writer_Texts u74.1 u74.2 x57.Names).bind fun u77 => m_cantonref17_PutAnswer_l1 x1 k1 (IntKind.i64.wrap (x45 + 1)) u77.1 u77.2) else ((m_cantonref02_Writer_Num l47 b48 (x1.Store.Nodes.length : Int)).bind fun u80 => m_cantonref17_PutAnswer_l2 x1 (((x1.Store.Nodes.length : Int) - 0 : Int).toNat + 1) 0 u80.1 u80.2)
def m_cantonref17_PutAnswer (x1 : S_api_Answer) : Option ((List Int) × Int) :=
  (m_cantonref02_Writer_Num [] false x1.Err).bind fun u28 => (m_cantonref02_Writer_Num u28.1 u28.2 x1.At).bind fun u31 => (m_cantonref17_bit x1.Yes).bind fun u34 => (m_cantonref02_Writer_Num u31.1 u31.2 u34).bind fun u36 => (m_cantonref02_Writer_Num u36.1 u36.2 x1.Epoch).bind fun u39 => (m_cantonref02_Writer_Num u39.1 u39.2 (x1.Results.length : Int)).bind fun u42 => m_cantonref17_PutAnswer_l1 x1 (((x1.Results.length : Int) - 0 : Int).toNat + 1) 0 u42.1 u42.2
set_option maxRecDepth 20000 in
set_option maxHeartbeats 1000000 in
theorem c_cantonref17_PutAnswer {w : World} {Fo : List Ob} {rs : List Rp} (x1 : S_api_Answer) (v2 : Value) (v3 : Value) (v4 : Value) (v5 : Value) (v6 : Value) (v7 : Value) (H : Sep w (Fo) rs) (hr8 : rSl k_api_Result v2 x1.Results ∈ rs) (hr9 : rSl k_api_Node v3 x1.Store.Nodes ∈ rs) (hr10 : rSl k_api_Turn v4 x1.Store.Turns ∈ rs) (hr11 : rSl k_api_Event v5 x1.Events ∈ rs) (hr12 : rSl k_api_Mount v6 x1.Mounts ∈ rs) (hr13 : rSl (kI .i64) v7 x1.Wounded ∈ rs) {r : (List Int) × Int} (hm : m_cantonref17_PutAnswer x1 = some r) :
    Calls Try.prog 23 [.agg #[.int .i64 x1.Err, .int .i64 x1.At, .bool x1.Yes, .int .i64 x1.Epoch, v2, v3, v4, v5, v6, v7]].toArray w (Ret fun v w' => ∃ (v5001 : Value), .tuple #[v5001, .int .i64 r.2] = v ∧ Sep w' (Row 5 (kI .u8) v5001 r.1 :: Fo) (rs)) := by
 unfold m_cantonref17_PutAnswer at hm
 refine enter Try.func23 rfl Try.ntmps23 rfl fun a E => ?_
 simp only [enum, Nat.reduceAdd] at E
 refine wp_seq ?_
 refine wp_region_lit ?_
 obtain ⟨q15, x16, rfl⟩ := H.slform hr8
 obtain ⟨q17, x18, rfl⟩ := H.slform hr9
 obtain ⟨q19, x20, rfl⟩ := H.slform hr10
 obtain ⟨q21, x22, rfl⟩ := H.slform hr11
 obtain ⟨q23, x24, rfl⟩ := H.slform hr12
 obtain ⟨q25, x26, rfl⟩ := H.slform hr13
 refine st_box E H (wn rfl) rfl rfl (cs := [.int .i64 x1.Err, .int .i64 x1.At, .bool x1.Yes, .int .i64 x1.Epoch, (.slice q15 x1.Results.length x16), (.slice q17 x1.Store.Nodes.length x18), (.slice q19 x1.Store.Turns.length x20), (.slice q21 x1.Events.length x22), (.slice q23 x1.Mounts.length x24), (.slice q25 x1.Wounded.length x26)]) rfl rfl rfl ?_
 clear E H; clear a; clear w; intro p14 w a H E
 refine st_val E (wn rfl) rfl rfl (x_assign E rfl rfl) ?_
 clear a E;intro a E
 refine st_val E (wn rfl) rfl rfl (x_assign E rfl rfl) ?_
 clear a E;intro a E
 refine wpList_nil ?_
 refine q_then ?_
 refine wp_seq ?_
 refine wp_region_lit ?_
 refine st_val E (wn rfl) rfl rfl (x_build E (ps := []) (vs := []) rfl rfl (v := .agg #[.slice none 0 0, .bool false]) (by kernel_rfl)) ?_
 clear a E;intro a E
 refine st_box E H (wn rfl) rfl rfl (cs := [.slice none 0 0, .bool false]) rfl rfl rfl ?_
 clear E H; clear a; clear w; intro p27 w a H E
 refine st_val E (wn rfl) rfl rfl (x_assign E rfl rfl) ?_
 clear a E;intro a E
 refine wpList_nil ?_
 refine q_then ?_
 refine wp_seq ?_
 refine wp_region_lit ?_
 refine st_val E (wn rfl) rfl rfl (x_move E rfl rfl) ?_
 clear a E;intro a E
 refine st_val E (wn rfl) rfl rfl (x_fa E rfl rfl (v := .pointer (some ⟨p14, 0, none⟩)) (fa50_0 _ _)) ?_
 clear a E;intro a E
 refine st_val E (wn rfl) rfl rfl (x_ldB (i := 1) E H rfl rfl rfl rfl Try.underlying30 rfl) ?_
 clear a E;intro a E
 replace H := H.nilRow 5 (kI .u8)
 replace H := H.front 2 rfl
 replace H := H.front 1 rfl
 replace H := H.front 2 rfl
 replace H : Sep w (Blk p27 84 [.slice none 0 0, .bool false] :: Row 5 (kI .u8) (.slice none 0 0) ([] : List Int) :: Blk p14 50 [.int .i64 x1.Err, .int .i64 x1.At, .bool x1.Yes, .int .i64 x1.Epoch, (.slice q15 x1.Results.length x16), (.slice q17 x1.Store.Nodes.length x18), (.slice q19 x1.Store.Turns.length x20), (.slice q21 x1.Events.length x22), (.slice q23 x1.Mounts.length x24), (.slice q25 x1.Wounded.length x26)] :: Fo) (rs) := H
 obtain ⟨u28, hx29, hm⟩ := bnd hm
 refine st_call E (wn rfl) rfl rfl (x_call E rfl rfl (cf33 _)) (c_cantonref02_Writer_Num p27 (.slice none 0 0) [] false x1.Err H hx29) ?_
 clear E H; clear a; clear w; rintro _ w ⟨v30, rfl, H⟩ a E
 refine wpList_nil ?_
 refine q_then ?_
 refine wp_seq ?_
 refine wp_region_lit ?_
 refine st_val E (wn rfl) rfl rfl (x_move E rfl rfl) ?_
 clear a E;intro a E
 refine st_val E (wn rfl) rfl rfl (x_fa E rfl rfl (v := .pointer (some ⟨p14, 1, none⟩)) (fa50_1 _ _)) ?_
 clear a E;intro a E
 refine st_val E (wn rfl) rfl rfl (x_ldB (i := 2) E H rfl rfl rfl rfl Try.underlying3 rfl) ?_
 clear a E;intro a E
 obtain ⟨u31, hx32, hm⟩ := bnd hm
 refine st_call E (wn rfl) rfl rfl (x_call E rfl rfl (cf33 _)) (c_cantonref02_Writer_Num p27 v30 u28.1 u28.2 x1.At H hx32) ?_
 clear E H; clear a; clear w; rintro _ w ⟨v33, rfl, H⟩ a E
 refine wpList_nil ?_
 refine q_then ?_
 refine wp_seq ?_
 refine wp_region_lit ?_
 refine st_val E (wn rfl) rfl rfl (x_move E rfl rfl) ?_
 clear a E;intro a E
 refine st_val E (wn rfl) rfl rfl (x_fa E rfl rfl (v := .pointer (some ⟨p14, 2, none⟩)) (fa50_2 _ _)) ?_
 clear a E;intro a E
 refine st_val E (wn rfl) rfl rfl (x_ldB (i := 2) E H rfl rfl rfl rfl Try.underlying4 rfl) ?_
 clear a E;intro a E
 obtain ⟨u34, hx35, hm⟩ := bnd hm
 refine st_call E (wn rfl) rfl rfl (x_call E rfl rfl (cf63 _)) (c_cantonref17_bit x1.Yes H hx35) ?_
 clear E H; clear a; clear w; rintro _ w ⟨rfl, H⟩ a E
 obtain ⟨u36, hx37, hm⟩ := bnd hm
 refine st_call E (wn rfl) rfl rfl (x_call E rfl rfl (cf33 _)) (c_cantonref02_Writer_Num p27 v33 u31.1 u31.2 u34 H hx37) ?_
 clear E H; clear a; clear w; rintro _ w ⟨v38, rfl, H⟩ a E
 refine wpList_nil ?_
 refine q_then ?_
 refine wp_seq ?_
 refine wp_region_lit ?_
 refine st_val E (wn rfl) rfl rfl (x_move E rfl rfl) ?_
 clear a E;intro a E
 refine st_val E (wn rfl) rfl rfl (x_fa E rfl rfl (v := .pointer (some ⟨p14, 3, none⟩)) (fa50_3 _ _)) ?_
 clear a E;intro a E
 refine st_val E (wn rfl) rfl rfl (x_ldB (i := 2) E H rfl rfl rfl rfl Try.underlying2 rfl) ?_
 clear a E;intro a E
 obtain ⟨u39, hx40, hm⟩ := bnd hm
 refine st_call E (wn rfl) rfl rfl (x_call E rfl rfl (cf33 _)) (c_cantonref02_Writer_Num p27 v38 u36.1 u36.2 x1.Epoch H hx40) ?_
 clear E H; clear a; clear w; rintro _ w ⟨v41, rfl, H⟩ a E
 refine wpList_nil ?_
 refine q_then ?_
 refine wp_seq ?_
 refine wp_region_lit ?_
 refine st_val E (wn rfl) rfl rfl (x_move E rfl rfl) ?_
 clear a E;intro a E
 refine st_val E (wn rfl) rfl rfl (x_fa E rfl rfl (v := .pointer (some ⟨p14, 4, none⟩)) (fa50_4 _ _)) ?_
 clear a E;intro a E
 refine st_val E (wn rfl) rfl rfl (x_ldB (i := 2) E H rfl rfl rfl rfl Try.underlying41 rfl) ?_
 clear a E;intro a E
 refine st_val E (wn rfl) rfl rfl (x_lenS E H rfl rfl hr8 Try.underlying41) ?_
 clear a E;intro a E
 obtain ⟨u42, hx43, hm⟩ := bnd hm
 refine st_call E (wn rfl) rfl rfl (x_call E rfl rfl (cf33 _)) (c_cantonref02_Writer_Num p27 v41 u39.1 u39.2 (x1.Results.length : Int) H hx43) ?_
 clear E H; clear a; clear w; rintro _ w ⟨v44, rfl, H⟩ a E
 refine wpList_nil ?_
 refine q_then ?_
 refine wp_seq ?_
 refine wp_seq ?_
 refine wp_region_lit ?_
 refine st_val E (wn rfl) rfl rfl (x_assign E rfl rfl) ?_
 clear a E;intro a E
 refine wpList_nil ?_
 refine q_then ?_
 refine wp_block ?_
 refine wp_loop_g (fun k1 a w => ∃ (v46 : Value) (x45 : Int) (l47 : (List Int)) (b48 : Bool) (rs49 : List Rp), Env 254 a [(1, .pointer (some ⟨p14, 0, none⟩)), (4, .pointer (some ⟨p27, 0, none⟩)), (5, .int .i64 x45)] ∧ Sep w (Blk p14 50 [.int .i64 x1.Err, .int .i64 x1.At, .bool x1.Yes, .int .i64 x1.Epoch, (.slice q15 x1.Results.length x16), (.slice q17 x1.Store.Nodes.length x18), (.slice q19 x1.Store.Turns.length x20), (.slice q21 x1.Events.length x22), (.slice q23 x1.Mounts.length x24), (.slice q25 x1.Wounded.length x26)] :: Blk p27 84 [v46, .bool b48] :: Row 5 (kI .u8) v46 l47 :: Fo) rs49 ∧ (∀ r, r ∈ rs → r ∈ rs49) ∧ rSl k_api_Result (.slice q15 x1.Results.length x16) x1.Results ∈ rs49 ∧ rSl k_api_Node (.slice q17 x1.Store.Nodes.length x18) x1.Store.Nodes ∈ rs49 ∧ rSl k_api_Turn (.slice q19 x1.Store.Turns.length x20) x1.Store.Turns ∈ rs49 ∧ rSl k_api_Event (.slice q21 x1.Events.length x22) x1.Events ∈ rs49 ∧ rSl k_api_Mount (.slice q23 x1.Mounts.length x24) x1.Mounts ∈ rs49 ∧ rSl (kI .i64) (.slice q25 x1.Wounded.length x26) x1.Wounded ∈ rs49 ∧ m_cantonref17_PutAnswer_l1 x1 k1 x45 l47 b48 = some r) (((x1.Results.length : Int) - 0 : Int).toNat + 1) ?_ ?_
 ·replace H := H.front 1 rfl
  replace H := H.front 1 rfl
  replace H := H.front 2 rfl
  exact ⟨v44, 0, u42.1, u42.2, _, (((E.nil.keep E 5 rfl).keep E 4 rfl).keep E 1 rfl), H, fun r hr => hr, hr8, hr9, hr10, hr11, hr12, hr13, hm⟩
 ·clear E H hm
  rintro k1 a w ⟨v46, x45, l47, b48, rs49, E, H, hs50, hr51, hr52, hr53, hr54, hr55, hr56, hm⟩
  cases k1 with
  | zero => exact (none_some hm rfl).elim
  | succ k1 =>
   unfold m_cantonref17_PutAnswer_l1 at hm
   refine wp_seq ?_
   refine wp_seq ?_
   refine wp_region_lit ?_
   refine st_val E (wn rfl) rfl rfl (x_move E rfl rfl) ?_
   clear a E;intro a E
   refine st_val E (wn rfl) rfl rfl (x_fa E rfl rfl (v := .pointer (some ⟨p14, 4, none⟩)) (fa50_4 _ _)) ?_
   clear a E;intro a E
   refine st_val E (wn rfl) rfl rfl (x_ldB (i := 0) E H rfl rfl rfl rfl Try.underlying41 rfl) ?_
   clear a E;intro a E
   refine st_val E (wn rfl) rfl rfl (x_lenS E H rfl rfl hr51 Try.underlying41) ?_
   clear a E;intro a E
   refine st_val E (wn rfl) rfl rfl (x_bin E rfl rfl rfl rfl) ?_
   clear a E;intro a E
   refine wpList_nil ?_
   refine q_then ?_
   refine wp_if E rfl ?_ ?_
   ·intro hb
    rw [if_t hb] at hm
    clear hb
    refine wp_skip ?_
    refine q_then ?_
    refine wp_seq ?_
    refine wp_block ?_
    refine wp_seq ?_
    refine wp_region_lit ?_
    refine st_val E (wn rfl) rfl rfl (x_fa E rfl rfl (v := .pointer (some ⟨p14, 4, none⟩)) (fa50_4 _ _)) ?_
    clear a E;intro a E
    refine st_val E (wn rfl) rfl rfl (x_ldB (i := 0) E H rfl rfl rfl rfl Try.underlying41 rfl) ?_
    clear a E;intro a E
    refine st_val E (wn rfl) rfl rfl (x_move E rfl rfl) ?_
    clear a E;intro a E
    obtain ⟨x57, hx58, hm⟩ := bnd hm
    refine st_ixS E H (wn rfl) rfl rfl rfl rfl rfl hr51 Try.underlying41 sz62 hx58 ?_
    clear E H; clear a; intro q59 a H E
    refine st_ldN E H (wn rfl) rfl rfl rfl rfl (.head _) Try.underlying62 rfl sz62 ?_
    clear E H; clear a; intro u60 a H E
    obtain ⟨_, hcs⟩ := H.rd (.head _)
    obtain ⟨v61, rfl, -⟩ := k_api_Result_open hcs
    clear hcs
    replace H := H.derive1 (.head _) (rSl kS v61 x57.Names) (fun ok h => k_api_Result_get1 h)
    refine st_alloc E H (wn rfl) rfl rfl (cs := [.int .i64 0, .string (ByteArray.mk #[]), .string (ByteArray.mk #[]), .int .i64 0, .slice none 0 0]) rfl (z := .agg #[.int .i64 0, .string ⟨#[]⟩, .string ⟨#[]⟩, .int .i64 0, .slice none 0 0]) (by kernel_rfl) rfl ?_
    clear E H; clear a; clear w; intro p62 w a H E
    obtain ⟨q63, x64, rfl⟩ := H.slform (.head _)
    refine st_st (i := 0) E H (wn rfl) rfl (us := [.int .i64 x57.Err, .string x57.Path, .string x57.Data, .int .i64 x57.Version, (.slice q63 x57.Names.length x64)]) rfl rfl rfl rfl rfl sz62 rfl rfl ?_
    clear H; clear w; intro w H
    replace H : Sep w (Blk p62 62 [.int .i64 x57.Err, .string x57.Path, .string x57.Data, .int .i64 x57.Version, (.slice q63 x57.Names.length x64)] :: Blk p14 50 [.int .i64 x1.Err, .int .i64 x1.At, .bool x1.Yes, .int .i64 x1.Epoch, (.slice q15 x1.Results.length x16), (.slice q17 x1.Store.Nodes.length x18), (.slice q19 x1.Store.Turns.length x20), (.slice q21 x1.Events.length x22), (.slice q23 x1.Mounts.length x24), (.slice q25 x1.Wounded.length x26)] :: Blk p27 84 [v46, .bool b48] :: Row 5 (kI .u8) v46 l47 :: Fo) _ := H
    refine wpList_nil ?_
    refine q_then ?_
    refine wp_seq ?_
    refine wp_region_lit ?_
    refine st_val E (wn rfl) rfl rfl (x_move E rfl rfl) ?_
    clear a E;intro a E
    refine st_val E (wn rfl) rfl rfl (x_fa E rfl rfl (v := .pointer (some ⟨p62, 0, none⟩)) (fa62_0 _ _)) ?_
    clear a E;intro a E
    refine st_val E (wn rfl) rfl rfl (x_ldB (i := 0) E H rfl rfl rfl rfl Try.underlying30 rfl) ?_
    clear a E;intro a E
    replace H := H.front 1 rfl
    replace H := H.front 1 rfl
    replace H := H.front 3 rfl
    replace H := H.front 3 rfl
    replace H : Sep w (Blk p27 84 [v46, .bool b48] :: Row 5 (kI .u8) v46 l47 :: Blk p62 62 [.int .i64 x57.Err, .string x57.Path, .string x57.Data, .int .i64 x57.Version, (.slice q63 x57.Names.length x64)] :: Blk p14 50 [.int .i64 x1.Err, .int .i64 x1.At, .bool x1.Yes, .int .i64 x1.Epoch, (.slice q15 x1.Results.length x16), (.slice q17 x1.Store.Nodes.length x18), (.slice q19 x1.Store.Turns.length x20), (.slice q21 x1.Events.length x22), (.slice q23 x1.Mounts.length x24), (.slice q25 x1.Wounded.length x26)] :: Fo) (rSl kS (.slice q63 x57.Names.length x64) x57.Names :: rCs k_api_Result [.int .i64 x57.Err, .string x57.Path, .string x57.Data, .int .i64 x57.Version, (.slice q63 x57.Names.length x64)] x57 :: rAt k_api_Result q59 x57 :: rs49) := H
    obtain ⟨u65, hx66, hm⟩ := bnd hm
    refine st_call E (wn rfl) rfl rfl (x_call E rfl rfl (cf33 _)) (c_cantonref02_Writer_Num p27 v46 l47 b48 x57.Err H hx66) ?_
    clear E H; clear a; clear w; rintro _ w ⟨v67, rfl, H⟩ a E
    refine wpList_nil ?_
    refine q_then ?_
    refine wp_seq ?_
    refine wp_region_lit ?_
    refine st_val E (wn rfl) rfl rfl (x_move E rfl rfl) ?_
    clear a E;intro a E
    refine st_val E (wn rfl) rfl rfl (x_fa E rfl rfl (v := .pointer (some ⟨p62, 1, none⟩)) (fa62_1 _ _)) ?_
    clear a E;intro a E
    refine st_val E (wn rfl) rfl rfl (x_ldB (i := 2) E H rfl rfl rfl rfl Try.underlying9 rfl) ?_
    clear a E;intro a E
    obtain ⟨u68, hx69, hm⟩ := bnd hm
    refine st_call E (wn rfl) rfl rfl (x_call E rfl rfl (cf35 _)) (c_cantonref02_Writer_Text p27 v67 u65.1 u65.2 x57.Path H hx69) ?_
    clear E H; clear a; clear w; rintro _ w ⟨v70, rfl, H⟩ a E
    refine wpList_nil ?_
    refine q_then ?_
    refine wp_seq ?_
    refine wp_region_lit ?_
    refine st_val E (wn rfl) rfl rfl (x_move E rfl rfl) ?_
    clear a E;intro a E
    refine st_val E (wn rfl) rfl rfl (x_fa E rfl rfl (v := .pointer (some ⟨p62, 2, none⟩)) (fa62_2 _ _)) ?_
    clear a E;intro a E
    refine st_val E (wn rfl) rfl rfl (x_ldB (i := 2) E H rfl rfl rfl rfl Try.underlying9 rfl) ?_
    clear a E;intro a E
    obtain ⟨u71, hx72, hm⟩ := bnd hm
    refine st_call E (wn rfl) rfl rfl (x_call E rfl rfl (cf35 _)) (c_cantonref02_Writer_Text p27 v70 u68.1 u68.2 x57.Data H hx72) ?_
    clear E H; clear a; clear w; rintro _ w ⟨v73, rfl, H⟩ a E
    refine wpList_nil ?_
    refine q_then ?_
    refine wp_seq ?_
    refine wp_region_lit ?_
    refine st_val E (wn rfl) rfl rfl (x_move E rfl rfl) ?_
    clear a E;intro a E
    refine st_val E (wn rfl) rfl rfl (x_fa E rfl rfl (v := .pointer (some ⟨p62, 3, none⟩)) (fa62_3 _ _)) ?_
    clear a E;intro a E
    refine st_val E (wn rfl) rfl rfl (x_ldB (i := 2) E H rfl rfl rfl rfl Try.underlying2 rfl) ?_
    clear a E;intro a E
    obtain ⟨u74, hx75, hm⟩ := bnd hm
    refine st_call E (wn rfl) rfl rfl (x_call E rfl rfl (cf33 _)) (c_cantonref02_Writer_Num p27 v73 u71.1 u71.2 x57.Version H hx75) ?_
    clear E H; clear a; clear w; rintro _ w ⟨v76, rfl, H⟩ a E
    refine wpList_nil ?_
    refine q_then ?_
    refine wp_region_lit ?_
    refine st_val E (wn rfl) rfl rfl (x_move E rfl rfl) ?_
    clear a E;intro a E
    refine st_val E (wn rfl) rfl rfl (x_fa E rfl rfl (v := .pointer (some ⟨p62, 4, none⟩)) (fa62_4 _ _)) ?_
    clear a E;intro a E
    refine st_val E (wn rfl) rfl rfl (x_ldB (i := 2) E H rfl rfl rfl rfl Try.underlying22 rfl) ?_
    clear a E;intro a E
    obtain ⟨u77, hx78, hm⟩ := bnd hm
    refine st_call E (wn rfl) rfl rfl (x_call E rfl rfl (cf34 _)) (c_cantonref02_Writer_Texts p27 v76 u74.1 u74.2 (.slice q63 x57.Names.length x64) x57.Names H (.head _) hx78) ?_
    clear E H; clear a; clear w; rintro _ w ⟨v79, rfl, H⟩ a E
    refine wpList_nil ?_
    refine q_blk ?_
    refine q_then ?_
    refine wp_region_lit ?_
    refine st_val E (wn rfl) rfl rfl (x_move E rfl rfl) ?_
    clear a E;intro a E
    refine st_val E (wn rfl) rfl rfl (x_bin E rfl rfl rfl rfl) ?_
    clear a E;intro a E
    refine st_val E (wn rfl) rfl rfl (x_assign E rfl rfl) ?_
    clear a E;intro a E
    refine wpList_nil ?_
    refine q_then ?_
    replace H := H.drop 2
    replace H := H.front 1 rfl
    replace H := H.front 1 rfl
    replace H := H.front 2 rfl
    exact ⟨k1, Nat.lt_succ_self k1, v79, IntKind.i64.wrap (x45 + 1), u77.1, u77.2, _, (((E.nil.keep E 5 rfl).keep E 4 rfl).keep E 1 rfl), H, fun r hr => .tail _ (.tail _ (.tail _ (hs50 r hr))), (.tail _ (.tail _ (.tail _ hr51))), (.tail _ (.tail _ (.tail _ hr52))), (.tail _ (.tail _ (.tail _ hr53))), (.tail _ (.tail _ (.tail _ hr54))), (.tail _ (.tail _ (.tail _ hr55))), (.tail _ (.tail _ (.tail _ hr56))), hm⟩
   ·intro hb
    rw [if_f hb] at hm
    clear hb
    refine wp_exit ?_
    refine q_thenX ?_
    refine q_thenX ?_
    refine q_hit ?_
    refine q_then ?_
    refine wp_seq ?_
    refine wp_region_lit ?_
    refine st_val E (wn rfl) rfl rfl (x_move E rfl rfl) ?_
    clear a E;intro a E
    refine st_val E (wn rfl) rfl rfl (x_fa E rfl rfl (v := .pointer (some ⟨p14, 5, none⟩)) (fa50_5 _ _)) ?_
    clear a E;intro a E
    refine st_val E (wn rfl) rfl rfl (x_fa E rfl rfl (v := .pointer (some ⟨p14, 5, none⟩)) (fa45_0 _ _)) ?_
    clear a E;intro a E
    refine st_val E (wn rfl) rfl rfl (x_ldB (i := 0) E H rfl rfl rfl rfl Try.underlying42 rfl) ?_
    clear a E;intro a E
    refine st_val E (wn rfl) rfl rfl (x_lenS E H rfl rfl hr52 Try.underlying42) ?_
    clear a E;intro a E
    replace H := H.front 0 rfl
    replace H := H.front 2 rfl
    replace H := H.front 2 rfl
    replace H : Sep w (Blk p27 84 [v46, .bool b48] :: Row 5 (kI .u8) v46 l47 :: Blk p14 50 [.int .i64 x1.Err, .int .i64 x1.At, .bool x1.Yes, .int .i64 x1.Epoch, (.slice q15 x1.Results.length x16), (.slice q17 x1.Store.Nodes.length x18), (.slice q19 x1.Store.Turns.length x20), (.slice q21 x1.Events.length x22), (.slice q23 x1.Mounts.length x24), (.slice q25 x1.Wounded.length x26)] :: Fo) (rs49) := H
    obtain ⟨u80, hx81, hm⟩ := bnd hm
    refine st_call E (wn rfl) rfl rfl (x_call E rfl rfl (cf33 _)) (c_cantonref02_Writer_Num p27 v46 l47 b48 (x1.Store.Nodes.length : Int) H hx81) ?_
    clear E H; clear a; clear w; rintro _ w ⟨v82, rfl, H⟩ a E
    refine wpList_nil ?_
    refine q_then ?_
    refine wp_seq ?_
    refine wp_seq ?_
    refine wp_region_lit ?_
    refine st_val E (wn rfl) rfl rfl (x_assign E rfl rfl) ?_
    clear a E;intro a E
    refine wpList_nil ?_
    refine q_then ?_
    refine wp_block ?_
    refine wp_loop_g (fun k2 a w => ∃ (v84 : Value) (x83 : Int) (l85 : (List Int)) (b86 : Bool) (rs87 : List Rp), Env 254 a [(1, .pointer (some ⟨p14, 0, none⟩)), (4, .pointer (some ⟨p27, 0, none⟩)), (7, .int .i64 x83)] ∧ Sep w (Blk p14 50 [.int .i64 x1.Err, .int .i64 x1.At, .bool x1.Yes, .int .i64 x1.Epoch, (.slice q15 x1.Results.length x16), (.slice q17 x1.Store.Nodes.length x18), (.slice q19 x1.Store.Turns.length x20), (.slice q21 x1.Events.length x22), (.slice q23 x1.Mounts.length x24), (.slice q25 x1.Wounded.length x26)] :: Blk p27 84 [v84, .bool b86] :: Row 5 (kI .u8) v84 l85 :: Fo) rs87 ∧ (∀ r, r ∈ rs → r ∈ rs87) ∧ rSl k_api_Result (.slice q15 x1.Results.length x16) x1.Results ∈ rs87 ∧ rSl k_api_Node (.slice q17 x1.Store.Nodes.length x18) x1.Store.Nodes ∈ rs87 ∧ rSl k_api_Turn (.slice q19 x1.Store.Turns.length x20) x1.Store.Turns ∈ rs87 ∧ rSl k_api_Event (.slice q21 x1.Events.length x22) x1.Events ∈ rs87 ∧ rSl k_api_Mount (.slice q23 x1.Mounts.length x24) x1.Mounts ∈ rs87 ∧ rSl (kI .i64) (.slice q25 x1.Wounded.length x26) x1.Wounded ∈ rs87 ∧ m_cantonref17_PutAnswer_l2 x1 k2 x83 l85 b86 = some r) (((x1.Store.Nodes.length : Int) - 0 : Int).toNat + 1) ?_ ?_
    ·replace H := H.front 1 rfl
     replace H := H.front 1 rfl
     replace H := H.front 2 rfl
     exact ⟨v82, 0, u80.1, u80.2, _, (((E.nil.keep E 7 rfl).keep E 4 rfl).keep E 1 rfl), H, hs50, hr51, hr52, hr53, hr54, hr55, hr56, hm⟩
    ·clear E H hm
     rintro k2 a w ⟨v84, x83, l85, b86, rs87, E, H, hs88, hr89, hr90, hr91, hr92, hr93, hr94, hm⟩
     cases k2 with
     | zero => exact (none_some hm rfl).elim
     | succ k2 =>
      unfold m_cantonref17_PutAnswer_l2 at hm
      refine wp_seq ?_
      refine wp_seq ?_
      refine wp_region_lit ?_
      refine st_val E (wn rfl) rfl rfl (x_move E rfl rfl) ?_
      clear a E;intro a E
      refine st_val E (wn rfl) rfl rfl (x_fa E rfl rfl (v := .pointer (some ⟨p14, 5, none⟩)) (fa50_5 _ _)) ?_
      clear a E;intro a E
      refine st_val E (wn rfl) rfl rfl (x_fa E rfl rfl (v := .pointer (some ⟨p14, 5, none⟩)) (fa45_0 _ _)) ?_
      clear a E;intro a E
      refine st_val E (wn rfl) rfl rfl (x_ldB (i := 0) E H rfl rfl rfl rfl Try.underlying42 rfl) ?_
      clear a E;intro a E
      refine st_val E (wn rfl) rfl rfl (x_lenS E H rfl rfl hr90 Try.underlying42) ?_
      clear a E;intro a E
      refine st_val E (wn rfl) rfl rfl (x_bin E rfl rfl rfl rfl) ?_
      clear a E;intro a E
      refine wpList_nil ?_
      refine q_then ?_
      refine wp_if E rfl ?_ ?_
      ·intro hb
       rw [if_t hb] at hm
       clear hb
       refine wp_skip ?_
       refine q_then ?_
       refine wp_seq_cut (fun a w => ∃ (v95 : Value) (l96 : (List Int)) (b97 : Bool) (rs98 : List Rp), Env 254 a [(1, .pointer (some ⟨p14, 0, none⟩)), (4, .pointer (some ⟨p27, 0, none⟩)), (7, .int .i64 x83)] ∧ Sep w (Blk p14 50 [.int .i64 x1.Err, .int .i64 x1.At, .bool x1.Yes, .int .i64 x1.Epoch, (.slice q15 x1.Results.length x16), (.slice q17 x1.Store.Nodes.length x18), (.slice q19 x1.Store.Turns.length x20), (.slice q21 x1.Events.length x22), (.slice q23 x1.Mounts.length x24), (.slice q25 x1.Wounded.length x26)] :: Blk p27 84 [v95, .bool b97] :: Row 5 (kI .u8) v95 l96 :: Fo) rs98 ∧ (∀ r, r ∈ rs → r ∈ rs98) ∧ rSl k_api_Result (.slice q15 x1.Results.length x16) x1.Results ∈ rs98 ∧ rSl k_api_Node (.slice q17 x1.Store.Nodes.length x18) x1.Store.Nodes ∈ rs98 ∧ rSl k_api_Turn (.slice q19 x1.Store.Turns.length x20) x1.Store.Turns ∈ rs98 ∧ rSl k_api_Event (.slice q21 x1.Events.length x22) x1.Events ∈ rs98 ∧ rSl k_api_Mount (.slice q23 x1.Mounts.length x24) x1.Mounts ∈ rs98 ∧ rSl (kI .i64) (.slice q25 x1.Wounded.length x26) x1.Wounded ∈ rs98 ∧ m_cantonref17_PutAnswer_j1 (m_cantonref17_PutAnswer_l2 x1 k2) x83 l96 b97 = some r) ?_ ?_
       ·refine wp_block ?_
        refine wp_seq ?_
        refine wp_region_lit ?_
        refine st_val E (wn rfl) rfl rfl (x_fa E rfl rfl (v := .pointer (some ⟨p14, 5, none⟩)) (fa50_5 _ _)) ?_
        clear a E;intro a E
        refine st_val E (wn rfl) rfl rfl (x_fa E rfl rfl (v := .pointer (some ⟨p14, 5, none⟩)) (fa45_0 _ _)) ?_
        clear a E;intro a E
        refine st_val E (wn rfl) rfl rfl (x_ldB (i := 0) E H rfl rfl rfl rfl Try.underlying42 rfl) ?_
        clear a E;intro a E
        refine st_val E (wn rfl) rfl rfl (x_move E rfl rfl) ?_
        clear a E;intro a E
        obtain ⟨x106, hx107, hm⟩ := bnd hm
        refine st_ixS E H (wn rfl) rfl rfl rfl rfl rfl hr90 Try.underlying42 sz64 hx107 ?_
        clear E H; clear a; intro q108 a H E
        refine st_ldN E H (wn rfl) rfl rfl rfl rfl (.head _) Try.underlying64 rfl sz64 ?_
        clear E H; clear a; intro u109 a H E
        obtain ⟨_, hcs⟩ := H.rd (.head _)
        obtain rfl := k_api_Node_open hcs
        clear hcs
        refine st_alloc E H (wn rfl) rfl rfl (cs := [.string (ByteArray.mk #[]), .string (ByteArray.mk #[]), .int .i64 0, .int .i64 0, .int .i64 0]) rfl (z := .agg #[.string ⟨#[]⟩, .string ⟨#[]⟩, .int .i64 0, .int .i64 0, .int .i64 0]) (by kernel_rfl) rfl ?_
        clear E H; clear a; clear w; intro p110 w a H E
        refine st_st (i := 0) E H (wn rfl) rfl (us := [.string x106.Path, .string x106.Data, .int .i64 x106.Version, .int .i64 x106.Turn, .int .i64 x106.Owner]) rfl rfl rfl rfl rfl sz64 rfl rfl ?_
        clear H; clear w; intro w H
        replace H : Sep w (Blk p110 64 [.string x106.Path, .string x106.Data, .int .i64 x106.Version, .int .i64 x106.Turn, .int .i64 x106.Owner] :: Blk p14 50 [.int .i64 x1.Err, .int .i64 x1.At, .bool x1.Yes, .int .i64 x1.Epoch, (.slice q15 x1.Results.length x16), (.slice q17 x1.Store.Nodes.length x18), (.slice q19 x1.Store.Turns.length x20), (.slice q21 x1.Events.length x22), (.slice q23 x1.Mounts.length x24), (.slice q25 x1.Wounded.length x26)] :: Blk p27 84 [v84, .bool b86] :: Row 5 (kI .u8) v84 l85 :: Fo) _ := H
        refine wpList_nil ?_
        refine q_then ?_
        refine wp_seq ?_
        refine wp_region_lit ?_
        refine st_val E (wn rfl) rfl rfl (x_move E rfl rfl) ?_
        clear a E;intro a E
        refine st_val E (wn rfl) rfl rfl (x_fa E rfl rfl (v := .pointer (some ⟨p110, 0, none⟩)) (fa64_0 _ _)) ?_
        clear a E;intro a E
        refine st_val E (wn rfl) rfl rfl (x_ldB (i := 0) E H rfl rfl rfl rfl Try.underlying9 rfl) ?_
        clear a E;intro a E
        replace H := H.front 1 rfl
        replace H := H.front 1 rfl
        replace H := H.front 3 rfl
        replace H := H.front 3 rfl
        replace H : Sep w (Blk p27 84 [v84, .bool b86] :: Row 5 (kI .u8) v84 l85 :: Blk p110 64 [.string x106.Path, .string x106.Data, .int .i64 x106.Version, .int .i64 x106.Turn, .int .i64 x106.Owner] :: Blk p14 50 [.int .i64 x1.Err, .int .i64 x1.At, .bool x1.Yes, .int .i64 x1.Epoch, (.slice q15 x1.Results.length x16), (.slice q17 x1.Store.Nodes.length x18), (.slice q19 x1.Store.Turns.length x20), (.slice q21 x1.Events.length x22), (.slice q23 x1.Mounts.length x24), (.slice q25 x1.Wounded.length x26)] :: Fo) (rCs k_api_Node [.string x106.Path, .string x106.Data, .int .i64 x106.Version, .int .i64 x106.Turn, .int .i64 x106.Owner] x106 :: rAt k_api_Node q108 x106 :: rs87) := H
        obtain ⟨u111, hx112, hm⟩ := bnd hm
        refine st_call E (wn rfl) rfl rfl (x_call E rfl rfl (cf35 _)) (c_cantonref02_Writer_Text p27 v84 l85 b86 x106.Path H hx112) ?_
        clear E H; clear a; clear w; rintro _ w ⟨v113, rfl, H⟩ a E
        refine wpList_nil ?_
        refine q_then ?_
        refine wp_seq ?_
        refine wp_region_lit ?_
        refine st_val E (wn rfl) rfl rfl (x_move E rfl rfl) ?_
        clear a E;intro a E
        refine st_val E (wn rfl) rfl rfl (x_fa E rfl rfl (v := .pointer (some ⟨p110, 1, none⟩)) (fa64_1 _ _)) ?_
        clear a E;intro a E
        refine st_val E (wn rfl) rfl rfl (x_ldB (i := 2) E H rfl rfl rfl rfl Try.underlying9 rfl) ?_
        clear a E;intro a E
        obtain ⟨u114, hx115, hm⟩ := bnd hm
        refine st_call E (wn rfl) rfl rfl (x_call E rfl rfl (cf35 _)) (c_cantonref02_Writer_Text p27 v113 u111.1 u111.2 x106.Data H hx115) ?_
        clear E H; clear a; clear w; rintro _ w ⟨v116, rfl, H⟩ a E
        refine wpList_nil ?_
        refine q_then ?_
        refine wp_seq ?_
        refine wp_region_lit ?_
        refine st_val E (wn rfl) rfl rfl (x_move E rfl rfl) ?_
        clear a E;intro a E
        refine st_val E (wn rfl) rfl rfl (x_fa E rfl rfl (v := .pointer (some ⟨p110, 2, none⟩)) (fa64_2 _ _)) ?_
        clear a E;intro a E
        refine st_val E (wn rfl) rfl rfl (x_ldB (i := 2) E H rfl rfl rfl rfl Try.underlying2 rfl) ?_
        clear a E;intro a E
        obtain ⟨u117, hx118, hm⟩ := bnd hm
        refine st_call E (wn rfl) rfl rfl (x_call E rfl rfl (cf33 _)) (c_cantonref02_Writer_Num p27 v116 u114.1 u114.2 x106.Version H hx118) ?_
        clear E H; clear a; clear w; rintro _ w ⟨v119, rfl, H⟩ a E
        refine wpList_nil ?_
        refine q_then ?_
        refine wp_seq ?_
        refine wp_region_lit ?_
        refine st_val E (wn rfl) rfl rfl (x_move E rfl rfl) ?_
        clear a E;intro a E
        refine st_val E (wn rfl) rfl rfl (x_fa E rfl rfl (v := .pointer (some ⟨p110, 4, none⟩)) (fa64_4 _ _)) ?_
        clear a E;intro a E
        refine st_val E (wn rfl) rfl rfl (x_ldB (i := 2) E H rfl rfl rfl rfl Try.underlying2 rfl) ?_
        clear a E;intro a E
        obtain ⟨u120, hx121, hm⟩ := bnd hm
        refine st_call E (wn rfl) rfl rfl (x_call E rfl rfl (cf33 _)) (c_cantonref02_Writer_Num p27 v119 u117.1 u117.2 x106.Owner H hx121) ?_
        clear E H; clear a; clear w; rintro _ w ⟨v122, rfl, H⟩ a E
        refine wpList_nil ?_
        refine q_then ?_
        refine wp_seq ?_
        refine wp_region_lit ?_
        refine st_val E (wn rfl) rfl rfl (x_fa E rfl rfl (v := .pointer (some ⟨p110, 3, none⟩)) (fa64_3 _ _)) ?_
        clear a E;intro a E
        refine st_val E (wn rfl) rfl rfl (x_ldB (i := 2) E H rfl rfl rfl rfl Try.underlying2 rfl) ?_
        clear a E;intro a E
        refine st_val E (wn rfl) rfl rfl (x_bin E rfl rfl rfl rfl) ?_
        clear a E;intro a E
        refine wpList_nil ?_
        refine q_then ?_
        refine wp_if E rfl ?_ ?_
        ·intro hb
         rw [if_t hb] at hm
         clear hb
         refine wp_region_lit ?_
         refine st_val E (wn rfl) rfl rfl (x_move E rfl rfl) ?_
         clear a E;intro a E
         refine st_val E (wn rfl) rfl rfl (x_nil E rfl rfl) ?_
         clear a E;intro a E
         refine st_val E (wn rfl) rfl rfl (x_fa E rfl rfl (v := .pointer (some ⟨p27, 1, none⟩)) (fa84_1 _ _)) ?_
         clear a E;intro a E
         refine st_st (i := 0) E H (wn rfl) rfl (us := [.bool true]) rfl rfl rfl rfl rfl sz4 rfl rfl ?_
         clear H; clear w; intro w H
         replace H : Sep w (Blk p27 84 [v122, .bool true] :: Row 5 (kI .u8) v122 u120.1 :: Blk p110 64 [.string x106.Path, .string x106.Data, .int .i64 x106.Version, .int .i64 x106.Turn, .int .i64 x106.Owner] :: Blk p14 50 [.int .i64 x1.Err, .int .i64 x1.At, .bool x1.Yes, .int .i64 x1.Epoch, (.slice q15 x1.Results.length x16), (.slice q17 x1.Store.Nodes.length x18), (.slice q19 x1.Store.Turns.length x20), (.slice q21 x1.Events.length x22), (.slice q23 x1.Mounts.length x24), (.slice q25 x1.Wounded.length x26)] :: Fo) _ := H
         refine wpList_nil ?_
         refine q_blk ?_
         refine q_then ?_
         replace H := H.drop 2
         replace H := H.front 1 rfl
         replace H := H.front 1 rfl
         replace H := H.front 2 rfl
         exact ⟨v122, u120.1, true, _, (((E.nil.keep E 7 rfl).keep E 4 rfl).keep E 1 rfl), H, fun r hr => .tail _ (.tail _ (hs88 r hr)), (.tail _ (.tail _ hr89)), (.tail _ (.tail _ hr90)), (.tail _ (.tail _ hr91)), (.tail _ (.tail _ hr92)), (.tail _ (.tail _ hr93)), (.tail _ (.tail _ hr94)), hm⟩
        ·intro hb
         rw [if_f hb] at hm
         clear hb
         refine wp_skip ?_
         refine q_blk ?_
         refine q_then ?_
         replace H := H.drop 2
         replace H := H.front 1 rfl
         replace H := H.front 1 rfl
         replace H := H.front 2 rfl
         exact ⟨v122, u120.1, u120.2, _, (((E.nil.keep E 7 rfl).keep E 4 rfl).keep E 1 rfl), H, fun r hr => .tail _ (.tail _ (hs88 r hr)), (.tail _ (.tail _ hr89)), (.tail _ (.tail _ hr90)), (.tail _ (.tail _ hr91)), (.tail _ (.tail _ hr92)), (.tail _ (.tail _ hr93)), (.tail _ (.tail _ hr94)), hm⟩
       ·clear E H hm
        rintro a w ⟨v95, l96, b97, rs98, E, H, hs99, hr100, hr101, hr102, hr103, hr104, hr105, hm⟩
        unfold m_cantonref17_PutAnswer_j1 at hm
        refine wp_region_lit ?_
        refine st_val E (wn rfl) rfl rfl (x_move E rfl rfl) ?_
        clear a E;intro a E
        refine st_val E (wn rfl) rfl rfl (x_bin E rfl rfl rfl rfl) ?_
        clear a E;intro a E
        refine st_val E (wn rfl) rfl rfl (x_assign E rfl rfl) ?_
        clear a E;intro a E
        refine wpList_nil ?_
        refine q_then ?_
        exact ⟨k2, Nat.lt_succ_self k2, v95, IntKind.i64.wrap (x83 + 1), l96, b97, _, (((E.nil.keep E 7 rfl).keep E 4 rfl).keep E 1 rfl), H, hs99, hr100, hr101, hr102, hr103, hr104, hr105, hm⟩
      ·intro hb
       rw [if_f hb] at hm
       clear hb
       refine wp_exit ?_
       refine q_thenX ?_
       refine q_thenX ?_
       refine q_hit ?_
       refine q_then ?_
       refine wp_seq ?_
       refine wp_region_lit ?_
       refine st_val E (wn rfl) rfl rfl (x_move E rfl rfl) ?_
       clear a E;intro a E
       refine st_val E (wn rfl) rfl rfl (x_fa E rfl rfl (v := .pointer (some ⟨p14, 5, none⟩)) (fa50_5 _ _)) ?_
       clear a E;intro a E
       refine st_val E (wn rfl) rfl rfl (x_fa E rfl rfl (v := .pointer (some ⟨p14, 6, none⟩)) (fa45_1 _ _)) ?_
       clear a E;intro a E
       refine st_val E (wn rfl) rfl rfl (x_ldB (i := 0) E H rfl rfl rfl rfl Try.underlying43 rfl) ?_
       clear a E;intro a E
       refine st_val E (wn rfl) rfl rfl (x_lenS E H rfl rfl hr91 Try.underlying43) ?_
       clear a E;intro a E
       replace H := H.front 0 rfl
       replace H := H.front 2 rfl
       replace H := H.front 2 rfl
       replace H : Sep w (Blk p27 84 [v84, .bool b86] :: Row 5 (kI .u8) v84 l85 :: Blk p14 50 [.int .i64 x1.Err, .int .i64 x1.At, .bool x1.Yes, .int .i64 x1.Epoch, (.slice q15 x1.Results.length x16), (.slice q17 x1.Store.Nodes.length x18), (.slice q19 x1.Store.Turns.length x20), (.slice q21 x1.Events.length x22), (.slice q23 x1.Mounts.length x24), (.slice q25 x1.Wounded.length x26)] :: Fo) (rs87) := H
       obtain ⟨u123, hx124, hm⟩ := bnd hm
       refine st_call E (wn rfl) rfl rfl (x_call E rfl rfl (cf33 _)) (c_cantonref02_Writer_Num p27 v84 l85 b86 (x1.Store.Turns.length : Int) H hx124) ?_
       clear E H; clear a; clear w; rintro _ w ⟨v125, rfl, H⟩ a E
       refine wpList_nil ?_
       refine q_then ?_
       refine wp_seq ?_
       refine wp_seq ?_
       refine wp_region_lit ?_
       refine st_val E (wn rfl) rfl rfl (x_assign E rfl rfl) ?_
       clear a E;intro a E
       refine wpList_nil ?_
       refine q_then ?_
       refine wp_block ?_
       refine wp_loop_g (fun k3 a w => ∃ (v127 : Value) (x126 : Int) (l128 : (List Int)) (b129 : Bool) (rs130 : List Rp), Env 254 a [(1, .pointer (some ⟨p14, 0, none⟩)), (4, .pointer (some ⟨p27, 0, none⟩)), (9, .int .i64 x126)] ∧ Sep w (Blk p14 50 [.int .i64 x1.Err, .int .i64 x1.At, .bool x1.Yes, .int .i64 x1.Epoch, (.slice q15 x1.Results.length x16), (.slice q17 x1.Store.Nodes.length x18), (.slice q19 x1.Store.Turns.length x20), (.slice q21 x1.Events.length x22), (.slice q23 x1.Mounts.length x24), (.slice q25 x1.Wounded.length x26)] :: Blk p27 84 [v127, .bool b129] :: Row 5 (kI .u8) v127 l128 :: Fo) rs130 ∧ (∀ r, r ∈ rs → r ∈ rs130) ∧ rSl k_api_Result (.slice q15 x1.Results.length x16) x1.Results ∈ rs130 ∧ rSl k_api_Node (.slice q17 x1.Store.Nodes.length x18) x1.Store.Nodes ∈ rs130 ∧ rSl k_api_Turn (.slice q19 x1.Store.Turns.length x20) x1.Store.Turns ∈ rs130 ∧ rSl k_api_Event (.slice q21 x1.Events.length x22) x1.Events ∈ rs130 ∧ rSl k_api_Mount (.slice q23 x1.Mounts.length x24) x1.Mounts ∈ rs130 ∧ rSl (kI .i64) (.slice q25 x1.Wounded.length x26) x1.Wounded ∈ rs130 ∧ m_cantonref17_PutAnswer_l3 x1 k3 x126 l128 b129 = some r) (((x1.Store.Turns.length : Int) - 0 : Int).toNat + 1) ?_ ?_
       ·replace H := H.front 1 rfl
        replace H := H.front 1 rfl
        replace H := H.front 2 rfl
        exact ⟨v125, 0, u123.1, u123.2, _, (((E.nil.keep E 9 rfl).keep E 4 rfl).keep E 1 rfl), H, hs88, hr89, hr90, hr91, hr92, hr93, hr94, hm⟩
       ·clear E H hm
        rintro k3 a w ⟨v127, x126, l128, b129, rs130, E, H, hs131, hr132, hr133, hr134, hr135, hr136, hr137, hm⟩
        cases k3 with
        | zero => exact (none_some hm rfl).elim
        | succ k3 =>
         unfold m_cantonref17_PutAnswer_l3 at hm
         refine wp_seq ?_
         refine wp_seq ?_
         refine wp_region_lit ?_
         refine st_val E (wn rfl) rfl rfl (x_move E rfl rfl) ?_
         clear a E;intro a E
         refine st_val E (wn rfl) rfl rfl (x_fa E rfl rfl (v := .pointer (some ⟨p14, 5, none⟩)) (fa50_5 _ _)) ?_
         clear a E;intro a E
         refine st_val E (wn rfl) rfl rfl (x_fa E rfl rfl (v := .pointer (some ⟨p14, 6, none⟩)) (fa45_1 _ _)) ?_
         clear a E;intro a E
         refine st_val E (wn rfl) rfl rfl (x_ldB (i := 0) E H rfl rfl rfl rfl Try.underlying43 rfl) ?_
         clear a E;intro a E
         refine st_val E (wn rfl) rfl rfl (x_lenS E H rfl rfl hr134 Try.underlying43) ?_
         clear a E;intro a E
         refine st_val E (wn rfl) rfl rfl (x_bin E rfl rfl rfl rfl) ?_
         clear a E;intro a E
         refine wpList_nil ?_
         refine q_then ?_
         refine wp_if E rfl ?_ ?_
         ·intro hb
          rw [if_t hb] at hm
          clear hb
          refine wp_skip ?_
          refine q_then ?_
          refine wp_seq ?_
          refine wp_block ?_
          refine wp_seq ?_
          refine wp_region_lit ?_
          refine st_val E (wn rfl) rfl rfl (x_move E rfl rfl) ?_
          clear a E;intro a E
          refine st_val E (wn rfl) rfl rfl (x_fa E rfl rfl (v := .pointer (some ⟨p14, 5, none⟩)) (fa50_5 _ _)) ?_
          clear a E;intro a E
          refine st_val E (wn rfl) rfl rfl (x_fa E rfl rfl (v := .pointer (some ⟨p14, 6, none⟩)) (fa45_1 _ _)) ?_
          clear a E;intro a E
          refine st_val E (wn rfl) rfl rfl (x_ldB (i := 0) E H rfl rfl rfl rfl Try.underlying43 rfl) ?_
          clear a E;intro a E
          refine st_val E (wn rfl) rfl rfl (x_move E rfl rfl) ?_
          clear a E;intro a E
          obtain ⟨x138, hx139, hm⟩ := bnd hm
          refine st_ixS E H (wn rfl) rfl rfl rfl rfl rfl hr134 Try.underlying43 sz66 hx139 ?_
          clear E H; clear a; intro q140 a H E
          replace H := H.derive1 (.head _) (rAt kS (q140.add 0) x138.Dir) (fun ok h => k_api_Turn_at0 h)
          refine st_val E (wn rfl) rfl rfl (x_fa E rfl rfl (fa66_0 _ _)) ?_
          clear a E;intro a E
          refine st_val E (wn rfl) rfl rfl (x_ldA E H rfl rfl (.head _) Try.underlying9 rfl) ?_
          clear a E;intro a E
          replace H := H.front 0 rfl
          replace H := H.front 2 rfl
          replace H := H.front 2 rfl
          replace H : Sep w (Blk p27 84 [v127, .bool b129] :: Row 5 (kI .u8) v127 l128 :: Blk p14 50 [.int .i64 x1.Err, .int .i64 x1.At, .bool x1.Yes, .int .i64 x1.Epoch, (.slice q15 x1.Results.length x16), (.slice q17 x1.Store.Nodes.length x18), (.slice q19 x1.Store.Turns.length x20), (.slice q21 x1.Events.length x22), (.slice q23 x1.Mounts.length x24), (.slice q25 x1.Wounded.length x26)] :: Fo) (rAt kS (q140.add 0) x138.Dir :: rAt k_api_Turn q140 x138 :: rs130) := H
          obtain ⟨u141, hx142, hm⟩ := bnd hm
          refine st_call E (wn rfl) rfl rfl (x_call E rfl rfl (cf35 _)) (c_cantonref02_Writer_Text p27 v127 l128 b129 x138.Dir H hx142) ?_
          clear E H; clear a; clear w; rintro _ w ⟨v143, rfl, H⟩ a E
          refine wpList_nil ?_
          refine q_then ?_
          refine wp_region_lit ?_
          refine st_val E (wn rfl) rfl rfl (x_move E rfl rfl) ?_
          clear a E;intro a E
          refine st_val E (wn rfl) rfl rfl (x_fa E rfl rfl (v := .pointer (some ⟨p14, 5, none⟩)) (fa50_5 _ _)) ?_
          clear a E;intro a E
          refine st_val E (wn rfl) rfl rfl (x_fa E rfl rfl (v := .pointer (some ⟨p14, 6, none⟩)) (fa45_1 _ _)) ?_
          clear a E;intro a E
          refine st_val E (wn rfl) rfl rfl (x_ldB (i := 2) E H rfl rfl rfl rfl Try.underlying43 rfl) ?_
          clear a E;intro a E
          refine st_val E (wn rfl) rfl rfl (x_move E rfl rfl) ?_
          clear a E;intro a E
          obtain ⟨x144, hx145, hm⟩ := bnd hm
          refine st_ixS E H (wn rfl) rfl rfl rfl rfl rfl (.tail _ (.tail _ hr134)) Try.underlying43 sz66 hx145 ?_
          clear E H; clear a; intro q146 a H E
          replace H := H.derive1 (.head _) (rAt (kI .i64) (q146.add 1) x144.Next) (fun ok h => k_api_Turn_at1 h)
          refine st_val E (wn rfl) rfl rfl (x_fa E rfl rfl (fa66_1 _ _)) ?_
          clear a E;intro a E
          refine st_val E (wn rfl) rfl rfl (x_ldA E H rfl rfl (.head _) Try.underlying2 rfl) ?_
          clear a E;intro a E
          obtain ⟨u147, hx148, hm⟩ := bnd hm
          refine st_call E (wn rfl) rfl rfl (x_call E rfl rfl (cf33 _)) (c_cantonref02_Writer_Num p27 v143 u141.1 u141.2 x144.Next H hx148) ?_
          clear E H; clear a; clear w; rintro _ w ⟨v149, rfl, H⟩ a E
          refine wpList_nil ?_
          refine q_blk ?_
          refine q_then ?_
          refine wp_region_lit ?_
          refine st_val E (wn rfl) rfl rfl (x_move E rfl rfl) ?_
          clear a E;intro a E
          refine st_val E (wn rfl) rfl rfl (x_bin E rfl rfl rfl rfl) ?_
          clear a E;intro a E
          refine st_val E (wn rfl) rfl rfl (x_assign E rfl rfl) ?_
          clear a E;intro a E
          refine wpList_nil ?_
          refine q_then ?_
          replace H := H.front 1 rfl
          replace H := H.front 1 rfl
          replace H := H.front 2 rfl
          exact ⟨k3, Nat.lt_succ_self k3, v149, IntKind.i64.wrap (x126 + 1), u147.1, u147.2, _, (((E.nil.keep E 9 rfl).keep E 4 rfl).keep E 1 rfl), H, fun r hr => .tail _ (.tail _ (.tail _ (.tail _ (hs131 r hr)))), (.tail _ (.tail _ (.tail _ (.tail _ hr132)))), (.tail _ (.tail _ (.tail _ (.tail _ hr133)))), (.tail _ (.tail _ (.tail _ (.tail _ hr134)))), (.tail _ (.tail _ (.tail _ (.tail _ hr135)))), (.tail _ (.tail _ (.tail _ (.tail _ hr136)))), (.tail _ (.tail _ (.tail _ (.tail _ hr137)))), hm⟩
         ·intro hb
          rw [if_f hb] at hm
          clear hb
          refine wp_exit ?_
          refine q_thenX ?_
          refine q_thenX ?_
          refine q_hit ?_
          refine q_then ?_
          refine wp_seq ?_
          refine wp_region_lit ?_
          refine st_val E (wn rfl) rfl rfl (x_move E rfl rfl) ?_
          clear a E;intro a E
          refine st_val E (wn rfl) rfl rfl (x_fa E rfl rfl (v := .pointer (some ⟨p14, 7, none⟩)) (fa50_6 _ _)) ?_
          clear a E;intro a E
          refine st_val E (wn rfl) rfl rfl (x_ldB (i := 0) E H rfl rfl rfl rfl Try.underlying46 rfl) ?_
          clear a E;intro a E
          refine st_val E (wn rfl) rfl rfl (x_lenS E H rfl rfl hr135 Try.underlying46) ?_
          clear a E;intro a E
          replace H := H.front 0 rfl
          replace H := H.front 2 rfl
          replace H := H.front 2 rfl
          replace H : Sep w (Blk p27 84 [v127, .bool b129] :: Row 5 (kI .u8) v127 l128 :: Blk p14 50 [.int .i64 x1.Err, .int .i64 x1.At, .bool x1.Yes, .int .i64 x1.Epoch, (.slice q15 x1.Results.length x16), (.slice q17 x1.Store.Nodes.length x18), (.slice q19 x1.Store.Turns.length x20), (.slice q21 x1.Events.length x22), (.slice q23 x1.Mounts.length x24), (.slice q25 x1.Wounded.length x26)] :: Fo) (rs130) := H
          obtain ⟨u150, hx151, hm⟩ := bnd hm
          refine st_call E (wn rfl) rfl rfl (x_call E rfl rfl (cf33 _)) (c_cantonref02_Writer_Num p27 v127 l128 b129 (x1.Events.length : Int) H hx151) ?_
          clear E H; clear a; clear w; rintro _ w ⟨v152, rfl, H⟩ a E
          refine wpList_nil ?_
          refine q_then ?_
          refine wp_seq ?_
          refine wp_seq ?_
          refine wp_region_lit ?_
          refine st_val E (wn rfl) rfl rfl (x_assign E rfl rfl) ?_
          clear a E;intro a E
          refine wpList_nil ?_
          refine q_then ?_
          refine wp_block ?_
          refine wp_loop_g (fun k4 a w => ∃ (v154 : Value) (x153 : Int) (l155 : (List Int)) (b156 : Bool) (rs157 : List Rp), Env 254 a [(1, .pointer (some ⟨p14, 0, none⟩)), (4, .pointer (some ⟨p27, 0, none⟩)), (10, .int .i64 x153)] ∧ Sep w (Blk p14 50 [.int .i64 x1.Err, .int .i64 x1.At, .bool x1.Yes, .int .i64 x1.Epoch, (.slice q15 x1.Results.length x16), (.slice q17 x1.Store.Nodes.length x18), (.slice q19 x1.Store.Turns.length x20), (.slice q21 x1.Events.length x22), (.slice q23 x1.Mounts.length x24), (.slice q25 x1.Wounded.length x26)] :: Blk p27 84 [v154, .bool b156] :: Row 5 (kI .u8) v154 l155 :: Fo) rs157 ∧ (∀ r, r ∈ rs → r ∈ rs157) ∧ rSl k_api_Result (.slice q15 x1.Results.length x16) x1.Results ∈ rs157 ∧ rSl k_api_Node (.slice q17 x1.Store.Nodes.length x18) x1.Store.Nodes ∈ rs157 ∧ rSl k_api_Turn (.slice q19 x1.Store.Turns.length x20) x1.Store.Turns ∈ rs157 ∧ rSl k_api_Event (.slice q21 x1.Events.length x22) x1.Events ∈ rs157 ∧ rSl k_api_Mount (.slice q23 x1.Mounts.length x24) x1.Mounts ∈ rs157 ∧ rSl (kI .i64) (.slice q25 x1.Wounded.length x26) x1.Wounded ∈ rs157 ∧ m_cantonref17_PutAnswer_l4 x1 k4 x153 l155 b156 = some r) (((x1.Events.length : Int) - 0 : Int).toNat + 1) ?_ ?_
          ·replace H := H.front 1 rfl
           replace H := H.front 1 rfl
           replace H := H.front 2 rfl
           exact ⟨v152, 0, u150.1, u150.2, _, (((E.nil.keep E 10 rfl).keep E 4 rfl).keep E 1 rfl), H, hs131, hr132, hr133, hr134, hr135, hr136, hr137, hm⟩
          ·clear E H hm
           rintro k4 a w ⟨v154, x153, l155, b156, rs157, E, H, hs158, hr159, hr160, hr161, hr162, hr163, hr164, hm⟩
           cases k4 with
           | zero => exact (none_some hm rfl).elim
           | succ k4 =>
            unfold m_cantonref17_PutAnswer_l4 at hm
            refine wp_seq ?_
            refine wp_seq ?_
            refine wp_region_lit ?_
            refine st_val E (wn rfl) rfl rfl (x_move E rfl rfl) ?_
            clear a E;intro a E
            refine st_val E (wn rfl) rfl rfl (x_fa E rfl rfl (v := .pointer (some ⟨p14, 7, none⟩)) (fa50_6 _ _)) ?_
            clear a E;intro a E
            refine st_val E (wn rfl) rfl rfl (x_ldB (i := 0) E H rfl rfl rfl rfl Try.underlying46 rfl) ?_
            clear a E;intro a E
            refine st_val E (wn rfl) rfl rfl (x_lenS E H rfl rfl hr162 Try.underlying46) ?_
            clear a E;intro a E
            refine st_val E (wn rfl) rfl rfl (x_bin E rfl rfl rfl rfl) ?_
            clear a E;intro a E
            refine wpList_nil ?_
            refine q_then ?_
            refine wp_if E rfl ?_ ?_
            ·intro hb
             rw [if_t hb] at hm
             clear hb
             refine wp_skip ?_
             refine q_then ?_
             refine wp_seq ?_
             refine wp_block ?_
             refine wp_seq ?_
             refine wp_region_lit ?_
             refine st_val E (wn rfl) rfl rfl (x_move E rfl rfl) ?_
             clear a E;intro a E
             refine st_val E (wn rfl) rfl rfl (x_fa E rfl rfl (v := .pointer (some ⟨p14, 7, none⟩)) (fa50_6 _ _)) ?_
             clear a E;intro a E
             refine st_val E (wn rfl) rfl rfl (x_ldB (i := 0) E H rfl rfl rfl rfl Try.underlying46 rfl) ?_
             clear a E;intro a E
             refine st_val E (wn rfl) rfl rfl (x_move E rfl rfl) ?_
             clear a E;intro a E
             obtain ⟨x165, hx166, hm⟩ := bnd hm
             refine st_ixS E H (wn rfl) rfl rfl rfl rfl rfl hr162 Try.underlying46 sz68 hx166 ?_
             clear E H; clear a; intro q167 a H E
             replace H := H.derive1 (.head _) (rAt (kI .i64) (q167.add 0) x165.Num) (fun ok h => k_api_Event_at0 h)
             refine st_val E (wn rfl) rfl rfl (x_fa E rfl rfl (fa68_0 _ _)) ?_
             clear a E;intro a E
             refine st_val E (wn rfl) rfl rfl (x_ldA E H rfl rfl (.head _) Try.underlying2 rfl) ?_
             clear a E;intro a E
             replace H := H.front 0 rfl
             replace H := H.front 2 rfl
             replace H := H.front 2 rfl
             replace H : Sep w (Blk p27 84 [v154, .bool b156] :: Row 5 (kI .u8) v154 l155 :: Blk p14 50 [.int .i64 x1.Err, .int .i64 x1.At, .bool x1.Yes, .int .i64 x1.Epoch, (.slice q15 x1.Results.length x16), (.slice q17 x1.Store.Nodes.length x18), (.slice q19 x1.Store.Turns.length x20), (.slice q21 x1.Events.length x22), (.slice q23 x1.Mounts.length x24), (.slice q25 x1.Wounded.length x26)] :: Fo) (rAt (kI .i64) (q167.add 0) x165.Num :: rAt k_api_Event q167 x165 :: rs157) := H
             obtain ⟨u168, hx169, hm⟩ := bnd hm
             refine st_call E (wn rfl) rfl rfl (x_call E rfl rfl (cf33 _)) (c_cantonref02_Writer_Num p27 v154 l155 b156 x165.Num H hx169) ?_
             clear E H; clear a; clear w; rintro _ w ⟨v170, rfl, H⟩ a E
             refine wpList_nil ?_
             refine q_then ?_
             refine wp_seq ?_
             refine wp_region_lit ?_
             refine st_val E (wn rfl) rfl rfl (x_move E rfl rfl) ?_
             clear a E;intro a E
             refine st_val E (wn rfl) rfl rfl (x_fa E rfl rfl (v := .pointer (some ⟨p14, 7, none⟩)) (fa50_6 _ _)) ?_
             clear a E;intro a E
             refine st_val E (wn rfl) rfl rfl (x_ldB (i := 2) E H rfl rfl rfl rfl Try.underlying46 rfl) ?_
             clear a E;intro a E
             refine st_val E (wn rfl) rfl rfl (x_move E rfl rfl) ?_
             clear a E;intro a E
             obtain ⟨x171, hx172, hm⟩ := bnd hm
             refine st_ixS E H (wn rfl) rfl rfl rfl rfl rfl (.tail _ (.tail _ hr162)) Try.underlying46 sz68 hx172 ?_
             clear E H; clear a; intro q173 a H E
             replace H := H.derive1 (.head _) (rAt (kI .i64) (q173.add 1) x171.Kind) (fun ok h => k_api_Event_at1 h)
             refine st_val E (wn rfl) rfl rfl (x_fa E rfl rfl (fa68_1 _ _)) ?_
             clear a E;intro a E
             refine st_val E (wn rfl) rfl rfl (x_ldA E H rfl rfl (.head _) Try.underlying3 rfl) ?_
             clear a E;intro a E
             obtain ⟨u174, hx175, hm⟩ := bnd hm
             refine st_call E (wn rfl) rfl rfl (x_call E rfl rfl (cf33 _)) (c_cantonref02_Writer_Num p27 v170 u168.1 u168.2 x171.Kind H hx175) ?_
             clear E H; clear a; clear w; rintro _ w ⟨v176, rfl, H⟩ a E
             refine wpList_nil ?_
             refine q_then ?_
             refine wp_seq ?_
             refine wp_region_lit ?_
             refine st_val E (wn rfl) rfl rfl (x_move E rfl rfl) ?_
             clear a E;intro a E
             refine st_val E (wn rfl) rfl rfl (x_fa E rfl rfl (v := .pointer (some ⟨p14, 7, none⟩)) (fa50_6 _ _)) ?_
             clear a E;intro a E
             refine st_val E (wn rfl) rfl rfl (x_ldB (i := 2) E H rfl rfl rfl rfl Try.underlying46 rfl) ?_
             clear a E;intro a E
             refine st_val E (wn rfl) rfl rfl (x_move E rfl rfl) ?_
             clear a E;intro a E
             obtain ⟨x177, hx178, hm⟩ := bnd hm
             refine st_ixS E H (wn rfl) rfl rfl rfl rfl rfl (.tail _ (.tail _ (.tail _ (.tail _ hr162)))) Try.underlying46 sz68 hx178 ?_
             clear E H; clear a; intro q179 a H E
             replace H := H.derive1 (.head _) (rAt kS (q179.add 2) x177.Path) (fun ok h => k_api_Event_at2 h)
             refine st_val E (wn rfl) rfl rfl (x_fa E rfl rfl (fa68_2 _ _)) ?_
             clear a E;intro a E
             refine st_val E (wn rfl) rfl rfl (x_ldA E H rfl rfl (.head _) Try.underlying9 rfl) ?_
             clear a E;intro a E
             obtain ⟨u180, hx181, hm⟩ := bnd hm
             refine st_call E (wn rfl) rfl rfl (x_call E rfl rfl (cf35 _)) (c_cantonref02_Writer_Text p27 v176 u174.1 u174.2 x177.Path H hx181) ?_
             clear E H; clear a; clear w; rintro _ w ⟨v182, rfl, H⟩ a E
             refine wpList_nil ?_
             refine q_then ?_
             refine wp_region_lit ?_
             refine st_val E (wn rfl) rfl rfl (x_move E rfl rfl) ?_
             clear a E;intro a E
             refine st_val E (wn rfl) rfl rfl (x_fa E rfl rfl (v := .pointer (some ⟨p14, 7, none⟩)) (fa50_6 _ _)) ?_
             clear a E;intro a E
             refine st_val E (wn rfl) rfl rfl (x_ldB (i := 2) E H rfl rfl rfl rfl Try.underlying46 rfl) ?_
             clear a E;intro a E
             refine st_val E (wn rfl) rfl rfl (x_move E rfl rfl) ?_
             clear a E;intro a E
             obtain ⟨x183, hx184, hm⟩ := bnd hm
             refine st_ixS E H (wn rfl) rfl rfl rfl rfl rfl (.tail _ (.tail _ (.tail _ (.tail _ (.tail _ (.tail _ hr162)))))) Try.underlying46 sz68 hx184 ?_
             clear E H; clear a; intro q185 a H E
             replace H := H.derive1 (.head _) (rAt (kI .i64) (q185.add 3) x183.Watch) (fun ok h => k_api_Event_at3 h)
             refine st_val E (wn rfl) rfl rfl (x_fa E rfl rfl (fa68_3 _ _)) ?_
             clear a E;intro a E
             refine st_val E (wn rfl) rfl rfl (x_ldA E H rfl rfl (.head _) Try.underlying2 rfl) ?_
             clear a E;intro a E
             obtain ⟨u186, hx187, hm⟩ := bnd hm
             refine st_call E (wn rfl) rfl rfl (x_call E rfl rfl (cf33 _)) (c_cantonref02_Writer_Num p27 v182 u180.1 u180.2 x183.Watch H hx187) ?_
             clear E H; clear a; clear w; rintro _ w ⟨v188, rfl, H⟩ a E
             refine wpList_nil ?_
             refine q_blk ?_
             refine q_then ?_
             refine wp_region_lit ?_
             refine st_val E (wn rfl) rfl rfl (x_move E rfl rfl) ?_
             clear a E;intro a E
             refine st_val E (wn rfl) rfl rfl (x_bin E rfl rfl rfl rfl) ?_
             clear a E;intro a E
             refine st_val E (wn rfl) rfl rfl (x_assign E rfl rfl) ?_
             clear a E;intro a E
             refine wpList_nil ?_
             refine q_then ?_
             replace H := H.front 1 rfl
             replace H := H.front 1 rfl
             replace H := H.front 2 rfl
             exact ⟨k4, Nat.lt_succ_self k4, v188, IntKind.i64.wrap (x153 + 1), u186.1, u186.2, _, (((E.nil.keep E 10 rfl).keep E 4 rfl).keep E 1 rfl), H, fun r hr => .tail _ (.tail _ (.tail _ (.tail _ (.tail _ (.tail _ (.tail _ (.tail _ (hs158 r hr)))))))), (.tail _ (.tail _ (.tail _ (.tail _ (.tail _ (.tail _ (.tail _ (.tail _ hr159)))))))), (.tail _ (.tail _ (.tail _ (.tail _ (.tail _ (.tail _ (.tail _ (.tail _ hr160)))))))), (.tail _ (.tail _ (.tail _ (.tail _ (.tail _ (.tail _ (.tail _ (.tail _ hr161)))))))), (.tail _ (.tail _ (.tail _ (.tail _ (.tail _ (.tail _ (.tail _ (.tail _ hr162)))))))), (.tail _ (.tail _ (.tail _ (.tail _ (.tail _ (.tail _ (.tail _ (.tail _ hr163)))))))), (.tail _ (.tail _ (.tail _ (.tail _ (.tail _ (.tail _ (.tail _ (.tail _ hr164)))))))), hm⟩
            ·intro hb
             rw [if_f hb] at hm
             clear hb
             refine wp_exit ?_
             refine q_thenX ?_
             refine q_thenX ?_
             refine q_hit ?_
             refine q_then ?_
             refine wp_seq ?_
             refine wp_region_lit ?_
             refine st_val E (wn rfl) rfl rfl (x_move E rfl rfl) ?_
             clear a E;intro a E
             refine st_val E (wn rfl) rfl rfl (x_fa E rfl rfl (v := .pointer (some ⟨p14, 8, none⟩)) (fa50_7 _ _)) ?_
             clear a E;intro a E
             refine st_val E (wn rfl) rfl rfl (x_ldB (i := 0) E H rfl rfl rfl rfl Try.underlying47 rfl) ?_
             clear a E;intro a E
             refine st_val E (wn rfl) rfl rfl (x_lenS E H rfl rfl hr163 Try.underlying47) ?_
             clear a E;intro a E
             replace H := H.front 0 rfl
             replace H := H.front 2 rfl
             replace H := H.front 2 rfl
             replace H : Sep w (Blk p27 84 [v154, .bool b156] :: Row 5 (kI .u8) v154 l155 :: Blk p14 50 [.int .i64 x1.Err, .int .i64 x1.At, .bool x1.Yes, .int .i64 x1.Epoch, (.slice q15 x1.Results.length x16), (.slice q17 x1.Store.Nodes.length x18), (.slice q19 x1.Store.Turns.length x20), (.slice q21 x1.Events.length x22), (.slice q23 x1.Mounts.length x24), (.slice q25 x1.Wounded.length x26)] :: Fo) (rs157) := H
             obtain ⟨u189, hx190, hm⟩ := bnd hm
             refine st_call E (wn rfl) rfl rfl (x_call E rfl rfl (cf33 _)) (c_cantonref02_Writer_Num p27 v154 l155 b156 (x1.Mounts.length : Int) H hx190) ?_
             clear E H; clear a; clear w; rintro _ w ⟨v191, rfl, H⟩ a E
             refine wpList_nil ?_
             refine q_then ?_
             refine wp_seq ?_
             refine wp_seq ?_
             refine wp_region_lit ?_
             refine st_val E (wn rfl) rfl rfl (x_assign E rfl rfl) ?_
             clear a E;intro a E
             refine wpList_nil ?_
             refine q_then ?_
             refine wp_block ?_
             refine wp_loop_g (fun k5 a w => ∃ (v193 : Value) (x192 : Int) (l194 : (List Int)) (b195 : Bool) (rs196 : List Rp), Env 254 a [(1, .pointer (some ⟨p14, 0, none⟩)), (4, .pointer (some ⟨p27, 0, none⟩)), (11, .int .i64 x192)] ∧ Sep w (Blk p14 50 [.int .i64 x1.Err, .int .i64 x1.At, .bool x1.Yes, .int .i64 x1.Epoch, (.slice q15 x1.Results.length x16), (.slice q17 x1.Store.Nodes.length x18), (.slice q19 x1.Store.Turns.length x20), (.slice q21 x1.Events.length x22), (.slice q23 x1.Mounts.length x24), (.slice q25 x1.Wounded.length x26)] :: Blk p27 84 [v193, .bool b195] :: Row 5 (kI .u8) v193 l194 :: Fo) rs196 ∧ (∀ r, r ∈ rs → r ∈ rs196) ∧ rSl k_api_Result (.slice q15 x1.Results.length x16) x1.Results ∈ rs196 ∧ rSl k_api_Node (.slice q17 x1.Store.Nodes.length x18) x1.Store.Nodes ∈ rs196 ∧ rSl k_api_Turn (.slice q19 x1.Store.Turns.length x20) x1.Store.Turns ∈ rs196 ∧ rSl k_api_Event (.slice q21 x1.Events.length x22) x1.Events ∈ rs196 ∧ rSl k_api_Mount (.slice q23 x1.Mounts.length x24) x1.Mounts ∈ rs196 ∧ rSl (kI .i64) (.slice q25 x1.Wounded.length x26) x1.Wounded ∈ rs196 ∧ m_cantonref17_PutAnswer_l5 x1 k5 x192 l194 b195 = some r) (((x1.Mounts.length : Int) - 0 : Int).toNat + 1) ?_ ?_
             ·replace H := H.front 1 rfl
              replace H := H.front 1 rfl
              replace H := H.front 2 rfl
              exact ⟨v191, 0, u189.1, u189.2, _, (((E.nil.keep E 11 rfl).keep E 4 rfl).keep E 1 rfl), H, hs158, hr159, hr160, hr161, hr162, hr163, hr164, hm⟩
             ·clear E H hm
              rintro k5 a w ⟨v193, x192, l194, b195, rs196, E, H, hs197, hr198, hr199, hr200, hr201, hr202, hr203, hm⟩
              cases k5 with
              | zero => exact (none_some hm rfl).elim
              | succ k5 =>
               unfold m_cantonref17_PutAnswer_l5 at hm
               refine wp_seq ?_
               refine wp_seq ?_
               refine wp_region_lit ?_
               refine st_val E (wn rfl) rfl rfl (x_move E rfl rfl) ?_
               clear a E;intro a E
               refine st_val E (wn rfl) rfl rfl (x_fa E rfl rfl (v := .pointer (some ⟨p14, 8, none⟩)) (fa50_7 _ _)) ?_
               clear a E;intro a E
               refine st_val E (wn rfl) rfl rfl (x_ldB (i := 0) E H rfl rfl rfl rfl Try.underlying47 rfl) ?_
               clear a E;intro a E
               refine st_val E (wn rfl) rfl rfl (x_lenS E H rfl rfl hr202 Try.underlying47) ?_
               clear a E;intro a E
               refine st_val E (wn rfl) rfl rfl (x_bin E rfl rfl rfl rfl) ?_
               clear a E;intro a E
               refine wpList_nil ?_
               refine q_then ?_
               refine wp_if E rfl ?_ ?_
               ·intro hb
                rw [if_t hb] at hm
                clear hb
                refine wp_skip ?_
                refine q_then ?_
                refine wp_seq ?_
                refine wp_block ?_
                refine wp_seq ?_
                refine wp_region_lit ?_
                refine st_val E (wn rfl) rfl rfl (x_move E rfl rfl) ?_
                clear a E;intro a E
                refine st_val E (wn rfl) rfl rfl (x_fa E rfl rfl (v := .pointer (some ⟨p14, 8, none⟩)) (fa50_7 _ _)) ?_
                clear a E;intro a E
                refine st_val E (wn rfl) rfl rfl (x_ldB (i := 0) E H rfl rfl rfl rfl Try.underlying47 rfl) ?_
                clear a E;intro a E
                refine st_val E (wn rfl) rfl rfl (x_move E rfl rfl) ?_
                clear a E;intro a E
                obtain ⟨x204, hx205, hm⟩ := bnd hm
                refine st_ixS E H (wn rfl) rfl rfl rfl rfl rfl hr202 Try.underlying47 sz70 hx205 ?_
                clear E H; clear a; intro q206 a H E
                replace H := H.derive1 (.head _) (rAt kS (q206.add 0) x204.Prefix) (fun ok h => k_api_Mount_at0 h)
                refine st_val E (wn rfl) rfl rfl (x_fa E rfl rfl (fa70_0 _ _)) ?_
                clear a E;intro a E
                refine st_val E (wn rfl) rfl rfl (x_ldA E H rfl rfl (.head _) Try.underlying9 rfl) ?_
                clear a E;intro a E
                replace H := H.front 0 rfl
                replace H := H.front 2 rfl
                replace H := H.front 2 rfl
                replace H : Sep w (Blk p27 84 [v193, .bool b195] :: Row 5 (kI .u8) v193 l194 :: Blk p14 50 [.int .i64 x1.Err, .int .i64 x1.At, .bool x1.Yes, .int .i64 x1.Epoch, (.slice q15 x1.Results.length x16), (.slice q17 x1.Store.Nodes.length x18), (.slice q19 x1.Store.Turns.length x20), (.slice q21 x1.Events.length x22), (.slice q23 x1.Mounts.length x24), (.slice q25 x1.Wounded.length x26)] :: Fo) (rAt kS (q206.add 0) x204.Prefix :: rAt k_api_Mount q206 x204 :: rs196) := H
                obtain ⟨u207, hx208, hm⟩ := bnd hm
                refine st_call E (wn rfl) rfl rfl (x_call E rfl rfl (cf35 _)) (c_cantonref02_Writer_Text p27 v193 l194 b195 x204.Prefix H hx208) ?_
                clear E H; clear a; clear w; rintro _ w ⟨v209, rfl, H⟩ a E
                refine wpList_nil ?_
                refine q_then ?_
                refine wp_seq ?_
                refine wp_region_lit ?_
                refine st_val E (wn rfl) rfl rfl (x_move E rfl rfl) ?_
                clear a E;intro a E
                refine st_val E (wn rfl) rfl rfl (x_fa E rfl rfl (v := .pointer (some ⟨p14, 8, none⟩)) (fa50_7 _ _)) ?_
                clear a E;intro a E
                refine st_val E (wn rfl) rfl rfl (x_ldB (i := 2) E H rfl rfl rfl rfl Try.underlying47 rfl) ?_
                clear a E;intro a E
                refine st_val E (wn rfl) rfl rfl (x_move E rfl rfl) ?_
                clear a E;intro a E
                obtain ⟨x210, hx211, hm⟩ := bnd hm
                refine st_ixS E H (wn rfl) rfl rfl rfl rfl rfl (.tail _ (.tail _ hr202)) Try.underlying47 sz70 hx211 ?_
                clear E H; clear a; intro q212 a H E
                replace H := H.derive1 (.head _) (rAt (kI .i64) (q212.add 1) x210.Group) (fun ok h => k_api_Mount_at1 h)
                refine st_val E (wn rfl) rfl rfl (x_fa E rfl rfl (fa70_1 _ _)) ?_
                clear a E;intro a E
                refine st_val E (wn rfl) rfl rfl (x_ldA E H rfl rfl (.head _) Try.underlying3 rfl) ?_
                clear a E;intro a E
                obtain ⟨u213, hx214, hm⟩ := bnd hm
                refine st_call E (wn rfl) rfl rfl (x_call E rfl rfl (cf33 _)) (c_cantonref02_Writer_Num p27 v209 u207.1 u207.2 x210.Group H hx214) ?_
                clear E H; clear a; clear w; rintro _ w ⟨v215, rfl, H⟩ a E
                refine wpList_nil ?_
                refine q_then ?_
                refine wp_seq ?_
                refine wp_region_lit ?_
                refine st_val E (wn rfl) rfl rfl (x_move E rfl rfl) ?_
                clear a E;intro a E
                refine st_val E (wn rfl) rfl rfl (x_fa E rfl rfl (v := .pointer (some ⟨p14, 8, none⟩)) (fa50_7 _ _)) ?_
                clear a E;intro a E
                refine st_val E (wn rfl) rfl rfl (x_ldB (i := 2) E H rfl rfl rfl rfl Try.underlying47 rfl) ?_
                clear a E;intro a E
                refine st_val E (wn rfl) rfl rfl (x_move E rfl rfl) ?_
                clear a E;intro a E
                obtain ⟨x216, hx217, hm⟩ := bnd hm
                refine st_ixS E H (wn rfl) rfl rfl rfl rfl rfl (.tail _ (.tail _ (.tail _ (.tail _ hr202)))) Try.underlying47 sz70 hx217 ?_
                clear E H; clear a; intro q218 a H E
                replace H := H.derive1 (.head _) (rAt (kI .i64) (q218.add 2) x216.Epoch) (fun ok h => k_api_Mount_at2 h)
                refine st_val E (wn rfl) rfl rfl (x_fa E rfl rfl (fa70_2 _ _)) ?_
                clear a E;intro a E
                refine st_val E (wn rfl) rfl rfl (x_ldA E H rfl rfl (.head _) Try.underlying2 rfl) ?_
                clear a E;intro a E
                obtain ⟨u219, hx220, hm⟩ := bnd hm
                refine st_call E (wn rfl) rfl rfl (x_call E rfl rfl (cf33 _)) (c_cantonref02_Writer_Num p27 v215 u213.1 u213.2 x216.Epoch H hx220) ?_
                clear E H; clear a; clear w; rintro _ w ⟨v221, rfl, H⟩ a E
                refine wpList_nil ?_
                refine q_then ?_
                refine wp_region_lit ?_
                refine st_val E (wn rfl) rfl rfl (x_move E rfl rfl) ?_
                clear a E;intro a E
                refine st_val E (wn rfl) rfl rfl (x_fa E rfl rfl (v := .pointer (some ⟨p14, 8, none⟩)) (fa50_7 _ _)) ?_
                clear a E;intro a E
                refine st_val E (wn rfl) rfl rfl (x_ldB (i := 2) E H rfl rfl rfl rfl Try.underlying47 rfl) ?_
                clear a E;intro a E
                refine st_val E (wn rfl) rfl rfl (x_move E rfl rfl) ?_
                clear a E;intro a E
                obtain ⟨x222, hx223, hm⟩ := bnd hm
                refine st_ixS E H (wn rfl) rfl rfl rfl rfl rfl (.tail _ (.tail _ (.tail _ (.tail _ (.tail _ (.tail _ hr202)))))) Try.underlying47 sz70 hx223 ?_
                clear E H; clear a; intro q224 a H E
                replace H := H.derive1 (.head _) (rAt (kI .i64) (q224.add 3) x222.To) (fun ok h => k_api_Mount_at3 h)
                refine st_val E (wn rfl) rfl rfl (x_fa E rfl rfl (fa70_3 _ _)) ?_
                clear a E;intro a E
                refine st_val E (wn rfl) rfl rfl (x_ldA E H rfl rfl (.head _) Try.underlying3 rfl) ?_
                clear a E;intro a E
                obtain ⟨u225, hx226, hm⟩ := bnd hm
                refine st_call E (wn rfl) rfl rfl (x_call E rfl rfl (cf33 _)) (c_cantonref02_Writer_Num p27 v221 u219.1 u219.2 x222.To H hx226) ?_
                clear E H; clear a; clear w; rintro _ w ⟨v227, rfl, H⟩ a E
                refine wpList_nil ?_
                refine q_blk ?_
                refine q_then ?_
                refine wp_region_lit ?_
                refine st_val E (wn rfl) rfl rfl (x_move E rfl rfl) ?_
                clear a E;intro a E
                refine st_val E (wn rfl) rfl rfl (x_bin E rfl rfl rfl rfl) ?_
                clear a E;intro a E
                refine st_val E (wn rfl) rfl rfl (x_assign E rfl rfl) ?_
                clear a E;intro a E
                refine wpList_nil ?_
                refine q_then ?_
                replace H := H.front 1 rfl
                replace H := H.front 1 rfl
                replace H := H.front 2 rfl
                exact ⟨k5, Nat.lt_succ_self k5, v227, IntKind.i64.wrap (x192 + 1), u225.1, u225.2, _, (((E.nil.keep E 11 rfl).keep E 4 rfl).keep E 1 rfl), H, fun r hr => .tail _ (.tail _ (.tail _ (.tail _ (.tail _ (.tail _ (.tail _ (.tail _ (hs197 r hr)))))))), (.tail _ (.tail _ (.tail _ (.tail _ (.tail _ (.tail _ (.tail _ (.tail _ hr198)))))))), (.tail _ (.tail _ (.tail _ (.tail _ (.tail _ (.tail _ (.tail _ (.tail _ hr199)))))))), (.tail _ (.tail _ (.tail _ (.tail _ (.tail _ (.tail _ (.tail _ (.tail _ hr200)))))))), (.tail _ (.tail _ (.tail _ (.tail _ (.tail _ (.tail _ (.tail _ (.tail _ hr201)))))))), (.tail _ (.tail _ (.tail _ (.tail _ (.tail _ (.tail _ (.tail _ (.tail _ hr202)))))))), (.tail _ (.tail _ (.tail _ (.tail _ (.tail _ (.tail _ (.tail _ (.tail _ hr203)))))))), hm⟩
               ·intro hb
                rw [if_f hb] at hm
                clear hb
                refine wp_exit ?_
                refine q_thenX ?_
                refine q_thenX ?_
                refine q_hit ?_
                refine q_then ?_
                refine wp_seq ?_
                refine wp_region_lit ?_
                refine st_val E (wn rfl) rfl rfl (x_move E rfl rfl) ?_
                clear a E;intro a E
                refine st_val E (wn rfl) rfl rfl (x_fa E rfl rfl (v := .pointer (some ⟨p14, 9, none⟩)) (fa50_8 _ _)) ?_
                clear a E;intro a E
                refine st_val E (wn rfl) rfl rfl (x_ldB (i := 0) E H rfl rfl rfl rfl Try.underlying48 rfl) ?_
                clear a E;intro a E
                refine st_val E (wn rfl) rfl rfl (x_lenS E H rfl rfl hr203 Try.underlying48) ?_
                clear a E;intro a E
                replace H := H.front 0 rfl
                replace H := H.front 2 rfl
                replace H := H.front 2 rfl
                replace H : Sep w (Blk p27 84 [v193, .bool b195] :: Row 5 (kI .u8) v193 l194 :: Blk p14 50 [.int .i64 x1.Err, .int .i64 x1.At, .bool x1.Yes, .int .i64 x1.Epoch, (.slice q15 x1.Results.length x16), (.slice q17 x1.Store.Nodes.length x18), (.slice q19 x1.Store.Turns.length x20), (.slice q21 x1.Events.length x22), (.slice q23 x1.Mounts.length x24), (.slice q25 x1.Wounded.length x26)] :: Fo) (rs196) := H
                obtain ⟨u228, hx229, hm⟩ := bnd hm
                refine st_call E (wn rfl) rfl rfl (x_call E rfl rfl (cf33 _)) (c_cantonref02_Writer_Num p27 v193 l194 b195 (x1.Wounded.length : Int) H hx229) ?_
                clear E H; clear a; clear w; rintro _ w ⟨v230, rfl, H⟩ a E
                refine wpList_nil ?_
                refine q_then ?_
                refine wp_seq ?_
                refine wp_seq ?_
                refine wp_region_lit ?_
                refine st_val E (wn rfl) rfl rfl (x_assign E rfl rfl) ?_
                clear a E;intro a E
                refine wpList_nil ?_
                refine q_then ?_
                refine wp_block ?_
                refine wp_loop_g (fun k6 a w => ∃ (v232 : Value) (x231 : Int) (l233 : (List Int)) (b234 : Bool) (rs235 : List Rp), Env 254 a [(1, .pointer (some ⟨p14, 0, none⟩)), (4, .pointer (some ⟨p27, 0, none⟩)), (12, .int .i64 x231)] ∧ Sep w (Blk p14 50 [.int .i64 x1.Err, .int .i64 x1.At, .bool x1.Yes, .int .i64 x1.Epoch, (.slice q15 x1.Results.length x16), (.slice q17 x1.Store.Nodes.length x18), (.slice q19 x1.Store.Turns.length x20), (.slice q21 x1.Events.length x22), (.slice q23 x1.Mounts.length x24), (.slice q25 x1.Wounded.length x26)] :: Blk p27 84 [v232, .bool b234] :: Row 5 (kI .u8) v232 l233 :: Fo) rs235 ∧ (∀ r, r ∈ rs → r ∈ rs235) ∧ rSl k_api_Result (.slice q15 x1.Results.length x16) x1.Results ∈ rs235 ∧ rSl k_api_Node (.slice q17 x1.Store.Nodes.length x18) x1.Store.Nodes ∈ rs235 ∧ rSl k_api_Turn (.slice q19 x1.Store.Turns.length x20) x1.Store.Turns ∈ rs235 ∧ rSl k_api_Event (.slice q21 x1.Events.length x22) x1.Events ∈ rs235 ∧ rSl k_api_Mount (.slice q23 x1.Mounts.length x24) x1.Mounts ∈ rs235 ∧ rSl (kI .i64) (.slice q25 x1.Wounded.length x26) x1.Wounded ∈ rs235 ∧ m_cantonref17_PutAnswer_l6 x1 k6 x231 l233 b234 = some r) (((x1.Wounded.length : Int) - 0 : Int).toNat + 1) ?_ ?_
                ·replace H := H.front 1 rfl
                 replace H := H.front 1 rfl
                 replace H := H.front 2 rfl
                 exact ⟨v230, 0, u228.1, u228.2, _, (((E.nil.keep E 12 rfl).keep E 4 rfl).keep E 1 rfl), H, hs197, hr198, hr199, hr200, hr201, hr202, hr203, hm⟩
                ·clear E H hm
                 rintro k6 a w ⟨v232, x231, l233, b234, rs235, E, H, hs236, hr237, hr238, hr239, hr240, hr241, hr242, hm⟩
                 cases k6 with
                 | zero => exact (none_some hm rfl).elim
                 | succ k6 =>
                  unfold m_cantonref17_PutAnswer_l6 at hm
                  refine wp_seq ?_
                  refine wp_seq ?_
                  refine wp_region_lit ?_
                  refine st_val E (wn rfl) rfl rfl (x_move E rfl rfl) ?_
                  clear a E;intro a E
                  refine st_val E (wn rfl) rfl rfl (x_fa E rfl rfl (v := .pointer (some ⟨p14, 9, none⟩)) (fa50_8 _ _)) ?_
                  clear a E;intro a E
                  refine st_val E (wn rfl) rfl rfl (x_ldB (i := 0) E H rfl rfl rfl rfl Try.underlying48 rfl) ?_
                  clear a E;intro a E
                  refine st_val E (wn rfl) rfl rfl (x_lenS E H rfl rfl hr242 Try.underlying48) ?_
                  clear a E;intro a E
                  refine st_val E (wn rfl) rfl rfl (x_bin E rfl rfl rfl rfl) ?_
                  clear a E;intro a E
                  refine wpList_nil ?_
                  refine q_then ?_
                  refine wp_if E rfl ?_ ?_
                  ·intro hb
                   rw [if_t hb] at hm
                   clear hb
                   refine wp_skip ?_
                   refine q_then ?_
                   refine wp_seq ?_
                   refine wp_block ?_
                   refine wp_region_lit ?_
                   refine st_val E (wn rfl) rfl rfl (x_move E rfl rfl) ?_
                   clear a E;intro a E
                   refine st_val E (wn rfl) rfl rfl (x_fa E rfl rfl (v := .pointer (some ⟨p14, 9, none⟩)) (fa50_8 _ _)) ?_
                   clear a E;intro a E
                   refine st_val E (wn rfl) rfl rfl (x_ldB (i := 0) E H rfl rfl rfl rfl Try.underlying48 rfl) ?_
                   clear a E;intro a E
                   refine st_val E (wn rfl) rfl rfl (x_move E rfl rfl) ?_
                   clear a E;intro a E
                   obtain ⟨x243, hx244, hm⟩ := bnd hm
                   refine st_ixS E H (wn rfl) rfl rfl rfl rfl rfl hr242 Try.underlying48 sz2 hx244 ?_
                   clear E H; clear a; intro q245 a H E
                   refine st_val E (wn rfl) rfl rfl (x_ldA E H rfl rfl (.head _) Try.underlying2 rfl) ?_
                   clear a E;intro a E
                   replace H := H.front 0 rfl
                   replace H := H.front 2 rfl
                   replace H := H.front 2 rfl
                   replace H : Sep w (Blk p27 84 [v232, .bool b234] :: Row 5 (kI .u8) v232 l233 :: Blk p14 50 [.int .i64 x1.Err, .int .i64 x1.At, .bool x1.Yes, .int .i64 x1.Epoch, (.slice q15 x1.Results.length x16), (.slice q17 x1.Store.Nodes.length x18), (.slice q19 x1.Store.Turns.length x20), (.slice q21 x1.Events.length x22), (.slice q23 x1.Mounts.length x24), (.slice q25 x1.Wounded.length x26)] :: Fo) (rAt (kI .i64) q245 x243 :: rs235) := H
                   obtain ⟨u246, hx247, hm⟩ := bnd hm
                   refine st_call E (wn rfl) rfl rfl (x_call E rfl rfl (cf33 _)) (c_cantonref02_Writer_Num p27 v232 l233 b234 x243 H hx247) ?_
                   clear E H; clear a; clear w; rintro _ w ⟨v248, rfl, H⟩ a E
                   refine wpList_nil ?_
                   refine q_blk ?_
                   refine q_then ?_
                   refine wp_region_lit ?_
                   refine st_val E (wn rfl) rfl rfl (x_move E rfl rfl) ?_
                   clear a E;intro a E
                   refine st_val E (wn rfl) rfl rfl (x_bin E rfl rfl rfl rfl) ?_
                   clear a E;intro a E
                   refine st_val E (wn rfl) rfl rfl (x_assign E rfl rfl) ?_
                   clear a E;intro a E
                   refine wpList_nil ?_
                   refine q_then ?_
                   replace H := H.front 1 rfl
                   replace H := H.front 1 rfl
                   replace H := H.front 2 rfl
                   exact ⟨k6, Nat.lt_succ_self k6, v248, IntKind.i64.wrap (x231 + 1), u246.1, u246.2, _, (((E.nil.keep E 12 rfl).keep E 4 rfl).keep E 1 rfl), H, fun r hr => .tail _ (hs236 r hr), (.tail _ hr237), (.tail _ hr238), (.tail _ hr239), (.tail _ hr240), (.tail _ hr241), (.tail _ hr242), hm⟩
                  ·intro hb
                   rw [if_f hb] at hm
                   clear hb
                   refine wp_exit ?_
                   refine q_thenX ?_
                   refine q_thenX ?_
                   refine q_hit ?_
                   refine q_then ?_
                   refine wp_seq ?_
                   refine wp_region_lit ?_
                   refine st_val E (wn rfl) rfl rfl (x_move E rfl rfl) ?_
                   clear a E;intro a E
                   replace H := H.front 0 rfl
                   replace H := H.front 2 rfl
                   replace H := H.front 2 rfl
                   replace H : Sep w (Blk p27 84 [v232, .bool b234] :: Row 5 (kI .u8) v232 l233 :: Blk p14 50 [.int .i64 x1.Err, .int .i64 x1.At, .bool x1.Yes, .int .i64 x1.Epoch, (.slice q15 x1.Results.length x16), (.slice q17 x1.Store.Nodes.length x18), (.slice q19 x1.Store.Turns.length x20), (.slice q21 x1.Events.length x22), (.slice q23 x1.Mounts.length x24), (.slice q25 x1.Wounded.length x26)] :: Fo) (rs235) := H
                   obtain ⟨u249, hx250, hm⟩ := bnd hm
                   refine st_call E (wn rfl) rfl rfl (x_call E rfl rfl (cf36 _)) (c_cantonref02_Writer_Bytes p27 v232 l233 b234 H hx250) ?_
                   clear E H; clear a; clear w; rintro _ w ⟨v251, rfl, H⟩ a E
                   refine st_val E (wn rfl) rfl rfl (x_ext E rfl rfl rfl) ?_
                   clear a E;intro a E
                   refine st_val E (wn rfl) rfl rfl (x_ext E rfl rfl rfl) ?_
                   clear a E;intro a E
                   refine st_val E (wn rfl) rfl rfl (x_assign E rfl rfl) ?_
                   clear a E;intro a E
                   refine st_val E (wn rfl) rfl rfl (x_assign E rfl rfl) ?_
                   clear a E;intro a E
                   refine wpList_nil ?_
                   refine q_then ?_
                   refine wp_ret ?_
                   refine out2 E rfl rfl rfl ?_
                   replace H := H.drop 1
                   replace H := H.drop 1
                   replace H := H.drop 1
                   obtain rfl := Option.some.inj hm
                   exact ⟨v251, rfl, H.reads (fun r hr => hs236 r hr)⟩
end Go.Cb

set_option linter.unusedVariables false
set_option linter.unusedSimpArgs false
namespace Go.Cb
open Go.Proofs Go.RowKit
def m_cantonref06_SameOne (x1 : S_api_Result) (x3 : S_api_Result) : Option Bool :=
  if (x1.Err == x3.Err) = true then (if (sEq x1.Path x3.Path) = true then (if (sEq x1.Data x3.Data) = true then (if (x1.Version == x3.Version) = true then ((m_cantonref01_Same x1.Names x3.Names).bind fun u17 => some (u17)) else (some (false))) else (some (false))) else (some (false))) else (some (false))
set_option maxRecDepth 20000 in
set_option maxHeartbeats 1000000 in
theorem c_cantonref06_SameOne {w : World} {Fo : List Ob} {rs : List Rp} (x1 : S_api_Result) (v2 : Value) (x3 : S_api_Result) (v4 : Value) (H : Sep w (Fo) rs) (hr5 : rSl kS v2 x1.Names ∈ rs) (hr6 : rSl kS v4 x3.Names ∈ rs) {r : Bool} (hm : m_cantonref06_SameOne x1 x3 = some r) :
    Calls Try.prog 89 [.agg #[.int .i64 x1.Err, .string x1.Path, .string x1.Data, .int .i64 x1.Version, v2], .agg #[.int .i64 x3.Err, .string x3.Path, .string x3.Data, .int .i64 x3.Version, v4]].toArray w (Ret fun v w' => .bool r = v ∧ Sep w' (Fo) (rs)) := by
 unfold m_cantonref06_SameOne at hm
 refine enter Try.func89 rfl Try.ntmps89 rfl fun a E => ?_
 simp only [enum, Nat.reduceAdd] at E
 refine wp_seq ?_
 refine wp_region_lit ?_
 obtain ⟨q8, x9, rfl⟩ := H.slform hr5
 refine st_box E H (wn rfl) rfl rfl (cs := [.int .i64 x1.Err, .string x1.Path, .string x1.Data, .int .i64 x1.Version, (.slice q8 x1.Names.length x9)]) rfl rfl rfl ?_
 clear E H; clear a; clear w; intro p7 w a H E
 obtain ⟨q11, x12, rfl⟩ := H.slform hr6
 refine st_box E H (wn rfl) rfl rfl (cs := [.int .i64 x3.Err, .string x3.Path, .string x3.Data, .int .i64 x3.Version, (.slice q11 x3.Names.length x12)]) rfl rfl rfl ?_
 clear E H; clear a; clear w; intro p10 w a H E
 refine st_val E (wn rfl) rfl rfl (x_assign E rfl rfl) ?_
 clear a E;intro a E
 refine wpList_nil ?_
 refine q_then ?_
 refine wp_seq ?_
 refine wp_region_lit ?_
 refine st_val E (wn rfl) rfl rfl (x_fa E rfl rfl (v := .pointer (some ⟨p7, 0, none⟩)) (fa62_0 _ _)) ?_
 clear a E;intro a E
 refine st_val E (wn rfl) rfl rfl (x_ldB (i := 1) E H rfl rfl rfl rfl Try.underlying30 rfl) ?_
 clear a E;intro a E
 refine st_val E (wn rfl) rfl rfl (x_fa E rfl rfl (v := .pointer (some ⟨p10, 0, none⟩)) (fa62_0 _ _)) ?_
 clear a E;intro a E
 refine st_val E (wn rfl) rfl rfl (x_ldB (i := 0) E H rfl rfl rfl rfl Try.underlying30 rfl) ?_
 clear a E;intro a E
 refine st_val E (wn rfl) rfl rfl (x_bin E rfl rfl rfl rfl) ?_
 clear a E;intro a E
 refine st_val E (wn rfl) rfl rfl (x_move E rfl rfl) ?_
 clear a E;intro a E
 rcases Bool.eq_false_or_eq_true (x1.Err == x3.Err) with hb13 | hb13
 ·rw [if_t hb13] at hm
  refine st_val E (ws' E rfl rfl rfl rfl hb13) rfl rfl (x_fa E rfl rfl (v := .pointer (some ⟨p7, 1, none⟩)) (fa62_1 _ _)) ?_
  clear a E;intro a E
  refine st_val E (ws' E rfl rfl rfl rfl hb13) rfl rfl (x_ldB (i := 1) E H rfl rfl rfl rfl Try.underlying9 rfl) ?_
  clear a E;intro a E
  refine st_val E (ws' E rfl rfl rfl rfl hb13) rfl rfl (x_fa E rfl rfl (v := .pointer (some ⟨p10, 1, none⟩)) (fa62_1 _ _)) ?_
  clear a E;intro a E
  refine st_val E (ws' E rfl rfl rfl rfl hb13) rfl rfl (x_ldB (i := 0) E H rfl rfl rfl rfl Try.underlying9 rfl) ?_
  clear a E;intro a E
  refine st_val E (ws' E rfl rfl rfl rfl hb13) rfl rfl (x_str E rfl rfl rfl rfl) ?_
  clear a E;intro a E
  refine st_val E (wn rfl) rfl rfl (x_pickT E rfl rfl hb13 rfl) ?_
  clear a E;intro a E
  refine st_val E (wn rfl) rfl rfl (x_move E rfl rfl) ?_
  clear a E;intro a E
  rcases Bool.eq_false_or_eq_true (sEq x1.Path x3.Path) with hb14 | hb14
  ·rw [if_t hb14] at hm
   refine st_val E (ws' E rfl rfl rfl rfl hb14) rfl rfl (x_fa E rfl rfl (v := .pointer (some ⟨p7, 2, none⟩)) (fa62_2 _ _)) ?_
   clear a E;intro a E
   refine st_val E (ws' E rfl rfl rfl rfl hb14) rfl rfl (x_ldB (i := 1) E H rfl rfl rfl rfl Try.underlying9 rfl) ?_
   clear a E;intro a E
   refine st_val E (ws' E rfl rfl rfl rfl hb14) rfl rfl (x_fa E rfl rfl (v := .pointer (some ⟨p10, 2, none⟩)) (fa62_2 _ _)) ?_
   clear a E;intro a E
   refine st_val E (ws' E rfl rfl rfl rfl hb14) rfl rfl (x_ldB (i := 0) E H rfl rfl rfl rfl Try.underlying9 rfl) ?_
   clear a E;intro a E
   refine st_val E (ws' E rfl rfl rfl rfl hb14) rfl rfl (x_str E rfl rfl rfl rfl) ?_
   clear a E;intro a E
   refine st_val E (wn rfl) rfl rfl (x_pickT E rfl rfl hb14 rfl) ?_
   clear a E;intro a E
   refine st_val E (wn rfl) rfl rfl (x_move E rfl rfl) ?_
   clear a E;intro a E
   rcases Bool.eq_false_or_eq_true (sEq x1.Data x3.Data) with hb15 | hb15
   ·rw [if_t hb15] at hm
    refine st_val E (ws' E rfl rfl rfl rfl hb15) rfl rfl (x_fa E rfl rfl (v := .pointer (some ⟨p7, 3, none⟩)) (fa62_3 _ _)) ?_
    clear a E;intro a E
    refine st_val E (ws' E rfl rfl rfl rfl hb15) rfl rfl (x_ldB (i := 1) E H rfl rfl rfl rfl Try.underlying2 rfl) ?_
    clear a E;intro a E
    refine st_val E (ws' E rfl rfl rfl rfl hb15) rfl rfl (x_fa E rfl rfl (v := .pointer (some ⟨p10, 3, none⟩)) (fa62_3 _ _)) ?_
    clear a E;intro a E
    refine st_val E (ws' E rfl rfl rfl rfl hb15) rfl rfl (x_ldB (i := 0) E H rfl rfl rfl rfl Try.underlying2 rfl) ?_
    clear a E;intro a E
    refine st_val E (ws' E rfl rfl rfl rfl hb15) rfl rfl (x_bin E rfl rfl rfl rfl) ?_
    clear a E;intro a E
    refine st_val E (wn rfl) rfl rfl (x_pickT E rfl rfl hb15 rfl) ?_
    clear a E;intro a E
    refine st_val E (wn rfl) rfl rfl (x_move E rfl rfl) ?_
    clear a E;intro a E
    rcases Bool.eq_false_or_eq_true (x1.Version == x3.Version) with hb16 | hb16
    ·rw [if_t hb16] at hm
     refine st_val E (ws' E rfl rfl rfl rfl hb16) rfl rfl (x_fa E rfl rfl (v := .pointer (some ⟨p7, 4, none⟩)) (fa62_4 _ _)) ?_
     clear a E;intro a E
     refine st_val E (ws' E rfl rfl rfl rfl hb16) rfl rfl (x_ldB (i := 1) E H rfl rfl rfl rfl Try.underlying22 rfl) ?_
     clear a E;intro a E
     refine st_val E (ws' E rfl rfl rfl rfl hb16) rfl rfl (x_fa E rfl rfl (v := .pointer (some ⟨p10, 4, none⟩)) (fa62_4 _ _)) ?_
     clear a E;intro a E
     refine st_val E (ws' E rfl rfl rfl rfl hb16) rfl rfl (x_ldB (i := 0) E H rfl rfl rfl rfl Try.underlying22 rfl) ?_
     clear a E;intro a E
     obtain ⟨u17, hx18, hm⟩ := bnd hm
     refine st_call E (ws' E rfl rfl rfl rfl hb16) rfl rfl (x_call E rfl rfl (cf49 _)) (c_cantonref01_Same (.slice q8 x1.Names.length x9) x1.Names (.slice q11 x3.Names.length x12) x3.Names H hr5 hr6 hx18) ?_
     clear E H; clear a; clear w; rintro _ w ⟨rfl, H⟩ a E
     refine st_val E (wn rfl) rfl rfl (x_pickT E rfl rfl hb16 rfl) ?_
     clear a E;intro a E
     refine st_val E (wn rfl) rfl rfl (x_assign E rfl rfl) ?_
     clear a E;intro a E
     refine wpList_nil ?_
     refine q_then ?_
     refine wp_ret ?_
     refine out1 E rfl rfl ?_
     replace H := H.drop 0
     replace H := H.drop 0
     obtain rfl := Option.some.inj hm
     exact ⟨rfl, H.reads (fun r hr => hr)⟩
    ·rw [if_f hb16] at hm
     refine st_no E (wf' E rfl rfl rfl rfl hb16 rfl) rfl rfl ?_
     clear a E;intro a E
     refine st_no E (wf' E rfl rfl rfl rfl hb16 rfl) rfl rfl ?_
     clear a E;intro a E
     refine st_no E (wf' E rfl rfl rfl rfl hb16 rfl) rfl rfl ?_
     clear a E;intro a E
     refine st_no E (wf' E rfl rfl rfl rfl hb16 rfl) rfl rfl ?_
     clear a E;intro a E
     refine st_no E (wf' E rfl rfl rfl rfl hb16 rfl) rfl rfl ?_
     clear a E;intro a E
     refine st_val E (wn rfl) rfl rfl (x_pickF E rfl rfl hb16 rfl) ?_
     clear a E;intro a E
     refine st_val E (wn rfl) rfl rfl (x_assign E rfl rfl) ?_
     clear a E;intro a E
     refine wpList_nil ?_
     refine q_then ?_
     refine wp_ret ?_
     refine out1 E rfl rfl ?_
     replace H := H.drop 0
     replace H := H.drop 0
     obtain rfl := Option.some.inj hm
     exact ⟨rfl, H.reads (fun r hr => hr)⟩
   ·rw [if_f hb15] at hm
    refine st_no E (wf' E rfl rfl rfl rfl hb15 rfl) rfl rfl ?_
    clear a E;intro a E
    refine st_no E (wf' E rfl rfl rfl rfl hb15 rfl) rfl rfl ?_
    clear a E;intro a E
    refine st_no E (wf' E rfl rfl rfl rfl hb15 rfl) rfl rfl ?_
    clear a E;intro a E
    refine st_no E (wf' E rfl rfl rfl rfl hb15 rfl) rfl rfl ?_
    clear a E;intro a E
    refine st_no E (wf' E rfl rfl rfl rfl hb15 rfl) rfl rfl ?_
    clear a E;intro a E
    refine st_val E (wn rfl) rfl rfl (x_pickF E rfl rfl hb15 rfl) ?_
    clear a E;intro a E
    refine st_val E (wn rfl) rfl rfl (x_move E rfl rfl) ?_
    clear a E;intro a E
    refine st_no E (wf E rfl rfl rfl rfl rfl) rfl rfl ?_
    clear a E;intro a E
    refine st_no E (wf E rfl rfl rfl rfl rfl) rfl rfl ?_
    clear a E;intro a E
    refine st_no E (wf E rfl rfl rfl rfl rfl) rfl rfl ?_
    clear a E;intro a E
    refine st_no E (wf E rfl rfl rfl rfl rfl) rfl rfl ?_
    clear a E;intro a E
    refine st_no E (wf E rfl rfl rfl rfl rfl) rfl rfl ?_
    clear a E;intro a E
    refine st_val E (wn rfl) rfl rfl (x_pickF E rfl rfl rfl rfl) ?_
    clear a E;intro a E
    refine st_val E (wn rfl) rfl rfl (x_assign E rfl rfl) ?_
    clear a E;intro a E
    refine wpList_nil ?_
    refine q_then ?_
    refine wp_ret ?_
    refine out1 E rfl rfl ?_
    replace H := H.drop 0
    replace H := H.drop 0
    obtain rfl := Option.some.inj hm
    exact ⟨rfl, H.reads (fun r hr => hr)⟩
  ·rw [if_f hb14] at hm
   refine st_no E (wf' E rfl rfl rfl rfl hb14 rfl) rfl rfl ?_
   clear a E;intro a E
   refine st_no E (wf' E rfl rfl rfl rfl hb14 rfl) rfl rfl ?_
   clear a E;intro a E
   refine st_no E (wf' E rfl rfl rfl rfl hb14 rfl) rfl rfl ?_
   clear a E;intro a E
   refine st_no E (wf' E rfl rfl rfl rfl hb14 rfl) rfl rfl ?_
   clear a E;intro a E
   refine st_no E (wf' E rfl rfl rfl rfl hb14 rfl) rfl rfl ?_
   clear a E;intro a E
   refine st_val E (wn rfl) rfl rfl (x_pickF E rfl rfl hb14 rfl) ?_
   clear a E;intro a E
   refine st_val E (wn rfl) rfl rfl (x_move E rfl rfl) ?_
   clear a E;intro a E
   refine st_no E (wf E rfl rfl rfl rfl rfl) rfl rfl ?_
   clear a E;intro a E
   refine st_no E (wf E rfl rfl rfl rfl rfl) rfl rfl ?_
   clear a E;intro a E
   refine st_no E (wf E rfl rfl rfl rfl rfl) rfl rfl ?_
   clear a E;intro a E
   refine st_no E (wf E rfl rfl rfl rfl rfl) rfl rfl ?_
   clear a E;intro a E
   refine st_no E (wf E rfl rfl rfl rfl rfl) rfl rfl ?_
   clear a E;intro a E
   refine st_val E (wn rfl) rfl rfl (x_pickF E rfl rfl rfl rfl) ?_
   clear a E;intro a E
   refine st_val E (wn rfl) rfl rfl (x_move E rfl rfl) ?_
   clear a E;intro a E
   refine st_no E (wf E rfl rfl rfl rfl rfl) rfl rfl ?_
   clear a E;intro a E
   refine st_no E (wf E rfl rfl rfl rfl rfl) rfl rfl ?_
   clear a E;intro a E
   refine st_no E (wf E rfl rfl rfl rfl rfl) rfl rfl ?_
   clear a E;intro a E
   refine st_no E (wf E rfl rfl rfl rfl rfl) rfl rfl ?_
   clear a E;intro a E
   refine st_no E (wf E rfl rfl rfl rfl rfl) rfl rfl ?_
   clear a E;intro a E
   refine st_val E (wn rfl) rfl rfl (x_pickF E rfl rfl rfl rfl) ?_
   clear a E;intro a E
   refine st_val E (wn rfl) rfl rfl (x_assign E rfl rfl) ?_
   clear a E;intro a E
   refine wpList_nil ?_
   refine q_then ?_
   refine wp_ret ?_
   refine out1 E rfl rfl ?_
   replace H := H.drop 0
   replace H := H.drop 0
   obtain rfl := Option.some.inj hm
   exact ⟨rfl, H.reads (fun r hr => hr)⟩
 ·rw [if_f hb13] at hm
  refine st_no E (wf' E rfl rfl rfl rfl hb13 rfl) rfl rfl ?_
  clear a E;intro a E
  refine st_no E (wf' E rfl rfl rfl rfl hb13 rfl) rfl rfl ?_
  clear a E;intro a E
  refine st_no E (wf' E rfl rfl rfl rfl hb13 rfl) rfl rfl ?_
  clear a E;intro a E
  refine st_no E (wf' E rfl rfl rfl rfl hb13 rfl) rfl rfl ?_
  clear a E;intro a E
  refine st_no E (wf' E rfl rfl rfl rfl hb13 rfl) rfl rfl ?_
  clear a E;intro a E
  refine st_val E (wn rfl) rfl rfl (x_pickF E rfl rfl hb13 rfl) ?_
  clear a E;intro a E
  refine st_val E (wn rfl) rfl rfl (x_move E rfl rfl) ?_
  clear a E;intro a E
  refine st_no E (wf E rfl rfl rfl rfl rfl) rfl rfl ?_
  clear a E;intro a E
  refine st_no E (wf E rfl rfl rfl rfl rfl) rfl rfl ?_
  clear a E;intro a E
  refine st_no E (wf E rfl rfl rfl rfl rfl) rfl rfl ?_
  clear a E;intro a E
  refine st_no E (wf E rfl rfl rfl rfl rfl) rfl rfl ?_
  clear a E;intro a E
  refine st_no E (wf E rfl rfl rfl rfl rfl) rfl rfl ?_
  clear a E;intro a E
  refine st_val E (wn rfl) rfl rfl (x_pickF E rfl rfl rfl rfl) ?_
  clear a E;intro a E
  refine st_val E (wn rfl) rfl rfl (x_move E rfl rfl) ?_
  clear a E;intro a E
  refine st_no E (wf E rfl rfl rfl rfl rfl) rfl rfl ?_
  clear a E;intro a E
  refine st_no E (wf E rfl rfl rfl rfl rfl) rfl rfl ?_
  clear a E;intro a E
  refine st_no E (wf E rfl rfl rfl rfl rfl) rfl rfl ?_
  clear a E;intro a E
  refine st_no E (wf E rfl rfl rfl rfl rfl) rfl rfl ?_
  clear a E;intro a E
  refine st_no E (wf E rfl rfl rfl rfl rfl) rfl rfl ?_
  clear a E;intro a E
  refine st_val E (wn rfl) rfl rfl (x_pickF E rfl rfl rfl rfl) ?_
  clear a E;intro a E
  refine st_val E (wn rfl) rfl rfl (x_move E rfl rfl) ?_
  clear a E;intro a E
  refine st_no E (wf E rfl rfl rfl rfl rfl) rfl rfl ?_
  clear a E;intro a E
  refine st_no E (wf E rfl rfl rfl rfl rfl) rfl rfl ?_
  clear a E;intro a E
  refine st_no E (wf E rfl rfl rfl rfl rfl) rfl rfl ?_
  clear a E;intro a E
  refine st_no E (wf E rfl rfl rfl rfl rfl) rfl rfl ?_
  clear a E;intro a E
  refine st_no E (wf E rfl rfl rfl rfl rfl) rfl rfl ?_
  clear a E;intro a E
  refine st_val E (wn rfl) rfl rfl (x_pickF E rfl rfl rfl rfl) ?_
  clear a E;intro a E
  refine st_val E (wn rfl) rfl rfl (x_assign E rfl rfl) ?_
  clear a E;intro a E
  refine wpList_nil ?_
  refine q_then ?_
  refine wp_ret ?_
  refine out1 E rfl rfl ?_
  replace H := H.drop 0
  replace H := H.drop 0
  obtain rfl := Option.some.inj hm
  exact ⟨rfl, H.reads (fun r hr => hr)⟩
end Go.Cb

set_option linter.unusedVariables false
set_option linter.unusedSimpArgs false
namespace Go.Cb
open Go.Proofs Go.RowKit
def m_cantonref06_SameList_l1 (l2 : List S_api_Result) (l4 : List S_api_Result) : Nat → Int → Option Bool
  | 0, _ => none
  | k1 + 1, x7 =>
    if (decide (x7 < (l2.length : Int))) = true then ((idx l2 x7).bind fun x14 => (idx l4 x7).bind fun x25 => (m_cantonref06_SameOne x14 x25).bind fun u36 => if (!u36) = true then (some (false)) else (m_cantonref06_SameList_l1 l2 l4 k1 (IntKind.i64.wrap (x7 + 1)))) else (some (true))
def m_cantonref06_SameList (l2 : List S_api_Result) (l4 : List S_api_Result) : Option Bool :=
  if ((l2.length : Int) != (l4.length : Int)) = true then (some (false)) else (m_cantonref06_SameList_l1 l2 l4 (((l2.length : Int) - 0 : Int).toNat + 1) 0)
set_option maxRecDepth 20000 in
set_option maxHeartbeats 1000000 in
theorem c_cantonref06_SameList {w : World} {Fo : List Ob} {rs : List Rp} (v1 : Value) (l2 : List S_api_Result) (v3 : Value) (l4 : List S_api_Result) (H : Sep w (Fo) rs) (hr5 : rSl k_api_Result v1 l2 ∈ rs) (hr6 : rSl k_api_Result v3 l4 ∈ rs) {r : Bool} (hm : m_cantonref06_SameList l2 l4 = some r) :
    Calls Try.prog 79 [v1, v3].toArray w (Ret fun v w' => .bool r = v ∧ Sep w' (Fo) (rs)) := by
 unfold m_cantonref06_SameList at hm
 refine enter Try.func79 rfl Try.ntmps79 rfl fun a E => ?_
 simp only [enum, Nat.reduceAdd] at E
 refine wp_seq ?_
 refine wp_region_lit ?_
 refine st_val E (wn rfl) rfl rfl (x_assign E rfl rfl) ?_
 clear a E;intro a E
 refine wpList_nil ?_
 refine q_then ?_
 refine wp_seq ?_
 refine wp_seq ?_
 refine wp_region_lit ?_
 refine st_val E (wn rfl) rfl rfl (x_move E rfl rfl) ?_
 clear a E;intro a E
 refine st_val E (wn rfl) rfl rfl (x_lenS E H rfl rfl hr5 Try.underlying41) ?_
 clear a E;intro a E
 refine st_val E (wn rfl) rfl rfl (x_move E rfl rfl) ?_
 clear a E;intro a E
 refine st_val E (wn rfl) rfl rfl (x_lenS E H rfl rfl hr6 Try.underlying41) ?_
 clear a E;intro a E
 refine st_val E (wn rfl) rfl rfl (x_bin E rfl rfl rfl rfl) ?_
 clear a E;intro a E
 refine wpList_nil ?_
 refine q_then ?_
 refine wp_if E rfl ?_ ?_
 ·intro hb
  rw [if_t hb] at hm
  clear hb
  refine wp_seq ?_
  refine wp_region_lit ?_
  refine st_val E (wn rfl) rfl rfl (x_assign E rfl rfl) ?_
  clear a E;intro a E
  refine wpList_nil ?_
  refine q_then ?_
  refine wp_ret ?_
  refine q_thenR ?_
  refine out1 E rfl rfl ?_
  obtain rfl := Option.some.inj hm
  exact ⟨rfl, H.reads (fun r hr => hr)⟩
 ·intro hb
  rw [if_f hb] at hm
  clear hb
  refine wp_skip ?_
  refine q_then ?_
  refine wp_seq ?_
  refine wp_seq ?_
  refine wp_region_lit ?_
  refine st_val E (wn rfl) rfl rfl (x_assign E rfl rfl) ?_
  clear a E;intro a E
  refine wpList_nil ?_
  refine q_then ?_
  refine wp_block ?_
  refine wp_loop_g (fun k1 a w => ∃ (x7 : Int) (rs8 : List Rp), Env 27 a [(0, v1), (1, v3), (5, .int .i64 x7)] ∧ Sep w (Fo) rs8 ∧ (∀ r, r ∈ rs → r ∈ rs8) ∧ rSl k_api_Result v1 l2 ∈ rs8 ∧ rSl k_api_Result v3 l4 ∈ rs8 ∧ m_cantonref06_SameList_l1 l2 l4 k1 x7 = some r) (((l2.length : Int) - 0 : Int).toNat + 1) ?_ ?_
  ·exact ⟨0, _, (((E.nil.keep E 5 rfl).keep E 1 rfl).keep E 0 rfl), H, fun r hr => hr, hr5, hr6, hm⟩
  ·clear E H hm
   rintro k1 a w ⟨x7, rs8, E, H, hs9, hr10, hr11, hm⟩
   cases k1 with
   | zero => exact (none_some hm rfl).elim
   | succ k1 =>
    unfold m_cantonref06_SameList_l1 at hm
    refine wp_seq ?_
    refine wp_seq ?_
    refine wp_region_lit ?_
    refine st_val E (wn rfl) rfl rfl (x_move E rfl rfl) ?_
    clear a E;intro a E
    refine st_val E (wn rfl) rfl rfl (x_move E rfl rfl) ?_
    clear a E;intro a E
    refine st_val E (wn rfl) rfl rfl (x_lenS E H rfl rfl hr10 Try.underlying41) ?_
    clear a E;intro a E
    refine st_val E (wn rfl) rfl rfl (x_bin E rfl rfl rfl rfl) ?_
    clear a E;intro a E
    refine wpList_nil ?_
    refine q_then ?_
    refine wp_if E rfl ?_ ?_
    ·intro hb
     rw [if_t hb] at hm
     clear hb
     refine wp_skip ?_
     refine q_then ?_
     refine wp_seq ?_
     refine wp_block ?_
     refine wp_seq ?_
     obtain ⟨u12, H⟩ := H.raw hr10
     obtain ⟨u13, H⟩ := H.raw (.tail _ hr11)
     replace H : Sep w (Fo) (rRow k_api_Result v3 l4 u13 :: rRow k_api_Result v1 l2 u12 :: rs8) := H
     have hI : Still [] [rRow k_api_Result v1 l2 u12, rRow k_api_Result v3 l4 u13] { w with drawn := w.drawn + 1 } := ⟨_, _, H.kept (Kp.drawn _ w _), (subO_nil), (sub_cons (.tail _ (.head _)) (sub_cons (.head _) (sub_nil)))⟩
     refine wp_draw _ [(0, 0), (1, 0), (2, 0), (3, 0), (4, 0), (5, 0), (6, 0), (7, 0), (8, 1), (9, 0)] mixedOk (by kernel_rfl) (fun _ _ _ h => False.elim h.2) hI ?_
     replace H := H.kept (Kp.drawn _ w (w.drawn + 1))
     generalize ({ w with drawn := w.drawn + 1 } : World) = w at H hI ⊢
     replace hI : ∃ W, Still [] [rRow k_api_Result v1 l2 u12, rRow k_api_Result v3 l4 u13] W := ⟨_, hI⟩
     obtain ⟨W0, hI⟩ := hI
     refine fr_val E rfl (wn rfl) rfl rfl (fun w hW => (x_move E rfl rfl)) ?_
     clear a E;intro a E
     refine fr_val E rfl (wn rfl) rfl rfl (fun w hW => (x_move E rfl rfl)) ?_
     clear a E;intro a E
     obtain ⟨x14, hx15, hm⟩ := bnd hm
     obtain ⟨q16, u19, hx17, hx18⟩ := dr_ixW (P := Try.prog) (k := .i64) hI (dr_mem (.head _)) Try.underlying41 sz62 hx15
     refine fr_val E rfl (wn rfl) rfl rfl (fun w hW => x_ixA E rfl rfl rfl (hx17 w)) ?_
     clear a E;intro a E
     obtain ⟨_, hx21⟩ := dr_open hI hx18
     obtain ⟨v23, hx20, -⟩ := k_api_Result_open hx21
     have hx22 := hx18
     rw [hx20] at hx22
     have hx24 := dr_get hx22 (fun _ _ h => k_api_Result_get1 h)
     refine fr_val E rfl (wn rfl) rfl rfl (fun w hW => x_ld E rfl rfl (ir_ldW (cs := [.int .i64 x14.Err, .string x14.Path, .string x14.Data, .int .i64 x14.Version, v23]) (DR.ir hx22) Try.underlying62 rfl sz62 w hW)) ?_
     clear a E;intro a E
     refine fr_val E rfl (wn rfl) rfl rfl (fun w hW => (x_move E rfl rfl)) ?_
     clear a E;intro a E
     refine fr_val E rfl (wn rfl) rfl rfl (fun w hW => (x_move E rfl rfl)) ?_
     clear a E;intro a E
     obtain ⟨x25, hx26, hm⟩ := bnd hm
     obtain ⟨q27, u30, hx28, hx29⟩ := dr_ixW (P := Try.prog) (k := .i64) hI (dr_mem (.tail _ (.head _))) Try.underlying41 sz62 hx26
     refine fr_val E rfl (wn rfl) rfl rfl (fun w hW => x_ixA E rfl rfl rfl (hx28 w)) ?_
     clear a E;intro a E
     obtain ⟨_, hx32⟩ := dr_open hI hx29
     obtain ⟨v34, hx31, -⟩ := k_api_Result_open hx32
     have hx33 := hx29
     rw [hx31] at hx33
     have hx35 := dr_get hx33 (fun _ _ h => k_api_Result_get1 h)
     refine fr_val E rfl (wn rfl) rfl rfl (fun w hW => x_ld E rfl rfl (ir_ldW (cs := [.int .i64 x25.Err, .string x25.Path, .string x25.Data, .int .i64 x25.Version, v34]) (DR.ir hx33) Try.underlying62 rfl sz62 w hW)) ?_
     clear a E;intro a E
     replace H := H.dr (sub_cons (.tail _ (.head _)) (sub_cons (.head _) (sub_nil))) hx24
     replace H := H.dr (sub_cons (.tail _ (.tail _ (.head _))) (sub_cons (.tail _ (.head _)) (sub_nil))) hx35
     refine fr_op rfl ?_
     obtain ⟨u36, hx37, hm⟩ := bnd hm
     refine st_call E (wn rfl) rfl rfl (x_call E rfl rfl (cf89 _)) (c_cantonref06_SameOne x14 v23 x25 v34 H (.tail _ (.head _)) (.head _) hx37) ?_
     clear E H; clear a; clear w; rintro _ w ⟨rfl, H⟩ a E
     refine wpList_nil ?_
     refine q_then ?_
     replace H : Sep w (Fo) (rSl kS v34 x25.Names :: rSl kS v23 x14.Names :: rRow k_api_Result v3 l4 u13 :: rRow k_api_Result v1 l2 u12 :: rs8) := H
     refine ⟨⟨_, _, H, (subO_nil), (sub_cons (.tail _ (.tail _ (.tail _ (.head _)))) (sub_cons (.tail _ (.tail _ (.head _))) (sub_nil)))⟩, ?_⟩
     refine fr_val E rfl (wn rfl) rfl rfl (fun w hW => (x_not E rfl rfl)) ?_
     clear a E;intro a E
     refine fr_nil ?_
     clear hI
     refine q_then ?_
     refine wp_if E rfl ?_ ?_
     ·intro hb
      rw [if_t hb] at hm
      clear hb
      refine wp_seq ?_
      refine wp_region_lit ?_
      refine st_val E (wn rfl) rfl rfl (x_assign E rfl rfl) ?_
      clear a E;intro a E
      refine wpList_nil ?_
      refine q_then ?_
      refine wp_ret ?_
      refine q_blkR ?_
      refine q_thenR ?_
      refine q_thenR ?_
      refine q_blkR ?_
      refine q_thenR ?_
      refine out1 E rfl rfl ?_
      obtain rfl := Option.some.inj hm
      exact ⟨rfl, H.reads (fun r hr => .tail _ (.tail _ (.tail _ (.tail _ (hs9 r hr)))))⟩
     ·intro hb
      rw [if_f hb] at hm
      clear hb
      refine wp_skip ?_
      refine q_blk ?_
      refine q_then ?_
      refine wp_region_lit ?_
      refine st_val E (wn rfl) rfl rfl (x_move E rfl rfl) ?_
      clear a E;intro a E
      refine st_val E (wn rfl) rfl rfl (x_bin E rfl rfl rfl rfl) ?_
      clear a E;intro a E
      refine st_val E (wn rfl) rfl rfl (x_assign E rfl rfl) ?_
      clear a E;intro a E
      refine wpList_nil ?_
      refine q_then ?_
      exact ⟨k1, Nat.lt_succ_self k1, IntKind.i64.wrap (x7 + 1), _, (((E.nil.keep E 5 rfl).keep E 1 rfl).keep E 0 rfl), H, fun r hr => .tail _ (.tail _ (.tail _ (.tail _ (hs9 r hr)))), (.tail _ (.tail _ (.tail _ (.tail _ hr10)))), (.tail _ (.tail _ (.tail _ (.tail _ hr11)))), hm⟩
    ·intro hb
     rw [if_f hb] at hm
     clear hb
     refine wp_exit ?_
     refine q_thenX ?_
     refine q_thenX ?_
     refine q_hit ?_
     refine q_then ?_
     refine wp_seq ?_
     refine wp_region_lit ?_
     refine st_val E (wn rfl) rfl rfl (x_assign E rfl rfl) ?_
     clear a E;intro a E
     refine wpList_nil ?_
     refine q_then ?_
     refine wp_ret ?_
     refine out1 E rfl rfl ?_
     obtain rfl := Option.some.inj hm
     exact ⟨rfl, H.reads (fun r hr => hs9 r hr)⟩
end Go.Cb

set_option linter.unusedVariables false
set_option linter.unusedSimpArgs false
namespace Go.Cb
open Go.Proofs Go.RowKit
def m_cantonref06_Same_l1 (l2 : List S_api_Node) (l4 : List S_api_Node) : Nat → Int → Option Bool
  | 0, _ => none
  | k1 + 1, x7 =>
    if (decide (x7 < (l2.length : Int))) = true then ((idx l2 x7).bind fun x14 => (idx l4 x7).bind fun x20 => if (!((sEq x14.Path x20.Path) && ((sEq x14.Data x20.Data) && ((x14.Version == x20.Version) && ((x14.Turn == x20.Turn) && (x14.Owner == x20.Owner)))))) = true then (some (false)) else (m_cantonref06_Same_l1 l2 l4 k1 (IntKind.i64.wrap (x7 + 1)))) else (some (true))
def m_cantonref06_Same (l2 : List S_api_Node) (l4 : List S_api_Node) : Option Bool :=
  if ((l2.length : Int) != (l4.length : Int)) = true then (some (false)) else (m_cantonref06_Same_l1 l2 l4 (((l2.length : Int) - 0 : Int).toNat + 1) 0)
set_option maxRecDepth 20000 in
set_option maxHeartbeats 1000000 in
theorem c_cantonref06_Same {w : World} {Fo : List Ob} {rs : List Rp} (v1 : Value) (l2 : List S_api_Node) (v3 : Value) (l4 : List S_api_Node) (H : Sep w (Fo) rs) (hr5 : rSl k_api_Node v1 l2 ∈ rs) (hr6 : rSl k_api_Node v3 l4 ∈ rs) {r : Bool} (hm : m_cantonref06_Same l2 l4 = some r) :
    Calls Try.prog 90 [v1, v3].toArray w (Ret fun v w' => .bool r = v ∧ Sep w' (Fo) (rs)) := by
 unfold m_cantonref06_Same at hm
 refine enter Try.func90 rfl Try.ntmps90 rfl fun a E => ?_
 simp only [enum, Nat.reduceAdd] at E
 refine wp_seq ?_
 refine wp_region_lit ?_
 refine st_val E (wn rfl) rfl rfl (x_assign E rfl rfl) ?_
 clear a E;intro a E
 refine wpList_nil ?_
 refine q_then ?_
 refine wp_seq ?_
 refine wp_seq ?_
 refine wp_region_lit ?_
 refine st_val E (wn rfl) rfl rfl (x_move E rfl rfl) ?_
 clear a E;intro a E
 refine st_val E (wn rfl) rfl rfl (x_lenS E H rfl rfl hr5 Try.underlying42) ?_
 clear a E;intro a E
 refine st_val E (wn rfl) rfl rfl (x_move E rfl rfl) ?_
 clear a E;intro a E
 refine st_val E (wn rfl) rfl rfl (x_lenS E H rfl rfl hr6 Try.underlying42) ?_
 clear a E;intro a E
 refine st_val E (wn rfl) rfl rfl (x_bin E rfl rfl rfl rfl) ?_
 clear a E;intro a E
 refine wpList_nil ?_
 refine q_then ?_
 refine wp_if E rfl ?_ ?_
 ·intro hb
  rw [if_t hb] at hm
  clear hb
  refine wp_seq ?_
  refine wp_region_lit ?_
  refine st_val E (wn rfl) rfl rfl (x_assign E rfl rfl) ?_
  clear a E;intro a E
  refine wpList_nil ?_
  refine q_then ?_
  refine wp_ret ?_
  refine q_thenR ?_
  refine out1 E rfl rfl ?_
  obtain rfl := Option.some.inj hm
  exact ⟨rfl, H.reads (fun r hr => hr)⟩
 ·intro hb
  rw [if_f hb] at hm
  clear hb
  refine wp_skip ?_
  refine q_then ?_
  refine wp_seq ?_
  refine wp_seq ?_
  refine wp_region_lit ?_
  refine st_val E (wn rfl) rfl rfl (x_assign E rfl rfl) ?_
  clear a E;intro a E
  refine wpList_nil ?_
  refine q_then ?_
  refine wp_block ?_
  refine wp_loop_g (fun k1 a w => ∃ (x7 : Int) (rs8 : List Rp), Env 26 a [(0, v1), (1, v3), (5, .int .i64 x7)] ∧ Sep w (Fo) rs8 ∧ (∀ r, r ∈ rs → r ∈ rs8) ∧ rSl k_api_Node v1 l2 ∈ rs8 ∧ rSl k_api_Node v3 l4 ∈ rs8 ∧ m_cantonref06_Same_l1 l2 l4 k1 x7 = some r) (((l2.length : Int) - 0 : Int).toNat + 1) ?_ ?_
  ·exact ⟨0, _, (((E.nil.keep E 5 rfl).keep E 1 rfl).keep E 0 rfl), H, fun r hr => hr, hr5, hr6, hm⟩
  ·clear E H hm
   rintro k1 a w ⟨x7, rs8, E, H, hs9, hr10, hr11, hm⟩
   cases k1 with
   | zero => exact (none_some hm rfl).elim
   | succ k1 =>
    unfold m_cantonref06_Same_l1 at hm
    refine wp_seq ?_
    refine wp_seq ?_
    refine wp_region_lit ?_
    refine st_val E (wn rfl) rfl rfl (x_move E rfl rfl) ?_
    clear a E;intro a E
    refine st_val E (wn rfl) rfl rfl (x_move E rfl rfl) ?_
    clear a E;intro a E
    refine st_val E (wn rfl) rfl rfl (x_lenS E H rfl rfl hr10 Try.underlying42) ?_
    clear a E;intro a E
    refine st_val E (wn rfl) rfl rfl (x_bin E rfl rfl rfl rfl) ?_
    clear a E;intro a E
    refine wpList_nil ?_
    refine q_then ?_
    refine wp_if E rfl ?_ ?_
    ·intro hb
     rw [if_t hb] at hm
     clear hb
     refine wp_skip ?_
     refine q_then ?_
     refine wp_seq ?_
     refine wp_block ?_
     refine wp_seq ?_
     obtain ⟨u12, H⟩ := H.raw hr10
     obtain ⟨u13, H⟩ := H.raw (.tail _ hr11)
     replace H : Sep w (Fo) (rRow k_api_Node v3 l4 u13 :: rRow k_api_Node v1 l2 u12 :: rs8) := H
     have hI : Still [] [rRow k_api_Node v1 l2 u12, rRow k_api_Node v3 l4 u13] { w with drawn := w.drawn + 1 } := ⟨_, _, H.kept (Kp.drawn _ w _), (subO_nil), (sub_cons (.tail _ (.head _)) (sub_cons (.head _) (sub_nil)))⟩
     refine wp_draw _ [(0, 0), (1, 0), (2, 0), (3, 0), (4, 0), (5, 0), (6, 0), (7, 0), (8, 0)] mixedOk (by kernel_rfl) (fun _ _ _ h => False.elim h.2) hI ?_
     replace H := H.kept (Kp.drawn _ w (w.drawn + 1))
     generalize ({ w with drawn := w.drawn + 1 } : World) = w at H hI ⊢
     replace hI : ∃ W, Still [] [rRow k_api_Node v1 l2 u12, rRow k_api_Node v3 l4 u13] W := ⟨_, hI⟩
     obtain ⟨W0, hI⟩ := hI
     refine fr_val E rfl (wn rfl) rfl rfl (fun w hW => (x_move E rfl rfl)) ?_
     clear a E;intro a E
     refine fr_val E rfl (wn rfl) rfl rfl (fun w hW => (x_move E rfl rfl)) ?_
     clear a E;intro a E
     obtain ⟨x14, hx15, hm⟩ := bnd hm
     obtain ⟨q16, u19, hx17, hx18⟩ := dr_ixW (P := Try.prog) (k := .i64) hI (dr_mem (.head _)) Try.underlying42 sz64 hx15
     refine fr_val E rfl (wn rfl) rfl rfl (fun w hW => x_ixA E rfl rfl rfl (hx17 w)) ?_
     clear a E;intro a E
     refine fr_val E rfl (wn rfl) rfl rfl (fun w hW => x_ld E rfl rfl (ir_ldN (cs := [.string x14.Path, .string x14.Data, .int .i64 x14.Version, .int .i64 x14.Turn, .int .i64 x14.Owner]) (DR.ir (dr_at hx18)) (fun _ _ _ h => k_api_Node_open h) Try.underlying64 rfl sz64 w hW)) ?_
     clear a E;intro a E
     refine fr_val E rfl (wn rfl) rfl rfl (fun w hW => (x_move E rfl rfl)) ?_
     clear a E;intro a E
     refine fr_val E rfl (wn rfl) rfl rfl (fun w hW => (x_move E rfl rfl)) ?_
     clear a E;intro a E
     obtain ⟨x20, hx21, hm⟩ := bnd hm
     obtain ⟨q22, u25, hx23, hx24⟩ := dr_ixW (P := Try.prog) (k := .i64) hI (dr_mem (.tail _ (.head _))) Try.underlying42 sz64 hx21
     refine fr_val E rfl (wn rfl) rfl rfl (fun w hW => x_ixA E rfl rfl rfl (hx23 w)) ?_
     clear a E;intro a E
     refine fr_val E rfl (wn rfl) rfl rfl (fun w hW => x_ld E rfl rfl (ir_ldN (cs := [.string x20.Path, .string x20.Data, .int .i64 x20.Version, .int .i64 x20.Turn, .int .i64 x20.Owner]) (DR.ir (dr_at hx24)) (fun _ _ _ h => k_api_Node_open h) Try.underlying64 rfl sz64 w hW)) ?_
     clear a E;intro a E
     refine fr_val E rfl (wn rfl) rfl rfl (fun w hW => (x_bin2 E rfl rfl rfl (v := .bool (!((sEq x14.Path x20.Path) && ((sEq x14.Data x20.Data) && ((x14.Version == x20.Version) && ((x14.Turn == x20.Turn) && (x14.Owner == x20.Owner))))))) (ne_agg egt64 (eq_struct Try.underlying64 sih64 (eqf_cons (by rfl) (by kernel_rfl) (by kernel_rfl) (eq_string Try.underlying9) (eqf_cons (by rfl) (by kernel_rfl) (by kernel_rfl) (eq_string Try.underlying9) (eqf_cons (by rfl) (by kernel_rfl) (by kernel_rfl) (eq_int Try.underlying2) (eqf_cons (by rfl) (by kernel_rfl) (by kernel_rfl) (eq_int Try.underlying2) (eqf_last (by rfl) (by kernel_rfl) (by kernel_rfl) (eq_int Try.underlying2)))))))))) ?_
     clear a E;intro a E
     refine fr_nil ?_
     clear hI
     refine q_then ?_
     refine wp_if E rfl ?_ ?_
     ·intro hb
      rw [if_t hb] at hm
      clear hb
      refine wp_seq ?_
      refine wp_region_lit ?_
      refine st_val E (wn rfl) rfl rfl (x_assign E rfl rfl) ?_
      clear a E;intro a E
      refine wpList_nil ?_
      refine q_then ?_
      refine wp_ret ?_
      refine q_blkR ?_
      refine q_thenR ?_
      refine q_thenR ?_
      refine q_blkR ?_
      refine q_thenR ?_
      refine out1 E rfl rfl ?_
      obtain rfl := Option.some.inj hm
      exact ⟨rfl, H.reads (fun r hr => .tail _ (.tail _ (hs9 r hr)))⟩
     ·intro hb
      rw [if_f hb] at hm
      clear hb
      refine wp_skip ?_
      refine q_blk ?_
      refine q_then ?_
      refine wp_region_lit ?_
      refine st_val E (wn rfl) rfl rfl (x_move E rfl rfl) ?_
      clear a E;intro a E
      refine st_val E (wn rfl) rfl rfl (x_bin E rfl rfl rfl rfl) ?_
      clear a E;intro a E
      refine st_val E (wn rfl) rfl rfl (x_assign E rfl rfl) ?_
      clear a E;intro a E
      refine wpList_nil ?_
      refine q_then ?_
      exact ⟨k1, Nat.lt_succ_self k1, IntKind.i64.wrap (x7 + 1), _, (((E.nil.keep E 5 rfl).keep E 1 rfl).keep E 0 rfl), H, fun r hr => .tail _ (.tail _ (hs9 r hr)), (.tail _ (.tail _ hr10)), (.tail _ (.tail _ hr11)), hm⟩
    ·intro hb
     rw [if_f hb] at hm
     clear hb
     refine wp_exit ?_
     refine q_thenX ?_
     refine q_thenX ?_
     refine q_hit ?_
     refine q_then ?_
     refine wp_seq ?_
     refine wp_region_lit ?_
     refine st_val E (wn rfl) rfl rfl (x_assign E rfl rfl) ?_
     clear a E;intro a E
     refine wpList_nil ?_
     refine q_then ?_
     refine wp_ret ?_
     refine out1 E rfl rfl ?_
     obtain rfl := Option.some.inj hm
     exact ⟨rfl, H.reads (fun r hr => hs9 r hr)⟩
end Go.Cb

set_option linter.unusedVariables false
set_option linter.unusedSimpArgs false
namespace Go.Cb
open Go.Proofs Go.RowKit
def m_cantonref07_Same_l1 (x1 : S_api_Store) (x4 : S_api_Store) : Nat → Int → Option Bool
  | 0, _ => none
  | k1 + 1, x28 =>
    if (decide (x28 < (x1.Turns.length : Int))) = true then ((idx x1.Turns x28).bind fun x37 => (idx x4.Turns x28).bind fun x43 => if (!((sEq x37.Dir x43.Dir) && (x37.Next == x43.Next))) = true then (some (false)) else (m_cantonref07_Same_l1 x1 x4 k1 (IntKind.i64.wrap (x28 + 1)))) else (some (true))
def m_cantonref07_Same_j1 (x1 : S_api_Store) (x4 : S_api_Store) (b21 : Bool) : Option Bool :=
  if b21 = true then (some (false)) else (m_cantonref07_Same_l1 x1 x4 (((x1.Turns.length : Int) - 0 : Int).toNat + 1) 0)
def m_cantonref07_Same (x1 : S_api_Store) (x4 : S_api_Store) : Option Bool :=
  (m_cantonref06_Same x1.Nodes x4.Nodes).bind fun u49 => if (!u49) = true then (m_cantonref07_Same_j1 x1 x4 true) else (m_cantonref07_Same_j1 x1 x4 ((x1.Turns.length : Int) != (x4.Turns.length : Int)))
set_option maxRecDepth 20000 in
set_option maxHeartbeats 1000000 in
theorem c_cantonref07_Same {w : World} {Fo : List Ob} {rs : List Rp} (x1 : S_api_Store) (v2 : Value) (v3 : Value) (x4 : S_api_Store) (v5 : Value) (v6 : Value) (H : Sep w (Fo) rs) (hr7 : rSl k_api_Node v2 x1.Nodes ∈ rs) (hr8 : rSl k_api_Turn v3 x1.Turns ∈ rs) (hr9 : rSl k_api_Node v5 x4.Nodes ∈ rs) (hr10 : rSl k_api_Turn v6 x4.Turns ∈ rs) {r : Bool} (hm : m_cantonref07_Same x1 x4 = some r) :
    Calls Try.prog 80 [.agg #[v2, v3], .agg #[v5, v6]].toArray w (Ret fun v w' => .bool r = v ∧ Sep w' (Fo) (rs)) := by
 unfold m_cantonref07_Same at hm
 refine enter Try.func80 rfl Try.ntmps80 rfl fun a E => ?_
 simp only [enum, Nat.reduceAdd] at E
 refine wp_seq ?_
 refine wp_region_lit ?_
 obtain ⟨q12, x13, rfl⟩ := H.slform hr7
 obtain ⟨q14, x15, rfl⟩ := H.slform hr8
 refine st_box E H (wn rfl) rfl rfl (cs := [(.slice q12 x1.Nodes.length x13), (.slice q14 x1.Turns.length x15)]) rfl rfl rfl ?_
 clear E H; clear a; clear w; intro p11 w a H E
 obtain ⟨q17, x18, rfl⟩ := H.slform hr9
 obtain ⟨q19, x20, rfl⟩ := H.slform hr10
 refine st_box E H (wn rfl) rfl rfl (cs := [(.slice q17 x4.Nodes.length x18), (.slice q19 x4.Turns.length x20)]) rfl rfl rfl ?_
 clear E H; clear a; clear w; intro p16 w a H E
 refine st_val E (wn rfl) rfl rfl (x_assign E rfl rfl) ?_
 clear a E;intro a E
 refine wpList_nil ?_
 refine q_then ?_
 refine wp_seq ?_
 refine wp_seq_cut (fun a w => ∃ (b21 : Bool) (rs22 : List Rp), Env 39 a [(2, .pointer (some ⟨p11, 0, none⟩)), (3, .pointer (some ⟨p16, 0, none⟩)), (20, .bool b21)] ∧ Sep w (Blk p11 45 [(.slice q12 x1.Nodes.length x13), (.slice q14 x1.Turns.length x15)] :: Blk p16 45 [(.slice q17 x4.Nodes.length x18), (.slice q19 x4.Turns.length x20)] :: Fo) rs22 ∧ (∀ r, r ∈ rs → r ∈ rs22) ∧ rSl k_api_Node (.slice q12 x1.Nodes.length x13) x1.Nodes ∈ rs22 ∧ rSl k_api_Turn (.slice q14 x1.Turns.length x15) x1.Turns ∈ rs22 ∧ rSl k_api_Node (.slice q17 x4.Nodes.length x18) x4.Nodes ∈ rs22 ∧ rSl k_api_Turn (.slice q19 x4.Turns.length x20) x4.Turns ∈ rs22 ∧ m_cantonref07_Same_j1 x1 x4 b21 = some r) ?_ ?_
 ·refine wp_region_lit ?_
  refine st_val E (wn rfl) rfl rfl (x_fa E rfl rfl (v := .pointer (some ⟨p11, 0, none⟩)) (fa45_0 _ _)) ?_
  clear a E;intro a E
  refine st_val E (wn rfl) rfl rfl (x_ldB (i := 1) E H rfl rfl rfl rfl Try.underlying42 rfl) ?_
  clear a E;intro a E
  refine st_val E (wn rfl) rfl rfl (x_fa E rfl rfl (v := .pointer (some ⟨p16, 0, none⟩)) (fa45_0 _ _)) ?_
  clear a E;intro a E
  refine st_val E (wn rfl) rfl rfl (x_ldB (i := 0) E H rfl rfl rfl rfl Try.underlying42 rfl) ?_
  clear a E;intro a E
  obtain ⟨u49, hx50, hm⟩ := bnd hm
  refine st_call E (wn rfl) rfl rfl (x_call E rfl rfl (cf90 _)) (c_cantonref06_Same (.slice q12 x1.Nodes.length x13) x1.Nodes (.slice q17 x4.Nodes.length x18) x4.Nodes H hr7 hr9 hx50) ?_
  clear E H; clear a; clear w; rintro _ w ⟨rfl, H⟩ a E
  refine st_val E (wn rfl) rfl rfl (x_not E rfl rfl) ?_
  clear a E;intro a E
  refine st_val E (wn rfl) rfl rfl (x_move E rfl rfl) ?_
  clear a E;intro a E
  rcases Bool.eq_false_or_eq_true (!u49) with hb51 | hb51
  ·rw [if_t hb51] at hm
   refine st_no E (wf' E rfl rfl rfl rfl hb51 rfl) rfl rfl ?_
   clear a E;intro a E
   refine st_no E (wf' E rfl rfl rfl rfl hb51 rfl) rfl rfl ?_
   clear a E;intro a E
   refine st_no E (wf' E rfl rfl rfl rfl hb51 rfl) rfl rfl ?_
   clear a E;intro a E
   refine st_no E (wf' E rfl rfl rfl rfl hb51 rfl) rfl rfl ?_
   clear a E;intro a E
   refine st_no E (wf' E rfl rfl rfl rfl hb51 rfl) rfl rfl ?_
   clear a E;intro a E
   refine st_no E (wf' E rfl rfl rfl rfl hb51 rfl) rfl rfl ?_
   clear a E;intro a E
   refine st_no E (wf' E rfl rfl rfl rfl hb51 rfl) rfl rfl ?_
   clear a E;intro a E
   refine st_val E (wn rfl) rfl rfl (x_pickT E rfl rfl hb51 rfl) ?_
   clear a E;intro a E
   refine wpList_nil ?_
   refine q_then ?_
   replace H := H.front 0 rfl
   replace H := H.front 1 rfl
   exact ⟨true, _, (((E.nil.keep E 20 rfl).keep E 3 rfl).keep E 2 rfl), H, fun r hr => hr, hr7, hr8, hr9, hr10, hm⟩
  ·rw [if_f hb51] at hm
   refine st_val E (ws' E rfl rfl rfl rfl hb51) rfl rfl (x_fa E rfl rfl (v := .pointer (some ⟨p11, 1, none⟩)) (fa45_1 _ _)) ?_
   clear a E;intro a E
   refine st_val E (ws' E rfl rfl rfl rfl hb51) rfl rfl (x_ldB (i := 1) E H rfl rfl rfl rfl Try.underlying43 rfl) ?_
   clear a E;intro a E
   refine st_val E (ws' E rfl rfl rfl rfl hb51) rfl rfl (x_lenS E H rfl rfl hr8 Try.underlying43) ?_
   clear a E;intro a E
   refine st_val E (ws' E rfl rfl rfl rfl hb51) rfl rfl (x_fa E rfl rfl (v := .pointer (some ⟨p16, 1, none⟩)) (fa45_1 _ _)) ?_
   clear a E;intro a E
   refine st_val E (ws' E rfl rfl rfl rfl hb51) rfl rfl (x_ldB (i := 0) E H rfl rfl rfl rfl Try.underlying43 rfl) ?_
   clear a E;intro a E
   refine st_val E (ws' E rfl rfl rfl rfl hb51) rfl rfl (x_lenS E H rfl rfl hr10 Try.underlying43) ?_
   clear a E;intro a E
   refine st_val E (ws' E rfl rfl rfl rfl hb51) rfl rfl (x_bin E rfl rfl rfl rfl) ?_
   clear a E;intro a E
   refine st_val E (wn rfl) rfl rfl (x_pickF E rfl rfl hb51 rfl) ?_
   clear a E;intro a E
   refine wpList_nil ?_
   refine q_then ?_
   replace H := H.front 0 rfl
   replace H := H.front 1 rfl
   exact ⟨(x1.Turns.length : Int) != (x4.Turns.length : Int), _, (((E.nil.keep E 20 rfl).keep E 3 rfl).keep E 2 rfl), H, fun r hr => hr, hr7, hr8, hr9, hr10, hm⟩
 ·clear E H hm
  rintro a w ⟨b21, rs22, E, H, hs23, hr24, hr25, hr26, hr27, hm⟩
  unfold m_cantonref07_Same_j1 at hm
  refine wp_if E rfl ?_ ?_
  ·intro hb
   rw [if_t hb] at hm
   clear hb
   refine wp_seq ?_
   refine wp_region_lit ?_
   refine st_val E (wn rfl) rfl rfl (x_assign E rfl rfl) ?_
   clear a E;intro a E
   refine wpList_nil ?_
   refine q_then ?_
   refine wp_ret ?_
   refine q_thenR ?_
   refine out1 E rfl rfl ?_
   replace H := H.drop 0
   replace H := H.drop 0
   obtain rfl := Option.some.inj hm
   exact ⟨rfl, H.reads (fun r hr => hs23 r hr)⟩
  ·intro hb
   rw [if_f hb] at hm
   clear hb
   refine wp_skip ?_
   refine q_then ?_
   refine wp_seq ?_
   refine wp_seq ?_
   refine wp_region_lit ?_
   refine st_val E (wn rfl) rfl rfl (x_assign E rfl rfl) ?_
   clear a E;intro a E
   refine wpList_nil ?_
   refine q_then ?_
   refine wp_block ?_
   refine wp_loop_g (fun k1 a w => ∃ (x28 : Int) (rs29 : List Rp), Env 39 a [(2, .pointer (some ⟨p11, 0, none⟩)), (3, .pointer (some ⟨p16, 0, none⟩)), (5, .int .i64 x28)] ∧ Sep w (Blk p11 45 [(.slice q12 x1.Nodes.length x13), (.slice q14 x1.Turns.length x15)] :: Blk p16 45 [(.slice q17 x4.Nodes.length x18), (.slice q19 x4.Turns.length x20)] :: Fo) rs29 ∧ (∀ r, r ∈ rs → r ∈ rs29) ∧ rSl k_api_Node (.slice q12 x1.Nodes.length x13) x1.Nodes ∈ rs29 ∧ rSl k_api_Turn (.slice q14 x1.Turns.length x15) x1.Turns ∈ rs29 ∧ rSl k_api_Node (.slice q17 x4.Nodes.length x18) x4.Nodes ∈ rs29 ∧ rSl k_api_Turn (.slice q19 x4.Turns.length x20) x4.Turns ∈ rs29 ∧ m_cantonref07_Same_l1 x1 x4 k1 x28 = some r) (((x1.Turns.length : Int) - 0 : Int).toNat + 1) ?_ ?_
   ·exact ⟨0, _, (((E.nil.keep E 5 rfl).keep E 3 rfl).keep E 2 rfl), H, hs23, hr24, hr25, hr26, hr27, hm⟩
   ·clear E H hm
    rintro k1 a w ⟨x28, rs29, E, H, hs30, hr31, hr32, hr33, hr34, hm⟩
    cases k1 with
    | zero => exact (none_some hm rfl).elim
    | succ k1 =>
     unfold m_cantonref07_Same_l1 at hm
     refine wp_seq ?_
     refine wp_seq ?_
     refine wp_region_lit ?_
     refine st_val E (wn rfl) rfl rfl (x_move E rfl rfl) ?_
     clear a E;intro a E
     refine st_val E (wn rfl) rfl rfl (x_fa E rfl rfl (v := .pointer (some ⟨p11, 1, none⟩)) (fa45_1 _ _)) ?_
     clear a E;intro a E
     refine st_val E (wn rfl) rfl rfl (x_ldB (i := 0) E H rfl rfl rfl rfl Try.underlying43 rfl) ?_
     clear a E;intro a E
     refine st_val E (wn rfl) rfl rfl (x_lenS E H rfl rfl hr32 Try.underlying43) ?_
     clear a E;intro a E
     refine st_val E (wn rfl) rfl rfl (x_bin E rfl rfl rfl rfl) ?_
     clear a E;intro a E
     refine wpList_nil ?_
     refine q_then ?_
     refine wp_if E rfl ?_ ?_
     ·intro hb
      rw [if_t hb] at hm
      clear hb
      refine wp_skip ?_
      refine q_then ?_
      refine wp_seq ?_
      refine wp_block ?_
      refine wp_seq ?_
      obtain ⟨u35, H⟩ := H.raw hr32
      obtain ⟨u36, H⟩ := H.raw (.tail _ hr34)
      replace H : Sep w (Blk p11 45 [(.slice q12 x1.Nodes.length x13), (.slice q14 x1.Turns.length x15)] :: Blk p16 45 [(.slice q17 x4.Nodes.length x18), (.slice q19 x4.Turns.length x20)] :: Fo) (rRow k_api_Turn (.slice q19 x4.Turns.length x20) x4.Turns u36 :: rRow k_api_Turn (.slice q14 x1.Turns.length x15) x1.Turns u35 :: rs29) := H
      have hI : Still [Blk p11 45 [(.slice q12 x1.Nodes.length x13), (.slice q14 x1.Turns.length x15)], Blk p16 45 [(.slice q17 x4.Nodes.length x18), (.slice q19 x4.Turns.length x20)]] [rRow k_api_Turn (.slice q14 x1.Turns.length x15) x1.Turns u35, rRow k_api_Turn (.slice q19 x4.Turns.length x20) x4.Turns u36] { w with drawn := w.drawn + 1 } := ⟨_, _, H.kept (Kp.drawn _ w _), (subO_cons (.head _) (subO_cons (.tail _ (.head _)) (subO_nil))), (sub_cons (.tail _ (.head _)) (sub_cons (.head _) (sub_nil)))⟩
      refine wp_draw _ [(0, 0), (1, 0), (2, 0), (3, 0), (4, 0), (5, 0), (6, 0), (7, 0), (8, 0), (9, 0), (10, 0)] mixedOk (by kernel_rfl) (fun _ _ _ h => False.elim h.2) hI ?_
      replace H := H.kept (Kp.drawn _ w (w.drawn + 1))
      generalize ({ w with drawn := w.drawn + 1 } : World) = w at H hI ⊢
      replace hI : ∃ W, Still [Blk p11 45 [(.slice q12 x1.Nodes.length x13), (.slice q14 x1.Turns.length x15)], Blk p16 45 [(.slice q17 x4.Nodes.length x18), (.slice q19 x4.Turns.length x20)]] [rRow k_api_Turn (.slice q14 x1.Turns.length x15) x1.Turns u35, rRow k_api_Turn (.slice q19 x4.Turns.length x20) x4.Turns u36] W := ⟨_, hI⟩
      obtain ⟨W0, hI⟩ := hI
      refine fr_val E rfl (wn rfl) rfl rfl (fun w hW => x_fa E rfl rfl (v := .pointer (some ⟨p11, 1, none⟩)) (fa45_1 _ _)) ?_
      clear a E;intro a E
      refine fr_val E rfl (wn rfl) rfl rfl (fun w hW => x_ld E rfl rfl (ib_ld (.head _) rfl Try.underlying43 rfl w hW)) ?_
      clear a E;intro a E
      refine fr_val E rfl (wn rfl) rfl rfl (fun w hW => (x_move E rfl rfl)) ?_
      clear a E;intro a E
      obtain ⟨x37, hx38, hm⟩ := bnd hm
      obtain ⟨q39, u42, hx40, hx41⟩ := dr_ixW (P := Try.prog) (k := .i64) hI (dr_mem (.head _)) Try.underlying43 sz66 hx38
      refine fr_val E rfl (wn rfl) rfl rfl (fun w hW => x_ixA E rfl rfl rfl (hx40 w)) ?_
      clear a E;intro a E
      refine fr_val E rfl (wn rfl) rfl rfl (fun w hW => x_ld E rfl rfl (ir_ldN (cs := [.string x37.Dir, .int .i64 x37.Next]) (DR.ir (dr_at hx41)) (fun _ _ _ h => k_api_Turn_open h) Try.underlying66 rfl sz66 w hW)) ?_
      clear a E;intro a E
      refine fr_val E rfl (wn rfl) rfl rfl (fun w hW => x_fa E rfl rfl (v := .pointer (some ⟨p16, 1, none⟩)) (fa45_1 _ _)) ?_
      clear a E;intro a E
      refine fr_val E rfl (wn rfl) rfl rfl (fun w hW => x_ld E rfl rfl (ib_ld (.tail _ (.head _)) rfl Try.underlying43 rfl w hW)) ?_
      clear a E;intro a E
      refine fr_val E rfl (wn rfl) rfl rfl (fun w hW => (x_move E rfl rfl)) ?_
      clear a E;intro a E
      obtain ⟨x43, hx44, hm⟩ := bnd hm
      obtain ⟨q45, u48, hx46, hx47⟩ := dr_ixW (P := Try.prog) (k := .i64) hI (dr_mem (.tail _ (.head _))) Try.underlying43 sz66 hx44
      refine fr_val E rfl (wn rfl) rfl rfl (fun w hW => x_ixA E rfl rfl rfl (hx46 w)) ?_
      clear a E;intro a E
      refine fr_val E rfl (wn rfl) rfl rfl (fun w hW => x_ld E rfl rfl (ir_ldN (cs := [.string x43.Dir, .int .i64 x43.Next]) (DR.ir (dr_at hx47)) (fun _ _ _ h => k_api_Turn_open h) Try.underlying66 rfl sz66 w hW)) ?_
      clear a E;intro a E
      refine fr_val E rfl (wn rfl) rfl rfl (fun w hW => (x_bin2 E rfl rfl rfl (v := .bool (!((sEq x37.Dir x43.Dir) && (x37.Next == x43.Next)))) (ne_agg egt66 (eq_struct Try.underlying66 sih66 (eqf_cons (by rfl) (by kernel_rfl) (by kernel_rfl) (eq_string Try.underlying9) (eqf_last (by rfl) (by kernel_rfl) (by kernel_rfl) (eq_int Try.underlying2))))))) ?_
      clear a E;intro a E
      refine fr_nil ?_
      clear hI
      refine q_then ?_
      refine wp_if E rfl ?_ ?_
      ·intro hb
       rw [if_t hb] at hm
       clear hb
       refine wp_seq ?_
       refine wp_region_lit ?_
       refine st_val E (wn rfl) rfl rfl (x_assign E rfl rfl) ?_
       clear a E;intro a E
       refine wpList_nil ?_
       refine q_then ?_
       refine wp_ret ?_
       refine q_blkR ?_
       refine q_thenR ?_
       refine q_thenR ?_
       refine q_blkR ?_
       refine q_thenR ?_
       refine out1 E rfl rfl ?_
       replace H := H.drop 0
       replace H := H.drop 0
       obtain rfl := Option.some.inj hm
       exact ⟨rfl, H.reads (fun r hr => .tail _ (.tail _ (hs30 r hr)))⟩
      ·intro hb
       rw [if_f hb] at hm
       clear hb
       refine wp_skip ?_
       refine q_blk ?_
       refine q_then ?_
       refine wp_region_lit ?_
       refine st_val E (wn rfl) rfl rfl (x_move E rfl rfl) ?_
       clear a E;intro a E
       refine st_val E (wn rfl) rfl rfl (x_bin E rfl rfl rfl rfl) ?_
       clear a E;intro a E
       refine st_val E (wn rfl) rfl rfl (x_assign E rfl rfl) ?_
       clear a E;intro a E
       refine wpList_nil ?_
       refine q_then ?_
       exact ⟨k1, Nat.lt_succ_self k1, IntKind.i64.wrap (x28 + 1), _, (((E.nil.keep E 5 rfl).keep E 3 rfl).keep E 2 rfl), H, fun r hr => .tail _ (.tail _ (hs30 r hr)), (.tail _ (.tail _ hr31)), (.tail _ (.tail _ hr32)), (.tail _ (.tail _ hr33)), (.tail _ (.tail _ hr34)), hm⟩
     ·intro hb
      rw [if_f hb] at hm
      clear hb
      refine wp_exit ?_
      refine q_thenX ?_
      refine q_thenX ?_
      refine q_hit ?_
      refine q_then ?_
      refine wp_seq ?_
      refine wp_region_lit ?_
      refine st_val E (wn rfl) rfl rfl (x_assign E rfl rfl) ?_
      clear a E;intro a E
      refine wpList_nil ?_
      refine q_then ?_
      refine wp_ret ?_
      refine out1 E rfl rfl ?_
      replace H := H.drop 0
      replace H := H.drop 0
      obtain rfl := Option.some.inj hm
      exact ⟨rfl, H.reads (fun r hr => hs30 r hr)⟩
end Go.Cb

set_option linter.unusedVariables false
set_option linter.unusedSimpArgs false
namespace Go.Cb
open Go.Proofs Go.RowKit
def m_cantonref09_SameEvents_l1 (l2 : List S_api_Event) (l4 : List S_api_Event) : Nat → Int → Option Bool
  | 0, _ => none
  | k1 + 1, x7 =>
    if (decide (x7 < (l2.length : Int))) = true then ((idx l2 x7).bind fun x14 => (idx l4 x7).bind fun x20 => if (!((x14.Num == x20.Num) && ((x14.Kind == x20.Kind) && ((sEq x14.Path x20.Path) && (x14.Watch == x20.Watch))))) = true then (some (false)) else (m_cantonref09_SameEvents_l1 l2 l4 k1 (IntKind.i64.wrap (x7 + 1)))) else (some (true))
def m_cantonref09_SameEvents (l2 : List S_api_Event) (l4 : List S_api_Event) : Option Bool :=
  if ((l2.length : Int) != (l4.length : Int)) = true then (some (false)) else (m_cantonref09_SameEvents_l1 l2 l4 (((l2.length : Int) - 0 : Int).toNat + 1) 0)
set_option maxRecDepth 20000 in
set_option maxHeartbeats 1000000 in
theorem c_cantonref09_SameEvents {w : World} {Fo : List Ob} {rs : List Rp} (v1 : Value) (l2 : List S_api_Event) (v3 : Value) (l4 : List S_api_Event) (H : Sep w (Fo) rs) (hr5 : rSl k_api_Event v1 l2 ∈ rs) (hr6 : rSl k_api_Event v3 l4 ∈ rs) {r : Bool} (hm : m_cantonref09_SameEvents l2 l4 = some r) :
    Calls Try.prog 81 [v1, v3].toArray w (Ret fun v w' => .bool r = v ∧ Sep w' (Fo) (rs)) := by
 unfold m_cantonref09_SameEvents at hm
 refine enter Try.func81 rfl Try.ntmps81 rfl fun a E => ?_
 simp only [enum, Nat.reduceAdd] at E
 refine wp_seq ?_
 refine wp_region_lit ?_
 refine st_val E (wn rfl) rfl rfl (x_assign E rfl rfl) ?_
 clear a E;intro a E
 refine wpList_nil ?_
 refine q_then ?_
 refine wp_seq ?_
 refine wp_seq ?_
 refine wp_region_lit ?_
 refine st_val E (wn rfl) rfl rfl (x_move E rfl rfl) ?_
 clear a E;intro a E
 refine st_val E (wn rfl) rfl rfl (x_lenS E H rfl rfl hr5 Try.underlying46) ?_
 clear a E;intro a E
 refine st_val E (wn rfl) rfl rfl (x_move E rfl rfl) ?_
 clear a E;intro a E
 refine st_val E (wn rfl) rfl rfl (x_lenS E H rfl rfl hr6 Try.underlying46) ?_
 clear a E;intro a E
 refine st_val E (wn rfl) rfl rfl (x_bin E rfl rfl rfl rfl) ?_
 clear a E;intro a E
 refine wpList_nil ?_
 refine q_then ?_
 refine wp_if E rfl ?_ ?_
 ·intro hb
  rw [if_t hb] at hm
  clear hb
  refine wp_seq ?_
  refine wp_region_lit ?_
  refine st_val E (wn rfl) rfl rfl (x_assign E rfl rfl) ?_
  clear a E;intro a E
  refine wpList_nil ?_
  refine q_then ?_
  refine wp_ret ?_
  refine q_thenR ?_
  refine out1 E rfl rfl ?_
  obtain rfl := Option.some.inj hm
  exact ⟨rfl, H.reads (fun r hr => hr)⟩
 ·intro hb
  rw [if_f hb] at hm
  clear hb
  refine wp_skip ?_
  refine q_then ?_
  refine wp_seq ?_
  refine wp_seq ?_
  refine wp_region_lit ?_
  refine st_val E (wn rfl) rfl rfl (x_assign E rfl rfl) ?_
  clear a E;intro a E
  refine wpList_nil ?_
  refine q_then ?_
  refine wp_block ?_
  refine wp_loop_g (fun k1 a w => ∃ (x7 : Int) (rs8 : List Rp), Env 26 a [(0, v1), (1, v3), (5, .int .i64 x7)] ∧ Sep w (Fo) rs8 ∧ (∀ r, r ∈ rs → r ∈ rs8) ∧ rSl k_api_Event v1 l2 ∈ rs8 ∧ rSl k_api_Event v3 l4 ∈ rs8 ∧ m_cantonref09_SameEvents_l1 l2 l4 k1 x7 = some r) (((l2.length : Int) - 0 : Int).toNat + 1) ?_ ?_
  ·exact ⟨0, _, (((E.nil.keep E 5 rfl).keep E 1 rfl).keep E 0 rfl), H, fun r hr => hr, hr5, hr6, hm⟩
  ·clear E H hm
   rintro k1 a w ⟨x7, rs8, E, H, hs9, hr10, hr11, hm⟩
   cases k1 with
   | zero => exact (none_some hm rfl).elim
   | succ k1 =>
    unfold m_cantonref09_SameEvents_l1 at hm
    refine wp_seq ?_
    refine wp_seq ?_
    refine wp_region_lit ?_
    refine st_val E (wn rfl) rfl rfl (x_move E rfl rfl) ?_
    clear a E;intro a E
    refine st_val E (wn rfl) rfl rfl (x_move E rfl rfl) ?_
    clear a E;intro a E
    refine st_val E (wn rfl) rfl rfl (x_lenS E H rfl rfl hr10 Try.underlying46) ?_
    clear a E;intro a E
    refine st_val E (wn rfl) rfl rfl (x_bin E rfl rfl rfl rfl) ?_
    clear a E;intro a E
    refine wpList_nil ?_
    refine q_then ?_
    refine wp_if E rfl ?_ ?_
    ·intro hb
     rw [if_t hb] at hm
     clear hb
     refine wp_skip ?_
     refine q_then ?_
     refine wp_seq ?_
     refine wp_block ?_
     refine wp_seq ?_
     obtain ⟨u12, H⟩ := H.raw hr10
     obtain ⟨u13, H⟩ := H.raw (.tail _ hr11)
     replace H : Sep w (Fo) (rRow k_api_Event v3 l4 u13 :: rRow k_api_Event v1 l2 u12 :: rs8) := H
     have hI : Still [] [rRow k_api_Event v1 l2 u12, rRow k_api_Event v3 l4 u13] { w with drawn := w.drawn + 1 } := ⟨_, _, H.kept (Kp.drawn _ w _), (subO_nil), (sub_cons (.tail _ (.head _)) (sub_cons (.head _) (sub_nil)))⟩
     refine wp_draw _ [(0, 0), (1, 0), (2, 0), (3, 0), (4, 0), (5, 0), (6, 0), (7, 0), (8, 0)] mixedOk (by kernel_rfl) (fun _ _ _ h => False.elim h.2) hI ?_
     replace H := H.kept (Kp.drawn _ w (w.drawn + 1))
     generalize ({ w with drawn := w.drawn + 1 } : World) = w at H hI ⊢
     replace hI : ∃ W, Still [] [rRow k_api_Event v1 l2 u12, rRow k_api_Event v3 l4 u13] W := ⟨_, hI⟩
     obtain ⟨W0, hI⟩ := hI
     refine fr_val E rfl (wn rfl) rfl rfl (fun w hW => (x_move E rfl rfl)) ?_
     clear a E;intro a E
     refine fr_val E rfl (wn rfl) rfl rfl (fun w hW => (x_move E rfl rfl)) ?_
     clear a E;intro a E
     obtain ⟨x14, hx15, hm⟩ := bnd hm
     obtain ⟨q16, u19, hx17, hx18⟩ := dr_ixW (P := Try.prog) (k := .i64) hI (dr_mem (.head _)) Try.underlying46 sz68 hx15
     refine fr_val E rfl (wn rfl) rfl rfl (fun w hW => x_ixA E rfl rfl rfl (hx17 w)) ?_
     clear a E;intro a E
     refine fr_val E rfl (wn rfl) rfl rfl (fun w hW => x_ld E rfl rfl (ir_ldN (cs := [.int .i64 x14.Num, .int .i64 x14.Kind, .string x14.Path, .int .i64 x14.Watch]) (DR.ir (dr_at hx18)) (fun _ _ _ h => k_api_Event_open h) Try.underlying68 rfl sz68 w hW)) ?_
     clear a E;intro a E
     refine fr_val E rfl (wn rfl) rfl rfl (fun w hW => (x_move E rfl rfl)) ?_
     clear a E;intro a E
     refine fr_val E rfl (wn rfl) rfl rfl (fun w hW => (x_move E rfl rfl)) ?_
     clear a E;intro a E
     obtain ⟨x20, hx21, hm⟩ := bnd hm
     obtain ⟨q22, u25, hx23, hx24⟩ := dr_ixW (P := Try.prog) (k := .i64) hI (dr_mem (.tail _ (.head _))) Try.underlying46 sz68 hx21
     refine fr_val E rfl (wn rfl) rfl rfl (fun w hW => x_ixA E rfl rfl rfl (hx23 w)) ?_
     clear a E;intro a E
     refine fr_val E rfl (wn rfl) rfl rfl (fun w hW => x_ld E rfl rfl (ir_ldN (cs := [.int .i64 x20.Num, .int .i64 x20.Kind, .string x20.Path, .int .i64 x20.Watch]) (DR.ir (dr_at hx24)) (fun _ _ _ h => k_api_Event_open h) Try.underlying68 rfl sz68 w hW)) ?_
     clear a E;intro a E
     refine fr_val E rfl (wn rfl) rfl rfl (fun w hW => (x_bin2 E rfl rfl rfl (v := .bool (!((x14.Num == x20.Num) && ((x14.Kind == x20.Kind) && ((sEq x14.Path x20.Path) && (x14.Watch == x20.Watch)))))) (ne_agg egt68 (eq_struct Try.underlying68 sih68 (eqf_cons (by rfl) (by kernel_rfl) (by kernel_rfl) (eq_int Try.underlying2) (eqf_cons (by rfl) (by kernel_rfl) (by kernel_rfl) (eq_int Try.underlying3) (eqf_cons (by rfl) (by kernel_rfl) (by kernel_rfl) (eq_string Try.underlying9) (eqf_last (by rfl) (by kernel_rfl) (by kernel_rfl) (eq_int Try.underlying2))))))))) ?_
     clear a E;intro a E
     refine fr_nil ?_
     clear hI
     refine q_then ?_
     refine wp_if E rfl ?_ ?_
     ·intro hb
      rw [if_t hb] at hm
      clear hb
      refine wp_seq ?_
      refine wp_region_lit ?_
      refine st_val E (wn rfl) rfl rfl (x_assign E rfl rfl) ?_
      clear a E;intro a E
      refine wpList_nil ?_
      refine q_then ?_
      refine wp_ret ?_
      refine q_blkR ?_
      refine q_thenR ?_
      refine q_thenR ?_
      refine q_blkR ?_
      refine q_thenR ?_
      refine out1 E rfl rfl ?_
      obtain rfl := Option.some.inj hm
      exact ⟨rfl, H.reads (fun r hr => .tail _ (.tail _ (hs9 r hr)))⟩
     ·intro hb
      rw [if_f hb] at hm
      clear hb
      refine wp_skip ?_
      refine q_blk ?_
      refine q_then ?_
      refine wp_region_lit ?_
      refine st_val E (wn rfl) rfl rfl (x_move E rfl rfl) ?_
      clear a E;intro a E
      refine st_val E (wn rfl) rfl rfl (x_bin E rfl rfl rfl rfl) ?_
      clear a E;intro a E
      refine st_val E (wn rfl) rfl rfl (x_assign E rfl rfl) ?_
      clear a E;intro a E
      refine wpList_nil ?_
      refine q_then ?_
      exact ⟨k1, Nat.lt_succ_self k1, IntKind.i64.wrap (x7 + 1), _, (((E.nil.keep E 5 rfl).keep E 1 rfl).keep E 0 rfl), H, fun r hr => .tail _ (.tail _ (hs9 r hr)), (.tail _ (.tail _ hr10)), (.tail _ (.tail _ hr11)), hm⟩
    ·intro hb
     rw [if_f hb] at hm
     clear hb
     refine wp_exit ?_
     refine q_thenX ?_
     refine q_thenX ?_
     refine q_hit ?_
     refine q_then ?_
     refine wp_seq ?_
     refine wp_region_lit ?_
     refine st_val E (wn rfl) rfl rfl (x_assign E rfl rfl) ?_
     clear a E;intro a E
     refine wpList_nil ?_
     refine q_then ?_
     refine wp_ret ?_
     refine out1 E rfl rfl ?_
     obtain rfl := Option.some.inj hm
     exact ⟨rfl, H.reads (fun r hr => hs9 r hr)⟩
end Go.Cb

set_option linter.unusedVariables false
set_option linter.unusedSimpArgs false
namespace Go.Cb
open Go.Proofs Go.RowKit
def m_cantonref10_SameNums_l1 (l2 : List Int) (l4 : List Int) : Nat → Int → Option Bool
  | 0, _ => none
  | k1 + 1, x7 =>
    if (decide (x7 < (l2.length : Int))) = true then ((idx l2 x7).bind fun x14 => (idx l4 x7).bind fun x20 => if (x14 != x20) = true then (some (false)) else (m_cantonref10_SameNums_l1 l2 l4 k1 (IntKind.i64.wrap (x7 + 1)))) else (some (true))
def m_cantonref10_SameNums (l2 : List Int) (l4 : List Int) : Option Bool :=
  if ((l2.length : Int) != (l4.length : Int)) = true then (some (false)) else (m_cantonref10_SameNums_l1 l2 l4 (((l2.length : Int) - 0 : Int).toNat + 1) 0)
set_option maxRecDepth 20000 in
set_option maxHeartbeats 1000000 in
theorem c_cantonref10_SameNums {w : World} {Fo : List Ob} {rs : List Rp} (v1 : Value) (l2 : List Int) (v3 : Value) (l4 : List Int) (H : Sep w (Fo) rs) (hr5 : rSl (kI .i64) v1 l2 ∈ rs) (hr6 : rSl (kI .i64) v3 l4 ∈ rs) {r : Bool} (hm : m_cantonref10_SameNums l2 l4 = some r) :
    Calls Try.prog 82 [v1, v3].toArray w (Ret fun v w' => .bool r = v ∧ Sep w' (Fo) (rs)) := by
 unfold m_cantonref10_SameNums at hm
 refine enter Try.func82 rfl Try.ntmps82 rfl fun a E => ?_
 simp only [enum, Nat.reduceAdd] at E
 refine wp_seq ?_
 refine wp_region_lit ?_
 refine st_val E (wn rfl) rfl rfl (x_assign E rfl rfl) ?_
 clear a E;intro a E
 refine wpList_nil ?_
 refine q_then ?_
 refine wp_seq ?_
 refine wp_seq ?_
 refine wp_region_lit ?_
 refine st_val E (wn rfl) rfl rfl (x_move E rfl rfl) ?_
 clear a E;intro a E
 refine st_val E (wn rfl) rfl rfl (x_lenS E H rfl rfl hr5 Try.underlying48) ?_
 clear a E;intro a E
 refine st_val E (wn rfl) rfl rfl (x_move E rfl rfl) ?_
 clear a E;intro a E
 refine st_val E (wn rfl) rfl rfl (x_lenS E H rfl rfl hr6 Try.underlying48) ?_
 clear a E;intro a E
 refine st_val E (wn rfl) rfl rfl (x_bin E rfl rfl rfl rfl) ?_
 clear a E;intro a E
 refine wpList_nil ?_
 refine q_then ?_
 refine wp_if E rfl ?_ ?_
 ·intro hb
  rw [if_t hb] at hm
  clear hb
  refine wp_seq ?_
  refine wp_region_lit ?_
  refine st_val E (wn rfl) rfl rfl (x_assign E rfl rfl) ?_
  clear a E;intro a E
  refine wpList_nil ?_
  refine q_then ?_
  refine wp_ret ?_
  refine q_thenR ?_
  refine out1 E rfl rfl ?_
  obtain rfl := Option.some.inj hm
  exact ⟨rfl, H.reads (fun r hr => hr)⟩
 ·intro hb
  rw [if_f hb] at hm
  clear hb
  refine wp_skip ?_
  refine q_then ?_
  refine wp_seq ?_
  refine wp_seq ?_
  refine wp_region_lit ?_
  refine st_val E (wn rfl) rfl rfl (x_assign E rfl rfl) ?_
  clear a E;intro a E
  refine wpList_nil ?_
  refine q_then ?_
  refine wp_block ?_
  refine wp_loop_g (fun k1 a w => ∃ (x7 : Int) (rs8 : List Rp), Env 26 a [(0, v1), (1, v3), (5, .int .i64 x7)] ∧ Sep w (Fo) rs8 ∧ (∀ r, r ∈ rs → r ∈ rs8) ∧ rSl (kI .i64) v1 l2 ∈ rs8 ∧ rSl (kI .i64) v3 l4 ∈ rs8 ∧ m_cantonref10_SameNums_l1 l2 l4 k1 x7 = some r) (((l2.length : Int) - 0 : Int).toNat + 1) ?_ ?_
  ·exact ⟨0, _, (((E.nil.keep E 5 rfl).keep E 1 rfl).keep E 0 rfl), H, fun r hr => hr, hr5, hr6, hm⟩
  ·clear E H hm
   rintro k1 a w ⟨x7, rs8, E, H, hs9, hr10, hr11, hm⟩
   cases k1 with
   | zero => exact (none_some hm rfl).elim
   | succ k1 =>
    unfold m_cantonref10_SameNums_l1 at hm
    refine wp_seq ?_
    refine wp_seq ?_
    refine wp_region_lit ?_
    refine st_val E (wn rfl) rfl rfl (x_move E rfl rfl) ?_
    clear a E;intro a E
    refine st_val E (wn rfl) rfl rfl (x_move E rfl rfl) ?_
    clear a E;intro a E
    refine st_val E (wn rfl) rfl rfl (x_lenS E H rfl rfl hr10 Try.underlying48) ?_
    clear a E;intro a E
    refine st_val E (wn rfl) rfl rfl (x_bin E rfl rfl rfl rfl) ?_
    clear a E;intro a E
    refine wpList_nil ?_
    refine q_then ?_
    refine wp_if E rfl ?_ ?_
    ·intro hb
     rw [if_t hb] at hm
     clear hb
     refine wp_skip ?_
     refine q_then ?_
     refine wp_seq ?_
     refine wp_block ?_
     refine wp_seq ?_
     obtain ⟨u12, H⟩ := H.raw hr10
     obtain ⟨u13, H⟩ := H.raw (.tail _ hr11)
     replace H : Sep w (Fo) (rRow (kI .i64) v3 l4 u13 :: rRow (kI .i64) v1 l2 u12 :: rs8) := H
     have hI : Still [] [rRow (kI .i64) v1 l2 u12, rRow (kI .i64) v3 l4 u13] { w with drawn := w.drawn + 1 } := ⟨_, _, H.kept (Kp.drawn _ w _), (subO_nil), (sub_cons (.tail _ (.head _)) (sub_cons (.head _) (sub_nil)))⟩
     refine wp_draw _ [(0, 0), (1, 0), (2, 0), (3, 0), (4, 0), (5, 0), (6, 0), (7, 0), (8, 0)] mixedOk (by kernel_rfl) (fun _ _ _ h => False.elim h.2) hI ?_
     replace H := H.kept (Kp.drawn _ w (w.drawn + 1))
     generalize ({ w with drawn := w.drawn + 1 } : World) = w at H hI ⊢
     replace hI : ∃ W, Still [] [rRow (kI .i64) v1 l2 u12, rRow (kI .i64) v3 l4 u13] W := ⟨_, hI⟩
     obtain ⟨W0, hI⟩ := hI
     refine fr_val E rfl (wn rfl) rfl rfl (fun w hW => (x_move E rfl rfl)) ?_
     clear a E;intro a E
     refine fr_val E rfl (wn rfl) rfl rfl (fun w hW => (x_move E rfl rfl)) ?_
     clear a E;intro a E
     obtain ⟨x14, hx15, hm⟩ := bnd hm
     obtain ⟨q16, u19, hx17, hx18⟩ := dr_ixW (P := Try.prog) (k := .i64) hI (dr_mem (.head _)) Try.underlying48 sz2 hx15
     refine fr_val E rfl (wn rfl) rfl rfl (fun w hW => x_ixA E rfl rfl rfl (hx17 w)) ?_
     clear a E;intro a E
     refine fr_val E rfl (wn rfl) rfl rfl (fun w hW => x_ld E rfl rfl (ir_ld (DR.ir (dr_at hx18)) Try.underlying2 rfl w hW)) ?_
     clear a E;intro a E
     refine fr_val E rfl (wn rfl) rfl rfl (fun w hW => (x_move E rfl rfl)) ?_
     clear a E;intro a E
     refine fr_val E rfl (wn rfl) rfl rfl (fun w hW => (x_move E rfl rfl)) ?_
     clear a E;intro a E
     obtain ⟨x20, hx21, hm⟩ := bnd hm
     obtain ⟨q22, u25, hx23, hx24⟩ := dr_ixW (P := Try.prog) (k := .i64) hI (dr_mem (.tail _ (.head _))) Try.underlying48 sz2 hx21
     refine fr_val E rfl (wn rfl) rfl rfl (fun w hW => x_ixA E rfl rfl rfl (hx23 w)) ?_
     clear a E;intro a E
     refine fr_val E rfl (wn rfl) rfl rfl (fun w hW => x_ld E rfl rfl (ir_ld (DR.ir (dr_at hx24)) Try.underlying2 rfl w hW)) ?_
     clear a E;intro a E
     refine fr_val E rfl (wn rfl) rfl rfl (fun w hW => (x_bin E rfl rfl rfl rfl)) ?_
     clear a E;intro a E
     refine fr_nil ?_
     clear hI
     refine q_then ?_
     refine wp_if E rfl ?_ ?_
     ·intro hb
      rw [if_t hb] at hm
      clear hb
      refine wp_seq ?_
      refine wp_region_lit ?_
      refine st_val E (wn rfl) rfl rfl (x_assign E rfl rfl) ?_
      clear a E;intro a E
      refine wpList_nil ?_
      refine q_then ?_
      refine wp_ret ?_
      refine q_blkR ?_
      refine q_thenR ?_
      refine q_thenR ?_
      refine q_blkR ?_
      refine q_thenR ?_
      refine out1 E rfl rfl ?_
      obtain rfl := Option.some.inj hm
      exact ⟨rfl, H.reads (fun r hr => .tail _ (.tail _ (hs9 r hr)))⟩
     ·intro hb
      rw [if_f hb] at hm
      clear hb
      refine wp_skip ?_
      refine q_blk ?_
      refine q_then ?_
      refine wp_region_lit ?_
      refine st_val E (wn rfl) rfl rfl (x_move E rfl rfl) ?_
      clear a E;intro a E
      refine st_val E (wn rfl) rfl rfl (x_bin E rfl rfl rfl rfl) ?_
      clear a E;intro a E
      refine st_val E (wn rfl) rfl rfl (x_assign E rfl rfl) ?_
      clear a E;intro a E
      refine wpList_nil ?_
      refine q_then ?_
      exact ⟨k1, Nat.lt_succ_self k1, IntKind.i64.wrap (x7 + 1), _, (((E.nil.keep E 5 rfl).keep E 1 rfl).keep E 0 rfl), H, fun r hr => .tail _ (.tail _ (hs9 r hr)), (.tail _ (.tail _ hr10)), (.tail _ (.tail _ hr11)), hm⟩
    ·intro hb
     rw [if_f hb] at hm
     clear hb
     refine wp_exit ?_
     refine q_thenX ?_
     refine q_thenX ?_
     refine q_hit ?_
     refine q_then ?_
     refine wp_seq ?_
     refine wp_region_lit ?_
     refine st_val E (wn rfl) rfl rfl (x_assign E rfl rfl) ?_
     clear a E;intro a E
     refine wpList_nil ?_
     refine q_then ?_
     refine wp_ret ?_
     refine out1 E rfl rfl ?_
     obtain rfl := Option.some.inj hm
     exact ⟨rfl, H.reads (fun r hr => hs9 r hr)⟩
end Go.Cb
