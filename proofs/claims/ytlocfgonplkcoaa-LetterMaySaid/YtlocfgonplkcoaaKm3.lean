/- Functions of the program, walked: each comes to its plain function. -/
import Derived.Test.YtlocfgonplkcoaaKm2
set_option linter.unusedVariables false
set_option linter.unusedSimpArgs false
namespace Go.Cb
open Go.Proofs Go.RowKit
def m_cantonlaw17_head : Option Bool :=
  (m_letter_PutSaved (⟨1, 0, ([(ByteArray.mk #[97])] : List ByteArray)⟩ : S_api_Saved)).bind fun u4 => (m_letter_GetSaved u4.1).bind fun u7 => (m_letter_Put (⟨5, 0, 0, 0, 0, [], 7, (ByteArray.mk #[116])⟩ : S_api_Letter)).bind fun u13 => (m_letter_Get u13.1).bind fun u16 => (m_letter_PutAnswer (⟨0, 0, true, 0, [], (⟨[], []⟩ : S_api_Store), [], [], ([9] : List Int)⟩ : S_api_Answer)).bind fun u25 => (m_letter_GetAnswer u25.1).bind fun u28 => (m_letter_Put (⟨0, (-1), 0, 0, 0, [], 0, (ByteArray.mk #[])⟩ : S_api_Letter)).bind fun u49 => (m_letter_GetAnswer ([] : List Int)).bind fun u52 => if (u4.2 == 0) = true then (if (sEq (strOf u4.1) (ByteArray.mk #[1, 0, 1, 1, 97])) = true then (if (u7.2 == 0) = true then (if (u7.1.View == 1) = true then (if (u13.2 == 0) = true then (if (u16.2 == 0) = true then (if (sEq u16.1.Text (ByteArray.mk #[116])) = true then (if (u25.2 == 0) = true then (if (u28.2 == 0) = true then (if u28.1.Yes = true then (if ((u28.1.Wounded.length : Int) == 1) = true then (if (u49.2 == 1) = true then (some (u52.2 == 3)) else (some (false))) else (some (false))) else (some (false))) else (some (false))) else (some (false))) else (some (false))) else (some (false))) else (some (false))) else (some (false))) else (some (false))) else (some (false))) else (some (false))
set_option maxRecDepth 20000 in
set_option maxHeartbeats 1000000 in
theorem c_cantonlaw17_head {w : World} {Fo : List Ob} {rs : List Rp} (H : Sep w (Fo) rs) {r : Bool} (hm : m_cantonlaw17_head = some r) :
    Calls Try.prog 9 [].toArray w (Ret fun v w' => .bool r = v ∧ Sep w' (Fo) (rs)) := by
 unfold m_cantonlaw17_head at hm
 refine enter Try.func9 rfl Try.ntmps9 rfl fun a E => ?_
 simp only [enum, Nat.reduceAdd] at E
 refine wp_seq ?_
 refine wp_region_lit ?_
 refine sv E rfl rfl rfl (x_assign E rfl rfl) ?_
 clear a E;intro a E
 refine wpList_nil ?_
 refine q_then ?_
 refine wp_seq ?_
 refine wp_region_lit ?_
 refine st_bsO (e := 9) (d := kS) (cs := [.string (ByteArray.mk #[97])]) (xs := [(ByteArray.mk #[97])]) E H (wn rfl) rfl rfl (ps := [(0, .const (.string (ByteArray.mk #[97])))]) (parts := [(0, .string (ByteArray.mk #[97]))]) rfl (by simp only [List.map]; rw [E.eval (x := .const (.string (ByteArray.mk #[97]))) (v := .string (ByteArray.mk #[97])) rfl]) (by kernel_rfl) rfl rfl (fun ok hr => (Rows.single (d := kS) (cs := [.string (ByteArray.mk #[97])]) (x := (ByteArray.mk #[97])) rfl)) ?_
 clear E H; clear a; clear w; intro v1 w a H E
 obtain ⟨q2, x3, rfl⟩ := H.rowform (i := 0) rfl
 refine sv E rfl rfl rfl (x_build E (ps := [(0, .const (.int .i64 1)), (2, .tmp 18)]) (vs := [(0, .int .i64 1), (2, (.slice q2 ([(ByteArray.mk #[97])] : List ByteArray).length x3))]) rfl (by simp only [List.map]; rw [E.eval (x := .const (.int .i64 1)) (v := .int .i64 1) rfl, E.eval (x := .tmp 18) (v := (.slice q2 ([(ByteArray.mk #[97])] : List ByteArray).length x3)) rfl]) (v := .agg #[.int .i64 1, .int .i64 0, (.slice q2 ([(ByteArray.mk #[97])] : List ByteArray).length x3)]) (by kernel_rfl)) ?_
 clear a E;intro a E
 replace H := H.thaw (i := 0) rfl
 replace H : Sep w (Fo) (rSl kS (.slice q2 ([(ByteArray.mk #[97])] : List ByteArray).length x3) ([(ByteArray.mk #[97])] : List ByteArray) :: rs) := H
 obtain ⟨u4, hx5, hm⟩ := bnd hm
 refine st_call E (wn rfl) rfl rfl (x_call E rfl rfl (cf13 _)) (c_letter_PutSaved (⟨1, 0, ([(ByteArray.mk #[97])] : List ByteArray)⟩ : S_api_Saved) (.slice q2 ([(ByteArray.mk #[97])] : List ByteArray).length x3) H (.head _) hx5) ?_
 clear E H; clear a; clear w; rintro _ w ⟨v6, rfl, H⟩ a E
 refine sv E rfl rfl rfl (x_move E rfl rfl) ?_
 clear a E;intro a E
 refine sv E rfl rfl rfl (x_ext E rfl rfl rfl) ?_
 clear a E;intro a E
 refine sv E rfl rfl rfl (x_ext E rfl rfl rfl) ?_
 clear a E;intro a E
 refine sv E rfl rfl rfl (x_assign E rfl rfl) ?_
 clear a E;intro a E
 refine sv E rfl rfl rfl (x_assign E rfl rfl) ?_
 clear a E;intro a E
 refine wpList_nil ?_
 refine q_then ?_
 refine wp_seq ?_
 refine wp_region_lit ?_
 refine sv E rfl rfl rfl (x_move E rfl rfl) ?_
 clear a E;intro a E
 replace H := H.thaw (i := 0) rfl
 replace H : Sep w (Fo) (rSl (kI .u8) v6 u4.1 :: rSl kS (.slice q2 ([(ByteArray.mk #[97])] : List ByteArray).length x3) ([(ByteArray.mk #[97])] : List ByteArray) :: rs) := H
 obtain ⟨u7, hx8, hm⟩ := bnd hm
 refine st_call E (wn rfl) rfl rfl (x_call E rfl rfl (cf17 _)) (c_letter_GetSaved v6 u4.1 H (.head _) hx8) ?_
 clear E H; clear a; clear w; rintro _ w ⟨v9, rfl, H⟩ a E
 refine sv E rfl rfl rfl (x_move E rfl rfl) ?_
 clear a E;intro a E
 refine sv E rfl rfl rfl (x_ext E rfl rfl rfl) ?_
 clear a E;intro a E
 refine sv E rfl rfl rfl (x_ext E rfl rfl rfl) ?_
 clear a E;intro a E
 refine st_alloc E H (wn rfl) rfl rfl (cs := [.int .i64 0, .int .i64 0, .slice none 0 0]) rfl (z := .agg #[.int .i64 0, .int .i64 0, .slice none 0 0]) (by kernel_rfl) rfl ?_
 clear E H; clear a; clear w; intro p10 w a H E
 obtain ⟨q11, x12, rfl⟩ := H.slform (.head _)
 refine st_st (i := 0) E H (wn rfl) rfl (us := [.int .i64 u7.1.View, .int .i64 u7.1.Normal, (.slice q11 u7.1.Log.length x12)]) rfl rfl rfl rfl rfl sz26 rfl rfl ?_
 clear H; clear w; intro w H
 replace H : Sep w (Blk p10 26 [.int .i64 u7.1.View, .int .i64 u7.1.Normal, (.slice q11 u7.1.Log.length x12)] :: Fo) _ := H
 refine sv E rfl rfl rfl (x_assign E rfl rfl) ?_
 clear a E;intro a E
 refine wpList_nil ?_
 refine q_then ?_
 refine wp_seq ?_
 refine wp_region_lit ?_
 refine sv E rfl rfl rfl (x_build E (ps := [(0, .const (.int .i64 5)), (6, .const (.int .i64 7)), (7, .const (.string (ByteArray.mk #[116])))]) (vs := [(0, .int .i64 5), (6, .int .i64 7), (7, .string (ByteArray.mk #[116]))]) rfl (by simp only [List.map]; rw [E.eval (x := .const (.int .i64 5)) (v := .int .i64 5) rfl, E.eval (x := .const (.int .i64 7)) (v := .int .i64 7) rfl, E.eval (x := .const (.string (ByteArray.mk #[116]))) (v := .string (ByteArray.mk #[116])) rfl]) (v := .agg #[.int .i64 5, .int .i64 0, .int .i64 0, .int .i64 0, .int .i64 0, .slice none 0 0, .int .i64 7, .string (ByteArray.mk #[116])]) (by kernel_rfl)) ?_
 clear a E;intro a E
 replace H := H.nilSl kS
 replace H : Sep w (Blk p10 26 [.int .i64 u7.1.View, .int .i64 u7.1.Normal, (.slice q11 u7.1.Log.length x12)] :: Fo) (rSl kS (.slice none 0 0) ([] : List ByteArray) :: rSl kS (.slice q11 u7.1.Log.length x12) u7.1.Log :: rSl (kI .u8) v6 u4.1 :: rSl kS (.slice q2 ([(ByteArray.mk #[97])] : List ByteArray).length x3) ([(ByteArray.mk #[97])] : List ByteArray) :: rs) := H
 obtain ⟨u13, hx14, hm⟩ := bnd hm
 refine st_call E (wn rfl) rfl rfl (x_call E rfl rfl (cf11 _)) (c_letter_Put (⟨5, 0, 0, 0, 0, [], 7, (ByteArray.mk #[116])⟩ : S_api_Letter) (.slice none 0 0) H (.head _) hx14) ?_
 clear E H; clear a; clear w; rintro _ w ⟨v15, rfl, H⟩ a E
 refine sv E rfl rfl rfl (x_move E rfl rfl) ?_
 clear a E;intro a E
 refine sv E rfl rfl rfl (x_ext E rfl rfl rfl) ?_
 clear a E;intro a E
 refine sv E rfl rfl rfl (x_ext E rfl rfl rfl) ?_
 clear a E;intro a E
 refine sv E rfl rfl rfl (x_assign E rfl rfl) ?_
 clear a E;intro a E
 refine sv E rfl rfl rfl (x_assign E rfl rfl) ?_
 clear a E;intro a E
 refine wpList_nil ?_
 refine q_then ?_
 refine wp_seq ?_
 refine wp_region_lit ?_
 refine sv E rfl rfl rfl (x_move E rfl rfl) ?_
 clear a E;intro a E
 replace H := H.thaw (i := 0) rfl
 replace H : Sep w (Blk p10 26 [.int .i64 u7.1.View, .int .i64 u7.1.Normal, (.slice q11 u7.1.Log.length x12)] :: Fo) (rSl (kI .u8) v15 u13.1 :: rSl kS (.slice none 0 0) ([] : List ByteArray) :: rSl kS (.slice q11 u7.1.Log.length x12) u7.1.Log :: rSl (kI .u8) v6 u4.1 :: rSl kS (.slice q2 ([(ByteArray.mk #[97])] : List ByteArray).length x3) ([(ByteArray.mk #[97])] : List ByteArray) :: rs) := H
 obtain ⟨u16, hx17, hm⟩ := bnd hm
 refine st_call E (wn rfl) rfl rfl (x_call E rfl rfl (cf15 _)) (c_letter_Get v15 u13.1 H (.head _) hx17) ?_
 clear E H; clear a; clear w; rintro _ w ⟨v18, rfl, H⟩ a E
 refine sv E rfl rfl rfl (x_move E rfl rfl) ?_
 clear a E;intro a E
 refine sv E rfl rfl rfl (x_ext E rfl rfl rfl) ?_
 clear a E;intro a E
 refine sv E rfl rfl rfl (x_ext E rfl rfl rfl) ?_
 clear a E;intro a E
 refine st_alloc E H (wn rfl) rfl rfl (cs := [.int .i64 0, .int .i64 0, .int .i64 0, .int .i64 0, .int .i64 0, .slice none 0 0, .int .i64 0, .string (ByteArray.mk #[])]) rfl (z := .agg #[.int .i64 0, .int .i64 0, .int .i64 0, .int .i64 0, .int .i64 0, .slice none 0 0, .int .i64 0, .string ⟨#[]⟩]) (by kernel_rfl) rfl ?_
 clear E H; clear a; clear w; intro p19 w a H E
 obtain ⟨q20, x21, rfl⟩ := H.slform (.head _)
 refine st_st (i := 0) E H (wn rfl) rfl (us := [.int .i64 u16.1.Kind, .int .i64 u16.1.View, .int .i64 u16.1.Normal, .int .i64 u16.1.Len, .int .i64 u16.1.Stays, (.slice q20 u16.1.Log.length x21), .int .i64 u16.1.Num, .string u16.1.Text]) rfl rfl rfl rfl rfl sz24 rfl rfl ?_
 clear H; clear w; intro w H
 replace H : Sep w (Blk p19 24 [.int .i64 u16.1.Kind, .int .i64 u16.1.View, .int .i64 u16.1.Normal, .int .i64 u16.1.Len, .int .i64 u16.1.Stays, (.slice q20 u16.1.Log.length x21), .int .i64 u16.1.Num, .string u16.1.Text] :: Blk p10 26 [.int .i64 u7.1.View, .int .i64 u7.1.Normal, (.slice q11 u7.1.Log.length x12)] :: Fo) _ := H
 refine sv E rfl rfl rfl (x_assign E rfl rfl) ?_
 clear a E;intro a E
 refine wpList_nil ?_
 refine q_then ?_
 refine wp_seq ?_
 refine wp_region_lit ?_
 refine st_bsO (e := 2) (d := (kI .i64)) (cs := [.int .i64 9]) (xs := [9]) E H (wn rfl) rfl rfl (ps := [(0, .const (.int .i64 9))]) (parts := [(0, .int .i64 9)]) rfl (by simp only [List.map]; rw [E.eval (x := .const (.int .i64 9)) (v := .int .i64 9) rfl]) (by kernel_rfl) rfl rfl (fun ok hr => (Rows.single (d := (kI .i64)) (cs := [.int .i64 9]) (x := 9) rfl)) ?_
 clear E H; clear a; clear w; intro v22 w a H E
 obtain ⟨q23, x24, rfl⟩ := H.rowform (i := 0) rfl
 refine sv E rfl rfl rfl (x_build E (ps := [(2, .const (.bool true)), (8, .tmp 39)]) (vs := [(2, .bool true), (8, (.slice q23 ([9] : List Int).length x24))]) rfl (by simp only [List.map]; rw [E.eval (x := .const (.bool true)) (v := .bool true) rfl, E.eval (x := .tmp 39) (v := (.slice q23 ([9] : List Int).length x24)) rfl]) (v := .agg #[.int .i64 0, .int .i64 0, .bool true, .int .i64 0, .slice none 0 0, .slice none 0 0, .slice none 0 0, .slice none 0 0, .slice none 0 0, (.slice q23 ([9] : List Int).length x24)]) (by kernel_rfl)) ?_
 clear a E;intro a E
 replace H := H.thaw (i := 0) rfl
 replace H := H.nilSl k_api_Result
 replace H := H.nilSl k_api_Node
 replace H := H.nilSl k_api_Turn
 replace H := H.nilSl k_api_Event
 replace H := H.nilSl k_api_Mount
 replace H : Sep w (Blk p19 24 [.int .i64 u16.1.Kind, .int .i64 u16.1.View, .int .i64 u16.1.Normal, .int .i64 u16.1.Len, .int .i64 u16.1.Stays, (.slice q20 u16.1.Log.length x21), .int .i64 u16.1.Num, .string u16.1.Text] :: Blk p10 26 [.int .i64 u7.1.View, .int .i64 u7.1.Normal, (.slice q11 u7.1.Log.length x12)] :: Fo) (rSl k_api_Mount (.slice none 0 0) ([] : List S_api_Mount) :: rSl k_api_Event (.slice none 0 0) ([] : List S_api_Event) :: rSl k_api_Turn (.slice none 0 0) ([] : List S_api_Turn) :: rSl k_api_Node (.slice none 0 0) ([] : List S_api_Node) :: rSl k_api_Result (.slice none 0 0) ([] : List S_api_Result) :: rSl (kI .i64) (.slice q23 ([9] : List Int).length x24) ([9] : List Int) :: rSl kS (.slice q20 u16.1.Log.length x21) u16.1.Log :: rSl (kI .u8) v15 u13.1 :: rSl kS (.slice none 0 0) ([] : List ByteArray) :: rSl kS (.slice q11 u7.1.Log.length x12) u7.1.Log :: rSl (kI .u8) v6 u4.1 :: rSl kS (.slice q2 ([(ByteArray.mk #[97])] : List ByteArray).length x3) ([(ByteArray.mk #[97])] : List ByteArray) :: rs) := H
 obtain ⟨u25, hx26, hm⟩ := bnd hm
 refine st_call E (wn rfl) rfl rfl (x_call E rfl rfl (cf22 _)) (c_letter_PutAnswer (⟨0, 0, true, 0, [], (⟨[], []⟩ : S_api_Store), [], [], ([9] : List Int)⟩ : S_api_Answer) (.slice none 0 0) (.slice none 0 0) (.slice none 0 0) (.slice none 0 0) (.slice none 0 0) (.slice q23 ([9] : List Int).length x24) H (.tail _ (.tail _ (.tail _ (.tail _ (.head _))))) (.tail _ (.tail _ (.tail _ (.head _)))) (.tail _ (.tail _ (.head _))) (.tail _ (.head _)) (.head _) (.tail _ (.tail _ (.tail _ (.tail _ (.tail _ (.head _)))))) hx26) ?_
 clear E H; clear a; clear w; rintro _ w ⟨v27, rfl, H⟩ a E
 refine sv E rfl rfl rfl (x_move E rfl rfl) ?_
 clear a E;intro a E
 refine sv E rfl rfl rfl (x_ext E rfl rfl rfl) ?_
 clear a E;intro a E
 refine sv E rfl rfl rfl (x_ext E rfl rfl rfl) ?_
 clear a E;intro a E
 refine sv E rfl rfl rfl (x_assign E rfl rfl) ?_
 clear a E;intro a E
 refine sv E rfl rfl rfl (x_assign E rfl rfl) ?_
 clear a E;intro a E
 refine wpList_nil ?_
 refine q_then ?_
 refine wp_seq ?_
 refine wp_region_lit ?_
 refine sv E rfl rfl rfl (x_move E rfl rfl) ?_
 clear a E;intro a E
 replace H := H.thaw (i := 0) rfl
 replace H : Sep w (Blk p19 24 [.int .i64 u16.1.Kind, .int .i64 u16.1.View, .int .i64 u16.1.Normal, .int .i64 u16.1.Len, .int .i64 u16.1.Stays, (.slice q20 u16.1.Log.length x21), .int .i64 u16.1.Num, .string u16.1.Text] :: Blk p10 26 [.int .i64 u7.1.View, .int .i64 u7.1.Normal, (.slice q11 u7.1.Log.length x12)] :: Fo) (rSl (kI .u8) v27 u25.1 :: rSl k_api_Mount (.slice none 0 0) ([] : List S_api_Mount) :: rSl k_api_Event (.slice none 0 0) ([] : List S_api_Event) :: rSl k_api_Turn (.slice none 0 0) ([] : List S_api_Turn) :: rSl k_api_Node (.slice none 0 0) ([] : List S_api_Node) :: rSl k_api_Result (.slice none 0 0) ([] : List S_api_Result) :: rSl (kI .i64) (.slice q23 ([9] : List Int).length x24) ([9] : List Int) :: rSl kS (.slice q20 u16.1.Log.length x21) u16.1.Log :: rSl (kI .u8) v15 u13.1 :: rSl kS (.slice none 0 0) ([] : List ByteArray) :: rSl kS (.slice q11 u7.1.Log.length x12) u7.1.Log :: rSl (kI .u8) v6 u4.1 :: rSl kS (.slice q2 ([(ByteArray.mk #[97])] : List ByteArray).length x3) ([(ByteArray.mk #[97])] : List ByteArray) :: rs) := H
 obtain ⟨u28, hx29, hm⟩ := bnd hm
 refine st_call E (wn rfl) rfl rfl (x_call E rfl rfl (cf24 _)) (c_letter_GetAnswer v27 u25.1 H (.head _) hx29) ?_
 clear E H; clear a; clear w; rintro _ w ⟨v30, v31, v32, v33, v34, v35, rfl, H⟩ a E
 refine sv E rfl rfl rfl (x_move E rfl rfl) ?_
 clear a E;intro a E
 refine sv E rfl rfl rfl (x_ext E rfl rfl rfl) ?_
 clear a E;intro a E
 refine sv E rfl rfl rfl (x_ext E rfl rfl rfl) ?_
 clear a E;intro a E
 refine st_alloc E H (wn rfl) rfl rfl (cs := [.int .i64 0, .int .i64 0, .bool false, .int .i64 0, .slice none 0 0, .slice none 0 0, .slice none 0 0, .slice none 0 0, .slice none 0 0, .slice none 0 0]) rfl (z := .agg #[.int .i64 0, .int .i64 0, .bool false, .int .i64 0, .slice none 0 0, .slice none 0 0, .slice none 0 0, .slice none 0 0, .slice none 0 0, .slice none 0 0]) (by kernel_rfl) rfl ?_
 clear E H; clear a; clear w; intro p36 w a H E
 obtain ⟨q37, x38, rfl⟩ := H.slform (.head _)
 obtain ⟨q39, x40, rfl⟩ := H.slform (.tail _ (.head _))
 obtain ⟨q41, x42, rfl⟩ := H.slform (.tail _ (.tail _ (.head _)))
 obtain ⟨q43, x44, rfl⟩ := H.slform (.tail _ (.tail _ (.tail _ (.head _))))
 obtain ⟨q45, x46, rfl⟩ := H.slform (.tail _ (.tail _ (.tail _ (.tail _ (.head _)))))
 obtain ⟨q47, x48, rfl⟩ := H.slform (.tail _ (.tail _ (.tail _ (.tail _ (.tail _ (.head _))))))
 refine st_st (i := 0) E H (wn rfl) rfl (us := [.int .i64 u28.1.Err, .int .i64 u28.1.At, .bool u28.1.Yes, .int .i64 u28.1.Epoch, (.slice q37 u28.1.Results.length x38), (.slice q39 u28.1.Store.Nodes.length x40), (.slice q41 u28.1.Store.Turns.length x42), (.slice q43 u28.1.Events.length x44), (.slice q45 u28.1.Mounts.length x46), (.slice q47 u28.1.Wounded.length x48)]) rfl rfl rfl rfl rfl sz50 rfl rfl ?_
 clear H; clear w; intro w H
 replace H : Sep w (Blk p36 50 [.int .i64 u28.1.Err, .int .i64 u28.1.At, .bool u28.1.Yes, .int .i64 u28.1.Epoch, (.slice q37 u28.1.Results.length x38), (.slice q39 u28.1.Store.Nodes.length x40), (.slice q41 u28.1.Store.Turns.length x42), (.slice q43 u28.1.Events.length x44), (.slice q45 u28.1.Mounts.length x46), (.slice q47 u28.1.Wounded.length x48)] :: Blk p19 24 [.int .i64 u16.1.Kind, .int .i64 u16.1.View, .int .i64 u16.1.Normal, .int .i64 u16.1.Len, .int .i64 u16.1.Stays, (.slice q20 u16.1.Log.length x21), .int .i64 u16.1.Num, .string u16.1.Text] :: Blk p10 26 [.int .i64 u7.1.View, .int .i64 u7.1.Normal, (.slice q11 u7.1.Log.length x12)] :: Fo) _ := H
 refine sv E rfl rfl rfl (x_assign E rfl rfl) ?_
 clear a E;intro a E
 refine wpList_nil ?_
 refine q_then ?_
 refine wp_seq ?_
 refine wp_region_lit ?_
 refine sv E rfl rfl rfl (x_build E (ps := [(1, .const (.int .i64 (-1)))]) (vs := [(1, .int .i64 (-1))]) rfl (by simp only [List.map]; rw [E.eval (x := .const (.int .i64 (-1))) (v := .int .i64 (-1)) rfl]) (v := .agg #[.int .i64 0, .int .i64 (-1), .int .i64 0, .int .i64 0, .int .i64 0, .slice none 0 0, .int .i64 0, .string (ByteArray.mk #[])]) (by kernel_rfl)) ?_
 clear a E;intro a E
 replace H := H.nilSl kS
 replace H : Sep w (Blk p36 50 [.int .i64 u28.1.Err, .int .i64 u28.1.At, .bool u28.1.Yes, .int .i64 u28.1.Epoch, (.slice q37 u28.1.Results.length x38), (.slice q39 u28.1.Store.Nodes.length x40), (.slice q41 u28.1.Store.Turns.length x42), (.slice q43 u28.1.Events.length x44), (.slice q45 u28.1.Mounts.length x46), (.slice q47 u28.1.Wounded.length x48)] :: Blk p19 24 [.int .i64 u16.1.Kind, .int .i64 u16.1.View, .int .i64 u16.1.Normal, .int .i64 u16.1.Len, .int .i64 u16.1.Stays, (.slice q20 u16.1.Log.length x21), .int .i64 u16.1.Num, .string u16.1.Text] :: Blk p10 26 [.int .i64 u7.1.View, .int .i64 u7.1.Normal, (.slice q11 u7.1.Log.length x12)] :: Fo) (rSl kS (.slice none 0 0) ([] : List ByteArray) :: rSl k_api_Result (.slice q37 u28.1.Results.length x38) u28.1.Results :: rSl k_api_Node (.slice q39 u28.1.Store.Nodes.length x40) u28.1.Store.Nodes :: rSl k_api_Turn (.slice q41 u28.1.Store.Turns.length x42) u28.1.Store.Turns :: rSl k_api_Event (.slice q43 u28.1.Events.length x44) u28.1.Events :: rSl k_api_Mount (.slice q45 u28.1.Mounts.length x46) u28.1.Mounts :: rSl (kI .i64) (.slice q47 u28.1.Wounded.length x48) u28.1.Wounded :: rSl (kI .u8) v27 u25.1 :: rSl k_api_Mount (.slice none 0 0) ([] : List S_api_Mount) :: rSl k_api_Event (.slice none 0 0) ([] : List S_api_Event) :: rSl k_api_Turn (.slice none 0 0) ([] : List S_api_Turn) :: rSl k_api_Node (.slice none 0 0) ([] : List S_api_Node) :: rSl k_api_Result (.slice none 0 0) ([] : List S_api_Result) :: rSl (kI .i64) (.slice q23 ([9] : List Int).length x24) ([9] : List Int) :: rSl kS (.slice q20 u16.1.Log.length x21) u16.1.Log :: rSl (kI .u8) v15 u13.1 :: rSl kS (.slice none 0 0) ([] : List ByteArray) :: rSl kS (.slice q11 u7.1.Log.length x12) u7.1.Log :: rSl (kI .u8) v6 u4.1 :: rSl kS (.slice q2 ([(ByteArray.mk #[97])] : List ByteArray).length x3) ([(ByteArray.mk #[97])] : List ByteArray) :: rs) := H
 obtain ⟨u49, hx50, hm⟩ := bnd hm
 refine st_call E (wn rfl) rfl rfl (x_call E rfl rfl (cf11 _)) (c_letter_Put (⟨0, (-1), 0, 0, 0, [], 0, (ByteArray.mk #[])⟩ : S_api_Letter) (.slice none 0 0) H (.head _) hx50) ?_
 clear E H; clear a; clear w; rintro _ w ⟨v51, rfl, H⟩ a E
 refine sv E rfl rfl rfl (x_move E rfl rfl) ?_
 clear a E;intro a E
 refine sv E rfl rfl rfl (x_ext E rfl rfl rfl) ?_
 clear a E;intro a E
 refine sv E rfl rfl rfl (x_ext E rfl rfl rfl) ?_
 clear a E;intro a E
 refine sv E rfl rfl rfl (x_assign E rfl rfl) ?_
 clear a E;intro a E
 refine sv E rfl rfl rfl (x_assign E rfl rfl) ?_
 clear a E;intro a E
 refine wpList_nil ?_
 refine q_then ?_
 refine wp_seq ?_
 refine wp_region_lit ?_
 replace H := H.nilSl (kI .u8)
 replace H : Sep w (Row 5 (kI .u8) v51 u49.1 :: Blk p36 50 [.int .i64 u28.1.Err, .int .i64 u28.1.At, .bool u28.1.Yes, .int .i64 u28.1.Epoch, (.slice q37 u28.1.Results.length x38), (.slice q39 u28.1.Store.Nodes.length x40), (.slice q41 u28.1.Store.Turns.length x42), (.slice q43 u28.1.Events.length x44), (.slice q45 u28.1.Mounts.length x46), (.slice q47 u28.1.Wounded.length x48)] :: Blk p19 24 [.int .i64 u16.1.Kind, .int .i64 u16.1.View, .int .i64 u16.1.Normal, .int .i64 u16.1.Len, .int .i64 u16.1.Stays, (.slice q20 u16.1.Log.length x21), .int .i64 u16.1.Num, .string u16.1.Text] :: Blk p10 26 [.int .i64 u7.1.View, .int .i64 u7.1.Normal, (.slice q11 u7.1.Log.length x12)] :: Fo) (rSl (kI .u8) (.slice none 0 0) ([] : List Int) :: rSl kS (.slice none 0 0) ([] : List ByteArray) :: rSl k_api_Result (.slice q37 u28.1.Results.length x38) u28.1.Results :: rSl k_api_Node (.slice q39 u28.1.Store.Nodes.length x40) u28.1.Store.Nodes :: rSl k_api_Turn (.slice q41 u28.1.Store.Turns.length x42) u28.1.Store.Turns :: rSl k_api_Event (.slice q43 u28.1.Events.length x44) u28.1.Events :: rSl k_api_Mount (.slice q45 u28.1.Mounts.length x46) u28.1.Mounts :: rSl (kI .i64) (.slice q47 u28.1.Wounded.length x48) u28.1.Wounded :: rSl (kI .u8) v27 u25.1 :: rSl k_api_Mount (.slice none 0 0) ([] : List S_api_Mount) :: rSl k_api_Event (.slice none 0 0) ([] : List S_api_Event) :: rSl k_api_Turn (.slice none 0 0) ([] : List S_api_Turn) :: rSl k_api_Node (.slice none 0 0) ([] : List S_api_Node) :: rSl k_api_Result (.slice none 0 0) ([] : List S_api_Result) :: rSl (kI .i64) (.slice q23 ([9] : List Int).length x24) ([9] : List Int) :: rSl kS (.slice q20 u16.1.Log.length x21) u16.1.Log :: rSl (kI .u8) v15 u13.1 :: rSl kS (.slice none 0 0) ([] : List ByteArray) :: rSl kS (.slice q11 u7.1.Log.length x12) u7.1.Log :: rSl (kI .u8) v6 u4.1 :: rSl kS (.slice q2 ([(ByteArray.mk #[97])] : List ByteArray).length x3) ([(ByteArray.mk #[97])] : List ByteArray) :: rs) := H
 obtain ⟨u52, hx53, hm⟩ := bnd hm
 refine st_call E (wn rfl) rfl rfl (x_call E rfl rfl (cf24 _)) (c_letter_GetAnswer (.slice none 0 0) ([] : List Int) H (.head _) hx53) ?_
 clear E H; clear a; clear w; rintro _ w ⟨v54, v55, v56, v57, v58, v59, rfl, H⟩ a E
 refine sv E rfl rfl rfl (x_move E rfl rfl) ?_
 clear a E;intro a E
 refine sv E rfl rfl rfl (x_ext E rfl rfl rfl) ?_
 clear a E;intro a E
 refine sv E rfl rfl rfl (x_ext E rfl rfl rfl) ?_
 clear a E;intro a E
 refine st_alloc E H (wn rfl) rfl rfl (cs := [.int .i64 0, .int .i64 0, .bool false, .int .i64 0, .slice none 0 0, .slice none 0 0, .slice none 0 0, .slice none 0 0, .slice none 0 0, .slice none 0 0]) rfl (z := .agg #[.int .i64 0, .int .i64 0, .bool false, .int .i64 0, .slice none 0 0, .slice none 0 0, .slice none 0 0, .slice none 0 0, .slice none 0 0, .slice none 0 0]) (by kernel_rfl) rfl ?_
 clear E H; clear a; clear w; intro p60 w a H E
 obtain ⟨q61, x62, rfl⟩ := H.slform (.head _)
 obtain ⟨q63, x64, rfl⟩ := H.slform (.tail _ (.head _))
 obtain ⟨q65, x66, rfl⟩ := H.slform (.tail _ (.tail _ (.head _)))
 obtain ⟨q67, x68, rfl⟩ := H.slform (.tail _ (.tail _ (.tail _ (.head _))))
 obtain ⟨q69, x70, rfl⟩ := H.slform (.tail _ (.tail _ (.tail _ (.tail _ (.head _)))))
 obtain ⟨q71, x72, rfl⟩ := H.slform (.tail _ (.tail _ (.tail _ (.tail _ (.tail _ (.head _))))))
 refine st_st (i := 0) E H (wn rfl) rfl (us := [.int .i64 u52.1.Err, .int .i64 u52.1.At, .bool u52.1.Yes, .int .i64 u52.1.Epoch, (.slice q61 u52.1.Results.length x62), (.slice q63 u52.1.Store.Nodes.length x64), (.slice q65 u52.1.Store.Turns.length x66), (.slice q67 u52.1.Events.length x68), (.slice q69 u52.1.Mounts.length x70), (.slice q71 u52.1.Wounded.length x72)]) rfl rfl rfl rfl rfl sz50 rfl rfl ?_
 clear H; clear w; intro w H
 replace H : Sep w (Blk p60 50 [.int .i64 u52.1.Err, .int .i64 u52.1.At, .bool u52.1.Yes, .int .i64 u52.1.Epoch, (.slice q61 u52.1.Results.length x62), (.slice q63 u52.1.Store.Nodes.length x64), (.slice q65 u52.1.Store.Turns.length x66), (.slice q67 u52.1.Events.length x68), (.slice q69 u52.1.Mounts.length x70), (.slice q71 u52.1.Wounded.length x72)] :: Row 5 (kI .u8) v51 u49.1 :: Blk p36 50 [.int .i64 u28.1.Err, .int .i64 u28.1.At, .bool u28.1.Yes, .int .i64 u28.1.Epoch, (.slice q37 u28.1.Results.length x38), (.slice q39 u28.1.Store.Nodes.length x40), (.slice q41 u28.1.Store.Turns.length x42), (.slice q43 u28.1.Events.length x44), (.slice q45 u28.1.Mounts.length x46), (.slice q47 u28.1.Wounded.length x48)] :: Blk p19 24 [.int .i64 u16.1.Kind, .int .i64 u16.1.View, .int .i64 u16.1.Normal, .int .i64 u16.1.Len, .int .i64 u16.1.Stays, (.slice q20 u16.1.Log.length x21), .int .i64 u16.1.Num, .string u16.1.Text] :: Blk p10 26 [.int .i64 u7.1.View, .int .i64 u7.1.Normal, (.slice q11 u7.1.Log.length x12)] :: Fo) _ := H
 refine sv E rfl rfl rfl (x_assign E rfl rfl) ?_
 clear a E;intro a E
 refine wpList_nil ?_
 refine q_then ?_
 refine wp_seq ?_
 refine wp_region_lit ?_
 refine sv E rfl rfl rfl (x_move E rfl rfl) ?_
 clear a E;intro a E
 refine sv E rfl rfl rfl (x_bin E rfl rfl rfl rfl) ?_
 clear a E;intro a E
 refine sv E rfl rfl rfl (x_move E rfl rfl) ?_
 clear a E;intro a E
 rcases Bool.eq_false_or_eq_true (u4.2 == 0) with hb73 | hb73
 ·rw [if_t hb73] at hm
  refine st_val E (ws' E rfl rfl rfl rfl hb73) rfl rfl (x_move E rfl rfl) ?_
  clear a E;intro a E
  refine st_val E (ws' E rfl rfl rfl rfl hb73) rfl rfl (x_b2s E H rfl rfl (.tail _ (.tail _ (.tail _ (.tail _ (.tail _ (.tail _ (.tail _ (.tail _ (.tail _ (.tail _ (.tail _ (.tail _ (.tail _ (.tail _ (.tail _ (.tail _ (.tail _ (.tail _ (.tail _ (.tail _ (.tail _ (.tail _ (.tail _ (.tail _ (.tail _ (.head _)))))))))))))))))))))))))) Try.underlying27 Try.underlying5 Try.underlying9) ?_
  clear a E;intro a E
  refine st_val E (ws' E rfl rfl rfl rfl hb73) rfl rfl (x_str E rfl rfl rfl rfl) ?_
  clear a E;intro a E
  refine sv E rfl rfl rfl (x_pickT E rfl rfl hb73 rfl) ?_
  clear a E;intro a E
  refine sv E rfl rfl rfl (x_move E rfl rfl) ?_
  clear a E;intro a E
  rcases Bool.eq_false_or_eq_true (sEq (strOf u4.1) (ByteArray.mk #[1, 0, 1, 1, 97])) with hb74 | hb74
  ·rw [if_t hb74] at hm
   refine st_val E (ws' E rfl rfl rfl rfl hb74) rfl rfl (x_move E rfl rfl) ?_
   clear a E;intro a E
   refine st_val E (ws' E rfl rfl rfl rfl hb74) rfl rfl (x_bin E rfl rfl rfl rfl) ?_
   clear a E;intro a E
   refine sv E rfl rfl rfl (x_pickT E rfl rfl hb74 rfl) ?_
   clear a E;intro a E
   refine sv E rfl rfl rfl (x_move E rfl rfl) ?_
   clear a E;intro a E
   rcases Bool.eq_false_or_eq_true (u7.2 == 0) with hb75 | hb75
   ·rw [if_t hb75] at hm
    refine st_val E (ws' E rfl rfl rfl rfl hb75) rfl rfl (x_fa E rfl rfl (v := .pointer (some ⟨p10, 0, none⟩)) (fa26_0 _ _)) ?_
    clear a E;intro a E
    refine st_val E (ws' E rfl rfl rfl rfl hb75) rfl rfl (x_ldB (i := 4) E H rfl rfl rfl rfl Try.underlying2 rfl) ?_
    clear a E;intro a E
    refine st_val E (ws' E rfl rfl rfl rfl hb75) rfl rfl (x_bin E rfl rfl rfl rfl) ?_
    clear a E;intro a E
    refine sv E rfl rfl rfl (x_pickT E rfl rfl hb75 rfl) ?_
    clear a E;intro a E
    refine sv E rfl rfl rfl (x_move E rfl rfl) ?_
    clear a E;intro a E
    rcases Bool.eq_false_or_eq_true (u7.1.View == 1) with hb76 | hb76
    ·rw [if_t hb76] at hm
     refine st_val E (ws' E rfl rfl rfl rfl hb76) rfl rfl (x_move E rfl rfl) ?_
     clear a E;intro a E
     refine st_val E (ws' E rfl rfl rfl rfl hb76) rfl rfl (x_bin E rfl rfl rfl rfl) ?_
     clear a E;intro a E
     refine sv E rfl rfl rfl (x_pickT E rfl rfl hb76 rfl) ?_
     clear a E;intro a E
     refine sv E rfl rfl rfl (x_move E rfl rfl) ?_
     clear a E;intro a E
     rcases Bool.eq_false_or_eq_true (u13.2 == 0) with hb77 | hb77
     ·rw [if_t hb77] at hm
      refine st_val E (ws' E rfl rfl rfl rfl hb77) rfl rfl (x_move E rfl rfl) ?_
      clear a E;intro a E
      refine st_val E (ws' E rfl rfl rfl rfl hb77) rfl rfl (x_bin E rfl rfl rfl rfl) ?_
      clear a E;intro a E
      refine sv E rfl rfl rfl (x_pickT E rfl rfl hb77 rfl) ?_
      clear a E;intro a E
      refine sv E rfl rfl rfl (x_move E rfl rfl) ?_
      clear a E;intro a E
      rcases Bool.eq_false_or_eq_true (u16.2 == 0) with hb78 | hb78
      ·rw [if_t hb78] at hm
       refine st_val E (ws' E rfl rfl rfl rfl hb78) rfl rfl (x_fa E rfl rfl (v := .pointer (some ⟨p19, 7, none⟩)) (fa24_7 _ _)) ?_
       clear a E;intro a E
       refine st_val E (ws' E rfl rfl rfl rfl hb78) rfl rfl (x_ldB (i := 3) E H rfl rfl rfl rfl Try.underlying9 rfl) ?_
       clear a E;intro a E
       refine st_val E (ws' E rfl rfl rfl rfl hb78) rfl rfl (x_str E rfl rfl rfl rfl) ?_
       clear a E;intro a E
       refine sv E rfl rfl rfl (x_pickT E rfl rfl hb78 rfl) ?_
       clear a E;intro a E
       refine sv E rfl rfl rfl (x_move E rfl rfl) ?_
       clear a E;intro a E
       rcases Bool.eq_false_or_eq_true (sEq u16.1.Text (ByteArray.mk #[116])) with hb79 | hb79
       ·rw [if_t hb79] at hm
        refine st_val E (ws' E rfl rfl rfl rfl hb79) rfl rfl (x_move E rfl rfl) ?_
        clear a E;intro a E
        refine st_val E (ws' E rfl rfl rfl rfl hb79) rfl rfl (x_bin E rfl rfl rfl rfl) ?_
        clear a E;intro a E
        refine sv E rfl rfl rfl (x_pickT E rfl rfl hb79 rfl) ?_
        clear a E;intro a E
        refine sv E rfl rfl rfl (x_move E rfl rfl) ?_
        clear a E;intro a E
        rcases Bool.eq_false_or_eq_true (u25.2 == 0) with hb80 | hb80
        ·rw [if_t hb80] at hm
         refine st_val E (ws' E rfl rfl rfl rfl hb80) rfl rfl (x_move E rfl rfl) ?_
         clear a E;intro a E
         refine st_val E (ws' E rfl rfl rfl rfl hb80) rfl rfl (x_bin E rfl rfl rfl rfl) ?_
         clear a E;intro a E
         refine sv E rfl rfl rfl (x_pickT E rfl rfl hb80 rfl) ?_
         clear a E;intro a E
         refine sv E rfl rfl rfl (x_move E rfl rfl) ?_
         clear a E;intro a E
         rcases Bool.eq_false_or_eq_true (u28.2 == 0) with hb81 | hb81
         ·rw [if_t hb81] at hm
          refine st_val E (ws' E rfl rfl rfl rfl hb81) rfl rfl (x_fa E rfl rfl (v := .pointer (some ⟨p36, 2, none⟩)) (fa50_2 _ _)) ?_
          clear a E;intro a E
          refine st_val E (ws' E rfl rfl rfl rfl hb81) rfl rfl (x_ldB (i := 2) E H rfl rfl rfl rfl Try.underlying4 rfl) ?_
          clear a E;intro a E
          refine sv E rfl rfl rfl (x_pickT E rfl rfl hb81 rfl) ?_
          clear a E;intro a E
          refine sv E rfl rfl rfl (x_move E rfl rfl) ?_
          clear a E;intro a E
          rcases Bool.eq_false_or_eq_true u28.1.Yes with hb82 | hb82
          ·rw [if_t hb82] at hm
           refine st_val E (ws' E rfl rfl rfl rfl hb82) rfl rfl (x_fa E rfl rfl (v := .pointer (some ⟨p36, 9, none⟩)) (fa50_8 _ _)) ?_
           clear a E;intro a E
           refine st_val E (ws' E rfl rfl rfl rfl hb82) rfl rfl (x_ldB (i := 2) E H rfl rfl rfl rfl Try.underlying48 rfl) ?_
           clear a E;intro a E
           refine st_val E (ws' E rfl rfl rfl rfl hb82) rfl rfl (x_lenS E H rfl rfl (.tail _ (.tail _ (.tail _ (.tail _ (.tail _ (.tail _ (.tail _ (.tail _ (.tail _ (.tail _ (.tail _ (.tail _ (.tail _ (.head _)))))))))))))) Try.underlying48) ?_
           clear a E;intro a E
           refine st_val E (ws' E rfl rfl rfl rfl hb82) rfl rfl (x_bin E rfl rfl rfl rfl) ?_
           clear a E;intro a E
           refine sv E rfl rfl rfl (x_pickT E rfl rfl hb82 rfl) ?_
           clear a E;intro a E
           refine sv E rfl rfl rfl (x_move E rfl rfl) ?_
           clear a E;intro a E
           rcases Bool.eq_false_or_eq_true ((u28.1.Wounded.length : Int) == 1) with hb83 | hb83
           ·rw [if_t hb83] at hm
            refine st_val E (ws' E rfl rfl rfl rfl hb83) rfl rfl (x_move E rfl rfl) ?_
            clear a E;intro a E
            refine st_val E (ws' E rfl rfl rfl rfl hb83) rfl rfl (x_bin E rfl rfl rfl rfl) ?_
            clear a E;intro a E
            refine sv E rfl rfl rfl (x_pickT E rfl rfl hb83 rfl) ?_
            clear a E;intro a E
            refine sv E rfl rfl rfl (x_move E rfl rfl) ?_
            clear a E;intro a E
            rcases Bool.eq_false_or_eq_true (u49.2 == 1) with hb84 | hb84
            ·rw [if_t hb84] at hm
             refine st_val E (ws' E rfl rfl rfl rfl hb84) rfl rfl (x_move E rfl rfl) ?_
             clear a E;intro a E
             refine st_val E (ws' E rfl rfl rfl rfl hb84) rfl rfl (x_bin E rfl rfl rfl rfl) ?_
             clear a E;intro a E
             refine sv E rfl rfl rfl (x_pickT E rfl rfl hb84 rfl) ?_
             clear a E;intro a E
             refine sv E rfl rfl rfl (x_assign E rfl rfl) ?_
             clear a E;intro a E
             refine wpList_nil ?_
             refine q_then ?_
             refine wp_ret ?_
             refine out1 E rfl rfl ?_
             replace H := H.drop 0
             replace H := H.drop 0
             replace H := H.drop 0
             replace H := H.drop 0
             replace H := H.drop 0
             obtain rfl := Option.some.inj hm
             exact ⟨rfl, H.reads (fun r hr => .tail _ (.tail _ (.tail _ (.tail _ (.tail _ (.tail _ (.tail _ (.tail _ (.tail _ (.tail _ (.tail _ (.tail _ (.tail _ (.tail _ (.tail _ (.tail _ (.tail _ (.tail _ (.tail _ (.tail _ (.tail _ (.tail _ (.tail _ (.tail _ (.tail _ (.tail _ (.tail _ (hr))))))))))))))))))))))))))))⟩
            ·rw [if_f hb84] at hm
             refine st_no E (wf' E rfl rfl rfl rfl hb84 rfl) rfl rfl ?_
             clear a E;intro a E
             refine st_no E (wf' E rfl rfl rfl rfl hb84 rfl) rfl rfl ?_
             clear a E;intro a E
             refine sv E rfl rfl rfl (x_pickF E rfl rfl hb84 rfl) ?_
             clear a E;intro a E
             refine sv E rfl rfl rfl (x_assign E rfl rfl) ?_
             clear a E;intro a E
             refine wpList_nil ?_
             refine q_then ?_
             refine wp_ret ?_
             refine out1 E rfl rfl ?_
             replace H := H.drop 0
             replace H := H.drop 0
             replace H := H.drop 0
             replace H := H.drop 0
             replace H := H.drop 0
             obtain rfl := Option.some.inj hm
             exact ⟨rfl, H.reads (fun r hr => .tail _ (.tail _ (.tail _ (.tail _ (.tail _ (.tail _ (.tail _ (.tail _ (.tail _ (.tail _ (.tail _ (.tail _ (.tail _ (.tail _ (.tail _ (.tail _ (.tail _ (.tail _ (.tail _ (.tail _ (.tail _ (.tail _ (.tail _ (.tail _ (.tail _ (.tail _ (.tail _ (hr))))))))))))))))))))))))))))⟩
           ·rw [if_f hb83] at hm
            refine st_no E (wf' E rfl rfl rfl rfl hb83 rfl) rfl rfl ?_
            clear a E;intro a E
            refine st_no E (wf' E rfl rfl rfl rfl hb83 rfl) rfl rfl ?_
            clear a E;intro a E
            refine sv E rfl rfl rfl (x_pickF E rfl rfl hb83 rfl) ?_
            clear a E;intro a E
            refine sv E rfl rfl rfl (x_move E rfl rfl) ?_
            clear a E;intro a E
            refine st_no E (wf E rfl rfl rfl rfl rfl) rfl rfl ?_
            clear a E;intro a E
            refine st_no E (wf E rfl rfl rfl rfl rfl) rfl rfl ?_
            clear a E;intro a E
            refine sv E rfl rfl rfl (x_pickF E rfl rfl rfl rfl) ?_
            clear a E;intro a E
            refine sv E rfl rfl rfl (x_assign E rfl rfl) ?_
            clear a E;intro a E
            refine wpList_nil ?_
            refine q_then ?_
            refine wp_ret ?_
            refine out1 E rfl rfl ?_
            replace H := H.drop 0
            replace H := H.drop 0
            replace H := H.drop 0
            replace H := H.drop 0
            replace H := H.drop 0
            obtain rfl := Option.some.inj hm
            exact ⟨rfl, H.reads (fun r hr => .tail _ (.tail _ (.tail _ (.tail _ (.tail _ (.tail _ (.tail _ (.tail _ (.tail _ (.tail _ (.tail _ (.tail _ (.tail _ (.tail _ (.tail _ (.tail _ (.tail _ (.tail _ (.tail _ (.tail _ (.tail _ (.tail _ (.tail _ (.tail _ (.tail _ (.tail _ (.tail _ (hr))))))))))))))))))))))))))))⟩
          ·rw [if_f hb82] at hm
           refine st_no E (wf' E rfl rfl rfl rfl hb82 rfl) rfl rfl ?_
           clear a E;intro a E
           refine st_no E (wf' E rfl rfl rfl rfl hb82 rfl) rfl rfl ?_
           clear a E;intro a E
           refine st_no E (wf' E rfl rfl rfl rfl hb82 rfl) rfl rfl ?_
           clear a E;intro a E
           refine st_no E (wf' E rfl rfl rfl rfl hb82 rfl) rfl rfl ?_
           clear a E;intro a E
           refine sv E rfl rfl rfl (x_pickF E rfl rfl hb82 rfl) ?_
           clear a E;intro a E
           refine sv E rfl rfl rfl (x_move E rfl rfl) ?_
           clear a E;intro a E
           refine st_no E (wf E rfl rfl rfl rfl rfl) rfl rfl ?_
           clear a E;intro a E
           refine st_no E (wf E rfl rfl rfl rfl rfl) rfl rfl ?_
           clear a E;intro a E
           refine sv E rfl rfl rfl (x_pickF E rfl rfl rfl rfl) ?_
           clear a E;intro a E
           refine sv E rfl rfl rfl (x_move E rfl rfl) ?_
           clear a E;intro a E
           refine st_no E (wf E rfl rfl rfl rfl rfl) rfl rfl ?_
           clear a E;intro a E
           refine st_no E (wf E rfl rfl rfl rfl rfl) rfl rfl ?_
           clear a E;intro a E
           refine sv E rfl rfl rfl (x_pickF E rfl rfl rfl rfl) ?_
           clear a E;intro a E
           refine sv E rfl rfl rfl (x_assign E rfl rfl) ?_
           clear a E;intro a E
           refine wpList_nil ?_
           refine q_then ?_
           refine wp_ret ?_
           refine out1 E rfl rfl ?_
           replace H := H.drop 0
           replace H := H.drop 0
           replace H := H.drop 0
           replace H := H.drop 0
           replace H := H.drop 0
           obtain rfl := Option.some.inj hm
           exact ⟨rfl, H.reads (fun r hr => .tail _ (.tail _ (.tail _ (.tail _ (.tail _ (.tail _ (.tail _ (.tail _ (.tail _ (.tail _ (.tail _ (.tail _ (.tail _ (.tail _ (.tail _ (.tail _ (.tail _ (.tail _ (.tail _ (.tail _ (.tail _ (.tail _ (.tail _ (.tail _ (.tail _ (.tail _ (.tail _ (hr))))))))))))))))))))))))))))⟩
         ·rw [if_f hb81] at hm
          refine st_no E (wf' E rfl rfl rfl rfl hb81 rfl) rfl rfl ?_
          clear a E;intro a E
          refine st_no E (wf' E rfl rfl rfl rfl hb81 rfl) rfl rfl ?_
          clear a E;intro a E
          refine sv E rfl rfl rfl (x_pickF E rfl rfl hb81 rfl) ?_
          clear a E;intro a E
          refine sv E rfl rfl rfl (x_move E rfl rfl) ?_
          clear a E;intro a E
          refine st_no E (wf E rfl rfl rfl rfl rfl) rfl rfl ?_
          clear a E;intro a E
          refine st_no E (wf E rfl rfl rfl rfl rfl) rfl rfl ?_
          clear a E;intro a E
          refine st_no E (wf E rfl rfl rfl rfl rfl) rfl rfl ?_
          clear a E;intro a E
          refine st_no E (wf E rfl rfl rfl rfl rfl) rfl rfl ?_
          clear a E;intro a E
          refine sv E rfl rfl rfl (x_pickF E rfl rfl rfl rfl) ?_
          clear a E;intro a E
          refine sv E rfl rfl rfl (x_move E rfl rfl) ?_
          clear a E;intro a E
          refine st_no E (wf E rfl rfl rfl rfl rfl) rfl rfl ?_
          clear a E;intro a E
          refine st_no E (wf E rfl rfl rfl rfl rfl) rfl rfl ?_
          clear a E;intro a E
          refine sv E rfl rfl rfl (x_pickF E rfl rfl rfl rfl) ?_
          clear a E;intro a E
          refine sv E rfl rfl rfl (x_move E rfl rfl) ?_
          clear a E;intro a E
          refine st_no E (wf E rfl rfl rfl rfl rfl) rfl rfl ?_
          clear a E;intro a E
          refine st_no E (wf E rfl rfl rfl rfl rfl) rfl rfl ?_
          clear a E;intro a E
          refine sv E rfl rfl rfl (x_pickF E rfl rfl rfl rfl) ?_
          clear a E;intro a E
          refine sv E rfl rfl rfl (x_assign E rfl rfl) ?_
          clear a E;intro a E
          refine wpList_nil ?_
          refine q_then ?_
          refine wp_ret ?_
          refine out1 E rfl rfl ?_
          replace H := H.drop 0
          replace H := H.drop 0
          replace H := H.drop 0
          replace H := H.drop 0
          replace H := H.drop 0
          obtain rfl := Option.some.inj hm
          exact ⟨rfl, H.reads (fun r hr => .tail _ (.tail _ (.tail _ (.tail _ (.tail _ (.tail _ (.tail _ (.tail _ (.tail _ (.tail _ (.tail _ (.tail _ (.tail _ (.tail _ (.tail _ (.tail _ (.tail _ (.tail _ (.tail _ (.tail _ (.tail _ (.tail _ (.tail _ (.tail _ (.tail _ (.tail _ (.tail _ (hr))))))))))))))))))))))))))))⟩
        ·rw [if_f hb80] at hm
         refine st_no E (wf' E rfl rfl rfl rfl hb80 rfl) rfl rfl ?_
         clear a E;intro a E
         refine st_no E (wf' E rfl rfl rfl rfl hb80 rfl) rfl rfl ?_
         clear a E;intro a E
         refine sv E rfl rfl rfl (x_pickF E rfl rfl hb80 rfl) ?_
         clear a E;intro a E
         refine sv E rfl rfl rfl (x_move E rfl rfl) ?_
         clear a E;intro a E
         refine st_no E (wf E rfl rfl rfl rfl rfl) rfl rfl ?_
         clear a E;intro a E
         refine st_no E (wf E rfl rfl rfl rfl rfl) rfl rfl ?_
         clear a E;intro a E
         refine sv E rfl rfl rfl (x_pickF E rfl rfl rfl rfl) ?_
         clear a E;intro a E
         refine sv E rfl rfl rfl (x_move E rfl rfl) ?_
         clear a E;intro a E
         refine st_no E (wf E rfl rfl rfl rfl rfl) rfl rfl ?_
         clear a E;intro a E
         refine st_no E (wf E rfl rfl rfl rfl rfl) rfl rfl ?_
         clear a E;intro a E
         refine st_no E (wf E rfl rfl rfl rfl rfl) rfl rfl ?_
         clear a E;intro a E
         refine st_no E (wf E rfl rfl rfl rfl rfl) rfl rfl ?_
         clear a E;intro a E
         refine sv E rfl rfl rfl (x_pickF E rfl rfl rfl rfl) ?_
         clear a E;intro a E
         refine sv E rfl rfl rfl (x_move E rfl rfl) ?_
         clear a E;intro a E
         refine st_no E (wf E rfl rfl rfl rfl rfl) rfl rfl ?_
         clear a E;intro a E
         refine st_no E (wf E rfl rfl rfl rfl rfl) rfl rfl ?_
         clear a E;intro a E
         refine sv E rfl rfl rfl (x_pickF E rfl rfl rfl rfl) ?_
         clear a E;intro a E
         refine sv E rfl rfl rfl (x_move E rfl rfl) ?_
         clear a E;intro a E
         refine st_no E (wf E rfl rfl rfl rfl rfl) rfl rfl ?_
         clear a E;intro a E
         refine st_no E (wf E rfl rfl rfl rfl rfl) rfl rfl ?_
         clear a E;intro a E
         refine sv E rfl rfl rfl (x_pickF E rfl rfl rfl rfl) ?_
         clear a E;intro a E
         refine sv E rfl rfl rfl (x_assign E rfl rfl) ?_
         clear a E;intro a E
         refine wpList_nil ?_
         refine q_then ?_
         refine wp_ret ?_
         refine out1 E rfl rfl ?_
         replace H := H.drop 0
         replace H := H.drop 0
         replace H := H.drop 0
         replace H := H.drop 0
         replace H := H.drop 0
         obtain rfl := Option.some.inj hm
         exact ⟨rfl, H.reads (fun r hr => .tail _ (.tail _ (.tail _ (.tail _ (.tail _ (.tail _ (.tail _ (.tail _ (.tail _ (.tail _ (.tail _ (.tail _ (.tail _ (.tail _ (.tail _ (.tail _ (.tail _ (.tail _ (.tail _ (.tail _ (.tail _ (.tail _ (.tail _ (.tail _ (.tail _ (.tail _ (.tail _ (hr))))))))))))))))))))))))))))⟩
       ·rw [if_f hb79] at hm
        refine st_no E (wf' E rfl rfl rfl rfl hb79 rfl) rfl rfl ?_
        clear a E;intro a E
        refine st_no E (wf' E rfl rfl rfl rfl hb79 rfl) rfl rfl ?_
        clear a E;intro a E
        refine sv E rfl rfl rfl (x_pickF E rfl rfl hb79 rfl) ?_
        clear a E;intro a E
        refine sv E rfl rfl rfl (x_move E rfl rfl) ?_
        clear a E;intro a E
        refine st_no E (wf E rfl rfl rfl rfl rfl) rfl rfl ?_
        clear a E;intro a E
        refine st_no E (wf E rfl rfl rfl rfl rfl) rfl rfl ?_
        clear a E;intro a E
        refine sv E rfl rfl rfl (x_pickF E rfl rfl rfl rfl) ?_
        clear a E;intro a E
        refine sv E rfl rfl rfl (x_move E rfl rfl) ?_
        clear a E;intro a E
        refine st_no E (wf E rfl rfl rfl rfl rfl) rfl rfl ?_
        clear a E;intro a E
        refine st_no E (wf E rfl rfl rfl rfl rfl) rfl rfl ?_
        clear a E;intro a E
        refine sv E rfl rfl rfl (x_pickF E rfl rfl rfl rfl) ?_
        clear a E;intro a E
        refine sv E rfl rfl rfl (x_move E rfl rfl) ?_
        clear a E;intro a E
        refine st_no E (wf E rfl rfl rfl rfl rfl) rfl rfl ?_
        clear a E;intro a E
        refine st_no E (wf E rfl rfl rfl rfl rfl) rfl rfl ?_
        clear a E;intro a E
        refine st_no E (wf E rfl rfl rfl rfl rfl) rfl rfl ?_
        clear a E;intro a E
        refine st_no E (wf E rfl rfl rfl rfl rfl) rfl rfl ?_
        clear a E;intro a E
        refine sv E rfl rfl rfl (x_pickF E rfl rfl rfl rfl) ?_
        clear a E;intro a E
        refine sv E rfl rfl rfl (x_move E rfl rfl) ?_
        clear a E;intro a E
        refine st_no E (wf E rfl rfl rfl rfl rfl) rfl rfl ?_
        clear a E;intro a E
        refine st_no E (wf E rfl rfl rfl rfl rfl) rfl rfl ?_
        clear a E;intro a E
        refine sv E rfl rfl rfl (x_pickF E rfl rfl rfl rfl) ?_
        clear a E;intro a E
        refine sv E rfl rfl rfl (x_move E rfl rfl) ?_
        clear a E;intro a E
        refine st_no E (wf E rfl rfl rfl rfl rfl) rfl rfl ?_
        clear a E;intro a E
        refine st_no E (wf E rfl rfl rfl rfl rfl) rfl rfl ?_
        clear a E;intro a E
        refine sv E rfl rfl rfl (x_pickF E rfl rfl rfl rfl) ?_
        clear a E;intro a E
        refine sv E rfl rfl rfl (x_assign E rfl rfl) ?_
        clear a E;intro a E
        refine wpList_nil ?_
        refine q_then ?_
        refine wp_ret ?_
        refine out1 E rfl rfl ?_
        replace H := H.drop 0
        replace H := H.drop 0
        replace H := H.drop 0
        replace H := H.drop 0
        replace H := H.drop 0
        obtain rfl := Option.some.inj hm
        exact ⟨rfl, H.reads (fun r hr => .tail _ (.tail _ (.tail _ (.tail _ (.tail _ (.tail _ (.tail _ (.tail _ (.tail _ (.tail _ (.tail _ (.tail _ (.tail _ (.tail _ (.tail _ (.tail _ (.tail _ (.tail _ (.tail _ (.tail _ (.tail _ (.tail _ (.tail _ (.tail _ (.tail _ (.tail _ (.tail _ (hr))))))))))))))))))))))))))))⟩
      ·rw [if_f hb78] at hm
       refine st_no E (wf' E rfl rfl rfl rfl hb78 rfl) rfl rfl ?_
       clear a E;intro a E
       refine st_no E (wf' E rfl rfl rfl rfl hb78 rfl) rfl rfl ?_
       clear a E;intro a E
       refine st_no E (wf' E rfl rfl rfl rfl hb78 rfl) rfl rfl ?_
       clear a E;intro a E
       refine sv E rfl rfl rfl (x_pickF E rfl rfl hb78 rfl) ?_
       clear a E;intro a E
       refine sv E rfl rfl rfl (x_move E rfl rfl) ?_
       clear a E;intro a E
       refine st_no E (wf E rfl rfl rfl rfl rfl) rfl rfl ?_
       clear a E;intro a E
       refine st_no E (wf E rfl rfl rfl rfl rfl) rfl rfl ?_
       clear a E;intro a E
       refine sv E rfl rfl rfl (x_pickF E rfl rfl rfl rfl) ?_
       clear a E;intro a E
       refine sv E rfl rfl rfl (x_move E rfl rfl) ?_
       clear a E;intro a E
       refine st_no E (wf E rfl rfl rfl rfl rfl) rfl rfl ?_
       clear a E;intro a E
       refine st_no E (wf E rfl rfl rfl rfl rfl) rfl rfl ?_
       clear a E;intro a E
       refine sv E rfl rfl rfl (x_pickF E rfl rfl rfl rfl) ?_
       clear a E;intro a E
       refine sv E rfl rfl rfl (x_move E rfl rfl) ?_
       clear a E;intro a E
       refine st_no E (wf E rfl rfl rfl rfl rfl) rfl rfl ?_
       clear a E;intro a E
       refine st_no E (wf E rfl rfl rfl rfl rfl) rfl rfl ?_
       clear a E;intro a E
       refine sv E rfl rfl rfl (x_pickF E rfl rfl rfl rfl) ?_
       clear a E;intro a E
       refine sv E rfl rfl rfl (x_move E rfl rfl) ?_
       clear a E;intro a E
       refine st_no E (wf E rfl rfl rfl rfl rfl) rfl rfl ?_
       clear a E;intro a E
       refine st_no E (wf E rfl rfl rfl rfl rfl) rfl rfl ?_
       clear a E;intro a E
       refine st_no E (wf E rfl rfl rfl rfl rfl) rfl rfl ?_
       clear a E;intro a E
       refine st_no E (wf E rfl rfl rfl rfl rfl) rfl rfl ?_
       clear a E;intro a E
       refine sv E rfl rfl rfl (x_pickF E rfl rfl rfl rfl) ?_
       clear a E;intro a E
       refine sv E rfl rfl rfl (x_move E rfl rfl) ?_
       clear a E;intro a E
       refine st_no E (wf E rfl rfl rfl rfl rfl) rfl rfl ?_
       clear a E;intro a E
       refine st_no E (wf E rfl rfl rfl rfl rfl) rfl rfl ?_
       clear a E;intro a E
       refine sv E rfl rfl rfl (x_pickF E rfl rfl rfl rfl) ?_
       clear a E;intro a E
       refine sv E rfl rfl rfl (x_move E rfl rfl) ?_
       clear a E;intro a E
       refine st_no E (wf E rfl rfl rfl rfl rfl) rfl rfl ?_
       clear a E;intro a E
       refine st_no E (wf E rfl rfl rfl rfl rfl) rfl rfl ?_
       clear a E;intro a E
       refine sv E rfl rfl rfl (x_pickF E rfl rfl rfl rfl) ?_
       clear a E;intro a E
       refine sv E rfl rfl rfl (x_assign E rfl rfl) ?_
       clear a E;intro a E
       refine wpList_nil ?_
       refine q_then ?_
       refine wp_ret ?_
       refine out1 E rfl rfl ?_
       replace H := H.drop 0
       replace H := H.drop 0
       replace H := H.drop 0
       replace H := H.drop 0
       replace H := H.drop 0
       obtain rfl := Option.some.inj hm
       exact ⟨rfl, H.reads (fun r hr => .tail _ (.tail _ (.tail _ (.tail _ (.tail _ (.tail _ (.tail _ (.tail _ (.tail _ (.tail _ (.tail _ (.tail _ (.tail _ (.tail _ (.tail _ (.tail _ (.tail _ (.tail _ (.tail _ (.tail _ (.tail _ (.tail _ (.tail _ (.tail _ (.tail _ (.tail _ (.tail _ (hr))))))))))))))))))))))))))))⟩
     ·rw [if_f hb77] at hm
      refine st_no E (wf' E rfl rfl rfl rfl hb77 rfl) rfl rfl ?_
      clear a E;intro a E
      refine st_no E (wf' E rfl rfl rfl rfl hb77 rfl) rfl rfl ?_
      clear a E;intro a E
      refine sv E rfl rfl rfl (x_pickF E rfl rfl hb77 rfl) ?_
      clear a E;intro a E
      refine sv E rfl rfl rfl (x_move E rfl rfl) ?_
      clear a E;intro a E
      refine st_no E (wf E rfl rfl rfl rfl rfl) rfl rfl ?_
      clear a E;intro a E
      refine st_no E (wf E rfl rfl rfl rfl rfl) rfl rfl ?_
      clear a E;intro a E
      refine st_no E (wf E rfl rfl rfl rfl rfl) rfl rfl ?_
      clear a E;intro a E
      refine sv E rfl rfl rfl (x_pickF E rfl rfl rfl rfl) ?_
      clear a E;intro a E
      refine sv E rfl rfl rfl (x_move E rfl rfl) ?_
      clear a E;intro a E
      refine st_no E (wf E rfl rfl rfl rfl rfl) rfl rfl ?_
      clear a E;intro a E
      refine st_no E (wf E rfl rfl rfl rfl rfl) rfl rfl ?_
      clear a E;intro a E
      refine sv E rfl rfl rfl (x_pickF E rfl rfl rfl rfl) ?_
      clear a E;intro a E
      refine sv E rfl rfl rfl (x_move E rfl rfl) ?_
      clear a E;intro a E
      refine st_no E (wf E rfl rfl rfl rfl rfl) rfl rfl ?_
      clear a E;intro a E
      refine st_no E (wf E rfl rfl rfl rfl rfl) rfl rfl ?_
      clear a E;intro a E
      refine sv E rfl rfl rfl (x_pickF E rfl rfl rfl rfl) ?_
      clear a E;intro a E
      refine sv E rfl rfl rfl (x_move E rfl rfl) ?_
      clear a E;intro a E
      refine st_no E (wf E rfl rfl rfl rfl rfl) rfl rfl ?_
      clear a E;intro a E
      refine st_no E (wf E rfl rfl rfl rfl rfl) rfl rfl ?_
      clear a E;intro a E
      refine sv E rfl rfl rfl (x_pickF E rfl rfl rfl rfl) ?_
      clear a E;intro a E
      refine sv E rfl rfl rfl (x_move E rfl rfl) ?_
      clear a E;intro a E
      refine st_no E (wf E rfl rfl rfl rfl rfl) rfl rfl ?_
      clear a E;intro a E
      refine st_no E (wf E rfl rfl rfl rfl rfl) rfl rfl ?_
      clear a E;intro a E
      refine st_no E (wf E rfl rfl rfl rfl rfl) rfl rfl ?_
      clear a E;intro a E
      refine st_no E (wf E rfl rfl rfl rfl rfl) rfl rfl ?_
      clear a E;intro a E
      refine sv E rfl rfl rfl (x_pickF E rfl rfl rfl rfl) ?_
      clear a E;intro a E
      refine sv E rfl rfl rfl (x_move E rfl rfl) ?_
      clear a E;intro a E
      refine st_no E (wf E rfl rfl rfl rfl rfl) rfl rfl ?_
      clear a E;intro a E
      refine st_no E (wf E rfl rfl rfl rfl rfl) rfl rfl ?_
      clear a E;intro a E
      refine sv E rfl rfl rfl (x_pickF E rfl rfl rfl rfl) ?_
      clear a E;intro a E
      refine sv E rfl rfl rfl (x_move E rfl rfl) ?_
      clear a E;intro a E
      refine st_no E (wf E rfl rfl rfl rfl rfl) rfl rfl ?_
      clear a E;intro a E
      refine st_no E (wf E rfl rfl rfl rfl rfl) rfl rfl ?_
      clear a E;intro a E
      refine sv E rfl rfl rfl (x_pickF E rfl rfl rfl rfl) ?_
      clear a E;intro a E
      refine sv E rfl rfl rfl (x_assign E rfl rfl) ?_
      clear a E;intro a E
      refine wpList_nil ?_
      refine q_then ?_
      refine wp_ret ?_
      refine out1 E rfl rfl ?_
      replace H := H.drop 0
      replace H := H.drop 0
      replace H := H.drop 0
      replace H := H.drop 0
      replace H := H.drop 0
      obtain rfl := Option.some.inj hm
      exact ⟨rfl, H.reads (fun r hr => .tail _ (.tail _ (.tail _ (.tail _ (.tail _ (.tail _ (.tail _ (.tail _ (.tail _ (.tail _ (.tail _ (.tail _ (.tail _ (.tail _ (.tail _ (.tail _ (.tail _ (.tail _ (.tail _ (.tail _ (.tail _ (.tail _ (.tail _ (.tail _ (.tail _ (.tail _ (.tail _ (hr))))))))))))))))))))))))))))⟩
    ·rw [if_f hb76] at hm
     refine st_no E (wf' E rfl rfl rfl rfl hb76 rfl) rfl rfl ?_
     clear a E;intro a E
     refine st_no E (wf' E rfl rfl rfl rfl hb76 rfl) rfl rfl ?_
     clear a E;intro a E
     refine sv E rfl rfl rfl (x_pickF E rfl rfl hb76 rfl) ?_
     clear a E;intro a E
     refine sv E rfl rfl rfl (x_move E rfl rfl) ?_
     clear a E;intro a E
     refine st_no E (wf E rfl rfl rfl rfl rfl) rfl rfl ?_
     clear a E;intro a E
     refine st_no E (wf E rfl rfl rfl rfl rfl) rfl rfl ?_
     clear a E;intro a E
     refine sv E rfl rfl rfl (x_pickF E rfl rfl rfl rfl) ?_
     clear a E;intro a E
     refine sv E rfl rfl rfl (x_move E rfl rfl) ?_
     clear a E;intro a E
     refine st_no E (wf E rfl rfl rfl rfl rfl) rfl rfl ?_
     clear a E;intro a E
     refine st_no E (wf E rfl rfl rfl rfl rfl) rfl rfl ?_
     clear a E;intro a E
     refine st_no E (wf E rfl rfl rfl rfl rfl) rfl rfl ?_
     clear a E;intro a E
     refine sv E rfl rfl rfl (x_pickF E rfl rfl rfl rfl) ?_
     clear a E;intro a E
     refine sv E rfl rfl rfl (x_move E rfl rfl) ?_
     clear a E;intro a E
     refine st_no E (wf E rfl rfl rfl rfl rfl) rfl rfl ?_
     clear a E;intro a E
     refine st_no E (wf E rfl rfl rfl rfl rfl) rfl rfl ?_
     clear a E;intro a E
     refine sv E rfl rfl rfl (x_pickF E rfl rfl rfl rfl) ?_
     clear a E;intro a E
     refine sv E rfl rfl rfl (x_move E rfl rfl) ?_
     clear a E;intro a E
     refine st_no E (wf E rfl rfl rfl rfl rfl) rfl rfl ?_
     clear a E;intro a E
     refine st_no E (wf E rfl rfl rfl rfl rfl) rfl rfl ?_
     clear a E;intro a E
     refine sv E rfl rfl rfl (x_pickF E rfl rfl rfl rfl) ?_
     clear a E;intro a E
     refine sv E rfl rfl rfl (x_move E rfl rfl) ?_
     clear a E;intro a E
     refine st_no E (wf E rfl rfl rfl rfl rfl) rfl rfl ?_
     clear a E;intro a E
     refine st_no E (wf E rfl rfl rfl rfl rfl) rfl rfl ?_
     clear a E;intro a E
     refine sv E rfl rfl rfl (x_pickF E rfl rfl rfl rfl) ?_
     clear a E;intro a E
     refine sv E rfl rfl rfl (x_move E rfl rfl) ?_
     clear a E;intro a E
     refine st_no E (wf E rfl rfl rfl rfl rfl) rfl rfl ?_
     clear a E;intro a E
     refine st_no E (wf E rfl rfl rfl rfl rfl) rfl rfl ?_
     clear a E;intro a E
     refine st_no E (wf E rfl rfl rfl rfl rfl) rfl rfl ?_
     clear a E;intro a E
     refine st_no E (wf E rfl rfl rfl rfl rfl) rfl rfl ?_
     clear a E;intro a E
     refine sv E rfl rfl rfl (x_pickF E rfl rfl rfl rfl) ?_
     clear a E;intro a E
     refine sv E rfl rfl rfl (x_move E rfl rfl) ?_
     clear a E;intro a E
     refine st_no E (wf E rfl rfl rfl rfl rfl) rfl rfl ?_
     clear a E;intro a E
     refine st_no E (wf E rfl rfl rfl rfl rfl) rfl rfl ?_
     clear a E;intro a E
     refine sv E rfl rfl rfl (x_pickF E rfl rfl rfl rfl) ?_
     clear a E;intro a E
     refine sv E rfl rfl rfl (x_move E rfl rfl) ?_
     clear a E;intro a E
     refine st_no E (wf E rfl rfl rfl rfl rfl) rfl rfl ?_
     clear a E;intro a E
     refine st_no E (wf E rfl rfl rfl rfl rfl) rfl rfl ?_
     clear a E;intro a E
     refine sv E rfl rfl rfl (x_pickF E rfl rfl rfl rfl) ?_
     clear a E;intro a E
     refine sv E rfl rfl rfl (x_assign E rfl rfl) ?_
     clear a E;intro a E
     refine wpList_nil ?_
     refine q_then ?_
     refine wp_ret ?_
     refine out1 E rfl rfl ?_
     replace H := H.drop 0
     replace H := H.drop 0
     replace H := H.drop 0
     replace H := H.drop 0
     replace H := H.drop 0
     obtain rfl := Option.some.inj hm
     exact ⟨rfl, H.reads (fun r hr => .tail _ (.tail _ (.tail _ (.tail _ (.tail _ (.tail _ (.tail _ (.tail _ (.tail _ (.tail _ (.tail _ (.tail _ (.tail _ (.tail _ (.tail _ (.tail _ (.tail _ (.tail _ (.tail _ (.tail _ (.tail _ (.tail _ (.tail _ (.tail _ (.tail _ (.tail _ (.tail _ (hr))))))))))))))))))))))))))))⟩
   ·rw [if_f hb75] at hm
    refine st_no E (wf' E rfl rfl rfl rfl hb75 rfl) rfl rfl ?_
    clear a E;intro a E
    refine st_no E (wf' E rfl rfl rfl rfl hb75 rfl) rfl rfl ?_
    clear a E;intro a E
    refine st_no E (wf' E rfl rfl rfl rfl hb75 rfl) rfl rfl ?_
    clear a E;intro a E
    refine sv E rfl rfl rfl (x_pickF E rfl rfl hb75 rfl) ?_
    clear a E;intro a E
    refine sv E rfl rfl rfl (x_move E rfl rfl) ?_
    clear a E;intro a E
    refine st_no E (wf E rfl rfl rfl rfl rfl) rfl rfl ?_
    clear a E;intro a E
    refine st_no E (wf E rfl rfl rfl rfl rfl) rfl rfl ?_
    clear a E;intro a E
    refine sv E rfl rfl rfl (x_pickF E rfl rfl rfl rfl) ?_
    clear a E;intro a E
    refine sv E rfl rfl rfl (x_move E rfl rfl) ?_
    clear a E;intro a E
    refine st_no E (wf E rfl rfl rfl rfl rfl) rfl rfl ?_
    clear a E;intro a E
    refine st_no E (wf E rfl rfl rfl rfl rfl) rfl rfl ?_
    clear a E;intro a E
    refine sv E rfl rfl rfl (x_pickF E rfl rfl rfl rfl) ?_
    clear a E;intro a E
    refine sv E rfl rfl rfl (x_move E rfl rfl) ?_
    clear a E;intro a E
    refine st_no E (wf E rfl rfl rfl rfl rfl) rfl rfl ?_
    clear a E;intro a E
    refine st_no E (wf E rfl rfl rfl rfl rfl) rfl rfl ?_
    clear a E;intro a E
    refine st_no E (wf E rfl rfl rfl rfl rfl) rfl rfl ?_
    clear a E;intro a E
    refine sv E rfl rfl rfl (x_pickF E rfl rfl rfl rfl) ?_
    clear a E;intro a E
    refine sv E rfl rfl rfl (x_move E rfl rfl) ?_
    clear a E;intro a E
    refine st_no E (wf E rfl rfl rfl rfl rfl) rfl rfl ?_
    clear a E;intro a E
    refine st_no E (wf E rfl rfl rfl rfl rfl) rfl rfl ?_
    clear a E;intro a E
    refine sv E rfl rfl rfl (x_pickF E rfl rfl rfl rfl) ?_
    clear a E;intro a E
    refine sv E rfl rfl rfl (x_move E rfl rfl) ?_
    clear a E;intro a E
    refine st_no E (wf E rfl rfl rfl rfl rfl) rfl rfl ?_
    clear a E;intro a E
    refine st_no E (wf E rfl rfl rfl rfl rfl) rfl rfl ?_
    clear a E;intro a E
    refine sv E rfl rfl rfl (x_pickF E rfl rfl rfl rfl) ?_
    clear a E;intro a E
    refine sv E rfl rfl rfl (x_move E rfl rfl) ?_
    clear a E;intro a E
    refine st_no E (wf E rfl rfl rfl rfl rfl) rfl rfl ?_
    clear a E;intro a E
    refine st_no E (wf E rfl rfl rfl rfl rfl) rfl rfl ?_
    clear a E;intro a E
    refine sv E rfl rfl rfl (x_pickF E rfl rfl rfl rfl) ?_
    clear a E;intro a E
    refine sv E rfl rfl rfl (x_move E rfl rfl) ?_
    clear a E;intro a E
    refine st_no E (wf E rfl rfl rfl rfl rfl) rfl rfl ?_
    clear a E;intro a E
    refine st_no E (wf E rfl rfl rfl rfl rfl) rfl rfl ?_
    clear a E;intro a E
    refine st_no E (wf E rfl rfl rfl rfl rfl) rfl rfl ?_
    clear a E;intro a E
    refine st_no E (wf E rfl rfl rfl rfl rfl) rfl rfl ?_
    clear a E;intro a E
    refine sv E rfl rfl rfl (x_pickF E rfl rfl rfl rfl) ?_
    clear a E;intro a E
    refine sv E rfl rfl rfl (x_move E rfl rfl) ?_
    clear a E;intro a E
    refine st_no E (wf E rfl rfl rfl rfl rfl) rfl rfl ?_
    clear a E;intro a E
    refine st_no E (wf E rfl rfl rfl rfl rfl) rfl rfl ?_
    clear a E;intro a E
    refine sv E rfl rfl rfl (x_pickF E rfl rfl rfl rfl) ?_
    clear a E;intro a E
    refine sv E rfl rfl rfl (x_move E rfl rfl) ?_
    clear a E;intro a E
    refine st_no E (wf E rfl rfl rfl rfl rfl) rfl rfl ?_
    clear a E;intro a E
    refine st_no E (wf E rfl rfl rfl rfl rfl) rfl rfl ?_
    clear a E;intro a E
    refine sv E rfl rfl rfl (x_pickF E rfl rfl rfl rfl) ?_
    clear a E;intro a E
    refine sv E rfl rfl rfl (x_assign E rfl rfl) ?_
    clear a E;intro a E
    refine wpList_nil ?_
    refine q_then ?_
    refine wp_ret ?_
    refine out1 E rfl rfl ?_
    replace H := H.drop 0
    replace H := H.drop 0
    replace H := H.drop 0
    replace H := H.drop 0
    replace H := H.drop 0
    obtain rfl := Option.some.inj hm
    exact ⟨rfl, H.reads (fun r hr => .tail _ (.tail _ (.tail _ (.tail _ (.tail _ (.tail _ (.tail _ (.tail _ (.tail _ (.tail _ (.tail _ (.tail _ (.tail _ (.tail _ (.tail _ (.tail _ (.tail _ (.tail _ (.tail _ (.tail _ (.tail _ (.tail _ (.tail _ (.tail _ (.tail _ (.tail _ (.tail _ (hr))))))))))))))))))))))))))))⟩
  ·rw [if_f hb74] at hm
   refine st_no E (wf' E rfl rfl rfl rfl hb74 rfl) rfl rfl ?_
   clear a E;intro a E
   refine st_no E (wf' E rfl rfl rfl rfl hb74 rfl) rfl rfl ?_
   clear a E;intro a E
   refine sv E rfl rfl rfl (x_pickF E rfl rfl hb74 rfl) ?_
   clear a E;intro a E
   refine sv E rfl rfl rfl (x_move E rfl rfl) ?_
   clear a E;intro a E
   refine st_no E (wf E rfl rfl rfl rfl rfl) rfl rfl ?_
   clear a E;intro a E
   refine st_no E (wf E rfl rfl rfl rfl rfl) rfl rfl ?_
   clear a E;intro a E
   refine st_no E (wf E rfl rfl rfl rfl rfl) rfl rfl ?_
   clear a E;intro a E
   refine sv E rfl rfl rfl (x_pickF E rfl rfl rfl rfl) ?_
   clear a E;intro a E
   refine sv E rfl rfl rfl (x_move E rfl rfl) ?_
   clear a E;intro a E
   refine st_no E (wf E rfl rfl rfl rfl rfl) rfl rfl ?_
   clear a E;intro a E
   refine st_no E (wf E rfl rfl rfl rfl rfl) rfl rfl ?_
   clear a E;intro a E
   refine sv E rfl rfl rfl (x_pickF E rfl rfl rfl rfl) ?_
   clear a E;intro a E
   refine sv E rfl rfl rfl (x_move E rfl rfl) ?_
   clear a E;intro a E
   refine st_no E (wf E rfl rfl rfl rfl rfl) rfl rfl ?_
   clear a E;intro a E
   refine st_no E (wf E rfl rfl rfl rfl rfl) rfl rfl ?_
   clear a E;intro a E
   refine sv E rfl rfl rfl (x_pickF E rfl rfl rfl rfl) ?_
   clear a E;intro a E
   refine sv E rfl rfl rfl (x_move E rfl rfl) ?_
   clear a E;intro a E
   refine st_no E (wf E rfl rfl rfl rfl rfl) rfl rfl ?_
   clear a E;intro a E
   refine st_no E (wf E rfl rfl rfl rfl rfl) rfl rfl ?_
   clear a E;intro a E
   refine st_no E (wf E rfl rfl rfl rfl rfl) rfl rfl ?_
   clear a E;intro a E
   refine sv E rfl rfl rfl (x_pickF E rfl rfl rfl rfl) ?_
   clear a E;intro a E
   refine sv E rfl rfl rfl (x_move E rfl rfl) ?_
   clear a E;intro a E
   refine st_no E (wf E rfl rfl rfl rfl rfl) rfl rfl ?_
   clear a E;intro a E
   refine st_no E (wf E rfl rfl rfl rfl rfl) rfl rfl ?_
   clear a E;intro a E
   refine sv E rfl rfl rfl (x_pickF E rfl rfl rfl rfl) ?_
   clear a E;intro a E
   refine sv E rfl rfl rfl (x_move E rfl rfl) ?_
   clear a E;intro a E
   refine st_no E (wf E rfl rfl rfl rfl rfl) rfl rfl ?_
   clear a E;intro a E
   refine st_no E (wf E rfl rfl rfl rfl rfl) rfl rfl ?_
   clear a E;intro a E
   refine sv E rfl rfl rfl (x_pickF E rfl rfl rfl rfl) ?_
   clear a E;intro a E
   refine sv E rfl rfl rfl (x_move E rfl rfl) ?_
   clear a E;intro a E
   refine st_no E (wf E rfl rfl rfl rfl rfl) rfl rfl ?_
   clear a E;intro a E
   refine st_no E (wf E rfl rfl rfl rfl rfl) rfl rfl ?_
   clear a E;intro a E
   refine sv E rfl rfl rfl (x_pickF E rfl rfl rfl rfl) ?_
   clear a E;intro a E
   refine sv E rfl rfl rfl (x_move E rfl rfl) ?_
   clear a E;intro a E
   refine st_no E (wf E rfl rfl rfl rfl rfl) rfl rfl ?_
   clear a E;intro a E
   refine st_no E (wf E rfl rfl rfl rfl rfl) rfl rfl ?_
   clear a E;intro a E
   refine st_no E (wf E rfl rfl rfl rfl rfl) rfl rfl ?_
   clear a E;intro a E
   refine st_no E (wf E rfl rfl rfl rfl rfl) rfl rfl ?_
   clear a E;intro a E
   refine sv E rfl rfl rfl (x_pickF E rfl rfl rfl rfl) ?_
   clear a E;intro a E
   refine sv E rfl rfl rfl (x_move E rfl rfl) ?_
   clear a E;intro a E
   refine st_no E (wf E rfl rfl rfl rfl rfl) rfl rfl ?_
   clear a E;intro a E
   refine st_no E (wf E rfl rfl rfl rfl rfl) rfl rfl ?_
   clear a E;intro a E
   refine sv E rfl rfl rfl (x_pickF E rfl rfl rfl rfl) ?_
   clear a E;intro a E
   refine sv E rfl rfl rfl (x_move E rfl rfl) ?_
   clear a E;intro a E
   refine st_no E (wf E rfl rfl rfl rfl rfl) rfl rfl ?_
   clear a E;intro a E
   refine st_no E (wf E rfl rfl rfl rfl rfl) rfl rfl ?_
   clear a E;intro a E
   refine sv E rfl rfl rfl (x_pickF E rfl rfl rfl rfl) ?_
   clear a E;intro a E
   refine sv E rfl rfl rfl (x_assign E rfl rfl) ?_
   clear a E;intro a E
   refine wpList_nil ?_
   refine q_then ?_
   refine wp_ret ?_
   refine out1 E rfl rfl ?_
   replace H := H.drop 0
   replace H := H.drop 0
   replace H := H.drop 0
   replace H := H.drop 0
   replace H := H.drop 0
   obtain rfl := Option.some.inj hm
   exact ⟨rfl, H.reads (fun r hr => .tail _ (.tail _ (.tail _ (.tail _ (.tail _ (.tail _ (.tail _ (.tail _ (.tail _ (.tail _ (.tail _ (.tail _ (.tail _ (.tail _ (.tail _ (.tail _ (.tail _ (.tail _ (.tail _ (.tail _ (.tail _ (.tail _ (.tail _ (.tail _ (.tail _ (.tail _ (.tail _ (hr))))))))))))))))))))))))))))⟩
 ·rw [if_f hb73] at hm
  refine st_no E (wf' E rfl rfl rfl rfl hb73 rfl) rfl rfl ?_
  clear a E;intro a E
  refine st_no E (wf' E rfl rfl rfl rfl hb73 rfl) rfl rfl ?_
  clear a E;intro a E
  refine st_no E (wf' E rfl rfl rfl rfl hb73 rfl) rfl rfl ?_
  clear a E;intro a E
  refine sv E rfl rfl rfl (x_pickF E rfl rfl hb73 rfl) ?_
  clear a E;intro a E
  refine sv E rfl rfl rfl (x_move E rfl rfl) ?_
  clear a E;intro a E
  refine st_no E (wf E rfl rfl rfl rfl rfl) rfl rfl ?_
  clear a E;intro a E
  refine st_no E (wf E rfl rfl rfl rfl rfl) rfl rfl ?_
  clear a E;intro a E
  refine sv E rfl rfl rfl (x_pickF E rfl rfl rfl rfl) ?_
  clear a E;intro a E
  refine sv E rfl rfl rfl (x_move E rfl rfl) ?_
  clear a E;intro a E
  refine st_no E (wf E rfl rfl rfl rfl rfl) rfl rfl ?_
  clear a E;intro a E
  refine st_no E (wf E rfl rfl rfl rfl rfl) rfl rfl ?_
  clear a E;intro a E
  refine st_no E (wf E rfl rfl rfl rfl rfl) rfl rfl ?_
  clear a E;intro a E
  refine sv E rfl rfl rfl (x_pickF E rfl rfl rfl rfl) ?_
  clear a E;intro a E
  refine sv E rfl rfl rfl (x_move E rfl rfl) ?_
  clear a E;intro a E
  refine st_no E (wf E rfl rfl rfl rfl rfl) rfl rfl ?_
  clear a E;intro a E
  refine st_no E (wf E rfl rfl rfl rfl rfl) rfl rfl ?_
  clear a E;intro a E
  refine sv E rfl rfl rfl (x_pickF E rfl rfl rfl rfl) ?_
  clear a E;intro a E
  refine sv E rfl rfl rfl (x_move E rfl rfl) ?_
  clear a E;intro a E
  refine st_no E (wf E rfl rfl rfl rfl rfl) rfl rfl ?_
  clear a E;intro a E
  refine st_no E (wf E rfl rfl rfl rfl rfl) rfl rfl ?_
  clear a E;intro a E
  refine sv E rfl rfl rfl (x_pickF E rfl rfl rfl rfl) ?_
  clear a E;intro a E
  refine sv E rfl rfl rfl (x_move E rfl rfl) ?_
  clear a E;intro a E
  refine st_no E (wf E rfl rfl rfl rfl rfl) rfl rfl ?_
  clear a E;intro a E
  refine st_no E (wf E rfl rfl rfl rfl rfl) rfl rfl ?_
  clear a E;intro a E
  refine st_no E (wf E rfl rfl rfl rfl rfl) rfl rfl ?_
  clear a E;intro a E
  refine sv E rfl rfl rfl (x_pickF E rfl rfl rfl rfl) ?_
  clear a E;intro a E
  refine sv E rfl rfl rfl (x_move E rfl rfl) ?_
  clear a E;intro a E
  refine st_no E (wf E rfl rfl rfl rfl rfl) rfl rfl ?_
  clear a E;intro a E
  refine st_no E (wf E rfl rfl rfl rfl rfl) rfl rfl ?_
  clear a E;intro a E
  refine sv E rfl rfl rfl (x_pickF E rfl rfl rfl rfl) ?_
  clear a E;intro a E
  refine sv E rfl rfl rfl (x_move E rfl rfl) ?_
  clear a E;intro a E
  refine st_no E (wf E rfl rfl rfl rfl rfl) rfl rfl ?_
  clear a E;intro a E
  refine st_no E (wf E rfl rfl rfl rfl rfl) rfl rfl ?_
  clear a E;intro a E
  refine sv E rfl rfl rfl (x_pickF E rfl rfl rfl rfl) ?_
  clear a E;intro a E
  refine sv E rfl rfl rfl (x_move E rfl rfl) ?_
  clear a E;intro a E
  refine st_no E (wf E rfl rfl rfl rfl rfl) rfl rfl ?_
  clear a E;intro a E
  refine st_no E (wf E rfl rfl rfl rfl rfl) rfl rfl ?_
  clear a E;intro a E
  refine sv E rfl rfl rfl (x_pickF E rfl rfl rfl rfl) ?_
  clear a E;intro a E
  refine sv E rfl rfl rfl (x_move E rfl rfl) ?_
  clear a E;intro a E
  refine st_no E (wf E rfl rfl rfl rfl rfl) rfl rfl ?_
  clear a E;intro a E
  refine st_no E (wf E rfl rfl rfl rfl rfl) rfl rfl ?_
  clear a E;intro a E
  refine st_no E (wf E rfl rfl rfl rfl rfl) rfl rfl ?_
  clear a E;intro a E
  refine st_no E (wf E rfl rfl rfl rfl rfl) rfl rfl ?_
  clear a E;intro a E
  refine sv E rfl rfl rfl (x_pickF E rfl rfl rfl rfl) ?_
  clear a E;intro a E
  refine sv E rfl rfl rfl (x_move E rfl rfl) ?_
  clear a E;intro a E
  refine st_no E (wf E rfl rfl rfl rfl rfl) rfl rfl ?_
  clear a E;intro a E
  refine st_no E (wf E rfl rfl rfl rfl rfl) rfl rfl ?_
  clear a E;intro a E
  refine sv E rfl rfl rfl (x_pickF E rfl rfl rfl rfl) ?_
  clear a E;intro a E
  refine sv E rfl rfl rfl (x_move E rfl rfl) ?_
  clear a E;intro a E
  refine st_no E (wf E rfl rfl rfl rfl rfl) rfl rfl ?_
  clear a E;intro a E
  refine st_no E (wf E rfl rfl rfl rfl rfl) rfl rfl ?_
  clear a E;intro a E
  refine sv E rfl rfl rfl (x_pickF E rfl rfl rfl rfl) ?_
  clear a E;intro a E
  refine sv E rfl rfl rfl (x_assign E rfl rfl) ?_
  clear a E;intro a E
  refine wpList_nil ?_
  refine q_then ?_
  refine wp_ret ?_
  refine out1 E rfl rfl ?_
  replace H := H.drop 0
  replace H := H.drop 0
  replace H := H.drop 0
  replace H := H.drop 0
  replace H := H.drop 0
  obtain rfl := Option.some.inj hm
  exact ⟨rfl, H.reads (fun r hr => .tail _ (.tail _ (.tail _ (.tail _ (.tail _ (.tail _ (.tail _ (.tail _ (.tail _ (.tail _ (.tail _ (.tail _ (.tail _ (.tail _ (.tail _ (.tail _ (.tail _ (.tail _ (.tail _ (.tail _ (.tail _ (.tail _ (.tail _ (.tail _ (.tail _ (.tail _ (.tail _ (hr))))))))))))))))))))))))))))⟩
end Go.Cb

set_option linter.unusedVariables false
set_option linter.unusedSimpArgs false
namespace Go.Cb
open Go.Proofs Go.RowKit
def m_cantonlaw17_GreatLog_j1 (x4 : Int) : Option Bool :=
  some (decide (x4 ≥ 30000))
def m_cantonlaw17_GreatLog_l1 (l2 : List ByteArray) : Nat → Int → Int → Option Bool
  | 0, _, _ => none
  | k1 + 1, x7, x8 =>
    if (decide (x8 < (l2.length : Int))) = true then (if (decide (x7 < 30000)) = true then ((idx l2 x8).bind fun x13 => m_cantonlaw17_GreatLog_l1 l2 k1 (IntKind.i64.wrap (x7 + (min (x13.size : Int) 30000))) (IntKind.i64.wrap (x8 + 1))) else (m_cantonlaw17_GreatLog_j1 x7)) else (m_cantonlaw17_GreatLog_j1 x7)
def m_cantonlaw17_GreatLog (l2 : List ByteArray) : Option Bool :=
  m_cantonlaw17_GreatLog_l1 l2 30002 (l2.length : Int) 0
set_option maxRecDepth 20000 in
set_option maxHeartbeats 1000000 in
theorem c_cantonlaw17_GreatLog {w : World} {Fo : List Ob} {rs : List Rp} (v1 : Value) (l2 : List ByteArray) (H : Sep w (Fo) rs) (hr3 : rSl kS v1 l2 ∈ rs) {r : Bool} (hm : m_cantonlaw17_GreatLog l2 = some r) :
    Calls Try.prog 10 [v1].toArray w (Ret fun v w' => .bool r = v ∧ Sep w' (Fo) (rs)) := by
 unfold m_cantonlaw17_GreatLog at hm
 refine enter Try.func10 rfl Try.ntmps10 rfl fun a E => ?_
 simp only [enum, Nat.reduceAdd] at E
 refine wp_seq ?_
 refine wp_region_lit ?_
 refine sv E rfl rfl rfl (x_assign E rfl rfl) ?_
 clear a E;intro a E
 refine wpList_nil ?_
 refine q_then ?_
 refine wp_seq ?_
 refine wp_region_lit ?_
 refine sv E rfl rfl rfl (x_move E rfl rfl) ?_
 clear a E;intro a E
 refine sv E rfl rfl rfl (x_lenS E H rfl rfl hr3 Try.underlying22) ?_
 clear a E;intro a E
 refine sv E rfl rfl rfl (x_assign E rfl rfl) ?_
 clear a E;intro a E
 refine wpList_nil ?_
 refine q_then ?_
 refine wp_seq_cut (fun a w => ∃ (x4 : Int) (rs5 : List Rp), Env 27 a [(3, .int .i64 x4)] ∧ Sep w (Fo) rs5 ∧ (∀ r, r ∈ rs → r ∈ rs5) ∧ m_cantonlaw17_GreatLog_j1 x4 = some r) ?_ ?_
 ·refine wp_seq ?_
  refine wp_region_lit ?_
  refine sv E rfl rfl rfl (x_assign E rfl rfl) ?_
  clear a E;intro a E
  refine wpList_nil ?_
  refine q_then ?_
  refine wp_block ?_
  refine wp_loop_g (fun k1 a w => ∃ (x7 : Int) (x8 : Int) (rs9 : List Rp), Env 27 a [(0, v1), (3, .int .i64 x7), (4, .int .i64 x8)] ∧ Sep w (Fo) rs9 ∧ (∀ r, r ∈ rs → r ∈ rs9) ∧ rSl kS v1 l2 ∈ rs9 ∧ m_cantonlaw17_GreatLog_l1 l2 k1 x7 x8 = some r) (30002) ?_ ?_
  ·exact ⟨(l2.length : Int), 0, _, (((E.nil.keep E 4 rfl).keep E 3 rfl).keep E 0 rfl), H, fun r hr => hr, hr3, hm⟩
  ·clear E H hm
   rintro k1 a w ⟨x7, x8, rs9, E, H, hs10, hr11, hm⟩
   cases k1 with
   | zero => exact (none_some hm rfl).elim
   | succ k1 =>
    unfold m_cantonlaw17_GreatLog_l1 at hm
    refine wp_seq ?_
    refine wp_seq ?_
    refine wp_region_lit ?_
    refine sv E rfl rfl rfl (x_move E rfl rfl) ?_
    clear a E;intro a E
    refine sv E rfl rfl rfl (x_move E rfl rfl) ?_
    clear a E;intro a E
    refine sv E rfl rfl rfl (x_lenS E H rfl rfl hr11 Try.underlying22) ?_
    clear a E;intro a E
    refine sv E rfl rfl rfl (x_bin E rfl rfl rfl rfl) ?_
    clear a E;intro a E
    refine sv E rfl rfl rfl (x_move E rfl rfl) ?_
    clear a E;intro a E
    rcases Bool.eq_false_or_eq_true (decide (x8 < (l2.length : Int))) with hb12 | hb12
    ·rw [if_t hb12] at hm
     refine st_val E (ws' E rfl rfl rfl rfl hb12) rfl rfl (x_move E rfl rfl) ?_
     clear a E;intro a E
     refine st_val E (ws' E rfl rfl rfl rfl hb12) rfl rfl (x_bin E rfl rfl rfl rfl) ?_
     clear a E;intro a E
     refine sv E rfl rfl rfl (x_pickT E rfl rfl hb12 rfl) ?_
     clear a E;intro a E
     refine wpList_nil ?_
     refine q_then ?_
     refine wp_if E rfl ?_ ?_
     ·intro hb
      rw [if_t hb] at hm
      clear hb
      refine wp_skip ?_
      refine q_then ?_
      refine wp_seq ?_
      refine wp_block ?_
      refine wp_region_lit ?_
      refine sv E rfl rfl rfl (x_move E rfl rfl) ?_
      clear a E;intro a E
      refine sv E rfl rfl rfl (x_move E rfl rfl) ?_
      clear a E;intro a E
      refine sv E rfl rfl rfl (x_move E rfl rfl) ?_
      clear a E;intro a E
      obtain ⟨x13, hx14, hm⟩ := bnd hm
      refine st_ixS E H (wn rfl) rfl rfl rfl rfl rfl hr11 Try.underlying22 sz9 hx14 ?_
      clear E H; clear a; intro q15 a H E
      refine sv E rfl rfl rfl (x_ldA E H rfl rfl (.head _) Try.underlying9 rfl) ?_
      clear a E;intro a E
      refine sv E rfl rfl rfl (x_lenStr E rfl rfl Try.underlying9) ?_
      clear a E;intro a E
      refine sv E rfl rfl rfl (x_min (t := 0) E rfl rfl rfl) ?_
      clear a E;intro a E
      refine sv E rfl rfl rfl (x_bin E rfl rfl rfl rfl) ?_
      clear a E;intro a E
      refine sv E rfl rfl rfl (x_assign E rfl rfl) ?_
      clear a E;intro a E
      refine wpList_nil ?_
      refine q_blk ?_
      refine q_then ?_
      refine wp_region_lit ?_
      refine sv E rfl rfl rfl (x_move E rfl rfl) ?_
      clear a E;intro a E
      refine sv E rfl rfl rfl (x_bin E rfl rfl rfl rfl) ?_
      clear a E;intro a E
      refine sv E rfl rfl rfl (x_assign E rfl rfl) ?_
      clear a E;intro a E
      refine wpList_nil ?_
      refine q_then ?_
      exact ⟨k1, Nat.lt_succ_self k1, IntKind.i64.wrap (x7 + (min (x13.size : Int) 30000)), IntKind.i64.wrap (x8 + 1), _, (((E.nil.keep E 4 rfl).keep E 3 rfl).keep E 0 rfl), H, fun r hr => .tail _ (hs10 r hr), (.tail _ hr11), hm⟩
     ·intro hb
      rw [if_f hb] at hm
      clear hb
      refine wp_exit ?_
      refine q_thenX ?_
      refine q_thenX ?_
      refine q_hit ?_
      refine q_then ?_
      exact ⟨x7, _, (E.nil.keep E 3 rfl), H, hs10, hm⟩
    ·rw [if_f hb12] at hm
     refine st_no E (wf' E rfl rfl rfl rfl hb12 rfl) rfl rfl ?_
     clear a E;intro a E
     refine st_no E (wf' E rfl rfl rfl rfl hb12 rfl) rfl rfl ?_
     clear a E;intro a E
     refine sv E rfl rfl rfl (x_pickF E rfl rfl hb12 rfl) ?_
     clear a E;intro a E
     refine wpList_nil ?_
     refine q_then ?_
     refine wp_cond_false (E.eval rfl) ?_
     refine wp_exit ?_
     refine q_thenX ?_
     refine q_thenX ?_
     refine q_hit ?_
     refine q_then ?_
     exact ⟨x7, _, (E.nil.keep E 3 rfl), H, hs10, hm⟩
 ·clear E H hm
  rintro a w ⟨x4, rs5, E, H, hs6, hm⟩
  unfold m_cantonlaw17_GreatLog_j1 at hm
  refine wp_seq ?_
  refine wp_region_lit ?_
  refine sv E rfl rfl rfl (x_move E rfl rfl) ?_
  clear a E;intro a E
  refine sv E rfl rfl rfl (x_bin E rfl rfl rfl rfl) ?_
  clear a E;intro a E
  refine sv E rfl rfl rfl (x_assign E rfl rfl) ?_
  clear a E;intro a E
  refine wpList_nil ?_
  refine q_then ?_
  refine wp_ret ?_
  refine out1 E rfl rfl ?_
  obtain rfl := Option.some.inj hm
  exact ⟨rfl, H.reads (fun r hr => hs6 r hr)⟩
end Go.Cb

set_option linter.unusedVariables false
set_option linter.unusedSimpArgs false
namespace Go.Cb
open Go.Proofs Go.RowKit
def m_cantonlaw06_Great_j1 (x4 : Int) : Option Bool :=
  some (decide (x4 ≥ 5000))
def m_cantonlaw06_Great_l1 (l2 : List S_api_Node) : Nat → Int → Int → Option Bool
  | 0, _, _ => none
  | k1 + 1, x7, x8 =>
    if (decide (x8 < (l2.length : Int))) = true then (if (decide (x7 < 5000)) = true then ((idx l2 x8).bind fun x14 => (idx l2 x8).bind fun x21 => m_cantonlaw06_Great_l1 l2 k1 (IntKind.i64.wrap ((IntKind.i64.wrap (x7 + (min (x14.Path.size : Int) 5000))) + (min (x21.Data.size : Int) 5000))) (IntKind.i64.wrap (x8 + 1))) else (m_cantonlaw06_Great_j1 x7)) else (m_cantonlaw06_Great_j1 x7)
def m_cantonlaw06_Great (l2 : List S_api_Node) : Option Bool :=
  m_cantonlaw06_Great_l1 l2 5002 (IntKind.i64.wrap (3 * (l2.length : Int))) 0
set_option maxRecDepth 20000 in
set_option maxHeartbeats 1000000 in
theorem c_cantonlaw06_Great {w : World} {Fo : List Ob} {rs : List Rp} (v1 : Value) (l2 : List S_api_Node) (H : Sep w (Fo) rs) (hr3 : rSl k_api_Node v1 l2 ∈ rs) {r : Bool} (hm : m_cantonlaw06_Great l2 = some r) :
    Calls Try.prog 87 [v1].toArray w (Ret fun v w' => .bool r = v ∧ Sep w' (Fo) (rs)) := by
 unfold m_cantonlaw06_Great at hm
 refine enter Try.func87 rfl Try.ntmps87 rfl fun a E => ?_
 simp only [enum, Nat.reduceAdd] at E
 refine wp_seq ?_
 refine wp_region_lit ?_
 refine sv E rfl rfl rfl (x_assign E rfl rfl) ?_
 clear a E;intro a E
 refine wpList_nil ?_
 refine q_then ?_
 refine wp_seq ?_
 refine wp_region_lit ?_
 refine sv E rfl rfl rfl (x_move E rfl rfl) ?_
 clear a E;intro a E
 refine sv E rfl rfl rfl (x_lenS E H rfl rfl hr3 Try.underlying42) ?_
 clear a E;intro a E
 refine sv E rfl rfl rfl (x_bin E rfl rfl rfl rfl) ?_
 clear a E;intro a E
 refine sv E rfl rfl rfl (x_assign E rfl rfl) ?_
 clear a E;intro a E
 refine wpList_nil ?_
 refine q_then ?_
 refine wp_seq_cut (fun a w => ∃ (x4 : Int) (rs5 : List Rp), Env 37 a [(3, .int .i64 x4)] ∧ Sep w (Fo) rs5 ∧ (∀ r, r ∈ rs → r ∈ rs5) ∧ m_cantonlaw06_Great_j1 x4 = some r) ?_ ?_
 ·refine wp_seq ?_
  refine wp_region_lit ?_
  refine sv E rfl rfl rfl (x_assign E rfl rfl) ?_
  clear a E;intro a E
  refine wpList_nil ?_
  refine q_then ?_
  refine wp_block ?_
  refine wp_loop_g (fun k1 a w => ∃ (x7 : Int) (x8 : Int) (rs9 : List Rp), Env 37 a [(0, v1), (3, .int .i64 x7), (4, .int .i64 x8)] ∧ Sep w (Fo) rs9 ∧ (∀ r, r ∈ rs → r ∈ rs9) ∧ rSl k_api_Node v1 l2 ∈ rs9 ∧ m_cantonlaw06_Great_l1 l2 k1 x7 x8 = some r) (5002) ?_ ?_
  ·exact ⟨IntKind.i64.wrap (3 * (l2.length : Int)), 0, _, (((E.nil.keep E 4 rfl).keep E 3 rfl).keep E 0 rfl), H, fun r hr => hr, hr3, hm⟩
  ·clear E H hm
   rintro k1 a w ⟨x7, x8, rs9, E, H, hs10, hr11, hm⟩
   cases k1 with
   | zero => exact (none_some hm rfl).elim
   | succ k1 =>
    unfold m_cantonlaw06_Great_l1 at hm
    refine wp_seq ?_
    refine wp_seq ?_
    refine wp_region_lit ?_
    refine sv E rfl rfl rfl (x_move E rfl rfl) ?_
    clear a E;intro a E
    refine sv E rfl rfl rfl (x_move E rfl rfl) ?_
    clear a E;intro a E
    refine sv E rfl rfl rfl (x_lenS E H rfl rfl hr11 Try.underlying42) ?_
    clear a E;intro a E
    refine sv E rfl rfl rfl (x_bin E rfl rfl rfl rfl) ?_
    clear a E;intro a E
    refine sv E rfl rfl rfl (x_move E rfl rfl) ?_
    clear a E;intro a E
    rcases Bool.eq_false_or_eq_true (decide (x8 < (l2.length : Int))) with hb12 | hb12
    ·rw [if_t hb12] at hm
     refine st_val E (ws' E rfl rfl rfl rfl hb12) rfl rfl (x_move E rfl rfl) ?_
     clear a E;intro a E
     refine st_val E (ws' E rfl rfl rfl rfl hb12) rfl rfl (x_bin E rfl rfl rfl rfl) ?_
     clear a E;intro a E
     refine sv E rfl rfl rfl (x_pickT E rfl rfl hb12 rfl) ?_
     clear a E;intro a E
     refine wpList_nil ?_
     refine q_then ?_
     refine wp_if E rfl ?_ ?_
     ·intro hb
      rw [if_t hb] at hm
      clear hb
      refine wp_skip ?_
      refine q_then ?_
      refine wp_seq ?_
      refine wp_block ?_
      obtain ⟨u13, H⟩ := H.raw hr11
      replace H : Sep w (Fo) (rRow k_api_Node v1 l2 u13 :: rs9) := H
      have hI : Still [] [rRow k_api_Node v1 l2 u13] { w with drawn := w.drawn + 1 } := ⟨_, _, H.kept (Kp.drawn _ w _), (subO_nil), (sub_cons (.head _) (sub_nil))⟩
      refine wp_draw _ [(0, 0), (1, 0), (2, 0), (3, 0), (4, 0), (5, 0), (6, 0), (7, 0), (8, 0), (9, 0), (10, 0), (11, 0), (12, 0), (13, 0), (14, 0), (15, 0), (16, 0), (17, 2)] mixedOk (by kernel_rfl) (fun _ _ _ h => False.elim h.2) hI ?_
      replace H := H.kept (Kp.drawn _ w (w.drawn + 1))
      generalize ({ w with drawn := w.drawn + 1 } : World) = w at H hI ⊢
      replace hI : ∃ W, Still [] [rRow k_api_Node v1 l2 u13] W := ⟨_, hI⟩
      obtain ⟨W0, hI⟩ := hI
      refine fr_val E rfl (wn rfl) rfl rfl (fun w hW => (x_move E rfl rfl)) ?_
      clear a E;intro a E
      refine fr_val E rfl (wn rfl) rfl rfl (fun w hW => (x_move E rfl rfl)) ?_
      clear a E;intro a E
      refine fr_val E rfl (wn rfl) rfl rfl (fun w hW => (x_move E rfl rfl)) ?_
      clear a E;intro a E
      obtain ⟨x14, hx15, hm⟩ := bnd hm
      obtain ⟨q16, u19, hx17, hx18⟩ := dr_ixW (P := Try.prog) (k := .i64) hI (dr_mem (.head _)) Try.underlying42 sz64 hx15
      refine fr_val E rfl (wn rfl) rfl rfl (fun w hW => x_ixA E rfl rfl rfl (hx17 w)) ?_
      clear a E;intro a E
      have hx20 := dr_fld hx18 (fun _ _ _ h => k_api_Node_aw0 h)
      refine fr_val E rfl (wn rfl) rfl rfl (fun w hW => x_fa E rfl rfl (fa64_0 _ _)) ?_
      clear a E;intro a E
      refine fr_val E rfl (wn rfl) rfl rfl (fun w hW => x_ld E rfl rfl (ir_ld (DR.ir (dr_at hx20)) Try.underlying9 rfl w hW)) ?_
      clear a E;intro a E
      refine fr_val E rfl (wn rfl) rfl rfl (fun w hW => (x_lenStr E rfl rfl Try.underlying9)) ?_
      clear a E;intro a E
      refine fr_val E rfl (wn rfl) rfl rfl (fun w hW => (x_min (t := 0) E rfl rfl rfl)) ?_
      clear a E;intro a E
      refine fr_val E rfl (wn rfl) rfl rfl (fun w hW => (x_bin E rfl rfl rfl rfl)) ?_
      clear a E;intro a E
      refine fr_val E rfl (wn rfl) rfl rfl (fun w hW => (x_move E rfl rfl)) ?_
      clear a E;intro a E
      refine fr_val E rfl (wn rfl) rfl rfl (fun w hW => (x_move E rfl rfl)) ?_
      clear a E;intro a E
      obtain ⟨x21, hx22, hm⟩ := bnd hm
      obtain ⟨q23, u26, hx24, hx25⟩ := dr_ixW (P := Try.prog) (k := .i64) hI (dr_mem (.head _)) Try.underlying42 sz64 hx22
      refine fr_val E rfl (wn rfl) rfl rfl (fun w hW => x_ixA E rfl rfl rfl (hx24 w)) ?_
      clear a E;intro a E
      have hx27 := dr_fld hx25 (fun _ _ _ h => k_api_Node_aw1 h)
      refine fr_val E rfl (wn rfl) rfl rfl (fun w hW => x_fa E rfl rfl (fa64_1 _ _)) ?_
      clear a E;intro a E
      refine fr_val E rfl (wn rfl) rfl rfl (fun w hW => x_ld E rfl rfl (ir_ld (DR.ir (dr_at hx27)) Try.underlying9 rfl w hW)) ?_
      clear a E;intro a E
      refine fr_val E rfl (wn rfl) rfl rfl (fun w hW => (x_lenStr E rfl rfl Try.underlying9)) ?_
      clear a E;intro a E
      refine fr_val E rfl (wn rfl) rfl rfl (fun w hW => (x_min (t := 0) E rfl rfl rfl)) ?_
      clear a E;intro a E
      refine fr_val E rfl (wn rfl) rfl rfl (fun w hW => (x_bin E rfl rfl rfl rfl)) ?_
      clear a E;intro a E
      refine fr_tail rfl ?_
      refine sv E rfl rfl rfl (x_assign E rfl rfl) ?_
      clear a E;intro a E
      refine wpList_nil ?_
      refine q_then ?_
      refine fr_nil ?_
      clear hI
      refine q_blk ?_
      refine q_then ?_
      refine wp_region_lit ?_
      refine sv E rfl rfl rfl (x_move E rfl rfl) ?_
      clear a E;intro a E
      refine sv E rfl rfl rfl (x_bin E rfl rfl rfl rfl) ?_
      clear a E;intro a E
      refine sv E rfl rfl rfl (x_assign E rfl rfl) ?_
      clear a E;intro a E
      refine wpList_nil ?_
      refine q_then ?_
      exact ⟨k1, Nat.lt_succ_self k1, IntKind.i64.wrap ((IntKind.i64.wrap (x7 + (min (x14.Path.size : Int) 5000))) + (min (x21.Data.size : Int) 5000)), IntKind.i64.wrap (x8 + 1), _, (((E.nil.keep E 4 rfl).keep E 3 rfl).keep E 0 rfl), H, fun r hr => .tail _ (hs10 r hr), (.tail _ hr11), hm⟩
     ·intro hb
      rw [if_f hb] at hm
      clear hb
      refine wp_exit ?_
      refine q_thenX ?_
      refine q_thenX ?_
      refine q_hit ?_
      refine q_then ?_
      exact ⟨x7, _, (E.nil.keep E 3 rfl), H, hs10, hm⟩
    ·rw [if_f hb12] at hm
     refine st_no E (wf' E rfl rfl rfl rfl hb12 rfl) rfl rfl ?_
     clear a E;intro a E
     refine st_no E (wf' E rfl rfl rfl rfl hb12 rfl) rfl rfl ?_
     clear a E;intro a E
     refine sv E rfl rfl rfl (x_pickF E rfl rfl hb12 rfl) ?_
     clear a E;intro a E
     refine wpList_nil ?_
     refine q_then ?_
     refine wp_cond_false (E.eval rfl) ?_
     refine wp_exit ?_
     refine q_thenX ?_
     refine q_thenX ?_
     refine q_hit ?_
     refine q_then ?_
     exact ⟨x7, _, (E.nil.keep E 3 rfl), H, hs10, hm⟩
 ·clear E H hm
  rintro a w ⟨x4, rs5, E, H, hs6, hm⟩
  unfold m_cantonlaw06_Great_j1 at hm
  refine wp_seq ?_
  refine wp_region_lit ?_
  refine sv E rfl rfl rfl (x_move E rfl rfl) ?_
  clear a E;intro a E
  refine sv E rfl rfl rfl (x_bin E rfl rfl rfl rfl) ?_
  clear a E;intro a E
  refine sv E rfl rfl rfl (x_assign E rfl rfl) ?_
  clear a E;intro a E
  refine wpList_nil ?_
  refine q_then ?_
  refine wp_ret ?_
  refine out1 E rfl rfl ?_
  obtain rfl := Option.some.inj hm
  exact ⟨rfl, H.reads (fun r hr => hs6 r hr)⟩
end Go.Cb

set_option linter.unusedVariables false
set_option linter.unusedSimpArgs false
namespace Go.Cb
open Go.Proofs Go.RowKit
def m_cantonlaw07_Great_j1 (x1 : S_api_Store) (x11 : Int) : Option Bool :=
  if (decide (x11 ≥ 3000)) = true then (some (true)) else ((m_cantonlaw06_Great x1.Nodes).bind fun u17 => some (u17))
def m_cantonlaw07_Great_l1 (x1 : S_api_Store) : Nat → Int → Int → Option Bool
  | 0, _, _ => none
  | k1 + 1, x19, x20 =>
    if (decide (x20 < (x1.Turns.length : Int))) = true then (if (decide (x19 < 3000)) = true then ((idx x1.Turns x20).bind fun x26 => m_cantonlaw07_Great_l1 x1 k1 (IntKind.i64.wrap (x19 + (min (x26.Dir.size : Int) 3000))) (IntKind.i64.wrap (x20 + 1))) else (m_cantonlaw07_Great_j1 x1 x19)) else (m_cantonlaw07_Great_j1 x1 x19)
def m_cantonlaw07_Great (x1 : S_api_Store) : Option Bool :=
  m_cantonlaw07_Great_l1 x1 3002 (x1.Turns.length : Int) 0
set_option maxRecDepth 20000 in
set_option maxHeartbeats 1000000 in
theorem c_cantonlaw07_Great {w : World} {Fo : List Ob} {rs : List Rp} (x1 : S_api_Store) (v2 : Value) (v3 : Value) (H : Sep w (Fo) rs) (hr4 : rSl k_api_Node v2 x1.Nodes ∈ rs) (hr5 : rSl k_api_Turn v3 x1.Turns ∈ rs) {r : Bool} (hm : m_cantonlaw07_Great x1 = some r) :
    Calls Try.prog 50 [.agg #[v2, v3]].toArray w (Ret fun v w' => .bool r = v ∧ Sep w' (Fo) (rs)) := by
 unfold m_cantonlaw07_Great at hm
 refine enter Try.func50 rfl Try.ntmps50 rfl fun a E => ?_
 simp only [enum, Nat.reduceAdd] at E
 refine wp_seq ?_
 refine wp_region_lit ?_
 obtain ⟨q7, x8, rfl⟩ := H.slform hr4
 obtain ⟨q9, x10, rfl⟩ := H.slform hr5
 refine st_box E H (wn rfl) rfl rfl (cs := [(.slice q7 x1.Nodes.length x8), (.slice q9 x1.Turns.length x10)]) rfl rfl rfl ?_
 clear E H; clear a; clear w; intro p6 w a H E
 refine sv E rfl rfl rfl (x_assign E rfl rfl) ?_
 clear a E;intro a E
 refine wpList_nil ?_
 refine q_then ?_
 refine wp_seq ?_
 refine wp_region_lit ?_
 refine sv E rfl rfl rfl (x_fa E rfl rfl (v := .pointer (some ⟨p6, 1, none⟩)) (fa45_1 _ _)) ?_
 clear a E;intro a E
 refine sv E rfl rfl rfl (x_ldB (i := 0) E H rfl rfl rfl rfl Try.underlying43 rfl) ?_
 clear a E;intro a E
 refine sv E rfl rfl rfl (x_lenS E H rfl rfl hr5 Try.underlying43) ?_
 clear a E;intro a E
 refine sv E rfl rfl rfl (x_assign E rfl rfl) ?_
 clear a E;intro a E
 refine wpList_nil ?_
 refine q_then ?_
 refine wp_seq_cut (fun a w => ∃ (x11 : Int) (rs12 : List Rp), Env 36 a [(1, .pointer (some ⟨p6, 0, none⟩)), (3, .int .i64 x11)] ∧ Sep w (Blk p6 45 [(.slice q7 x1.Nodes.length x8), (.slice q9 x1.Turns.length x10)] :: Fo) rs12 ∧ (∀ r, r ∈ rs → r ∈ rs12) ∧ rSl k_api_Node (.slice q7 x1.Nodes.length x8) x1.Nodes ∈ rs12 ∧ rSl k_api_Turn (.slice q9 x1.Turns.length x10) x1.Turns ∈ rs12 ∧ m_cantonlaw07_Great_j1 x1 x11 = some r) ?_ ?_
 ·refine wp_seq ?_
  refine wp_region_lit ?_
  refine sv E rfl rfl rfl (x_assign E rfl rfl) ?_
  clear a E;intro a E
  refine wpList_nil ?_
  refine q_then ?_
  refine wp_block ?_
  refine wp_loop_g (fun k1 a w => ∃ (x19 : Int) (x20 : Int) (rs21 : List Rp), Env 36 a [(1, .pointer (some ⟨p6, 0, none⟩)), (3, .int .i64 x19), (4, .int .i64 x20)] ∧ Sep w (Blk p6 45 [(.slice q7 x1.Nodes.length x8), (.slice q9 x1.Turns.length x10)] :: Fo) rs21 ∧ (∀ r, r ∈ rs → r ∈ rs21) ∧ rSl k_api_Node (.slice q7 x1.Nodes.length x8) x1.Nodes ∈ rs21 ∧ rSl k_api_Turn (.slice q9 x1.Turns.length x10) x1.Turns ∈ rs21 ∧ m_cantonlaw07_Great_l1 x1 k1 x19 x20 = some r) (3002) ?_ ?_
  ·exact ⟨(x1.Turns.length : Int), 0, _, (((E.nil.keep E 4 rfl).keep E 3 rfl).keep E 1 rfl), H, fun r hr => hr, hr4, hr5, hm⟩
  ·clear E H hm
   rintro k1 a w ⟨x19, x20, rs21, E, H, hs22, hr23, hr24, hm⟩
   cases k1 with
   | zero => exact (none_some hm rfl).elim
   | succ k1 =>
    unfold m_cantonlaw07_Great_l1 at hm
    refine wp_seq ?_
    refine wp_seq ?_
    refine wp_region_lit ?_
    refine sv E rfl rfl rfl (x_move E rfl rfl) ?_
    clear a E;intro a E
    refine sv E rfl rfl rfl (x_fa E rfl rfl (v := .pointer (some ⟨p6, 1, none⟩)) (fa45_1 _ _)) ?_
    clear a E;intro a E
    refine sv E rfl rfl rfl (x_ldB (i := 0) E H rfl rfl rfl rfl Try.underlying43 rfl) ?_
    clear a E;intro a E
    refine sv E rfl rfl rfl (x_lenS E H rfl rfl hr24 Try.underlying43) ?_
    clear a E;intro a E
    refine sv E rfl rfl rfl (x_bin E rfl rfl rfl rfl) ?_
    clear a E;intro a E
    refine sv E rfl rfl rfl (x_move E rfl rfl) ?_
    clear a E;intro a E
    rcases Bool.eq_false_or_eq_true (decide (x20 < (x1.Turns.length : Int))) with hb25 | hb25
    ·rw [if_t hb25] at hm
     refine st_val E (ws' E rfl rfl rfl rfl hb25) rfl rfl (x_move E rfl rfl) ?_
     clear a E;intro a E
     refine st_val E (ws' E rfl rfl rfl rfl hb25) rfl rfl (x_bin E rfl rfl rfl rfl) ?_
     clear a E;intro a E
     refine sv E rfl rfl rfl (x_pickT E rfl rfl hb25 rfl) ?_
     clear a E;intro a E
     refine wpList_nil ?_
     refine q_then ?_
     refine wp_if E rfl ?_ ?_
     ·intro hb
      rw [if_t hb] at hm
      clear hb
      refine wp_skip ?_
      refine q_then ?_
      refine wp_seq ?_
      refine wp_block ?_
      refine wp_region_lit ?_
      refine sv E rfl rfl rfl (x_move E rfl rfl) ?_
      clear a E;intro a E
      refine sv E rfl rfl rfl (x_fa E rfl rfl (v := .pointer (some ⟨p6, 1, none⟩)) (fa45_1 _ _)) ?_
      clear a E;intro a E
      refine sv E rfl rfl rfl (x_ldB (i := 0) E H rfl rfl rfl rfl Try.underlying43 rfl) ?_
      clear a E;intro a E
      refine sv E rfl rfl rfl (x_move E rfl rfl) ?_
      clear a E;intro a E
      obtain ⟨x26, hx27, hm⟩ := bnd hm
      refine st_ixS E H (wn rfl) rfl rfl rfl rfl rfl hr24 Try.underlying43 sz66 hx27 ?_
      clear E H; clear a; intro q28 a H E
      replace H := H.derive1 (.head _) (rAt kS (q28.add 0) x26.Dir) (fun ok h => k_api_Turn_at0 h)
      refine sv E rfl rfl rfl (x_fa E rfl rfl (fa66_0 _ _)) ?_
      clear a E;intro a E
      refine sv E rfl rfl rfl (x_ldA E H rfl rfl (.head _) Try.underlying9 rfl) ?_
      clear a E;intro a E
      refine sv E rfl rfl rfl (x_lenStr E rfl rfl Try.underlying9) ?_
      clear a E;intro a E
      refine sv E rfl rfl rfl (x_min (t := 0) E rfl rfl rfl) ?_
      clear a E;intro a E
      refine sv E rfl rfl rfl (x_bin E rfl rfl rfl rfl) ?_
      clear a E;intro a E
      refine sv E rfl rfl rfl (x_assign E rfl rfl) ?_
      clear a E;intro a E
      refine wpList_nil ?_
      refine q_blk ?_
      refine q_then ?_
      refine wp_region_lit ?_
      refine sv E rfl rfl rfl (x_move E rfl rfl) ?_
      clear a E;intro a E
      refine sv E rfl rfl rfl (x_bin E rfl rfl rfl rfl) ?_
      clear a E;intro a E
      refine sv E rfl rfl rfl (x_assign E rfl rfl) ?_
      clear a E;intro a E
      refine wpList_nil ?_
      refine q_then ?_
      exact ⟨k1, Nat.lt_succ_self k1, IntKind.i64.wrap (x19 + (min (x26.Dir.size : Int) 3000)), IntKind.i64.wrap (x20 + 1), _, (((E.nil.keep E 4 rfl).keep E 3 rfl).keep E 1 rfl), H, fun r hr => .tail _ (.tail _ (hs22 r hr)), (.tail _ (.tail _ hr23)), (.tail _ (.tail _ hr24)), hm⟩
     ·intro hb
      rw [if_f hb] at hm
      clear hb
      refine wp_exit ?_
      refine q_thenX ?_
      refine q_thenX ?_
      refine q_hit ?_
      refine q_then ?_
      exact ⟨x19, _, ((E.nil.keep E 3 rfl).keep E 1 rfl), H, hs22, hr23, hr24, hm⟩
    ·rw [if_f hb25] at hm
     refine st_no E (wf' E rfl rfl rfl rfl hb25 rfl) rfl rfl ?_
     clear a E;intro a E
     refine st_no E (wf' E rfl rfl rfl rfl hb25 rfl) rfl rfl ?_
     clear a E;intro a E
     refine sv E rfl rfl rfl (x_pickF E rfl rfl hb25 rfl) ?_
     clear a E;intro a E
     refine wpList_nil ?_
     refine q_then ?_
     refine wp_cond_false (E.eval rfl) ?_
     refine wp_exit ?_
     refine q_thenX ?_
     refine q_thenX ?_
     refine q_hit ?_
     refine q_then ?_
     exact ⟨x19, _, ((E.nil.keep E 3 rfl).keep E 1 rfl), H, hs22, hr23, hr24, hm⟩
 ·clear E H hm
  rintro a w ⟨x11, rs12, E, H, hs13, hr14, hr15, hm⟩
  unfold m_cantonlaw07_Great_j1 at hm
  refine wp_seq ?_
  refine wp_region_lit ?_
  refine sv E rfl rfl rfl (x_move E rfl rfl) ?_
  clear a E;intro a E
  refine sv E rfl rfl rfl (x_bin E rfl rfl rfl rfl) ?_
  clear a E;intro a E
  refine sv E rfl rfl rfl (x_move E rfl rfl) ?_
  clear a E;intro a E
  rcases Bool.eq_false_or_eq_true (decide (x11 ≥ 3000)) with hb16 | hb16
  ·rw [if_t hb16] at hm
   refine st_no E (wf' E rfl rfl rfl rfl hb16 rfl) rfl rfl ?_
   clear a E;intro a E
   refine st_no E (wf' E rfl rfl rfl rfl hb16 rfl) rfl rfl ?_
   clear a E;intro a E
   refine st_no E (wf' E rfl rfl rfl rfl hb16 rfl) rfl rfl ?_
   clear a E;intro a E
   refine sv E rfl rfl rfl (x_pickT E rfl rfl hb16 rfl) ?_
   clear a E;intro a E
   refine sv E rfl rfl rfl (x_assign E rfl rfl) ?_
   clear a E;intro a E
   refine wpList_nil ?_
   refine q_then ?_
   refine wp_ret ?_
   refine out1 E rfl rfl ?_
   replace H := H.drop 0
   obtain rfl := Option.some.inj hm
   exact ⟨rfl, H.reads (fun r hr => hs13 r hr)⟩
  ·rw [if_f hb16] at hm
   refine st_val E (ws' E rfl rfl rfl rfl hb16) rfl rfl (x_fa E rfl rfl (v := .pointer (some ⟨p6, 0, none⟩)) (fa45_0 _ _)) ?_
   clear a E;intro a E
   refine st_val E (ws' E rfl rfl rfl rfl hb16) rfl rfl (x_ldB (i := 0) E H rfl rfl rfl rfl Try.underlying42 rfl) ?_
   clear a E;intro a E
   obtain ⟨u17, hx18, hm⟩ := bnd hm
   refine st_call E (ws' E rfl rfl rfl rfl hb16) rfl rfl (x_call E rfl rfl (cf87 _)) (c_cantonlaw06_Great (.slice q7 x1.Nodes.length x8) x1.Nodes H hr14 hx18) ?_
   clear E H; clear a; clear w; rintro _ w ⟨rfl, H⟩ a E
   refine sv E rfl rfl rfl (x_pickF E rfl rfl hb16 rfl) ?_
   clear a E;intro a E
   refine sv E rfl rfl rfl (x_assign E rfl rfl) ?_
   clear a E;intro a E
   refine wpList_nil ?_
   refine q_then ?_
   refine wp_ret ?_
   refine out1 E rfl rfl ?_
   replace H := H.drop 0
   obtain rfl := Option.some.inj hm
   exact ⟨rfl, H.reads (fun r hr => hs13 r hr)⟩
end Go.Cb

set_option linter.unusedVariables false
set_option linter.unusedSimpArgs false
namespace Go.Cb
open Go.Proofs Go.RowKit
def m_cantonlaw17_GreatAnswer_j3 (x1 : S_api_Answer) (x45 : Int) : Option Bool :=
  if (decide (x45 ≥ 9000)) = true then (some (true)) else ((m_cantonlaw07_Great (⟨x1.Store.Nodes, x1.Store.Turns⟩ : S_api_Store)).bind fun u55 => some (u55))
def m_cantonlaw17_GreatAnswer_l1 (x1 : S_api_Answer) : Nat → Int → Int → Option Bool
  | 0, _, _ => none
  | k1 + 1, x57, x58 =>
    if (decide (x58 < (x1.Mounts.length : Int))) = true then (if (decide (x57 < 9000)) = true then ((idx x1.Mounts x58).bind fun x68 => m_cantonlaw17_GreatAnswer_l1 x1 k1 (IntKind.i64.wrap (x57 + (min (x68.Prefix.size : Int) 9000))) (IntKind.i64.wrap (x58 + 1))) else (m_cantonlaw17_GreatAnswer_j3 x1 x57)) else (m_cantonlaw17_GreatAnswer_j3 x1 x57)
def m_cantonlaw17_GreatAnswer_j2 (x1 : S_api_Answer) (x36 : Int) : Option Bool :=
  m_cantonlaw17_GreatAnswer_l1 x1 9002 x36 0
def m_cantonlaw17_GreatAnswer_l2 (x1 : S_api_Answer) : Nat → Int → Int → Option Bool
  | 0, _, _ => none
  | k2 + 1, x71, x72 =>
    if (decide (x72 < (x1.Events.length : Int))) = true then (if (decide (x71 < 9000)) = true then ((idx x1.Events x72).bind fun x82 => m_cantonlaw17_GreatAnswer_l2 x1 k2 (IntKind.i64.wrap (x71 + (min (x82.Path.size : Int) 9000))) (IntKind.i64.wrap (x72 + 1))) else (m_cantonlaw17_GreatAnswer_j2 x1 x71)) else (m_cantonlaw17_GreatAnswer_j2 x1 x71)
def m_cantonlaw17_GreatAnswer_j1 (x1 : S_api_Answer) (x27 : Int) : Option Bool :=
  m_cantonlaw17_GreatAnswer_l2 x1 9002 x27 0
def m_cantonlaw17_GreatAnswer_l3 (x1 : S_api_Answer) : Nat → Int → Int → Option Bool
  | 0, _, _ => none
  | k3 + 1, x85, x86 =>
    if (decide (x86 < (x1.Results.length : Int))) = true then (if (decide (x85 < 9000)) = true then ((idx x1.Results x86).bind fun x97 => (idx x1.Results x86).bind fun x104 => (idx x1.Results x86).bind fun x111 => (m_cantonlaw17_GreatLog x111.Names).bind fun u115 => if u115 = true then (some (true)) else (m_cantonlaw17_GreatAnswer_l3 x1 k3 (IntKind.i64.wrap ((IntKind.i64.wrap (x85 + (min (x97.Path.size : Int) 9000))) + (min (x104.Data.size : Int) 9000))) (IntKind.i64.wrap (x86 + 1)))) else (m_cantonlaw17_GreatAnswer_j1 x1 x85)) else (m_cantonlaw17_GreatAnswer_j1 x1 x85)
def m_cantonlaw17_GreatAnswer (x1 : S_api_Answer) : Option Bool :=
  m_cantonlaw17_GreatAnswer_l3 x1 9002 (IntKind.i64.wrap ((IntKind.i64.wrap ((IntKind.i64.wrap ((x1.Results.length : Int) + (x1.Events.length : Int))) + (x1.Mounts.length : Int))) + (x1.Wounded.length : Int))) 0
set_option maxRecDepth 20000 in
set_option maxHeartbeats 1000000 in
theorem c_cantonlaw17_GreatAnswer {w : World} {Fo : List Ob} {rs : List Rp} (x1 : S_api_Answer) (v2 : Value) (v3 : Value) (v4 : Value) (v5 : Value) (v6 : Value) (v7 : Value) (H : Sep w (Fo) rs) (hr8 : rSl k_api_Result v2 x1.Results ∈ rs) (hr9 : rSl k_api_Node v3 x1.Store.Nodes ∈ rs) (hr10 : rSl k_api_Turn v4 x1.Store.Turns ∈ rs) (hr11 : rSl k_api_Event v5 x1.Events ∈ rs) (hr12 : rSl k_api_Mount v6 x1.Mounts ∈ rs) (hr13 : rSl (kI .i64) v7 x1.Wounded ∈ rs) {r : Bool} (hm : m_cantonlaw17_GreatAnswer x1 = some r) :
    Calls Try.prog 21 [.agg #[.int .i64 x1.Err, .int .i64 x1.At, .bool x1.Yes, .int .i64 x1.Epoch, v2, v3, v4, v5, v6, v7]].toArray w (Ret fun v w' => .bool r = v ∧ Sep w' (Fo) (rs)) := by
 unfold m_cantonlaw17_GreatAnswer at hm
 refine enter Try.func21 rfl Try.ntmps21 rfl fun a E => ?_
 simp only [enum, Nat.reduceAdd] at E
 refine wp_seq ?_
 refine wp_region_lit ?_
 obtain ⟨q15, x16, rfl⟩ := H.slform hr8
 obtain ⟨q17, x18, rfl⟩ := H.slform hr9
 obtain ⟨q19, x20, rfl⟩ := H.slform hr10
 obtain ⟨q21, x22, rfl⟩ := H.slform hr11
 obtain ⟨q23, x24, rfl⟩ := H.slform hr12
 obtain ⟨q25, x26, rfl⟩ := H.slform hr13
 refine st_box E H (wn rfl) rfl rfl (cs := [.int .i64 x1.Err, .int .i64 x1.At, .bool x1.Yes, .int .i64 x1.Epoch, (.slice q15 x1.Results.length x16), (.slice q17 x1.Store.Nodes.length x18), (.slice q19 x1.Store.Turns.length x20), (.slice q21 x1.Events.length x22), (.slice q23 x1.Mounts.length x24), (.slice q25 x1.Wounded.length x26)]) rfl rfl rfl ?_
 clear E H; clear a; clear w; intro p14 w a H E
 refine sv E rfl rfl rfl (x_assign E rfl rfl) ?_
 clear a E;intro a E
 refine wpList_nil ?_
 refine q_then ?_
 refine wp_seq ?_
 refine wp_region_lit ?_
 refine sv E rfl rfl rfl (x_fa E rfl rfl (v := .pointer (some ⟨p14, 4, none⟩)) (fa50_4 _ _)) ?_
 clear a E;intro a E
 refine sv E rfl rfl rfl (x_ldB (i := 0) E H rfl rfl rfl rfl Try.underlying41 rfl) ?_
 clear a E;intro a E
 refine sv E rfl rfl rfl (x_lenS E H rfl rfl hr8 Try.underlying41) ?_
 clear a E;intro a E
 refine sv E rfl rfl rfl (x_fa E rfl rfl (v := .pointer (some ⟨p14, 7, none⟩)) (fa50_6 _ _)) ?_
 clear a E;intro a E
 refine sv E rfl rfl rfl (x_ldB (i := 0) E H rfl rfl rfl rfl Try.underlying46 rfl) ?_
 clear a E;intro a E
 refine sv E rfl rfl rfl (x_lenS E H rfl rfl hr11 Try.underlying46) ?_
 clear a E;intro a E
 refine sv E rfl rfl rfl (x_bin E rfl rfl rfl rfl) ?_
 clear a E;intro a E
 refine sv E rfl rfl rfl (x_fa E rfl rfl (v := .pointer (some ⟨p14, 8, none⟩)) (fa50_7 _ _)) ?_
 clear a E;intro a E
 refine sv E rfl rfl rfl (x_ldB (i := 0) E H rfl rfl rfl rfl Try.underlying47 rfl) ?_
 clear a E;intro a E
 refine sv E rfl rfl rfl (x_lenS E H rfl rfl hr12 Try.underlying47) ?_
 clear a E;intro a E
 refine sv E rfl rfl rfl (x_bin E rfl rfl rfl rfl) ?_
 clear a E;intro a E
 refine sv E rfl rfl rfl (x_fa E rfl rfl (v := .pointer (some ⟨p14, 9, none⟩)) (fa50_8 _ _)) ?_
 clear a E;intro a E
 refine sv E rfl rfl rfl (x_ldB (i := 0) E H rfl rfl rfl rfl Try.underlying48 rfl) ?_
 clear a E;intro a E
 refine sv E rfl rfl rfl (x_lenS E H rfl rfl hr13 Try.underlying48) ?_
 clear a E;intro a E
 refine sv E rfl rfl rfl (x_bin E rfl rfl rfl rfl) ?_
 clear a E;intro a E
 refine sv E rfl rfl rfl (x_assign E rfl rfl) ?_
 clear a E;intro a E
 refine wpList_nil ?_
 refine q_then ?_
 refine wp_seq_cut (fun a w => ∃ (x27 : Int) (rs28 : List Rp), Env 108 a [(1, .pointer (some ⟨p14, 0, none⟩)), (3, .int .i64 x27)] ∧ Sep w (Blk p14 50 [.int .i64 x1.Err, .int .i64 x1.At, .bool x1.Yes, .int .i64 x1.Epoch, (.slice q15 x1.Results.length x16), (.slice q17 x1.Store.Nodes.length x18), (.slice q19 x1.Store.Turns.length x20), (.slice q21 x1.Events.length x22), (.slice q23 x1.Mounts.length x24), (.slice q25 x1.Wounded.length x26)] :: Fo) rs28 ∧ (∀ r, r ∈ rs → r ∈ rs28) ∧ rSl k_api_Result (.slice q15 x1.Results.length x16) x1.Results ∈ rs28 ∧ rSl k_api_Node (.slice q17 x1.Store.Nodes.length x18) x1.Store.Nodes ∈ rs28 ∧ rSl k_api_Turn (.slice q19 x1.Store.Turns.length x20) x1.Store.Turns ∈ rs28 ∧ rSl k_api_Event (.slice q21 x1.Events.length x22) x1.Events ∈ rs28 ∧ rSl k_api_Mount (.slice q23 x1.Mounts.length x24) x1.Mounts ∈ rs28 ∧ rSl (kI .i64) (.slice q25 x1.Wounded.length x26) x1.Wounded ∈ rs28 ∧ m_cantonlaw17_GreatAnswer_j1 x1 x27 = some r) ?_ ?_
 ·refine wp_seq ?_
  refine wp_region_lit ?_
  refine sv E rfl rfl rfl (x_assign E rfl rfl) ?_
  clear a E;intro a E
  refine wpList_nil ?_
  refine q_then ?_
  refine wp_block ?_
  refine wp_loop_g (fun k3 a w => ∃ (x85 : Int) (x86 : Int) (rs87 : List Rp), Env 108 a [(1, .pointer (some ⟨p14, 0, none⟩)), (3, .int .i64 x85), (4, .int .i64 x86)] ∧ Sep w (Blk p14 50 [.int .i64 x1.Err, .int .i64 x1.At, .bool x1.Yes, .int .i64 x1.Epoch, (.slice q15 x1.Results.length x16), (.slice q17 x1.Store.Nodes.length x18), (.slice q19 x1.Store.Turns.length x20), (.slice q21 x1.Events.length x22), (.slice q23 x1.Mounts.length x24), (.slice q25 x1.Wounded.length x26)] :: Fo) rs87 ∧ (∀ r, r ∈ rs → r ∈ rs87) ∧ rSl k_api_Result (.slice q15 x1.Results.length x16) x1.Results ∈ rs87 ∧ rSl k_api_Node (.slice q17 x1.Store.Nodes.length x18) x1.Store.Nodes ∈ rs87 ∧ rSl k_api_Turn (.slice q19 x1.Store.Turns.length x20) x1.Store.Turns ∈ rs87 ∧ rSl k_api_Event (.slice q21 x1.Events.length x22) x1.Events ∈ rs87 ∧ rSl k_api_Mount (.slice q23 x1.Mounts.length x24) x1.Mounts ∈ rs87 ∧ rSl (kI .i64) (.slice q25 x1.Wounded.length x26) x1.Wounded ∈ rs87 ∧ m_cantonlaw17_GreatAnswer_l3 x1 k3 x85 x86 = some r) (9002) ?_ ?_
  ·exact ⟨IntKind.i64.wrap ((IntKind.i64.wrap ((IntKind.i64.wrap ((x1.Results.length : Int) + (x1.Events.length : Int))) + (x1.Mounts.length : Int))) + (x1.Wounded.length : Int)), 0, _, (((E.nil.keep E 4 rfl).keep E 3 rfl).keep E 1 rfl), H, fun r hr => hr, hr8, hr9, hr10, hr11, hr12, hr13, hm⟩
  ·clear E H hm
   rintro k3 a w ⟨x85, x86, rs87, E, H, hs88, hr89, hr90, hr91, hr92, hr93, hr94, hm⟩
   cases k3 with
   | zero => exact (none_some hm rfl).elim
   | succ k3 =>
    unfold m_cantonlaw17_GreatAnswer_l3 at hm
    refine wp_seq ?_
    refine wp_seq ?_
    refine wp_region_lit ?_
    refine sv E rfl rfl rfl (x_move E rfl rfl) ?_
    clear a E;intro a E
    refine sv E rfl rfl rfl (x_fa E rfl rfl (v := .pointer (some ⟨p14, 4, none⟩)) (fa50_4 _ _)) ?_
    clear a E;intro a E
    refine sv E rfl rfl rfl (x_ldB (i := 0) E H rfl rfl rfl rfl Try.underlying41 rfl) ?_
    clear a E;intro a E
    refine sv E rfl rfl rfl (x_lenS E H rfl rfl hr89 Try.underlying41) ?_
    clear a E;intro a E
    refine sv E rfl rfl rfl (x_bin E rfl rfl rfl rfl) ?_
    clear a E;intro a E
    refine sv E rfl rfl rfl (x_move E rfl rfl) ?_
    clear a E;intro a E
    rcases Bool.eq_false_or_eq_true (decide (x86 < (x1.Results.length : Int))) with hb95 | hb95
    ·rw [if_t hb95] at hm
     refine st_val E (ws' E rfl rfl rfl rfl hb95) rfl rfl (x_move E rfl rfl) ?_
     clear a E;intro a E
     refine st_val E (ws' E rfl rfl rfl rfl hb95) rfl rfl (x_bin E rfl rfl rfl rfl) ?_
     clear a E;intro a E
     refine sv E rfl rfl rfl (x_pickT E rfl rfl hb95 rfl) ?_
     clear a E;intro a E
     refine wpList_nil ?_
     refine q_then ?_
     refine wp_if E rfl ?_ ?_
     ·intro hb
      rw [if_t hb] at hm
      clear hb
      refine wp_skip ?_
      refine q_then ?_
      refine wp_seq ?_
      refine wp_block ?_
      refine wp_seq ?_
      obtain ⟨u96, H⟩ := H.raw hr89
      replace H : Sep w (Blk p14 50 [.int .i64 x1.Err, .int .i64 x1.At, .bool x1.Yes, .int .i64 x1.Epoch, (.slice q15 x1.Results.length x16), (.slice q17 x1.Store.Nodes.length x18), (.slice q19 x1.Store.Turns.length x20), (.slice q21 x1.Events.length x22), (.slice q23 x1.Mounts.length x24), (.slice q25 x1.Wounded.length x26)] :: Fo) (rRow k_api_Result (.slice q15 x1.Results.length x16) x1.Results u96 :: rs87) := H
      have hI : Still [Blk p14 50 [.int .i64 x1.Err, .int .i64 x1.At, .bool x1.Yes, .int .i64 x1.Epoch, (.slice q15 x1.Results.length x16), (.slice q17 x1.Store.Nodes.length x18), (.slice q19 x1.Store.Turns.length x20), (.slice q21 x1.Events.length x22), (.slice q23 x1.Mounts.length x24), (.slice q25 x1.Wounded.length x26)]] [rRow k_api_Result (.slice q15 x1.Results.length x16) x1.Results u96] { w with drawn := w.drawn + 1 } := ⟨_, _, H.kept (Kp.drawn _ w _), (subO_cons (.head _) (subO_nil)), (sub_cons (.head _) (sub_nil))⟩
      refine wp_draw _ [(0, 0), (1, 0), (2, 0), (3, 0), (4, 0), (5, 0), (6, 0), (7, 0), (8, 0), (9, 0), (10, 0), (11, 0), (12, 0), (13, 0), (14, 0), (15, 0), (16, 0), (17, 0), (18, 0), (19, 2)] mixedOk (by kernel_rfl) (fun _ _ _ h => False.elim h.2) hI ?_
      replace H := H.kept (Kp.drawn _ w (w.drawn + 1))
      generalize ({ w with drawn := w.drawn + 1 } : World) = w at H hI ⊢
      replace hI : ∃ W, Still [Blk p14 50 [.int .i64 x1.Err, .int .i64 x1.At, .bool x1.Yes, .int .i64 x1.Epoch, (.slice q15 x1.Results.length x16), (.slice q17 x1.Store.Nodes.length x18), (.slice q19 x1.Store.Turns.length x20), (.slice q21 x1.Events.length x22), (.slice q23 x1.Mounts.length x24), (.slice q25 x1.Wounded.length x26)]] [rRow k_api_Result (.slice q15 x1.Results.length x16) x1.Results u96] W := ⟨_, hI⟩
      obtain ⟨W0, hI⟩ := hI
      refine fr_val E rfl (wn rfl) rfl rfl (fun w hW => (x_move E rfl rfl)) ?_
      clear a E;intro a E
      refine fr_val E rfl (wn rfl) rfl rfl (fun w hW => x_fa E rfl rfl (v := .pointer (some ⟨p14, 4, none⟩)) (fa50_4 _ _)) ?_
      clear a E;intro a E
      refine fr_val E rfl (wn rfl) rfl rfl (fun w hW => x_ld E rfl rfl (ib_ld (.head _) rfl Try.underlying41 rfl w hW)) ?_
      clear a E;intro a E
      refine fr_val E rfl (wn rfl) rfl rfl (fun w hW => (x_move E rfl rfl)) ?_
      clear a E;intro a E
      obtain ⟨x97, hx98, hm⟩ := bnd hm
      obtain ⟨q99, u102, hx100, hx101⟩ := dr_ixW (P := Try.prog) (k := .i64) hI (dr_mem (.head _)) Try.underlying41 sz62 hx98
      refine fr_val E rfl (wn rfl) rfl rfl (fun w hW => x_ixA E rfl rfl rfl (hx100 w)) ?_
      clear a E;intro a E
      have hx103 := dr_fld hx101 (fun _ _ _ h => k_api_Result_aw1 h)
      refine fr_val E rfl (wn rfl) rfl rfl (fun w hW => x_fa E rfl rfl (fa62_1 _ _)) ?_
      clear a E;intro a E
      refine fr_val E rfl (wn rfl) rfl rfl (fun w hW => x_ld E rfl rfl (ir_ld (DR.ir (dr_at hx103)) Try.underlying9 rfl w hW)) ?_
      clear a E;intro a E
      refine fr_val E rfl (wn rfl) rfl rfl (fun w hW => (x_lenStr E rfl rfl Try.underlying9)) ?_
      clear a E;intro a E
      refine fr_val E rfl (wn rfl) rfl rfl (fun w hW => (x_min (t := 0) E rfl rfl rfl)) ?_
      clear a E;intro a E
      refine fr_val E rfl (wn rfl) rfl rfl (fun w hW => (x_bin E rfl rfl rfl rfl)) ?_
      clear a E;intro a E
      refine fr_val E rfl (wn rfl) rfl rfl (fun w hW => x_fa E rfl rfl (v := .pointer (some ⟨p14, 4, none⟩)) (fa50_4 _ _)) ?_
      clear a E;intro a E
      refine fr_val E rfl (wn rfl) rfl rfl (fun w hW => x_ld E rfl rfl (ib_ld (.head _) rfl Try.underlying41 rfl w hW)) ?_
      clear a E;intro a E
      refine fr_val E rfl (wn rfl) rfl rfl (fun w hW => (x_move E rfl rfl)) ?_
      clear a E;intro a E
      obtain ⟨x104, hx105, hm⟩ := bnd hm
      obtain ⟨q106, u109, hx107, hx108⟩ := dr_ixW (P := Try.prog) (k := .i64) hI (dr_mem (.head _)) Try.underlying41 sz62 hx105
      refine fr_val E rfl (wn rfl) rfl rfl (fun w hW => x_ixA E rfl rfl rfl (hx107 w)) ?_
      clear a E;intro a E
      have hx110 := dr_fld hx108 (fun _ _ _ h => k_api_Result_aw2 h)
      refine fr_val E rfl (wn rfl) rfl rfl (fun w hW => x_fa E rfl rfl (fa62_2 _ _)) ?_
      clear a E;intro a E
      refine fr_val E rfl (wn rfl) rfl rfl (fun w hW => x_ld E rfl rfl (ir_ld (DR.ir (dr_at hx110)) Try.underlying9 rfl w hW)) ?_
      clear a E;intro a E
      refine fr_val E rfl (wn rfl) rfl rfl (fun w hW => (x_lenStr E rfl rfl Try.underlying9)) ?_
      clear a E;intro a E
      refine fr_val E rfl (wn rfl) rfl rfl (fun w hW => (x_min (t := 0) E rfl rfl rfl)) ?_
      clear a E;intro a E
      refine fr_val E rfl (wn rfl) rfl rfl (fun w hW => (x_bin E rfl rfl rfl rfl)) ?_
      clear a E;intro a E
      refine fr_tail rfl ?_
      refine sv E rfl rfl rfl (x_assign E rfl rfl) ?_
      clear a E;intro a E
      refine wpList_nil ?_
      refine q_then ?_
      refine fr_nil ?_
      clear hI
      refine q_then ?_
      refine wp_seq ?_
      refine wp_region_lit ?_
      refine sv E rfl rfl rfl (x_fa E rfl rfl (v := .pointer (some ⟨p14, 4, none⟩)) (fa50_4 _ _)) ?_
      clear a E;intro a E
      refine sv E rfl rfl rfl (x_ldB (i := 0) E H rfl rfl rfl rfl Try.underlying41 rfl) ?_
      clear a E;intro a E
      refine sv E rfl rfl rfl (x_move E rfl rfl) ?_
      clear a E;intro a E
      obtain ⟨x111, hx112, hm⟩ := bnd hm
      refine st_ixS E H (wn rfl) rfl rfl rfl rfl rfl (.tail _ hr89) Try.underlying41 sz62 hx112 ?_
      clear E H; clear a; intro q113 a H E
      replace H := H.derive1 (.head _) (rAt (kL kS) (q113.add 4) x111.Names) (fun ok h => k_api_Result_at4 h)
      refine sv E rfl rfl rfl (x_fa E rfl rfl (fa62_4 _ _)) ?_
      clear a E;intro a E
      refine st_ldL E H (wn rfl) rfl rfl rfl rfl (.head _) Try.underlying22 rfl ?_
      clear E H; clear a; intro v114 a H E
      obtain ⟨u115, hx116, hm⟩ := bnd hm
      refine st_call E (wn rfl) rfl rfl (x_call E rfl rfl (cf10 _)) (c_cantonlaw17_GreatLog v114 x111.Names H (.head _) hx116) ?_
      clear E H; clear a; clear w; rintro _ w ⟨rfl, H⟩ a E
      refine wpList_nil ?_
      refine q_then ?_
      refine wp_if E rfl ?_ ?_
      ·intro hb
       rw [if_t hb] at hm
       clear hb
       refine wp_seq ?_
       refine wp_region_lit ?_
       refine sv E rfl rfl rfl (x_assign E rfl rfl) ?_
       clear a E;intro a E
       refine wpList_nil ?_
       refine q_then ?_
       refine wp_ret ?_
       refine q_blkR ?_
       refine q_thenR ?_
       refine q_thenR ?_
       refine q_blkR ?_
       refine q_thenR ?_
       refine out1 E rfl rfl ?_
       replace H := H.drop 0
       obtain rfl := Option.some.inj hm
       exact ⟨rfl, H.reads (fun r hr => .tail _ (.tail _ (.tail _ (.tail _ (hs88 r hr)))))⟩
      ·intro hb
       rw [if_f hb] at hm
       clear hb
       refine wp_skip ?_
       refine q_blk ?_
       refine q_then ?_
       refine wp_region_lit ?_
       refine sv E rfl rfl rfl (x_move E rfl rfl) ?_
       clear a E;intro a E
       refine sv E rfl rfl rfl (x_bin E rfl rfl rfl rfl) ?_
       clear a E;intro a E
       refine sv E rfl rfl rfl (x_assign E rfl rfl) ?_
       clear a E;intro a E
       refine wpList_nil ?_
       refine q_then ?_
       exact ⟨k3, Nat.lt_succ_self k3, IntKind.i64.wrap ((IntKind.i64.wrap (x85 + (min (x97.Path.size : Int) 9000))) + (min (x104.Data.size : Int) 9000)), IntKind.i64.wrap (x86 + 1), _, (((E.nil.keep E 4 rfl).keep E 3 rfl).keep E 1 rfl), H, fun r hr => .tail _ (.tail _ (.tail _ (.tail _ (hs88 r hr)))), (.tail _ (.tail _ (.tail _ (.tail _ hr89)))), (.tail _ (.tail _ (.tail _ (.tail _ hr90)))), (.tail _ (.tail _ (.tail _ (.tail _ hr91)))), (.tail _ (.tail _ (.tail _ (.tail _ hr92)))), (.tail _ (.tail _ (.tail _ (.tail _ hr93)))), (.tail _ (.tail _ (.tail _ (.tail _ hr94)))), hm⟩
     ·intro hb
      rw [if_f hb] at hm
      clear hb
      refine wp_exit ?_
      refine q_thenX ?_
      refine q_thenX ?_
      refine q_hit ?_
      refine q_then ?_
      exact ⟨x85, _, ((E.nil.keep E 3 rfl).keep E 1 rfl), H, hs88, hr89, hr90, hr91, hr92, hr93, hr94, hm⟩
    ·rw [if_f hb95] at hm
     refine st_no E (wf' E rfl rfl rfl rfl hb95 rfl) rfl rfl ?_
     clear a E;intro a E
     refine st_no E (wf' E rfl rfl rfl rfl hb95 rfl) rfl rfl ?_
     clear a E;intro a E
     refine sv E rfl rfl rfl (x_pickF E rfl rfl hb95 rfl) ?_
     clear a E;intro a E
     refine wpList_nil ?_
     refine q_then ?_
     refine wp_cond_false (E.eval rfl) ?_
     refine wp_exit ?_
     refine q_thenX ?_
     refine q_thenX ?_
     refine q_hit ?_
     refine q_then ?_
     exact ⟨x85, _, ((E.nil.keep E 3 rfl).keep E 1 rfl), H, hs88, hr89, hr90, hr91, hr92, hr93, hr94, hm⟩
 ·clear E H hm
  rintro a w ⟨x27, rs28, E, H, hs29, hr30, hr31, hr32, hr33, hr34, hr35, hm⟩
  unfold m_cantonlaw17_GreatAnswer_j1 at hm
  refine wp_seq_cut (fun a w => ∃ (x36 : Int) (rs37 : List Rp), Env 108 a [(1, .pointer (some ⟨p14, 0, none⟩)), (3, .int .i64 x36)] ∧ Sep w (Blk p14 50 [.int .i64 x1.Err, .int .i64 x1.At, .bool x1.Yes, .int .i64 x1.Epoch, (.slice q15 x1.Results.length x16), (.slice q17 x1.Store.Nodes.length x18), (.slice q19 x1.Store.Turns.length x20), (.slice q21 x1.Events.length x22), (.slice q23 x1.Mounts.length x24), (.slice q25 x1.Wounded.length x26)] :: Fo) rs37 ∧ (∀ r, r ∈ rs → r ∈ rs37) ∧ rSl k_api_Result (.slice q15 x1.Results.length x16) x1.Results ∈ rs37 ∧ rSl k_api_Node (.slice q17 x1.Store.Nodes.length x18) x1.Store.Nodes ∈ rs37 ∧ rSl k_api_Turn (.slice q19 x1.Store.Turns.length x20) x1.Store.Turns ∈ rs37 ∧ rSl k_api_Event (.slice q21 x1.Events.length x22) x1.Events ∈ rs37 ∧ rSl k_api_Mount (.slice q23 x1.Mounts.length x24) x1.Mounts ∈ rs37 ∧ rSl (kI .i64) (.slice q25 x1.Wounded.length x26) x1.Wounded ∈ rs37 ∧ m_cantonlaw17_GreatAnswer_j2 x1 x36 = some r) ?_ ?_
  ·refine wp_seq ?_
   refine wp_region_lit ?_
   refine sv E rfl rfl rfl (x_assign E rfl rfl) ?_
   clear a E;intro a E
   refine wpList_nil ?_
   refine q_then ?_
   refine wp_block ?_
   refine wp_loop_g (fun k2 a w => ∃ (x71 : Int) (x72 : Int) (rs73 : List Rp), Env 108 a [(1, .pointer (some ⟨p14, 0, none⟩)), (3, .int .i64 x71), (5, .int .i64 x72)] ∧ Sep w (Blk p14 50 [.int .i64 x1.Err, .int .i64 x1.At, .bool x1.Yes, .int .i64 x1.Epoch, (.slice q15 x1.Results.length x16), (.slice q17 x1.Store.Nodes.length x18), (.slice q19 x1.Store.Turns.length x20), (.slice q21 x1.Events.length x22), (.slice q23 x1.Mounts.length x24), (.slice q25 x1.Wounded.length x26)] :: Fo) rs73 ∧ (∀ r, r ∈ rs → r ∈ rs73) ∧ rSl k_api_Result (.slice q15 x1.Results.length x16) x1.Results ∈ rs73 ∧ rSl k_api_Node (.slice q17 x1.Store.Nodes.length x18) x1.Store.Nodes ∈ rs73 ∧ rSl k_api_Turn (.slice q19 x1.Store.Turns.length x20) x1.Store.Turns ∈ rs73 ∧ rSl k_api_Event (.slice q21 x1.Events.length x22) x1.Events ∈ rs73 ∧ rSl k_api_Mount (.slice q23 x1.Mounts.length x24) x1.Mounts ∈ rs73 ∧ rSl (kI .i64) (.slice q25 x1.Wounded.length x26) x1.Wounded ∈ rs73 ∧ m_cantonlaw17_GreatAnswer_l2 x1 k2 x71 x72 = some r) (9002) ?_ ?_
   ·exact ⟨x27, 0, _, (((E.nil.keep E 5 rfl).keep E 3 rfl).keep E 1 rfl), H, hs29, hr30, hr31, hr32, hr33, hr34, hr35, hm⟩
   ·clear E H hm
    rintro k2 a w ⟨x71, x72, rs73, E, H, hs74, hr75, hr76, hr77, hr78, hr79, hr80, hm⟩
    cases k2 with
    | zero => exact (none_some hm rfl).elim
    | succ k2 =>
     unfold m_cantonlaw17_GreatAnswer_l2 at hm
     refine wp_seq ?_
     refine wp_seq ?_
     refine wp_region_lit ?_
     refine sv E rfl rfl rfl (x_move E rfl rfl) ?_
     clear a E;intro a E
     refine sv E rfl rfl rfl (x_fa E rfl rfl (v := .pointer (some ⟨p14, 7, none⟩)) (fa50_6 _ _)) ?_
     clear a E;intro a E
     refine sv E rfl rfl rfl (x_ldB (i := 0) E H rfl rfl rfl rfl Try.underlying46 rfl) ?_
     clear a E;intro a E
     refine sv E rfl rfl rfl (x_lenS E H rfl rfl hr78 Try.underlying46) ?_
     clear a E;intro a E
     refine sv E rfl rfl rfl (x_bin E rfl rfl rfl rfl) ?_
     clear a E;intro a E
     refine sv E rfl rfl rfl (x_move E rfl rfl) ?_
     clear a E;intro a E
     rcases Bool.eq_false_or_eq_true (decide (x72 < (x1.Events.length : Int))) with hb81 | hb81
     ·rw [if_t hb81] at hm
      refine st_val E (ws' E rfl rfl rfl rfl hb81) rfl rfl (x_move E rfl rfl) ?_
      clear a E;intro a E
      refine st_val E (ws' E rfl rfl rfl rfl hb81) rfl rfl (x_bin E rfl rfl rfl rfl) ?_
      clear a E;intro a E
      refine sv E rfl rfl rfl (x_pickT E rfl rfl hb81 rfl) ?_
      clear a E;intro a E
      refine wpList_nil ?_
      refine q_then ?_
      refine wp_if E rfl ?_ ?_
      ·intro hb
       rw [if_t hb] at hm
       clear hb
       refine wp_skip ?_
       refine q_then ?_
       refine wp_seq ?_
       refine wp_block ?_
       refine wp_region_lit ?_
       refine sv E rfl rfl rfl (x_move E rfl rfl) ?_
       clear a E;intro a E
       refine sv E rfl rfl rfl (x_fa E rfl rfl (v := .pointer (some ⟨p14, 7, none⟩)) (fa50_6 _ _)) ?_
       clear a E;intro a E
       refine sv E rfl rfl rfl (x_ldB (i := 0) E H rfl rfl rfl rfl Try.underlying46 rfl) ?_
       clear a E;intro a E
       refine sv E rfl rfl rfl (x_move E rfl rfl) ?_
       clear a E;intro a E
       obtain ⟨x82, hx83, hm⟩ := bnd hm
       refine st_ixS E H (wn rfl) rfl rfl rfl rfl rfl hr78 Try.underlying46 sz68 hx83 ?_
       clear E H; clear a; intro q84 a H E
       replace H := H.derive1 (.head _) (rAt kS (q84.add 2) x82.Path) (fun ok h => k_api_Event_at2 h)
       refine sv E rfl rfl rfl (x_fa E rfl rfl (fa68_2 _ _)) ?_
       clear a E;intro a E
       refine sv E rfl rfl rfl (x_ldA E H rfl rfl (.head _) Try.underlying9 rfl) ?_
       clear a E;intro a E
       refine sv E rfl rfl rfl (x_lenStr E rfl rfl Try.underlying9) ?_
       clear a E;intro a E
       refine sv E rfl rfl rfl (x_min (t := 0) E rfl rfl rfl) ?_
       clear a E;intro a E
       refine sv E rfl rfl rfl (x_bin E rfl rfl rfl rfl) ?_
       clear a E;intro a E
       refine sv E rfl rfl rfl (x_assign E rfl rfl) ?_
       clear a E;intro a E
       refine wpList_nil ?_
       refine q_blk ?_
       refine q_then ?_
       refine wp_region_lit ?_
       refine sv E rfl rfl rfl (x_move E rfl rfl) ?_
       clear a E;intro a E
       refine sv E rfl rfl rfl (x_bin E rfl rfl rfl rfl) ?_
       clear a E;intro a E
       refine sv E rfl rfl rfl (x_assign E rfl rfl) ?_
       clear a E;intro a E
       refine wpList_nil ?_
       refine q_then ?_
       exact ⟨k2, Nat.lt_succ_self k2, IntKind.i64.wrap (x71 + (min (x82.Path.size : Int) 9000)), IntKind.i64.wrap (x72 + 1), _, (((E.nil.keep E 5 rfl).keep E 3 rfl).keep E 1 rfl), H, fun r hr => .tail _ (.tail _ (hs74 r hr)), (.tail _ (.tail _ hr75)), (.tail _ (.tail _ hr76)), (.tail _ (.tail _ hr77)), (.tail _ (.tail _ hr78)), (.tail _ (.tail _ hr79)), (.tail _ (.tail _ hr80)), hm⟩
      ·intro hb
       rw [if_f hb] at hm
       clear hb
       refine wp_exit ?_
       refine q_thenX ?_
       refine q_thenX ?_
       refine q_hit ?_
       refine q_then ?_
       exact ⟨x71, _, ((E.nil.keep E 3 rfl).keep E 1 rfl), H, hs74, hr75, hr76, hr77, hr78, hr79, hr80, hm⟩
     ·rw [if_f hb81] at hm
      refine st_no E (wf' E rfl rfl rfl rfl hb81 rfl) rfl rfl ?_
      clear a E;intro a E
      refine st_no E (wf' E rfl rfl rfl rfl hb81 rfl) rfl rfl ?_
      clear a E;intro a E
      refine sv E rfl rfl rfl (x_pickF E rfl rfl hb81 rfl) ?_
      clear a E;intro a E
      refine wpList_nil ?_
      refine q_then ?_
      refine wp_cond_false (E.eval rfl) ?_
      refine wp_exit ?_
      refine q_thenX ?_
      refine q_thenX ?_
      refine q_hit ?_
      refine q_then ?_
      exact ⟨x71, _, ((E.nil.keep E 3 rfl).keep E 1 rfl), H, hs74, hr75, hr76, hr77, hr78, hr79, hr80, hm⟩
  ·clear E H hm
   rintro a w ⟨x36, rs37, E, H, hs38, hr39, hr40, hr41, hr42, hr43, hr44, hm⟩
   unfold m_cantonlaw17_GreatAnswer_j2 at hm
   refine wp_seq_cut (fun a w => ∃ (x45 : Int) (rs46 : List Rp), Env 108 a [(1, .pointer (some ⟨p14, 0, none⟩)), (3, .int .i64 x45)] ∧ Sep w (Blk p14 50 [.int .i64 x1.Err, .int .i64 x1.At, .bool x1.Yes, .int .i64 x1.Epoch, (.slice q15 x1.Results.length x16), (.slice q17 x1.Store.Nodes.length x18), (.slice q19 x1.Store.Turns.length x20), (.slice q21 x1.Events.length x22), (.slice q23 x1.Mounts.length x24), (.slice q25 x1.Wounded.length x26)] :: Fo) rs46 ∧ (∀ r, r ∈ rs → r ∈ rs46) ∧ rSl k_api_Result (.slice q15 x1.Results.length x16) x1.Results ∈ rs46 ∧ rSl k_api_Node (.slice q17 x1.Store.Nodes.length x18) x1.Store.Nodes ∈ rs46 ∧ rSl k_api_Turn (.slice q19 x1.Store.Turns.length x20) x1.Store.Turns ∈ rs46 ∧ rSl k_api_Event (.slice q21 x1.Events.length x22) x1.Events ∈ rs46 ∧ rSl k_api_Mount (.slice q23 x1.Mounts.length x24) x1.Mounts ∈ rs46 ∧ rSl (kI .i64) (.slice q25 x1.Wounded.length x26) x1.Wounded ∈ rs46 ∧ m_cantonlaw17_GreatAnswer_j3 x1 x45 = some r) ?_ ?_
   ·refine wp_seq ?_
    refine wp_region_lit ?_
    refine sv E rfl rfl rfl (x_assign E rfl rfl) ?_
    clear a E;intro a E
    refine wpList_nil ?_
    refine q_then ?_
    refine wp_block ?_
    refine wp_loop_g (fun k1 a w => ∃ (x57 : Int) (x58 : Int) (rs59 : List Rp), Env 108 a [(1, .pointer (some ⟨p14, 0, none⟩)), (3, .int .i64 x57), (6, .int .i64 x58)] ∧ Sep w (Blk p14 50 [.int .i64 x1.Err, .int .i64 x1.At, .bool x1.Yes, .int .i64 x1.Epoch, (.slice q15 x1.Results.length x16), (.slice q17 x1.Store.Nodes.length x18), (.slice q19 x1.Store.Turns.length x20), (.slice q21 x1.Events.length x22), (.slice q23 x1.Mounts.length x24), (.slice q25 x1.Wounded.length x26)] :: Fo) rs59 ∧ (∀ r, r ∈ rs → r ∈ rs59) ∧ rSl k_api_Result (.slice q15 x1.Results.length x16) x1.Results ∈ rs59 ∧ rSl k_api_Node (.slice q17 x1.Store.Nodes.length x18) x1.Store.Nodes ∈ rs59 ∧ rSl k_api_Turn (.slice q19 x1.Store.Turns.length x20) x1.Store.Turns ∈ rs59 ∧ rSl k_api_Event (.slice q21 x1.Events.length x22) x1.Events ∈ rs59 ∧ rSl k_api_Mount (.slice q23 x1.Mounts.length x24) x1.Mounts ∈ rs59 ∧ rSl (kI .i64) (.slice q25 x1.Wounded.length x26) x1.Wounded ∈ rs59 ∧ m_cantonlaw17_GreatAnswer_l1 x1 k1 x57 x58 = some r) (9002) ?_ ?_
    ·exact ⟨x36, 0, _, (((E.nil.keep E 6 rfl).keep E 3 rfl).keep E 1 rfl), H, hs38, hr39, hr40, hr41, hr42, hr43, hr44, hm⟩
    ·clear E H hm
     rintro k1 a w ⟨x57, x58, rs59, E, H, hs60, hr61, hr62, hr63, hr64, hr65, hr66, hm⟩
     cases k1 with
     | zero => exact (none_some hm rfl).elim
     | succ k1 =>
      unfold m_cantonlaw17_GreatAnswer_l1 at hm
      refine wp_seq ?_
      refine wp_seq ?_
      refine wp_region_lit ?_
      refine sv E rfl rfl rfl (x_move E rfl rfl) ?_
      clear a E;intro a E
      refine sv E rfl rfl rfl (x_fa E rfl rfl (v := .pointer (some ⟨p14, 8, none⟩)) (fa50_7 _ _)) ?_
      clear a E;intro a E
      refine sv E rfl rfl rfl (x_ldB (i := 0) E H rfl rfl rfl rfl Try.underlying47 rfl) ?_
      clear a E;intro a E
      refine sv E rfl rfl rfl (x_lenS E H rfl rfl hr65 Try.underlying47) ?_
      clear a E;intro a E
      refine sv E rfl rfl rfl (x_bin E rfl rfl rfl rfl) ?_
      clear a E;intro a E
      refine sv E rfl rfl rfl (x_move E rfl rfl) ?_
      clear a E;intro a E
      rcases Bool.eq_false_or_eq_true (decide (x58 < (x1.Mounts.length : Int))) with hb67 | hb67
      ·rw [if_t hb67] at hm
       refine st_val E (ws' E rfl rfl rfl rfl hb67) rfl rfl (x_move E rfl rfl) ?_
       clear a E;intro a E
       refine st_val E (ws' E rfl rfl rfl rfl hb67) rfl rfl (x_bin E rfl rfl rfl rfl) ?_
       clear a E;intro a E
       refine sv E rfl rfl rfl (x_pickT E rfl rfl hb67 rfl) ?_
       clear a E;intro a E
       refine wpList_nil ?_
       refine q_then ?_
       refine wp_if E rfl ?_ ?_
       ·intro hb
        rw [if_t hb] at hm
        clear hb
        refine wp_skip ?_
        refine q_then ?_
        refine wp_seq ?_
        refine wp_block ?_
        refine wp_region_lit ?_
        refine sv E rfl rfl rfl (x_move E rfl rfl) ?_
        clear a E;intro a E
        refine sv E rfl rfl rfl (x_fa E rfl rfl (v := .pointer (some ⟨p14, 8, none⟩)) (fa50_7 _ _)) ?_
        clear a E;intro a E
        refine sv E rfl rfl rfl (x_ldB (i := 0) E H rfl rfl rfl rfl Try.underlying47 rfl) ?_
        clear a E;intro a E
        refine sv E rfl rfl rfl (x_move E rfl rfl) ?_
        clear a E;intro a E
        obtain ⟨x68, hx69, hm⟩ := bnd hm
        refine st_ixS E H (wn rfl) rfl rfl rfl rfl rfl hr65 Try.underlying47 sz70 hx69 ?_
        clear E H; clear a; intro q70 a H E
        replace H := H.derive1 (.head _) (rAt kS (q70.add 0) x68.Prefix) (fun ok h => k_api_Mount_at0 h)
        refine sv E rfl rfl rfl (x_fa E rfl rfl (fa70_0 _ _)) ?_
        clear a E;intro a E
        refine sv E rfl rfl rfl (x_ldA E H rfl rfl (.head _) Try.underlying9 rfl) ?_
        clear a E;intro a E
        refine sv E rfl rfl rfl (x_lenStr E rfl rfl Try.underlying9) ?_
        clear a E;intro a E
        refine sv E rfl rfl rfl (x_min (t := 0) E rfl rfl rfl) ?_
        clear a E;intro a E
        refine sv E rfl rfl rfl (x_bin E rfl rfl rfl rfl) ?_
        clear a E;intro a E
        refine sv E rfl rfl rfl (x_assign E rfl rfl) ?_
        clear a E;intro a E
        refine wpList_nil ?_
        refine q_blk ?_
        refine q_then ?_
        refine wp_region_lit ?_
        refine sv E rfl rfl rfl (x_move E rfl rfl) ?_
        clear a E;intro a E
        refine sv E rfl rfl rfl (x_bin E rfl rfl rfl rfl) ?_
        clear a E;intro a E
        refine sv E rfl rfl rfl (x_assign E rfl rfl) ?_
        clear a E;intro a E
        refine wpList_nil ?_
        refine q_then ?_
        exact ⟨k1, Nat.lt_succ_self k1, IntKind.i64.wrap (x57 + (min (x68.Prefix.size : Int) 9000)), IntKind.i64.wrap (x58 + 1), _, (((E.nil.keep E 6 rfl).keep E 3 rfl).keep E 1 rfl), H, fun r hr => .tail _ (.tail _ (hs60 r hr)), (.tail _ (.tail _ hr61)), (.tail _ (.tail _ hr62)), (.tail _ (.tail _ hr63)), (.tail _ (.tail _ hr64)), (.tail _ (.tail _ hr65)), (.tail _ (.tail _ hr66)), hm⟩
       ·intro hb
        rw [if_f hb] at hm
        clear hb
        refine wp_exit ?_
        refine q_thenX ?_
        refine q_thenX ?_
        refine q_hit ?_
        refine q_then ?_
        exact ⟨x57, _, ((E.nil.keep E 3 rfl).keep E 1 rfl), H, hs60, hr61, hr62, hr63, hr64, hr65, hr66, hm⟩
      ·rw [if_f hb67] at hm
       refine st_no E (wf' E rfl rfl rfl rfl hb67 rfl) rfl rfl ?_
       clear a E;intro a E
       refine st_no E (wf' E rfl rfl rfl rfl hb67 rfl) rfl rfl ?_
       clear a E;intro a E
       refine sv E rfl rfl rfl (x_pickF E rfl rfl hb67 rfl) ?_
       clear a E;intro a E
       refine wpList_nil ?_
       refine q_then ?_
       refine wp_cond_false (E.eval rfl) ?_
       refine wp_exit ?_
       refine q_thenX ?_
       refine q_thenX ?_
       refine q_hit ?_
       refine q_then ?_
       exact ⟨x57, _, ((E.nil.keep E 3 rfl).keep E 1 rfl), H, hs60, hr61, hr62, hr63, hr64, hr65, hr66, hm⟩
   ·clear E H hm
    rintro a w ⟨x45, rs46, E, H, hs47, hr48, hr49, hr50, hr51, hr52, hr53, hm⟩
    unfold m_cantonlaw17_GreatAnswer_j3 at hm
    refine wp_seq ?_
    refine wp_region_lit ?_
    refine sv E rfl rfl rfl (x_move E rfl rfl) ?_
    clear a E;intro a E
    refine sv E rfl rfl rfl (x_bin E rfl rfl rfl rfl) ?_
    clear a E;intro a E
    refine sv E rfl rfl rfl (x_move E rfl rfl) ?_
    clear a E;intro a E
    rcases Bool.eq_false_or_eq_true (decide (x45 ≥ 9000)) with hb54 | hb54
    ·rw [if_t hb54] at hm
     refine st_no E (wf' E rfl rfl rfl rfl hb54 rfl) rfl rfl ?_
     clear a E;intro a E
     refine st_no E (wf' E rfl rfl rfl rfl hb54 rfl) rfl rfl ?_
     clear a E;intro a E
     refine st_no E (wf' E rfl rfl rfl rfl hb54 rfl) rfl rfl ?_
     clear a E;intro a E
     refine sv E rfl rfl rfl (x_pickT E rfl rfl hb54 rfl) ?_
     clear a E;intro a E
     refine sv E rfl rfl rfl (x_assign E rfl rfl) ?_
     clear a E;intro a E
     refine wpList_nil ?_
     refine q_then ?_
     refine wp_ret ?_
     refine out1 E rfl rfl ?_
     replace H := H.drop 0
     obtain rfl := Option.some.inj hm
     exact ⟨rfl, H.reads (fun r hr => hs47 r hr)⟩
    ·rw [if_f hb54] at hm
     refine st_val E (ws' E rfl rfl rfl rfl hb54) rfl rfl (x_fa E rfl rfl (v := .pointer (some ⟨p14, 5, none⟩)) (fa50_5 _ _)) ?_
     clear a E;intro a E
     refine st_val E (ws' E rfl rfl rfl rfl hb54) rfl rfl (x_ldBN (i := 0) (us := [(.slice q17 x1.Store.Nodes.length x18), (.slice q19 x1.Store.Turns.length x20)]) E H rfl rfl rfl rfl Try.underlying45 rfl sz45) ?_
     clear a E;intro a E
     obtain ⟨u55, hx56, hm⟩ := bnd hm
     refine st_call E (ws' E rfl rfl rfl rfl hb54) rfl rfl (x_call E rfl rfl (cf50 _)) (c_cantonlaw07_Great (⟨x1.Store.Nodes, x1.Store.Turns⟩ : S_api_Store) (.slice q17 x1.Store.Nodes.length x18) (.slice q19 x1.Store.Turns.length x20) H hr49 hr50 hx56) ?_
     clear E H; clear a; clear w; rintro _ w ⟨rfl, H⟩ a E
     refine sv E rfl rfl rfl (x_pickF E rfl rfl hb54 rfl) ?_
     clear a E;intro a E
     refine sv E rfl rfl rfl (x_assign E rfl rfl) ?_
     clear a E;intro a E
     refine wpList_nil ?_
     refine q_then ?_
     refine wp_ret ?_
     refine out1 E rfl rfl ?_
     replace H := H.drop 0
     obtain rfl := Option.some.inj hm
     exact ⟨rfl, H.reads (fun r hr => hs47 r hr)⟩
end Go.Cb

set_option linter.unusedVariables false
set_option linter.unusedSimpArgs false
namespace Go.Cb
open Go.Proofs Go.RowKit
def m_cantonlaw17_may (x1 : Int) : Option Bool :=
  if (decide (x1 ≥ 0)) = true then (some (decide (x1 ≤ 281474976710656))) else (some (false))
set_option maxRecDepth 20000 in
set_option maxHeartbeats 1000000 in
theorem c_cantonlaw17_may {w : World} {Fo : List Ob} {rs : List Rp} (x1 : Int) (H : Sep w (Fo) rs) {r : Bool} (hm : m_cantonlaw17_may x1 = some r) :
    Calls Try.prog 27 [.int .i64 x1].toArray w (Ret fun v w' => .bool r = v ∧ Sep w' (Fo) (rs)) := by
 unfold m_cantonlaw17_may at hm
 refine enter Try.func27 rfl Try.ntmps27 rfl fun a E => ?_
 simp only [enum, Nat.reduceAdd] at E
 refine wp_seq ?_
 refine wp_region_lit ?_
 refine sv E rfl rfl rfl (x_assign E rfl rfl) ?_
 clear a E;intro a E
 refine wpList_nil ?_
 refine q_then ?_
 refine wp_seq ?_
 refine wp_region_lit ?_
 refine sv E rfl rfl rfl (x_move E rfl rfl) ?_
 clear a E;intro a E
 refine sv E rfl rfl rfl (x_bin E rfl rfl rfl rfl) ?_
 clear a E;intro a E
 refine sv E rfl rfl rfl (x_move E rfl rfl) ?_
 clear a E;intro a E
 rcases Bool.eq_false_or_eq_true (decide (x1 ≥ 0)) with hb2 | hb2
 ·rw [if_t hb2] at hm
  refine st_val E (ws' E rfl rfl rfl rfl hb2) rfl rfl (x_move E rfl rfl) ?_
  clear a E;intro a E
  refine st_val E (ws' E rfl rfl rfl rfl hb2) rfl rfl (x_bin E rfl rfl rfl rfl) ?_
  clear a E;intro a E
  refine sv E rfl rfl rfl (x_pickT E rfl rfl hb2 rfl) ?_
  clear a E;intro a E
  refine sv E rfl rfl rfl (x_assign E rfl rfl) ?_
  clear a E;intro a E
  refine wpList_nil ?_
  refine q_then ?_
  refine wp_ret ?_
  refine out1 E rfl rfl ?_
  obtain rfl := Option.some.inj hm
  exact ⟨rfl, H.reads (fun r hr => hr)⟩
 ·rw [if_f hb2] at hm
  refine st_no E (wf' E rfl rfl rfl rfl hb2 rfl) rfl rfl ?_
  clear a E;intro a E
  refine st_no E (wf' E rfl rfl rfl rfl hb2 rfl) rfl rfl ?_
  clear a E;intro a E
  refine sv E rfl rfl rfl (x_pickF E rfl rfl hb2 rfl) ?_
  clear a E;intro a E
  refine sv E rfl rfl rfl (x_assign E rfl rfl) ?_
  clear a E;intro a E
  refine wpList_nil ?_
  refine q_then ?_
  refine wp_ret ?_
  refine out1 E rfl rfl ?_
  obtain rfl := Option.some.inj hm
  exact ⟨rfl, H.reads (fun r hr => hr)⟩
end Go.Cb
