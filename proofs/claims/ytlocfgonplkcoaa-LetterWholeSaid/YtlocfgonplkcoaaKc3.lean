/- Functions of the program, walked: each comes to its plain function. -/
import Derived.Test.YtlocfgonplkcoaaKc2
set_option linter.unusedVariables false
set_option linter.unusedSimpArgs false
namespace Go.Cb
open Go.Proofs Go.RowKit
def m_letter_PutSaved (x1 : S_api_Saved) : Option ((List Int) × Int) :=
  (m_letter_writer_nums [] false ([x1.View, x1.Normal] : List Int)).bind fun u9 => (m_pack_Writer_Texts u9.1 u9.2 x1.Log).bind fun u12 => (m_pack_Writer_Bytes u12.1 u12.2).bind fun u15 => some (u15.1, u15.2)
set_option maxRecDepth 20000 in
set_option maxHeartbeats 1000000 in
theorem c_letter_PutSaved {w : World} {Fo : List Ob} {rs : List Rp} (x1 : S_api_Saved) (v2 : Value) (H : Sep w (Fo) rs) (hr3 : rSl kS v2 x1.Log ∈ rs) {r : (List Int) × Int} (hm : m_letter_PutSaved x1 = some r) :
    Calls Try.prog 13 [.agg #[.int .i64 x1.View, .int .i64 x1.Normal, v2]].toArray w (Ret fun v w' => ∃ (v5001 : Value), .tuple #[v5001, .int .i64 r.2] = v ∧ Sep w' (Row 5 (kI .u8) v5001 r.1 :: Fo) (rs)) := by
 unfold m_letter_PutSaved at hm
 refine enter Try.func13 rfl Try.ntmps13 rfl fun a E => ?_
 simp only [enum, Nat.reduceAdd] at E
 refine wp_seq ?_
 refine wp_region_lit ?_
 obtain ⟨q5, x6, rfl⟩ := H.slform hr3
 refine st_box E H (wn rfl) rfl rfl (cs := [.int .i64 x1.View, .int .i64 x1.Normal, (.slice q5 x1.Log.length x6)]) rfl rfl rfl ?_
 clear E H; clear a; clear w; intro p4 w a H E
 refine st_val E (wn rfl) rfl rfl (x_assign E rfl rfl) ?_
 clear a E;intro a E
 refine st_val E (wn rfl) rfl rfl (x_assign E rfl rfl) ?_
 clear a E;intro a E
 refine wpList_nil ?_
 refine q_then ?_
 refine wp_seq ?_
 refine wp_region_lit ?_
 refine st_val E (wn rfl) rfl rfl (x_build E (ps := []) (vs := []) rfl rfl (v := .agg #[.slice none 0 0, .bool false]) (by kernel_rfl)) ?_
 clear a E;intro a E
 refine st_box E H (wn rfl) rfl rfl (cs := [.slice none 0 0, .bool false]) rfl rfl rfl ?_
 clear E H; clear a; clear w; intro p7 w a H E
 refine st_val E (wn rfl) rfl rfl (x_assign E rfl rfl) ?_
 clear a E;intro a E
 refine wpList_nil ?_
 refine q_then ?_
 refine wp_seq ?_
 refine wp_region_lit ?_
 refine st_val E (wn rfl) rfl rfl (x_move E rfl rfl) ?_
 clear a E;intro a E
 refine st_val E (wn rfl) rfl rfl (x_fa E rfl rfl (v := .pointer (some ⟨p4, 0, none⟩)) (fa26_0 _ _)) ?_
 clear a E;intro a E
 refine st_val E (wn rfl) rfl rfl (x_ldB (i := 1) E H rfl rfl rfl rfl Try.underlying2 rfl) ?_
 clear a E;intro a E
 refine st_val E (wn rfl) rfl rfl (x_fa E rfl rfl (v := .pointer (some ⟨p4, 1, none⟩)) (fa26_1 _ _)) ?_
 clear a E;intro a E
 refine st_val E (wn rfl) rfl rfl (x_ldB (i := 1) E H rfl rfl rfl rfl Try.underlying2 rfl) ?_
 clear a E;intro a E
 refine st_bsO (e := 2) (d := (kI .i64)) (cs := [.int .i64 x1.View, .int .i64 x1.Normal]) (xs := [x1.View, x1.Normal]) E H (wn rfl) rfl rfl (ps := [(0, .tmp 9), (1, .tmp 11)]) (parts := [(0, .int .i64 x1.View), (1, .int .i64 x1.Normal)]) rfl (by simp only [List.map]; rw [E.eval (x := .tmp 9) (v := .int .i64 x1.View) rfl, E.eval (x := .tmp 11) (v := .int .i64 x1.Normal) rfl]) (by kernel_rfl) rfl rfl (fun ok hr => (Rows.append (Rows.single (d := (kI .i64)) (cs := [.int .i64 x1.View]) (x := x1.View) rfl) (Rows.single (d := (kI .i64)) (cs := [.int .i64 x1.Normal]) (x := x1.Normal) rfl))) ?_
 clear E H; clear a; clear w; intro v8 w a H E
 replace H := H.thaw (i := 0) rfl
 replace H := H.nilRow 5 (kI .u8)
 replace H := H.front 2 rfl
 replace H := H.front 1 rfl
 replace H := H.front 2 rfl
 replace H : Sep w (Blk p7 76 [.slice none 0 0, .bool false] :: Row 5 (kI .u8) (.slice none 0 0) ([] : List Int) :: Blk p4 26 [.int .i64 x1.View, .int .i64 x1.Normal, (.slice q5 x1.Log.length x6)] :: Fo) (rSl (kI .i64) v8 ([x1.View, x1.Normal] : List Int) :: rs) := H
 obtain ⟨u9, hx10, hm⟩ := bnd hm
 refine st_call E (wn rfl) rfl rfl (x_call E rfl rfl (cf28 _)) (c_letter_writer_nums p7 (.slice none 0 0) [] false v8 ([x1.View, x1.Normal] : List Int) H (.head _) hx10) ?_
 clear E H; clear a; clear w; rintro _ w ⟨v11, rfl, H⟩ a E
 refine wpList_nil ?_
 refine q_then ?_
 refine wp_seq ?_
 replace H : Sep w (Blk p7 76 [v11, .bool u9.2] :: Row 5 (kI .u8) v11 u9.1 :: Blk p4 26 [.int .i64 x1.View, .int .i64 x1.Normal, (.slice q5 x1.Log.length x6)] :: Fo) (rSl (kI .i64) v8 ([x1.View, x1.Normal] : List Int) :: rs) := H
 have hI : Still [Blk p4 26 [.int .i64 x1.View, .int .i64 x1.Normal, (.slice q5 x1.Log.length x6)]] [] { w with drawn := w.drawn + 1 } := ⟨_, _, H.kept (Kp.drawn _ w _), (subO_cons (.tail _ (.tail _ (.head _))) (subO_nil)), (sub_nil)⟩
 refine wp_draw _ [(0, 0), (1, 0), (2, 0), (3, 0), (4, 0), (5, 1)] mixedOk (by kernel_rfl) (fun _ _ _ h => False.elim h.2) hI ?_
 replace H := H.kept (Kp.drawn _ w (w.drawn + 1))
 generalize ({ w with drawn := w.drawn + 1 } : World) = w at H hI ⊢
 replace hI : ∃ W, Still [Blk p4 26 [.int .i64 x1.View, .int .i64 x1.Normal, (.slice q5 x1.Log.length x6)]] [] W := ⟨_, hI⟩
 obtain ⟨W0, hI⟩ := hI
 refine fr_val E rfl (wn rfl) rfl rfl (fun w hW => (x_move E rfl rfl)) ?_
 clear a E;intro a E
 refine fr_val E rfl (wn rfl) rfl rfl (fun w hW => (x_nil E rfl rfl)) ?_
 clear a E;intro a E
 refine fr_val E rfl (wn rfl) rfl rfl (fun w hW => x_fa E rfl rfl (v := .pointer (some ⟨p7, 0, none⟩)) (fa76_0 _ _)) ?_
 clear a E;intro a E
 refine fr_val E rfl (wn rfl) rfl rfl (fun w hW => x_fa E rfl rfl (v := .pointer (some ⟨p4, 2, none⟩)) (fa26_2 _ _)) ?_
 clear a E;intro a E
 refine fr_val E rfl (wn rfl) rfl rfl (fun w hW => x_ld E rfl rfl (ib_ld (.head _) rfl Try.underlying22 rfl w hW)) ?_
 clear a E;intro a E
 refine fr_op rfl ?_
 obtain ⟨u12, hx13, hm⟩ := bnd hm
 refine st_call E (wn rfl) rfl rfl (x_call E rfl rfl (cf29 _)) (c_pack_Writer_Texts p7 v11 u9.1 u9.2 (.slice q5 x1.Log.length x6) x1.Log H (.tail _ hr3) hx13) ?_
 clear E H; clear a; clear w; rintro _ w ⟨v14, rfl, H⟩ a E
 refine wpList_nil ?_
 refine q_then ?_
 replace H : Sep w (Blk p7 76 [v14, .bool u12.2] :: Row 5 (kI .u8) v14 u12.1 :: Blk p4 26 [.int .i64 x1.View, .int .i64 x1.Normal, (.slice q5 x1.Log.length x6)] :: Fo) (rSl (kI .i64) v8 ([x1.View, x1.Normal] : List Int) :: rs) := H
 refine ⟨⟨_, _, H, (subO_cons (.tail _ (.tail _ (.head _))) (subO_nil)), (sub_nil)⟩, ?_⟩
 refine fr_nil ?_
 clear hI
 refine q_then ?_
 refine wp_seq ?_
 refine wp_region_lit ?_
 refine st_val E (wn rfl) rfl rfl (x_move E rfl rfl) ?_
 clear a E;intro a E
 refine st_val E (wn rfl) rfl rfl (x_nil E rfl rfl) ?_
 clear a E;intro a E
 refine st_val E (wn rfl) rfl rfl (x_fa E rfl rfl (v := .pointer (some ⟨p7, 0, none⟩)) (fa76_0 _ _)) ?_
 clear a E;intro a E
 obtain ⟨u15, hx16, hm⟩ := bnd hm
 refine st_call E (wn rfl) rfl rfl (x_call E rfl rfl (cf32 _)) (c_pack_Writer_Bytes p7 v14 u12.1 u12.2 H hx16) ?_
 clear E H; clear a; clear w; rintro _ w ⟨v17, rfl, H⟩ a E
 refine st_val E (wn rfl) rfl rfl (x_ext E rfl rfl rfl) ?_
 clear a E;intro a E
 refine st_val E (wn rfl) rfl rfl (x_ext E rfl rfl rfl) ?_
 clear a E;intro a E
 refine st_val E (wn rfl) rfl rfl (x_assign E rfl rfl) ?_
 clear a E;intro a E
 refine st_val E (wn rfl) rfl rfl (x_assign E rfl rfl) ?_
 clear a E;intro a E
 refine wpList_nil ?_
 refine q_then ?_
 refine wp_ret ?_
 refine out2 E rfl rfl rfl ?_
 replace H := H.drop 1
 replace H := H.drop 1
 replace H := H.drop 1
 obtain rfl := Option.some.inj hm
 exact ⟨v17, rfl, H.reads (fun r hr => .tail _ (hr))⟩
end Go.Cb

set_option linter.unusedVariables false
set_option linter.unusedSimpArgs false
namespace Go.Cb
open Go.Proofs Go.RowKit
def m_cantonlaw17_head : Option Bool :=
  (m_letter_PutSaved (⟨1, 0, ([(ByteArray.mk #[97])] : List ByteArray)⟩ : S_api_Saved)).bind fun u4 => (m_letter_GetSaved u4.1).bind fun u7 => (m_letter_Put (⟨5, 0, 0, 0, 0, [], 7, (ByteArray.mk #[116])⟩ : S_api_Letter)).bind fun u13 => (m_letter_Get u13.1).bind fun u16 => (m_letter_PutAnswer (⟨0, 0, true, 0, [], (⟨[], []⟩ : S_api_Store), [], [], ([9] : List Int)⟩ : S_api_Answer)).bind fun u25 => (m_letter_GetAnswer u25.1).bind fun u28 => (m_letter_Put (⟨0, (-1), 0, 0, 0, [], 0, (ByteArray.mk #[])⟩ : S_api_Letter)).bind fun u49 => (m_letter_GetAnswer ([] : List Int)).bind fun u52 => if (u4.2 == 0) = true then (if (sEq (strOf u4.1) (ByteArray.mk #[1, 0, 1, 1, 97])) = true then (if (u7.2 == 0) = true then (if (u7.1.View == 1) = true then (if (u13.2 == 0) = true then (if (u16.2 == 0) = true then (if (sEq u16.1.Text (ByteArray.mk #[116])) = true then (if (u25.2 == 0) = true then (if (u28.2 == 0) = true then (if u28.1.Yes = true then (if ((u28.1.Wounded.length : Int) == 1) = true then (if (u49.2 == 1) = true then (some (u52.2 == 3)) else (some (false))) else (some (false))) else (some (false))) else (some (false))) else (some (false))) else (some (false))) else (some (false))) else (some (false))) else (some (false))) else (some (false))) else (some (false))) else (some (false))
set_option maxRecDepth 20000 in
set_option maxHeartbeats 1000000 in
theorem c_cantonlaw17_head {w : World} {Fo : List Ob} {rs : List Rp} (H : Sep w (Fo) rs) {r : Bool} (hm : m_cantonlaw17_head = some r) :
    Calls Try.prog 9 [].toArray w (Ret fun v w' => .bool r = v ∧ Sep w' (Fo) (rs)) := by
 unfold m_cantonlaw17_head at hm
 refine enter Try.func9 rfl Try.ntmps9 rfl fun a E => ?_
 simp only [enum, Nat.reduceAdd] at E
 refine wp_seq ?_
 refine wp_region_lit ?_
 refine st_val E (wn rfl) rfl rfl (x_assign E rfl rfl) ?_
 clear a E;intro a E
 refine wpList_nil ?_
 refine q_then ?_
 refine wp_seq ?_
 refine wp_region_lit ?_
 refine st_bsO (e := 9) (d := kS) (cs := [.string (ByteArray.mk #[97])]) (xs := [(ByteArray.mk #[97])]) E H (wn rfl) rfl rfl (ps := [(0, .const (.string (ByteArray.mk #[97])))]) (parts := [(0, .string (ByteArray.mk #[97]))]) rfl (by simp only [List.map]; rw [E.eval (x := .const (.string (ByteArray.mk #[97]))) (v := .string (ByteArray.mk #[97])) rfl]) (by kernel_rfl) rfl rfl (fun ok hr => (Rows.single (d := kS) (cs := [.string (ByteArray.mk #[97])]) (x := (ByteArray.mk #[97])) rfl)) ?_
 clear E H; clear a; clear w; intro v1 w a H E
 obtain ⟨q2, x3, rfl⟩ := H.rowform (i := 0) rfl
 refine st_val E (wn rfl) rfl rfl (x_build E (ps := [(0, .const (.int .i64 1)), (2, .tmp 18)]) (vs := [(0, .int .i64 1), (2, (.slice q2 ([(ByteArray.mk #[97])] : List ByteArray).length x3))]) rfl (by simp only [List.map]; rw [E.eval (x := .const (.int .i64 1)) (v := .int .i64 1) rfl, E.eval (x := .tmp 18) (v := (.slice q2 ([(ByteArray.mk #[97])] : List ByteArray).length x3)) rfl]) (v := .agg #[.int .i64 1, .int .i64 0, (.slice q2 ([(ByteArray.mk #[97])] : List ByteArray).length x3)]) (by kernel_rfl)) ?_
 clear a E;intro a E
 replace H := H.thaw (i := 0) rfl
 replace H : Sep w (Fo) (rSl kS (.slice q2 ([(ByteArray.mk #[97])] : List ByteArray).length x3) ([(ByteArray.mk #[97])] : List ByteArray) :: rs) := H
 obtain ⟨u4, hx5, hm⟩ := bnd hm
 refine st_call E (wn rfl) rfl rfl (x_call E rfl rfl (cf13 _)) (c_letter_PutSaved (⟨1, 0, ([(ByteArray.mk #[97])] : List ByteArray)⟩ : S_api_Saved) (.slice q2 ([(ByteArray.mk #[97])] : List ByteArray).length x3) H (.head _) hx5) ?_
 clear E H; clear a; clear w; rintro _ w ⟨v6, rfl, H⟩ a E
 refine st_val E (wn rfl) rfl rfl (x_move E rfl rfl) ?_
 clear a E;intro a E
 refine st_val E (wn rfl) rfl rfl (x_ext E rfl rfl rfl) ?_
 clear a E;intro a E
 refine st_val E (wn rfl) rfl rfl (x_ext E rfl rfl rfl) ?_
 clear a E;intro a E
 refine st_val E (wn rfl) rfl rfl (x_assign E rfl rfl) ?_
 clear a E;intro a E
 refine st_val E (wn rfl) rfl rfl (x_assign E rfl rfl) ?_
 clear a E;intro a E
 refine wpList_nil ?_
 refine q_then ?_
 refine wp_seq ?_
 refine wp_region_lit ?_
 refine st_val E (wn rfl) rfl rfl (x_move E rfl rfl) ?_
 clear a E;intro a E
 replace H := H.thaw (i := 0) rfl
 replace H : Sep w (Fo) (rSl (kI .u8) v6 u4.1 :: rSl kS (.slice q2 ([(ByteArray.mk #[97])] : List ByteArray).length x3) ([(ByteArray.mk #[97])] : List ByteArray) :: rs) := H
 obtain ⟨u7, hx8, hm⟩ := bnd hm
 refine st_call E (wn rfl) rfl rfl (x_call E rfl rfl (cf17 _)) (c_letter_GetSaved v6 u4.1 H (.head _) hx8) ?_
 clear E H; clear a; clear w; rintro _ w ⟨v9, rfl, H⟩ a E
 refine st_val E (wn rfl) rfl rfl (x_move E rfl rfl) ?_
 clear a E;intro a E
 refine st_val E (wn rfl) rfl rfl (x_ext E rfl rfl rfl) ?_
 clear a E;intro a E
 refine st_val E (wn rfl) rfl rfl (x_ext E rfl rfl rfl) ?_
 clear a E;intro a E
 refine st_alloc E H (wn rfl) rfl rfl (cs := [.int .i64 0, .int .i64 0, .slice none 0 0]) rfl (z := .agg #[.int .i64 0, .int .i64 0, .slice none 0 0]) (by kernel_rfl) rfl ?_
 clear E H; clear a; clear w; intro p10 w a H E
 obtain ⟨q11, x12, rfl⟩ := H.slform (.head _)
 refine st_st (i := 0) E H (wn rfl) rfl (us := [.int .i64 u7.1.View, .int .i64 u7.1.Normal, (.slice q11 u7.1.Log.length x12)]) rfl rfl rfl rfl rfl sz26 rfl rfl ?_
 clear H; clear w; intro w H
 replace H : Sep w (Blk p10 26 [.int .i64 u7.1.View, .int .i64 u7.1.Normal, (.slice q11 u7.1.Log.length x12)] :: Fo) _ := H
 refine st_val E (wn rfl) rfl rfl (x_assign E rfl rfl) ?_
 clear a E;intro a E
 refine wpList_nil ?_
 refine q_then ?_
 refine wp_seq ?_
 refine wp_region_lit ?_
 refine st_val E (wn rfl) rfl rfl (x_build E (ps := [(0, .const (.int .i64 5)), (6, .const (.int .i64 7)), (7, .const (.string (ByteArray.mk #[116])))]) (vs := [(0, .int .i64 5), (6, .int .i64 7), (7, .string (ByteArray.mk #[116]))]) rfl (by simp only [List.map]; rw [E.eval (x := .const (.int .i64 5)) (v := .int .i64 5) rfl, E.eval (x := .const (.int .i64 7)) (v := .int .i64 7) rfl, E.eval (x := .const (.string (ByteArray.mk #[116]))) (v := .string (ByteArray.mk #[116])) rfl]) (v := .agg #[.int .i64 5, .int .i64 0, .int .i64 0, .int .i64 0, .int .i64 0, .slice none 0 0, .int .i64 7, .string (ByteArray.mk #[116])]) (by kernel_rfl)) ?_
 clear a E;intro a E
 replace H := H.nilSl kS
 replace H : Sep w (Blk p10 26 [.int .i64 u7.1.View, .int .i64 u7.1.Normal, (.slice q11 u7.1.Log.length x12)] :: Fo) (rSl kS (.slice none 0 0) ([] : List ByteArray) :: rSl kS (.slice q11 u7.1.Log.length x12) u7.1.Log :: rSl (kI .u8) v6 u4.1 :: rSl kS (.slice q2 ([(ByteArray.mk #[97])] : List ByteArray).length x3) ([(ByteArray.mk #[97])] : List ByteArray) :: rs) := H
 obtain ⟨u13, hx14, hm⟩ := bnd hm
 refine st_call E (wn rfl) rfl rfl (x_call E rfl rfl (cf11 _)) (c_letter_Put (⟨5, 0, 0, 0, 0, [], 7, (ByteArray.mk #[116])⟩ : S_api_Letter) (.slice none 0 0) H (.head _) hx14) ?_
 clear E H; clear a; clear w; rintro _ w ⟨v15, rfl, H⟩ a E
 refine st_val E (wn rfl) rfl rfl (x_move E rfl rfl) ?_
 clear a E;intro a E
 refine st_val E (wn rfl) rfl rfl (x_ext E rfl rfl rfl) ?_
 clear a E;intro a E
 refine st_val E (wn rfl) rfl rfl (x_ext E rfl rfl rfl) ?_
 clear a E;intro a E
 refine st_val E (wn rfl) rfl rfl (x_assign E rfl rfl) ?_
 clear a E;intro a E
 refine st_val E (wn rfl) rfl rfl (x_assign E rfl rfl) ?_
 clear a E;intro a E
 refine wpList_nil ?_
 refine q_then ?_
 refine wp_seq ?_
 refine wp_region_lit ?_
 refine st_val E (wn rfl) rfl rfl (x_move E rfl rfl) ?_
 clear a E;intro a E
 replace H := H.thaw (i := 0) rfl
 replace H : Sep w (Blk p10 26 [.int .i64 u7.1.View, .int .i64 u7.1.Normal, (.slice q11 u7.1.Log.length x12)] :: Fo) (rSl (kI .u8) v15 u13.1 :: rSl kS (.slice none 0 0) ([] : List ByteArray) :: rSl kS (.slice q11 u7.1.Log.length x12) u7.1.Log :: rSl (kI .u8) v6 u4.1 :: rSl kS (.slice q2 ([(ByteArray.mk #[97])] : List ByteArray).length x3) ([(ByteArray.mk #[97])] : List ByteArray) :: rs) := H
 obtain ⟨u16, hx17, hm⟩ := bnd hm
 refine st_call E (wn rfl) rfl rfl (x_call E rfl rfl (cf15 _)) (c_letter_Get v15 u13.1 H (.head _) hx17) ?_
 clear E H; clear a; clear w; rintro _ w ⟨v18, rfl, H⟩ a E
 refine st_val E (wn rfl) rfl rfl (x_move E rfl rfl) ?_
 clear a E;intro a E
 refine st_val E (wn rfl) rfl rfl (x_ext E rfl rfl rfl) ?_
 clear a E;intro a E
 refine st_val E (wn rfl) rfl rfl (x_ext E rfl rfl rfl) ?_
 clear a E;intro a E
 refine st_alloc E H (wn rfl) rfl rfl (cs := [.int .i64 0, .int .i64 0, .int .i64 0, .int .i64 0, .int .i64 0, .slice none 0 0, .int .i64 0, .string (ByteArray.mk #[])]) rfl (z := .agg #[.int .i64 0, .int .i64 0, .int .i64 0, .int .i64 0, .int .i64 0, .slice none 0 0, .int .i64 0, .string ⟨#[]⟩]) (by kernel_rfl) rfl ?_
 clear E H; clear a; clear w; intro p19 w a H E
 obtain ⟨q20, x21, rfl⟩ := H.slform (.head _)
 refine st_st (i := 0) E H (wn rfl) rfl (us := [.int .i64 u16.1.Kind, .int .i64 u16.1.View, .int .i64 u16.1.Normal, .int .i64 u16.1.Len, .int .i64 u16.1.Stays, (.slice q20 u16.1.Log.length x21), .int .i64 u16.1.Num, .string u16.1.Text]) rfl rfl rfl rfl rfl sz24 rfl rfl ?_
 clear H; clear w; intro w H
 replace H : Sep w (Blk p19 24 [.int .i64 u16.1.Kind, .int .i64 u16.1.View, .int .i64 u16.1.Normal, .int .i64 u16.1.Len, .int .i64 u16.1.Stays, (.slice q20 u16.1.Log.length x21), .int .i64 u16.1.Num, .string u16.1.Text] :: Blk p10 26 [.int .i64 u7.1.View, .int .i64 u7.1.Normal, (.slice q11 u7.1.Log.length x12)] :: Fo) _ := H
 refine st_val E (wn rfl) rfl rfl (x_assign E rfl rfl) ?_
 clear a E;intro a E
 refine wpList_nil ?_
 refine q_then ?_
 refine wp_seq ?_
 refine wp_region_lit ?_
 refine st_bsO (e := 2) (d := (kI .i64)) (cs := [.int .i64 9]) (xs := [9]) E H (wn rfl) rfl rfl (ps := [(0, .const (.int .i64 9))]) (parts := [(0, .int .i64 9)]) rfl (by simp only [List.map]; rw [E.eval (x := .const (.int .i64 9)) (v := .int .i64 9) rfl]) (by kernel_rfl) rfl rfl (fun ok hr => (Rows.single (d := (kI .i64)) (cs := [.int .i64 9]) (x := 9) rfl)) ?_
 clear E H; clear a; clear w; intro v22 w a H E
 obtain ⟨q23, x24, rfl⟩ := H.rowform (i := 0) rfl
 refine st_val E (wn rfl) rfl rfl (x_build E (ps := [(2, .const (.bool true)), (8, .tmp 39)]) (vs := [(2, .bool true), (8, (.slice q23 ([9] : List Int).length x24))]) rfl (by simp only [List.map]; rw [E.eval (x := .const (.bool true)) (v := .bool true) rfl, E.eval (x := .tmp 39) (v := (.slice q23 ([9] : List Int).length x24)) rfl]) (v := .agg #[.int .i64 0, .int .i64 0, .bool true, .int .i64 0, .slice none 0 0, .slice none 0 0, .slice none 0 0, .slice none 0 0, .slice none 0 0, (.slice q23 ([9] : List Int).length x24)]) (by kernel_rfl)) ?_
 clear a E;intro a E
 replace H := H.thaw (i := 0) rfl
 replace H := H.nilSl k_api_Result
 replace H := H.nilSl k_api_Node
 replace H := H.nilSl k_api_Turn
 replace H := H.nilSl k_api_Event
 replace H := H.nilSl k_api_Mount
 replace H : Sep w (Blk p19 24 [.int .i64 u16.1.Kind, .int .i64 u16.1.View, .int .i64 u16.1.Normal, .int .i64 u16.1.Len, .int .i64 u16.1.Stays, (.slice q20 u16.1.Log.length x21), .int .i64 u16.1.Num, .string u16.1.Text] :: Blk p10 26 [.int .i64 u7.1.View, .int .i64 u7.1.Normal, (.slice q11 u7.1.Log.length x12)] :: Fo) (rSl k_api_Mount (.slice none 0 0) ([] : List S_api_Mount) :: rSl k_api_Event (.slice none 0 0) ([] : List S_api_Event) :: rSl k_api_Turn (.slice none 0 0) ([] : List S_api_Turn) :: rSl k_api_Node (.slice none 0 0) ([] : List S_api_Node) :: rSl k_api_Result (.slice none 0 0) ([] : List S_api_Result) :: rSl (kI .i64) (.slice q23 ([9] : List Int).length x24) ([9] : List Int) :: rSl kS (.slice q20 u16.1.Log.length x21) u16.1.Log :: rSl (kI .u8) v15 u13.1 :: rSl kS (.slice none 0 0) ([] : List ByteArray) :: rSl kS (.slice q11 u7.1.Log.length x12) u7.1.Log :: rSl (kI .u8) v6 u4.1 :: rSl kS (.slice q2 ([(ByteArray.mk #[97])] : List ByteArray).length x3) ([(ByteArray.mk #[97])] : List ByteArray) :: rs) := H
 obtain ⟨u25, hx26, hm⟩ := bnd hm
 refine st_call E (wn rfl) rfl rfl (x_call E rfl rfl (cf22 _)) (c_letter_PutAnswer (⟨0, 0, true, 0, [], (⟨[], []⟩ : S_api_Store), [], [], ([9] : List Int)⟩ : S_api_Answer) (.slice none 0 0) (.slice none 0 0) (.slice none 0 0) (.slice none 0 0) (.slice none 0 0) (.slice q23 ([9] : List Int).length x24) H (.tail _ (.tail _ (.tail _ (.tail _ (.head _))))) (.tail _ (.tail _ (.tail _ (.head _)))) (.tail _ (.tail _ (.head _))) (.tail _ (.head _)) (.head _) (.tail _ (.tail _ (.tail _ (.tail _ (.tail _ (.head _)))))) hx26) ?_
 clear E H; clear a; clear w; rintro _ w ⟨v27, rfl, H⟩ a E
 refine st_val E (wn rfl) rfl rfl (x_move E rfl rfl) ?_
 clear a E;intro a E
 refine st_val E (wn rfl) rfl rfl (x_ext E rfl rfl rfl) ?_
 clear a E;intro a E
 refine st_val E (wn rfl) rfl rfl (x_ext E rfl rfl rfl) ?_
 clear a E;intro a E
 refine st_val E (wn rfl) rfl rfl (x_assign E rfl rfl) ?_
 clear a E;intro a E
 refine st_val E (wn rfl) rfl rfl (x_assign E rfl rfl) ?_
 clear a E;intro a E
 refine wpList_nil ?_
 refine q_then ?_
 refine wp_seq ?_
 refine wp_region_lit ?_
 refine st_val E (wn rfl) rfl rfl (x_move E rfl rfl) ?_
 clear a E;intro a E
 replace H := H.thaw (i := 0) rfl
 replace H : Sep w (Blk p19 24 [.int .i64 u16.1.Kind, .int .i64 u16.1.View, .int .i64 u16.1.Normal, .int .i64 u16.1.Len, .int .i64 u16.1.Stays, (.slice q20 u16.1.Log.length x21), .int .i64 u16.1.Num, .string u16.1.Text] :: Blk p10 26 [.int .i64 u7.1.View, .int .i64 u7.1.Normal, (.slice q11 u7.1.Log.length x12)] :: Fo) (rSl (kI .u8) v27 u25.1 :: rSl k_api_Mount (.slice none 0 0) ([] : List S_api_Mount) :: rSl k_api_Event (.slice none 0 0) ([] : List S_api_Event) :: rSl k_api_Turn (.slice none 0 0) ([] : List S_api_Turn) :: rSl k_api_Node (.slice none 0 0) ([] : List S_api_Node) :: rSl k_api_Result (.slice none 0 0) ([] : List S_api_Result) :: rSl (kI .i64) (.slice q23 ([9] : List Int).length x24) ([9] : List Int) :: rSl kS (.slice q20 u16.1.Log.length x21) u16.1.Log :: rSl (kI .u8) v15 u13.1 :: rSl kS (.slice none 0 0) ([] : List ByteArray) :: rSl kS (.slice q11 u7.1.Log.length x12) u7.1.Log :: rSl (kI .u8) v6 u4.1 :: rSl kS (.slice q2 ([(ByteArray.mk #[97])] : List ByteArray).length x3) ([(ByteArray.mk #[97])] : List ByteArray) :: rs) := H
 obtain ⟨u28, hx29, hm⟩ := bnd hm
 refine st_call E (wn rfl) rfl rfl (x_call E rfl rfl (cf24 _)) (c_letter_GetAnswer v27 u25.1 H (.head _) hx29) ?_
 clear E H; clear a; clear w; rintro _ w ⟨v30, v31, v32, v33, v34, v35, rfl, H⟩ a E
 refine st_val E (wn rfl) rfl rfl (x_move E rfl rfl) ?_
 clear a E;intro a E
 refine st_val E (wn rfl) rfl rfl (x_ext E rfl rfl rfl) ?_
 clear a E;intro a E
 refine st_val E (wn rfl) rfl rfl (x_ext E rfl rfl rfl) ?_
 clear a E;intro a E
 refine st_alloc E H (wn rfl) rfl rfl (cs := [.int .i64 0, .int .i64 0, .bool false, .int .i64 0, .slice none 0 0, .slice none 0 0, .slice none 0 0, .slice none 0 0, .slice none 0 0, .slice none 0 0]) rfl (z := .agg #[.int .i64 0, .int .i64 0, .bool false, .int .i64 0, .slice none 0 0, .slice none 0 0, .slice none 0 0, .slice none 0 0, .slice none 0 0, .slice none 0 0]) (by kernel_rfl) rfl ?_
 clear E H; clear a; clear w; intro p36 w a H E
 obtain ⟨q37, x38, rfl⟩ := H.slform (.head _)
 obtain ⟨q39, x40, rfl⟩ := H.slform (.tail _ (.head _))
 obtain ⟨q41, x42, rfl⟩ := H.slform (.tail _ (.tail _ (.head _)))
 obtain ⟨q43, x44, rfl⟩ := H.slform (.tail _ (.tail _ (.tail _ (.head _))))
 obtain ⟨q45, x46, rfl⟩ := H.slform (.tail _ (.tail _ (.tail _ (.tail _ (.head _)))))
 obtain ⟨q47, x48, rfl⟩ := H.slform (.tail _ (.tail _ (.tail _ (.tail _ (.tail _ (.head _))))))
 refine st_st (i := 0) E H (wn rfl) rfl (us := [.int .i64 u28.1.Err, .int .i64 u28.1.At, .bool u28.1.Yes, .int .i64 u28.1.Epoch, (.slice q37 u28.1.Results.length x38), (.slice q39 u28.1.Store.Nodes.length x40), (.slice q41 u28.1.Store.Turns.length x42), (.slice q43 u28.1.Events.length x44), (.slice q45 u28.1.Mounts.length x46), (.slice q47 u28.1.Wounded.length x48)]) rfl rfl rfl rfl rfl sz50 rfl rfl ?_
 clear H; clear w; intro w H
 replace H : Sep w (Blk p36 50 [.int .i64 u28.1.Err, .int .i64 u28.1.At, .bool u28.1.Yes, .int .i64 u28.1.Epoch, (.slice q37 u28.1.Results.length x38), (.slice q39 u28.1.Store.Nodes.length x40), (.slice q41 u28.1.Store.Turns.length x42), (.slice q43 u28.1.Events.length x44), (.slice q45 u28.1.Mounts.length x46), (.slice q47 u28.1.Wounded.length x48)] :: Blk p19 24 [.int .i64 u16.1.Kind, .int .i64 u16.1.View, .int .i64 u16.1.Normal, .int .i64 u16.1.Len, .int .i64 u16.1.Stays, (.slice q20 u16.1.Log.length x21), .int .i64 u16.1.Num, .string u16.1.Text] :: Blk p10 26 [.int .i64 u7.1.View, .int .i64 u7.1.Normal, (.slice q11 u7.1.Log.length x12)] :: Fo) _ := H
 refine st_val E (wn rfl) rfl rfl (x_assign E rfl rfl) ?_
 clear a E;intro a E
 refine wpList_nil ?_
 refine q_then ?_
 refine wp_seq ?_
 refine wp_region_lit ?_
 refine st_val E (wn rfl) rfl rfl (x_build E (ps := [(1, .const (.int .i64 (-1)))]) (vs := [(1, .int .i64 (-1))]) rfl (by simp only [List.map]; rw [E.eval (x := .const (.int .i64 (-1))) (v := .int .i64 (-1)) rfl]) (v := .agg #[.int .i64 0, .int .i64 (-1), .int .i64 0, .int .i64 0, .int .i64 0, .slice none 0 0, .int .i64 0, .string (ByteArray.mk #[])]) (by kernel_rfl)) ?_
 clear a E;intro a E
 replace H := H.nilSl kS
 replace H : Sep w (Blk p36 50 [.int .i64 u28.1.Err, .int .i64 u28.1.At, .bool u28.1.Yes, .int .i64 u28.1.Epoch, (.slice q37 u28.1.Results.length x38), (.slice q39 u28.1.Store.Nodes.length x40), (.slice q41 u28.1.Store.Turns.length x42), (.slice q43 u28.1.Events.length x44), (.slice q45 u28.1.Mounts.length x46), (.slice q47 u28.1.Wounded.length x48)] :: Blk p19 24 [.int .i64 u16.1.Kind, .int .i64 u16.1.View, .int .i64 u16.1.Normal, .int .i64 u16.1.Len, .int .i64 u16.1.Stays, (.slice q20 u16.1.Log.length x21), .int .i64 u16.1.Num, .string u16.1.Text] :: Blk p10 26 [.int .i64 u7.1.View, .int .i64 u7.1.Normal, (.slice q11 u7.1.Log.length x12)] :: Fo) (rSl kS (.slice none 0 0) ([] : List ByteArray) :: rSl k_api_Result (.slice q37 u28.1.Results.length x38) u28.1.Results :: rSl k_api_Node (.slice q39 u28.1.Store.Nodes.length x40) u28.1.Store.Nodes :: rSl k_api_Turn (.slice q41 u28.1.Store.Turns.length x42) u28.1.Store.Turns :: rSl k_api_Event (.slice q43 u28.1.Events.length x44) u28.1.Events :: rSl k_api_Mount (.slice q45 u28.1.Mounts.length x46) u28.1.Mounts :: rSl (kI .i64) (.slice q47 u28.1.Wounded.length x48) u28.1.Wounded :: rSl (kI .u8) v27 u25.1 :: rSl k_api_Mount (.slice none 0 0) ([] : List S_api_Mount) :: rSl k_api_Event (.slice none 0 0) ([] : List S_api_Event) :: rSl k_api_Turn (.slice none 0 0) ([] : List S_api_Turn) :: rSl k_api_Node (.slice none 0 0) ([] : List S_api_Node) :: rSl k_api_Result (.slice none 0 0) ([] : List S_api_Result) :: rSl (kI .i64) (.slice q23 ([9] : List Int).length x24) ([9] : List Int) :: rSl kS (.slice q20 u16.1.Log.length x21) u16.1.Log :: rSl (kI .u8) v15 u13.1 :: rSl kS (.slice none 0 0) ([] : List ByteArray) :: rSl kS (.slice q11 u7.1.Log.length x12) u7.1.Log :: rSl (kI .u8) v6 u4.1 :: rSl kS (.slice q2 ([(ByteArray.mk #[97])] : List ByteArray).length x3) ([(ByteArray.mk #[97])] : List ByteArray) :: rs) := H
 obtain ⟨u49, hx50, hm⟩ := bnd hm
 refine st_call E (wn rfl) rfl rfl (x_call E rfl rfl (cf11 _)) (c_letter_Put (⟨0, (-1), 0, 0, 0, [], 0, (ByteArray.mk #[])⟩ : S_api_Letter) (.slice none 0 0) H (.head _) hx50) ?_
 clear E H; clear a; clear w; rintro _ w ⟨v51, rfl, H⟩ a E
 refine st_val E (wn rfl) rfl rfl (x_move E rfl rfl) ?_
 clear a E;intro a E
 refine st_val E (wn rfl) rfl rfl (x_ext E rfl rfl rfl) ?_
 clear a E;intro a E
 refine st_val E (wn rfl) rfl rfl (x_ext E rfl rfl rfl) ?_
 clear a E;intro a E
 refine st_val E (wn rfl) rfl rfl (x_assign E rfl rfl) ?_
 clear a E;intro a E
 refine st_val E (wn rfl) rfl rfl (x_assign E rfl rfl) ?_
 clear a E;intro a E
 refine wpList_nil ?_
 refine q_then ?_
 refine wp_seq ?_
 refine wp_region_lit ?_
 replace H := H.nilSl (kI .u8)
 replace H : Sep w (Row 5 (kI .u8) v51 u49.1 :: Blk p36 50 [.int .i64 u28.1.Err, .int .i64 u28.1.At, .bool u28.1.Yes, .int .i64 u28.1.Epoch, (.slice q37 u28.1.Results.length x38), (.slice q39 u28.1.Store.Nodes.length x40), (.slice q41 u28.1.Store.Turns.length x42), (.slice q43 u28.1.Events.length x44), (.slice q45 u28.1.Mounts.length x46), (.slice q47 u28.1.Wounded.length x48)] :: Blk p19 24 [.int .i64 u16.1.Kind, .int .i64 u16.1.View, .int .i64 u16.1.Normal, .int .i64 u16.1.Len, .int .i64 u16.1.Stays, (.slice q20 u16.1.Log.length x21), .int .i64 u16.1.Num, .string u16.1.Text] :: Blk p10 26 [.int .i64 u7.1.View, .int .i64 u7.1.Normal, (.slice q11 u7.1.Log.length x12)] :: Fo) (rSl (kI .u8) (.slice none 0 0) ([] : List Int) :: rSl kS (.slice none 0 0) ([] : List ByteArray) :: rSl k_api_Result (.slice q37 u28.1.Results.length x38) u28.1.Results :: rSl k_api_Node (.slice q39 u28.1.Store.Nodes.length x40) u28.1.Store.Nodes :: rSl k_api_Turn (.slice q41 u28.1.Store.Turns.length x42) u28.1.Store.Turns :: rSl k_api_Event (.slice q43 u28.1.Events.length x44) u28.1.Events :: rSl k_api_Mount (.slice q45 u28.1.Mounts.length x46) u28.1.Mounts :: rSl (kI .i64) (.slice q47 u28.1.Wounded.length x48) u28.1.Wounded :: rSl (kI .u8) v27 u25.1 :: rSl k_api_Mount (.slice none 0 0) ([] : List S_api_Mount) :: rSl k_api_Event (.slice none 0 0) ([] : List S_api_Event) :: rSl k_api_Turn (.slice none 0 0) ([] : List S_api_Turn) :: rSl k_api_Node (.slice none 0 0) ([] : List S_api_Node) :: rSl k_api_Result (.slice none 0 0) ([] : List S_api_Result) :: rSl (kI .i64) (.slice q23 ([9] : List Int).length x24) ([9] : List Int) :: rSl kS (.slice q20 u16.1.Log.length x21) u16.1.Log :: rSl (kI .u8) v15 u13.1 :: rSl kS (.slice none 0 0) ([] : List ByteArray) :: rSl kS (.slice q11 u7.1.Log.length x12) u7.1.Log :: rSl (kI .u8) v6 u4.1 :: rSl kS (.slice q2 ([(ByteArray.mk #[97])] : List ByteArray).length x3) ([(ByteArray.mk #[97])] : List ByteArray) :: rs) := H
 obtain ⟨u52, hx53, hm⟩ := bnd hm
 refine st_call E (wn rfl) rfl rfl (x_call E rfl rfl (cf24 _)) (c_letter_GetAnswer (.slice none 0 0) ([] : List Int) H (.head _) hx53) ?_
 clear E H; clear a; clear w; rintro _ w ⟨v54, v55, v56, v57, v58, v59, rfl, H⟩ a E
 refine st_val E (wn rfl) rfl rfl (x_move E rfl rfl) ?_
 clear a E;intro a E
 refine st_val E (wn rfl) rfl rfl (x_ext E rfl rfl rfl) ?_
 clear a E;intro a E
 refine st_val E (wn rfl) rfl rfl (x_ext E rfl rfl rfl) ?_
 clear a E;intro a E
 refine st_alloc E H (wn rfl) rfl rfl (cs := [.int .i64 0, .int .i64 0, .bool false, .int .i64 0, .slice none 0 0, .slice none 0 0, .slice none 0 0, .slice none 0 0, .slice none 0 0, .slice none 0 0]) rfl (z := .agg #[.int .i64 0, .int .i64 0, .bool false, .int .i64 0, .slice none 0 0, .slice none 0 0, .slice none 0 0, .slice none 0 0, .slice none 0 0, .slice none 0 0]) (by kernel_rfl) rfl ?_
 clear E H; clear a; clear w; intro p60 w a H E
 obtain ⟨q61, x62, rfl⟩ := H.slform (.head _)
 obtain ⟨q63, x64, rfl⟩ := H.slform (.tail _ (.head _))
 obtain ⟨q65, x66, rfl⟩ := H.slform (.tail _ (.tail _ (.head _)))
 obtain ⟨q67, x68, rfl⟩ := H.slform (.tail _ (.tail _ (.tail _ (.head _))))
 obtain ⟨q69, x70, rfl⟩ := H.slform (.tail _ (.tail _ (.tail _ (.tail _ (.head _)))))
 obtain ⟨q71, x72, rfl⟩ := H.slform (.tail _ (.tail _ (.tail _ (.tail _ (.tail _ (.head _))))))
 refine st_st (i := 0) E H (wn rfl) rfl (us := [.int .i64 u52.1.Err, .int .i64 u52.1.At, .bool u52.1.Yes, .int .i64 u52.1.Epoch, (.slice q61 u52.1.Results.length x62), (.slice q63 u52.1.Store.Nodes.length x64), (.slice q65 u52.1.Store.Turns.length x66), (.slice q67 u52.1.Events.length x68), (.slice q69 u52.1.Mounts.length x70), (.slice q71 u52.1.Wounded.length x72)]) rfl rfl rfl rfl rfl sz50 rfl rfl ?_
 clear H; clear w; intro w H
 replace H : Sep w (Blk p60 50 [.int .i64 u52.1.Err, .int .i64 u52.1.At, .bool u52.1.Yes, .int .i64 u52.1.Epoch, (.slice q61 u52.1.Results.length x62), (.slice q63 u52.1.Store.Nodes.length x64), (.slice q65 u52.1.Store.Turns.length x66), (.slice q67 u52.1.Events.length x68), (.slice q69 u52.1.Mounts.length x70), (.slice q71 u52.1.Wounded.length x72)] :: Row 5 (kI .u8) v51 u49.1 :: Blk p36 50 [.int .i64 u28.1.Err, .int .i64 u28.1.At, .bool u28.1.Yes, .int .i64 u28.1.Epoch, (.slice q37 u28.1.Results.length x38), (.slice q39 u28.1.Store.Nodes.length x40), (.slice q41 u28.1.Store.Turns.length x42), (.slice q43 u28.1.Events.length x44), (.slice q45 u28.1.Mounts.length x46), (.slice q47 u28.1.Wounded.length x48)] :: Blk p19 24 [.int .i64 u16.1.Kind, .int .i64 u16.1.View, .int .i64 u16.1.Normal, .int .i64 u16.1.Len, .int .i64 u16.1.Stays, (.slice q20 u16.1.Log.length x21), .int .i64 u16.1.Num, .string u16.1.Text] :: Blk p10 26 [.int .i64 u7.1.View, .int .i64 u7.1.Normal, (.slice q11 u7.1.Log.length x12)] :: Fo) _ := H
 refine st_val E (wn rfl) rfl rfl (x_assign E rfl rfl) ?_
 clear a E;intro a E
 refine wpList_nil ?_
 refine q_then ?_
 refine wp_seq ?_
 refine wp_region_lit ?_
 refine st_val E (wn rfl) rfl rfl (x_move E rfl rfl) ?_
 clear a E;intro a E
 refine st_val E (wn rfl) rfl rfl (x_bin E rfl rfl rfl rfl) ?_
 clear a E;intro a E
 refine st_val E (wn rfl) rfl rfl (x_move E rfl rfl) ?_
 clear a E;intro a E
 rcases Bool.eq_false_or_eq_true (u4.2 == 0) with hb73 | hb73
 ·rw [if_t hb73] at hm
  refine st_val E (ws' E rfl rfl rfl rfl hb73) rfl rfl (x_move E rfl rfl) ?_
  clear a E;intro a E
  refine st_val E (ws' E rfl rfl rfl rfl hb73) rfl rfl (x_b2s E H rfl rfl (.tail _ (.tail _ (.tail _ (.tail _ (.tail _ (.tail _ (.tail _ (.tail _ (.tail _ (.tail _ (.tail _ (.tail _ (.tail _ (.tail _ (.tail _ (.tail _ (.tail _ (.tail _ (.tail _ (.tail _ (.tail _ (.tail _ (.tail _ (.tail _ (.tail _ (.head _)))))))))))))))))))))))))) Try.underlying27 Try.underlying5 Try.underlying9) ?_
  clear a E;intro a E
  refine st_val E (ws' E rfl rfl rfl rfl hb73) rfl rfl (x_str E rfl rfl rfl rfl) ?_
  clear a E;intro a E
  refine st_val E (wn rfl) rfl rfl (x_pickT E rfl rfl hb73 rfl) ?_
  clear a E;intro a E
  refine st_val E (wn rfl) rfl rfl (x_move E rfl rfl) ?_
  clear a E;intro a E
  rcases Bool.eq_false_or_eq_true (sEq (strOf u4.1) (ByteArray.mk #[1, 0, 1, 1, 97])) with hb74 | hb74
  ·rw [if_t hb74] at hm
   refine st_val E (ws' E rfl rfl rfl rfl hb74) rfl rfl (x_move E rfl rfl) ?_
   clear a E;intro a E
   refine st_val E (ws' E rfl rfl rfl rfl hb74) rfl rfl (x_bin E rfl rfl rfl rfl) ?_
   clear a E;intro a E
   refine st_val E (wn rfl) rfl rfl (x_pickT E rfl rfl hb74 rfl) ?_
   clear a E;intro a E
   refine st_val E (wn rfl) rfl rfl (x_move E rfl rfl) ?_
   clear a E;intro a E
   rcases Bool.eq_false_or_eq_true (u7.2 == 0) with hb75 | hb75
   ·rw [if_t hb75] at hm
    refine st_val E (ws' E rfl rfl rfl rfl hb75) rfl rfl (x_fa E rfl rfl (v := .pointer (some ⟨p10, 0, none⟩)) (fa26_0 _ _)) ?_
    clear a E;intro a E
    refine st_val E (ws' E rfl rfl rfl rfl hb75) rfl rfl (x_ldB (i := 4) E H rfl rfl rfl rfl Try.underlying2 rfl) ?_
    clear a E;intro a E
    refine st_val E (ws' E rfl rfl rfl rfl hb75) rfl rfl (x_bin E rfl rfl rfl rfl) ?_
    clear a E;intro a E
    refine st_val E (wn rfl) rfl rfl (x_pickT E rfl rfl hb75 rfl) ?_
    clear a E;intro a E
    refine st_val E (wn rfl) rfl rfl (x_move E rfl rfl) ?_
    clear a E;intro a E
    rcases Bool.eq_false_or_eq_true (u7.1.View == 1) with hb76 | hb76
    ·rw [if_t hb76] at hm
     refine st_val E (ws' E rfl rfl rfl rfl hb76) rfl rfl (x_move E rfl rfl) ?_
     clear a E;intro a E
     refine st_val E (ws' E rfl rfl rfl rfl hb76) rfl rfl (x_bin E rfl rfl rfl rfl) ?_
     clear a E;intro a E
     refine st_val E (wn rfl) rfl rfl (x_pickT E rfl rfl hb76 rfl) ?_
     clear a E;intro a E
     refine st_val E (wn rfl) rfl rfl (x_move E rfl rfl) ?_
     clear a E;intro a E
     rcases Bool.eq_false_or_eq_true (u13.2 == 0) with hb77 | hb77
     ·rw [if_t hb77] at hm
      refine st_val E (ws' E rfl rfl rfl rfl hb77) rfl rfl (x_move E rfl rfl) ?_
      clear a E;intro a E
      refine st_val E (ws' E rfl rfl rfl rfl hb77) rfl rfl (x_bin E rfl rfl rfl rfl) ?_
      clear a E;intro a E
      refine st_val E (wn rfl) rfl rfl (x_pickT E rfl rfl hb77 rfl) ?_
      clear a E;intro a E
      refine st_val E (wn rfl) rfl rfl (x_move E rfl rfl) ?_
      clear a E;intro a E
      rcases Bool.eq_false_or_eq_true (u16.2 == 0) with hb78 | hb78
      ·rw [if_t hb78] at hm
       refine st_val E (ws' E rfl rfl rfl rfl hb78) rfl rfl (x_fa E rfl rfl (v := .pointer (some ⟨p19, 7, none⟩)) (fa24_7 _ _)) ?_
       clear a E;intro a E
       refine st_val E (ws' E rfl rfl rfl rfl hb78) rfl rfl (x_ldB (i := 3) E H rfl rfl rfl rfl Try.underlying9 rfl) ?_
       clear a E;intro a E
       refine st_val E (ws' E rfl rfl rfl rfl hb78) rfl rfl (x_str E rfl rfl rfl rfl) ?_
       clear a E;intro a E
       refine st_val E (wn rfl) rfl rfl (x_pickT E rfl rfl hb78 rfl) ?_
       clear a E;intro a E
       refine st_val E (wn rfl) rfl rfl (x_move E rfl rfl) ?_
       clear a E;intro a E
       rcases Bool.eq_false_or_eq_true (sEq u16.1.Text (ByteArray.mk #[116])) with hb79 | hb79
       ·rw [if_t hb79] at hm
        refine st_val E (ws' E rfl rfl rfl rfl hb79) rfl rfl (x_move E rfl rfl) ?_
        clear a E;intro a E
        refine st_val E (ws' E rfl rfl rfl rfl hb79) rfl rfl (x_bin E rfl rfl rfl rfl) ?_
        clear a E;intro a E
        refine st_val E (wn rfl) rfl rfl (x_pickT E rfl rfl hb79 rfl) ?_
        clear a E;intro a E
        refine st_val E (wn rfl) rfl rfl (x_move E rfl rfl) ?_
        clear a E;intro a E
        rcases Bool.eq_false_or_eq_true (u25.2 == 0) with hb80 | hb80
        ·rw [if_t hb80] at hm
         refine st_val E (ws' E rfl rfl rfl rfl hb80) rfl rfl (x_move E rfl rfl) ?_
         clear a E;intro a E
         refine st_val E (ws' E rfl rfl rfl rfl hb80) rfl rfl (x_bin E rfl rfl rfl rfl) ?_
         clear a E;intro a E
         refine st_val E (wn rfl) rfl rfl (x_pickT E rfl rfl hb80 rfl) ?_
         clear a E;intro a E
         refine st_val E (wn rfl) rfl rfl (x_move E rfl rfl) ?_
         clear a E;intro a E
         rcases Bool.eq_false_or_eq_true (u28.2 == 0) with hb81 | hb81
         ·rw [if_t hb81] at hm
          refine st_val E (ws' E rfl rfl rfl rfl hb81) rfl rfl (x_fa E rfl rfl (v := .pointer (some ⟨p36, 2, none⟩)) (fa50_2 _ _)) ?_
          clear a E;intro a E
          refine st_val E (ws' E rfl rfl rfl rfl hb81) rfl rfl (x_ldB (i := 2) E H rfl rfl rfl rfl Try.underlying4 rfl) ?_
          clear a E;intro a E
          refine st_val E (wn rfl) rfl rfl (x_pickT E rfl rfl hb81 rfl) ?_
          clear a E;intro a E
          refine st_val E (wn rfl) rfl rfl (x_move E rfl rfl) ?_
          clear a E;intro a E
          rcases Bool.eq_false_or_eq_true u28.1.Yes with hb82 | hb82
          ·rw [if_t hb82] at hm
           refine st_val E (ws' E rfl rfl rfl rfl hb82) rfl rfl (x_fa E rfl rfl (v := .pointer (some ⟨p36, 9, none⟩)) (fa50_8 _ _)) ?_
           clear a E;intro a E
           refine st_val E (ws' E rfl rfl rfl rfl hb82) rfl rfl (x_ldB (i := 2) E H rfl rfl rfl rfl Try.underlying48 rfl) ?_
           clear a E;intro a E
           refine st_val E (ws' E rfl rfl rfl rfl hb82) rfl rfl (x_lenS E H rfl rfl (.tail _ (.tail _ (.tail _ (.tail _ (.tail _ (.tail _ (.tail _ (.tail _ (.tail _ (.tail _ (.tail _ (.tail _ (.tail _ (.head _)))))))))))))) Try.underlying48) ?_
           clear a E;intro a E
           refine st_val E (ws' E rfl rfl rfl rfl hb82) rfl rfl (x_bin E rfl rfl rfl rfl) ?_
           clear a E;intro a E
           refine st_val E (wn rfl) rfl rfl (x_pickT E rfl rfl hb82 rfl) ?_
           clear a E;intro a E
           refine st_val E (wn rfl) rfl rfl (x_move E rfl rfl) ?_
           clear a E;intro a E
           rcases Bool.eq_false_or_eq_true ((u28.1.Wounded.length : Int) == 1) with hb83 | hb83
           ·rw [if_t hb83] at hm
            refine st_val E (ws' E rfl rfl rfl rfl hb83) rfl rfl (x_move E rfl rfl) ?_
            clear a E;intro a E
            refine st_val E (ws' E rfl rfl rfl rfl hb83) rfl rfl (x_bin E rfl rfl rfl rfl) ?_
            clear a E;intro a E
            refine st_val E (wn rfl) rfl rfl (x_pickT E rfl rfl hb83 rfl) ?_
            clear a E;intro a E
            refine st_val E (wn rfl) rfl rfl (x_move E rfl rfl) ?_
            clear a E;intro a E
            rcases Bool.eq_false_or_eq_true (u49.2 == 1) with hb84 | hb84
            ·rw [if_t hb84] at hm
             refine st_val E (ws' E rfl rfl rfl rfl hb84) rfl rfl (x_move E rfl rfl) ?_
             clear a E;intro a E
             refine st_val E (ws' E rfl rfl rfl rfl hb84) rfl rfl (x_bin E rfl rfl rfl rfl) ?_
             clear a E;intro a E
             refine st_val E (wn rfl) rfl rfl (x_pickT E rfl rfl hb84 rfl) ?_
             clear a E;intro a E
             refine st_val E (wn rfl) rfl rfl (x_assign E rfl rfl) ?_
             clear a E;intro a E
             refine wpList_nil ?_
             refine q_then ?_
             refine wp_ret ?_
             refine out1 E rfl rfl ?_
             replace H := H.drop 0
             replace H := H.drop 0
             replace H := H.drop 0
             replace H := H.drop 0
             replace H := H.drop 0
             obtain rfl := Option.some.inj hm
             exact ⟨rfl, H.reads (fun r hr => .tail _ (.tail _ (.tail _ (.tail _ (.tail _ (.tail _ (.tail _ (.tail _ (.tail _ (.tail _ (.tail _ (.tail _ (.tail _ (.tail _ (.tail _ (.tail _ (.tail _ (.tail _ (.tail _ (.tail _ (.tail _ (.tail _ (.tail _ (.tail _ (.tail _ (.tail _ (.tail _ (hr))))))))))))))))))))))))))))⟩
            ·rw [if_f hb84] at hm
             refine st_no E (wf' E rfl rfl rfl rfl hb84 rfl) rfl rfl ?_
             clear a E;intro a E
             refine st_no E (wf' E rfl rfl rfl rfl hb84 rfl) rfl rfl ?_
             clear a E;intro a E
             refine st_val E (wn rfl) rfl rfl (x_pickF E rfl rfl hb84 rfl) ?_
             clear a E;intro a E
             refine st_val E (wn rfl) rfl rfl (x_assign E rfl rfl) ?_
             clear a E;intro a E
             refine wpList_nil ?_
             refine q_then ?_
             refine wp_ret ?_
             refine out1 E rfl rfl ?_
             replace H := H.drop 0
             replace H := H.drop 0
             replace H := H.drop 0
             replace H := H.drop 0
             replace H := H.drop 0
             obtain rfl := Option.some.inj hm
             exact ⟨rfl, H.reads (fun r hr => .tail _ (.tail _ (.tail _ (.tail _ (.tail _ (.tail _ (.tail _ (.tail _ (.tail _ (.tail _ (.tail _ (.tail _ (.tail _ (.tail _ (.tail _ (.tail _ (.tail _ (.tail _ (.tail _ (.tail _ (.tail _ (.tail _ (.tail _ (.tail _ (.tail _ (.tail _ (.tail _ (hr))))))))))))))))))))))))))))⟩
           ·rw [if_f hb83] at hm
            refine st_no E (wf' E rfl rfl rfl rfl hb83 rfl) rfl rfl ?_
            clear a E;intro a E
            refine st_no E (wf' E rfl rfl rfl rfl hb83 rfl) rfl rfl ?_
            clear a E;intro a E
            refine st_val E (wn rfl) rfl rfl (x_pickF E rfl rfl hb83 rfl) ?_
            clear a E;intro a E
            refine st_val E (wn rfl) rfl rfl (x_move E rfl rfl) ?_
            clear a E;intro a E
            refine st_no E (wf E rfl rfl rfl rfl rfl) rfl rfl ?_
            clear a E;intro a E
            refine st_no E (wf E rfl rfl rfl rfl rfl) rfl rfl ?_
            clear a E;intro a E
            refine st_val E (wn rfl) rfl rfl (x_pickF E rfl rfl rfl rfl) ?_
            clear a E;intro a E
            refine st_val E (wn rfl) rfl rfl (x_assign E rfl rfl) ?_
            clear a E;intro a E
            refine wpList_nil ?_
            refine q_then ?_
            refine wp_ret ?_
            refine out1 E rfl rfl ?_
            replace H := H.drop 0
            replace H := H.drop 0
            replace H := H.drop 0
            replace H := H.drop 0
            replace H := H.drop 0
            obtain rfl := Option.some.inj hm
            exact ⟨rfl, H.reads (fun r hr => .tail _ (.tail _ (.tail _ (.tail _ (.tail _ (.tail _ (.tail _ (.tail _ (.tail _ (.tail _ (.tail _ (.tail _ (.tail _ (.tail _ (.tail _ (.tail _ (.tail _ (.tail _ (.tail _ (.tail _ (.tail _ (.tail _ (.tail _ (.tail _ (.tail _ (.tail _ (.tail _ (hr))))))))))))))))))))))))))))⟩
          ·rw [if_f hb82] at hm
           refine st_no E (wf' E rfl rfl rfl rfl hb82 rfl) rfl rfl ?_
           clear a E;intro a E
           refine st_no E (wf' E rfl rfl rfl rfl hb82 rfl) rfl rfl ?_
           clear a E;intro a E
           refine st_no E (wf' E rfl rfl rfl rfl hb82 rfl) rfl rfl ?_
           clear a E;intro a E
           refine st_no E (wf' E rfl rfl rfl rfl hb82 rfl) rfl rfl ?_
           clear a E;intro a E
           refine st_val E (wn rfl) rfl rfl (x_pickF E rfl rfl hb82 rfl) ?_
           clear a E;intro a E
           refine st_val E (wn rfl) rfl rfl (x_move E rfl rfl) ?_
           clear a E;intro a E
           refine st_no E (wf E rfl rfl rfl rfl rfl) rfl rfl ?_
           clear a E;intro a E
           refine st_no E (wf E rfl rfl rfl rfl rfl) rfl rfl ?_
           clear a E;intro a E
           refine st_val E (wn rfl) rfl rfl (x_pickF E rfl rfl rfl rfl) ?_
           clear a E;intro a E
           refine st_val E (wn rfl) rfl rfl (x_move E rfl rfl) ?_
           clear a E;intro a E
           refine st_no E (wf E rfl rfl rfl rfl rfl) rfl rfl ?_
           clear a E;intro a E
           refine st_no E (wf E rfl rfl rfl rfl rfl) rfl rfl ?_
           clear a E;intro a E
           refine st_val E (wn rfl) rfl rfl (x_pickF E rfl rfl rfl rfl) ?_
           clear a E;intro a E
           refine st_val E (wn rfl) rfl rfl (x_assign E rfl rfl) ?_
           clear a E;intro a E
           refine wpList_nil ?_
           refine q_then ?_
           refine wp_ret ?_
           refine out1 E rfl rfl ?_
           replace H := H.drop 0
           replace H := H.drop 0
           replace H := H.drop 0
           replace H := H.drop 0
           replace H := H.drop 0
           obtain rfl := Option.some.inj hm
           exact ⟨rfl, H.reads (fun r hr => .tail _ (.tail _ (.tail _ (.tail _ (.tail _ (.tail _ (.tail _ (.tail _ (.tail _ (.tail _ (.tail _ (.tail _ (.tail _ (.tail _ (.tail _ (.tail _ (.tail _ (.tail _ (.tail _ (.tail _ (.tail _ (.tail _ (.tail _ (.tail _ (.tail _ (.tail _ (.tail _ (hr))))))))))))))))))))))))))))⟩
         ·rw [if_f hb81] at hm
          refine st_no E (wf' E rfl rfl rfl rfl hb81 rfl) rfl rfl ?_
          clear a E;intro a E
          refine st_no E (wf' E rfl rfl rfl rfl hb81 rfl) rfl rfl ?_
          clear a E;intro a E
          refine st_val E (wn rfl) rfl rfl (x_pickF E rfl rfl hb81 rfl) ?_
          clear a E;intro a E
          refine st_val E (wn rfl) rfl rfl (x_move E rfl rfl) ?_
          clear a E;intro a E
          refine st_no E (wf E rfl rfl rfl rfl rfl) rfl rfl ?_
          clear a E;intro a E
          refine st_no E (wf E rfl rfl rfl rfl rfl) rfl rfl ?_
          clear a E;intro a E
          refine st_no E (wf E rfl rfl rfl rfl rfl) rfl rfl ?_
          clear a E;intro a E
          refine st_no E (wf E rfl rfl rfl rfl rfl) rfl rfl ?_
          clear a E;intro a E
          refine st_val E (wn rfl) rfl rfl (x_pickF E rfl rfl rfl rfl) ?_
          clear a E;intro a E
          refine st_val E (wn rfl) rfl rfl (x_move E rfl rfl) ?_
          clear a E;intro a E
          refine st_no E (wf E rfl rfl rfl rfl rfl) rfl rfl ?_
          clear a E;intro a E
          refine st_no E (wf E rfl rfl rfl rfl rfl) rfl rfl ?_
          clear a E;intro a E
          refine st_val E (wn rfl) rfl rfl (x_pickF E rfl rfl rfl rfl) ?_
          clear a E;intro a E
          refine st_val E (wn rfl) rfl rfl (x_move E rfl rfl) ?_
          clear a E;intro a E
          refine st_no E (wf E rfl rfl rfl rfl rfl) rfl rfl ?_
          clear a E;intro a E
          refine st_no E (wf E rfl rfl rfl rfl rfl) rfl rfl ?_
          clear a E;intro a E
          refine st_val E (wn rfl) rfl rfl (x_pickF E rfl rfl rfl rfl) ?_
          clear a E;intro a E
          refine st_val E (wn rfl) rfl rfl (x_assign E rfl rfl) ?_
          clear a E;intro a E
          refine wpList_nil ?_
          refine q_then ?_
          refine wp_ret ?_
          refine out1 E rfl rfl ?_
          replace H := H.drop 0
          replace H := H.drop 0
          replace H := H.drop 0
          replace H := H.drop 0
          replace H := H.drop 0
          obtain rfl := Option.some.inj hm
          exact ⟨rfl, H.reads (fun r hr => .tail _ (.tail _ (.tail _ (.tail _ (.tail _ (.tail _ (.tail _ (.tail _ (.tail _ (.tail _ (.tail _ (.tail _ (.tail _ (.tail _ (.tail _ (.tail _ (.tail _ (.tail _ (.tail _ (.tail _ (.tail _ (.tail _ (.tail _ (.tail _ (.tail _ (.tail _ (.tail _ (hr))))))))))))))))))))))))))))⟩
        ·rw [if_f hb80] at hm
         refine st_no E (wf' E rfl rfl rfl rfl hb80 rfl) rfl rfl ?_
         clear a E;intro a E
         refine st_no E (wf' E rfl rfl rfl rfl hb80 rfl) rfl rfl ?_
         clear a E;intro a E
         refine st_val E (wn rfl) rfl rfl (x_pickF E rfl rfl hb80 rfl) ?_
         clear a E;intro a E
         refine st_val E (wn rfl) rfl rfl (x_move E rfl rfl) ?_
         clear a E;intro a E
         refine st_no E (wf E rfl rfl rfl rfl rfl) rfl rfl ?_
         clear a E;intro a E
         refine st_no E (wf E rfl rfl rfl rfl rfl) rfl rfl ?_
         clear a E;intro a E
         refine st_val E (wn rfl) rfl rfl (x_pickF E rfl rfl rfl rfl) ?_
         clear a E;intro a E
         refine st_val E (wn rfl) rfl rfl (x_move E rfl rfl) ?_
         clear a E;intro a E
         refine st_no E (wf E rfl rfl rfl rfl rfl) rfl rfl ?_
         clear a E;intro a E
         refine st_no E (wf E rfl rfl rfl rfl rfl) rfl rfl ?_
         clear a E;intro a E
         refine st_no E (wf E rfl rfl rfl rfl rfl) rfl rfl ?_
         clear a E;intro a E
         refine st_no E (wf E rfl rfl rfl rfl rfl) rfl rfl ?_
         clear a E;intro a E
         refine st_val E (wn rfl) rfl rfl (x_pickF E rfl rfl rfl rfl) ?_
         clear a E;intro a E
         refine st_val E (wn rfl) rfl rfl (x_move E rfl rfl) ?_
         clear a E;intro a E
         refine st_no E (wf E rfl rfl rfl rfl rfl) rfl rfl ?_
         clear a E;intro a E
         refine st_no E (wf E rfl rfl rfl rfl rfl) rfl rfl ?_
         clear a E;intro a E
         refine st_val E (wn rfl) rfl rfl (x_pickF E rfl rfl rfl rfl) ?_
         clear a E;intro a E
         refine st_val E (wn rfl) rfl rfl (x_move E rfl rfl) ?_
         clear a E;intro a E
         refine st_no E (wf E rfl rfl rfl rfl rfl) rfl rfl ?_
         clear a E;intro a E
         refine st_no E (wf E rfl rfl rfl rfl rfl) rfl rfl ?_
         clear a E;intro a E
         refine st_val E (wn rfl) rfl rfl (x_pickF E rfl rfl rfl rfl) ?_
         clear a E;intro a E
         refine st_val E (wn rfl) rfl rfl (x_assign E rfl rfl) ?_
         clear a E;intro a E
         refine wpList_nil ?_
         refine q_then ?_
         refine wp_ret ?_
         refine out1 E rfl rfl ?_
         replace H := H.drop 0
         replace H := H.drop 0
         replace H := H.drop 0
         replace H := H.drop 0
         replace H := H.drop 0
         obtain rfl := Option.some.inj hm
         exact ⟨rfl, H.reads (fun r hr => .tail _ (.tail _ (.tail _ (.tail _ (.tail _ (.tail _ (.tail _ (.tail _ (.tail _ (.tail _ (.tail _ (.tail _ (.tail _ (.tail _ (.tail _ (.tail _ (.tail _ (.tail _ (.tail _ (.tail _ (.tail _ (.tail _ (.tail _ (.tail _ (.tail _ (.tail _ (.tail _ (hr))))))))))))))))))))))))))))⟩
       ·rw [if_f hb79] at hm
        refine st_no E (wf' E rfl rfl rfl rfl hb79 rfl) rfl rfl ?_
        clear a E;intro a E
        refine st_no E (wf' E rfl rfl rfl rfl hb79 rfl) rfl rfl ?_
        clear a E;intro a E
        refine st_val E (wn rfl) rfl rfl (x_pickF E rfl rfl hb79 rfl) ?_
        clear a E;intro a E
        refine st_val E (wn rfl) rfl rfl (x_move E rfl rfl) ?_
        clear a E;intro a E
        refine st_no E (wf E rfl rfl rfl rfl rfl) rfl rfl ?_
        clear a E;intro a E
        refine st_no E (wf E rfl rfl rfl rfl rfl) rfl rfl ?_
        clear a E;intro a E
        refine st_val E (wn rfl) rfl rfl (x_pickF E rfl rfl rfl rfl) ?_
        clear a E;intro a E
        refine st_val E (wn rfl) rfl rfl (x_move E rfl rfl) ?_
        clear a E;intro a E
        refine st_no E (wf E rfl rfl rfl rfl rfl) rfl rfl ?_
        clear a E;intro a E
        refine st_no E (wf E rfl rfl rfl rfl rfl) rfl rfl ?_
        clear a E;intro a E
        refine st_val E (wn rfl) rfl rfl (x_pickF E rfl rfl rfl rfl) ?_
        clear a E;intro a E
        refine st_val E (wn rfl) rfl rfl (x_move E rfl rfl) ?_
        clear a E;intro a E
        refine st_no E (wf E rfl rfl rfl rfl rfl) rfl rfl ?_
        clear a E;intro a E
        refine st_no E (wf E rfl rfl rfl rfl rfl) rfl rfl ?_
        clear a E;intro a E
        refine st_no E (wf E rfl rfl rfl rfl rfl) rfl rfl ?_
        clear a E;intro a E
        refine st_no E (wf E rfl rfl rfl rfl rfl) rfl rfl ?_
        clear a E;intro a E
        refine st_val E (wn rfl) rfl rfl (x_pickF E rfl rfl rfl rfl) ?_
        clear a E;intro a E
        refine st_val E (wn rfl) rfl rfl (x_move E rfl rfl) ?_
        clear a E;intro a E
        refine st_no E (wf E rfl rfl rfl rfl rfl) rfl rfl ?_
        clear a E;intro a E
        refine st_no E (wf E rfl rfl rfl rfl rfl) rfl rfl ?_
        clear a E;intro a E
        refine st_val E (wn rfl) rfl rfl (x_pickF E rfl rfl rfl rfl) ?_
        clear a E;intro a E
        refine st_val E (wn rfl) rfl rfl (x_move E rfl rfl) ?_
        clear a E;intro a E
        refine st_no E (wf E rfl rfl rfl rfl rfl) rfl rfl ?_
        clear a E;intro a E
        refine st_no E (wf E rfl rfl rfl rfl rfl) rfl rfl ?_
        clear a E;intro a E
        refine st_val E (wn rfl) rfl rfl (x_pickF E rfl rfl rfl rfl) ?_
        clear a E;intro a E
        refine st_val E (wn rfl) rfl rfl (x_assign E rfl rfl) ?_
        clear a E;intro a E
        refine wpList_nil ?_
        refine q_then ?_
        refine wp_ret ?_
        refine out1 E rfl rfl ?_
        replace H := H.drop 0
        replace H := H.drop 0
        replace H := H.drop 0
        replace H := H.drop 0
        replace H := H.drop 0
        obtain rfl := Option.some.inj hm
        exact ⟨rfl, H.reads (fun r hr => .tail _ (.tail _ (.tail _ (.tail _ (.tail _ (.tail _ (.tail _ (.tail _ (.tail _ (.tail _ (.tail _ (.tail _ (.tail _ (.tail _ (.tail _ (.tail _ (.tail _ (.tail _ (.tail _ (.tail _ (.tail _ (.tail _ (.tail _ (.tail _ (.tail _ (.tail _ (.tail _ (hr))))))))))))))))))))))))))))⟩
      ·rw [if_f hb78] at hm
       refine st_no E (wf' E rfl rfl rfl rfl hb78 rfl) rfl rfl ?_
       clear a E;intro a E
       refine st_no E (wf' E rfl rfl rfl rfl hb78 rfl) rfl rfl ?_
       clear a E;intro a E
       refine st_no E (wf' E rfl rfl rfl rfl hb78 rfl) rfl rfl ?_
       clear a E;intro a E
       refine st_val E (wn rfl) rfl rfl (x_pickF E rfl rfl hb78 rfl) ?_
       clear a E;intro a E
       refine st_val E (wn rfl) rfl rfl (x_move E rfl rfl) ?_
       clear a E;intro a E
       refine st_no E (wf E rfl rfl rfl rfl rfl) rfl rfl ?_
       clear a E;intro a E
       refine st_no E (wf E rfl rfl rfl rfl rfl) rfl rfl ?_
       clear a E;intro a E
       refine st_val E (wn rfl) rfl rfl (x_pickF E rfl rfl rfl rfl) ?_
       clear a E;intro a E
       refine st_val E (wn rfl) rfl rfl (x_move E rfl rfl) ?_
       clear a E;intro a E
       refine st_no E (wf E rfl rfl rfl rfl rfl) rfl rfl ?_
       clear a E;intro a E
       refine st_no E (wf E rfl rfl rfl rfl rfl) rfl rfl ?_
       clear a E;intro a E
       refine st_val E (wn rfl) rfl rfl (x_pickF E rfl rfl rfl rfl) ?_
       clear a E;intro a E
       refine st_val E (wn rfl) rfl rfl (x_move E rfl rfl) ?_
       clear a E;intro a E
       refine st_no E (wf E rfl rfl rfl rfl rfl) rfl rfl ?_
       clear a E;intro a E
       refine st_no E (wf E rfl rfl rfl rfl rfl) rfl rfl ?_
       clear a E;intro a E
       refine st_val E (wn rfl) rfl rfl (x_pickF E rfl rfl rfl rfl) ?_
       clear a E;intro a E
       refine st_val E (wn rfl) rfl rfl (x_move E rfl rfl) ?_
       clear a E;intro a E
       refine st_no E (wf E rfl rfl rfl rfl rfl) rfl rfl ?_
       clear a E;intro a E
       refine st_no E (wf E rfl rfl rfl rfl rfl) rfl rfl ?_
       clear a E;intro a E
       refine st_no E (wf E rfl rfl rfl rfl rfl) rfl rfl ?_
       clear a E;intro a E
       refine st_no E (wf E rfl rfl rfl rfl rfl) rfl rfl ?_
       clear a E;intro a E
       refine st_val E (wn rfl) rfl rfl (x_pickF E rfl rfl rfl rfl) ?_
       clear a E;intro a E
       refine st_val E (wn rfl) rfl rfl (x_move E rfl rfl) ?_
       clear a E;intro a E
       refine st_no E (wf E rfl rfl rfl rfl rfl) rfl rfl ?_
       clear a E;intro a E
       refine st_no E (wf E rfl rfl rfl rfl rfl) rfl rfl ?_
       clear a E;intro a E
       refine st_val E (wn rfl) rfl rfl (x_pickF E rfl rfl rfl rfl) ?_
       clear a E;intro a E
       refine st_val E (wn rfl) rfl rfl (x_move E rfl rfl) ?_
       clear a E;intro a E
       refine st_no E (wf E rfl rfl rfl rfl rfl) rfl rfl ?_
       clear a E;intro a E
       refine st_no E (wf E rfl rfl rfl rfl rfl) rfl rfl ?_
       clear a E;intro a E
       refine st_val E (wn rfl) rfl rfl (x_pickF E rfl rfl rfl rfl) ?_
       clear a E;intro a E
       refine st_val E (wn rfl) rfl rfl (x_assign E rfl rfl) ?_
       clear a E;intro a E
       refine wpList_nil ?_
       refine q_then ?_
       refine wp_ret ?_
       refine out1 E rfl rfl ?_
       replace H := H.drop 0
       replace H := H.drop 0
       replace H := H.drop 0
       replace H := H.drop 0
       replace H := H.drop 0
       obtain rfl := Option.some.inj hm
       exact ⟨rfl, H.reads (fun r hr => .tail _ (.tail _ (.tail _ (.tail _ (.tail _ (.tail _ (.tail _ (.tail _ (.tail _ (.tail _ (.tail _ (.tail _ (.tail _ (.tail _ (.tail _ (.tail _ (.tail _ (.tail _ (.tail _ (.tail _ (.tail _ (.tail _ (.tail _ (.tail _ (.tail _ (.tail _ (.tail _ (hr))))))))))))))))))))))))))))⟩
     ·rw [if_f hb77] at hm
      refine st_no E (wf' E rfl rfl rfl rfl hb77 rfl) rfl rfl ?_
      clear a E;intro a E
      refine st_no E (wf' E rfl rfl rfl rfl hb77 rfl) rfl rfl ?_
      clear a E;intro a E
      refine st_val E (wn rfl) rfl rfl (x_pickF E rfl rfl hb77 rfl) ?_
      clear a E;intro a E
      refine st_val E (wn rfl) rfl rfl (x_move E rfl rfl) ?_
      clear a E;intro a E
      refine st_no E (wf E rfl rfl rfl rfl rfl) rfl rfl ?_
      clear a E;intro a E
      refine st_no E (wf E rfl rfl rfl rfl rfl) rfl rfl ?_
      clear a E;intro a E
      refine st_no E (wf E rfl rfl rfl rfl rfl) rfl rfl ?_
      clear a E;intro a E
      refine st_val E (wn rfl) rfl rfl (x_pickF E rfl rfl rfl rfl) ?_
      clear a E;intro a E
      refine st_val E (wn rfl) rfl rfl (x_move E rfl rfl) ?_
      clear a E;intro a E
      refine st_no E (wf E rfl rfl rfl rfl rfl) rfl rfl ?_
      clear a E;intro a E
      refine st_no E (wf E rfl rfl rfl rfl rfl) rfl rfl ?_
      clear a E;intro a E
      refine st_val E (wn rfl) rfl rfl (x_pickF E rfl rfl rfl rfl) ?_
      clear a E;intro a E
      refine st_val E (wn rfl) rfl rfl (x_move E rfl rfl) ?_
      clear a E;intro a E
      refine st_no E (wf E rfl rfl rfl rfl rfl) rfl rfl ?_
      clear a E;intro a E
      refine st_no E (wf E rfl rfl rfl rfl rfl) rfl rfl ?_
      clear a E;intro a E
      refine st_val E (wn rfl) rfl rfl (x_pickF E rfl rfl rfl rfl) ?_
      clear a E;intro a E
      refine st_val E (wn rfl) rfl rfl (x_move E rfl rfl) ?_
      clear a E;intro a E
      refine st_no E (wf E rfl rfl rfl rfl rfl) rfl rfl ?_
      clear a E;intro a E
      refine st_no E (wf E rfl rfl rfl rfl rfl) rfl rfl ?_
      clear a E;intro a E
      refine st_val E (wn rfl) rfl rfl (x_pickF E rfl rfl rfl rfl) ?_
      clear a E;intro a E
      refine st_val E (wn rfl) rfl rfl (x_move E rfl rfl) ?_
      clear a E;intro a E
      refine st_no E (wf E rfl rfl rfl rfl rfl) rfl rfl ?_
      clear a E;intro a E
      refine st_no E (wf E rfl rfl rfl rfl rfl) rfl rfl ?_
      clear a E;intro a E
      refine st_no E (wf E rfl rfl rfl rfl rfl) rfl rfl ?_
      clear a E;intro a E
      refine st_no E (wf E rfl rfl rfl rfl rfl) rfl rfl ?_
      clear a E;intro a E
      refine st_val E (wn rfl) rfl rfl (x_pickF E rfl rfl rfl rfl) ?_
      clear a E;intro a E
      refine st_val E (wn rfl) rfl rfl (x_move E rfl rfl) ?_
      clear a E;intro a E
      refine st_no E (wf E rfl rfl rfl rfl rfl) rfl rfl ?_
      clear a E;intro a E
      refine st_no E (wf E rfl rfl rfl rfl rfl) rfl rfl ?_
      clear a E;intro a E
      refine st_val E (wn rfl) rfl rfl (x_pickF E rfl rfl rfl rfl) ?_
      clear a E;intro a E
      refine st_val E (wn rfl) rfl rfl (x_move E rfl rfl) ?_
      clear a E;intro a E
      refine st_no E (wf E rfl rfl rfl rfl rfl) rfl rfl ?_
      clear a E;intro a E
      refine st_no E (wf E rfl rfl rfl rfl rfl) rfl rfl ?_
      clear a E;intro a E
      refine st_val E (wn rfl) rfl rfl (x_pickF E rfl rfl rfl rfl) ?_
      clear a E;intro a E
      refine st_val E (wn rfl) rfl rfl (x_assign E rfl rfl) ?_
      clear a E;intro a E
      refine wpList_nil ?_
      refine q_then ?_
      refine wp_ret ?_
      refine out1 E rfl rfl ?_
      replace H := H.drop 0
      replace H := H.drop 0
      replace H := H.drop 0
      replace H := H.drop 0
      replace H := H.drop 0
      obtain rfl := Option.some.inj hm
      exact ⟨rfl, H.reads (fun r hr => .tail _ (.tail _ (.tail _ (.tail _ (.tail _ (.tail _ (.tail _ (.tail _ (.tail _ (.tail _ (.tail _ (.tail _ (.tail _ (.tail _ (.tail _ (.tail _ (.tail _ (.tail _ (.tail _ (.tail _ (.tail _ (.tail _ (.tail _ (.tail _ (.tail _ (.tail _ (.tail _ (hr))))))))))))))))))))))))))))⟩
    ·rw [if_f hb76] at hm
     refine st_no E (wf' E rfl rfl rfl rfl hb76 rfl) rfl rfl ?_
     clear a E;intro a E
     refine st_no E (wf' E rfl rfl rfl rfl hb76 rfl) rfl rfl ?_
     clear a E;intro a E
     refine st_val E (wn rfl) rfl rfl (x_pickF E rfl rfl hb76 rfl) ?_
     clear a E;intro a E
     refine st_val E (wn rfl) rfl rfl (x_move E rfl rfl) ?_
     clear a E;intro a E
     refine st_no E (wf E rfl rfl rfl rfl rfl) rfl rfl ?_
     clear a E;intro a E
     refine st_no E (wf E rfl rfl rfl rfl rfl) rfl rfl ?_
     clear a E;intro a E
     refine st_val E (wn rfl) rfl rfl (x_pickF E rfl rfl rfl rfl) ?_
     clear a E;intro a E
     refine st_val E (wn rfl) rfl rfl (x_move E rfl rfl) ?_
     clear a E;intro a E
     refine st_no E (wf E rfl rfl rfl rfl rfl) rfl rfl ?_
     clear a E;intro a E
     refine st_no E (wf E rfl rfl rfl rfl rfl) rfl rfl ?_
     clear a E;intro a E
     refine st_no E (wf E rfl rfl rfl rfl rfl) rfl rfl ?_
     clear a E;intro a E
     refine st_val E (wn rfl) rfl rfl (x_pickF E rfl rfl rfl rfl) ?_
     clear a E;intro a E
     refine st_val E (wn rfl) rfl rfl (x_move E rfl rfl) ?_
     clear a E;intro a E
     refine st_no E (wf E rfl rfl rfl rfl rfl) rfl rfl ?_
     clear a E;intro a E
     refine st_no E (wf E rfl rfl rfl rfl rfl) rfl rfl ?_
     clear a E;intro a E
     refine st_val E (wn rfl) rfl rfl (x_pickF E rfl rfl rfl rfl) ?_
     clear a E;intro a E
     refine st_val E (wn rfl) rfl rfl (x_move E rfl rfl) ?_
     clear a E;intro a E
     refine st_no E (wf E rfl rfl rfl rfl rfl) rfl rfl ?_
     clear a E;intro a E
     refine st_no E (wf E rfl rfl rfl rfl rfl) rfl rfl ?_
     clear a E;intro a E
     refine st_val E (wn rfl) rfl rfl (x_pickF E rfl rfl rfl rfl) ?_
     clear a E;intro a E
     refine st_val E (wn rfl) rfl rfl (x_move E rfl rfl) ?_
     clear a E;intro a E
     refine st_no E (wf E rfl rfl rfl rfl rfl) rfl rfl ?_
     clear a E;intro a E
     refine st_no E (wf E rfl rfl rfl rfl rfl) rfl rfl ?_
     clear a E;intro a E
     refine st_val E (wn rfl) rfl rfl (x_pickF E rfl rfl rfl rfl) ?_
     clear a E;intro a E
     refine st_val E (wn rfl) rfl rfl (x_move E rfl rfl) ?_
     clear a E;intro a E
     refine st_no E (wf E rfl rfl rfl rfl rfl) rfl rfl ?_
     clear a E;intro a E
     refine st_no E (wf E rfl rfl rfl rfl rfl) rfl rfl ?_
     clear a E;intro a E
     refine st_no E (wf E rfl rfl rfl rfl rfl) rfl rfl ?_
     clear a E;intro a E
     refine st_no E (wf E rfl rfl rfl rfl rfl) rfl rfl ?_
     clear a E;intro a E
     refine st_val E (wn rfl) rfl rfl (x_pickF E rfl rfl rfl rfl) ?_
     clear a E;intro a E
     refine st_val E (wn rfl) rfl rfl (x_move E rfl rfl) ?_
     clear a E;intro a E
     refine st_no E (wf E rfl rfl rfl rfl rfl) rfl rfl ?_
     clear a E;intro a E
     refine st_no E (wf E rfl rfl rfl rfl rfl) rfl rfl ?_
     clear a E;intro a E
     refine st_val E (wn rfl) rfl rfl (x_pickF E rfl rfl rfl rfl) ?_
     clear a E;intro a E
     refine st_val E (wn rfl) rfl rfl (x_move E rfl rfl) ?_
     clear a E;intro a E
     refine st_no E (wf E rfl rfl rfl rfl rfl) rfl rfl ?_
     clear a E;intro a E
     refine st_no E (wf E rfl rfl rfl rfl rfl) rfl rfl ?_
     clear a E;intro a E
     refine st_val E (wn rfl) rfl rfl (x_pickF E rfl rfl rfl rfl) ?_
     clear a E;intro a E
     refine st_val E (wn rfl) rfl rfl (x_assign E rfl rfl) ?_
     clear a E;intro a E
     refine wpList_nil ?_
     refine q_then ?_
     refine wp_ret ?_
     refine out1 E rfl rfl ?_
     replace H := H.drop 0
     replace H := H.drop 0
     replace H := H.drop 0
     replace H := H.drop 0
     replace H := H.drop 0
     obtain rfl := Option.some.inj hm
     exact ⟨rfl, H.reads (fun r hr => .tail _ (.tail _ (.tail _ (.tail _ (.tail _ (.tail _ (.tail _ (.tail _ (.tail _ (.tail _ (.tail _ (.tail _ (.tail _ (.tail _ (.tail _ (.tail _ (.tail _ (.tail _ (.tail _ (.tail _ (.tail _ (.tail _ (.tail _ (.tail _ (.tail _ (.tail _ (.tail _ (hr))))))))))))))))))))))))))))⟩
   ·rw [if_f hb75] at hm
    refine st_no E (wf' E rfl rfl rfl rfl hb75 rfl) rfl rfl ?_
    clear a E;intro a E
    refine st_no E (wf' E rfl rfl rfl rfl hb75 rfl) rfl rfl ?_
    clear a E;intro a E
    refine st_no E (wf' E rfl rfl rfl rfl hb75 rfl) rfl rfl ?_
    clear a E;intro a E
    refine st_val E (wn rfl) rfl rfl (x_pickF E rfl rfl hb75 rfl) ?_
    clear a E;intro a E
    refine st_val E (wn rfl) rfl rfl (x_move E rfl rfl) ?_
    clear a E;intro a E
    refine st_no E (wf E rfl rfl rfl rfl rfl) rfl rfl ?_
    clear a E;intro a E
    refine st_no E (wf E rfl rfl rfl rfl rfl) rfl rfl ?_
    clear a E;intro a E
    refine st_val E (wn rfl) rfl rfl (x_pickF E rfl rfl rfl rfl) ?_
    clear a E;intro a E
    refine st_val E (wn rfl) rfl rfl (x_move E rfl rfl) ?_
    clear a E;intro a E
    refine st_no E (wf E rfl rfl rfl rfl rfl) rfl rfl ?_
    clear a E;intro a E
    refine st_no E (wf E rfl rfl rfl rfl rfl) rfl rfl ?_
    clear a E;intro a E
    refine st_val E (wn rfl) rfl rfl (x_pickF E rfl rfl rfl rfl) ?_
    clear a E;intro a E
    refine st_val E (wn rfl) rfl rfl (x_move E rfl rfl) ?_
    clear a E;intro a E
    refine st_no E (wf E rfl rfl rfl rfl rfl) rfl rfl ?_
    clear a E;intro a E
    refine st_no E (wf E rfl rfl rfl rfl rfl) rfl rfl ?_
    clear a E;intro a E
    refine st_no E (wf E rfl rfl rfl rfl rfl) rfl rfl ?_
    clear a E;intro a E
    refine st_val E (wn rfl) rfl rfl (x_pickF E rfl rfl rfl rfl) ?_
    clear a E;intro a E
    refine st_val E (wn rfl) rfl rfl (x_move E rfl rfl) ?_
    clear a E;intro a E
    refine st_no E (wf E rfl rfl rfl rfl rfl) rfl rfl ?_
    clear a E;intro a E
    refine st_no E (wf E rfl rfl rfl rfl rfl) rfl rfl ?_
    clear a E;intro a E
    refine st_val E (wn rfl) rfl rfl (x_pickF E rfl rfl rfl rfl) ?_
    clear a E;intro a E
    refine st_val E (wn rfl) rfl rfl (x_move E rfl rfl) ?_
    clear a E;intro a E
    refine st_no E (wf E rfl rfl rfl rfl rfl) rfl rfl ?_
    clear a E;intro a E
    refine st_no E (wf E rfl rfl rfl rfl rfl) rfl rfl ?_
    clear a E;intro a E
    refine st_val E (wn rfl) rfl rfl (x_pickF E rfl rfl rfl rfl) ?_
    clear a E;intro a E
    refine st_val E (wn rfl) rfl rfl (x_move E rfl rfl) ?_
    clear a E;intro a E
    refine st_no E (wf E rfl rfl rfl rfl rfl) rfl rfl ?_
    clear a E;intro a E
    refine st_no E (wf E rfl rfl rfl rfl rfl) rfl rfl ?_
    clear a E;intro a E
    refine st_val E (wn rfl) rfl rfl (x_pickF E rfl rfl rfl rfl) ?_
    clear a E;intro a E
    refine st_val E (wn rfl) rfl rfl (x_move E rfl rfl) ?_
    clear a E;intro a E
    refine st_no E (wf E rfl rfl rfl rfl rfl) rfl rfl ?_
    clear a E;intro a E
    refine st_no E (wf E rfl rfl rfl rfl rfl) rfl rfl ?_
    clear a E;intro a E
    refine st_no E (wf E rfl rfl rfl rfl rfl) rfl rfl ?_
    clear a E;intro a E
    refine st_no E (wf E rfl rfl rfl rfl rfl) rfl rfl ?_
    clear a E;intro a E
    refine st_val E (wn rfl) rfl rfl (x_pickF E rfl rfl rfl rfl) ?_
    clear a E;intro a E
    refine st_val E (wn rfl) rfl rfl (x_move E rfl rfl) ?_
    clear a E;intro a E
    refine st_no E (wf E rfl rfl rfl rfl rfl) rfl rfl ?_
    clear a E;intro a E
    refine st_no E (wf E rfl rfl rfl rfl rfl) rfl rfl ?_
    clear a E;intro a E
    refine st_val E (wn rfl) rfl rfl (x_pickF E rfl rfl rfl rfl) ?_
    clear a E;intro a E
    refine st_val E (wn rfl) rfl rfl (x_move E rfl rfl) ?_
    clear a E;intro a E
    refine st_no E (wf E rfl rfl rfl rfl rfl) rfl rfl ?_
    clear a E;intro a E
    refine st_no E (wf E rfl rfl rfl rfl rfl) rfl rfl ?_
    clear a E;intro a E
    refine st_val E (wn rfl) rfl rfl (x_pickF E rfl rfl rfl rfl) ?_
    clear a E;intro a E
    refine st_val E (wn rfl) rfl rfl (x_assign E rfl rfl) ?_
    clear a E;intro a E
    refine wpList_nil ?_
    refine q_then ?_
    refine wp_ret ?_
    refine out1 E rfl rfl ?_
    replace H := H.drop 0
    replace H := H.drop 0
    replace H := H.drop 0
    replace H := H.drop 0
    replace H := H.drop 0
    obtain rfl := Option.some.inj hm
    exact ⟨rfl, H.reads (fun r hr => .tail _ (.tail _ (.tail _ (.tail _ (.tail _ (.tail _ (.tail _ (.tail _ (.tail _ (.tail _ (.tail _ (.tail _ (.tail _ (.tail _ (.tail _ (.tail _ (.tail _ (.tail _ (.tail _ (.tail _ (.tail _ (.tail _ (.tail _ (.tail _ (.tail _ (.tail _ (.tail _ (hr))))))))))))))))))))))))))))⟩
  ·rw [if_f hb74] at hm
   refine st_no E (wf' E rfl rfl rfl rfl hb74 rfl) rfl rfl ?_
   clear a E;intro a E
   refine st_no E (wf' E rfl rfl rfl rfl hb74 rfl) rfl rfl ?_
   clear a E;intro a E
   refine st_val E (wn rfl) rfl rfl (x_pickF E rfl rfl hb74 rfl) ?_
   clear a E;intro a E
   refine st_val E (wn rfl) rfl rfl (x_move E rfl rfl) ?_
   clear a E;intro a E
   refine st_no E (wf E rfl rfl rfl rfl rfl) rfl rfl ?_
   clear a E;intro a E
   refine st_no E (wf E rfl rfl rfl rfl rfl) rfl rfl ?_
   clear a E;intro a E
   refine st_no E (wf E rfl rfl rfl rfl rfl) rfl rfl ?_
   clear a E;intro a E
   refine st_val E (wn rfl) rfl rfl (x_pickF E rfl rfl rfl rfl) ?_
   clear a E;intro a E
   refine st_val E (wn rfl) rfl rfl (x_move E rfl rfl) ?_
   clear a E;intro a E
   refine st_no E (wf E rfl rfl rfl rfl rfl) rfl rfl ?_
   clear a E;intro a E
   refine st_no E (wf E rfl rfl rfl rfl rfl) rfl rfl ?_
   clear a E;intro a E
   refine st_val E (wn rfl) rfl rfl (x_pickF E rfl rfl rfl rfl) ?_
   clear a E;intro a E
   refine st_val E (wn rfl) rfl rfl (x_move E rfl rfl) ?_
   clear a E;intro a E
   refine st_no E (wf E rfl rfl rfl rfl rfl) rfl rfl ?_
   clear a E;intro a E
   refine st_no E (wf E rfl rfl rfl rfl rfl) rfl rfl ?_
   clear a E;intro a E
   refine st_val E (wn rfl) rfl rfl (x_pickF E rfl rfl rfl rfl) ?_
   clear a E;intro a E
   refine st_val E (wn rfl) rfl rfl (x_move E rfl rfl) ?_
   clear a E;intro a E
   refine st_no E (wf E rfl rfl rfl rfl rfl) rfl rfl ?_
   clear a E;intro a E
   refine st_no E (wf E rfl rfl rfl rfl rfl) rfl rfl ?_
   clear a E;intro a E
   refine st_no E (wf E rfl rfl rfl rfl rfl) rfl rfl ?_
   clear a E;intro a E
   refine st_val E (wn rfl) rfl rfl (x_pickF E rfl rfl rfl rfl) ?_
   clear a E;intro a E
   refine st_val E (wn rfl) rfl rfl (x_move E rfl rfl) ?_
   clear a E;intro a E
   refine st_no E (wf E rfl rfl rfl rfl rfl) rfl rfl ?_
   clear a E;intro a E
   refine st_no E (wf E rfl rfl rfl rfl rfl) rfl rfl ?_
   clear a E;intro a E
   refine st_val E (wn rfl) rfl rfl (x_pickF E rfl rfl rfl rfl) ?_
   clear a E;intro a E
   refine st_val E (wn rfl) rfl rfl (x_move E rfl rfl) ?_
   clear a E;intro a E
   refine st_no E (wf E rfl rfl rfl rfl rfl) rfl rfl ?_
   clear a E;intro a E
   refine st_no E (wf E rfl rfl rfl rfl rfl) rfl rfl ?_
   clear a E;intro a E
   refine st_val E (wn rfl) rfl rfl (x_pickF E rfl rfl rfl rfl) ?_
   clear a E;intro a E
   refine st_val E (wn rfl) rfl rfl (x_move E rfl rfl) ?_
   clear a E;intro a E
   refine st_no E (wf E rfl rfl rfl rfl rfl) rfl rfl ?_
   clear a E;intro a E
   refine st_no E (wf E rfl rfl rfl rfl rfl) rfl rfl ?_
   clear a E;intro a E
   refine st_val E (wn rfl) rfl rfl (x_pickF E rfl rfl rfl rfl) ?_
   clear a E;intro a E
   refine st_val E (wn rfl) rfl rfl (x_move E rfl rfl) ?_
   clear a E;intro a E
   refine st_no E (wf E rfl rfl rfl rfl rfl) rfl rfl ?_
   clear a E;intro a E
   refine st_no E (wf E rfl rfl rfl rfl rfl) rfl rfl ?_
   clear a E;intro a E
   refine st_no E (wf E rfl rfl rfl rfl rfl) rfl rfl ?_
   clear a E;intro a E
   refine st_no E (wf E rfl rfl rfl rfl rfl) rfl rfl ?_
   clear a E;intro a E
   refine st_val E (wn rfl) rfl rfl (x_pickF E rfl rfl rfl rfl) ?_
   clear a E;intro a E
   refine st_val E (wn rfl) rfl rfl (x_move E rfl rfl) ?_
   clear a E;intro a E
   refine st_no E (wf E rfl rfl rfl rfl rfl) rfl rfl ?_
   clear a E;intro a E
   refine st_no E (wf E rfl rfl rfl rfl rfl) rfl rfl ?_
   clear a E;intro a E
   refine st_val E (wn rfl) rfl rfl (x_pickF E rfl rfl rfl rfl) ?_
   clear a E;intro a E
   refine st_val E (wn rfl) rfl rfl (x_move E rfl rfl) ?_
   clear a E;intro a E
   refine st_no E (wf E rfl rfl rfl rfl rfl) rfl rfl ?_
   clear a E;intro a E
   refine st_no E (wf E rfl rfl rfl rfl rfl) rfl rfl ?_
   clear a E;intro a E
   refine st_val E (wn rfl) rfl rfl (x_pickF E rfl rfl rfl rfl) ?_
   clear a E;intro a E
   refine st_val E (wn rfl) rfl rfl (x_assign E rfl rfl) ?_
   clear a E;intro a E
   refine wpList_nil ?_
   refine q_then ?_
   refine wp_ret ?_
   refine out1 E rfl rfl ?_
   replace H := H.drop 0
   replace H := H.drop 0
   replace H := H.drop 0
   replace H := H.drop 0
   replace H := H.drop 0
   obtain rfl := Option.some.inj hm
   exact ⟨rfl, H.reads (fun r hr => .tail _ (.tail _ (.tail _ (.tail _ (.tail _ (.tail _ (.tail _ (.tail _ (.tail _ (.tail _ (.tail _ (.tail _ (.tail _ (.tail _ (.tail _ (.tail _ (.tail _ (.tail _ (.tail _ (.tail _ (.tail _ (.tail _ (.tail _ (.tail _ (.tail _ (.tail _ (.tail _ (hr))))))))))))))))))))))))))))⟩
 ·rw [if_f hb73] at hm
  refine st_no E (wf' E rfl rfl rfl rfl hb73 rfl) rfl rfl ?_
  clear a E;intro a E
  refine st_no E (wf' E rfl rfl rfl rfl hb73 rfl) rfl rfl ?_
  clear a E;intro a E
  refine st_no E (wf' E rfl rfl rfl rfl hb73 rfl) rfl rfl ?_
  clear a E;intro a E
  refine st_val E (wn rfl) rfl rfl (x_pickF E rfl rfl hb73 rfl) ?_
  clear a E;intro a E
  refine st_val E (wn rfl) rfl rfl (x_move E rfl rfl) ?_
  clear a E;intro a E
  refine st_no E (wf E rfl rfl rfl rfl rfl) rfl rfl ?_
  clear a E;intro a E
  refine st_no E (wf E rfl rfl rfl rfl rfl) rfl rfl ?_
  clear a E;intro a E
  refine st_val E (wn rfl) rfl rfl (x_pickF E rfl rfl rfl rfl) ?_
  clear a E;intro a E
  refine st_val E (wn rfl) rfl rfl (x_move E rfl rfl) ?_
  clear a E;intro a E
  refine st_no E (wf E rfl rfl rfl rfl rfl) rfl rfl ?_
  clear a E;intro a E
  refine st_no E (wf E rfl rfl rfl rfl rfl) rfl rfl ?_
  clear a E;intro a E
  refine st_no E (wf E rfl rfl rfl rfl rfl) rfl rfl ?_
  clear a E;intro a E
  refine st_val E (wn rfl) rfl rfl (x_pickF E rfl rfl rfl rfl) ?_
  clear a E;intro a E
  refine st_val E (wn rfl) rfl rfl (x_move E rfl rfl) ?_
  clear a E;intro a E
  refine st_no E (wf E rfl rfl rfl rfl rfl) rfl rfl ?_
  clear a E;intro a E
  refine st_no E (wf E rfl rfl rfl rfl rfl) rfl rfl ?_
  clear a E;intro a E
  refine st_val E (wn rfl) rfl rfl (x_pickF E rfl rfl rfl rfl) ?_
  clear a E;intro a E
  refine st_val E (wn rfl) rfl rfl (x_move E rfl rfl) ?_
  clear a E;intro a E
  refine st_no E (wf E rfl rfl rfl rfl rfl) rfl rfl ?_
  clear a E;intro a E
  refine st_no E (wf E rfl rfl rfl rfl rfl) rfl rfl ?_
  clear a E;intro a E
  refine st_val E (wn rfl) rfl rfl (x_pickF E rfl rfl rfl rfl) ?_
  clear a E;intro a E
  refine st_val E (wn rfl) rfl rfl (x_move E rfl rfl) ?_
  clear a E;intro a E
  refine st_no E (wf E rfl rfl rfl rfl rfl) rfl rfl ?_
  clear a E;intro a E
  refine st_no E (wf E rfl rfl rfl rfl rfl) rfl rfl ?_
  clear a E;intro a E
  refine st_no E (wf E rfl rfl rfl rfl rfl) rfl rfl ?_
  clear a E;intro a E
  refine st_val E (wn rfl) rfl rfl (x_pickF E rfl rfl rfl rfl) ?_
  clear a E;intro a E
  refine st_val E (wn rfl) rfl rfl (x_move E rfl rfl) ?_
  clear a E;intro a E
  refine st_no E (wf E rfl rfl rfl rfl rfl) rfl rfl ?_
  clear a E;intro a E
  refine st_no E (wf E rfl rfl rfl rfl rfl) rfl rfl ?_
  clear a E;intro a E
  refine st_val E (wn rfl) rfl rfl (x_pickF E rfl rfl rfl rfl) ?_
  clear a E;intro a E
  refine st_val E (wn rfl) rfl rfl (x_move E rfl rfl) ?_
  clear a E;intro a E
  refine st_no E (wf E rfl rfl rfl rfl rfl) rfl rfl ?_
  clear a E;intro a E
  refine st_no E (wf E rfl rfl rfl rfl rfl) rfl rfl ?_
  clear a E;intro a E
  refine st_val E (wn rfl) rfl rfl (x_pickF E rfl rfl rfl rfl) ?_
  clear a E;intro a E
  refine st_val E (wn rfl) rfl rfl (x_move E rfl rfl) ?_
  clear a E;intro a E
  refine st_no E (wf E rfl rfl rfl rfl rfl) rfl rfl ?_
  clear a E;intro a E
  refine st_no E (wf E rfl rfl rfl rfl rfl) rfl rfl ?_
  clear a E;intro a E
  refine st_val E (wn rfl) rfl rfl (x_pickF E rfl rfl rfl rfl) ?_
  clear a E;intro a E
  refine st_val E (wn rfl) rfl rfl (x_move E rfl rfl) ?_
  clear a E;intro a E
  refine st_no E (wf E rfl rfl rfl rfl rfl) rfl rfl ?_
  clear a E;intro a E
  refine st_no E (wf E rfl rfl rfl rfl rfl) rfl rfl ?_
  clear a E;intro a E
  refine st_no E (wf E rfl rfl rfl rfl rfl) rfl rfl ?_
  clear a E;intro a E
  refine st_no E (wf E rfl rfl rfl rfl rfl) rfl rfl ?_
  clear a E;intro a E
  refine st_val E (wn rfl) rfl rfl (x_pickF E rfl rfl rfl rfl) ?_
  clear a E;intro a E
  refine st_val E (wn rfl) rfl rfl (x_move E rfl rfl) ?_
  clear a E;intro a E
  refine st_no E (wf E rfl rfl rfl rfl rfl) rfl rfl ?_
  clear a E;intro a E
  refine st_no E (wf E rfl rfl rfl rfl rfl) rfl rfl ?_
  clear a E;intro a E
  refine st_val E (wn rfl) rfl rfl (x_pickF E rfl rfl rfl rfl) ?_
  clear a E;intro a E
  refine st_val E (wn rfl) rfl rfl (x_move E rfl rfl) ?_
  clear a E;intro a E
  refine st_no E (wf E rfl rfl rfl rfl rfl) rfl rfl ?_
  clear a E;intro a E
  refine st_no E (wf E rfl rfl rfl rfl rfl) rfl rfl ?_
  clear a E;intro a E
  refine st_val E (wn rfl) rfl rfl (x_pickF E rfl rfl rfl rfl) ?_
  clear a E;intro a E
  refine st_val E (wn rfl) rfl rfl (x_assign E rfl rfl) ?_
  clear a E;intro a E
  refine wpList_nil ?_
  refine q_then ?_
  refine wp_ret ?_
  refine out1 E rfl rfl ?_
  replace H := H.drop 0
  replace H := H.drop 0
  replace H := H.drop 0
  replace H := H.drop 0
  replace H := H.drop 0
  obtain rfl := Option.some.inj hm
  exact ⟨rfl, H.reads (fun r hr => .tail _ (.tail _ (.tail _ (.tail _ (.tail _ (.tail _ (.tail _ (.tail _ (.tail _ (.tail _ (.tail _ (.tail _ (.tail _ (.tail _ (.tail _ (.tail _ (.tail _ (.tail _ (.tail _ (.tail _ (.tail _ (.tail _ (.tail _ (.tail _ (.tail _ (.tail _ (.tail _ (hr))))))))))))))))))))))))))))⟩
end Go.Cb

set_option linter.unusedVariables false
set_option linter.unusedSimpArgs false
namespace Go.Cb
open Go.Proofs Go.RowKit
def m_cantonref17_Put (x1 : S_api_Letter) : Option ((List Int) × Int) :=
  (m_cantonref02_Writer_Num [] false x1.Kind).bind fun u8 => (m_cantonref02_Writer_Num u8.1 u8.2 x1.View).bind fun u11 => (m_cantonref02_Writer_Num u11.1 u11.2 x1.Normal).bind fun u14 => (m_cantonref02_Writer_Num u14.1 u14.2 x1.Len).bind fun u17 => (m_cantonref02_Writer_Num u17.1 u17.2 x1.Stays).bind fun u20 => (m_cantonref02_Writer_Texts u20.1 u20.2 x1.Log).bind fun u23 => (m_cantonref02_Writer_Num u23.1 u23.2 x1.Num).bind fun u26 => (m_cantonref02_Writer_Text u26.1 u26.2 x1.Text).bind fun u29 => (m_cantonref02_Writer_Bytes u29.1 u29.2).bind fun u32 => some (u32.1, u32.2)
set_option maxRecDepth 20000 in
set_option maxHeartbeats 1000000 in
theorem c_cantonref17_Put {w : World} {Fo : List Ob} {rs : List Rp} (x1 : S_api_Letter) (v2 : Value) (H : Sep w (Fo) rs) (hr3 : rSl kS v2 x1.Log ∈ rs) {r : (List Int) × Int} (hm : m_cantonref17_Put x1 = some r) :
    Calls Try.prog 12 [.agg #[.int .i64 x1.Kind, .int .i64 x1.View, .int .i64 x1.Normal, .int .i64 x1.Len, .int .i64 x1.Stays, v2, .int .i64 x1.Num, .string x1.Text]].toArray w (Ret fun v w' => ∃ (v5001 : Value), .tuple #[v5001, .int .i64 r.2] = v ∧ Sep w' (Row 5 (kI .u8) v5001 r.1 :: Fo) (rs)) := by
 unfold m_cantonref17_Put at hm
 refine enter Try.func12 rfl Try.ntmps12 rfl fun a E => ?_
 simp only [enum, Nat.reduceAdd] at E
 refine wp_seq ?_
 refine wp_region_lit ?_
 obtain ⟨q5, x6, rfl⟩ := H.slform hr3
 refine st_box E H (wn rfl) rfl rfl (cs := [.int .i64 x1.Kind, .int .i64 x1.View, .int .i64 x1.Normal, .int .i64 x1.Len, .int .i64 x1.Stays, (.slice q5 x1.Log.length x6), .int .i64 x1.Num, .string x1.Text]) rfl rfl rfl ?_
 clear E H; clear a; clear w; intro p4 w a H E
 refine st_val E (wn rfl) rfl rfl (x_assign E rfl rfl) ?_
 clear a E;intro a E
 refine st_val E (wn rfl) rfl rfl (x_assign E rfl rfl) ?_
 clear a E;intro a E
 refine wpList_nil ?_
 refine q_then ?_
 refine wp_seq ?_
 refine wp_region_lit ?_
 refine st_val E (wn rfl) rfl rfl (x_build E (ps := []) (vs := []) rfl rfl (v := .agg #[.slice none 0 0, .bool false]) (by kernel_rfl)) ?_
 clear a E;intro a E
 refine st_box E H (wn rfl) rfl rfl (cs := [.slice none 0 0, .bool false]) rfl rfl rfl ?_
 clear E H; clear a; clear w; intro p7 w a H E
 refine st_val E (wn rfl) rfl rfl (x_assign E rfl rfl) ?_
 clear a E;intro a E
 refine wpList_nil ?_
 refine q_then ?_
 refine wp_seq ?_
 refine wp_region_lit ?_
 refine st_val E (wn rfl) rfl rfl (x_move E rfl rfl) ?_
 clear a E;intro a E
 refine st_val E (wn rfl) rfl rfl (x_fa E rfl rfl (v := .pointer (some ⟨p4, 0, none⟩)) (fa24_0 _ _)) ?_
 clear a E;intro a E
 refine st_val E (wn rfl) rfl rfl (x_ldB (i := 1) E H rfl rfl rfl rfl Try.underlying3 rfl) ?_
 clear a E;intro a E
 replace H := H.nilRow 5 (kI .u8)
 replace H := H.front 2 rfl
 replace H := H.front 1 rfl
 replace H := H.front 2 rfl
 replace H : Sep w (Blk p7 84 [.slice none 0 0, .bool false] :: Row 5 (kI .u8) (.slice none 0 0) ([] : List Int) :: Blk p4 24 [.int .i64 x1.Kind, .int .i64 x1.View, .int .i64 x1.Normal, .int .i64 x1.Len, .int .i64 x1.Stays, (.slice q5 x1.Log.length x6), .int .i64 x1.Num, .string x1.Text] :: Fo) (rs) := H
 obtain ⟨u8, hx9, hm⟩ := bnd hm
 refine st_call E (wn rfl) rfl rfl (x_call E rfl rfl (cf33 _)) (c_cantonref02_Writer_Num p7 (.slice none 0 0) [] false x1.Kind H hx9) ?_
 clear E H; clear a; clear w; rintro _ w ⟨v10, rfl, H⟩ a E
 refine wpList_nil ?_
 refine q_then ?_
 refine wp_seq ?_
 refine wp_region_lit ?_
 refine st_val E (wn rfl) rfl rfl (x_move E rfl rfl) ?_
 clear a E;intro a E
 refine st_val E (wn rfl) rfl rfl (x_fa E rfl rfl (v := .pointer (some ⟨p4, 1, none⟩)) (fa24_1 _ _)) ?_
 clear a E;intro a E
 refine st_val E (wn rfl) rfl rfl (x_ldB (i := 2) E H rfl rfl rfl rfl Try.underlying2 rfl) ?_
 clear a E;intro a E
 obtain ⟨u11, hx12, hm⟩ := bnd hm
 refine st_call E (wn rfl) rfl rfl (x_call E rfl rfl (cf33 _)) (c_cantonref02_Writer_Num p7 v10 u8.1 u8.2 x1.View H hx12) ?_
 clear E H; clear a; clear w; rintro _ w ⟨v13, rfl, H⟩ a E
 refine wpList_nil ?_
 refine q_then ?_
 refine wp_seq ?_
 refine wp_region_lit ?_
 refine st_val E (wn rfl) rfl rfl (x_move E rfl rfl) ?_
 clear a E;intro a E
 refine st_val E (wn rfl) rfl rfl (x_fa E rfl rfl (v := .pointer (some ⟨p4, 2, none⟩)) (fa24_2 _ _)) ?_
 clear a E;intro a E
 refine st_val E (wn rfl) rfl rfl (x_ldB (i := 2) E H rfl rfl rfl rfl Try.underlying2 rfl) ?_
 clear a E;intro a E
 obtain ⟨u14, hx15, hm⟩ := bnd hm
 refine st_call E (wn rfl) rfl rfl (x_call E rfl rfl (cf33 _)) (c_cantonref02_Writer_Num p7 v13 u11.1 u11.2 x1.Normal H hx15) ?_
 clear E H; clear a; clear w; rintro _ w ⟨v16, rfl, H⟩ a E
 refine wpList_nil ?_
 refine q_then ?_
 refine wp_seq ?_
 refine wp_region_lit ?_
 refine st_val E (wn rfl) rfl rfl (x_move E rfl rfl) ?_
 clear a E;intro a E
 refine st_val E (wn rfl) rfl rfl (x_fa E rfl rfl (v := .pointer (some ⟨p4, 3, none⟩)) (fa24_3 _ _)) ?_
 clear a E;intro a E
 refine st_val E (wn rfl) rfl rfl (x_ldB (i := 2) E H rfl rfl rfl rfl Try.underlying3 rfl) ?_
 clear a E;intro a E
 obtain ⟨u17, hx18, hm⟩ := bnd hm
 refine st_call E (wn rfl) rfl rfl (x_call E rfl rfl (cf33 _)) (c_cantonref02_Writer_Num p7 v16 u14.1 u14.2 x1.Len H hx18) ?_
 clear E H; clear a; clear w; rintro _ w ⟨v19, rfl, H⟩ a E
 refine wpList_nil ?_
 refine q_then ?_
 refine wp_seq ?_
 refine wp_region_lit ?_
 refine st_val E (wn rfl) rfl rfl (x_move E rfl rfl) ?_
 clear a E;intro a E
 refine st_val E (wn rfl) rfl rfl (x_fa E rfl rfl (v := .pointer (some ⟨p4, 4, none⟩)) (fa24_4 _ _)) ?_
 clear a E;intro a E
 refine st_val E (wn rfl) rfl rfl (x_ldB (i := 2) E H rfl rfl rfl rfl Try.underlying3 rfl) ?_
 clear a E;intro a E
 obtain ⟨u20, hx21, hm⟩ := bnd hm
 refine st_call E (wn rfl) rfl rfl (x_call E rfl rfl (cf33 _)) (c_cantonref02_Writer_Num p7 v19 u17.1 u17.2 x1.Stays H hx21) ?_
 clear E H; clear a; clear w; rintro _ w ⟨v22, rfl, H⟩ a E
 refine wpList_nil ?_
 refine q_then ?_
 refine wp_seq ?_
 refine wp_region_lit ?_
 refine st_val E (wn rfl) rfl rfl (x_move E rfl rfl) ?_
 clear a E;intro a E
 refine st_val E (wn rfl) rfl rfl (x_fa E rfl rfl (v := .pointer (some ⟨p4, 5, none⟩)) (fa24_5 _ _)) ?_
 clear a E;intro a E
 refine st_val E (wn rfl) rfl rfl (x_ldB (i := 2) E H rfl rfl rfl rfl Try.underlying22 rfl) ?_
 clear a E;intro a E
 obtain ⟨u23, hx24, hm⟩ := bnd hm
 refine st_call E (wn rfl) rfl rfl (x_call E rfl rfl (cf34 _)) (c_cantonref02_Writer_Texts p7 v22 u20.1 u20.2 (.slice q5 x1.Log.length x6) x1.Log H hr3 hx24) ?_
 clear E H; clear a; clear w; rintro _ w ⟨v25, rfl, H⟩ a E
 refine wpList_nil ?_
 refine q_then ?_
 refine wp_seq ?_
 refine wp_region_lit ?_
 refine st_val E (wn rfl) rfl rfl (x_move E rfl rfl) ?_
 clear a E;intro a E
 refine st_val E (wn rfl) rfl rfl (x_fa E rfl rfl (v := .pointer (some ⟨p4, 6, none⟩)) (fa24_6 _ _)) ?_
 clear a E;intro a E
 refine st_val E (wn rfl) rfl rfl (x_ldB (i := 2) E H rfl rfl rfl rfl Try.underlying2 rfl) ?_
 clear a E;intro a E
 obtain ⟨u26, hx27, hm⟩ := bnd hm
 refine st_call E (wn rfl) rfl rfl (x_call E rfl rfl (cf33 _)) (c_cantonref02_Writer_Num p7 v25 u23.1 u23.2 x1.Num H hx27) ?_
 clear E H; clear a; clear w; rintro _ w ⟨v28, rfl, H⟩ a E
 refine wpList_nil ?_
 refine q_then ?_
 refine wp_seq ?_
 refine wp_region_lit ?_
 refine st_val E (wn rfl) rfl rfl (x_move E rfl rfl) ?_
 clear a E;intro a E
 refine st_val E (wn rfl) rfl rfl (x_fa E rfl rfl (v := .pointer (some ⟨p4, 7, none⟩)) (fa24_7 _ _)) ?_
 clear a E;intro a E
 refine st_val E (wn rfl) rfl rfl (x_ldB (i := 2) E H rfl rfl rfl rfl Try.underlying9 rfl) ?_
 clear a E;intro a E
 obtain ⟨u29, hx30, hm⟩ := bnd hm
 refine st_call E (wn rfl) rfl rfl (x_call E rfl rfl (cf35 _)) (c_cantonref02_Writer_Text p7 v28 u26.1 u26.2 x1.Text H hx30) ?_
 clear E H; clear a; clear w; rintro _ w ⟨v31, rfl, H⟩ a E
 refine wpList_nil ?_
 refine q_then ?_
 refine wp_seq ?_
 refine wp_region_lit ?_
 refine st_val E (wn rfl) rfl rfl (x_move E rfl rfl) ?_
 clear a E;intro a E
 obtain ⟨u32, hx33, hm⟩ := bnd hm
 refine st_call E (wn rfl) rfl rfl (x_call E rfl rfl (cf36 _)) (c_cantonref02_Writer_Bytes p7 v31 u29.1 u29.2 H hx33) ?_
 clear E H; clear a; clear w; rintro _ w ⟨v34, rfl, H⟩ a E
 refine st_val E (wn rfl) rfl rfl (x_ext E rfl rfl rfl) ?_
 clear a E;intro a E
 refine st_val E (wn rfl) rfl rfl (x_ext E rfl rfl rfl) ?_
 clear a E;intro a E
 refine st_val E (wn rfl) rfl rfl (x_assign E rfl rfl) ?_
 clear a E;intro a E
 refine st_val E (wn rfl) rfl rfl (x_assign E rfl rfl) ?_
 clear a E;intro a E
 refine wpList_nil ?_
 refine q_then ?_
 refine wp_ret ?_
 refine out2 E rfl rfl rfl ?_
 replace H := H.drop 1
 replace H := H.drop 1
 replace H := H.drop 1
 obtain rfl := Option.some.inj hm
 exact ⟨v34, rfl, H.reads (fun r hr => hr)⟩
end Go.Cb

set_option linter.unusedVariables false
set_option linter.unusedSimpArgs false
namespace Go.Cb
open Go.Proofs Go.RowKit
def m_cantonref17_PutSaved (x1 : S_api_Saved) : Option ((List Int) × Int) :=
  (m_cantonref02_Writer_Num [] false x1.View).bind fun u8 => (m_cantonref02_Writer_Num u8.1 u8.2 x1.Normal).bind fun u11 => (m_cantonref02_Writer_Texts u11.1 u11.2 x1.Log).bind fun u14 => (m_cantonref02_Writer_Bytes u14.1 u14.2).bind fun u17 => some (u17.1, u17.2)
set_option maxRecDepth 20000 in
set_option maxHeartbeats 1000000 in
theorem c_cantonref17_PutSaved {w : World} {Fo : List Ob} {rs : List Rp} (x1 : S_api_Saved) (v2 : Value) (H : Sep w (Fo) rs) (hr3 : rSl kS v2 x1.Log ∈ rs) {r : (List Int) × Int} (hm : m_cantonref17_PutSaved x1 = some r) :
    Calls Try.prog 14 [.agg #[.int .i64 x1.View, .int .i64 x1.Normal, v2]].toArray w (Ret fun v w' => ∃ (v5001 : Value), .tuple #[v5001, .int .i64 r.2] = v ∧ Sep w' (Row 5 (kI .u8) v5001 r.1 :: Fo) (rs)) := by
 unfold m_cantonref17_PutSaved at hm
 refine enter Try.func14 rfl Try.ntmps14 rfl fun a E => ?_
 simp only [enum, Nat.reduceAdd] at E
 refine wp_seq ?_
 refine wp_region_lit ?_
 obtain ⟨q5, x6, rfl⟩ := H.slform hr3
 refine st_box E H (wn rfl) rfl rfl (cs := [.int .i64 x1.View, .int .i64 x1.Normal, (.slice q5 x1.Log.length x6)]) rfl rfl rfl ?_
 clear E H; clear a; clear w; intro p4 w a H E
 refine st_val E (wn rfl) rfl rfl (x_assign E rfl rfl) ?_
 clear a E;intro a E
 refine st_val E (wn rfl) rfl rfl (x_assign E rfl rfl) ?_
 clear a E;intro a E
 refine wpList_nil ?_
 refine q_then ?_
 refine wp_seq ?_
 refine wp_region_lit ?_
 refine st_val E (wn rfl) rfl rfl (x_build E (ps := []) (vs := []) rfl rfl (v := .agg #[.slice none 0 0, .bool false]) (by kernel_rfl)) ?_
 clear a E;intro a E
 refine st_box E H (wn rfl) rfl rfl (cs := [.slice none 0 0, .bool false]) rfl rfl rfl ?_
 clear E H; clear a; clear w; intro p7 w a H E
 refine st_val E (wn rfl) rfl rfl (x_assign E rfl rfl) ?_
 clear a E;intro a E
 refine wpList_nil ?_
 refine q_then ?_
 refine wp_seq ?_
 refine wp_region_lit ?_
 refine st_val E (wn rfl) rfl rfl (x_move E rfl rfl) ?_
 clear a E;intro a E
 refine st_val E (wn rfl) rfl rfl (x_fa E rfl rfl (v := .pointer (some ⟨p4, 0, none⟩)) (fa26_0 _ _)) ?_
 clear a E;intro a E
 refine st_val E (wn rfl) rfl rfl (x_ldB (i := 1) E H rfl rfl rfl rfl Try.underlying2 rfl) ?_
 clear a E;intro a E
 replace H := H.nilRow 5 (kI .u8)
 replace H := H.front 2 rfl
 replace H := H.front 1 rfl
 replace H := H.front 2 rfl
 replace H : Sep w (Blk p7 84 [.slice none 0 0, .bool false] :: Row 5 (kI .u8) (.slice none 0 0) ([] : List Int) :: Blk p4 26 [.int .i64 x1.View, .int .i64 x1.Normal, (.slice q5 x1.Log.length x6)] :: Fo) (rs) := H
 obtain ⟨u8, hx9, hm⟩ := bnd hm
 refine st_call E (wn rfl) rfl rfl (x_call E rfl rfl (cf33 _)) (c_cantonref02_Writer_Num p7 (.slice none 0 0) [] false x1.View H hx9) ?_
 clear E H; clear a; clear w; rintro _ w ⟨v10, rfl, H⟩ a E
 refine wpList_nil ?_
 refine q_then ?_
 refine wp_seq ?_
 refine wp_region_lit ?_
 refine st_val E (wn rfl) rfl rfl (x_move E rfl rfl) ?_
 clear a E;intro a E
 refine st_val E (wn rfl) rfl rfl (x_fa E rfl rfl (v := .pointer (some ⟨p4, 1, none⟩)) (fa26_1 _ _)) ?_
 clear a E;intro a E
 refine st_val E (wn rfl) rfl rfl (x_ldB (i := 2) E H rfl rfl rfl rfl Try.underlying2 rfl) ?_
 clear a E;intro a E
 obtain ⟨u11, hx12, hm⟩ := bnd hm
 refine st_call E (wn rfl) rfl rfl (x_call E rfl rfl (cf33 _)) (c_cantonref02_Writer_Num p7 v10 u8.1 u8.2 x1.Normal H hx12) ?_
 clear E H; clear a; clear w; rintro _ w ⟨v13, rfl, H⟩ a E
 refine wpList_nil ?_
 refine q_then ?_
 refine wp_seq ?_
 refine wp_region_lit ?_
 refine st_val E (wn rfl) rfl rfl (x_move E rfl rfl) ?_
 clear a E;intro a E
 refine st_val E (wn rfl) rfl rfl (x_fa E rfl rfl (v := .pointer (some ⟨p4, 2, none⟩)) (fa26_2 _ _)) ?_
 clear a E;intro a E
 refine st_val E (wn rfl) rfl rfl (x_ldB (i := 2) E H rfl rfl rfl rfl Try.underlying22 rfl) ?_
 clear a E;intro a E
 obtain ⟨u14, hx15, hm⟩ := bnd hm
 refine st_call E (wn rfl) rfl rfl (x_call E rfl rfl (cf34 _)) (c_cantonref02_Writer_Texts p7 v13 u11.1 u11.2 (.slice q5 x1.Log.length x6) x1.Log H hr3 hx15) ?_
 clear E H; clear a; clear w; rintro _ w ⟨v16, rfl, H⟩ a E
 refine wpList_nil ?_
 refine q_then ?_
 refine wp_seq ?_
 refine wp_region_lit ?_
 refine st_val E (wn rfl) rfl rfl (x_move E rfl rfl) ?_
 clear a E;intro a E
 obtain ⟨u17, hx18, hm⟩ := bnd hm
 refine st_call E (wn rfl) rfl rfl (x_call E rfl rfl (cf36 _)) (c_cantonref02_Writer_Bytes p7 v16 u14.1 u14.2 H hx18) ?_
 clear E H; clear a; clear w; rintro _ w ⟨v19, rfl, H⟩ a E
 refine st_val E (wn rfl) rfl rfl (x_ext E rfl rfl rfl) ?_
 clear a E;intro a E
 refine st_val E (wn rfl) rfl rfl (x_ext E rfl rfl rfl) ?_
 clear a E;intro a E
 refine st_val E (wn rfl) rfl rfl (x_assign E rfl rfl) ?_
 clear a E;intro a E
 refine st_val E (wn rfl) rfl rfl (x_assign E rfl rfl) ?_
 clear a E;intro a E
 refine wpList_nil ?_
 refine q_then ?_
 refine wp_ret ?_
 refine out2 E rfl rfl rfl ?_
 replace H := H.drop 1
 replace H := H.drop 1
 replace H := H.drop 1
 obtain rfl := Option.some.inj hm
 exact ⟨v19, rfl, H.reads (fun r hr => hr)⟩
end Go.Cb

set_option linter.unusedVariables false
set_option linter.unusedSimpArgs false
namespace Go.Cb
open Go.Proofs Go.RowKit
def m_cantonref17_Get (l2 : List Int) : Option (S_api_Letter × Int) :=
  (m_cantonref02_New l2).bind fun u5 => (m_cantonref02_Reader_Num u5 0 281474976710656).bind fun u10 => (m_cantonref02_Reader_Num u10.2.1 u10.2.2 281474976710656).bind fun u13 => (m_cantonref02_Reader_Num u13.2.1 u13.2.2 281474976710656).bind fun u16 => (m_cantonref02_Reader_Num u16.2.1 u16.2.2 281474976710656).bind fun u19 => (m_cantonref02_Reader_Num u19.2.1 u19.2.2 281474976710656).bind fun u22 => (m_cantonref02_Reader_Texts u22.2.1 u22.2.2).bind fun u25 => (m_cantonref02_Reader_Num u25.2.1 u25.2.2 281474976710656).bind fun u31 => (m_cantonref02_Reader_Text u31.2.1 u31.2.2).bind fun u34 => (m_cantonref02_Reader_End u34.2.1 u34.2.2).bind fun u37 => if (!u37) = true then (some ((⟨0, 0, 0, 0, 0, [], 0, (ByteArray.mk #[])⟩ : S_api_Letter), 3)) else (some ((⟨u10.1, u13.1, u16.1, u19.1, u22.1, u25.1, u31.1, u34.1⟩ : S_api_Letter), 0))
set_option maxRecDepth 20000 in
set_option maxHeartbeats 1000000 in
theorem c_cantonref17_Get {w : World} {Fo : List Ob} {rs : List Rp} (v1 : Value) (l2 : List Int) (H : Sep w (Fo) rs) (hr3 : rSl (kI .u8) v1 l2 ∈ rs) {r : S_api_Letter × Int} (hm : m_cantonref17_Get l2 = some r) :
    Calls Try.prog 16 [v1].toArray w (Ret fun v w' => ∃ (v5002 : Value), .tuple #[.agg #[.int .i64 r.1.Kind, .int .i64 r.1.View, .int .i64 r.1.Normal, .int .i64 r.1.Len, .int .i64 r.1.Stays, v5002, .int .i64 r.1.Num, .string r.1.Text], .int .i64 r.2] = v ∧ Sep w' (Fo) (rSl kS v5002 r.1.Log :: rs)) := by
 unfold m_cantonref17_Get at hm
 refine enter Try.func16 rfl Try.ntmps16 rfl fun a E => ?_
 simp only [enum, Nat.reduceAdd] at E
 refine wp_seq ?_
 refine wp_region_lit ?_
 refine st_alloc E H (wn rfl) rfl rfl (cs := [.int .i64 0, .int .i64 0, .int .i64 0, .int .i64 0, .int .i64 0, .slice none 0 0, .int .i64 0, .string (ByteArray.mk #[])]) rfl (z := .agg #[.int .i64 0, .int .i64 0, .int .i64 0, .int .i64 0, .int .i64 0, .slice none 0 0, .int .i64 0, .string ⟨#[]⟩]) (by kernel_rfl) rfl ?_
 clear E H; clear a; clear w; intro p4 w a H E
 refine st_val E (wn rfl) rfl rfl (x_assign E rfl rfl) ?_
 clear a E;intro a E
 refine wpList_nil ?_
 refine q_then ?_
 refine wp_seq ?_
 refine wp_region_lit ?_
 refine st_val E (wn rfl) rfl rfl (x_move E rfl rfl) ?_
 clear a E;intro a E
 obtain ⟨u5, hx6, hm⟩ := bnd hm
 refine st_call E (wn rfl) rfl rfl (x_call E rfl rfl (cf43 _)) (c_cantonref02_New v1 l2 H hr3 hx6) ?_
 clear E H; clear a; clear w; rintro _ w ⟨p7, v8, rfl, H⟩ a E
 refine st_val E (wn rfl) rfl rfl (x_assign E rfl rfl) ?_
 clear a E;intro a E
 refine wpList_nil ?_
 refine q_then ?_
 refine wp_seq ?_
 refine wp_region_lit ?_
 refine st_alloc E H (wn rfl) rfl rfl (cs := [.int .i64 0, .int .i64 0, .int .i64 0, .int .i64 0, .int .i64 0, .slice none 0 0, .int .i64 0, .string (ByteArray.mk #[])]) rfl (z := .agg #[.int .i64 0, .int .i64 0, .int .i64 0, .int .i64 0, .int .i64 0, .slice none 0 0, .int .i64 0, .string ⟨#[]⟩]) (by kernel_rfl) rfl ?_
 clear E H; clear a; clear w; intro p9 w a H E
 refine wpList_nil ?_
 refine q_then ?_
 refine wp_seq ?_
 refine wp_region_lit ?_
 refine st_val E (wn rfl) rfl rfl (x_move E rfl rfl) ?_
 clear a E;intro a E
 replace H := H.thaw (i := 2) rfl
 replace H := H.front 2 rfl
 replace H := H.front 1 rfl
 replace H := H.front 2 rfl
 replace H : Sep w (Blk p7 128 [v8, .int .i64 0] :: Blk p9 24 [.int .i64 0, .int .i64 0, .int .i64 0, .int .i64 0, .int .i64 0, .slice none 0 0, .int .i64 0, .string (ByteArray.mk #[])] :: Blk p4 24 [.int .i64 0, .int .i64 0, .int .i64 0, .int .i64 0, .int .i64 0, .slice none 0 0, .int .i64 0, .string (ByteArray.mk #[])] :: Fo) (rSl (kI .u8) v8 u5 :: rs) := H
 obtain ⟨u10, hx11, hm⟩ := bnd hm
 refine st_call E (wn rfl) rfl rfl (x_call E rfl rfl (cf44 _)) (c_cantonref02_Reader_Num p7 v8 u5 0 281474976710656 H (.head _) hx11) ?_
 clear E H; clear a; clear w; rintro _ w ⟨v12, rfl, H⟩ a E
 refine st_val E (wn rfl) rfl rfl (x_fa E rfl rfl (v := .pointer (some ⟨p9, 0, none⟩)) (fa24_0 _ _)) ?_
 clear a E;intro a E
 refine st_st (i := 1) E H (wn rfl) rfl (us := [.int .i64 u10.1]) rfl rfl rfl rfl rfl sz3 rfl rfl ?_
 clear H; clear w; intro w H
 replace H : Sep w (Blk p7 128 [v12, .int .i64 u10.2.2] :: Blk p9 24 [.int .i64 u10.1, .int .i64 0, .int .i64 0, .int .i64 0, .int .i64 0, .slice none 0 0, .int .i64 0, .string (ByteArray.mk #[])] :: Blk p4 24 [.int .i64 0, .int .i64 0, .int .i64 0, .int .i64 0, .int .i64 0, .slice none 0 0, .int .i64 0, .string (ByteArray.mk #[])] :: Fo) _ := H
 refine wpList_nil ?_
 refine q_then ?_
 refine wp_seq ?_
 refine wp_region_lit ?_
 refine st_val E (wn rfl) rfl rfl (x_move E rfl rfl) ?_
 clear a E;intro a E
 obtain ⟨u13, hx14, hm⟩ := bnd hm
 refine st_call E (wn rfl) rfl rfl (x_call E rfl rfl (cf44 _)) (c_cantonref02_Reader_Num p7 v12 u10.2.1 u10.2.2 281474976710656 H (.head _) hx14) ?_
 clear E H; clear a; clear w; rintro _ w ⟨v15, rfl, H⟩ a E
 refine st_val E (wn rfl) rfl rfl (x_fa E rfl rfl (v := .pointer (some ⟨p9, 1, none⟩)) (fa24_1 _ _)) ?_
 clear a E;intro a E
 refine st_st (i := 1) E H (wn rfl) rfl (us := [.int .i64 u13.1]) rfl rfl rfl rfl rfl sz2 rfl rfl ?_
 clear H; clear w; intro w H
 replace H : Sep w (Blk p7 128 [v15, .int .i64 u13.2.2] :: Blk p9 24 [.int .i64 u10.1, .int .i64 u13.1, .int .i64 0, .int .i64 0, .int .i64 0, .slice none 0 0, .int .i64 0, .string (ByteArray.mk #[])] :: Blk p4 24 [.int .i64 0, .int .i64 0, .int .i64 0, .int .i64 0, .int .i64 0, .slice none 0 0, .int .i64 0, .string (ByteArray.mk #[])] :: Fo) _ := H
 refine wpList_nil ?_
 refine q_then ?_
 refine wp_seq ?_
 refine wp_region_lit ?_
 refine st_val E (wn rfl) rfl rfl (x_move E rfl rfl) ?_
 clear a E;intro a E
 obtain ⟨u16, hx17, hm⟩ := bnd hm
 refine st_call E (wn rfl) rfl rfl (x_call E rfl rfl (cf44 _)) (c_cantonref02_Reader_Num p7 v15 u13.2.1 u13.2.2 281474976710656 H (.head _) hx17) ?_
 clear E H; clear a; clear w; rintro _ w ⟨v18, rfl, H⟩ a E
 refine st_val E (wn rfl) rfl rfl (x_fa E rfl rfl (v := .pointer (some ⟨p9, 2, none⟩)) (fa24_2 _ _)) ?_
 clear a E;intro a E
 refine st_st (i := 1) E H (wn rfl) rfl (us := [.int .i64 u16.1]) rfl rfl rfl rfl rfl sz2 rfl rfl ?_
 clear H; clear w; intro w H
 replace H : Sep w (Blk p7 128 [v18, .int .i64 u16.2.2] :: Blk p9 24 [.int .i64 u10.1, .int .i64 u13.1, .int .i64 u16.1, .int .i64 0, .int .i64 0, .slice none 0 0, .int .i64 0, .string (ByteArray.mk #[])] :: Blk p4 24 [.int .i64 0, .int .i64 0, .int .i64 0, .int .i64 0, .int .i64 0, .slice none 0 0, .int .i64 0, .string (ByteArray.mk #[])] :: Fo) _ := H
 refine wpList_nil ?_
 refine q_then ?_
 refine wp_seq ?_
 refine wp_region_lit ?_
 refine st_val E (wn rfl) rfl rfl (x_move E rfl rfl) ?_
 clear a E;intro a E
 obtain ⟨u19, hx20, hm⟩ := bnd hm
 refine st_call E (wn rfl) rfl rfl (x_call E rfl rfl (cf44 _)) (c_cantonref02_Reader_Num p7 v18 u16.2.1 u16.2.2 281474976710656 H (.head _) hx20) ?_
 clear E H; clear a; clear w; rintro _ w ⟨v21, rfl, H⟩ a E
 refine st_val E (wn rfl) rfl rfl (x_fa E rfl rfl (v := .pointer (some ⟨p9, 3, none⟩)) (fa24_3 _ _)) ?_
 clear a E;intro a E
 refine st_st (i := 1) E H (wn rfl) rfl (us := [.int .i64 u19.1]) rfl rfl rfl rfl rfl sz3 rfl rfl ?_
 clear H; clear w; intro w H
 replace H : Sep w (Blk p7 128 [v21, .int .i64 u19.2.2] :: Blk p9 24 [.int .i64 u10.1, .int .i64 u13.1, .int .i64 u16.1, .int .i64 u19.1, .int .i64 0, .slice none 0 0, .int .i64 0, .string (ByteArray.mk #[])] :: Blk p4 24 [.int .i64 0, .int .i64 0, .int .i64 0, .int .i64 0, .int .i64 0, .slice none 0 0, .int .i64 0, .string (ByteArray.mk #[])] :: Fo) _ := H
 refine wpList_nil ?_
 refine q_then ?_
 refine wp_seq ?_
 refine wp_region_lit ?_
 refine st_val E (wn rfl) rfl rfl (x_move E rfl rfl) ?_
 clear a E;intro a E
 obtain ⟨u22, hx23, hm⟩ := bnd hm
 refine st_call E (wn rfl) rfl rfl (x_call E rfl rfl (cf44 _)) (c_cantonref02_Reader_Num p7 v21 u19.2.1 u19.2.2 281474976710656 H (.head _) hx23) ?_
 clear E H; clear a; clear w; rintro _ w ⟨v24, rfl, H⟩ a E
 refine st_val E (wn rfl) rfl rfl (x_fa E rfl rfl (v := .pointer (some ⟨p9, 4, none⟩)) (fa24_4 _ _)) ?_
 clear a E;intro a E
 refine st_st (i := 1) E H (wn rfl) rfl (us := [.int .i64 u22.1]) rfl rfl rfl rfl rfl sz3 rfl rfl ?_
 clear H; clear w; intro w H
 replace H : Sep w (Blk p7 128 [v24, .int .i64 u22.2.2] :: Blk p9 24 [.int .i64 u10.1, .int .i64 u13.1, .int .i64 u16.1, .int .i64 u19.1, .int .i64 u22.1, .slice none 0 0, .int .i64 0, .string (ByteArray.mk #[])] :: Blk p4 24 [.int .i64 0, .int .i64 0, .int .i64 0, .int .i64 0, .int .i64 0, .slice none 0 0, .int .i64 0, .string (ByteArray.mk #[])] :: Fo) _ := H
 refine wpList_nil ?_
 refine q_then ?_
 refine wp_seq ?_
 refine wp_region_lit ?_
 refine st_val E (wn rfl) rfl rfl (x_move E rfl rfl) ?_
 clear a E;intro a E
 obtain ⟨u25, hx26, hm⟩ := bnd hm
 refine st_call E (wn rfl) rfl rfl (x_call E rfl rfl (cf45 _)) (c_cantonref02_Reader_Texts p7 v24 u22.2.1 u22.2.2 H (.head _) hx26) ?_
 clear E H; clear a; clear w; rintro _ w ⟨v27, v28, rfl, H⟩ a E
 refine st_val E (wn rfl) rfl rfl (x_fa E rfl rfl (v := .pointer (some ⟨p9, 5, none⟩)) (fa24_5 _ _)) ?_
 clear a E;intro a E
 obtain ⟨q29, x30, rfl⟩ := H.rowform (i := 0) rfl
 refine st_st (i := 2) E H (wn rfl) rfl (us := [(.slice q29 u25.1.length x30)]) rfl rfl rfl rfl rfl sz22 rfl rfl ?_
 clear H; clear w; intro w H
 replace H : Sep w (Row 9 kS (.slice q29 u25.1.length x30) u25.1 :: Blk p7 128 [v28, .int .i64 u25.2.2] :: Blk p9 24 [.int .i64 u10.1, .int .i64 u13.1, .int .i64 u16.1, .int .i64 u19.1, .int .i64 u22.1, (.slice q29 u25.1.length x30), .int .i64 0, .string (ByteArray.mk #[])] :: Blk p4 24 [.int .i64 0, .int .i64 0, .int .i64 0, .int .i64 0, .int .i64 0, .slice none 0 0, .int .i64 0, .string (ByteArray.mk #[])] :: Fo) _ := H
 refine wpList_nil ?_
 refine q_then ?_
 refine wp_seq ?_
 refine wp_region_lit ?_
 refine st_val E (wn rfl) rfl rfl (x_move E rfl rfl) ?_
 clear a E;intro a E
 replace H := H.front 3 rfl
 replace H := H.front 3 rfl
 replace H := H.front 2 rfl
 replace H := H.front 3 rfl
 replace H : Sep w (Blk p7 128 [v28, .int .i64 u25.2.2] :: Row 9 kS (.slice q29 u25.1.length x30) u25.1 :: Blk p9 24 [.int .i64 u10.1, .int .i64 u13.1, .int .i64 u16.1, .int .i64 u19.1, .int .i64 u22.1, (.slice q29 u25.1.length x30), .int .i64 0, .string (ByteArray.mk #[])] :: Blk p4 24 [.int .i64 0, .int .i64 0, .int .i64 0, .int .i64 0, .int .i64 0, .slice none 0 0, .int .i64 0, .string (ByteArray.mk #[])] :: Fo) (rSl (kI .u8) v28 u25.2.1 :: rSl (kI .u8) v24 u22.2.1 :: rSl (kI .u8) v21 u19.2.1 :: rSl (kI .u8) v18 u16.2.1 :: rSl (kI .u8) v15 u13.2.1 :: rSl (kI .u8) v12 u10.2.1 :: rSl (kI .u8) v8 u5 :: rs) := H
 obtain ⟨u31, hx32, hm⟩ := bnd hm
 refine st_call E (wn rfl) rfl rfl (x_call E rfl rfl (cf44 _)) (c_cantonref02_Reader_Num p7 v28 u25.2.1 u25.2.2 281474976710656 H (.head _) hx32) ?_
 clear E H; clear a; clear w; rintro _ w ⟨v33, rfl, H⟩ a E
 refine st_val E (wn rfl) rfl rfl (x_fa E rfl rfl (v := .pointer (some ⟨p9, 6, none⟩)) (fa24_6 _ _)) ?_
 clear a E;intro a E
 refine st_st (i := 2) E H (wn rfl) rfl (us := [.int .i64 u31.1]) rfl rfl rfl rfl rfl sz2 rfl rfl ?_
 clear H; clear w; intro w H
 replace H : Sep w (Blk p7 128 [v33, .int .i64 u31.2.2] :: Row 9 kS (.slice q29 u25.1.length x30) u25.1 :: Blk p9 24 [.int .i64 u10.1, .int .i64 u13.1, .int .i64 u16.1, .int .i64 u19.1, .int .i64 u22.1, (.slice q29 u25.1.length x30), .int .i64 u31.1, .string (ByteArray.mk #[])] :: Blk p4 24 [.int .i64 0, .int .i64 0, .int .i64 0, .int .i64 0, .int .i64 0, .slice none 0 0, .int .i64 0, .string (ByteArray.mk #[])] :: Fo) _ := H
 refine wpList_nil ?_
 refine q_then ?_
 refine wp_seq ?_
 refine wp_region_lit ?_
 refine st_val E (wn rfl) rfl rfl (x_move E rfl rfl) ?_
 clear a E;intro a E
 obtain ⟨u34, hx35, hm⟩ := bnd hm
 refine st_call E (wn rfl) rfl rfl (x_call E rfl rfl (cf46 _)) (c_cantonref02_Reader_Text p7 v33 u31.2.1 u31.2.2 H (.head _) hx35) ?_
 clear E H; clear a; clear w; rintro _ w ⟨v36, rfl, H⟩ a E
 refine st_val E (wn rfl) rfl rfl (x_fa E rfl rfl (v := .pointer (some ⟨p9, 7, none⟩)) (fa24_7 _ _)) ?_
 clear a E;intro a E
 refine st_st (i := 2) E H (wn rfl) rfl (us := [.string u34.1]) rfl rfl rfl rfl rfl sz9 rfl rfl ?_
 clear H; clear w; intro w H
 replace H : Sep w (Blk p7 128 [v36, .int .i64 u34.2.2] :: Row 9 kS (.slice q29 u25.1.length x30) u25.1 :: Blk p9 24 [.int .i64 u10.1, .int .i64 u13.1, .int .i64 u16.1, .int .i64 u19.1, .int .i64 u22.1, (.slice q29 u25.1.length x30), .int .i64 u31.1, .string u34.1] :: Blk p4 24 [.int .i64 0, .int .i64 0, .int .i64 0, .int .i64 0, .int .i64 0, .slice none 0 0, .int .i64 0, .string (ByteArray.mk #[])] :: Fo) _ := H
 refine wpList_nil ?_
 refine q_then ?_
 refine wp_seq ?_
 refine wp_seq ?_
 refine wp_region_lit ?_
 refine st_val E (wn rfl) rfl rfl (x_move E rfl rfl) ?_
 clear a E;intro a E
 obtain ⟨u37, hx38, hm⟩ := bnd hm
 refine st_call E (wn rfl) rfl rfl (x_call E rfl rfl (cf47 _)) (c_cantonref02_Reader_End p7 v36 u34.2.1 u34.2.2 H (.head _) hx38) ?_
 clear E H; clear a; clear w; rintro _ w ⟨rfl, H⟩ a E
 refine st_val E (wn rfl) rfl rfl (x_not E rfl rfl) ?_
 clear a E;intro a E
 refine wpList_nil ?_
 refine q_then ?_
 refine wp_if E rfl ?_ ?_
 ·intro hb
  rw [if_t hb] at hm
  clear hb
  refine wp_seq ?_
  refine wp_region_lit ?_
  refine st_val E (wn rfl) rfl rfl (x_build E (ps := []) (vs := []) rfl rfl (v := .agg #[.int .i64 0, .int .i64 0, .int .i64 0, .int .i64 0, .int .i64 0, .slice none 0 0, .int .i64 0, .string (ByteArray.mk #[])]) (by kernel_rfl)) ?_
  clear a E;intro a E
  refine st_st (i := 3) E H (wn rfl) rfl (us := [.int .i64 0, .int .i64 0, .int .i64 0, .int .i64 0, .int .i64 0, .slice none 0 0, .int .i64 0, .string (ByteArray.mk #[])]) rfl rfl rfl rfl rfl sz24 rfl rfl ?_
  clear H; clear w; intro w H
  replace H : Sep w (Blk p7 128 [v36, .int .i64 u34.2.2] :: Row 9 kS (.slice q29 u25.1.length x30) u25.1 :: Blk p9 24 [.int .i64 u10.1, .int .i64 u13.1, .int .i64 u16.1, .int .i64 u19.1, .int .i64 u22.1, (.slice q29 u25.1.length x30), .int .i64 u31.1, .string u34.1] :: Blk p4 24 [.int .i64 0, .int .i64 0, .int .i64 0, .int .i64 0, .int .i64 0, .slice none 0 0, .int .i64 0, .string (ByteArray.mk #[])] :: Fo) _ := H
  refine st_val E (wn rfl) rfl rfl (x_assign E rfl rfl) ?_
  clear a E;intro a E
  refine wpList_nil ?_
  refine q_then ?_
  refine wp_ret ?_
  refine q_thenR ?_
  refine outR2 E rfl (rvBN (i := 3) (us := [.int .i64 0, .int .i64 0, .int .i64 0, .int .i64 0, .int .i64 0, .slice none 0 0, .int .i64 0, .string (ByteArray.mk #[])]) H rfl rfl rfl Try.underlying24 rfl sz24) (rvT rfl) ?_
  replace H := H.nilSl kS
  replace H := H.drop 0
  replace H := H.drop 0
  replace H := H.drop 0
  replace H := H.drop 0
  obtain rfl := Option.some.inj hm
  exact ⟨(.slice none 0 0), rfl, H.reads (sub_cons (.head _) (fun r hr => .tail _ (.tail _ (.tail _ (.tail _ (.tail _ (.tail _ (.tail _ (.tail _ (.tail _ (.tail _ (hr))))))))))))⟩
 ·intro hb
  rw [if_f hb] at hm
  clear hb
  refine wp_skip ?_
  refine q_then ?_
  refine wp_seq ?_
  refine wp_region_lit ?_
  refine st_val E (wn rfl) rfl rfl (x_ldBN (i := 2) (us := [.int .i64 u10.1, .int .i64 u13.1, .int .i64 u16.1, .int .i64 u19.1, .int .i64 u22.1, (.slice q29 u25.1.length x30), .int .i64 u31.1, .string u34.1]) E H rfl rfl rfl rfl Try.underlying24 rfl sz24) ?_
  clear a E;intro a E
  refine st_st (i := 3) E H (wn rfl) rfl (us := [.int .i64 u10.1, .int .i64 u13.1, .int .i64 u16.1, .int .i64 u19.1, .int .i64 u22.1, (.slice q29 u25.1.length x30), .int .i64 u31.1, .string u34.1]) rfl rfl rfl rfl rfl sz24 rfl rfl ?_
  clear H; clear w; intro w H
  replace H : Sep w (Blk p7 128 [v36, .int .i64 u34.2.2] :: Row 9 kS (.slice q29 u25.1.length x30) u25.1 :: Blk p9 24 [.int .i64 u10.1, .int .i64 u13.1, .int .i64 u16.1, .int .i64 u19.1, .int .i64 u22.1, (.slice q29 u25.1.length x30), .int .i64 u31.1, .string u34.1] :: Blk p4 24 [.int .i64 u10.1, .int .i64 u13.1, .int .i64 u16.1, .int .i64 u19.1, .int .i64 u22.1, (.slice q29 u25.1.length x30), .int .i64 u31.1, .string u34.1] :: Fo) _ := H
  refine st_val E (wn rfl) rfl rfl (x_assign E rfl rfl) ?_
  clear a E;intro a E
  refine wpList_nil ?_
  refine q_then ?_
  refine wp_ret ?_
  refine outR2 E rfl (rvBN (i := 3) (us := [.int .i64 u10.1, .int .i64 u13.1, .int .i64 u16.1, .int .i64 u19.1, .int .i64 u22.1, (.slice q29 u25.1.length x30), .int .i64 u31.1, .string u34.1]) H rfl rfl rfl Try.underlying24 rfl sz24) (rvT rfl) ?_
  replace H := H.thaw (i := 1) rfl
  replace H := H.drop 0
  replace H := H.drop 0
  replace H := H.drop 0
  obtain rfl := Option.some.inj hm
  exact ⟨(.slice q29 u25.1.length x30), rfl, H.reads (sub_cons (.head _) (fun r hr => .tail _ (.tail _ (.tail _ (.tail _ (.tail _ (.tail _ (.tail _ (.tail _ (.tail _ (.tail _ (hr))))))))))))⟩
end Go.Cb

set_option linter.unusedVariables false
set_option linter.unusedSimpArgs false
namespace Go.Cb
open Go.Proofs Go.RowKit
def m_cantonref17_GetSaved (l2 : List Int) : Option (S_api_Saved × Int) :=
  (m_cantonref02_New l2).bind fun u5 => (m_cantonref02_Reader_Num u5 0 281474976710656).bind fun u10 => (m_cantonref02_Reader_Num u10.2.1 u10.2.2 281474976710656).bind fun u13 => (m_cantonref02_Reader_Texts u13.2.1 u13.2.2).bind fun u16 => (m_cantonref02_Reader_End u16.2.1 u16.2.2).bind fun u22 => if (!u22) = true then (some ((⟨0, 0, []⟩ : S_api_Saved), 3)) else (some ((⟨u10.1, u13.1, u16.1⟩ : S_api_Saved), 0))
set_option maxRecDepth 20000 in
set_option maxHeartbeats 1000000 in
theorem c_cantonref17_GetSaved {w : World} {Fo : List Ob} {rs : List Rp} (v1 : Value) (l2 : List Int) (H : Sep w (Fo) rs) (hr3 : rSl (kI .u8) v1 l2 ∈ rs) {r : S_api_Saved × Int} (hm : m_cantonref17_GetSaved l2 = some r) :
    Calls Try.prog 18 [v1].toArray w (Ret fun v w' => ∃ (v5002 : Value), .tuple #[.agg #[.int .i64 r.1.View, .int .i64 r.1.Normal, v5002], .int .i64 r.2] = v ∧ Sep w' (Fo) (rSl kS v5002 r.1.Log :: rs)) := by
 unfold m_cantonref17_GetSaved at hm
 refine enter Try.func18 rfl Try.ntmps18 rfl fun a E => ?_
 simp only [enum, Nat.reduceAdd] at E
 refine wp_seq ?_
 refine wp_region_lit ?_
 refine st_alloc E H (wn rfl) rfl rfl (cs := [.int .i64 0, .int .i64 0, .slice none 0 0]) rfl (z := .agg #[.int .i64 0, .int .i64 0, .slice none 0 0]) (by kernel_rfl) rfl ?_
 clear E H; clear a; clear w; intro p4 w a H E
 refine st_val E (wn rfl) rfl rfl (x_assign E rfl rfl) ?_
 clear a E;intro a E
 refine wpList_nil ?_
 refine q_then ?_
 refine wp_seq ?_
 refine wp_region_lit ?_
 refine st_val E (wn rfl) rfl rfl (x_move E rfl rfl) ?_
 clear a E;intro a E
 obtain ⟨u5, hx6, hm⟩ := bnd hm
 refine st_call E (wn rfl) rfl rfl (x_call E rfl rfl (cf43 _)) (c_cantonref02_New v1 l2 H hr3 hx6) ?_
 clear E H; clear a; clear w; rintro _ w ⟨p7, v8, rfl, H⟩ a E
 refine st_val E (wn rfl) rfl rfl (x_assign E rfl rfl) ?_
 clear a E;intro a E
 refine wpList_nil ?_
 refine q_then ?_
 refine wp_seq ?_
 refine wp_region_lit ?_
 refine st_alloc E H (wn rfl) rfl rfl (cs := [.int .i64 0, .int .i64 0, .slice none 0 0]) rfl (z := .agg #[.int .i64 0, .int .i64 0, .slice none 0 0]) (by kernel_rfl) rfl ?_
 clear E H; clear a; clear w; intro p9 w a H E
 refine wpList_nil ?_
 refine q_then ?_
 refine wp_seq ?_
 refine wp_region_lit ?_
 refine st_val E (wn rfl) rfl rfl (x_move E rfl rfl) ?_
 clear a E;intro a E
 replace H := H.thaw (i := 2) rfl
 replace H := H.front 2 rfl
 replace H := H.front 1 rfl
 replace H := H.front 2 rfl
 replace H : Sep w (Blk p7 128 [v8, .int .i64 0] :: Blk p9 26 [.int .i64 0, .int .i64 0, .slice none 0 0] :: Blk p4 26 [.int .i64 0, .int .i64 0, .slice none 0 0] :: Fo) (rSl (kI .u8) v8 u5 :: rs) := H
 obtain ⟨u10, hx11, hm⟩ := bnd hm
 refine st_call E (wn rfl) rfl rfl (x_call E rfl rfl (cf44 _)) (c_cantonref02_Reader_Num p7 v8 u5 0 281474976710656 H (.head _) hx11) ?_
 clear E H; clear a; clear w; rintro _ w ⟨v12, rfl, H⟩ a E
 refine st_val E (wn rfl) rfl rfl (x_fa E rfl rfl (v := .pointer (some ⟨p9, 0, none⟩)) (fa26_0 _ _)) ?_
 clear a E;intro a E
 refine st_st (i := 1) E H (wn rfl) rfl (us := [.int .i64 u10.1]) rfl rfl rfl rfl rfl sz2 rfl rfl ?_
 clear H; clear w; intro w H
 replace H : Sep w (Blk p7 128 [v12, .int .i64 u10.2.2] :: Blk p9 26 [.int .i64 u10.1, .int .i64 0, .slice none 0 0] :: Blk p4 26 [.int .i64 0, .int .i64 0, .slice none 0 0] :: Fo) _ := H
 refine wpList_nil ?_
 refine q_then ?_
 refine wp_seq ?_
 refine wp_region_lit ?_
 refine st_val E (wn rfl) rfl rfl (x_move E rfl rfl) ?_
 clear a E;intro a E
 obtain ⟨u13, hx14, hm⟩ := bnd hm
 refine st_call E (wn rfl) rfl rfl (x_call E rfl rfl (cf44 _)) (c_cantonref02_Reader_Num p7 v12 u10.2.1 u10.2.2 281474976710656 H (.head _) hx14) ?_
 clear E H; clear a; clear w; rintro _ w ⟨v15, rfl, H⟩ a E
 refine st_val E (wn rfl) rfl rfl (x_fa E rfl rfl (v := .pointer (some ⟨p9, 1, none⟩)) (fa26_1 _ _)) ?_
 clear a E;intro a E
 refine st_st (i := 1) E H (wn rfl) rfl (us := [.int .i64 u13.1]) rfl rfl rfl rfl rfl sz2 rfl rfl ?_
 clear H; clear w; intro w H
 replace H : Sep w (Blk p7 128 [v15, .int .i64 u13.2.2] :: Blk p9 26 [.int .i64 u10.1, .int .i64 u13.1, .slice none 0 0] :: Blk p4 26 [.int .i64 0, .int .i64 0, .slice none 0 0] :: Fo) _ := H
 refine wpList_nil ?_
 refine q_then ?_
 refine wp_seq ?_
 refine wp_region_lit ?_
 refine st_val E (wn rfl) rfl rfl (x_move E rfl rfl) ?_
 clear a E;intro a E
 obtain ⟨u16, hx17, hm⟩ := bnd hm
 refine st_call E (wn rfl) rfl rfl (x_call E rfl rfl (cf45 _)) (c_cantonref02_Reader_Texts p7 v15 u13.2.1 u13.2.2 H (.head _) hx17) ?_
 clear E H; clear a; clear w; rintro _ w ⟨v18, v19, rfl, H⟩ a E
 refine st_val E (wn rfl) rfl rfl (x_fa E rfl rfl (v := .pointer (some ⟨p9, 2, none⟩)) (fa26_2 _ _)) ?_
 clear a E;intro a E
 obtain ⟨q20, x21, rfl⟩ := H.rowform (i := 0) rfl
 refine st_st (i := 2) E H (wn rfl) rfl (us := [(.slice q20 u16.1.length x21)]) rfl rfl rfl rfl rfl sz22 rfl rfl ?_
 clear H; clear w; intro w H
 replace H : Sep w (Row 9 kS (.slice q20 u16.1.length x21) u16.1 :: Blk p7 128 [v19, .int .i64 u16.2.2] :: Blk p9 26 [.int .i64 u10.1, .int .i64 u13.1, (.slice q20 u16.1.length x21)] :: Blk p4 26 [.int .i64 0, .int .i64 0, .slice none 0 0] :: Fo) _ := H
 refine wpList_nil ?_
 refine q_then ?_
 refine wp_seq ?_
 refine wp_seq ?_
 refine wp_region_lit ?_
 refine st_val E (wn rfl) rfl rfl (x_move E rfl rfl) ?_
 clear a E;intro a E
 replace H := H.front 3 rfl
 replace H := H.front 3 rfl
 replace H := H.front 2 rfl
 replace H := H.front 3 rfl
 replace H : Sep w (Blk p7 128 [v19, .int .i64 u16.2.2] :: Row 9 kS (.slice q20 u16.1.length x21) u16.1 :: Blk p9 26 [.int .i64 u10.1, .int .i64 u13.1, (.slice q20 u16.1.length x21)] :: Blk p4 26 [.int .i64 0, .int .i64 0, .slice none 0 0] :: Fo) (rSl (kI .u8) v19 u16.2.1 :: rSl (kI .u8) v15 u13.2.1 :: rSl (kI .u8) v12 u10.2.1 :: rSl (kI .u8) v8 u5 :: rs) := H
 obtain ⟨u22, hx23, hm⟩ := bnd hm
 refine st_call E (wn rfl) rfl rfl (x_call E rfl rfl (cf47 _)) (c_cantonref02_Reader_End p7 v19 u16.2.1 u16.2.2 H (.head _) hx23) ?_
 clear E H; clear a; clear w; rintro _ w ⟨rfl, H⟩ a E
 refine st_val E (wn rfl) rfl rfl (x_not E rfl rfl) ?_
 clear a E;intro a E
 refine wpList_nil ?_
 refine q_then ?_
 refine wp_if E rfl ?_ ?_
 ·intro hb
  rw [if_t hb] at hm
  clear hb
  refine wp_seq ?_
  refine wp_region_lit ?_
  refine st_val E (wn rfl) rfl rfl (x_build E (ps := []) (vs := []) rfl rfl (v := .agg #[.int .i64 0, .int .i64 0, .slice none 0 0]) (by kernel_rfl)) ?_
  clear a E;intro a E
  refine st_st (i := 3) E H (wn rfl) rfl (us := [.int .i64 0, .int .i64 0, .slice none 0 0]) rfl rfl rfl rfl rfl sz26 rfl rfl ?_
  clear H; clear w; intro w H
  replace H : Sep w (Blk p7 128 [v19, .int .i64 u16.2.2] :: Row 9 kS (.slice q20 u16.1.length x21) u16.1 :: Blk p9 26 [.int .i64 u10.1, .int .i64 u13.1, (.slice q20 u16.1.length x21)] :: Blk p4 26 [.int .i64 0, .int .i64 0, .slice none 0 0] :: Fo) _ := H
  refine st_val E (wn rfl) rfl rfl (x_assign E rfl rfl) ?_
  clear a E;intro a E
  refine wpList_nil ?_
  refine q_then ?_
  refine wp_ret ?_
  refine q_thenR ?_
  refine outR2 E rfl (rvBN (i := 3) (us := [.int .i64 0, .int .i64 0, .slice none 0 0]) H rfl rfl rfl Try.underlying26 rfl sz26) (rvT rfl) ?_
  replace H := H.nilSl kS
  replace H := H.drop 0
  replace H := H.drop 0
  replace H := H.drop 0
  replace H := H.drop 0
  obtain rfl := Option.some.inj hm
  exact ⟨(.slice none 0 0), rfl, H.reads (sub_cons (.head _) (fun r hr => .tail _ (.tail _ (.tail _ (.tail _ (.tail _ (hr)))))))⟩
 ·intro hb
  rw [if_f hb] at hm
  clear hb
  refine wp_skip ?_
  refine q_then ?_
  refine wp_seq ?_
  refine wp_region_lit ?_
  refine st_val E (wn rfl) rfl rfl (x_ldBN (i := 2) (us := [.int .i64 u10.1, .int .i64 u13.1, (.slice q20 u16.1.length x21)]) E H rfl rfl rfl rfl Try.underlying26 rfl sz26) ?_
  clear a E;intro a E
  refine st_st (i := 3) E H (wn rfl) rfl (us := [.int .i64 u10.1, .int .i64 u13.1, (.slice q20 u16.1.length x21)]) rfl rfl rfl rfl rfl sz26 rfl rfl ?_
  clear H; clear w; intro w H
  replace H : Sep w (Blk p7 128 [v19, .int .i64 u16.2.2] :: Row 9 kS (.slice q20 u16.1.length x21) u16.1 :: Blk p9 26 [.int .i64 u10.1, .int .i64 u13.1, (.slice q20 u16.1.length x21)] :: Blk p4 26 [.int .i64 u10.1, .int .i64 u13.1, (.slice q20 u16.1.length x21)] :: Fo) _ := H
  refine st_val E (wn rfl) rfl rfl (x_assign E rfl rfl) ?_
  clear a E;intro a E
  refine wpList_nil ?_
  refine q_then ?_
  refine wp_ret ?_
  refine outR2 E rfl (rvBN (i := 3) (us := [.int .i64 u10.1, .int .i64 u13.1, (.slice q20 u16.1.length x21)]) H rfl rfl rfl Try.underlying26 rfl sz26) (rvT rfl) ?_
  replace H := H.thaw (i := 1) rfl
  replace H := H.drop 0
  replace H := H.drop 0
  replace H := H.drop 0
  obtain rfl := Option.some.inj hm
  exact ⟨(.slice q20 u16.1.length x21), rfl, H.reads (sub_cons (.head _) (fun r hr => .tail _ (.tail _ (.tail _ (.tail _ (.tail _ (hr)))))))⟩
end Go.Cb

set_option linter.unusedVariables false
set_option linter.unusedSimpArgs false
namespace Go.Cb
open Go.Proofs Go.RowKit
def m_cantonref17_Same (x1 : S_api_Letter) (x3 : S_api_Letter) : Option Bool :=
  if (x1.Kind == x3.Kind) = true then (if (x1.View == x3.View) = true then (if (x1.Normal == x3.Normal) = true then (if (x1.Len == x3.Len) = true then (if (x1.Stays == x3.Stays) = true then ((m_cantonref01_Same x1.Log x3.Log).bind fun u18 => if u18 = true then (if (x1.Num == x3.Num) = true then (some (sEq x1.Text x3.Text)) else (some (false))) else (some (false))) else (some (false))) else (some (false))) else (some (false))) else (some (false))) else (some (false))
set_option maxRecDepth 20000 in
set_option maxHeartbeats 1000000 in
theorem c_cantonref17_Same {w : World} {Fo : List Ob} {rs : List Rp} (x1 : S_api_Letter) (v2 : Value) (x3 : S_api_Letter) (v4 : Value) (H : Sep w (Fo) rs) (hr5 : rSl kS v2 x1.Log ∈ rs) (hr6 : rSl kS v4 x3.Log ∈ rs) {r : Bool} (hm : m_cantonref17_Same x1 x3 = some r) :
    Calls Try.prog 19 [.agg #[.int .i64 x1.Kind, .int .i64 x1.View, .int .i64 x1.Normal, .int .i64 x1.Len, .int .i64 x1.Stays, v2, .int .i64 x1.Num, .string x1.Text], .agg #[.int .i64 x3.Kind, .int .i64 x3.View, .int .i64 x3.Normal, .int .i64 x3.Len, .int .i64 x3.Stays, v4, .int .i64 x3.Num, .string x3.Text]].toArray w (Ret fun v w' => .bool r = v ∧ Sep w' (Fo) (rs)) := by
 unfold m_cantonref17_Same at hm
 refine enter Try.func19 rfl Try.ntmps19 rfl fun a E => ?_
 simp only [enum, Nat.reduceAdd] at E
 refine wp_seq ?_
 refine wp_region_lit ?_
 obtain ⟨q8, x9, rfl⟩ := H.slform hr5
 refine st_box E H (wn rfl) rfl rfl (cs := [.int .i64 x1.Kind, .int .i64 x1.View, .int .i64 x1.Normal, .int .i64 x1.Len, .int .i64 x1.Stays, (.slice q8 x1.Log.length x9), .int .i64 x1.Num, .string x1.Text]) rfl rfl rfl ?_
 clear E H; clear a; clear w; intro p7 w a H E
 obtain ⟨q11, x12, rfl⟩ := H.slform hr6
 refine st_box E H (wn rfl) rfl rfl (cs := [.int .i64 x3.Kind, .int .i64 x3.View, .int .i64 x3.Normal, .int .i64 x3.Len, .int .i64 x3.Stays, (.slice q11 x3.Log.length x12), .int .i64 x3.Num, .string x3.Text]) rfl rfl rfl ?_
 clear E H; clear a; clear w; intro p10 w a H E
 refine st_val E (wn rfl) rfl rfl (x_assign E rfl rfl) ?_
 clear a E;intro a E
 refine wpList_nil ?_
 refine q_then ?_
 refine wp_seq ?_
 refine wp_region_lit ?_
 refine st_val E (wn rfl) rfl rfl (x_fa E rfl rfl (v := .pointer (some ⟨p7, 0, none⟩)) (fa24_0 _ _)) ?_
 clear a E;intro a E
 refine st_val E (wn rfl) rfl rfl (x_ldB (i := 1) E H rfl rfl rfl rfl Try.underlying3 rfl) ?_
 clear a E;intro a E
 refine st_val E (wn rfl) rfl rfl (x_fa E rfl rfl (v := .pointer (some ⟨p10, 0, none⟩)) (fa24_0 _ _)) ?_
 clear a E;intro a E
 refine st_val E (wn rfl) rfl rfl (x_ldB (i := 0) E H rfl rfl rfl rfl Try.underlying3 rfl) ?_
 clear a E;intro a E
 refine st_val E (wn rfl) rfl rfl (x_bin E rfl rfl rfl rfl) ?_
 clear a E;intro a E
 refine st_val E (wn rfl) rfl rfl (x_move E rfl rfl) ?_
 clear a E;intro a E
 rcases Bool.eq_false_or_eq_true (x1.Kind == x3.Kind) with hb13 | hb13
 ·rw [if_t hb13] at hm
  refine st_val E (ws' E rfl rfl rfl rfl hb13) rfl rfl (x_fa E rfl rfl (v := .pointer (some ⟨p7, 1, none⟩)) (fa24_1 _ _)) ?_
  clear a E;intro a E
  refine st_val E (ws' E rfl rfl rfl rfl hb13) rfl rfl (x_ldB (i := 1) E H rfl rfl rfl rfl Try.underlying2 rfl) ?_
  clear a E;intro a E
  refine st_val E (ws' E rfl rfl rfl rfl hb13) rfl rfl (x_fa E rfl rfl (v := .pointer (some ⟨p10, 1, none⟩)) (fa24_1 _ _)) ?_
  clear a E;intro a E
  refine st_val E (ws' E rfl rfl rfl rfl hb13) rfl rfl (x_ldB (i := 0) E H rfl rfl rfl rfl Try.underlying2 rfl) ?_
  clear a E;intro a E
  refine st_val E (ws' E rfl rfl rfl rfl hb13) rfl rfl (x_bin E rfl rfl rfl rfl) ?_
  clear a E;intro a E
  refine st_val E (wn rfl) rfl rfl (x_pickT E rfl rfl hb13 rfl) ?_
  clear a E;intro a E
  refine st_val E (wn rfl) rfl rfl (x_move E rfl rfl) ?_
  clear a E;intro a E
  rcases Bool.eq_false_or_eq_true (x1.View == x3.View) with hb14 | hb14
  ·rw [if_t hb14] at hm
   refine st_val E (ws' E rfl rfl rfl rfl hb14) rfl rfl (x_fa E rfl rfl (v := .pointer (some ⟨p7, 2, none⟩)) (fa24_2 _ _)) ?_
   clear a E;intro a E
   refine st_val E (ws' E rfl rfl rfl rfl hb14) rfl rfl (x_ldB (i := 1) E H rfl rfl rfl rfl Try.underlying2 rfl) ?_
   clear a E;intro a E
   refine st_val E (ws' E rfl rfl rfl rfl hb14) rfl rfl (x_fa E rfl rfl (v := .pointer (some ⟨p10, 2, none⟩)) (fa24_2 _ _)) ?_
   clear a E;intro a E
   refine st_val E (ws' E rfl rfl rfl rfl hb14) rfl rfl (x_ldB (i := 0) E H rfl rfl rfl rfl Try.underlying2 rfl) ?_
   clear a E;intro a E
   refine st_val E (ws' E rfl rfl rfl rfl hb14) rfl rfl (x_bin E rfl rfl rfl rfl) ?_
   clear a E;intro a E
   refine st_val E (wn rfl) rfl rfl (x_pickT E rfl rfl hb14 rfl) ?_
   clear a E;intro a E
   refine st_val E (wn rfl) rfl rfl (x_move E rfl rfl) ?_
   clear a E;intro a E
   rcases Bool.eq_false_or_eq_true (x1.Normal == x3.Normal) with hb15 | hb15
   ·rw [if_t hb15] at hm
    refine st_val E (ws' E rfl rfl rfl rfl hb15) rfl rfl (x_fa E rfl rfl (v := .pointer (some ⟨p7, 3, none⟩)) (fa24_3 _ _)) ?_
    clear a E;intro a E
    refine st_val E (ws' E rfl rfl rfl rfl hb15) rfl rfl (x_ldB (i := 1) E H rfl rfl rfl rfl Try.underlying3 rfl) ?_
    clear a E;intro a E
    refine st_val E (ws' E rfl rfl rfl rfl hb15) rfl rfl (x_fa E rfl rfl (v := .pointer (some ⟨p10, 3, none⟩)) (fa24_3 _ _)) ?_
    clear a E;intro a E
    refine st_val E (ws' E rfl rfl rfl rfl hb15) rfl rfl (x_ldB (i := 0) E H rfl rfl rfl rfl Try.underlying3 rfl) ?_
    clear a E;intro a E
    refine st_val E (ws' E rfl rfl rfl rfl hb15) rfl rfl (x_bin E rfl rfl rfl rfl) ?_
    clear a E;intro a E
    refine st_val E (wn rfl) rfl rfl (x_pickT E rfl rfl hb15 rfl) ?_
    clear a E;intro a E
    refine st_val E (wn rfl) rfl rfl (x_move E rfl rfl) ?_
    clear a E;intro a E
    rcases Bool.eq_false_or_eq_true (x1.Len == x3.Len) with hb16 | hb16
    ·rw [if_t hb16] at hm
     refine st_val E (ws' E rfl rfl rfl rfl hb16) rfl rfl (x_fa E rfl rfl (v := .pointer (some ⟨p7, 4, none⟩)) (fa24_4 _ _)) ?_
     clear a E;intro a E
     refine st_val E (ws' E rfl rfl rfl rfl hb16) rfl rfl (x_ldB (i := 1) E H rfl rfl rfl rfl Try.underlying3 rfl) ?_
     clear a E;intro a E
     refine st_val E (ws' E rfl rfl rfl rfl hb16) rfl rfl (x_fa E rfl rfl (v := .pointer (some ⟨p10, 4, none⟩)) (fa24_4 _ _)) ?_
     clear a E;intro a E
     refine st_val E (ws' E rfl rfl rfl rfl hb16) rfl rfl (x_ldB (i := 0) E H rfl rfl rfl rfl Try.underlying3 rfl) ?_
     clear a E;intro a E
     refine st_val E (ws' E rfl rfl rfl rfl hb16) rfl rfl (x_bin E rfl rfl rfl rfl) ?_
     clear a E;intro a E
     refine st_val E (wn rfl) rfl rfl (x_pickT E rfl rfl hb16 rfl) ?_
     clear a E;intro a E
     refine st_val E (wn rfl) rfl rfl (x_move E rfl rfl) ?_
     clear a E;intro a E
     rcases Bool.eq_false_or_eq_true (x1.Stays == x3.Stays) with hb17 | hb17
     ·rw [if_t hb17] at hm
      refine st_val E (ws' E rfl rfl rfl rfl hb17) rfl rfl (x_fa E rfl rfl (v := .pointer (some ⟨p7, 5, none⟩)) (fa24_5 _ _)) ?_
      clear a E;intro a E
      refine st_val E (ws' E rfl rfl rfl rfl hb17) rfl rfl (x_ldB (i := 1) E H rfl rfl rfl rfl Try.underlying22 rfl) ?_
      clear a E;intro a E
      refine st_val E (ws' E rfl rfl rfl rfl hb17) rfl rfl (x_fa E rfl rfl (v := .pointer (some ⟨p10, 5, none⟩)) (fa24_5 _ _)) ?_
      clear a E;intro a E
      refine st_val E (ws' E rfl rfl rfl rfl hb17) rfl rfl (x_ldB (i := 0) E H rfl rfl rfl rfl Try.underlying22 rfl) ?_
      clear a E;intro a E
      obtain ⟨u18, hx19, hm⟩ := bnd hm
      refine st_call E (ws' E rfl rfl rfl rfl hb17) rfl rfl (x_call E rfl rfl (cf49 _)) (c_cantonref01_Same (.slice q8 x1.Log.length x9) x1.Log (.slice q11 x3.Log.length x12) x3.Log H hr5 hr6 hx19) ?_
      clear E H; clear a; clear w; rintro _ w ⟨rfl, H⟩ a E
      refine st_val E (wn rfl) rfl rfl (x_pickT E rfl rfl hb17 rfl) ?_
      clear a E;intro a E
      refine st_val E (wn rfl) rfl rfl (x_move E rfl rfl) ?_
      clear a E;intro a E
      rcases Bool.eq_false_or_eq_true u18 with hb20 | hb20
      ·rw [if_t hb20] at hm
       refine st_val E (ws' E rfl rfl rfl rfl hb20) rfl rfl (x_fa E rfl rfl (v := .pointer (some ⟨p7, 6, none⟩)) (fa24_6 _ _)) ?_
       clear a E;intro a E
       refine st_val E (ws' E rfl rfl rfl rfl hb20) rfl rfl (x_ldB (i := 1) E H rfl rfl rfl rfl Try.underlying2 rfl) ?_
       clear a E;intro a E
       refine st_val E (ws' E rfl rfl rfl rfl hb20) rfl rfl (x_fa E rfl rfl (v := .pointer (some ⟨p10, 6, none⟩)) (fa24_6 _ _)) ?_
       clear a E;intro a E
       refine st_val E (ws' E rfl rfl rfl rfl hb20) rfl rfl (x_ldB (i := 0) E H rfl rfl rfl rfl Try.underlying2 rfl) ?_
       clear a E;intro a E
       refine st_val E (ws' E rfl rfl rfl rfl hb20) rfl rfl (x_bin E rfl rfl rfl rfl) ?_
       clear a E;intro a E
       refine st_val E (wn rfl) rfl rfl (x_pickT E rfl rfl hb20 rfl) ?_
       clear a E;intro a E
       refine st_val E (wn rfl) rfl rfl (x_move E rfl rfl) ?_
       clear a E;intro a E
       rcases Bool.eq_false_or_eq_true (x1.Num == x3.Num) with hb21 | hb21
       ·rw [if_t hb21] at hm
        refine st_val E (ws' E rfl rfl rfl rfl hb21) rfl rfl (x_fa E rfl rfl (v := .pointer (some ⟨p7, 7, none⟩)) (fa24_7 _ _)) ?_
        clear a E;intro a E
        refine st_val E (ws' E rfl rfl rfl rfl hb21) rfl rfl (x_ldB (i := 1) E H rfl rfl rfl rfl Try.underlying9 rfl) ?_
        clear a E;intro a E
        refine st_val E (ws' E rfl rfl rfl rfl hb21) rfl rfl (x_fa E rfl rfl (v := .pointer (some ⟨p10, 7, none⟩)) (fa24_7 _ _)) ?_
        clear a E;intro a E
        refine st_val E (ws' E rfl rfl rfl rfl hb21) rfl rfl (x_ldB (i := 0) E H rfl rfl rfl rfl Try.underlying9 rfl) ?_
        clear a E;intro a E
        refine st_val E (ws' E rfl rfl rfl rfl hb21) rfl rfl (x_str E rfl rfl rfl rfl) ?_
        clear a E;intro a E
        refine st_val E (wn rfl) rfl rfl (x_pickT E rfl rfl hb21 rfl) ?_
        clear a E;intro a E
        refine st_val E (wn rfl) rfl rfl (x_assign E rfl rfl) ?_
        clear a E;intro a E
        refine wpList_nil ?_
        refine q_then ?_
        refine wp_ret ?_
        refine out1 E rfl rfl ?_
        replace H := H.drop 0
        replace H := H.drop 0
        obtain rfl := Option.some.inj hm
        exact ⟨rfl, H.reads (fun r hr => hr)⟩
       ·rw [if_f hb21] at hm
        refine st_no E (wf' E rfl rfl rfl rfl hb21 rfl) rfl rfl ?_
        clear a E;intro a E
        refine st_no E (wf' E rfl rfl rfl rfl hb21 rfl) rfl rfl ?_
        clear a E;intro a E
        refine st_no E (wf' E rfl rfl rfl rfl hb21 rfl) rfl rfl ?_
        clear a E;intro a E
        refine st_no E (wf' E rfl rfl rfl rfl hb21 rfl) rfl rfl ?_
        clear a E;intro a E
        refine st_no E (wf' E rfl rfl rfl rfl hb21 rfl) rfl rfl ?_
        clear a E;intro a E
        refine st_val E (wn rfl) rfl rfl (x_pickF E rfl rfl hb21 rfl) ?_
        clear a E;intro a E
        refine st_val E (wn rfl) rfl rfl (x_assign E rfl rfl) ?_
        clear a E;intro a E
        refine wpList_nil ?_
        refine q_then ?_
        refine wp_ret ?_
        refine out1 E rfl rfl ?_
        replace H := H.drop 0
        replace H := H.drop 0
        obtain rfl := Option.some.inj hm
        exact ⟨rfl, H.reads (fun r hr => hr)⟩
      ·rw [if_f hb20] at hm
       refine st_no E (wf' E rfl rfl rfl rfl hb20 rfl) rfl rfl ?_
       clear a E;intro a E
       refine st_no E (wf' E rfl rfl rfl rfl hb20 rfl) rfl rfl ?_
       clear a E;intro a E
       refine st_no E (wf' E rfl rfl rfl rfl hb20 rfl) rfl rfl ?_
       clear a E;intro a E
       refine st_no E (wf' E rfl rfl rfl rfl hb20 rfl) rfl rfl ?_
       clear a E;intro a E
       refine st_no E (wf' E rfl rfl rfl rfl hb20 rfl) rfl rfl ?_
       clear a E;intro a E
       refine st_val E (wn rfl) rfl rfl (x_pickF E rfl rfl hb20 rfl) ?_
       clear a E;intro a E
       refine st_val E (wn rfl) rfl rfl (x_move E rfl rfl) ?_
       clear a E;intro a E
       refine st_no E (wf E rfl rfl rfl rfl rfl) rfl rfl ?_
       clear a E;intro a E
       refine st_no E (wf E rfl rfl rfl rfl rfl) rfl rfl ?_
       clear a E;intro a E
       refine st_no E (wf E rfl rfl rfl rfl rfl) rfl rfl ?_
       clear a E;intro a E
       refine st_no E (wf E rfl rfl rfl rfl rfl) rfl rfl ?_
       clear a E;intro a E
       refine st_no E (wf E rfl rfl rfl rfl rfl) rfl rfl ?_
       clear a E;intro a E
       refine st_val E (wn rfl) rfl rfl (x_pickF E rfl rfl rfl rfl) ?_
       clear a E;intro a E
       refine st_val E (wn rfl) rfl rfl (x_assign E rfl rfl) ?_
       clear a E;intro a E
       refine wpList_nil ?_
       refine q_then ?_
       refine wp_ret ?_
       refine out1 E rfl rfl ?_
       replace H := H.drop 0
       replace H := H.drop 0
       obtain rfl := Option.some.inj hm
       exact ⟨rfl, H.reads (fun r hr => hr)⟩
     ·rw [if_f hb17] at hm
      refine st_no E (wf' E rfl rfl rfl rfl hb17 rfl) rfl rfl ?_
      clear a E;intro a E
      refine st_no E (wf' E rfl rfl rfl rfl hb17 rfl) rfl rfl ?_
      clear a E;intro a E
      refine st_no E (wf' E rfl rfl rfl rfl hb17 rfl) rfl rfl ?_
      clear a E;intro a E
      refine st_no E (wf' E rfl rfl rfl rfl hb17 rfl) rfl rfl ?_
      clear a E;intro a E
      refine st_no E (wf' E rfl rfl rfl rfl hb17 rfl) rfl rfl ?_
      clear a E;intro a E
      refine st_val E (wn rfl) rfl rfl (x_pickF E rfl rfl hb17 rfl) ?_
      clear a E;intro a E
      refine st_val E (wn rfl) rfl rfl (x_move E rfl rfl) ?_
      clear a E;intro a E
      refine st_no E (wf E rfl rfl rfl rfl rfl) rfl rfl ?_
      clear a E;intro a E
      refine st_no E (wf E rfl rfl rfl rfl rfl) rfl rfl ?_
      clear a E;intro a E
      refine st_no E (wf E rfl rfl rfl rfl rfl) rfl rfl ?_
      clear a E;intro a E
      refine st_no E (wf E rfl rfl rfl rfl rfl) rfl rfl ?_
      clear a E;intro a E
      refine st_no E (wf E rfl rfl rfl rfl rfl) rfl rfl ?_
      clear a E;intro a E
      refine st_val E (wn rfl) rfl rfl (x_pickF E rfl rfl rfl rfl) ?_
      clear a E;intro a E
      refine st_val E (wn rfl) rfl rfl (x_move E rfl rfl) ?_
      clear a E;intro a E
      refine st_no E (wf E rfl rfl rfl rfl rfl) rfl rfl ?_
      clear a E;intro a E
      refine st_no E (wf E rfl rfl rfl rfl rfl) rfl rfl ?_
      clear a E;intro a E
      refine st_no E (wf E rfl rfl rfl rfl rfl) rfl rfl ?_
      clear a E;intro a E
      refine st_no E (wf E rfl rfl rfl rfl rfl) rfl rfl ?_
      clear a E;intro a E
      refine st_no E (wf E rfl rfl rfl rfl rfl) rfl rfl ?_
      clear a E;intro a E
      refine st_val E (wn rfl) rfl rfl (x_pickF E rfl rfl rfl rfl) ?_
      clear a E;intro a E
      refine st_val E (wn rfl) rfl rfl (x_assign E rfl rfl) ?_
      clear a E;intro a E
      refine wpList_nil ?_
      refine q_then ?_
      refine wp_ret ?_
      refine out1 E rfl rfl ?_
      replace H := H.drop 0
      replace H := H.drop 0
      obtain rfl := Option.some.inj hm
      exact ⟨rfl, H.reads (fun r hr => hr)⟩
    ·rw [if_f hb16] at hm
     refine st_no E (wf' E rfl rfl rfl rfl hb16 rfl) rfl rfl ?_
     clear a E;intro a E
     refine st_no E (wf' E rfl rfl rfl rfl hb16 rfl) rfl rfl ?_
     clear a E;intro a E
     refine st_no E (wf' E rfl rfl rfl rfl hb16 rfl) rfl rfl ?_
     clear a E;intro a E
     refine st_no E (wf' E rfl rfl rfl rfl hb16 rfl) rfl rfl ?_
     clear a E;intro a E
     refine st_no E (wf' E rfl rfl rfl rfl hb16 rfl) rfl rfl ?_
     clear a E;intro a E
     refine st_val E (wn rfl) rfl rfl (x_pickF E rfl rfl hb16 rfl) ?_
     clear a E;intro a E
     refine st_val E (wn rfl) rfl rfl (x_move E rfl rfl) ?_
     clear a E;intro a E
     refine st_no E (wf E rfl rfl rfl rfl rfl) rfl rfl ?_
     clear a E;intro a E
     refine st_no E (wf E rfl rfl rfl rfl rfl) rfl rfl ?_
     clear a E;intro a E
     refine st_no E (wf E rfl rfl rfl rfl rfl) rfl rfl ?_
     clear a E;intro a E
     refine st_no E (wf E rfl rfl rfl rfl rfl) rfl rfl ?_
     clear a E;intro a E
     refine st_no E (wf E rfl rfl rfl rfl rfl) rfl rfl ?_
     clear a E;intro a E
     refine st_val E (wn rfl) rfl rfl (x_pickF E rfl rfl rfl rfl) ?_
     clear a E;intro a E
     refine st_val E (wn rfl) rfl rfl (x_move E rfl rfl) ?_
     clear a E;intro a E
     refine st_no E (wf E rfl rfl rfl rfl rfl) rfl rfl ?_
     clear a E;intro a E
     refine st_no E (wf E rfl rfl rfl rfl rfl) rfl rfl ?_
     clear a E;intro a E
     refine st_no E (wf E rfl rfl rfl rfl rfl) rfl rfl ?_
     clear a E;intro a E
     refine st_no E (wf E rfl rfl rfl rfl rfl) rfl rfl ?_
     clear a E;intro a E
     refine st_no E (wf E rfl rfl rfl rfl rfl) rfl rfl ?_
     clear a E;intro a E
     refine st_val E (wn rfl) rfl rfl (x_pickF E rfl rfl rfl rfl) ?_
     clear a E;intro a E
     refine st_val E (wn rfl) rfl rfl (x_move E rfl rfl) ?_
     clear a E;intro a E
     refine st_no E (wf E rfl rfl rfl rfl rfl) rfl rfl ?_
     clear a E;intro a E
     refine st_no E (wf E rfl rfl rfl rfl rfl) rfl rfl ?_
     clear a E;intro a E
     refine st_no E (wf E rfl rfl rfl rfl rfl) rfl rfl ?_
     clear a E;intro a E
     refine st_no E (wf E rfl rfl rfl rfl rfl) rfl rfl ?_
     clear a E;intro a E
     refine st_no E (wf E rfl rfl rfl rfl rfl) rfl rfl ?_
     clear a E;intro a E
     refine st_val E (wn rfl) rfl rfl (x_pickF E rfl rfl rfl rfl) ?_
     clear a E;intro a E
     refine st_val E (wn rfl) rfl rfl (x_assign E rfl rfl) ?_
     clear a E;intro a E
     refine wpList_nil ?_
     refine q_then ?_
     refine wp_ret ?_
     refine out1 E rfl rfl ?_
     replace H := H.drop 0
     replace H := H.drop 0
     obtain rfl := Option.some.inj hm
     exact ⟨rfl, H.reads (fun r hr => hr)⟩
   ·rw [if_f hb15] at hm
    refine st_no E (wf' E rfl rfl rfl rfl hb15 rfl) rfl rfl ?_
    clear a E;intro a E
    refine st_no E (wf' E rfl rfl rfl rfl hb15 rfl) rfl rfl ?_
    clear a E;intro a E
    refine st_no E (wf' E rfl rfl rfl rfl hb15 rfl) rfl rfl ?_
    clear a E;intro a E
    refine st_no E (wf' E rfl rfl rfl rfl hb15 rfl) rfl rfl ?_
    clear a E;intro a E
    refine st_no E (wf' E rfl rfl rfl rfl hb15 rfl) rfl rfl ?_
    clear a E;intro a E
    refine st_val E (wn rfl) rfl rfl (x_pickF E rfl rfl hb15 rfl) ?_
    clear a E;intro a E
    refine st_val E (wn rfl) rfl rfl (x_move E rfl rfl) ?_
    clear a E;intro a E
    refine st_no E (wf E rfl rfl rfl rfl rfl) rfl rfl ?_
    clear a E;intro a E
    refine st_no E (wf E rfl rfl rfl rfl rfl) rfl rfl ?_
    clear a E;intro a E
    refine st_no E (wf E rfl rfl rfl rfl rfl) rfl rfl ?_
    clear a E;intro a E
    refine st_no E (wf E rfl rfl rfl rfl rfl) rfl rfl ?_
    clear a E;intro a E
    refine st_no E (wf E rfl rfl rfl rfl rfl) rfl rfl ?_
    clear a E;intro a E
    refine st_val E (wn rfl) rfl rfl (x_pickF E rfl rfl rfl rfl) ?_
    clear a E;intro a E
    refine st_val E (wn rfl) rfl rfl (x_move E rfl rfl) ?_
    clear a E;intro a E
    refine st_no E (wf E rfl rfl rfl rfl rfl) rfl rfl ?_
    clear a E;intro a E
    refine st_no E (wf E rfl rfl rfl rfl rfl) rfl rfl ?_
    clear a E;intro a E
    refine st_no E (wf E rfl rfl rfl rfl rfl) rfl rfl ?_
    clear a E;intro a E
    refine st_no E (wf E rfl rfl rfl rfl rfl) rfl rfl ?_
    clear a E;intro a E
    refine st_no E (wf E rfl rfl rfl rfl rfl) rfl rfl ?_
    clear a E;intro a E
    refine st_val E (wn rfl) rfl rfl (x_pickF E rfl rfl rfl rfl) ?_
    clear a E;intro a E
    refine st_val E (wn rfl) rfl rfl (x_move E rfl rfl) ?_
    clear a E;intro a E
    refine st_no E (wf E rfl rfl rfl rfl rfl) rfl rfl ?_
    clear a E;intro a E
    refine st_no E (wf E rfl rfl rfl rfl rfl) rfl rfl ?_
    clear a E;intro a E
    refine st_no E (wf E rfl rfl rfl rfl rfl) rfl rfl ?_
    clear a E;intro a E
    refine st_no E (wf E rfl rfl rfl rfl rfl) rfl rfl ?_
    clear a E;intro a E
    refine st_no E (wf E rfl rfl rfl rfl rfl) rfl rfl ?_
    clear a E;intro a E
    refine st_val E (wn rfl) rfl rfl (x_pickF E rfl rfl rfl rfl) ?_
    clear a E;intro a E
    refine st_val E (wn rfl) rfl rfl (x_move E rfl rfl) ?_
    clear a E;intro a E
    refine st_no E (wf E rfl rfl rfl rfl rfl) rfl rfl ?_
    clear a E;intro a E
    refine st_no E (wf E rfl rfl rfl rfl rfl) rfl rfl ?_
    clear a E;intro a E
    refine st_no E (wf E rfl rfl rfl rfl rfl) rfl rfl ?_
    clear a E;intro a E
    refine st_no E (wf E rfl rfl rfl rfl rfl) rfl rfl ?_
    clear a E;intro a E
    refine st_no E (wf E rfl rfl rfl rfl rfl) rfl rfl ?_
    clear a E;intro a E
    refine st_val E (wn rfl) rfl rfl (x_pickF E rfl rfl rfl rfl) ?_
    clear a E;intro a E
    refine st_val E (wn rfl) rfl rfl (x_assign E rfl rfl) ?_
    clear a E;intro a E
    refine wpList_nil ?_
    refine q_then ?_
    refine wp_ret ?_
    refine out1 E rfl rfl ?_
    replace H := H.drop 0
    replace H := H.drop 0
    obtain rfl := Option.some.inj hm
    exact ⟨rfl, H.reads (fun r hr => hr)⟩
  ·rw [if_f hb14] at hm
   refine st_no E (wf' E rfl rfl rfl rfl hb14 rfl) rfl rfl ?_
   clear a E;intro a E
   refine st_no E (wf' E rfl rfl rfl rfl hb14 rfl) rfl rfl ?_
   clear a E;intro a E
   refine st_no E (wf' E rfl rfl rfl rfl hb14 rfl) rfl rfl ?_
   clear a E;intro a E
   refine st_no E (wf' E rfl rfl rfl rfl hb14 rfl) rfl rfl ?_
   clear a E;intro a E
   refine st_no E (wf' E rfl rfl rfl rfl hb14 rfl) rfl rfl ?_
   clear a E;intro a E
   refine st_val E (wn rfl) rfl rfl (x_pickF E rfl rfl hb14 rfl) ?_
   clear a E;intro a E
   refine st_val E (wn rfl) rfl rfl (x_move E rfl rfl) ?_
   clear a E;intro a E
   refine st_no E (wf E rfl rfl rfl rfl rfl) rfl rfl ?_
   clear a E;intro a E
   refine st_no E (wf E rfl rfl rfl rfl rfl) rfl rfl ?_
   clear a E;intro a E
   refine st_no E (wf E rfl rfl rfl rfl rfl) rfl rfl ?_
   clear a E;intro a E
   refine st_no E (wf E rfl rfl rfl rfl rfl) rfl rfl ?_
   clear a E;intro a E
   refine st_no E (wf E rfl rfl rfl rfl rfl) rfl rfl ?_
   clear a E;intro a E
   refine st_val E (wn rfl) rfl rfl (x_pickF E rfl rfl rfl rfl) ?_
   clear a E;intro a E
   refine st_val E (wn rfl) rfl rfl (x_move E rfl rfl) ?_
   clear a E;intro a E
   refine st_no E (wf E rfl rfl rfl rfl rfl) rfl rfl ?_
   clear a E;intro a E
   refine st_no E (wf E rfl rfl rfl rfl rfl) rfl rfl ?_
   clear a E;intro a E
   refine st_no E (wf E rfl rfl rfl rfl rfl) rfl rfl ?_
   clear a E;intro a E
   refine st_no E (wf E rfl rfl rfl rfl rfl) rfl rfl ?_
   clear a E;intro a E
   refine st_no E (wf E rfl rfl rfl rfl rfl) rfl rfl ?_
   clear a E;intro a E
   refine st_val E (wn rfl) rfl rfl (x_pickF E rfl rfl rfl rfl) ?_
   clear a E;intro a E
   refine st_val E (wn rfl) rfl rfl (x_move E rfl rfl) ?_
   clear a E;intro a E
   refine st_no E (wf E rfl rfl rfl rfl rfl) rfl rfl ?_
   clear a E;intro a E
   refine st_no E (wf E rfl rfl rfl rfl rfl) rfl rfl ?_
   clear a E;intro a E
   refine st_no E (wf E rfl rfl rfl rfl rfl) rfl rfl ?_
   clear a E;intro a E
   refine st_no E (wf E rfl rfl rfl rfl rfl) rfl rfl ?_
   clear a E;intro a E
   refine st_no E (wf E rfl rfl rfl rfl rfl) rfl rfl ?_
   clear a E;intro a E
   refine st_val E (wn rfl) rfl rfl (x_pickF E rfl rfl rfl rfl) ?_
   clear a E;intro a E
   refine st_val E (wn rfl) rfl rfl (x_move E rfl rfl) ?_
   clear a E;intro a E
   refine st_no E (wf E rfl rfl rfl rfl rfl) rfl rfl ?_
   clear a E;intro a E
   refine st_no E (wf E rfl rfl rfl rfl rfl) rfl rfl ?_
   clear a E;intro a E
   refine st_no E (wf E rfl rfl rfl rfl rfl) rfl rfl ?_
   clear a E;intro a E
   refine st_no E (wf E rfl rfl rfl rfl rfl) rfl rfl ?_
   clear a E;intro a E
   refine st_no E (wf E rfl rfl rfl rfl rfl) rfl rfl ?_
   clear a E;intro a E
   refine st_val E (wn rfl) rfl rfl (x_pickF E rfl rfl rfl rfl) ?_
   clear a E;intro a E
   refine st_val E (wn rfl) rfl rfl (x_move E rfl rfl) ?_
   clear a E;intro a E
   refine st_no E (wf E rfl rfl rfl rfl rfl) rfl rfl ?_
   clear a E;intro a E
   refine st_no E (wf E rfl rfl rfl rfl rfl) rfl rfl ?_
   clear a E;intro a E
   refine st_no E (wf E rfl rfl rfl rfl rfl) rfl rfl ?_
   clear a E;intro a E
   refine st_no E (wf E rfl rfl rfl rfl rfl) rfl rfl ?_
   clear a E;intro a E
   refine st_no E (wf E rfl rfl rfl rfl rfl) rfl rfl ?_
   clear a E;intro a E
   refine st_val E (wn rfl) rfl rfl (x_pickF E rfl rfl rfl rfl) ?_
   clear a E;intro a E
   refine st_val E (wn rfl) rfl rfl (x_assign E rfl rfl) ?_
   clear a E;intro a E
   refine wpList_nil ?_
   refine q_then ?_
   refine wp_ret ?_
   refine out1 E rfl rfl ?_
   replace H := H.drop 0
   replace H := H.drop 0
   obtain rfl := Option.some.inj hm
   exact ⟨rfl, H.reads (fun r hr => hr)⟩
 ·rw [if_f hb13] at hm
  refine st_no E (wf' E rfl rfl rfl rfl hb13 rfl) rfl rfl ?_
  clear a E;intro a E
  refine st_no E (wf' E rfl rfl rfl rfl hb13 rfl) rfl rfl ?_
  clear a E;intro a E
  refine st_no E (wf' E rfl rfl rfl rfl hb13 rfl) rfl rfl ?_
  clear a E;intro a E
  refine st_no E (wf' E rfl rfl rfl rfl hb13 rfl) rfl rfl ?_
  clear a E;intro a E
  refine st_no E (wf' E rfl rfl rfl rfl hb13 rfl) rfl rfl ?_
  clear a E;intro a E
  refine st_val E (wn rfl) rfl rfl (x_pickF E rfl rfl hb13 rfl) ?_
  clear a E;intro a E
  refine st_val E (wn rfl) rfl rfl (x_move E rfl rfl) ?_
  clear a E;intro a E
  refine st_no E (wf E rfl rfl rfl rfl rfl) rfl rfl ?_
  clear a E;intro a E
  refine st_no E (wf E rfl rfl rfl rfl rfl) rfl rfl ?_
  clear a E;intro a E
  refine st_no E (wf E rfl rfl rfl rfl rfl) rfl rfl ?_
  clear a E;intro a E
  refine st_no E (wf E rfl rfl rfl rfl rfl) rfl rfl ?_
  clear a E;intro a E
  refine st_no E (wf E rfl rfl rfl rfl rfl) rfl rfl ?_
  clear a E;intro a E
  refine st_val E (wn rfl) rfl rfl (x_pickF E rfl rfl rfl rfl) ?_
  clear a E;intro a E
  refine st_val E (wn rfl) rfl rfl (x_move E rfl rfl) ?_
  clear a E;intro a E
  refine st_no E (wf E rfl rfl rfl rfl rfl) rfl rfl ?_
  clear a E;intro a E
  refine st_no E (wf E rfl rfl rfl rfl rfl) rfl rfl ?_
  clear a E;intro a E
  refine st_no E (wf E rfl rfl rfl rfl rfl) rfl rfl ?_
  clear a E;intro a E
  refine st_no E (wf E rfl rfl rfl rfl rfl) rfl rfl ?_
  clear a E;intro a E
  refine st_no E (wf E rfl rfl rfl rfl rfl) rfl rfl ?_
  clear a E;intro a E
  refine st_val E (wn rfl) rfl rfl (x_pickF E rfl rfl rfl rfl) ?_
  clear a E;intro a E
  refine st_val E (wn rfl) rfl rfl (x_move E rfl rfl) ?_
  clear a E;intro a E
  refine st_no E (wf E rfl rfl rfl rfl rfl) rfl rfl ?_
  clear a E;intro a E
  refine st_no E (wf E rfl rfl rfl rfl rfl) rfl rfl ?_
  clear a E;intro a E
  refine st_no E (wf E rfl rfl rfl rfl rfl) rfl rfl ?_
  clear a E;intro a E
  refine st_no E (wf E rfl rfl rfl rfl rfl) rfl rfl ?_
  clear a E;intro a E
  refine st_no E (wf E rfl rfl rfl rfl rfl) rfl rfl ?_
  clear a E;intro a E
  refine st_val E (wn rfl) rfl rfl (x_pickF E rfl rfl rfl rfl) ?_
  clear a E;intro a E
  refine st_val E (wn rfl) rfl rfl (x_move E rfl rfl) ?_
  clear a E;intro a E
  refine st_no E (wf E rfl rfl rfl rfl rfl) rfl rfl ?_
  clear a E;intro a E
  refine st_no E (wf E rfl rfl rfl rfl rfl) rfl rfl ?_
  clear a E;intro a E
  refine st_no E (wf E rfl rfl rfl rfl rfl) rfl rfl ?_
  clear a E;intro a E
  refine st_no E (wf E rfl rfl rfl rfl rfl) rfl rfl ?_
  clear a E;intro a E
  refine st_no E (wf E rfl rfl rfl rfl rfl) rfl rfl ?_
  clear a E;intro a E
  refine st_val E (wn rfl) rfl rfl (x_pickF E rfl rfl rfl rfl) ?_
  clear a E;intro a E
  refine st_val E (wn rfl) rfl rfl (x_move E rfl rfl) ?_
  clear a E;intro a E
  refine st_no E (wf E rfl rfl rfl rfl rfl) rfl rfl ?_
  clear a E;intro a E
  refine st_no E (wf E rfl rfl rfl rfl rfl) rfl rfl ?_
  clear a E;intro a E
  refine st_no E (wf E rfl rfl rfl rfl rfl) rfl rfl ?_
  clear a E;intro a E
  refine st_no E (wf E rfl rfl rfl rfl rfl) rfl rfl ?_
  clear a E;intro a E
  refine st_no E (wf E rfl rfl rfl rfl rfl) rfl rfl ?_
  clear a E;intro a E
  refine st_val E (wn rfl) rfl rfl (x_pickF E rfl rfl rfl rfl) ?_
  clear a E;intro a E
  refine st_val E (wn rfl) rfl rfl (x_move E rfl rfl) ?_
  clear a E;intro a E
  refine st_no E (wf E rfl rfl rfl rfl rfl) rfl rfl ?_
  clear a E;intro a E
  refine st_no E (wf E rfl rfl rfl rfl rfl) rfl rfl ?_
  clear a E;intro a E
  refine st_no E (wf E rfl rfl rfl rfl rfl) rfl rfl ?_
  clear a E;intro a E
  refine st_no E (wf E rfl rfl rfl rfl rfl) rfl rfl ?_
  clear a E;intro a E
  refine st_no E (wf E rfl rfl rfl rfl rfl) rfl rfl ?_
  clear a E;intro a E
  refine st_val E (wn rfl) rfl rfl (x_pickF E rfl rfl rfl rfl) ?_
  clear a E;intro a E
  refine st_val E (wn rfl) rfl rfl (x_assign E rfl rfl) ?_
  clear a E;intro a E
  refine wpList_nil ?_
  refine q_then ?_
  refine wp_ret ?_
  refine out1 E rfl rfl ?_
  replace H := H.drop 0
  replace H := H.drop 0
  obtain rfl := Option.some.inj hm
  exact ⟨rfl, H.reads (fun r hr => hr)⟩
end Go.Cb

set_option linter.unusedVariables false
set_option linter.unusedSimpArgs false
namespace Go.Cb
open Go.Proofs Go.RowKit
def m_cantonlaw17_sameSaved (x1 : S_api_Saved) (x3 : S_api_Saved) : Option Bool :=
  if (x1.View == x3.View) = true then (if (x1.Normal == x3.Normal) = true then ((m_cantonref01_Same x1.Log x3.Log).bind fun u15 => some (u15)) else (some (false))) else (some (false))
set_option maxRecDepth 20000 in
set_option maxHeartbeats 1000000 in
theorem c_cantonlaw17_sameSaved {w : World} {Fo : List Ob} {rs : List Rp} (x1 : S_api_Saved) (v2 : Value) (x3 : S_api_Saved) (v4 : Value) (H : Sep w (Fo) rs) (hr5 : rSl kS v2 x1.Log ∈ rs) (hr6 : rSl kS v4 x3.Log ∈ rs) {r : Bool} (hm : m_cantonlaw17_sameSaved x1 x3 = some r) :
    Calls Try.prog 20 [.agg #[.int .i64 x1.View, .int .i64 x1.Normal, v2], .agg #[.int .i64 x3.View, .int .i64 x3.Normal, v4]].toArray w (Ret fun v w' => .bool r = v ∧ Sep w' (Fo) (rs)) := by
 unfold m_cantonlaw17_sameSaved at hm
 refine enter Try.func20 rfl Try.ntmps20 rfl fun a E => ?_
 simp only [enum, Nat.reduceAdd] at E
 refine wp_seq ?_
 refine wp_region_lit ?_
 obtain ⟨q8, x9, rfl⟩ := H.slform hr5
 refine st_box E H (wn rfl) rfl rfl (cs := [.int .i64 x1.View, .int .i64 x1.Normal, (.slice q8 x1.Log.length x9)]) rfl rfl rfl ?_
 clear E H; clear a; clear w; intro p7 w a H E
 obtain ⟨q11, x12, rfl⟩ := H.slform hr6
 refine st_box E H (wn rfl) rfl rfl (cs := [.int .i64 x3.View, .int .i64 x3.Normal, (.slice q11 x3.Log.length x12)]) rfl rfl rfl ?_
 clear E H; clear a; clear w; intro p10 w a H E
 refine st_val E (wn rfl) rfl rfl (x_assign E rfl rfl) ?_
 clear a E;intro a E
 refine wpList_nil ?_
 refine q_then ?_
 refine wp_seq ?_
 refine wp_region_lit ?_
 refine st_val E (wn rfl) rfl rfl (x_fa E rfl rfl (v := .pointer (some ⟨p7, 0, none⟩)) (fa26_0 _ _)) ?_
 clear a E;intro a E
 refine st_val E (wn rfl) rfl rfl (x_ldB (i := 1) E H rfl rfl rfl rfl Try.underlying2 rfl) ?_
 clear a E;intro a E
 refine st_val E (wn rfl) rfl rfl (x_fa E rfl rfl (v := .pointer (some ⟨p10, 0, none⟩)) (fa26_0 _ _)) ?_
 clear a E;intro a E
 refine st_val E (wn rfl) rfl rfl (x_ldB (i := 0) E H rfl rfl rfl rfl Try.underlying2 rfl) ?_
 clear a E;intro a E
 refine st_val E (wn rfl) rfl rfl (x_bin E rfl rfl rfl rfl) ?_
 clear a E;intro a E
 refine st_val E (wn rfl) rfl rfl (x_move E rfl rfl) ?_
 clear a E;intro a E
 rcases Bool.eq_false_or_eq_true (x1.View == x3.View) with hb13 | hb13
 ·rw [if_t hb13] at hm
  refine st_val E (ws' E rfl rfl rfl rfl hb13) rfl rfl (x_fa E rfl rfl (v := .pointer (some ⟨p7, 1, none⟩)) (fa26_1 _ _)) ?_
  clear a E;intro a E
  refine st_val E (ws' E rfl rfl rfl rfl hb13) rfl rfl (x_ldB (i := 1) E H rfl rfl rfl rfl Try.underlying2 rfl) ?_
  clear a E;intro a E
  refine st_val E (ws' E rfl rfl rfl rfl hb13) rfl rfl (x_fa E rfl rfl (v := .pointer (some ⟨p10, 1, none⟩)) (fa26_1 _ _)) ?_
  clear a E;intro a E
  refine st_val E (ws' E rfl rfl rfl rfl hb13) rfl rfl (x_ldB (i := 0) E H rfl rfl rfl rfl Try.underlying2 rfl) ?_
  clear a E;intro a E
  refine st_val E (ws' E rfl rfl rfl rfl hb13) rfl rfl (x_bin E rfl rfl rfl rfl) ?_
  clear a E;intro a E
  refine st_val E (wn rfl) rfl rfl (x_pickT E rfl rfl hb13 rfl) ?_
  clear a E;intro a E
  refine st_val E (wn rfl) rfl rfl (x_move E rfl rfl) ?_
  clear a E;intro a E
  rcases Bool.eq_false_or_eq_true (x1.Normal == x3.Normal) with hb14 | hb14
  ·rw [if_t hb14] at hm
   refine st_val E (ws' E rfl rfl rfl rfl hb14) rfl rfl (x_fa E rfl rfl (v := .pointer (some ⟨p7, 2, none⟩)) (fa26_2 _ _)) ?_
   clear a E;intro a E
   refine st_val E (ws' E rfl rfl rfl rfl hb14) rfl rfl (x_ldB (i := 1) E H rfl rfl rfl rfl Try.underlying22 rfl) ?_
   clear a E;intro a E
   refine st_val E (ws' E rfl rfl rfl rfl hb14) rfl rfl (x_fa E rfl rfl (v := .pointer (some ⟨p10, 2, none⟩)) (fa26_2 _ _)) ?_
   clear a E;intro a E
   refine st_val E (ws' E rfl rfl rfl rfl hb14) rfl rfl (x_ldB (i := 0) E H rfl rfl rfl rfl Try.underlying22 rfl) ?_
   clear a E;intro a E
   obtain ⟨u15, hx16, hm⟩ := bnd hm
   refine st_call E (ws' E rfl rfl rfl rfl hb14) rfl rfl (x_call E rfl rfl (cf49 _)) (c_cantonref01_Same (.slice q8 x1.Log.length x9) x1.Log (.slice q11 x3.Log.length x12) x3.Log H hr5 hr6 hx16) ?_
   clear E H; clear a; clear w; rintro _ w ⟨rfl, H⟩ a E
   refine st_val E (wn rfl) rfl rfl (x_pickT E rfl rfl hb14 rfl) ?_
   clear a E;intro a E
   refine st_val E (wn rfl) rfl rfl (x_assign E rfl rfl) ?_
   clear a E;intro a E
   refine wpList_nil ?_
   refine q_then ?_
   refine wp_ret ?_
   refine out1 E rfl rfl ?_
   replace H := H.drop 0
   replace H := H.drop 0
   obtain rfl := Option.some.inj hm
   exact ⟨rfl, H.reads (fun r hr => hr)⟩
  ·rw [if_f hb14] at hm
   refine st_no E (wf' E rfl rfl rfl rfl hb14 rfl) rfl rfl ?_
   clear a E;intro a E
   refine st_no E (wf' E rfl rfl rfl rfl hb14 rfl) rfl rfl ?_
   clear a E;intro a E
   refine st_no E (wf' E rfl rfl rfl rfl hb14 rfl) rfl rfl ?_
   clear a E;intro a E
   refine st_no E (wf' E rfl rfl rfl rfl hb14 rfl) rfl rfl ?_
   clear a E;intro a E
   refine st_no E (wf' E rfl rfl rfl rfl hb14 rfl) rfl rfl ?_
   clear a E;intro a E
   refine st_val E (wn rfl) rfl rfl (x_pickF E rfl rfl hb14 rfl) ?_
   clear a E;intro a E
   refine st_val E (wn rfl) rfl rfl (x_assign E rfl rfl) ?_
   clear a E;intro a E
   refine wpList_nil ?_
   refine q_then ?_
   refine wp_ret ?_
   refine out1 E rfl rfl ?_
   replace H := H.drop 0
   replace H := H.drop 0
   obtain rfl := Option.some.inj hm
   exact ⟨rfl, H.reads (fun r hr => hr)⟩
 ·rw [if_f hb13] at hm
  refine st_no E (wf' E rfl rfl rfl rfl hb13 rfl) rfl rfl ?_
  clear a E;intro a E
  refine st_no E (wf' E rfl rfl rfl rfl hb13 rfl) rfl rfl ?_
  clear a E;intro a E
  refine st_no E (wf' E rfl rfl rfl rfl hb13 rfl) rfl rfl ?_
  clear a E;intro a E
  refine st_no E (wf' E rfl rfl rfl rfl hb13 rfl) rfl rfl ?_
  clear a E;intro a E
  refine st_no E (wf' E rfl rfl rfl rfl hb13 rfl) rfl rfl ?_
  clear a E;intro a E
  refine st_val E (wn rfl) rfl rfl (x_pickF E rfl rfl hb13 rfl) ?_
  clear a E;intro a E
  refine st_val E (wn rfl) rfl rfl (x_move E rfl rfl) ?_
  clear a E;intro a E
  refine st_no E (wf E rfl rfl rfl rfl rfl) rfl rfl ?_
  clear a E;intro a E
  refine st_no E (wf E rfl rfl rfl rfl rfl) rfl rfl ?_
  clear a E;intro a E
  refine st_no E (wf E rfl rfl rfl rfl rfl) rfl rfl ?_
  clear a E;intro a E
  refine st_no E (wf E rfl rfl rfl rfl rfl) rfl rfl ?_
  clear a E;intro a E
  refine st_no E (wf E rfl rfl rfl rfl rfl) rfl rfl ?_
  clear a E;intro a E
  refine st_val E (wn rfl) rfl rfl (x_pickF E rfl rfl rfl rfl) ?_
  clear a E;intro a E
  refine st_val E (wn rfl) rfl rfl (x_assign E rfl rfl) ?_
  clear a E;intro a E
  refine wpList_nil ?_
  refine q_then ?_
  refine wp_ret ?_
  refine out1 E rfl rfl ?_
  replace H := H.drop 0
  replace H := H.drop 0
  obtain rfl := Option.some.inj hm
  exact ⟨rfl, H.reads (fun r hr => hr)⟩
end Go.Cb

set_option linter.unusedVariables false
set_option linter.unusedSimpArgs false
namespace Go.Cb
open Go.Proofs Go.RowKit
def m_cantonlaw17_GreatLog_j1 (x4 : Int) : Option Bool :=
  some (decide (x4 ≥ 30000))
def m_cantonlaw17_GreatLog_l1 (l2 : List ByteArray) : Nat → Int → Int → Option Bool
  | 0, _, _ => none
  | k1 + 1, x7, x8 =>
    if (decide (x8 < (l2.length : Int))) = true then (if (decide (x7 < 30000)) = true then ((idx l2 x8).bind fun x13 => m_cantonlaw17_GreatLog_l1 l2 k1 (IntKind.i64.wrap (x7 + (min (x13.size : Int) 30000))) (IntKind.i64.wrap (x8 + 1))) else (m_cantonlaw17_GreatLog_j1 x7)) else (m_cantonlaw17_GreatLog_j1 x7)
def m_cantonlaw17_GreatLog (l2 : List ByteArray) : Option Bool :=
  m_cantonlaw17_GreatLog_l1 l2 30002 (l2.length : Int) 0
set_option maxRecDepth 20000 in
set_option maxHeartbeats 1000000 in
theorem c_cantonlaw17_GreatLog {w : World} {Fo : List Ob} {rs : List Rp} (v1 : Value) (l2 : List ByteArray) (H : Sep w (Fo) rs) (hr3 : rSl kS v1 l2 ∈ rs) {r : Bool} (hm : m_cantonlaw17_GreatLog l2 = some r) :
    Calls Try.prog 10 [v1].toArray w (Ret fun v w' => .bool r = v ∧ Sep w' (Fo) (rs)) := by
 unfold m_cantonlaw17_GreatLog at hm
 refine enter Try.func10 rfl Try.ntmps10 rfl fun a E => ?_
 simp only [enum, Nat.reduceAdd] at E
 refine wp_seq ?_
 refine wp_region_lit ?_
 refine st_val E (wn rfl) rfl rfl (x_assign E rfl rfl) ?_
 clear a E;intro a E
 refine wpList_nil ?_
 refine q_then ?_
 refine wp_seq ?_
 refine wp_region_lit ?_
 refine st_val E (wn rfl) rfl rfl (x_move E rfl rfl) ?_
 clear a E;intro a E
 refine st_val E (wn rfl) rfl rfl (x_lenS E H rfl rfl hr3 Try.underlying22) ?_
 clear a E;intro a E
 refine st_val E (wn rfl) rfl rfl (x_assign E rfl rfl) ?_
 clear a E;intro a E
 refine wpList_nil ?_
 refine q_then ?_
 refine wp_seq_cut (fun a w => ∃ (x4 : Int) (rs5 : List Rp), Env 27 a [(3, .int .i64 x4)] ∧ Sep w (Fo) rs5 ∧ (∀ r, r ∈ rs → r ∈ rs5) ∧ m_cantonlaw17_GreatLog_j1 x4 = some r) ?_ ?_
 ·refine wp_seq ?_
  refine wp_region_lit ?_
  refine st_val E (wn rfl) rfl rfl (x_assign E rfl rfl) ?_
  clear a E;intro a E
  refine wpList_nil ?_
  refine q_then ?_
  refine wp_block ?_
  refine wp_loop_g (fun k1 a w => ∃ (x7 : Int) (x8 : Int) (rs9 : List Rp), Env 27 a [(0, v1), (3, .int .i64 x7), (4, .int .i64 x8)] ∧ Sep w (Fo) rs9 ∧ (∀ r, r ∈ rs → r ∈ rs9) ∧ rSl kS v1 l2 ∈ rs9 ∧ m_cantonlaw17_GreatLog_l1 l2 k1 x7 x8 = some r) (30002) ?_ ?_
  ·exact ⟨(l2.length : Int), 0, _, (((E.nil.keep E 4 rfl).keep E 3 rfl).keep E 0 rfl), H, fun r hr => hr, hr3, hm⟩
  ·clear E H hm
   rintro k1 a w ⟨x7, x8, rs9, E, H, hs10, hr11, hm⟩
   cases k1 with
   | zero => exact (none_some hm rfl).elim
   | succ k1 =>
    unfold m_cantonlaw17_GreatLog_l1 at hm
    refine wp_seq ?_
    refine wp_seq ?_
    refine wp_region_lit ?_
    refine st_val E (wn rfl) rfl rfl (x_move E rfl rfl) ?_
    clear a E;intro a E
    refine st_val E (wn rfl) rfl rfl (x_move E rfl rfl) ?_
    clear a E;intro a E
    refine st_val E (wn rfl) rfl rfl (x_lenS E H rfl rfl hr11 Try.underlying22) ?_
    clear a E;intro a E
    refine st_val E (wn rfl) rfl rfl (x_bin E rfl rfl rfl rfl) ?_
    clear a E;intro a E
    refine st_val E (wn rfl) rfl rfl (x_move E rfl rfl) ?_
    clear a E;intro a E
    rcases Bool.eq_false_or_eq_true (decide (x8 < (l2.length : Int))) with hb12 | hb12
    ·rw [if_t hb12] at hm
     refine st_val E (ws' E rfl rfl rfl rfl hb12) rfl rfl (x_move E rfl rfl) ?_
     clear a E;intro a E
     refine st_val E (ws' E rfl rfl rfl rfl hb12) rfl rfl (x_bin E rfl rfl rfl rfl) ?_
     clear a E;intro a E
     refine st_val E (wn rfl) rfl rfl (x_pickT E rfl rfl hb12 rfl) ?_
     clear a E;intro a E
     refine wpList_nil ?_
     refine q_then ?_
     refine wp_if E rfl ?_ ?_
     ·intro hb
      rw [if_t hb] at hm
      clear hb
      refine wp_skip ?_
      refine q_then ?_
      refine wp_seq ?_
      refine wp_block ?_
      refine wp_region_lit ?_
      refine st_val E (wn rfl) rfl rfl (x_move E rfl rfl) ?_
      clear a E;intro a E
      refine st_val E (wn rfl) rfl rfl (x_move E rfl rfl) ?_
      clear a E;intro a E
      refine st_val E (wn rfl) rfl rfl (x_move E rfl rfl) ?_
      clear a E;intro a E
      obtain ⟨x13, hx14, hm⟩ := bnd hm
      refine st_ixS E H (wn rfl) rfl rfl rfl rfl rfl hr11 Try.underlying22 sz9 hx14 ?_
      clear E H; clear a; intro q15 a H E
      refine st_val E (wn rfl) rfl rfl (x_ldA E H rfl rfl (.head _) Try.underlying9 rfl) ?_
      clear a E;intro a E
      refine st_val E (wn rfl) rfl rfl (x_lenStr E rfl rfl Try.underlying9) ?_
      clear a E;intro a E
      refine st_val E (wn rfl) rfl rfl (x_min (t := 0) E rfl rfl rfl) ?_
      clear a E;intro a E
      refine st_val E (wn rfl) rfl rfl (x_bin E rfl rfl rfl rfl) ?_
      clear a E;intro a E
      refine st_val E (wn rfl) rfl rfl (x_assign E rfl rfl) ?_
      clear a E;intro a E
      refine wpList_nil ?_
      refine q_blk ?_
      refine q_then ?_
      refine wp_region_lit ?_
      refine st_val E (wn rfl) rfl rfl (x_move E rfl rfl) ?_
      clear a E;intro a E
      refine st_val E (wn rfl) rfl rfl (x_bin E rfl rfl rfl rfl) ?_
      clear a E;intro a E
      refine st_val E (wn rfl) rfl rfl (x_assign E rfl rfl) ?_
      clear a E;intro a E
      refine wpList_nil ?_
      refine q_then ?_
      exact ⟨k1, Nat.lt_succ_self k1, IntKind.i64.wrap (x7 + (min (x13.size : Int) 30000)), IntKind.i64.wrap (x8 + 1), _, (((E.nil.keep E 4 rfl).keep E 3 rfl).keep E 0 rfl), H, fun r hr => .tail _ (hs10 r hr), (.tail _ hr11), hm⟩
     ·intro hb
      rw [if_f hb] at hm
      clear hb
      refine wp_exit ?_
      refine q_thenX ?_
      refine q_thenX ?_
      refine q_hit ?_
      refine q_then ?_
      exact ⟨x7, _, (E.nil.keep E 3 rfl), H, hs10, hm⟩
    ·rw [if_f hb12] at hm
     refine st_no E (wf' E rfl rfl rfl rfl hb12 rfl) rfl rfl ?_
     clear a E;intro a E
     refine st_no E (wf' E rfl rfl rfl rfl hb12 rfl) rfl rfl ?_
     clear a E;intro a E
     refine st_val E (wn rfl) rfl rfl (x_pickF E rfl rfl hb12 rfl) ?_
     clear a E;intro a E
     refine wpList_nil ?_
     refine q_then ?_
     refine wp_cond_false (E.eval rfl) ?_
     refine wp_exit ?_
     refine q_thenX ?_
     refine q_thenX ?_
     refine q_hit ?_
     refine q_then ?_
     exact ⟨x7, _, (E.nil.keep E 3 rfl), H, hs10, hm⟩
 ·clear E H hm
  rintro a w ⟨x4, rs5, E, H, hs6, hm⟩
  unfold m_cantonlaw17_GreatLog_j1 at hm
  refine wp_seq ?_
  refine wp_region_lit ?_
  refine st_val E (wn rfl) rfl rfl (x_move E rfl rfl) ?_
  clear a E;intro a E
  refine st_val E (wn rfl) rfl rfl (x_bin E rfl rfl rfl rfl) ?_
  clear a E;intro a E
  refine st_val E (wn rfl) rfl rfl (x_assign E rfl rfl) ?_
  clear a E;intro a E
  refine wpList_nil ?_
  refine q_then ?_
  refine wp_ret ?_
  refine out1 E rfl rfl ?_
  obtain rfl := Option.some.inj hm
  exact ⟨rfl, H.reads (fun r hr => hs6 r hr)⟩
end Go.Cb

set_option linter.unusedVariables false
set_option linter.unusedSimpArgs false
namespace Go.Cb
open Go.Proofs Go.RowKit
def m_cantonref17_results_j1 (l10 : (List S_api_Result)) (l12 : (List Int)) (x13 : Int) : Option ((List S_api_Result) × (List Int) × Int) :=
  some (l10, l12, x13)
def m_cantonref17_results_l1 (u6 : Int × (List Int) × Int) : Nat → (List S_api_Result) → Int → (List Int) → Int → Option ((List S_api_Result) × (List Int) × Int)
  | 0, _, _, _, _ => none
  | k1 + 1, l18, x19, l21, x22 =>
    if (decide (x19 < u6.1)) = true then (if (x22 == 0) = true then ((m_cantonref02_Reader_Num l21 x22 281474976710656).bind fun u28 => (m_cantonref02_Reader_Text u28.2.1 u28.2.2).bind fun u31 => (m_cantonref02_Reader_Text u31.2.1 u31.2.2).bind fun u34 => (m_cantonref02_Reader_Num u34.2.1 u34.2.2 281474976710656).bind fun u37 => (m_cantonref02_Reader_Texts u37.2.1 u37.2.2).bind fun u40 => (ck (l18.length + ([(⟨u28.1, u31.1, u34.1, u37.1, u40.1⟩ : S_api_Result)] : List S_api_Result).length ≤ LIM)).bind fun u48 => m_cantonref17_results_l1 u6 k1 (l18 ++ ([(⟨u28.1, u31.1, u34.1, u37.1, u40.1⟩ : S_api_Result)] : List S_api_Result)) (IntKind.i64.wrap (x19 + 1)) u40.2.1 u40.2.2) else (m_cantonref17_results_j1 l18 l21 x22)) else (m_cantonref17_results_j1 l18 l21 x22)
def m_cantonref17_results (l3 : List Int) (x4 : Int) : Option ((List S_api_Result) × (List Int) × Int) :=
  (m_cantonref02_Reader_Num l3 x4 281474976710656).bind fun u6 => m_cantonref17_results_l1 u6 (u6.1.toNat + 2) [] 0 u6.2.1 u6.2.2
set_option maxRecDepth 20000 in
set_option maxHeartbeats 1000000 in
theorem c_cantonref17_results {w : World} {Fo : List Ob} {rs : List Rp} (p1 : Nat) (v2 : Value) (l3 : List Int) (x4 : Int) (H : Sep w (Blk p1 128 [v2, .int .i64 x4] :: Fo) rs) (hr5 : rSl (kI .u8) v2 l3 ∈ rs) {r : (List S_api_Result) × (List Int) × Int} (hm : m_cantonref17_results l3 x4 = some r) :
    Calls Try.prog 77 [.pointer (some ⟨p1, 0, none⟩)].toArray w (Ret fun v w' => ∃ (v5001 : Value) (v5003 : Value), v5001 = v ∧ Sep w' (Row 62 k_api_Result v5001 r.1 :: Blk p1 128 [v5003, .int .i64 r.2.2] :: Fo) (rSl (kI .u8) v5003 r.2.1 :: rs)) := by
 unfold m_cantonref17_results at hm
 refine enter Try.func77 rfl Try.ntmps77 rfl fun a E => ?_
 simp only [enum, Nat.reduceAdd] at E
 refine wp_seq ?_
 refine wp_region_lit ?_
 refine st_val E (wn rfl) rfl rfl (x_assign E rfl rfl) ?_
 clear a E;intro a E
 refine wpList_nil ?_
 refine q_then ?_
 refine wp_seq ?_
 refine wp_region_lit ?_
 refine st_val E (wn rfl) rfl rfl (x_assign E rfl rfl) ?_
 clear a E;intro a E
 refine wpList_nil ?_
 refine q_then ?_
 refine wp_seq ?_
 refine wp_region_lit ?_
 refine st_val E (wn rfl) rfl rfl (x_move E rfl rfl) ?_
 clear a E;intro a E
 obtain ⟨u6, hx7, hm⟩ := bnd hm
 refine st_call E (wn rfl) rfl rfl (x_call E rfl rfl (cf44 _)) (c_cantonref02_Reader_Num p1 v2 l3 x4 281474976710656 H hr5 hx7) ?_
 clear E H; clear a; clear w; rintro _ w ⟨v8, rfl, H⟩ a E
 refine st_val E (wn rfl) rfl rfl (x_assign E rfl rfl) ?_
 clear a E;intro a E
 refine wpList_nil ?_
 refine q_then ?_
 refine wp_seq_cut (fun a w => ∃ (v9 : Value) (v11 : Value) (l10 : (List S_api_Result)) (l12 : (List Int)) (x13 : Int) (rs14 : List Rp), Env 41 a [(3, v9)] ∧ Sep w (Row 62 k_api_Result v9 l10 :: Blk p1 128 [v11, .int .i64 x13] :: Fo) rs14 ∧ (∀ r, r ∈ rs → r ∈ rs14) ∧ rSl (kI .u8) v11 l12 ∈ rs14 ∧ m_cantonref17_results_j1 l10 l12 x13 = some r) ?_ ?_
 ·refine wp_seq ?_
  refine wp_region_lit ?_
  refine st_val E (wn rfl) rfl rfl (x_assign E rfl rfl) ?_
  clear a E;intro a E
  refine wpList_nil ?_
  refine q_then ?_
  refine wp_block ?_
  refine wp_loop_g (fun k1 a w => ∃ (v17 : Value) (v20 : Value) (l18 : (List S_api_Result)) (x19 : Int) (l21 : (List Int)) (x22 : Int) (rs23 : List Rp), Env 41 a [(0, .pointer (some ⟨p1, 0, none⟩)), (3, v17), (4, .int .i64 u6.1), (5, .int .i64 x19)] ∧ Sep w (Blk p1 128 [v20, .int .i64 x22] :: Row 62 k_api_Result v17 l18 :: Fo) rs23 ∧ (∀ r, r ∈ rs → r ∈ rs23) ∧ rSl (kI .u8) v20 l21 ∈ rs23 ∧ m_cantonref17_results_l1 u6 k1 l18 x19 l21 x22 = some r) (u6.1.toNat + 2) ?_ ?_
  ·replace H := H.nilRow 62 k_api_Result
   replace H := H.front 0 rfl
   replace H := H.front 1 rfl
   exact ⟨(.slice none 0 0), v8, [], 0, u6.2.1, u6.2.2, _, ((((E.nil.keep E 5 rfl).keep E 4 rfl).keep E 3 rfl).keep E 0 rfl), H, fun r hr => .tail _ (hr), (.head _), hm⟩
  ·clear E H hm
   rintro k1 a w ⟨v17, v20, l18, x19, l21, x22, rs23, E, H, hs24, hr25, hm⟩
   cases k1 with
   | zero => exact (none_some hm rfl).elim
   | succ k1 =>
    unfold m_cantonref17_results_l1 at hm
    refine wp_seq ?_
    refine wp_seq ?_
    refine wp_region_lit ?_
    refine st_val E (wn rfl) rfl rfl (x_move E rfl rfl) ?_
    clear a E;intro a E
    refine st_val E (wn rfl) rfl rfl (x_move E rfl rfl) ?_
    clear a E;intro a E
    refine st_val E (wn rfl) rfl rfl (x_bin E rfl rfl rfl rfl) ?_
    clear a E;intro a E
    refine st_val E (wn rfl) rfl rfl (x_move E rfl rfl) ?_
    clear a E;intro a E
    rcases Bool.eq_false_or_eq_true (decide (x19 < u6.1)) with hb26 | hb26
    ·rw [if_t hb26] at hm
     refine st_val E (ws' E rfl rfl rfl rfl hb26) rfl rfl (x_move E rfl rfl) ?_
     clear a E;intro a E
     refine st_val E (ws' E rfl rfl rfl rfl hb26) rfl rfl (x_nil E rfl rfl) ?_
     clear a E;intro a E
     refine st_val E (ws' E rfl rfl rfl rfl hb26) rfl rfl (x_fa E rfl rfl (v := .pointer (some ⟨p1, 1, none⟩)) (fa128_1 _ _)) ?_
     clear a E;intro a E
     refine st_val E (ws' E rfl rfl rfl rfl hb26) rfl rfl (x_ldB (i := 0) E H rfl rfl rfl rfl Try.underlying30 rfl) ?_
     clear a E;intro a E
     refine st_val E (ws' E rfl rfl rfl rfl hb26) rfl rfl (x_bin E rfl rfl rfl rfl) ?_
     clear a E;intro a E
     refine st_val E (wn rfl) rfl rfl (x_pickT E rfl rfl hb26 rfl) ?_
     clear a E;intro a E
     refine wpList_nil ?_
     refine q_then ?_
     refine wp_if E rfl ?_ ?_
     ·intro hb
      rw [if_t hb] at hm
      clear hb
      refine wp_skip ?_
      refine q_then ?_
      refine wp_seq ?_
      refine wp_block ?_
      refine wp_seq ?_
      refine wp_region_lit ?_
      refine st_alloc E H (wn rfl) rfl rfl (cs := [.int .i64 0, .string (ByteArray.mk #[]), .string (ByteArray.mk #[]), .int .i64 0, .slice none 0 0]) rfl (z := .agg #[.int .i64 0, .string ⟨#[]⟩, .string ⟨#[]⟩, .int .i64 0, .slice none 0 0]) (by kernel_rfl) rfl ?_
      clear E H; clear a; clear w; intro p27 w a H E
      refine wpList_nil ?_
      refine q_then ?_
      refine wp_seq ?_
      refine wp_region_lit ?_
      refine st_val E (wn rfl) rfl rfl (x_move E rfl rfl) ?_
      clear a E;intro a E
      replace H := H.front 2 rfl
      replace H := H.front 1 rfl
      replace H := H.front 2 rfl
      replace H : Sep w (Blk p1 128 [v20, .int .i64 x22] :: Blk p27 62 [.int .i64 0, .string (ByteArray.mk #[]), .string (ByteArray.mk #[]), .int .i64 0, .slice none 0 0] :: Row 62 k_api_Result v17 l18 :: Fo) (rs23) := H
      obtain ⟨u28, hx29, hm⟩ := bnd hm
      refine st_call E (wn rfl) rfl rfl (x_call E rfl rfl (cf44 _)) (c_cantonref02_Reader_Num p1 v20 l21 x22 281474976710656 H hr25 hx29) ?_
      clear E H; clear a; clear w; rintro _ w ⟨v30, rfl, H⟩ a E
      refine st_val E (wn rfl) rfl rfl (x_fa E rfl rfl (v := .pointer (some ⟨p27, 0, none⟩)) (fa62_0 _ _)) ?_
      clear a E;intro a E
      refine st_st (i := 1) E H (wn rfl) rfl (us := [.int .i64 u28.1]) rfl rfl rfl rfl rfl sz30 rfl rfl ?_
      clear H; clear w; intro w H
      replace H : Sep w (Blk p1 128 [v30, .int .i64 u28.2.2] :: Blk p27 62 [.int .i64 u28.1, .string (ByteArray.mk #[]), .string (ByteArray.mk #[]), .int .i64 0, .slice none 0 0] :: Row 62 k_api_Result v17 l18 :: Fo) _ := H
      refine wpList_nil ?_
      refine q_then ?_
      refine wp_seq ?_
      refine wp_region_lit ?_
      refine st_val E (wn rfl) rfl rfl (x_move E rfl rfl) ?_
      clear a E;intro a E
      obtain ⟨u31, hx32, hm⟩ := bnd hm
      refine st_call E (wn rfl) rfl rfl (x_call E rfl rfl (cf46 _)) (c_cantonref02_Reader_Text p1 v30 u28.2.1 u28.2.2 H (.head _) hx32) ?_
      clear E H; clear a; clear w; rintro _ w ⟨v33, rfl, H⟩ a E
      refine st_val E (wn rfl) rfl rfl (x_fa E rfl rfl (v := .pointer (some ⟨p27, 1, none⟩)) (fa62_1 _ _)) ?_
      clear a E;intro a E
      refine st_st (i := 1) E H (wn rfl) rfl (us := [.string u31.1]) rfl rfl rfl rfl rfl sz9 rfl rfl ?_
      clear H; clear w; intro w H
      replace H : Sep w (Blk p1 128 [v33, .int .i64 u31.2.2] :: Blk p27 62 [.int .i64 u28.1, .string u31.1, .string (ByteArray.mk #[]), .int .i64 0, .slice none 0 0] :: Row 62 k_api_Result v17 l18 :: Fo) _ := H
      refine wpList_nil ?_
      refine q_then ?_
      refine wp_seq ?_
      refine wp_region_lit ?_
      refine st_val E (wn rfl) rfl rfl (x_move E rfl rfl) ?_
      clear a E;intro a E
      obtain ⟨u34, hx35, hm⟩ := bnd hm
      refine st_call E (wn rfl) rfl rfl (x_call E rfl rfl (cf46 _)) (c_cantonref02_Reader_Text p1 v33 u31.2.1 u31.2.2 H (.head _) hx35) ?_
      clear E H; clear a; clear w; rintro _ w ⟨v36, rfl, H⟩ a E
      refine st_val E (wn rfl) rfl rfl (x_fa E rfl rfl (v := .pointer (some ⟨p27, 2, none⟩)) (fa62_2 _ _)) ?_
      clear a E;intro a E
      refine st_st (i := 1) E H (wn rfl) rfl (us := [.string u34.1]) rfl rfl rfl rfl rfl sz9 rfl rfl ?_
      clear H; clear w; intro w H
      replace H : Sep w (Blk p1 128 [v36, .int .i64 u34.2.2] :: Blk p27 62 [.int .i64 u28.1, .string u31.1, .string u34.1, .int .i64 0, .slice none 0 0] :: Row 62 k_api_Result v17 l18 :: Fo) _ := H
      refine wpList_nil ?_
      refine q_then ?_
      refine wp_seq ?_
      refine wp_region_lit ?_
      refine st_val E (wn rfl) rfl rfl (x_move E rfl rfl) ?_
      clear a E;intro a E
      obtain ⟨u37, hx38, hm⟩ := bnd hm
      refine st_call E (wn rfl) rfl rfl (x_call E rfl rfl (cf44 _)) (c_cantonref02_Reader_Num p1 v36 u34.2.1 u34.2.2 281474976710656 H (.head _) hx38) ?_
      clear E H; clear a; clear w; rintro _ w ⟨v39, rfl, H⟩ a E
      refine st_val E (wn rfl) rfl rfl (x_fa E rfl rfl (v := .pointer (some ⟨p27, 3, none⟩)) (fa62_3 _ _)) ?_
      clear a E;intro a E
      refine st_st (i := 1) E H (wn rfl) rfl (us := [.int .i64 u37.1]) rfl rfl rfl rfl rfl sz2 rfl rfl ?_
      clear H; clear w; intro w H
      replace H : Sep w (Blk p1 128 [v39, .int .i64 u37.2.2] :: Blk p27 62 [.int .i64 u28.1, .string u31.1, .string u34.1, .int .i64 u37.1, .slice none 0 0] :: Row 62 k_api_Result v17 l18 :: Fo) _ := H
      refine wpList_nil ?_
      refine q_then ?_
      refine wp_seq ?_
      refine wp_region_lit ?_
      refine st_val E (wn rfl) rfl rfl (x_move E rfl rfl) ?_
      clear a E;intro a E
      obtain ⟨u40, hx41, hm⟩ := bnd hm
      refine st_call E (wn rfl) rfl rfl (x_call E rfl rfl (cf45 _)) (c_cantonref02_Reader_Texts p1 v39 u37.2.1 u37.2.2 H (.head _) hx41) ?_
      clear E H; clear a; clear w; rintro _ w ⟨v42, v43, rfl, H⟩ a E
      refine st_val E (wn rfl) rfl rfl (x_fa E rfl rfl (v := .pointer (some ⟨p27, 4, none⟩)) (fa62_4 _ _)) ?_
      clear a E;intro a E
      obtain ⟨q44, x45, rfl⟩ := H.rowform (i := 0) rfl
      refine st_st (i := 2) E H (wn rfl) rfl (us := [(.slice q44 u40.1.length x45)]) rfl rfl rfl rfl rfl sz22 rfl rfl ?_
      clear H; clear w; intro w H
      replace H : Sep w (Row 9 kS (.slice q44 u40.1.length x45) u40.1 :: Blk p1 128 [v43, .int .i64 u40.2.2] :: Blk p27 62 [.int .i64 u28.1, .string u31.1, .string u34.1, .int .i64 u37.1, (.slice q44 u40.1.length x45)] :: Row 62 k_api_Result v17 l18 :: Fo) _ := H
      refine wpList_nil ?_
      refine q_then ?_
      refine wp_region_lit ?_
      refine st_val E (wn rfl) rfl rfl (x_move E rfl rfl) ?_
      clear a E;intro a E
      refine st_val E (wn rfl) rfl rfl (x_ldBN (i := 2) (us := [.int .i64 u28.1, .string u31.1, .string u34.1, .int .i64 u37.1, (.slice q44 u40.1.length x45)]) E H rfl rfl rfl rfl Try.underlying62 rfl sz62) ?_
      clear a E;intro a E
      replace H := H.thaw (i := 0) rfl
      refine st_bsR (e := 62) (d := k_api_Result) (cs := [.int .i64 u28.1, .string u31.1, .string u34.1, .int .i64 u37.1, (.slice q44 u40.1.length x45)]) (xs := [(⟨u28.1, u31.1, u34.1, u37.1, u40.1⟩ : S_api_Result)]) E H (wn rfl) rfl rfl (ps := [(0, .tmp 37)]) (parts := [(0, .agg #[.int .i64 u28.1, .string u31.1, .string u34.1, .int .i64 u37.1, (.slice q44 u40.1.length x45)])]) rfl (by simp only [List.map]; rw [E.eval (x := .tmp 37) (v := .agg #[.int .i64 u28.1, .string u31.1, .string u34.1, .int .i64 u37.1, (.slice q44 u40.1.length x45)]) rfl]) (by kernel_rfl) rfl (fun ok hr => (Rows.single (d := k_api_Result) (cs := [.int .i64 u28.1, .string u31.1, .string u34.1, .int .i64 u37.1, (.slice q44 u40.1.length x45)]) (x := (⟨u28.1, u31.1, u34.1, u37.1, u40.1⟩ : S_api_Result)) (k_api_Result_mk (hr _ (.head _))))) ?_
      clear E H; clear a; clear w; intro v46 w a H E
      obtain ⟨u48, hx49, hm⟩ := bnd hm
      refine st_append (i := 2) E H (wn rfl) rfl rfl rfl rfl rfl rfl (src_rd (.head _)) Try.underlying41 inf62 rfl (ck_of hx49) rfl ?_
      clear E H; clear a; clear w; intro v47 w a H E
      refine st_val E (wn rfl) rfl rfl (x_assign E rfl rfl) ?_
      clear a E;intro a E
      refine wpList_nil ?_
      refine q_blk ?_
      refine q_then ?_
      refine wp_region_lit ?_
      refine st_val E (wn rfl) rfl rfl (x_move E rfl rfl) ?_
      clear a E;intro a E
      refine st_val E (wn rfl) rfl rfl (x_bin E rfl rfl rfl rfl) ?_
      clear a E;intro a E
      refine st_val E (wn rfl) rfl rfl (x_assign E rfl rfl) ?_
      clear a E;intro a E
      refine wpList_nil ?_
      refine q_then ?_
      replace H := H.drop 1
      exact ⟨k1, Nat.lt_succ_self k1, v47, v43, l18 ++ ([(⟨u28.1, u31.1, u34.1, u37.1, u40.1⟩ : S_api_Result)] : List S_api_Result), IntKind.i64.wrap (x19 + 1), u40.2.1, u40.2.2, _, ((((E.nil.keep E 5 rfl).keep E 4 rfl).keep E 3 rfl).keep E 0 rfl), H, fun r hr => .tail _ (.tail _ (.tail _ (.tail _ (.tail _ (.tail _ (.tail _ (hs24 r hr))))))), (.tail _ (.tail _ (.head _))), hm⟩
     ·intro hb
      rw [if_f hb] at hm
      clear hb
      refine wp_exit ?_
      refine q_thenX ?_
      refine q_thenX ?_
      refine q_hit ?_
      refine q_then ?_
      replace H := H.front 0 rfl
      replace H := H.front 1 rfl
      exact ⟨v17, v20, l18, l21, x22, _, (E.nil.keep E 3 rfl), H, hs24, hr25, hm⟩
    ·rw [if_f hb26] at hm
     refine st_no E (wf' E rfl rfl rfl rfl hb26 rfl) rfl rfl ?_
     clear a E;intro a E
     refine st_no E (wf' E rfl rfl rfl rfl hb26 rfl) rfl rfl ?_
     clear a E;intro a E
     refine st_no E (wf' E rfl rfl rfl rfl hb26 rfl) rfl rfl ?_
     clear a E;intro a E
     refine st_no E (wf' E rfl rfl rfl rfl hb26 rfl) rfl rfl ?_
     clear a E;intro a E
     refine st_no E (wf' E rfl rfl rfl rfl hb26 rfl) rfl rfl ?_
     clear a E;intro a E
     refine st_val E (wn rfl) rfl rfl (x_pickF E rfl rfl hb26 rfl) ?_
     clear a E;intro a E
     refine wpList_nil ?_
     refine q_then ?_
     refine wp_cond_false (E.eval rfl) ?_
     refine wp_exit ?_
     refine q_thenX ?_
     refine q_thenX ?_
     refine q_hit ?_
     refine q_then ?_
     replace H := H.front 0 rfl
     replace H := H.front 1 rfl
     exact ⟨v17, v20, l18, l21, x22, _, (E.nil.keep E 3 rfl), H, hs24, hr25, hm⟩
 ·clear E H hm
  rintro a w ⟨v9, v11, l10, l12, x13, rs14, E, H, hs15, hr16, hm⟩
  unfold m_cantonref17_results_j1 at hm
  refine wp_seq ?_
  refine wp_region_lit ?_
  refine st_val E (wn rfl) rfl rfl (x_move E rfl rfl) ?_
  clear a E;intro a E
  refine st_val E (wn rfl) rfl rfl (x_assign E rfl rfl) ?_
  clear a E;intro a E
  refine wpList_nil ?_
  refine q_then ?_
  refine wp_ret ?_
  refine out1 E rfl rfl ?_
  obtain rfl := Option.some.inj hm
  exact ⟨v9, v11, rfl, H.reads (sub_cons hr16 (fun r hr => hs15 r hr))⟩
end Go.Cb

set_option linter.unusedVariables false
set_option linter.unusedSimpArgs false
namespace Go.Cb
open Go.Proofs Go.RowKit
def m_cantonref17_store_j2 (l15 : (List S_api_Node)) (l23 : (List S_api_Turn)) (l25 : (List Int)) (x26 : Int) : Option (S_api_Store × (List Int) × Int) :=
  some ((⟨l15, l23⟩ : S_api_Store), l25, x26)
def m_cantonref17_store_l1 (l15 : (List S_api_Node)) (u19 : Int × (List Int) × Int) : Nat → Int → (List Int) → Int → (List S_api_Turn) → Option (S_api_Store × (List Int) × Int)
  | 0, _, _, _, _ => none
  | k1 + 1, x34, l36, x37, l39 =>
    if (decide (x34 < u19.1)) = true then (if (x37 == 0) = true then ((m_cantonref02_Reader_Text l36 x37).bind fun u45 => (m_cantonref02_Reader_Num u45.2.1 u45.2.2 281474976710656).bind fun u48 => (ck (l39.length + ([(⟨u45.1, u48.1⟩ : S_api_Turn)] : List S_api_Turn).length ≤ LIM)).bind fun u53 => m_cantonref17_store_l1 l15 u19 k1 (IntKind.i64.wrap (x34 + 1)) u48.2.1 u48.2.2 (l39 ++ ([(⟨u45.1, u48.1⟩ : S_api_Turn)] : List S_api_Turn))) else (m_cantonref17_store_j2 l15 l39 l36 x37)) else (m_cantonref17_store_j2 l15 l39 l36 x37)
def m_cantonref17_store_j1 (l12 : (List Int)) (x13 : Int) (l15 : (List S_api_Node)) : Option (S_api_Store × (List Int) × Int) :=
  (m_cantonref02_Reader_Num l12 x13 281474976710656).bind fun u19 => m_cantonref17_store_l1 l15 u19 (u19.1.toNat + 2) 0 u19.2.1 u19.2.2 []
def m_cantonref17_store_l2 (u8 : Int × (List Int) × Int) : Nat → Int → (List Int) → Int → (List S_api_Node) → Option (S_api_Store × (List Int) × Int)
  | 0, _, _, _, _ => none
  | k2 + 1, x57, l59, x60, l62 =>
    if (decide (x57 < u8.1)) = true then (if (x60 == 0) = true then ((m_cantonref02_Reader_Text l59 x60).bind fun u68 => (m_cantonref02_Reader_Text u68.2.1 u68.2.2).bind fun u71 => (m_cantonref02_Reader_Num u71.2.1 u71.2.2 281474976710656).bind fun u74 => (m_cantonref02_Reader_Num u74.2.1 u74.2.2 281474976710656).bind fun u77 => (ck (l62.length + ([(⟨u68.1, u71.1, u74.1, 0, u77.1⟩ : S_api_Node)] : List S_api_Node).length ≤ LIM)).bind fun u82 => m_cantonref17_store_l2 u8 k2 (IntKind.i64.wrap (x57 + 1)) u77.2.1 u77.2.2 (l62 ++ ([(⟨u68.1, u71.1, u74.1, 0, u77.1⟩ : S_api_Node)] : List S_api_Node))) else (m_cantonref17_store_j1 l59 x60 l62)) else (m_cantonref17_store_j1 l59 x60 l62)
def m_cantonref17_store (l3 : List Int) (x4 : Int) : Option (S_api_Store × (List Int) × Int) :=
  (m_cantonref02_Reader_Num l3 x4 281474976710656).bind fun u8 => m_cantonref17_store_l2 u8 (u8.1.toNat + 2) 0 u8.2.1 u8.2.2 []
set_option maxRecDepth 20000 in
set_option maxHeartbeats 1000000 in
theorem c_cantonref17_store {w : World} {Fo : List Ob} {rs : List Rp} (p1 : Nat) (v2 : Value) (l3 : List Int) (x4 : Int) (H : Sep w (Blk p1 128 [v2, .int .i64 x4] :: Fo) rs) (hr5 : rSl (kI .u8) v2 l3 ∈ rs) {r : S_api_Store × (List Int) × Int} (hm : m_cantonref17_store l3 x4 = some r) :
    Calls Try.prog 78 [.pointer (some ⟨p1, 0, none⟩)].toArray w (Ret fun v w' => ∃ (v5002 : Value) (v5003 : Value) (v5004 : Value), .agg #[v5002, v5003] = v ∧ Sep w' (Blk p1 128 [v5004, .int .i64 r.2.2] :: Fo) (rSl k_api_Node v5002 r.1.Nodes :: rSl k_api_Turn v5003 r.1.Turns :: rSl (kI .u8) v5004 r.2.1 :: rs)) := by
 unfold m_cantonref17_store at hm
 refine enter Try.func78 rfl Try.ntmps78 rfl fun a E => ?_
 simp only [enum, Nat.reduceAdd] at E
 refine wp_seq ?_
 refine wp_region_lit ?_
 refine st_alloc E H (wn rfl) rfl rfl (cs := [.slice none 0 0, .slice none 0 0]) rfl (z := .agg #[.slice none 0 0, .slice none 0 0]) (by kernel_rfl) rfl ?_
 clear E H; clear a; clear w; intro p6 w a H E
 refine wpList_nil ?_
 refine q_then ?_
 refine wp_seq ?_
 refine wp_region_lit ?_
 refine st_alloc E H (wn rfl) rfl rfl (cs := [.slice none 0 0, .slice none 0 0]) rfl (z := .agg #[.slice none 0 0, .slice none 0 0]) (by kernel_rfl) rfl ?_
 clear E H; clear a; clear w; intro p7 w a H E
 refine wpList_nil ?_
 refine q_then ?_
 refine wp_seq ?_
 refine wp_region_lit ?_
 refine st_val E (wn rfl) rfl rfl (x_move E rfl rfl) ?_
 clear a E;intro a E
 replace H := H.front 1 rfl
 replace H := H.front 1 rfl
 replace H := H.front 2 rfl
 replace H : Sep w (Blk p1 128 [v2, .int .i64 x4] :: Blk p7 45 [.slice none 0 0, .slice none 0 0] :: Blk p6 45 [.slice none 0 0, .slice none 0 0] :: Fo) (rs) := H
 obtain ⟨u8, hx9, hm⟩ := bnd hm
 refine st_call E (wn rfl) rfl rfl (x_call E rfl rfl (cf44 _)) (c_cantonref02_Reader_Num p1 v2 l3 x4 281474976710656 H hr5 hx9) ?_
 clear E H; clear a; clear w; rintro _ w ⟨v10, rfl, H⟩ a E
 refine st_val E (wn rfl) rfl rfl (x_assign E rfl rfl) ?_
 clear a E;intro a E
 refine wpList_nil ?_
 refine q_then ?_
 refine wp_seq_cut (fun a w => ∃ (v11 : Value) (v14 : Value) (l12 : (List Int)) (x13 : Int) (l15 : (List S_api_Node)) (rs16 : List Rp), Env 68 a [(0, .pointer (some ⟨p1, 0, none⟩)), (2, .pointer (some ⟨p6, 0, none⟩)), (3, .pointer (some ⟨p7, 0, none⟩))] ∧ Sep w (Blk p1 128 [v11, .int .i64 x13] :: Blk p6 45 [.slice none 0 0, .slice none 0 0] :: Blk p7 45 [v14, .slice none 0 0] :: Row 64 k_api_Node v14 l15 :: Fo) rs16 ∧ (∀ r, r ∈ rs → r ∈ rs16) ∧ rSl (kI .u8) v11 l12 ∈ rs16 ∧ m_cantonref17_store_j1 l12 x13 l15 = some r) ?_ ?_
 ·refine wp_seq ?_
  refine wp_region_lit ?_
  refine st_val E (wn rfl) rfl rfl (x_assign E rfl rfl) ?_
  clear a E;intro a E
  refine wpList_nil ?_
  refine q_then ?_
  refine wp_block ?_
  refine wp_loop_g (fun k2 a w => ∃ (v58 : Value) (v61 : Value) (x57 : Int) (l59 : (List Int)) (x60 : Int) (l62 : (List S_api_Node)) (rs63 : List Rp), Env 68 a [(0, .pointer (some ⟨p1, 0, none⟩)), (2, .pointer (some ⟨p6, 0, none⟩)), (3, .pointer (some ⟨p7, 0, none⟩)), (4, .int .i64 u8.1), (5, .int .i64 x57)] ∧ Sep w (Blk p1 128 [v58, .int .i64 x60] :: Blk p6 45 [.slice none 0 0, .slice none 0 0] :: Blk p7 45 [v61, .slice none 0 0] :: Row 64 k_api_Node v61 l62 :: Fo) rs63 ∧ (∀ r, r ∈ rs → r ∈ rs63) ∧ rSl (kI .u8) v58 l59 ∈ rs63 ∧ m_cantonref17_store_l2 u8 k2 x57 l59 x60 l62 = some r) (u8.1.toNat + 2) ?_ ?_
  ·replace H := H.nilRow 64 k_api_Node
   replace H := H.front 0 rfl
   replace H := H.front 2 rfl
   replace H := H.front 3 rfl
   replace H := H.front 3 rfl
   exact ⟨v10, (.slice none 0 0), 0, u8.2.1, u8.2.2, [], _, (((((E.nil.keep E 5 rfl).keep E 4 rfl).keep E 3 rfl).keep E 2 rfl).keep E 0 rfl), H, fun r hr => .tail _ (hr), (.head _), hm⟩
  ·clear E H hm
   rintro k2 a w ⟨v58, v61, x57, l59, x60, l62, rs63, E, H, hs64, hr65, hm⟩
   cases k2 with
   | zero => exact (none_some hm rfl).elim
   | succ k2 =>
    unfold m_cantonref17_store_l2 at hm
    refine wp_seq ?_
    refine wp_seq ?_
    refine wp_region_lit ?_
    refine st_val E (wn rfl) rfl rfl (x_move E rfl rfl) ?_
    clear a E;intro a E
    refine st_val E (wn rfl) rfl rfl (x_move E rfl rfl) ?_
    clear a E;intro a E
    refine st_val E (wn rfl) rfl rfl (x_bin E rfl rfl rfl rfl) ?_
    clear a E;intro a E
    refine st_val E (wn rfl) rfl rfl (x_move E rfl rfl) ?_
    clear a E;intro a E
    rcases Bool.eq_false_or_eq_true (decide (x57 < u8.1)) with hb66 | hb66
    ·rw [if_t hb66] at hm
     refine st_val E (ws' E rfl rfl rfl rfl hb66) rfl rfl (x_move E rfl rfl) ?_
     clear a E;intro a E
     refine st_val E (ws' E rfl rfl rfl rfl hb66) rfl rfl (x_nil E rfl rfl) ?_
     clear a E;intro a E
     refine st_val E (ws' E rfl rfl rfl rfl hb66) rfl rfl (x_fa E rfl rfl (v := .pointer (some ⟨p1, 1, none⟩)) (fa128_1 _ _)) ?_
     clear a E;intro a E
     refine st_val E (ws' E rfl rfl rfl rfl hb66) rfl rfl (x_ldB (i := 0) E H rfl rfl rfl rfl Try.underlying30 rfl) ?_
     clear a E;intro a E
     refine st_val E (ws' E rfl rfl rfl rfl hb66) rfl rfl (x_bin E rfl rfl rfl rfl) ?_
     clear a E;intro a E
     refine st_val E (wn rfl) rfl rfl (x_pickT E rfl rfl hb66 rfl) ?_
     clear a E;intro a E
     refine wpList_nil ?_
     refine q_then ?_
     refine wp_if E rfl ?_ ?_
     ·intro hb
      rw [if_t hb] at hm
      clear hb
      refine wp_skip ?_
      refine q_then ?_
      refine wp_seq ?_
      refine wp_block ?_
      refine wp_seq ?_
      refine wp_region_lit ?_
      refine st_alloc E H (wn rfl) rfl rfl (cs := [.string (ByteArray.mk #[]), .string (ByteArray.mk #[]), .int .i64 0, .int .i64 0, .int .i64 0]) rfl (z := .agg #[.string ⟨#[]⟩, .string ⟨#[]⟩, .int .i64 0, .int .i64 0, .int .i64 0]) (by kernel_rfl) rfl ?_
      clear E H; clear a; clear w; intro p67 w a H E
      refine wpList_nil ?_
      refine q_then ?_
      refine wp_seq ?_
      refine wp_region_lit ?_
      refine st_val E (wn rfl) rfl rfl (x_move E rfl rfl) ?_
      clear a E;intro a E
      replace H := H.front 4 rfl
      replace H := H.front 4 rfl
      replace H := H.front 4 rfl
      replace H := H.front 3 rfl
      replace H := H.front 4 rfl
      replace H : Sep w (Blk p1 128 [v58, .int .i64 x60] :: Blk p67 64 [.string (ByteArray.mk #[]), .string (ByteArray.mk #[]), .int .i64 0, .int .i64 0, .int .i64 0] :: Blk p6 45 [.slice none 0 0, .slice none 0 0] :: Blk p7 45 [v61, .slice none 0 0] :: Row 64 k_api_Node v61 l62 :: Fo) (rs63) := H
      obtain ⟨u68, hx69, hm⟩ := bnd hm
      refine st_call E (wn rfl) rfl rfl (x_call E rfl rfl (cf46 _)) (c_cantonref02_Reader_Text p1 v58 l59 x60 H hr65 hx69) ?_
      clear E H; clear a; clear w; rintro _ w ⟨v70, rfl, H⟩ a E
      refine st_val E (wn rfl) rfl rfl (x_fa E rfl rfl (v := .pointer (some ⟨p67, 0, none⟩)) (fa64_0 _ _)) ?_
      clear a E;intro a E
      refine st_st (i := 1) E H (wn rfl) rfl (us := [.string u68.1]) rfl rfl rfl rfl rfl sz9 rfl rfl ?_
      clear H; clear w; intro w H
      replace H : Sep w (Blk p1 128 [v70, .int .i64 u68.2.2] :: Blk p67 64 [.string u68.1, .string (ByteArray.mk #[]), .int .i64 0, .int .i64 0, .int .i64 0] :: Blk p6 45 [.slice none 0 0, .slice none 0 0] :: Blk p7 45 [v61, .slice none 0 0] :: Row 64 k_api_Node v61 l62 :: Fo) _ := H
      refine wpList_nil ?_
      refine q_then ?_
      refine wp_seq ?_
      refine wp_region_lit ?_
      refine st_val E (wn rfl) rfl rfl (x_move E rfl rfl) ?_
      clear a E;intro a E
      obtain ⟨u71, hx72, hm⟩ := bnd hm
      refine st_call E (wn rfl) rfl rfl (x_call E rfl rfl (cf46 _)) (c_cantonref02_Reader_Text p1 v70 u68.2.1 u68.2.2 H (.head _) hx72) ?_
      clear E H; clear a; clear w; rintro _ w ⟨v73, rfl, H⟩ a E
      refine st_val E (wn rfl) rfl rfl (x_fa E rfl rfl (v := .pointer (some ⟨p67, 1, none⟩)) (fa64_1 _ _)) ?_
      clear a E;intro a E
      refine st_st (i := 1) E H (wn rfl) rfl (us := [.string u71.1]) rfl rfl rfl rfl rfl sz9 rfl rfl ?_
      clear H; clear w; intro w H
      replace H : Sep w (Blk p1 128 [v73, .int .i64 u71.2.2] :: Blk p67 64 [.string u68.1, .string u71.1, .int .i64 0, .int .i64 0, .int .i64 0] :: Blk p6 45 [.slice none 0 0, .slice none 0 0] :: Blk p7 45 [v61, .slice none 0 0] :: Row 64 k_api_Node v61 l62 :: Fo) _ := H
      refine wpList_nil ?_
      refine q_then ?_
      refine wp_seq ?_
      refine wp_region_lit ?_
      refine st_val E (wn rfl) rfl rfl (x_move E rfl rfl) ?_
      clear a E;intro a E
      obtain ⟨u74, hx75, hm⟩ := bnd hm
      refine st_call E (wn rfl) rfl rfl (x_call E rfl rfl (cf44 _)) (c_cantonref02_Reader_Num p1 v73 u71.2.1 u71.2.2 281474976710656 H (.head _) hx75) ?_
      clear E H; clear a; clear w; rintro _ w ⟨v76, rfl, H⟩ a E
      refine st_val E (wn rfl) rfl rfl (x_fa E rfl rfl (v := .pointer (some ⟨p67, 2, none⟩)) (fa64_2 _ _)) ?_
      clear a E;intro a E
      refine st_st (i := 1) E H (wn rfl) rfl (us := [.int .i64 u74.1]) rfl rfl rfl rfl rfl sz2 rfl rfl ?_
      clear H; clear w; intro w H
      replace H : Sep w (Blk p1 128 [v76, .int .i64 u74.2.2] :: Blk p67 64 [.string u68.1, .string u71.1, .int .i64 u74.1, .int .i64 0, .int .i64 0] :: Blk p6 45 [.slice none 0 0, .slice none 0 0] :: Blk p7 45 [v61, .slice none 0 0] :: Row 64 k_api_Node v61 l62 :: Fo) _ := H
      refine wpList_nil ?_
      refine q_then ?_
      refine wp_seq ?_
      refine wp_region_lit ?_
      refine st_val E (wn rfl) rfl rfl (x_move E rfl rfl) ?_
      clear a E;intro a E
      obtain ⟨u77, hx78, hm⟩ := bnd hm
      refine st_call E (wn rfl) rfl rfl (x_call E rfl rfl (cf44 _)) (c_cantonref02_Reader_Num p1 v76 u74.2.1 u74.2.2 281474976710656 H (.head _) hx78) ?_
      clear E H; clear a; clear w; rintro _ w ⟨v79, rfl, H⟩ a E
      refine st_val E (wn rfl) rfl rfl (x_fa E rfl rfl (v := .pointer (some ⟨p67, 4, none⟩)) (fa64_4 _ _)) ?_
      clear a E;intro a E
      refine st_st (i := 1) E H (wn rfl) rfl (us := [.int .i64 u77.1]) rfl rfl rfl rfl rfl sz2 rfl rfl ?_
      clear H; clear w; intro w H
      replace H : Sep w (Blk p1 128 [v79, .int .i64 u77.2.2] :: Blk p67 64 [.string u68.1, .string u71.1, .int .i64 u74.1, .int .i64 0, .int .i64 u77.1] :: Blk p6 45 [.slice none 0 0, .slice none 0 0] :: Blk p7 45 [v61, .slice none 0 0] :: Row 64 k_api_Node v61 l62 :: Fo) _ := H
      refine wpList_nil ?_
      refine q_then ?_
      refine wp_region_lit ?_
      refine st_val E (wn rfl) rfl rfl (x_fa E rfl rfl (v := .pointer (some ⟨p7, 0, none⟩)) (fa45_0 _ _)) ?_
      clear a E;intro a E
      refine st_val E (wn rfl) rfl rfl (x_ldB (i := 3) E H rfl rfl rfl rfl Try.underlying42 rfl) ?_
      clear a E;intro a E
      refine st_val E (wn rfl) rfl rfl (x_ldBN (i := 1) (us := [.string u68.1, .string u71.1, .int .i64 u74.1, .int .i64 0, .int .i64 u77.1]) E H rfl rfl rfl rfl Try.underlying64 rfl sz64) ?_
      clear a E;intro a E
      refine st_bsR (e := 64) (d := k_api_Node) (cs := [.string u68.1, .string u71.1, .int .i64 u74.1, .int .i64 0, .int .i64 u77.1]) (xs := [(⟨u68.1, u71.1, u74.1, 0, u77.1⟩ : S_api_Node)]) E H (wn rfl) rfl rfl (ps := [(0, .tmp 37)]) (parts := [(0, .agg #[.string u68.1, .string u71.1, .int .i64 u74.1, .int .i64 0, .int .i64 u77.1])]) rfl (by simp only [List.map]; rw [E.eval (x := .tmp 37) (v := .agg #[.string u68.1, .string u71.1, .int .i64 u74.1, .int .i64 0, .int .i64 u77.1]) rfl]) (by kernel_rfl) rfl (fun ok hr => (Rows.single (d := k_api_Node) (cs := [.string u68.1, .string u71.1, .int .i64 u74.1, .int .i64 0, .int .i64 u77.1]) (x := (⟨u68.1, u71.1, u74.1, 0, u77.1⟩ : S_api_Node)) k_api_Node_mk)) ?_
      clear E H; clear a; clear w; intro v80 w a H E
      obtain ⟨u82, hx83, hm⟩ := bnd hm
      refine st_append (i := 4) E H (wn rfl) rfl rfl rfl rfl rfl rfl (src_rd (.head _)) Try.underlying42 inf64 rfl (ck_of hx83) rfl ?_
      clear E H; clear a; clear w; intro v81 w a H E
      refine st_val E (wn rfl) rfl rfl (x_fa E rfl rfl (v := .pointer (some ⟨p7, 0, none⟩)) (fa45_0 _ _)) ?_
      clear a E;intro a E
      obtain ⟨q84, x85, rfl⟩ := H.rowform (i := 4) rfl
      refine st_st (i := 3) E H (wn rfl) rfl (us := [(.slice q84 (l62 ++ ([(⟨u68.1, u71.1, u74.1, 0, u77.1⟩ : S_api_Node)] : List S_api_Node)).length x85)]) rfl rfl rfl rfl rfl sz42 rfl rfl ?_
      clear H; clear w; intro w H
      replace H : Sep w (Blk p1 128 [v79, .int .i64 u77.2.2] :: Blk p67 64 [.string u68.1, .string u71.1, .int .i64 u74.1, .int .i64 0, .int .i64 u77.1] :: Blk p6 45 [.slice none 0 0, .slice none 0 0] :: Blk p7 45 [(.slice q84 (l62 ++ ([(⟨u68.1, u71.1, u74.1, 0, u77.1⟩ : S_api_Node)] : List S_api_Node)).length x85), .slice none 0 0] :: Row 64 k_api_Node (.slice q84 (l62 ++ ([(⟨u68.1, u71.1, u74.1, 0, u77.1⟩ : S_api_Node)] : List S_api_Node)).length x85) (l62 ++ ([(⟨u68.1, u71.1, u74.1, 0, u77.1⟩ : S_api_Node)] : List S_api_Node)) :: Fo) _ := H
      refine wpList_nil ?_
      refine q_blk ?_
      refine q_then ?_
      refine wp_region_lit ?_
      refine st_val E (wn rfl) rfl rfl (x_move E rfl rfl) ?_
      clear a E;intro a E
      refine st_val E (wn rfl) rfl rfl (x_bin E rfl rfl rfl rfl) ?_
      clear a E;intro a E
      refine st_val E (wn rfl) rfl rfl (x_assign E rfl rfl) ?_
      clear a E;intro a E
      refine wpList_nil ?_
      refine q_then ?_
      replace H := H.drop 1
      exact ⟨k2, Nat.lt_succ_self k2, v79, (.slice q84 (l62 ++ ([(⟨u68.1, u71.1, u74.1, 0, u77.1⟩ : S_api_Node)] : List S_api_Node)).length x85), IntKind.i64.wrap (x57 + 1), u77.2.1, u77.2.2, l62 ++ ([(⟨u68.1, u71.1, u74.1, 0, u77.1⟩ : S_api_Node)] : List S_api_Node), _, (((((E.nil.keep E 5 rfl).keep E 4 rfl).keep E 3 rfl).keep E 2 rfl).keep E 0 rfl), H, fun r hr => .tail _ (.tail _ (.tail _ (.tail _ (.tail _ (hs64 r hr))))), (.tail _ (.head _)), hm⟩
     ·intro hb
      rw [if_f hb] at hm
      clear hb
      refine wp_exit ?_
      refine q_thenX ?_
      refine q_thenX ?_
      refine q_hit ?_
      refine q_then ?_
      exact ⟨v58, v61, l59, x60, l62, _, (((E.nil.keep E 3 rfl).keep E 2 rfl).keep E 0 rfl), H, hs64, hr65, hm⟩
    ·rw [if_f hb66] at hm
     refine st_no E (wf' E rfl rfl rfl rfl hb66 rfl) rfl rfl ?_
     clear a E;intro a E
     refine st_no E (wf' E rfl rfl rfl rfl hb66 rfl) rfl rfl ?_
     clear a E;intro a E
     refine st_no E (wf' E rfl rfl rfl rfl hb66 rfl) rfl rfl ?_
     clear a E;intro a E
     refine st_no E (wf' E rfl rfl rfl rfl hb66 rfl) rfl rfl ?_
     clear a E;intro a E
     refine st_no E (wf' E rfl rfl rfl rfl hb66 rfl) rfl rfl ?_
     clear a E;intro a E
     refine st_val E (wn rfl) rfl rfl (x_pickF E rfl rfl hb66 rfl) ?_
     clear a E;intro a E
     refine wpList_nil ?_
     refine q_then ?_
     refine wp_cond_false (E.eval rfl) ?_
     refine wp_exit ?_
     refine q_thenX ?_
     refine q_thenX ?_
     refine q_hit ?_
     refine q_then ?_
     exact ⟨v58, v61, l59, x60, l62, _, (((E.nil.keep E 3 rfl).keep E 2 rfl).keep E 0 rfl), H, hs64, hr65, hm⟩
 ·clear E H hm
  rintro a w ⟨v11, v14, l12, x13, l15, rs16, E, H, hs17, hr18, hm⟩
  unfold m_cantonref17_store_j1 at hm
  refine wp_seq ?_
  refine wp_region_lit ?_
  refine st_val E (wn rfl) rfl rfl (x_move E rfl rfl) ?_
  clear a E;intro a E
  obtain ⟨u19, hx20, hm⟩ := bnd hm
  refine st_call E (wn rfl) rfl rfl (x_call E rfl rfl (cf44 _)) (c_cantonref02_Reader_Num p1 v11 l12 x13 281474976710656 H hr18 hx20) ?_
  clear E H; clear a; clear w; rintro _ w ⟨v21, rfl, H⟩ a E
  refine st_val E (wn rfl) rfl rfl (x_assign E rfl rfl) ?_
  clear a E;intro a E
  refine wpList_nil ?_
  refine q_then ?_
  refine wp_seq_cut (fun a w => ∃ (v22 : Value) (v24 : Value) (l23 : (List S_api_Turn)) (l25 : (List Int)) (x26 : Int) (rs27 : List Rp), Env 68 a [(2, .pointer (some ⟨p6, 0, none⟩)), (3, .pointer (some ⟨p7, 0, none⟩))] ∧ Sep w (Blk p6 45 [.slice none 0 0, .slice none 0 0] :: Blk p7 45 [v14, v22] :: Blk p1 128 [v24, .int .i64 x26] :: Row 64 k_api_Node v14 l15 :: Row 66 k_api_Turn v22 l23 :: Fo) rs27 ∧ (∀ r, r ∈ rs → r ∈ rs27) ∧ rSl (kI .u8) v24 l25 ∈ rs27 ∧ m_cantonref17_store_j2 l15 l23 l25 x26 = some r) ?_ ?_
  ·refine wp_seq ?_
   refine wp_region_lit ?_
   refine st_val E (wn rfl) rfl rfl (x_assign E rfl rfl) ?_
   clear a E;intro a E
   refine wpList_nil ?_
   refine q_then ?_
   refine wp_block ?_
   refine wp_loop_g (fun k1 a w => ∃ (v35 : Value) (v38 : Value) (x34 : Int) (l36 : (List Int)) (x37 : Int) (l39 : (List S_api_Turn)) (rs40 : List Rp), Env 68 a [(0, .pointer (some ⟨p1, 0, none⟩)), (2, .pointer (some ⟨p6, 0, none⟩)), (3, .pointer (some ⟨p7, 0, none⟩)), (4, .int .i64 u19.1), (7, .int .i64 x34)] ∧ Sep w (Blk p1 128 [v35, .int .i64 x37] :: Blk p6 45 [.slice none 0 0, .slice none 0 0] :: Blk p7 45 [v14, v38] :: Row 64 k_api_Node v14 l15 :: Row 66 k_api_Turn v38 l39 :: Fo) rs40 ∧ (∀ r, r ∈ rs → r ∈ rs40) ∧ rSl (kI .u8) v35 l36 ∈ rs40 ∧ m_cantonref17_store_l1 l15 u19 k1 x34 l36 x37 l39 = some r) (u19.1.toNat + 2) ?_ ?_
   ·replace H := H.nilRow 66 k_api_Turn
    replace H := H.front 0 rfl
    replace H := H.front 4 rfl
    replace H := H.front 4 rfl
    replace H := H.front 4 rfl
    replace H := H.front 4 rfl
    exact ⟨v21, (.slice none 0 0), 0, u19.2.1, u19.2.2, [], _, (((((E.nil.keep E 7 rfl).keep E 4 rfl).keep E 3 rfl).keep E 2 rfl).keep E 0 rfl), H, fun r hr => .tail _ (hs17 r hr), (.head _), hm⟩
   ·clear E H hm
    rintro k1 a w ⟨v35, v38, x34, l36, x37, l39, rs40, E, H, hs41, hr42, hm⟩
    cases k1 with
    | zero => exact (none_some hm rfl).elim
    | succ k1 =>
     unfold m_cantonref17_store_l1 at hm
     refine wp_seq ?_
     refine wp_seq ?_
     refine wp_region_lit ?_
     refine st_val E (wn rfl) rfl rfl (x_move E rfl rfl) ?_
     clear a E;intro a E
     refine st_val E (wn rfl) rfl rfl (x_move E rfl rfl) ?_
     clear a E;intro a E
     refine st_val E (wn rfl) rfl rfl (x_bin E rfl rfl rfl rfl) ?_
     clear a E;intro a E
     refine st_val E (wn rfl) rfl rfl (x_move E rfl rfl) ?_
     clear a E;intro a E
     rcases Bool.eq_false_or_eq_true (decide (x34 < u19.1)) with hb43 | hb43
     ·rw [if_t hb43] at hm
      refine st_val E (ws' E rfl rfl rfl rfl hb43) rfl rfl (x_move E rfl rfl) ?_
      clear a E;intro a E
      refine st_val E (ws' E rfl rfl rfl rfl hb43) rfl rfl (x_nil E rfl rfl) ?_
      clear a E;intro a E
      refine st_val E (ws' E rfl rfl rfl rfl hb43) rfl rfl (x_fa E rfl rfl (v := .pointer (some ⟨p1, 1, none⟩)) (fa128_1 _ _)) ?_
      clear a E;intro a E
      refine st_val E (ws' E rfl rfl rfl rfl hb43) rfl rfl (x_ldB (i := 0) E H rfl rfl rfl rfl Try.underlying30 rfl) ?_
      clear a E;intro a E
      refine st_val E (ws' E rfl rfl rfl rfl hb43) rfl rfl (x_bin E rfl rfl rfl rfl) ?_
      clear a E;intro a E
      refine st_val E (wn rfl) rfl rfl (x_pickT E rfl rfl hb43 rfl) ?_
      clear a E;intro a E
      refine wpList_nil ?_
      refine q_then ?_
      refine wp_if E rfl ?_ ?_
      ·intro hb
       rw [if_t hb] at hm
       clear hb
       refine wp_skip ?_
       refine q_then ?_
       refine wp_seq ?_
       refine wp_block ?_
       refine wp_seq ?_
       refine wp_region_lit ?_
       refine st_alloc E H (wn rfl) rfl rfl (cs := [.string (ByteArray.mk #[]), .int .i64 0]) rfl (z := .agg #[.string ⟨#[]⟩, .int .i64 0]) (by kernel_rfl) rfl ?_
       clear E H; clear a; clear w; intro p44 w a H E
       refine wpList_nil ?_
       refine q_then ?_
       refine wp_seq ?_
       refine wp_region_lit ?_
       refine st_val E (wn rfl) rfl rfl (x_move E rfl rfl) ?_
       clear a E;intro a E
       replace H := H.front 5 rfl
       replace H := H.front 5 rfl
       replace H := H.front 5 rfl
       replace H := H.front 5 rfl
       replace H := H.front 4 rfl
       replace H := H.front 5 rfl
       replace H : Sep w (Blk p1 128 [v35, .int .i64 x37] :: Blk p44 66 [.string (ByteArray.mk #[]), .int .i64 0] :: Blk p6 45 [.slice none 0 0, .slice none 0 0] :: Blk p7 45 [v14, v38] :: Row 64 k_api_Node v14 l15 :: Row 66 k_api_Turn v38 l39 :: Fo) (rs40) := H
       obtain ⟨u45, hx46, hm⟩ := bnd hm
       refine st_call E (wn rfl) rfl rfl (x_call E rfl rfl (cf46 _)) (c_cantonref02_Reader_Text p1 v35 l36 x37 H hr42 hx46) ?_
       clear E H; clear a; clear w; rintro _ w ⟨v47, rfl, H⟩ a E
       refine st_val E (wn rfl) rfl rfl (x_fa E rfl rfl (v := .pointer (some ⟨p44, 0, none⟩)) (fa66_0 _ _)) ?_
       clear a E;intro a E
       refine st_st (i := 1) E H (wn rfl) rfl (us := [.string u45.1]) rfl rfl rfl rfl rfl sz9 rfl rfl ?_
       clear H; clear w; intro w H
       replace H : Sep w (Blk p1 128 [v47, .int .i64 u45.2.2] :: Blk p44 66 [.string u45.1, .int .i64 0] :: Blk p6 45 [.slice none 0 0, .slice none 0 0] :: Blk p7 45 [v14, v38] :: Row 64 k_api_Node v14 l15 :: Row 66 k_api_Turn v38 l39 :: Fo) _ := H
       refine wpList_nil ?_
       refine q_then ?_
       refine wp_seq ?_
       refine wp_region_lit ?_
       refine st_val E (wn rfl) rfl rfl (x_move E rfl rfl) ?_
       clear a E;intro a E
       obtain ⟨u48, hx49, hm⟩ := bnd hm
       refine st_call E (wn rfl) rfl rfl (x_call E rfl rfl (cf44 _)) (c_cantonref02_Reader_Num p1 v47 u45.2.1 u45.2.2 281474976710656 H (.head _) hx49) ?_
       clear E H; clear a; clear w; rintro _ w ⟨v50, rfl, H⟩ a E
       refine st_val E (wn rfl) rfl rfl (x_fa E rfl rfl (v := .pointer (some ⟨p44, 1, none⟩)) (fa66_1 _ _)) ?_
       clear a E;intro a E
       refine st_st (i := 1) E H (wn rfl) rfl (us := [.int .i64 u48.1]) rfl rfl rfl rfl rfl sz2 rfl rfl ?_
       clear H; clear w; intro w H
       replace H : Sep w (Blk p1 128 [v50, .int .i64 u48.2.2] :: Blk p44 66 [.string u45.1, .int .i64 u48.1] :: Blk p6 45 [.slice none 0 0, .slice none 0 0] :: Blk p7 45 [v14, v38] :: Row 64 k_api_Node v14 l15 :: Row 66 k_api_Turn v38 l39 :: Fo) _ := H
       refine wpList_nil ?_
       refine q_then ?_
       refine wp_region_lit ?_
       refine st_val E (wn rfl) rfl rfl (x_fa E rfl rfl (v := .pointer (some ⟨p7, 1, none⟩)) (fa45_1 _ _)) ?_
       clear a E;intro a E
       refine st_val E (wn rfl) rfl rfl (x_ldB (i := 3) E H rfl rfl rfl rfl Try.underlying43 rfl) ?_
       clear a E;intro a E
       refine st_val E (wn rfl) rfl rfl (x_ldBN (i := 1) (us := [.string u45.1, .int .i64 u48.1]) E H rfl rfl rfl rfl Try.underlying66 rfl sz66) ?_
       clear a E;intro a E
       refine st_bsR (e := 66) (d := k_api_Turn) (cs := [.string u45.1, .int .i64 u48.1]) (xs := [(⟨u45.1, u48.1⟩ : S_api_Turn)]) E H (wn rfl) rfl rfl (ps := [(0, .tmp 63)]) (parts := [(0, .agg #[.string u45.1, .int .i64 u48.1])]) rfl (by simp only [List.map]; rw [E.eval (x := .tmp 63) (v := .agg #[.string u45.1, .int .i64 u48.1]) rfl]) (by kernel_rfl) rfl (fun ok hr => (Rows.single (d := k_api_Turn) (cs := [.string u45.1, .int .i64 u48.1]) (x := (⟨u45.1, u48.1⟩ : S_api_Turn)) k_api_Turn_mk)) ?_
       clear E H; clear a; clear w; intro v51 w a H E
       obtain ⟨u53, hx54, hm⟩ := bnd hm
       refine st_append (i := 5) E H (wn rfl) rfl rfl rfl rfl rfl rfl (src_rd (.head _)) Try.underlying43 inf66 rfl (ck_of hx54) rfl ?_
       clear E H; clear a; clear w; intro v52 w a H E
       refine st_val E (wn rfl) rfl rfl (x_fa E rfl rfl (v := .pointer (some ⟨p7, 1, none⟩)) (fa45_1 _ _)) ?_
       clear a E;intro a E
       obtain ⟨q55, x56, rfl⟩ := H.rowform (i := 5) rfl
       refine st_st (i := 3) E H (wn rfl) rfl (us := [(.slice q55 (l39 ++ ([(⟨u45.1, u48.1⟩ : S_api_Turn)] : List S_api_Turn)).length x56)]) rfl rfl rfl rfl rfl sz43 rfl rfl ?_
       clear H; clear w; intro w H
       replace H : Sep w (Blk p1 128 [v50, .int .i64 u48.2.2] :: Blk p44 66 [.string u45.1, .int .i64 u48.1] :: Blk p6 45 [.slice none 0 0, .slice none 0 0] :: Blk p7 45 [v14, (.slice q55 (l39 ++ ([(⟨u45.1, u48.1⟩ : S_api_Turn)] : List S_api_Turn)).length x56)] :: Row 64 k_api_Node v14 l15 :: Row 66 k_api_Turn (.slice q55 (l39 ++ ([(⟨u45.1, u48.1⟩ : S_api_Turn)] : List S_api_Turn)).length x56) (l39 ++ ([(⟨u45.1, u48.1⟩ : S_api_Turn)] : List S_api_Turn)) :: Fo) _ := H
       refine wpList_nil ?_
       refine q_blk ?_
       refine q_then ?_
       refine wp_region_lit ?_
       refine st_val E (wn rfl) rfl rfl (x_move E rfl rfl) ?_
       clear a E;intro a E
       refine st_val E (wn rfl) rfl rfl (x_bin E rfl rfl rfl rfl) ?_
       clear a E;intro a E
       refine st_val E (wn rfl) rfl rfl (x_assign E rfl rfl) ?_
       clear a E;intro a E
       refine wpList_nil ?_
       refine q_then ?_
       replace H := H.drop 1
       exact ⟨k1, Nat.lt_succ_self k1, v50, (.slice q55 (l39 ++ ([(⟨u45.1, u48.1⟩ : S_api_Turn)] : List S_api_Turn)).length x56), IntKind.i64.wrap (x34 + 1), u48.2.1, u48.2.2, l39 ++ ([(⟨u45.1, u48.1⟩ : S_api_Turn)] : List S_api_Turn), _, (((((E.nil.keep E 7 rfl).keep E 4 rfl).keep E 3 rfl).keep E 2 rfl).keep E 0 rfl), H, fun r hr => .tail _ (.tail _ (.tail _ (hs41 r hr))), (.tail _ (.head _)), hm⟩
      ·intro hb
       rw [if_f hb] at hm
       clear hb
       refine wp_exit ?_
       refine q_thenX ?_
       refine q_thenX ?_
       refine q_hit ?_
       refine q_then ?_
       replace H := H.front 4 rfl
       replace H := H.front 4 rfl
       replace H := H.front 2 rfl
       replace H := H.front 4 rfl
       replace H := H.front 4 rfl
       exact ⟨v38, v35, l39, l36, x37, _, ((E.nil.keep E 3 rfl).keep E 2 rfl), H, hs41, hr42, hm⟩
     ·rw [if_f hb43] at hm
      refine st_no E (wf' E rfl rfl rfl rfl hb43 rfl) rfl rfl ?_
      clear a E;intro a E
      refine st_no E (wf' E rfl rfl rfl rfl hb43 rfl) rfl rfl ?_
      clear a E;intro a E
      refine st_no E (wf' E rfl rfl rfl rfl hb43 rfl) rfl rfl ?_
      clear a E;intro a E
      refine st_no E (wf' E rfl rfl rfl rfl hb43 rfl) rfl rfl ?_
      clear a E;intro a E
      refine st_no E (wf' E rfl rfl rfl rfl hb43 rfl) rfl rfl ?_
      clear a E;intro a E
      refine st_val E (wn rfl) rfl rfl (x_pickF E rfl rfl hb43 rfl) ?_
      clear a E;intro a E
      refine wpList_nil ?_
      refine q_then ?_
      refine wp_cond_false (E.eval rfl) ?_
      refine wp_exit ?_
      refine q_thenX ?_
      refine q_thenX ?_
      refine q_hit ?_
      refine q_then ?_
      replace H := H.front 4 rfl
      replace H := H.front 4 rfl
      replace H := H.front 2 rfl
      replace H := H.front 4 rfl
      replace H := H.front 4 rfl
      exact ⟨v38, v35, l39, l36, x37, _, ((E.nil.keep E 3 rfl).keep E 2 rfl), H, hs41, hr42, hm⟩
  ·clear E H hm
   rintro a w ⟨v22, v24, l23, l25, x26, rs27, E, H, hs28, hr29, hm⟩
   unfold m_cantonref17_store_j2 at hm
   refine wp_seq ?_
   refine wp_region_lit ?_
   refine st_val E (wn rfl) rfl rfl (x_ldBN (i := 1) (us := [v14, v22]) E H rfl rfl rfl rfl Try.underlying45 rfl sz45) ?_
   clear a E;intro a E
   obtain ⟨q30, x31, rfl⟩ := H.rowform (i := 3) rfl
   obtain ⟨q32, x33, rfl⟩ := H.rowform (i := 4) rfl
   refine st_st (i := 0) E H (wn rfl) rfl (us := [(.slice q30 l15.length x31), (.slice q32 l23.length x33)]) rfl rfl rfl rfl rfl sz45 rfl rfl ?_
   clear H; clear w; intro w H
   replace H : Sep w (Blk p6 45 [(.slice q30 l15.length x31), (.slice q32 l23.length x33)] :: Blk p7 45 [(.slice q30 l15.length x31), (.slice q32 l23.length x33)] :: Blk p1 128 [v24, .int .i64 x26] :: Row 64 k_api_Node (.slice q30 l15.length x31) l15 :: Row 66 k_api_Turn (.slice q32 l23.length x33) l23 :: Fo) _ := H
   refine wpList_nil ?_
   refine q_then ?_
   refine wp_ret ?_
   refine outR1 E rfl (rvBN (i := 0) (us := [(.slice q30 l15.length x31), (.slice q32 l23.length x33)]) H rfl rfl rfl Try.underlying45 rfl sz45) ?_
   replace H := H.thaw (i := 3) rfl
   replace H := H.thaw (i := 3) rfl
   replace H := H.drop 0
   replace H := H.drop 0
   obtain rfl := Option.some.inj hm
   exact ⟨(.slice q30 l15.length x31), (.slice q32 l23.length x33), v24, rfl, H.reads (sub_cons (.tail _ (.head _)) (sub_cons (.head _) (sub_cons (.tail _ (.tail _ hr29)) (fun r hr => .tail _ (.tail _ (hs28 r hr))))))⟩
end Go.Cb
