/- Functions of the program, walked: each comes to its plain function. -/
import Derived.Test.YtidapdacihcckaaGreatDoorKte3
import Derived.Test.YtidapdacihcckaaGreatDoorN4te
set_option linter.unusedVariables false
set_option linter.unusedSimpArgs false
namespace Go.Cb
open Go.Proofs Go.RowKit
def m_nodes_New : Option (List S_api_Node) :=
  some (([(⟨(ByteArray.mk #[47]), (ByteArray.mk #[]), 0, 0, 0⟩ : S_api_Node)] : List S_api_Node))
set_option maxRecDepth 20000 in
set_option maxHeartbeats 1000000 in
theorem c_nodes_New {w : World} {Fo : List Ob} {rs : List Rp} (H : Sep w (Fo) rs) {r : (List S_api_Node)} (hm : m_nodes_New = some r) :
    Calls Tryz.prog 17 [].toArray w (Ret fun v w' => ∃ (v5001 : Value), v5001 = v ∧ Sep w' (Row 35 k_api_Node v5001 r :: Fo) (rs)) := by
 unfold m_nodes_New at hm
 refine enter Tryz.func17 rfl Tryz.ntmps17 rfl fun a E => ?_
 simp only [enum, Nat.reduceAdd] at E
 refine wp_seq ?_
 refine wp_region_lit ?_
 refine sv E rfl rfl rfl (x_assign E rfl rfl) ?_
 clear a E;intro a E
 refine wpList_nil ?_
 refine q_then ?_
 refine wp_seq ?_
 refine wp_region_lit ?_
 refine sv E rfl rfl rfl (x_build E (ps := [(0, .const (.string (ByteArray.mk #[47])))]) (vs := [(0, .string (ByteArray.mk #[47]))]) rfl (by simp only [List.map]; rw [E.eval (x := .const (.string (ByteArray.mk #[47]))) (v := .string (ByteArray.mk #[47])) rfl]) (v := .agg #[.string (ByteArray.mk #[47]), .string (ByteArray.mk #[]), .int .i64 0, .int .i64 0, .int .i64 0]) (by kernel_rfl)) ?_
 clear a E;intro a E
 refine st_bsO (e := 35) (d := k_api_Node) (cs := [.string (ByteArray.mk #[47]), .string (ByteArray.mk #[]), .int .i64 0, .int .i64 0, .int .i64 0]) (xs := [(⟨(ByteArray.mk #[47]), (ByteArray.mk #[]), 0, 0, 0⟩ : S_api_Node)]) E H (wn rfl) rfl rfl (ps := [(0, .tmp 1)]) (parts := [(0, .agg #[.string (ByteArray.mk #[47]), .string (ByteArray.mk #[]), .int .i64 0, .int .i64 0, .int .i64 0])]) rfl (by simp only [List.map]; rw [E.eval (x := .tmp 1) (v := .agg #[.string (ByteArray.mk #[47]), .string (ByteArray.mk #[]), .int .i64 0, .int .i64 0, .int .i64 0]) rfl]) (by kernel_rfl) rfl rfl (fun ok hr => (Rows.single (d := k_api_Node) (cs := [.string (ByteArray.mk #[47]), .string (ByteArray.mk #[]), .int .i64 0, .int .i64 0, .int .i64 0]) (x := (⟨(ByteArray.mk #[47]), (ByteArray.mk #[]), 0, 0, 0⟩ : S_api_Node)) k_api_Node_mk)) ?_
 clear E H; clear a; clear w; intro v1 w a H E
 refine sv E rfl rfl rfl (x_assign E rfl rfl) ?_
 clear a E;intro a E
 refine wpList_nil ?_
 refine q_then ?_
 refine wp_ret ?_
 refine out1 E rfl rfl ?_
 obtain rfl := Option.some.inj hm
 exact ⟨v1, rfl, H.reads (fun r hr => hr)⟩
end Go.Cb

set_option linter.unusedVariables false
set_option linter.unusedSimpArgs false
namespace Go.Cb
open Go.Proofs Go.RowKit
def m_cantonlaw06_head : Option Bool :=
  m_nodes_New.bind fun u2 => (m_nodes_Apply u2 (⟨1, (ByteArray.mk #[47, 113]), (ByteArray.mk #[]), 0, 0, true⟩ : S_api_Op)).bind fun u5 => (m_nodes_Apply u5.1 (⟨3, (ByteArray.mk #[47, 113, 48, 48, 48, 48]), (ByteArray.mk #[120]), (-1), 0, false⟩ : S_api_Op)).bind fun u12 => (m_nodes_Apply u12.1 (⟨2, (ByteArray.mk #[47, 113, 48, 48, 48, 48]), (ByteArray.mk #[]), 0, 0, false⟩ : S_api_Op)).bind fun u19 => (m_nodes_Apply u12.1 (⟨6, (ByteArray.mk #[47]), (ByteArray.mk #[]), 0, 0, false⟩ : S_api_Op)).bind fun u26 => (m_nodes_Apply ([] : List S_api_Node) (⟨0, (ByteArray.mk #[]), (ByteArray.mk #[]), 0, 0, false⟩ : S_api_Op)).bind fun u33 => (m_nodes_Find u12.1 (ByteArray.mk #[47, 113, 48, 48, 48, 48])).bind fun u40 => if ((u2.length : Int) == 1) = true then (if (sEq u5.2.Path (ByteArray.mk #[47, 113, 48, 48, 48, 48])) = true then (if (u5.2.Err == 0) = true then (if ((u5.1.length : Int) == 2) = true then ((idx u5.1 0).bind fun x47 => if (x47.Turn == 1) = true then (if (u12.2.Version == 1) = true then (if (u19.2.Err == 63) = true then (if ((u26.2.Names.length : Int) == 1) = true then (if (u33.2.Err == 1) = true then (if u40.2 = true then (if (sEq u40.1.Data (ByteArray.mk #[120])) = true then ((m_nodes_Right u12.1).bind fun u57 => if u57 = true then ((m_nodes_May (⟨0, (ByteArray.mk #[]), (ByteArray.mk #[]), 0, 0, false⟩ : S_api_Op)).bind fun u60 => some (!u60)) else (some (false))) else (some (false))) else (some (false))) else (some (false))) else (some (false))) else (some (false))) else (some (false))) else (some (false))) else (some (false))) else (some (false))) else (some (false))) else (some (false))
set_option maxRecDepth 20000 in
set_option maxHeartbeats 1000000 in
theorem c_cantonlaw06_head {w : World} {Fo : List Ob} {rs : List Rp} (H : Sep w (Fo) rs) (hr1 : rTab Tryz.prog ∈ rs) {r : Bool} (hm : m_cantonlaw06_head = some r) :
    Calls Tryz.prog 4 [].toArray w (Ret fun v w' => .bool r = v ∧ Sep w' (Fo) (rs)) := by
 unfold m_cantonlaw06_head at hm
 refine enter Tryz.func4 rfl Tryz.ntmps4 rfl fun a E => ?_
 simp only [enum, Nat.reduceAdd] at E
 refine wp_seq ?_
 refine wp_region_lit ?_
 refine sv E rfl rfl rfl (x_assign E rfl rfl) ?_
 clear a E;intro a E
 refine wpList_nil ?_
 refine q_then ?_
 refine wp_seq ?_
 refine wp_region_lit ?_
 obtain ⟨u2, hx3, hm⟩ := bnd hm
 refine st_call E (wn rfl) rfl rfl (x_call E rfl rfl (cf17 _)) (c_nodes_New H hx3) ?_
 clear E H; clear a; clear w; rintro _ w ⟨v4, rfl, H⟩ a E
 refine sv E rfl rfl rfl (x_assign E rfl rfl) ?_
 clear a E;intro a E
 refine wpList_nil ?_
 refine q_then ?_
 refine wp_seq ?_
 refine wp_region_lit ?_
 refine sv E rfl rfl rfl (x_move E rfl rfl) ?_
 clear a E;intro a E
 refine sv E rfl rfl rfl (x_build E (ps := [(0, .const (.int .i64 1)), (1, .const (.string (ByteArray.mk #[47, 113]))), (5, .const (.bool true))]) (vs := [(0, .int .i64 1), (1, .string (ByteArray.mk #[47, 113])), (5, .bool true)]) rfl (by simp only [List.map]; rw [E.eval (x := .const (.int .i64 1)) (v := .int .i64 1) rfl, E.eval (x := .const (.string (ByteArray.mk #[47, 113]))) (v := .string (ByteArray.mk #[47, 113])) rfl, E.eval (x := .const (.bool true)) (v := .bool true) rfl]) (v := .agg #[.int .i64 1, .string (ByteArray.mk #[47, 113]), .string (ByteArray.mk #[]), .int .i64 0, .int .i64 0, .bool true]) (by kernel_rfl)) ?_
 clear a E;intro a E
 replace H := H.thaw (i := 0) rfl
 replace H : Sep w (Fo) (rSl k_api_Node v4 u2 :: rs) := H
 obtain ⟨u5, hx6, hm⟩ := bnd hm
 refine st_call E (wn rfl) rfl rfl (x_call E rfl rfl (cf7 _)) (c_nodes_Apply v4 u2 (⟨1, (ByteArray.mk #[47, 113]), (ByteArray.mk #[]), 0, 0, true⟩ : S_api_Op) H (.head _) (.tail _ hr1) hx6) ?_
 clear E H; clear a; clear w; rintro _ w ⟨v7, v8, rfl, H⟩ a E
 refine sv E rfl rfl rfl (x_move E rfl rfl) ?_
 clear a E;intro a E
 refine sv E rfl rfl rfl (x_ext E rfl rfl rfl) ?_
 clear a E;intro a E
 refine sv E rfl rfl rfl (x_ext E rfl rfl rfl) ?_
 clear a E;intro a E
 refine st_alloc E H (wn rfl) rfl rfl (cs := [.int .i64 0, .string (ByteArray.mk #[]), .string (ByteArray.mk #[]), .int .i64 0, .slice none 0 0]) rfl (z := .agg #[.int .i64 0, .string ⟨#[]⟩, .string ⟨#[]⟩, .int .i64 0, .slice none 0 0]) (by kernel_rfl) rfl ?_
 clear E H; clear a; clear w; intro p9 w a H E
 refine sv E rfl rfl rfl (x_assign E rfl rfl) ?_
 clear a E;intro a E
 obtain ⟨q10, x11, rfl⟩ := H.slform (.tail _ (.head _))
 refine st_st (i := 0) E H (wn rfl) rfl (us := [.int .i64 u5.2.Err, .string u5.2.Path, .string u5.2.Data, .int .i64 u5.2.Version, (.slice q10 u5.2.Names.length x11)]) rfl rfl rfl rfl rfl sz31 rfl rfl ?_
 clear H; clear w; intro w H
 replace H : Sep w (Blk p9 31 [.int .i64 u5.2.Err, .string u5.2.Path, .string u5.2.Data, .int .i64 u5.2.Version, (.slice q10 u5.2.Names.length x11)] :: Fo) _ := H
 refine wpList_nil ?_
 refine q_then ?_
 refine wp_seq ?_
 refine wp_region_lit ?_
 refine sv E rfl rfl rfl (x_move E rfl rfl) ?_
 clear a E;intro a E
 refine sv E rfl rfl rfl (x_build E (ps := [(0, .const (.int .i64 3)), (1, .const (.string (ByteArray.mk #[47, 113, 48, 48, 48, 48]))), (2, .const (.string (ByteArray.mk #[120]))), (3, .const (.int .i64 (-1)))]) (vs := [(0, .int .i64 3), (1, .string (ByteArray.mk #[47, 113, 48, 48, 48, 48])), (2, .string (ByteArray.mk #[120])), (3, .int .i64 (-1))]) rfl (by simp only [List.map]; rw [E.eval (x := .const (.int .i64 3)) (v := .int .i64 3) rfl, E.eval (x := .const (.string (ByteArray.mk #[47, 113, 48, 48, 48, 48]))) (v := .string (ByteArray.mk #[47, 113, 48, 48, 48, 48])) rfl, E.eval (x := .const (.string (ByteArray.mk #[120]))) (v := .string (ByteArray.mk #[120])) rfl, E.eval (x := .const (.int .i64 (-1))) (v := .int .i64 (-1)) rfl]) (v := .agg #[.int .i64 3, .string (ByteArray.mk #[47, 113, 48, 48, 48, 48]), .string (ByteArray.mk #[120]), .int .i64 (-1), .int .i64 0, .bool false]) (by kernel_rfl)) ?_
 clear a E;intro a E
 obtain ⟨u12, hx13, hm⟩ := bnd hm
 refine st_call E (wn rfl) rfl rfl (x_call E rfl rfl (cf7 _)) (c_nodes_Apply v7 u5.1 (⟨3, (ByteArray.mk #[47, 113, 48, 48, 48, 48]), (ByteArray.mk #[120]), (-1), 0, false⟩ : S_api_Op) H (.head _) (.tail _ (.tail _ (.tail _ hr1))) hx13) ?_
 clear E H; clear a; clear w; rintro _ w ⟨v14, v15, rfl, H⟩ a E
 refine sv E rfl rfl rfl (x_move E rfl rfl) ?_
 clear a E;intro a E
 refine sv E rfl rfl rfl (x_ext E rfl rfl rfl) ?_
 clear a E;intro a E
 refine sv E rfl rfl rfl (x_ext E rfl rfl rfl) ?_
 clear a E;intro a E
 refine st_alloc E H (wn rfl) rfl rfl (cs := [.int .i64 0, .string (ByteArray.mk #[]), .string (ByteArray.mk #[]), .int .i64 0, .slice none 0 0]) rfl (z := .agg #[.int .i64 0, .string ⟨#[]⟩, .string ⟨#[]⟩, .int .i64 0, .slice none 0 0]) (by kernel_rfl) rfl ?_
 clear E H; clear a; clear w; intro p16 w a H E
 refine sv E rfl rfl rfl (x_assign E rfl rfl) ?_
 clear a E;intro a E
 obtain ⟨q17, x18, rfl⟩ := H.slform (.tail _ (.head _))
 refine st_st (i := 0) E H (wn rfl) rfl (us := [.int .i64 u12.2.Err, .string u12.2.Path, .string u12.2.Data, .int .i64 u12.2.Version, (.slice q17 u12.2.Names.length x18)]) rfl rfl rfl rfl rfl sz31 rfl rfl ?_
 clear H; clear w; intro w H
 replace H : Sep w (Blk p16 31 [.int .i64 u12.2.Err, .string u12.2.Path, .string u12.2.Data, .int .i64 u12.2.Version, (.slice q17 u12.2.Names.length x18)] :: Blk p9 31 [.int .i64 u5.2.Err, .string u5.2.Path, .string u5.2.Data, .int .i64 u5.2.Version, (.slice q10 u5.2.Names.length x11)] :: Fo) _ := H
 refine wpList_nil ?_
 refine q_then ?_
 refine wp_seq ?_
 refine wp_region_lit ?_
 refine sv E rfl rfl rfl (x_move E rfl rfl) ?_
 clear a E;intro a E
 refine sv E rfl rfl rfl (x_build E (ps := [(0, .const (.int .i64 2)), (1, .const (.string (ByteArray.mk #[47, 113, 48, 48, 48, 48]))), (3, .const (.int .i64 0))]) (vs := [(0, .int .i64 2), (1, .string (ByteArray.mk #[47, 113, 48, 48, 48, 48])), (3, .int .i64 0)]) rfl (by simp only [List.map]; rw [E.eval (x := .const (.int .i64 2)) (v := .int .i64 2) rfl, E.eval (x := .const (.string (ByteArray.mk #[47, 113, 48, 48, 48, 48]))) (v := .string (ByteArray.mk #[47, 113, 48, 48, 48, 48])) rfl, E.eval (x := .const (.int .i64 0)) (v := .int .i64 0) rfl]) (v := .agg #[.int .i64 2, .string (ByteArray.mk #[47, 113, 48, 48, 48, 48]), .string (ByteArray.mk #[]), .int .i64 0, .int .i64 0, .bool false]) (by kernel_rfl)) ?_
 clear a E;intro a E
 obtain ⟨u19, hx20, hm⟩ := bnd hm
 refine st_call E (wn rfl) rfl rfl (x_call E rfl rfl (cf7 _)) (c_nodes_Apply v14 u12.1 (⟨2, (ByteArray.mk #[47, 113, 48, 48, 48, 48]), (ByteArray.mk #[]), 0, 0, false⟩ : S_api_Op) H (.head _) (.tail _ (.tail _ (.tail _ (.tail _ (.tail _ hr1))))) hx20) ?_
 clear E H; clear a; clear w; rintro _ w ⟨v21, v22, rfl, H⟩ a E
 refine sv E rfl rfl rfl (x_move E rfl rfl) ?_
 clear a E;intro a E
 refine sv E rfl rfl rfl (x_ext E rfl rfl rfl) ?_
 clear a E;intro a E
 refine sv E rfl rfl rfl (x_ext E rfl rfl rfl) ?_
 clear a E;intro a E
 refine st_alloc E H (wn rfl) rfl rfl (cs := [.int .i64 0, .string (ByteArray.mk #[]), .string (ByteArray.mk #[]), .int .i64 0, .slice none 0 0]) rfl (z := .agg #[.int .i64 0, .string ⟨#[]⟩, .string ⟨#[]⟩, .int .i64 0, .slice none 0 0]) (by kernel_rfl) rfl ?_
 clear E H; clear a; clear w; intro p23 w a H E
 refine sv E rfl rfl rfl (x_assign E rfl rfl) ?_
 clear a E;intro a E
 obtain ⟨q24, x25, rfl⟩ := H.slform (.tail _ (.head _))
 refine st_st (i := 0) E H (wn rfl) rfl (us := [.int .i64 u19.2.Err, .string u19.2.Path, .string u19.2.Data, .int .i64 u19.2.Version, (.slice q24 u19.2.Names.length x25)]) rfl rfl rfl rfl rfl sz31 rfl rfl ?_
 clear H; clear w; intro w H
 replace H : Sep w (Blk p23 31 [.int .i64 u19.2.Err, .string u19.2.Path, .string u19.2.Data, .int .i64 u19.2.Version, (.slice q24 u19.2.Names.length x25)] :: Blk p16 31 [.int .i64 u12.2.Err, .string u12.2.Path, .string u12.2.Data, .int .i64 u12.2.Version, (.slice q17 u12.2.Names.length x18)] :: Blk p9 31 [.int .i64 u5.2.Err, .string u5.2.Path, .string u5.2.Data, .int .i64 u5.2.Version, (.slice q10 u5.2.Names.length x11)] :: Fo) _ := H
 refine wpList_nil ?_
 refine q_then ?_
 refine wp_seq ?_
 refine wp_region_lit ?_
 refine sv E rfl rfl rfl (x_move E rfl rfl) ?_
 clear a E;intro a E
 refine sv E rfl rfl rfl (x_build E (ps := [(0, .const (.int .i64 6)), (1, .const (.string (ByteArray.mk #[47])))]) (vs := [(0, .int .i64 6), (1, .string (ByteArray.mk #[47]))]) rfl (by simp only [List.map]; rw [E.eval (x := .const (.int .i64 6)) (v := .int .i64 6) rfl, E.eval (x := .const (.string (ByteArray.mk #[47]))) (v := .string (ByteArray.mk #[47])) rfl]) (v := .agg #[.int .i64 6, .string (ByteArray.mk #[47]), .string (ByteArray.mk #[]), .int .i64 0, .int .i64 0, .bool false]) (by kernel_rfl)) ?_
 clear a E;intro a E
 obtain ⟨u26, hx27, hm⟩ := bnd hm
 refine st_call E (wn rfl) rfl rfl (x_call E rfl rfl (cf7 _)) (c_nodes_Apply v14 u12.1 (⟨6, (ByteArray.mk #[47]), (ByteArray.mk #[]), 0, 0, false⟩ : S_api_Op) H (.tail _ (.tail _ (.head _))) (.tail _ (.tail _ (.tail _ (.tail _ (.tail _ (.tail _ (.tail _ hr1))))))) hx27) ?_
 clear E H; clear a; clear w; rintro _ w ⟨v28, v29, rfl, H⟩ a E
 refine sv E rfl rfl rfl (x_move E rfl rfl) ?_
 clear a E;intro a E
 refine sv E rfl rfl rfl (x_ext E rfl rfl rfl) ?_
 clear a E;intro a E
 refine sv E rfl rfl rfl (x_ext E rfl rfl rfl) ?_
 clear a E;intro a E
 refine st_alloc E H (wn rfl) rfl rfl (cs := [.int .i64 0, .string (ByteArray.mk #[]), .string (ByteArray.mk #[]), .int .i64 0, .slice none 0 0]) rfl (z := .agg #[.int .i64 0, .string ⟨#[]⟩, .string ⟨#[]⟩, .int .i64 0, .slice none 0 0]) (by kernel_rfl) rfl ?_
 clear E H; clear a; clear w; intro p30 w a H E
 refine sv E rfl rfl rfl (x_assign E rfl rfl) ?_
 clear a E;intro a E
 obtain ⟨q31, x32, rfl⟩ := H.slform (.tail _ (.head _))
 refine st_st (i := 0) E H (wn rfl) rfl (us := [.int .i64 u26.2.Err, .string u26.2.Path, .string u26.2.Data, .int .i64 u26.2.Version, (.slice q31 u26.2.Names.length x32)]) rfl rfl rfl rfl rfl sz31 rfl rfl ?_
 clear H; clear w; intro w H
 replace H : Sep w (Blk p30 31 [.int .i64 u26.2.Err, .string u26.2.Path, .string u26.2.Data, .int .i64 u26.2.Version, (.slice q31 u26.2.Names.length x32)] :: Blk p23 31 [.int .i64 u19.2.Err, .string u19.2.Path, .string u19.2.Data, .int .i64 u19.2.Version, (.slice q24 u19.2.Names.length x25)] :: Blk p16 31 [.int .i64 u12.2.Err, .string u12.2.Path, .string u12.2.Data, .int .i64 u12.2.Version, (.slice q17 u12.2.Names.length x18)] :: Blk p9 31 [.int .i64 u5.2.Err, .string u5.2.Path, .string u5.2.Data, .int .i64 u5.2.Version, (.slice q10 u5.2.Names.length x11)] :: Fo) _ := H
 refine wpList_nil ?_
 refine q_then ?_
 refine wp_seq ?_
 refine wp_region_lit ?_
 refine sv E rfl rfl rfl (x_build E (ps := []) (vs := []) rfl rfl (v := .agg #[.int .i64 0, .string (ByteArray.mk #[]), .string (ByteArray.mk #[]), .int .i64 0, .int .i64 0, .bool false]) (by kernel_rfl)) ?_
 clear a E;intro a E
 replace H := H.nilSl k_api_Node
 replace H : Sep w (Blk p30 31 [.int .i64 u26.2.Err, .string u26.2.Path, .string u26.2.Data, .int .i64 u26.2.Version, (.slice q31 u26.2.Names.length x32)] :: Blk p23 31 [.int .i64 u19.2.Err, .string u19.2.Path, .string u19.2.Data, .int .i64 u19.2.Version, (.slice q24 u19.2.Names.length x25)] :: Blk p16 31 [.int .i64 u12.2.Err, .string u12.2.Path, .string u12.2.Data, .int .i64 u12.2.Version, (.slice q17 u12.2.Names.length x18)] :: Blk p9 31 [.int .i64 u5.2.Err, .string u5.2.Path, .string u5.2.Data, .int .i64 u5.2.Version, (.slice q10 u5.2.Names.length x11)] :: Fo) (rSl k_api_Node (.slice none 0 0) ([] : List S_api_Node) :: rSl k_api_Node v28 u26.1 :: rSl kS (.slice q31 u26.2.Names.length x32) u26.2.Names :: rSl k_api_Node v21 u19.1 :: rSl kS (.slice q24 u19.2.Names.length x25) u19.2.Names :: rSl k_api_Node v14 u12.1 :: rSl kS (.slice q17 u12.2.Names.length x18) u12.2.Names :: rSl k_api_Node v7 u5.1 :: rSl kS (.slice q10 u5.2.Names.length x11) u5.2.Names :: rSl k_api_Node v4 u2 :: rs) := H
 obtain ⟨u33, hx34, hm⟩ := bnd hm
 refine st_call E (wn rfl) rfl rfl (x_call E rfl rfl (cf7 _)) (c_nodes_Apply (.slice none 0 0) ([] : List S_api_Node) (⟨0, (ByteArray.mk #[]), (ByteArray.mk #[]), 0, 0, false⟩ : S_api_Op) H (.head _) (.tail _ (.tail _ (.tail _ (.tail _ (.tail _ (.tail _ (.tail _ (.tail _ (.tail _ (.tail _ hr1)))))))))) hx34) ?_
 clear E H; clear a; clear w; rintro _ w ⟨v35, v36, rfl, H⟩ a E
 refine sv E rfl rfl rfl (x_move E rfl rfl) ?_
 clear a E;intro a E
 refine sv E rfl rfl rfl (x_ext E rfl rfl rfl) ?_
 clear a E;intro a E
 refine sv E rfl rfl rfl (x_ext E rfl rfl rfl) ?_
 clear a E;intro a E
 refine st_alloc E H (wn rfl) rfl rfl (cs := [.int .i64 0, .string (ByteArray.mk #[]), .string (ByteArray.mk #[]), .int .i64 0, .slice none 0 0]) rfl (z := .agg #[.int .i64 0, .string ⟨#[]⟩, .string ⟨#[]⟩, .int .i64 0, .slice none 0 0]) (by kernel_rfl) rfl ?_
 clear E H; clear a; clear w; intro p37 w a H E
 refine sv E rfl rfl rfl (x_assign E rfl rfl) ?_
 clear a E;intro a E
 obtain ⟨q38, x39, rfl⟩ := H.slform (.tail _ (.head _))
 refine st_st (i := 0) E H (wn rfl) rfl (us := [.int .i64 u33.2.Err, .string u33.2.Path, .string u33.2.Data, .int .i64 u33.2.Version, (.slice q38 u33.2.Names.length x39)]) rfl rfl rfl rfl rfl sz31 rfl rfl ?_
 clear H; clear w; intro w H
 replace H : Sep w (Blk p37 31 [.int .i64 u33.2.Err, .string u33.2.Path, .string u33.2.Data, .int .i64 u33.2.Version, (.slice q38 u33.2.Names.length x39)] :: Blk p30 31 [.int .i64 u26.2.Err, .string u26.2.Path, .string u26.2.Data, .int .i64 u26.2.Version, (.slice q31 u26.2.Names.length x32)] :: Blk p23 31 [.int .i64 u19.2.Err, .string u19.2.Path, .string u19.2.Data, .int .i64 u19.2.Version, (.slice q24 u19.2.Names.length x25)] :: Blk p16 31 [.int .i64 u12.2.Err, .string u12.2.Path, .string u12.2.Data, .int .i64 u12.2.Version, (.slice q17 u12.2.Names.length x18)] :: Blk p9 31 [.int .i64 u5.2.Err, .string u5.2.Path, .string u5.2.Data, .int .i64 u5.2.Version, (.slice q10 u5.2.Names.length x11)] :: Fo) _ := H
 refine wpList_nil ?_
 refine q_then ?_
 refine wp_seq ?_
 refine wp_region_lit ?_
 refine sv E rfl rfl rfl (x_move E rfl rfl) ?_
 clear a E;intro a E
 obtain ⟨u40, hx41, hm⟩ := bnd hm
 refine st_call E (wn rfl) rfl rfl (x_call E rfl rfl (cf9 _)) (c_nodes_Find v14 u12.1 (ByteArray.mk #[47, 113, 48, 48, 48, 48]) H (.tail _ (.tail _ (.tail _ (.tail _ (.tail _ (.tail _ (.tail _ (.head _)))))))) hx41) ?_
 clear E H; clear a; clear w; rintro _ w ⟨rfl, H⟩ a E
 refine sv E rfl rfl rfl (x_move E rfl rfl) ?_
 clear a E;intro a E
 refine sv E rfl rfl rfl (x_ext E rfl rfl rfl) ?_
 clear a E;intro a E
 refine sv E rfl rfl rfl (x_ext E rfl rfl rfl) ?_
 clear a E;intro a E
 refine st_alloc E H (wn rfl) rfl rfl (cs := [.string (ByteArray.mk #[]), .string (ByteArray.mk #[]), .int .i64 0, .int .i64 0, .int .i64 0]) rfl (z := .agg #[.string ⟨#[]⟩, .string ⟨#[]⟩, .int .i64 0, .int .i64 0, .int .i64 0]) (by kernel_rfl) rfl ?_
 clear E H; clear a; clear w; intro p42 w a H E
 refine st_st (i := 0) E H (wn rfl) rfl (us := [.string u40.1.Path, .string u40.1.Data, .int .i64 u40.1.Version, .int .i64 u40.1.Turn, .int .i64 u40.1.Owner]) rfl rfl rfl rfl rfl sz35 rfl rfl ?_
 clear H; clear w; intro w H
 replace H : Sep w (Blk p42 35 [.string u40.1.Path, .string u40.1.Data, .int .i64 u40.1.Version, .int .i64 u40.1.Turn, .int .i64 u40.1.Owner] :: Blk p37 31 [.int .i64 u33.2.Err, .string u33.2.Path, .string u33.2.Data, .int .i64 u33.2.Version, (.slice q38 u33.2.Names.length x39)] :: Blk p30 31 [.int .i64 u26.2.Err, .string u26.2.Path, .string u26.2.Data, .int .i64 u26.2.Version, (.slice q31 u26.2.Names.length x32)] :: Blk p23 31 [.int .i64 u19.2.Err, .string u19.2.Path, .string u19.2.Data, .int .i64 u19.2.Version, (.slice q24 u19.2.Names.length x25)] :: Blk p16 31 [.int .i64 u12.2.Err, .string u12.2.Path, .string u12.2.Data, .int .i64 u12.2.Version, (.slice q17 u12.2.Names.length x18)] :: Blk p9 31 [.int .i64 u5.2.Err, .string u5.2.Path, .string u5.2.Data, .int .i64 u5.2.Version, (.slice q10 u5.2.Names.length x11)] :: Fo) _ := H
 refine sv E rfl rfl rfl (x_assign E rfl rfl) ?_
 clear a E;intro a E
 refine wpList_nil ?_
 refine q_then ?_
 refine wp_seq ?_
 refine wp_region_lit ?_
 refine sv E rfl rfl rfl (x_move E rfl rfl) ?_
 clear a E;intro a E
 refine sv E rfl rfl rfl (x_lenS E H rfl rfl (.tail _ (.tail _ (.tail _ (.tail _ (.tail _ (.tail _ (.tail _ (.tail _ (.tail _ (.tail _ (.tail _ (.head _)))))))))))) Tryz.underlying22) ?_
 clear a E;intro a E
 refine sv E rfl rfl rfl (x_bin E rfl rfl rfl rfl) ?_
 clear a E;intro a E
 refine sv E rfl rfl rfl (x_move E rfl rfl) ?_
 clear a E;intro a E
 rcases Bool.eq_false_or_eq_true ((u2.length : Int) == 1) with hb43 | hb43
 ·rw [if_t hb43] at hm
  refine st_val E (ws' E rfl rfl rfl rfl hb43) rfl rfl (x_fa E rfl rfl (v := .pointer (some ⟨p9, 1, none⟩)) (fa31_1 _ _)) ?_
  clear a E;intro a E
  refine st_val E (ws' E rfl rfl rfl rfl hb43) rfl rfl (x_ldB (i := 5) E H rfl rfl rfl rfl Tryz.underlying9 rfl) ?_
  clear a E;intro a E
  refine st_val E (ws' E rfl rfl rfl rfl hb43) rfl rfl (x_str E rfl rfl rfl rfl) ?_
  clear a E;intro a E
  refine sv E rfl rfl rfl (x_pickT E rfl rfl hb43 rfl) ?_
  clear a E;intro a E
  refine sv E rfl rfl rfl (x_move E rfl rfl) ?_
  clear a E;intro a E
  rcases Bool.eq_false_or_eq_true (sEq u5.2.Path (ByteArray.mk #[47, 113, 48, 48, 48, 48])) with hb44 | hb44
  ·rw [if_t hb44] at hm
   refine st_val E (ws' E rfl rfl rfl rfl hb44) rfl rfl (x_fa E rfl rfl (v := .pointer (some ⟨p9, 0, none⟩)) (fa31_0 _ _)) ?_
   clear a E;intro a E
   refine st_val E (ws' E rfl rfl rfl rfl hb44) rfl rfl (x_ldB (i := 5) E H rfl rfl rfl rfl Tryz.underlying28 rfl) ?_
   clear a E;intro a E
   refine st_val E (ws' E rfl rfl rfl rfl hb44) rfl rfl (x_bin E rfl rfl rfl rfl) ?_
   clear a E;intro a E
   refine sv E rfl rfl rfl (x_pickT E rfl rfl hb44 rfl) ?_
   clear a E;intro a E
   refine sv E rfl rfl rfl (x_move E rfl rfl) ?_
   clear a E;intro a E
   rcases Bool.eq_false_or_eq_true (u5.2.Err == 0) with hb45 | hb45
   ·rw [if_t hb45] at hm
    refine st_val E (ws' E rfl rfl rfl rfl hb45) rfl rfl (x_move E rfl rfl) ?_
    clear a E;intro a E
    refine st_val E (ws' E rfl rfl rfl rfl hb45) rfl rfl (x_lenS E H rfl rfl (.tail _ (.tail _ (.tail _ (.tail _ (.tail _ (.tail _ (.tail _ (.tail _ (.tail _ (.head _)))))))))) Tryz.underlying22) ?_
    clear a E;intro a E
    refine st_val E (ws' E rfl rfl rfl rfl hb45) rfl rfl (x_bin E rfl rfl rfl rfl) ?_
    clear a E;intro a E
    refine sv E rfl rfl rfl (x_pickT E rfl rfl hb45 rfl) ?_
    clear a E;intro a E
    refine sv E rfl rfl rfl (x_move E rfl rfl) ?_
    clear a E;intro a E
    rcases Bool.eq_false_or_eq_true ((u5.1.length : Int) == 2) with hb46 | hb46
    ·rw [if_t hb46] at hm
     refine st_val E (ws' E rfl rfl rfl rfl hb46) rfl rfl (x_move E rfl rfl) ?_
     clear a E;intro a E
     obtain ⟨x47, hx48, hm⟩ := bnd hm
     refine st_ixS E H (ws' E rfl rfl rfl rfl hb46) rfl rfl rfl rfl rfl (.tail _ (.tail _ (.tail _ (.tail _ (.tail _ (.tail _ (.tail _ (.tail _ (.tail _ (.head _)))))))))) Tryz.underlying22 sz35 hx48 ?_
     clear E H; clear a; intro q49 a H E
     replace H := H.derive1 (.head _) (rAt (kI .i64) (q49.add 3) x47.Turn) (fun ok h => k_api_Node_at3 h)
     refine st_val E (ws' E rfl rfl rfl rfl hb46) rfl rfl (x_fa E rfl rfl (fa35_3 _ _)) ?_
     clear a E;intro a E
     refine st_val E (ws' E rfl rfl rfl rfl hb46) rfl rfl (x_ldA E H rfl rfl (.head _) Tryz.underlying2 rfl) ?_
     clear a E;intro a E
     refine st_val E (ws' E rfl rfl rfl rfl hb46) rfl rfl (x_bin E rfl rfl rfl rfl) ?_
     clear a E;intro a E
     refine sv E rfl rfl rfl (x_pickT E rfl rfl hb46 rfl) ?_
     clear a E;intro a E
     refine sv E rfl rfl rfl (x_move E rfl rfl) ?_
     clear a E;intro a E
     rcases Bool.eq_false_or_eq_true (x47.Turn == 1) with hb50 | hb50
     ·rw [if_t hb50] at hm
      refine st_val E (ws' E rfl rfl rfl rfl hb50) rfl rfl (x_fa E rfl rfl (v := .pointer (some ⟨p16, 3, none⟩)) (fa31_3 _ _)) ?_
      clear a E;intro a E
      refine st_val E (ws' E rfl rfl rfl rfl hb50) rfl rfl (x_ldB (i := 4) E H rfl rfl rfl rfl Tryz.underlying2 rfl) ?_
      clear a E;intro a E
      refine st_val E (ws' E rfl rfl rfl rfl hb50) rfl rfl (x_bin E rfl rfl rfl rfl) ?_
      clear a E;intro a E
      refine sv E rfl rfl rfl (x_pickT E rfl rfl hb50 rfl) ?_
      clear a E;intro a E
      refine sv E rfl rfl rfl (x_move E rfl rfl) ?_
      clear a E;intro a E
      rcases Bool.eq_false_or_eq_true (u12.2.Version == 1) with hb51 | hb51
      ·rw [if_t hb51] at hm
       refine st_val E (ws' E rfl rfl rfl rfl hb51) rfl rfl (x_fa E rfl rfl (v := .pointer (some ⟨p23, 0, none⟩)) (fa31_0 _ _)) ?_
       clear a E;intro a E
       refine st_val E (ws' E rfl rfl rfl rfl hb51) rfl rfl (x_ldB (i := 3) E H rfl rfl rfl rfl Tryz.underlying28 rfl) ?_
       clear a E;intro a E
       refine st_val E (ws' E rfl rfl rfl rfl hb51) rfl rfl (x_bin E rfl rfl rfl rfl) ?_
       clear a E;intro a E
       refine sv E rfl rfl rfl (x_pickT E rfl rfl hb51 rfl) ?_
       clear a E;intro a E
       refine sv E rfl rfl rfl (x_move E rfl rfl) ?_
       clear a E;intro a E
       rcases Bool.eq_false_or_eq_true (u19.2.Err == 63) with hb52 | hb52
       ·rw [if_t hb52] at hm
        refine st_val E (ws' E rfl rfl rfl rfl hb52) rfl rfl (x_fa E rfl rfl (v := .pointer (some ⟨p30, 4, none⟩)) (fa31_4 _ _)) ?_
        clear a E;intro a E
        refine st_val E (ws' E rfl rfl rfl rfl hb52) rfl rfl (x_ldB (i := 2) E H rfl rfl rfl rfl Tryz.underlying29 rfl) ?_
        clear a E;intro a E
        refine st_val E (ws' E rfl rfl rfl rfl hb52) rfl rfl (x_lenS E H rfl rfl (.tail _ (.tail _ (.tail _ (.tail _ (.tail _ (.tail _ (.head _))))))) Tryz.underlying29) ?_
        clear a E;intro a E
        refine st_val E (ws' E rfl rfl rfl rfl hb52) rfl rfl (x_bin E rfl rfl rfl rfl) ?_
        clear a E;intro a E
        refine sv E rfl rfl rfl (x_pickT E rfl rfl hb52 rfl) ?_
        clear a E;intro a E
        refine sv E rfl rfl rfl (x_move E rfl rfl) ?_
        clear a E;intro a E
        rcases Bool.eq_false_or_eq_true ((u26.2.Names.length : Int) == 1) with hb53 | hb53
        ·rw [if_t hb53] at hm
         refine st_val E (ws' E rfl rfl rfl rfl hb53) rfl rfl (x_fa E rfl rfl (v := .pointer (some ⟨p37, 0, none⟩)) (fa31_0 _ _)) ?_
         clear a E;intro a E
         refine st_val E (ws' E rfl rfl rfl rfl hb53) rfl rfl (x_ldB (i := 1) E H rfl rfl rfl rfl Tryz.underlying28 rfl) ?_
         clear a E;intro a E
         refine st_val E (ws' E rfl rfl rfl rfl hb53) rfl rfl (x_bin E rfl rfl rfl rfl) ?_
         clear a E;intro a E
         refine sv E rfl rfl rfl (x_pickT E rfl rfl hb53 rfl) ?_
         clear a E;intro a E
         refine sv E rfl rfl rfl (x_move E rfl rfl) ?_
         clear a E;intro a E
         rcases Bool.eq_false_or_eq_true (u33.2.Err == 1) with hb54 | hb54
         ·rw [if_t hb54] at hm
          refine st_val E (ws' E rfl rfl rfl rfl hb54) rfl rfl (x_move E rfl rfl) ?_
          clear a E;intro a E
          refine sv E rfl rfl rfl (x_pickT E rfl rfl hb54 rfl) ?_
          clear a E;intro a E
          refine sv E rfl rfl rfl (x_move E rfl rfl) ?_
          clear a E;intro a E
          rcases Bool.eq_false_or_eq_true u40.2 with hb55 | hb55
          ·rw [if_t hb55] at hm
           refine st_val E (ws' E rfl rfl rfl rfl hb55) rfl rfl (x_fa E rfl rfl (v := .pointer (some ⟨p42, 1, none⟩)) (fa35_1 _ _)) ?_
           clear a E;intro a E
           refine st_val E (ws' E rfl rfl rfl rfl hb55) rfl rfl (x_ldB (i := 0) E H rfl rfl rfl rfl Tryz.underlying9 rfl) ?_
           clear a E;intro a E
           refine st_val E (ws' E rfl rfl rfl rfl hb55) rfl rfl (x_str E rfl rfl rfl rfl) ?_
           clear a E;intro a E
           refine sv E rfl rfl rfl (x_pickT E rfl rfl hb55 rfl) ?_
           clear a E;intro a E
           refine sv E rfl rfl rfl (x_move E rfl rfl) ?_
           clear a E;intro a E
           rcases Bool.eq_false_or_eq_true (sEq u40.1.Data (ByteArray.mk #[120])) with hb56 | hb56
           ·rw [if_t hb56] at hm
            refine st_val E (ws' E rfl rfl rfl rfl hb56) rfl rfl (x_move E rfl rfl) ?_
            clear a E;intro a E
            obtain ⟨u57, hx58, hm⟩ := bnd hm
            refine st_call E (ws' E rfl rfl rfl rfl hb56) rfl rfl (x_call E rfl rfl (cf11 _)) (c_nodes_Right v14 u12.1 H (.tail _ (.tail _ (.tail _ (.tail _ (.tail _ (.tail _ (.tail _ (.tail _ (.tail _ (.head _)))))))))) hx58) ?_
            clear E H; clear a; clear w; rintro _ w ⟨rfl, H⟩ a E
            refine sv E rfl rfl rfl (x_pickT E rfl rfl hb56 rfl) ?_
            clear a E;intro a E
            refine sv E rfl rfl rfl (x_move E rfl rfl) ?_
            clear a E;intro a E
            rcases Bool.eq_false_or_eq_true u57 with hb59 | hb59
            ·rw [if_t hb59] at hm
             refine st_val E (ws' E rfl rfl rfl rfl hb59) rfl rfl (x_build E (ps := []) (vs := []) rfl rfl (v := .agg #[.int .i64 0, .string (ByteArray.mk #[]), .string (ByteArray.mk #[]), .int .i64 0, .int .i64 0, .bool false]) (by kernel_rfl)) ?_
             clear a E;intro a E
             obtain ⟨u60, hx61, hm⟩ := bnd hm
             refine st_call E (ws' E rfl rfl rfl rfl hb59) rfl rfl (x_call E rfl rfl (cf13 _)) (c_nodes_May (⟨0, (ByteArray.mk #[]), (ByteArray.mk #[]), 0, 0, false⟩ : S_api_Op) H hx61) ?_
             clear E H; clear a; clear w; rintro _ w ⟨rfl, H⟩ a E
             refine st_val E (ws' E rfl rfl rfl rfl hb59) rfl rfl (x_not E rfl rfl) ?_
             clear a E;intro a E
             refine sv E rfl rfl rfl (x_pickT E rfl rfl hb59 rfl) ?_
             clear a E;intro a E
             refine sv E rfl rfl rfl (x_assign E rfl rfl) ?_
             clear a E;intro a E
             refine wpList_nil ?_
             refine q_then ?_
             refine wp_ret ?_
             refine out1 E rfl rfl ?_
             replace H := H.drop 0
             replace H := H.drop 0
             replace H := H.drop 0
             replace H := H.drop 0
             replace H := H.drop 0
             replace H := H.drop 0
             obtain rfl := Option.some.inj hm
             exact ⟨rfl, H.reads (fun r hr => .tail _ (.tail _ (.tail _ (.tail _ (.tail _ (.tail _ (.tail _ (.tail _ (.tail _ (.tail _ (.tail _ (.tail _ (.tail _ (.tail _ (hr)))))))))))))))⟩
            ·rw [if_f hb59] at hm
             refine st_no E (wf' E rfl rfl rfl rfl hb59 rfl) rfl rfl ?_
             clear a E;intro a E
             refine st_no E (wf' E rfl rfl rfl rfl hb59 rfl) rfl rfl ?_
             clear a E;intro a E
             refine st_no E (wf' E rfl rfl rfl rfl hb59 rfl) rfl rfl ?_
             clear a E;intro a E
             refine sv E rfl rfl rfl (x_pickF E rfl rfl hb59 rfl) ?_
             clear a E;intro a E
             refine sv E rfl rfl rfl (x_assign E rfl rfl) ?_
             clear a E;intro a E
             refine wpList_nil ?_
             refine q_then ?_
             refine wp_ret ?_
             refine out1 E rfl rfl ?_
             replace H := H.drop 0
             replace H := H.drop 0
             replace H := H.drop 0
             replace H := H.drop 0
             replace H := H.drop 0
             replace H := H.drop 0
             obtain rfl := Option.some.inj hm
             exact ⟨rfl, H.reads (fun r hr => .tail _ (.tail _ (.tail _ (.tail _ (.tail _ (.tail _ (.tail _ (.tail _ (.tail _ (.tail _ (.tail _ (.tail _ (.tail _ (.tail _ (hr)))))))))))))))⟩
           ·rw [if_f hb56] at hm
            refine st_no E (wf' E rfl rfl rfl rfl hb56 rfl) rfl rfl ?_
            clear a E;intro a E
            refine st_no E (wf' E rfl rfl rfl rfl hb56 rfl) rfl rfl ?_
            clear a E;intro a E
            refine sv E rfl rfl rfl (x_pickF E rfl rfl hb56 rfl) ?_
            clear a E;intro a E
            refine sv E rfl rfl rfl (x_move E rfl rfl) ?_
            clear a E;intro a E
            refine st_no E (wf E rfl rfl rfl rfl rfl) rfl rfl ?_
            clear a E;intro a E
            refine st_no E (wf E rfl rfl rfl rfl rfl) rfl rfl ?_
            clear a E;intro a E
            refine st_no E (wf E rfl rfl rfl rfl rfl) rfl rfl ?_
            clear a E;intro a E
            refine sv E rfl rfl rfl (x_pickF E rfl rfl rfl rfl) ?_
            clear a E;intro a E
            refine sv E rfl rfl rfl (x_assign E rfl rfl) ?_
            clear a E;intro a E
            refine wpList_nil ?_
            refine q_then ?_
            refine wp_ret ?_
            refine out1 E rfl rfl ?_
            replace H := H.drop 0
            replace H := H.drop 0
            replace H := H.drop 0
            replace H := H.drop 0
            replace H := H.drop 0
            replace H := H.drop 0
            obtain rfl := Option.some.inj hm
            exact ⟨rfl, H.reads (fun r hr => .tail _ (.tail _ (.tail _ (.tail _ (.tail _ (.tail _ (.tail _ (.tail _ (.tail _ (.tail _ (.tail _ (.tail _ (.tail _ (.tail _ (hr)))))))))))))))⟩
          ·rw [if_f hb55] at hm
           refine st_no E (wf' E rfl rfl rfl rfl hb55 rfl) rfl rfl ?_
           clear a E;intro a E
           refine st_no E (wf' E rfl rfl rfl rfl hb55 rfl) rfl rfl ?_
           clear a E;intro a E
           refine st_no E (wf' E rfl rfl rfl rfl hb55 rfl) rfl rfl ?_
           clear a E;intro a E
           refine sv E rfl rfl rfl (x_pickF E rfl rfl hb55 rfl) ?_
           clear a E;intro a E
           refine sv E rfl rfl rfl (x_move E rfl rfl) ?_
           clear a E;intro a E
           refine st_no E (wf E rfl rfl rfl rfl rfl) rfl rfl ?_
           clear a E;intro a E
           refine st_no E (wf E rfl rfl rfl rfl rfl) rfl rfl ?_
           clear a E;intro a E
           refine sv E rfl rfl rfl (x_pickF E rfl rfl rfl rfl) ?_
           clear a E;intro a E
           refine sv E rfl rfl rfl (x_move E rfl rfl) ?_
           clear a E;intro a E
           refine st_no E (wf E rfl rfl rfl rfl rfl) rfl rfl ?_
           clear a E;intro a E
           refine st_no E (wf E rfl rfl rfl rfl rfl) rfl rfl ?_
           clear a E;intro a E
           refine st_no E (wf E rfl rfl rfl rfl rfl) rfl rfl ?_
           clear a E;intro a E
           refine sv E rfl rfl rfl (x_pickF E rfl rfl rfl rfl) ?_
           clear a E;intro a E
           refine sv E rfl rfl rfl (x_assign E rfl rfl) ?_
           clear a E;intro a E
           refine wpList_nil ?_
           refine q_then ?_
           refine wp_ret ?_
           refine out1 E rfl rfl ?_
           replace H := H.drop 0
           replace H := H.drop 0
           replace H := H.drop 0
           replace H := H.drop 0
           replace H := H.drop 0
           replace H := H.drop 0
           obtain rfl := Option.some.inj hm
           exact ⟨rfl, H.reads (fun r hr => .tail _ (.tail _ (.tail _ (.tail _ (.tail _ (.tail _ (.tail _ (.tail _ (.tail _ (.tail _ (.tail _ (.tail _ (.tail _ (.tail _ (hr)))))))))))))))⟩
         ·rw [if_f hb54] at hm
          refine st_no E (wf' E rfl rfl rfl rfl hb54 rfl) rfl rfl ?_
          clear a E;intro a E
          refine sv E rfl rfl rfl (x_pickF E rfl rfl hb54 rfl) ?_
          clear a E;intro a E
          refine sv E rfl rfl rfl (x_move E rfl rfl) ?_
          clear a E;intro a E
          refine st_no E (wf E rfl rfl rfl rfl rfl) rfl rfl ?_
          clear a E;intro a E
          refine st_no E (wf E rfl rfl rfl rfl rfl) rfl rfl ?_
          clear a E;intro a E
          refine st_no E (wf E rfl rfl rfl rfl rfl) rfl rfl ?_
          clear a E;intro a E
          refine sv E rfl rfl rfl (x_pickF E rfl rfl rfl rfl) ?_
          clear a E;intro a E
          refine sv E rfl rfl rfl (x_move E rfl rfl) ?_
          clear a E;intro a E
          refine st_no E (wf E rfl rfl rfl rfl rfl) rfl rfl ?_
          clear a E;intro a E
          refine st_no E (wf E rfl rfl rfl rfl rfl) rfl rfl ?_
          clear a E;intro a E
          refine sv E rfl rfl rfl (x_pickF E rfl rfl rfl rfl) ?_
          clear a E;intro a E
          refine sv E rfl rfl rfl (x_move E rfl rfl) ?_
          clear a E;intro a E
          refine st_no E (wf E rfl rfl rfl rfl rfl) rfl rfl ?_
          clear a E;intro a E
          refine st_no E (wf E rfl rfl rfl rfl rfl) rfl rfl ?_
          clear a E;intro a E
          refine st_no E (wf E rfl rfl rfl rfl rfl) rfl rfl ?_
          clear a E;intro a E
          refine sv E rfl rfl rfl (x_pickF E rfl rfl rfl rfl) ?_
          clear a E;intro a E
          refine sv E rfl rfl rfl (x_assign E rfl rfl) ?_
          clear a E;intro a E
          refine wpList_nil ?_
          refine q_then ?_
          refine wp_ret ?_
          refine out1 E rfl rfl ?_
          replace H := H.drop 0
          replace H := H.drop 0
          replace H := H.drop 0
          replace H := H.drop 0
          replace H := H.drop 0
          replace H := H.drop 0
          obtain rfl := Option.some.inj hm
          exact ⟨rfl, H.reads (fun r hr => .tail _ (.tail _ (.tail _ (.tail _ (.tail _ (.tail _ (.tail _ (.tail _ (.tail _ (.tail _ (.tail _ (.tail _ (.tail _ (.tail _ (hr)))))))))))))))⟩
        ·rw [if_f hb53] at hm
         refine st_no E (wf' E rfl rfl rfl rfl hb53 rfl) rfl rfl ?_
         clear a E;intro a E
         refine st_no E (wf' E rfl rfl rfl rfl hb53 rfl) rfl rfl ?_
         clear a E;intro a E
         refine st_no E (wf' E rfl rfl rfl rfl hb53 rfl) rfl rfl ?_
         clear a E;intro a E
         refine sv E rfl rfl rfl (x_pickF E rfl rfl hb53 rfl) ?_
         clear a E;intro a E
         refine sv E rfl rfl rfl (x_move E rfl rfl) ?_
         clear a E;intro a E
         refine st_no E (wf E rfl rfl rfl rfl rfl) rfl rfl ?_
         clear a E;intro a E
         refine sv E rfl rfl rfl (x_pickF E rfl rfl rfl rfl) ?_
         clear a E;intro a E
         refine sv E rfl rfl rfl (x_move E rfl rfl) ?_
         clear a E;intro a E
         refine st_no E (wf E rfl rfl rfl rfl rfl) rfl rfl ?_
         clear a E;intro a E
         refine st_no E (wf E rfl rfl rfl rfl rfl) rfl rfl ?_
         clear a E;intro a E
         refine st_no E (wf E rfl rfl rfl rfl rfl) rfl rfl ?_
         clear a E;intro a E
         refine sv E rfl rfl rfl (x_pickF E rfl rfl rfl rfl) ?_
         clear a E;intro a E
         refine sv E rfl rfl rfl (x_move E rfl rfl) ?_
         clear a E;intro a E
         refine st_no E (wf E rfl rfl rfl rfl rfl) rfl rfl ?_
         clear a E;intro a E
         refine st_no E (wf E rfl rfl rfl rfl rfl) rfl rfl ?_
         clear a E;intro a E
         refine sv E rfl rfl rfl (x_pickF E rfl rfl rfl rfl) ?_
         clear a E;intro a E
         refine sv E rfl rfl rfl (x_move E rfl rfl) ?_
         clear a E;intro a E
         refine st_no E (wf E rfl rfl rfl rfl rfl) rfl rfl ?_
         clear a E;intro a E
         refine st_no E (wf E rfl rfl rfl rfl rfl) rfl rfl ?_
         clear a E;intro a E
         refine st_no E (wf E rfl rfl rfl rfl rfl) rfl rfl ?_
         clear a E;intro a E
         refine sv E rfl rfl rfl (x_pickF E rfl rfl rfl rfl) ?_
         clear a E;intro a E
         refine sv E rfl rfl rfl (x_assign E rfl rfl) ?_
         clear a E;intro a E
         refine wpList_nil ?_
         refine q_then ?_
         refine wp_ret ?_
         refine out1 E rfl rfl ?_
         replace H := H.drop 0
         replace H := H.drop 0
         replace H := H.drop 0
         replace H := H.drop 0
         replace H := H.drop 0
         replace H := H.drop 0
         obtain rfl := Option.some.inj hm
         exact ⟨rfl, H.reads (fun r hr => .tail _ (.tail _ (.tail _ (.tail _ (.tail _ (.tail _ (.tail _ (.tail _ (.tail _ (.tail _ (.tail _ (.tail _ (.tail _ (.tail _ (hr)))))))))))))))⟩
       ·rw [if_f hb52] at hm
        refine st_no E (wf' E rfl rfl rfl rfl hb52 rfl) rfl rfl ?_
        clear a E;intro a E
        refine st_no E (wf' E rfl rfl rfl rfl hb52 rfl) rfl rfl ?_
        clear a E;intro a E
        refine st_no E (wf' E rfl rfl rfl rfl hb52 rfl) rfl rfl ?_
        clear a E;intro a E
        refine st_no E (wf' E rfl rfl rfl rfl hb52 rfl) rfl rfl ?_
        clear a E;intro a E
        refine sv E rfl rfl rfl (x_pickF E rfl rfl hb52 rfl) ?_
        clear a E;intro a E
        refine sv E rfl rfl rfl (x_move E rfl rfl) ?_
        clear a E;intro a E
        refine st_no E (wf E rfl rfl rfl rfl rfl) rfl rfl ?_
        clear a E;intro a E
        refine st_no E (wf E rfl rfl rfl rfl rfl) rfl rfl ?_
        clear a E;intro a E
        refine st_no E (wf E rfl rfl rfl rfl rfl) rfl rfl ?_
        clear a E;intro a E
        refine sv E rfl rfl rfl (x_pickF E rfl rfl rfl rfl) ?_
        clear a E;intro a E
        refine sv E rfl rfl rfl (x_move E rfl rfl) ?_
        clear a E;intro a E
        refine st_no E (wf E rfl rfl rfl rfl rfl) rfl rfl ?_
        clear a E;intro a E
        refine sv E rfl rfl rfl (x_pickF E rfl rfl rfl rfl) ?_
        clear a E;intro a E
        refine sv E rfl rfl rfl (x_move E rfl rfl) ?_
        clear a E;intro a E
        refine st_no E (wf E rfl rfl rfl rfl rfl) rfl rfl ?_
        clear a E;intro a E
        refine st_no E (wf E rfl rfl rfl rfl rfl) rfl rfl ?_
        clear a E;intro a E
        refine st_no E (wf E rfl rfl rfl rfl rfl) rfl rfl ?_
        clear a E;intro a E
        refine sv E rfl rfl rfl (x_pickF E rfl rfl rfl rfl) ?_
        clear a E;intro a E
        refine sv E rfl rfl rfl (x_move E rfl rfl) ?_
        clear a E;intro a E
        refine st_no E (wf E rfl rfl rfl rfl rfl) rfl rfl ?_
        clear a E;intro a E
        refine st_no E (wf E rfl rfl rfl rfl rfl) rfl rfl ?_
        clear a E;intro a E
        refine sv E rfl rfl rfl (x_pickF E rfl rfl rfl rfl) ?_
        clear a E;intro a E
        refine sv E rfl rfl rfl (x_move E rfl rfl) ?_
        clear a E;intro a E
        refine st_no E (wf E rfl rfl rfl rfl rfl) rfl rfl ?_
        clear a E;intro a E
        refine st_no E (wf E rfl rfl rfl rfl rfl) rfl rfl ?_
        clear a E;intro a E
        refine st_no E (wf E rfl rfl rfl rfl rfl) rfl rfl ?_
        clear a E;intro a E
        refine sv E rfl rfl rfl (x_pickF E rfl rfl rfl rfl) ?_
        clear a E;intro a E
        refine sv E rfl rfl rfl (x_assign E rfl rfl) ?_
        clear a E;intro a E
        refine wpList_nil ?_
        refine q_then ?_
        refine wp_ret ?_
        refine out1 E rfl rfl ?_
        replace H := H.drop 0
        replace H := H.drop 0
        replace H := H.drop 0
        replace H := H.drop 0
        replace H := H.drop 0
        replace H := H.drop 0
        obtain rfl := Option.some.inj hm
        exact ⟨rfl, H.reads (fun r hr => .tail _ (.tail _ (.tail _ (.tail _ (.tail _ (.tail _ (.tail _ (.tail _ (.tail _ (.tail _ (.tail _ (.tail _ (.tail _ (.tail _ (hr)))))))))))))))⟩
      ·rw [if_f hb51] at hm
       refine st_no E (wf' E rfl rfl rfl rfl hb51 rfl) rfl rfl ?_
       clear a E;intro a E
       refine st_no E (wf' E rfl rfl rfl rfl hb51 rfl) rfl rfl ?_
       clear a E;intro a E
       refine st_no E (wf' E rfl rfl rfl rfl hb51 rfl) rfl rfl ?_
       clear a E;intro a E
       refine sv E rfl rfl rfl (x_pickF E rfl rfl hb51 rfl) ?_
       clear a E;intro a E
       refine sv E rfl rfl rfl (x_move E rfl rfl) ?_
       clear a E;intro a E
       refine st_no E (wf E rfl rfl rfl rfl rfl) rfl rfl ?_
       clear a E;intro a E
       refine st_no E (wf E rfl rfl rfl rfl rfl) rfl rfl ?_
       clear a E;intro a E
       refine st_no E (wf E rfl rfl rfl rfl rfl) rfl rfl ?_
       clear a E;intro a E
       refine st_no E (wf E rfl rfl rfl rfl rfl) rfl rfl ?_
       clear a E;intro a E
       refine sv E rfl rfl rfl (x_pickF E rfl rfl rfl rfl) ?_
       clear a E;intro a E
       refine sv E rfl rfl rfl (x_move E rfl rfl) ?_
       clear a E;intro a E
       refine st_no E (wf E rfl rfl rfl rfl rfl) rfl rfl ?_
       clear a E;intro a E
       refine st_no E (wf E rfl rfl rfl rfl rfl) rfl rfl ?_
       clear a E;intro a E
       refine st_no E (wf E rfl rfl rfl rfl rfl) rfl rfl ?_
       clear a E;intro a E
       refine sv E rfl rfl rfl (x_pickF E rfl rfl rfl rfl) ?_
       clear a E;intro a E
       refine sv E rfl rfl rfl (x_move E rfl rfl) ?_
       clear a E;intro a E
       refine st_no E (wf E rfl rfl rfl rfl rfl) rfl rfl ?_
       clear a E;intro a E
       refine sv E rfl rfl rfl (x_pickF E rfl rfl rfl rfl) ?_
       clear a E;intro a E
       refine sv E rfl rfl rfl (x_move E rfl rfl) ?_
       clear a E;intro a E
       refine st_no E (wf E rfl rfl rfl rfl rfl) rfl rfl ?_
       clear a E;intro a E
       refine st_no E (wf E rfl rfl rfl rfl rfl) rfl rfl ?_
       clear a E;intro a E
       refine st_no E (wf E rfl rfl rfl rfl rfl) rfl rfl ?_
       clear a E;intro a E
       refine sv E rfl rfl rfl (x_pickF E rfl rfl rfl rfl) ?_
       clear a E;intro a E
       refine sv E rfl rfl rfl (x_move E rfl rfl) ?_
       clear a E;intro a E
       refine st_no E (wf E rfl rfl rfl rfl rfl) rfl rfl ?_
       clear a E;intro a E
       refine st_no E (wf E rfl rfl rfl rfl rfl) rfl rfl ?_
       clear a E;intro a E
       refine sv E rfl rfl rfl (x_pickF E rfl rfl rfl rfl) ?_
       clear a E;intro a E
       refine sv E rfl rfl rfl (x_move E rfl rfl) ?_
       clear a E;intro a E
       refine st_no E (wf E rfl rfl rfl rfl rfl) rfl rfl ?_
       clear a E;intro a E
       refine st_no E (wf E rfl rfl rfl rfl rfl) rfl rfl ?_
       clear a E;intro a E
       refine st_no E (wf E rfl rfl rfl rfl rfl) rfl rfl ?_
       clear a E;intro a E
       refine sv E rfl rfl rfl (x_pickF E rfl rfl rfl rfl) ?_
       clear a E;intro a E
       refine sv E rfl rfl rfl (x_assign E rfl rfl) ?_
       clear a E;intro a E
       refine wpList_nil ?_
       refine q_then ?_
       refine wp_ret ?_
       refine out1 E rfl rfl ?_
       replace H := H.drop 0
       replace H := H.drop 0
       replace H := H.drop 0
       replace H := H.drop 0
       replace H := H.drop 0
       replace H := H.drop 0
       obtain rfl := Option.some.inj hm
       exact ⟨rfl, H.reads (fun r hr => .tail _ (.tail _ (.tail _ (.tail _ (.tail _ (.tail _ (.tail _ (.tail _ (.tail _ (.tail _ (.tail _ (.tail _ (.tail _ (.tail _ (hr)))))))))))))))⟩
     ·rw [if_f hb50] at hm
      refine st_no E (wf' E rfl rfl rfl rfl hb50 rfl) rfl rfl ?_
      clear a E;intro a E
      refine st_no E (wf' E rfl rfl rfl rfl hb50 rfl) rfl rfl ?_
      clear a E;intro a E
      refine st_no E (wf' E rfl rfl rfl rfl hb50 rfl) rfl rfl ?_
      clear a E;intro a E
      refine sv E rfl rfl rfl (x_pickF E rfl rfl hb50 rfl) ?_
      clear a E;intro a E
      refine sv E rfl rfl rfl (x_move E rfl rfl) ?_
      clear a E;intro a E
      refine st_no E (wf E rfl rfl rfl rfl rfl) rfl rfl ?_
      clear a E;intro a E
      refine st_no E (wf E rfl rfl rfl rfl rfl) rfl rfl ?_
      clear a E;intro a E
      refine st_no E (wf E rfl rfl rfl rfl rfl) rfl rfl ?_
      clear a E;intro a E
      refine sv E rfl rfl rfl (x_pickF E rfl rfl rfl rfl) ?_
      clear a E;intro a E
      refine sv E rfl rfl rfl (x_move E rfl rfl) ?_
      clear a E;intro a E
      refine st_no E (wf E rfl rfl rfl rfl rfl) rfl rfl ?_
      clear a E;intro a E
      refine st_no E (wf E rfl rfl rfl rfl rfl) rfl rfl ?_
      clear a E;intro a E
      refine st_no E (wf E rfl rfl rfl rfl rfl) rfl rfl ?_
      clear a E;intro a E
      refine st_no E (wf E rfl rfl rfl rfl rfl) rfl rfl ?_
      clear a E;intro a E
      refine sv E rfl rfl rfl (x_pickF E rfl rfl rfl rfl) ?_
      clear a E;intro a E
      refine sv E rfl rfl rfl (x_move E rfl rfl) ?_
      clear a E;intro a E
      refine st_no E (wf E rfl rfl rfl rfl rfl) rfl rfl ?_
      clear a E;intro a E
      refine st_no E (wf E rfl rfl rfl rfl rfl) rfl rfl ?_
      clear a E;intro a E
      refine st_no E (wf E rfl rfl rfl rfl rfl) rfl rfl ?_
      clear a E;intro a E
      refine sv E rfl rfl rfl (x_pickF E rfl rfl rfl rfl) ?_
      clear a E;intro a E
      refine sv E rfl rfl rfl (x_move E rfl rfl) ?_
      clear a E;intro a E
      refine st_no E (wf E rfl rfl rfl rfl rfl) rfl rfl ?_
      clear a E;intro a E
      refine sv E rfl rfl rfl (x_pickF E rfl rfl rfl rfl) ?_
      clear a E;intro a E
      refine sv E rfl rfl rfl (x_move E rfl rfl) ?_
      clear a E;intro a E
      refine st_no E (wf E rfl rfl rfl rfl rfl) rfl rfl ?_
      clear a E;intro a E
      refine st_no E (wf E rfl rfl rfl rfl rfl) rfl rfl ?_
      clear a E;intro a E
      refine st_no E (wf E rfl rfl rfl rfl rfl) rfl rfl ?_
      clear a E;intro a E
      refine sv E rfl rfl rfl (x_pickF E rfl rfl rfl rfl) ?_
      clear a E;intro a E
      refine sv E rfl rfl rfl (x_move E rfl rfl) ?_
      clear a E;intro a E
      refine st_no E (wf E rfl rfl rfl rfl rfl) rfl rfl ?_
      clear a E;intro a E
      refine st_no E (wf E rfl rfl rfl rfl rfl) rfl rfl ?_
      clear a E;intro a E
      refine sv E rfl rfl rfl (x_pickF E rfl rfl rfl rfl) ?_
      clear a E;intro a E
      refine sv E rfl rfl rfl (x_move E rfl rfl) ?_
      clear a E;intro a E
      refine st_no E (wf E rfl rfl rfl rfl rfl) rfl rfl ?_
      clear a E;intro a E
      refine st_no E (wf E rfl rfl rfl rfl rfl) rfl rfl ?_
      clear a E;intro a E
      refine st_no E (wf E rfl rfl rfl rfl rfl) rfl rfl ?_
      clear a E;intro a E
      refine sv E rfl rfl rfl (x_pickF E rfl rfl rfl rfl) ?_
      clear a E;intro a E
      refine sv E rfl rfl rfl (x_assign E rfl rfl) ?_
      clear a E;intro a E
      refine wpList_nil ?_
      refine q_then ?_
      refine wp_ret ?_
      refine out1 E rfl rfl ?_
      replace H := H.drop 0
      replace H := H.drop 0
      replace H := H.drop 0
      replace H := H.drop 0
      replace H := H.drop 0
      replace H := H.drop 0
      obtain rfl := Option.some.inj hm
      exact ⟨rfl, H.reads (fun r hr => .tail _ (.tail _ (.tail _ (.tail _ (.tail _ (.tail _ (.tail _ (.tail _ (.tail _ (.tail _ (.tail _ (.tail _ (.tail _ (.tail _ (hr)))))))))))))))⟩
    ·rw [if_f hb46] at hm
     refine st_no E (wf' E rfl rfl rfl rfl hb46 rfl) rfl rfl ?_
     clear a E;intro a E
     refine st_no E (wf' E rfl rfl rfl rfl hb46 rfl) rfl rfl ?_
     clear a E;intro a E
     refine st_no E (wf' E rfl rfl rfl rfl hb46 rfl) rfl rfl ?_
     clear a E;intro a E
     refine st_no E (wf' E rfl rfl rfl rfl hb46 rfl) rfl rfl ?_
     clear a E;intro a E
     refine st_no E (wf' E rfl rfl rfl rfl hb46 rfl) rfl rfl ?_
     clear a E;intro a E
     refine sv E rfl rfl rfl (x_pickF E rfl rfl hb46 rfl) ?_
     clear a E;intro a E
     refine sv E rfl rfl rfl (x_move E rfl rfl) ?_
     clear a E;intro a E
     refine st_no E (wf E rfl rfl rfl rfl rfl) rfl rfl ?_
     clear a E;intro a E
     refine st_no E (wf E rfl rfl rfl rfl rfl) rfl rfl ?_
     clear a E;intro a E
     refine st_no E (wf E rfl rfl rfl rfl rfl) rfl rfl ?_
     clear a E;intro a E
     refine sv E rfl rfl rfl (x_pickF E rfl rfl rfl rfl) ?_
     clear a E;intro a E
     refine sv E rfl rfl rfl (x_move E rfl rfl) ?_
     clear a E;intro a E
     refine st_no E (wf E rfl rfl rfl rfl rfl) rfl rfl ?_
     clear a E;intro a E
     refine st_no E (wf E rfl rfl rfl rfl rfl) rfl rfl ?_
     clear a E;intro a E
     refine st_no E (wf E rfl rfl rfl rfl rfl) rfl rfl ?_
     clear a E;intro a E
     refine sv E rfl rfl rfl (x_pickF E rfl rfl rfl rfl) ?_
     clear a E;intro a E
     refine sv E rfl rfl rfl (x_move E rfl rfl) ?_
     clear a E;intro a E
     refine st_no E (wf E rfl rfl rfl rfl rfl) rfl rfl ?_
     clear a E;intro a E
     refine st_no E (wf E rfl rfl rfl rfl rfl) rfl rfl ?_
     clear a E;intro a E
     refine st_no E (wf E rfl rfl rfl rfl rfl) rfl rfl ?_
     clear a E;intro a E
     refine st_no E (wf E rfl rfl rfl rfl rfl) rfl rfl ?_
     clear a E;intro a E
     refine sv E rfl rfl rfl (x_pickF E rfl rfl rfl rfl) ?_
     clear a E;intro a E
     refine sv E rfl rfl rfl (x_move E rfl rfl) ?_
     clear a E;intro a E
     refine st_no E (wf E rfl rfl rfl rfl rfl) rfl rfl ?_
     clear a E;intro a E
     refine st_no E (wf E rfl rfl rfl rfl rfl) rfl rfl ?_
     clear a E;intro a E
     refine st_no E (wf E rfl rfl rfl rfl rfl) rfl rfl ?_
     clear a E;intro a E
     refine sv E rfl rfl rfl (x_pickF E rfl rfl rfl rfl) ?_
     clear a E;intro a E
     refine sv E rfl rfl rfl (x_move E rfl rfl) ?_
     clear a E;intro a E
     refine st_no E (wf E rfl rfl rfl rfl rfl) rfl rfl ?_
     clear a E;intro a E
     refine sv E rfl rfl rfl (x_pickF E rfl rfl rfl rfl) ?_
     clear a E;intro a E
     refine sv E rfl rfl rfl (x_move E rfl rfl) ?_
     clear a E;intro a E
     refine st_no E (wf E rfl rfl rfl rfl rfl) rfl rfl ?_
     clear a E;intro a E
     refine st_no E (wf E rfl rfl rfl rfl rfl) rfl rfl ?_
     clear a E;intro a E
     refine st_no E (wf E rfl rfl rfl rfl rfl) rfl rfl ?_
     clear a E;intro a E
     refine sv E rfl rfl rfl (x_pickF E rfl rfl rfl rfl) ?_
     clear a E;intro a E
     refine sv E rfl rfl rfl (x_move E rfl rfl) ?_
     clear a E;intro a E
     refine st_no E (wf E rfl rfl rfl rfl rfl) rfl rfl ?_
     clear a E;intro a E
     refine st_no E (wf E rfl rfl rfl rfl rfl) rfl rfl ?_
     clear a E;intro a E
     refine sv E rfl rfl rfl (x_pickF E rfl rfl rfl rfl) ?_
     clear a E;intro a E
     refine sv E rfl rfl rfl (x_move E rfl rfl) ?_
     clear a E;intro a E
     refine st_no E (wf E rfl rfl rfl rfl rfl) rfl rfl ?_
     clear a E;intro a E
     refine st_no E (wf E rfl rfl rfl rfl rfl) rfl rfl ?_
     clear a E;intro a E
     refine st_no E (wf E rfl rfl rfl rfl rfl) rfl rfl ?_
     clear a E;intro a E
     refine sv E rfl rfl rfl (x_pickF E rfl rfl rfl rfl) ?_
     clear a E;intro a E
     refine sv E rfl rfl rfl (x_assign E rfl rfl) ?_
     clear a E;intro a E
     refine wpList_nil ?_
     refine q_then ?_
     refine wp_ret ?_
     refine out1 E rfl rfl ?_
     replace H := H.drop 0
     replace H := H.drop 0
     replace H := H.drop 0
     replace H := H.drop 0
     replace H := H.drop 0
     replace H := H.drop 0
     obtain rfl := Option.some.inj hm
     exact ⟨rfl, H.reads (fun r hr => .tail _ (.tail _ (.tail _ (.tail _ (.tail _ (.tail _ (.tail _ (.tail _ (.tail _ (.tail _ (.tail _ (.tail _ (hr)))))))))))))⟩
   ·rw [if_f hb45] at hm
    refine st_no E (wf' E rfl rfl rfl rfl hb45 rfl) rfl rfl ?_
    clear a E;intro a E
    refine st_no E (wf' E rfl rfl rfl rfl hb45 rfl) rfl rfl ?_
    clear a E;intro a E
    refine st_no E (wf' E rfl rfl rfl rfl hb45 rfl) rfl rfl ?_
    clear a E;intro a E
    refine sv E rfl rfl rfl (x_pickF E rfl rfl hb45 rfl) ?_
    clear a E;intro a E
    refine sv E rfl rfl rfl (x_move E rfl rfl) ?_
    clear a E;intro a E
    refine st_no E (wf E rfl rfl rfl rfl rfl) rfl rfl ?_
    clear a E;intro a E
    refine st_no E (wf E rfl rfl rfl rfl rfl) rfl rfl ?_
    clear a E;intro a E
    refine st_no E (wf E rfl rfl rfl rfl rfl) rfl rfl ?_
    clear a E;intro a E
    refine st_no E (wf E rfl rfl rfl rfl rfl) rfl rfl ?_
    clear a E;intro a E
    refine st_no E (wf E rfl rfl rfl rfl rfl) rfl rfl ?_
    clear a E;intro a E
    refine sv E rfl rfl rfl (x_pickF E rfl rfl rfl rfl) ?_
    clear a E;intro a E
    refine sv E rfl rfl rfl (x_move E rfl rfl) ?_
    clear a E;intro a E
    refine st_no E (wf E rfl rfl rfl rfl rfl) rfl rfl ?_
    clear a E;intro a E
    refine st_no E (wf E rfl rfl rfl rfl rfl) rfl rfl ?_
    clear a E;intro a E
    refine st_no E (wf E rfl rfl rfl rfl rfl) rfl rfl ?_
    clear a E;intro a E
    refine sv E rfl rfl rfl (x_pickF E rfl rfl rfl rfl) ?_
    clear a E;intro a E
    refine sv E rfl rfl rfl (x_move E rfl rfl) ?_
    clear a E;intro a E
    refine st_no E (wf E rfl rfl rfl rfl rfl) rfl rfl ?_
    clear a E;intro a E
    refine st_no E (wf E rfl rfl rfl rfl rfl) rfl rfl ?_
    clear a E;intro a E
    refine st_no E (wf E rfl rfl rfl rfl rfl) rfl rfl ?_
    clear a E;intro a E
    refine sv E rfl rfl rfl (x_pickF E rfl rfl rfl rfl) ?_
    clear a E;intro a E
    refine sv E rfl rfl rfl (x_move E rfl rfl) ?_
    clear a E;intro a E
    refine st_no E (wf E rfl rfl rfl rfl rfl) rfl rfl ?_
    clear a E;intro a E
    refine st_no E (wf E rfl rfl rfl rfl rfl) rfl rfl ?_
    clear a E;intro a E
    refine st_no E (wf E rfl rfl rfl rfl rfl) rfl rfl ?_
    clear a E;intro a E
    refine st_no E (wf E rfl rfl rfl rfl rfl) rfl rfl ?_
    clear a E;intro a E
    refine sv E rfl rfl rfl (x_pickF E rfl rfl rfl rfl) ?_
    clear a E;intro a E
    refine sv E rfl rfl rfl (x_move E rfl rfl) ?_
    clear a E;intro a E
    refine st_no E (wf E rfl rfl rfl rfl rfl) rfl rfl ?_
    clear a E;intro a E
    refine st_no E (wf E rfl rfl rfl rfl rfl) rfl rfl ?_
    clear a E;intro a E
    refine st_no E (wf E rfl rfl rfl rfl rfl) rfl rfl ?_
    clear a E;intro a E
    refine sv E rfl rfl rfl (x_pickF E rfl rfl rfl rfl) ?_
    clear a E;intro a E
    refine sv E rfl rfl rfl (x_move E rfl rfl) ?_
    clear a E;intro a E
    refine st_no E (wf E rfl rfl rfl rfl rfl) rfl rfl ?_
    clear a E;intro a E
    refine sv E rfl rfl rfl (x_pickF E rfl rfl rfl rfl) ?_
    clear a E;intro a E
    refine sv E rfl rfl rfl (x_move E rfl rfl) ?_
    clear a E;intro a E
    refine st_no E (wf E rfl rfl rfl rfl rfl) rfl rfl ?_
    clear a E;intro a E
    refine st_no E (wf E rfl rfl rfl rfl rfl) rfl rfl ?_
    clear a E;intro a E
    refine st_no E (wf E rfl rfl rfl rfl rfl) rfl rfl ?_
    clear a E;intro a E
    refine sv E rfl rfl rfl (x_pickF E rfl rfl rfl rfl) ?_
    clear a E;intro a E
    refine sv E rfl rfl rfl (x_move E rfl rfl) ?_
    clear a E;intro a E
    refine st_no E (wf E rfl rfl rfl rfl rfl) rfl rfl ?_
    clear a E;intro a E
    refine st_no E (wf E rfl rfl rfl rfl rfl) rfl rfl ?_
    clear a E;intro a E
    refine sv E rfl rfl rfl (x_pickF E rfl rfl rfl rfl) ?_
    clear a E;intro a E
    refine sv E rfl rfl rfl (x_move E rfl rfl) ?_
    clear a E;intro a E
    refine st_no E (wf E rfl rfl rfl rfl rfl) rfl rfl ?_
    clear a E;intro a E
    refine st_no E (wf E rfl rfl rfl rfl rfl) rfl rfl ?_
    clear a E;intro a E
    refine st_no E (wf E rfl rfl rfl rfl rfl) rfl rfl ?_
    clear a E;intro a E
    refine sv E rfl rfl rfl (x_pickF E rfl rfl rfl rfl) ?_
    clear a E;intro a E
    refine sv E rfl rfl rfl (x_assign E rfl rfl) ?_
    clear a E;intro a E
    refine wpList_nil ?_
    refine q_then ?_
    refine wp_ret ?_
    refine out1 E rfl rfl ?_
    replace H := H.drop 0
    replace H := H.drop 0
    replace H := H.drop 0
    replace H := H.drop 0
    replace H := H.drop 0
    replace H := H.drop 0
    obtain rfl := Option.some.inj hm
    exact ⟨rfl, H.reads (fun r hr => .tail _ (.tail _ (.tail _ (.tail _ (.tail _ (.tail _ (.tail _ (.tail _ (.tail _ (.tail _ (.tail _ (.tail _ (hr)))))))))))))⟩
  ·rw [if_f hb44] at hm
   refine st_no E (wf' E rfl rfl rfl rfl hb44 rfl) rfl rfl ?_
   clear a E;intro a E
   refine st_no E (wf' E rfl rfl rfl rfl hb44 rfl) rfl rfl ?_
   clear a E;intro a E
   refine st_no E (wf' E rfl rfl rfl rfl hb44 rfl) rfl rfl ?_
   clear a E;intro a E
   refine sv E rfl rfl rfl (x_pickF E rfl rfl hb44 rfl) ?_
   clear a E;intro a E
   refine sv E rfl rfl rfl (x_move E rfl rfl) ?_
   clear a E;intro a E
   refine st_no E (wf E rfl rfl rfl rfl rfl) rfl rfl ?_
   clear a E;intro a E
   refine st_no E (wf E rfl rfl rfl rfl rfl) rfl rfl ?_
   clear a E;intro a E
   refine st_no E (wf E rfl rfl rfl rfl rfl) rfl rfl ?_
   clear a E;intro a E
   refine sv E rfl rfl rfl (x_pickF E rfl rfl rfl rfl) ?_
   clear a E;intro a E
   refine sv E rfl rfl rfl (x_move E rfl rfl) ?_
   clear a E;intro a E
   refine st_no E (wf E rfl rfl rfl rfl rfl) rfl rfl ?_
   clear a E;intro a E
   refine st_no E (wf E rfl rfl rfl rfl rfl) rfl rfl ?_
   clear a E;intro a E
   refine st_no E (wf E rfl rfl rfl rfl rfl) rfl rfl ?_
   clear a E;intro a E
   refine st_no E (wf E rfl rfl rfl rfl rfl) rfl rfl ?_
   clear a E;intro a E
   refine st_no E (wf E rfl rfl rfl rfl rfl) rfl rfl ?_
   clear a E;intro a E
   refine sv E rfl rfl rfl (x_pickF E rfl rfl rfl rfl) ?_
   clear a E;intro a E
   refine sv E rfl rfl rfl (x_move E rfl rfl) ?_
   clear a E;intro a E
   refine st_no E (wf E rfl rfl rfl rfl rfl) rfl rfl ?_
   clear a E;intro a E
   refine st_no E (wf E rfl rfl rfl rfl rfl) rfl rfl ?_
   clear a E;intro a E
   refine st_no E (wf E rfl rfl rfl rfl rfl) rfl rfl ?_
   clear a E;intro a E
   refine sv E rfl rfl rfl (x_pickF E rfl rfl rfl rfl) ?_
   clear a E;intro a E
   refine sv E rfl rfl rfl (x_move E rfl rfl) ?_
   clear a E;intro a E
   refine st_no E (wf E rfl rfl rfl rfl rfl) rfl rfl ?_
   clear a E;intro a E
   refine st_no E (wf E rfl rfl rfl rfl rfl) rfl rfl ?_
   clear a E;intro a E
   refine st_no E (wf E rfl rfl rfl rfl rfl) rfl rfl ?_
   clear a E;intro a E
   refine sv E rfl rfl rfl (x_pickF E rfl rfl rfl rfl) ?_
   clear a E;intro a E
   refine sv E rfl rfl rfl (x_move E rfl rfl) ?_
   clear a E;intro a E
   refine st_no E (wf E rfl rfl rfl rfl rfl) rfl rfl ?_
   clear a E;intro a E
   refine st_no E (wf E rfl rfl rfl rfl rfl) rfl rfl ?_
   clear a E;intro a E
   refine st_no E (wf E rfl rfl rfl rfl rfl) rfl rfl ?_
   clear a E;intro a E
   refine st_no E (wf E rfl rfl rfl rfl rfl) rfl rfl ?_
   clear a E;intro a E
   refine sv E rfl rfl rfl (x_pickF E rfl rfl rfl rfl) ?_
   clear a E;intro a E
   refine sv E rfl rfl rfl (x_move E rfl rfl) ?_
   clear a E;intro a E
   refine st_no E (wf E rfl rfl rfl rfl rfl) rfl rfl ?_
   clear a E;intro a E
   refine st_no E (wf E rfl rfl rfl rfl rfl) rfl rfl ?_
   clear a E;intro a E
   refine st_no E (wf E rfl rfl rfl rfl rfl) rfl rfl ?_
   clear a E;intro a E
   refine sv E rfl rfl rfl (x_pickF E rfl rfl rfl rfl) ?_
   clear a E;intro a E
   refine sv E rfl rfl rfl (x_move E rfl rfl) ?_
   clear a E;intro a E
   refine st_no E (wf E rfl rfl rfl rfl rfl) rfl rfl ?_
   clear a E;intro a E
   refine sv E rfl rfl rfl (x_pickF E rfl rfl rfl rfl) ?_
   clear a E;intro a E
   refine sv E rfl rfl rfl (x_move E rfl rfl) ?_
   clear a E;intro a E
   refine st_no E (wf E rfl rfl rfl rfl rfl) rfl rfl ?_
   clear a E;intro a E
   refine st_no E (wf E rfl rfl rfl rfl rfl) rfl rfl ?_
   clear a E;intro a E
   refine st_no E (wf E rfl rfl rfl rfl rfl) rfl rfl ?_
   clear a E;intro a E
   refine sv E rfl rfl rfl (x_pickF E rfl rfl rfl rfl) ?_
   clear a E;intro a E
   refine sv E rfl rfl rfl (x_move E rfl rfl) ?_
   clear a E;intro a E
   refine st_no E (wf E rfl rfl rfl rfl rfl) rfl rfl ?_
   clear a E;intro a E
   refine st_no E (wf E rfl rfl rfl rfl rfl) rfl rfl ?_
   clear a E;intro a E
   refine sv E rfl rfl rfl (x_pickF E rfl rfl rfl rfl) ?_
   clear a E;intro a E
   refine sv E rfl rfl rfl (x_move E rfl rfl) ?_
   clear a E;intro a E
   refine st_no E (wf E rfl rfl rfl rfl rfl) rfl rfl ?_
   clear a E;intro a E
   refine st_no E (wf E rfl rfl rfl rfl rfl) rfl rfl ?_
   clear a E;intro a E
   refine st_no E (wf E rfl rfl rfl rfl rfl) rfl rfl ?_
   clear a E;intro a E
   refine sv E rfl rfl rfl (x_pickF E rfl rfl rfl rfl) ?_
   clear a E;intro a E
   refine sv E rfl rfl rfl (x_assign E rfl rfl) ?_
   clear a E;intro a E
   refine wpList_nil ?_
   refine q_then ?_
   refine wp_ret ?_
   refine out1 E rfl rfl ?_
   replace H := H.drop 0
   replace H := H.drop 0
   replace H := H.drop 0
   replace H := H.drop 0
   replace H := H.drop 0
   replace H := H.drop 0
   obtain rfl := Option.some.inj hm
   exact ⟨rfl, H.reads (fun r hr => .tail _ (.tail _ (.tail _ (.tail _ (.tail _ (.tail _ (.tail _ (.tail _ (.tail _ (.tail _ (.tail _ (.tail _ (hr)))))))))))))⟩
 ·rw [if_f hb43] at hm
  refine st_no E (wf' E rfl rfl rfl rfl hb43 rfl) rfl rfl ?_
  clear a E;intro a E
  refine st_no E (wf' E rfl rfl rfl rfl hb43 rfl) rfl rfl ?_
  clear a E;intro a E
  refine st_no E (wf' E rfl rfl rfl rfl hb43 rfl) rfl rfl ?_
  clear a E;intro a E
  refine sv E rfl rfl rfl (x_pickF E rfl rfl hb43 rfl) ?_
  clear a E;intro a E
  refine sv E rfl rfl rfl (x_move E rfl rfl) ?_
  clear a E;intro a E
  refine st_no E (wf E rfl rfl rfl rfl rfl) rfl rfl ?_
  clear a E;intro a E
  refine st_no E (wf E rfl rfl rfl rfl rfl) rfl rfl ?_
  clear a E;intro a E
  refine st_no E (wf E rfl rfl rfl rfl rfl) rfl rfl ?_
  clear a E;intro a E
  refine sv E rfl rfl rfl (x_pickF E rfl rfl rfl rfl) ?_
  clear a E;intro a E
  refine sv E rfl rfl rfl (x_move E rfl rfl) ?_
  clear a E;intro a E
  refine st_no E (wf E rfl rfl rfl rfl rfl) rfl rfl ?_
  clear a E;intro a E
  refine st_no E (wf E rfl rfl rfl rfl rfl) rfl rfl ?_
  clear a E;intro a E
  refine st_no E (wf E rfl rfl rfl rfl rfl) rfl rfl ?_
  clear a E;intro a E
  refine sv E rfl rfl rfl (x_pickF E rfl rfl rfl rfl) ?_
  clear a E;intro a E
  refine sv E rfl rfl rfl (x_move E rfl rfl) ?_
  clear a E;intro a E
  refine st_no E (wf E rfl rfl rfl rfl rfl) rfl rfl ?_
  clear a E;intro a E
  refine st_no E (wf E rfl rfl rfl rfl rfl) rfl rfl ?_
  clear a E;intro a E
  refine st_no E (wf E rfl rfl rfl rfl rfl) rfl rfl ?_
  clear a E;intro a E
  refine st_no E (wf E rfl rfl rfl rfl rfl) rfl rfl ?_
  clear a E;intro a E
  refine st_no E (wf E rfl rfl rfl rfl rfl) rfl rfl ?_
  clear a E;intro a E
  refine sv E rfl rfl rfl (x_pickF E rfl rfl rfl rfl) ?_
  clear a E;intro a E
  refine sv E rfl rfl rfl (x_move E rfl rfl) ?_
  clear a E;intro a E
  refine st_no E (wf E rfl rfl rfl rfl rfl) rfl rfl ?_
  clear a E;intro a E
  refine st_no E (wf E rfl rfl rfl rfl rfl) rfl rfl ?_
  clear a E;intro a E
  refine st_no E (wf E rfl rfl rfl rfl rfl) rfl rfl ?_
  clear a E;intro a E
  refine sv E rfl rfl rfl (x_pickF E rfl rfl rfl rfl) ?_
  clear a E;intro a E
  refine sv E rfl rfl rfl (x_move E rfl rfl) ?_
  clear a E;intro a E
  refine st_no E (wf E rfl rfl rfl rfl rfl) rfl rfl ?_
  clear a E;intro a E
  refine st_no E (wf E rfl rfl rfl rfl rfl) rfl rfl ?_
  clear a E;intro a E
  refine st_no E (wf E rfl rfl rfl rfl rfl) rfl rfl ?_
  clear a E;intro a E
  refine sv E rfl rfl rfl (x_pickF E rfl rfl rfl rfl) ?_
  clear a E;intro a E
  refine sv E rfl rfl rfl (x_move E rfl rfl) ?_
  clear a E;intro a E
  refine st_no E (wf E rfl rfl rfl rfl rfl) rfl rfl ?_
  clear a E;intro a E
  refine st_no E (wf E rfl rfl rfl rfl rfl) rfl rfl ?_
  clear a E;intro a E
  refine st_no E (wf E rfl rfl rfl rfl rfl) rfl rfl ?_
  clear a E;intro a E
  refine st_no E (wf E rfl rfl rfl rfl rfl) rfl rfl ?_
  clear a E;intro a E
  refine sv E rfl rfl rfl (x_pickF E rfl rfl rfl rfl) ?_
  clear a E;intro a E
  refine sv E rfl rfl rfl (x_move E rfl rfl) ?_
  clear a E;intro a E
  refine st_no E (wf E rfl rfl rfl rfl rfl) rfl rfl ?_
  clear a E;intro a E
  refine st_no E (wf E rfl rfl rfl rfl rfl) rfl rfl ?_
  clear a E;intro a E
  refine st_no E (wf E rfl rfl rfl rfl rfl) rfl rfl ?_
  clear a E;intro a E
  refine sv E rfl rfl rfl (x_pickF E rfl rfl rfl rfl) ?_
  clear a E;intro a E
  refine sv E rfl rfl rfl (x_move E rfl rfl) ?_
  clear a E;intro a E
  refine st_no E (wf E rfl rfl rfl rfl rfl) rfl rfl ?_
  clear a E;intro a E
  refine sv E rfl rfl rfl (x_pickF E rfl rfl rfl rfl) ?_
  clear a E;intro a E
  refine sv E rfl rfl rfl (x_move E rfl rfl) ?_
  clear a E;intro a E
  refine st_no E (wf E rfl rfl rfl rfl rfl) rfl rfl ?_
  clear a E;intro a E
  refine st_no E (wf E rfl rfl rfl rfl rfl) rfl rfl ?_
  clear a E;intro a E
  refine st_no E (wf E rfl rfl rfl rfl rfl) rfl rfl ?_
  clear a E;intro a E
  refine sv E rfl rfl rfl (x_pickF E rfl rfl rfl rfl) ?_
  clear a E;intro a E
  refine sv E rfl rfl rfl (x_move E rfl rfl) ?_
  clear a E;intro a E
  refine st_no E (wf E rfl rfl rfl rfl rfl) rfl rfl ?_
  clear a E;intro a E
  refine st_no E (wf E rfl rfl rfl rfl rfl) rfl rfl ?_
  clear a E;intro a E
  refine sv E rfl rfl rfl (x_pickF E rfl rfl rfl rfl) ?_
  clear a E;intro a E
  refine sv E rfl rfl rfl (x_move E rfl rfl) ?_
  clear a E;intro a E
  refine st_no E (wf E rfl rfl rfl rfl rfl) rfl rfl ?_
  clear a E;intro a E
  refine st_no E (wf E rfl rfl rfl rfl rfl) rfl rfl ?_
  clear a E;intro a E
  refine st_no E (wf E rfl rfl rfl rfl rfl) rfl rfl ?_
  clear a E;intro a E
  refine sv E rfl rfl rfl (x_pickF E rfl rfl rfl rfl) ?_
  clear a E;intro a E
  refine sv E rfl rfl rfl (x_assign E rfl rfl) ?_
  clear a E;intro a E
  refine wpList_nil ?_
  refine q_then ?_
  refine wp_ret ?_
  refine out1 E rfl rfl ?_
  replace H := H.drop 0
  replace H := H.drop 0
  replace H := H.drop 0
  replace H := H.drop 0
  replace H := H.drop 0
  replace H := H.drop 0
  obtain rfl := Option.some.inj hm
  exact ⟨rfl, H.reads (fun r hr => .tail _ (.tail _ (.tail _ (.tail _ (.tail _ (.tail _ (.tail _ (.tail _ (.tail _ (.tail _ (.tail _ (.tail _ (hr)))))))))))))⟩
end Go.Cb

set_option linter.unusedVariables false
set_option linter.unusedSimpArgs false
namespace Go.Cb
open Go.Proofs Go.RowKit
def m_cantonlaw06_Great_j1 (x4 : Int) : Option Bool :=
  some (decide (x4 ≥ 5000))
def m_cantonlaw06_Great_l1 (l2 : List S_api_Node) : Nat → Int → Int → Option Bool
  | 0, _, _ => none
  | k1 + 1, x7, x8 =>
    if (decide (x8 < (l2.length : Int))) = true then (if (decide (x7 < 5000)) = true then ((idx l2 x8).bind fun x14 => (idx l2 x8).bind fun x21 => m_cantonlaw06_Great_l1 l2 k1 (IntKind.i64.wrap ((IntKind.i64.wrap (x7 + (min (x14.Path.size : Int) 5000))) + (min (x21.Data.size : Int) 5000))) (IntKind.i64.wrap (x8 + 1))) else (m_cantonlaw06_Great_j1 x7)) else (m_cantonlaw06_Great_j1 x7)
def m_cantonlaw06_Great (l2 : List S_api_Node) : Option Bool :=
  m_cantonlaw06_Great_l1 l2 5002 (IntKind.i64.wrap (3 * (l2.length : Int))) 0
set_option maxRecDepth 20000 in
set_option maxHeartbeats 1000000 in
theorem c_cantonlaw06_Great {w : World} {Fo : List Ob} {rs : List Rp} (v1 : Value) (l2 : List S_api_Node) (H : Sep w (Fo) rs) (hr3 : rSl k_api_Node v1 l2 ∈ rs) {r : Bool} (hm : m_cantonlaw06_Great l2 = some r) :
    Calls Tryz.prog 5 [v1].toArray w (Ret fun v w' => .bool r = v ∧ Sep w' (Fo) (rs)) := by
 unfold m_cantonlaw06_Great at hm
 refine enter Tryz.func5 rfl Tryz.ntmps5 rfl fun a E => ?_
 simp only [enum, Nat.reduceAdd] at E
 refine wp_seq ?_
 refine wp_region_lit ?_
 refine sv E rfl rfl rfl (x_assign E rfl rfl) ?_
 clear a E;intro a E
 refine wpList_nil ?_
 refine q_then ?_
 refine wp_seq ?_
 refine wp_region_lit ?_
 refine sv E rfl rfl rfl (x_move E rfl rfl) ?_
 clear a E;intro a E
 refine sv E rfl rfl rfl (x_lenS E H rfl rfl hr3 Tryz.underlying22) ?_
 clear a E;intro a E
 refine sv E rfl rfl rfl (x_bin E rfl rfl rfl rfl) ?_
 clear a E;intro a E
 refine sv E rfl rfl rfl (x_assign E rfl rfl) ?_
 clear a E;intro a E
 refine wpList_nil ?_
 refine q_then ?_
 refine wp_seq_cut (fun a w => ∃ (x4 : Int) (rs5 : List Rp), Env 37 a [(3, .int .i64 x4)] ∧ Sep w (Fo) rs5 ∧ (∀ r, r ∈ rs → r ∈ rs5) ∧ m_cantonlaw06_Great_j1 x4 = some r) ?_ ?_
 ·refine wp_seq ?_
  refine wp_region_lit ?_
  refine sv E rfl rfl rfl (x_assign E rfl rfl) ?_
  clear a E;intro a E
  refine wpList_nil ?_
  refine q_then ?_
  refine wp_block ?_
  refine wp_loop_g (fun k1 a w => ∃ (x7 : Int) (x8 : Int) (rs9 : List Rp), Env 37 a [(0, v1), (3, .int .i64 x7), (4, .int .i64 x8)] ∧ Sep w (Fo) rs9 ∧ (∀ r, r ∈ rs → r ∈ rs9) ∧ rSl k_api_Node v1 l2 ∈ rs9 ∧ m_cantonlaw06_Great_l1 l2 k1 x7 x8 = some r) (5002) ?_ ?_
  ·exact ⟨IntKind.i64.wrap (3 * (l2.length : Int)), 0, _, (((E.nil.keep E 4 rfl).keep E 3 rfl).keep E 0 rfl), H, fun r hr => hr, hr3, hm⟩
  ·clear E H hm
   rintro k1 a w ⟨x7, x8, rs9, E, H, hs10, hr11, hm⟩
   cases k1 with
   | zero => exact (none_some hm rfl).elim
   | succ k1 =>
    unfold m_cantonlaw06_Great_l1 at hm
    refine wp_seq ?_
    refine wp_seq ?_
    refine wp_region_lit ?_
    refine sv E rfl rfl rfl (x_move E rfl rfl) ?_
    clear a E;intro a E
    refine sv E rfl rfl rfl (x_move E rfl rfl) ?_
    clear a E;intro a E
    refine sv E rfl rfl rfl (x_lenS E H rfl rfl hr11 Tryz.underlying22) ?_
    clear a E;intro a E
    refine sv E rfl rfl rfl (x_bin E rfl rfl rfl rfl) ?_
    clear a E;intro a E
    refine sv E rfl rfl rfl (x_move E rfl rfl) ?_
    clear a E;intro a E
    rcases Bool.eq_false_or_eq_true (decide (x8 < (l2.length : Int))) with hb12 | hb12
    ·rw [if_t hb12] at hm
     refine st_val E (ws' E rfl rfl rfl rfl hb12) rfl rfl (x_move E rfl rfl) ?_
     clear a E;intro a E
     refine st_val E (ws' E rfl rfl rfl rfl hb12) rfl rfl (x_bin E rfl rfl rfl rfl) ?_
     clear a E;intro a E
     refine sv E rfl rfl rfl (x_pickT E rfl rfl hb12 rfl) ?_
     clear a E;intro a E
     refine wpList_nil ?_
     refine q_then ?_
     refine wp_if E rfl ?_ ?_
     ·intro hb
      rw [if_t hb] at hm
      clear hb
      refine wp_skip ?_
      refine q_then ?_
      refine wp_seq ?_
      refine wp_block ?_
      obtain ⟨u13, H⟩ := H.raw hr11
      replace H : Sep w (Fo) (rRow k_api_Node v1 l2 u13 :: rs9) := H
      have hI : Still [] [rRow k_api_Node v1 l2 u13] { w with drawn := w.drawn + 1 } := ⟨_, _, H.kept (Kp.drawn _ w _), (subO_nil), (sub_cons (.head _) (sub_nil))⟩
      refine wp_draw _ [(0, 0), (1, 0), (2, 0), (3, 0), (4, 0), (5, 0), (6, 0), (7, 0), (8, 0), (9, 0), (10, 0), (11, 0), (12, 0), (13, 0), (14, 0), (15, 0), (16, 0), (17, 2)] mixedOk (by kernel_rfl) (fun _ _ _ h => False.elim h.2) hI ?_
      replace H := H.kept (Kp.drawn _ w (w.drawn + 1))
      generalize ({ w with drawn := w.drawn + 1 } : World) = w at H hI ⊢
      replace hI : ∃ W, Still [] [rRow k_api_Node v1 l2 u13] W := ⟨_, hI⟩
      obtain ⟨W0, hI⟩ := hI
      refine fr_val E rfl (wn rfl) rfl rfl (fun w hW => (x_move E rfl rfl)) ?_
      clear a E;intro a E
      refine fr_val E rfl (wn rfl) rfl rfl (fun w hW => (x_move E rfl rfl)) ?_
      clear a E;intro a E
      refine fr_val E rfl (wn rfl) rfl rfl (fun w hW => (x_move E rfl rfl)) ?_
      clear a E;intro a E
      obtain ⟨x14, hx15, hm⟩ := bnd hm
      obtain ⟨q16, u19, hx17, hx18⟩ := dr_ixW (P := Tryz.prog) (k := .i64) hI (dr_mem (.head _)) Tryz.underlying22 sz35 hx15
      refine fr_val E rfl (wn rfl) rfl rfl (fun w hW => x_ixA E rfl rfl rfl (hx17 w)) ?_
      clear a E;intro a E
      have hx20 := dr_fld hx18 (fun _ _ _ h => k_api_Node_aw0 h)
      refine fr_val E rfl (wn rfl) rfl rfl (fun w hW => x_fa E rfl rfl (fa35_0 _ _)) ?_
      clear a E;intro a E
      refine fr_val E rfl (wn rfl) rfl rfl (fun w hW => x_ld E rfl rfl (ir_ld (DR.ir (dr_at hx20)) Tryz.underlying9 rfl w hW)) ?_
      clear a E;intro a E
      refine fr_val E rfl (wn rfl) rfl rfl (fun w hW => (x_lenStr E rfl rfl Tryz.underlying9)) ?_
      clear a E;intro a E
      refine fr_val E rfl (wn rfl) rfl rfl (fun w hW => (x_min (t := 0) E rfl rfl rfl)) ?_
      clear a E;intro a E
      refine fr_val E rfl (wn rfl) rfl rfl (fun w hW => (x_bin E rfl rfl rfl rfl)) ?_
      clear a E;intro a E
      refine fr_val E rfl (wn rfl) rfl rfl (fun w hW => (x_move E rfl rfl)) ?_
      clear a E;intro a E
      refine fr_val E rfl (wn rfl) rfl rfl (fun w hW => (x_move E rfl rfl)) ?_
      clear a E;intro a E
      obtain ⟨x21, hx22, hm⟩ := bnd hm
      obtain ⟨q23, u26, hx24, hx25⟩ := dr_ixW (P := Tryz.prog) (k := .i64) hI (dr_mem (.head _)) Tryz.underlying22 sz35 hx22
      refine fr_val E rfl (wn rfl) rfl rfl (fun w hW => x_ixA E rfl rfl rfl (hx24 w)) ?_
      clear a E;intro a E
      have hx27 := dr_fld hx25 (fun _ _ _ h => k_api_Node_aw1 h)
      refine fr_val E rfl (wn rfl) rfl rfl (fun w hW => x_fa E rfl rfl (fa35_1 _ _)) ?_
      clear a E;intro a E
      refine fr_val E rfl (wn rfl) rfl rfl (fun w hW => x_ld E rfl rfl (ir_ld (DR.ir (dr_at hx27)) Tryz.underlying9 rfl w hW)) ?_
      clear a E;intro a E
      refine fr_val E rfl (wn rfl) rfl rfl (fun w hW => (x_lenStr E rfl rfl Tryz.underlying9)) ?_
      clear a E;intro a E
      refine fr_val E rfl (wn rfl) rfl rfl (fun w hW => (x_min (t := 0) E rfl rfl rfl)) ?_
      clear a E;intro a E
      refine fr_val E rfl (wn rfl) rfl rfl (fun w hW => (x_bin E rfl rfl rfl rfl)) ?_
      clear a E;intro a E
      refine fr_tail rfl ?_
      refine sv E rfl rfl rfl (x_assign E rfl rfl) ?_
      clear a E;intro a E
      refine wpList_nil ?_
      refine q_then ?_
      refine fr_nil ?_
      clear hI
      refine q_blk ?_
      refine q_then ?_
      refine wp_region_lit ?_
      refine sv E rfl rfl rfl (x_move E rfl rfl) ?_
      clear a E;intro a E
      refine sv E rfl rfl rfl (x_bin E rfl rfl rfl rfl) ?_
      clear a E;intro a E
      refine sv E rfl rfl rfl (x_assign E rfl rfl) ?_
      clear a E;intro a E
      refine wpList_nil ?_
      refine q_then ?_
      exact ⟨k1, Nat.lt_succ_self k1, IntKind.i64.wrap ((IntKind.i64.wrap (x7 + (min (x14.Path.size : Int) 5000))) + (min (x21.Data.size : Int) 5000)), IntKind.i64.wrap (x8 + 1), _, (((E.nil.keep E 4 rfl).keep E 3 rfl).keep E 0 rfl), H, fun r hr => .tail _ (hs10 r hr), (.tail _ hr11), hm⟩
     ·intro hb
      rw [if_f hb] at hm
      clear hb
      refine wp_exit ?_
      refine q_thenX ?_
      refine q_thenX ?_
      refine q_hit ?_
      refine q_then ?_
      exact ⟨x7, _, (E.nil.keep E 3 rfl), H, hs10, hm⟩
    ·rw [if_f hb12] at hm
     refine st_no E (wf' E rfl rfl rfl rfl hb12 rfl) rfl rfl ?_
     clear a E;intro a E
     refine st_no E (wf' E rfl rfl rfl rfl hb12 rfl) rfl rfl ?_
     clear a E;intro a E
     refine sv E rfl rfl rfl (x_pickF E rfl rfl hb12 rfl) ?_
     clear a E;intro a E
     refine wpList_nil ?_
     refine q_then ?_
     refine wp_cond_false (E.eval rfl) ?_
     refine wp_exit ?_
     refine q_thenX ?_
     refine q_thenX ?_
     refine q_hit ?_
     refine q_then ?_
     exact ⟨x7, _, (E.nil.keep E 3 rfl), H, hs10, hm⟩
 ·clear E H hm
  rintro a w ⟨x4, rs5, E, H, hs6, hm⟩
  unfold m_cantonlaw06_Great_j1 at hm
  refine wp_seq ?_
  refine wp_region_lit ?_
  refine sv E rfl rfl rfl (x_move E rfl rfl) ?_
  clear a E;intro a E
  refine sv E rfl rfl rfl (x_bin E rfl rfl rfl rfl) ?_
  clear a E;intro a E
  refine sv E rfl rfl rfl (x_assign E rfl rfl) ?_
  clear a E;intro a E
  refine wpList_nil ?_
  refine q_then ?_
  refine wp_ret ?_
  refine out1 E rfl rfl ?_
  obtain rfl := Option.some.inj hm
  exact ⟨rfl, H.reads (fun r hr => hs6 r hr)⟩
end Go.Cb

set_option linter.unusedVariables false
set_option linter.unusedSimpArgs false
namespace Go.Cb
open Go.Proofs Go.RowKit
def m_cantonlaw06_GreatOp (x1 : S_api_Op) : Option Bool :=
  if (decide ((x1.Path.size : Int) > 3000)) = true then (some (true)) else (some (decide ((x1.Data.size : Int) > 3000)))
set_option maxRecDepth 20000 in
set_option maxHeartbeats 1000000 in
theorem c_cantonlaw06_GreatOp {w : World} {Fo : List Ob} {rs : List Rp} (x1 : S_api_Op) (H : Sep w (Fo) rs) {r : Bool} (hm : m_cantonlaw06_GreatOp x1 = some r) :
    Calls Tryz.prog 6 [.agg #[.int .i64 x1.Kind, .string x1.Path, .string x1.Data, .int .i64 x1.Version, .int .i64 x1.Owner, .bool x1.Turns]].toArray w (Ret fun v w' => .bool r = v ∧ Sep w' (Fo) (rs)) := by
 unfold m_cantonlaw06_GreatOp at hm
 refine enter Tryz.func6 rfl Tryz.ntmps6 rfl fun a E => ?_
 simp only [enum, Nat.reduceAdd] at E
 refine wp_seq ?_
 refine wp_region_lit ?_
 refine st_box E H (wn rfl) rfl rfl (cs := [.int .i64 x1.Kind, .string x1.Path, .string x1.Data, .int .i64 x1.Version, .int .i64 x1.Owner, .bool x1.Turns]) rfl rfl rfl ?_
 clear E H; clear a; clear w; intro p2 w a H E
 refine sv E rfl rfl rfl (x_assign E rfl rfl) ?_
 clear a E;intro a E
 refine wpList_nil ?_
 refine q_then ?_
 refine wp_seq ?_
 refine wp_region_lit ?_
 refine sv E rfl rfl rfl (x_fa E rfl rfl (v := .pointer (some ⟨p2, 1, none⟩)) (fa24_1 _ _)) ?_
 clear a E;intro a E
 refine sv E rfl rfl rfl (x_ldB (i := 0) E H rfl rfl rfl rfl Tryz.underlying9 rfl) ?_
 clear a E;intro a E
 refine sv E rfl rfl rfl (x_lenStr E rfl rfl Tryz.underlying9) ?_
 clear a E;intro a E
 refine sv E rfl rfl rfl (x_bin E rfl rfl rfl rfl) ?_
 clear a E;intro a E
 refine sv E rfl rfl rfl (x_move E rfl rfl) ?_
 clear a E;intro a E
 rcases Bool.eq_false_or_eq_true (decide ((x1.Path.size : Int) > 3000)) with hb3 | hb3
 ·rw [if_t hb3] at hm
  refine st_no E (wf' E rfl rfl rfl rfl hb3 rfl) rfl rfl ?_
  clear a E;intro a E
  refine st_no E (wf' E rfl rfl rfl rfl hb3 rfl) rfl rfl ?_
  clear a E;intro a E
  refine st_no E (wf' E rfl rfl rfl rfl hb3 rfl) rfl rfl ?_
  clear a E;intro a E
  refine st_no E (wf' E rfl rfl rfl rfl hb3 rfl) rfl rfl ?_
  clear a E;intro a E
  refine sv E rfl rfl rfl (x_pickT E rfl rfl hb3 rfl) ?_
  clear a E;intro a E
  refine sv E rfl rfl rfl (x_assign E rfl rfl) ?_
  clear a E;intro a E
  refine wpList_nil ?_
  refine q_then ?_
  refine wp_ret ?_
  refine out1 E rfl rfl ?_
  replace H := H.drop 0
  obtain rfl := Option.some.inj hm
  exact ⟨rfl, H.reads (fun r hr => hr)⟩
 ·rw [if_f hb3] at hm
  refine st_val E (ws' E rfl rfl rfl rfl hb3) rfl rfl (x_fa E rfl rfl (v := .pointer (some ⟨p2, 2, none⟩)) (fa24_2 _ _)) ?_
  clear a E;intro a E
  refine st_val E (ws' E rfl rfl rfl rfl hb3) rfl rfl (x_ldB (i := 0) E H rfl rfl rfl rfl Tryz.underlying9 rfl) ?_
  clear a E;intro a E
  refine st_val E (ws' E rfl rfl rfl rfl hb3) rfl rfl (x_lenStr E rfl rfl Tryz.underlying9) ?_
  clear a E;intro a E
  refine st_val E (ws' E rfl rfl rfl rfl hb3) rfl rfl (x_bin E rfl rfl rfl rfl) ?_
  clear a E;intro a E
  refine sv E rfl rfl rfl (x_pickF E rfl rfl hb3 rfl) ?_
  clear a E;intro a E
  refine sv E rfl rfl rfl (x_assign E rfl rfl) ?_
  clear a E;intro a E
  refine wpList_nil ?_
  refine q_then ?_
  refine wp_ret ?_
  refine out1 E rfl rfl ?_
  replace H := H.drop 0
  obtain rfl := Option.some.inj hm
  exact ⟨rfl, H.reads (fun r hr => hr)⟩
end Go.Cb

set_option linter.unusedVariables false
set_option linter.unusedSimpArgs false
namespace Go.Cb
open Go.Proofs Go.RowKit
def m_cantonref06_Same_l1 (l2 : List S_api_Node) (l4 : List S_api_Node) : Nat → Int → Option Bool
  | 0, _ => none
  | k1 + 1, x7 =>
    if (decide (x7 < (l2.length : Int))) = true then ((idx l2 x7).bind fun x14 => (idx l4 x7).bind fun x20 => if (!((sEq x14.Path x20.Path) && ((sEq x14.Data x20.Data) && ((x14.Version == x20.Version) && ((x14.Turn == x20.Turn) && (x14.Owner == x20.Owner)))))) = true then (some (false)) else (m_cantonref06_Same_l1 l2 l4 k1 (IntKind.i64.wrap (x7 + 1)))) else (some (true))
def m_cantonref06_Same (l2 : List S_api_Node) (l4 : List S_api_Node) : Option Bool :=
  if ((l2.length : Int) != (l4.length : Int)) = true then (some (false)) else (m_cantonref06_Same_l1 l2 l4 (((l2.length : Int) - 0 : Int).toNat + 1) 0)
set_option maxRecDepth 20000 in
set_option maxHeartbeats 1000000 in
theorem c_cantonref06_Same {w : World} {Fo : List Ob} {rs : List Rp} (v1 : Value) (l2 : List S_api_Node) (v3 : Value) (l4 : List S_api_Node) (H : Sep w (Fo) rs) (hr5 : rSl k_api_Node v1 l2 ∈ rs) (hr6 : rSl k_api_Node v3 l4 ∈ rs) {r : Bool} (hm : m_cantonref06_Same l2 l4 = some r) :
    Calls Tryz.prog 15 [v1, v3].toArray w (Ret fun v w' => .bool r = v ∧ Sep w' (Fo) (rs)) := by
 unfold m_cantonref06_Same at hm
 refine enter Tryz.func15 rfl Tryz.ntmps15 rfl fun a E => ?_
 simp only [enum, Nat.reduceAdd] at E
 refine wp_seq ?_
 refine wp_region_lit ?_
 refine sv E rfl rfl rfl (x_assign E rfl rfl) ?_
 clear a E;intro a E
 refine wpList_nil ?_
 refine q_then ?_
 refine wp_seq ?_
 refine wp_seq ?_
 refine wp_region_lit ?_
 refine sv E rfl rfl rfl (x_move E rfl rfl) ?_
 clear a E;intro a E
 refine sv E rfl rfl rfl (x_lenS E H rfl rfl hr5 Tryz.underlying22) ?_
 clear a E;intro a E
 refine sv E rfl rfl rfl (x_move E rfl rfl) ?_
 clear a E;intro a E
 refine sv E rfl rfl rfl (x_lenS E H rfl rfl hr6 Tryz.underlying22) ?_
 clear a E;intro a E
 refine sv E rfl rfl rfl (x_bin E rfl rfl rfl rfl) ?_
 clear a E;intro a E
 refine wpList_nil ?_
 refine q_then ?_
 refine wp_if E rfl ?_ ?_
 ·intro hb
  rw [if_t hb] at hm
  clear hb
  refine wp_seq ?_
  refine wp_region_lit ?_
  refine sv E rfl rfl rfl (x_assign E rfl rfl) ?_
  clear a E;intro a E
  refine wpList_nil ?_
  refine q_then ?_
  refine wp_ret ?_
  refine q_thenR ?_
  refine out1 E rfl rfl ?_
  obtain rfl := Option.some.inj hm
  exact ⟨rfl, H.reads (fun r hr => hr)⟩
 ·intro hb
  rw [if_f hb] at hm
  clear hb
  refine wp_skip ?_
  refine q_then ?_
  refine wp_seq ?_
  refine wp_seq ?_
  refine wp_region_lit ?_
  refine sv E rfl rfl rfl (x_assign E rfl rfl) ?_
  clear a E;intro a E
  refine wpList_nil ?_
  refine q_then ?_
  refine wp_block ?_
  refine wp_loop_g (fun k1 a w => ∃ (x7 : Int) (rs8 : List Rp), Env 26 a [(0, v1), (1, v3), (5, .int .i64 x7)] ∧ Sep w (Fo) rs8 ∧ (∀ r, r ∈ rs → r ∈ rs8) ∧ rSl k_api_Node v1 l2 ∈ rs8 ∧ rSl k_api_Node v3 l4 ∈ rs8 ∧ m_cantonref06_Same_l1 l2 l4 k1 x7 = some r) (((l2.length : Int) - 0 : Int).toNat + 1) ?_ ?_
  ·exact ⟨0, _, (((E.nil.keep E 5 rfl).keep E 1 rfl).keep E 0 rfl), H, fun r hr => hr, hr5, hr6, hm⟩
  ·clear E H hm
   rintro k1 a w ⟨x7, rs8, E, H, hs9, hr10, hr11, hm⟩
   cases k1 with
   | zero => exact (none_some hm rfl).elim
   | succ k1 =>
    unfold m_cantonref06_Same_l1 at hm
    refine wp_seq ?_
    refine wp_seq ?_
    refine wp_region_lit ?_
    refine sv E rfl rfl rfl (x_move E rfl rfl) ?_
    clear a E;intro a E
    refine sv E rfl rfl rfl (x_move E rfl rfl) ?_
    clear a E;intro a E
    refine sv E rfl rfl rfl (x_lenS E H rfl rfl hr10 Tryz.underlying22) ?_
    clear a E;intro a E
    refine sv E rfl rfl rfl (x_bin E rfl rfl rfl rfl) ?_
    clear a E;intro a E
    refine wpList_nil ?_
    refine q_then ?_
    refine wp_if E rfl ?_ ?_
    ·intro hb
     rw [if_t hb] at hm
     clear hb
     refine wp_skip ?_
     refine q_then ?_
     refine wp_seq ?_
     refine wp_block ?_
     refine wp_seq ?_
     obtain ⟨u12, H⟩ := H.raw hr10
     obtain ⟨u13, H⟩ := H.raw (.tail _ hr11)
     replace H : Sep w (Fo) (rRow k_api_Node v3 l4 u13 :: rRow k_api_Node v1 l2 u12 :: rs8) := H
     have hI : Still [] [rRow k_api_Node v1 l2 u12, rRow k_api_Node v3 l4 u13] { w with drawn := w.drawn + 1 } := ⟨_, _, H.kept (Kp.drawn _ w _), (subO_nil), (sub_cons (.tail _ (.head _)) (sub_cons (.head _) (sub_nil)))⟩
     refine wp_draw _ [(0, 0), (1, 0), (2, 0), (3, 0), (4, 0), (5, 0), (6, 0), (7, 0), (8, 0)] mixedOk (by kernel_rfl) (fun _ _ _ h => False.elim h.2) hI ?_
     replace H := H.kept (Kp.drawn _ w (w.drawn + 1))
     generalize ({ w with drawn := w.drawn + 1 } : World) = w at H hI ⊢
     replace hI : ∃ W, Still [] [rRow k_api_Node v1 l2 u12, rRow k_api_Node v3 l4 u13] W := ⟨_, hI⟩
     obtain ⟨W0, hI⟩ := hI
     refine fr_val E rfl (wn rfl) rfl rfl (fun w hW => (x_move E rfl rfl)) ?_
     clear a E;intro a E
     refine fr_val E rfl (wn rfl) rfl rfl (fun w hW => (x_move E rfl rfl)) ?_
     clear a E;intro a E
     obtain ⟨x14, hx15, hm⟩ := bnd hm
     obtain ⟨q16, u19, hx17, hx18⟩ := dr_ixW (P := Tryz.prog) (k := .i64) hI (dr_mem (.head _)) Tryz.underlying22 sz35 hx15
     refine fr_val E rfl (wn rfl) rfl rfl (fun w hW => x_ixA E rfl rfl rfl (hx17 w)) ?_
     clear a E;intro a E
     refine fr_val E rfl (wn rfl) rfl rfl (fun w hW => x_ld E rfl rfl (ir_ldN (cs := [.string x14.Path, .string x14.Data, .int .i64 x14.Version, .int .i64 x14.Turn, .int .i64 x14.Owner]) (DR.ir (dr_at hx18)) (fun _ _ _ h => k_api_Node_open h) Tryz.underlying35 rfl sz35 w hW)) ?_
     clear a E;intro a E
     refine fr_val E rfl (wn rfl) rfl rfl (fun w hW => (x_move E rfl rfl)) ?_
     clear a E;intro a E
     refine fr_val E rfl (wn rfl) rfl rfl (fun w hW => (x_move E rfl rfl)) ?_
     clear a E;intro a E
     obtain ⟨x20, hx21, hm⟩ := bnd hm
     obtain ⟨q22, u25, hx23, hx24⟩ := dr_ixW (P := Tryz.prog) (k := .i64) hI (dr_mem (.tail _ (.head _))) Tryz.underlying22 sz35 hx21
     refine fr_val E rfl (wn rfl) rfl rfl (fun w hW => x_ixA E rfl rfl rfl (hx23 w)) ?_
     clear a E;intro a E
     refine fr_val E rfl (wn rfl) rfl rfl (fun w hW => x_ld E rfl rfl (ir_ldN (cs := [.string x20.Path, .string x20.Data, .int .i64 x20.Version, .int .i64 x20.Turn, .int .i64 x20.Owner]) (DR.ir (dr_at hx24)) (fun _ _ _ h => k_api_Node_open h) Tryz.underlying35 rfl sz35 w hW)) ?_
     clear a E;intro a E
     refine fr_val E rfl (wn rfl) rfl rfl (fun w hW => (x_bin2 E rfl rfl rfl (v := .bool (!((sEq x14.Path x20.Path) && ((sEq x14.Data x20.Data) && ((x14.Version == x20.Version) && ((x14.Turn == x20.Turn) && (x14.Owner == x20.Owner))))))) (ne_agg egt35 (eq_struct Tryz.underlying35 sih35 (eqf_cons (by rfl) (by kernel_rfl) (by kernel_rfl) (eq_string Tryz.underlying9) (eqf_cons (by rfl) (by kernel_rfl) (by kernel_rfl) (eq_string Tryz.underlying9) (eqf_cons (by rfl) (by kernel_rfl) (by kernel_rfl) (eq_int Tryz.underlying2) (eqf_cons (by rfl) (by kernel_rfl) (by kernel_rfl) (eq_int Tryz.underlying2) (eqf_last (by rfl) (by kernel_rfl) (by kernel_rfl) (eq_int Tryz.underlying2)))))))))) ?_
     clear a E;intro a E
     refine fr_nil ?_
     clear hI
     refine q_then ?_
     refine wp_if E rfl ?_ ?_
     ·intro hb
      rw [if_t hb] at hm
      clear hb
      refine wp_seq ?_
      refine wp_region_lit ?_
      refine sv E rfl rfl rfl (x_assign E rfl rfl) ?_
      clear a E;intro a E
      refine wpList_nil ?_
      refine q_then ?_
      refine wp_ret ?_
      refine q_blkR ?_
      refine q_thenR ?_
      refine q_thenR ?_
      refine q_blkR ?_
      refine q_thenR ?_
      refine out1 E rfl rfl ?_
      obtain rfl := Option.some.inj hm
      exact ⟨rfl, H.reads (fun r hr => .tail _ (.tail _ (hs9 r hr)))⟩
     ·intro hb
      rw [if_f hb] at hm
      clear hb
      refine wp_skip ?_
      refine q_blk ?_
      refine q_then ?_
      refine wp_region_lit ?_
      refine sv E rfl rfl rfl (x_move E rfl rfl) ?_
      clear a E;intro a E
      refine sv E rfl rfl rfl (x_bin E rfl rfl rfl rfl) ?_
      clear a E;intro a E
      refine sv E rfl rfl rfl (x_assign E rfl rfl) ?_
      clear a E;intro a E
      refine wpList_nil ?_
      refine q_then ?_
      exact ⟨k1, Nat.lt_succ_self k1, IntKind.i64.wrap (x7 + 1), _, (((E.nil.keep E 5 rfl).keep E 1 rfl).keep E 0 rfl), H, fun r hr => .tail _ (.tail _ (hs9 r hr)), (.tail _ (.tail _ hr10)), (.tail _ (.tail _ hr11)), hm⟩
    ·intro hb
     rw [if_f hb] at hm
     clear hb
     refine wp_exit ?_
     refine q_thenX ?_
     refine q_thenX ?_
     refine q_hit ?_
     refine q_then ?_
     refine wp_seq ?_
     refine wp_region_lit ?_
     refine sv E rfl rfl rfl (x_assign E rfl rfl) ?_
     clear a E;intro a E
     refine wpList_nil ?_
     refine q_then ?_
     refine wp_ret ?_
     refine out1 E rfl rfl ?_
     obtain rfl := Option.some.inj hm
     exact ⟨rfl, H.reads (fun r hr => hs9 r hr)⟩
end Go.Cb

set_option linter.unusedVariables false
set_option linter.unusedSimpArgs false
namespace Go.Cb
open Go.Proofs Go.RowKit
def m_cantonref01_Same_l1 (l2 : List ByteArray) (l4 : List ByteArray) : Nat → Int → Option Bool
  | 0, _ => none
  | k1 + 1, x7 =>
    if (decide (x7 < (l2.length : Int))) = true then ((idx l2 x7).bind fun x14 => (idx l4 x7).bind fun x20 => if (!(sEq x14 x20)) = true then (some (false)) else (m_cantonref01_Same_l1 l2 l4 k1 (IntKind.i64.wrap (x7 + 1)))) else (some (true))
def m_cantonref01_Same (l2 : List ByteArray) (l4 : List ByteArray) : Option Bool :=
  if ((l2.length : Int) != (l4.length : Int)) = true then (some (false)) else (m_cantonref01_Same_l1 l2 l4 (((l2.length : Int) - 0 : Int).toNat + 1) 0)
set_option maxRecDepth 20000 in
set_option maxHeartbeats 1000000 in
theorem c_cantonref01_Same {w : World} {Fo : List Ob} {rs : List Rp} (v1 : Value) (l2 : List ByteArray) (v3 : Value) (l4 : List ByteArray) (H : Sep w (Fo) rs) (hr5 : rSl kS v1 l2 ∈ rs) (hr6 : rSl kS v3 l4 ∈ rs) {r : Bool} (hm : m_cantonref01_Same l2 l4 = some r) :
    Calls Tryz.prog 41 [v1, v3].toArray w (Ret fun v w' => .bool r = v ∧ Sep w' (Fo) (rs)) := by
 unfold m_cantonref01_Same at hm
 refine enter Tryz.func41 rfl Tryz.ntmps41 rfl fun a E => ?_
 simp only [enum, Nat.reduceAdd] at E
 refine wp_seq ?_
 refine wp_region_lit ?_
 refine sv E rfl rfl rfl (x_assign E rfl rfl) ?_
 clear a E;intro a E
 refine wpList_nil ?_
 refine q_then ?_
 refine wp_seq ?_
 refine wp_seq ?_
 refine wp_region_lit ?_
 refine sv E rfl rfl rfl (x_move E rfl rfl) ?_
 clear a E;intro a E
 refine sv E rfl rfl rfl (x_lenS E H rfl rfl hr5 Tryz.underlying29) ?_
 clear a E;intro a E
 refine sv E rfl rfl rfl (x_move E rfl rfl) ?_
 clear a E;intro a E
 refine sv E rfl rfl rfl (x_lenS E H rfl rfl hr6 Tryz.underlying29) ?_
 clear a E;intro a E
 refine sv E rfl rfl rfl (x_bin E rfl rfl rfl rfl) ?_
 clear a E;intro a E
 refine wpList_nil ?_
 refine q_then ?_
 refine wp_if E rfl ?_ ?_
 ·intro hb
  rw [if_t hb] at hm
  clear hb
  refine wp_seq ?_
  refine wp_region_lit ?_
  refine sv E rfl rfl rfl (x_assign E rfl rfl) ?_
  clear a E;intro a E
  refine wpList_nil ?_
  refine q_then ?_
  refine wp_ret ?_
  refine q_thenR ?_
  refine out1 E rfl rfl ?_
  obtain rfl := Option.some.inj hm
  exact ⟨rfl, H.reads (fun r hr => hr)⟩
 ·intro hb
  rw [if_f hb] at hm
  clear hb
  refine wp_skip ?_
  refine q_then ?_
  refine wp_seq ?_
  refine wp_seq ?_
  refine wp_region_lit ?_
  refine sv E rfl rfl rfl (x_assign E rfl rfl) ?_
  clear a E;intro a E
  refine wpList_nil ?_
  refine q_then ?_
  refine wp_block ?_
  refine wp_loop_g (fun k1 a w => ∃ (x7 : Int) (rs8 : List Rp), Env 26 a [(0, v1), (1, v3), (5, .int .i64 x7)] ∧ Sep w (Fo) rs8 ∧ (∀ r, r ∈ rs → r ∈ rs8) ∧ rSl kS v1 l2 ∈ rs8 ∧ rSl kS v3 l4 ∈ rs8 ∧ m_cantonref01_Same_l1 l2 l4 k1 x7 = some r) (((l2.length : Int) - 0 : Int).toNat + 1) ?_ ?_
  ·exact ⟨0, _, (((E.nil.keep E 5 rfl).keep E 1 rfl).keep E 0 rfl), H, fun r hr => hr, hr5, hr6, hm⟩
  ·clear E H hm
   rintro k1 a w ⟨x7, rs8, E, H, hs9, hr10, hr11, hm⟩
   cases k1 with
   | zero => exact (none_some hm rfl).elim
   | succ k1 =>
    unfold m_cantonref01_Same_l1 at hm
    refine wp_seq ?_
    refine wp_seq ?_
    refine wp_region_lit ?_
    refine sv E rfl rfl rfl (x_move E rfl rfl) ?_
    clear a E;intro a E
    refine sv E rfl rfl rfl (x_move E rfl rfl) ?_
    clear a E;intro a E
    refine sv E rfl rfl rfl (x_lenS E H rfl rfl hr10 Tryz.underlying29) ?_
    clear a E;intro a E
    refine sv E rfl rfl rfl (x_bin E rfl rfl rfl rfl) ?_
    clear a E;intro a E
    refine wpList_nil ?_
    refine q_then ?_
    refine wp_if E rfl ?_ ?_
    ·intro hb
     rw [if_t hb] at hm
     clear hb
     refine wp_skip ?_
     refine q_then ?_
     refine wp_seq ?_
     refine wp_block ?_
     refine wp_seq ?_
     obtain ⟨u12, H⟩ := H.raw hr10
     obtain ⟨u13, H⟩ := H.raw (.tail _ hr11)
     replace H : Sep w (Fo) (rRow kS v3 l4 u13 :: rRow kS v1 l2 u12 :: rs8) := H
     have hI : Still [] [rRow kS v1 l2 u12, rRow kS v3 l4 u13] { w with drawn := w.drawn + 1 } := ⟨_, _, H.kept (Kp.drawn _ w _), (subO_nil), (sub_cons (.tail _ (.head _)) (sub_cons (.head _) (sub_nil)))⟩
     refine wp_draw _ [(0, 0), (1, 0), (2, 0), (3, 0), (4, 0), (5, 0), (6, 0), (7, 0), (8, 0)] mixedOk (by kernel_rfl) (fun _ _ _ h => False.elim h.2) hI ?_
     replace H := H.kept (Kp.drawn _ w (w.drawn + 1))
     generalize ({ w with drawn := w.drawn + 1 } : World) = w at H hI ⊢
     replace hI : ∃ W, Still [] [rRow kS v1 l2 u12, rRow kS v3 l4 u13] W := ⟨_, hI⟩
     obtain ⟨W0, hI⟩ := hI
     refine fr_val E rfl (wn rfl) rfl rfl (fun w hW => (x_move E rfl rfl)) ?_
     clear a E;intro a E
     refine fr_val E rfl (wn rfl) rfl rfl (fun w hW => (x_move E rfl rfl)) ?_
     clear a E;intro a E
     obtain ⟨x14, hx15, hm⟩ := bnd hm
     obtain ⟨q16, u19, hx17, hx18⟩ := dr_ixW (P := Tryz.prog) (k := .i64) hI (dr_mem (.head _)) Tryz.underlying29 sz9 hx15
     refine fr_val E rfl (wn rfl) rfl rfl (fun w hW => x_ixA E rfl rfl rfl (hx17 w)) ?_
     clear a E;intro a E
     refine fr_val E rfl (wn rfl) rfl rfl (fun w hW => x_ld E rfl rfl (ir_ld (DR.ir (dr_at hx18)) Tryz.underlying9 rfl w hW)) ?_
     clear a E;intro a E
     refine fr_val E rfl (wn rfl) rfl rfl (fun w hW => (x_move E rfl rfl)) ?_
     clear a E;intro a E
     refine fr_val E rfl (wn rfl) rfl rfl (fun w hW => (x_move E rfl rfl)) ?_
     clear a E;intro a E
     obtain ⟨x20, hx21, hm⟩ := bnd hm
     obtain ⟨q22, u25, hx23, hx24⟩ := dr_ixW (P := Tryz.prog) (k := .i64) hI (dr_mem (.tail _ (.head _))) Tryz.underlying29 sz9 hx21
     refine fr_val E rfl (wn rfl) rfl rfl (fun w hW => x_ixA E rfl rfl rfl (hx23 w)) ?_
     clear a E;intro a E
     refine fr_val E rfl (wn rfl) rfl rfl (fun w hW => x_ld E rfl rfl (ir_ld (DR.ir (dr_at hx24)) Tryz.underlying9 rfl w hW)) ?_
     clear a E;intro a E
     refine fr_val E rfl (wn rfl) rfl rfl (fun w hW => (x_str E rfl rfl rfl rfl)) ?_
     clear a E;intro a E
     refine fr_nil ?_
     clear hI
     refine q_then ?_
     refine wp_if E rfl ?_ ?_
     ·intro hb
      rw [if_t hb] at hm
      clear hb
      refine wp_seq ?_
      refine wp_region_lit ?_
      refine sv E rfl rfl rfl (x_assign E rfl rfl) ?_
      clear a E;intro a E
      refine wpList_nil ?_
      refine q_then ?_
      refine wp_ret ?_
      refine q_blkR ?_
      refine q_thenR ?_
      refine q_thenR ?_
      refine q_blkR ?_
      refine q_thenR ?_
      refine out1 E rfl rfl ?_
      obtain rfl := Option.some.inj hm
      exact ⟨rfl, H.reads (fun r hr => .tail _ (.tail _ (hs9 r hr)))⟩
     ·intro hb
      rw [if_f hb] at hm
      clear hb
      refine wp_skip ?_
      refine q_blk ?_
      refine q_then ?_
      refine wp_region_lit ?_
      refine sv E rfl rfl rfl (x_move E rfl rfl) ?_
      clear a E;intro a E
      refine sv E rfl rfl rfl (x_bin E rfl rfl rfl rfl) ?_
      clear a E;intro a E
      refine sv E rfl rfl rfl (x_assign E rfl rfl) ?_
      clear a E;intro a E
      refine wpList_nil ?_
      refine q_then ?_
      exact ⟨k1, Nat.lt_succ_self k1, IntKind.i64.wrap (x7 + 1), _, (((E.nil.keep E 5 rfl).keep E 1 rfl).keep E 0 rfl), H, fun r hr => .tail _ (.tail _ (hs9 r hr)), (.tail _ (.tail _ hr10)), (.tail _ (.tail _ hr11)), hm⟩
    ·intro hb
     rw [if_f hb] at hm
     clear hb
     refine wp_exit ?_
     refine q_thenX ?_
     refine q_thenX ?_
     refine q_hit ?_
     refine q_then ?_
     refine wp_seq ?_
     refine wp_region_lit ?_
     refine sv E rfl rfl rfl (x_assign E rfl rfl) ?_
     clear a E;intro a E
     refine wpList_nil ?_
     refine q_then ?_
     refine wp_ret ?_
     refine out1 E rfl rfl ?_
     obtain rfl := Option.some.inj hm
     exact ⟨rfl, H.reads (fun r hr => hs9 r hr)⟩
end Go.Cb

set_option linter.unusedVariables false
set_option linter.unusedSimpArgs false
namespace Go.Cb
open Go.Proofs Go.RowKit
def m_cantonref06_SameOne (x1 : S_api_Result) (x3 : S_api_Result) : Option Bool :=
  if (x1.Err == x3.Err) = true then (if (sEq x1.Path x3.Path) = true then (if (sEq x1.Data x3.Data) = true then (if (x1.Version == x3.Version) = true then ((m_cantonref01_Same x1.Names x3.Names).bind fun u17 => some (u17)) else (some (false))) else (some (false))) else (some (false))) else (some (false))
set_option maxRecDepth 20000 in
set_option maxHeartbeats 1000000 in
theorem c_cantonref06_SameOne {w : World} {Fo : List Ob} {rs : List Rp} (x1 : S_api_Result) (v2 : Value) (x3 : S_api_Result) (v4 : Value) (H : Sep w (Fo) rs) (hr5 : rSl kS v2 x1.Names ∈ rs) (hr6 : rSl kS v4 x3.Names ∈ rs) {r : Bool} (hm : m_cantonref06_SameOne x1 x3 = some r) :
    Calls Tryz.prog 16 [.agg #[.int .i64 x1.Err, .string x1.Path, .string x1.Data, .int .i64 x1.Version, v2], .agg #[.int .i64 x3.Err, .string x3.Path, .string x3.Data, .int .i64 x3.Version, v4]].toArray w (Ret fun v w' => .bool r = v ∧ Sep w' (Fo) (rs)) := by
 unfold m_cantonref06_SameOne at hm
 refine enter Tryz.func16 rfl Tryz.ntmps16 rfl fun a E => ?_
 simp only [enum, Nat.reduceAdd] at E
 refine wp_seq ?_
 refine wp_region_lit ?_
 obtain ⟨q8, x9, rfl⟩ := H.slform hr5
 refine st_box E H (wn rfl) rfl rfl (cs := [.int .i64 x1.Err, .string x1.Path, .string x1.Data, .int .i64 x1.Version, (.slice q8 x1.Names.length x9)]) rfl rfl rfl ?_
 clear E H; clear a; clear w; intro p7 w a H E
 obtain ⟨q11, x12, rfl⟩ := H.slform hr6
 refine st_box E H (wn rfl) rfl rfl (cs := [.int .i64 x3.Err, .string x3.Path, .string x3.Data, .int .i64 x3.Version, (.slice q11 x3.Names.length x12)]) rfl rfl rfl ?_
 clear E H; clear a; clear w; intro p10 w a H E
 refine sv E rfl rfl rfl (x_assign E rfl rfl) ?_
 clear a E;intro a E
 refine wpList_nil ?_
 refine q_then ?_
 refine wp_seq ?_
 refine wp_region_lit ?_
 refine sv E rfl rfl rfl (x_fa E rfl rfl (v := .pointer (some ⟨p7, 0, none⟩)) (fa31_0 _ _)) ?_
 clear a E;intro a E
 refine sv E rfl rfl rfl (x_ldB (i := 1) E H rfl rfl rfl rfl Tryz.underlying28 rfl) ?_
 clear a E;intro a E
 refine sv E rfl rfl rfl (x_fa E rfl rfl (v := .pointer (some ⟨p10, 0, none⟩)) (fa31_0 _ _)) ?_
 clear a E;intro a E
 refine sv E rfl rfl rfl (x_ldB (i := 0) E H rfl rfl rfl rfl Tryz.underlying28 rfl) ?_
 clear a E;intro a E
 refine sv E rfl rfl rfl (x_bin E rfl rfl rfl rfl) ?_
 clear a E;intro a E
 refine sv E rfl rfl rfl (x_move E rfl rfl) ?_
 clear a E;intro a E
 rcases Bool.eq_false_or_eq_true (x1.Err == x3.Err) with hb13 | hb13
 ·rw [if_t hb13] at hm
  refine st_val E (ws' E rfl rfl rfl rfl hb13) rfl rfl (x_fa E rfl rfl (v := .pointer (some ⟨p7, 1, none⟩)) (fa31_1 _ _)) ?_
  clear a E;intro a E
  refine st_val E (ws' E rfl rfl rfl rfl hb13) rfl rfl (x_ldB (i := 1) E H rfl rfl rfl rfl Tryz.underlying9 rfl) ?_
  clear a E;intro a E
  refine st_val E (ws' E rfl rfl rfl rfl hb13) rfl rfl (x_fa E rfl rfl (v := .pointer (some ⟨p10, 1, none⟩)) (fa31_1 _ _)) ?_
  clear a E;intro a E
  refine st_val E (ws' E rfl rfl rfl rfl hb13) rfl rfl (x_ldB (i := 0) E H rfl rfl rfl rfl Tryz.underlying9 rfl) ?_
  clear a E;intro a E
  refine st_val E (ws' E rfl rfl rfl rfl hb13) rfl rfl (x_str E rfl rfl rfl rfl) ?_
  clear a E;intro a E
  refine sv E rfl rfl rfl (x_pickT E rfl rfl hb13 rfl) ?_
  clear a E;intro a E
  refine sv E rfl rfl rfl (x_move E rfl rfl) ?_
  clear a E;intro a E
  rcases Bool.eq_false_or_eq_true (sEq x1.Path x3.Path) with hb14 | hb14
  ·rw [if_t hb14] at hm
   refine st_val E (ws' E rfl rfl rfl rfl hb14) rfl rfl (x_fa E rfl rfl (v := .pointer (some ⟨p7, 2, none⟩)) (fa31_2 _ _)) ?_
   clear a E;intro a E
   refine st_val E (ws' E rfl rfl rfl rfl hb14) rfl rfl (x_ldB (i := 1) E H rfl rfl rfl rfl Tryz.underlying9 rfl) ?_
   clear a E;intro a E
   refine st_val E (ws' E rfl rfl rfl rfl hb14) rfl rfl (x_fa E rfl rfl (v := .pointer (some ⟨p10, 2, none⟩)) (fa31_2 _ _)) ?_
   clear a E;intro a E
   refine st_val E (ws' E rfl rfl rfl rfl hb14) rfl rfl (x_ldB (i := 0) E H rfl rfl rfl rfl Tryz.underlying9 rfl) ?_
   clear a E;intro a E
   refine st_val E (ws' E rfl rfl rfl rfl hb14) rfl rfl (x_str E rfl rfl rfl rfl) ?_
   clear a E;intro a E
   refine sv E rfl rfl rfl (x_pickT E rfl rfl hb14 rfl) ?_
   clear a E;intro a E
   refine sv E rfl rfl rfl (x_move E rfl rfl) ?_
   clear a E;intro a E
   rcases Bool.eq_false_or_eq_true (sEq x1.Data x3.Data) with hb15 | hb15
   ·rw [if_t hb15] at hm
    refine st_val E (ws' E rfl rfl rfl rfl hb15) rfl rfl (x_fa E rfl rfl (v := .pointer (some ⟨p7, 3, none⟩)) (fa31_3 _ _)) ?_
    clear a E;intro a E
    refine st_val E (ws' E rfl rfl rfl rfl hb15) rfl rfl (x_ldB (i := 1) E H rfl rfl rfl rfl Tryz.underlying2 rfl) ?_
    clear a E;intro a E
    refine st_val E (ws' E rfl rfl rfl rfl hb15) rfl rfl (x_fa E rfl rfl (v := .pointer (some ⟨p10, 3, none⟩)) (fa31_3 _ _)) ?_
    clear a E;intro a E
    refine st_val E (ws' E rfl rfl rfl rfl hb15) rfl rfl (x_ldB (i := 0) E H rfl rfl rfl rfl Tryz.underlying2 rfl) ?_
    clear a E;intro a E
    refine st_val E (ws' E rfl rfl rfl rfl hb15) rfl rfl (x_bin E rfl rfl rfl rfl) ?_
    clear a E;intro a E
    refine sv E rfl rfl rfl (x_pickT E rfl rfl hb15 rfl) ?_
    clear a E;intro a E
    refine sv E rfl rfl rfl (x_move E rfl rfl) ?_
    clear a E;intro a E
    rcases Bool.eq_false_or_eq_true (x1.Version == x3.Version) with hb16 | hb16
    ·rw [if_t hb16] at hm
     refine st_val E (ws' E rfl rfl rfl rfl hb16) rfl rfl (x_fa E rfl rfl (v := .pointer (some ⟨p7, 4, none⟩)) (fa31_4 _ _)) ?_
     clear a E;intro a E
     refine st_val E (ws' E rfl rfl rfl rfl hb16) rfl rfl (x_ldB (i := 1) E H rfl rfl rfl rfl Tryz.underlying29 rfl) ?_
     clear a E;intro a E
     refine st_val E (ws' E rfl rfl rfl rfl hb16) rfl rfl (x_fa E rfl rfl (v := .pointer (some ⟨p10, 4, none⟩)) (fa31_4 _ _)) ?_
     clear a E;intro a E
     refine st_val E (ws' E rfl rfl rfl rfl hb16) rfl rfl (x_ldB (i := 0) E H rfl rfl rfl rfl Tryz.underlying29 rfl) ?_
     clear a E;intro a E
     obtain ⟨u17, hx18, hm⟩ := bnd hm
     refine st_call E (ws' E rfl rfl rfl rfl hb16) rfl rfl (x_call E rfl rfl (cf41 _)) (c_cantonref01_Same (.slice q8 x1.Names.length x9) x1.Names (.slice q11 x3.Names.length x12) x3.Names H hr5 hr6 hx18) ?_
     clear E H; clear a; clear w; rintro _ w ⟨rfl, H⟩ a E
     refine sv E rfl rfl rfl (x_pickT E rfl rfl hb16 rfl) ?_
     clear a E;intro a E
     refine sv E rfl rfl rfl (x_assign E rfl rfl) ?_
     clear a E;intro a E
     refine wpList_nil ?_
     refine q_then ?_
     refine wp_ret ?_
     refine out1 E rfl rfl ?_
     replace H := H.drop 0
     replace H := H.drop 0
     obtain rfl := Option.some.inj hm
     exact ⟨rfl, H.reads (fun r hr => hr)⟩
    ·rw [if_f hb16] at hm
     refine st_no E (wf' E rfl rfl rfl rfl hb16 rfl) rfl rfl ?_
     clear a E;intro a E
     refine st_no E (wf' E rfl rfl rfl rfl hb16 rfl) rfl rfl ?_
     clear a E;intro a E
     refine st_no E (wf' E rfl rfl rfl rfl hb16 rfl) rfl rfl ?_
     clear a E;intro a E
     refine st_no E (wf' E rfl rfl rfl rfl hb16 rfl) rfl rfl ?_
     clear a E;intro a E
     refine st_no E (wf' E rfl rfl rfl rfl hb16 rfl) rfl rfl ?_
     clear a E;intro a E
     refine sv E rfl rfl rfl (x_pickF E rfl rfl hb16 rfl) ?_
     clear a E;intro a E
     refine sv E rfl rfl rfl (x_assign E rfl rfl) ?_
     clear a E;intro a E
     refine wpList_nil ?_
     refine q_then ?_
     refine wp_ret ?_
     refine out1 E rfl rfl ?_
     replace H := H.drop 0
     replace H := H.drop 0
     obtain rfl := Option.some.inj hm
     exact ⟨rfl, H.reads (fun r hr => hr)⟩
   ·rw [if_f hb15] at hm
    refine st_no E (wf' E rfl rfl rfl rfl hb15 rfl) rfl rfl ?_
    clear a E;intro a E
    refine st_no E (wf' E rfl rfl rfl rfl hb15 rfl) rfl rfl ?_
    clear a E;intro a E
    refine st_no E (wf' E rfl rfl rfl rfl hb15 rfl) rfl rfl ?_
    clear a E;intro a E
    refine st_no E (wf' E rfl rfl rfl rfl hb15 rfl) rfl rfl ?_
    clear a E;intro a E
    refine st_no E (wf' E rfl rfl rfl rfl hb15 rfl) rfl rfl ?_
    clear a E;intro a E
    refine sv E rfl rfl rfl (x_pickF E rfl rfl hb15 rfl) ?_
    clear a E;intro a E
    refine sv E rfl rfl rfl (x_move E rfl rfl) ?_
    clear a E;intro a E
    refine st_no E (wf E rfl rfl rfl rfl rfl) rfl rfl ?_
    clear a E;intro a E
    refine st_no E (wf E rfl rfl rfl rfl rfl) rfl rfl ?_
    clear a E;intro a E
    refine st_no E (wf E rfl rfl rfl rfl rfl) rfl rfl ?_
    clear a E;intro a E
    refine st_no E (wf E rfl rfl rfl rfl rfl) rfl rfl ?_
    clear a E;intro a E
    refine st_no E (wf E rfl rfl rfl rfl rfl) rfl rfl ?_
    clear a E;intro a E
    refine sv E rfl rfl rfl (x_pickF E rfl rfl rfl rfl) ?_
    clear a E;intro a E
    refine sv E rfl rfl rfl (x_assign E rfl rfl) ?_
    clear a E;intro a E
    refine wpList_nil ?_
    refine q_then ?_
    refine wp_ret ?_
    refine out1 E rfl rfl ?_
    replace H := H.drop 0
    replace H := H.drop 0
    obtain rfl := Option.some.inj hm
    exact ⟨rfl, H.reads (fun r hr => hr)⟩
  ·rw [if_f hb14] at hm
   refine st_no E (wf' E rfl rfl rfl rfl hb14 rfl) rfl rfl ?_
   clear a E;intro a E
   refine st_no E (wf' E rfl rfl rfl rfl hb14 rfl) rfl rfl ?_
   clear a E;intro a E
   refine st_no E (wf' E rfl rfl rfl rfl hb14 rfl) rfl rfl ?_
   clear a E;intro a E
   refine st_no E (wf' E rfl rfl rfl rfl hb14 rfl) rfl rfl ?_
   clear a E;intro a E
   refine st_no E (wf' E rfl rfl rfl rfl hb14 rfl) rfl rfl ?_
   clear a E;intro a E
   refine sv E rfl rfl rfl (x_pickF E rfl rfl hb14 rfl) ?_
   clear a E;intro a E
   refine sv E rfl rfl rfl (x_move E rfl rfl) ?_
   clear a E;intro a E
   refine st_no E (wf E rfl rfl rfl rfl rfl) rfl rfl ?_
   clear a E;intro a E
   refine st_no E (wf E rfl rfl rfl rfl rfl) rfl rfl ?_
   clear a E;intro a E
   refine st_no E (wf E rfl rfl rfl rfl rfl) rfl rfl ?_
   clear a E;intro a E
   refine st_no E (wf E rfl rfl rfl rfl rfl) rfl rfl ?_
   clear a E;intro a E
   refine st_no E (wf E rfl rfl rfl rfl rfl) rfl rfl ?_
   clear a E;intro a E
   refine sv E rfl rfl rfl (x_pickF E rfl rfl rfl rfl) ?_
   clear a E;intro a E
   refine sv E rfl rfl rfl (x_move E rfl rfl) ?_
   clear a E;intro a E
   refine st_no E (wf E rfl rfl rfl rfl rfl) rfl rfl ?_
   clear a E;intro a E
   refine st_no E (wf E rfl rfl rfl rfl rfl) rfl rfl ?_
   clear a E;intro a E
   refine st_no E (wf E rfl rfl rfl rfl rfl) rfl rfl ?_
   clear a E;intro a E
   refine st_no E (wf E rfl rfl rfl rfl rfl) rfl rfl ?_
   clear a E;intro a E
   refine st_no E (wf E rfl rfl rfl rfl rfl) rfl rfl ?_
   clear a E;intro a E
   refine sv E rfl rfl rfl (x_pickF E rfl rfl rfl rfl) ?_
   clear a E;intro a E
   refine sv E rfl rfl rfl (x_assign E rfl rfl) ?_
   clear a E;intro a E
   refine wpList_nil ?_
   refine q_then ?_
   refine wp_ret ?_
   refine out1 E rfl rfl ?_
   replace H := H.drop 0
   replace H := H.drop 0
   obtain rfl := Option.some.inj hm
   exact ⟨rfl, H.reads (fun r hr => hr)⟩
 ·rw [if_f hb13] at hm
  refine st_no E (wf' E rfl rfl rfl rfl hb13 rfl) rfl rfl ?_
  clear a E;intro a E
  refine st_no E (wf' E rfl rfl rfl rfl hb13 rfl) rfl rfl ?_
  clear a E;intro a E
  refine st_no E (wf' E rfl rfl rfl rfl hb13 rfl) rfl rfl ?_
  clear a E;intro a E
  refine st_no E (wf' E rfl rfl rfl rfl hb13 rfl) rfl rfl ?_
  clear a E;intro a E
  refine st_no E (wf' E rfl rfl rfl rfl hb13 rfl) rfl rfl ?_
  clear a E;intro a E
  refine sv E rfl rfl rfl (x_pickF E rfl rfl hb13 rfl) ?_
  clear a E;intro a E
  refine sv E rfl rfl rfl (x_move E rfl rfl) ?_
  clear a E;intro a E
  refine st_no E (wf E rfl rfl rfl rfl rfl) rfl rfl ?_
  clear a E;intro a E
  refine st_no E (wf E rfl rfl rfl rfl rfl) rfl rfl ?_
  clear a E;intro a E
  refine st_no E (wf E rfl rfl rfl rfl rfl) rfl rfl ?_
  clear a E;intro a E
  refine st_no E (wf E rfl rfl rfl rfl rfl) rfl rfl ?_
  clear a E;intro a E
  refine st_no E (wf E rfl rfl rfl rfl rfl) rfl rfl ?_
  clear a E;intro a E
  refine sv E rfl rfl rfl (x_pickF E rfl rfl rfl rfl) ?_
  clear a E;intro a E
  refine sv E rfl rfl rfl (x_move E rfl rfl) ?_
  clear a E;intro a E
  refine st_no E (wf E rfl rfl rfl rfl rfl) rfl rfl ?_
  clear a E;intro a E
  refine st_no E (wf E rfl rfl rfl rfl rfl) rfl rfl ?_
  clear a E;intro a E
  refine st_no E (wf E rfl rfl rfl rfl rfl) rfl rfl ?_
  clear a E;intro a E
  refine st_no E (wf E rfl rfl rfl rfl rfl) rfl rfl ?_
  clear a E;intro a E
  refine st_no E (wf E rfl rfl rfl rfl rfl) rfl rfl ?_
  clear a E;intro a E
  refine sv E rfl rfl rfl (x_pickF E rfl rfl rfl rfl) ?_
  clear a E;intro a E
  refine sv E rfl rfl rfl (x_move E rfl rfl) ?_
  clear a E;intro a E
  refine st_no E (wf E rfl rfl rfl rfl rfl) rfl rfl ?_
  clear a E;intro a E
  refine st_no E (wf E rfl rfl rfl rfl rfl) rfl rfl ?_
  clear a E;intro a E
  refine st_no E (wf E rfl rfl rfl rfl rfl) rfl rfl ?_
  clear a E;intro a E
  refine st_no E (wf E rfl rfl rfl rfl rfl) rfl rfl ?_
  clear a E;intro a E
  refine st_no E (wf E rfl rfl rfl rfl rfl) rfl rfl ?_
  clear a E;intro a E
  refine sv E rfl rfl rfl (x_pickF E rfl rfl rfl rfl) ?_
  clear a E;intro a E
  refine sv E rfl rfl rfl (x_assign E rfl rfl) ?_
  clear a E;intro a E
  refine wpList_nil ?_
  refine q_then ?_
  refine wp_ret ?_
  refine out1 E rfl rfl ?_
  replace H := H.drop 0
  replace H := H.drop 0
  obtain rfl := Option.some.inj hm
  exact ⟨rfl, H.reads (fun r hr => hr)⟩
end Go.Cb

set_option linter.unusedVariables false
set_option linter.unusedSimpArgs false
namespace Go.Cb
open Go.Proofs Go.RowKit
def m_cantonlaw06_NodesTells_j1 (u7 : Bool) (l2 : List S_api_Node) (x3 : S_api_Op) (b9 : Bool) : Option Bool :=
  if b9 = true then (some (u7)) else ((m_nodes_Apply l2 (⟨x3.Kind, x3.Path, x3.Data, x3.Version, x3.Owner, x3.Turns⟩ : S_api_Op)).bind fun u14 => (m_cantonref06_Apply l2 (⟨x3.Kind, x3.Path, x3.Data, x3.Version, x3.Owner, x3.Turns⟩ : S_api_Op)).bind fun u21 => (m_nodes_Find l2 x3.Path).bind fun u28 => (m_cantonref06_Find l2 x3.Path).bind fun u31 => if u7 = true then ((m_nodes_Right l2).bind fun u35 => (m_cantonref06_Right l2).bind fun u37 => if (u35 == u37) = true then ((m_nodes_May (⟨x3.Kind, x3.Path, x3.Data, x3.Version, x3.Owner, x3.Turns⟩ : S_api_Op)).bind fun u40 => (m_cantonref06_May (⟨x3.Kind, x3.Path, x3.Data, x3.Version, x3.Owner, x3.Turns⟩ : S_api_Op)).bind fun u42 => if (u40 == u42) = true then ((m_cantonref06_Same u14.1 u21.1).bind fun u45 => if u45 = true then ((m_cantonref06_SameOne (⟨u14.2.Err, u14.2.Path, u14.2.Data, u14.2.Version, u14.2.Names⟩ : S_api_Result) (⟨u21.2.Err, u21.2.Path, u21.2.Data, u21.2.Version, u21.2.Names⟩ : S_api_Result)).bind fun u48 => if u48 = true then (if ((sEq u28.1.Path u31.1.Path) && ((sEq u28.1.Data u31.1.Data) && ((u28.1.Version == u31.1.Version) && ((u28.1.Turn == u31.1.Turn) && (u28.1.Owner == u31.1.Owner))))) = true then (some (u28.2 == u31.2)) else (some (false))) else (some (false))) else (some (false))) else (some (false))) else (some (false))) else (some (false)))
def m_cantonlaw06_NodesTells (l2 : List S_api_Node) (x3 : S_api_Op) : Option Bool :=
  m_cantonlaw06_head.bind fun u7 => (m_cantonlaw06_Great l2).bind fun u52 => if u52 = true then (m_cantonlaw06_NodesTells_j1 u7 l2 x3 true) else ((m_cantonlaw06_GreatOp (⟨x3.Kind, x3.Path, x3.Data, x3.Version, x3.Owner, x3.Turns⟩ : S_api_Op)).bind fun u55 => m_cantonlaw06_NodesTells_j1 u7 l2 x3 u55)
set_option maxRecDepth 20000 in
set_option maxHeartbeats 1000000 in
theorem c_cantonlaw06_NodesTells {w : World} {Fo : List Ob} {rs : List Rp} (v1 : Value) (l2 : List S_api_Node) (x3 : S_api_Op) (H : Sep w (Fo) rs) (hr4 : rSl k_api_Node v1 l2 ∈ rs) (hr5 : rTab Tryz.prog ∈ rs) {r : Bool} (hm : m_cantonlaw06_NodesTells l2 x3 = some r) :
    Calls Tryz.prog 3 [v1, .agg #[.int .i64 x3.Kind, .string x3.Path, .string x3.Data, .int .i64 x3.Version, .int .i64 x3.Owner, .bool x3.Turns]].toArray w (Ret fun v w' => .bool r = v ∧ Sep w' (Fo) (rs)) := by
 unfold m_cantonlaw06_NodesTells at hm
 refine enter Tryz.func3 rfl Tryz.ntmps3 rfl fun a E => ?_
 simp only [enum, Nat.reduceAdd] at E
 refine wp_seq ?_
 refine wp_region_lit ?_
 refine st_box E H (wn rfl) rfl rfl (cs := [.int .i64 x3.Kind, .string x3.Path, .string x3.Data, .int .i64 x3.Version, .int .i64 x3.Owner, .bool x3.Turns]) rfl rfl rfl ?_
 clear E H; clear a; clear w; intro p6 w a H E
 refine sv E rfl rfl rfl (x_assign E rfl rfl) ?_
 clear a E;intro a E
 refine wpList_nil ?_
 refine q_then ?_
 refine wp_seq ?_
 refine wp_region_lit ?_
 obtain ⟨u7, hx8, hm⟩ := bnd hm
 refine st_call E (wn rfl) rfl rfl (x_call E rfl rfl (cf4 _)) (c_cantonlaw06_head H hr5 hx8) ?_
 clear E H; clear a; clear w; rintro _ w ⟨rfl, H⟩ a E
 refine sv E rfl rfl rfl (x_assign E rfl rfl) ?_
 clear a E;intro a E
 refine wpList_nil ?_
 refine q_then ?_
 refine wp_seq ?_
 refine wp_seq_cut (fun a w => ∃ (b9 : Bool) (rs10 : List Rp), Env 83 a [(0, v1), (3, .pointer (some ⟨p6, 0, none⟩)), (5, .bool u7), (20, .bool b9)] ∧ Sep w (Blk p6 24 [.int .i64 x3.Kind, .string x3.Path, .string x3.Data, .int .i64 x3.Version, .int .i64 x3.Owner, .bool x3.Turns] :: Fo) rs10 ∧ (∀ r, r ∈ rs → r ∈ rs10) ∧ rSl k_api_Node v1 l2 ∈ rs10 ∧ rTab Tryz.prog ∈ rs10 ∧ m_cantonlaw06_NodesTells_j1 u7 l2 x3 b9 = some r) ?_ ?_
 ·refine wp_region_lit ?_
  refine sv E rfl rfl rfl (x_move E rfl rfl) ?_
  clear a E;intro a E
  obtain ⟨u52, hx53, hm⟩ := bnd hm
  refine st_call E (wn rfl) rfl rfl (x_call E rfl rfl (cf5 _)) (c_cantonlaw06_Great v1 l2 H hr4 hx53) ?_
  clear E H; clear a; clear w; rintro _ w ⟨rfl, H⟩ a E
  refine sv E rfl rfl rfl (x_move E rfl rfl) ?_
  clear a E;intro a E
  rcases Bool.eq_false_or_eq_true u52 with hb54 | hb54
  ·rw [if_t hb54] at hm
   refine st_no E (wf' E rfl rfl rfl rfl hb54 rfl) rfl rfl ?_
   clear a E;intro a E
   refine st_no E (wf' E rfl rfl rfl rfl hb54 rfl) rfl rfl ?_
   clear a E;intro a E
   refine sv E rfl rfl rfl (x_pickT E rfl rfl hb54 rfl) ?_
   clear a E;intro a E
   refine wpList_nil ?_
   refine q_then ?_
   exact ⟨true, _, ((((E.nil.keep E 20 rfl).keep E 5 rfl).keep E 3 rfl).keep E 0 rfl), H, fun r hr => hr, hr4, hr5, hm⟩
  ·rw [if_f hb54] at hm
   refine st_val E (ws' E rfl rfl rfl rfl hb54) rfl rfl (x_ldBN (i := 0) (us := [.int .i64 x3.Kind, .string x3.Path, .string x3.Data, .int .i64 x3.Version, .int .i64 x3.Owner, .bool x3.Turns]) E H rfl rfl rfl rfl Tryz.underlying24 rfl sz24) ?_
   clear a E;intro a E
   obtain ⟨u55, hx56, hm⟩ := bnd hm
   refine st_call E (ws' E rfl rfl rfl rfl hb54) rfl rfl (x_call E rfl rfl (cf6 _)) (c_cantonlaw06_GreatOp (⟨x3.Kind, x3.Path, x3.Data, x3.Version, x3.Owner, x3.Turns⟩ : S_api_Op) H hx56) ?_
   clear E H; clear a; clear w; rintro _ w ⟨rfl, H⟩ a E
   refine sv E rfl rfl rfl (x_pickF E rfl rfl hb54 rfl) ?_
   clear a E;intro a E
   refine wpList_nil ?_
   refine q_then ?_
   exact ⟨u55, _, ((((E.nil.keep E 20 rfl).keep E 5 rfl).keep E 3 rfl).keep E 0 rfl), H, fun r hr => hr, hr4, hr5, hm⟩
 ·clear E H hm
  rintro a w ⟨b9, rs10, E, H, hs11, hr12, hr13, hm⟩
  unfold m_cantonlaw06_NodesTells_j1 at hm
  refine wp_if E rfl ?_ ?_
  ·intro hb
   rw [if_t hb] at hm
   clear hb
   refine wp_seq ?_
   refine wp_region_lit ?_
   refine sv E rfl rfl rfl (x_move E rfl rfl) ?_
   clear a E;intro a E
   refine sv E rfl rfl rfl (x_assign E rfl rfl) ?_
   clear a E;intro a E
   refine wpList_nil ?_
   refine q_then ?_
   refine wp_ret ?_
   refine q_thenR ?_
   refine out1 E rfl rfl ?_
   replace H := H.drop 0
   obtain rfl := Option.some.inj hm
   exact ⟨rfl, H.reads (fun r hr => hs11 r hr)⟩
  ·intro hb
   rw [if_f hb] at hm
   clear hb
   refine wp_skip ?_
   refine q_then ?_
   refine wp_seq ?_
   refine wp_region_lit ?_
   refine sv E rfl rfl rfl (x_move E rfl rfl) ?_
   clear a E;intro a E
   refine sv E rfl rfl rfl (x_ldBN (i := 0) (us := [.int .i64 x3.Kind, .string x3.Path, .string x3.Data, .int .i64 x3.Version, .int .i64 x3.Owner, .bool x3.Turns]) E H rfl rfl rfl rfl Tryz.underlying24 rfl sz24) ?_
   clear a E;intro a E
   obtain ⟨u14, hx15, hm⟩ := bnd hm
   refine st_call E (wn rfl) rfl rfl (x_call E rfl rfl (cf7 _)) (c_nodes_Apply v1 l2 (⟨x3.Kind, x3.Path, x3.Data, x3.Version, x3.Owner, x3.Turns⟩ : S_api_Op) H hr12 hr13 hx15) ?_
   clear E H; clear a; clear w; rintro _ w ⟨v16, v17, rfl, H⟩ a E
   refine sv E rfl rfl rfl (x_move E rfl rfl) ?_
   clear a E;intro a E
   refine sv E rfl rfl rfl (x_ext E rfl rfl rfl) ?_
   clear a E;intro a E
   refine sv E rfl rfl rfl (x_ext E rfl rfl rfl) ?_
   clear a E;intro a E
   refine st_alloc E H (wn rfl) rfl rfl (cs := [.int .i64 0, .string (ByteArray.mk #[]), .string (ByteArray.mk #[]), .int .i64 0, .slice none 0 0]) rfl (z := .agg #[.int .i64 0, .string ⟨#[]⟩, .string ⟨#[]⟩, .int .i64 0, .slice none 0 0]) (by kernel_rfl) rfl ?_
   clear E H; clear a; clear w; intro p18 w a H E
   refine sv E rfl rfl rfl (x_assign E rfl rfl) ?_
   clear a E;intro a E
   obtain ⟨q19, x20, rfl⟩ := H.slform (.tail _ (.head _))
   refine st_st (i := 0) E H (wn rfl) rfl (us := [.int .i64 u14.2.Err, .string u14.2.Path, .string u14.2.Data, .int .i64 u14.2.Version, (.slice q19 u14.2.Names.length x20)]) rfl rfl rfl rfl rfl sz31 rfl rfl ?_
   clear H; clear w; intro w H
   replace H : Sep w (Blk p18 31 [.int .i64 u14.2.Err, .string u14.2.Path, .string u14.2.Data, .int .i64 u14.2.Version, (.slice q19 u14.2.Names.length x20)] :: Blk p6 24 [.int .i64 x3.Kind, .string x3.Path, .string x3.Data, .int .i64 x3.Version, .int .i64 x3.Owner, .bool x3.Turns] :: Fo) _ := H
   refine wpList_nil ?_
   refine q_then ?_
   refine wp_seq ?_
   refine wp_region_lit ?_
   refine sv E rfl rfl rfl (x_move E rfl rfl) ?_
   clear a E;intro a E
   refine sv E rfl rfl rfl (x_ldBN (i := 1) (us := [.int .i64 x3.Kind, .string x3.Path, .string x3.Data, .int .i64 x3.Version, .int .i64 x3.Owner, .bool x3.Turns]) E H rfl rfl rfl rfl Tryz.underlying24 rfl sz24) ?_
   clear a E;intro a E
   obtain ⟨u21, hx22, hm⟩ := bnd hm
   refine st_call E (wn rfl) rfl rfl (x_call E rfl rfl (cf8 _)) (c_cantonref06_Apply v1 l2 (⟨x3.Kind, x3.Path, x3.Data, x3.Version, x3.Owner, x3.Turns⟩ : S_api_Op) H (.tail _ (.tail _ hr12)) hx22) ?_
   clear E H; clear a; clear w; rintro _ w ⟨v23, v24, rfl, H⟩ a E
   refine sv E rfl rfl rfl (x_move E rfl rfl) ?_
   clear a E;intro a E
   refine sv E rfl rfl rfl (x_ext E rfl rfl rfl) ?_
   clear a E;intro a E
   refine sv E rfl rfl rfl (x_ext E rfl rfl rfl) ?_
   clear a E;intro a E
   refine st_alloc E H (wn rfl) rfl rfl (cs := [.int .i64 0, .string (ByteArray.mk #[]), .string (ByteArray.mk #[]), .int .i64 0, .slice none 0 0]) rfl (z := .agg #[.int .i64 0, .string ⟨#[]⟩, .string ⟨#[]⟩, .int .i64 0, .slice none 0 0]) (by kernel_rfl) rfl ?_
   clear E H; clear a; clear w; intro p25 w a H E
   refine sv E rfl rfl rfl (x_assign E rfl rfl) ?_
   clear a E;intro a E
   obtain ⟨q26, x27, rfl⟩ := H.slform (.tail _ (.head _))
   refine st_st (i := 0) E H (wn rfl) rfl (us := [.int .i64 u21.2.Err, .string u21.2.Path, .string u21.2.Data, .int .i64 u21.2.Version, (.slice q26 u21.2.Names.length x27)]) rfl rfl rfl rfl rfl sz31 rfl rfl ?_
   clear H; clear w; intro w H
   replace H : Sep w (Blk p25 31 [.int .i64 u21.2.Err, .string u21.2.Path, .string u21.2.Data, .int .i64 u21.2.Version, (.slice q26 u21.2.Names.length x27)] :: Blk p18 31 [.int .i64 u14.2.Err, .string u14.2.Path, .string u14.2.Data, .int .i64 u14.2.Version, (.slice q19 u14.2.Names.length x20)] :: Blk p6 24 [.int .i64 x3.Kind, .string x3.Path, .string x3.Data, .int .i64 x3.Version, .int .i64 x3.Owner, .bool x3.Turns] :: Fo) _ := H
   refine wpList_nil ?_
   refine q_then ?_
   refine wp_seq ?_
   refine wp_region_lit ?_
   refine sv E rfl rfl rfl (x_move E rfl rfl) ?_
   clear a E;intro a E
   refine sv E rfl rfl rfl (x_fa E rfl rfl (v := .pointer (some ⟨p6, 1, none⟩)) (fa24_1 _ _)) ?_
   clear a E;intro a E
   refine sv E rfl rfl rfl (x_ldB (i := 2) E H rfl rfl rfl rfl Tryz.underlying9 rfl) ?_
   clear a E;intro a E
   obtain ⟨u28, hx29, hm⟩ := bnd hm
   refine st_call E (wn rfl) rfl rfl (x_call E rfl rfl (cf9 _)) (c_nodes_Find v1 l2 x3.Path H (.tail _ (.tail _ (.tail _ (.tail _ hr12)))) hx29) ?_
   clear E H; clear a; clear w; rintro _ w ⟨rfl, H⟩ a E
   refine sv E rfl rfl rfl (x_move E rfl rfl) ?_
   clear a E;intro a E
   refine sv E rfl rfl rfl (x_ext E rfl rfl rfl) ?_
   clear a E;intro a E
   refine sv E rfl rfl rfl (x_ext E rfl rfl rfl) ?_
   clear a E;intro a E
   refine st_alloc E H (wn rfl) rfl rfl (cs := [.string (ByteArray.mk #[]), .string (ByteArray.mk #[]), .int .i64 0, .int .i64 0, .int .i64 0]) rfl (z := .agg #[.string ⟨#[]⟩, .string ⟨#[]⟩, .int .i64 0, .int .i64 0, .int .i64 0]) (by kernel_rfl) rfl ?_
   clear E H; clear a; clear w; intro p30 w a H E
   refine st_st (i := 0) E H (wn rfl) rfl (us := [.string u28.1.Path, .string u28.1.Data, .int .i64 u28.1.Version, .int .i64 u28.1.Turn, .int .i64 u28.1.Owner]) rfl rfl rfl rfl rfl sz35 rfl rfl ?_
   clear H; clear w; intro w H
   replace H : Sep w (Blk p30 35 [.string u28.1.Path, .string u28.1.Data, .int .i64 u28.1.Version, .int .i64 u28.1.Turn, .int .i64 u28.1.Owner] :: Blk p25 31 [.int .i64 u21.2.Err, .string u21.2.Path, .string u21.2.Data, .int .i64 u21.2.Version, (.slice q26 u21.2.Names.length x27)] :: Blk p18 31 [.int .i64 u14.2.Err, .string u14.2.Path, .string u14.2.Data, .int .i64 u14.2.Version, (.slice q19 u14.2.Names.length x20)] :: Blk p6 24 [.int .i64 x3.Kind, .string x3.Path, .string x3.Data, .int .i64 x3.Version, .int .i64 x3.Owner, .bool x3.Turns] :: Fo) _ := H
   refine sv E rfl rfl rfl (x_assign E rfl rfl) ?_
   clear a E;intro a E
   refine wpList_nil ?_
   refine q_then ?_
   refine wp_seq ?_
   refine wp_region_lit ?_
   refine sv E rfl rfl rfl (x_move E rfl rfl) ?_
   clear a E;intro a E
   refine sv E rfl rfl rfl (x_fa E rfl rfl (v := .pointer (some ⟨p6, 1, none⟩)) (fa24_1 _ _)) ?_
   clear a E;intro a E
   refine sv E rfl rfl rfl (x_ldB (i := 3) E H rfl rfl rfl rfl Tryz.underlying9 rfl) ?_
   clear a E;intro a E
   obtain ⟨u31, hx32, hm⟩ := bnd hm
   refine st_call E (wn rfl) rfl rfl (x_call E rfl rfl (cf10 _)) (c_cantonref06_Find v1 l2 x3.Path H (.tail _ (.tail _ (.tail _ (.tail _ hr12)))) hx32) ?_
   clear E H; clear a; clear w; rintro _ w ⟨rfl, H⟩ a E
   refine sv E rfl rfl rfl (x_move E rfl rfl) ?_
   clear a E;intro a E
   refine sv E rfl rfl rfl (x_ext E rfl rfl rfl) ?_
   clear a E;intro a E
   refine sv E rfl rfl rfl (x_ext E rfl rfl rfl) ?_
   clear a E;intro a E
   refine st_alloc E H (wn rfl) rfl rfl (cs := [.string (ByteArray.mk #[]), .string (ByteArray.mk #[]), .int .i64 0, .int .i64 0, .int .i64 0]) rfl (z := .agg #[.string ⟨#[]⟩, .string ⟨#[]⟩, .int .i64 0, .int .i64 0, .int .i64 0]) (by kernel_rfl) rfl ?_
   clear E H; clear a; clear w; intro p33 w a H E
   refine st_st (i := 0) E H (wn rfl) rfl (us := [.string u31.1.Path, .string u31.1.Data, .int .i64 u31.1.Version, .int .i64 u31.1.Turn, .int .i64 u31.1.Owner]) rfl rfl rfl rfl rfl sz35 rfl rfl ?_
   clear H; clear w; intro w H
   replace H : Sep w (Blk p33 35 [.string u31.1.Path, .string u31.1.Data, .int .i64 u31.1.Version, .int .i64 u31.1.Turn, .int .i64 u31.1.Owner] :: Blk p30 35 [.string u28.1.Path, .string u28.1.Data, .int .i64 u28.1.Version, .int .i64 u28.1.Turn, .int .i64 u28.1.Owner] :: Blk p25 31 [.int .i64 u21.2.Err, .string u21.2.Path, .string u21.2.Data, .int .i64 u21.2.Version, (.slice q26 u21.2.Names.length x27)] :: Blk p18 31 [.int .i64 u14.2.Err, .string u14.2.Path, .string u14.2.Data, .int .i64 u14.2.Version, (.slice q19 u14.2.Names.length x20)] :: Blk p6 24 [.int .i64 x3.Kind, .string x3.Path, .string x3.Data, .int .i64 x3.Version, .int .i64 x3.Owner, .bool x3.Turns] :: Fo) _ := H
   refine sv E rfl rfl rfl (x_assign E rfl rfl) ?_
   clear a E;intro a E
   refine wpList_nil ?_
   refine q_then ?_
   refine wp_seq ?_
   replace H : Sep w (Blk p33 35 [.string u31.1.Path, .string u31.1.Data, .int .i64 u31.1.Version, .int .i64 u31.1.Turn, .int .i64 u31.1.Owner] :: Blk p30 35 [.string u28.1.Path, .string u28.1.Data, .int .i64 u28.1.Version, .int .i64 u28.1.Turn, .int .i64 u28.1.Owner] :: Blk p25 31 [.int .i64 u21.2.Err, .string u21.2.Path, .string u21.2.Data, .int .i64 u21.2.Version, (.slice q26 u21.2.Names.length x27)] :: Blk p18 31 [.int .i64 u14.2.Err, .string u14.2.Path, .string u14.2.Data, .int .i64 u14.2.Version, (.slice q19 u14.2.Names.length x20)] :: Blk p6 24 [.int .i64 x3.Kind, .string x3.Path, .string x3.Data, .int .i64 x3.Version, .int .i64 x3.Owner, .bool x3.Turns] :: Fo) (rSl k_api_Node v23 u21.1 :: rSl kS (.slice q26 u21.2.Names.length x27) u21.2.Names :: rSl k_api_Node v16 u14.1 :: rSl kS (.slice q19 u14.2.Names.length x20) u14.2.Names :: rs10) := H
   have hI : Still [Blk p33 35 [.string u31.1.Path, .string u31.1.Data, .int .i64 u31.1.Version, .int .i64 u31.1.Turn, .int .i64 u31.1.Owner], Blk p30 35 [.string u28.1.Path, .string u28.1.Data, .int .i64 u28.1.Version, .int .i64 u28.1.Turn, .int .i64 u28.1.Owner], Blk p25 31 [.int .i64 u21.2.Err, .string u21.2.Path, .string u21.2.Data, .int .i64 u21.2.Version, (.slice q26 u21.2.Names.length x27)], Blk p18 31 [.int .i64 u14.2.Err, .string u14.2.Path, .string u14.2.Data, .int .i64 u14.2.Version, (.slice q19 u14.2.Names.length x20)], Blk p6 24 [.int .i64 x3.Kind, .string x3.Path, .string x3.Data, .int .i64 x3.Version, .int .i64 x3.Owner, .bool x3.Turns]] [] { w with drawn := w.drawn + 1 } := ⟨_, _, H.kept (Kp.drawn _ w _), (subO_cons (.head _) (subO_cons (.tail _ (.head _)) (subO_cons (.tail _ (.tail _ (.head _))) (subO_cons (.tail _ (.tail _ (.tail _ (.head _)))) (subO_cons (.tail _ (.tail _ (.tail _ (.tail _ (.head _))))) (subO_nil)))))), (sub_nil)⟩
   refine wp_draw _ [(0, 0), (1, 0), (2, 0), (4, 0), (3, 1), (5, 1), (6, 0), (7, 0), (8, 0), (9, 0), (11, 0), (10, 1), (12, 1), (13, 0), (14, 0), (15, 0), (16, 0), (17, 0), (18, 1), (19, 0), (20, 0), (21, 0), (22, 0), (23, 1), (24, 0), (25, 0), (26, 0), (27, 0), (28, 0), (29, 0), (30, 0), (31, 0), (32, 0), (33, 0), (34, 0), (35, 2)] mixedOk (by kernel_rfl) (fun _ _ _ h => False.elim h.2) hI ?_
   replace H := H.kept (Kp.drawn _ w (w.drawn + 1))
   generalize ({ w with drawn := w.drawn + 1 } : World) = w at H hI ⊢
   replace hI : ∃ W, Still [Blk p33 35 [.string u31.1.Path, .string u31.1.Data, .int .i64 u31.1.Version, .int .i64 u31.1.Turn, .int .i64 u31.1.Owner], Blk p30 35 [.string u28.1.Path, .string u28.1.Data, .int .i64 u28.1.Version, .int .i64 u28.1.Turn, .int .i64 u28.1.Owner], Blk p25 31 [.int .i64 u21.2.Err, .string u21.2.Path, .string u21.2.Data, .int .i64 u21.2.Version, (.slice q26 u21.2.Names.length x27)], Blk p18 31 [.int .i64 u14.2.Err, .string u14.2.Path, .string u14.2.Data, .int .i64 u14.2.Version, (.slice q19 u14.2.Names.length x20)], Blk p6 24 [.int .i64 x3.Kind, .string x3.Path, .string x3.Data, .int .i64 x3.Version, .int .i64 x3.Owner, .bool x3.Turns]] [] W := ⟨_, hI⟩
   obtain ⟨W0, hI⟩ := hI
   refine fr_val E rfl (wn rfl) rfl rfl (fun w hW => (x_move E rfl rfl)) ?_
   clear a E;intro a E
   refine fr_val E rfl (wn rfl) rfl rfl (fun w hW => (x_move E rfl rfl)) ?_
   clear a E;intro a E
   rcases Bool.eq_false_or_eq_true u7 with hb34 | hb34
   ·rw [if_t hb34] at hm
    refine fr_val E rfl (ws' E rfl rfl rfl rfl hb34) rfl rfl (fun w hW => (x_move E rfl rfl)) ?_
    clear a E;intro a E
    refine fr_val E rfl (ws' E rfl rfl rfl rfl hb34) rfl rfl (fun w hW => (x_move E rfl rfl)) ?_
    clear a E;intro a E
    refine fr_op rfl ?_
    obtain ⟨u35, hx36, hm⟩ := bnd hm
    refine st_call E (ws' E rfl rfl rfl rfl hb34) rfl rfl (x_call E rfl rfl (cf11 _)) (c_nodes_Right v1 l2 H (.tail _ (.tail _ (.tail _ (.tail _ hr12)))) hx36) ?_
    clear E H; clear a; clear w; rintro _ w ⟨rfl, H⟩ a E
    refine wpList_nil ?_
    refine q_then ?_
    replace H : Sep w (Blk p33 35 [.string u31.1.Path, .string u31.1.Data, .int .i64 u31.1.Version, .int .i64 u31.1.Turn, .int .i64 u31.1.Owner] :: Blk p30 35 [.string u28.1.Path, .string u28.1.Data, .int .i64 u28.1.Version, .int .i64 u28.1.Turn, .int .i64 u28.1.Owner] :: Blk p25 31 [.int .i64 u21.2.Err, .string u21.2.Path, .string u21.2.Data, .int .i64 u21.2.Version, (.slice q26 u21.2.Names.length x27)] :: Blk p18 31 [.int .i64 u14.2.Err, .string u14.2.Path, .string u14.2.Data, .int .i64 u14.2.Version, (.slice q19 u14.2.Names.length x20)] :: Blk p6 24 [.int .i64 x3.Kind, .string x3.Path, .string x3.Data, .int .i64 x3.Version, .int .i64 x3.Owner, .bool x3.Turns] :: Fo) (rSl k_api_Node v23 u21.1 :: rSl kS (.slice q26 u21.2.Names.length x27) u21.2.Names :: rSl k_api_Node v16 u14.1 :: rSl kS (.slice q19 u14.2.Names.length x20) u14.2.Names :: rs10) := H
    refine ⟨⟨_, _, H, (subO_cons (.head _) (subO_cons (.tail _ (.head _)) (subO_cons (.tail _ (.tail _ (.head _))) (subO_cons (.tail _ (.tail _ (.tail _ (.head _)))) (subO_cons (.tail _ (.tail _ (.tail _ (.tail _ (.head _))))) (subO_nil)))))), (sub_nil)⟩, ?_⟩
    refine fr_op rfl ?_
    obtain ⟨u37, hx38, hm⟩ := bnd hm
    refine st_call E (ws' E rfl rfl rfl rfl hb34) rfl rfl (x_call E rfl rfl (cf12 _)) (c_cantonref06_Right v1 l2 H (.tail _ (.tail _ (.tail _ (.tail _ hr12)))) hx38) ?_
    clear E H; clear a; clear w; rintro _ w ⟨rfl, H⟩ a E
    refine wpList_nil ?_
    refine q_then ?_
    replace H : Sep w (Blk p33 35 [.string u31.1.Path, .string u31.1.Data, .int .i64 u31.1.Version, .int .i64 u31.1.Turn, .int .i64 u31.1.Owner] :: Blk p30 35 [.string u28.1.Path, .string u28.1.Data, .int .i64 u28.1.Version, .int .i64 u28.1.Turn, .int .i64 u28.1.Owner] :: Blk p25 31 [.int .i64 u21.2.Err, .string u21.2.Path, .string u21.2.Data, .int .i64 u21.2.Version, (.slice q26 u21.2.Names.length x27)] :: Blk p18 31 [.int .i64 u14.2.Err, .string u14.2.Path, .string u14.2.Data, .int .i64 u14.2.Version, (.slice q19 u14.2.Names.length x20)] :: Blk p6 24 [.int .i64 x3.Kind, .string x3.Path, .string x3.Data, .int .i64 x3.Version, .int .i64 x3.Owner, .bool x3.Turns] :: Fo) (rSl k_api_Node v23 u21.1 :: rSl kS (.slice q26 u21.2.Names.length x27) u21.2.Names :: rSl k_api_Node v16 u14.1 :: rSl kS (.slice q19 u14.2.Names.length x20) u14.2.Names :: rs10) := H
    refine ⟨⟨_, _, H, (subO_cons (.head _) (subO_cons (.tail _ (.head _)) (subO_cons (.tail _ (.tail _ (.head _))) (subO_cons (.tail _ (.tail _ (.tail _ (.head _)))) (subO_cons (.tail _ (.tail _ (.tail _ (.tail _ (.head _))))) (subO_nil)))))), (sub_nil)⟩, ?_⟩
    refine fr_val E rfl (ws' E rfl rfl rfl rfl hb34) rfl rfl (fun w hW => (x_bin2 E rfl rfl rfl (v := .bool (u35 == u37)) (by kernel_rfl))) ?_
    clear a E;intro a E
    refine fr_val E rfl (wn rfl) rfl rfl (fun w hW => (x_pickT E rfl rfl hb34 rfl)) ?_
    clear a E;intro a E
    refine fr_val E rfl (wn rfl) rfl rfl (fun w hW => (x_move E rfl rfl)) ?_
    clear a E;intro a E
    rcases Bool.eq_false_or_eq_true (u35 == u37) with hb39 | hb39
    ·rw [if_t hb39] at hm
     refine fr_val E rfl (ws' E rfl rfl rfl rfl hb39) rfl rfl (fun w hW => x_ld E rfl rfl (ib_ldN (us := [.int .i64 x3.Kind, .string x3.Path, .string x3.Data, .int .i64 x3.Version, .int .i64 x3.Owner, .bool x3.Turns]) (.tail _ (.tail _ (.tail _ (.tail _ (.head _))))) rfl Tryz.underlying24 rfl sz24 w hW)) ?_
     clear a E;intro a E
     refine fr_val E rfl (ws' E rfl rfl rfl rfl hb39) rfl rfl (fun w hW => x_ld E rfl rfl (ib_ldN (us := [.int .i64 x3.Kind, .string x3.Path, .string x3.Data, .int .i64 x3.Version, .int .i64 x3.Owner, .bool x3.Turns]) (.tail _ (.tail _ (.tail _ (.tail _ (.head _))))) rfl Tryz.underlying24 rfl sz24 w hW)) ?_
     clear a E;intro a E
     refine fr_op rfl ?_
     obtain ⟨u40, hx41, hm⟩ := bnd hm
     refine st_call E (ws' E rfl rfl rfl rfl hb39) rfl rfl (x_call E rfl rfl (cf13 _)) (c_nodes_May (⟨x3.Kind, x3.Path, x3.Data, x3.Version, x3.Owner, x3.Turns⟩ : S_api_Op) H hx41) ?_
     clear E H; clear a; clear w; rintro _ w ⟨rfl, H⟩ a E
     refine wpList_nil ?_
     refine q_then ?_
     replace H : Sep w (Blk p33 35 [.string u31.1.Path, .string u31.1.Data, .int .i64 u31.1.Version, .int .i64 u31.1.Turn, .int .i64 u31.1.Owner] :: Blk p30 35 [.string u28.1.Path, .string u28.1.Data, .int .i64 u28.1.Version, .int .i64 u28.1.Turn, .int .i64 u28.1.Owner] :: Blk p25 31 [.int .i64 u21.2.Err, .string u21.2.Path, .string u21.2.Data, .int .i64 u21.2.Version, (.slice q26 u21.2.Names.length x27)] :: Blk p18 31 [.int .i64 u14.2.Err, .string u14.2.Path, .string u14.2.Data, .int .i64 u14.2.Version, (.slice q19 u14.2.Names.length x20)] :: Blk p6 24 [.int .i64 x3.Kind, .string x3.Path, .string x3.Data, .int .i64 x3.Version, .int .i64 x3.Owner, .bool x3.Turns] :: Fo) (rSl k_api_Node v23 u21.1 :: rSl kS (.slice q26 u21.2.Names.length x27) u21.2.Names :: rSl k_api_Node v16 u14.1 :: rSl kS (.slice q19 u14.2.Names.length x20) u14.2.Names :: rs10) := H
     refine ⟨⟨_, _, H, (subO_cons (.head _) (subO_cons (.tail _ (.head _)) (subO_cons (.tail _ (.tail _ (.head _))) (subO_cons (.tail _ (.tail _ (.tail _ (.head _)))) (subO_cons (.tail _ (.tail _ (.tail _ (.tail _ (.head _))))) (subO_nil)))))), (sub_nil)⟩, ?_⟩
     refine fr_op rfl ?_
     obtain ⟨u42, hx43, hm⟩ := bnd hm
     refine st_call E (ws' E rfl rfl rfl rfl hb39) rfl rfl (x_call E rfl rfl (cf14 _)) (c_cantonref06_May (⟨x3.Kind, x3.Path, x3.Data, x3.Version, x3.Owner, x3.Turns⟩ : S_api_Op) H hx43) ?_
     clear E H; clear a; clear w; rintro _ w ⟨rfl, H⟩ a E
     refine wpList_nil ?_
     refine q_then ?_
     replace H : Sep w (Blk p33 35 [.string u31.1.Path, .string u31.1.Data, .int .i64 u31.1.Version, .int .i64 u31.1.Turn, .int .i64 u31.1.Owner] :: Blk p30 35 [.string u28.1.Path, .string u28.1.Data, .int .i64 u28.1.Version, .int .i64 u28.1.Turn, .int .i64 u28.1.Owner] :: Blk p25 31 [.int .i64 u21.2.Err, .string u21.2.Path, .string u21.2.Data, .int .i64 u21.2.Version, (.slice q26 u21.2.Names.length x27)] :: Blk p18 31 [.int .i64 u14.2.Err, .string u14.2.Path, .string u14.2.Data, .int .i64 u14.2.Version, (.slice q19 u14.2.Names.length x20)] :: Blk p6 24 [.int .i64 x3.Kind, .string x3.Path, .string x3.Data, .int .i64 x3.Version, .int .i64 x3.Owner, .bool x3.Turns] :: Fo) (rSl k_api_Node v23 u21.1 :: rSl kS (.slice q26 u21.2.Names.length x27) u21.2.Names :: rSl k_api_Node v16 u14.1 :: rSl kS (.slice q19 u14.2.Names.length x20) u14.2.Names :: rs10) := H
     refine ⟨⟨_, _, H, (subO_cons (.head _) (subO_cons (.tail _ (.head _)) (subO_cons (.tail _ (.tail _ (.head _))) (subO_cons (.tail _ (.tail _ (.tail _ (.head _)))) (subO_cons (.tail _ (.tail _ (.tail _ (.tail _ (.head _))))) (subO_nil)))))), (sub_nil)⟩, ?_⟩
     refine fr_val E rfl (ws' E rfl rfl rfl rfl hb39) rfl rfl (fun w hW => (x_bin2 E rfl rfl rfl (v := .bool (u40 == u42)) (by kernel_rfl))) ?_
     clear a E;intro a E
     refine fr_val E rfl (wn rfl) rfl rfl (fun w hW => (x_pickT E rfl rfl hb39 rfl)) ?_
     clear a E;intro a E
     refine fr_val E rfl (wn rfl) rfl rfl (fun w hW => (x_move E rfl rfl)) ?_
     clear a E;intro a E
     rcases Bool.eq_false_or_eq_true (u40 == u42) with hb44 | hb44
     ·rw [if_t hb44] at hm
      refine fr_val E rfl (ws' E rfl rfl rfl rfl hb44) rfl rfl (fun w hW => (x_move E rfl rfl)) ?_
      clear a E;intro a E
      refine fr_val E rfl (ws' E rfl rfl rfl rfl hb44) rfl rfl (fun w hW => (x_move E rfl rfl)) ?_
      clear a E;intro a E
      refine fr_op rfl ?_
      obtain ⟨u45, hx46, hm⟩ := bnd hm
      refine st_call E (ws' E rfl rfl rfl rfl hb44) rfl rfl (x_call E rfl rfl (cf15 _)) (c_cantonref06_Same v16 u14.1 v23 u21.1 H (.tail _ (.tail _ (.head _))) (.head _) hx46) ?_
      clear E H; clear a; clear w; rintro _ w ⟨rfl, H⟩ a E
      refine wpList_nil ?_
      refine q_then ?_
      replace H : Sep w (Blk p33 35 [.string u31.1.Path, .string u31.1.Data, .int .i64 u31.1.Version, .int .i64 u31.1.Turn, .int .i64 u31.1.Owner] :: Blk p30 35 [.string u28.1.Path, .string u28.1.Data, .int .i64 u28.1.Version, .int .i64 u28.1.Turn, .int .i64 u28.1.Owner] :: Blk p25 31 [.int .i64 u21.2.Err, .string u21.2.Path, .string u21.2.Data, .int .i64 u21.2.Version, (.slice q26 u21.2.Names.length x27)] :: Blk p18 31 [.int .i64 u14.2.Err, .string u14.2.Path, .string u14.2.Data, .int .i64 u14.2.Version, (.slice q19 u14.2.Names.length x20)] :: Blk p6 24 [.int .i64 x3.Kind, .string x3.Path, .string x3.Data, .int .i64 x3.Version, .int .i64 x3.Owner, .bool x3.Turns] :: Fo) (rSl k_api_Node v23 u21.1 :: rSl kS (.slice q26 u21.2.Names.length x27) u21.2.Names :: rSl k_api_Node v16 u14.1 :: rSl kS (.slice q19 u14.2.Names.length x20) u14.2.Names :: rs10) := H
      refine ⟨⟨_, _, H, (subO_cons (.head _) (subO_cons (.tail _ (.head _)) (subO_cons (.tail _ (.tail _ (.head _))) (subO_cons (.tail _ (.tail _ (.tail _ (.head _)))) (subO_cons (.tail _ (.tail _ (.tail _ (.tail _ (.head _))))) (subO_nil)))))), (sub_nil)⟩, ?_⟩
      refine fr_val E rfl (wn rfl) rfl rfl (fun w hW => (x_pickT E rfl rfl hb44 rfl)) ?_
      clear a E;intro a E
      refine fr_val E rfl (wn rfl) rfl rfl (fun w hW => (x_move E rfl rfl)) ?_
      clear a E;intro a E
      rcases Bool.eq_false_or_eq_true u45 with hb47 | hb47
      ·rw [if_t hb47] at hm
       refine fr_val E rfl (ws' E rfl rfl rfl rfl hb47) rfl rfl (fun w hW => x_ld E rfl rfl (ib_ldN (us := [.int .i64 u14.2.Err, .string u14.2.Path, .string u14.2.Data, .int .i64 u14.2.Version, (.slice q19 u14.2.Names.length x20)]) (.tail _ (.tail _ (.tail _ (.head _)))) rfl Tryz.underlying31 rfl sz31 w hW)) ?_
       clear a E;intro a E
       refine fr_val E rfl (ws' E rfl rfl rfl rfl hb47) rfl rfl (fun w hW => x_ld E rfl rfl (ib_ldN (us := [.int .i64 u21.2.Err, .string u21.2.Path, .string u21.2.Data, .int .i64 u21.2.Version, (.slice q26 u21.2.Names.length x27)]) (.tail _ (.tail _ (.head _))) rfl Tryz.underlying31 rfl sz31 w hW)) ?_
       clear a E;intro a E
       refine fr_op rfl ?_
       obtain ⟨u48, hx49, hm⟩ := bnd hm
       refine st_call E (ws' E rfl rfl rfl rfl hb47) rfl rfl (x_call E rfl rfl (cf16 _)) (c_cantonref06_SameOne (⟨u14.2.Err, u14.2.Path, u14.2.Data, u14.2.Version, u14.2.Names⟩ : S_api_Result) (.slice q19 u14.2.Names.length x20) (⟨u21.2.Err, u21.2.Path, u21.2.Data, u21.2.Version, u21.2.Names⟩ : S_api_Result) (.slice q26 u21.2.Names.length x27) H (.tail _ (.tail _ (.tail _ (.head _)))) (.tail _ (.head _)) hx49) ?_
       clear E H; clear a; clear w; rintro _ w ⟨rfl, H⟩ a E
       refine wpList_nil ?_
       refine q_then ?_
       replace H : Sep w (Blk p33 35 [.string u31.1.Path, .string u31.1.Data, .int .i64 u31.1.Version, .int .i64 u31.1.Turn, .int .i64 u31.1.Owner] :: Blk p30 35 [.string u28.1.Path, .string u28.1.Data, .int .i64 u28.1.Version, .int .i64 u28.1.Turn, .int .i64 u28.1.Owner] :: Blk p25 31 [.int .i64 u21.2.Err, .string u21.2.Path, .string u21.2.Data, .int .i64 u21.2.Version, (.slice q26 u21.2.Names.length x27)] :: Blk p18 31 [.int .i64 u14.2.Err, .string u14.2.Path, .string u14.2.Data, .int .i64 u14.2.Version, (.slice q19 u14.2.Names.length x20)] :: Blk p6 24 [.int .i64 x3.Kind, .string x3.Path, .string x3.Data, .int .i64 x3.Version, .int .i64 x3.Owner, .bool x3.Turns] :: Fo) (rSl k_api_Node v23 u21.1 :: rSl kS (.slice q26 u21.2.Names.length x27) u21.2.Names :: rSl k_api_Node v16 u14.1 :: rSl kS (.slice q19 u14.2.Names.length x20) u14.2.Names :: rs10) := H
       refine ⟨⟨_, _, H, (subO_cons (.head _) (subO_cons (.tail _ (.head _)) (subO_cons (.tail _ (.tail _ (.head _))) (subO_cons (.tail _ (.tail _ (.tail _ (.head _)))) (subO_cons (.tail _ (.tail _ (.tail _ (.tail _ (.head _))))) (subO_nil)))))), (sub_nil)⟩, ?_⟩
       refine fr_val E rfl (wn rfl) rfl rfl (fun w hW => (x_pickT E rfl rfl hb47 rfl)) ?_
       clear a E;intro a E
       refine fr_val E rfl (wn rfl) rfl rfl (fun w hW => (x_move E rfl rfl)) ?_
       clear a E;intro a E
       rcases Bool.eq_false_or_eq_true u48 with hb50 | hb50
       ·rw [if_t hb50] at hm
        refine fr_val E rfl (ws' E rfl rfl rfl rfl hb50) rfl rfl (fun w hW => x_ld E rfl rfl (ib_ldN (us := [.string u28.1.Path, .string u28.1.Data, .int .i64 u28.1.Version, .int .i64 u28.1.Turn, .int .i64 u28.1.Owner]) (.tail _ (.head _)) rfl Tryz.underlying35 rfl sz35 w hW)) ?_
        clear a E;intro a E
        refine fr_val E rfl (ws' E rfl rfl rfl rfl hb50) rfl rfl (fun w hW => x_ld E rfl rfl (ib_ldN (us := [.string u31.1.Path, .string u31.1.Data, .int .i64 u31.1.Version, .int .i64 u31.1.Turn, .int .i64 u31.1.Owner]) (.head _) rfl Tryz.underlying35 rfl sz35 w hW)) ?_
        clear a E;intro a E
        refine fr_val E rfl (ws' E rfl rfl rfl rfl hb50) rfl rfl (fun w hW => (x_bin2 E rfl rfl rfl (v := .bool (((sEq u28.1.Path u31.1.Path) && ((sEq u28.1.Data u31.1.Data) && ((u28.1.Version == u31.1.Version) && ((u28.1.Turn == u31.1.Turn) && (u28.1.Owner == u31.1.Owner))))))) (eq_agg egt35 (eq_struct Tryz.underlying35 sih35 (eqf_cons (by rfl) (by kernel_rfl) (by kernel_rfl) (eq_string Tryz.underlying9) (eqf_cons (by rfl) (by kernel_rfl) (by kernel_rfl) (eq_string Tryz.underlying9) (eqf_cons (by rfl) (by kernel_rfl) (by kernel_rfl) (eq_int Tryz.underlying2) (eqf_cons (by rfl) (by kernel_rfl) (by kernel_rfl) (eq_int Tryz.underlying2) (eqf_last (by rfl) (by kernel_rfl) (by kernel_rfl) (eq_int Tryz.underlying2)))))))))) ?_
        clear a E;intro a E
        refine fr_val E rfl (wn rfl) rfl rfl (fun w hW => (x_pickT E rfl rfl hb50 rfl)) ?_
        clear a E;intro a E
        refine fr_val E rfl (wn rfl) rfl rfl (fun w hW => (x_move E rfl rfl)) ?_
        clear a E;intro a E
        rcases Bool.eq_false_or_eq_true ((sEq u28.1.Path u31.1.Path) && ((sEq u28.1.Data u31.1.Data) && ((u28.1.Version == u31.1.Version) && ((u28.1.Turn == u31.1.Turn) && (u28.1.Owner == u31.1.Owner))))) with hb51 | hb51
        ·rw [if_t hb51] at hm
         refine fr_val E rfl (ws' E rfl rfl rfl rfl hb51) rfl rfl (fun w hW => (x_move E rfl rfl)) ?_
         clear a E;intro a E
         refine fr_val E rfl (ws' E rfl rfl rfl rfl hb51) rfl rfl (fun w hW => (x_move E rfl rfl)) ?_
         clear a E;intro a E
         refine fr_val E rfl (ws' E rfl rfl rfl rfl hb51) rfl rfl (fun w hW => (x_bin2 E rfl rfl rfl (v := .bool (u28.2 == u31.2)) (by kernel_rfl))) ?_
         clear a E;intro a E
         refine fr_val E rfl (wn rfl) rfl rfl (fun w hW => (x_pickT E rfl rfl hb51 rfl)) ?_
         clear a E;intro a E
         refine fr_tail rfl ?_
         refine sv E rfl rfl rfl (x_assign E rfl rfl) ?_
         clear a E;intro a E
         refine wpList_nil ?_
         refine q_then ?_
         refine fr_nil ?_
         clear hI
         refine q_then ?_
         refine wp_ret ?_
         refine out1 E rfl rfl ?_
         replace H := H.drop 0
         replace H := H.drop 0
         replace H := H.drop 0
         replace H := H.drop 0
         replace H := H.drop 0
         obtain rfl := Option.some.inj hm
         exact ⟨rfl, H.reads (fun r hr => .tail _ (.tail _ (.tail _ (.tail _ (hs11 r hr)))))⟩
        ·rw [if_f hb51] at hm
         refine fr_no E rfl (wf' E rfl rfl rfl rfl hb51 rfl) rfl rfl ?_
         clear a E;intro a E
         refine fr_no E rfl (wf' E rfl rfl rfl rfl hb51 rfl) rfl rfl ?_
         clear a E;intro a E
         refine fr_no E rfl (wf' E rfl rfl rfl rfl hb51 rfl) rfl rfl ?_
         clear a E;intro a E
         refine fr_val E rfl (wn rfl) rfl rfl (fun w hW => (x_pickF E rfl rfl hb51 rfl)) ?_
         clear a E;intro a E
         refine fr_tail rfl ?_
         refine sv E rfl rfl rfl (x_assign E rfl rfl) ?_
         clear a E;intro a E
         refine wpList_nil ?_
         refine q_then ?_
         refine fr_nil ?_
         clear hI
         refine q_then ?_
         refine wp_ret ?_
         refine out1 E rfl rfl ?_
         replace H := H.drop 0
         replace H := H.drop 0
         replace H := H.drop 0
         replace H := H.drop 0
         replace H := H.drop 0
         obtain rfl := Option.some.inj hm
         exact ⟨rfl, H.reads (fun r hr => .tail _ (.tail _ (.tail _ (.tail _ (hs11 r hr)))))⟩
       ·rw [if_f hb50] at hm
        refine fr_no E rfl (wf' E rfl rfl rfl rfl hb50 rfl) rfl rfl ?_
        clear a E;intro a E
        refine fr_no E rfl (wf' E rfl rfl rfl rfl hb50 rfl) rfl rfl ?_
        clear a E;intro a E
        refine fr_no E rfl (wf' E rfl rfl rfl rfl hb50 rfl) rfl rfl ?_
        clear a E;intro a E
        refine fr_val E rfl (wn rfl) rfl rfl (fun w hW => (x_pickF E rfl rfl hb50 rfl)) ?_
        clear a E;intro a E
        refine fr_val E rfl (wn rfl) rfl rfl (fun w hW => (x_move E rfl rfl)) ?_
        clear a E;intro a E
        refine fr_no E rfl (wf E rfl rfl rfl rfl rfl) rfl rfl ?_
        clear a E;intro a E
        refine fr_no E rfl (wf E rfl rfl rfl rfl rfl) rfl rfl ?_
        clear a E;intro a E
        refine fr_no E rfl (wf E rfl rfl rfl rfl rfl) rfl rfl ?_
        clear a E;intro a E
        refine fr_val E rfl (wn rfl) rfl rfl (fun w hW => (x_pickF E rfl rfl rfl rfl)) ?_
        clear a E;intro a E
        refine fr_tail rfl ?_
        refine sv E rfl rfl rfl (x_assign E rfl rfl) ?_
        clear a E;intro a E
        refine wpList_nil ?_
        refine q_then ?_
        refine fr_nil ?_
        clear hI
        refine q_then ?_
        refine wp_ret ?_
        refine out1 E rfl rfl ?_
        replace H := H.drop 0
        replace H := H.drop 0
        replace H := H.drop 0
        replace H := H.drop 0
        replace H := H.drop 0
        obtain rfl := Option.some.inj hm
        exact ⟨rfl, H.reads (fun r hr => .tail _ (.tail _ (.tail _ (.tail _ (hs11 r hr)))))⟩
      ·rw [if_f hb47] at hm
       refine fr_no E rfl (wf' E rfl rfl rfl rfl hb47 rfl) rfl rfl ?_
       clear a E;intro a E
       refine fr_no E rfl (wf' E rfl rfl rfl rfl hb47 rfl) rfl rfl ?_
       clear a E;intro a E
       refine fr_op rfl ?_
       refine st_no E (wf' E rfl rfl rfl rfl hb47 rfl) rfl rfl ?_
       clear a E;intro a E
       refine wpList_nil ?_
       refine q_then ?_
       replace H : Sep w (Blk p33 35 [.string u31.1.Path, .string u31.1.Data, .int .i64 u31.1.Version, .int .i64 u31.1.Turn, .int .i64 u31.1.Owner] :: Blk p30 35 [.string u28.1.Path, .string u28.1.Data, .int .i64 u28.1.Version, .int .i64 u28.1.Turn, .int .i64 u28.1.Owner] :: Blk p25 31 [.int .i64 u21.2.Err, .string u21.2.Path, .string u21.2.Data, .int .i64 u21.2.Version, (.slice q26 u21.2.Names.length x27)] :: Blk p18 31 [.int .i64 u14.2.Err, .string u14.2.Path, .string u14.2.Data, .int .i64 u14.2.Version, (.slice q19 u14.2.Names.length x20)] :: Blk p6 24 [.int .i64 x3.Kind, .string x3.Path, .string x3.Data, .int .i64 x3.Version, .int .i64 x3.Owner, .bool x3.Turns] :: Fo) (rSl k_api_Node v23 u21.1 :: rSl kS (.slice q26 u21.2.Names.length x27) u21.2.Names :: rSl k_api_Node v16 u14.1 :: rSl kS (.slice q19 u14.2.Names.length x20) u14.2.Names :: rs10) := H
       refine ⟨⟨_, _, H, (subO_cons (.head _) (subO_cons (.tail _ (.head _)) (subO_cons (.tail _ (.tail _ (.head _))) (subO_cons (.tail _ (.tail _ (.tail _ (.head _)))) (subO_cons (.tail _ (.tail _ (.tail _ (.tail _ (.head _))))) (subO_nil)))))), (sub_nil)⟩, ?_⟩
       refine fr_val E rfl (wn rfl) rfl rfl (fun w hW => (x_pickF E rfl rfl hb47 rfl)) ?_
       clear a E;intro a E
       refine fr_val E rfl (wn rfl) rfl rfl (fun w hW => (x_move E rfl rfl)) ?_
       clear a E;intro a E
       refine fr_no E rfl (wf E rfl rfl rfl rfl rfl) rfl rfl ?_
       clear a E;intro a E
       refine fr_no E rfl (wf E rfl rfl rfl rfl rfl) rfl rfl ?_
       clear a E;intro a E
       refine fr_no E rfl (wf E rfl rfl rfl rfl rfl) rfl rfl ?_
       clear a E;intro a E
       refine fr_val E rfl (wn rfl) rfl rfl (fun w hW => (x_pickF E rfl rfl rfl rfl)) ?_
       clear a E;intro a E
       refine fr_val E rfl (wn rfl) rfl rfl (fun w hW => (x_move E rfl rfl)) ?_
       clear a E;intro a E
       refine fr_no E rfl (wf E rfl rfl rfl rfl rfl) rfl rfl ?_
       clear a E;intro a E
       refine fr_no E rfl (wf E rfl rfl rfl rfl rfl) rfl rfl ?_
       clear a E;intro a E
       refine fr_no E rfl (wf E rfl rfl rfl rfl rfl) rfl rfl ?_
       clear a E;intro a E
       refine fr_val E rfl (wn rfl) rfl rfl (fun w hW => (x_pickF E rfl rfl rfl rfl)) ?_
       clear a E;intro a E
       refine fr_tail rfl ?_
       refine sv E rfl rfl rfl (x_assign E rfl rfl) ?_
       clear a E;intro a E
       refine wpList_nil ?_
       refine q_then ?_
       refine fr_nil ?_
       clear hI
       refine q_then ?_
       refine wp_ret ?_
       refine out1 E rfl rfl ?_
       replace H := H.drop 0
       replace H := H.drop 0
       replace H := H.drop 0
       replace H := H.drop 0
       replace H := H.drop 0
       obtain rfl := Option.some.inj hm
       exact ⟨rfl, H.reads (fun r hr => .tail _ (.tail _ (.tail _ (.tail _ (hs11 r hr)))))⟩
     ·rw [if_f hb44] at hm
      refine fr_no E rfl (wf' E rfl rfl rfl rfl hb44 rfl) rfl rfl ?_
      clear a E;intro a E
      refine fr_no E rfl (wf' E rfl rfl rfl rfl hb44 rfl) rfl rfl ?_
      clear a E;intro a E
      refine fr_op rfl ?_
      refine st_no E (wf' E rfl rfl rfl rfl hb44 rfl) rfl rfl ?_
      clear a E;intro a E
      refine wpList_nil ?_
      refine q_then ?_
      replace H : Sep w (Blk p33 35 [.string u31.1.Path, .string u31.1.Data, .int .i64 u31.1.Version, .int .i64 u31.1.Turn, .int .i64 u31.1.Owner] :: Blk p30 35 [.string u28.1.Path, .string u28.1.Data, .int .i64 u28.1.Version, .int .i64 u28.1.Turn, .int .i64 u28.1.Owner] :: Blk p25 31 [.int .i64 u21.2.Err, .string u21.2.Path, .string u21.2.Data, .int .i64 u21.2.Version, (.slice q26 u21.2.Names.length x27)] :: Blk p18 31 [.int .i64 u14.2.Err, .string u14.2.Path, .string u14.2.Data, .int .i64 u14.2.Version, (.slice q19 u14.2.Names.length x20)] :: Blk p6 24 [.int .i64 x3.Kind, .string x3.Path, .string x3.Data, .int .i64 x3.Version, .int .i64 x3.Owner, .bool x3.Turns] :: Fo) (rSl k_api_Node v23 u21.1 :: rSl kS (.slice q26 u21.2.Names.length x27) u21.2.Names :: rSl k_api_Node v16 u14.1 :: rSl kS (.slice q19 u14.2.Names.length x20) u14.2.Names :: rs10) := H
      refine ⟨⟨_, _, H, (subO_cons (.head _) (subO_cons (.tail _ (.head _)) (subO_cons (.tail _ (.tail _ (.head _))) (subO_cons (.tail _ (.tail _ (.tail _ (.head _)))) (subO_cons (.tail _ (.tail _ (.tail _ (.tail _ (.head _))))) (subO_nil)))))), (sub_nil)⟩, ?_⟩
      refine fr_val E rfl (wn rfl) rfl rfl (fun w hW => (x_pickF E rfl rfl hb44 rfl)) ?_
      clear a E;intro a E
      refine fr_val E rfl (wn rfl) rfl rfl (fun w hW => (x_move E rfl rfl)) ?_
      clear a E;intro a E
      refine fr_no E rfl (wf E rfl rfl rfl rfl rfl) rfl rfl ?_
      clear a E;intro a E
      refine fr_no E rfl (wf E rfl rfl rfl rfl rfl) rfl rfl ?_
      clear a E;intro a E
      refine fr_op rfl ?_
      refine st_no E (wf E rfl rfl rfl rfl rfl) rfl rfl ?_
      clear a E;intro a E
      refine wpList_nil ?_
      refine q_then ?_
      replace H : Sep w (Blk p33 35 [.string u31.1.Path, .string u31.1.Data, .int .i64 u31.1.Version, .int .i64 u31.1.Turn, .int .i64 u31.1.Owner] :: Blk p30 35 [.string u28.1.Path, .string u28.1.Data, .int .i64 u28.1.Version, .int .i64 u28.1.Turn, .int .i64 u28.1.Owner] :: Blk p25 31 [.int .i64 u21.2.Err, .string u21.2.Path, .string u21.2.Data, .int .i64 u21.2.Version, (.slice q26 u21.2.Names.length x27)] :: Blk p18 31 [.int .i64 u14.2.Err, .string u14.2.Path, .string u14.2.Data, .int .i64 u14.2.Version, (.slice q19 u14.2.Names.length x20)] :: Blk p6 24 [.int .i64 x3.Kind, .string x3.Path, .string x3.Data, .int .i64 x3.Version, .int .i64 x3.Owner, .bool x3.Turns] :: Fo) (rSl k_api_Node v23 u21.1 :: rSl kS (.slice q26 u21.2.Names.length x27) u21.2.Names :: rSl k_api_Node v16 u14.1 :: rSl kS (.slice q19 u14.2.Names.length x20) u14.2.Names :: rs10) := H
      refine ⟨⟨_, _, H, (subO_cons (.head _) (subO_cons (.tail _ (.head _)) (subO_cons (.tail _ (.tail _ (.head _))) (subO_cons (.tail _ (.tail _ (.tail _ (.head _)))) (subO_cons (.tail _ (.tail _ (.tail _ (.tail _ (.head _))))) (subO_nil)))))), (sub_nil)⟩, ?_⟩
      refine fr_val E rfl (wn rfl) rfl rfl (fun w hW => (x_pickF E rfl rfl rfl rfl)) ?_
      clear a E;intro a E
      refine fr_val E rfl (wn rfl) rfl rfl (fun w hW => (x_move E rfl rfl)) ?_
      clear a E;intro a E
      refine fr_no E rfl (wf E rfl rfl rfl rfl rfl) rfl rfl ?_
      clear a E;intro a E
      refine fr_no E rfl (wf E rfl rfl rfl rfl rfl) rfl rfl ?_
      clear a E;intro a E
      refine fr_no E rfl (wf E rfl rfl rfl rfl rfl) rfl rfl ?_
      clear a E;intro a E
      refine fr_val E rfl (wn rfl) rfl rfl (fun w hW => (x_pickF E rfl rfl rfl rfl)) ?_
      clear a E;intro a E
      refine fr_val E rfl (wn rfl) rfl rfl (fun w hW => (x_move E rfl rfl)) ?_
      clear a E;intro a E
      refine fr_no E rfl (wf E rfl rfl rfl rfl rfl) rfl rfl ?_
      clear a E;intro a E
      refine fr_no E rfl (wf E rfl rfl rfl rfl rfl) rfl rfl ?_
      clear a E;intro a E
      refine fr_no E rfl (wf E rfl rfl rfl rfl rfl) rfl rfl ?_
      clear a E;intro a E
      refine fr_val E rfl (wn rfl) rfl rfl (fun w hW => (x_pickF E rfl rfl rfl rfl)) ?_
      clear a E;intro a E
      refine fr_tail rfl ?_
      refine sv E rfl rfl rfl (x_assign E rfl rfl) ?_
      clear a E;intro a E
      refine wpList_nil ?_
      refine q_then ?_
      refine fr_nil ?_
      clear hI
      refine q_then ?_
      refine wp_ret ?_
      refine out1 E rfl rfl ?_
      replace H := H.drop 0
      replace H := H.drop 0
      replace H := H.drop 0
      replace H := H.drop 0
      replace H := H.drop 0
      obtain rfl := Option.some.inj hm
      exact ⟨rfl, H.reads (fun r hr => .tail _ (.tail _ (.tail _ (.tail _ (hs11 r hr)))))⟩
    ·rw [if_f hb39] at hm
     refine fr_no E rfl (wf' E rfl rfl rfl rfl hb39 rfl) rfl rfl ?_
     clear a E;intro a E
     refine fr_no E rfl (wf' E rfl rfl rfl rfl hb39 rfl) rfl rfl ?_
     clear a E;intro a E
     refine fr_op rfl ?_
     refine st_no E (wf' E rfl rfl rfl rfl hb39 rfl) rfl rfl ?_
     clear a E;intro a E
     refine wpList_nil ?_
     refine q_then ?_
     replace H : Sep w (Blk p33 35 [.string u31.1.Path, .string u31.1.Data, .int .i64 u31.1.Version, .int .i64 u31.1.Turn, .int .i64 u31.1.Owner] :: Blk p30 35 [.string u28.1.Path, .string u28.1.Data, .int .i64 u28.1.Version, .int .i64 u28.1.Turn, .int .i64 u28.1.Owner] :: Blk p25 31 [.int .i64 u21.2.Err, .string u21.2.Path, .string u21.2.Data, .int .i64 u21.2.Version, (.slice q26 u21.2.Names.length x27)] :: Blk p18 31 [.int .i64 u14.2.Err, .string u14.2.Path, .string u14.2.Data, .int .i64 u14.2.Version, (.slice q19 u14.2.Names.length x20)] :: Blk p6 24 [.int .i64 x3.Kind, .string x3.Path, .string x3.Data, .int .i64 x3.Version, .int .i64 x3.Owner, .bool x3.Turns] :: Fo) (rSl k_api_Node v23 u21.1 :: rSl kS (.slice q26 u21.2.Names.length x27) u21.2.Names :: rSl k_api_Node v16 u14.1 :: rSl kS (.slice q19 u14.2.Names.length x20) u14.2.Names :: rs10) := H
     refine ⟨⟨_, _, H, (subO_cons (.head _) (subO_cons (.tail _ (.head _)) (subO_cons (.tail _ (.tail _ (.head _))) (subO_cons (.tail _ (.tail _ (.tail _ (.head _)))) (subO_cons (.tail _ (.tail _ (.tail _ (.tail _ (.head _))))) (subO_nil)))))), (sub_nil)⟩, ?_⟩
     refine fr_op rfl ?_
     refine st_no E (wf' E rfl rfl rfl rfl hb39 rfl) rfl rfl ?_
     clear a E;intro a E
     refine wpList_nil ?_
     refine q_then ?_
     replace H : Sep w (Blk p33 35 [.string u31.1.Path, .string u31.1.Data, .int .i64 u31.1.Version, .int .i64 u31.1.Turn, .int .i64 u31.1.Owner] :: Blk p30 35 [.string u28.1.Path, .string u28.1.Data, .int .i64 u28.1.Version, .int .i64 u28.1.Turn, .int .i64 u28.1.Owner] :: Blk p25 31 [.int .i64 u21.2.Err, .string u21.2.Path, .string u21.2.Data, .int .i64 u21.2.Version, (.slice q26 u21.2.Names.length x27)] :: Blk p18 31 [.int .i64 u14.2.Err, .string u14.2.Path, .string u14.2.Data, .int .i64 u14.2.Version, (.slice q19 u14.2.Names.length x20)] :: Blk p6 24 [.int .i64 x3.Kind, .string x3.Path, .string x3.Data, .int .i64 x3.Version, .int .i64 x3.Owner, .bool x3.Turns] :: Fo) (rSl k_api_Node v23 u21.1 :: rSl kS (.slice q26 u21.2.Names.length x27) u21.2.Names :: rSl k_api_Node v16 u14.1 :: rSl kS (.slice q19 u14.2.Names.length x20) u14.2.Names :: rs10) := H
     refine ⟨⟨_, _, H, (subO_cons (.head _) (subO_cons (.tail _ (.head _)) (subO_cons (.tail _ (.tail _ (.head _))) (subO_cons (.tail _ (.tail _ (.tail _ (.head _)))) (subO_cons (.tail _ (.tail _ (.tail _ (.tail _ (.head _))))) (subO_nil)))))), (sub_nil)⟩, ?_⟩
     refine fr_no E rfl (wf' E rfl rfl rfl rfl hb39 rfl) rfl rfl ?_
     clear a E;intro a E
     refine fr_val E rfl (wn rfl) rfl rfl (fun w hW => (x_pickF E rfl rfl hb39 rfl)) ?_
     clear a E;intro a E
     refine fr_val E rfl (wn rfl) rfl rfl (fun w hW => (x_move E rfl rfl)) ?_
     clear a E;intro a E
     refine fr_no E rfl (wf E rfl rfl rfl rfl rfl) rfl rfl ?_
     clear a E;intro a E
     refine fr_no E rfl (wf E rfl rfl rfl rfl rfl) rfl rfl ?_
     clear a E;intro a E
     refine fr_op rfl ?_
     refine st_no E (wf E rfl rfl rfl rfl rfl) rfl rfl ?_
     clear a E;intro a E
     refine wpList_nil ?_
     refine q_then ?_
     replace H : Sep w (Blk p33 35 [.string u31.1.Path, .string u31.1.Data, .int .i64 u31.1.Version, .int .i64 u31.1.Turn, .int .i64 u31.1.Owner] :: Blk p30 35 [.string u28.1.Path, .string u28.1.Data, .int .i64 u28.1.Version, .int .i64 u28.1.Turn, .int .i64 u28.1.Owner] :: Blk p25 31 [.int .i64 u21.2.Err, .string u21.2.Path, .string u21.2.Data, .int .i64 u21.2.Version, (.slice q26 u21.2.Names.length x27)] :: Blk p18 31 [.int .i64 u14.2.Err, .string u14.2.Path, .string u14.2.Data, .int .i64 u14.2.Version, (.slice q19 u14.2.Names.length x20)] :: Blk p6 24 [.int .i64 x3.Kind, .string x3.Path, .string x3.Data, .int .i64 x3.Version, .int .i64 x3.Owner, .bool x3.Turns] :: Fo) (rSl k_api_Node v23 u21.1 :: rSl kS (.slice q26 u21.2.Names.length x27) u21.2.Names :: rSl k_api_Node v16 u14.1 :: rSl kS (.slice q19 u14.2.Names.length x20) u14.2.Names :: rs10) := H
     refine ⟨⟨_, _, H, (subO_cons (.head _) (subO_cons (.tail _ (.head _)) (subO_cons (.tail _ (.tail _ (.head _))) (subO_cons (.tail _ (.tail _ (.tail _ (.head _)))) (subO_cons (.tail _ (.tail _ (.tail _ (.tail _ (.head _))))) (subO_nil)))))), (sub_nil)⟩, ?_⟩
     refine fr_val E rfl (wn rfl) rfl rfl (fun w hW => (x_pickF E rfl rfl rfl rfl)) ?_
     clear a E;intro a E
     refine fr_val E rfl (wn rfl) rfl rfl (fun w hW => (x_move E rfl rfl)) ?_
     clear a E;intro a E
     refine fr_no E rfl (wf E rfl rfl rfl rfl rfl) rfl rfl ?_
     clear a E;intro a E
     refine fr_no E rfl (wf E rfl rfl rfl rfl rfl) rfl rfl ?_
     clear a E;intro a E
     refine fr_op rfl ?_
     refine st_no E (wf E rfl rfl rfl rfl rfl) rfl rfl ?_
     clear a E;intro a E
     refine wpList_nil ?_
     refine q_then ?_
     replace H : Sep w (Blk p33 35 [.string u31.1.Path, .string u31.1.Data, .int .i64 u31.1.Version, .int .i64 u31.1.Turn, .int .i64 u31.1.Owner] :: Blk p30 35 [.string u28.1.Path, .string u28.1.Data, .int .i64 u28.1.Version, .int .i64 u28.1.Turn, .int .i64 u28.1.Owner] :: Blk p25 31 [.int .i64 u21.2.Err, .string u21.2.Path, .string u21.2.Data, .int .i64 u21.2.Version, (.slice q26 u21.2.Names.length x27)] :: Blk p18 31 [.int .i64 u14.2.Err, .string u14.2.Path, .string u14.2.Data, .int .i64 u14.2.Version, (.slice q19 u14.2.Names.length x20)] :: Blk p6 24 [.int .i64 x3.Kind, .string x3.Path, .string x3.Data, .int .i64 x3.Version, .int .i64 x3.Owner, .bool x3.Turns] :: Fo) (rSl k_api_Node v23 u21.1 :: rSl kS (.slice q26 u21.2.Names.length x27) u21.2.Names :: rSl k_api_Node v16 u14.1 :: rSl kS (.slice q19 u14.2.Names.length x20) u14.2.Names :: rs10) := H
     refine ⟨⟨_, _, H, (subO_cons (.head _) (subO_cons (.tail _ (.head _)) (subO_cons (.tail _ (.tail _ (.head _))) (subO_cons (.tail _ (.tail _ (.tail _ (.head _)))) (subO_cons (.tail _ (.tail _ (.tail _ (.tail _ (.head _))))) (subO_nil)))))), (sub_nil)⟩, ?_⟩
     refine fr_val E rfl (wn rfl) rfl rfl (fun w hW => (x_pickF E rfl rfl rfl rfl)) ?_
     clear a E;intro a E
     refine fr_val E rfl (wn rfl) rfl rfl (fun w hW => (x_move E rfl rfl)) ?_
     clear a E;intro a E
     refine fr_no E rfl (wf E rfl rfl rfl rfl rfl) rfl rfl ?_
     clear a E;intro a E
     refine fr_no E rfl (wf E rfl rfl rfl rfl rfl) rfl rfl ?_
     clear a E;intro a E
     refine fr_no E rfl (wf E rfl rfl rfl rfl rfl) rfl rfl ?_
     clear a E;intro a E
     refine fr_val E rfl (wn rfl) rfl rfl (fun w hW => (x_pickF E rfl rfl rfl rfl)) ?_
     clear a E;intro a E
     refine fr_val E rfl (wn rfl) rfl rfl (fun w hW => (x_move E rfl rfl)) ?_
     clear a E;intro a E
     refine fr_no E rfl (wf E rfl rfl rfl rfl rfl) rfl rfl ?_
     clear a E;intro a E
     refine fr_no E rfl (wf E rfl rfl rfl rfl rfl) rfl rfl ?_
     clear a E;intro a E
     refine fr_no E rfl (wf E rfl rfl rfl rfl rfl) rfl rfl ?_
     clear a E;intro a E
     refine fr_val E rfl (wn rfl) rfl rfl (fun w hW => (x_pickF E rfl rfl rfl rfl)) ?_
     clear a E;intro a E
     refine fr_tail rfl ?_
     refine sv E rfl rfl rfl (x_assign E rfl rfl) ?_
     clear a E;intro a E
     refine wpList_nil ?_
     refine q_then ?_
     refine fr_nil ?_
     clear hI
     refine q_then ?_
     refine wp_ret ?_
     refine out1 E rfl rfl ?_
     replace H := H.drop 0
     replace H := H.drop 0
     replace H := H.drop 0
     replace H := H.drop 0
     replace H := H.drop 0
     obtain rfl := Option.some.inj hm
     exact ⟨rfl, H.reads (fun r hr => .tail _ (.tail _ (.tail _ (.tail _ (hs11 r hr)))))⟩
   ·rw [if_f hb34] at hm
    refine fr_no E rfl (wf' E rfl rfl rfl rfl hb34 rfl) rfl rfl ?_
    clear a E;intro a E
    refine fr_no E rfl (wf' E rfl rfl rfl rfl hb34 rfl) rfl rfl ?_
    clear a E;intro a E
    refine fr_op rfl ?_
    refine st_no E (wf' E rfl rfl rfl rfl hb34 rfl) rfl rfl ?_
    clear a E;intro a E
    refine wpList_nil ?_
    refine q_then ?_
    replace H : Sep w (Blk p33 35 [.string u31.1.Path, .string u31.1.Data, .int .i64 u31.1.Version, .int .i64 u31.1.Turn, .int .i64 u31.1.Owner] :: Blk p30 35 [.string u28.1.Path, .string u28.1.Data, .int .i64 u28.1.Version, .int .i64 u28.1.Turn, .int .i64 u28.1.Owner] :: Blk p25 31 [.int .i64 u21.2.Err, .string u21.2.Path, .string u21.2.Data, .int .i64 u21.2.Version, (.slice q26 u21.2.Names.length x27)] :: Blk p18 31 [.int .i64 u14.2.Err, .string u14.2.Path, .string u14.2.Data, .int .i64 u14.2.Version, (.slice q19 u14.2.Names.length x20)] :: Blk p6 24 [.int .i64 x3.Kind, .string x3.Path, .string x3.Data, .int .i64 x3.Version, .int .i64 x3.Owner, .bool x3.Turns] :: Fo) (rSl k_api_Node v23 u21.1 :: rSl kS (.slice q26 u21.2.Names.length x27) u21.2.Names :: rSl k_api_Node v16 u14.1 :: rSl kS (.slice q19 u14.2.Names.length x20) u14.2.Names :: rs10) := H
    refine ⟨⟨_, _, H, (subO_cons (.head _) (subO_cons (.tail _ (.head _)) (subO_cons (.tail _ (.tail _ (.head _))) (subO_cons (.tail _ (.tail _ (.tail _ (.head _)))) (subO_cons (.tail _ (.tail _ (.tail _ (.tail _ (.head _))))) (subO_nil)))))), (sub_nil)⟩, ?_⟩
    refine fr_op rfl ?_
    refine st_no E (wf' E rfl rfl rfl rfl hb34 rfl) rfl rfl ?_
    clear a E;intro a E
    refine wpList_nil ?_
    refine q_then ?_
    replace H : Sep w (Blk p33 35 [.string u31.1.Path, .string u31.1.Data, .int .i64 u31.1.Version, .int .i64 u31.1.Turn, .int .i64 u31.1.Owner] :: Blk p30 35 [.string u28.1.Path, .string u28.1.Data, .int .i64 u28.1.Version, .int .i64 u28.1.Turn, .int .i64 u28.1.Owner] :: Blk p25 31 [.int .i64 u21.2.Err, .string u21.2.Path, .string u21.2.Data, .int .i64 u21.2.Version, (.slice q26 u21.2.Names.length x27)] :: Blk p18 31 [.int .i64 u14.2.Err, .string u14.2.Path, .string u14.2.Data, .int .i64 u14.2.Version, (.slice q19 u14.2.Names.length x20)] :: Blk p6 24 [.int .i64 x3.Kind, .string x3.Path, .string x3.Data, .int .i64 x3.Version, .int .i64 x3.Owner, .bool x3.Turns] :: Fo) (rSl k_api_Node v23 u21.1 :: rSl kS (.slice q26 u21.2.Names.length x27) u21.2.Names :: rSl k_api_Node v16 u14.1 :: rSl kS (.slice q19 u14.2.Names.length x20) u14.2.Names :: rs10) := H
    refine ⟨⟨_, _, H, (subO_cons (.head _) (subO_cons (.tail _ (.head _)) (subO_cons (.tail _ (.tail _ (.head _))) (subO_cons (.tail _ (.tail _ (.tail _ (.head _)))) (subO_cons (.tail _ (.tail _ (.tail _ (.tail _ (.head _))))) (subO_nil)))))), (sub_nil)⟩, ?_⟩
    refine fr_no E rfl (wf' E rfl rfl rfl rfl hb34 rfl) rfl rfl ?_
    clear a E;intro a E
    refine fr_val E rfl (wn rfl) rfl rfl (fun w hW => (x_pickF E rfl rfl hb34 rfl)) ?_
    clear a E;intro a E
    refine fr_val E rfl (wn rfl) rfl rfl (fun w hW => (x_move E rfl rfl)) ?_
    clear a E;intro a E
    refine fr_no E rfl (wf E rfl rfl rfl rfl rfl) rfl rfl ?_
    clear a E;intro a E
    refine fr_no E rfl (wf E rfl rfl rfl rfl rfl) rfl rfl ?_
    clear a E;intro a E
    refine fr_op rfl ?_
    refine st_no E (wf E rfl rfl rfl rfl rfl) rfl rfl ?_
    clear a E;intro a E
    refine wpList_nil ?_
    refine q_then ?_
    replace H : Sep w (Blk p33 35 [.string u31.1.Path, .string u31.1.Data, .int .i64 u31.1.Version, .int .i64 u31.1.Turn, .int .i64 u31.1.Owner] :: Blk p30 35 [.string u28.1.Path, .string u28.1.Data, .int .i64 u28.1.Version, .int .i64 u28.1.Turn, .int .i64 u28.1.Owner] :: Blk p25 31 [.int .i64 u21.2.Err, .string u21.2.Path, .string u21.2.Data, .int .i64 u21.2.Version, (.slice q26 u21.2.Names.length x27)] :: Blk p18 31 [.int .i64 u14.2.Err, .string u14.2.Path, .string u14.2.Data, .int .i64 u14.2.Version, (.slice q19 u14.2.Names.length x20)] :: Blk p6 24 [.int .i64 x3.Kind, .string x3.Path, .string x3.Data, .int .i64 x3.Version, .int .i64 x3.Owner, .bool x3.Turns] :: Fo) (rSl k_api_Node v23 u21.1 :: rSl kS (.slice q26 u21.2.Names.length x27) u21.2.Names :: rSl k_api_Node v16 u14.1 :: rSl kS (.slice q19 u14.2.Names.length x20) u14.2.Names :: rs10) := H
    refine ⟨⟨_, _, H, (subO_cons (.head _) (subO_cons (.tail _ (.head _)) (subO_cons (.tail _ (.tail _ (.head _))) (subO_cons (.tail _ (.tail _ (.tail _ (.head _)))) (subO_cons (.tail _ (.tail _ (.tail _ (.tail _ (.head _))))) (subO_nil)))))), (sub_nil)⟩, ?_⟩
    refine fr_op rfl ?_
    refine st_no E (wf E rfl rfl rfl rfl rfl) rfl rfl ?_
    clear a E;intro a E
    refine wpList_nil ?_
    refine q_then ?_
    replace H : Sep w (Blk p33 35 [.string u31.1.Path, .string u31.1.Data, .int .i64 u31.1.Version, .int .i64 u31.1.Turn, .int .i64 u31.1.Owner] :: Blk p30 35 [.string u28.1.Path, .string u28.1.Data, .int .i64 u28.1.Version, .int .i64 u28.1.Turn, .int .i64 u28.1.Owner] :: Blk p25 31 [.int .i64 u21.2.Err, .string u21.2.Path, .string u21.2.Data, .int .i64 u21.2.Version, (.slice q26 u21.2.Names.length x27)] :: Blk p18 31 [.int .i64 u14.2.Err, .string u14.2.Path, .string u14.2.Data, .int .i64 u14.2.Version, (.slice q19 u14.2.Names.length x20)] :: Blk p6 24 [.int .i64 x3.Kind, .string x3.Path, .string x3.Data, .int .i64 x3.Version, .int .i64 x3.Owner, .bool x3.Turns] :: Fo) (rSl k_api_Node v23 u21.1 :: rSl kS (.slice q26 u21.2.Names.length x27) u21.2.Names :: rSl k_api_Node v16 u14.1 :: rSl kS (.slice q19 u14.2.Names.length x20) u14.2.Names :: rs10) := H
    refine ⟨⟨_, _, H, (subO_cons (.head _) (subO_cons (.tail _ (.head _)) (subO_cons (.tail _ (.tail _ (.head _))) (subO_cons (.tail _ (.tail _ (.tail _ (.head _)))) (subO_cons (.tail _ (.tail _ (.tail _ (.tail _ (.head _))))) (subO_nil)))))), (sub_nil)⟩, ?_⟩
    refine fr_no E rfl (wf E rfl rfl rfl rfl rfl) rfl rfl ?_
    clear a E;intro a E
    refine fr_val E rfl (wn rfl) rfl rfl (fun w hW => (x_pickF E rfl rfl rfl rfl)) ?_
    clear a E;intro a E
    refine fr_val E rfl (wn rfl) rfl rfl (fun w hW => (x_move E rfl rfl)) ?_
    clear a E;intro a E
    refine fr_no E rfl (wf E rfl rfl rfl rfl rfl) rfl rfl ?_
    clear a E;intro a E
    refine fr_no E rfl (wf E rfl rfl rfl rfl rfl) rfl rfl ?_
    clear a E;intro a E
    refine fr_op rfl ?_
    refine st_no E (wf E rfl rfl rfl rfl rfl) rfl rfl ?_
    clear a E;intro a E
    refine wpList_nil ?_
    refine q_then ?_
    replace H : Sep w (Blk p33 35 [.string u31.1.Path, .string u31.1.Data, .int .i64 u31.1.Version, .int .i64 u31.1.Turn, .int .i64 u31.1.Owner] :: Blk p30 35 [.string u28.1.Path, .string u28.1.Data, .int .i64 u28.1.Version, .int .i64 u28.1.Turn, .int .i64 u28.1.Owner] :: Blk p25 31 [.int .i64 u21.2.Err, .string u21.2.Path, .string u21.2.Data, .int .i64 u21.2.Version, (.slice q26 u21.2.Names.length x27)] :: Blk p18 31 [.int .i64 u14.2.Err, .string u14.2.Path, .string u14.2.Data, .int .i64 u14.2.Version, (.slice q19 u14.2.Names.length x20)] :: Blk p6 24 [.int .i64 x3.Kind, .string x3.Path, .string x3.Data, .int .i64 x3.Version, .int .i64 x3.Owner, .bool x3.Turns] :: Fo) (rSl k_api_Node v23 u21.1 :: rSl kS (.slice q26 u21.2.Names.length x27) u21.2.Names :: rSl k_api_Node v16 u14.1 :: rSl kS (.slice q19 u14.2.Names.length x20) u14.2.Names :: rs10) := H
    refine ⟨⟨_, _, H, (subO_cons (.head _) (subO_cons (.tail _ (.head _)) (subO_cons (.tail _ (.tail _ (.head _))) (subO_cons (.tail _ (.tail _ (.tail _ (.head _)))) (subO_cons (.tail _ (.tail _ (.tail _ (.tail _ (.head _))))) (subO_nil)))))), (sub_nil)⟩, ?_⟩
    refine fr_val E rfl (wn rfl) rfl rfl (fun w hW => (x_pickF E rfl rfl rfl rfl)) ?_
    clear a E;intro a E
    refine fr_val E rfl (wn rfl) rfl rfl (fun w hW => (x_move E rfl rfl)) ?_
    clear a E;intro a E
    refine fr_no E rfl (wf E rfl rfl rfl rfl rfl) rfl rfl ?_
    clear a E;intro a E
    refine fr_no E rfl (wf E rfl rfl rfl rfl rfl) rfl rfl ?_
    clear a E;intro a E
    refine fr_op rfl ?_
    refine st_no E (wf E rfl rfl rfl rfl rfl) rfl rfl ?_
    clear a E;intro a E
    refine wpList_nil ?_
    refine q_then ?_
    replace H : Sep w (Blk p33 35 [.string u31.1.Path, .string u31.1.Data, .int .i64 u31.1.Version, .int .i64 u31.1.Turn, .int .i64 u31.1.Owner] :: Blk p30 35 [.string u28.1.Path, .string u28.1.Data, .int .i64 u28.1.Version, .int .i64 u28.1.Turn, .int .i64 u28.1.Owner] :: Blk p25 31 [.int .i64 u21.2.Err, .string u21.2.Path, .string u21.2.Data, .int .i64 u21.2.Version, (.slice q26 u21.2.Names.length x27)] :: Blk p18 31 [.int .i64 u14.2.Err, .string u14.2.Path, .string u14.2.Data, .int .i64 u14.2.Version, (.slice q19 u14.2.Names.length x20)] :: Blk p6 24 [.int .i64 x3.Kind, .string x3.Path, .string x3.Data, .int .i64 x3.Version, .int .i64 x3.Owner, .bool x3.Turns] :: Fo) (rSl k_api_Node v23 u21.1 :: rSl kS (.slice q26 u21.2.Names.length x27) u21.2.Names :: rSl k_api_Node v16 u14.1 :: rSl kS (.slice q19 u14.2.Names.length x20) u14.2.Names :: rs10) := H
    refine ⟨⟨_, _, H, (subO_cons (.head _) (subO_cons (.tail _ (.head _)) (subO_cons (.tail _ (.tail _ (.head _))) (subO_cons (.tail _ (.tail _ (.tail _ (.head _)))) (subO_cons (.tail _ (.tail _ (.tail _ (.tail _ (.head _))))) (subO_nil)))))), (sub_nil)⟩, ?_⟩
    refine fr_val E rfl (wn rfl) rfl rfl (fun w hW => (x_pickF E rfl rfl rfl rfl)) ?_
    clear a E;intro a E
    refine fr_val E rfl (wn rfl) rfl rfl (fun w hW => (x_move E rfl rfl)) ?_
    clear a E;intro a E
    refine fr_no E rfl (wf E rfl rfl rfl rfl rfl) rfl rfl ?_
    clear a E;intro a E
    refine fr_no E rfl (wf E rfl rfl rfl rfl rfl) rfl rfl ?_
    clear a E;intro a E
    refine fr_no E rfl (wf E rfl rfl rfl rfl rfl) rfl rfl ?_
    clear a E;intro a E
    refine fr_val E rfl (wn rfl) rfl rfl (fun w hW => (x_pickF E rfl rfl rfl rfl)) ?_
    clear a E;intro a E
    refine fr_val E rfl (wn rfl) rfl rfl (fun w hW => (x_move E rfl rfl)) ?_
    clear a E;intro a E
    refine fr_no E rfl (wf E rfl rfl rfl rfl rfl) rfl rfl ?_
    clear a E;intro a E
    refine fr_no E rfl (wf E rfl rfl rfl rfl rfl) rfl rfl ?_
    clear a E;intro a E
    refine fr_no E rfl (wf E rfl rfl rfl rfl rfl) rfl rfl ?_
    clear a E;intro a E
    refine fr_val E rfl (wn rfl) rfl rfl (fun w hW => (x_pickF E rfl rfl rfl rfl)) ?_
    clear a E;intro a E
    refine fr_tail rfl ?_
    refine sv E rfl rfl rfl (x_assign E rfl rfl) ?_
    clear a E;intro a E
    refine wpList_nil ?_
    refine q_then ?_
    refine fr_nil ?_
    clear hI
    refine q_then ?_
    refine wp_ret ?_
    refine out1 E rfl rfl ?_
    replace H := H.drop 0
    replace H := H.drop 0
    replace H := H.drop 0
    replace H := H.drop 0
    replace H := H.drop 0
    obtain rfl := Option.some.inj hm
    exact ⟨rfl, H.reads (fun r hr => .tail _ (.tail _ (.tail _ (.tail _ (hs11 r hr)))))⟩
end Go.Cb
