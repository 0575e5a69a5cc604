/- Functions of the program, walked: each comes to its plain function. -/
import Derived.Test.YtidapdacihcckaaDoorKbo2
import Derived.Test.YtidapdacihcckaaDoorN4bo
set_option linter.unusedVariables false
set_option linter.unusedSimpArgs false
namespace Go.Cb
open Go.Proofs Go.RowKit
def m_cantonlaw06_head : Option Bool :=
  m_nodes_New.bind fun u2 => (m_nodes_Apply u2 (⟨1, (ByteArray.mk #[47, 113]), (ByteArray.mk #[]), 0, 0, true⟩ : S_api_Op)).bind fun u5 => (m_nodes_Apply u5.1 (⟨3, (ByteArray.mk #[47, 113, 48, 48, 48, 48]), (ByteArray.mk #[120]), (-1), 0, false⟩ : S_api_Op)).bind fun u12 => (m_nodes_Apply u12.1 (⟨2, (ByteArray.mk #[47, 113, 48, 48, 48, 48]), (ByteArray.mk #[]), 0, 0, false⟩ : S_api_Op)).bind fun u19 => (m_nodes_Apply u12.1 (⟨6, (ByteArray.mk #[47]), (ByteArray.mk #[]), 0, 0, false⟩ : S_api_Op)).bind fun u26 => (m_nodes_Apply ([] : List S_api_Node) (⟨0, (ByteArray.mk #[]), (ByteArray.mk #[]), 0, 0, false⟩ : S_api_Op)).bind fun u33 => (m_nodes_Find u12.1 (ByteArray.mk #[47, 113, 48, 48, 48, 48])).bind fun u40 => if ((u2.length : Int) == 1) = true then (if (sEq u5.2.Path (ByteArray.mk #[47, 113, 48, 48, 48, 48])) = true then (if (u5.2.Err == 0) = true then (if ((u5.1.length : Int) == 2) = true then ((idx u5.1 0).bind fun x47 => if (x47.Turn == 1) = true then (if (u12.2.Version == 1) = true then (if (u19.2.Err == 63) = true then (if ((u26.2.Names.length : Int) == 1) = true then (if (u33.2.Err == 1) = true then (if u40.2 = true then (if (sEq u40.1.Data (ByteArray.mk #[120])) = true then ((m_nodes_Right u12.1).bind fun u57 => if u57 = true then ((m_nodes_May (⟨0, (ByteArray.mk #[]), (ByteArray.mk #[]), 0, 0, false⟩ : S_api_Op)).bind fun u60 => some (!u60)) else (some (false))) else (some (false))) else (some (false))) else (some (false))) else (some (false))) else (some (false))) else (some (false))) else (some (false))) else (some (false))) else (some (false))) else (some (false))) else (some (false))
set_option maxRecDepth 20000 in
set_option maxHeartbeats 1000000 in
theorem c_cantonlaw06_head {w : World} {Fo : List Ob} {rs : List Rp} (H : Sep w (Fo) rs) (hr1 : rTab Tryd.prog ∈ rs) {r : Bool} (hm : m_cantonlaw06_head = some r) :
    Calls Tryd.prog 10 [].toArray w (Ret fun v w' => .bool r = v ∧ Sep w' (Fo) (rs)) := by
 unfold m_cantonlaw06_head at hm
 refine enter Tryd.func10 rfl Tryd.ntmps10 rfl fun a E => ?_
 simp only [enum, Nat.reduceAdd] at E
 refine wp_seq ?_
 refine wp_region_lit ?_
 refine sv E rfl rfl rfl (x_assign E rfl rfl) ?_
 clear a E;intro a E
 refine wpList_nil ?_
 refine q_then ?_
 refine wp_seq ?_
 refine wp_region_lit ?_
 obtain ⟨u2, hx3, hm⟩ := bnd hm
 refine st_call E (wn rfl) rfl rfl (x_call E rfl rfl (cf24 _)) (c_nodes_New H hx3) ?_
 clear E H; clear a; clear w; rintro _ w ⟨v4, rfl, H⟩ a E
 refine sv E rfl rfl rfl (x_assign E rfl rfl) ?_
 clear a E;intro a E
 refine wpList_nil ?_
 refine q_then ?_
 refine wp_seq ?_
 refine wp_region_lit ?_
 refine sv E rfl rfl rfl (x_move E rfl rfl) ?_
 clear a E;intro a E
 refine sv E rfl rfl rfl (x_build E (ps := [(0, .const (.int .i64 1)), (1, .const (.string (ByteArray.mk #[47, 113]))), (5, .const (.bool true))]) (vs := [(0, .int .i64 1), (1, .string (ByteArray.mk #[47, 113])), (5, .bool true)]) rfl (by simp only [List.map]; rw [E.eval (x := .const (.int .i64 1)) (v := .int .i64 1) rfl, E.eval (x := .const (.string (ByteArray.mk #[47, 113]))) (v := .string (ByteArray.mk #[47, 113])) rfl, E.eval (x := .const (.bool true)) (v := .bool true) rfl]) (v := .agg #[.int .i64 1, .string (ByteArray.mk #[47, 113]), .string (ByteArray.mk #[]), .int .i64 0, .int .i64 0, .bool true]) (by kernel_rfl)) ?_
 clear a E;intro a E
 replace H := H.thaw (i := 0) rfl
 replace H : Sep w (Fo) (rSl k_api_Node v4 u2 :: rs) := H
 obtain ⟨u5, hx6, hm⟩ := bnd hm
 refine st_call E (wn rfl) rfl rfl (x_call E rfl rfl (cf14 _)) (c_nodes_Apply v4 u2 (⟨1, (ByteArray.mk #[47, 113]), (ByteArray.mk #[]), 0, 0, true⟩ : S_api_Op) H (.head _) (.tail _ hr1) hx6) ?_
 clear E H; clear a; clear w; rintro _ w ⟨v7, v8, rfl, H⟩ a E
 refine sv E rfl rfl rfl (x_move E rfl rfl) ?_
 clear a E;intro a E
 refine sv E rfl rfl rfl (x_ext E rfl rfl rfl) ?_
 clear a E;intro a E
 refine sv E rfl rfl rfl (x_ext E rfl rfl rfl) ?_
 clear a E;intro a E
 refine st_alloc E H (wn rfl) rfl rfl (cs := [.int .i64 0, .string (ByteArray.mk #[]), .string (ByteArray.mk #[]), .int .i64 0, .slice none 0 0]) rfl (z := .agg #[.int .i64 0, .string ⟨#[]⟩, .string ⟨#[]⟩, .int .i64 0, .slice none 0 0]) (by kernel_rfl) rfl ?_
 clear E H; clear a; clear w; intro p9 w a H E
 refine sv E rfl rfl rfl (x_assign E rfl rfl) ?_
 clear a E;intro a E
 obtain ⟨q10, x11, rfl⟩ := H.slform (.tail _ (.head _))
 refine st_st (i := 0) E H (wn rfl) rfl (us := [.int .i64 u5.2.Err, .string u5.2.Path, .string u5.2.Data, .int .i64 u5.2.Version, (.slice q10 u5.2.Names.length x11)]) rfl rfl rfl rfl rfl sz31 rfl rfl ?_
 clear H; clear w; intro w H
 replace H : Sep w (Blk p9 31 [.int .i64 u5.2.Err, .string u5.2.Path, .string u5.2.Data, .int .i64 u5.2.Version, (.slice q10 u5.2.Names.length x11)] :: Fo) _ := H
 refine wpList_nil ?_
 refine q_then ?_
 refine wp_seq ?_
 refine wp_region_lit ?_
 refine sv E rfl rfl rfl (x_move E rfl rfl) ?_
 clear a E;intro a E
 refine sv E rfl rfl rfl (x_build E (ps := [(0, .const (.int .i64 3)), (1, .const (.string (ByteArray.mk #[47, 113, 48, 48, 48, 48]))), (2, .const (.string (ByteArray.mk #[120]))), (3, .const (.int .i64 (-1)))]) (vs := [(0, .int .i64 3), (1, .string (ByteArray.mk #[47, 113, 48, 48, 48, 48])), (2, .string (ByteArray.mk #[120])), (3, .int .i64 (-1))]) rfl (by simp only [List.map]; rw [E.eval (x := .const (.int .i64 3)) (v := .int .i64 3) rfl, E.eval (x := .const (.string (ByteArray.mk #[47, 113, 48, 48, 48, 48]))) (v := .string (ByteArray.mk #[47, 113, 48, 48, 48, 48])) rfl, E.eval (x := .const (.string (ByteArray.mk #[120]))) (v := .string (ByteArray.mk #[120])) rfl, E.eval (x := .const (.int .i64 (-1))) (v := .int .i64 (-1)) rfl]) (v := .agg #[.int .i64 3, .string (ByteArray.mk #[47, 113, 48, 48, 48, 48]), .string (ByteArray.mk #[120]), .int .i64 (-1), .int .i64 0, .bool false]) (by kernel_rfl)) ?_
 clear a E;intro a E
 obtain ⟨u12, hx13, hm⟩ := bnd hm
 refine st_call E (wn rfl) rfl rfl (x_call E rfl rfl (cf14 _)) (c_nodes_Apply v7 u5.1 (⟨3, (ByteArray.mk #[47, 113, 48, 48, 48, 48]), (ByteArray.mk #[120]), (-1), 0, false⟩ : S_api_Op) H (.head _) (.tail _ (.tail _ (.tail _ hr1))) hx13) ?_
 clear E H; clear a; clear w; rintro _ w ⟨v14, v15, rfl, H⟩ a E
 refine sv E rfl rfl rfl (x_move E rfl rfl) ?_
 clear a E;intro a E
 refine sv E rfl rfl rfl (x_ext E rfl rfl rfl) ?_
 clear a E;intro a E
 refine sv E rfl rfl rfl (x_ext E rfl rfl rfl) ?_
 clear a E;intro a E
 refine st_alloc E H (wn rfl) rfl rfl (cs := [.int .i64 0, .string (ByteArray.mk #[]), .string (ByteArray.mk #[]), .int .i64 0, .slice none 0 0]) rfl (z := .agg #[.int .i64 0, .string ⟨#[]⟩, .string ⟨#[]⟩, .int .i64 0, .slice none 0 0]) (by kernel_rfl) rfl ?_
 clear E H; clear a; clear w; intro p16 w a H E
 refine sv E rfl rfl rfl (x_assign E rfl rfl) ?_
 clear a E;intro a E
 obtain ⟨q17, x18, rfl⟩ := H.slform (.tail _ (.head _))
 refine st_st (i := 0) E H (wn rfl) rfl (us := [.int .i64 u12.2.Err, .string u12.2.Path, .string u12.2.Data, .int .i64 u12.2.Version, (.slice q17 u12.2.Names.length x18)]) rfl rfl rfl rfl rfl sz31 rfl rfl ?_
 clear H; clear w; intro w H
 replace H : Sep w (Blk p16 31 [.int .i64 u12.2.Err, .string u12.2.Path, .string u12.2.Data, .int .i64 u12.2.Version, (.slice q17 u12.2.Names.length x18)] :: Blk p9 31 [.int .i64 u5.2.Err, .string u5.2.Path, .string u5.2.Data, .int .i64 u5.2.Version, (.slice q10 u5.2.Names.length x11)] :: Fo) _ := H
 refine wpList_nil ?_
 refine q_then ?_
 refine wp_seq ?_
 refine wp_region_lit ?_
 refine sv E rfl rfl rfl (x_move E rfl rfl) ?_
 clear a E;intro a E
 refine sv E rfl rfl rfl (x_build E (ps := [(0, .const (.int .i64 2)), (1, .const (.string (ByteArray.mk #[47, 113, 48, 48, 48, 48]))), (3, .const (.int .i64 0))]) (vs := [(0, .int .i64 2), (1, .string (ByteArray.mk #[47, 113, 48, 48, 48, 48])), (3, .int .i64 0)]) rfl (by simp only [List.map]; rw [E.eval (x := .const (.int .i64 2)) (v := .int .i64 2) rfl, E.eval (x := .const (.string (ByteArray.mk #[47, 113, 48, 48, 48, 48]))) (v := .string (ByteArray.mk #[47, 113, 48, 48, 48, 48])) rfl, E.eval (x := .const (.int .i64 0)) (v := .int .i64 0) rfl]) (v := .agg #[.int .i64 2, .string (ByteArray.mk #[47, 113, 48, 48, 48, 48]), .string (ByteArray.mk #[]), .int .i64 0, .int .i64 0, .bool false]) (by kernel_rfl)) ?_
 clear a E;intro a E
 obtain ⟨u19, hx20, hm⟩ := bnd hm
 refine st_call E (wn rfl) rfl rfl (x_call E rfl rfl (cf14 _)) (c_nodes_Apply v14 u12.1 (⟨2, (ByteArray.mk #[47, 113, 48, 48, 48, 48]), (ByteArray.mk #[]), 0, 0, false⟩ : S_api_Op) H (.head _) (.tail _ (.tail _ (.tail _ (.tail _ (.tail _ hr1))))) hx20) ?_
 clear E H; clear a; clear w; rintro _ w ⟨v21, v22, rfl, H⟩ a E
 refine sv E rfl rfl rfl (x_move E rfl rfl) ?_
 clear a E;intro a E
 refine sv E rfl rfl rfl (x_ext E rfl rfl rfl) ?_
 clear a E;intro a E
 refine sv E rfl rfl rfl (x_ext E rfl rfl rfl) ?_
 clear a E;intro a E
 refine st_alloc E H (wn rfl) rfl rfl (cs := [.int .i64 0, .string (ByteArray.mk #[]), .string (ByteArray.mk #[]), .int .i64 0, .slice none 0 0]) rfl (z := .agg #[.int .i64 0, .string ⟨#[]⟩, .string ⟨#[]⟩, .int .i64 0, .slice none 0 0]) (by kernel_rfl) rfl ?_
 clear E H; clear a; clear w; intro p23 w a H E
 refine sv E rfl rfl rfl (x_assign E rfl rfl) ?_
 clear a E;intro a E
 obtain ⟨q24, x25, rfl⟩ := H.slform (.tail _ (.head _))
 refine st_st (i := 0) E H (wn rfl) rfl (us := [.int .i64 u19.2.Err, .string u19.2.Path, .string u19.2.Data, .int .i64 u19.2.Version, (.slice q24 u19.2.Names.length x25)]) rfl rfl rfl rfl rfl sz31 rfl rfl ?_
 clear H; clear w; intro w H
 replace H : Sep w (Blk p23 31 [.int .i64 u19.2.Err, .string u19.2.Path, .string u19.2.Data, .int .i64 u19.2.Version, (.slice q24 u19.2.Names.length x25)] :: Blk p16 31 [.int .i64 u12.2.Err, .string u12.2.Path, .string u12.2.Data, .int .i64 u12.2.Version, (.slice q17 u12.2.Names.length x18)] :: Blk p9 31 [.int .i64 u5.2.Err, .string u5.2.Path, .string u5.2.Data, .int .i64 u5.2.Version, (.slice q10 u5.2.Names.length x11)] :: Fo) _ := H
 refine wpList_nil ?_
 refine q_then ?_
 refine wp_seq ?_
 refine wp_region_lit ?_
 refine sv E rfl rfl rfl (x_move E rfl rfl) ?_
 clear a E;intro a E
 refine sv E rfl rfl rfl (x_build E (ps := [(0, .const (.int .i64 6)), (1, .const (.string (ByteArray.mk #[47])))]) (vs := [(0, .int .i64 6), (1, .string (ByteArray.mk #[47]))]) rfl (by simp only [List.map]; rw [E.eval (x := .const (.int .i64 6)) (v := .int .i64 6) rfl, E.eval (x := .const (.string (ByteArray.mk #[47]))) (v := .string (ByteArray.mk #[47])) rfl]) (v := .agg #[.int .i64 6, .string (ByteArray.mk #[47]), .string (ByteArray.mk #[]), .int .i64 0, .int .i64 0, .bool false]) (by kernel_rfl)) ?_
 clear a E;intro a E
 obtain ⟨u26, hx27, hm⟩ := bnd hm
 refine st_call E (wn rfl) rfl rfl (x_call E rfl rfl (cf14 _)) (c_nodes_Apply v14 u12.1 (⟨6, (ByteArray.mk #[47]), (ByteArray.mk #[]), 0, 0, false⟩ : S_api_Op) H (.tail _ (.tail _ (.head _))) (.tail _ (.tail _ (.tail _ (.tail _ (.tail _ (.tail _ (.tail _ hr1))))))) hx27) ?_
 clear E H; clear a; clear w; rintro _ w ⟨v28, v29, rfl, H⟩ a E
 refine sv E rfl rfl rfl (x_move E rfl rfl) ?_
 clear a E;intro a E
 refine sv E rfl rfl rfl (x_ext E rfl rfl rfl) ?_
 clear a E;intro a E
 refine sv E rfl rfl rfl (x_ext E rfl rfl rfl) ?_
 clear a E;intro a E
 refine st_alloc E H (wn rfl) rfl rfl (cs := [.int .i64 0, .string (ByteArray.mk #[]), .string (ByteArray.mk #[]), .int .i64 0, .slice none 0 0]) rfl (z := .agg #[.int .i64 0, .string ⟨#[]⟩, .string ⟨#[]⟩, .int .i64 0, .slice none 0 0]) (by kernel_rfl) rfl ?_
 clear E H; clear a; clear w; intro p30 w a H E
 refine sv E rfl rfl rfl (x_assign E rfl rfl) ?_
 clear a E;intro a E
 obtain ⟨q31, x32, rfl⟩ := H.slform (.tail _ (.head _))
 refine st_st (i := 0) E H (wn rfl) rfl (us := [.int .i64 u26.2.Err, .string u26.2.Path, .string u26.2.Data, .int .i64 u26.2.Version, (.slice q31 u26.2.Names.length x32)]) rfl rfl rfl rfl rfl sz31 rfl rfl ?_
 clear H; clear w; intro w H
 replace H : Sep w (Blk p30 31 [.int .i64 u26.2.Err, .string u26.2.Path, .string u26.2.Data, .int .i64 u26.2.Version, (.slice q31 u26.2.Names.length x32)] :: Blk p23 31 [.int .i64 u19.2.Err, .string u19.2.Path, .string u19.2.Data, .int .i64 u19.2.Version, (.slice q24 u19.2.Names.length x25)] :: Blk p16 31 [.int .i64 u12.2.Err, .string u12.2.Path, .string u12.2.Data, .int .i64 u12.2.Version, (.slice q17 u12.2.Names.length x18)] :: Blk p9 31 [.int .i64 u5.2.Err, .string u5.2.Path, .string u5.2.Data, .int .i64 u5.2.Version, (.slice q10 u5.2.Names.length x11)] :: Fo) _ := H
 refine wpList_nil ?_
 refine q_then ?_
 refine wp_seq ?_
 refine wp_region_lit ?_
 refine sv E rfl rfl rfl (x_build E (ps := []) (vs := []) rfl rfl (v := .agg #[.int .i64 0, .string (ByteArray.mk #[]), .string (ByteArray.mk #[]), .int .i64 0, .int .i64 0, .bool false]) (by kernel_rfl)) ?_
 clear a E;intro a E
 replace H := H.nilSl k_api_Node
 replace H : Sep w (Blk p30 31 [.int .i64 u26.2.Err, .string u26.2.Path, .string u26.2.Data, .int .i64 u26.2.Version, (.slice q31 u26.2.Names.length x32)] :: Blk p23 31 [.int .i64 u19.2.Err, .string u19.2.Path, .string u19.2.Data, .int .i64 u19.2.Version, (.slice q24 u19.2.Names.length x25)] :: Blk p16 31 [.int .i64 u12.2.Err, .string u12.2.Path, .string u12.2.Data, .int .i64 u12.2.Version, (.slice q17 u12.2.Names.length x18)] :: Blk p9 31 [.int .i64 u5.2.Err, .string u5.2.Path, .string u5.2.Data, .int .i64 u5.2.Version, (.slice q10 u5.2.Names.length x11)] :: Fo) (rSl k_api_Node (.slice none 0 0) ([] : List S_api_Node) :: rSl k_api_Node v28 u26.1 :: rSl kS (.slice q31 u26.2.Names.length x32) u26.2.Names :: rSl k_api_Node v21 u19.1 :: rSl kS (.slice q24 u19.2.Names.length x25) u19.2.Names :: rSl k_api_Node v14 u12.1 :: rSl kS (.slice q17 u12.2.Names.length x18) u12.2.Names :: rSl k_api_Node v7 u5.1 :: rSl kS (.slice q10 u5.2.Names.length x11) u5.2.Names :: rSl k_api_Node v4 u2 :: rs) := H
 obtain ⟨u33, hx34, hm⟩ := bnd hm
 refine st_call E (wn rfl) rfl rfl (x_call E rfl rfl (cf14 _)) (c_nodes_Apply (.slice none 0 0) ([] : List S_api_Node) (⟨0, (ByteArray.mk #[]), (ByteArray.mk #[]), 0, 0, false⟩ : S_api_Op) H (.head _) (.tail _ (.tail _ (.tail _ (.tail _ (.tail _ (.tail _ (.tail _ (.tail _ (.tail _ (.tail _ hr1)))))))))) hx34) ?_
 clear E H; clear a; clear w; rintro _ w ⟨v35, v36, rfl, H⟩ a E
 refine sv E rfl rfl rfl (x_move E rfl rfl) ?_
 clear a E;intro a E
 refine sv E rfl rfl rfl (x_ext E rfl rfl rfl) ?_
 clear a E;intro a E
 refine sv E rfl rfl rfl (x_ext E rfl rfl rfl) ?_
 clear a E;intro a E
 refine st_alloc E H (wn rfl) rfl rfl (cs := [.int .i64 0, .string (ByteArray.mk #[]), .string (ByteArray.mk #[]), .int .i64 0, .slice none 0 0]) rfl (z := .agg #[.int .i64 0, .string ⟨#[]⟩, .string ⟨#[]⟩, .int .i64 0, .slice none 0 0]) (by kernel_rfl) rfl ?_
 clear E H; clear a; clear w; intro p37 w a H E
 refine sv E rfl rfl rfl (x_assign E rfl rfl) ?_
 clear a E;intro a E
 obtain ⟨q38, x39, rfl⟩ := H.slform (.tail _ (.head _))
 refine st_st (i := 0) E H (wn rfl) rfl (us := [.int .i64 u33.2.Err, .string u33.2.Path, .string u33.2.Data, .int .i64 u33.2.Version, (.slice q38 u33.2.Names.length x39)]) rfl rfl rfl rfl rfl sz31 rfl rfl ?_
 clear H; clear w; intro w H
 replace H : Sep w (Blk p37 31 [.int .i64 u33.2.Err, .string u33.2.Path, .string u33.2.Data, .int .i64 u33.2.Version, (.slice q38 u33.2.Names.length x39)] :: Blk p30 31 [.int .i64 u26.2.Err, .string u26.2.Path, .string u26.2.Data, .int .i64 u26.2.Version, (.slice q31 u26.2.Names.length x32)] :: Blk p23 31 [.int .i64 u19.2.Err, .string u19.2.Path, .string u19.2.Data, .int .i64 u19.2.Version, (.slice q24 u19.2.Names.length x25)] :: Blk p16 31 [.int .i64 u12.2.Err, .string u12.2.Path, .string u12.2.Data, .int .i64 u12.2.Version, (.slice q17 u12.2.Names.length x18)] :: Blk p9 31 [.int .i64 u5.2.Err, .string u5.2.Path, .string u5.2.Data, .int .i64 u5.2.Version, (.slice q10 u5.2.Names.length x11)] :: Fo) _ := H
 refine wpList_nil ?_
 refine q_then ?_
 refine wp_seq ?_
 refine wp_region_lit ?_
 refine sv E rfl rfl rfl (x_move E rfl rfl) ?_
 clear a E;intro a E
 obtain ⟨u40, hx41, hm⟩ := bnd hm
 refine st_call E (wn rfl) rfl rfl (x_call E rfl rfl (cf21 _)) (c_nodes_Find v14 u12.1 (ByteArray.mk #[47, 113, 48, 48, 48, 48]) H (.tail _ (.tail _ (.tail _ (.tail _ (.tail _ (.tail _ (.tail _ (.head _)))))))) hx41) ?_
 clear E H; clear a; clear w; rintro _ w ⟨rfl, H⟩ a E
 refine sv E rfl rfl rfl (x_move E rfl rfl) ?_
 clear a E;intro a E
 refine sv E rfl rfl rfl (x_ext E rfl rfl rfl) ?_
 clear a E;intro a E
 refine sv E rfl rfl rfl (x_ext E rfl rfl rfl) ?_
 clear a E;intro a E
 refine st_alloc E H (wn rfl) rfl rfl (cs := [.string (ByteArray.mk #[]), .string (ByteArray.mk #[]), .int .i64 0, .int .i64 0, .int .i64 0]) rfl (z := .agg #[.string ⟨#[]⟩, .string ⟨#[]⟩, .int .i64 0, .int .i64 0, .int .i64 0]) (by kernel_rfl) rfl ?_
 clear E H; clear a; clear w; intro p42 w a H E
 refine st_st (i := 0) E H (wn rfl) rfl (us := [.string u40.1.Path, .string u40.1.Data, .int .i64 u40.1.Version, .int .i64 u40.1.Turn, .int .i64 u40.1.Owner]) rfl rfl rfl rfl rfl sz39 rfl rfl ?_
 clear H; clear w; intro w H
 replace H : Sep w (Blk p42 39 [.string u40.1.Path, .string u40.1.Data, .int .i64 u40.1.Version, .int .i64 u40.1.Turn, .int .i64 u40.1.Owner] :: Blk p37 31 [.int .i64 u33.2.Err, .string u33.2.Path, .string u33.2.Data, .int .i64 u33.2.Version, (.slice q38 u33.2.Names.length x39)] :: Blk p30 31 [.int .i64 u26.2.Err, .string u26.2.Path, .string u26.2.Data, .int .i64 u26.2.Version, (.slice q31 u26.2.Names.length x32)] :: Blk p23 31 [.int .i64 u19.2.Err, .string u19.2.Path, .string u19.2.Data, .int .i64 u19.2.Version, (.slice q24 u19.2.Names.length x25)] :: Blk p16 31 [.int .i64 u12.2.Err, .string u12.2.Path, .string u12.2.Data, .int .i64 u12.2.Version, (.slice q17 u12.2.Names.length x18)] :: Blk p9 31 [.int .i64 u5.2.Err, .string u5.2.Path, .string u5.2.Data, .int .i64 u5.2.Version, (.slice q10 u5.2.Names.length x11)] :: Fo) _ := H
 refine sv E rfl rfl rfl (x_assign E rfl rfl) ?_
 clear a E;intro a E
 refine wpList_nil ?_
 refine q_then ?_
 refine wp_seq ?_
 refine wp_region_lit ?_
 refine sv E rfl rfl rfl (x_move E rfl rfl) ?_
 clear a E;intro a E
 refine sv E rfl rfl rfl (x_lenS E H rfl rfl (.tail _ (.tail _ (.tail _ (.tail _ (.tail _ (.tail _ (.tail _ (.tail _ (.tail _ (.tail _ (.tail _ (.head _)))))))))))) Tryd.underlying22) ?_
 clear a E;intro a E
 refine sv E rfl rfl rfl (x_bin E rfl rfl rfl rfl) ?_
 clear a E;intro a E
 refine sv E rfl rfl rfl (x_move E rfl rfl) ?_
 clear a E;intro a E
 rcases Bool.eq_false_or_eq_true ((u2.length : Int) == 1) with hb43 | hb43
 ·rw [if_t hb43] at hm
  refine st_val E (ws' E rfl rfl rfl rfl hb43) rfl rfl (x_fa E rfl rfl (v := .pointer (some ⟨p9, 1, none⟩)) (fa31_1 _ _)) ?_
  clear a E;intro a E
  refine st_val E (ws' E rfl rfl rfl rfl hb43) rfl rfl (x_ldB (i := 5) E H rfl rfl rfl rfl Tryd.underlying9 rfl) ?_
  clear a E;intro a E
  refine st_val E (ws' E rfl rfl rfl rfl hb43) rfl rfl (x_str E rfl rfl rfl rfl) ?_
  clear a E;intro a E
  refine sv E rfl rfl rfl (x_pickT E rfl rfl hb43 rfl) ?_
  clear a E;intro a E
  refine sv E rfl rfl rfl (x_move E rfl rfl) ?_
  clear a E;intro a E
  rcases Bool.eq_false_or_eq_true (sEq u5.2.Path (ByteArray.mk #[47, 113, 48, 48, 48, 48])) with hb44 | hb44
  ·rw [if_t hb44] at hm
   refine st_val E (ws' E rfl rfl rfl rfl hb44) rfl rfl (x_fa E rfl rfl (v := .pointer (some ⟨p9, 0, none⟩)) (fa31_0 _ _)) ?_
   clear a E;intro a E
   refine st_val E (ws' E rfl rfl rfl rfl hb44) rfl rfl (x_ldB (i := 5) E H rfl rfl rfl rfl Tryd.underlying28 rfl) ?_
   clear a E;intro a E
   refine st_val E (ws' E rfl rfl rfl rfl hb44) rfl rfl (x_bin E rfl rfl rfl rfl) ?_
   clear a E;intro a E
   refine sv E rfl rfl rfl (x_pickT E rfl rfl hb44 rfl) ?_
   clear a E;intro a E
   refine sv E rfl rfl rfl (x_move E rfl rfl) ?_
   clear a E;intro a E
   rcases Bool.eq_false_or_eq_true (u5.2.Err == 0) with hb45 | hb45
   ·rw [if_t hb45] at hm
    refine st_val E (ws' E rfl rfl rfl rfl hb45) rfl rfl (x_move E rfl rfl) ?_
    clear a E;intro a E
    refine st_val E (ws' E rfl rfl rfl rfl hb45) rfl rfl (x_lenS E H rfl rfl (.tail _ (.tail _ (.tail _ (.tail _ (.tail _ (.tail _ (.tail _ (.tail _ (.tail _ (.head _)))))))))) Tryd.underlying22) ?_
    clear a E;intro a E
    refine st_val E (ws' E rfl rfl rfl rfl hb45) rfl rfl (x_bin E rfl rfl rfl rfl) ?_
    clear a E;intro a E
    refine sv E rfl rfl rfl (x_pickT E rfl rfl hb45 rfl) ?_
    clear a E;intro a E
    refine sv E rfl rfl rfl (x_move E rfl rfl) ?_
    clear a E;intro a E
    rcases Bool.eq_false_or_eq_true ((u5.1.length : Int) == 2) with hb46 | hb46
    ·rw [if_t hb46] at hm
     refine st_val E (ws' E rfl rfl rfl rfl hb46) rfl rfl (x_move E rfl rfl) ?_
     clear a E;intro a E
     obtain ⟨x47, hx48, hm⟩ := bnd hm
     refine st_ixS E H (ws' E rfl rfl rfl rfl hb46) rfl rfl rfl rfl rfl (.tail _ (.tail _ (.tail _ (.tail _ (.tail _ (.tail _ (.tail _ (.tail _ (.tail _ (.head _)))))))))) Tryd.underlying22 sz39 hx48 ?_
     clear E H; clear a; intro q49 a H E
     replace H := H.derive1 (.head _) (rAt (kI .i64) (q49.add 3) x47.Turn) (fun ok h => k_api_Node_at3 h)
     refine st_val E (ws' E rfl rfl rfl rfl hb46) rfl rfl (x_fa E rfl rfl (fa39_3 _ _)) ?_
     clear a E;intro a E
     refine st_val E (ws' E rfl rfl rfl rfl hb46) rfl rfl (x_ldA E H rfl rfl (.head _) Tryd.underlying2 rfl) ?_
     clear a E;intro a E
     refine st_val E (ws' E rfl rfl rfl rfl hb46) rfl rfl (x_bin E rfl rfl rfl rfl) ?_
     clear a E;intro a E
     refine sv E rfl rfl rfl (x_pickT E rfl rfl hb46 rfl) ?_
     clear a E;intro a E
     refine sv E rfl rfl rfl (x_move E rfl rfl) ?_
     clear a E;intro a E
     rcases Bool.eq_false_or_eq_true (x47.Turn == 1) with hb50 | hb50
     ·rw [if_t hb50] at hm
      refine st_val E (ws' E rfl rfl rfl rfl hb50) rfl rfl (x_fa E rfl rfl (v := .pointer (some ⟨p16, 3, none⟩)) (fa31_3 _ _)) ?_
      clear a E;intro a E
      refine st_val E (ws' E rfl rfl rfl rfl hb50) rfl rfl (x_ldB (i := 4) E H rfl rfl rfl rfl Tryd.underlying2 rfl) ?_
      clear a E;intro a E
      refine st_val E (ws' E rfl rfl rfl rfl hb50) rfl rfl (x_bin E rfl rfl rfl rfl) ?_
      clear a E;intro a E
      refine sv E rfl rfl rfl (x_pickT E rfl rfl hb50 rfl) ?_
      clear a E;intro a E
      refine sv E rfl rfl rfl (x_move E rfl rfl) ?_
      clear a E;intro a E
      rcases Bool.eq_false_or_eq_true (u12.2.Version == 1) with hb51 | hb51
      ·rw [if_t hb51] at hm
       refine st_val E (ws' E rfl rfl rfl rfl hb51) rfl rfl (x_fa E rfl rfl (v := .pointer (some ⟨p23, 0, none⟩)) (fa31_0 _ _)) ?_
       clear a E;intro a E
       refine st_val E (ws' E rfl rfl rfl rfl hb51) rfl rfl (x_ldB (i := 3) E H rfl rfl rfl rfl Tryd.underlying28 rfl) ?_
       clear a E;intro a E
       refine st_val E (ws' E rfl rfl rfl rfl hb51) rfl rfl (x_bin E rfl rfl rfl rfl) ?_
       clear a E;intro a E
       refine sv E rfl rfl rfl (x_pickT E rfl rfl hb51 rfl) ?_
       clear a E;intro a E
       refine sv E rfl rfl rfl (x_move E rfl rfl) ?_
       clear a E;intro a E
       rcases Bool.eq_false_or_eq_true (u19.2.Err == 63) with hb52 | hb52
       ·rw [if_t hb52] at hm
        refine st_val E (ws' E rfl rfl rfl rfl hb52) rfl rfl (x_fa E rfl rfl (v := .pointer (some ⟨p30, 4, none⟩)) (fa31_4 _ _)) ?_
        clear a E;intro a E
        refine st_val E (ws' E rfl rfl rfl rfl hb52) rfl rfl (x_ldB (i := 2) E H rfl rfl rfl rfl Tryd.underlying29 rfl) ?_
        clear a E;intro a E
        refine st_val E (ws' E rfl rfl rfl rfl hb52) rfl rfl (x_lenS E H rfl rfl (.tail _ (.tail _ (.tail _ (.tail _ (.tail _ (.tail _ (.head _))))))) Tryd.underlying29) ?_
        clear a E;intro a E
        refine st_val E (ws' E rfl rfl rfl rfl hb52) rfl rfl (x_bin E rfl rfl rfl rfl) ?_
        clear a E;intro a E
        refine sv E rfl rfl rfl (x_pickT E rfl rfl hb52 rfl) ?_
        clear a E;intro a E
        refine sv E rfl rfl rfl (x_move E rfl rfl) ?_
        clear a E;intro a E
        rcases Bool.eq_false_or_eq_true ((u26.2.Names.length : Int) == 1) with hb53 | hb53
        ·rw [if_t hb53] at hm
         refine st_val E (ws' E rfl rfl rfl rfl hb53) rfl rfl (x_fa E rfl rfl (v := .pointer (some ⟨p37, 0, none⟩)) (fa31_0 _ _)) ?_
         clear a E;intro a E
         refine st_val E (ws' E rfl rfl rfl rfl hb53) rfl rfl (x_ldB (i := 1) E H rfl rfl rfl rfl Tryd.underlying28 rfl) ?_
         clear a E;intro a E
         refine st_val E (ws' E rfl rfl rfl rfl hb53) rfl rfl (x_bin E rfl rfl rfl rfl) ?_
         clear a E;intro a E
         refine sv E rfl rfl rfl (x_pickT E rfl rfl hb53 rfl) ?_
         clear a E;intro a E
         refine sv E rfl rfl rfl (x_move E rfl rfl) ?_
         clear a E;intro a E
         rcases Bool.eq_false_or_eq_true (u33.2.Err == 1) with hb54 | hb54
         ·rw [if_t hb54] at hm
          refine st_val E (ws' E rfl rfl rfl rfl hb54) rfl rfl (x_move E rfl rfl) ?_
          clear a E;intro a E
          refine sv E rfl rfl rfl (x_pickT E rfl rfl hb54 rfl) ?_
          clear a E;intro a E
          refine sv E rfl rfl rfl (x_move E rfl rfl) ?_
          clear a E;intro a E
          rcases Bool.eq_false_or_eq_true u40.2 with hb55 | hb55
          ·rw [if_t hb55] at hm
           refine st_val E (ws' E rfl rfl rfl rfl hb55) rfl rfl (x_fa E rfl rfl (v := .pointer (some ⟨p42, 1, none⟩)) (fa39_1 _ _)) ?_
           clear a E;intro a E
           refine st_val E (ws' E rfl rfl rfl rfl hb55) rfl rfl (x_ldB (i := 0) E H rfl rfl rfl rfl Tryd.underlying9 rfl) ?_
           clear a E;intro a E
           refine st_val E (ws' E rfl rfl rfl rfl hb55) rfl rfl (x_str E rfl rfl rfl rfl) ?_
           clear a E;intro a E
           refine sv E rfl rfl rfl (x_pickT E rfl rfl hb55 rfl) ?_
           clear a E;intro a E
           refine sv E rfl rfl rfl (x_move E rfl rfl) ?_
           clear a E;intro a E
           rcases Bool.eq_false_or_eq_true (sEq u40.1.Data (ByteArray.mk #[120])) with hb56 | hb56
           ·rw [if_t hb56] at hm
            refine st_val E (ws' E rfl rfl rfl rfl hb56) rfl rfl (x_move E rfl rfl) ?_
            clear a E;intro a E
            obtain ⟨u57, hx58, hm⟩ := bnd hm
            refine st_call E (ws' E rfl rfl rfl rfl hb56) rfl rfl (x_call E rfl rfl (cf25 _)) (c_nodes_Right v14 u12.1 H (.tail _ (.tail _ (.tail _ (.tail _ (.tail _ (.tail _ (.tail _ (.tail _ (.tail _ (.head _)))))))))) hx58) ?_
            clear E H; clear a; clear w; rintro _ w ⟨rfl, H⟩ a E
            refine sv E rfl rfl rfl (x_pickT E rfl rfl hb56 rfl) ?_
            clear a E;intro a E
            refine sv E rfl rfl rfl (x_move E rfl rfl) ?_
            clear a E;intro a E
            rcases Bool.eq_false_or_eq_true u57 with hb59 | hb59
            ·rw [if_t hb59] at hm
             refine st_val E (ws' E rfl rfl rfl rfl hb59) rfl rfl (x_build E (ps := []) (vs := []) rfl rfl (v := .agg #[.int .i64 0, .string (ByteArray.mk #[]), .string (ByteArray.mk #[]), .int .i64 0, .int .i64 0, .bool false]) (by kernel_rfl)) ?_
             clear a E;intro a E
             obtain ⟨u60, hx61, hm⟩ := bnd hm
             refine st_call E (ws' E rfl rfl rfl rfl hb59) rfl rfl (x_call E rfl rfl (cf26 _)) (c_nodes_May (⟨0, (ByteArray.mk #[]), (ByteArray.mk #[]), 0, 0, false⟩ : S_api_Op) H hx61) ?_
             clear E H; clear a; clear w; rintro _ w ⟨rfl, H⟩ a E
             refine st_val E (ws' E rfl rfl rfl rfl hb59) rfl rfl (x_not E rfl rfl) ?_
             clear a E;intro a E
             refine sv E rfl rfl rfl (x_pickT E rfl rfl hb59 rfl) ?_
             clear a E;intro a E
             refine sv E rfl rfl rfl (x_assign E rfl rfl) ?_
             clear a E;intro a E
             refine wpList_nil ?_
             refine q_then ?_
             refine wp_ret ?_
             refine out1 E rfl rfl ?_
             replace H := H.drop 0
             replace H := H.drop 0
             replace H := H.drop 0
             replace H := H.drop 0
             replace H := H.drop 0
             replace H := H.drop 0
             obtain rfl := Option.some.inj hm
             exact ⟨rfl, H.reads (fun r hr => .tail _ (.tail _ (.tail _ (.tail _ (.tail _ (.tail _ (.tail _ (.tail _ (.tail _ (.tail _ (.tail _ (.tail _ (.tail _ (.tail _ (hr)))))))))))))))⟩
            ·rw [if_f hb59] at hm
             refine st_no E (wf' E rfl rfl rfl rfl hb59 rfl) rfl rfl ?_
             clear a E;intro a E
             refine st_no E (wf' E rfl rfl rfl rfl hb59 rfl) rfl rfl ?_
             clear a E;intro a E
             refine st_no E (wf' E rfl rfl rfl rfl hb59 rfl) rfl rfl ?_
             clear a E;intro a E
             refine sv E rfl rfl rfl (x_pickF E rfl rfl hb59 rfl) ?_
             clear a E;intro a E
             refine sv E rfl rfl rfl (x_assign E rfl rfl) ?_
             clear a E;intro a E
             refine wpList_nil ?_
             refine q_then ?_
             refine wp_ret ?_
             refine out1 E rfl rfl ?_
             replace H := H.drop 0
             replace H := H.drop 0
             replace H := H.drop 0
             replace H := H.drop 0
             replace H := H.drop 0
             replace H := H.drop 0
             obtain rfl := Option.some.inj hm
             exact ⟨rfl, H.reads (fun r hr => .tail _ (.tail _ (.tail _ (.tail _ (.tail _ (.tail _ (.tail _ (.tail _ (.tail _ (.tail _ (.tail _ (.tail _ (.tail _ (.tail _ (hr)))))))))))))))⟩
           ·rw [if_f hb56] at hm
            refine st_no E (wf' E rfl rfl rfl rfl hb56 rfl) rfl rfl ?_
            clear a E;intro a E
            refine st_no E (wf' E rfl rfl rfl rfl hb56 rfl) rfl rfl ?_
            clear a E;intro a E
            refine sv E rfl rfl rfl (x_pickF E rfl rfl hb56 rfl) ?_
            clear a E;intro a E
            refine sv E rfl rfl rfl (x_move E rfl rfl) ?_
            clear a E;intro a E
            refine st_no E (wf E rfl rfl rfl rfl rfl) rfl rfl ?_
            clear a E;intro a E
            refine st_no E (wf E rfl rfl rfl rfl rfl) rfl rfl ?_
            clear a E;intro a E
            refine st_no E (wf E rfl rfl rfl rfl rfl) rfl rfl ?_
            clear a E;intro a E
            refine sv E rfl rfl rfl (x_pickF E rfl rfl rfl rfl) ?_
            clear a E;intro a E
            refine sv E rfl rfl rfl (x_assign E rfl rfl) ?_
            clear a E;intro a E
            refine wpList_nil ?_
            refine q_then ?_
            refine wp_ret ?_
            refine out1 E rfl rfl ?_
            replace H := H.drop 0
            replace H := H.drop 0
            replace H := H.drop 0
            replace H := H.drop 0
            replace H := H.drop 0
            replace H := H.drop 0
            obtain rfl := Option.some.inj hm
            exact ⟨rfl, H.reads (fun r hr => .tail _ (.tail _ (.tail _ (.tail _ (.tail _ (.tail _ (.tail _ (.tail _ (.tail _ (.tail _ (.tail _ (.tail _ (.tail _ (.tail _ (hr)))))))))))))))⟩
          ·rw [if_f hb55] at hm
           refine st_no E (wf' E rfl rfl rfl rfl hb55 rfl) rfl rfl ?_
           clear a E;intro a E
           refine st_no E (wf' E rfl rfl rfl rfl hb55 rfl) rfl rfl ?_
           clear a E;intro a E
           refine st_no E (wf' E rfl rfl rfl rfl hb55 rfl) rfl rfl ?_
           clear a E;intro a E
           refine sv E rfl rfl rfl (x_pickF E rfl rfl hb55 rfl) ?_
           clear a E;intro a E
           refine sv E rfl rfl rfl (x_move E rfl rfl) ?_
           clear a E;intro a E
           refine st_no E (wf E rfl rfl rfl rfl rfl) rfl rfl ?_
           clear a E;intro a E
           refine st_no E (wf E rfl rfl rfl rfl rfl) rfl rfl ?_
           clear a E;intro a E
           refine sv E rfl rfl rfl (x_pickF E rfl rfl rfl rfl) ?_
           clear a E;intro a E
           refine sv E rfl rfl rfl (x_move E rfl rfl) ?_
           clear a E;intro a E
           refine st_no E (wf E rfl rfl rfl rfl rfl) rfl rfl ?_
           clear a E;intro a E
           refine st_no E (wf E rfl rfl rfl rfl rfl) rfl rfl ?_
           clear a E;intro a E
           refine st_no E (wf E rfl rfl rfl rfl rfl) rfl rfl ?_
           clear a E;intro a E
           refine sv E rfl rfl rfl (x_pickF E rfl rfl rfl rfl) ?_
           clear a E;intro a E
           refine sv E rfl rfl rfl (x_assign E rfl rfl) ?_
           clear a E;intro a E
           refine wpList_nil ?_
           refine q_then ?_
           refine wp_ret ?_
           refine out1 E rfl rfl ?_
           replace H := H.drop 0
           replace H := H.drop 0
           replace H := H.drop 0
           replace H := H.drop 0
           replace H := H.drop 0
           replace H := H.drop 0
           obtain rfl := Option.some.inj hm
           exact ⟨rfl, H.reads (fun r hr => .tail _ (.tail _ (.tail _ (.tail _ (.tail _ (.tail _ (.tail _ (.tail _ (.tail _ (.tail _ (.tail _ (.tail _ (.tail _ (.tail _ (hr)))))))))))))))⟩
         ·rw [if_f hb54] at hm
          refine st_no E (wf' E rfl rfl rfl rfl hb54 rfl) rfl rfl ?_
          clear a E;intro a E
          refine sv E rfl rfl rfl (x_pickF E rfl rfl hb54 rfl) ?_
          clear a E;intro a E
          refine sv E rfl rfl rfl (x_move E rfl rfl) ?_
          clear a E;intro a E
          refine st_no E (wf E rfl rfl rfl rfl rfl) rfl rfl ?_
          clear a E;intro a E
          refine st_no E (wf E rfl rfl rfl rfl rfl) rfl rfl ?_
          clear a E;intro a E
          refine st_no E (wf E rfl rfl rfl rfl rfl) rfl rfl ?_
          clear a E;intro a E
          refine sv E rfl rfl rfl (x_pickF E rfl rfl rfl rfl) ?_
          clear a E;intro a E
          refine sv E rfl rfl rfl (x_move E rfl rfl) ?_
          clear a E;intro a E
          refine st_no E (wf E rfl rfl rfl rfl rfl) rfl rfl ?_
          clear a E;intro a E
          refine st_no E (wf E rfl rfl rfl rfl rfl) rfl rfl ?_
          clear a E;intro a E
          refine sv E rfl rfl rfl (x_pickF E rfl rfl rfl rfl) ?_
          clear a E;intro a E
          refine sv E rfl rfl rfl (x_move E rfl rfl) ?_
          clear a E;intro a E
          refine st_no E (wf E rfl rfl rfl rfl rfl) rfl rfl ?_
          clear a E;intro a E
          refine st_no E (wf E rfl rfl rfl rfl rfl) rfl rfl ?_
          clear a E;intro a E
          refine st_no E (wf E rfl rfl rfl rfl rfl) rfl rfl ?_
          clear a E;intro a E
          refine sv E rfl rfl rfl (x_pickF E rfl rfl rfl rfl) ?_
          clear a E;intro a E
          refine sv E rfl rfl rfl (x_assign E rfl rfl) ?_
          clear a E;intro a E
          refine wpList_nil ?_
          refine q_then ?_
          refine wp_ret ?_
          refine out1 E rfl rfl ?_
          replace H := H.drop 0
          replace H := H.drop 0
          replace H := H.drop 0
          replace H := H.drop 0
          replace H := H.drop 0
          replace H := H.drop 0
          obtain rfl := Option.some.inj hm
          exact ⟨rfl, H.reads (fun r hr => .tail _ (.tail _ (.tail _ (.tail _ (.tail _ (.tail _ (.tail _ (.tail _ (.tail _ (.tail _ (.tail _ (.tail _ (.tail _ (.tail _ (hr)))))))))))))))⟩
        ·rw [if_f hb53] at hm
         refine st_no E (wf' E rfl rfl rfl rfl hb53 rfl) rfl rfl ?_
         clear a E;intro a E
         refine st_no E (wf' E rfl rfl rfl rfl hb53 rfl) rfl rfl ?_
         clear a E;intro a E
         refine st_no E (wf' E rfl rfl rfl rfl hb53 rfl) rfl rfl ?_
         clear a E;intro a E
         refine sv E rfl rfl rfl (x_pickF E rfl rfl hb53 rfl) ?_
         clear a E;intro a E
         refine sv E rfl rfl rfl (x_move E rfl rfl) ?_
         clear a E;intro a E
         refine st_no E (wf E rfl rfl rfl rfl rfl) rfl rfl ?_
         clear a E;intro a E
         refine sv E rfl rfl rfl (x_pickF E rfl rfl rfl rfl) ?_
         clear a E;intro a E
         refine sv E rfl rfl rfl (x_move E rfl rfl) ?_
         clear a E;intro a E
         refine st_no E (wf E rfl rfl rfl rfl rfl) rfl rfl ?_
         clear a E;intro a E
         refine st_no E (wf E rfl rfl rfl rfl rfl) rfl rfl ?_
         clear a E;intro a E
         refine st_no E (wf E rfl rfl rfl rfl rfl) rfl rfl ?_
         clear a E;intro a E
         refine sv E rfl rfl rfl (x_pickF E rfl rfl rfl rfl) ?_
         clear a E;intro a E
         refine sv E rfl rfl rfl (x_move E rfl rfl) ?_
         clear a E;intro a E
         refine st_no E (wf E rfl rfl rfl rfl rfl) rfl rfl ?_
         clear a E;intro a E
         refine st_no E (wf E rfl rfl rfl rfl rfl) rfl rfl ?_
         clear a E;intro a E
         refine sv E rfl rfl rfl (x_pickF E rfl rfl rfl rfl) ?_
         clear a E;intro a E
         refine sv E rfl rfl rfl (x_move E rfl rfl) ?_
         clear a E;intro a E
         refine st_no E (wf E rfl rfl rfl rfl rfl) rfl rfl ?_
         clear a E;intro a E
         refine st_no E (wf E rfl rfl rfl rfl rfl) rfl rfl ?_
         clear a E;intro a E
         refine st_no E (wf E rfl rfl rfl rfl rfl) rfl rfl ?_
         clear a E;intro a E
         refine sv E rfl rfl rfl (x_pickF E rfl rfl rfl rfl) ?_
         clear a E;intro a E
         refine sv E rfl rfl rfl (x_assign E rfl rfl) ?_
         clear a E;intro a E
         refine wpList_nil ?_
         refine q_then ?_
         refine wp_ret ?_
         refine out1 E rfl rfl ?_
         replace H := H.drop 0
         replace H := H.drop 0
         replace H := H.drop 0
         replace H := H.drop 0
         replace H := H.drop 0
         replace H := H.drop 0
         obtain rfl := Option.some.inj hm
         exact ⟨rfl, H.reads (fun r hr => .tail _ (.tail _ (.tail _ (.tail _ (.tail _ (.tail _ (.tail _ (.tail _ (.tail _ (.tail _ (.tail _ (.tail _ (.tail _ (.tail _ (hr)))))))))))))))⟩
       ·rw [if_f hb52] at hm
        refine st_no E (wf' E rfl rfl rfl rfl hb52 rfl) rfl rfl ?_
        clear a E;intro a E
        refine st_no E (wf' E rfl rfl rfl rfl hb52 rfl) rfl rfl ?_
        clear a E;intro a E
        refine st_no E (wf' E rfl rfl rfl rfl hb52 rfl) rfl rfl ?_
        clear a E;intro a E
        refine st_no E (wf' E rfl rfl rfl rfl hb52 rfl) rfl rfl ?_
        clear a E;intro a E
        refine sv E rfl rfl rfl (x_pickF E rfl rfl hb52 rfl) ?_
        clear a E;intro a E
        refine sv E rfl rfl rfl (x_move E rfl rfl) ?_
        clear a E;intro a E
        refine st_no E (wf E rfl rfl rfl rfl rfl) rfl rfl ?_
        clear a E;intro a E
        refine st_no E (wf E rfl rfl rfl rfl rfl) rfl rfl ?_
        clear a E;intro a E
        refine st_no E (wf E rfl rfl rfl rfl rfl) rfl rfl ?_
        clear a E;intro a E
        refine sv E rfl rfl rfl (x_pickF E rfl rfl rfl rfl) ?_
        clear a E;intro a E
        refine sv E rfl rfl rfl (x_move E rfl rfl) ?_
        clear a E;intro a E
        refine st_no E (wf E rfl rfl rfl rfl rfl) rfl rfl ?_
        clear a E;intro a E
        refine sv E rfl rfl rfl (x_pickF E rfl rfl rfl rfl) ?_
        clear a E;intro a E
        refine sv E rfl rfl rfl (x_move E rfl rfl) ?_
        clear a E;intro a E
        refine st_no E (wf E rfl rfl rfl rfl rfl) rfl rfl ?_
        clear a E;intro a E
        refine st_no E (wf E rfl rfl rfl rfl rfl) rfl rfl ?_
        clear a E;intro a E
        refine st_no E (wf E rfl rfl rfl rfl rfl) rfl rfl ?_
        clear a E;intro a E
        refine sv E rfl rfl rfl (x_pickF E rfl rfl rfl rfl) ?_
        clear a E;intro a E
        refine sv E rfl rfl rfl (x_move E rfl rfl) ?_
        clear a E;intro a E
        refine st_no E (wf E rfl rfl rfl rfl rfl) rfl rfl ?_
        clear a E;intro a E
        refine st_no E (wf E rfl rfl rfl rfl rfl) rfl rfl ?_
        clear a E;intro a E
        refine sv E rfl rfl rfl (x_pickF E rfl rfl rfl rfl) ?_
        clear a E;intro a E
        refine sv E rfl rfl rfl (x_move E rfl rfl) ?_
        clear a E;intro a E
        refine st_no E (wf E rfl rfl rfl rfl rfl) rfl rfl ?_
        clear a E;intro a E
        refine st_no E (wf E rfl rfl rfl rfl rfl) rfl rfl ?_
        clear a E;intro a E
        refine st_no E (wf E rfl rfl rfl rfl rfl) rfl rfl ?_
        clear a E;intro a E
        refine sv E rfl rfl rfl (x_pickF E rfl rfl rfl rfl) ?_
        clear a E;intro a E
        refine sv E rfl rfl rfl (x_assign E rfl rfl) ?_
        clear a E;intro a E
        refine wpList_nil ?_
        refine q_then ?_
        refine wp_ret ?_
        refine out1 E rfl rfl ?_
        replace H := H.drop 0
        replace H := H.drop 0
        replace H := H.drop 0
        replace H := H.drop 0
        replace H := H.drop 0
        replace H := H.drop 0
        obtain rfl := Option.some.inj hm
        exact ⟨rfl, H.reads (fun r hr => .tail _ (.tail _ (.tail _ (.tail _ (.tail _ (.tail _ (.tail _ (.tail _ (.tail _ (.tail _ (.tail _ (.tail _ (.tail _ (.tail _ (hr)))))))))))))))⟩
      ·rw [if_f hb51] at hm
       refine st_no E (wf' E rfl rfl rfl rfl hb51 rfl) rfl rfl ?_
       clear a E;intro a E
       refine st_no E (wf' E rfl rfl rfl rfl hb51 rfl) rfl rfl ?_
       clear a E;intro a E
       refine st_no E (wf' E rfl rfl rfl rfl hb51 rfl) rfl rfl ?_
       clear a E;intro a E
       refine sv E rfl rfl rfl (x_pickF E rfl rfl hb51 rfl) ?_
       clear a E;intro a E
       refine sv E rfl rfl rfl (x_move E rfl rfl) ?_
       clear a E;intro a E
       refine st_no E (wf E rfl rfl rfl rfl rfl) rfl rfl ?_
       clear a E;intro a E
       refine st_no E (wf E rfl rfl rfl rfl rfl) rfl rfl ?_
       clear a E;intro a E
       refine st_no E (wf E rfl rfl rfl rfl rfl) rfl rfl ?_
       clear a E;intro a E
       refine st_no E (wf E rfl rfl rfl rfl rfl) rfl rfl ?_
       clear a E;intro a E
       refine sv E rfl rfl rfl (x_pickF E rfl rfl rfl rfl) ?_
       clear a E;intro a E
       refine sv E rfl rfl rfl (x_move E rfl rfl) ?_
       clear a E;intro a E
       refine st_no E (wf E rfl rfl rfl rfl rfl) rfl rfl ?_
       clear a E;intro a E
       refine st_no E (wf E rfl rfl rfl rfl rfl) rfl rfl ?_
       clear a E;intro a E
       refine st_no E (wf E rfl rfl rfl rfl rfl) rfl rfl ?_
       clear a E;intro a E
       refine sv E rfl rfl rfl (x_pickF E rfl rfl rfl rfl) ?_
       clear a E;intro a E
       refine sv E rfl rfl rfl (x_move E rfl rfl) ?_
       clear a E;intro a E
       refine st_no E (wf E rfl rfl rfl rfl rfl) rfl rfl ?_
       clear a E;intro a E
       refine sv E rfl rfl rfl (x_pickF E rfl rfl rfl rfl) ?_
       clear a E;intro a E
       refine sv E rfl rfl rfl (x_move E rfl rfl) ?_
       clear a E;intro a E
       refine st_no E (wf E rfl rfl rfl rfl rfl) rfl rfl ?_
       clear a E;intro a E
       refine st_no E (wf E rfl rfl rfl rfl rfl) rfl rfl ?_
       clear a E;intro a E
       refine st_no E (wf E rfl rfl rfl rfl rfl) rfl rfl ?_
       clear a E;intro a E
       refine sv E rfl rfl rfl (x_pickF E rfl rfl rfl rfl) ?_
       clear a E;intro a E
       refine sv E rfl rfl rfl (x_move E rfl rfl) ?_
       clear a E;intro a E
       refine st_no E (wf E rfl rfl rfl rfl rfl) rfl rfl ?_
       clear a E;intro a E
       refine st_no E (wf E rfl rfl rfl rfl rfl) rfl rfl ?_
       clear a E;intro a E
       refine sv E rfl rfl rfl (x_pickF E rfl rfl rfl rfl) ?_
       clear a E;intro a E
       refine sv E rfl rfl rfl (x_move E rfl rfl) ?_
       clear a E;intro a E
       refine st_no E (wf E rfl rfl rfl rfl rfl) rfl rfl ?_
       clear a E;intro a E
       refine st_no E (wf E rfl rfl rfl rfl rfl) rfl rfl ?_
       clear a E;intro a E
       refine st_no E (wf E rfl rfl rfl rfl rfl) rfl rfl ?_
       clear a E;intro a E
       refine sv E rfl rfl rfl (x_pickF E rfl rfl rfl rfl) ?_
       clear a E;intro a E
       refine sv E rfl rfl rfl (x_assign E rfl rfl) ?_
       clear a E;intro a E
       refine wpList_nil ?_
       refine q_then ?_
       refine wp_ret ?_
       refine out1 E rfl rfl ?_
       replace H := H.drop 0
       replace H := H.drop 0
       replace H := H.drop 0
       replace H := H.drop 0
       replace H := H.drop 0
       replace H := H.drop 0
       obtain rfl := Option.some.inj hm
       exact ⟨rfl, H.reads (fun r hr => .tail _ (.tail _ (.tail _ (.tail _ (.tail _ (.tail _ (.tail _ (.tail _ (.tail _ (.tail _ (.tail _ (.tail _ (.tail _ (.tail _ (hr)))))))))))))))⟩
     ·rw [if_f hb50] at hm
      refine st_no E (wf' E rfl rfl rfl rfl hb50 rfl) rfl rfl ?_
      clear a E;intro a E
      refine st_no E (wf' E rfl rfl rfl rfl hb50 rfl) rfl rfl ?_
      clear a E;intro a E
      refine st_no E (wf' E rfl rfl rfl rfl hb50 rfl) rfl rfl ?_
      clear a E;intro a E
      refine sv E rfl rfl rfl (x_pickF E rfl rfl hb50 rfl) ?_
      clear a E;intro a E
      refine sv E rfl rfl rfl (x_move E rfl rfl) ?_
      clear a E;intro a E
      refine st_no E (wf E rfl rfl rfl rfl rfl) rfl rfl ?_
      clear a E;intro a E
      refine st_no E (wf E rfl rfl rfl rfl rfl) rfl rfl ?_
      clear a E;intro a E
      refine st_no E (wf E rfl rfl rfl rfl rfl) rfl rfl ?_
      clear a E;intro a E
      refine sv E rfl rfl rfl (x_pickF E rfl rfl rfl rfl) ?_
      clear a E;intro a E
      refine sv E rfl rfl rfl (x_move E rfl rfl) ?_
      clear a E;intro a E
      refine st_no E (wf E rfl rfl rfl rfl rfl) rfl rfl ?_
      clear a E;intro a E
      refine st_no E (wf E rfl rfl rfl rfl rfl) rfl rfl ?_
      clear a E;intro a E
      refine st_no E (wf E rfl rfl rfl rfl rfl) rfl rfl ?_
      clear a E;intro a E
      refine st_no E (wf E rfl rfl rfl rfl rfl) rfl rfl ?_
      clear a E;intro a E
      refine sv E rfl rfl rfl (x_pickF E rfl rfl rfl rfl) ?_
      clear a E;intro a E
      refine sv E rfl rfl rfl (x_move E rfl rfl) ?_
      clear a E;intro a E
      refine st_no E (wf E rfl rfl rfl rfl rfl) rfl rfl ?_
      clear a E;intro a E
      refine st_no E (wf E rfl rfl rfl rfl rfl) rfl rfl ?_
      clear a E;intro a E
      refine st_no E (wf E rfl rfl rfl rfl rfl) rfl rfl ?_
      clear a E;intro a E
      refine sv E rfl rfl rfl (x_pickF E rfl rfl rfl rfl) ?_
      clear a E;intro a E
      refine sv E rfl rfl rfl (x_move E rfl rfl) ?_
      clear a E;intro a E
      refine st_no E (wf E rfl rfl rfl rfl rfl) rfl rfl ?_
      clear a E;intro a E
      refine sv E rfl rfl rfl (x_pickF E rfl rfl rfl rfl) ?_
      clear a E;intro a E
      refine sv E rfl rfl rfl (x_move E rfl rfl) ?_
      clear a E;intro a E
      refine st_no E (wf E rfl rfl rfl rfl rfl) rfl rfl ?_
      clear a E;intro a E
      refine st_no E (wf E rfl rfl rfl rfl rfl) rfl rfl ?_
      clear a E;intro a E
      refine st_no E (wf E rfl rfl rfl rfl rfl) rfl rfl ?_
      clear a E;intro a E
      refine sv E rfl rfl rfl (x_pickF E rfl rfl rfl rfl) ?_
      clear a E;intro a E
      refine sv E rfl rfl rfl (x_move E rfl rfl) ?_
      clear a E;intro a E
      refine st_no E (wf E rfl rfl rfl rfl rfl) rfl rfl ?_
      clear a E;intro a E
      refine st_no E (wf E rfl rfl rfl rfl rfl) rfl rfl ?_
      clear a E;intro a E
      refine sv E rfl rfl rfl (x_pickF E rfl rfl rfl rfl) ?_
      clear a E;intro a E
      refine sv E rfl rfl rfl (x_move E rfl rfl) ?_
      clear a E;intro a E
      refine st_no E (wf E rfl rfl rfl rfl rfl) rfl rfl ?_
      clear a E;intro a E
      refine st_no E (wf E rfl rfl rfl rfl rfl) rfl rfl ?_
      clear a E;intro a E
      refine st_no E (wf E rfl rfl rfl rfl rfl) rfl rfl ?_
      clear a E;intro a E
      refine sv E rfl rfl rfl (x_pickF E rfl rfl rfl rfl) ?_
      clear a E;intro a E
      refine sv E rfl rfl rfl (x_assign E rfl rfl) ?_
      clear a E;intro a E
      refine wpList_nil ?_
      refine q_then ?_
      refine wp_ret ?_
      refine out1 E rfl rfl ?_
      replace H := H.drop 0
      replace H := H.drop 0
      replace H := H.drop 0
      replace H := H.drop 0
      replace H := H.drop 0
      replace H := H.drop 0
      obtain rfl := Option.some.inj hm
      exact ⟨rfl, H.reads (fun r hr => .tail _ (.tail _ (.tail _ (.tail _ (.tail _ (.tail _ (.tail _ (.tail _ (.tail _ (.tail _ (.tail _ (.tail _ (.tail _ (.tail _ (hr)))))))))))))))⟩
    ·rw [if_f hb46] at hm
     refine st_no E (wf' E rfl rfl rfl rfl hb46 rfl) rfl rfl ?_
     clear a E;intro a E
     refine st_no E (wf' E rfl rfl rfl rfl hb46 rfl) rfl rfl ?_
     clear a E;intro a E
     refine st_no E (wf' E rfl rfl rfl rfl hb46 rfl) rfl rfl ?_
     clear a E;intro a E
     refine st_no E (wf' E rfl rfl rfl rfl hb46 rfl) rfl rfl ?_
     clear a E;intro a E
     refine st_no E (wf' E rfl rfl rfl rfl hb46 rfl) rfl rfl ?_
     clear a E;intro a E
     refine sv E rfl rfl rfl (x_pickF E rfl rfl hb46 rfl) ?_
     clear a E;intro a E
     refine sv E rfl rfl rfl (x_move E rfl rfl) ?_
     clear a E;intro a E
     refine st_no E (wf E rfl rfl rfl rfl rfl) rfl rfl ?_
     clear a E;intro a E
     refine st_no E (wf E rfl rfl rfl rfl rfl) rfl rfl ?_
     clear a E;intro a E
     refine st_no E (wf E rfl rfl rfl rfl rfl) rfl rfl ?_
     clear a E;intro a E
     refine sv E rfl rfl rfl (x_pickF E rfl rfl rfl rfl) ?_
     clear a E;intro a E
     refine sv E rfl rfl rfl (x_move E rfl rfl) ?_
     clear a E;intro a E
     refine st_no E (wf E rfl rfl rfl rfl rfl) rfl rfl ?_
     clear a E;intro a E
     refine st_no E (wf E rfl rfl rfl rfl rfl) rfl rfl ?_
     clear a E;intro a E
     refine st_no E (wf E rfl rfl rfl rfl rfl) rfl rfl ?_
     clear a E;intro a E
     refine sv E rfl rfl rfl (x_pickF E rfl rfl rfl rfl) ?_
     clear a E;intro a E
     refine sv E rfl rfl rfl (x_move E rfl rfl) ?_
     clear a E;intro a E
     refine st_no E (wf E rfl rfl rfl rfl rfl) rfl rfl ?_
     clear a E;intro a E
     refine st_no E (wf E rfl rfl rfl rfl rfl) rfl rfl ?_
     clear a E;intro a E
     refine st_no E (wf E rfl rfl rfl rfl rfl) rfl rfl ?_
     clear a E;intro a E
     refine st_no E (wf E rfl rfl rfl rfl rfl) rfl rfl ?_
     clear a E;intro a E
     refine sv E rfl rfl rfl (x_pickF E rfl rfl rfl rfl) ?_
     clear a E;intro a E
     refine sv E rfl rfl rfl (x_move E rfl rfl) ?_
     clear a E;intro a E
     refine st_no E (wf E rfl rfl rfl rfl rfl) rfl rfl ?_
     clear a E;intro a E
     refine st_no E (wf E rfl rfl rfl rfl rfl) rfl rfl ?_
     clear a E;intro a E
     refine st_no E (wf E rfl rfl rfl rfl rfl) rfl rfl ?_
     clear a E;intro a E
     refine sv E rfl rfl rfl (x_pickF E rfl rfl rfl rfl) ?_
     clear a E;intro a E
     refine sv E rfl rfl rfl (x_move E rfl rfl) ?_
     clear a E;intro a E
     refine st_no E (wf E rfl rfl rfl rfl rfl) rfl rfl ?_
     clear a E;intro a E
     refine sv E rfl rfl rfl (x_pickF E rfl rfl rfl rfl) ?_
     clear a E;intro a E
     refine sv E rfl rfl rfl (x_move E rfl rfl) ?_
     clear a E;intro a E
     refine st_no E (wf E rfl rfl rfl rfl rfl) rfl rfl ?_
     clear a E;intro a E
     refine st_no E (wf E rfl rfl rfl rfl rfl) rfl rfl ?_
     clear a E;intro a E
     refine st_no E (wf E rfl rfl rfl rfl rfl) rfl rfl ?_
     clear a E;intro a E
     refine sv E rfl rfl rfl (x_pickF E rfl rfl rfl rfl) ?_
     clear a E;intro a E
     refine sv E rfl rfl rfl (x_move E rfl rfl) ?_
     clear a E;intro a E
     refine st_no E (wf E rfl rfl rfl rfl rfl) rfl rfl ?_
     clear a E;intro a E
     refine st_no E (wf E rfl rfl rfl rfl rfl) rfl rfl ?_
     clear a E;intro a E
     refine sv E rfl rfl rfl (x_pickF E rfl rfl rfl rfl) ?_
     clear a E;intro a E
     refine sv E rfl rfl rfl (x_move E rfl rfl) ?_
     clear a E;intro a E
     refine st_no E (wf E rfl rfl rfl rfl rfl) rfl rfl ?_
     clear a E;intro a E
     refine st_no E (wf E rfl rfl rfl rfl rfl) rfl rfl ?_
     clear a E;intro a E
     refine st_no E (wf E rfl rfl rfl rfl rfl) rfl rfl ?_
     clear a E;intro a E
     refine sv E rfl rfl rfl (x_pickF E rfl rfl rfl rfl) ?_
     clear a E;intro a E
     refine sv E rfl rfl rfl (x_assign E rfl rfl) ?_
     clear a E;intro a E
     refine wpList_nil ?_
     refine q_then ?_
     refine wp_ret ?_
     refine out1 E rfl rfl ?_
     replace H := H.drop 0
     replace H := H.drop 0
     replace H := H.drop 0
     replace H := H.drop 0
     replace H := H.drop 0
     replace H := H.drop 0
     obtain rfl := Option.some.inj hm
     exact ⟨rfl, H.reads (fun r hr => .tail _ (.tail _ (.tail _ (.tail _ (.tail _ (.tail _ (.tail _ (.tail _ (.tail _ (.tail _ (.tail _ (.tail _ (hr)))))))))))))⟩
   ·rw [if_f hb45] at hm
    refine st_no E (wf' E rfl rfl rfl rfl hb45 rfl) rfl rfl ?_
    clear a E;intro a E
    refine st_no E (wf' E rfl rfl rfl rfl hb45 rfl) rfl rfl ?_
    clear a E;intro a E
    refine st_no E (wf' E rfl rfl rfl rfl hb45 rfl) rfl rfl ?_
    clear a E;intro a E
    refine sv E rfl rfl rfl (x_pickF E rfl rfl hb45 rfl) ?_
    clear a E;intro a E
    refine sv E rfl rfl rfl (x_move E rfl rfl) ?_
    clear a E;intro a E
    refine st_no E (wf E rfl rfl rfl rfl rfl) rfl rfl ?_
    clear a E;intro a E
    refine st_no E (wf E rfl rfl rfl rfl rfl) rfl rfl ?_
    clear a E;intro a E
    refine st_no E (wf E rfl rfl rfl rfl rfl) rfl rfl ?_
    clear a E;intro a E
    refine st_no E (wf E rfl rfl rfl rfl rfl) rfl rfl ?_
    clear a E;intro a E
    refine st_no E (wf E rfl rfl rfl rfl rfl) rfl rfl ?_
    clear a E;intro a E
    refine sv E rfl rfl rfl (x_pickF E rfl rfl rfl rfl) ?_
    clear a E;intro a E
    refine sv E rfl rfl rfl (x_move E rfl rfl) ?_
    clear a E;intro a E
    refine st_no E (wf E rfl rfl rfl rfl rfl) rfl rfl ?_
    clear a E;intro a E
    refine st_no E (wf E rfl rfl rfl rfl rfl) rfl rfl ?_
    clear a E;intro a E
    refine st_no E (wf E rfl rfl rfl rfl rfl) rfl rfl ?_
    clear a E;intro a E
    refine sv E rfl rfl rfl (x_pickF E rfl rfl rfl rfl) ?_
    clear a E;intro a E
    refine sv E rfl rfl rfl (x_move E rfl rfl) ?_
    clear a E;intro a E
    refine st_no E (wf E rfl rfl rfl rfl rfl) rfl rfl ?_
    clear a E;intro a E
    refine st_no E (wf E rfl rfl rfl rfl rfl) rfl rfl ?_
    clear a E;intro a E
    refine st_no E (wf E rfl rfl rfl rfl rfl) rfl rfl ?_
    clear a E;intro a E
    refine sv E rfl rfl rfl (x_pickF E rfl rfl rfl rfl) ?_
    clear a E;intro a E
    refine sv E rfl rfl rfl (x_move E rfl rfl) ?_
    clear a E;intro a E
    refine st_no E (wf E rfl rfl rfl rfl rfl) rfl rfl ?_
    clear a E;intro a E
    refine st_no E (wf E rfl rfl rfl rfl rfl) rfl rfl ?_
    clear a E;intro a E
    refine st_no E (wf E rfl rfl rfl rfl rfl) rfl rfl ?_
    clear a E;intro a E
    refine st_no E (wf E rfl rfl rfl rfl rfl) rfl rfl ?_
    clear a E;intro a E
    refine sv E rfl rfl rfl (x_pickF E rfl rfl rfl rfl) ?_
    clear a E;intro a E
    refine sv E rfl rfl rfl (x_move E rfl rfl) ?_
    clear a E;intro a E
    refine st_no E (wf E rfl rfl rfl rfl rfl) rfl rfl ?_
    clear a E;intro a E
    refine st_no E (wf E rfl rfl rfl rfl rfl) rfl rfl ?_
    clear a E;intro a E
    refine st_no E (wf E rfl rfl rfl rfl rfl) rfl rfl ?_
    clear a E;intro a E
    refine sv E rfl rfl rfl (x_pickF E rfl rfl rfl rfl) ?_
    clear a E;intro a E
    refine sv E rfl rfl rfl (x_move E rfl rfl) ?_
    clear a E;intro a E
    refine st_no E (wf E rfl rfl rfl rfl rfl) rfl rfl ?_
    clear a E;intro a E
    refine sv E rfl rfl rfl (x_pickF E rfl rfl rfl rfl) ?_
    clear a E;intro a E
    refine sv E rfl rfl rfl (x_move E rfl rfl) ?_
    clear a E;intro a E
    refine st_no E (wf E rfl rfl rfl rfl rfl) rfl rfl ?_
    clear a E;intro a E
    refine st_no E (wf E rfl rfl rfl rfl rfl) rfl rfl ?_
    clear a E;intro a E
    refine st_no E (wf E rfl rfl rfl rfl rfl) rfl rfl ?_
    clear a E;intro a E
    refine sv E rfl rfl rfl (x_pickF E rfl rfl rfl rfl) ?_
    clear a E;intro a E
    refine sv E rfl rfl rfl (x_move E rfl rfl) ?_
    clear a E;intro a E
    refine st_no E (wf E rfl rfl rfl rfl rfl) rfl rfl ?_
    clear a E;intro a E
    refine st_no E (wf E rfl rfl rfl rfl rfl) rfl rfl ?_
    clear a E;intro a E
    refine sv E rfl rfl rfl (x_pickF E rfl rfl rfl rfl) ?_
    clear a E;intro a E
    refine sv E rfl rfl rfl (x_move E rfl rfl) ?_
    clear a E;intro a E
    refine st_no E (wf E rfl rfl rfl rfl rfl) rfl rfl ?_
    clear a E;intro a E
    refine st_no E (wf E rfl rfl rfl rfl rfl) rfl rfl ?_
    clear a E;intro a E
    refine st_no E (wf E rfl rfl rfl rfl rfl) rfl rfl ?_
    clear a E;intro a E
    refine sv E rfl rfl rfl (x_pickF E rfl rfl rfl rfl) ?_
    clear a E;intro a E
    refine sv E rfl rfl rfl (x_assign E rfl rfl) ?_
    clear a E;intro a E
    refine wpList_nil ?_
    refine q_then ?_
    refine wp_ret ?_
    refine out1 E rfl rfl ?_
    replace H := H.drop 0
    replace H := H.drop 0
    replace H := H.drop 0
    replace H := H.drop 0
    replace H := H.drop 0
    replace H := H.drop 0
    obtain rfl := Option.some.inj hm
    exact ⟨rfl, H.reads (fun r hr => .tail _ (.tail _ (.tail _ (.tail _ (.tail _ (.tail _ (.tail _ (.tail _ (.tail _ (.tail _ (.tail _ (.tail _ (hr)))))))))))))⟩
  ·rw [if_f hb44] at hm
   refine st_no E (wf' E rfl rfl rfl rfl hb44 rfl) rfl rfl ?_
   clear a E;intro a E
   refine st_no E (wf' E rfl rfl rfl rfl hb44 rfl) rfl rfl ?_
   clear a E;intro a E
   refine st_no E (wf' E rfl rfl rfl rfl hb44 rfl) rfl rfl ?_
   clear a E;intro a E
   refine sv E rfl rfl rfl (x_pickF E rfl rfl hb44 rfl) ?_
   clear a E;intro a E
   refine sv E rfl rfl rfl (x_move E rfl rfl) ?_
   clear a E;intro a E
   refine st_no E (wf E rfl rfl rfl rfl rfl) rfl rfl ?_
   clear a E;intro a E
   refine st_no E (wf E rfl rfl rfl rfl rfl) rfl rfl ?_
   clear a E;intro a E
   refine st_no E (wf E rfl rfl rfl rfl rfl) rfl rfl ?_
   clear a E;intro a E
   refine sv E rfl rfl rfl (x_pickF E rfl rfl rfl rfl) ?_
   clear a E;intro a E
   refine sv E rfl rfl rfl (x_move E rfl rfl) ?_
   clear a E;intro a E
   refine st_no E (wf E rfl rfl rfl rfl rfl) rfl rfl ?_
   clear a E;intro a E
   refine st_no E (wf E rfl rfl rfl rfl rfl) rfl rfl ?_
   clear a E;intro a E
   refine st_no E (wf E rfl rfl rfl rfl rfl) rfl rfl ?_
   clear a E;intro a E
   refine st_no E (wf E rfl rfl rfl rfl rfl) rfl rfl ?_
   clear a E;intro a E
   refine st_no E (wf E rfl rfl rfl rfl rfl) rfl rfl ?_
   clear a E;intro a E
   refine sv E rfl rfl rfl (x_pickF E rfl rfl rfl rfl) ?_
   clear a E;intro a E
   refine sv E rfl rfl rfl (x_move E rfl rfl) ?_
   clear a E;intro a E
   refine st_no E (wf E rfl rfl rfl rfl rfl) rfl rfl ?_
   clear a E;intro a E
   refine st_no E (wf E rfl rfl rfl rfl rfl) rfl rfl ?_
   clear a E;intro a E
   refine st_no E (wf E rfl rfl rfl rfl rfl) rfl rfl ?_
   clear a E;intro a E
   refine sv E rfl rfl rfl (x_pickF E rfl rfl rfl rfl) ?_
   clear a E;intro a E
   refine sv E rfl rfl rfl (x_move E rfl rfl) ?_
   clear a E;intro a E
   refine st_no E (wf E rfl rfl rfl rfl rfl) rfl rfl ?_
   clear a E;intro a E
   refine st_no E (wf E rfl rfl rfl rfl rfl) rfl rfl ?_
   clear a E;intro a E
   refine st_no E (wf E rfl rfl rfl rfl rfl) rfl rfl ?_
   clear a E;intro a E
   refine sv E rfl rfl rfl (x_pickF E rfl rfl rfl rfl) ?_
   clear a E;intro a E
   refine sv E rfl rfl rfl (x_move E rfl rfl) ?_
   clear a E;intro a E
   refine st_no E (wf E rfl rfl rfl rfl rfl) rfl rfl ?_
   clear a E;intro a E
   refine st_no E (wf E rfl rfl rfl rfl rfl) rfl rfl ?_
   clear a E;intro a E
   refine st_no E (wf E rfl rfl rfl rfl rfl) rfl rfl ?_
   clear a E;intro a E
   refine st_no E (wf E rfl rfl rfl rfl rfl) rfl rfl ?_
   clear a E;intro a E
   refine sv E rfl rfl rfl (x_pickF E rfl rfl rfl rfl) ?_
   clear a E;intro a E
   refine sv E rfl rfl rfl (x_move E rfl rfl) ?_
   clear a E;intro a E
   refine st_no E (wf E rfl rfl rfl rfl rfl) rfl rfl ?_
   clear a E;intro a E
   refine st_no E (wf E rfl rfl rfl rfl rfl) rfl rfl ?_
   clear a E;intro a E
   refine st_no E (wf E rfl rfl rfl rfl rfl) rfl rfl ?_
   clear a E;intro a E
   refine sv E rfl rfl rfl (x_pickF E rfl rfl rfl rfl) ?_
   clear a E;intro a E
   refine sv E rfl rfl rfl (x_move E rfl rfl) ?_
   clear a E;intro a E
   refine st_no E (wf E rfl rfl rfl rfl rfl) rfl rfl ?_
   clear a E;intro a E
   refine sv E rfl rfl rfl (x_pickF E rfl rfl rfl rfl) ?_
   clear a E;intro a E
   refine sv E rfl rfl rfl (x_move E rfl rfl) ?_
   clear a E;intro a E
   refine st_no E (wf E rfl rfl rfl rfl rfl) rfl rfl ?_
   clear a E;intro a E
   refine st_no E (wf E rfl rfl rfl rfl rfl) rfl rfl ?_
   clear a E;intro a E
   refine st_no E (wf E rfl rfl rfl rfl rfl) rfl rfl ?_
   clear a E;intro a E
   refine sv E rfl rfl rfl (x_pickF E rfl rfl rfl rfl) ?_
   clear a E;intro a E
   refine sv E rfl rfl rfl (x_move E rfl rfl) ?_
   clear a E;intro a E
   refine st_no E (wf E rfl rfl rfl rfl rfl) rfl rfl ?_
   clear a E;intro a E
   refine st_no E (wf E rfl rfl rfl rfl rfl) rfl rfl ?_
   clear a E;intro a E
   refine sv E rfl rfl rfl (x_pickF E rfl rfl rfl rfl) ?_
   clear a E;intro a E
   refine sv E rfl rfl rfl (x_move E rfl rfl) ?_
   clear a E;intro a E
   refine st_no E (wf E rfl rfl rfl rfl rfl) rfl rfl ?_
   clear a E;intro a E
   refine st_no E (wf E rfl rfl rfl rfl rfl) rfl rfl ?_
   clear a E;intro a E
   refine st_no E (wf E rfl rfl rfl rfl rfl) rfl rfl ?_
   clear a E;intro a E
   refine sv E rfl rfl rfl (x_pickF E rfl rfl rfl rfl) ?_
   clear a E;intro a E
   refine sv E rfl rfl rfl (x_assign E rfl rfl) ?_
   clear a E;intro a E
   refine wpList_nil ?_
   refine q_then ?_
   refine wp_ret ?_
   refine out1 E rfl rfl ?_
   replace H := H.drop 0
   replace H := H.drop 0
   replace H := H.drop 0
   replace H := H.drop 0
   replace H := H.drop 0
   replace H := H.drop 0
   obtain rfl := Option.some.inj hm
   exact ⟨rfl, H.reads (fun r hr => .tail _ (.tail _ (.tail _ (.tail _ (.tail _ (.tail _ (.tail _ (.tail _ (.tail _ (.tail _ (.tail _ (.tail _ (hr)))))))))))))⟩
 ·rw [if_f hb43] at hm
  refine st_no E (wf' E rfl rfl rfl rfl hb43 rfl) rfl rfl ?_
  clear a E;intro a E
  refine st_no E (wf' E rfl rfl rfl rfl hb43 rfl) rfl rfl ?_
  clear a E;intro a E
  refine st_no E (wf' E rfl rfl rfl rfl hb43 rfl) rfl rfl ?_
  clear a E;intro a E
  refine sv E rfl rfl rfl (x_pickF E rfl rfl hb43 rfl) ?_
  clear a E;intro a E
  refine sv E rfl rfl rfl (x_move E rfl rfl) ?_
  clear a E;intro a E
  refine st_no E (wf E rfl rfl rfl rfl rfl) rfl rfl ?_
  clear a E;intro a E
  refine st_no E (wf E rfl rfl rfl rfl rfl) rfl rfl ?_
  clear a E;intro a E
  refine st_no E (wf E rfl rfl rfl rfl rfl) rfl rfl ?_
  clear a E;intro a E
  refine sv E rfl rfl rfl (x_pickF E rfl rfl rfl rfl) ?_
  clear a E;intro a E
  refine sv E rfl rfl rfl (x_move E rfl rfl) ?_
  clear a E;intro a E
  refine st_no E (wf E rfl rfl rfl rfl rfl) rfl rfl ?_
  clear a E;intro a E
  refine st_no E (wf E rfl rfl rfl rfl rfl) rfl rfl ?_
  clear a E;intro a E
  refine st_no E (wf E rfl rfl rfl rfl rfl) rfl rfl ?_
  clear a E;intro a E
  refine sv E rfl rfl rfl (x_pickF E rfl rfl rfl rfl) ?_
  clear a E;intro a E
  refine sv E rfl rfl rfl (x_move E rfl rfl) ?_
  clear a E;intro a E
  refine st_no E (wf E rfl rfl rfl rfl rfl) rfl rfl ?_
  clear a E;intro a E
  refine st_no E (wf E rfl rfl rfl rfl rfl) rfl rfl ?_
  clear a E;intro a E
  refine st_no E (wf E rfl rfl rfl rfl rfl) rfl rfl ?_
  clear a E;intro a E
  refine st_no E (wf E rfl rfl rfl rfl rfl) rfl rfl ?_
  clear a E;intro a E
  refine st_no E (wf E rfl rfl rfl rfl rfl) rfl rfl ?_
  clear a E;intro a E
  refine sv E rfl rfl rfl (x_pickF E rfl rfl rfl rfl) ?_
  clear a E;intro a E
  refine sv E rfl rfl rfl (x_move E rfl rfl) ?_
  clear a E;intro a E
  refine st_no E (wf E rfl rfl rfl rfl rfl) rfl rfl ?_
  clear a E;intro a E
  refine st_no E (wf E rfl rfl rfl rfl rfl) rfl rfl ?_
  clear a E;intro a E
  refine st_no E (wf E rfl rfl rfl rfl rfl) rfl rfl ?_
  clear a E;intro a E
  refine sv E rfl rfl rfl (x_pickF E rfl rfl rfl rfl) ?_
  clear a E;intro a E
  refine sv E rfl rfl rfl (x_move E rfl rfl) ?_
  clear a E;intro a E
  refine st_no E (wf E rfl rfl rfl rfl rfl) rfl rfl ?_
  clear a E;intro a E
  refine st_no E (wf E rfl rfl rfl rfl rfl) rfl rfl ?_
  clear a E;intro a E
  refine st_no E (wf E rfl rfl rfl rfl rfl) rfl rfl ?_
  clear a E;intro a E
  refine sv E rfl rfl rfl (x_pickF E rfl rfl rfl rfl) ?_
  clear a E;intro a E
  refine sv E rfl rfl rfl (x_move E rfl rfl) ?_
  clear a E;intro a E
  refine st_no E (wf E rfl rfl rfl rfl rfl) rfl rfl ?_
  clear a E;intro a E
  refine st_no E (wf E rfl rfl rfl rfl rfl) rfl rfl ?_
  clear a E;intro a E
  refine st_no E (wf E rfl rfl rfl rfl rfl) rfl rfl ?_
  clear a E;intro a E
  refine st_no E (wf E rfl rfl rfl rfl rfl) rfl rfl ?_
  clear a E;intro a E
  refine sv E rfl rfl rfl (x_pickF E rfl rfl rfl rfl) ?_
  clear a E;intro a E
  refine sv E rfl rfl rfl (x_move E rfl rfl) ?_
  clear a E;intro a E
  refine st_no E (wf E rfl rfl rfl rfl rfl) rfl rfl ?_
  clear a E;intro a E
  refine st_no E (wf E rfl rfl rfl rfl rfl) rfl rfl ?_
  clear a E;intro a E
  refine st_no E (wf E rfl rfl rfl rfl rfl) rfl rfl ?_
  clear a E;intro a E
  refine sv E rfl rfl rfl (x_pickF E rfl rfl rfl rfl) ?_
  clear a E;intro a E
  refine sv E rfl rfl rfl (x_move E rfl rfl) ?_
  clear a E;intro a E
  refine st_no E (wf E rfl rfl rfl rfl rfl) rfl rfl ?_
  clear a E;intro a E
  refine sv E rfl rfl rfl (x_pickF E rfl rfl rfl rfl) ?_
  clear a E;intro a E
  refine sv E rfl rfl rfl (x_move E rfl rfl) ?_
  clear a E;intro a E
  refine st_no E (wf E rfl rfl rfl rfl rfl) rfl rfl ?_
  clear a E;intro a E
  refine st_no E (wf E rfl rfl rfl rfl rfl) rfl rfl ?_
  clear a E;intro a E
  refine st_no E (wf E rfl rfl rfl rfl rfl) rfl rfl ?_
  clear a E;intro a E
  refine sv E rfl rfl rfl (x_pickF E rfl rfl rfl rfl) ?_
  clear a E;intro a E
  refine sv E rfl rfl rfl (x_move E rfl rfl) ?_
  clear a E;intro a E
  refine st_no E (wf E rfl rfl rfl rfl rfl) rfl rfl ?_
  clear a E;intro a E
  refine st_no E (wf E rfl rfl rfl rfl rfl) rfl rfl ?_
  clear a E;intro a E
  refine sv E rfl rfl rfl (x_pickF E rfl rfl rfl rfl) ?_
  clear a E;intro a E
  refine sv E rfl rfl rfl (x_move E rfl rfl) ?_
  clear a E;intro a E
  refine st_no E (wf E rfl rfl rfl rfl rfl) rfl rfl ?_
  clear a E;intro a E
  refine st_no E (wf E rfl rfl rfl rfl rfl) rfl rfl ?_
  clear a E;intro a E
  refine st_no E (wf E rfl rfl rfl rfl rfl) rfl rfl ?_
  clear a E;intro a E
  refine sv E rfl rfl rfl (x_pickF E rfl rfl rfl rfl) ?_
  clear a E;intro a E
  refine sv E rfl rfl rfl (x_assign E rfl rfl) ?_
  clear a E;intro a E
  refine wpList_nil ?_
  refine q_then ?_
  refine wp_ret ?_
  refine out1 E rfl rfl ?_
  replace H := H.drop 0
  replace H := H.drop 0
  replace H := H.drop 0
  replace H := H.drop 0
  replace H := H.drop 0
  replace H := H.drop 0
  obtain rfl := Option.some.inj hm
  exact ⟨rfl, H.reads (fun r hr => .tail _ (.tail _ (.tail _ (.tail _ (.tail _ (.tail _ (.tail _ (.tail _ (.tail _ (.tail _ (.tail _ (.tail _ (hr)))))))))))))⟩
end Go.Cb

set_option linter.unusedVariables false
set_option linter.unusedSimpArgs false
namespace Go.Cb
open Go.Proofs Go.RowKit
def m_cantonlaw06_NodesBoth_j3 (rec_1 : Int → Option Bool) (l2 : List S_api_Node) (x42 : Int) (x48 : S_api_Node) (x53 : Int) : Option Bool :=
  (idx l2 x42).bind fun x60 => if (!((sEq x48.Path x60.Path) && ((sEq x48.Data x60.Data) && ((x48.Version == x60.Version) && ((x53 == x60.Turn) && (x48.Owner == x60.Owner)))))) = true then (some (false)) else (rec_1 (IntKind.i64.wrap (x42 + 1)))
def m_cantonlaw06_NodesBoth_j4 (rec_1 : Int → Option Bool) (l2 : List S_api_Node) (x42 : Int) (x48 : S_api_Node) (b66 : Bool) : Option Bool :=
  if b66 = true then (m_cantonlaw06_NodesBoth_j3 rec_1 l2 x42 x48 (IntKind.i64.wrap (x48.Turn - 1))) else (m_cantonlaw06_NodesBoth_j3 rec_1 l2 x42 x48 x48.Turn)
def m_cantonlaw06_NodesBoth_l1 (l2 : List S_api_Node) (u24 : (List S_api_Node) × S_api_Result) (u40 : ByteArray × Bool) (x3 : S_api_Op) (u7 : Bool) : Nat → Int → Option Bool
  | 0, _ => none
  | k1 + 1, x42 =>
    if (decide (x42 < (l2.length : Int))) = true then ((idx u24.1 x42).bind fun x48 => if (sEq x48.Path u40.1) = true then (m_cantonlaw06_NodesBoth_j4 (m_cantonlaw06_NodesBoth_l1 l2 u24 u40 x3 u7 k1) l2 x42 x48 x3.Turns) else (m_cantonlaw06_NodesBoth_j4 (m_cantonlaw06_NodesBoth_l1 l2 u24 u40 x3 u7 k1) l2 x42 x48 false)) else (some (u7))
def m_cantonlaw06_NodesBoth_j2 (l2 : List S_api_Node) (u24 : (List S_api_Node) × S_api_Result) (x3 : S_api_Op) (u7 : Bool) (b34 : Bool) : Option Bool :=
  if b34 = true then (some (false)) else ((m_cantonref01_Parent x3.Path).bind fun u40 => m_cantonlaw06_NodesBoth_l1 l2 u24 u40 x3 u7 (((l2.length : Int) - 0 : Int).toNat + 1) 0)
def m_cantonlaw06_NodesBoth_j1 (l2 : List S_api_Node) (x3 : S_api_Op) (u7 : Bool) (b9 : Bool) : Option Bool :=
  if b9 = true then (some (u7)) else ((m_nodes_Apply l2 (⟨1, x3.Path, x3.Data, x3.Version, x3.Owner, x3.Turns⟩ : S_api_Op)).bind fun u14 => if (u14.2.Err != 0) = true then (some (u7)) else ((m_cantonref06_Find u14.1 u14.2.Path).bind fun u21 => (m_nodes_Apply u14.1 (⟨2, u14.2.Path, (ByteArray.mk #[]), 0, 0, false⟩ : S_api_Op)).bind fun u24 => (m_cantonref06_Find u24.1 u14.2.Path).bind fun u31 => if (!u21.2) = true then (m_cantonlaw06_NodesBoth_j2 l2 u24 x3 u7 true) else (if (!(sEq u21.1.Data x3.Data)) = true then (m_cantonlaw06_NodesBoth_j2 l2 u24 x3 u7 true) else (if (u21.1.Owner != x3.Owner) = true then (m_cantonlaw06_NodesBoth_j2 l2 u24 x3 u7 true) else (if (u21.1.Version != 0) = true then (m_cantonlaw06_NodesBoth_j2 l2 u24 x3 u7 true) else (if (u24.2.Err != 0) = true then (m_cantonlaw06_NodesBoth_j2 l2 u24 x3 u7 true) else (if u31.2 = true then (m_cantonlaw06_NodesBoth_j2 l2 u24 x3 u7 true) else (m_cantonlaw06_NodesBoth_j2 l2 u24 x3 u7 ((u24.1.length : Int) != (l2.length : Int))))))))))
def m_cantonlaw06_NodesBoth (l2 : List S_api_Node) (x3 : S_api_Op) : Option Bool :=
  m_cantonlaw06_head.bind fun u7 => (m_cantonlaw06_Great l2).bind fun u79 => if u79 = true then (m_cantonlaw06_NodesBoth_j1 l2 x3 u7 true) else ((m_cantonlaw06_GreatOp (⟨x3.Kind, x3.Path, x3.Data, x3.Version, x3.Owner, x3.Turns⟩ : S_api_Op)).bind fun u82 => m_cantonlaw06_NodesBoth_j1 l2 x3 u7 u82)
set_option maxRecDepth 20000 in
set_option maxHeartbeats 1000000 in
theorem c_cantonlaw06_NodesBoth {w : World} {Fo : List Ob} {rs : List Rp} (v1 : Value) (l2 : List S_api_Node) (x3 : S_api_Op) (H : Sep w (Fo) rs) (hr4 : rSl k_api_Node v1 l2 ∈ rs) (hr5 : rTab Tryd.prog ∈ rs) {r : Bool} (hm : m_cantonlaw06_NodesBoth l2 x3 = some r) :
    Calls Tryd.prog 5 [v1, .agg #[.int .i64 x3.Kind, .string x3.Path, .string x3.Data, .int .i64 x3.Version, .int .i64 x3.Owner, .bool x3.Turns]].toArray w (Ret fun v w' => .bool r = v ∧ Sep w' (Fo) (rs)) := by
 unfold m_cantonlaw06_NodesBoth at hm
 refine enter Tryd.func5 rfl Tryd.ntmps5 rfl fun a E => ?_
 simp only [enum, Nat.reduceAdd] at E
 refine wp_seq ?_
 refine wp_region_lit ?_
 refine st_box E H (wn rfl) rfl rfl (cs := [.int .i64 x3.Kind, .string x3.Path, .string x3.Data, .int .i64 x3.Version, .int .i64 x3.Owner, .bool x3.Turns]) rfl rfl rfl ?_
 clear E H; clear a; clear w; intro p6 w a H E
 refine sv E rfl rfl rfl (x_assign E rfl rfl) ?_
 clear a E;intro a E
 refine wpList_nil ?_
 refine q_then ?_
 refine wp_seq ?_
 refine wp_region_lit ?_
 obtain ⟨u7, hx8, hm⟩ := bnd hm
 refine st_call E (wn rfl) rfl rfl (x_call E rfl rfl (cf10 _)) (c_cantonlaw06_head H hr5 hx8) ?_
 clear E H; clear a; clear w; rintro _ w ⟨rfl, H⟩ a E
 refine sv E rfl rfl rfl (x_assign E rfl rfl) ?_
 clear a E;intro a E
 refine wpList_nil ?_
 refine q_then ?_
 refine wp_seq ?_
 refine wp_seq_cut (fun a w => ∃ (b9 : Bool) (rs10 : List Rp), Env 130 a [(0, v1), (3, .pointer (some ⟨p6, 0, none⟩)), (5, .bool u7), (24, .bool b9)] ∧ Sep w (Blk p6 24 [.int .i64 x3.Kind, .string x3.Path, .string x3.Data, .int .i64 x3.Version, .int .i64 x3.Owner, .bool x3.Turns] :: Fo) rs10 ∧ (∀ r, r ∈ rs → r ∈ rs10) ∧ rSl k_api_Node v1 l2 ∈ rs10 ∧ rTab Tryd.prog ∈ rs10 ∧ m_cantonlaw06_NodesBoth_j1 l2 x3 u7 b9 = some r) ?_ ?_
 ·refine wp_region_lit ?_
  refine sv E rfl rfl rfl (x_move E rfl rfl) ?_
  clear a E;intro a E
  obtain ⟨u79, hx80, hm⟩ := bnd hm
  refine st_call E (wn rfl) rfl rfl (x_call E rfl rfl (cf11 _)) (c_cantonlaw06_Great v1 l2 H hr4 hx80) ?_
  clear E H; clear a; clear w; rintro _ w ⟨rfl, H⟩ a E
  refine sv E rfl rfl rfl (x_move E rfl rfl) ?_
  clear a E;intro a E
  rcases Bool.eq_false_or_eq_true u79 with hb81 | hb81
  ·rw [if_t hb81] at hm
   refine st_no E (wf' E rfl rfl rfl rfl hb81 rfl) rfl rfl ?_
   clear a E;intro a E
   refine st_no E (wf' E rfl rfl rfl rfl hb81 rfl) rfl rfl ?_
   clear a E;intro a E
   refine sv E rfl rfl rfl (x_pickT E rfl rfl hb81 rfl) ?_
   clear a E;intro a E
   refine wpList_nil ?_
   refine q_then ?_
   exact ⟨true, _, ((((E.nil.keep E 24 rfl).keep E 5 rfl).keep E 3 rfl).keep E 0 rfl), H, fun r hr => hr, hr4, hr5, hm⟩
  ·rw [if_f hb81] at hm
   refine st_val E (ws' E rfl rfl rfl rfl hb81) rfl rfl (x_ldBN (i := 0) (us := [.int .i64 x3.Kind, .string x3.Path, .string x3.Data, .int .i64 x3.Version, .int .i64 x3.Owner, .bool x3.Turns]) E H rfl rfl rfl rfl Tryd.underlying24 rfl sz24) ?_
   clear a E;intro a E
   obtain ⟨u82, hx83, hm⟩ := bnd hm
   refine st_call E (ws' E rfl rfl rfl rfl hb81) rfl rfl (x_call E rfl rfl (cf12 _)) (c_cantonlaw06_GreatOp (⟨x3.Kind, x3.Path, x3.Data, x3.Version, x3.Owner, x3.Turns⟩ : S_api_Op) H hx83) ?_
   clear E H; clear a; clear w; rintro _ w ⟨rfl, H⟩ a E
   refine sv E rfl rfl rfl (x_pickF E rfl rfl hb81 rfl) ?_
   clear a E;intro a E
   refine wpList_nil ?_
   refine q_then ?_
   exact ⟨u82, _, ((((E.nil.keep E 24 rfl).keep E 5 rfl).keep E 3 rfl).keep E 0 rfl), H, fun r hr => hr, hr4, hr5, hm⟩
 ·clear E H hm
  rintro a w ⟨b9, rs10, E, H, hs11, hr12, hr13, hm⟩
  unfold m_cantonlaw06_NodesBoth_j1 at hm
  refine wp_if E rfl ?_ ?_
  ·intro hb
   rw [if_t hb] at hm
   clear hb
   refine wp_seq ?_
   refine wp_region_lit ?_
   refine sv E rfl rfl rfl (x_move E rfl rfl) ?_
   clear a E;intro a E
   refine sv E rfl rfl rfl (x_assign E rfl rfl) ?_
   clear a E;intro a E
   refine wpList_nil ?_
   refine q_then ?_
   refine wp_ret ?_
   refine q_thenR ?_
   refine out1 E rfl rfl ?_
   replace H := H.drop 0
   obtain rfl := Option.some.inj hm
   exact ⟨rfl, H.reads (fun r hr => hs11 r hr)⟩
  ·intro hb
   rw [if_f hb] at hm
   clear hb
   refine wp_skip ?_
   refine q_then ?_
   refine wp_seq ?_
   refine wp_region_lit ?_
   refine sv E rfl rfl rfl (x_fa E rfl rfl (v := .pointer (some ⟨p6, 0, none⟩)) (fa24_0 _ _)) ?_
   clear a E;intro a E
   refine st_st (i := 0) E H (wn rfl) rfl (us := [.int .i64 1]) rfl rfl rfl rfl rfl sz3 rfl rfl ?_
   clear H; clear w; intro w H
   replace H : Sep w (Blk p6 24 [.int .i64 1, .string x3.Path, .string x3.Data, .int .i64 x3.Version, .int .i64 x3.Owner, .bool x3.Turns] :: Fo) _ := H
   refine wpList_nil ?_
   refine q_then ?_
   refine wp_seq ?_
   refine wp_region_lit ?_
   refine sv E rfl rfl rfl (x_move E rfl rfl) ?_
   clear a E;intro a E
   refine sv E rfl rfl rfl (x_ldBN (i := 0) (us := [.int .i64 1, .string x3.Path, .string x3.Data, .int .i64 x3.Version, .int .i64 x3.Owner, .bool x3.Turns]) E H rfl rfl rfl rfl Tryd.underlying24 rfl sz24) ?_
   clear a E;intro a E
   obtain ⟨u14, hx15, hm⟩ := bnd hm
   refine st_call E (wn rfl) rfl rfl (x_call E rfl rfl (cf14 _)) (c_nodes_Apply v1 l2 (⟨1, x3.Path, x3.Data, x3.Version, x3.Owner, x3.Turns⟩ : S_api_Op) H hr12 hr13 hx15) ?_
   clear E H; clear a; clear w; rintro _ w ⟨v16, v17, rfl, H⟩ a E
   refine sv E rfl rfl rfl (x_move E rfl rfl) ?_
   clear a E;intro a E
   refine sv E rfl rfl rfl (x_ext E rfl rfl rfl) ?_
   clear a E;intro a E
   refine sv E rfl rfl rfl (x_ext E rfl rfl rfl) ?_
   clear a E;intro a E
   refine st_alloc E H (wn rfl) rfl rfl (cs := [.int .i64 0, .string (ByteArray.mk #[]), .string (ByteArray.mk #[]), .int .i64 0, .slice none 0 0]) rfl (z := .agg #[.int .i64 0, .string ⟨#[]⟩, .string ⟨#[]⟩, .int .i64 0, .slice none 0 0]) (by kernel_rfl) rfl ?_
   clear E H; clear a; clear w; intro p18 w a H E
   refine sv E rfl rfl rfl (x_assign E rfl rfl) ?_
   clear a E;intro a E
   obtain ⟨q19, x20, rfl⟩ := H.slform (.tail _ (.head _))
   refine st_st (i := 0) E H (wn rfl) rfl (us := [.int .i64 u14.2.Err, .string u14.2.Path, .string u14.2.Data, .int .i64 u14.2.Version, (.slice q19 u14.2.Names.length x20)]) rfl rfl rfl rfl rfl sz31 rfl rfl ?_
   clear H; clear w; intro w H
   replace H : Sep w (Blk p18 31 [.int .i64 u14.2.Err, .string u14.2.Path, .string u14.2.Data, .int .i64 u14.2.Version, (.slice q19 u14.2.Names.length x20)] :: Blk p6 24 [.int .i64 1, .string x3.Path, .string x3.Data, .int .i64 x3.Version, .int .i64 x3.Owner, .bool x3.Turns] :: Fo) _ := H
   refine wpList_nil ?_
   refine q_then ?_
   refine wp_seq ?_
   refine wp_seq ?_
   refine wp_region_lit ?_
   refine sv E rfl rfl rfl (x_fa E rfl rfl (v := .pointer (some ⟨p18, 0, none⟩)) (fa31_0 _ _)) ?_
   clear a E;intro a E
   refine sv E rfl rfl rfl (x_ldB (i := 0) E H rfl rfl rfl rfl Tryd.underlying28 rfl) ?_
   clear a E;intro a E
   refine sv E rfl rfl rfl (x_bin E rfl rfl rfl rfl) ?_
   clear a E;intro a E
   refine wpList_nil ?_
   refine q_then ?_
   refine wp_if E rfl ?_ ?_
   ·intro hb
    rw [if_t hb] at hm
    clear hb
    refine wp_seq ?_
    refine wp_region_lit ?_
    refine sv E rfl rfl rfl (x_move E rfl rfl) ?_
    clear a E;intro a E
    refine sv E rfl rfl rfl (x_assign E rfl rfl) ?_
    clear a E;intro a E
    refine wpList_nil ?_
    refine q_then ?_
    refine wp_ret ?_
    refine q_thenR ?_
    refine out1 E rfl rfl ?_
    replace H := H.drop 0
    replace H := H.drop 0
    obtain rfl := Option.some.inj hm
    exact ⟨rfl, H.reads (fun r hr => .tail _ (.tail _ (hs11 r hr)))⟩
   ·intro hb
    rw [if_f hb] at hm
    clear hb
    refine wp_skip ?_
    refine q_then ?_
    refine wp_seq ?_
    refine wp_region_lit ?_
    refine sv E rfl rfl rfl (x_move E rfl rfl) ?_
    clear a E;intro a E
    refine sv E rfl rfl rfl (x_fa E rfl rfl (v := .pointer (some ⟨p18, 1, none⟩)) (fa31_1 _ _)) ?_
    clear a E;intro a E
    refine sv E rfl rfl rfl (x_ldB (i := 0) E H rfl rfl rfl rfl Tryd.underlying9 rfl) ?_
    clear a E;intro a E
    obtain ⟨u21, hx22, hm⟩ := bnd hm
    refine st_call E (wn rfl) rfl rfl (x_call E rfl rfl (cf18 _)) (c_cantonref06_Find v16 u14.1 u14.2.Path H (.head _) hx22) ?_
    clear E H; clear a; clear w; rintro _ w ⟨rfl, H⟩ a E
    refine sv E rfl rfl rfl (x_move E rfl rfl) ?_
    clear a E;intro a E
    refine sv E rfl rfl rfl (x_ext E rfl rfl rfl) ?_
    clear a E;intro a E
    refine sv E rfl rfl rfl (x_ext E rfl rfl rfl) ?_
    clear a E;intro a E
    refine st_alloc E H (wn rfl) rfl rfl (cs := [.string (ByteArray.mk #[]), .string (ByteArray.mk #[]), .int .i64 0, .int .i64 0, .int .i64 0]) rfl (z := .agg #[.string ⟨#[]⟩, .string ⟨#[]⟩, .int .i64 0, .int .i64 0, .int .i64 0]) (by kernel_rfl) rfl ?_
    clear E H; clear a; clear w; intro p23 w a H E
    refine st_st (i := 0) E H (wn rfl) rfl (us := [.string u21.1.Path, .string u21.1.Data, .int .i64 u21.1.Version, .int .i64 u21.1.Turn, .int .i64 u21.1.Owner]) rfl rfl rfl rfl rfl sz39 rfl rfl ?_
    clear H; clear w; intro w H
    replace H : Sep w (Blk p23 39 [.string u21.1.Path, .string u21.1.Data, .int .i64 u21.1.Version, .int .i64 u21.1.Turn, .int .i64 u21.1.Owner] :: Blk p18 31 [.int .i64 u14.2.Err, .string u14.2.Path, .string u14.2.Data, .int .i64 u14.2.Version, (.slice q19 u14.2.Names.length x20)] :: Blk p6 24 [.int .i64 1, .string x3.Path, .string x3.Data, .int .i64 x3.Version, .int .i64 x3.Owner, .bool x3.Turns] :: Fo) _ := H
    refine sv E rfl rfl rfl (x_assign E rfl rfl) ?_
    clear a E;intro a E
    refine wpList_nil ?_
    refine q_then ?_
    refine wp_seq ?_
    refine wp_region_lit ?_
    refine sv E rfl rfl rfl (x_move E rfl rfl) ?_
    clear a E;intro a E
    refine sv E rfl rfl rfl (x_fa E rfl rfl (v := .pointer (some ⟨p18, 1, none⟩)) (fa31_1 _ _)) ?_
    clear a E;intro a E
    refine sv E rfl rfl rfl (x_ldB (i := 1) E H rfl rfl rfl rfl Tryd.underlying9 rfl) ?_
    clear a E;intro a E
    refine sv E rfl rfl rfl (x_build E (ps := [(0, .const (.int .i64 2)), (1, .tmp 47), (3, .const (.int .i64 0))]) (vs := [(0, .int .i64 2), (1, .string u14.2.Path), (3, .int .i64 0)]) rfl (by simp only [List.map]; rw [E.eval (x := .const (.int .i64 2)) (v := .int .i64 2) rfl, E.eval (x := .tmp 47) (v := .string u14.2.Path) rfl, E.eval (x := .const (.int .i64 0)) (v := .int .i64 0) rfl]) (v := .agg #[.int .i64 2, .string u14.2.Path, .string (ByteArray.mk #[]), .int .i64 0, .int .i64 0, .bool false]) (by kernel_rfl)) ?_
    clear a E;intro a E
    obtain ⟨u24, hx25, hm⟩ := bnd hm
    refine st_call E (wn rfl) rfl rfl (x_call E rfl rfl (cf14 _)) (c_nodes_Apply v16 u14.1 (⟨2, u14.2.Path, (ByteArray.mk #[]), 0, 0, false⟩ : S_api_Op) H (.head _) (.tail _ (.tail _ hr13)) hx25) ?_
    clear E H; clear a; clear w; rintro _ w ⟨v26, v27, rfl, H⟩ a E
    refine sv E rfl rfl rfl (x_move E rfl rfl) ?_
    clear a E;intro a E
    refine sv E rfl rfl rfl (x_ext E rfl rfl rfl) ?_
    clear a E;intro a E
    refine sv E rfl rfl rfl (x_ext E rfl rfl rfl) ?_
    clear a E;intro a E
    refine st_alloc E H (wn rfl) rfl rfl (cs := [.int .i64 0, .string (ByteArray.mk #[]), .string (ByteArray.mk #[]), .int .i64 0, .slice none 0 0]) rfl (z := .agg #[.int .i64 0, .string ⟨#[]⟩, .string ⟨#[]⟩, .int .i64 0, .slice none 0 0]) (by kernel_rfl) rfl ?_
    clear E H; clear a; clear w; intro p28 w a H E
    refine sv E rfl rfl rfl (x_assign E rfl rfl) ?_
    clear a E;intro a E
    obtain ⟨q29, x30, rfl⟩ := H.slform (.tail _ (.head _))
    refine st_st (i := 0) E H (wn rfl) rfl (us := [.int .i64 u24.2.Err, .string u24.2.Path, .string u24.2.Data, .int .i64 u24.2.Version, (.slice q29 u24.2.Names.length x30)]) rfl rfl rfl rfl rfl sz31 rfl rfl ?_
    clear H; clear w; intro w H
    replace H : Sep w (Blk p28 31 [.int .i64 u24.2.Err, .string u24.2.Path, .string u24.2.Data, .int .i64 u24.2.Version, (.slice q29 u24.2.Names.length x30)] :: Blk p23 39 [.string u21.1.Path, .string u21.1.Data, .int .i64 u21.1.Version, .int .i64 u21.1.Turn, .int .i64 u21.1.Owner] :: Blk p18 31 [.int .i64 u14.2.Err, .string u14.2.Path, .string u14.2.Data, .int .i64 u14.2.Version, (.slice q19 u14.2.Names.length x20)] :: Blk p6 24 [.int .i64 1, .string x3.Path, .string x3.Data, .int .i64 x3.Version, .int .i64 x3.Owner, .bool x3.Turns] :: Fo) _ := H
    refine wpList_nil ?_
    refine q_then ?_
    refine wp_seq ?_
    refine wp_region_lit ?_
    refine sv E rfl rfl rfl (x_move E rfl rfl) ?_
    clear a E;intro a E
    refine sv E rfl rfl rfl (x_fa E rfl rfl (v := .pointer (some ⟨p18, 1, none⟩)) (fa31_1 _ _)) ?_
    clear a E;intro a E
    refine sv E rfl rfl rfl (x_ldB (i := 2) E H rfl rfl rfl rfl Tryd.underlying9 rfl) ?_
    clear a E;intro a E
    obtain ⟨u31, hx32, hm⟩ := bnd hm
    refine st_call E (wn rfl) rfl rfl (x_call E rfl rfl (cf18 _)) (c_cantonref06_Find v26 u24.1 u14.2.Path H (.head _) hx32) ?_
    clear E H; clear a; clear w; rintro _ w ⟨rfl, H⟩ a E
    refine sv E rfl rfl rfl (x_move E rfl rfl) ?_
    clear a E;intro a E
    refine sv E rfl rfl rfl (x_ext E rfl rfl rfl) ?_
    clear a E;intro a E
    refine sv E rfl rfl rfl (x_ext E rfl rfl rfl) ?_
    clear a E;intro a E
    refine st_alloc E H (wn rfl) rfl rfl (cs := [.string (ByteArray.mk #[]), .string (ByteArray.mk #[]), .int .i64 0, .int .i64 0, .int .i64 0]) rfl (z := .agg #[.string ⟨#[]⟩, .string ⟨#[]⟩, .int .i64 0, .int .i64 0, .int .i64 0]) (by kernel_rfl) rfl ?_
    clear E H; clear a; clear w; intro p33 w a H E
    refine st_st (i := 0) E H (wn rfl) rfl (us := [.string u31.1.Path, .string u31.1.Data, .int .i64 u31.1.Version, .int .i64 u31.1.Turn, .int .i64 u31.1.Owner]) rfl rfl rfl rfl rfl sz39 rfl rfl ?_
    clear H; clear w; intro w H
    replace H : Sep w (Blk p33 39 [.string u31.1.Path, .string u31.1.Data, .int .i64 u31.1.Version, .int .i64 u31.1.Turn, .int .i64 u31.1.Owner] :: Blk p28 31 [.int .i64 u24.2.Err, .string u24.2.Path, .string u24.2.Data, .int .i64 u24.2.Version, (.slice q29 u24.2.Names.length x30)] :: Blk p23 39 [.string u21.1.Path, .string u21.1.Data, .int .i64 u21.1.Version, .int .i64 u21.1.Turn, .int .i64 u21.1.Owner] :: Blk p18 31 [.int .i64 u14.2.Err, .string u14.2.Path, .string u14.2.Data, .int .i64 u14.2.Version, (.slice q19 u14.2.Names.length x20)] :: Blk p6 24 [.int .i64 1, .string x3.Path, .string x3.Data, .int .i64 x3.Version, .int .i64 x3.Owner, .bool x3.Turns] :: Fo) _ := H
    refine sv E rfl rfl rfl (x_assign E rfl rfl) ?_
    clear a E;intro a E
    refine wpList_nil ?_
    refine q_then ?_
    refine wp_seq ?_
    refine wp_seq_cut (fun a w => ∃ (b34 : Bool) (rs35 : List Rp), Env 130 a [(0, v1), (3, .pointer (some ⟨p6, 0, none⟩)), (5, .bool u7), (10, v26), (94, .bool b34)] ∧ Sep w (Blk p6 24 [.int .i64 1, .string x3.Path, .string x3.Data, .int .i64 x3.Version, .int .i64 x3.Owner, .bool x3.Turns] :: Fo) rs35 ∧ (∀ r, r ∈ rs → r ∈ rs35) ∧ rSl k_api_Node v1 l2 ∈ rs35 ∧ rSl k_api_Node v26 u24.1 ∈ rs35 ∧ rTab Tryd.prog ∈ rs35 ∧ m_cantonlaw06_NodesBoth_j2 l2 u24 x3 u7 b34 = some r) ?_ ?_
    ·refine wp_region_lit ?_
     refine sv E rfl rfl rfl (x_move E rfl rfl) ?_
     clear a E;intro a E
     refine sv E rfl rfl rfl (x_not E rfl rfl) ?_
     clear a E;intro a E
     refine sv E rfl rfl rfl (x_move E rfl rfl) ?_
     clear a E;intro a E
     rcases Bool.eq_false_or_eq_true (!u21.2) with hb73 | hb73
     ·rw [if_t hb73] at hm
      refine st_no E (wf' E rfl rfl rfl rfl hb73 rfl) rfl rfl ?_
      clear a E;intro a E
      refine st_no E (wf' E rfl rfl rfl rfl hb73 rfl) rfl rfl ?_
      clear a E;intro a E
      refine st_no E (wf' E rfl rfl rfl rfl hb73 rfl) rfl rfl ?_
      clear a E;intro a E
      refine st_no E (wf' E rfl rfl rfl rfl hb73 rfl) rfl rfl ?_
      clear a E;intro a E
      refine st_no E (wf' E rfl rfl rfl rfl hb73 rfl) rfl rfl ?_
      clear a E;intro a E
      refine sv E rfl rfl rfl (x_pickT E rfl rfl hb73 rfl) ?_
      clear a E;intro a E
      refine sv E rfl rfl rfl (x_move E rfl rfl) ?_
      clear a E;intro a E
      refine st_no E (wf E rfl rfl rfl rfl rfl) rfl rfl ?_
      clear a E;intro a E
      refine st_no E (wf E rfl rfl rfl rfl rfl) rfl rfl ?_
      clear a E;intro a E
      refine st_no E (wf E rfl rfl rfl rfl rfl) rfl rfl ?_
      clear a E;intro a E
      refine st_no E (wf E rfl rfl rfl rfl rfl) rfl rfl ?_
      clear a E;intro a E
      refine st_no E (wf E rfl rfl rfl rfl rfl) rfl rfl ?_
      clear a E;intro a E
      refine sv E rfl rfl rfl (x_pickT E rfl rfl rfl rfl) ?_
      clear a E;intro a E
      refine sv E rfl rfl rfl (x_move E rfl rfl) ?_
      clear a E;intro a E
      refine st_no E (wf E rfl rfl rfl rfl rfl) rfl rfl ?_
      clear a E;intro a E
      refine st_no E (wf E rfl rfl rfl rfl rfl) rfl rfl ?_
      clear a E;intro a E
      refine st_no E (wf E rfl rfl rfl rfl rfl) rfl rfl ?_
      clear a E;intro a E
      refine sv E rfl rfl rfl (x_pickT E rfl rfl rfl rfl) ?_
      clear a E;intro a E
      refine sv E rfl rfl rfl (x_move E rfl rfl) ?_
      clear a E;intro a E
      refine st_no E (wf E rfl rfl rfl rfl rfl) rfl rfl ?_
      clear a E;intro a E
      refine st_no E (wf E rfl rfl rfl rfl rfl) rfl rfl ?_
      clear a E;intro a E
      refine st_no E (wf E rfl rfl rfl rfl rfl) rfl rfl ?_
      clear a E;intro a E
      refine sv E rfl rfl rfl (x_pickT E rfl rfl rfl rfl) ?_
      clear a E;intro a E
      refine sv E rfl rfl rfl (x_move E rfl rfl) ?_
      clear a E;intro a E
      refine st_no E (wf E rfl rfl rfl rfl rfl) rfl rfl ?_
      clear a E;intro a E
      refine sv E rfl rfl rfl (x_pickT E rfl rfl rfl rfl) ?_
      clear a E;intro a E
      refine sv E rfl rfl rfl (x_move E rfl rfl) ?_
      clear a E;intro a E
      refine st_no E (wf E rfl rfl rfl rfl rfl) rfl rfl ?_
      clear a E;intro a E
      refine st_no E (wf E rfl rfl rfl rfl rfl) rfl rfl ?_
      clear a E;intro a E
      refine st_no E (wf E rfl rfl rfl rfl rfl) rfl rfl ?_
      clear a E;intro a E
      refine st_no E (wf E rfl rfl rfl rfl rfl) rfl rfl ?_
      clear a E;intro a E
      refine st_no E (wf E rfl rfl rfl rfl rfl) rfl rfl ?_
      clear a E;intro a E
      refine sv E rfl rfl rfl (x_pickT E rfl rfl rfl rfl) ?_
      clear a E;intro a E
      refine wpList_nil ?_
      refine q_then ?_
      replace H := H.drop 0
      replace H := H.drop 0
      replace H := H.drop 0
      replace H := H.drop 0
      exact ⟨true, _, (((((E.nil.keep E 94 rfl).keep E 10 rfl).keep E 5 rfl).keep E 3 rfl).keep E 0 rfl), H, fun r hr => .tail _ (.tail _ (.tail _ (.tail _ (hs11 r hr)))), (.tail _ (.tail _ (.tail _ (.tail _ hr12)))), (.head _), (.tail _ (.tail _ (.tail _ (.tail _ hr13)))), hm⟩
     ·rw [if_f hb73] at hm
      refine st_val E (ws' E rfl rfl rfl rfl hb73) rfl rfl (x_fa E rfl rfl (v := .pointer (some ⟨p23, 1, none⟩)) (fa39_1 _ _)) ?_
      clear a E;intro a E
      refine st_val E (ws' E rfl rfl rfl rfl hb73) rfl rfl (x_ldB (i := 2) E H rfl rfl rfl rfl Tryd.underlying9 rfl) ?_
      clear a E;intro a E
      refine st_val E (ws' E rfl rfl rfl rfl hb73) rfl rfl (x_fa E rfl rfl (v := .pointer (some ⟨p6, 2, none⟩)) (fa24_2 _ _)) ?_
      clear a E;intro a E
      refine st_val E (ws' E rfl rfl rfl rfl hb73) rfl rfl (x_ldB (i := 4) E H rfl rfl rfl rfl Tryd.underlying9 rfl) ?_
      clear a E;intro a E
      refine st_val E (ws' E rfl rfl rfl rfl hb73) rfl rfl (x_str E rfl rfl rfl rfl) ?_
      clear a E;intro a E
      refine sv E rfl rfl rfl (x_pickF E rfl rfl hb73 rfl) ?_
      clear a E;intro a E
      refine sv E rfl rfl rfl (x_move E rfl rfl) ?_
      clear a E;intro a E
      rcases Bool.eq_false_or_eq_true (!(sEq u21.1.Data x3.Data)) with hb74 | hb74
      ·rw [if_t hb74] at hm
       refine st_no E (wf' E rfl rfl rfl rfl hb74 rfl) rfl rfl ?_
       clear a E;intro a E
       refine st_no E (wf' E rfl rfl rfl rfl hb74 rfl) rfl rfl ?_
       clear a E;intro a E
       refine st_no E (wf' E rfl rfl rfl rfl hb74 rfl) rfl rfl ?_
       clear a E;intro a E
       refine st_no E (wf' E rfl rfl rfl rfl hb74 rfl) rfl rfl ?_
       clear a E;intro a E
       refine st_no E (wf' E rfl rfl rfl rfl hb74 rfl) rfl rfl ?_
       clear a E;intro a E
       refine sv E rfl rfl rfl (x_pickT E rfl rfl hb74 rfl) ?_
       clear a E;intro a E
       refine sv E rfl rfl rfl (x_move E rfl rfl) ?_
       clear a E;intro a E
       refine st_no E (wf E rfl rfl rfl rfl rfl) rfl rfl ?_
       clear a E;intro a E
       refine st_no E (wf E rfl rfl rfl rfl rfl) rfl rfl ?_
       clear a E;intro a E
       refine st_no E (wf E rfl rfl rfl rfl rfl) rfl rfl ?_
       clear a E;intro a E
       refine sv E rfl rfl rfl (x_pickT E rfl rfl rfl rfl) ?_
       clear a E;intro a E
       refine sv E rfl rfl rfl (x_move E rfl rfl) ?_
       clear a E;intro a E
       refine st_no E (wf E rfl rfl rfl rfl rfl) rfl rfl ?_
       clear a E;intro a E
       refine st_no E (wf E rfl rfl rfl rfl rfl) rfl rfl ?_
       clear a E;intro a E
       refine st_no E (wf E rfl rfl rfl rfl rfl) rfl rfl ?_
       clear a E;intro a E
       refine sv E rfl rfl rfl (x_pickT E rfl rfl rfl rfl) ?_
       clear a E;intro a E
       refine sv E rfl rfl rfl (x_move E rfl rfl) ?_
       clear a E;intro a E
       refine st_no E (wf E rfl rfl rfl rfl rfl) rfl rfl ?_
       clear a E;intro a E
       refine sv E rfl rfl rfl (x_pickT E rfl rfl rfl rfl) ?_
       clear a E;intro a E
       refine sv E rfl rfl rfl (x_move E rfl rfl) ?_
       clear a E;intro a E
       refine st_no E (wf E rfl rfl rfl rfl rfl) rfl rfl ?_
       clear a E;intro a E
       refine st_no E (wf E rfl rfl rfl rfl rfl) rfl rfl ?_
       clear a E;intro a E
       refine st_no E (wf E rfl rfl rfl rfl rfl) rfl rfl ?_
       clear a E;intro a E
       refine st_no E (wf E rfl rfl rfl rfl rfl) rfl rfl ?_
       clear a E;intro a E
       refine st_no E (wf E rfl rfl rfl rfl rfl) rfl rfl ?_
       clear a E;intro a E
       refine sv E rfl rfl rfl (x_pickT E rfl rfl rfl rfl) ?_
       clear a E;intro a E
       refine wpList_nil ?_
       refine q_then ?_
       replace H := H.drop 0
       replace H := H.drop 0
       replace H := H.drop 0
       replace H := H.drop 0
       exact ⟨true, _, (((((E.nil.keep E 94 rfl).keep E 10 rfl).keep E 5 rfl).keep E 3 rfl).keep E 0 rfl), H, fun r hr => .tail _ (.tail _ (.tail _ (.tail _ (hs11 r hr)))), (.tail _ (.tail _ (.tail _ (.tail _ hr12)))), (.head _), (.tail _ (.tail _ (.tail _ (.tail _ hr13)))), hm⟩
      ·rw [if_f hb74] at hm
       refine st_val E (ws' E rfl rfl rfl rfl hb74) rfl rfl (x_fa E rfl rfl (v := .pointer (some ⟨p23, 4, none⟩)) (fa39_4 _ _)) ?_
       clear a E;intro a E
       refine st_val E (ws' E rfl rfl rfl rfl hb74) rfl rfl (x_ldB (i := 2) E H rfl rfl rfl rfl Tryd.underlying2 rfl) ?_
       clear a E;intro a E
       refine st_val E (ws' E rfl rfl rfl rfl hb74) rfl rfl (x_fa E rfl rfl (v := .pointer (some ⟨p6, 4, none⟩)) (fa24_4 _ _)) ?_
       clear a E;intro a E
       refine st_val E (ws' E rfl rfl rfl rfl hb74) rfl rfl (x_ldB (i := 4) E H rfl rfl rfl rfl Tryd.underlying2 rfl) ?_
       clear a E;intro a E
       refine st_val E (ws' E rfl rfl rfl rfl hb74) rfl rfl (x_bin E rfl rfl rfl rfl) ?_
       clear a E;intro a E
       refine sv E rfl rfl rfl (x_pickF E rfl rfl hb74 rfl) ?_
       clear a E;intro a E
       refine sv E rfl rfl rfl (x_move E rfl rfl) ?_
       clear a E;intro a E
       rcases Bool.eq_false_or_eq_true (u21.1.Owner != x3.Owner) with hb75 | hb75
       ·rw [if_t hb75] at hm
        refine st_no E (wf' E rfl rfl rfl rfl hb75 rfl) rfl rfl ?_
        clear a E;intro a E
        refine st_no E (wf' E rfl rfl rfl rfl hb75 rfl) rfl rfl ?_
        clear a E;intro a E
        refine st_no E (wf' E rfl rfl rfl rfl hb75 rfl) rfl rfl ?_
        clear a E;intro a E
        refine sv E rfl rfl rfl (x_pickT E rfl rfl hb75 rfl) ?_
        clear a E;intro a E
        refine sv E rfl rfl rfl (x_move E rfl rfl) ?_
        clear a E;intro a E
        refine st_no E (wf E rfl rfl rfl rfl rfl) rfl rfl ?_
        clear a E;intro a E
        refine st_no E (wf E rfl rfl rfl rfl rfl) rfl rfl ?_
        clear a E;intro a E
        refine st_no E (wf E rfl rfl rfl rfl rfl) rfl rfl ?_
        clear a E;intro a E
        refine sv E rfl rfl rfl (x_pickT E rfl rfl rfl rfl) ?_
        clear a E;intro a E
        refine sv E rfl rfl rfl (x_move E rfl rfl) ?_
        clear a E;intro a E
        refine st_no E (wf E rfl rfl rfl rfl rfl) rfl rfl ?_
        clear a E;intro a E
        refine sv E rfl rfl rfl (x_pickT E rfl rfl rfl rfl) ?_
        clear a E;intro a E
        refine sv E rfl rfl rfl (x_move E rfl rfl) ?_
        clear a E;intro a E
        refine st_no E (wf E rfl rfl rfl rfl rfl) rfl rfl ?_
        clear a E;intro a E
        refine st_no E (wf E rfl rfl rfl rfl rfl) rfl rfl ?_
        clear a E;intro a E
        refine st_no E (wf E rfl rfl rfl rfl rfl) rfl rfl ?_
        clear a E;intro a E
        refine st_no E (wf E rfl rfl rfl rfl rfl) rfl rfl ?_
        clear a E;intro a E
        refine st_no E (wf E rfl rfl rfl rfl rfl) rfl rfl ?_
        clear a E;intro a E
        refine sv E rfl rfl rfl (x_pickT E rfl rfl rfl rfl) ?_
        clear a E;intro a E
        refine wpList_nil ?_
        refine q_then ?_
        replace H := H.drop 0
        replace H := H.drop 0
        replace H := H.drop 0
        replace H := H.drop 0
        exact ⟨true, _, (((((E.nil.keep E 94 rfl).keep E 10 rfl).keep E 5 rfl).keep E 3 rfl).keep E 0 rfl), H, fun r hr => .tail _ (.tail _ (.tail _ (.tail _ (hs11 r hr)))), (.tail _ (.tail _ (.tail _ (.tail _ hr12)))), (.head _), (.tail _ (.tail _ (.tail _ (.tail _ hr13)))), hm⟩
       ·rw [if_f hb75] at hm
        refine st_val E (ws' E rfl rfl rfl rfl hb75) rfl rfl (x_fa E rfl rfl (v := .pointer (some ⟨p23, 2, none⟩)) (fa39_2 _ _)) ?_
        clear a E;intro a E
        refine st_val E (ws' E rfl rfl rfl rfl hb75) rfl rfl (x_ldB (i := 2) E H rfl rfl rfl rfl Tryd.underlying2 rfl) ?_
        clear a E;intro a E
        refine st_val E (ws' E rfl rfl rfl rfl hb75) rfl rfl (x_bin E rfl rfl rfl rfl) ?_
        clear a E;intro a E
        refine sv E rfl rfl rfl (x_pickF E rfl rfl hb75 rfl) ?_
        clear a E;intro a E
        refine sv E rfl rfl rfl (x_move E rfl rfl) ?_
        clear a E;intro a E
        rcases Bool.eq_false_or_eq_true (u21.1.Version != 0) with hb76 | hb76
        ·rw [if_t hb76] at hm
         refine st_no E (wf' E rfl rfl rfl rfl hb76 rfl) rfl rfl ?_
         clear a E;intro a E
         refine st_no E (wf' E rfl rfl rfl rfl hb76 rfl) rfl rfl ?_
         clear a E;intro a E
         refine st_no E (wf' E rfl rfl rfl rfl hb76 rfl) rfl rfl ?_
         clear a E;intro a E
         refine sv E rfl rfl rfl (x_pickT E rfl rfl hb76 rfl) ?_
         clear a E;intro a E
         refine sv E rfl rfl rfl (x_move E rfl rfl) ?_
         clear a E;intro a E
         refine st_no E (wf E rfl rfl rfl rfl rfl) rfl rfl ?_
         clear a E;intro a E
         refine sv E rfl rfl rfl (x_pickT E rfl rfl rfl rfl) ?_
         clear a E;intro a E
         refine sv E rfl rfl rfl (x_move E rfl rfl) ?_
         clear a E;intro a E
         refine st_no E (wf E rfl rfl rfl rfl rfl) rfl rfl ?_
         clear a E;intro a E
         refine st_no E (wf E rfl rfl rfl rfl rfl) rfl rfl ?_
         clear a E;intro a E
         refine st_no E (wf E rfl rfl rfl rfl rfl) rfl rfl ?_
         clear a E;intro a E
         refine st_no E (wf E rfl rfl rfl rfl rfl) rfl rfl ?_
         clear a E;intro a E
         refine st_no E (wf E rfl rfl rfl rfl rfl) rfl rfl ?_
         clear a E;intro a E
         refine sv E rfl rfl rfl (x_pickT E rfl rfl rfl rfl) ?_
         clear a E;intro a E
         refine wpList_nil ?_
         refine q_then ?_
         replace H := H.drop 0
         replace H := H.drop 0
         replace H := H.drop 0
         replace H := H.drop 0
         exact ⟨true, _, (((((E.nil.keep E 94 rfl).keep E 10 rfl).keep E 5 rfl).keep E 3 rfl).keep E 0 rfl), H, fun r hr => .tail _ (.tail _ (.tail _ (.tail _ (hs11 r hr)))), (.tail _ (.tail _ (.tail _ (.tail _ hr12)))), (.head _), (.tail _ (.tail _ (.tail _ (.tail _ hr13)))), hm⟩
        ·rw [if_f hb76] at hm
         refine st_val E (ws' E rfl rfl rfl rfl hb76) rfl rfl (x_fa E rfl rfl (v := .pointer (some ⟨p28, 0, none⟩)) (fa31_0 _ _)) ?_
         clear a E;intro a E
         refine st_val E (ws' E rfl rfl rfl rfl hb76) rfl rfl (x_ldB (i := 1) E H rfl rfl rfl rfl Tryd.underlying28 rfl) ?_
         clear a E;intro a E
         refine st_val E (ws' E rfl rfl rfl rfl hb76) rfl rfl (x_bin E rfl rfl rfl rfl) ?_
         clear a E;intro a E
         refine sv E rfl rfl rfl (x_pickF E rfl rfl hb76 rfl) ?_
         clear a E;intro a E
         refine sv E rfl rfl rfl (x_move E rfl rfl) ?_
         clear a E;intro a E
         rcases Bool.eq_false_or_eq_true (u24.2.Err != 0) with hb77 | hb77
         ·rw [if_t hb77] at hm
          refine st_no E (wf' E rfl rfl rfl rfl hb77 rfl) rfl rfl ?_
          clear a E;intro a E
          refine sv E rfl rfl rfl (x_pickT E rfl rfl hb77 rfl) ?_
          clear a E;intro a E
          refine sv E rfl rfl rfl (x_move E rfl rfl) ?_
          clear a E;intro a E
          refine st_no E (wf E rfl rfl rfl rfl rfl) rfl rfl ?_
          clear a E;intro a E
          refine st_no E (wf E rfl rfl rfl rfl rfl) rfl rfl ?_
          clear a E;intro a E
          refine st_no E (wf E rfl rfl rfl rfl rfl) rfl rfl ?_
          clear a E;intro a E
          refine st_no E (wf E rfl rfl rfl rfl rfl) rfl rfl ?_
          clear a E;intro a E
          refine st_no E (wf E rfl rfl rfl rfl rfl) rfl rfl ?_
          clear a E;intro a E
          refine sv E rfl rfl rfl (x_pickT E rfl rfl rfl rfl) ?_
          clear a E;intro a E
          refine wpList_nil ?_
          refine q_then ?_
          replace H := H.drop 0
          replace H := H.drop 0
          replace H := H.drop 0
          replace H := H.drop 0
          exact ⟨true, _, (((((E.nil.keep E 94 rfl).keep E 10 rfl).keep E 5 rfl).keep E 3 rfl).keep E 0 rfl), H, fun r hr => .tail _ (.tail _ (.tail _ (.tail _ (hs11 r hr)))), (.tail _ (.tail _ (.tail _ (.tail _ hr12)))), (.head _), (.tail _ (.tail _ (.tail _ (.tail _ hr13)))), hm⟩
         ·rw [if_f hb77] at hm
          refine st_val E (ws' E rfl rfl rfl rfl hb77) rfl rfl (x_move E rfl rfl) ?_
          clear a E;intro a E
          refine sv E rfl rfl rfl (x_pickF E rfl rfl hb77 rfl) ?_
          clear a E;intro a E
          refine sv E rfl rfl rfl (x_move E rfl rfl) ?_
          clear a E;intro a E
          rcases Bool.eq_false_or_eq_true u31.2 with hb78 | hb78
          ·rw [if_t hb78] at hm
           refine st_no E (wf' E rfl rfl rfl rfl hb78 rfl) rfl rfl ?_
           clear a E;intro a E
           refine st_no E (wf' E rfl rfl rfl rfl hb78 rfl) rfl rfl ?_
           clear a E;intro a E
           refine st_no E (wf' E rfl rfl rfl rfl hb78 rfl) rfl rfl ?_
           clear a E;intro a E
           refine st_no E (wf' E rfl rfl rfl rfl hb78 rfl) rfl rfl ?_
           clear a E;intro a E
           refine st_no E (wf' E rfl rfl rfl rfl hb78 rfl) rfl rfl ?_
           clear a E;intro a E
           refine sv E rfl rfl rfl (x_pickT E rfl rfl hb78 rfl) ?_
           clear a E;intro a E
           refine wpList_nil ?_
           refine q_then ?_
           replace H := H.drop 0
           replace H := H.drop 0
           replace H := H.drop 0
           replace H := H.drop 0
           exact ⟨true, _, (((((E.nil.keep E 94 rfl).keep E 10 rfl).keep E 5 rfl).keep E 3 rfl).keep E 0 rfl), H, fun r hr => .tail _ (.tail _ (.tail _ (.tail _ (hs11 r hr)))), (.tail _ (.tail _ (.tail _ (.tail _ hr12)))), (.head _), (.tail _ (.tail _ (.tail _ (.tail _ hr13)))), hm⟩
          ·rw [if_f hb78] at hm
           refine st_val E (ws' E rfl rfl rfl rfl hb78) rfl rfl (x_move E rfl rfl) ?_
           clear a E;intro a E
           refine st_val E (ws' E rfl rfl rfl rfl hb78) rfl rfl (x_lenS E H rfl rfl (.head _) Tryd.underlying22) ?_
           clear a E;intro a E
           refine st_val E (ws' E rfl rfl rfl rfl hb78) rfl rfl (x_move E rfl rfl) ?_
           clear a E;intro a E
           refine st_val E (ws' E rfl rfl rfl rfl hb78) rfl rfl (x_lenS E H rfl rfl (.tail _ (.tail _ (.tail _ (.tail _ hr12)))) Tryd.underlying22) ?_
           clear a E;intro a E
           refine st_val E (ws' E rfl rfl rfl rfl hb78) rfl rfl (x_bin E rfl rfl rfl rfl) ?_
           clear a E;intro a E
           refine sv E rfl rfl rfl (x_pickF E rfl rfl hb78 rfl) ?_
           clear a E;intro a E
           refine wpList_nil ?_
           refine q_then ?_
           replace H := H.drop 0
           replace H := H.drop 0
           replace H := H.drop 0
           replace H := H.drop 0
           exact ⟨(u24.1.length : Int) != (l2.length : Int), _, (((((E.nil.keep E 94 rfl).keep E 10 rfl).keep E 5 rfl).keep E 3 rfl).keep E 0 rfl), H, fun r hr => .tail _ (.tail _ (.tail _ (.tail _ (hs11 r hr)))), (.tail _ (.tail _ (.tail _ (.tail _ hr12)))), (.head _), (.tail _ (.tail _ (.tail _ (.tail _ hr13)))), hm⟩
    ·clear E H hm
     rintro a w ⟨b34, rs35, E, H, hs36, hr37, hr38, hr39, hm⟩
     unfold m_cantonlaw06_NodesBoth_j2 at hm
     refine wp_if E rfl ?_ ?_
     ·intro hb
      rw [if_t hb] at hm
      clear hb
      refine wp_seq ?_
      refine wp_region_lit ?_
      refine sv E rfl rfl rfl (x_assign E rfl rfl) ?_
      clear a E;intro a E
      refine wpList_nil ?_
      refine q_then ?_
      refine wp_ret ?_
      refine q_thenR ?_
      refine out1 E rfl rfl ?_
      replace H := H.drop 0
      obtain rfl := Option.some.inj hm
      exact ⟨rfl, H.reads (fun r hr => hs36 r hr)⟩
     ·intro hb
      rw [if_f hb] at hm
      clear hb
      refine wp_skip ?_
      refine q_then ?_
      refine wp_seq ?_
      refine wp_region_lit ?_
      refine sv E rfl rfl rfl (x_fa E rfl rfl (v := .pointer (some ⟨p6, 1, none⟩)) (fa24_1 _ _)) ?_
      clear a E;intro a E
      refine sv E rfl rfl rfl (x_ldB (i := 0) E H rfl rfl rfl rfl Tryd.underlying9 rfl) ?_
      clear a E;intro a E
      obtain ⟨u40, hx41, hm⟩ := bnd hm
      refine st_call E (wn rfl) rfl rfl (x_call E rfl rfl (cf16 _)) (c_cantonref01_Parent x3.Path H hx41) ?_
      clear E H; clear a; clear w; rintro _ w ⟨rfl, H⟩ a E
      refine sv E rfl rfl rfl (x_move E rfl rfl) ?_
      clear a E;intro a E
      refine sv E rfl rfl rfl (x_ext E rfl rfl rfl) ?_
      clear a E;intro a E
      refine sv E rfl rfl rfl (x_ext E rfl rfl rfl) ?_
      clear a E;intro a E
      refine sv E rfl rfl rfl (x_assign E rfl rfl) ?_
      clear a E;intro a E
      refine sv E rfl rfl rfl (x_assign E rfl rfl) ?_
      clear a E;intro a E
      refine wpList_nil ?_
      refine q_then ?_
      refine wp_seq ?_
      refine wp_seq ?_
      refine wp_region_lit ?_
      refine sv E rfl rfl rfl (x_assign E rfl rfl) ?_
      clear a E;intro a E
      refine wpList_nil ?_
      refine q_then ?_
      refine wp_block ?_
      refine wp_loop_g (fun k1 a w => ∃ (x42 : Int) (rs43 : List Rp), Env 130 a [(0, v1), (3, .pointer (some ⟨p6, 0, none⟩)), (5, .bool u7), (10, v26), (14, .string u40.1), (16, .int .i64 x42)] ∧ Sep w (Blk p6 24 [.int .i64 1, .string x3.Path, .string x3.Data, .int .i64 x3.Version, .int .i64 x3.Owner, .bool x3.Turns] :: Fo) rs43 ∧ (∀ r, r ∈ rs → r ∈ rs43) ∧ rSl k_api_Node v1 l2 ∈ rs43 ∧ rSl k_api_Node v26 u24.1 ∈ rs43 ∧ rTab Tryd.prog ∈ rs43 ∧ m_cantonlaw06_NodesBoth_l1 l2 u24 u40 x3 u7 k1 x42 = some r) (((l2.length : Int) - 0 : Int).toNat + 1) ?_ ?_
      ·exact ⟨0, _, ((((((E.nil.keep E 16 rfl).keep E 14 rfl).keep E 10 rfl).keep E 5 rfl).keep E 3 rfl).keep E 0 rfl), H, hs36, hr37, hr38, hr39, hm⟩
      ·clear E H hm
       rintro k1 a w ⟨x42, rs43, E, H, hs44, hr45, hr46, hr47, hm⟩
       cases k1 with
       | zero => exact (none_some hm rfl).elim
       | succ k1 =>
        unfold m_cantonlaw06_NodesBoth_l1 at hm
        refine wp_seq ?_
        refine wp_seq ?_
        refine wp_region_lit ?_
        refine sv E rfl rfl rfl (x_move E rfl rfl) ?_
        clear a E;intro a E
        refine sv E rfl rfl rfl (x_move E rfl rfl) ?_
        clear a E;intro a E
        refine sv E rfl rfl rfl (x_lenS E H rfl rfl hr45 Tryd.underlying22) ?_
        clear a E;intro a E
        refine sv E rfl rfl rfl (x_bin E rfl rfl rfl rfl) ?_
        clear a E;intro a E
        refine wpList_nil ?_
        refine q_then ?_
        refine wp_if E rfl ?_ ?_
        ·intro hb
         rw [if_t hb] at hm
         clear hb
         refine wp_skip ?_
         refine q_then ?_
         refine wp_seq ?_
         refine wp_block ?_
         refine wp_seq ?_
         refine wp_region_lit ?_
         refine sv E rfl rfl rfl (x_move E rfl rfl) ?_
         clear a E;intro a E
         refine sv E rfl rfl rfl (x_move E rfl rfl) ?_
         clear a E;intro a E
         obtain ⟨x48, hx49, hm⟩ := bnd hm
         refine st_ixS E H (wn rfl) rfl rfl rfl rfl rfl hr46 Tryd.underlying22 sz39 hx49 ?_
         clear E H; clear a; intro q50 a H E
         refine st_ldN E H (wn rfl) rfl rfl rfl rfl (.head _) Tryd.underlying39 rfl sz39 ?_
         clear E H; clear a; intro u51 a H E
         obtain ⟨_, hcs⟩ := H.rd (.head _)
         obtain rfl := k_api_Node_open hcs
         clear hcs
         refine st_alloc E H (wn rfl) rfl rfl (cs := [.string (ByteArray.mk #[]), .string (ByteArray.mk #[]), .int .i64 0, .int .i64 0, .int .i64 0]) rfl (z := .agg #[.string ⟨#[]⟩, .string ⟨#[]⟩, .int .i64 0, .int .i64 0, .int .i64 0]) (by kernel_rfl) rfl ?_
         clear E H; clear a; clear w; intro p52 w a H E
         refine st_st (i := 0) E H (wn rfl) rfl (us := [.string x48.Path, .string x48.Data, .int .i64 x48.Version, .int .i64 x48.Turn, .int .i64 x48.Owner]) rfl rfl rfl rfl rfl sz39 rfl rfl ?_
         clear H; clear w; intro w H
         replace H : Sep w (Blk p52 39 [.string x48.Path, .string x48.Data, .int .i64 x48.Version, .int .i64 x48.Turn, .int .i64 x48.Owner] :: Blk p6 24 [.int .i64 1, .string x3.Path, .string x3.Data, .int .i64 x3.Version, .int .i64 x3.Owner, .bool x3.Turns] :: Fo) _ := H
         refine wpList_nil ?_
         refine q_then ?_
         refine wp_seq_cut (fun a w => ∃ (x53 : Int) (rs54 : List Rp), Env 130 a [(0, v1), (3, .pointer (some ⟨p6, 0, none⟩)), (5, .bool u7), (10, v26), (14, .string u40.1), (16, .int .i64 x42), (17, .pointer (some ⟨p52, 0, none⟩))] ∧ Sep w (Blk p6 24 [.int .i64 1, .string x3.Path, .string x3.Data, .int .i64 x3.Version, .int .i64 x3.Owner, .bool x3.Turns] :: Blk p52 39 [.string x48.Path, .string x48.Data, .int .i64 x48.Version, .int .i64 x53, .int .i64 x48.Owner] :: Fo) rs54 ∧ (∀ r, r ∈ rs → r ∈ rs54) ∧ rSl k_api_Node v1 l2 ∈ rs54 ∧ rSl k_api_Node v26 u24.1 ∈ rs54 ∧ rTab Tryd.prog ∈ rs54 ∧ m_cantonlaw06_NodesBoth_j3 (m_cantonlaw06_NodesBoth_l1 l2 u24 u40 x3 u7 k1) l2 x42 x48 x53 = some r) ?_ ?_
         ·refine wp_seq_cut (fun a w => ∃ (b66 : Bool) (rs67 : List Rp), Env 130 a [(0, v1), (3, .pointer (some ⟨p6, 0, none⟩)), (5, .bool u7), (10, v26), (14, .string u40.1), (16, .int .i64 x42), (17, .pointer (some ⟨p52, 0, none⟩)), (118, .bool b66)] ∧ Sep w (Blk p6 24 [.int .i64 1, .string x3.Path, .string x3.Data, .int .i64 x3.Version, .int .i64 x3.Owner, .bool x3.Turns] :: Blk p52 39 [.string x48.Path, .string x48.Data, .int .i64 x48.Version, .int .i64 x48.Turn, .int .i64 x48.Owner] :: Fo) rs67 ∧ (∀ r, r ∈ rs → r ∈ rs67) ∧ rSl k_api_Node v1 l2 ∈ rs67 ∧ rSl k_api_Node v26 u24.1 ∈ rs67 ∧ rTab Tryd.prog ∈ rs67 ∧ m_cantonlaw06_NodesBoth_j4 (m_cantonlaw06_NodesBoth_l1 l2 u24 u40 x3 u7 k1) l2 x42 x48 b66 = some r) ?_ ?_
          ·refine wp_region_lit ?_
           refine sv E rfl rfl rfl (x_fa E rfl rfl (v := .pointer (some ⟨p52, 0, none⟩)) (fa39_0 _ _)) ?_
           clear a E;intro a E
           refine sv E rfl rfl rfl (x_ldB (i := 0) E H rfl rfl rfl rfl Tryd.underlying9 rfl) ?_
           clear a E;intro a E
           refine sv E rfl rfl rfl (x_move E rfl rfl) ?_
           clear a E;intro a E
           refine sv E rfl rfl rfl (x_str E rfl rfl rfl rfl) ?_
           clear a E;intro a E
           refine sv E rfl rfl rfl (x_move E rfl rfl) ?_
           clear a E;intro a E
           rcases Bool.eq_false_or_eq_true (sEq x48.Path u40.1) with hb72 | hb72
           ·rw [if_t hb72] at hm
            refine st_val E (ws' E rfl rfl rfl rfl hb72) rfl rfl (x_fa E rfl rfl (v := .pointer (some ⟨p6, 5, none⟩)) (fa24_5 _ _)) ?_
            clear a E;intro a E
            refine st_val E (ws' E rfl rfl rfl rfl hb72) rfl rfl (x_ldB (i := 1) E H rfl rfl rfl rfl Tryd.underlying4 rfl) ?_
            clear a E;intro a E
            refine sv E rfl rfl rfl (x_pickT E rfl rfl hb72 rfl) ?_
            clear a E;intro a E
            refine wpList_nil ?_
            refine q_then ?_
            replace H := H.front 0 rfl
            replace H := H.front 1 rfl
            exact ⟨x3.Turns, _, ((((((((E.nil.keep E 118 rfl).keep E 17 rfl).keep E 16 rfl).keep E 14 rfl).keep E 10 rfl).keep E 5 rfl).keep E 3 rfl).keep E 0 rfl), H, fun r hr => .tail _ (.tail _ (hs44 r hr)), (.tail _ (.tail _ hr45)), (.tail _ (.tail _ hr46)), (.tail _ (.tail _ hr47)), hm⟩
           ·rw [if_f hb72] at hm
            refine st_no E (wf' E rfl rfl rfl rfl hb72 rfl) rfl rfl ?_
            clear a E;intro a E
            refine st_no E (wf' E rfl rfl rfl rfl hb72 rfl) rfl rfl ?_
            clear a E;intro a E
            refine sv E rfl rfl rfl (x_pickF E rfl rfl hb72 rfl) ?_
            clear a E;intro a E
            refine wpList_nil ?_
            refine q_then ?_
            replace H := H.front 0 rfl
            replace H := H.front 1 rfl
            exact ⟨false, _, ((((((((E.nil.keep E 118 rfl).keep E 17 rfl).keep E 16 rfl).keep E 14 rfl).keep E 10 rfl).keep E 5 rfl).keep E 3 rfl).keep E 0 rfl), H, fun r hr => .tail _ (.tail _ (hs44 r hr)), (.tail _ (.tail _ hr45)), (.tail _ (.tail _ hr46)), (.tail _ (.tail _ hr47)), hm⟩
          ·clear E H hm
           rintro a w ⟨b66, rs67, E, H, hs68, hr69, hr70, hr71, hm⟩
           unfold m_cantonlaw06_NodesBoth_j4 at hm
           refine wp_if E rfl ?_ ?_
           ·intro hb
            rw [if_t hb] at hm
            clear hb
            refine wp_region_lit ?_
            refine sv E rfl rfl rfl (x_fa E rfl rfl (v := .pointer (some ⟨p52, 3, none⟩)) (fa39_3 _ _)) ?_
            clear a E;intro a E
            refine sv E rfl rfl rfl (x_ldB (i := 1) E H rfl rfl rfl rfl Tryd.underlying2 rfl) ?_
            clear a E;intro a E
            refine sv E rfl rfl rfl (x_bin E rfl rfl rfl rfl) ?_
            clear a E;intro a E
            refine sv E rfl rfl rfl (x_fa E rfl rfl (v := .pointer (some ⟨p52, 3, none⟩)) (fa39_3 _ _)) ?_
            clear a E;intro a E
            refine st_st (i := 1) E H (wn rfl) rfl (us := [.int .i64 (IntKind.i64.wrap (x48.Turn - 1))]) rfl rfl rfl rfl rfl sz2 rfl rfl ?_
            clear H; clear w; intro w H
            replace H : Sep w (Blk p6 24 [.int .i64 1, .string x3.Path, .string x3.Data, .int .i64 x3.Version, .int .i64 x3.Owner, .bool x3.Turns] :: Blk p52 39 [.string x48.Path, .string x48.Data, .int .i64 x48.Version, .int .i64 (IntKind.i64.wrap (x48.Turn - 1)), .int .i64 x48.Owner] :: Fo) _ := H
            refine wpList_nil ?_
            refine q_then ?_
            exact ⟨IntKind.i64.wrap (x48.Turn - 1), _, (((((((E.nil.keep E 17 rfl).keep E 16 rfl).keep E 14 rfl).keep E 10 rfl).keep E 5 rfl).keep E 3 rfl).keep E 0 rfl), H, hs68, hr69, hr70, hr71, hm⟩
           ·intro hb
            rw [if_f hb] at hm
            clear hb
            refine wp_skip ?_
            refine q_then ?_
            exact ⟨x48.Turn, _, (((((((E.nil.keep E 17 rfl).keep E 16 rfl).keep E 14 rfl).keep E 10 rfl).keep E 5 rfl).keep E 3 rfl).keep E 0 rfl), H, hs68, hr69, hr70, hr71, hm⟩
         ·clear E H hm
          rintro a w ⟨x53, rs54, E, H, hs55, hr56, hr57, hr58, hm⟩
          unfold m_cantonlaw06_NodesBoth_j3 at hm
          refine wp_seq ?_
          obtain ⟨u59, H⟩ := H.raw hr56
          replace H : Sep w (Blk p6 24 [.int .i64 1, .string x3.Path, .string x3.Data, .int .i64 x3.Version, .int .i64 x3.Owner, .bool x3.Turns] :: Blk p52 39 [.string x48.Path, .string x48.Data, .int .i64 x48.Version, .int .i64 x53, .int .i64 x48.Owner] :: Fo) (rRow k_api_Node v1 l2 u59 :: rs54) := H
          have hI : Still [Blk p52 39 [.string x48.Path, .string x48.Data, .int .i64 x48.Version, .int .i64 x53, .int .i64 x48.Owner]] [rRow k_api_Node v1 l2 u59] { w with drawn := w.drawn + 1 } := ⟨_, _, H.kept (Kp.drawn _ w _), (subO_cons (.tail _ (.head _)) (subO_nil)), (sub_cons (.head _) (sub_nil))⟩
          refine wp_draw _ [(0, 0), (1, 0), (2, 0), (3, 0), (4, 0), (5, 0)] mixedOk (by kernel_rfl) (fun _ _ _ h => False.elim h.2) hI ?_
          replace H := H.kept (Kp.drawn _ w (w.drawn + 1))
          generalize ({ w with drawn := w.drawn + 1 } : World) = w at H hI ⊢
          replace hI : ∃ W, Still [Blk p52 39 [.string x48.Path, .string x48.Data, .int .i64 x48.Version, .int .i64 x53, .int .i64 x48.Owner]] [rRow k_api_Node v1 l2 u59] W := ⟨_, hI⟩
          obtain ⟨W0, hI⟩ := hI
          refine fr_val E rfl (wn rfl) rfl rfl (fun w hW => x_ld E rfl rfl (ib_ldN (us := [.string x48.Path, .string x48.Data, .int .i64 x48.Version, .int .i64 x53, .int .i64 x48.Owner]) (.head _) rfl Tryd.underlying39 rfl sz39 w hW)) ?_
          clear a E;intro a E
          refine fr_val E rfl (wn rfl) rfl rfl (fun w hW => (x_move E rfl rfl)) ?_
          clear a E;intro a E
          refine fr_val E rfl (wn rfl) rfl rfl (fun w hW => (x_move E rfl rfl)) ?_
          clear a E;intro a E
          obtain ⟨x60, hx61, hm⟩ := bnd hm
          obtain ⟨q62, u65, hx63, hx64⟩ := dr_ixW (P := Tryd.prog) (k := .i64) hI (dr_mem (.head _)) Tryd.underlying22 sz39 hx61
          refine fr_val E rfl (wn rfl) rfl rfl (fun w hW => x_ixA E rfl rfl rfl (hx63 w)) ?_
          clear a E;intro a E
          refine fr_val E rfl (wn rfl) rfl rfl (fun w hW => x_ld E rfl rfl (ir_ldN (cs := [.string x60.Path, .string x60.Data, .int .i64 x60.Version, .int .i64 x60.Turn, .int .i64 x60.Owner]) (DR.ir (dr_at hx64)) (fun _ _ _ h => k_api_Node_open h) Tryd.underlying39 rfl sz39 w hW)) ?_
          clear a E;intro a E
          refine fr_val E rfl (wn rfl) rfl rfl (fun w hW => (x_bin2 E rfl rfl rfl (v := .bool (!((sEq x48.Path x60.Path) && ((sEq x48.Data x60.Data) && ((x48.Version == x60.Version) && ((x53 == x60.Turn) && (x48.Owner == x60.Owner))))))) (ne_agg egt39 (eq_struct Tryd.underlying39 sih39 (eqf_cons (by rfl) (by kernel_rfl) (by kernel_rfl) (eq_string Tryd.underlying9) (eqf_cons (by rfl) (by kernel_rfl) (by kernel_rfl) (eq_string Tryd.underlying9) (eqf_cons (by rfl) (by kernel_rfl) (by kernel_rfl) (eq_int Tryd.underlying2) (eqf_cons (by rfl) (by kernel_rfl) (by kernel_rfl) (eq_int Tryd.underlying2) (eqf_last (by rfl) (by kernel_rfl) (by kernel_rfl) (eq_int Tryd.underlying2)))))))))) ?_
          clear a E;intro a E
          refine fr_nil ?_
          clear hI
          refine q_then ?_
          refine wp_if E rfl ?_ ?_
          ·intro hb
           rw [if_t hb] at hm
           clear hb
           refine wp_seq ?_
           refine wp_region_lit ?_
           refine sv E rfl rfl rfl (x_assign E rfl rfl) ?_
           clear a E;intro a E
           refine wpList_nil ?_
           refine q_then ?_
           refine wp_ret ?_
           refine q_blkR ?_
           refine q_thenR ?_
           refine q_thenR ?_
           refine q_blkR ?_
           refine q_thenR ?_
           refine out1 E rfl rfl ?_
           replace H := H.drop 0
           replace H := H.drop 0
           obtain rfl := Option.some.inj hm
           exact ⟨rfl, H.reads (fun r hr => .tail _ (hs55 r hr))⟩
          ·intro hb
           rw [if_f hb] at hm
           clear hb
           refine wp_skip ?_
           refine q_blk ?_
           refine q_then ?_
           refine wp_region_lit ?_
           refine sv E rfl rfl rfl (x_move E rfl rfl) ?_
           clear a E;intro a E
           refine sv E rfl rfl rfl (x_bin E rfl rfl rfl rfl) ?_
           clear a E;intro a E
           refine sv E rfl rfl rfl (x_assign E rfl rfl) ?_
           clear a E;intro a E
           refine wpList_nil ?_
           refine q_then ?_
           replace H := H.drop 1
           exact ⟨k1, Nat.lt_succ_self k1, IntKind.i64.wrap (x42 + 1), _, ((((((E.nil.keep E 16 rfl).keep E 14 rfl).keep E 10 rfl).keep E 5 rfl).keep E 3 rfl).keep E 0 rfl), H, fun r hr => .tail _ (hs55 r hr), (.tail _ hr56), (.tail _ hr57), (.tail _ hr58), hm⟩
        ·intro hb
         rw [if_f hb] at hm
         clear hb
         refine wp_exit ?_
         refine q_thenX ?_
         refine q_thenX ?_
         refine q_hit ?_
         refine q_then ?_
         refine wp_seq ?_
         refine wp_region_lit ?_
         refine sv E rfl rfl rfl (x_move E rfl rfl) ?_
         clear a E;intro a E
         refine sv E rfl rfl rfl (x_assign E rfl rfl) ?_
         clear a E;intro a E
         refine wpList_nil ?_
         refine q_then ?_
         refine wp_ret ?_
         refine out1 E rfl rfl ?_
         replace H := H.drop 0
         obtain rfl := Option.some.inj hm
         exact ⟨rfl, H.reads (fun r hr => hs44 r hr)⟩
end Go.Cb
