/- Functions of the program, walked: each comes to its plain function. -/
import Derived.Test.YtidapdacihcckaaDoorKtu2
import Derived.Test.YtidapdacihcckaaDoorN4tu
set_option linter.unusedVariables false
set_option linter.unusedSimpArgs false
namespace Go.Cb
open Go.Proofs Go.RowKit
def m_cantonlaw06_head : Option Bool :=
  m_nodes_New.bind fun u2 => (m_nodes_Apply u2 (⟨1, (ByteArray.mk #[47, 113]), (ByteArray.mk #[]), 0, 0, true⟩ : S_api_Op)).bind fun u5 => (m_nodes_Apply u5.1 (⟨3, (ByteArray.mk #[47, 113, 48, 48, 48, 48]), (ByteArray.mk #[120]), (-1), 0, false⟩ : S_api_Op)).bind fun u12 => (m_nodes_Apply u12.1 (⟨2, (ByteArray.mk #[47, 113, 48, 48, 48, 48]), (ByteArray.mk #[]), 0, 0, false⟩ : S_api_Op)).bind fun u19 => (m_nodes_Apply u12.1 (⟨6, (ByteArray.mk #[47]), (ByteArray.mk #[]), 0, 0, false⟩ : S_api_Op)).bind fun u26 => (m_nodes_Apply ([] : List S_api_Node) (⟨0, (ByteArray.mk #[]), (ByteArray.mk #[]), 0, 0, false⟩ : S_api_Op)).bind fun u33 => (m_nodes_Find u12.1 (ByteArray.mk #[47, 113, 48, 48, 48, 48])).bind fun u40 => if ((u2.length : Int) == 1) = true then (if (sEq u5.2.Path (ByteArray.mk #[47, 113, 48, 48, 48, 48])) = true then (if (u5.2.Err == 0) = true then (if ((u5.1.length : Int) == 2) = true then ((idx u5.1 0).bind fun x47 => if (x47.Turn == 1) = true then (if (u12.2.Version == 1) = true then (if (u19.2.Err == 63) = true then (if ((u26.2.Names.length : Int) == 1) = true then (if (u33.2.Err == 1) = true then (if u40.2 = true then (if (sEq u40.1.Data (ByteArray.mk #[120])) = true then ((m_nodes_Right u12.1).bind fun u57 => if u57 = true then ((m_nodes_May (⟨0, (ByteArray.mk #[]), (ByteArray.mk #[]), 0, 0, false⟩ : S_api_Op)).bind fun u60 => some (!u60)) else (some (false))) else (some (false))) else (some (false))) else (some (false))) else (some (false))) else (some (false))) else (some (false))) else (some (false))) else (some (false))) else (some (false))) else (some (false))) else (some (false))
set_option maxRecDepth 20000 in
set_option maxHeartbeats 1000000 in
theorem c_cantonlaw06_head {w : World} {Fo : List Ob} {rs : List Rp} (H : Sep w (Fo) rs) (hr1 : rTab Tryd.prog ∈ rs) {r : Bool} (hm : m_cantonlaw06_head = some r) :
    Calls Tryd.prog 10 [].toArray w (Ret fun v w' => .bool r = v ∧ Sep w' (Fo) (rs)) := by
 unfold m_cantonlaw06_head at hm
 refine enter Tryd.func10 rfl Tryd.ntmps10 rfl fun a E => ?_
 simp only [enum, Nat.reduceAdd] at E
 refine wp_seq ?_
 refine wp_region_lit ?_
 refine sv E rfl rfl rfl (x_assign E rfl rfl) ?_
 clear a E;intro a E
 refine wpList_nil ?_
 refine q_then ?_
 refine wp_seq ?_
 refine wp_region_lit ?_
 obtain ⟨u2, hx3, hm⟩ := bnd hm
 refine st_call E (wn rfl) rfl rfl (x_call E rfl rfl (cf24 _)) (c_nodes_New H hx3) ?_
 clear E H; clear a; clear w; rintro _ w ⟨v4, rfl, H⟩ a E
 refine sv E rfl rfl rfl (x_assign E rfl rfl) ?_
 clear a E;intro a E
 refine wpList_nil ?_
 refine q_then ?_
 refine wp_seq ?_
 refine wp_region_lit ?_
 refine sv E rfl rfl rfl (x_move E rfl rfl) ?_
 clear a E;intro a E
 refine sv E rfl rfl rfl (x_build E (ps := [(0, .const (.int .i64 1)), (1, .const (.string (ByteArray.mk #[47, 113]))), (5, .const (.bool true))]) (vs := [(0, .int .i64 1), (1, .string (ByteArray.mk #[47, 113])), (5, .bool true)]) rfl (by simp only [List.map]; rw [E.eval (x := .const (.int .i64 1)) (v := .int .i64 1) rfl, E.eval (x := .const (.string (ByteArray.mk #[47, 113]))) (v := .string (ByteArray.mk #[47, 113])) rfl, E.eval (x := .const (.bool true)) (v := .bool true) rfl]) (v := .agg #[.int .i64 1, .string (ByteArray.mk #[47, 113]), .string (ByteArray.mk #[]), .int .i64 0, .int .i64 0, .bool true]) (by kernel_rfl)) ?_
 clear a E;intro a E
 replace H := H.thaw (i := 0) rfl
 replace H : Sep w (Fo) (rSl k_api_Node v4 u2 :: rs) := H
 obtain ⟨u5, hx6, hm⟩ := bnd hm
 refine st_call E (wn rfl) rfl rfl (x_call E rfl rfl (cf14 _)) (c_nodes_Apply v4 u2 (⟨1, (ByteArray.mk #[47, 113]), (ByteArray.mk #[]), 0, 0, true⟩ : S_api_Op) H (.head _) (.tail _ hr1) hx6) ?_
 clear E H; clear a; clear w; rintro _ w ⟨v7, v8, rfl, H⟩ a E
 refine sv E rfl rfl rfl (x_move E rfl rfl) ?_
 clear a E;intro a E
 refine sv E rfl rfl rfl (x_ext E rfl rfl rfl) ?_
 clear a E;intro a E
 refine sv E rfl rfl rfl (x_ext E rfl rfl rfl) ?_
 clear a E;intro a E
 refine st_alloc E H (wn rfl) rfl rfl (cs := [.int .i64 0, .string (ByteArray.mk #[]), .string (ByteArray.mk #[]), .int .i64 0, .slice none 0 0]) rfl (z := .agg #[.int .i64 0, .string ⟨#[]⟩, .string ⟨#[]⟩, .int .i64 0, .slice none 0 0]) (by kernel_rfl) rfl ?_
 clear E H; clear a; clear w; intro p9 w a H E
 refine sv E rfl rfl rfl (x_assign E rfl rfl) ?_
 clear a E;intro a E
 obtain ⟨q10, x11, rfl⟩ := H.slform (.tail _ (.head _))
 refine st_st (i := 0) E H (wn rfl) rfl (us := [.int .i64 u5.2.Err, .string u5.2.Path, .string u5.2.Data, .int .i64 u5.2.Version, (.slice q10 u5.2.Names.length x11)]) rfl rfl rfl rfl rfl sz31 rfl rfl ?_
 clear H; clear w; intro w H
 replace H : Sep w (Blk p9 31 [.int .i64 u5.2.Err, .string u5.2.Path, .string u5.2.Data, .int .i64 u5.2.Version, (.slice q10 u5.2.Names.length x11)] :: Fo) _ := H
 refine wpList_nil ?_
 refine q_then ?_
 refine wp_seq ?_
 refine wp_region_lit ?_
 refine sv E rfl rfl rfl (x_move E rfl rfl) ?_
 clear a E;intro a E
 refine sv E rfl rfl rfl (x_build E (ps := [(0, .const (.int .i64 3)), (1, .const (.string (ByteArray.mk #[47, 113, 48, 48, 48, 48]))), (2, .const (.string (ByteArray.mk #[120]))), (3, .const (.int .i64 (-1)))]) (vs := [(0, .int .i64 3), (1, .string (ByteArray.mk #[47, 113, 48, 48, 48, 48])), (2, .string (ByteArray.mk #[120])), (3, .int .i64 (-1))]) rfl (by simp only [List.map]; rw [E.eval (x := .const (.int .i64 3)) (v := .int .i64 3) rfl, E.eval (x := .const (.string (ByteArray.mk #[47, 113, 48, 48, 48, 48]))) (v := .string (ByteArray.mk #[47, 113, 48, 48, 48, 48])) rfl, E.eval (x := .const (.string (ByteArray.mk #[120]))) (v := .string (ByteArray.mk #[120])) rfl, E.eval (x := .const (.int .i64 (-1))) (v := .int .i64 (-1)) rfl]) (v := .agg #[.int .i64 3, .string (ByteArray.mk #[47, 113, 48, 48, 48, 48]), .string (ByteArray.mk #[120]), .int .i64 (-1), .int .i64 0, .bool false]) (by kernel_rfl)) ?_
 clear a E;intro a E
 obtain ⟨u12, hx13, hm⟩ := bnd hm
 refine st_call E (wn rfl) rfl rfl (x_call E rfl rfl (cf14 _)) (c_nodes_Apply v7 u5.1 (⟨3, (ByteArray.mk #[47, 113, 48, 48, 48, 48]), (ByteArray.mk #[120]), (-1), 0, false⟩ : S_api_Op) H (.head _) (.tail _ (.tail _ (.tail _ hr1))) hx13) ?_
 clear E H; clear a; clear w; rintro _ w ⟨v14, v15, rfl, H⟩ a E
 refine sv E rfl rfl rfl (x_move E rfl rfl) ?_
 clear a E;intro a E
 refine sv E rfl rfl rfl (x_ext E rfl rfl rfl) ?_
 clear a E;intro a E
 refine sv E rfl rfl rfl (x_ext E rfl rfl rfl) ?_
 clear a E;intro a E
 refine st_alloc E H (wn rfl) rfl rfl (cs := [.int .i64 0, .string (ByteArray.mk #[]), .string (ByteArray.mk #[]), .int .i64 0, .slice none 0 0]) rfl (z := .agg #[.int .i64 0, .string ⟨#[]⟩, .string ⟨#[]⟩, .int .i64 0, .slice none 0 0]) (by kernel_rfl) rfl ?_
 clear E H; clear a; clear w; intro p16 w a H E
 refine sv E rfl rfl rfl (x_assign E rfl rfl) ?_
 clear a E;intro a E
 obtain ⟨q17, x18, rfl⟩ := H.slform (.tail _ (.head _))
 refine st_st (i := 0) E H (wn rfl) rfl (us := [.int .i64 u12.2.Err, .string u12.2.Path, .string u12.2.Data, .int .i64 u12.2.Version, (.slice q17 u12.2.Names.length x18)]) rfl rfl rfl rfl rfl sz31 rfl rfl ?_
 clear H; clear w; intro w H
 replace H : Sep w (Blk p16 31 [.int .i64 u12.2.Err, .string u12.2.Path, .string u12.2.Data, .int .i64 u12.2.Version, (.slice q17 u12.2.Names.length x18)] :: Blk p9 31 [.int .i64 u5.2.Err, .string u5.2.Path, .string u5.2.Data, .int .i64 u5.2.Version, (.slice q10 u5.2.Names.length x11)] :: Fo) _ := H
 refine wpList_nil ?_
 refine q_then ?_
 refine wp_seq ?_
 refine wp_region_lit ?_
 refine sv E rfl rfl rfl (x_move E rfl rfl) ?_
 clear a E;intro a E
 refine sv E rfl rfl rfl (x_build E (ps := [(0, .const (.int .i64 2)), (1, .const (.string (ByteArray.mk #[47, 113, 48, 48, 48, 48]))), (3, .const (.int .i64 0))]) (vs := [(0, .int .i64 2), (1, .string (ByteArray.mk #[47, 113, 48, 48, 48, 48])), (3, .int .i64 0)]) rfl (by simp only [List.map]; rw [E.eval (x := .const (.int .i64 2)) (v := .int .i64 2) rfl, E.eval (x := .const (.string (ByteArray.mk #[47, 113, 48, 48, 48, 48]))) (v := .string (ByteArray.mk #[47, 113, 48, 48, 48, 48])) rfl, E.eval (x := .const (.int .i64 0)) (v := .int .i64 0) rfl]) (v := .agg #[.int .i64 2, .string (ByteArray.mk #[47, 113, 48, 48, 48, 48]), .string (ByteArray.mk #[]), .int .i64 0, .int .i64 0, .bool false]) (by kernel_rfl)) ?_
 clear a E;intro a E
 obtain ⟨u19, hx20, hm⟩ := bnd hm
 refine st_call E (wn rfl) rfl rfl (x_call E rfl rfl (cf14 _)) (c_nodes_Apply v14 u12.1 (⟨2, (ByteArray.mk #[47, 113, 48, 48, 48, 48]), (ByteArray.mk #[]), 0, 0, false⟩ : S_api_Op) H (.head _) (.tail _ (.tail _ (.tail _ (.tail _ (.tail _ hr1))))) hx20) ?_
 clear E H; clear a; clear w; rintro _ w ⟨v21, v22, rfl, H⟩ a E
 refine sv E rfl rfl rfl (x_move E rfl rfl) ?_
 clear a E;intro a E
 refine sv E rfl rfl rfl (x_ext E rfl rfl rfl) ?_
 clear a E;intro a E
 refine sv E rfl rfl rfl (x_ext E rfl rfl rfl) ?_
 clear a E;intro a E
 refine st_alloc E H (wn rfl) rfl rfl (cs := [.int .i64 0, .string (ByteArray.mk #[]), .string (ByteArray.mk #[]), .int .i64 0, .slice none 0 0]) rfl (z := .agg #[.int .i64 0, .string ⟨#[]⟩, .string ⟨#[]⟩, .int .i64 0, .slice none 0 0]) (by kernel_rfl) rfl ?_
 clear E H; clear a; clear w; intro p23 w a H E
 refine sv E rfl rfl rfl (x_assign E rfl rfl) ?_
 clear a E;intro a E
 obtain ⟨q24, x25, rfl⟩ := H.slform (.tail _ (.head _))
 refine st_st (i := 0) E H (wn rfl) rfl (us := [.int .i64 u19.2.Err, .string u19.2.Path, .string u19.2.Data, .int .i64 u19.2.Version, (.slice q24 u19.2.Names.length x25)]) rfl rfl rfl rfl rfl sz31 rfl rfl ?_
 clear H; clear w; intro w H
 replace H : Sep w (Blk p23 31 [.int .i64 u19.2.Err, .string u19.2.Path, .string u19.2.Data, .int .i64 u19.2.Version, (.slice q24 u19.2.Names.length x25)] :: Blk p16 31 [.int .i64 u12.2.Err, .string u12.2.Path, .string u12.2.Data, .int .i64 u12.2.Version, (.slice q17 u12.2.Names.length x18)] :: Blk p9 31 [.int .i64 u5.2.Err, .string u5.2.Path, .string u5.2.Data, .int .i64 u5.2.Version, (.slice q10 u5.2.Names.length x11)] :: Fo) _ := H
 refine wpList_nil ?_
 refine q_then ?_
 refine wp_seq ?_
 refine wp_region_lit ?_
 refine sv E rfl rfl rfl (x_move E rfl rfl) ?_
 clear a E;intro a E
 refine sv E rfl rfl rfl (x_build E (ps := [(0, .const (.int .i64 6)), (1, .const (.string (ByteArray.mk #[47])))]) (vs := [(0, .int .i64 6), (1, .string (ByteArray.mk #[47]))]) rfl (by simp only [List.map]; rw [E.eval (x := .const (.int .i64 6)) (v := .int .i64 6) rfl, E.eval (x := .const (.string (ByteArray.mk #[47]))) (v := .string (ByteArray.mk #[47])) rfl]) (v := .agg #[.int .i64 6, .string (ByteArray.mk #[47]), .string (ByteArray.mk #[]), .int .i64 0, .int .i64 0, .bool false]) (by kernel_rfl)) ?_
 clear a E;intro a E
 obtain ⟨u26, hx27, hm⟩ := bnd hm
 refine st_call E (wn rfl) rfl rfl (x_call E rfl rfl (cf14 _)) (c_nodes_Apply v14 u12.1 (⟨6, (ByteArray.mk #[47]), (ByteArray.mk #[]), 0, 0, false⟩ : S_api_Op) H (.tail _ (.tail _ (.head _))) (.tail _ (.tail _ (.tail _ (.tail _ (.tail _ (.tail _ (.tail _ hr1))))))) hx27) ?_
 clear E H; clear a; clear w; rintro _ w ⟨v28, v29, rfl, H⟩ a E
 refine sv E rfl rfl rfl (x_move E rfl rfl) ?_
 clear a E;intro a E
 refine sv E rfl rfl rfl (x_ext E rfl rfl rfl) ?_
 clear a E;intro a E
 refine sv E rfl rfl rfl (x_ext E rfl rfl rfl) ?_
 clear a E;intro a E
 refine st_alloc E H (wn rfl) rfl rfl (cs := [.int .i64 0, .string (ByteArray.mk #[]), .string (ByteArray.mk #[]), .int .i64 0, .slice none 0 0]) rfl (z := .agg #[.int .i64 0, .string ⟨#[]⟩, .string ⟨#[]⟩, .int .i64 0, .slice none 0 0]) (by kernel_rfl) rfl ?_
 clear E H; clear a; clear w; intro p30 w a H E
 refine sv E rfl rfl rfl (x_assign E rfl rfl) ?_
 clear a E;intro a E
 obtain ⟨q31, x32, rfl⟩ := H.slform (.tail _ (.head _))
 refine st_st (i := 0) E H (wn rfl) rfl (us := [.int .i64 u26.2.Err, .string u26.2.Path, .string u26.2.Data, .int .i64 u26.2.Version, (.slice q31 u26.2.Names.length x32)]) rfl rfl rfl rfl rfl sz31 rfl rfl ?_
 clear H; clear w; intro w H
 replace H : Sep w (Blk p30 31 [.int .i64 u26.2.Err, .string u26.2.Path, .string u26.2.Data, .int .i64 u26.2.Version, (.slice q31 u26.2.Names.length x32)] :: Blk p23 31 [.int .i64 u19.2.Err, .string u19.2.Path, .string u19.2.Data, .int .i64 u19.2.Version, (.slice q24 u19.2.Names.length x25)] :: Blk p16 31 [.int .i64 u12.2.Err, .string u12.2.Path, .string u12.2.Data, .int .i64 u12.2.Version, (.slice q17 u12.2.Names.length x18)] :: Blk p9 31 [.int .i64 u5.2.Err, .string u5.2.Path, .string u5.2.Data, .int .i64 u5.2.Version, (.slice q10 u5.2.Names.length x11)] :: Fo) _ := H
 refine wpList_nil ?_
 refine q_then ?_
 refine wp_seq ?_
 refine wp_region_lit ?_
 refine sv E rfl rfl rfl (x_build E (ps := []) (vs := []) rfl rfl (v := .agg #[.int .i64 0, .string (ByteArray.mk #[]), .string (ByteArray.mk #[]), .int .i64 0, .int .i64 0, .bool false]) (by kernel_rfl)) ?_
 clear a E;intro a E
 replace H := H.nilSl k_api_Node
 replace H : Sep w (Blk p30 31 [.int .i64 u26.2.Err, .string u26.2.Path, .string u26.2.Data, .int .i64 u26.2.Version, (.slice q31 u26.2.Names.length x32)] :: Blk p23 31 [.int .i64 u19.2.Err, .string u19.2.Path, .string u19.2.Data, .int .i64 u19.2.Version, (.slice q24 u19.2.Names.length x25)] :: Blk p16 31 [.int .i64 u12.2.Err, .string u12.2.Path, .string u12.2.Data, .int .i64 u12.2.Version, (.slice q17 u12.2.Names.length x18)] :: Blk p9 31 [.int .i64 u5.2.Err, .string u5.2.Path, .string u5.2.Data, .int .i64 u5.2.Version, (.slice q10 u5.2.Names.length x11)] :: Fo) (rSl k_api_Node (.slice none 0 0) ([] : List S_api_Node) :: rSl k_api_Node v28 u26.1 :: rSl kS (.slice q31 u26.2.Names.length x32) u26.2.Names :: rSl k_api_Node v21 u19.1 :: rSl kS (.slice q24 u19.2.Names.length x25) u19.2.Names :: rSl k_api_Node v14 u12.1 :: rSl kS (.slice q17 u12.2.Names.length x18) u12.2.Names :: rSl k_api_Node v7 u5.1 :: rSl kS (.slice q10 u5.2.Names.length x11) u5.2.Names :: rSl k_api_Node v4 u2 :: rs) := H
 obtain ⟨u33, hx34, hm⟩ := bnd hm
 refine st_call E (wn rfl) rfl rfl (x_call E rfl rfl (cf14 _)) (c_nodes_Apply (.slice none 0 0) ([] : List S_api_Node) (⟨0, (ByteArray.mk #[]), (ByteArray.mk #[]), 0, 0, false⟩ : S_api_Op) H (.head _) (.tail _ (.tail _ (.tail _ (.tail _ (.tail _ (.tail _ (.tail _ (.tail _ (.tail _ (.tail _ hr1)))))))))) hx34) ?_
 clear E H; clear a; clear w; rintro _ w ⟨v35, v36, rfl, H⟩ a E
 refine sv E rfl rfl rfl (x_move E rfl rfl) ?_
 clear a E;intro a E
 refine sv E rfl rfl rfl (x_ext E rfl rfl rfl) ?_
 clear a E;intro a E
 refine sv E rfl rfl rfl (x_ext E rfl rfl rfl) ?_
 clear a E;intro a E
 refine st_alloc E H (wn rfl) rfl rfl (cs := [.int .i64 0, .string (ByteArray.mk #[]), .string (ByteArray.mk #[]), .int .i64 0, .slice none 0 0]) rfl (z := .agg #[.int .i64 0, .string ⟨#[]⟩, .string ⟨#[]⟩, .int .i64 0, .slice none 0 0]) (by kernel_rfl) rfl ?_
 clear E H; clear a; clear w; intro p37 w a H E
 refine sv E rfl rfl rfl (x_assign E rfl rfl) ?_
 clear a E;intro a E
 obtain ⟨q38, x39, rfl⟩ := H.slform (.tail _ (.head _))
 refine st_st (i := 0) E H (wn rfl) rfl (us := [.int .i64 u33.2.Err, .string u33.2.Path, .string u33.2.Data, .int .i64 u33.2.Version, (.slice q38 u33.2.Names.length x39)]) rfl rfl rfl rfl rfl sz31 rfl rfl ?_
 clear H; clear w; intro w H
 replace H : Sep w (Blk p37 31 [.int .i64 u33.2.Err, .string u33.2.Path, .string u33.2.Data, .int .i64 u33.2.Version, (.slice q38 u33.2.Names.length x39)] :: Blk p30 31 [.int .i64 u26.2.Err, .string u26.2.Path, .string u26.2.Data, .int .i64 u26.2.Version, (.slice q31 u26.2.Names.length x32)] :: Blk p23 31 [.int .i64 u19.2.Err, .string u19.2.Path, .string u19.2.Data, .int .i64 u19.2.Version, (.slice q24 u19.2.Names.length x25)] :: Blk p16 31 [.int .i64 u12.2.Err, .string u12.2.Path, .string u12.2.Data, .int .i64 u12.2.Version, (.slice q17 u12.2.Names.length x18)] :: Blk p9 31 [.int .i64 u5.2.Err, .string u5.2.Path, .string u5.2.Data, .int .i64 u5.2.Version, (.slice q10 u5.2.Names.length x11)] :: Fo) _ := H
 refine wpList_nil ?_
 refine q_then ?_
 refine wp_seq ?_
 refine wp_region_lit ?_
 refine sv E rfl rfl rfl (x_move E rfl rfl) ?_
 clear a E;intro a E
 obtain ⟨u40, hx41, hm⟩ := bnd hm
 refine st_call E (wn rfl) rfl rfl (x_call E rfl rfl (cf21 _)) (c_nodes_Find v14 u12.1 (ByteArray.mk #[47, 113, 48, 48, 48, 48]) H (.tail _ (.tail _ (.tail _ (.tail _ (.tail _ (.tail _ (.tail _ (.head _)))))))) hx41) ?_
 clear E H; clear a; clear w; rintro _ w ⟨rfl, H⟩ a E
 refine sv E rfl rfl rfl (x_move E rfl rfl) ?_
 clear a E;intro a E
 refine sv E rfl rfl rfl (x_ext E rfl rfl rfl) ?_
 clear a E;intro a E
 refine sv E rfl rfl rfl (x_ext E rfl rfl rfl) ?_
 clear a E;intro a E
 refine st_alloc E H (wn rfl) rfl rfl (cs := [.string (ByteArray.mk #[]), .string (ByteArray.mk #[]), .int .i64 0, .int .i64 0, .int .i64 0]) rfl (z := .agg #[.string ⟨#[]⟩, .string ⟨#[]⟩, .int .i64 0, .int .i64 0, .int .i64 0]) (by kernel_rfl) rfl ?_
 clear E H; clear a; clear w; intro p42 w a H E
 refine st_st (i := 0) E H (wn rfl) rfl (us := [.string u40.1.Path, .string u40.1.Data, .int .i64 u40.1.Version, .int .i64 u40.1.Turn, .int .i64 u40.1.Owner]) rfl rfl rfl rfl rfl sz39 rfl rfl ?_
 clear H; clear w; intro w H
 replace H : Sep w (Blk p42 39 [.string u40.1.Path, .string u40.1.Data, .int .i64 u40.1.Version, .int .i64 u40.1.Turn, .int .i64 u40.1.Owner] :: Blk p37 31 [.int .i64 u33.2.Err, .string u33.2.Path, .string u33.2.Data, .int .i64 u33.2.Version, (.slice q38 u33.2.Names.length x39)] :: Blk p30 31 [.int .i64 u26.2.Err, .string u26.2.Path, .string u26.2.Data, .int .i64 u26.2.Version, (.slice q31 u26.2.Names.length x32)] :: Blk p23 31 [.int .i64 u19.2.Err, .string u19.2.Path, .string u19.2.Data, .int .i64 u19.2.Version, (.slice q24 u19.2.Names.length x25)] :: Blk p16 31 [.int .i64 u12.2.Err, .string u12.2.Path, .string u12.2.Data, .int .i64 u12.2.Version, (.slice q17 u12.2.Names.length x18)] :: Blk p9 31 [.int .i64 u5.2.Err, .string u5.2.Path, .string u5.2.Data, .int .i64 u5.2.Version, (.slice q10 u5.2.Names.length x11)] :: Fo) _ := H
 refine sv E rfl rfl rfl (x_assign E rfl rfl) ?_
 clear a E;intro a E
 refine wpList_nil ?_
 refine q_then ?_
 refine wp_seq ?_
 refine wp_region_lit ?_
 refine sv E rfl rfl rfl (x_move E rfl rfl) ?_
 clear a E;intro a E
 refine sv E rfl rfl rfl (x_lenS E H rfl rfl (.tail _ (.tail _ (.tail _ (.tail _ (.tail _ (.tail _ (.tail _ (.tail _ (.tail _ (.tail _ (.tail _ (.head _)))))))))))) Tryd.underlying22) ?_
 clear a E;intro a E
 refine sv E rfl rfl rfl (x_bin E rfl rfl rfl rfl) ?_
 clear a E;intro a E
 refine sv E rfl rfl rfl (x_move E rfl rfl) ?_
 clear a E;intro a E
 rcases Bool.eq_false_or_eq_true ((u2.length : Int) == 1) with hb43 | hb43
 ·rw [if_t hb43] at hm
  refine st_val E (ws' E rfl rfl rfl rfl hb43) rfl rfl (x_fa E rfl rfl (v := .pointer (some ⟨p9, 1, none⟩)) (fa31_1 _ _)) ?_
  clear a E;intro a E
  refine st_val E (ws' E rfl rfl rfl rfl hb43) rfl rfl (x_ldB (i := 5) E H rfl rfl rfl rfl Tryd.underlying9 rfl) ?_
  clear a E;intro a E
  refine st_val E (ws' E rfl rfl rfl rfl hb43) rfl rfl (x_str E rfl rfl rfl rfl) ?_
  clear a E;intro a E
  refine sv E rfl rfl rfl (x_pickT E rfl rfl hb43 rfl) ?_
  clear a E;intro a E
  refine sv E rfl rfl rfl (x_move E rfl rfl) ?_
  clear a E;intro a E
  rcases Bool.eq_false_or_eq_true (sEq u5.2.Path (ByteArray.mk #[47, 113, 48, 48, 48, 48])) with hb44 | hb44
  ·rw [if_t hb44] at hm
   refine st_val E (ws' E rfl rfl rfl rfl hb44) rfl rfl (x_fa E rfl rfl (v := .pointer (some ⟨p9, 0, none⟩)) (fa31_0 _ _)) ?_
   clear a E;intro a E
   refine st_val E (ws' E rfl rfl rfl rfl hb44) rfl rfl (x_ldB (i := 5) E H rfl rfl rfl rfl Tryd.underlying28 rfl) ?_
   clear a E;intro a E
   refine st_val E (ws' E rfl rfl rfl rfl hb44) rfl rfl (x_bin E rfl rfl rfl rfl) ?_
   clear a E;intro a E
   refine sv E rfl rfl rfl (x_pickT E rfl rfl hb44 rfl) ?_
   clear a E;intro a E
   refine sv E rfl rfl rfl (x_move E rfl rfl) ?_
   clear a E;intro a E
   rcases Bool.eq_false_or_eq_true (u5.2.Err == 0) with hb45 | hb45
   ·rw [if_t hb45] at hm
    refine st_val E (ws' E rfl rfl rfl rfl hb45) rfl rfl (x_move E rfl rfl) ?_
    clear a E;intro a E
    refine st_val E (ws' E rfl rfl rfl rfl hb45) rfl rfl (x_lenS E H rfl rfl (.tail _ (.tail _ (.tail _ (.tail _ (.tail _ (.tail _ (.tail _ (.tail _ (.tail _ (.head _)))))))))) Tryd.underlying22) ?_
    clear a E;intro a E
    refine st_val E (ws' E rfl rfl rfl rfl hb45) rfl rfl (x_bin E rfl rfl rfl rfl) ?_
    clear a E;intro a E
    refine sv E rfl rfl rfl (x_pickT E rfl rfl hb45 rfl) ?_
    clear a E;intro a E
    refine sv E rfl rfl rfl (x_move E rfl rfl) ?_
    clear a E;intro a E
    rcases Bool.eq_false_or_eq_true ((u5.1.length : Int) == 2) with hb46 | hb46
    ·rw [if_t hb46] at hm
     refine st_val E (ws' E rfl rfl rfl rfl hb46) rfl rfl (x_move E rfl rfl) ?_
     clear a E;intro a E
     obtain ⟨x47, hx48, hm⟩ := bnd hm
     refine st_ixS E H (ws' E rfl rfl rfl rfl hb46) rfl rfl rfl rfl rfl (.tail _ (.tail _ (.tail _ (.tail _ (.tail _ (.tail _ (.tail _ (.tail _ (.tail _ (.head _)))))))))) Tryd.underlying22 sz39 hx48 ?_
     clear E H; clear a; intro q49 a H E
     replace H := H.derive1 (.head _) (rAt (kI .i64) (q49.add 3) x47.Turn) (fun ok h => k_api_Node_at3 h)
     refine st_val E (ws' E rfl rfl rfl rfl hb46) rfl rfl (x_fa E rfl rfl (fa39_3 _ _)) ?_
     clear a E;intro a E
     refine st_val E (ws' E rfl rfl rfl rfl hb46) rfl rfl (x_ldA E H rfl rfl (.head _) Tryd.underlying2 rfl) ?_
     clear a E;intro a E
     refine st_val E (ws' E rfl rfl rfl rfl hb46) rfl rfl (x_bin E rfl rfl rfl rfl) ?_
     clear a E;intro a E
     refine sv E rfl rfl rfl (x_pickT E rfl rfl hb46 rfl) ?_
     clear a E;intro a E
     refine sv E rfl rfl rfl (x_move E rfl rfl) ?_
     clear a E;intro a E
     rcases Bool.eq_false_or_eq_true (x47.Turn == 1) with hb50 | hb50
     ·rw [if_t hb50] at hm
      refine st_val E (ws' E rfl rfl rfl rfl hb50) rfl rfl (x_fa E rfl rfl (v := .pointer (some ⟨p16, 3, none⟩)) (fa31_3 _ _)) ?_
      clear a E;intro a E
      refine st_val E (ws' E rfl rfl rfl rfl hb50) rfl rfl (x_ldB (i := 4) E H rfl rfl rfl rfl Tryd.underlying2 rfl) ?_
      clear a E;intro a E
      refine st_val E (ws' E rfl rfl rfl rfl hb50) rfl rfl (x_bin E rfl rfl rfl rfl) ?_
      clear a E;intro a E
      refine sv E rfl rfl rfl (x_pickT E rfl rfl hb50 rfl) ?_
      clear a E;intro a E
      refine sv E rfl rfl rfl (x_move E rfl rfl) ?_
      clear a E;intro a E
      rcases Bool.eq_false_or_eq_true (u12.2.Version == 1) with hb51 | hb51
      ·rw [if_t hb51] at hm
       refine st_val E (ws' E rfl rfl rfl rfl hb51) rfl rfl (x_fa E rfl rfl (v := .pointer (some ⟨p23, 0, none⟩)) (fa31_0 _ _)) ?_
       clear a E;intro a E
       refine st_val E (ws' E rfl rfl rfl rfl hb51) rfl rfl (x_ldB (i := 3) E H rfl rfl rfl rfl Tryd.underlying28 rfl) ?_
       clear a E;intro a E
       refine st_val E (ws' E rfl rfl rfl rfl hb51) rfl rfl (x_bin E rfl rfl rfl rfl) ?_
       clear a E;intro a E
       refine sv E rfl rfl rfl (x_pickT E rfl rfl hb51 rfl) ?_
       clear a E;intro a E
       refine sv E rfl rfl rfl (x_move E rfl rfl) ?_
       clear a E;intro a E
       rcases Bool.eq_false_or_eq_true (u19.2.Err == 63) with hb52 | hb52
       ·rw [if_t hb52] at hm
        refine st_val E (ws' E rfl rfl rfl rfl hb52) rfl rfl (x_fa E rfl rfl (v := .pointer (some ⟨p30, 4, none⟩)) (fa31_4 _ _)) ?_
        clear a E;intro a E
        refine st_val E (ws' E rfl rfl rfl rfl hb52) rfl rfl (x_ldB (i := 2) E H rfl rfl rfl rfl Tryd.underlying29 rfl) ?_
        clear a E;intro a E
        refine st_val E (ws' E rfl rfl rfl rfl hb52) rfl rfl (x_lenS E H rfl rfl (.tail _ (.tail _ (.tail _ (.tail _ (.tail _ (.tail _ (.head _))))))) Tryd.underlying29) ?_
        clear a E;intro a E
        refine st_val E (ws' E rfl rfl rfl rfl hb52) rfl rfl (x_bin E rfl rfl rfl rfl) ?_
        clear a E;intro a E
        refine sv E rfl rfl rfl (x_pickT E rfl rfl hb52 rfl) ?_
        clear a E;intro a E
        refine sv E rfl rfl rfl (x_move E rfl rfl) ?_
        clear a E;intro a E
        rcases Bool.eq_false_or_eq_true ((u26.2.Names.length : Int) == 1) with hb53 | hb53
        ·rw [if_t hb53] at hm
         refine st_val E (ws' E rfl rfl rfl rfl hb53) rfl rfl (x_fa E rfl rfl (v := .pointer (some ⟨p37, 0, none⟩)) (fa31_0 _ _)) ?_
         clear a E;intro a E
         refine st_val E (ws' E rfl rfl rfl rfl hb53) rfl rfl (x_ldB (i := 1) E H rfl rfl rfl rfl Tryd.underlying28 rfl) ?_
         clear a E;intro a E
         refine st_val E (ws' E rfl rfl rfl rfl hb53) rfl rfl (x_bin E rfl rfl rfl rfl) ?_
         clear a E;intro a E
         refine sv E rfl rfl rfl (x_pickT E rfl rfl hb53 rfl) ?_
         clear a E;intro a E
         refine sv E rfl rfl rfl (x_move E rfl rfl) ?_
         clear a E;intro a E
         rcases Bool.eq_false_or_eq_true (u33.2.Err == 1) with hb54 | hb54
         ·rw [if_t hb54] at hm
          refine st_val E (ws' E rfl rfl rfl rfl hb54) rfl rfl (x_move E rfl rfl) ?_
          clear a E;intro a E
          refine sv E rfl rfl rfl (x_pickT E rfl rfl hb54 rfl) ?_
          clear a E;intro a E
          refine sv E rfl rfl rfl (x_move E rfl rfl) ?_
          clear a E;intro a E
          rcases Bool.eq_false_or_eq_true u40.2 with hb55 | hb55
          ·rw [if_t hb55] at hm
           refine st_val E (ws' E rfl rfl rfl rfl hb55) rfl rfl (x_fa E rfl rfl (v := .pointer (some ⟨p42, 1, none⟩)) (fa39_1 _ _)) ?_
           clear a E;intro a E
           refine st_val E (ws' E rfl rfl rfl rfl hb55) rfl rfl (x_ldB (i := 0) E H rfl rfl rfl rfl Tryd.underlying9 rfl) ?_
           clear a E;intro a E
           refine st_val E (ws' E rfl rfl rfl rfl hb55) rfl rfl (x_str E rfl rfl rfl rfl) ?_
           clear a E;intro a E
           refine sv E rfl rfl rfl (x_pickT E rfl rfl hb55 rfl) ?_
           clear a E;intro a E
           refine sv E rfl rfl rfl (x_move E rfl rfl) ?_
           clear a E;intro a E
           rcases Bool.eq_false_or_eq_true (sEq u40.1.Data (ByteArray.mk #[120])) with hb56 | hb56
           ·rw [if_t hb56] at hm
            refine st_val E (ws' E rfl rfl rfl rfl hb56) rfl rfl (x_move E rfl rfl) ?_
            clear a E;intro a E
            obtain ⟨u57, hx58, hm⟩ := bnd hm
            refine st_call E (ws' E rfl rfl rfl rfl hb56) rfl rfl (x_call E rfl rfl (cf25 _)) (c_nodes_Right v14 u12.1 H (.tail _ (.tail _ (.tail _ (.tail _ (.tail _ (.tail _ (.tail _ (.tail _ (.tail _ (.head _)))))))))) hx58) ?_
            clear E H; clear a; clear w; rintro _ w ⟨rfl, H⟩ a E
            refine sv E rfl rfl rfl (x_pickT E rfl rfl hb56 rfl) ?_
            clear a E;intro a E
            refine sv E rfl rfl rfl (x_move E rfl rfl) ?_
            clear a E;intro a E
            rcases Bool.eq_false_or_eq_true u57 with hb59 | hb59
            ·rw [if_t hb59] at hm
             refine st_val E (ws' E rfl rfl rfl rfl hb59) rfl rfl (x_build E (ps := []) (vs := []) rfl rfl (v := .agg #[.int .i64 0, .string (ByteArray.mk #[]), .string (ByteArray.mk #[]), .int .i64 0, .int .i64 0, .bool false]) (by kernel_rfl)) ?_
             clear a E;intro a E
             obtain ⟨u60, hx61, hm⟩ := bnd hm
             refine st_call E (ws' E rfl rfl rfl rfl hb59) rfl rfl (x_call E rfl rfl (cf26 _)) (c_nodes_May (⟨0, (ByteArray.mk #[]), (ByteArray.mk #[]), 0, 0, false⟩ : S_api_Op) H hx61) ?_
             clear E H; clear a; clear w; rintro _ w ⟨rfl, H⟩ a E
             refine st_val E (ws' E rfl rfl rfl rfl hb59) rfl rfl (x_not E rfl rfl) ?_
             clear a E;intro a E
             refine sv E rfl rfl rfl (x_pickT E rfl rfl hb59 rfl) ?_
             clear a E;intro a E
             refine sv E rfl rfl rfl (x_assign E rfl rfl) ?_
             clear a E;intro a E
             refine wpList_nil ?_
             refine q_then ?_
             refine wp_ret ?_
             refine out1 E rfl rfl ?_
             replace H := H.drop 0
             replace H := H.drop 0
             replace H := H.drop 0
             replace H := H.drop 0
             replace H := H.drop 0
             replace H := H.drop 0
             obtain rfl := Option.some.inj hm
             exact ⟨rfl, H.reads (fun r hr => .tail _ (.tail _ (.tail _ (.tail _ (.tail _ (.tail _ (.tail _ (.tail _ (.tail _ (.tail _ (.tail _ (.tail _ (.tail _ (.tail _ (hr)))))))))))))))⟩
            ·rw [if_f hb59] at hm
             refine st_no E (wf' E rfl rfl rfl rfl hb59 rfl) rfl rfl ?_
             clear a E;intro a E
             refine st_no E (wf' E rfl rfl rfl rfl hb59 rfl) rfl rfl ?_
             clear a E;intro a E
             refine st_no E (wf' E rfl rfl rfl rfl hb59 rfl) rfl rfl ?_
             clear a E;intro a E
             refine sv E rfl rfl rfl (x_pickF E rfl rfl hb59 rfl) ?_
             clear a E;intro a E
             refine sv E rfl rfl rfl (x_assign E rfl rfl) ?_
             clear a E;intro a E
             refine wpList_nil ?_
             refine q_then ?_
             refine wp_ret ?_
             refine out1 E rfl rfl ?_
             replace H := H.drop 0
             replace H := H.drop 0
             replace H := H.drop 0
             replace H := H.drop 0
             replace H := H.drop 0
             replace H := H.drop 0
             obtain rfl := Option.some.inj hm
             exact ⟨rfl, H.reads (fun r hr => .tail _ (.tail _ (.tail _ (.tail _ (.tail _ (.tail _ (.tail _ (.tail _ (.tail _ (.tail _ (.tail _ (.tail _ (.tail _ (.tail _ (hr)))))))))))))))⟩
           ·rw [if_f hb56] at hm
            refine st_no E (wf' E rfl rfl rfl rfl hb56 rfl) rfl rfl ?_
            clear a E;intro a E
            refine st_no E (wf' E rfl rfl rfl rfl hb56 rfl) rfl rfl ?_
            clear a E;intro a E
            refine sv E rfl rfl rfl (x_pickF E rfl rfl hb56 rfl) ?_
            clear a E;intro a E
            refine sv E rfl rfl rfl (x_move E rfl rfl) ?_
            clear a E;intro a E
            refine st_no E (wf E rfl rfl rfl rfl rfl) rfl rfl ?_
            clear a E;intro a E
            refine st_no E (wf E rfl rfl rfl rfl rfl) rfl rfl ?_
            clear a E;intro a E
            refine st_no E (wf E rfl rfl rfl rfl rfl) rfl rfl ?_
            clear a E;intro a E
            refine sv E rfl rfl rfl (x_pickF E rfl rfl rfl rfl) ?_
            clear a E;intro a E
            refine sv E rfl rfl rfl (x_assign E rfl rfl) ?_
            clear a E;intro a E
            refine wpList_nil ?_
            refine q_then ?_
            refine wp_ret ?_
            refine out1 E rfl rfl ?_
            replace H := H.drop 0
            replace H := H.drop 0
            replace H := H.drop 0
            replace H := H.drop 0
            replace H := H.drop 0
            replace H := H.drop 0
            obtain rfl := Option.some.inj hm
            exact ⟨rfl, H.reads (fun r hr => .tail _ (.tail _ (.tail _ (.tail _ (.tail _ (.tail _ (.tail _ (.tail _ (.tail _ (.tail _ (.tail _ (.tail _ (.tail _ (.tail _ (hr)))))))))))))))⟩
          ·rw [if_f hb55] at hm
           refine st_no E (wf' E rfl rfl rfl rfl hb55 rfl) rfl rfl ?_
           clear a E;intro a E
           refine st_no E (wf' E rfl rfl rfl rfl hb55 rfl) rfl rfl ?_
           clear a E;intro a E
           refine st_no E (wf' E rfl rfl rfl rfl hb55 rfl) rfl rfl ?_
           clear a E;intro a E
           refine sv E rfl rfl rfl (x_pickF E rfl rfl hb55 rfl) ?_
           clear a E;intro a E
           refine sv E rfl rfl rfl (x_move E rfl rfl) ?_
           clear a E;intro a E
           refine st_no E (wf E rfl rfl rfl rfl rfl) rfl rfl ?_
           clear a E;intro a E
           refine st_no E (wf E rfl rfl rfl rfl rfl) rfl rfl ?_
           clear a E;intro a E
           refine sv E rfl rfl rfl (x_pickF E rfl rfl rfl rfl) ?_
           clear a E;intro a E
           refine sv E rfl rfl rfl (x_move E rfl rfl) ?_
           clear a E;intro a E
           refine st_no E (wf E rfl rfl rfl rfl rfl) rfl rfl ?_
           clear a E;intro a E
           refine st_no E (wf E rfl rfl rfl rfl rfl) rfl rfl ?_
           clear a E;intro a E
           refine st_no E (wf E rfl rfl rfl rfl rfl) rfl rfl ?_
           clear a E;intro a E
           refine sv E rfl rfl rfl (x_pickF E rfl rfl rfl rfl) ?_
           clear a E;intro a E
           refine sv E rfl rfl rfl (x_assign E rfl rfl) ?_
           clear a E;intro a E
           refine wpList_nil ?_
           refine q_then ?_
           refine wp_ret ?_
           refine out1 E rfl rfl ?_
           replace H := H.drop 0
           replace H := H.drop 0
           replace H := H.drop 0
           replace H := H.drop 0
           replace H := H.drop 0
           replace H := H.drop 0
           obtain rfl := Option.some.inj hm
           exact ⟨rfl, H.reads (fun r hr => .tail _ (.tail _ (.tail _ (.tail _ (.tail _ (.tail _ (.tail _ (.tail _ (.tail _ (.tail _ (.tail _ (.tail _ (.tail _ (.tail _ (hr)))))))))))))))⟩
         ·rw [if_f hb54] at hm
          refine st_no E (wf' E rfl rfl rfl rfl hb54 rfl) rfl rfl ?_
          clear a E;intro a E
          refine sv E rfl rfl rfl (x_pickF E rfl rfl hb54 rfl) ?_
          clear a E;intro a E
          refine sv E rfl rfl rfl (x_move E rfl rfl) ?_
          clear a E;intro a E
          refine st_no E (wf E rfl rfl rfl rfl rfl) rfl rfl ?_
          clear a E;intro a E
          refine st_no E (wf E rfl rfl rfl rfl rfl) rfl rfl ?_
          clear a E;intro a E
          refine st_no E (wf E rfl rfl rfl rfl rfl) rfl rfl ?_
          clear a E;intro a E
          refine sv E rfl rfl rfl (x_pickF E rfl rfl rfl rfl) ?_
          clear a E;intro a E
          refine sv E rfl rfl rfl (x_move E rfl rfl) ?_
          clear a E;intro a E
          refine st_no E (wf E rfl rfl rfl rfl rfl) rfl rfl ?_
          clear a E;intro a E
          refine st_no E (wf E rfl rfl rfl rfl rfl) rfl rfl ?_
          clear a E;intro a E
          refine sv E rfl rfl rfl (x_pickF E rfl rfl rfl rfl) ?_
          clear a E;intro a E
          refine sv E rfl rfl rfl (x_move E rfl rfl) ?_
          clear a E;intro a E
          refine st_no E (wf E rfl rfl rfl rfl rfl) rfl rfl ?_
          clear a E;intro a E
          refine st_no E (wf E rfl rfl rfl rfl rfl) rfl rfl ?_
          clear a E;intro a E
          refine st_no E (wf E rfl rfl rfl rfl rfl) rfl rfl ?_
          clear a E;intro a E
          refine sv E rfl rfl rfl (x_pickF E rfl rfl rfl rfl) ?_
          clear a E;intro a E
          refine sv E rfl rfl rfl (x_assign E rfl rfl) ?_
          clear a E;intro a E
          refine wpList_nil ?_
          refine q_then ?_
          refine wp_ret ?_
          refine out1 E rfl rfl ?_
          replace H := H.drop 0
          replace H := H.drop 0
          replace H := H.drop 0
          replace H := H.drop 0
          replace H := H.drop 0
          replace H := H.drop 0
          obtain rfl := Option.some.inj hm
          exact ⟨rfl, H.reads (fun r hr => .tail _ (.tail _ (.tail _ (.tail _ (.tail _ (.tail _ (.tail _ (.tail _ (.tail _ (.tail _ (.tail _ (.tail _ (.tail _ (.tail _ (hr)))))))))))))))⟩
        ·rw [if_f hb53] at hm
         refine st_no E (wf' E rfl rfl rfl rfl hb53 rfl) rfl rfl ?_
         clear a E;intro a E
         refine st_no E (wf' E rfl rfl rfl rfl hb53 rfl) rfl rfl ?_
         clear a E;intro a E
         refine st_no E (wf' E rfl rfl rfl rfl hb53 rfl) rfl rfl ?_
         clear a E;intro a E
         refine sv E rfl rfl rfl (x_pickF E rfl rfl hb53 rfl) ?_
         clear a E;intro a E
         refine sv E rfl rfl rfl (x_move E rfl rfl) ?_
         clear a E;intro a E
         refine st_no E (wf E rfl rfl rfl rfl rfl) rfl rfl ?_
         clear a E;intro a E
         refine sv E rfl rfl rfl (x_pickF E rfl rfl rfl rfl) ?_
         clear a E;intro a E
         refine sv E rfl rfl rfl (x_move E rfl rfl) ?_
         clear a E;intro a E
         refine st_no E (wf E rfl rfl rfl rfl rfl) rfl rfl ?_
         clear a E;intro a E
         refine st_no E (wf E rfl rfl rfl rfl rfl) rfl rfl ?_
         clear a E;intro a E
         refine st_no E (wf E rfl rfl rfl rfl rfl) rfl rfl ?_
         clear a E;intro a E
         refine sv E rfl rfl rfl (x_pickF E rfl rfl rfl rfl) ?_
         clear a E;intro a E
         refine sv E rfl rfl rfl (x_move E rfl rfl) ?_
         clear a E;intro a E
         refine st_no E (wf E rfl rfl rfl rfl rfl) rfl rfl ?_
         clear a E;intro a E
         refine st_no E (wf E rfl rfl rfl rfl rfl) rfl rfl ?_
         clear a E;intro a E
         refine sv E rfl rfl rfl (x_pickF E rfl rfl rfl rfl) ?_
         clear a E;intro a E
         refine sv E rfl rfl rfl (x_move E rfl rfl) ?_
         clear a E;intro a E
         refine st_no E (wf E rfl rfl rfl rfl rfl) rfl rfl ?_
         clear a E;intro a E
         refine st_no E (wf E rfl rfl rfl rfl rfl) rfl rfl ?_
         clear a E;intro a E
         refine st_no E (wf E rfl rfl rfl rfl rfl) rfl rfl ?_
         clear a E;intro a E
         refine sv E rfl rfl rfl (x_pickF E rfl rfl rfl rfl) ?_
         clear a E;intro a E
         refine sv E rfl rfl rfl (x_assign E rfl rfl) ?_
         clear a E;intro a E
         refine wpList_nil ?_
         refine q_then ?_
         refine wp_ret ?_
         refine out1 E rfl rfl ?_
         replace H := H.drop 0
         replace H := H.drop 0
         replace H := H.drop 0
         replace H := H.drop 0
         replace H := H.drop 0
         replace H := H.drop 0
         obtain rfl := Option.some.inj hm
         exact ⟨rfl, H.reads (fun r hr => .tail _ (.tail _ (.tail _ (.tail _ (.tail _ (.tail _ (.tail _ (.tail _ (.tail _ (.tail _ (.tail _ (.tail _ (.tail _ (.tail _ (hr)))))))))))))))⟩
       ·rw [if_f hb52] at hm
        refine st_no E (wf' E rfl rfl rfl rfl hb52 rfl) rfl rfl ?_
        clear a E;intro a E
        refine st_no E (wf' E rfl rfl rfl rfl hb52 rfl) rfl rfl ?_
        clear a E;intro a E
        refine st_no E (wf' E rfl rfl rfl rfl hb52 rfl) rfl rfl ?_
        clear a E;intro a E
        refine st_no E (wf' E rfl rfl rfl rfl hb52 rfl) rfl rfl ?_
        clear a E;intro a E
        refine sv E rfl rfl rfl (x_pickF E rfl rfl hb52 rfl) ?_
        clear a E;intro a E
        refine sv E rfl rfl rfl (x_move E rfl rfl) ?_
        clear a E;intro a E
        refine st_no E (wf E rfl rfl rfl rfl rfl) rfl rfl ?_
        clear a E;intro a E
        refine st_no E (wf E rfl rfl rfl rfl rfl) rfl rfl ?_
        clear a E;intro a E
        refine st_no E (wf E rfl rfl rfl rfl rfl) rfl rfl ?_
        clear a E;intro a E
        refine sv E rfl rfl rfl (x_pickF E rfl rfl rfl rfl) ?_
        clear a E;intro a E
        refine sv E rfl rfl rfl (x_move E rfl rfl) ?_
        clear a E;intro a E
        refine st_no E (wf E rfl rfl rfl rfl rfl) rfl rfl ?_
        clear a E;intro a E
        refine sv E rfl rfl rfl (x_pickF E rfl rfl rfl rfl) ?_
        clear a E;intro a E
        refine sv E rfl rfl rfl (x_move E rfl rfl) ?_
        clear a E;intro a E
        refine st_no E (wf E rfl rfl rfl rfl rfl) rfl rfl ?_
        clear a E;intro a E
        refine st_no E (wf E rfl rfl rfl rfl rfl) rfl rfl ?_
        clear a E;intro a E
        refine st_no E (wf E rfl rfl rfl rfl rfl) rfl rfl ?_
        clear a E;intro a E
        refine sv E rfl rfl rfl (x_pickF E rfl rfl rfl rfl) ?_
        clear a E;intro a E
        refine sv E rfl rfl rfl (x_move E rfl rfl) ?_
        clear a E;intro a E
        refine st_no E (wf E rfl rfl rfl rfl rfl) rfl rfl ?_
        clear a E;intro a E
        refine st_no E (wf E rfl rfl rfl rfl rfl) rfl rfl ?_
        clear a E;intro a E
        refine sv E rfl rfl rfl (x_pickF E rfl rfl rfl rfl) ?_
        clear a E;intro a E
        refine sv E rfl rfl rfl (x_move E rfl rfl) ?_
        clear a E;intro a E
        refine st_no E (wf E rfl rfl rfl rfl rfl) rfl rfl ?_
        clear a E;intro a E
        refine st_no E (wf E rfl rfl rfl rfl rfl) rfl rfl ?_
        clear a E;intro a E
        refine st_no E (wf E rfl rfl rfl rfl rfl) rfl rfl ?_
        clear a E;intro a E
        refine sv E rfl rfl rfl (x_pickF E rfl rfl rfl rfl) ?_
        clear a E;intro a E
        refine sv E rfl rfl rfl (x_assign E rfl rfl) ?_
        clear a E;intro a E
        refine wpList_nil ?_
        refine q_then ?_
        refine wp_ret ?_
        refine out1 E rfl rfl ?_
        replace H := H.drop 0
        replace H := H.drop 0
        replace H := H.drop 0
        replace H := H.drop 0
        replace H := H.drop 0
        replace H := H.drop 0
        obtain rfl := Option.some.inj hm
        exact ⟨rfl, H.reads (fun r hr => .tail _ (.tail _ (.tail _ (.tail _ (.tail _ (.tail _ (.tail _ (.tail _ (.tail _ (.tail _ (.tail _ (.tail _ (.tail _ (.tail _ (hr)))))))))))))))⟩
      ·rw [if_f hb51] at hm
       refine st_no E (wf' E rfl rfl rfl rfl hb51 rfl) rfl rfl ?_
       clear a E;intro a E
       refine st_no E (wf' E rfl rfl rfl rfl hb51 rfl) rfl rfl ?_
       clear a E;intro a E
       refine st_no E (wf' E rfl rfl rfl rfl hb51 rfl) rfl rfl ?_
       clear a E;intro a E
       refine sv E rfl rfl rfl (x_pickF E rfl rfl hb51 rfl) ?_
       clear a E;intro a E
       refine sv E rfl rfl rfl (x_move E rfl rfl) ?_
       clear a E;intro a E
       refine st_no E (wf E rfl rfl rfl rfl rfl) rfl rfl ?_
       clear a E;intro a E
       refine st_no E (wf E rfl rfl rfl rfl rfl) rfl rfl ?_
       clear a E;intro a E
       refine st_no E (wf E rfl rfl rfl rfl rfl) rfl rfl ?_
       clear a E;intro a E
       refine st_no E (wf E rfl rfl rfl rfl rfl) rfl rfl ?_
       clear a E;intro a E
       refine sv E rfl rfl rfl (x_pickF E rfl rfl rfl rfl) ?_
       clear a E;intro a E
       refine sv E rfl rfl rfl (x_move E rfl rfl) ?_
       clear a E;intro a E
       refine st_no E (wf E rfl rfl rfl rfl rfl) rfl rfl ?_
       clear a E;intro a E
       refine st_no E (wf E rfl rfl rfl rfl rfl) rfl rfl ?_
       clear a E;intro a E
       refine st_no E (wf E rfl rfl rfl rfl rfl) rfl rfl ?_
       clear a E;intro a E
       refine sv E rfl rfl rfl (x_pickF E rfl rfl rfl rfl) ?_
       clear a E;intro a E
       refine sv E rfl rfl rfl (x_move E rfl rfl) ?_
       clear a E;intro a E
       refine st_no E (wf E rfl rfl rfl rfl rfl) rfl rfl ?_
       clear a E;intro a E
       refine sv E rfl rfl rfl (x_pickF E rfl rfl rfl rfl) ?_
       clear a E;intro a E
       refine sv E rfl rfl rfl (x_move E rfl rfl) ?_
       clear a E;intro a E
       refine st_no E (wf E rfl rfl rfl rfl rfl) rfl rfl ?_
       clear a E;intro a E
       refine st_no E (wf E rfl rfl rfl rfl rfl) rfl rfl ?_
       clear a E;intro a E
       refine st_no E (wf E rfl rfl rfl rfl rfl) rfl rfl ?_
       clear a E;intro a E
       refine sv E rfl rfl rfl (x_pickF E rfl rfl rfl rfl) ?_
       clear a E;intro a E
       refine sv E rfl rfl rfl (x_move E rfl rfl) ?_
       clear a E;intro a E
       refine st_no E (wf E rfl rfl rfl rfl rfl) rfl rfl ?_
       clear a E;intro a E
       refine st_no E (wf E rfl rfl rfl rfl rfl) rfl rfl ?_
       clear a E;intro a E
       refine sv E rfl rfl rfl (x_pickF E rfl rfl rfl rfl) ?_
       clear a E;intro a E
       refine sv E rfl rfl rfl (x_move E rfl rfl) ?_
       clear a E;intro a E
       refine st_no E (wf E rfl rfl rfl rfl rfl) rfl rfl ?_
       clear a E;intro a E
       refine st_no E (wf E rfl rfl rfl rfl rfl) rfl rfl ?_
       clear a E;intro a E
       refine st_no E (wf E rfl rfl rfl rfl rfl) rfl rfl ?_
       clear a E;intro a E
       refine sv E rfl rfl rfl (x_pickF E rfl rfl rfl rfl) ?_
       clear a E;intro a E
       refine sv E rfl rfl rfl (x_assign E rfl rfl) ?_
       clear a E;intro a E
       refine wpList_nil ?_
       refine q_then ?_
       refine wp_ret ?_
       refine out1 E rfl rfl ?_
       replace H := H.drop 0
       replace H := H.drop 0
       replace H := H.drop 0
       replace H := H.drop 0
       replace H := H.drop 0
       replace H := H.drop 0
       obtain rfl := Option.some.inj hm
       exact ⟨rfl, H.reads (fun r hr => .tail _ (.tail _ (.tail _ (.tail _ (.tail _ (.tail _ (.tail _ (.tail _ (.tail _ (.tail _ (.tail _ (.tail _ (.tail _ (.tail _ (hr)))))))))))))))⟩
     ·rw [if_f hb50] at hm
      refine st_no E (wf' E rfl rfl rfl rfl hb50 rfl) rfl rfl ?_
      clear a E;intro a E
      refine st_no E (wf' E rfl rfl rfl rfl hb50 rfl) rfl rfl ?_
      clear a E;intro a E
      refine st_no E (wf' E rfl rfl rfl rfl hb50 rfl) rfl rfl ?_
      clear a E;intro a E
      refine sv E rfl rfl rfl (x_pickF E rfl rfl hb50 rfl) ?_
      clear a E;intro a E
      refine sv E rfl rfl rfl (x_move E rfl rfl) ?_
      clear a E;intro a E
      refine st_no E (wf E rfl rfl rfl rfl rfl) rfl rfl ?_
      clear a E;intro a E
      refine st_no E (wf E rfl rfl rfl rfl rfl) rfl rfl ?_
      clear a E;intro a E
      refine st_no E (wf E rfl rfl rfl rfl rfl) rfl rfl ?_
      clear a E;intro a E
      refine sv E rfl rfl rfl (x_pickF E rfl rfl rfl rfl) ?_
      clear a E;intro a E
      refine sv E rfl rfl rfl (x_move E rfl rfl) ?_
      clear a E;intro a E
      refine st_no E (wf E rfl rfl rfl rfl rfl) rfl rfl ?_
      clear a E;intro a E
      refine st_no E (wf E rfl rfl rfl rfl rfl) rfl rfl ?_
      clear a E;intro a E
      refine st_no E (wf E rfl rfl rfl rfl rfl) rfl rfl ?_
      clear a E;intro a E
      refine st_no E (wf E rfl rfl rfl rfl rfl) rfl rfl ?_
      clear a E;intro a E
      refine sv E rfl rfl rfl (x_pickF E rfl rfl rfl rfl) ?_
      clear a E;intro a E
      refine sv E rfl rfl rfl (x_move E rfl rfl) ?_
      clear a E;intro a E
      refine st_no E (wf E rfl rfl rfl rfl rfl) rfl rfl ?_
      clear a E;intro a E
      refine st_no E (wf E rfl rfl rfl rfl rfl) rfl rfl ?_
      clear a E;intro a E
      refine st_no E (wf E rfl rfl rfl rfl rfl) rfl rfl ?_
      clear a E;intro a E
      refine sv E rfl rfl rfl (x_pickF E rfl rfl rfl rfl) ?_
      clear a E;intro a E
      refine sv E rfl rfl rfl (x_move E rfl rfl) ?_
      clear a E;intro a E
      refine st_no E (wf E rfl rfl rfl rfl rfl) rfl rfl ?_
      clear a E;intro a E
      refine sv E rfl rfl rfl (x_pickF E rfl rfl rfl rfl) ?_
      clear a E;intro a E
      refine sv E rfl rfl rfl (x_move E rfl rfl) ?_
      clear a E;intro a E
      refine st_no E (wf E rfl rfl rfl rfl rfl) rfl rfl ?_
      clear a E;intro a E
      refine st_no E (wf E rfl rfl rfl rfl rfl) rfl rfl ?_
      clear a E;intro a E
      refine st_no E (wf E rfl rfl rfl rfl rfl) rfl rfl ?_
      clear a E;intro a E
      refine sv E rfl rfl rfl (x_pickF E rfl rfl rfl rfl) ?_
      clear a E;intro a E
      refine sv E rfl rfl rfl (x_move E rfl rfl) ?_
      clear a E;intro a E
      refine st_no E (wf E rfl rfl rfl rfl rfl) rfl rfl ?_
      clear a E;intro a E
      refine st_no E (wf E rfl rfl rfl rfl rfl) rfl rfl ?_
      clear a E;intro a E
      refine sv E rfl rfl rfl (x_pickF E rfl rfl rfl rfl) ?_
      clear a E;intro a E
      refine sv E rfl rfl rfl (x_move E rfl rfl) ?_
      clear a E;intro a E
      refine st_no E (wf E rfl rfl rfl rfl rfl) rfl rfl ?_
      clear a E;intro a E
      refine st_no E (wf E rfl rfl rfl rfl rfl) rfl rfl ?_
      clear a E;intro a E
      refine st_no E (wf E rfl rfl rfl rfl rfl) rfl rfl ?_
      clear a E;intro a E
      refine sv E rfl rfl rfl (x_pickF E rfl rfl rfl rfl) ?_
      clear a E;intro a E
      refine sv E rfl rfl rfl (x_assign E rfl rfl) ?_
      clear a E;intro a E
      refine wpList_nil ?_
      refine q_then ?_
      refine wp_ret ?_
      refine out1 E rfl rfl ?_
      replace H := H.drop 0
      replace H := H.drop 0
      replace H := H.drop 0
      replace H := H.drop 0
      replace H := H.drop 0
      replace H := H.drop 0
      obtain rfl := Option.some.inj hm
      exact ⟨rfl, H.reads (fun r hr => .tail _ (.tail _ (.tail _ (.tail _ (.tail _ (.tail _ (.tail _ (.tail _ (.tail _ (.tail _ (.tail _ (.tail _ (.tail _ (.tail _ (hr)))))))))))))))⟩
    ·rw [if_f hb46] at hm
     refine st_no E (wf' E rfl rfl rfl rfl hb46 rfl) rfl rfl ?_
     clear a E;intro a E
     refine st_no E (wf' E rfl rfl rfl rfl hb46 rfl) rfl rfl ?_
     clear a E;intro a E
     refine st_no E (wf' E rfl rfl rfl rfl hb46 rfl) rfl rfl ?_
     clear a E;intro a E
     refine st_no E (wf' E rfl rfl rfl rfl hb46 rfl) rfl rfl ?_
     clear a E;intro a E
     refine st_no E (wf' E rfl rfl rfl rfl hb46 rfl) rfl rfl ?_
     clear a E;intro a E
     refine sv E rfl rfl rfl (x_pickF E rfl rfl hb46 rfl) ?_
     clear a E;intro a E
     refine sv E rfl rfl rfl (x_move E rfl rfl) ?_
     clear a E;intro a E
     refine st_no E (wf E rfl rfl rfl rfl rfl) rfl rfl ?_
     clear a E;intro a E
     refine st_no E (wf E rfl rfl rfl rfl rfl) rfl rfl ?_
     clear a E;intro a E
     refine st_no E (wf E rfl rfl rfl rfl rfl) rfl rfl ?_
     clear a E;intro a E
     refine sv E rfl rfl rfl (x_pickF E rfl rfl rfl rfl) ?_
     clear a E;intro a E
     refine sv E rfl rfl rfl (x_move E rfl rfl) ?_
     clear a E;intro a E
     refine st_no E (wf E rfl rfl rfl rfl rfl) rfl rfl ?_
     clear a E;intro a E
     refine st_no E (wf E rfl rfl rfl rfl rfl) rfl rfl ?_
     clear a E;intro a E
     refine st_no E (wf E rfl rfl rfl rfl rfl) rfl rfl ?_
     clear a E;intro a E
     refine sv E rfl rfl rfl (x_pickF E rfl rfl rfl rfl) ?_
     clear a E;intro a E
     refine sv E rfl rfl rfl (x_move E rfl rfl) ?_
     clear a E;intro a E
     refine st_no E (wf E rfl rfl rfl rfl rfl) rfl rfl ?_
     clear a E;intro a E
     refine st_no E (wf E rfl rfl rfl rfl rfl) rfl rfl ?_
     clear a E;intro a E
     refine st_no E (wf E rfl rfl rfl rfl rfl) rfl rfl ?_
     clear a E;intro a E
     refine st_no E (wf E rfl rfl rfl rfl rfl) rfl rfl ?_
     clear a E;intro a E
     refine sv E rfl rfl rfl (x_pickF E rfl rfl rfl rfl) ?_
     clear a E;intro a E
     refine sv E rfl rfl rfl (x_move E rfl rfl) ?_
     clear a E;intro a E
     refine st_no E (wf E rfl rfl rfl rfl rfl) rfl rfl ?_
     clear a E;intro a E
     refine st_no E (wf E rfl rfl rfl rfl rfl) rfl rfl ?_
     clear a E;intro a E
     refine st_no E (wf E rfl rfl rfl rfl rfl) rfl rfl ?_
     clear a E;intro a E
     refine sv E rfl rfl rfl (x_pickF E rfl rfl rfl rfl) ?_
     clear a E;intro a E
     refine sv E rfl rfl rfl (x_move E rfl rfl) ?_
     clear a E;intro a E
     refine st_no E (wf E rfl rfl rfl rfl rfl) rfl rfl ?_
     clear a E;intro a E
     refine sv E rfl rfl rfl (x_pickF E rfl rfl rfl rfl) ?_
     clear a E;intro a E
     refine sv E rfl rfl rfl (x_move E rfl rfl) ?_
     clear a E;intro a E
     refine st_no E (wf E rfl rfl rfl rfl rfl) rfl rfl ?_
     clear a E;intro a E
     refine st_no E (wf E rfl rfl rfl rfl rfl) rfl rfl ?_
     clear a E;intro a E
     refine st_no E (wf E rfl rfl rfl rfl rfl) rfl rfl ?_
     clear a E;intro a E
     refine sv E rfl rfl rfl (x_pickF E rfl rfl rfl rfl) ?_
     clear a E;intro a E
     refine sv E rfl rfl rfl (x_move E rfl rfl) ?_
     clear a E;intro a E
     refine st_no E (wf E rfl rfl rfl rfl rfl) rfl rfl ?_
     clear a E;intro a E
     refine st_no E (wf E rfl rfl rfl rfl rfl) rfl rfl ?_
     clear a E;intro a E
     refine sv E rfl rfl rfl (x_pickF E rfl rfl rfl rfl) ?_
     clear a E;intro a E
     refine sv E rfl rfl rfl (x_move E rfl rfl) ?_
     clear a E;intro a E
     refine st_no E (wf E rfl rfl rfl rfl rfl) rfl rfl ?_
     clear a E;intro a E
     refine st_no E (wf E rfl rfl rfl rfl rfl) rfl rfl ?_
     clear a E;intro a E
     refine st_no E (wf E rfl rfl rfl rfl rfl) rfl rfl ?_
     clear a E;intro a E
     refine sv E rfl rfl rfl (x_pickF E rfl rfl rfl rfl) ?_
     clear a E;intro a E
     refine sv E rfl rfl rfl (x_assign E rfl rfl) ?_
     clear a E;intro a E
     refine wpList_nil ?_
     refine q_then ?_
     refine wp_ret ?_
     refine out1 E rfl rfl ?_
     replace H := H.drop 0
     replace H := H.drop 0
     replace H := H.drop 0
     replace H := H.drop 0
     replace H := H.drop 0
     replace H := H.drop 0
     obtain rfl := Option.some.inj hm
     exact ⟨rfl, H.reads (fun r hr => .tail _ (.tail _ (.tail _ (.tail _ (.tail _ (.tail _ (.tail _ (.tail _ (.tail _ (.tail _ (.tail _ (.tail _ (hr)))))))))))))⟩
   ·rw [if_f hb45] at hm
    refine st_no E (wf' E rfl rfl rfl rfl hb45 rfl) rfl rfl ?_
    clear a E;intro a E
    refine st_no E (wf' E rfl rfl rfl rfl hb45 rfl) rfl rfl ?_
    clear a E;intro a E
    refine st_no E (wf' E rfl rfl rfl rfl hb45 rfl) rfl rfl ?_
    clear a E;intro a E
    refine sv E rfl rfl rfl (x_pickF E rfl rfl hb45 rfl) ?_
    clear a E;intro a E
    refine sv E rfl rfl rfl (x_move E rfl rfl) ?_
    clear a E;intro a E
    refine st_no E (wf E rfl rfl rfl rfl rfl) rfl rfl ?_
    clear a E;intro a E
    refine st_no E (wf E rfl rfl rfl rfl rfl) rfl rfl ?_
    clear a E;intro a E
    refine st_no E (wf E rfl rfl rfl rfl rfl) rfl rfl ?_
    clear a E;intro a E
    refine st_no E (wf E rfl rfl rfl rfl rfl) rfl rfl ?_
    clear a E;intro a E
    refine st_no E (wf E rfl rfl rfl rfl rfl) rfl rfl ?_
    clear a E;intro a E
    refine sv E rfl rfl rfl (x_pickF E rfl rfl rfl rfl) ?_
    clear a E;intro a E
    refine sv E rfl rfl rfl (x_move E rfl rfl) ?_
    clear a E;intro a E
    refine st_no E (wf E rfl rfl rfl rfl rfl) rfl rfl ?_
    clear a E;intro a E
    refine st_no E (wf E rfl rfl rfl rfl rfl) rfl rfl ?_
    clear a E;intro a E
    refine st_no E (wf E rfl rfl rfl rfl rfl) rfl rfl ?_
    clear a E;intro a E
    refine sv E rfl rfl rfl (x_pickF E rfl rfl rfl rfl) ?_
    clear a E;intro a E
    refine sv E rfl rfl rfl (x_move E rfl rfl) ?_
    clear a E;intro a E
    refine st_no E (wf E rfl rfl rfl rfl rfl) rfl rfl ?_
    clear a E;intro a E
    refine st_no E (wf E rfl rfl rfl rfl rfl) rfl rfl ?_
    clear a E;intro a E
    refine st_no E (wf E rfl rfl rfl rfl rfl) rfl rfl ?_
    clear a E;intro a E
    refine sv E rfl rfl rfl (x_pickF E rfl rfl rfl rfl) ?_
    clear a E;intro a E
    refine sv E rfl rfl rfl (x_move E rfl rfl) ?_
    clear a E;intro a E
    refine st_no E (wf E rfl rfl rfl rfl rfl) rfl rfl ?_
    clear a E;intro a E
    refine st_no E (wf E rfl rfl rfl rfl rfl) rfl rfl ?_
    clear a E;intro a E
    refine st_no E (wf E rfl rfl rfl rfl rfl) rfl rfl ?_
    clear a E;intro a E
    refine st_no E (wf E rfl rfl rfl rfl rfl) rfl rfl ?_
    clear a E;intro a E
    refine sv E rfl rfl rfl (x_pickF E rfl rfl rfl rfl) ?_
    clear a E;intro a E
    refine sv E rfl rfl rfl (x_move E rfl rfl) ?_
    clear a E;intro a E
    refine st_no E (wf E rfl rfl rfl rfl rfl) rfl rfl ?_
    clear a E;intro a E
    refine st_no E (wf E rfl rfl rfl rfl rfl) rfl rfl ?_
    clear a E;intro a E
    refine st_no E (wf E rfl rfl rfl rfl rfl) rfl rfl ?_
    clear a E;intro a E
    refine sv E rfl rfl rfl (x_pickF E rfl rfl rfl rfl) ?_
    clear a E;intro a E
    refine sv E rfl rfl rfl (x_move E rfl rfl) ?_
    clear a E;intro a E
    refine st_no E (wf E rfl rfl rfl rfl rfl) rfl rfl ?_
    clear a E;intro a E
    refine sv E rfl rfl rfl (x_pickF E rfl rfl rfl rfl) ?_
    clear a E;intro a E
    refine sv E rfl rfl rfl (x_move E rfl rfl) ?_
    clear a E;intro a E
    refine st_no E (wf E rfl rfl rfl rfl rfl) rfl rfl ?_
    clear a E;intro a E
    refine st_no E (wf E rfl rfl rfl rfl rfl) rfl rfl ?_
    clear a E;intro a E
    refine st_no E (wf E rfl rfl rfl rfl rfl) rfl rfl ?_
    clear a E;intro a E
    refine sv E rfl rfl rfl (x_pickF E rfl rfl rfl rfl) ?_
    clear a E;intro a E
    refine sv E rfl rfl rfl (x_move E rfl rfl) ?_
    clear a E;intro a E
    refine st_no E (wf E rfl rfl rfl rfl rfl) rfl rfl ?_
    clear a E;intro a E
    refine st_no E (wf E rfl rfl rfl rfl rfl) rfl rfl ?_
    clear a E;intro a E
    refine sv E rfl rfl rfl (x_pickF E rfl rfl rfl rfl) ?_
    clear a E;intro a E
    refine sv E rfl rfl rfl (x_move E rfl rfl) ?_
    clear a E;intro a E
    refine st_no E (wf E rfl rfl rfl rfl rfl) rfl rfl ?_
    clear a E;intro a E
    refine st_no E (wf E rfl rfl rfl rfl rfl) rfl rfl ?_
    clear a E;intro a E
    refine st_no E (wf E rfl rfl rfl rfl rfl) rfl rfl ?_
    clear a E;intro a E
    refine sv E rfl rfl rfl (x_pickF E rfl rfl rfl rfl) ?_
    clear a E;intro a E
    refine sv E rfl rfl rfl (x_assign E rfl rfl) ?_
    clear a E;intro a E
    refine wpList_nil ?_
    refine q_then ?_
    refine wp_ret ?_
    refine out1 E rfl rfl ?_
    replace H := H.drop 0
    replace H := H.drop 0
    replace H := H.drop 0
    replace H := H.drop 0
    replace H := H.drop 0
    replace H := H.drop 0
    obtain rfl := Option.some.inj hm
    exact ⟨rfl, H.reads (fun r hr => .tail _ (.tail _ (.tail _ (.tail _ (.tail _ (.tail _ (.tail _ (.tail _ (.tail _ (.tail _ (.tail _ (.tail _ (hr)))))))))))))⟩
  ·rw [if_f hb44] at hm
   refine st_no E (wf' E rfl rfl rfl rfl hb44 rfl) rfl rfl ?_
   clear a E;intro a E
   refine st_no E (wf' E rfl rfl rfl rfl hb44 rfl) rfl rfl ?_
   clear a E;intro a E
   refine st_no E (wf' E rfl rfl rfl rfl hb44 rfl) rfl rfl ?_
   clear a E;intro a E
   refine sv E rfl rfl rfl (x_pickF E rfl rfl hb44 rfl) ?_
   clear a E;intro a E
   refine sv E rfl rfl rfl (x_move E rfl rfl) ?_
   clear a E;intro a E
   refine st_no E (wf E rfl rfl rfl rfl rfl) rfl rfl ?_
   clear a E;intro a E
   refine st_no E (wf E rfl rfl rfl rfl rfl) rfl rfl ?_
   clear a E;intro a E
   refine st_no E (wf E rfl rfl rfl rfl rfl) rfl rfl ?_
   clear a E;intro a E
   refine sv E rfl rfl rfl (x_pickF E rfl rfl rfl rfl) ?_
   clear a E;intro a E
   refine sv E rfl rfl rfl (x_move E rfl rfl) ?_
   clear a E;intro a E
   refine st_no E (wf E rfl rfl rfl rfl rfl) rfl rfl ?_
   clear a E;intro a E
   refine st_no E (wf E rfl rfl rfl rfl rfl) rfl rfl ?_
   clear a E;intro a E
   refine st_no E (wf E rfl rfl rfl rfl rfl) rfl rfl ?_
   clear a E;intro a E
   refine st_no E (wf E rfl rfl rfl rfl rfl) rfl rfl ?_
   clear a E;intro a E
   refine st_no E (wf E rfl rfl rfl rfl rfl) rfl rfl ?_
   clear a E;intro a E
   refine sv E rfl rfl rfl (x_pickF E rfl rfl rfl rfl) ?_
   clear a E;intro a E
   refine sv E rfl rfl rfl (x_move E rfl rfl) ?_
   clear a E;intro a E
   refine st_no E (wf E rfl rfl rfl rfl rfl) rfl rfl ?_
   clear a E;intro a E
   refine st_no E (wf E rfl rfl rfl rfl rfl) rfl rfl ?_
   clear a E;intro a E
   refine st_no E (wf E rfl rfl rfl rfl rfl) rfl rfl ?_
   clear a E;intro a E
   refine sv E rfl rfl rfl (x_pickF E rfl rfl rfl rfl) ?_
   clear a E;intro a E
   refine sv E rfl rfl rfl (x_move E rfl rfl) ?_
   clear a E;intro a E
   refine st_no E (wf E rfl rfl rfl rfl rfl) rfl rfl ?_
   clear a E;intro a E
   refine st_no E (wf E rfl rfl rfl rfl rfl) rfl rfl ?_
   clear a E;intro a E
   refine st_no E (wf E rfl rfl rfl rfl rfl) rfl rfl ?_
   clear a E;intro a E
   refine sv E rfl rfl rfl (x_pickF E rfl rfl rfl rfl) ?_
   clear a E;intro a E
   refine sv E rfl rfl rfl (x_move E rfl rfl) ?_
   clear a E;intro a E
   refine st_no E (wf E rfl rfl rfl rfl rfl) rfl rfl ?_
   clear a E;intro a E
   refine st_no E (wf E rfl rfl rfl rfl rfl) rfl rfl ?_
   clear a E;intro a E
   refine st_no E (wf E rfl rfl rfl rfl rfl) rfl rfl ?_
   clear a E;intro a E
   refine st_no E (wf E rfl rfl rfl rfl rfl) rfl rfl ?_
   clear a E;intro a E
   refine sv E rfl rfl rfl (x_pickF E rfl rfl rfl rfl) ?_
   clear a E;intro a E
   refine sv E rfl rfl rfl (x_move E rfl rfl) ?_
   clear a E;intro a E
   refine st_no E (wf E rfl rfl rfl rfl rfl) rfl rfl ?_
   clear a E;intro a E
   refine st_no E (wf E rfl rfl rfl rfl rfl) rfl rfl ?_
   clear a E;intro a E
   refine st_no E (wf E rfl rfl rfl rfl rfl) rfl rfl ?_
   clear a E;intro a E
   refine sv E rfl rfl rfl (x_pickF E rfl rfl rfl rfl) ?_
   clear a E;intro a E
   refine sv E rfl rfl rfl (x_move E rfl rfl) ?_
   clear a E;intro a E
   refine st_no E (wf E rfl rfl rfl rfl rfl) rfl rfl ?_
   clear a E;intro a E
   refine sv E rfl rfl rfl (x_pickF E rfl rfl rfl rfl) ?_
   clear a E;intro a E
   refine sv E rfl rfl rfl (x_move E rfl rfl) ?_
   clear a E;intro a E
   refine st_no E (wf E rfl rfl rfl rfl rfl) rfl rfl ?_
   clear a E;intro a E
   refine st_no E (wf E rfl rfl rfl rfl rfl) rfl rfl ?_
   clear a E;intro a E
   refine st_no E (wf E rfl rfl rfl rfl rfl) rfl rfl ?_
   clear a E;intro a E
   refine sv E rfl rfl rfl (x_pickF E rfl rfl rfl rfl) ?_
   clear a E;intro a E
   refine sv E rfl rfl rfl (x_move E rfl rfl) ?_
   clear a E;intro a E
   refine st_no E (wf E rfl rfl rfl rfl rfl) rfl rfl ?_
   clear a E;intro a E
   refine st_no E (wf E rfl rfl rfl rfl rfl) rfl rfl ?_
   clear a E;intro a E
   refine sv E rfl rfl rfl (x_pickF E rfl rfl rfl rfl) ?_
   clear a E;intro a E
   refine sv E rfl rfl rfl (x_move E rfl rfl) ?_
   clear a E;intro a E
   refine st_no E (wf E rfl rfl rfl rfl rfl) rfl rfl ?_
   clear a E;intro a E
   refine st_no E (wf E rfl rfl rfl rfl rfl) rfl rfl ?_
   clear a E;intro a E
   refine st_no E (wf E rfl rfl rfl rfl rfl) rfl rfl ?_
   clear a E;intro a E
   refine sv E rfl rfl rfl (x_pickF E rfl rfl rfl rfl) ?_
   clear a E;intro a E
   refine sv E rfl rfl rfl (x_assign E rfl rfl) ?_
   clear a E;intro a E
   refine wpList_nil ?_
   refine q_then ?_
   refine wp_ret ?_
   refine out1 E rfl rfl ?_
   replace H := H.drop 0
   replace H := H.drop 0
   replace H := H.drop 0
   replace H := H.drop 0
   replace H := H.drop 0
   replace H := H.drop 0
   obtain rfl := Option.some.inj hm
   exact ⟨rfl, H.reads (fun r hr => .tail _ (.tail _ (.tail _ (.tail _ (.tail _ (.tail _ (.tail _ (.tail _ (.tail _ (.tail _ (.tail _ (.tail _ (hr)))))))))))))⟩
 ·rw [if_f hb43] at hm
  refine st_no E (wf' E rfl rfl rfl rfl hb43 rfl) rfl rfl ?_
  clear a E;intro a E
  refine st_no E (wf' E rfl rfl rfl rfl hb43 rfl) rfl rfl ?_
  clear a E;intro a E
  refine st_no E (wf' E rfl rfl rfl rfl hb43 rfl) rfl rfl ?_
  clear a E;intro a E
  refine sv E rfl rfl rfl (x_pickF E rfl rfl hb43 rfl) ?_
  clear a E;intro a E
  refine sv E rfl rfl rfl (x_move E rfl rfl) ?_
  clear a E;intro a E
  refine st_no E (wf E rfl rfl rfl rfl rfl) rfl rfl ?_
  clear a E;intro a E
  refine st_no E (wf E rfl rfl rfl rfl rfl) rfl rfl ?_
  clear a E;intro a E
  refine st_no E (wf E rfl rfl rfl rfl rfl) rfl rfl ?_
  clear a E;intro a E
  refine sv E rfl rfl rfl (x_pickF E rfl rfl rfl rfl) ?_
  clear a E;intro a E
  refine sv E rfl rfl rfl (x_move E rfl rfl) ?_
  clear a E;intro a E
  refine st_no E (wf E rfl rfl rfl rfl rfl) rfl rfl ?_
  clear a E;intro a E
  refine st_no E (wf E rfl rfl rfl rfl rfl) rfl rfl ?_
  clear a E;intro a E
  refine st_no E (wf E rfl rfl rfl rfl rfl) rfl rfl ?_
  clear a E;intro a E
  refine sv E rfl rfl rfl (x_pickF E rfl rfl rfl rfl) ?_
  clear a E;intro a E
  refine sv E rfl rfl rfl (x_move E rfl rfl) ?_
  clear a E;intro a E
  refine st_no E (wf E rfl rfl rfl rfl rfl) rfl rfl ?_
  clear a E;intro a E
  refine st_no E (wf E rfl rfl rfl rfl rfl) rfl rfl ?_
  clear a E;intro a E
  refine st_no E (wf E rfl rfl rfl rfl rfl) rfl rfl ?_
  clear a E;intro a E
  refine st_no E (wf E rfl rfl rfl rfl rfl) rfl rfl ?_
  clear a E;intro a E
  refine st_no E (wf E rfl rfl rfl rfl rfl) rfl rfl ?_
  clear a E;intro a E
  refine sv E rfl rfl rfl (x_pickF E rfl rfl rfl rfl) ?_
  clear a E;intro a E
  refine sv E rfl rfl rfl (x_move E rfl rfl) ?_
  clear a E;intro a E
  refine st_no E (wf E rfl rfl rfl rfl rfl) rfl rfl ?_
  clear a E;intro a E
  refine st_no E (wf E rfl rfl rfl rfl rfl) rfl rfl ?_
  clear a E;intro a E
  refine st_no E (wf E rfl rfl rfl rfl rfl) rfl rfl ?_
  clear a E;intro a E
  refine sv E rfl rfl rfl (x_pickF E rfl rfl rfl rfl) ?_
  clear a E;intro a E
  refine sv E rfl rfl rfl (x_move E rfl rfl) ?_
  clear a E;intro a E
  refine st_no E (wf E rfl rfl rfl rfl rfl) rfl rfl ?_
  clear a E;intro a E
  refine st_no E (wf E rfl rfl rfl rfl rfl) rfl rfl ?_
  clear a E;intro a E
  refine st_no E (wf E rfl rfl rfl rfl rfl) rfl rfl ?_
  clear a E;intro a E
  refine sv E rfl rfl rfl (x_pickF E rfl rfl rfl rfl) ?_
  clear a E;intro a E
  refine sv E rfl rfl rfl (x_move E rfl rfl) ?_
  clear a E;intro a E
  refine st_no E (wf E rfl rfl rfl rfl rfl) rfl rfl ?_
  clear a E;intro a E
  refine st_no E (wf E rfl rfl rfl rfl rfl) rfl rfl ?_
  clear a E;intro a E
  refine st_no E (wf E rfl rfl rfl rfl rfl) rfl rfl ?_
  clear a E;intro a E
  refine st_no E (wf E rfl rfl rfl rfl rfl) rfl rfl ?_
  clear a E;intro a E
  refine sv E rfl rfl rfl (x_pickF E rfl rfl rfl rfl) ?_
  clear a E;intro a E
  refine sv E rfl rfl rfl (x_move E rfl rfl) ?_
  clear a E;intro a E
  refine st_no E (wf E rfl rfl rfl rfl rfl) rfl rfl ?_
  clear a E;intro a E
  refine st_no E (wf E rfl rfl rfl rfl rfl) rfl rfl ?_
  clear a E;intro a E
  refine st_no E (wf E rfl rfl rfl rfl rfl) rfl rfl ?_
  clear a E;intro a E
  refine sv E rfl rfl rfl (x_pickF E rfl rfl rfl rfl) ?_
  clear a E;intro a E
  refine sv E rfl rfl rfl (x_move E rfl rfl) ?_
  clear a E;intro a E
  refine st_no E (wf E rfl rfl rfl rfl rfl) rfl rfl ?_
  clear a E;intro a E
  refine sv E rfl rfl rfl (x_pickF E rfl rfl rfl rfl) ?_
  clear a E;intro a E
  refine sv E rfl rfl rfl (x_move E rfl rfl) ?_
  clear a E;intro a E
  refine st_no E (wf E rfl rfl rfl rfl rfl) rfl rfl ?_
  clear a E;intro a E
  refine st_no E (wf E rfl rfl rfl rfl rfl) rfl rfl ?_
  clear a E;intro a E
  refine st_no E (wf E rfl rfl rfl rfl rfl) rfl rfl ?_
  clear a E;intro a E
  refine sv E rfl rfl rfl (x_pickF E rfl rfl rfl rfl) ?_
  clear a E;intro a E
  refine sv E rfl rfl rfl (x_move E rfl rfl) ?_
  clear a E;intro a E
  refine st_no E (wf E rfl rfl rfl rfl rfl) rfl rfl ?_
  clear a E;intro a E
  refine st_no E (wf E rfl rfl rfl rfl rfl) rfl rfl ?_
  clear a E;intro a E
  refine sv E rfl rfl rfl (x_pickF E rfl rfl rfl rfl) ?_
  clear a E;intro a E
  refine sv E rfl rfl rfl (x_move E rfl rfl) ?_
  clear a E;intro a E
  refine st_no E (wf E rfl rfl rfl rfl rfl) rfl rfl ?_
  clear a E;intro a E
  refine st_no E (wf E rfl rfl rfl rfl rfl) rfl rfl ?_
  clear a E;intro a E
  refine st_no E (wf E rfl rfl rfl rfl rfl) rfl rfl ?_
  clear a E;intro a E
  refine sv E rfl rfl rfl (x_pickF E rfl rfl rfl rfl) ?_
  clear a E;intro a E
  refine sv E rfl rfl rfl (x_assign E rfl rfl) ?_
  clear a E;intro a E
  refine wpList_nil ?_
  refine q_then ?_
  refine wp_ret ?_
  refine out1 E rfl rfl ?_
  replace H := H.drop 0
  replace H := H.drop 0
  replace H := H.drop 0
  replace H := H.drop 0
  replace H := H.drop 0
  replace H := H.drop 0
  obtain rfl := Option.some.inj hm
  exact ⟨rfl, H.reads (fun r hr => .tail _ (.tail _ (.tail _ (.tail _ (.tail _ (.tail _ (.tail _ (.tail _ (.tail _ (.tail _ (.tail _ (.tail _ (hr)))))))))))))⟩
end Go.Cb

set_option linter.unusedVariables false
set_option linter.unusedSimpArgs false
namespace Go.Cb
open Go.Proofs Go.RowKit
def m_cantonlaw06_NodesTurns_j2 (rec_1 : (List S_api_Node) → ByteArray → Int → Option Bool) (x22 : Int) (l29 : (List S_api_Node)) (s30 : ByteArray) : Option Bool :=
  rec_1 l29 s30 (IntKind.i64.wrap (x22 + 1))
def m_cantonlaw06_NodesTurns_j4 (rec_1 : (List S_api_Node) → ByteArray → Int → Option Bool) (x22 : Int) (l5 : List S_api_Op) (u36 : (List S_api_Node) × S_api_Result) (s43 : ByteArray) : Option Bool :=
  (idx l5 x22).bind fun x54 => (m_nodes_Apply u36.1 x54).bind fun u58 => if (u58.2.Err != 1) = true then (m_cantonlaw06_NodesTurns_j2 rec_1 x22 u58.1 s43) else (m_cantonlaw06_NodesTurns_j2 rec_1 x22 u36.1 s43)
def m_cantonlaw06_NodesTurns_j3 (rec_1 : (List S_api_Node) → ByteArray → Int → Option Bool) (x22 : Int) (l5 : List S_api_Op) (u36 : (List S_api_Node) × S_api_Result) (u17 : ByteArray × Bool) (s43 : ByteArray) : Option Bool :=
  if (decide (x22 < (l5.length : Int))) = true then ((idx l5 x22).bind fun x65 => (m_cantonlaw06_GreatOp x65).bind fun u69 => if u69 = true then (m_cantonlaw06_NodesTurns_j2 rec_1 x22 u36.1 s43) else ((idx l5 x22).bind fun x72 => (m_cantonref01_In u17.1 x72.Path).bind fun u75 => if u75 = true then ((idx l5 x22).bind fun x78 => if (x78.Kind != 3) = true then ((idx l5 x22).bind fun x82 => if (x82.Kind != 1) = true then (m_cantonlaw06_NodesTurns_j2 rec_1 x22 u36.1 s43) else (m_cantonlaw06_NodesTurns_j4 rec_1 x22 l5 u36 s43)) else (m_cantonlaw06_NodesTurns_j4 rec_1 x22 l5 u36 s43)) else (m_cantonlaw06_NodesTurns_j4 rec_1 x22 l5 u36 s43))) else (m_cantonlaw06_NodesTurns_j2 rec_1 x22 u36.1 s43)
def m_cantonlaw06_NodesTurns_l1 (l5 : List S_api_Op) (u17 : ByteArray × Bool) (s3 : ByteArray) (u9 : Bool) : Nat → (List S_api_Node) → ByteArray → Int → Option Bool
  | 0, _, _, _ => none
  | k1 + 1, l20, s21, x22 =>
    if (decide (x22 ≤ (l5.length : Int))) = true then ((m_nodes_Apply l20 (⟨1, s3, (ByteArray.mk #[]), 0, 0, true⟩ : S_api_Op)).bind fun u36 => if (u36.2.Err == 1) = true then (some (u9)) else (if (u36.2.Err == 0) = true then (if (sLt u36.2.Path s21 || sEq u36.2.Path s21) = true then (some (false)) else (m_cantonlaw06_NodesTurns_j3 (m_cantonlaw06_NodesTurns_l1 l5 u17 s3 u9 k1) x22 l5 u36 u17 u36.2.Path)) else (m_cantonlaw06_NodesTurns_j3 (m_cantonlaw06_NodesTurns_l1 l5 u17 s3 u9 k1) x22 l5 u36 u17 s21))) else (some (u9))
def m_cantonlaw06_NodesTurns_j1 (l5 : List S_api_Op) (s3 : ByteArray) (u9 : Bool) (l2 : List S_api_Node) (b11 : Bool) : Option Bool :=
  if b11 = true then (some (u9)) else ((m_cantonref01_Parent s3).bind fun u17 => m_cantonlaw06_NodesTurns_l1 l5 u17 s3 u9 (((l5.length : Int) - 0 : Int).toNat + 2) l2 (ByteArray.mk #[]) 0)
def m_cantonlaw06_NodesTurns (l2 : List S_api_Node) (s3 : ByteArray) (l5 : List S_api_Op) : Option Bool :=
  m_cantonlaw06_head.bind fun u9 => (m_cantonlaw06_Great l2).bind fun u85 => if u85 = true then (m_cantonlaw06_NodesTurns_j1 l5 s3 u9 l2 true) else (if (decide ((s3.size : Int) > 1000)) = true then (m_cantonlaw06_NodesTurns_j1 l5 s3 u9 l2 true) else (m_cantonlaw06_NodesTurns_j1 l5 s3 u9 l2 (decide ((l5.length : Int) > 40))))
set_option maxRecDepth 20000 in
set_option maxHeartbeats 1000000 in
theorem c_cantonlaw06_NodesTurns {w : World} {Fo : List Ob} {rs : List Rp} (v1 : Value) (l2 : List S_api_Node) (s3 : ByteArray) (v4 : Value) (l5 : List S_api_Op) (H : Sep w (Fo) rs) (hr6 : rSl k_api_Node v1 l2 ∈ rs) (hr7 : rSl k_api_Op v4 l5 ∈ rs) (hr8 : rTab Tryd.prog ∈ rs) {r : Bool} (hm : m_cantonlaw06_NodesTurns l2 s3 l5 = some r) :
    Calls Tryd.prog 6 [v1, .string s3, v4].toArray w (Ret fun v w' => .bool r = v ∧ Sep w' (Fo) (rs)) := by
 unfold m_cantonlaw06_NodesTurns at hm
 refine enter Tryd.func6 rfl Tryd.ntmps6 rfl fun a E => ?_
 simp only [enum, Nat.reduceAdd] at E
 refine wp_seq ?_
 refine wp_region_lit ?_
 refine sv E rfl rfl rfl (x_assign E rfl rfl) ?_
 clear a E;intro a E
 refine wpList_nil ?_
 refine q_then ?_
 refine wp_seq ?_
 refine wp_region_lit ?_
 obtain ⟨u9, hx10, hm⟩ := bnd hm
 refine st_call E (wn rfl) rfl rfl (x_call E rfl rfl (cf10 _)) (c_cantonlaw06_head H hr8 hx10) ?_
 clear E H; clear a; clear w; rintro _ w ⟨rfl, H⟩ a E
 refine sv E rfl rfl rfl (x_assign E rfl rfl) ?_
 clear a E;intro a E
 refine wpList_nil ?_
 refine q_then ?_
 refine wp_seq ?_
 refine wp_seq_cut (fun a w => ∃ (b11 : Bool) (rs12 : List Rp), Env 110 a [(0, v1), (1, .string s3), (2, v4), (7, .bool u9), (28, .bool b11)] ∧ Sep w (Fo) rs12 ∧ (∀ r, r ∈ rs → r ∈ rs12) ∧ rSl k_api_Node v1 l2 ∈ rs12 ∧ rSl k_api_Op v4 l5 ∈ rs12 ∧ rTab Tryd.prog ∈ rs12 ∧ m_cantonlaw06_NodesTurns_j1 l5 s3 u9 l2 b11 = some r) ?_ ?_
 ·refine wp_region_lit ?_
  refine sv E rfl rfl rfl (x_move E rfl rfl) ?_
  clear a E;intro a E
  obtain ⟨u85, hx86, hm⟩ := bnd hm
  refine st_call E (wn rfl) rfl rfl (x_call E rfl rfl (cf11 _)) (c_cantonlaw06_Great v1 l2 H hr6 hx86) ?_
  clear E H; clear a; clear w; rintro _ w ⟨rfl, H⟩ a E
  refine sv E rfl rfl rfl (x_move E rfl rfl) ?_
  clear a E;intro a E
  rcases Bool.eq_false_or_eq_true u85 with hb87 | hb87
  ·rw [if_t hb87] at hm
   refine st_no E (wf' E rfl rfl rfl rfl hb87 rfl) rfl rfl ?_
   clear a E;intro a E
   refine st_no E (wf' E rfl rfl rfl rfl hb87 rfl) rfl rfl ?_
   clear a E;intro a E
   refine st_no E (wf' E rfl rfl rfl rfl hb87 rfl) rfl rfl ?_
   clear a E;intro a E
   refine sv E rfl rfl rfl (x_pickT E rfl rfl hb87 rfl) ?_
   clear a E;intro a E
   refine sv E rfl rfl rfl (x_move E rfl rfl) ?_
   clear a E;intro a E
   refine st_no E (wf E rfl rfl rfl rfl rfl) rfl rfl ?_
   clear a E;intro a E
   refine st_no E (wf E rfl rfl rfl rfl rfl) rfl rfl ?_
   clear a E;intro a E
   refine st_no E (wf E rfl rfl rfl rfl rfl) rfl rfl ?_
   clear a E;intro a E
   refine sv E rfl rfl rfl (x_pickT E rfl rfl rfl rfl) ?_
   clear a E;intro a E
   refine wpList_nil ?_
   refine q_then ?_
   exact ⟨true, _, (((((E.nil.keep E 28 rfl).keep E 7 rfl).keep E 2 rfl).keep E 1 rfl).keep E 0 rfl), H, fun r hr => hr, hr6, hr7, hr8, hm⟩
  ·rw [if_f hb87] at hm
   refine st_val E (ws' E rfl rfl rfl rfl hb87) rfl rfl (x_move E rfl rfl) ?_
   clear a E;intro a E
   refine st_val E (ws' E rfl rfl rfl rfl hb87) rfl rfl (x_lenStr E rfl rfl Tryd.underlying9) ?_
   clear a E;intro a E
   refine st_val E (ws' E rfl rfl rfl rfl hb87) rfl rfl (x_bin E rfl rfl rfl rfl) ?_
   clear a E;intro a E
   refine sv E rfl rfl rfl (x_pickF E rfl rfl hb87 rfl) ?_
   clear a E;intro a E
   refine sv E rfl rfl rfl (x_move E rfl rfl) ?_
   clear a E;intro a E
   rcases Bool.eq_false_or_eq_true (decide ((s3.size : Int) > 1000)) with hb88 | hb88
   ·rw [if_t hb88] at hm
    refine st_no E (wf' E rfl rfl rfl rfl hb88 rfl) rfl rfl ?_
    clear a E;intro a E
    refine st_no E (wf' E rfl rfl rfl rfl hb88 rfl) rfl rfl ?_
    clear a E;intro a E
    refine st_no E (wf' E rfl rfl rfl rfl hb88 rfl) rfl rfl ?_
    clear a E;intro a E
    refine sv E rfl rfl rfl (x_pickT E rfl rfl hb88 rfl) ?_
    clear a E;intro a E
    refine wpList_nil ?_
    refine q_then ?_
    exact ⟨true, _, (((((E.nil.keep E 28 rfl).keep E 7 rfl).keep E 2 rfl).keep E 1 rfl).keep E 0 rfl), H, fun r hr => hr, hr6, hr7, hr8, hm⟩
   ·rw [if_f hb88] at hm
    refine st_val E (ws' E rfl rfl rfl rfl hb88) rfl rfl (x_move E rfl rfl) ?_
    clear a E;intro a E
    refine st_val E (ws' E rfl rfl rfl rfl hb88) rfl rfl (x_lenS E H rfl rfl hr7 Tryd.underlying44) ?_
    clear a E;intro a E
    refine st_val E (ws' E rfl rfl rfl rfl hb88) rfl rfl (x_bin E rfl rfl rfl rfl) ?_
    clear a E;intro a E
    refine sv E rfl rfl rfl (x_pickF E rfl rfl hb88 rfl) ?_
    clear a E;intro a E
    refine wpList_nil ?_
    refine q_then ?_
    exact ⟨decide ((l5.length : Int) > 40), _, (((((E.nil.keep E 28 rfl).keep E 7 rfl).keep E 2 rfl).keep E 1 rfl).keep E 0 rfl), H, fun r hr => hr, hr6, hr7, hr8, hm⟩
 ·clear E H hm
  rintro a w ⟨b11, rs12, E, H, hs13, hr14, hr15, hr16, hm⟩
  unfold m_cantonlaw06_NodesTurns_j1 at hm
  refine wp_if E rfl ?_ ?_
  ·intro hb
   rw [if_t hb] at hm
   clear hb
   refine wp_seq ?_
   refine wp_region_lit ?_
   refine sv E rfl rfl rfl (x_move E rfl rfl) ?_
   clear a E;intro a E
   refine sv E rfl rfl rfl (x_assign E rfl rfl) ?_
   clear a E;intro a E
   refine wpList_nil ?_
   refine q_then ?_
   refine wp_ret ?_
   refine q_thenR ?_
   refine out1 E rfl rfl ?_
   obtain rfl := Option.some.inj hm
   exact ⟨rfl, H.reads (fun r hr => hs13 r hr)⟩
  ·intro hb
   rw [if_f hb] at hm
   clear hb
   refine wp_skip ?_
   refine q_then ?_
   refine wp_seq ?_
   refine wp_region_lit ?_
   refine sv E rfl rfl rfl (x_move E rfl rfl) ?_
   clear a E;intro a E
   obtain ⟨u17, hx18, hm⟩ := bnd hm
   refine st_call E (wn rfl) rfl rfl (x_call E rfl rfl (cf16 _)) (c_cantonref01_Parent s3 H hx18) ?_
   clear E H; clear a; clear w; rintro _ w ⟨rfl, H⟩ a E
   refine sv E rfl rfl rfl (x_move E rfl rfl) ?_
   clear a E;intro a E
   refine sv E rfl rfl rfl (x_ext E rfl rfl rfl) ?_
   clear a E;intro a E
   refine sv E rfl rfl rfl (x_ext E rfl rfl rfl) ?_
   clear a E;intro a E
   refine sv E rfl rfl rfl (x_assign E rfl rfl) ?_
   clear a E;intro a E
   refine sv E rfl rfl rfl (x_assign E rfl rfl) ?_
   clear a E;intro a E
   refine wpList_nil ?_
   refine q_then ?_
   refine wp_seq ?_
   refine wp_region_lit ?_
   refine sv E rfl rfl rfl (x_assign E rfl rfl) ?_
   clear a E;intro a E
   refine wpList_nil ?_
   refine q_then ?_
   refine wp_seq ?_
   refine wp_seq ?_
   refine wp_region_lit ?_
   refine sv E rfl rfl rfl (x_assign E rfl rfl) ?_
   clear a E;intro a E
   refine wpList_nil ?_
   refine q_then ?_
   refine wp_block ?_
   refine wp_loop_g (fun k1 a w => ∃ (v19 : Value) (l20 : (List S_api_Node)) (s21 : ByteArray) (x22 : Int) (rs23 : List Rp), Env 110 a [(0, v19), (1, .string s3), (2, v4), (7, .bool u9), (8, .string u17.1), (10, .string s21), (11, .int .i64 x22)] ∧ Sep w (Fo) rs23 ∧ (∀ r, r ∈ rs → r ∈ rs23) ∧ rSl k_api_Node v19 l20 ∈ rs23 ∧ rSl k_api_Op v4 l5 ∈ rs23 ∧ rTab Tryd.prog ∈ rs23 ∧ m_cantonlaw06_NodesTurns_l1 l5 u17 s3 u9 k1 l20 s21 x22 = some r) (((l5.length : Int) - 0 : Int).toNat + 2) ?_ ?_
   ·exact ⟨v1, l2, (ByteArray.mk #[]), 0, _, (((((((E.nil.keep E 11 rfl).keep E 10 rfl).keep E 8 rfl).keep E 7 rfl).keep E 2 rfl).keep E 1 rfl).keep E 0 rfl), H, hs13, hr14, hr15, hr16, hm⟩
   ·clear E H hm
    rintro k1 a w ⟨v19, l20, s21, x22, rs23, E, H, hs24, hr25, hr26, hr27, hm⟩
    cases k1 with
    | zero => exact (none_some hm rfl).elim
    | succ k1 =>
     unfold m_cantonlaw06_NodesTurns_l1 at hm
     refine wp_seq ?_
     refine wp_seq ?_
     refine wp_region_lit ?_
     refine sv E rfl rfl rfl (x_move E rfl rfl) ?_
     clear a E;intro a E
     refine sv E rfl rfl rfl (x_move E rfl rfl) ?_
     clear a E;intro a E
     refine sv E rfl rfl rfl (x_lenS E H rfl rfl hr26 Tryd.underlying44) ?_
     clear a E;intro a E
     refine sv E rfl rfl rfl (x_bin E rfl rfl rfl rfl) ?_
     clear a E;intro a E
     refine wpList_nil ?_
     refine q_then ?_
     refine wp_if E rfl ?_ ?_
     ·intro hb
      rw [if_t hb] at hm
      clear hb
      refine wp_skip ?_
      refine q_then ?_
      refine wp_seq_cut (fun a w => ∃ (v28 : Value) (l29 : (List S_api_Node)) (s30 : ByteArray) (rs31 : List Rp), Env 110 a [(0, v28), (1, .string s3), (2, v4), (7, .bool u9), (8, .string u17.1), (10, .string s30), (11, .int .i64 x22)] ∧ Sep w (Fo) rs31 ∧ (∀ r, r ∈ rs → r ∈ rs31) ∧ rSl k_api_Node v28 l29 ∈ rs31 ∧ rSl k_api_Op v4 l5 ∈ rs31 ∧ rTab Tryd.prog ∈ rs31 ∧ m_cantonlaw06_NodesTurns_j2 (m_cantonlaw06_NodesTurns_l1 l5 u17 s3 u9 k1) x22 l29 s30 = some r) ?_ ?_
      ·refine wp_block ?_
       refine wp_seq ?_
       refine wp_region_lit ?_
       refine sv E rfl rfl rfl (x_move E rfl rfl) ?_
       clear a E;intro a E
       refine sv E rfl rfl rfl (x_move E rfl rfl) ?_
       clear a E;intro a E
       refine sv E rfl rfl rfl (x_build E (ps := [(0, .const (.int .i64 1)), (1, .tmp 43), (5, .const (.bool true))]) (vs := [(0, .int .i64 1), (1, .string s3), (5, .bool true)]) rfl (by simp only [List.map]; rw [E.eval (x := .const (.int .i64 1)) (v := .int .i64 1) rfl, E.eval (x := .tmp 43) (v := .string s3) rfl, E.eval (x := .const (.bool true)) (v := .bool true) rfl]) (v := .agg #[.int .i64 1, .string s3, .string (ByteArray.mk #[]), .int .i64 0, .int .i64 0, .bool true]) (by kernel_rfl)) ?_
       clear a E;intro a E
       obtain ⟨u36, hx37, hm⟩ := bnd hm
       refine st_call E (wn rfl) rfl rfl (x_call E rfl rfl (cf14 _)) (c_nodes_Apply v19 l20 (⟨1, s3, (ByteArray.mk #[]), 0, 0, true⟩ : S_api_Op) H hr25 hr27 hx37) ?_
       clear E H; clear a; clear w; rintro _ w ⟨v38, v39, rfl, H⟩ a E
       refine sv E rfl rfl rfl (x_move E rfl rfl) ?_
       clear a E;intro a E
       refine sv E rfl rfl rfl (x_ext E rfl rfl rfl) ?_
       clear a E;intro a E
       refine sv E rfl rfl rfl (x_ext E rfl rfl rfl) ?_
       clear a E;intro a E
       refine st_alloc E H (wn rfl) rfl rfl (cs := [.int .i64 0, .string (ByteArray.mk #[]), .string (ByteArray.mk #[]), .int .i64 0, .slice none 0 0]) rfl (z := .agg #[.int .i64 0, .string ⟨#[]⟩, .string ⟨#[]⟩, .int .i64 0, .slice none 0 0]) (by kernel_rfl) rfl ?_
       clear E H; clear a; clear w; intro p40 w a H E
       refine sv E rfl rfl rfl (x_assign E rfl rfl) ?_
       clear a E;intro a E
       obtain ⟨q41, x42, rfl⟩ := H.slform (.tail _ (.head _))
       refine st_st (i := 0) E H (wn rfl) rfl (us := [.int .i64 u36.2.Err, .string u36.2.Path, .string u36.2.Data, .int .i64 u36.2.Version, (.slice q41 u36.2.Names.length x42)]) rfl rfl rfl rfl rfl sz31 rfl rfl ?_
       clear H; clear w; intro w H
       replace H : Sep w (Blk p40 31 [.int .i64 u36.2.Err, .string u36.2.Path, .string u36.2.Data, .int .i64 u36.2.Version, (.slice q41 u36.2.Names.length x42)] :: Fo) _ := H
       refine wpList_nil ?_
       refine q_then ?_
       refine wp_seq ?_
       refine wp_seq ?_
       refine wp_region_lit ?_
       refine sv E rfl rfl rfl (x_fa E rfl rfl (v := .pointer (some ⟨p40, 0, none⟩)) (fa31_0 _ _)) ?_
       clear a E;intro a E
       refine sv E rfl rfl rfl (x_ldB (i := 0) E H rfl rfl rfl rfl Tryd.underlying28 rfl) ?_
       clear a E;intro a E
       refine sv E rfl rfl rfl (x_bin E rfl rfl rfl rfl) ?_
       clear a E;intro a E
       refine wpList_nil ?_
       refine q_then ?_
       refine wp_if E rfl ?_ ?_
       ·intro hb
        rw [if_t hb] at hm
        clear hb
        refine wp_seq ?_
        refine wp_region_lit ?_
        refine sv E rfl rfl rfl (x_move E rfl rfl) ?_
        clear a E;intro a E
        refine sv E rfl rfl rfl (x_assign E rfl rfl) ?_
        clear a E;intro a E
        refine wpList_nil ?_
        refine q_then ?_
        refine wp_ret ?_
        refine q_thenR ?_
        refine q_blkR ?_
        refine q_thenR ?_
        refine q_thenR ?_
        refine q_blkR ?_
        refine q_thenR ?_
        refine out1 E rfl rfl ?_
        replace H := H.drop 0
        obtain rfl := Option.some.inj hm
        exact ⟨rfl, H.reads (fun r hr => .tail _ (.tail _ (hs24 r hr)))⟩
       ·intro hb
        rw [if_f hb] at hm
        clear hb
        refine wp_skip ?_
        refine q_then ?_
        refine wp_seq_cut (fun a w => ∃ (s43 : ByteArray) (rs44 : List Rp), Env 110 a [(1, .string s3), (2, v4), (7, .bool u9), (8, .string u17.1), (10, .string s43), (11, .int .i64 x22), (12, v38)] ∧ Sep w (Fo) rs44 ∧ (∀ r, r ∈ rs → r ∈ rs44) ∧ rSl k_api_Op v4 l5 ∈ rs44 ∧ rSl k_api_Node v38 u36.1 ∈ rs44 ∧ rTab Tryd.prog ∈ rs44 ∧ m_cantonlaw06_NodesTurns_j3 (m_cantonlaw06_NodesTurns_l1 l5 u17 s3 u9 k1) x22 l5 u36 u17 s43 = some r) ?_ ?_
        ·refine wp_seq ?_
         refine wp_region_lit ?_
         refine sv E rfl rfl rfl (x_fa E rfl rfl (v := .pointer (some ⟨p40, 0, none⟩)) (fa31_0 _ _)) ?_
         clear a E;intro a E
         refine sv E rfl rfl rfl (x_ldB (i := 0) E H rfl rfl rfl rfl Tryd.underlying28 rfl) ?_
         clear a E;intro a E
         refine sv E rfl rfl rfl (x_bin E rfl rfl rfl rfl) ?_
         clear a E;intro a E
         refine wpList_nil ?_
         refine q_then ?_
         refine wp_if E rfl ?_ ?_
         ·intro hb
          rw [if_t hb] at hm
          clear hb
          refine wp_seq ?_
          refine wp_seq ?_
          refine wp_region_lit ?_
          refine sv E rfl rfl rfl (x_fa E rfl rfl (v := .pointer (some ⟨p40, 1, none⟩)) (fa31_1 _ _)) ?_
          clear a E;intro a E
          refine sv E rfl rfl rfl (x_ldB (i := 0) E H rfl rfl rfl rfl Tryd.underlying9 rfl) ?_
          clear a E;intro a E
          refine sv E rfl rfl rfl (x_move E rfl rfl) ?_
          clear a E;intro a E
          refine sv E rfl rfl rfl (x_str E rfl rfl rfl rfl) ?_
          clear a E;intro a E
          refine wpList_nil ?_
          refine q_then ?_
          refine wp_if E rfl ?_ ?_
          ·intro hb
           rw [if_t hb] at hm
           clear hb
           refine wp_seq ?_
           refine wp_region_lit ?_
           refine sv E rfl rfl rfl (x_assign E rfl rfl) ?_
           clear a E;intro a E
           refine wpList_nil ?_
           refine q_then ?_
           refine wp_ret ?_
           refine q_thenR ?_
           refine q_thenR ?_
           refine q_blkR ?_
           refine q_thenR ?_
           refine q_thenR ?_
           refine q_blkR ?_
           refine q_thenR ?_
           refine out1 E rfl rfl ?_
           replace H := H.drop 0
           obtain rfl := Option.some.inj hm
           exact ⟨rfl, H.reads (fun r hr => .tail _ (.tail _ (hs24 r hr)))⟩
          ·intro hb
           rw [if_f hb] at hm
           clear hb
           refine wp_skip ?_
           refine q_then ?_
           refine wp_region_lit ?_
           refine sv E rfl rfl rfl (x_fa E rfl rfl (v := .pointer (some ⟨p40, 1, none⟩)) (fa31_1 _ _)) ?_
           clear a E;intro a E
           refine sv E rfl rfl rfl (x_ldB (i := 0) E H rfl rfl rfl rfl Tryd.underlying9 rfl) ?_
           clear a E;intro a E
           refine sv E rfl rfl rfl (x_assign E rfl rfl) ?_
           clear a E;intro a E
           refine wpList_nil ?_
           refine q_then ?_
           replace H := H.drop 0
           exact ⟨u36.2.Path, _, (((((((E.nil.keep E 12 rfl).keep E 11 rfl).keep E 10 rfl).keep E 8 rfl).keep E 7 rfl).keep E 2 rfl).keep E 1 rfl), H, fun r hr => .tail _ (.tail _ (hs24 r hr)), (.tail _ (.tail _ hr26)), (.head _), (.tail _ (.tail _ hr27)), hm⟩
         ·intro hb
          rw [if_f hb] at hm
          clear hb
          refine wp_skip ?_
          refine q_then ?_
          replace H := H.drop 0
          exact ⟨s21, _, (((((((E.nil.keep E 12 rfl).keep E 11 rfl).keep E 10 rfl).keep E 8 rfl).keep E 7 rfl).keep E 2 rfl).keep E 1 rfl), H, fun r hr => .tail _ (.tail _ (hs24 r hr)), (.tail _ (.tail _ hr26)), (.head _), (.tail _ (.tail _ hr27)), hm⟩
        ·clear E H hm
         rintro a w ⟨s43, rs44, E, H, hs45, hr46, hr47, hr48, hm⟩
         unfold m_cantonlaw06_NodesTurns_j3 at hm
         refine wp_seq ?_
         refine wp_region_lit ?_
         refine sv E rfl rfl rfl (x_move E rfl rfl) ?_
         clear a E;intro a E
         refine sv E rfl rfl rfl (x_assign E rfl rfl) ?_
         clear a E;intro a E
         refine wpList_nil ?_
         refine q_then ?_
         refine wp_seq ?_
         refine wp_region_lit ?_
         refine sv E rfl rfl rfl (x_move E rfl rfl) ?_
         clear a E;intro a E
         refine sv E rfl rfl rfl (x_move E rfl rfl) ?_
         clear a E;intro a E
         refine sv E rfl rfl rfl (x_lenS E H rfl rfl hr46 Tryd.underlying44) ?_
         clear a E;intro a E
         refine sv E rfl rfl rfl (x_bin E rfl rfl rfl rfl) ?_
         clear a E;intro a E
         refine wpList_nil ?_
         refine q_then ?_
         refine wp_if E rfl ?_ ?_
         ·intro hb
          rw [if_t hb] at hm
          clear hb
          refine wp_seq_cut (fun a w => ∃ (rs49 : List Rp), Env 110 a [(0, v38), (1, .string s3), (2, v4), (7, .bool u9), (8, .string u17.1), (10, .string s43), (11, .int .i64 x22)] ∧ Sep w (Fo) rs49 ∧ (∀ r, r ∈ rs → r ∈ rs49) ∧ rSl k_api_Node v38 u36.1 ∈ rs49 ∧ rSl k_api_Op v4 l5 ∈ rs49 ∧ rTab Tryd.prog ∈ rs49 ∧ m_cantonlaw06_NodesTurns_j4 (m_cantonlaw06_NodesTurns_l1 l5 u17 s3 u9 k1) x22 l5 u36 s43 = some r) ?_ ?_
          ·refine wp_seq ?_
           refine wp_region_lit ?_
           refine sv E rfl rfl rfl (x_move E rfl rfl) ?_
           clear a E;intro a E
           refine sv E rfl rfl rfl (x_move E rfl rfl) ?_
           clear a E;intro a E
           obtain ⟨x65, hx66, hm⟩ := bnd hm
           refine st_ixS E H (wn rfl) rfl rfl rfl rfl rfl hr46 Tryd.underlying44 sz24 hx66 ?_
           clear E H; clear a; intro q67 a H E
           refine st_ldN E H (wn rfl) rfl rfl rfl rfl (.head _) Tryd.underlying24 rfl sz24 ?_
           clear E H; clear a; intro u68 a H E
           obtain ⟨_, hcs⟩ := H.rd (.head _)
           obtain rfl := k_api_Op_open hcs
           clear hcs
           obtain ⟨u69, hx70, hm⟩ := bnd hm
           refine st_call E (wn rfl) rfl rfl (x_call E rfl rfl (cf12 _)) (c_cantonlaw06_GreatOp x65 H hx70) ?_
           clear E H; clear a; clear w; rintro _ w ⟨rfl, H⟩ a E
           refine sv E rfl rfl rfl (x_move E rfl rfl) ?_
           clear a E;intro a E
           rcases Bool.eq_false_or_eq_true u69 with hb71 | hb71
           ·rw [if_t hb71] at hm
            refine st_no E (wf' E rfl rfl rfl rfl hb71 rfl) rfl rfl ?_
            clear a E;intro a E
            refine st_no E (wf' E rfl rfl rfl rfl hb71 rfl) rfl rfl ?_
            clear a E;intro a E
            refine st_no E (wf' E rfl rfl rfl rfl hb71 rfl) rfl rfl ?_
            clear a E;intro a E
            refine st_no E (wf' E rfl rfl rfl rfl hb71 rfl) rfl rfl ?_
            clear a E;intro a E
            refine st_no E (wf' E rfl rfl rfl rfl hb71 rfl) rfl rfl ?_
            clear a E;intro a E
            refine st_no E (wf' E rfl rfl rfl rfl hb71 rfl) rfl rfl ?_
            clear a E;intro a E
            refine st_no E (wf' E rfl rfl rfl rfl hb71 rfl) rfl rfl ?_
            clear a E;intro a E
            refine st_no E (wf' E rfl rfl rfl rfl hb71 rfl) rfl rfl ?_
            clear a E;intro a E
            refine st_no E (wu E rfl rfl rfl rfl) rfl rfl ?_
            clear a E;intro a E
            refine st_no E (wu E rfl rfl rfl rfl) rfl rfl ?_
            clear a E;intro a E
            refine st_no E (wu E rfl rfl rfl rfl) rfl rfl ?_
            clear a E;intro a E
            refine st_no E (wu E rfl rfl rfl rfl) rfl rfl ?_
            clear a E;intro a E
            refine st_no E (wu E rfl rfl rfl rfl) rfl rfl ?_
            clear a E;intro a E
            refine st_no E (wu E rfl rfl rfl rfl) rfl rfl ?_
            clear a E;intro a E
            refine st_no E (wf' E rfl rfl rfl rfl hb71 rfl) rfl rfl ?_
            clear a E;intro a E
            refine st_no E (wf' E rfl rfl rfl rfl hb71 rfl) rfl rfl ?_
            clear a E;intro a E
            refine st_no E (wu E rfl rfl rfl rfl) rfl rfl ?_
            clear a E;intro a E
            refine st_no E (wu E rfl rfl rfl rfl) rfl rfl ?_
            clear a E;intro a E
            refine st_no E (wu E rfl rfl rfl rfl) rfl rfl ?_
            clear a E;intro a E
            refine st_no E (wu E rfl rfl rfl rfl) rfl rfl ?_
            clear a E;intro a E
            refine st_no E (wu E rfl rfl rfl rfl) rfl rfl ?_
            clear a E;intro a E
            refine st_no E (wu E rfl rfl rfl rfl) rfl rfl ?_
            clear a E;intro a E
            refine st_no E (wf' E rfl rfl rfl rfl hb71 rfl) rfl rfl ?_
            clear a E;intro a E
            refine sv E rfl rfl rfl (x_pickT E rfl rfl hb71 rfl) ?_
            clear a E;intro a E
            refine wpList_nil ?_
            refine q_then ?_
            refine wp_cond_true (E.eval rfl) ?_
            refine wp_exit ?_
            refine q_thenX ?_
            refine q_hit ?_
            refine q_then ?_
            exact ⟨v38, u36.1, s43, _, (((((((E.nil.keep E 11 rfl).keep E 10 rfl).keep E 8 rfl).keep E 7 rfl).keep E 2 rfl).keep E 1 rfl).keep E 0 rfl), H, fun r hr => .tail _ (.tail _ (hs45 r hr)), (.tail _ (.tail _ hr47)), (.tail _ (.tail _ hr46)), (.tail _ (.tail _ hr48)), hm⟩
           ·rw [if_f hb71] at hm
            refine st_val E (ws' E rfl rfl rfl rfl hb71) rfl rfl (x_move E rfl rfl) ?_
            clear a E;intro a E
            refine st_val E (ws' E rfl rfl rfl rfl hb71) rfl rfl (x_move E rfl rfl) ?_
            clear a E;intro a E
            refine st_val E (ws' E rfl rfl rfl rfl hb71) rfl rfl (x_move E rfl rfl) ?_
            clear a E;intro a E
            obtain ⟨x72, hx73, hm⟩ := bnd hm
            refine st_ixS E H (ws' E rfl rfl rfl rfl hb71) rfl rfl rfl rfl rfl (.tail _ (.tail _ hr46)) Tryd.underlying44 sz24 hx73 ?_
            clear E H; clear a; intro q74 a H E
            replace H := H.derive1 (.head _) (rAt kS (q74.add 1) x72.Path) (fun ok h => k_api_Op_at1 h)
            refine st_val E (ws' E rfl rfl rfl rfl hb71) rfl rfl (x_fa E rfl rfl (fa24_1 _ _)) ?_
            clear a E;intro a E
            refine st_val E (ws' E rfl rfl rfl rfl hb71) rfl rfl (x_ldA E H rfl rfl (.head _) Tryd.underlying9 rfl) ?_
            clear a E;intro a E
            obtain ⟨u75, hx76, hm⟩ := bnd hm
            refine st_call E (ws' E rfl rfl rfl rfl hb71) rfl rfl (x_call E rfl rfl (cf17 _)) (c_cantonref01_In u17.1 x72.Path H hx76) ?_
            clear E H; clear a; clear w; rintro _ w ⟨rfl, H⟩ a E
            refine st_val E (ws' E rfl rfl rfl rfl hb71) rfl rfl (x_move E rfl rfl) ?_
            clear a E;intro a E
            rcases Bool.eq_false_or_eq_true u75 with hb77 | hb77
            ·rw [if_t hb77] at hm
             refine st_val E (ws' E rfl rfl rfl rfl hb77) rfl rfl (x_move E rfl rfl) ?_
             clear a E;intro a E
             refine st_val E (ws' E rfl rfl rfl rfl hb77) rfl rfl (x_move E rfl rfl) ?_
             clear a E;intro a E
             obtain ⟨x78, hx79, hm⟩ := bnd hm
             refine st_ixS E H (ws' E rfl rfl rfl rfl hb77) rfl rfl rfl rfl rfl (.tail _ (.tail _ (.tail _ (.tail _ hr46)))) Tryd.underlying44 sz24 hx79 ?_
             clear E H; clear a; intro q80 a H E
             replace H := H.derive1 (.head _) (rAt (kI .i64) (q80.add 0) x78.Kind) (fun ok h => k_api_Op_at0 h)
             refine st_val E (ws' E rfl rfl rfl rfl hb77) rfl rfl (x_fa E rfl rfl (fa24_0 _ _)) ?_
             clear a E;intro a E
             refine st_val E (ws' E rfl rfl rfl rfl hb77) rfl rfl (x_ldA E H rfl rfl (.head _) Tryd.underlying3 rfl) ?_
             clear a E;intro a E
             refine st_val E (ws' E rfl rfl rfl rfl hb77) rfl rfl (x_bin E rfl rfl rfl rfl) ?_
             clear a E;intro a E
             refine st_val E (ws' E rfl rfl rfl rfl hb71) rfl rfl (x_pickT E rfl rfl hb77 rfl) ?_
             clear a E;intro a E
             refine st_val E (ws' E rfl rfl rfl rfl hb71) rfl rfl (x_move E rfl rfl) ?_
             clear a E;intro a E
             rcases Bool.eq_false_or_eq_true (x78.Kind != 3) with hb81 | hb81
             ·rw [if_t hb81] at hm
              refine st_val E (ws' E rfl rfl rfl rfl hb81) rfl rfl (x_move E rfl rfl) ?_
              clear a E;intro a E
              refine st_val E (ws' E rfl rfl rfl rfl hb81) rfl rfl (x_move E rfl rfl) ?_
              clear a E;intro a E
              obtain ⟨x82, hx83, hm⟩ := bnd hm
              refine st_ixS E H (ws' E rfl rfl rfl rfl hb81) rfl rfl rfl rfl rfl (.tail _ (.tail _ (.tail _ (.tail _ (.tail _ (.tail _ hr46)))))) Tryd.underlying44 sz24 hx83 ?_
              clear E H; clear a; intro q84 a H E
              replace H := H.derive1 (.head _) (rAt (kI .i64) (q84.add 0) x82.Kind) (fun ok h => k_api_Op_at0 h)
              refine st_val E (ws' E rfl rfl rfl rfl hb81) rfl rfl (x_fa E rfl rfl (fa24_0 _ _)) ?_
              clear a E;intro a E
              refine st_val E (ws' E rfl rfl rfl rfl hb81) rfl rfl (x_ldA E H rfl rfl (.head _) Tryd.underlying3 rfl) ?_
              clear a E;intro a E
              refine st_val E (ws' E rfl rfl rfl rfl hb81) rfl rfl (x_bin E rfl rfl rfl rfl) ?_
              clear a E;intro a E
              refine st_val E (ws' E rfl rfl rfl rfl hb71) rfl rfl (x_pickT E rfl rfl hb81 rfl) ?_
              clear a E;intro a E
              refine sv E rfl rfl rfl (x_pickF E rfl rfl hb71 rfl) ?_
              clear a E;intro a E
              refine wpList_nil ?_
              refine q_then ?_
              refine wp_if E rfl ?_ ?_
              ·intro hb
               rw [if_t hb] at hm
               clear hb
               refine wp_exit ?_
               refine q_thenX ?_
               refine q_hit ?_
               refine q_then ?_
               exact ⟨v38, u36.1, s43, _, (((((((E.nil.keep E 11 rfl).keep E 10 rfl).keep E 8 rfl).keep E 7 rfl).keep E 2 rfl).keep E 1 rfl).keep E 0 rfl), H, fun r hr => .tail _ (.tail _ (.tail _ (.tail _ (.tail _ (.tail _ (.tail _ (.tail _ (hs45 r hr)))))))), (.tail _ (.tail _ (.tail _ (.tail _ (.tail _ (.tail _ (.tail _ (.tail _ hr47)))))))), (.tail _ (.tail _ (.tail _ (.tail _ (.tail _ (.tail _ (.tail _ (.tail _ hr46)))))))), (.tail _ (.tail _ (.tail _ (.tail _ (.tail _ (.tail _ (.tail _ (.tail _ hr48)))))))), hm⟩
              ·intro hb
               rw [if_f hb] at hm
               clear hb
               refine wp_skip ?_
               refine q_then ?_
               exact ⟨_, (((((((E.nil.keep E 11 rfl).keep E 10 rfl).keep E 8 rfl).keep E 7 rfl).keep E 2 rfl).keep E 1 rfl).keep E 0 rfl), H, fun r hr => .tail _ (.tail _ (.tail _ (.tail _ (.tail _ (.tail _ (.tail _ (.tail _ (hs45 r hr)))))))), (.tail _ (.tail _ (.tail _ (.tail _ (.tail _ (.tail _ (.tail _ (.tail _ hr47)))))))), (.tail _ (.tail _ (.tail _ (.tail _ (.tail _ (.tail _ (.tail _ (.tail _ hr46)))))))), (.tail _ (.tail _ (.tail _ (.tail _ (.tail _ (.tail _ (.tail _ (.tail _ hr48)))))))), hm⟩
             ·rw [if_f hb81] at hm
              refine st_no E (wf' E rfl rfl rfl rfl hb81 rfl) rfl rfl ?_
              clear a E;intro a E
              refine st_no E (wf' E rfl rfl rfl rfl hb81 rfl) rfl rfl ?_
              clear a E;intro a E
              refine st_no E (wf' E rfl rfl rfl rfl hb81 rfl) rfl rfl ?_
              clear a E;intro a E
              refine st_no E (wf' E rfl rfl rfl rfl hb81 rfl) rfl rfl ?_
              clear a E;intro a E
              refine st_no E (wf' E rfl rfl rfl rfl hb81 rfl) rfl rfl ?_
              clear a E;intro a E
              refine st_no E (wf' E rfl rfl rfl rfl hb81 rfl) rfl rfl ?_
              clear a E;intro a E
              refine st_val E (ws' E rfl rfl rfl rfl hb71) rfl rfl (x_pickF E rfl rfl hb81 rfl) ?_
              clear a E;intro a E
              refine sv E rfl rfl rfl (x_pickF E rfl rfl hb71 rfl) ?_
              clear a E;intro a E
              refine wpList_nil ?_
              refine q_then ?_
              refine wp_cond_false (E.eval rfl) ?_
              refine wp_skip ?_
              refine q_then ?_
              exact ⟨_, (((((((E.nil.keep E 11 rfl).keep E 10 rfl).keep E 8 rfl).keep E 7 rfl).keep E 2 rfl).keep E 1 rfl).keep E 0 rfl), H, fun r hr => .tail _ (.tail _ (.tail _ (.tail _ (.tail _ (.tail _ (hs45 r hr)))))), (.tail _ (.tail _ (.tail _ (.tail _ (.tail _ (.tail _ hr47)))))), (.tail _ (.tail _ (.tail _ (.tail _ (.tail _ (.tail _ hr46)))))), (.tail _ (.tail _ (.tail _ (.tail _ (.tail _ (.tail _ hr48)))))), hm⟩
            ·rw [if_f hb77] at hm
             refine st_no E (wf' E rfl rfl rfl rfl hb77 rfl) rfl rfl ?_
             clear a E;intro a E
             refine st_no E (wf' E rfl rfl rfl rfl hb77 rfl) rfl rfl ?_
             clear a E;intro a E
             refine st_no E (wf' E rfl rfl rfl rfl hb77 rfl) rfl rfl ?_
             clear a E;intro a E
             refine st_no E (wf' E rfl rfl rfl rfl hb77 rfl) rfl rfl ?_
             clear a E;intro a E
             refine st_no E (wf' E rfl rfl rfl rfl hb77 rfl) rfl rfl ?_
             clear a E;intro a E
             refine st_no E (wf' E rfl rfl rfl rfl hb77 rfl) rfl rfl ?_
             clear a E;intro a E
             refine st_val E (ws' E rfl rfl rfl rfl hb71) rfl rfl (x_pickF E rfl rfl hb77 rfl) ?_
             clear a E;intro a E
             refine st_val E (ws' E rfl rfl rfl rfl hb71) rfl rfl (x_move E rfl rfl) ?_
             clear a E;intro a E
             refine st_no E (wf E rfl rfl rfl rfl rfl) rfl rfl ?_
             clear a E;intro a E
             refine st_no E (wf E rfl rfl rfl rfl rfl) rfl rfl ?_
             clear a E;intro a E
             refine st_no E (wf E rfl rfl rfl rfl rfl) rfl rfl ?_
             clear a E;intro a E
             refine st_no E (wf E rfl rfl rfl rfl rfl) rfl rfl ?_
             clear a E;intro a E
             refine st_no E (wf E rfl rfl rfl rfl rfl) rfl rfl ?_
             clear a E;intro a E
             refine st_no E (wf E rfl rfl rfl rfl rfl) rfl rfl ?_
             clear a E;intro a E
             refine st_val E (ws' E rfl rfl rfl rfl hb71) rfl rfl (x_pickF E rfl rfl rfl rfl) ?_
             clear a E;intro a E
             refine sv E rfl rfl rfl (x_pickF E rfl rfl hb71 rfl) ?_
             clear a E;intro a E
             refine wpList_nil ?_
             refine q_then ?_
             refine wp_cond_false (E.eval rfl) ?_
             refine wp_skip ?_
             refine q_then ?_
             exact ⟨_, (((((((E.nil.keep E 11 rfl).keep E 10 rfl).keep E 8 rfl).keep E 7 rfl).keep E 2 rfl).keep E 1 rfl).keep E 0 rfl), H, fun r hr => .tail _ (.tail _ (.tail _ (.tail _ (hs45 r hr)))), (.tail _ (.tail _ (.tail _ (.tail _ hr47)))), (.tail _ (.tail _ (.tail _ (.tail _ hr46)))), (.tail _ (.tail _ (.tail _ (.tail _ hr48)))), hm⟩
          ·clear E H hm
           rintro a w ⟨rs49, E, H, hs50, hr51, hr52, hr53, hm⟩
           unfold m_cantonlaw06_NodesTurns_j4 at hm
           refine wp_seq ?_
           refine wp_region_lit ?_
           refine sv E rfl rfl rfl (x_move E rfl rfl) ?_
           clear a E;intro a E
           refine sv E rfl rfl rfl (x_move E rfl rfl) ?_
           clear a E;intro a E
           refine sv E rfl rfl rfl (x_move E rfl rfl) ?_
           clear a E;intro a E
           obtain ⟨x54, hx55, hm⟩ := bnd hm
           refine st_ixS E H (wn rfl) rfl rfl rfl rfl rfl hr52 Tryd.underlying44 sz24 hx55 ?_
           clear E H; clear a; intro q56 a H E
           refine st_ldN E H (wn rfl) rfl rfl rfl rfl (.head _) Tryd.underlying24 rfl sz24 ?_
           clear E H; clear a; intro u57 a H E
           obtain ⟨_, hcs⟩ := H.rd (.head _)
           obtain rfl := k_api_Op_open hcs
           clear hcs
           obtain ⟨u58, hx59, hm⟩ := bnd hm
           refine st_call E (wn rfl) rfl rfl (x_call E rfl rfl (cf14 _)) (c_nodes_Apply v38 u36.1 x54 H (.tail _ (.tail _ hr51)) (.tail _ (.tail _ hr53)) hx59) ?_
           clear E H; clear a; clear w; rintro _ w ⟨v60, v61, rfl, H⟩ a E
           refine sv E rfl rfl rfl (x_move E rfl rfl) ?_
           clear a E;intro a E
           refine sv E rfl rfl rfl (x_ext E rfl rfl rfl) ?_
           clear a E;intro a E
           refine sv E rfl rfl rfl (x_ext E rfl rfl rfl) ?_
           clear a E;intro a E
           refine st_alloc E H (wn rfl) rfl rfl (cs := [.int .i64 0, .string (ByteArray.mk #[]), .string (ByteArray.mk #[]), .int .i64 0, .slice none 0 0]) rfl (z := .agg #[.int .i64 0, .string ⟨#[]⟩, .string ⟨#[]⟩, .int .i64 0, .slice none 0 0]) (by kernel_rfl) rfl ?_
           clear E H; clear a; clear w; intro p62 w a H E
           refine sv E rfl rfl rfl (x_assign E rfl rfl) ?_
           clear a E;intro a E
           obtain ⟨q63, x64, rfl⟩ := H.slform (.tail _ (.head _))
           refine st_st (i := 0) E H (wn rfl) rfl (us := [.int .i64 u58.2.Err, .string u58.2.Path, .string u58.2.Data, .int .i64 u58.2.Version, (.slice q63 u58.2.Names.length x64)]) rfl rfl rfl rfl rfl sz31 rfl rfl ?_
           clear H; clear w; intro w H
           replace H : Sep w (Blk p62 31 [.int .i64 u58.2.Err, .string u58.2.Path, .string u58.2.Data, .int .i64 u58.2.Version, (.slice q63 u58.2.Names.length x64)] :: Fo) _ := H
           refine wpList_nil ?_
           refine q_then ?_
           refine wp_seq ?_
           refine wp_region_lit ?_
           refine sv E rfl rfl rfl (x_fa E rfl rfl (v := .pointer (some ⟨p62, 0, none⟩)) (fa31_0 _ _)) ?_
           clear a E;intro a E
           refine sv E rfl rfl rfl (x_ldB (i := 0) E H rfl rfl rfl rfl Tryd.underlying28 rfl) ?_
           clear a E;intro a E
           refine sv E rfl rfl rfl (x_bin E rfl rfl rfl rfl) ?_
           clear a E;intro a E
           refine wpList_nil ?_
           refine q_then ?_
           refine wp_if E rfl ?_ ?_
           ·intro hb
            rw [if_t hb] at hm
            clear hb
            refine wp_region_lit ?_
            refine sv E rfl rfl rfl (x_move E rfl rfl) ?_
            clear a E;intro a E
            refine sv E rfl rfl rfl (x_assign E rfl rfl) ?_
            clear a E;intro a E
            refine wpList_nil ?_
            refine q_blk ?_
            refine q_then ?_
            replace H := H.drop 0
            exact ⟨v60, u58.1, s43, _, (((((((E.nil.keep E 11 rfl).keep E 10 rfl).keep E 8 rfl).keep E 7 rfl).keep E 2 rfl).keep E 1 rfl).keep E 0 rfl), H, fun r hr => .tail _ (.tail _ (.tail _ (.tail _ (hs50 r hr)))), (.head _), (.tail _ (.tail _ (.tail _ (.tail _ hr52)))), (.tail _ (.tail _ (.tail _ (.tail _ hr53)))), hm⟩
           ·intro hb
            rw [if_f hb] at hm
            clear hb
            refine wp_skip ?_
            refine q_blk ?_
            refine q_then ?_
            replace H := H.drop 0
            exact ⟨v38, u36.1, s43, _, (((((((E.nil.keep E 11 rfl).keep E 10 rfl).keep E 8 rfl).keep E 7 rfl).keep E 2 rfl).keep E 1 rfl).keep E 0 rfl), H, fun r hr => .tail _ (.tail _ (.tail _ (.tail _ (hs50 r hr)))), (.tail _ (.tail _ (.tail _ (.tail _ hr51)))), (.tail _ (.tail _ (.tail _ (.tail _ hr52)))), (.tail _ (.tail _ (.tail _ (.tail _ hr53)))), hm⟩
         ·intro hb
          rw [if_f hb] at hm
          clear hb
          refine wp_skip ?_
          refine q_blk ?_
          refine q_then ?_
          exact ⟨v38, u36.1, s43, _, (((((((E.nil.keep E 11 rfl).keep E 10 rfl).keep E 8 rfl).keep E 7 rfl).keep E 2 rfl).keep E 1 rfl).keep E 0 rfl), H, hs45, hr47, hr46, hr48, hm⟩
      ·clear E H hm
       rintro a w ⟨v28, l29, s30, rs31, E, H, hs32, hr33, hr34, hr35, hm⟩
       unfold m_cantonlaw06_NodesTurns_j2 at hm
       refine wp_region_lit ?_
       refine sv E rfl rfl rfl (x_move E rfl rfl) ?_
       clear a E;intro a E
       refine sv E rfl rfl rfl (x_bin E rfl rfl rfl rfl) ?_
       clear a E;intro a E
       refine sv E rfl rfl rfl (x_assign E rfl rfl) ?_
       clear a E;intro a E
       refine wpList_nil ?_
       refine q_then ?_
       exact ⟨k1, Nat.lt_succ_self k1, v28, l29, s30, IntKind.i64.wrap (x22 + 1), _, (((((((E.nil.keep E 11 rfl).keep E 10 rfl).keep E 8 rfl).keep E 7 rfl).keep E 2 rfl).keep E 1 rfl).keep E 0 rfl), H, hs32, hr33, hr34, hr35, hm⟩
     ·intro hb
      rw [if_f hb] at hm
      clear hb
      refine wp_exit ?_
      refine q_thenX ?_
      refine q_thenX ?_
      refine q_hit ?_
      refine q_then ?_
      refine wp_seq ?_
      refine wp_region_lit ?_
      refine sv E rfl rfl rfl (x_move E rfl rfl) ?_
      clear a E;intro a E
      refine sv E rfl rfl rfl (x_assign E rfl rfl) ?_
      clear a E;intro a E
      refine wpList_nil ?_
      refine q_then ?_
      refine wp_ret ?_
      refine out1 E rfl rfl ?_
      obtain rfl := Option.some.inj hm
      exact ⟨rfl, H.reads (fun r hr => hs24 r hr)⟩
end Go.Cb
