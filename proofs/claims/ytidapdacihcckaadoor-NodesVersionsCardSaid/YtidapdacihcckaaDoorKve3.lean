/- Functions of the program, walked: each comes to its plain function. -/
import Derived.Test.YtidapdacihcckaaDoorKve2
import Derived.Test.YtidapdacihcckaaDoorN4ve
set_option linter.unusedVariables false
set_option linter.unusedSimpArgs false
namespace Go.Cb
open Go.Proofs Go.RowKit
def m_nodes_Apply_j2 (l2 : List S_api_Node) (x3 : S_api_Op) (u24 : Int × Bool) (b31 : Bool) : Option ((List S_api_Node) × S_api_Result) :=
  if b31 = true then ((m_nodes_failed 63).bind fun u36 => some (l2, (⟨u36.Err, u36.Path, u36.Data, u36.Version, u36.Names⟩ : S_api_Result))) else (if (x3.Kind == 2) = true then ((m_nodes_remove l2 u24.1 (⟨x3.Kind, x3.Path, x3.Data, x3.Version, x3.Owner, x3.Turns⟩ : S_api_Op)).bind fun u78 => some (u78.1, (⟨u78.2.Err, u78.2.Path, u78.2.Data, u78.2.Version, u78.2.Names⟩ : S_api_Result))) else (if (x3.Kind == 3) = true then ((m_nodes_set l2 u24.1 (⟨x3.Kind, x3.Path, x3.Data, x3.Version, x3.Owner, x3.Turns⟩ : S_api_Op)).bind fun u71 => some (u71.1, (⟨u71.2.Err, u71.2.Path, u71.2.Data, u71.2.Version, u71.2.Names⟩ : S_api_Result))) else (if (x3.Kind == 4) = true then ((m_nodes_check l2 u24.1 (⟨x3.Kind, x3.Path, x3.Data, x3.Version, x3.Owner, x3.Turns⟩ : S_api_Op)).bind fun u64 => some (u64.1, (⟨u64.2.Err, u64.2.Path, u64.2.Data, u64.2.Version, u64.2.Names⟩ : S_api_Result))) else (if (x3.Kind == 5) = true then ((m_nodes_get l2 u24.1 (⟨x3.Kind, x3.Path, x3.Data, x3.Version, x3.Owner, x3.Turns⟩ : S_api_Op)).bind fun u57 => some (u57.1, (⟨u57.2.Err, u57.2.Path, u57.2.Data, u57.2.Version, u57.2.Names⟩ : S_api_Result))) else (if (x3.Kind == 6) = true then ((m_nodes_list l2 u24.1 (⟨x3.Kind, x3.Path, x3.Data, x3.Version, x3.Owner, x3.Turns⟩ : S_api_Op)).bind fun u50 => some (u50.1, (⟨u50.2.Err, u50.2.Path, u50.2.Data, u50.2.Version, u50.2.Names⟩ : S_api_Result))) else (if (x3.Kind == 7) = true then ((m_nodes_sweep l2 u24.1 (⟨x3.Kind, x3.Path, x3.Data, x3.Version, x3.Owner, x3.Turns⟩ : S_api_Op)).bind fun u43 => some (u43.1, (⟨u43.2.Err, u43.2.Path, u43.2.Data, u43.2.Version, u43.2.Names⟩ : S_api_Result))) else none))))))
def m_nodes_Apply_j1 (l2 : List S_api_Node) (x3 : S_api_Op) (b8 : Bool) : Option ((List S_api_Node) × S_api_Result) :=
  if b8 = true then ((m_nodes_failed 1).bind fun u13 => some (([] : List S_api_Node), (⟨u13.Err, u13.Path, u13.Data, u13.Version, u13.Names⟩ : S_api_Result))) else (if (x3.Kind == 1) = true then ((m_nodes_create l2 (⟨x3.Kind, x3.Path, x3.Data, x3.Version, x3.Owner, x3.Turns⟩ : S_api_Op)).bind fun u18 => some (u18.1, (⟨u18.2.Err, u18.2.Path, u18.2.Data, u18.2.Version, u18.2.Names⟩ : S_api_Result))) else ((m_nodes_where l2 x3.Path).bind fun u24 => if (!u24.2) = true then ((m_nodes_failed 62).bind fun u26 => some (l2, (⟨u26.Err, u26.Path, u26.Data, u26.Version, u26.Names⟩ : S_api_Result))) else (if (decide (x3.Kind ≤ 4)) = true then (if (decide (x3.Version ≥ 0)) = true then ((idx l2 u24.1).bind fun x87 => m_nodes_Apply_j2 l2 x3 u24 (x3.Version != x87.Version)) else (m_nodes_Apply_j2 l2 x3 u24 false)) else (m_nodes_Apply_j2 l2 x3 u24 false))))
def m_nodes_Apply (l2 : List S_api_Node) (x3 : S_api_Op) : Option ((List S_api_Node) × S_api_Result) :=
  (m_nodes_Right l2).bind fun u94 => if (!u94) = true then (m_nodes_Apply_j1 l2 x3 true) else ((m_nodes_May (⟨x3.Kind, x3.Path, x3.Data, x3.Version, x3.Owner, x3.Turns⟩ : S_api_Op)).bind fun u97 => m_nodes_Apply_j1 l2 x3 (!u97))
set_option maxRecDepth 20000 in
set_option maxHeartbeats 1000000 in
theorem c_nodes_Apply {w : World} {Fo : List Ob} {rs : List Rp} (v1 : Value) (l2 : List S_api_Node) (x3 : S_api_Op) (H : Sep w (Fo) rs) (hr4 : rSl k_api_Node v1 l2 ∈ rs) (hr5 : rTab Tryd.prog ∈ rs) {r : (List S_api_Node) × S_api_Result} (hm : m_nodes_Apply l2 x3 = some r) :
    Calls Tryd.prog 14 [v1, .agg #[.int .i64 x3.Kind, .string x3.Path, .string x3.Data, .int .i64 x3.Version, .int .i64 x3.Owner, .bool x3.Turns]].toArray w (Ret fun v w' => ∃ (v5001 : Value) (v5004 : Value), .tuple #[v5001, .agg #[.int .i64 r.2.Err, .string r.2.Path, .string r.2.Data, .int .i64 r.2.Version, v5004]] = v ∧ Sep w' (Fo) (rSl k_api_Node v5001 r.1 :: rSl kS v5004 r.2.Names :: rs)) := by
 unfold m_nodes_Apply at hm
 refine enter Tryd.func14 rfl Tryd.ntmps14 rfl fun a E => ?_
 simp only [enum, Nat.reduceAdd] at E
 refine wp_seq ?_
 refine wp_region_lit ?_
 refine st_box E H (wn rfl) rfl rfl (cs := [.int .i64 x3.Kind, .string x3.Path, .string x3.Data, .int .i64 x3.Version, .int .i64 x3.Owner, .bool x3.Turns]) rfl rfl rfl ?_
 clear E H; clear a; clear w; intro p6 w a H E
 refine sv E rfl rfl rfl (x_assign E rfl rfl) ?_
 clear a E;intro a E
 refine st_alloc E H (wn rfl) rfl rfl (cs := [.int .i64 0, .string (ByteArray.mk #[]), .string (ByteArray.mk #[]), .int .i64 0, .slice none 0 0]) rfl (z := .agg #[.int .i64 0, .string ⟨#[]⟩, .string ⟨#[]⟩, .int .i64 0, .slice none 0 0]) (by kernel_rfl) rfl ?_
 clear E H; clear a; clear w; intro p7 w a H E
 refine wpList_nil ?_
 refine q_then ?_
 refine wp_seq ?_
 refine wp_seq_cut (fun a w => ∃ (b8 : Bool) (rs9 : List Rp), Env 68 a [(0, v1), (3, .pointer (some ⟨p6, 0, none⟩)), (5, .pointer (some ⟨p7, 0, none⟩)), (16, .bool b8)] ∧ Sep w (Blk p6 24 [.int .i64 x3.Kind, .string x3.Path, .string x3.Data, .int .i64 x3.Version, .int .i64 x3.Owner, .bool x3.Turns] :: Blk p7 31 [.int .i64 0, .string (ByteArray.mk #[]), .string (ByteArray.mk #[]), .int .i64 0, .slice none 0 0] :: Fo) rs9 ∧ (∀ r, r ∈ rs → r ∈ rs9) ∧ rSl k_api_Node v1 l2 ∈ rs9 ∧ rTab Tryd.prog ∈ rs9 ∧ m_nodes_Apply_j1 l2 x3 b8 = some r) ?_ ?_
 ·refine wp_region_lit ?_
  refine sv E rfl rfl rfl (x_move E rfl rfl) ?_
  clear a E;intro a E
  obtain ⟨u94, hx95, hm⟩ := bnd hm
  refine st_call E (wn rfl) rfl rfl (x_call E rfl rfl (cf25 _)) (c_nodes_Right v1 l2 H hr4 hx95) ?_
  clear E H; clear a; clear w; rintro _ w ⟨rfl, H⟩ a E
  refine sv E rfl rfl rfl (x_not E rfl rfl) ?_
  clear a E;intro a E
  refine sv E rfl rfl rfl (x_move E rfl rfl) ?_
  clear a E;intro a E
  rcases Bool.eq_false_or_eq_true (!u94) with hb96 | hb96
  ·rw [if_t hb96] at hm
   refine st_no E (wf' E rfl rfl rfl rfl hb96 rfl) rfl rfl ?_
   clear a E;intro a E
   refine st_no E (wf' E rfl rfl rfl rfl hb96 rfl) rfl rfl ?_
   clear a E;intro a E
   refine st_no E (wf' E rfl rfl rfl rfl hb96 rfl) rfl rfl ?_
   clear a E;intro a E
   refine sv E rfl rfl rfl (x_pickT E rfl rfl hb96 rfl) ?_
   clear a E;intro a E
   refine wpList_nil ?_
   refine q_then ?_
   replace H := H.front 0 rfl
   replace H := H.front 1 rfl
   exact ⟨true, _, ((((E.nil.keep E 16 rfl).keep E 5 rfl).keep E 3 rfl).keep E 0 rfl), H, fun r hr => hr, hr4, hr5, hm⟩
  ·rw [if_f hb96] at hm
   refine st_val E (ws' E rfl rfl rfl rfl hb96) rfl rfl (x_ldBN (i := 1) (us := [.int .i64 x3.Kind, .string x3.Path, .string x3.Data, .int .i64 x3.Version, .int .i64 x3.Owner, .bool x3.Turns]) E H rfl rfl rfl rfl Tryd.underlying24 rfl sz24) ?_
   clear a E;intro a E
   obtain ⟨u97, hx98, hm⟩ := bnd hm
   refine st_call E (ws' E rfl rfl rfl rfl hb96) rfl rfl (x_call E rfl rfl (cf26 _)) (c_nodes_May (⟨x3.Kind, x3.Path, x3.Data, x3.Version, x3.Owner, x3.Turns⟩ : S_api_Op) H hx98) ?_
   clear E H; clear a; clear w; rintro _ w ⟨rfl, H⟩ a E
   refine st_val E (ws' E rfl rfl rfl rfl hb96) rfl rfl (x_not E rfl rfl) ?_
   clear a E;intro a E
   refine sv E rfl rfl rfl (x_pickF E rfl rfl hb96 rfl) ?_
   clear a E;intro a E
   refine wpList_nil ?_
   refine q_then ?_
   replace H := H.front 0 rfl
   replace H := H.front 1 rfl
   exact ⟨!u97, _, ((((E.nil.keep E 16 rfl).keep E 5 rfl).keep E 3 rfl).keep E 0 rfl), H, fun r hr => hr, hr4, hr5, hm⟩
 ·clear E H hm
  rintro a w ⟨b8, rs9, E, H, hs10, hr11, hr12, hm⟩
  unfold m_nodes_Apply_j1 at hm
  refine wp_if E rfl ?_ ?_
  ·intro hb
   rw [if_t hb] at hm
   clear hb
   refine wp_seq ?_
   refine wp_region_lit ?_
   obtain ⟨u13, hx14, hm⟩ := bnd hm
   refine st_call E (wn rfl) rfl rfl (x_call E rfl rfl (cf27 _)) (c_nodes_failed 1 H hx14) ?_
   clear E H; clear a; clear w; rintro _ w ⟨v15, rfl, H⟩ a E
   refine sv E rfl rfl rfl (x_assign E rfl rfl) ?_
   clear a E;intro a E
   obtain ⟨q16, x17, rfl⟩ := H.slform (.head _)
   refine st_st (i := 1) E H (wn rfl) rfl (us := [.int .i64 u13.Err, .string u13.Path, .string u13.Data, .int .i64 u13.Version, (.slice q16 u13.Names.length x17)]) rfl rfl rfl rfl rfl sz31 rfl rfl ?_
   clear H; clear w; intro w H
   replace H : Sep w (Blk p6 24 [.int .i64 x3.Kind, .string x3.Path, .string x3.Data, .int .i64 x3.Version, .int .i64 x3.Owner, .bool x3.Turns] :: Blk p7 31 [.int .i64 u13.Err, .string u13.Path, .string u13.Data, .int .i64 u13.Version, (.slice q16 u13.Names.length x17)] :: Fo) _ := H
   refine wpList_nil ?_
   refine q_then ?_
   refine wp_ret ?_
   refine q_thenR ?_
   refine outR2 E rfl (rvT rfl) (rvBN (i := 1) (us := [.int .i64 u13.Err, .string u13.Path, .string u13.Data, .int .i64 u13.Version, (.slice q16 u13.Names.length x17)]) H rfl rfl rfl Tryd.underlying31 rfl sz31) ?_
   replace H := H.nilSl k_api_Node
   replace H := H.drop 0
   replace H := H.drop 0
   obtain rfl := Option.some.inj hm
   exact ⟨(.slice none 0 0), (.slice q16 u13.Names.length x17), rfl, H.reads (sub_cons (.head _) (sub_cons (.tail _ (.head _)) (fun r hr => .tail _ (.tail _ (hs10 r hr)))))⟩
  ·intro hb
   rw [if_f hb] at hm
   clear hb
   refine wp_skip ?_
   refine q_then ?_
   refine wp_seq ?_
   refine wp_seq ?_
   refine wp_region_lit ?_
   refine sv E rfl rfl rfl (x_fa E rfl rfl (v := .pointer (some ⟨p6, 0, none⟩)) (fa24_0 _ _)) ?_
   clear a E;intro a E
   refine sv E rfl rfl rfl (x_ldB (i := 0) E H rfl rfl rfl rfl Tryd.underlying3 rfl) ?_
   clear a E;intro a E
   refine sv E rfl rfl rfl (x_bin E rfl rfl rfl rfl) ?_
   clear a E;intro a E
   refine wpList_nil ?_
   refine q_then ?_
   refine wp_if E rfl ?_ ?_
   ·intro hb
    rw [if_t hb] at hm
    clear hb
    refine wp_seq ?_
    refine wp_region_lit ?_
    refine sv E rfl rfl rfl (x_move E rfl rfl) ?_
    clear a E;intro a E
    refine sv E rfl rfl rfl (x_ldBN (i := 0) (us := [.int .i64 x3.Kind, .string x3.Path, .string x3.Data, .int .i64 x3.Version, .int .i64 x3.Owner, .bool x3.Turns]) E H rfl rfl rfl rfl Tryd.underlying24 rfl sz24) ?_
    clear a E;intro a E
    obtain ⟨u18, hx19, hm⟩ := bnd hm
    refine st_call E (wn rfl) rfl rfl (x_call E rfl rfl (cf28 _)) (c_nodes_create v1 l2 (⟨x3.Kind, x3.Path, x3.Data, x3.Version, x3.Owner, x3.Turns⟩ : S_api_Op) H hr11 hr12 hx19) ?_
    clear E H; clear a; clear w; rintro _ w ⟨v20, v21, rfl, H⟩ a E
    refine sv E rfl rfl rfl (x_ext E rfl rfl rfl) ?_
    clear a E;intro a E
    refine sv E rfl rfl rfl (x_ext E rfl rfl rfl) ?_
    clear a E;intro a E
    refine sv E rfl rfl rfl (x_assign E rfl rfl) ?_
    clear a E;intro a E
    obtain ⟨q22, x23, rfl⟩ := H.slform (.tail _ (.head _))
    refine st_st (i := 1) E H (wn rfl) rfl (us := [.int .i64 u18.2.Err, .string u18.2.Path, .string u18.2.Data, .int .i64 u18.2.Version, (.slice q22 u18.2.Names.length x23)]) rfl rfl rfl rfl rfl sz31 rfl rfl ?_
    clear H; clear w; intro w H
    replace H : Sep w (Blk p6 24 [.int .i64 x3.Kind, .string x3.Path, .string x3.Data, .int .i64 x3.Version, .int .i64 x3.Owner, .bool x3.Turns] :: Blk p7 31 [.int .i64 u18.2.Err, .string u18.2.Path, .string u18.2.Data, .int .i64 u18.2.Version, (.slice q22 u18.2.Names.length x23)] :: Fo) _ := H
    refine wpList_nil ?_
    refine q_then ?_
    refine wp_ret ?_
    refine q_thenR ?_
    refine outR2 E rfl (rvT rfl) (rvBN (i := 1) (us := [.int .i64 u18.2.Err, .string u18.2.Path, .string u18.2.Data, .int .i64 u18.2.Version, (.slice q22 u18.2.Names.length x23)]) H rfl rfl rfl Tryd.underlying31 rfl sz31) ?_
    replace H := H.drop 0
    replace H := H.drop 0
    obtain rfl := Option.some.inj hm
    exact ⟨v20, (.slice q22 u18.2.Names.length x23), rfl, H.reads (sub_cons (.head _) (sub_cons (.tail _ (.head _)) (fun r hr => .tail _ (.tail _ (hs10 r hr)))))⟩
   ·intro hb
    rw [if_f hb] at hm
    clear hb
    refine wp_skip ?_
    refine q_then ?_
    refine wp_seq ?_
    refine wp_region_lit ?_
    refine sv E rfl rfl rfl (x_move E rfl rfl) ?_
    clear a E;intro a E
    refine sv E rfl rfl rfl (x_fa E rfl rfl (v := .pointer (some ⟨p6, 1, none⟩)) (fa24_1 _ _)) ?_
    clear a E;intro a E
    refine sv E rfl rfl rfl (x_ldB (i := 0) E H rfl rfl rfl rfl Tryd.underlying9 rfl) ?_
    clear a E;intro a E
    obtain ⟨u24, hx25, hm⟩ := bnd hm
    refine st_call E (wn rfl) rfl rfl (x_call E rfl rfl (cf29 _)) (c_nodes_where v1 l2 x3.Path H hr11 hx25) ?_
    clear E H; clear a; clear w; rintro _ w ⟨rfl, H⟩ a E
    refine sv E rfl rfl rfl (x_move E rfl rfl) ?_
    clear a E;intro a E
    refine sv E rfl rfl rfl (x_ext E rfl rfl rfl) ?_
    clear a E;intro a E
    refine sv E rfl rfl rfl (x_ext E rfl rfl rfl) ?_
    clear a E;intro a E
    refine sv E rfl rfl rfl (x_assign E rfl rfl) ?_
    clear a E;intro a E
    refine sv E rfl rfl rfl (x_assign E rfl rfl) ?_
    clear a E;intro a E
    refine wpList_nil ?_
    refine q_then ?_
    refine wp_seq ?_
    refine wp_seq ?_
    refine wp_region_lit ?_
    refine sv E rfl rfl rfl (x_move E rfl rfl) ?_
    clear a E;intro a E
    refine sv E rfl rfl rfl (x_not E rfl rfl) ?_
    clear a E;intro a E
    refine wpList_nil ?_
    refine q_then ?_
    refine wp_if E rfl ?_ ?_
    ·intro hb
     rw [if_t hb] at hm
     clear hb
     refine wp_seq ?_
     refine wp_region_lit ?_
     refine sv E rfl rfl rfl (x_move E rfl rfl) ?_
     clear a E;intro a E
     obtain ⟨u26, hx27, hm⟩ := bnd hm
     refine st_call E (wn rfl) rfl rfl (x_call E rfl rfl (cf27 _)) (c_nodes_failed 62 H hx27) ?_
     clear E H; clear a; clear w; rintro _ w ⟨v28, rfl, H⟩ a E
     refine sv E rfl rfl rfl (x_assign E rfl rfl) ?_
     clear a E;intro a E
     obtain ⟨q29, x30, rfl⟩ := H.slform (.head _)
     refine st_st (i := 1) E H (wn rfl) rfl (us := [.int .i64 u26.Err, .string u26.Path, .string u26.Data, .int .i64 u26.Version, (.slice q29 u26.Names.length x30)]) rfl rfl rfl rfl rfl sz31 rfl rfl ?_
     clear H; clear w; intro w H
     replace H : Sep w (Blk p6 24 [.int .i64 x3.Kind, .string x3.Path, .string x3.Data, .int .i64 x3.Version, .int .i64 x3.Owner, .bool x3.Turns] :: Blk p7 31 [.int .i64 u26.Err, .string u26.Path, .string u26.Data, .int .i64 u26.Version, (.slice q29 u26.Names.length x30)] :: Fo) _ := H
     refine wpList_nil ?_
     refine q_then ?_
     refine wp_ret ?_
     refine q_thenR ?_
     refine outR2 E rfl (rvT rfl) (rvBN (i := 1) (us := [.int .i64 u26.Err, .string u26.Path, .string u26.Data, .int .i64 u26.Version, (.slice q29 u26.Names.length x30)]) H rfl rfl rfl Tryd.underlying31 rfl sz31) ?_
     replace H := H.drop 0
     replace H := H.drop 0
     obtain rfl := Option.some.inj hm
     exact ⟨v1, (.slice q29 u26.Names.length x30), rfl, H.reads (sub_cons (.tail _ hr11) (sub_cons (.head _) (fun r hr => .tail _ (hs10 r hr))))⟩
    ·intro hb
     rw [if_f hb] at hm
     clear hb
     refine wp_skip ?_
     refine q_then ?_
     refine wp_seq ?_
     refine wp_seq_cut (fun a w => ∃ (b31 : Bool) (rs32 : List Rp), Env 68 a [(0, v1), (3, .pointer (some ⟨p6, 0, none⟩)), (5, .pointer (some ⟨p7, 0, none⟩)), (6, .int .i64 u24.1), (54, .bool b31)] ∧ Sep w (Blk p6 24 [.int .i64 x3.Kind, .string x3.Path, .string x3.Data, .int .i64 x3.Version, .int .i64 x3.Owner, .bool x3.Turns] :: Blk p7 31 [.int .i64 0, .string (ByteArray.mk #[]), .string (ByteArray.mk #[]), .int .i64 0, .slice none 0 0] :: Fo) rs32 ∧ (∀ r, r ∈ rs → r ∈ rs32) ∧ rSl k_api_Node v1 l2 ∈ rs32 ∧ rTab Tryd.prog ∈ rs32 ∧ m_nodes_Apply_j2 l2 x3 u24 b31 = some r) ?_ ?_
     ·obtain ⟨u84, H⟩ := H.raw hr11
      replace H : Sep w (Blk p6 24 [.int .i64 x3.Kind, .string x3.Path, .string x3.Data, .int .i64 x3.Version, .int .i64 x3.Owner, .bool x3.Turns] :: Blk p7 31 [.int .i64 0, .string (ByteArray.mk #[]), .string (ByteArray.mk #[]), .int .i64 0, .slice none 0 0] :: Fo) (rRow k_api_Node v1 l2 u84 :: rs9) := H
      have hI : Still [Blk p6 24 [.int .i64 x3.Kind, .string x3.Path, .string x3.Data, .int .i64 x3.Version, .int .i64 x3.Owner, .bool x3.Turns]] [rRow k_api_Node v1 l2 u84] { w with drawn := w.drawn + 1 } := ⟨_, _, H.kept (Kp.drawn _ w _), (subO_cons (.head _) (subO_nil)), (sub_cons (.head _) (sub_nil))⟩
      refine wp_draw _ [(0, 0), (1, 0), (2, 0), (3, 0), (4, 0), (5, 0), (6, 0), (7, 0), (8, 0), (9, 0), (10, 0), (11, 0), (12, 0), (13, 0), (14, 0), (15, 0), (16, 0), (17, 0)] mixedOk (by kernel_rfl) (fun _ _ _ h => False.elim h.2) hI ?_
      replace H := H.kept (Kp.drawn _ w (w.drawn + 1))
      generalize ({ w with drawn := w.drawn + 1 } : World) = w at H hI ⊢
      replace hI : ∃ W, Still [Blk p6 24 [.int .i64 x3.Kind, .string x3.Path, .string x3.Data, .int .i64 x3.Version, .int .i64 x3.Owner, .bool x3.Turns]] [rRow k_api_Node v1 l2 u84] W := ⟨_, hI⟩
      obtain ⟨W0, hI⟩ := hI
      refine fr_val E rfl (wn rfl) rfl rfl (fun w hW => x_fa E rfl rfl (v := .pointer (some ⟨p6, 0, none⟩)) (fa24_0 _ _)) ?_
      clear a E;intro a E
      refine fr_val E rfl (wn rfl) rfl rfl (fun w hW => x_ld E rfl rfl (ib_ld (.head _) rfl Tryd.underlying3 rfl w hW)) ?_
      clear a E;intro a E
      refine fr_val E rfl (wn rfl) rfl rfl (fun w hW => (x_bin E rfl rfl rfl rfl)) ?_
      clear a E;intro a E
      refine fr_val E rfl (wn rfl) rfl rfl (fun w hW => (x_move E rfl rfl)) ?_
      clear a E;intro a E
      rcases Bool.eq_false_or_eq_true (decide (x3.Kind ≤ 4)) with hb85 | hb85
      ·rw [if_t hb85] at hm
       refine fr_val E rfl (ws' E rfl rfl rfl rfl hb85) rfl rfl (fun w hW => x_fa E rfl rfl (v := .pointer (some ⟨p6, 3, none⟩)) (fa24_3 _ _)) ?_
       clear a E;intro a E
       refine fr_val E rfl (ws' E rfl rfl rfl rfl hb85) rfl rfl (fun w hW => x_ld E rfl rfl (ib_ld (.head _) rfl Tryd.underlying2 rfl w hW)) ?_
       clear a E;intro a E
       refine fr_val E rfl (ws' E rfl rfl rfl rfl hb85) rfl rfl (fun w hW => (x_bin E rfl rfl rfl rfl)) ?_
       clear a E;intro a E
       refine fr_val E rfl (wn rfl) rfl rfl (fun w hW => (x_pickT E rfl rfl hb85 rfl)) ?_
       clear a E;intro a E
       refine fr_val E rfl (wn rfl) rfl rfl (fun w hW => (x_move E rfl rfl)) ?_
       clear a E;intro a E
       rcases Bool.eq_false_or_eq_true (decide (x3.Version ≥ 0)) with hb86 | hb86
       ·rw [if_t hb86] at hm
        refine fr_val E rfl (ws' E rfl rfl rfl rfl hb86) rfl rfl (fun w hW => x_fa E rfl rfl (v := .pointer (some ⟨p6, 3, none⟩)) (fa24_3 _ _)) ?_
        clear a E;intro a E
        refine fr_val E rfl (ws' E rfl rfl rfl rfl hb86) rfl rfl (fun w hW => x_ld E rfl rfl (ib_ld (.head _) rfl Tryd.underlying2 rfl w hW)) ?_
        clear a E;intro a E
        refine fr_val E rfl (ws' E rfl rfl rfl rfl hb86) rfl rfl (fun w hW => (x_move E rfl rfl)) ?_
        clear a E;intro a E
        refine fr_val E rfl (ws' E rfl rfl rfl rfl hb86) rfl rfl (fun w hW => (x_move E rfl rfl)) ?_
        clear a E;intro a E
        obtain ⟨x87, hx88, hm⟩ := bnd hm
        obtain ⟨q89, u92, hx90, hx91⟩ := dr_ixW (P := Tryd.prog) (k := .i64) hI (dr_mem (.head _)) Tryd.underlying22 sz39 hx88
        refine fr_val E rfl (ws' E rfl rfl rfl rfl hb86) rfl rfl (fun w hW => x_ixA E rfl rfl rfl (hx90 w)) ?_
        clear a E;intro a E
        have hx93 := dr_fld hx91 (fun _ _ _ h => k_api_Node_aw2 h)
        refine fr_val E rfl (ws' E rfl rfl rfl rfl hb86) rfl rfl (fun w hW => x_fa E rfl rfl (fa39_2 _ _)) ?_
        clear a E;intro a E
        refine fr_val E rfl (ws' E rfl rfl rfl rfl hb86) rfl rfl (fun w hW => x_ld E rfl rfl (ir_ld (DR.ir (dr_at hx93)) Tryd.underlying2 rfl w hW)) ?_
        clear a E;intro a E
        refine fr_val E rfl (ws' E rfl rfl rfl rfl hb86) rfl rfl (fun w hW => (x_bin E rfl rfl rfl rfl)) ?_
        clear a E;intro a E
        refine fr_val E rfl (wn rfl) rfl rfl (fun w hW => (x_pickT E rfl rfl hb86 rfl)) ?_
        clear a E;intro a E
        refine fr_nil ?_
        clear hI
        refine q_then ?_
        exact ⟨x3.Version != x87.Version, _, (((((E.nil.keep E 54 rfl).keep E 6 rfl).keep E 5 rfl).keep E 3 rfl).keep E 0 rfl), H, fun r hr => .tail _ (hs10 r hr), (.tail _ hr11), (.tail _ hr12), hm⟩
       ·rw [if_f hb86] at hm
        refine fr_no E rfl (wf' E rfl rfl rfl rfl hb86 rfl) rfl rfl ?_
        clear a E;intro a E
        refine fr_no E rfl (wf' E rfl rfl rfl rfl hb86 rfl) rfl rfl ?_
        clear a E;intro a E
        refine fr_no E rfl (wf' E rfl rfl rfl rfl hb86 rfl) rfl rfl ?_
        clear a E;intro a E
        refine fr_no E rfl (wf' E rfl rfl rfl rfl hb86 rfl) rfl rfl ?_
        clear a E;intro a E
        refine fr_no E rfl (wf' E rfl rfl rfl rfl hb86 rfl) rfl rfl ?_
        clear a E;intro a E
        refine fr_no E rfl (wf' E rfl rfl rfl rfl hb86 rfl) rfl rfl ?_
        clear a E;intro a E
        refine fr_no E rfl (wf' E rfl rfl rfl rfl hb86 rfl) rfl rfl ?_
        clear a E;intro a E
        refine fr_no E rfl (wf' E rfl rfl rfl rfl hb86 rfl) rfl rfl ?_
        clear a E;intro a E
        refine fr_val E rfl (wn rfl) rfl rfl (fun w hW => (x_pickF E rfl rfl hb86 rfl)) ?_
        clear a E;intro a E
        refine fr_nil ?_
        clear hI
        refine q_then ?_
        exact ⟨false, _, (((((E.nil.keep E 54 rfl).keep E 6 rfl).keep E 5 rfl).keep E 3 rfl).keep E 0 rfl), H, fun r hr => .tail _ (hs10 r hr), (.tail _ hr11), (.tail _ hr12), hm⟩
      ·rw [if_f hb85] at hm
       refine fr_no E rfl (wf' E rfl rfl rfl rfl hb85 rfl) rfl rfl ?_
       clear a E;intro a E
       refine fr_no E rfl (wf' E rfl rfl rfl rfl hb85 rfl) rfl rfl ?_
       clear a E;intro a E
       refine fr_no E rfl (wf' E rfl rfl rfl rfl hb85 rfl) rfl rfl ?_
       clear a E;intro a E
       refine fr_val E rfl (wn rfl) rfl rfl (fun w hW => (x_pickF E rfl rfl hb85 rfl)) ?_
       clear a E;intro a E
       refine fr_val E rfl (wn rfl) rfl rfl (fun w hW => (x_move E rfl rfl)) ?_
       clear a E;intro a E
       refine fr_no E rfl (wf E rfl rfl rfl rfl rfl) rfl rfl ?_
       clear a E;intro a E
       refine fr_no E rfl (wf E rfl rfl rfl rfl rfl) rfl rfl ?_
       clear a E;intro a E
       refine fr_no E rfl (wf E rfl rfl rfl rfl rfl) rfl rfl ?_
       clear a E;intro a E
       refine fr_no E rfl (wf E rfl rfl rfl rfl rfl) rfl rfl ?_
       clear a E;intro a E
       refine fr_no E rfl (wf E rfl rfl rfl rfl rfl) rfl rfl ?_
       clear a E;intro a E
       refine fr_no E rfl (wf E rfl rfl rfl rfl rfl) rfl rfl ?_
       clear a E;intro a E
       refine fr_no E rfl (wf E rfl rfl rfl rfl rfl) rfl rfl ?_
       clear a E;intro a E
       refine fr_no E rfl (wf E rfl rfl rfl rfl rfl) rfl rfl ?_
       clear a E;intro a E
       refine fr_val E rfl (wn rfl) rfl rfl (fun w hW => (x_pickF E rfl rfl rfl rfl)) ?_
       clear a E;intro a E
       refine fr_nil ?_
       clear hI
       refine q_then ?_
       exact ⟨false, _, (((((E.nil.keep E 54 rfl).keep E 6 rfl).keep E 5 rfl).keep E 3 rfl).keep E 0 rfl), H, fun r hr => .tail _ (hs10 r hr), (.tail _ hr11), (.tail _ hr12), hm⟩
     ·clear E H hm
      rintro a w ⟨b31, rs32, E, H, hs33, hr34, hr35, hm⟩
      unfold m_nodes_Apply_j2 at hm
      refine wp_if E rfl ?_ ?_
      ·intro hb
       rw [if_t hb] at hm
       clear hb
       refine wp_seq ?_
       refine wp_region_lit ?_
       refine sv E rfl rfl rfl (x_move E rfl rfl) ?_
       clear a E;intro a E
       obtain ⟨u36, hx37, hm⟩ := bnd hm
       refine st_call E (wn rfl) rfl rfl (x_call E rfl rfl (cf27 _)) (c_nodes_failed 63 H hx37) ?_
       clear E H; clear a; clear w; rintro _ w ⟨v38, rfl, H⟩ a E
       refine sv E rfl rfl rfl (x_assign E rfl rfl) ?_
       clear a E;intro a E
       obtain ⟨q39, x40, rfl⟩ := H.slform (.head _)
       refine st_st (i := 1) E H (wn rfl) rfl (us := [.int .i64 u36.Err, .string u36.Path, .string u36.Data, .int .i64 u36.Version, (.slice q39 u36.Names.length x40)]) rfl rfl rfl rfl rfl sz31 rfl rfl ?_
       clear H; clear w; intro w H
       replace H : Sep w (Blk p6 24 [.int .i64 x3.Kind, .string x3.Path, .string x3.Data, .int .i64 x3.Version, .int .i64 x3.Owner, .bool x3.Turns] :: Blk p7 31 [.int .i64 u36.Err, .string u36.Path, .string u36.Data, .int .i64 u36.Version, (.slice q39 u36.Names.length x40)] :: Fo) _ := H
       refine wpList_nil ?_
       refine q_then ?_
       refine wp_ret ?_
       refine q_thenR ?_
       refine outR2 E rfl (rvT rfl) (rvBN (i := 1) (us := [.int .i64 u36.Err, .string u36.Path, .string u36.Data, .int .i64 u36.Version, (.slice q39 u36.Names.length x40)]) H rfl rfl rfl Tryd.underlying31 rfl sz31) ?_
       replace H := H.drop 0
       replace H := H.drop 0
       obtain rfl := Option.some.inj hm
       exact ⟨v1, (.slice q39 u36.Names.length x40), rfl, H.reads (sub_cons (.tail _ hr34) (sub_cons (.head _) (fun r hr => .tail _ (hs33 r hr))))⟩
      ·intro hb
       rw [if_f hb] at hm
       clear hb
       refine wp_skip ?_
       refine q_then ?_
       refine wp_seq ?_
       refine wp_region_lit ?_
       refine sv E rfl rfl rfl (x_build E (ps := [(2, .func 30), (3, .func 31), (4, .func 32), (5, .func 33), (6, .func 34), (7, .func 35)]) (vs := [(2, .func (.func 30) #[] #[]), (3, .func (.func 31) #[] #[]), (4, .func (.func 32) #[] #[]), (5, .func (.func 33) #[] #[]), (6, .func (.func 34) #[] #[]), (7, .func (.func 35) #[] #[])]) rfl (by simp only [List.map]; rw [E.eval (x := .func 30) (v := .func (.func 30) #[] #[]) rfl, E.eval (x := .func 31) (v := .func (.func 31) #[] #[]) rfl, E.eval (x := .func 32) (v := .func (.func 32) #[] #[]) rfl, E.eval (x := .func 33) (v := .func (.func 33) #[] #[]) rfl, E.eval (x := .func 34) (v := .func (.func 34) #[] #[]) rfl, E.eval (x := .func 35) (v := .func (.func 35) #[] #[]) rfl]) (v := .agg #[.nilFunc, .nilFunc, .func (.func 30) #[] #[], .func (.func 31) #[] #[], .func (.func 32) #[] #[], .func (.func 33) #[] #[], .func (.func 34) #[] #[], .func (.func 35) #[] #[]]) (by kernel_rfl)) ?_
       clear a E;intro a E
       refine st_alloc E H (wn rfl) rfl rfl (cs := [.nilFunc, .nilFunc, .nilFunc, .nilFunc, .nilFunc, .nilFunc, .nilFunc, .nilFunc]) rfl (z := .agg #[.nilFunc, .nilFunc, .nilFunc, .nilFunc, .nilFunc, .nilFunc, .nilFunc, .nilFunc]) (by kernel_rfl) rfl ?_
       clear E H; clear a; clear w; intro p41 w a H E
       refine st_st (i := 0) E H (wn rfl) rfl (us := [.nilFunc, .nilFunc, .func (.func 30) #[] #[], .func (.func 31) #[] #[], .func (.func 32) #[] #[], .func (.func 33) #[] #[], .func (.func 34) #[] #[], .func (.func 35) #[] #[]]) rfl rfl rfl rfl rfl sz57 rfl rfl ?_
       clear H; clear w; intro w H
       replace H : Sep w (Blk p41 57 [.nilFunc, .nilFunc, .func (.func 30) #[] #[], .func (.func 31) #[] #[], .func (.func 32) #[] #[], .func (.func 33) #[] #[], .func (.func 34) #[] #[], .func (.func 35) #[] #[]] :: Blk p6 24 [.int .i64 x3.Kind, .string x3.Path, .string x3.Data, .int .i64 x3.Version, .int .i64 x3.Owner, .bool x3.Turns] :: Blk p7 31 [.int .i64 0, .string (ByteArray.mk #[]), .string (ByteArray.mk #[]), .int .i64 0, .slice none 0 0] :: Fo) _ := H
       refine wpList_nil ?_
       refine q_then ?_
       refine wp_seq ?_
       replace H : Sep w (Blk p41 57 [.nilFunc, .nilFunc, .func (.func 30) #[] #[], .func (.func 31) #[] #[], .func (.func 32) #[] #[], .func (.func 33) #[] #[], .func (.func 34) #[] #[], .func (.func 35) #[] #[]] :: Blk p6 24 [.int .i64 x3.Kind, .string x3.Path, .string x3.Data, .int .i64 x3.Version, .int .i64 x3.Owner, .bool x3.Turns] :: Blk p7 31 [.int .i64 0, .string (ByteArray.mk #[]), .string (ByteArray.mk #[]), .int .i64 0, .slice none 0 0] :: Fo) (rs32) := H
       have hI : Still [Blk p41 57 [.nilFunc, .nilFunc, .func (.func 30) #[] #[], .func (.func 31) #[] #[], .func (.func 32) #[] #[], .func (.func 33) #[] #[], .func (.func 34) #[] #[], .func (.func 35) #[] #[]], Blk p6 24 [.int .i64 x3.Kind, .string x3.Path, .string x3.Data, .int .i64 x3.Version, .int .i64 x3.Owner, .bool x3.Turns]] [] { w with drawn := w.drawn + 1 } := ⟨_, _, H.kept (Kp.drawn _ w _), (subO_cons (.head _) (subO_cons (.tail _ (.head _)) (subO_nil))), (sub_nil)⟩
       refine wp_draw _ [(0, 0), (1, 0), (2, 0), (3, 0), (4, 0), (5, 0), (6, 0), (7, 1), (8, 0), (9, 0), (10, 2), (11, 2)] mixedOk (by kernel_rfl) (fun _ _ _ h => False.elim h.2) hI ?_
       replace H := H.kept (Kp.drawn _ w (w.drawn + 1))
       generalize ({ w with drawn := w.drawn + 1 } : World) = w at H hI ⊢
       replace hI : ∃ W, Still [Blk p41 57 [.nilFunc, .nilFunc, .func (.func 30) #[] #[], .func (.func 31) #[] #[], .func (.func 32) #[] #[], .func (.func 33) #[] #[], .func (.func 34) #[] #[], .func (.func 35) #[] #[]], Blk p6 24 [.int .i64 x3.Kind, .string x3.Path, .string x3.Data, .int .i64 x3.Version, .int .i64 x3.Owner, .bool x3.Turns]] [] W := ⟨_, hI⟩
       obtain ⟨W0, hI⟩ := hI
       refine fr_val E rfl (wn rfl) rfl rfl (fun w hW => x_fa E rfl rfl (v := .pointer (some ⟨p6, 0, none⟩)) (fa24_0 _ _)) ?_
       clear a E;intro a E
       refine fr_val E rfl (wn rfl) rfl rfl (fun w hW => x_ld E rfl rfl (ib_ld (.tail _ (.head _)) rfl Tryd.underlying3 rfl w hW)) ?_
       clear a E;intro a E
       rcases Bool.eq_false_or_eq_true (x3.Kind == 2) with hb77 | hb77
       ·rw [if_t hb77] at hm
        refine fr_val E rfl (wn rfl) rfl rfl (fun w hW => x_ixP (j := 2) E rfl rfl rfl hb77 rfl Tryd.underlying57 sz56) ?_
        clear a E;intro a E
        refine fr_val E rfl (wn rfl) rfl rfl (fun w hW => x_ld E rfl rfl (ib_ld (.head _) rfl Tryd.underlying56 rfl w hW)) ?_
        clear a E;intro a E
        refine fr_val E rfl (wn rfl) rfl rfl (fun w hW => (x_move E rfl rfl)) ?_
        clear a E;intro a E
        refine fr_val E rfl (wn rfl) rfl rfl (fun w hW => (x_move E rfl rfl)) ?_
        clear a E;intro a E
        refine fr_val E rfl (wn rfl) rfl rfl (fun w hW => x_ld E rfl rfl (ib_ldN (us := [.int .i64 x3.Kind, .string x3.Path, .string x3.Data, .int .i64 x3.Version, .int .i64 x3.Owner, .bool x3.Turns]) (.tail _ (.head _)) rfl Tryd.underlying24 rfl sz24 w hW)) ?_
        clear a E;intro a E
        refine fr_op rfl ?_
        obtain ⟨u78, hx79, hm⟩ := bnd hm
        refine st_call E (wn rfl) rfl rfl (x_callv E rfl rfl rfl (cf30 _)) (c_nodes_remove v1 l2 u24.1 (⟨x3.Kind, x3.Path, x3.Data, x3.Version, x3.Owner, x3.Turns⟩ : S_api_Op) H hr34 hx79) ?_
        clear E H; clear a; clear w; rintro _ w ⟨v80, v81, rfl, H⟩ a E
        refine wpList_nil ?_
        refine q_then ?_
        replace H : Sep w (Blk p41 57 [.nilFunc, .nilFunc, .func (.func 30) #[] #[], .func (.func 31) #[] #[], .func (.func 32) #[] #[], .func (.func 33) #[] #[], .func (.func 34) #[] #[], .func (.func 35) #[] #[]] :: Blk p6 24 [.int .i64 x3.Kind, .string x3.Path, .string x3.Data, .int .i64 x3.Version, .int .i64 x3.Owner, .bool x3.Turns] :: Blk p7 31 [.int .i64 0, .string (ByteArray.mk #[]), .string (ByteArray.mk #[]), .int .i64 0, .slice none 0 0] :: Fo) (rSl k_api_Node v80 u78.1 :: rSl kS v81 u78.2.Names :: rs32) := H
        refine ⟨⟨_, _, H, (subO_cons (.head _) (subO_cons (.tail _ (.head _)) (subO_nil))), (sub_nil)⟩, ?_⟩
        refine fr_val E rfl (wn rfl) rfl rfl (fun w hW => (x_ext E rfl rfl rfl)) ?_
        clear a E;intro a E
        refine fr_val E rfl (wn rfl) rfl rfl (fun w hW => (x_ext E rfl rfl rfl)) ?_
        clear a E;intro a E
        refine fr_tail rfl ?_
        refine sv E rfl rfl rfl (x_assign E rfl rfl) ?_
        clear a E;intro a E
        refine wpList_nil ?_
        refine q_then ?_
        refine fr_tail rfl ?_
        obtain ⟨q82, x83, rfl⟩ := H.slform (.tail _ (.head _))
        refine st_st (i := 2) E H (wn rfl) rfl (us := [.int .i64 u78.2.Err, .string u78.2.Path, .string u78.2.Data, .int .i64 u78.2.Version, (.slice q82 u78.2.Names.length x83)]) rfl rfl rfl rfl rfl sz31 rfl rfl ?_
        clear H; clear w; intro w H
        replace H : Sep w (Blk p41 57 [.nilFunc, .nilFunc, .func (.func 30) #[] #[], .func (.func 31) #[] #[], .func (.func 32) #[] #[], .func (.func 33) #[] #[], .func (.func 34) #[] #[], .func (.func 35) #[] #[]] :: Blk p6 24 [.int .i64 x3.Kind, .string x3.Path, .string x3.Data, .int .i64 x3.Version, .int .i64 x3.Owner, .bool x3.Turns] :: Blk p7 31 [.int .i64 u78.2.Err, .string u78.2.Path, .string u78.2.Data, .int .i64 u78.2.Version, (.slice q82 u78.2.Names.length x83)] :: Fo) _ := H
        refine wpList_nil ?_
        refine q_then ?_
        refine fr_nil ?_
        clear hI
        refine q_then ?_
        refine wp_ret ?_
        refine outR2 E rfl (rvT rfl) (rvBN (i := 2) (us := [.int .i64 u78.2.Err, .string u78.2.Path, .string u78.2.Data, .int .i64 u78.2.Version, (.slice q82 u78.2.Names.length x83)]) H rfl rfl rfl Tryd.underlying31 rfl sz31) ?_
        replace H := H.drop 0
        replace H := H.drop 0
        replace H := H.drop 0
        obtain rfl := Option.some.inj hm
        exact ⟨v80, (.slice q82 u78.2.Names.length x83), rfl, H.reads (sub_cons (.head _) (sub_cons (.tail _ (.head _)) (fun r hr => .tail _ (.tail _ (hs33 r hr)))))⟩
       ·rw [if_f hb77] at hm
        rcases Bool.eq_false_or_eq_true (x3.Kind == 3) with hb70 | hb70
        ·rw [if_t hb70] at hm
         refine fr_val E rfl (wn rfl) rfl rfl (fun w hW => x_ixP (j := 3) E rfl rfl rfl hb70 rfl Tryd.underlying57 sz56) ?_
         clear a E;intro a E
         refine fr_val E rfl (wn rfl) rfl rfl (fun w hW => x_ld E rfl rfl (ib_ld (.head _) rfl Tryd.underlying56 rfl w hW)) ?_
         clear a E;intro a E
         refine fr_val E rfl (wn rfl) rfl rfl (fun w hW => (x_move E rfl rfl)) ?_
         clear a E;intro a E
         refine fr_val E rfl (wn rfl) rfl rfl (fun w hW => (x_move E rfl rfl)) ?_
         clear a E;intro a E
         refine fr_val E rfl (wn rfl) rfl rfl (fun w hW => x_ld E rfl rfl (ib_ldN (us := [.int .i64 x3.Kind, .string x3.Path, .string x3.Data, .int .i64 x3.Version, .int .i64 x3.Owner, .bool x3.Turns]) (.tail _ (.head _)) rfl Tryd.underlying24 rfl sz24 w hW)) ?_
         clear a E;intro a E
         refine fr_op rfl ?_
         obtain ⟨u71, hx72, hm⟩ := bnd hm
         refine st_call E (wn rfl) rfl rfl (x_callv E rfl rfl rfl (cf31 _)) (c_nodes_set v1 l2 u24.1 (⟨x3.Kind, x3.Path, x3.Data, x3.Version, x3.Owner, x3.Turns⟩ : S_api_Op) H hr34 hx72) ?_
         clear E H; clear a; clear w; rintro _ w ⟨v73, v74, rfl, H⟩ a E
         refine wpList_nil ?_
         refine q_then ?_
         replace H : Sep w (Blk p41 57 [.nilFunc, .nilFunc, .func (.func 30) #[] #[], .func (.func 31) #[] #[], .func (.func 32) #[] #[], .func (.func 33) #[] #[], .func (.func 34) #[] #[], .func (.func 35) #[] #[]] :: Blk p6 24 [.int .i64 x3.Kind, .string x3.Path, .string x3.Data, .int .i64 x3.Version, .int .i64 x3.Owner, .bool x3.Turns] :: Blk p7 31 [.int .i64 0, .string (ByteArray.mk #[]), .string (ByteArray.mk #[]), .int .i64 0, .slice none 0 0] :: Fo) (rSl k_api_Node v73 u71.1 :: rSl kS v74 u71.2.Names :: rs32) := H
         refine ⟨⟨_, _, H, (subO_cons (.head _) (subO_cons (.tail _ (.head _)) (subO_nil))), (sub_nil)⟩, ?_⟩
         refine fr_val E rfl (wn rfl) rfl rfl (fun w hW => (x_ext E rfl rfl rfl)) ?_
         clear a E;intro a E
         refine fr_val E rfl (wn rfl) rfl rfl (fun w hW => (x_ext E rfl rfl rfl)) ?_
         clear a E;intro a E
         refine fr_tail rfl ?_
         refine sv E rfl rfl rfl (x_assign E rfl rfl) ?_
         clear a E;intro a E
         refine wpList_nil ?_
         refine q_then ?_
         refine fr_tail rfl ?_
         obtain ⟨q75, x76, rfl⟩ := H.slform (.tail _ (.head _))
         refine st_st (i := 2) E H (wn rfl) rfl (us := [.int .i64 u71.2.Err, .string u71.2.Path, .string u71.2.Data, .int .i64 u71.2.Version, (.slice q75 u71.2.Names.length x76)]) rfl rfl rfl rfl rfl sz31 rfl rfl ?_
         clear H; clear w; intro w H
         replace H : Sep w (Blk p41 57 [.nilFunc, .nilFunc, .func (.func 30) #[] #[], .func (.func 31) #[] #[], .func (.func 32) #[] #[], .func (.func 33) #[] #[], .func (.func 34) #[] #[], .func (.func 35) #[] #[]] :: Blk p6 24 [.int .i64 x3.Kind, .string x3.Path, .string x3.Data, .int .i64 x3.Version, .int .i64 x3.Owner, .bool x3.Turns] :: Blk p7 31 [.int .i64 u71.2.Err, .string u71.2.Path, .string u71.2.Data, .int .i64 u71.2.Version, (.slice q75 u71.2.Names.length x76)] :: Fo) _ := H
         refine wpList_nil ?_
         refine q_then ?_
         refine fr_nil ?_
         clear hI
         refine q_then ?_
         refine wp_ret ?_
         refine outR2 E rfl (rvT rfl) (rvBN (i := 2) (us := [.int .i64 u71.2.Err, .string u71.2.Path, .string u71.2.Data, .int .i64 u71.2.Version, (.slice q75 u71.2.Names.length x76)]) H rfl rfl rfl Tryd.underlying31 rfl sz31) ?_
         replace H := H.drop 0
         replace H := H.drop 0
         replace H := H.drop 0
         obtain rfl := Option.some.inj hm
         exact ⟨v73, (.slice q75 u71.2.Names.length x76), rfl, H.reads (sub_cons (.head _) (sub_cons (.tail _ (.head _)) (fun r hr => .tail _ (.tail _ (hs33 r hr)))))⟩
        ·rw [if_f hb70] at hm
         rcases Bool.eq_false_or_eq_true (x3.Kind == 4) with hb63 | hb63
         ·rw [if_t hb63] at hm
          refine fr_val E rfl (wn rfl) rfl rfl (fun w hW => x_ixP (j := 4) E rfl rfl rfl hb63 rfl Tryd.underlying57 sz56) ?_
          clear a E;intro a E
          refine fr_val E rfl (wn rfl) rfl rfl (fun w hW => x_ld E rfl rfl (ib_ld (.head _) rfl Tryd.underlying56 rfl w hW)) ?_
          clear a E;intro a E
          refine fr_val E rfl (wn rfl) rfl rfl (fun w hW => (x_move E rfl rfl)) ?_
          clear a E;intro a E
          refine fr_val E rfl (wn rfl) rfl rfl (fun w hW => (x_move E rfl rfl)) ?_
          clear a E;intro a E
          refine fr_val E rfl (wn rfl) rfl rfl (fun w hW => x_ld E rfl rfl (ib_ldN (us := [.int .i64 x3.Kind, .string x3.Path, .string x3.Data, .int .i64 x3.Version, .int .i64 x3.Owner, .bool x3.Turns]) (.tail _ (.head _)) rfl Tryd.underlying24 rfl sz24 w hW)) ?_
          clear a E;intro a E
          refine fr_op rfl ?_
          obtain ⟨u64, hx65, hm⟩ := bnd hm
          refine st_call E (wn rfl) rfl rfl (x_callv E rfl rfl rfl (cf32 _)) (c_nodes_check v1 l2 u24.1 (⟨x3.Kind, x3.Path, x3.Data, x3.Version, x3.Owner, x3.Turns⟩ : S_api_Op) H hr34 hx65) ?_
          clear E H; clear a; clear w; rintro _ w ⟨v66, v67, rfl, H⟩ a E
          refine wpList_nil ?_
          refine q_then ?_
          replace H : Sep w (Blk p41 57 [.nilFunc, .nilFunc, .func (.func 30) #[] #[], .func (.func 31) #[] #[], .func (.func 32) #[] #[], .func (.func 33) #[] #[], .func (.func 34) #[] #[], .func (.func 35) #[] #[]] :: Blk p6 24 [.int .i64 x3.Kind, .string x3.Path, .string x3.Data, .int .i64 x3.Version, .int .i64 x3.Owner, .bool x3.Turns] :: Blk p7 31 [.int .i64 0, .string (ByteArray.mk #[]), .string (ByteArray.mk #[]), .int .i64 0, .slice none 0 0] :: Fo) (rSl k_api_Node v66 u64.1 :: rSl kS v67 u64.2.Names :: rs32) := H
          refine ⟨⟨_, _, H, (subO_cons (.head _) (subO_cons (.tail _ (.head _)) (subO_nil))), (sub_nil)⟩, ?_⟩
          refine fr_val E rfl (wn rfl) rfl rfl (fun w hW => (x_ext E rfl rfl rfl)) ?_
          clear a E;intro a E
          refine fr_val E rfl (wn rfl) rfl rfl (fun w hW => (x_ext E rfl rfl rfl)) ?_
          clear a E;intro a E
          refine fr_tail rfl ?_
          refine sv E rfl rfl rfl (x_assign E rfl rfl) ?_
          clear a E;intro a E
          refine wpList_nil ?_
          refine q_then ?_
          refine fr_tail rfl ?_
          obtain ⟨q68, x69, rfl⟩ := H.slform (.tail _ (.head _))
          refine st_st (i := 2) E H (wn rfl) rfl (us := [.int .i64 u64.2.Err, .string u64.2.Path, .string u64.2.Data, .int .i64 u64.2.Version, (.slice q68 u64.2.Names.length x69)]) rfl rfl rfl rfl rfl sz31 rfl rfl ?_
          clear H; clear w; intro w H
          replace H : Sep w (Blk p41 57 [.nilFunc, .nilFunc, .func (.func 30) #[] #[], .func (.func 31) #[] #[], .func (.func 32) #[] #[], .func (.func 33) #[] #[], .func (.func 34) #[] #[], .func (.func 35) #[] #[]] :: Blk p6 24 [.int .i64 x3.Kind, .string x3.Path, .string x3.Data, .int .i64 x3.Version, .int .i64 x3.Owner, .bool x3.Turns] :: Blk p7 31 [.int .i64 u64.2.Err, .string u64.2.Path, .string u64.2.Data, .int .i64 u64.2.Version, (.slice q68 u64.2.Names.length x69)] :: Fo) _ := H
          refine wpList_nil ?_
          refine q_then ?_
          refine fr_nil ?_
          clear hI
          refine q_then ?_
          refine wp_ret ?_
          refine outR2 E rfl (rvT rfl) (rvBN (i := 2) (us := [.int .i64 u64.2.Err, .string u64.2.Path, .string u64.2.Data, .int .i64 u64.2.Version, (.slice q68 u64.2.Names.length x69)]) H rfl rfl rfl Tryd.underlying31 rfl sz31) ?_
          replace H := H.drop 0
          replace H := H.drop 0
          replace H := H.drop 0
          obtain rfl := Option.some.inj hm
          exact ⟨v66, (.slice q68 u64.2.Names.length x69), rfl, H.reads (sub_cons (.head _) (sub_cons (.tail _ (.head _)) (fun r hr => .tail _ (.tail _ (hs33 r hr)))))⟩
         ·rw [if_f hb63] at hm
          rcases Bool.eq_false_or_eq_true (x3.Kind == 5) with hb56 | hb56
          ·rw [if_t hb56] at hm
           refine fr_val E rfl (wn rfl) rfl rfl (fun w hW => x_ixP (j := 5) E rfl rfl rfl hb56 rfl Tryd.underlying57 sz56) ?_
           clear a E;intro a E
           refine fr_val E rfl (wn rfl) rfl rfl (fun w hW => x_ld E rfl rfl (ib_ld (.head _) rfl Tryd.underlying56 rfl w hW)) ?_
           clear a E;intro a E
           refine fr_val E rfl (wn rfl) rfl rfl (fun w hW => (x_move E rfl rfl)) ?_
           clear a E;intro a E
           refine fr_val E rfl (wn rfl) rfl rfl (fun w hW => (x_move E rfl rfl)) ?_
           clear a E;intro a E
           refine fr_val E rfl (wn rfl) rfl rfl (fun w hW => x_ld E rfl rfl (ib_ldN (us := [.int .i64 x3.Kind, .string x3.Path, .string x3.Data, .int .i64 x3.Version, .int .i64 x3.Owner, .bool x3.Turns]) (.tail _ (.head _)) rfl Tryd.underlying24 rfl sz24 w hW)) ?_
           clear a E;intro a E
           refine fr_op rfl ?_
           obtain ⟨u57, hx58, hm⟩ := bnd hm
           refine st_call E (wn rfl) rfl rfl (x_callv E rfl rfl rfl (cf33 _)) (c_nodes_get v1 l2 u24.1 (⟨x3.Kind, x3.Path, x3.Data, x3.Version, x3.Owner, x3.Turns⟩ : S_api_Op) H hr34 hx58) ?_
           clear E H; clear a; clear w; rintro _ w ⟨v59, v60, rfl, H⟩ a E
           refine wpList_nil ?_
           refine q_then ?_
           replace H : Sep w (Blk p41 57 [.nilFunc, .nilFunc, .func (.func 30) #[] #[], .func (.func 31) #[] #[], .func (.func 32) #[] #[], .func (.func 33) #[] #[], .func (.func 34) #[] #[], .func (.func 35) #[] #[]] :: Blk p6 24 [.int .i64 x3.Kind, .string x3.Path, .string x3.Data, .int .i64 x3.Version, .int .i64 x3.Owner, .bool x3.Turns] :: Blk p7 31 [.int .i64 0, .string (ByteArray.mk #[]), .string (ByteArray.mk #[]), .int .i64 0, .slice none 0 0] :: Fo) (rSl k_api_Node v59 u57.1 :: rSl kS v60 u57.2.Names :: rs32) := H
           refine ⟨⟨_, _, H, (subO_cons (.head _) (subO_cons (.tail _ (.head _)) (subO_nil))), (sub_nil)⟩, ?_⟩
           refine fr_val E rfl (wn rfl) rfl rfl (fun w hW => (x_ext E rfl rfl rfl)) ?_
           clear a E;intro a E
           refine fr_val E rfl (wn rfl) rfl rfl (fun w hW => (x_ext E rfl rfl rfl)) ?_
           clear a E;intro a E
           refine fr_tail rfl ?_
           refine sv E rfl rfl rfl (x_assign E rfl rfl) ?_
           clear a E;intro a E
           refine wpList_nil ?_
           refine q_then ?_
           refine fr_tail rfl ?_
           obtain ⟨q61, x62, rfl⟩ := H.slform (.tail _ (.head _))
           refine st_st (i := 2) E H (wn rfl) rfl (us := [.int .i64 u57.2.Err, .string u57.2.Path, .string u57.2.Data, .int .i64 u57.2.Version, (.slice q61 u57.2.Names.length x62)]) rfl rfl rfl rfl rfl sz31 rfl rfl ?_
           clear H; clear w; intro w H
           replace H : Sep w (Blk p41 57 [.nilFunc, .nilFunc, .func (.func 30) #[] #[], .func (.func 31) #[] #[], .func (.func 32) #[] #[], .func (.func 33) #[] #[], .func (.func 34) #[] #[], .func (.func 35) #[] #[]] :: Blk p6 24 [.int .i64 x3.Kind, .string x3.Path, .string x3.Data, .int .i64 x3.Version, .int .i64 x3.Owner, .bool x3.Turns] :: Blk p7 31 [.int .i64 u57.2.Err, .string u57.2.Path, .string u57.2.Data, .int .i64 u57.2.Version, (.slice q61 u57.2.Names.length x62)] :: Fo) _ := H
           refine wpList_nil ?_
           refine q_then ?_
           refine fr_nil ?_
           clear hI
           refine q_then ?_
           refine wp_ret ?_
           refine outR2 E rfl (rvT rfl) (rvBN (i := 2) (us := [.int .i64 u57.2.Err, .string u57.2.Path, .string u57.2.Data, .int .i64 u57.2.Version, (.slice q61 u57.2.Names.length x62)]) H rfl rfl rfl Tryd.underlying31 rfl sz31) ?_
           replace H := H.drop 0
           replace H := H.drop 0
           replace H := H.drop 0
           obtain rfl := Option.some.inj hm
           exact ⟨v59, (.slice q61 u57.2.Names.length x62), rfl, H.reads (sub_cons (.head _) (sub_cons (.tail _ (.head _)) (fun r hr => .tail _ (.tail _ (hs33 r hr)))))⟩
          ·rw [if_f hb56] at hm
           rcases Bool.eq_false_or_eq_true (x3.Kind == 6) with hb49 | hb49
           ·rw [if_t hb49] at hm
            refine fr_val E rfl (wn rfl) rfl rfl (fun w hW => x_ixP (j := 6) E rfl rfl rfl hb49 rfl Tryd.underlying57 sz56) ?_
            clear a E;intro a E
            refine fr_val E rfl (wn rfl) rfl rfl (fun w hW => x_ld E rfl rfl (ib_ld (.head _) rfl Tryd.underlying56 rfl w hW)) ?_
            clear a E;intro a E
            refine fr_val E rfl (wn rfl) rfl rfl (fun w hW => (x_move E rfl rfl)) ?_
            clear a E;intro a E
            refine fr_val E rfl (wn rfl) rfl rfl (fun w hW => (x_move E rfl rfl)) ?_
            clear a E;intro a E
            refine fr_val E rfl (wn rfl) rfl rfl (fun w hW => x_ld E rfl rfl (ib_ldN (us := [.int .i64 x3.Kind, .string x3.Path, .string x3.Data, .int .i64 x3.Version, .int .i64 x3.Owner, .bool x3.Turns]) (.tail _ (.head _)) rfl Tryd.underlying24 rfl sz24 w hW)) ?_
            clear a E;intro a E
            refine fr_op rfl ?_
            obtain ⟨u50, hx51, hm⟩ := bnd hm
            refine st_call E (wn rfl) rfl rfl (x_callv E rfl rfl rfl (cf34 _)) (c_nodes_list v1 l2 u24.1 (⟨x3.Kind, x3.Path, x3.Data, x3.Version, x3.Owner, x3.Turns⟩ : S_api_Op) H hr34 hx51) ?_
            clear E H; clear a; clear w; rintro _ w ⟨v52, v53, rfl, H⟩ a E
            refine wpList_nil ?_
            refine q_then ?_
            replace H : Sep w (Blk p41 57 [.nilFunc, .nilFunc, .func (.func 30) #[] #[], .func (.func 31) #[] #[], .func (.func 32) #[] #[], .func (.func 33) #[] #[], .func (.func 34) #[] #[], .func (.func 35) #[] #[]] :: Blk p6 24 [.int .i64 x3.Kind, .string x3.Path, .string x3.Data, .int .i64 x3.Version, .int .i64 x3.Owner, .bool x3.Turns] :: Blk p7 31 [.int .i64 0, .string (ByteArray.mk #[]), .string (ByteArray.mk #[]), .int .i64 0, .slice none 0 0] :: Fo) (rSl k_api_Node v52 u50.1 :: rSl kS v53 u50.2.Names :: rs32) := H
            refine ⟨⟨_, _, H, (subO_cons (.head _) (subO_cons (.tail _ (.head _)) (subO_nil))), (sub_nil)⟩, ?_⟩
            refine fr_val E rfl (wn rfl) rfl rfl (fun w hW => (x_ext E rfl rfl rfl)) ?_
            clear a E;intro a E
            refine fr_val E rfl (wn rfl) rfl rfl (fun w hW => (x_ext E rfl rfl rfl)) ?_
            clear a E;intro a E
            refine fr_tail rfl ?_
            refine sv E rfl rfl rfl (x_assign E rfl rfl) ?_
            clear a E;intro a E
            refine wpList_nil ?_
            refine q_then ?_
            refine fr_tail rfl ?_
            obtain ⟨q54, x55, rfl⟩ := H.slform (.tail _ (.head _))
            refine st_st (i := 2) E H (wn rfl) rfl (us := [.int .i64 u50.2.Err, .string u50.2.Path, .string u50.2.Data, .int .i64 u50.2.Version, (.slice q54 u50.2.Names.length x55)]) rfl rfl rfl rfl rfl sz31 rfl rfl ?_
            clear H; clear w; intro w H
            replace H : Sep w (Blk p41 57 [.nilFunc, .nilFunc, .func (.func 30) #[] #[], .func (.func 31) #[] #[], .func (.func 32) #[] #[], .func (.func 33) #[] #[], .func (.func 34) #[] #[], .func (.func 35) #[] #[]] :: Blk p6 24 [.int .i64 x3.Kind, .string x3.Path, .string x3.Data, .int .i64 x3.Version, .int .i64 x3.Owner, .bool x3.Turns] :: Blk p7 31 [.int .i64 u50.2.Err, .string u50.2.Path, .string u50.2.Data, .int .i64 u50.2.Version, (.slice q54 u50.2.Names.length x55)] :: Fo) _ := H
            refine wpList_nil ?_
            refine q_then ?_
            refine fr_nil ?_
            clear hI
            refine q_then ?_
            refine wp_ret ?_
            refine outR2 E rfl (rvT rfl) (rvBN (i := 2) (us := [.int .i64 u50.2.Err, .string u50.2.Path, .string u50.2.Data, .int .i64 u50.2.Version, (.slice q54 u50.2.Names.length x55)]) H rfl rfl rfl Tryd.underlying31 rfl sz31) ?_
            replace H := H.drop 0
            replace H := H.drop 0
            replace H := H.drop 0
            obtain rfl := Option.some.inj hm
            exact ⟨v52, (.slice q54 u50.2.Names.length x55), rfl, H.reads (sub_cons (.head _) (sub_cons (.tail _ (.head _)) (fun r hr => .tail _ (.tail _ (hs33 r hr)))))⟩
           ·rw [if_f hb49] at hm
            rcases Bool.eq_false_or_eq_true (x3.Kind == 7) with hb42 | hb42
            ·rw [if_t hb42] at hm
             refine fr_val E rfl (wn rfl) rfl rfl (fun w hW => x_ixP (j := 7) E rfl rfl rfl hb42 rfl Tryd.underlying57 sz56) ?_
             clear a E;intro a E
             refine fr_val E rfl (wn rfl) rfl rfl (fun w hW => x_ld E rfl rfl (ib_ld (.head _) rfl Tryd.underlying56 rfl w hW)) ?_
             clear a E;intro a E
             refine fr_val E rfl (wn rfl) rfl rfl (fun w hW => (x_move E rfl rfl)) ?_
             clear a E;intro a E
             refine fr_val E rfl (wn rfl) rfl rfl (fun w hW => (x_move E rfl rfl)) ?_
             clear a E;intro a E
             refine fr_val E rfl (wn rfl) rfl rfl (fun w hW => x_ld E rfl rfl (ib_ldN (us := [.int .i64 x3.Kind, .string x3.Path, .string x3.Data, .int .i64 x3.Version, .int .i64 x3.Owner, .bool x3.Turns]) (.tail _ (.head _)) rfl Tryd.underlying24 rfl sz24 w hW)) ?_
             clear a E;intro a E
             refine fr_op rfl ?_
             obtain ⟨u43, hx44, hm⟩ := bnd hm
             refine st_call E (wn rfl) rfl rfl (x_callv E rfl rfl rfl (cf35 _)) (c_nodes_sweep v1 l2 u24.1 (⟨x3.Kind, x3.Path, x3.Data, x3.Version, x3.Owner, x3.Turns⟩ : S_api_Op) H hr34 hx44) ?_
             clear E H; clear a; clear w; rintro _ w ⟨v45, v46, rfl, H⟩ a E
             refine wpList_nil ?_
             refine q_then ?_
             replace H : Sep w (Row 39 k_api_Node v45 u43.1 :: Blk p41 57 [.nilFunc, .nilFunc, .func (.func 30) #[] #[], .func (.func 31) #[] #[], .func (.func 32) #[] #[], .func (.func 33) #[] #[], .func (.func 34) #[] #[], .func (.func 35) #[] #[]] :: Blk p6 24 [.int .i64 x3.Kind, .string x3.Path, .string x3.Data, .int .i64 x3.Version, .int .i64 x3.Owner, .bool x3.Turns] :: Blk p7 31 [.int .i64 0, .string (ByteArray.mk #[]), .string (ByteArray.mk #[]), .int .i64 0, .slice none 0 0] :: Fo) (rSl kS v46 u43.2.Names :: rs32) := H
             refine ⟨⟨_, _, H, (subO_cons (.tail _ (.head _)) (subO_cons (.tail _ (.tail _ (.head _))) (subO_nil))), (sub_nil)⟩, ?_⟩
             refine fr_val E rfl (wn rfl) rfl rfl (fun w hW => (x_ext E rfl rfl rfl)) ?_
             clear a E;intro a E
             refine fr_val E rfl (wn rfl) rfl rfl (fun w hW => (x_ext E rfl rfl rfl)) ?_
             clear a E;intro a E
             refine fr_tail rfl ?_
             refine sv E rfl rfl rfl (x_assign E rfl rfl) ?_
             clear a E;intro a E
             refine wpList_nil ?_
             refine q_then ?_
             refine fr_tail rfl ?_
             obtain ⟨q47, x48, rfl⟩ := H.slform (.head _)
             refine st_st (i := 3) E H (wn rfl) rfl (us := [.int .i64 u43.2.Err, .string u43.2.Path, .string u43.2.Data, .int .i64 u43.2.Version, (.slice q47 u43.2.Names.length x48)]) rfl rfl rfl rfl rfl sz31 rfl rfl ?_
             clear H; clear w; intro w H
             replace H : Sep w (Row 39 k_api_Node v45 u43.1 :: Blk p41 57 [.nilFunc, .nilFunc, .func (.func 30) #[] #[], .func (.func 31) #[] #[], .func (.func 32) #[] #[], .func (.func 33) #[] #[], .func (.func 34) #[] #[], .func (.func 35) #[] #[]] :: Blk p6 24 [.int .i64 x3.Kind, .string x3.Path, .string x3.Data, .int .i64 x3.Version, .int .i64 x3.Owner, .bool x3.Turns] :: Blk p7 31 [.int .i64 u43.2.Err, .string u43.2.Path, .string u43.2.Data, .int .i64 u43.2.Version, (.slice q47 u43.2.Names.length x48)] :: Fo) _ := H
             refine wpList_nil ?_
             refine q_then ?_
             refine fr_nil ?_
             clear hI
             refine q_then ?_
             refine wp_ret ?_
             refine outR2 E rfl (rvT rfl) (rvBN (i := 3) (us := [.int .i64 u43.2.Err, .string u43.2.Path, .string u43.2.Data, .int .i64 u43.2.Version, (.slice q47 u43.2.Names.length x48)]) H rfl rfl rfl Tryd.underlying31 rfl sz31) ?_
             replace H := H.thaw (i := 0) rfl
             replace H := H.drop 0
             replace H := H.drop 0
             replace H := H.drop 0
             obtain rfl := Option.some.inj hm
             exact ⟨v45, (.slice q47 u43.2.Names.length x48), rfl, H.reads (sub_cons (.head _) (sub_cons (.tail _ (.head _)) (fun r hr => .tail _ (.tail _ (hs33 r hr)))))⟩
            ·rw [if_f hb42] at hm
             exact (none_some hm rfl).elim
end Go.Cb

set_option linter.unusedVariables false
set_option linter.unusedSimpArgs false
namespace Go.Cb
open Go.Proofs Go.RowKit
def m_cantonlaw06_Great_j1 (x4 : Int) : Option Bool :=
  some (decide (x4 ≥ 5000))
def m_cantonlaw06_Great_l1 (l2 : List S_api_Node) : Nat → Int → Int → Option Bool
  | 0, _, _ => none
  | k1 + 1, x7, x8 =>
    if (decide (x8 < (l2.length : Int))) = true then (if (decide (x7 < 5000)) = true then ((idx l2 x8).bind fun x14 => (idx l2 x8).bind fun x21 => m_cantonlaw06_Great_l1 l2 k1 (IntKind.i64.wrap ((IntKind.i64.wrap (x7 + (min (x14.Path.size : Int) 5000))) + (min (x21.Data.size : Int) 5000))) (IntKind.i64.wrap (x8 + 1))) else (m_cantonlaw06_Great_j1 x7)) else (m_cantonlaw06_Great_j1 x7)
def m_cantonlaw06_Great (l2 : List S_api_Node) : Option Bool :=
  m_cantonlaw06_Great_l1 l2 5002 (IntKind.i64.wrap (3 * (l2.length : Int))) 0
set_option maxRecDepth 20000 in
set_option maxHeartbeats 1000000 in
theorem c_cantonlaw06_Great {w : World} {Fo : List Ob} {rs : List Rp} (v1 : Value) (l2 : List S_api_Node) (H : Sep w (Fo) rs) (hr3 : rSl k_api_Node v1 l2 ∈ rs) {r : Bool} (hm : m_cantonlaw06_Great l2 = some r) :
    Calls Tryd.prog 11 [v1].toArray w (Ret fun v w' => .bool r = v ∧ Sep w' (Fo) (rs)) := by
 unfold m_cantonlaw06_Great at hm
 refine enter Tryd.func11 rfl Tryd.ntmps11 rfl fun a E => ?_
 simp only [enum, Nat.reduceAdd] at E
 refine wp_seq ?_
 refine wp_region_lit ?_
 refine sv E rfl rfl rfl (x_assign E rfl rfl) ?_
 clear a E;intro a E
 refine wpList_nil ?_
 refine q_then ?_
 refine wp_seq ?_
 refine wp_region_lit ?_
 refine sv E rfl rfl rfl (x_move E rfl rfl) ?_
 clear a E;intro a E
 refine sv E rfl rfl rfl (x_lenS E H rfl rfl hr3 Tryd.underlying22) ?_
 clear a E;intro a E
 refine sv E rfl rfl rfl (x_bin E rfl rfl rfl rfl) ?_
 clear a E;intro a E
 refine sv E rfl rfl rfl (x_assign E rfl rfl) ?_
 clear a E;intro a E
 refine wpList_nil ?_
 refine q_then ?_
 refine wp_seq_cut (fun a w => ∃ (x4 : Int) (rs5 : List Rp), Env 37 a [(3, .int .i64 x4)] ∧ Sep w (Fo) rs5 ∧ (∀ r, r ∈ rs → r ∈ rs5) ∧ m_cantonlaw06_Great_j1 x4 = some r) ?_ ?_
 ·refine wp_seq ?_
  refine wp_region_lit ?_
  refine sv E rfl rfl rfl (x_assign E rfl rfl) ?_
  clear a E;intro a E
  refine wpList_nil ?_
  refine q_then ?_
  refine wp_block ?_
  refine wp_loop_g (fun k1 a w => ∃ (x7 : Int) (x8 : Int) (rs9 : List Rp), Env 37 a [(0, v1), (3, .int .i64 x7), (4, .int .i64 x8)] ∧ Sep w (Fo) rs9 ∧ (∀ r, r ∈ rs → r ∈ rs9) ∧ rSl k_api_Node v1 l2 ∈ rs9 ∧ m_cantonlaw06_Great_l1 l2 k1 x7 x8 = some r) (5002) ?_ ?_
  ·exact ⟨IntKind.i64.wrap (3 * (l2.length : Int)), 0, _, (((E.nil.keep E 4 rfl).keep E 3 rfl).keep E 0 rfl), H, fun r hr => hr, hr3, hm⟩
  ·clear E H hm
   rintro k1 a w ⟨x7, x8, rs9, E, H, hs10, hr11, hm⟩
   cases k1 with
   | zero => exact (none_some hm rfl).elim
   | succ k1 =>
    unfold m_cantonlaw06_Great_l1 at hm
    refine wp_seq ?_
    refine wp_seq ?_
    refine wp_region_lit ?_
    refine sv E rfl rfl rfl (x_move E rfl rfl) ?_
    clear a E;intro a E
    refine sv E rfl rfl rfl (x_move E rfl rfl) ?_
    clear a E;intro a E
    refine sv E rfl rfl rfl (x_lenS E H rfl rfl hr11 Tryd.underlying22) ?_
    clear a E;intro a E
    refine sv E rfl rfl rfl (x_bin E rfl rfl rfl rfl) ?_
    clear a E;intro a E
    refine sv E rfl rfl rfl (x_move E rfl rfl) ?_
    clear a E;intro a E
    rcases Bool.eq_false_or_eq_true (decide (x8 < (l2.length : Int))) with hb12 | hb12
    ·rw [if_t hb12] at hm
     refine st_val E (ws' E rfl rfl rfl rfl hb12) rfl rfl (x_move E rfl rfl) ?_
     clear a E;intro a E
     refine st_val E (ws' E rfl rfl rfl rfl hb12) rfl rfl (x_bin E rfl rfl rfl rfl) ?_
     clear a E;intro a E
     refine sv E rfl rfl rfl (x_pickT E rfl rfl hb12 rfl) ?_
     clear a E;intro a E
     refine wpList_nil ?_
     refine q_then ?_
     refine wp_if E rfl ?_ ?_
     ·intro hb
      rw [if_t hb] at hm
      clear hb
      refine wp_skip ?_
      refine q_then ?_
      refine wp_seq ?_
      refine wp_block ?_
      obtain ⟨u13, H⟩ := H.raw hr11
      replace H : Sep w (Fo) (rRow k_api_Node v1 l2 u13 :: rs9) := H
      have hI : Still [] [rRow k_api_Node v1 l2 u13] { w with drawn := w.drawn + 1 } := ⟨_, _, H.kept (Kp.drawn _ w _), (subO_nil), (sub_cons (.head _) (sub_nil))⟩
      refine wp_draw _ [(0, 0), (1, 0), (2, 0), (3, 0), (4, 0), (5, 0), (6, 0), (7, 0), (8, 0), (9, 0), (10, 0), (11, 0), (12, 0), (13, 0), (14, 0), (15, 0), (16, 0), (17, 2)] mixedOk (by kernel_rfl) (fun _ _ _ h => False.elim h.2) hI ?_
      replace H := H.kept (Kp.drawn _ w (w.drawn + 1))
      generalize ({ w with drawn := w.drawn + 1 } : World) = w at H hI ⊢
      replace hI : ∃ W, Still [] [rRow k_api_Node v1 l2 u13] W := ⟨_, hI⟩
      obtain ⟨W0, hI⟩ := hI
      refine fr_val E rfl (wn rfl) rfl rfl (fun w hW => (x_move E rfl rfl)) ?_
      clear a E;intro a E
      refine fr_val E rfl (wn rfl) rfl rfl (fun w hW => (x_move E rfl rfl)) ?_
      clear a E;intro a E
      refine fr_val E rfl (wn rfl) rfl rfl (fun w hW => (x_move E rfl rfl)) ?_
      clear a E;intro a E
      obtain ⟨x14, hx15, hm⟩ := bnd hm
      obtain ⟨q16, u19, hx17, hx18⟩ := dr_ixW (P := Tryd.prog) (k := .i64) hI (dr_mem (.head _)) Tryd.underlying22 sz39 hx15
      refine fr_val E rfl (wn rfl) rfl rfl (fun w hW => x_ixA E rfl rfl rfl (hx17 w)) ?_
      clear a E;intro a E
      have hx20 := dr_fld hx18 (fun _ _ _ h => k_api_Node_aw0 h)
      refine fr_val E rfl (wn rfl) rfl rfl (fun w hW => x_fa E rfl rfl (fa39_0 _ _)) ?_
      clear a E;intro a E
      refine fr_val E rfl (wn rfl) rfl rfl (fun w hW => x_ld E rfl rfl (ir_ld (DR.ir (dr_at hx20)) Tryd.underlying9 rfl w hW)) ?_
      clear a E;intro a E
      refine fr_val E rfl (wn rfl) rfl rfl (fun w hW => (x_lenStr E rfl rfl Tryd.underlying9)) ?_
      clear a E;intro a E
      refine fr_val E rfl (wn rfl) rfl rfl (fun w hW => (x_min (t := 0) E rfl rfl rfl)) ?_
      clear a E;intro a E
      refine fr_val E rfl (wn rfl) rfl rfl (fun w hW => (x_bin E rfl rfl rfl rfl)) ?_
      clear a E;intro a E
      refine fr_val E rfl (wn rfl) rfl rfl (fun w hW => (x_move E rfl rfl)) ?_
      clear a E;intro a E
      refine fr_val E rfl (wn rfl) rfl rfl (fun w hW => (x_move E rfl rfl)) ?_
      clear a E;intro a E
      obtain ⟨x21, hx22, hm⟩ := bnd hm
      obtain ⟨q23, u26, hx24, hx25⟩ := dr_ixW (P := Tryd.prog) (k := .i64) hI (dr_mem (.head _)) Tryd.underlying22 sz39 hx22
      refine fr_val E rfl (wn rfl) rfl rfl (fun w hW => x_ixA E rfl rfl rfl (hx24 w)) ?_
      clear a E;intro a E
      have hx27 := dr_fld hx25 (fun _ _ _ h => k_api_Node_aw1 h)
      refine fr_val E rfl (wn rfl) rfl rfl (fun w hW => x_fa E rfl rfl (fa39_1 _ _)) ?_
      clear a E;intro a E
      refine fr_val E rfl (wn rfl) rfl rfl (fun w hW => x_ld E rfl rfl (ir_ld (DR.ir (dr_at hx27)) Tryd.underlying9 rfl w hW)) ?_
      clear a E;intro a E
      refine fr_val E rfl (wn rfl) rfl rfl (fun w hW => (x_lenStr E rfl rfl Tryd.underlying9)) ?_
      clear a E;intro a E
      refine fr_val E rfl (wn rfl) rfl rfl (fun w hW => (x_min (t := 0) E rfl rfl rfl)) ?_
      clear a E;intro a E
      refine fr_val E rfl (wn rfl) rfl rfl (fun w hW => (x_bin E rfl rfl rfl rfl)) ?_
      clear a E;intro a E
      refine fr_tail rfl ?_
      refine sv E rfl rfl rfl (x_assign E rfl rfl) ?_
      clear a E;intro a E
      refine wpList_nil ?_
      refine q_then ?_
      refine fr_nil ?_
      clear hI
      refine q_blk ?_
      refine q_then ?_
      refine wp_region_lit ?_
      refine sv E rfl rfl rfl (x_move E rfl rfl) ?_
      clear a E;intro a E
      refine sv E rfl rfl rfl (x_bin E rfl rfl rfl rfl) ?_
      clear a E;intro a E
      refine sv E rfl rfl rfl (x_assign E rfl rfl) ?_
      clear a E;intro a E
      refine wpList_nil ?_
      refine q_then ?_
      exact ⟨k1, Nat.lt_succ_self k1, IntKind.i64.wrap ((IntKind.i64.wrap (x7 + (min (x14.Path.size : Int) 5000))) + (min (x21.Data.size : Int) 5000)), IntKind.i64.wrap (x8 + 1), _, (((E.nil.keep E 4 rfl).keep E 3 rfl).keep E 0 rfl), H, fun r hr => .tail _ (hs10 r hr), (.tail _ hr11), hm⟩
     ·intro hb
      rw [if_f hb] at hm
      clear hb
      refine wp_exit ?_
      refine q_thenX ?_
      refine q_thenX ?_
      refine q_hit ?_
      refine q_then ?_
      exact ⟨x7, _, (E.nil.keep E 3 rfl), H, hs10, hm⟩
    ·rw [if_f hb12] at hm
     refine st_no E (wf' E rfl rfl rfl rfl hb12 rfl) rfl rfl ?_
     clear a E;intro a E
     refine st_no E (wf' E rfl rfl rfl rfl hb12 rfl) rfl rfl ?_
     clear a E;intro a E
     refine sv E rfl rfl rfl (x_pickF E rfl rfl hb12 rfl) ?_
     clear a E;intro a E
     refine wpList_nil ?_
     refine q_then ?_
     refine wp_cond_false (E.eval rfl) ?_
     refine wp_exit ?_
     refine q_thenX ?_
     refine q_thenX ?_
     refine q_hit ?_
     refine q_then ?_
     exact ⟨x7, _, (E.nil.keep E 3 rfl), H, hs10, hm⟩
 ·clear E H hm
  rintro a w ⟨x4, rs5, E, H, hs6, hm⟩
  unfold m_cantonlaw06_Great_j1 at hm
  refine wp_seq ?_
  refine wp_region_lit ?_
  refine sv E rfl rfl rfl (x_move E rfl rfl) ?_
  clear a E;intro a E
  refine sv E rfl rfl rfl (x_bin E rfl rfl rfl rfl) ?_
  clear a E;intro a E
  refine sv E rfl rfl rfl (x_assign E rfl rfl) ?_
  clear a E;intro a E
  refine wpList_nil ?_
  refine q_then ?_
  refine wp_ret ?_
  refine out1 E rfl rfl ?_
  obtain rfl := Option.some.inj hm
  exact ⟨rfl, H.reads (fun r hr => hs6 r hr)⟩
end Go.Cb

set_option linter.unusedVariables false
set_option linter.unusedSimpArgs false
namespace Go.Cb
open Go.Proofs Go.RowKit
def m_nodes_New : Option (List S_api_Node) :=
  some (([(⟨(ByteArray.mk #[47]), (ByteArray.mk #[]), 0, 0, 0⟩ : S_api_Node)] : List S_api_Node))
set_option maxRecDepth 20000 in
set_option maxHeartbeats 1000000 in
theorem c_nodes_New {w : World} {Fo : List Ob} {rs : List Rp} (H : Sep w (Fo) rs) {r : (List S_api_Node)} (hm : m_nodes_New = some r) :
    Calls Tryd.prog 24 [].toArray w (Ret fun v w' => ∃ (v5001 : Value), v5001 = v ∧ Sep w' (Row 39 k_api_Node v5001 r :: Fo) (rs)) := by
 unfold m_nodes_New at hm
 refine enter Tryd.func24 rfl Tryd.ntmps24 rfl fun a E => ?_
 simp only [enum, Nat.reduceAdd] at E
 refine wp_seq ?_
 refine wp_region_lit ?_
 refine sv E rfl rfl rfl (x_assign E rfl rfl) ?_
 clear a E;intro a E
 refine wpList_nil ?_
 refine q_then ?_
 refine wp_seq ?_
 refine wp_region_lit ?_
 refine sv E rfl rfl rfl (x_build E (ps := [(0, .const (.string (ByteArray.mk #[47])))]) (vs := [(0, .string (ByteArray.mk #[47]))]) rfl (by simp only [List.map]; rw [E.eval (x := .const (.string (ByteArray.mk #[47]))) (v := .string (ByteArray.mk #[47])) rfl]) (v := .agg #[.string (ByteArray.mk #[47]), .string (ByteArray.mk #[]), .int .i64 0, .int .i64 0, .int .i64 0]) (by kernel_rfl)) ?_
 clear a E;intro a E
 refine st_bsO (e := 39) (d := k_api_Node) (cs := [.string (ByteArray.mk #[47]), .string (ByteArray.mk #[]), .int .i64 0, .int .i64 0, .int .i64 0]) (xs := [(⟨(ByteArray.mk #[47]), (ByteArray.mk #[]), 0, 0, 0⟩ : S_api_Node)]) E H (wn rfl) rfl rfl (ps := [(0, .tmp 1)]) (parts := [(0, .agg #[.string (ByteArray.mk #[47]), .string (ByteArray.mk #[]), .int .i64 0, .int .i64 0, .int .i64 0])]) rfl (by simp only [List.map]; rw [E.eval (x := .tmp 1) (v := .agg #[.string (ByteArray.mk #[47]), .string (ByteArray.mk #[]), .int .i64 0, .int .i64 0, .int .i64 0]) rfl]) (by kernel_rfl) rfl rfl (fun ok hr => (Rows.single (d := k_api_Node) (cs := [.string (ByteArray.mk #[47]), .string (ByteArray.mk #[]), .int .i64 0, .int .i64 0, .int .i64 0]) (x := (⟨(ByteArray.mk #[47]), (ByteArray.mk #[]), 0, 0, 0⟩ : S_api_Node)) k_api_Node_mk)) ?_
 clear E H; clear a; clear w; intro v1 w a H E
 refine sv E rfl rfl rfl (x_assign E rfl rfl) ?_
 clear a E;intro a E
 refine wpList_nil ?_
 refine q_then ?_
 refine wp_ret ?_
 refine out1 E rfl rfl ?_
 obtain rfl := Option.some.inj hm
 exact ⟨v1, rfl, H.reads (fun r hr => hr)⟩
end Go.Cb

set_option linter.unusedVariables false
set_option linter.unusedSimpArgs false
namespace Go.Cb
open Go.Proofs Go.RowKit
def m_cantonlaw06_head : Option Bool :=
  m_nodes_New.bind fun u2 => (m_nodes_Apply u2 (⟨1, (ByteArray.mk #[47, 113]), (ByteArray.mk #[]), 0, 0, true⟩ : S_api_Op)).bind fun u5 => (m_nodes_Apply u5.1 (⟨3, (ByteArray.mk #[47, 113, 48, 48, 48, 48]), (ByteArray.mk #[120]), (-1), 0, false⟩ : S_api_Op)).bind fun u12 => (m_nodes_Apply u12.1 (⟨2, (ByteArray.mk #[47, 113, 48, 48, 48, 48]), (ByteArray.mk #[]), 0, 0, false⟩ : S_api_Op)).bind fun u19 => (m_nodes_Apply u12.1 (⟨6, (ByteArray.mk #[47]), (ByteArray.mk #[]), 0, 0, false⟩ : S_api_Op)).bind fun u26 => (m_nodes_Apply ([] : List S_api_Node) (⟨0, (ByteArray.mk #[]), (ByteArray.mk #[]), 0, 0, false⟩ : S_api_Op)).bind fun u33 => (m_nodes_Find u12.1 (ByteArray.mk #[47, 113, 48, 48, 48, 48])).bind fun u40 => if ((u2.length : Int) == 1) = true then (if (sEq u5.2.Path (ByteArray.mk #[47, 113, 48, 48, 48, 48])) = true then (if (u5.2.Err == 0) = true then (if ((u5.1.length : Int) == 2) = true then ((idx u5.1 0).bind fun x47 => if (x47.Turn == 1) = true then (if (u12.2.Version == 1) = true then (if (u19.2.Err == 63) = true then (if ((u26.2.Names.length : Int) == 1) = true then (if (u33.2.Err == 1) = true then (if u40.2 = true then (if (sEq u40.1.Data (ByteArray.mk #[120])) = true then ((m_nodes_Right u12.1).bind fun u57 => if u57 = true then ((m_nodes_May (⟨0, (ByteArray.mk #[]), (ByteArray.mk #[]), 0, 0, false⟩ : S_api_Op)).bind fun u60 => some (!u60)) else (some (false))) else (some (false))) else (some (false))) else (some (false))) else (some (false))) else (some (false))) else (some (false))) else (some (false))) else (some (false))) else (some (false))) else (some (false))) else (some (false))
set_option maxRecDepth 20000 in
set_option maxHeartbeats 1000000 in
theorem c_cantonlaw06_head {w : World} {Fo : List Ob} {rs : List Rp} (H : Sep w (Fo) rs) (hr1 : rTab Tryd.prog ∈ rs) {r : Bool} (hm : m_cantonlaw06_head = some r) :
    Calls Tryd.prog 10 [].toArray w (Ret fun v w' => .bool r = v ∧ Sep w' (Fo) (rs)) := by
 unfold m_cantonlaw06_head at hm
 refine enter Tryd.func10 rfl Tryd.ntmps10 rfl fun a E => ?_
 simp only [enum, Nat.reduceAdd] at E
 refine wp_seq ?_
 refine wp_region_lit ?_
 refine sv E rfl rfl rfl (x_assign E rfl rfl) ?_
 clear a E;intro a E
 refine wpList_nil ?_
 refine q_then ?_
 refine wp_seq ?_
 refine wp_region_lit ?_
 obtain ⟨u2, hx3, hm⟩ := bnd hm
 refine st_call E (wn rfl) rfl rfl (x_call E rfl rfl (cf24 _)) (c_nodes_New H hx3) ?_
 clear E H; clear a; clear w; rintro _ w ⟨v4, rfl, H⟩ a E
 refine sv E rfl rfl rfl (x_assign E rfl rfl) ?_
 clear a E;intro a E
 refine wpList_nil ?_
 refine q_then ?_
 refine wp_seq ?_
 refine wp_region_lit ?_
 refine sv E rfl rfl rfl (x_move E rfl rfl) ?_
 clear a E;intro a E
 refine sv E rfl rfl rfl (x_build E (ps := [(0, .const (.int .i64 1)), (1, .const (.string (ByteArray.mk #[47, 113]))), (5, .const (.bool true))]) (vs := [(0, .int .i64 1), (1, .string (ByteArray.mk #[47, 113])), (5, .bool true)]) rfl (by simp only [List.map]; rw [E.eval (x := .const (.int .i64 1)) (v := .int .i64 1) rfl, E.eval (x := .const (.string (ByteArray.mk #[47, 113]))) (v := .string (ByteArray.mk #[47, 113])) rfl, E.eval (x := .const (.bool true)) (v := .bool true) rfl]) (v := .agg #[.int .i64 1, .string (ByteArray.mk #[47, 113]), .string (ByteArray.mk #[]), .int .i64 0, .int .i64 0, .bool true]) (by kernel_rfl)) ?_
 clear a E;intro a E
 replace H := H.thaw (i := 0) rfl
 replace H : Sep w (Fo) (rSl k_api_Node v4 u2 :: rs) := H
 obtain ⟨u5, hx6, hm⟩ := bnd hm
 refine st_call E (wn rfl) rfl rfl (x_call E rfl rfl (cf14 _)) (c_nodes_Apply v4 u2 (⟨1, (ByteArray.mk #[47, 113]), (ByteArray.mk #[]), 0, 0, true⟩ : S_api_Op) H (.head _) (.tail _ hr1) hx6) ?_
 clear E H; clear a; clear w; rintro _ w ⟨v7, v8, rfl, H⟩ a E
 refine sv E rfl rfl rfl (x_move E rfl rfl) ?_
 clear a E;intro a E
 refine sv E rfl rfl rfl (x_ext E rfl rfl rfl) ?_
 clear a E;intro a E
 refine sv E rfl rfl rfl (x_ext E rfl rfl rfl) ?_
 clear a E;intro a E
 refine st_alloc E H (wn rfl) rfl rfl (cs := [.int .i64 0, .string (ByteArray.mk #[]), .string (ByteArray.mk #[]), .int .i64 0, .slice none 0 0]) rfl (z := .agg #[.int .i64 0, .string ⟨#[]⟩, .string ⟨#[]⟩, .int .i64 0, .slice none 0 0]) (by kernel_rfl) rfl ?_
 clear E H; clear a; clear w; intro p9 w a H E
 refine sv E rfl rfl rfl (x_assign E rfl rfl) ?_
 clear a E;intro a E
 obtain ⟨q10, x11, rfl⟩ := H.slform (.tail _ (.head _))
 refine st_st (i := 0) E H (wn rfl) rfl (us := [.int .i64 u5.2.Err, .string u5.2.Path, .string u5.2.Data, .int .i64 u5.2.Version, (.slice q10 u5.2.Names.length x11)]) rfl rfl rfl rfl rfl sz31 rfl rfl ?_
 clear H; clear w; intro w H
 replace H : Sep w (Blk p9 31 [.int .i64 u5.2.Err, .string u5.2.Path, .string u5.2.Data, .int .i64 u5.2.Version, (.slice q10 u5.2.Names.length x11)] :: Fo) _ := H
 refine wpList_nil ?_
 refine q_then ?_
 refine wp_seq ?_
 refine wp_region_lit ?_
 refine sv E rfl rfl rfl (x_move E rfl rfl) ?_
 clear a E;intro a E
 refine sv E rfl rfl rfl (x_build E (ps := [(0, .const (.int .i64 3)), (1, .const (.string (ByteArray.mk #[47, 113, 48, 48, 48, 48]))), (2, .const (.string (ByteArray.mk #[120]))), (3, .const (.int .i64 (-1)))]) (vs := [(0, .int .i64 3), (1, .string (ByteArray.mk #[47, 113, 48, 48, 48, 48])), (2, .string (ByteArray.mk #[120])), (3, .int .i64 (-1))]) rfl (by simp only [List.map]; rw [E.eval (x := .const (.int .i64 3)) (v := .int .i64 3) rfl, E.eval (x := .const (.string (ByteArray.mk #[47, 113, 48, 48, 48, 48]))) (v := .string (ByteArray.mk #[47, 113, 48, 48, 48, 48])) rfl, E.eval (x := .const (.string (ByteArray.mk #[120]))) (v := .string (ByteArray.mk #[120])) rfl, E.eval (x := .const (.int .i64 (-1))) (v := .int .i64 (-1)) rfl]) (v := .agg #[.int .i64 3, .string (ByteArray.mk #[47, 113, 48, 48, 48, 48]), .string (ByteArray.mk #[120]), .int .i64 (-1), .int .i64 0, .bool false]) (by kernel_rfl)) ?_
 clear a E;intro a E
 obtain ⟨u12, hx13, hm⟩ := bnd hm
 refine st_call E (wn rfl) rfl rfl (x_call E rfl rfl (cf14 _)) (c_nodes_Apply v7 u5.1 (⟨3, (ByteArray.mk #[47, 113, 48, 48, 48, 48]), (ByteArray.mk #[120]), (-1), 0, false⟩ : S_api_Op) H (.head _) (.tail _ (.tail _ (.tail _ hr1))) hx13) ?_
 clear E H; clear a; clear w; rintro _ w ⟨v14, v15, rfl, H⟩ a E
 refine sv E rfl rfl rfl (x_move E rfl rfl) ?_
 clear a E;intro a E
 refine sv E rfl rfl rfl (x_ext E rfl rfl rfl) ?_
 clear a E;intro a E
 refine sv E rfl rfl rfl (x_ext E rfl rfl rfl) ?_
 clear a E;intro a E
 refine st_alloc E H (wn rfl) rfl rfl (cs := [.int .i64 0, .string (ByteArray.mk #[]), .string (ByteArray.mk #[]), .int .i64 0, .slice none 0 0]) rfl (z := .agg #[.int .i64 0, .string ⟨#[]⟩, .string ⟨#[]⟩, .int .i64 0, .slice none 0 0]) (by kernel_rfl) rfl ?_
 clear E H; clear a; clear w; intro p16 w a H E
 refine sv E rfl rfl rfl (x_assign E rfl rfl) ?_
 clear a E;intro a E
 obtain ⟨q17, x18, rfl⟩ := H.slform (.tail _ (.head _))
 refine st_st (i := 0) E H (wn rfl) rfl (us := [.int .i64 u12.2.Err, .string u12.2.Path, .string u12.2.Data, .int .i64 u12.2.Version, (.slice q17 u12.2.Names.length x18)]) rfl rfl rfl rfl rfl sz31 rfl rfl ?_
 clear H; clear w; intro w H
 replace H : Sep w (Blk p16 31 [.int .i64 u12.2.Err, .string u12.2.Path, .string u12.2.Data, .int .i64 u12.2.Version, (.slice q17 u12.2.Names.length x18)] :: Blk p9 31 [.int .i64 u5.2.Err, .string u5.2.Path, .string u5.2.Data, .int .i64 u5.2.Version, (.slice q10 u5.2.Names.length x11)] :: Fo) _ := H
 refine wpList_nil ?_
 refine q_then ?_
 refine wp_seq ?_
 refine wp_region_lit ?_
 refine sv E rfl rfl rfl (x_move E rfl rfl) ?_
 clear a E;intro a E
 refine sv E rfl rfl rfl (x_build E (ps := [(0, .const (.int .i64 2)), (1, .const (.string (ByteArray.mk #[47, 113, 48, 48, 48, 48]))), (3, .const (.int .i64 0))]) (vs := [(0, .int .i64 2), (1, .string (ByteArray.mk #[47, 113, 48, 48, 48, 48])), (3, .int .i64 0)]) rfl (by simp only [List.map]; rw [E.eval (x := .const (.int .i64 2)) (v := .int .i64 2) rfl, E.eval (x := .const (.string (ByteArray.mk #[47, 113, 48, 48, 48, 48]))) (v := .string (ByteArray.mk #[47, 113, 48, 48, 48, 48])) rfl, E.eval (x := .const (.int .i64 0)) (v := .int .i64 0) rfl]) (v := .agg #[.int .i64 2, .string (ByteArray.mk #[47, 113, 48, 48, 48, 48]), .string (ByteArray.mk #[]), .int .i64 0, .int .i64 0, .bool false]) (by kernel_rfl)) ?_
 clear a E;intro a E
 obtain ⟨u19, hx20, hm⟩ := bnd hm
 refine st_call E (wn rfl) rfl rfl (x_call E rfl rfl (cf14 _)) (c_nodes_Apply v14 u12.1 (⟨2, (ByteArray.mk #[47, 113, 48, 48, 48, 48]), (ByteArray.mk #[]), 0, 0, false⟩ : S_api_Op) H (.head _) (.tail _ (.tail _ (.tail _ (.tail _ (.tail _ hr1))))) hx20) ?_
 clear E H; clear a; clear w; rintro _ w ⟨v21, v22, rfl, H⟩ a E
 refine sv E rfl rfl rfl (x_move E rfl rfl) ?_
 clear a E;intro a E
 refine sv E rfl rfl rfl (x_ext E rfl rfl rfl) ?_
 clear a E;intro a E
 refine sv E rfl rfl rfl (x_ext E rfl rfl rfl) ?_
 clear a E;intro a E
 refine st_alloc E H (wn rfl) rfl rfl (cs := [.int .i64 0, .string (ByteArray.mk #[]), .string (ByteArray.mk #[]), .int .i64 0, .slice none 0 0]) rfl (z := .agg #[.int .i64 0, .string ⟨#[]⟩, .string ⟨#[]⟩, .int .i64 0, .slice none 0 0]) (by kernel_rfl) rfl ?_
 clear E H; clear a; clear w; intro p23 w a H E
 refine sv E rfl rfl rfl (x_assign E rfl rfl) ?_
 clear a E;intro a E
 obtain ⟨q24, x25, rfl⟩ := H.slform (.tail _ (.head _))
 refine st_st (i := 0) E H (wn rfl) rfl (us := [.int .i64 u19.2.Err, .string u19.2.Path, .string u19.2.Data, .int .i64 u19.2.Version, (.slice q24 u19.2.Names.length x25)]) rfl rfl rfl rfl rfl sz31 rfl rfl ?_
 clear H; clear w; intro w H
 replace H : Sep w (Blk p23 31 [.int .i64 u19.2.Err, .string u19.2.Path, .string u19.2.Data, .int .i64 u19.2.Version, (.slice q24 u19.2.Names.length x25)] :: Blk p16 31 [.int .i64 u12.2.Err, .string u12.2.Path, .string u12.2.Data, .int .i64 u12.2.Version, (.slice q17 u12.2.Names.length x18)] :: Blk p9 31 [.int .i64 u5.2.Err, .string u5.2.Path, .string u5.2.Data, .int .i64 u5.2.Version, (.slice q10 u5.2.Names.length x11)] :: Fo) _ := H
 refine wpList_nil ?_
 refine q_then ?_
 refine wp_seq ?_
 refine wp_region_lit ?_
 refine sv E rfl rfl rfl (x_move E rfl rfl) ?_
 clear a E;intro a E
 refine sv E rfl rfl rfl (x_build E (ps := [(0, .const (.int .i64 6)), (1, .const (.string (ByteArray.mk #[47])))]) (vs := [(0, .int .i64 6), (1, .string (ByteArray.mk #[47]))]) rfl (by simp only [List.map]; rw [E.eval (x := .const (.int .i64 6)) (v := .int .i64 6) rfl, E.eval (x := .const (.string (ByteArray.mk #[47]))) (v := .string (ByteArray.mk #[47])) rfl]) (v := .agg #[.int .i64 6, .string (ByteArray.mk #[47]), .string (ByteArray.mk #[]), .int .i64 0, .int .i64 0, .bool false]) (by kernel_rfl)) ?_
 clear a E;intro a E
 obtain ⟨u26, hx27, hm⟩ := bnd hm
 refine st_call E (wn rfl) rfl rfl (x_call E rfl rfl (cf14 _)) (c_nodes_Apply v14 u12.1 (⟨6, (ByteArray.mk #[47]), (ByteArray.mk #[]), 0, 0, false⟩ : S_api_Op) H (.tail _ (.tail _ (.head _))) (.tail _ (.tail _ (.tail _ (.tail _ (.tail _ (.tail _ (.tail _ hr1))))))) hx27) ?_
 clear E H; clear a; clear w; rintro _ w ⟨v28, v29, rfl, H⟩ a E
 refine sv E rfl rfl rfl (x_move E rfl rfl) ?_
 clear a E;intro a E
 refine sv E rfl rfl rfl (x_ext E rfl rfl rfl) ?_
 clear a E;intro a E
 refine sv E rfl rfl rfl (x_ext E rfl rfl rfl) ?_
 clear a E;intro a E
 refine st_alloc E H (wn rfl) rfl rfl (cs := [.int .i64 0, .string (ByteArray.mk #[]), .string (ByteArray.mk #[]), .int .i64 0, .slice none 0 0]) rfl (z := .agg #[.int .i64 0, .string ⟨#[]⟩, .string ⟨#[]⟩, .int .i64 0, .slice none 0 0]) (by kernel_rfl) rfl ?_
 clear E H; clear a; clear w; intro p30 w a H E
 refine sv E rfl rfl rfl (x_assign E rfl rfl) ?_
 clear a E;intro a E
 obtain ⟨q31, x32, rfl⟩ := H.slform (.tail _ (.head _))
 refine st_st (i := 0) E H (wn rfl) rfl (us := [.int .i64 u26.2.Err, .string u26.2.Path, .string u26.2.Data, .int .i64 u26.2.Version, (.slice q31 u26.2.Names.length x32)]) rfl rfl rfl rfl rfl sz31 rfl rfl ?_
 clear H; clear w; intro w H
 replace H : Sep w (Blk p30 31 [.int .i64 u26.2.Err, .string u26.2.Path, .string u26.2.Data, .int .i64 u26.2.Version, (.slice q31 u26.2.Names.length x32)] :: Blk p23 31 [.int .i64 u19.2.Err, .string u19.2.Path, .string u19.2.Data, .int .i64 u19.2.Version, (.slice q24 u19.2.Names.length x25)] :: Blk p16 31 [.int .i64 u12.2.Err, .string u12.2.Path, .string u12.2.Data, .int .i64 u12.2.Version, (.slice q17 u12.2.Names.length x18)] :: Blk p9 31 [.int .i64 u5.2.Err, .string u5.2.Path, .string u5.2.Data, .int .i64 u5.2.Version, (.slice q10 u5.2.Names.length x11)] :: Fo) _ := H
 refine wpList_nil ?_
 refine q_then ?_
 refine wp_seq ?_
 refine wp_region_lit ?_
 refine sv E rfl rfl rfl (x_build E (ps := []) (vs := []) rfl rfl (v := .agg #[.int .i64 0, .string (ByteArray.mk #[]), .string (ByteArray.mk #[]), .int .i64 0, .int .i64 0, .bool false]) (by kernel_rfl)) ?_
 clear a E;intro a E
 replace H := H.nilSl k_api_Node
 replace H : Sep w (Blk p30 31 [.int .i64 u26.2.Err, .string u26.2.Path, .string u26.2.Data, .int .i64 u26.2.Version, (.slice q31 u26.2.Names.length x32)] :: Blk p23 31 [.int .i64 u19.2.Err, .string u19.2.Path, .string u19.2.Data, .int .i64 u19.2.Version, (.slice q24 u19.2.Names.length x25)] :: Blk p16 31 [.int .i64 u12.2.Err, .string u12.2.Path, .string u12.2.Data, .int .i64 u12.2.Version, (.slice q17 u12.2.Names.length x18)] :: Blk p9 31 [.int .i64 u5.2.Err, .string u5.2.Path, .string u5.2.Data, .int .i64 u5.2.Version, (.slice q10 u5.2.Names.length x11)] :: Fo) (rSl k_api_Node (.slice none 0 0) ([] : List S_api_Node) :: rSl k_api_Node v28 u26.1 :: rSl kS (.slice q31 u26.2.Names.length x32) u26.2.Names :: rSl k_api_Node v21 u19.1 :: rSl kS (.slice q24 u19.2.Names.length x25) u19.2.Names :: rSl k_api_Node v14 u12.1 :: rSl kS (.slice q17 u12.2.Names.length x18) u12.2.Names :: rSl k_api_Node v7 u5.1 :: rSl kS (.slice q10 u5.2.Names.length x11) u5.2.Names :: rSl k_api_Node v4 u2 :: rs) := H
 obtain ⟨u33, hx34, hm⟩ := bnd hm
 refine st_call E (wn rfl) rfl rfl (x_call E rfl rfl (cf14 _)) (c_nodes_Apply (.slice none 0 0) ([] : List S_api_Node) (⟨0, (ByteArray.mk #[]), (ByteArray.mk #[]), 0, 0, false⟩ : S_api_Op) H (.head _) (.tail _ (.tail _ (.tail _ (.tail _ (.tail _ (.tail _ (.tail _ (.tail _ (.tail _ (.tail _ hr1)))))))))) hx34) ?_
 clear E H; clear a; clear w; rintro _ w ⟨v35, v36, rfl, H⟩ a E
 refine sv E rfl rfl rfl (x_move E rfl rfl) ?_
 clear a E;intro a E
 refine sv E rfl rfl rfl (x_ext E rfl rfl rfl) ?_
 clear a E;intro a E
 refine sv E rfl rfl rfl (x_ext E rfl rfl rfl) ?_
 clear a E;intro a E
 refine st_alloc E H (wn rfl) rfl rfl (cs := [.int .i64 0, .string (ByteArray.mk #[]), .string (ByteArray.mk #[]), .int .i64 0, .slice none 0 0]) rfl (z := .agg #[.int .i64 0, .string ⟨#[]⟩, .string ⟨#[]⟩, .int .i64 0, .slice none 0 0]) (by kernel_rfl) rfl ?_
 clear E H; clear a; clear w; intro p37 w a H E
 refine sv E rfl rfl rfl (x_assign E rfl rfl) ?_
 clear a E;intro a E
 obtain ⟨q38, x39, rfl⟩ := H.slform (.tail _ (.head _))
 refine st_st (i := 0) E H (wn rfl) rfl (us := [.int .i64 u33.2.Err, .string u33.2.Path, .string u33.2.Data, .int .i64 u33.2.Version, (.slice q38 u33.2.Names.length x39)]) rfl rfl rfl rfl rfl sz31 rfl rfl ?_
 clear H; clear w; intro w H
 replace H : Sep w (Blk p37 31 [.int .i64 u33.2.Err, .string u33.2.Path, .string u33.2.Data, .int .i64 u33.2.Version, (.slice q38 u33.2.Names.length x39)] :: Blk p30 31 [.int .i64 u26.2.Err, .string u26.2.Path, .string u26.2.Data, .int .i64 u26.2.Version, (.slice q31 u26.2.Names.length x32)] :: Blk p23 31 [.int .i64 u19.2.Err, .string u19.2.Path, .string u19.2.Data, .int .i64 u19.2.Version, (.slice q24 u19.2.Names.length x25)] :: Blk p16 31 [.int .i64 u12.2.Err, .string u12.2.Path, .string u12.2.Data, .int .i64 u12.2.Version, (.slice q17 u12.2.Names.length x18)] :: Blk p9 31 [.int .i64 u5.2.Err, .string u5.2.Path, .string u5.2.Data, .int .i64 u5.2.Version, (.slice q10 u5.2.Names.length x11)] :: Fo) _ := H
 refine wpList_nil ?_
 refine q_then ?_
 refine wp_seq ?_
 refine wp_region_lit ?_
 refine sv E rfl rfl rfl (x_move E rfl rfl) ?_
 clear a E;intro a E
 obtain ⟨u40, hx41, hm⟩ := bnd hm
 refine st_call E (wn rfl) rfl rfl (x_call E rfl rfl (cf21 _)) (c_nodes_Find v14 u12.1 (ByteArray.mk #[47, 113, 48, 48, 48, 48]) H (.tail _ (.tail _ (.tail _ (.tail _ (.tail _ (.tail _ (.tail _ (.head _)))))))) hx41) ?_
 clear E H; clear a; clear w; rintro _ w ⟨rfl, H⟩ a E
 refine sv E rfl rfl rfl (x_move E rfl rfl) ?_
 clear a E;intro a E
 refine sv E rfl rfl rfl (x_ext E rfl rfl rfl) ?_
 clear a E;intro a E
 refine sv E rfl rfl rfl (x_ext E rfl rfl rfl) ?_
 clear a E;intro a E
 refine st_alloc E H (wn rfl) rfl rfl (cs := [.string (ByteArray.mk #[]), .string (ByteArray.mk #[]), .int .i64 0, .int .i64 0, .int .i64 0]) rfl (z := .agg #[.string ⟨#[]⟩, .string ⟨#[]⟩, .int .i64 0, .int .i64 0, .int .i64 0]) (by kernel_rfl) rfl ?_
 clear E H; clear a; clear w; intro p42 w a H E
 refine st_st (i := 0) E H (wn rfl) rfl (us := [.string u40.1.Path, .string u40.1.Data, .int .i64 u40.1.Version, .int .i64 u40.1.Turn, .int .i64 u40.1.Owner]) rfl rfl rfl rfl rfl sz39 rfl rfl ?_
 clear H; clear w; intro w H
 replace H : Sep w (Blk p42 39 [.string u40.1.Path, .string u40.1.Data, .int .i64 u40.1.Version, .int .i64 u40.1.Turn, .int .i64 u40.1.Owner] :: Blk p37 31 [.int .i64 u33.2.Err, .string u33.2.Path, .string u33.2.Data, .int .i64 u33.2.Version, (.slice q38 u33.2.Names.length x39)] :: Blk p30 31 [.int .i64 u26.2.Err, .string u26.2.Path, .string u26.2.Data, .int .i64 u26.2.Version, (.slice q31 u26.2.Names.length x32)] :: Blk p23 31 [.int .i64 u19.2.Err, .string u19.2.Path, .string u19.2.Data, .int .i64 u19.2.Version, (.slice q24 u19.2.Names.length x25)] :: Blk p16 31 [.int .i64 u12.2.Err, .string u12.2.Path, .string u12.2.Data, .int .i64 u12.2.Version, (.slice q17 u12.2.Names.length x18)] :: Blk p9 31 [.int .i64 u5.2.Err, .string u5.2.Path, .string u5.2.Data, .int .i64 u5.2.Version, (.slice q10 u5.2.Names.length x11)] :: Fo) _ := H
 refine sv E rfl rfl rfl (x_assign E rfl rfl) ?_
 clear a E;intro a E
 refine wpList_nil ?_
 refine q_then ?_
 refine wp_seq ?_
 refine wp_region_lit ?_
 refine sv E rfl rfl rfl (x_move E rfl rfl) ?_
 clear a E;intro a E
 refine sv E rfl rfl rfl (x_lenS E H rfl rfl (.tail _ (.tail _ (.tail _ (.tail _ (.tail _ (.tail _ (.tail _ (.tail _ (.tail _ (.tail _ (.tail _ (.head _)))))))))))) Tryd.underlying22) ?_
 clear a E;intro a E
 refine sv E rfl rfl rfl (x_bin E rfl rfl rfl rfl) ?_
 clear a E;intro a E
 refine sv E rfl rfl rfl (x_move E rfl rfl) ?_
 clear a E;intro a E
 rcases Bool.eq_false_or_eq_true ((u2.length : Int) == 1) with hb43 | hb43
 ·rw [if_t hb43] at hm
  refine st_val E (ws' E rfl rfl rfl rfl hb43) rfl rfl (x_fa E rfl rfl (v := .pointer (some ⟨p9, 1, none⟩)) (fa31_1 _ _)) ?_
  clear a E;intro a E
  refine st_val E (ws' E rfl rfl rfl rfl hb43) rfl rfl (x_ldB (i := 5) E H rfl rfl rfl rfl Tryd.underlying9 rfl) ?_
  clear a E;intro a E
  refine st_val E (ws' E rfl rfl rfl rfl hb43) rfl rfl (x_str E rfl rfl rfl rfl) ?_
  clear a E;intro a E
  refine sv E rfl rfl rfl (x_pickT E rfl rfl hb43 rfl) ?_
  clear a E;intro a E
  refine sv E rfl rfl rfl (x_move E rfl rfl) ?_
  clear a E;intro a E
  rcases Bool.eq_false_or_eq_true (sEq u5.2.Path (ByteArray.mk #[47, 113, 48, 48, 48, 48])) with hb44 | hb44
  ·rw [if_t hb44] at hm
   refine st_val E (ws' E rfl rfl rfl rfl hb44) rfl rfl (x_fa E rfl rfl (v := .pointer (some ⟨p9, 0, none⟩)) (fa31_0 _ _)) ?_
   clear a E;intro a E
   refine st_val E (ws' E rfl rfl rfl rfl hb44) rfl rfl (x_ldB (i := 5) E H rfl rfl rfl rfl Tryd.underlying28 rfl) ?_
   clear a E;intro a E
   refine st_val E (ws' E rfl rfl rfl rfl hb44) rfl rfl (x_bin E rfl rfl rfl rfl) ?_
   clear a E;intro a E
   refine sv E rfl rfl rfl (x_pickT E rfl rfl hb44 rfl) ?_
   clear a E;intro a E
   refine sv E rfl rfl rfl (x_move E rfl rfl) ?_
   clear a E;intro a E
   rcases Bool.eq_false_or_eq_true (u5.2.Err == 0) with hb45 | hb45
   ·rw [if_t hb45] at hm
    refine st_val E (ws' E rfl rfl rfl rfl hb45) rfl rfl (x_move E rfl rfl) ?_
    clear a E;intro a E
    refine st_val E (ws' E rfl rfl rfl rfl hb45) rfl rfl (x_lenS E H rfl rfl (.tail _ (.tail _ (.tail _ (.tail _ (.tail _ (.tail _ (.tail _ (.tail _ (.tail _ (.head _)))))))))) Tryd.underlying22) ?_
    clear a E;intro a E
    refine st_val E (ws' E rfl rfl rfl rfl hb45) rfl rfl (x_bin E rfl rfl rfl rfl) ?_
    clear a E;intro a E
    refine sv E rfl rfl rfl (x_pickT E rfl rfl hb45 rfl) ?_
    clear a E;intro a E
    refine sv E rfl rfl rfl (x_move E rfl rfl) ?_
    clear a E;intro a E
    rcases Bool.eq_false_or_eq_true ((u5.1.length : Int) == 2) with hb46 | hb46
    ·rw [if_t hb46] at hm
     refine st_val E (ws' E rfl rfl rfl rfl hb46) rfl rfl (x_move E rfl rfl) ?_
     clear a E;intro a E
     obtain ⟨x47, hx48, hm⟩ := bnd hm
     refine st_ixS E H (ws' E rfl rfl rfl rfl hb46) rfl rfl rfl rfl rfl (.tail _ (.tail _ (.tail _ (.tail _ (.tail _ (.tail _ (.tail _ (.tail _ (.tail _ (.head _)))))))))) Tryd.underlying22 sz39 hx48 ?_
     clear E H; clear a; intro q49 a H E
     replace H := H.derive1 (.head _) (rAt (kI .i64) (q49.add 3) x47.Turn) (fun ok h => k_api_Node_at3 h)
     refine st_val E (ws' E rfl rfl rfl rfl hb46) rfl rfl (x_fa E rfl rfl (fa39_3 _ _)) ?_
     clear a E;intro a E
     refine st_val E (ws' E rfl rfl rfl rfl hb46) rfl rfl (x_ldA E H rfl rfl (.head _) Tryd.underlying2 rfl) ?_
     clear a E;intro a E
     refine st_val E (ws' E rfl rfl rfl rfl hb46) rfl rfl (x_bin E rfl rfl rfl rfl) ?_
     clear a E;intro a E
     refine sv E rfl rfl rfl (x_pickT E rfl rfl hb46 rfl) ?_
     clear a E;intro a E
     refine sv E rfl rfl rfl (x_move E rfl rfl) ?_
     clear a E;intro a E
     rcases Bool.eq_false_or_eq_true (x47.Turn == 1) with hb50 | hb50
     ·rw [if_t hb50] at hm
      refine st_val E (ws' E rfl rfl rfl rfl hb50) rfl rfl (x_fa E rfl rfl (v := .pointer (some ⟨p16, 3, none⟩)) (fa31_3 _ _)) ?_
      clear a E;intro a E
      refine st_val E (ws' E rfl rfl rfl rfl hb50) rfl rfl (x_ldB (i := 4) E H rfl rfl rfl rfl Tryd.underlying2 rfl) ?_
      clear a E;intro a E
      refine st_val E (ws' E rfl rfl rfl rfl hb50) rfl rfl (x_bin E rfl rfl rfl rfl) ?_
      clear a E;intro a E
      refine sv E rfl rfl rfl (x_pickT E rfl rfl hb50 rfl) ?_
      clear a E;intro a E
      refine sv E rfl rfl rfl (x_move E rfl rfl) ?_
      clear a E;intro a E
      rcases Bool.eq_false_or_eq_true (u12.2.Version == 1) with hb51 | hb51
      ·rw [if_t hb51] at hm
       refine st_val E (ws' E rfl rfl rfl rfl hb51) rfl rfl (x_fa E rfl rfl (v := .pointer (some ⟨p23, 0, none⟩)) (fa31_0 _ _)) ?_
       clear a E;intro a E
       refine st_val E (ws' E rfl rfl rfl rfl hb51) rfl rfl (x_ldB (i := 3) E H rfl rfl rfl rfl Tryd.underlying28 rfl) ?_
       clear a E;intro a E
       refine st_val E (ws' E rfl rfl rfl rfl hb51) rfl rfl (x_bin E rfl rfl rfl rfl) ?_
       clear a E;intro a E
       refine sv E rfl rfl rfl (x_pickT E rfl rfl hb51 rfl) ?_
       clear a E;intro a E
       refine sv E rfl rfl rfl (x_move E rfl rfl) ?_
       clear a E;intro a E
       rcases Bool.eq_false_or_eq_true (u19.2.Err == 63) with hb52 | hb52
       ·rw [if_t hb52] at hm
        refine st_val E (ws' E rfl rfl rfl rfl hb52) rfl rfl (x_fa E rfl rfl (v := .pointer (some ⟨p30, 4, none⟩)) (fa31_4 _ _)) ?_
        clear a E;intro a E
        refine st_val E (ws' E rfl rfl rfl rfl hb52) rfl rfl (x_ldB (i := 2) E H rfl rfl rfl rfl Tryd.underlying29 rfl) ?_
        clear a E;intro a E
        refine st_val E (ws' E rfl rfl rfl rfl hb52) rfl rfl (x_lenS E H rfl rfl (.tail _ (.tail _ (.tail _ (.tail _ (.tail _ (.tail _ (.head _))))))) Tryd.underlying29) ?_
        clear a E;intro a E
        refine st_val E (ws' E rfl rfl rfl rfl hb52) rfl rfl (x_bin E rfl rfl rfl rfl) ?_
        clear a E;intro a E
        refine sv E rfl rfl rfl (x_pickT E rfl rfl hb52 rfl) ?_
        clear a E;intro a E
        refine sv E rfl rfl rfl (x_move E rfl rfl) ?_
        clear a E;intro a E
        rcases Bool.eq_false_or_eq_true ((u26.2.Names.length : Int) == 1) with hb53 | hb53
        ·rw [if_t hb53] at hm
         refine st_val E (ws' E rfl rfl rfl rfl hb53) rfl rfl (x_fa E rfl rfl (v := .pointer (some ⟨p37, 0, none⟩)) (fa31_0 _ _)) ?_
         clear a E;intro a E
         refine st_val E (ws' E rfl rfl rfl rfl hb53) rfl rfl (x_ldB (i := 1) E H rfl rfl rfl rfl Tryd.underlying28 rfl) ?_
         clear a E;intro a E
         refine st_val E (ws' E rfl rfl rfl rfl hb53) rfl rfl (x_bin E rfl rfl rfl rfl) ?_
         clear a E;intro a E
         refine sv E rfl rfl rfl (x_pickT E rfl rfl hb53 rfl) ?_
         clear a E;intro a E
         refine sv E rfl rfl rfl (x_move E rfl rfl) ?_
         clear a E;intro a E
         rcases Bool.eq_false_or_eq_true (u33.2.Err == 1) with hb54 | hb54
         ·rw [if_t hb54] at hm
          refine st_val E (ws' E rfl rfl rfl rfl hb54) rfl rfl (x_move E rfl rfl) ?_
          clear a E;intro a E
          refine sv E rfl rfl rfl (x_pickT E rfl rfl hb54 rfl) ?_
          clear a E;intro a E
          refine sv E rfl rfl rfl (x_move E rfl rfl) ?_
          clear a E;intro a E
          rcases Bool.eq_false_or_eq_true u40.2 with hb55 | hb55
          ·rw [if_t hb55] at hm
           refine st_val E (ws' E rfl rfl rfl rfl hb55) rfl rfl (x_fa E rfl rfl (v := .pointer (some ⟨p42, 1, none⟩)) (fa39_1 _ _)) ?_
           clear a E;intro a E
           refine st_val E (ws' E rfl rfl rfl rfl hb55) rfl rfl (x_ldB (i := 0) E H rfl rfl rfl rfl Tryd.underlying9 rfl) ?_
           clear a E;intro a E
           refine st_val E (ws' E rfl rfl rfl rfl hb55) rfl rfl (x_str E rfl rfl rfl rfl) ?_
           clear a E;intro a E
           refine sv E rfl rfl rfl (x_pickT E rfl rfl hb55 rfl) ?_
           clear a E;intro a E
           refine sv E rfl rfl rfl (x_move E rfl rfl) ?_
           clear a E;intro a E
           rcases Bool.eq_false_or_eq_true (sEq u40.1.Data (ByteArray.mk #[120])) with hb56 | hb56
           ·rw [if_t hb56] at hm
            refine st_val E (ws' E rfl rfl rfl rfl hb56) rfl rfl (x_move E rfl rfl) ?_
            clear a E;intro a E
            obtain ⟨u57, hx58, hm⟩ := bnd hm
            refine st_call E (ws' E rfl rfl rfl rfl hb56) rfl rfl (x_call E rfl rfl (cf25 _)) (c_nodes_Right v14 u12.1 H (.tail _ (.tail _ (.tail _ (.tail _ (.tail _ (.tail _ (.tail _ (.tail _ (.tail _ (.head _)))))))))) hx58) ?_
            clear E H; clear a; clear w; rintro _ w ⟨rfl, H⟩ a E
            refine sv E rfl rfl rfl (x_pickT E rfl rfl hb56 rfl) ?_
            clear a E;intro a E
            refine sv E rfl rfl rfl (x_move E rfl rfl) ?_
            clear a E;intro a E
            rcases Bool.eq_false_or_eq_true u57 with hb59 | hb59
            ·rw [if_t hb59] at hm
             refine st_val E (ws' E rfl rfl rfl rfl hb59) rfl rfl (x_build E (ps := []) (vs := []) rfl rfl (v := .agg #[.int .i64 0, .string (ByteArray.mk #[]), .string (ByteArray.mk #[]), .int .i64 0, .int .i64 0, .bool false]) (by kernel_rfl)) ?_
             clear a E;intro a E
             obtain ⟨u60, hx61, hm⟩ := bnd hm
             refine st_call E (ws' E rfl rfl rfl rfl hb59) rfl rfl (x_call E rfl rfl (cf26 _)) (c_nodes_May (⟨0, (ByteArray.mk #[]), (ByteArray.mk #[]), 0, 0, false⟩ : S_api_Op) H hx61) ?_
             clear E H; clear a; clear w; rintro _ w ⟨rfl, H⟩ a E
             refine st_val E (ws' E rfl rfl rfl rfl hb59) rfl rfl (x_not E rfl rfl) ?_
             clear a E;intro a E
             refine sv E rfl rfl rfl (x_pickT E rfl rfl hb59 rfl) ?_
             clear a E;intro a E
             refine sv E rfl rfl rfl (x_assign E rfl rfl) ?_
             clear a E;intro a E
             refine wpList_nil ?_
             refine q_then ?_
             refine wp_ret ?_
             refine out1 E rfl rfl ?_
             replace H := H.drop 0
             replace H := H.drop 0
             replace H := H.drop 0
             replace H := H.drop 0
             replace H := H.drop 0
             replace H := H.drop 0
             obtain rfl := Option.some.inj hm
             exact ⟨rfl, H.reads (fun r hr => .tail _ (.tail _ (.tail _ (.tail _ (.tail _ (.tail _ (.tail _ (.tail _ (.tail _ (.tail _ (.tail _ (.tail _ (.tail _ (.tail _ (hr)))))))))))))))⟩
            ·rw [if_f hb59] at hm
             refine st_no E (wf' E rfl rfl rfl rfl hb59 rfl) rfl rfl ?_
             clear a E;intro a E
             refine st_no E (wf' E rfl rfl rfl rfl hb59 rfl) rfl rfl ?_
             clear a E;intro a E
             refine st_no E (wf' E rfl rfl rfl rfl hb59 rfl) rfl rfl ?_
             clear a E;intro a E
             refine sv E rfl rfl rfl (x_pickF E rfl rfl hb59 rfl) ?_
             clear a E;intro a E
             refine sv E rfl rfl rfl (x_assign E rfl rfl) ?_
             clear a E;intro a E
             refine wpList_nil ?_
             refine q_then ?_
             refine wp_ret ?_
             refine out1 E rfl rfl ?_
             replace H := H.drop 0
             replace H := H.drop 0
             replace H := H.drop 0
             replace H := H.drop 0
             replace H := H.drop 0
             replace H := H.drop 0
             obtain rfl := Option.some.inj hm
             exact ⟨rfl, H.reads (fun r hr => .tail _ (.tail _ (.tail _ (.tail _ (.tail _ (.tail _ (.tail _ (.tail _ (.tail _ (.tail _ (.tail _ (.tail _ (.tail _ (.tail _ (hr)))))))))))))))⟩
           ·rw [if_f hb56] at hm
            refine st_no E (wf' E rfl rfl rfl rfl hb56 rfl) rfl rfl ?_
            clear a E;intro a E
            refine st_no E (wf' E rfl rfl rfl rfl hb56 rfl) rfl rfl ?_
            clear a E;intro a E
            refine sv E rfl rfl rfl (x_pickF E rfl rfl hb56 rfl) ?_
            clear a E;intro a E
            refine sv E rfl rfl rfl (x_move E rfl rfl) ?_
            clear a E;intro a E
            refine st_no E (wf E rfl rfl rfl rfl rfl) rfl rfl ?_
            clear a E;intro a E
            refine st_no E (wf E rfl rfl rfl rfl rfl) rfl rfl ?_
            clear a E;intro a E
            refine st_no E (wf E rfl rfl rfl rfl rfl) rfl rfl ?_
            clear a E;intro a E
            refine sv E rfl rfl rfl (x_pickF E rfl rfl rfl rfl) ?_
            clear a E;intro a E
            refine sv E rfl rfl rfl (x_assign E rfl rfl) ?_
            clear a E;intro a E
            refine wpList_nil ?_
            refine q_then ?_
            refine wp_ret ?_
            refine out1 E rfl rfl ?_
            replace H := H.drop 0
            replace H := H.drop 0
            replace H := H.drop 0
            replace H := H.drop 0
            replace H := H.drop 0
            replace H := H.drop 0
            obtain rfl := Option.some.inj hm
            exact ⟨rfl, H.reads (fun r hr => .tail _ (.tail _ (.tail _ (.tail _ (.tail _ (.tail _ (.tail _ (.tail _ (.tail _ (.tail _ (.tail _ (.tail _ (.tail _ (.tail _ (hr)))))))))))))))⟩
          ·rw [if_f hb55] at hm
           refine st_no E (wf' E rfl rfl rfl rfl hb55 rfl) rfl rfl ?_
           clear a E;intro a E
           refine st_no E (wf' E rfl rfl rfl rfl hb55 rfl) rfl rfl ?_
           clear a E;intro a E
           refine st_no E (wf' E rfl rfl rfl rfl hb55 rfl) rfl rfl ?_
           clear a E;intro a E
           refine sv E rfl rfl rfl (x_pickF E rfl rfl hb55 rfl) ?_
           clear a E;intro a E
           refine sv E rfl rfl rfl (x_move E rfl rfl) ?_
           clear a E;intro a E
           refine st_no E (wf E rfl rfl rfl rfl rfl) rfl rfl ?_
           clear a E;intro a E
           refine st_no E (wf E rfl rfl rfl rfl rfl) rfl rfl ?_
           clear a E;intro a E
           refine sv E rfl rfl rfl (x_pickF E rfl rfl rfl rfl) ?_
           clear a E;intro a E
           refine sv E rfl rfl rfl (x_move E rfl rfl) ?_
           clear a E;intro a E
           refine st_no E (wf E rfl rfl rfl rfl rfl) rfl rfl ?_
           clear a E;intro a E
           refine st_no E (wf E rfl rfl rfl rfl rfl) rfl rfl ?_
           clear a E;intro a E
           refine st_no E (wf E rfl rfl rfl rfl rfl) rfl rfl ?_
           clear a E;intro a E
           refine sv E rfl rfl rfl (x_pickF E rfl rfl rfl rfl) ?_
           clear a E;intro a E
           refine sv E rfl rfl rfl (x_assign E rfl rfl) ?_
           clear a E;intro a E
           refine wpList_nil ?_
           refine q_then ?_
           refine wp_ret ?_
           refine out1 E rfl rfl ?_
           replace H := H.drop 0
           replace H := H.drop 0
           replace H := H.drop 0
           replace H := H.drop 0
           replace H := H.drop 0
           replace H := H.drop 0
           obtain rfl := Option.some.inj hm
           exact ⟨rfl, H.reads (fun r hr => .tail _ (.tail _ (.tail _ (.tail _ (.tail _ (.tail _ (.tail _ (.tail _ (.tail _ (.tail _ (.tail _ (.tail _ (.tail _ (.tail _ (hr)))))))))))))))⟩
         ·rw [if_f hb54] at hm
          refine st_no E (wf' E rfl rfl rfl rfl hb54 rfl) rfl rfl ?_
          clear a E;intro a E
          refine sv E rfl rfl rfl (x_pickF E rfl rfl hb54 rfl) ?_
          clear a E;intro a E
          refine sv E rfl rfl rfl (x_move E rfl rfl) ?_
          clear a E;intro a E
          refine st_no E (wf E rfl rfl rfl rfl rfl) rfl rfl ?_
          clear a E;intro a E
          refine st_no E (wf E rfl rfl rfl rfl rfl) rfl rfl ?_
          clear a E;intro a E
          refine st_no E (wf E rfl rfl rfl rfl rfl) rfl rfl ?_
          clear a E;intro a E
          refine sv E rfl rfl rfl (x_pickF E rfl rfl rfl rfl) ?_
          clear a E;intro a E
          refine sv E rfl rfl rfl (x_move E rfl rfl) ?_
          clear a E;intro a E
          refine st_no E (wf E rfl rfl rfl rfl rfl) rfl rfl ?_
          clear a E;intro a E
          refine st_no E (wf E rfl rfl rfl rfl rfl) rfl rfl ?_
          clear a E;intro a E
          refine sv E rfl rfl rfl (x_pickF E rfl rfl rfl rfl) ?_
          clear a E;intro a E
          refine sv E rfl rfl rfl (x_move E rfl rfl) ?_
          clear a E;intro a E
          refine st_no E (wf E rfl rfl rfl rfl rfl) rfl rfl ?_
          clear a E;intro a E
          refine st_no E (wf E rfl rfl rfl rfl rfl) rfl rfl ?_
          clear a E;intro a E
          refine st_no E (wf E rfl rfl rfl rfl rfl) rfl rfl ?_
          clear a E;intro a E
          refine sv E rfl rfl rfl (x_pickF E rfl rfl rfl rfl) ?_
          clear a E;intro a E
          refine sv E rfl rfl rfl (x_assign E rfl rfl) ?_
          clear a E;intro a E
          refine wpList_nil ?_
          refine q_then ?_
          refine wp_ret ?_
          refine out1 E rfl rfl ?_
          replace H := H.drop 0
          replace H := H.drop 0
          replace H := H.drop 0
          replace H := H.drop 0
          replace H := H.drop 0
          replace H := H.drop 0
          obtain rfl := Option.some.inj hm
          exact ⟨rfl, H.reads (fun r hr => .tail _ (.tail _ (.tail _ (.tail _ (.tail _ (.tail _ (.tail _ (.tail _ (.tail _ (.tail _ (.tail _ (.tail _ (.tail _ (.tail _ (hr)))))))))))))))⟩
        ·rw [if_f hb53] at hm
         refine st_no E (wf' E rfl rfl rfl rfl hb53 rfl) rfl rfl ?_
         clear a E;intro a E
         refine st_no E (wf' E rfl rfl rfl rfl hb53 rfl) rfl rfl ?_
         clear a E;intro a E
         refine st_no E (wf' E rfl rfl rfl rfl hb53 rfl) rfl rfl ?_
         clear a E;intro a E
         refine sv E rfl rfl rfl (x_pickF E rfl rfl hb53 rfl) ?_
         clear a E;intro a E
         refine sv E rfl rfl rfl (x_move E rfl rfl) ?_
         clear a E;intro a E
         refine st_no E (wf E rfl rfl rfl rfl rfl) rfl rfl ?_
         clear a E;intro a E
         refine sv E rfl rfl rfl (x_pickF E rfl rfl rfl rfl) ?_
         clear a E;intro a E
         refine sv E rfl rfl rfl (x_move E rfl rfl) ?_
         clear a E;intro a E
         refine st_no E (wf E rfl rfl rfl rfl rfl) rfl rfl ?_
         clear a E;intro a E
         refine st_no E (wf E rfl rfl rfl rfl rfl) rfl rfl ?_
         clear a E;intro a E
         refine st_no E (wf E rfl rfl rfl rfl rfl) rfl rfl ?_
         clear a E;intro a E
         refine sv E rfl rfl rfl (x_pickF E rfl rfl rfl rfl) ?_
         clear a E;intro a E
         refine sv E rfl rfl rfl (x_move E rfl rfl) ?_
         clear a E;intro a E
         refine st_no E (wf E rfl rfl rfl rfl rfl) rfl rfl ?_
         clear a E;intro a E
         refine st_no E (wf E rfl rfl rfl rfl rfl) rfl rfl ?_
         clear a E;intro a E
         refine sv E rfl rfl rfl (x_pickF E rfl rfl rfl rfl) ?_
         clear a E;intro a E
         refine sv E rfl rfl rfl (x_move E rfl rfl) ?_
         clear a E;intro a E
         refine st_no E (wf E rfl rfl rfl rfl rfl) rfl rfl ?_
         clear a E;intro a E
         refine st_no E (wf E rfl rfl rfl rfl rfl) rfl rfl ?_
         clear a E;intro a E
         refine st_no E (wf E rfl rfl rfl rfl rfl) rfl rfl ?_
         clear a E;intro a E
         refine sv E rfl rfl rfl (x_pickF E rfl rfl rfl rfl) ?_
         clear a E;intro a E
         refine sv E rfl rfl rfl (x_assign E rfl rfl) ?_
         clear a E;intro a E
         refine wpList_nil ?_
         refine q_then ?_
         refine wp_ret ?_
         refine out1 E rfl rfl ?_
         replace H := H.drop 0
         replace H := H.drop 0
         replace H := H.drop 0
         replace H := H.drop 0
         replace H := H.drop 0
         replace H := H.drop 0
         obtain rfl := Option.some.inj hm
         exact ⟨rfl, H.reads (fun r hr => .tail _ (.tail _ (.tail _ (.tail _ (.tail _ (.tail _ (.tail _ (.tail _ (.tail _ (.tail _ (.tail _ (.tail _ (.tail _ (.tail _ (hr)))))))))))))))⟩
       ·rw [if_f hb52] at hm
        refine st_no E (wf' E rfl rfl rfl rfl hb52 rfl) rfl rfl ?_
        clear a E;intro a E
        refine st_no E (wf' E rfl rfl rfl rfl hb52 rfl) rfl rfl ?_
        clear a E;intro a E
        refine st_no E (wf' E rfl rfl rfl rfl hb52 rfl) rfl rfl ?_
        clear a E;intro a E
        refine st_no E (wf' E rfl rfl rfl rfl hb52 rfl) rfl rfl ?_
        clear a E;intro a E
        refine sv E rfl rfl rfl (x_pickF E rfl rfl hb52 rfl) ?_
        clear a E;intro a E
        refine sv E rfl rfl rfl (x_move E rfl rfl) ?_
        clear a E;intro a E
        refine st_no E (wf E rfl rfl rfl rfl rfl) rfl rfl ?_
        clear a E;intro a E
        refine st_no E (wf E rfl rfl rfl rfl rfl) rfl rfl ?_
        clear a E;intro a E
        refine st_no E (wf E rfl rfl rfl rfl rfl) rfl rfl ?_
        clear a E;intro a E
        refine sv E rfl rfl rfl (x_pickF E rfl rfl rfl rfl) ?_
        clear a E;intro a E
        refine sv E rfl rfl rfl (x_move E rfl rfl) ?_
        clear a E;intro a E
        refine st_no E (wf E rfl rfl rfl rfl rfl) rfl rfl ?_
        clear a E;intro a E
        refine sv E rfl rfl rfl (x_pickF E rfl rfl rfl rfl) ?_
        clear a E;intro a E
        refine sv E rfl rfl rfl (x_move E rfl rfl) ?_
        clear a E;intro a E
        refine st_no E (wf E rfl rfl rfl rfl rfl) rfl rfl ?_
        clear a E;intro a E
        refine st_no E (wf E rfl rfl rfl rfl rfl) rfl rfl ?_
        clear a E;intro a E
        refine st_no E (wf E rfl rfl rfl rfl rfl) rfl rfl ?_
        clear a E;intro a E
        refine sv E rfl rfl rfl (x_pickF E rfl rfl rfl rfl) ?_
        clear a E;intro a E
        refine sv E rfl rfl rfl (x_move E rfl rfl) ?_
        clear a E;intro a E
        refine st_no E (wf E rfl rfl rfl rfl rfl) rfl rfl ?_
        clear a E;intro a E
        refine st_no E (wf E rfl rfl rfl rfl rfl) rfl rfl ?_
        clear a E;intro a E
        refine sv E rfl rfl rfl (x_pickF E rfl rfl rfl rfl) ?_
        clear a E;intro a E
        refine sv E rfl rfl rfl (x_move E rfl rfl) ?_
        clear a E;intro a E
        refine st_no E (wf E rfl rfl rfl rfl rfl) rfl rfl ?_
        clear a E;intro a E
        refine st_no E (wf E rfl rfl rfl rfl rfl) rfl rfl ?_
        clear a E;intro a E
        refine st_no E (wf E rfl rfl rfl rfl rfl) rfl rfl ?_
        clear a E;intro a E
        refine sv E rfl rfl rfl (x_pickF E rfl rfl rfl rfl) ?_
        clear a E;intro a E
        refine sv E rfl rfl rfl (x_assign E rfl rfl) ?_
        clear a E;intro a E
        refine wpList_nil ?_
        refine q_then ?_
        refine wp_ret ?_
        refine out1 E rfl rfl ?_
        replace H := H.drop 0
        replace H := H.drop 0
        replace H := H.drop 0
        replace H := H.drop 0
        replace H := H.drop 0
        replace H := H.drop 0
        obtain rfl := Option.some.inj hm
        exact ⟨rfl, H.reads (fun r hr => .tail _ (.tail _ (.tail _ (.tail _ (.tail _ (.tail _ (.tail _ (.tail _ (.tail _ (.tail _ (.tail _ (.tail _ (.tail _ (.tail _ (hr)))))))))))))))⟩
      ·rw [if_f hb51] at hm
       refine st_no E (wf' E rfl rfl rfl rfl hb51 rfl) rfl rfl ?_
       clear a E;intro a E
       refine st_no E (wf' E rfl rfl rfl rfl hb51 rfl) rfl rfl ?_
       clear a E;intro a E
       refine st_no E (wf' E rfl rfl rfl rfl hb51 rfl) rfl rfl ?_
       clear a E;intro a E
       refine sv E rfl rfl rfl (x_pickF E rfl rfl hb51 rfl) ?_
       clear a E;intro a E
       refine sv E rfl rfl rfl (x_move E rfl rfl) ?_
       clear a E;intro a E
       refine st_no E (wf E rfl rfl rfl rfl rfl) rfl rfl ?_
       clear a E;intro a E
       refine st_no E (wf E rfl rfl rfl rfl rfl) rfl rfl ?_
       clear a E;intro a E
       refine st_no E (wf E rfl rfl rfl rfl rfl) rfl rfl ?_
       clear a E;intro a E
       refine st_no E (wf E rfl rfl rfl rfl rfl) rfl rfl ?_
       clear a E;intro a E
       refine sv E rfl rfl rfl (x_pickF E rfl rfl rfl rfl) ?_
       clear a E;intro a E
       refine sv E rfl rfl rfl (x_move E rfl rfl) ?_
       clear a E;intro a E
       refine st_no E (wf E rfl rfl rfl rfl rfl) rfl rfl ?_
       clear a E;intro a E
       refine st_no E (wf E rfl rfl rfl rfl rfl) rfl rfl ?_
       clear a E;intro a E
       refine st_no E (wf E rfl rfl rfl rfl rfl) rfl rfl ?_
       clear a E;intro a E
       refine sv E rfl rfl rfl (x_pickF E rfl rfl rfl rfl) ?_
       clear a E;intro a E
       refine sv E rfl rfl rfl (x_move E rfl rfl) ?_
       clear a E;intro a E
       refine st_no E (wf E rfl rfl rfl rfl rfl) rfl rfl ?_
       clear a E;intro a E
       refine sv E rfl rfl rfl (x_pickF E rfl rfl rfl rfl) ?_
       clear a E;intro a E
       refine sv E rfl rfl rfl (x_move E rfl rfl) ?_
       clear a E;intro a E
       refine st_no E (wf E rfl rfl rfl rfl rfl) rfl rfl ?_
       clear a E;intro a E
       refine st_no E (wf E rfl rfl rfl rfl rfl) rfl rfl ?_
       clear a E;intro a E
       refine st_no E (wf E rfl rfl rfl rfl rfl) rfl rfl ?_
       clear a E;intro a E
       refine sv E rfl rfl rfl (x_pickF E rfl rfl rfl rfl) ?_
       clear a E;intro a E
       refine sv E rfl rfl rfl (x_move E rfl rfl) ?_
       clear a E;intro a E
       refine st_no E (wf E rfl rfl rfl rfl rfl) rfl rfl ?_
       clear a E;intro a E
       refine st_no E (wf E rfl rfl rfl rfl rfl) rfl rfl ?_
       clear a E;intro a E
       refine sv E rfl rfl rfl (x_pickF E rfl rfl rfl rfl) ?_
       clear a E;intro a E
       refine sv E rfl rfl rfl (x_move E rfl rfl) ?_
       clear a E;intro a E
       refine st_no E (wf E rfl rfl rfl rfl rfl) rfl rfl ?_
       clear a E;intro a E
       refine st_no E (wf E rfl rfl rfl rfl rfl) rfl rfl ?_
       clear a E;intro a E
       refine st_no E (wf E rfl rfl rfl rfl rfl) rfl rfl ?_
       clear a E;intro a E
       refine sv E rfl rfl rfl (x_pickF E rfl rfl rfl rfl) ?_
       clear a E;intro a E
       refine sv E rfl rfl rfl (x_assign E rfl rfl) ?_
       clear a E;intro a E
       refine wpList_nil ?_
       refine q_then ?_
       refine wp_ret ?_
       refine out1 E rfl rfl ?_
       replace H := H.drop 0
       replace H := H.drop 0
       replace H := H.drop 0
       replace H := H.drop 0
       replace H := H.drop 0
       replace H := H.drop 0
       obtain rfl := Option.some.inj hm
       exact ⟨rfl, H.reads (fun r hr => .tail _ (.tail _ (.tail _ (.tail _ (.tail _ (.tail _ (.tail _ (.tail _ (.tail _ (.tail _ (.tail _ (.tail _ (.tail _ (.tail _ (hr)))))))))))))))⟩
     ·rw [if_f hb50] at hm
      refine st_no E (wf' E rfl rfl rfl rfl hb50 rfl) rfl rfl ?_
      clear a E;intro a E
      refine st_no E (wf' E rfl rfl rfl rfl hb50 rfl) rfl rfl ?_
      clear a E;intro a E
      refine st_no E (wf' E rfl rfl rfl rfl hb50 rfl) rfl rfl ?_
      clear a E;intro a E
      refine sv E rfl rfl rfl (x_pickF E rfl rfl hb50 rfl) ?_
      clear a E;intro a E
      refine sv E rfl rfl rfl (x_move E rfl rfl) ?_
      clear a E;intro a E
      refine st_no E (wf E rfl rfl rfl rfl rfl) rfl rfl ?_
      clear a E;intro a E
      refine st_no E (wf E rfl rfl rfl rfl rfl) rfl rfl ?_
      clear a E;intro a E
      refine st_no E (wf E rfl rfl rfl rfl rfl) rfl rfl ?_
      clear a E;intro a E
      refine sv E rfl rfl rfl (x_pickF E rfl rfl rfl rfl) ?_
      clear a E;intro a E
      refine sv E rfl rfl rfl (x_move E rfl rfl) ?_
      clear a E;intro a E
      refine st_no E (wf E rfl rfl rfl rfl rfl) rfl rfl ?_
      clear a E;intro a E
      refine st_no E (wf E rfl rfl rfl rfl rfl) rfl rfl ?_
      clear a E;intro a E
      refine st_no E (wf E rfl rfl rfl rfl rfl) rfl rfl ?_
      clear a E;intro a E
      refine st_no E (wf E rfl rfl rfl rfl rfl) rfl rfl ?_
      clear a E;intro a E
      refine sv E rfl rfl rfl (x_pickF E rfl rfl rfl rfl) ?_
      clear a E;intro a E
      refine sv E rfl rfl rfl (x_move E rfl rfl) ?_
      clear a E;intro a E
      refine st_no E (wf E rfl rfl rfl rfl rfl) rfl rfl ?_
      clear a E;intro a E
      refine st_no E (wf E rfl rfl rfl rfl rfl) rfl rfl ?_
      clear a E;intro a E
      refine st_no E (wf E rfl rfl rfl rfl rfl) rfl rfl ?_
      clear a E;intro a E
      refine sv E rfl rfl rfl (x_pickF E rfl rfl rfl rfl) ?_
      clear a E;intro a E
      refine sv E rfl rfl rfl (x_move E rfl rfl) ?_
      clear a E;intro a E
      refine st_no E (wf E rfl rfl rfl rfl rfl) rfl rfl ?_
      clear a E;intro a E
      refine sv E rfl rfl rfl (x_pickF E rfl rfl rfl rfl) ?_
      clear a E;intro a E
      refine sv E rfl rfl rfl (x_move E rfl rfl) ?_
      clear a E;intro a E
      refine st_no E (wf E rfl rfl rfl rfl rfl) rfl rfl ?_
      clear a E;intro a E
      refine st_no E (wf E rfl rfl rfl rfl rfl) rfl rfl ?_
      clear a E;intro a E
      refine st_no E (wf E rfl rfl rfl rfl rfl) rfl rfl ?_
      clear a E;intro a E
      refine sv E rfl rfl rfl (x_pickF E rfl rfl rfl rfl) ?_
      clear a E;intro a E
      refine sv E rfl rfl rfl (x_move E rfl rfl) ?_
      clear a E;intro a E
      refine st_no E (wf E rfl rfl rfl rfl rfl) rfl rfl ?_
      clear a E;intro a E
      refine st_no E (wf E rfl rfl rfl rfl rfl) rfl rfl ?_
      clear a E;intro a E
      refine sv E rfl rfl rfl (x_pickF E rfl rfl rfl rfl) ?_
      clear a E;intro a E
      refine sv E rfl rfl rfl (x_move E rfl rfl) ?_
      clear a E;intro a E
      refine st_no E (wf E rfl rfl rfl rfl rfl) rfl rfl ?_
      clear a E;intro a E
      refine st_no E (wf E rfl rfl rfl rfl rfl) rfl rfl ?_
      clear a E;intro a E
      refine st_no E (wf E rfl rfl rfl rfl rfl) rfl rfl ?_
      clear a E;intro a E
      refine sv E rfl rfl rfl (x_pickF E rfl rfl rfl rfl) ?_
      clear a E;intro a E
      refine sv E rfl rfl rfl (x_assign E rfl rfl) ?_
      clear a E;intro a E
      refine wpList_nil ?_
      refine q_then ?_
      refine wp_ret ?_
      refine out1 E rfl rfl ?_
      replace H := H.drop 0
      replace H := H.drop 0
      replace H := H.drop 0
      replace H := H.drop 0
      replace H := H.drop 0
      replace H := H.drop 0
      obtain rfl := Option.some.inj hm
      exact ⟨rfl, H.reads (fun r hr => .tail _ (.tail _ (.tail _ (.tail _ (.tail _ (.tail _ (.tail _ (.tail _ (.tail _ (.tail _ (.tail _ (.tail _ (.tail _ (.tail _ (hr)))))))))))))))⟩
    ·rw [if_f hb46] at hm
     refine st_no E (wf' E rfl rfl rfl rfl hb46 rfl) rfl rfl ?_
     clear a E;intro a E
     refine st_no E (wf' E rfl rfl rfl rfl hb46 rfl) rfl rfl ?_
     clear a E;intro a E
     refine st_no E (wf' E rfl rfl rfl rfl hb46 rfl) rfl rfl ?_
     clear a E;intro a E
     refine st_no E (wf' E rfl rfl rfl rfl hb46 rfl) rfl rfl ?_
     clear a E;intro a E
     refine st_no E (wf' E rfl rfl rfl rfl hb46 rfl) rfl rfl ?_
     clear a E;intro a E
     refine sv E rfl rfl rfl (x_pickF E rfl rfl hb46 rfl) ?_
     clear a E;intro a E
     refine sv E rfl rfl rfl (x_move E rfl rfl) ?_
     clear a E;intro a E
     refine st_no E (wf E rfl rfl rfl rfl rfl) rfl rfl ?_
     clear a E;intro a E
     refine st_no E (wf E rfl rfl rfl rfl rfl) rfl rfl ?_
     clear a E;intro a E
     refine st_no E (wf E rfl rfl rfl rfl rfl) rfl rfl ?_
     clear a E;intro a E
     refine sv E rfl rfl rfl (x_pickF E rfl rfl rfl rfl) ?_
     clear a E;intro a E
     refine sv E rfl rfl rfl (x_move E rfl rfl) ?_
     clear a E;intro a E
     refine st_no E (wf E rfl rfl rfl rfl rfl) rfl rfl ?_
     clear a E;intro a E
     refine st_no E (wf E rfl rfl rfl rfl rfl) rfl rfl ?_
     clear a E;intro a E
     refine st_no E (wf E rfl rfl rfl rfl rfl) rfl rfl ?_
     clear a E;intro a E
     refine sv E rfl rfl rfl (x_pickF E rfl rfl rfl rfl) ?_
     clear a E;intro a E
     refine sv E rfl rfl rfl (x_move E rfl rfl) ?_
     clear a E;intro a E
     refine st_no E (wf E rfl rfl rfl rfl rfl) rfl rfl ?_
     clear a E;intro a E
     refine st_no E (wf E rfl rfl rfl rfl rfl) rfl rfl ?_
     clear a E;intro a E
     refine st_no E (wf E rfl rfl rfl rfl rfl) rfl rfl ?_
     clear a E;intro a E
     refine st_no E (wf E rfl rfl rfl rfl rfl) rfl rfl ?_
     clear a E;intro a E
     refine sv E rfl rfl rfl (x_pickF E rfl rfl rfl rfl) ?_
     clear a E;intro a E
     refine sv E rfl rfl rfl (x_move E rfl rfl) ?_
     clear a E;intro a E
     refine st_no E (wf E rfl rfl rfl rfl rfl) rfl rfl ?_
     clear a E;intro a E
     refine st_no E (wf E rfl rfl rfl rfl rfl) rfl rfl ?_
     clear a E;intro a E
     refine st_no E (wf E rfl rfl rfl rfl rfl) rfl rfl ?_
     clear a E;intro a E
     refine sv E rfl rfl rfl (x_pickF E rfl rfl rfl rfl) ?_
     clear a E;intro a E
     refine sv E rfl rfl rfl (x_move E rfl rfl) ?_
     clear a E;intro a E
     refine st_no E (wf E rfl rfl rfl rfl rfl) rfl rfl ?_
     clear a E;intro a E
     refine sv E rfl rfl rfl (x_pickF E rfl rfl rfl rfl) ?_
     clear a E;intro a E
     refine sv E rfl rfl rfl (x_move E rfl rfl) ?_
     clear a E;intro a E
     refine st_no E (wf E rfl rfl rfl rfl rfl) rfl rfl ?_
     clear a E;intro a E
     refine st_no E (wf E rfl rfl rfl rfl rfl) rfl rfl ?_
     clear a E;intro a E
     refine st_no E (wf E rfl rfl rfl rfl rfl) rfl rfl ?_
     clear a E;intro a E
     refine sv E rfl rfl rfl (x_pickF E rfl rfl rfl rfl) ?_
     clear a E;intro a E
     refine sv E rfl rfl rfl (x_move E rfl rfl) ?_
     clear a E;intro a E
     refine st_no E (wf E rfl rfl rfl rfl rfl) rfl rfl ?_
     clear a E;intro a E
     refine st_no E (wf E rfl rfl rfl rfl rfl) rfl rfl ?_
     clear a E;intro a E
     refine sv E rfl rfl rfl (x_pickF E rfl rfl rfl rfl) ?_
     clear a E;intro a E
     refine sv E rfl rfl rfl (x_move E rfl rfl) ?_
     clear a E;intro a E
     refine st_no E (wf E rfl rfl rfl rfl rfl) rfl rfl ?_
     clear a E;intro a E
     refine st_no E (wf E rfl rfl rfl rfl rfl) rfl rfl ?_
     clear a E;intro a E
     refine st_no E (wf E rfl rfl rfl rfl rfl) rfl rfl ?_
     clear a E;intro a E
     refine sv E rfl rfl rfl (x_pickF E rfl rfl rfl rfl) ?_
     clear a E;intro a E
     refine sv E rfl rfl rfl (x_assign E rfl rfl) ?_
     clear a E;intro a E
     refine wpList_nil ?_
     refine q_then ?_
     refine wp_ret ?_
     refine out1 E rfl rfl ?_
     replace H := H.drop 0
     replace H := H.drop 0
     replace H := H.drop 0
     replace H := H.drop 0
     replace H := H.drop 0
     replace H := H.drop 0
     obtain rfl := Option.some.inj hm
     exact ⟨rfl, H.reads (fun r hr => .tail _ (.tail _ (.tail _ (.tail _ (.tail _ (.tail _ (.tail _ (.tail _ (.tail _ (.tail _ (.tail _ (.tail _ (hr)))))))))))))⟩
   ·rw [if_f hb45] at hm
    refine st_no E (wf' E rfl rfl rfl rfl hb45 rfl) rfl rfl ?_
    clear a E;intro a E
    refine st_no E (wf' E rfl rfl rfl rfl hb45 rfl) rfl rfl ?_
    clear a E;intro a E
    refine st_no E (wf' E rfl rfl rfl rfl hb45 rfl) rfl rfl ?_
    clear a E;intro a E
    refine sv E rfl rfl rfl (x_pickF E rfl rfl hb45 rfl) ?_
    clear a E;intro a E
    refine sv E rfl rfl rfl (x_move E rfl rfl) ?_
    clear a E;intro a E
    refine st_no E (wf E rfl rfl rfl rfl rfl) rfl rfl ?_
    clear a E;intro a E
    refine st_no E (wf E rfl rfl rfl rfl rfl) rfl rfl ?_
    clear a E;intro a E
    refine st_no E (wf E rfl rfl rfl rfl rfl) rfl rfl ?_
    clear a E;intro a E
    refine st_no E (wf E rfl rfl rfl rfl rfl) rfl rfl ?_
    clear a E;intro a E
    refine st_no E (wf E rfl rfl rfl rfl rfl) rfl rfl ?_
    clear a E;intro a E
    refine sv E rfl rfl rfl (x_pickF E rfl rfl rfl rfl) ?_
    clear a E;intro a E
    refine sv E rfl rfl rfl (x_move E rfl rfl) ?_
    clear a E;intro a E
    refine st_no E (wf E rfl rfl rfl rfl rfl) rfl rfl ?_
    clear a E;intro a E
    refine st_no E (wf E rfl rfl rfl rfl rfl) rfl rfl ?_
    clear a E;intro a E
    refine st_no E (wf E rfl rfl rfl rfl rfl) rfl rfl ?_
    clear a E;intro a E
    refine sv E rfl rfl rfl (x_pickF E rfl rfl rfl rfl) ?_
    clear a E;intro a E
    refine sv E rfl rfl rfl (x_move E rfl rfl) ?_
    clear a E;intro a E
    refine st_no E (wf E rfl rfl rfl rfl rfl) rfl rfl ?_
    clear a E;intro a E
    refine st_no E (wf E rfl rfl rfl rfl rfl) rfl rfl ?_
    clear a E;intro a E
    refine st_no E (wf E rfl rfl rfl rfl rfl) rfl rfl ?_
    clear a E;intro a E
    refine sv E rfl rfl rfl (x_pickF E rfl rfl rfl rfl) ?_
    clear a E;intro a E
    refine sv E rfl rfl rfl (x_move E rfl rfl) ?_
    clear a E;intro a E
    refine st_no E (wf E rfl rfl rfl rfl rfl) rfl rfl ?_
    clear a E;intro a E
    refine st_no E (wf E rfl rfl rfl rfl rfl) rfl rfl ?_
    clear a E;intro a E
    refine st_no E (wf E rfl rfl rfl rfl rfl) rfl rfl ?_
    clear a E;intro a E
    refine st_no E (wf E rfl rfl rfl rfl rfl) rfl rfl ?_
    clear a E;intro a E
    refine sv E rfl rfl rfl (x_pickF E rfl rfl rfl rfl) ?_
    clear a E;intro a E
    refine sv E rfl rfl rfl (x_move E rfl rfl) ?_
    clear a E;intro a E
    refine st_no E (wf E rfl rfl rfl rfl rfl) rfl rfl ?_
    clear a E;intro a E
    refine st_no E (wf E rfl rfl rfl rfl rfl) rfl rfl ?_
    clear a E;intro a E
    refine st_no E (wf E rfl rfl rfl rfl rfl) rfl rfl ?_
    clear a E;intro a E
    refine sv E rfl rfl rfl (x_pickF E rfl rfl rfl rfl) ?_
    clear a E;intro a E
    refine sv E rfl rfl rfl (x_move E rfl rfl) ?_
    clear a E;intro a E
    refine st_no E (wf E rfl rfl rfl rfl rfl) rfl rfl ?_
    clear a E;intro a E
    refine sv E rfl rfl rfl (x_pickF E rfl rfl rfl rfl) ?_
    clear a E;intro a E
    refine sv E rfl rfl rfl (x_move E rfl rfl) ?_
    clear a E;intro a E
    refine st_no E (wf E rfl rfl rfl rfl rfl) rfl rfl ?_
    clear a E;intro a E
    refine st_no E (wf E rfl rfl rfl rfl rfl) rfl rfl ?_
    clear a E;intro a E
    refine st_no E (wf E rfl rfl rfl rfl rfl) rfl rfl ?_
    clear a E;intro a E
    refine sv E rfl rfl rfl (x_pickF E rfl rfl rfl rfl) ?_
    clear a E;intro a E
    refine sv E rfl rfl rfl (x_move E rfl rfl) ?_
    clear a E;intro a E
    refine st_no E (wf E rfl rfl rfl rfl rfl) rfl rfl ?_
    clear a E;intro a E
    refine st_no E (wf E rfl rfl rfl rfl rfl) rfl rfl ?_
    clear a E;intro a E
    refine sv E rfl rfl rfl (x_pickF E rfl rfl rfl rfl) ?_
    clear a E;intro a E
    refine sv E rfl rfl rfl (x_move E rfl rfl) ?_
    clear a E;intro a E
    refine st_no E (wf E rfl rfl rfl rfl rfl) rfl rfl ?_
    clear a E;intro a E
    refine st_no E (wf E rfl rfl rfl rfl rfl) rfl rfl ?_
    clear a E;intro a E
    refine st_no E (wf E rfl rfl rfl rfl rfl) rfl rfl ?_
    clear a E;intro a E
    refine sv E rfl rfl rfl (x_pickF E rfl rfl rfl rfl) ?_
    clear a E;intro a E
    refine sv E rfl rfl rfl (x_assign E rfl rfl) ?_
    clear a E;intro a E
    refine wpList_nil ?_
    refine q_then ?_
    refine wp_ret ?_
    refine out1 E rfl rfl ?_
    replace H := H.drop 0
    replace H := H.drop 0
    replace H := H.drop 0
    replace H := H.drop 0
    replace H := H.drop 0
    replace H := H.drop 0
    obtain rfl := Option.some.inj hm
    exact ⟨rfl, H.reads (fun r hr => .tail _ (.tail _ (.tail _ (.tail _ (.tail _ (.tail _ (.tail _ (.tail _ (.tail _ (.tail _ (.tail _ (.tail _ (hr)))))))))))))⟩
  ·rw [if_f hb44] at hm
   refine st_no E (wf' E rfl rfl rfl rfl hb44 rfl) rfl rfl ?_
   clear a E;intro a E
   refine st_no E (wf' E rfl rfl rfl rfl hb44 rfl) rfl rfl ?_
   clear a E;intro a E
   refine st_no E (wf' E rfl rfl rfl rfl hb44 rfl) rfl rfl ?_
   clear a E;intro a E
   refine sv E rfl rfl rfl (x_pickF E rfl rfl hb44 rfl) ?_
   clear a E;intro a E
   refine sv E rfl rfl rfl (x_move E rfl rfl) ?_
   clear a E;intro a E
   refine st_no E (wf E rfl rfl rfl rfl rfl) rfl rfl ?_
   clear a E;intro a E
   refine st_no E (wf E rfl rfl rfl rfl rfl) rfl rfl ?_
   clear a E;intro a E
   refine st_no E (wf E rfl rfl rfl rfl rfl) rfl rfl ?_
   clear a E;intro a E
   refine sv E rfl rfl rfl (x_pickF E rfl rfl rfl rfl) ?_
   clear a E;intro a E
   refine sv E rfl rfl rfl (x_move E rfl rfl) ?_
   clear a E;intro a E
   refine st_no E (wf E rfl rfl rfl rfl rfl) rfl rfl ?_
   clear a E;intro a E
   refine st_no E (wf E rfl rfl rfl rfl rfl) rfl rfl ?_
   clear a E;intro a E
   refine st_no E (wf E rfl rfl rfl rfl rfl) rfl rfl ?_
   clear a E;intro a E
   refine st_no E (wf E rfl rfl rfl rfl rfl) rfl rfl ?_
   clear a E;intro a E
   refine st_no E (wf E rfl rfl rfl rfl rfl) rfl rfl ?_
   clear a E;intro a E
   refine sv E rfl rfl rfl (x_pickF E rfl rfl rfl rfl) ?_
   clear a E;intro a E
   refine sv E rfl rfl rfl (x_move E rfl rfl) ?_
   clear a E;intro a E
   refine st_no E (wf E rfl rfl rfl rfl rfl) rfl rfl ?_
   clear a E;intro a E
   refine st_no E (wf E rfl rfl rfl rfl rfl) rfl rfl ?_
   clear a E;intro a E
   refine st_no E (wf E rfl rfl rfl rfl rfl) rfl rfl ?_
   clear a E;intro a E
   refine sv E rfl rfl rfl (x_pickF E rfl rfl rfl rfl) ?_
   clear a E;intro a E
   refine sv E rfl rfl rfl (x_move E rfl rfl) ?_
   clear a E;intro a E
   refine st_no E (wf E rfl rfl rfl rfl rfl) rfl rfl ?_
   clear a E;intro a E
   refine st_no E (wf E rfl rfl rfl rfl rfl) rfl rfl ?_
   clear a E;intro a E
   refine st_no E (wf E rfl rfl rfl rfl rfl) rfl rfl ?_
   clear a E;intro a E
   refine sv E rfl rfl rfl (x_pickF E rfl rfl rfl rfl) ?_
   clear a E;intro a E
   refine sv E rfl rfl rfl (x_move E rfl rfl) ?_
   clear a E;intro a E
   refine st_no E (wf E rfl rfl rfl rfl rfl) rfl rfl ?_
   clear a E;intro a E
   refine st_no E (wf E rfl rfl rfl rfl rfl) rfl rfl ?_
   clear a E;intro a E
   refine st_no E (wf E rfl rfl rfl rfl rfl) rfl rfl ?_
   clear a E;intro a E
   refine st_no E (wf E rfl rfl rfl rfl rfl) rfl rfl ?_
   clear a E;intro a E
   refine sv E rfl rfl rfl (x_pickF E rfl rfl rfl rfl) ?_
   clear a E;intro a E
   refine sv E rfl rfl rfl (x_move E rfl rfl) ?_
   clear a E;intro a E
   refine st_no E (wf E rfl rfl rfl rfl rfl) rfl rfl ?_
   clear a E;intro a E
   refine st_no E (wf E rfl rfl rfl rfl rfl) rfl rfl ?_
   clear a E;intro a E
   refine st_no E (wf E rfl rfl rfl rfl rfl) rfl rfl ?_
   clear a E;intro a E
   refine sv E rfl rfl rfl (x_pickF E rfl rfl rfl rfl) ?_
   clear a E;intro a E
   refine sv E rfl rfl rfl (x_move E rfl rfl) ?_
   clear a E;intro a E
   refine st_no E (wf E rfl rfl rfl rfl rfl) rfl rfl ?_
   clear a E;intro a E
   refine sv E rfl rfl rfl (x_pickF E rfl rfl rfl rfl) ?_
   clear a E;intro a E
   refine sv E rfl rfl rfl (x_move E rfl rfl) ?_
   clear a E;intro a E
   refine st_no E (wf E rfl rfl rfl rfl rfl) rfl rfl ?_
   clear a E;intro a E
   refine st_no E (wf E rfl rfl rfl rfl rfl) rfl rfl ?_
   clear a E;intro a E
   refine st_no E (wf E rfl rfl rfl rfl rfl) rfl rfl ?_
   clear a E;intro a E
   refine sv E rfl rfl rfl (x_pickF E rfl rfl rfl rfl) ?_
   clear a E;intro a E
   refine sv E rfl rfl rfl (x_move E rfl rfl) ?_
   clear a E;intro a E
   refine st_no E (wf E rfl rfl rfl rfl rfl) rfl rfl ?_
   clear a E;intro a E
   refine st_no E (wf E rfl rfl rfl rfl rfl) rfl rfl ?_
   clear a E;intro a E
   refine sv E rfl rfl rfl (x_pickF E rfl rfl rfl rfl) ?_
   clear a E;intro a E
   refine sv E rfl rfl rfl (x_move E rfl rfl) ?_
   clear a E;intro a E
   refine st_no E (wf E rfl rfl rfl rfl rfl) rfl rfl ?_
   clear a E;intro a E
   refine st_no E (wf E rfl rfl rfl rfl rfl) rfl rfl ?_
   clear a E;intro a E
   refine st_no E (wf E rfl rfl rfl rfl rfl) rfl rfl ?_
   clear a E;intro a E
   refine sv E rfl rfl rfl (x_pickF E rfl rfl rfl rfl) ?_
   clear a E;intro a E
   refine sv E rfl rfl rfl (x_assign E rfl rfl) ?_
   clear a E;intro a E
   refine wpList_nil ?_
   refine q_then ?_
   refine wp_ret ?_
   refine out1 E rfl rfl ?_
   replace H := H.drop 0
   replace H := H.drop 0
   replace H := H.drop 0
   replace H := H.drop 0
   replace H := H.drop 0
   replace H := H.drop 0
   obtain rfl := Option.some.inj hm
   exact ⟨rfl, H.reads (fun r hr => .tail _ (.tail _ (.tail _ (.tail _ (.tail _ (.tail _ (.tail _ (.tail _ (.tail _ (.tail _ (.tail _ (.tail _ (hr)))))))))))))⟩
 ·rw [if_f hb43] at hm
  refine st_no E (wf' E rfl rfl rfl rfl hb43 rfl) rfl rfl ?_
  clear a E;intro a E
  refine st_no E (wf' E rfl rfl rfl rfl hb43 rfl) rfl rfl ?_
  clear a E;intro a E
  refine st_no E (wf' E rfl rfl rfl rfl hb43 rfl) rfl rfl ?_
  clear a E;intro a E
  refine sv E rfl rfl rfl (x_pickF E rfl rfl hb43 rfl) ?_
  clear a E;intro a E
  refine sv E rfl rfl rfl (x_move E rfl rfl) ?_
  clear a E;intro a E
  refine st_no E (wf E rfl rfl rfl rfl rfl) rfl rfl ?_
  clear a E;intro a E
  refine st_no E (wf E rfl rfl rfl rfl rfl) rfl rfl ?_
  clear a E;intro a E
  refine st_no E (wf E rfl rfl rfl rfl rfl) rfl rfl ?_
  clear a E;intro a E
  refine sv E rfl rfl rfl (x_pickF E rfl rfl rfl rfl) ?_
  clear a E;intro a E
  refine sv E rfl rfl rfl (x_move E rfl rfl) ?_
  clear a E;intro a E
  refine st_no E (wf E rfl rfl rfl rfl rfl) rfl rfl ?_
  clear a E;intro a E
  refine st_no E (wf E rfl rfl rfl rfl rfl) rfl rfl ?_
  clear a E;intro a E
  refine st_no E (wf E rfl rfl rfl rfl rfl) rfl rfl ?_
  clear a E;intro a E
  refine sv E rfl rfl rfl (x_pickF E rfl rfl rfl rfl) ?_
  clear a E;intro a E
  refine sv E rfl rfl rfl (x_move E rfl rfl) ?_
  clear a E;intro a E
  refine st_no E (wf E rfl rfl rfl rfl rfl) rfl rfl ?_
  clear a E;intro a E
  refine st_no E (wf E rfl rfl rfl rfl rfl) rfl rfl ?_
  clear a E;intro a E
  refine st_no E (wf E rfl rfl rfl rfl rfl) rfl rfl ?_
  clear a E;intro a E
  refine st_no E (wf E rfl rfl rfl rfl rfl) rfl rfl ?_
  clear a E;intro a E
  refine st_no E (wf E rfl rfl rfl rfl rfl) rfl rfl ?_
  clear a E;intro a E
  refine sv E rfl rfl rfl (x_pickF E rfl rfl rfl rfl) ?_
  clear a E;intro a E
  refine sv E rfl rfl rfl (x_move E rfl rfl) ?_
  clear a E;intro a E
  refine st_no E (wf E rfl rfl rfl rfl rfl) rfl rfl ?_
  clear a E;intro a E
  refine st_no E (wf E rfl rfl rfl rfl rfl) rfl rfl ?_
  clear a E;intro a E
  refine st_no E (wf E rfl rfl rfl rfl rfl) rfl rfl ?_
  clear a E;intro a E
  refine sv E rfl rfl rfl (x_pickF E rfl rfl rfl rfl) ?_
  clear a E;intro a E
  refine sv E rfl rfl rfl (x_move E rfl rfl) ?_
  clear a E;intro a E
  refine st_no E (wf E rfl rfl rfl rfl rfl) rfl rfl ?_
  clear a E;intro a E
  refine st_no E (wf E rfl rfl rfl rfl rfl) rfl rfl ?_
  clear a E;intro a E
  refine st_no E (wf E rfl rfl rfl rfl rfl) rfl rfl ?_
  clear a E;intro a E
  refine sv E rfl rfl rfl (x_pickF E rfl rfl rfl rfl) ?_
  clear a E;intro a E
  refine sv E rfl rfl rfl (x_move E rfl rfl) ?_
  clear a E;intro a E
  refine st_no E (wf E rfl rfl rfl rfl rfl) rfl rfl ?_
  clear a E;intro a E
  refine st_no E (wf E rfl rfl rfl rfl rfl) rfl rfl ?_
  clear a E;intro a E
  refine st_no E (wf E rfl rfl rfl rfl rfl) rfl rfl ?_
  clear a E;intro a E
  refine st_no E (wf E rfl rfl rfl rfl rfl) rfl rfl ?_
  clear a E;intro a E
  refine sv E rfl rfl rfl (x_pickF E rfl rfl rfl rfl) ?_
  clear a E;intro a E
  refine sv E rfl rfl rfl (x_move E rfl rfl) ?_
  clear a E;intro a E
  refine st_no E (wf E rfl rfl rfl rfl rfl) rfl rfl ?_
  clear a E;intro a E
  refine st_no E (wf E rfl rfl rfl rfl rfl) rfl rfl ?_
  clear a E;intro a E
  refine st_no E (wf E rfl rfl rfl rfl rfl) rfl rfl ?_
  clear a E;intro a E
  refine sv E rfl rfl rfl (x_pickF E rfl rfl rfl rfl) ?_
  clear a E;intro a E
  refine sv E rfl rfl rfl (x_move E rfl rfl) ?_
  clear a E;intro a E
  refine st_no E (wf E rfl rfl rfl rfl rfl) rfl rfl ?_
  clear a E;intro a E
  refine sv E rfl rfl rfl (x_pickF E rfl rfl rfl rfl) ?_
  clear a E;intro a E
  refine sv E rfl rfl rfl (x_move E rfl rfl) ?_
  clear a E;intro a E
  refine st_no E (wf E rfl rfl rfl rfl rfl) rfl rfl ?_
  clear a E;intro a E
  refine st_no E (wf E rfl rfl rfl rfl rfl) rfl rfl ?_
  clear a E;intro a E
  refine st_no E (wf E rfl rfl rfl rfl rfl) rfl rfl ?_
  clear a E;intro a E
  refine sv E rfl rfl rfl (x_pickF E rfl rfl rfl rfl) ?_
  clear a E;intro a E
  refine sv E rfl rfl rfl (x_move E rfl rfl) ?_
  clear a E;intro a E
  refine st_no E (wf E rfl rfl rfl rfl rfl) rfl rfl ?_
  clear a E;intro a E
  refine st_no E (wf E rfl rfl rfl rfl rfl) rfl rfl ?_
  clear a E;intro a E
  refine sv E rfl rfl rfl (x_pickF E rfl rfl rfl rfl) ?_
  clear a E;intro a E
  refine sv E rfl rfl rfl (x_move E rfl rfl) ?_
  clear a E;intro a E
  refine st_no E (wf E rfl rfl rfl rfl rfl) rfl rfl ?_
  clear a E;intro a E
  refine st_no E (wf E rfl rfl rfl rfl rfl) rfl rfl ?_
  clear a E;intro a E
  refine st_no E (wf E rfl rfl rfl rfl rfl) rfl rfl ?_
  clear a E;intro a E
  refine sv E rfl rfl rfl (x_pickF E rfl rfl rfl rfl) ?_
  clear a E;intro a E
  refine sv E rfl rfl rfl (x_assign E rfl rfl) ?_
  clear a E;intro a E
  refine wpList_nil ?_
  refine q_then ?_
  refine wp_ret ?_
  refine out1 E rfl rfl ?_
  replace H := H.drop 0
  replace H := H.drop 0
  replace H := H.drop 0
  replace H := H.drop 0
  replace H := H.drop 0
  replace H := H.drop 0
  obtain rfl := Option.some.inj hm
  exact ⟨rfl, H.reads (fun r hr => .tail _ (.tail _ (.tail _ (.tail _ (.tail _ (.tail _ (.tail _ (.tail _ (.tail _ (.tail _ (.tail _ (.tail _ (hr)))))))))))))⟩
end Go.Cb

set_option linter.unusedVariables false
set_option linter.unusedSimpArgs false
namespace Go.Cb
open Go.Proofs Go.RowKit
def m_cantonlaw06_NodesVersions_j3 (rec_1 : (List S_api_Node) → Int → Int → Option Bool) (u58 : (List S_api_Node) × S_api_Result) (x28 : Int) (x29 : Int) (b72 : Bool) : Option Bool :=
  if b72 = true then (some (false)) else (rec_1 u58.1 (IntKind.i64.wrap (x28 + 1)) (IntKind.i64.wrap (x29 + 1)))
def m_cantonlaw06_NodesVersions_l1 (l5 : List ByteArray) (u9 : Bool) (s3 : ByteArray) : Nat → (List S_api_Node) → Int → Int → Option Bool
  | 0, _, _, _ => none
  | k1 + 1, l27, x28, x29 =>
    if (decide (x29 < (l5.length : Int))) = true then ((idx l5 x29).bind fun x35 => if (decide ((x35.size : Int) > 256)) = true then (some (u9)) else ((idx l5 x29).bind fun x38 => (m_nodes_Apply l27 (⟨3, s3, x38, IntKind.i64.wrap (x28 + 1), 0, false⟩ : S_api_Op)).bind fun u41 => (m_nodes_Apply l27 (⟨4, s3, (ByteArray.mk #[]), IntKind.i64.wrap (x28 + 1), 0, false⟩ : S_api_Op)).bind fun u48 => (idx l5 x29).bind fun x55 => (m_nodes_Apply l27 (⟨3, s3, x55, x28, 0, false⟩ : S_api_Op)).bind fun u58 => (m_nodes_Apply u58.1 (⟨5, s3, (ByteArray.mk #[]), 0, 0, false⟩ : S_api_Op)).bind fun u65 => if (u41.2.Err != 63) = true then (m_cantonlaw06_NodesVersions_j3 (m_cantonlaw06_NodesVersions_l1 l5 u9 s3 k1) u58 x28 x29 true) else (if (u48.2.Err != 63) = true then (m_cantonlaw06_NodesVersions_j3 (m_cantonlaw06_NodesVersions_l1 l5 u9 s3 k1) u58 x28 x29 true) else (if (u58.2.Err != 0) = true then (m_cantonlaw06_NodesVersions_j3 (m_cantonlaw06_NodesVersions_l1 l5 u9 s3 k1) u58 x28 x29 true) else (if (u58.2.Version != (IntKind.i64.wrap (x28 + 1))) = true then (m_cantonlaw06_NodesVersions_j3 (m_cantonlaw06_NodesVersions_l1 l5 u9 s3 k1) u58 x28 x29 true) else ((idx l5 x29).bind fun x83 => if (!(sEq u65.2.Data x83)) = true then (m_cantonlaw06_NodesVersions_j3 (m_cantonlaw06_NodesVersions_l1 l5 u9 s3 k1) u58 x28 x29 true) else (m_cantonlaw06_NodesVersions_j3 (m_cantonlaw06_NodesVersions_l1 l5 u9 s3 k1) u58 x28 x29 (u65.2.Version != (IntKind.i64.wrap (x28 + 1)))))))))) else (some (u9))
def m_cantonlaw06_NodesVersions_j2 (l5 : List ByteArray) (u9 : Bool) (s3 : ByteArray) (l2 : List S_api_Node) (u17 : S_api_Node × Bool) (b20 : Bool) : Option Bool :=
  if b20 = true then (some (u9)) else (m_cantonlaw06_NodesVersions_l1 l5 u9 s3 (((l5.length : Int) - 0 : Int).toNat + 1) l2 u17.1.Version 0)
def m_cantonlaw06_NodesVersions_j1 (l5 : List ByteArray) (u9 : Bool) (s3 : ByteArray) (l2 : List S_api_Node) (b11 : Bool) : Option Bool :=
  if b11 = true then (some (u9)) else ((m_cantonref06_Find l2 s3).bind fun u17 => if (!u17.2) = true then (m_cantonlaw06_NodesVersions_j2 l5 u9 s3 l2 u17 true) else (m_cantonlaw06_NodesVersions_j2 l5 u9 s3 l2 u17 (decide (u17.1.Version > 1000))))
def m_cantonlaw06_NodesVersions (l2 : List S_api_Node) (s3 : ByteArray) (l5 : List ByteArray) : Option Bool :=
  m_cantonlaw06_head.bind fun u9 => (m_cantonlaw06_Great l2).bind fun u91 => if u91 = true then (m_cantonlaw06_NodesVersions_j1 l5 u9 s3 l2 true) else (if (decide ((s3.size : Int) > 1000)) = true then (m_cantonlaw06_NodesVersions_j1 l5 u9 s3 l2 true) else (if (decide ((l5.length : Int) > 40)) = true then (m_cantonlaw06_NodesVersions_j1 l5 u9 s3 l2 true) else ((m_cantonref06_Right l2).bind fun u96 => m_cantonlaw06_NodesVersions_j1 l5 u9 s3 l2 (!u96))))
set_option maxRecDepth 20000 in
set_option maxHeartbeats 1000000 in
theorem c_cantonlaw06_NodesVersions {w : World} {Fo : List Ob} {rs : List Rp} (v1 : Value) (l2 : List S_api_Node) (s3 : ByteArray) (v4 : Value) (l5 : List ByteArray) (H : Sep w (Fo) rs) (hr6 : rSl k_api_Node v1 l2 ∈ rs) (hr7 : rSl kS v4 l5 ∈ rs) (hr8 : rTab Tryd.prog ∈ rs) {r : Bool} (hm : m_cantonlaw06_NodesVersions l2 s3 l5 = some r) :
    Calls Tryd.prog 9 [v1, .string s3, v4].toArray w (Ret fun v w' => .bool r = v ∧ Sep w' (Fo) (rs)) := by
 unfold m_cantonlaw06_NodesVersions at hm
 refine enter Tryd.func9 rfl Tryd.ntmps9 rfl fun a E => ?_
 simp only [enum, Nat.reduceAdd] at E
 refine wp_seq ?_
 refine wp_region_lit ?_
 refine sv E rfl rfl rfl (x_assign E rfl rfl) ?_
 clear a E;intro a E
 refine wpList_nil ?_
 refine q_then ?_
 refine wp_seq ?_
 refine wp_region_lit ?_
 obtain ⟨u9, hx10, hm⟩ := bnd hm
 refine st_call E (wn rfl) rfl rfl (x_call E rfl rfl (cf10 _)) (c_cantonlaw06_head H hr8 hx10) ?_
 clear E H; clear a; clear w; rintro _ w ⟨rfl, H⟩ a E
 refine sv E rfl rfl rfl (x_assign E rfl rfl) ?_
 clear a E;intro a E
 refine wpList_nil ?_
 refine q_then ?_
 refine wp_seq ?_
 refine wp_seq_cut (fun a w => ∃ (b11 : Bool) (rs12 : List Rp), Env 147 a [(0, v1), (1, .string s3), (2, v4), (7, .bool u9), (37, .bool b11)] ∧ Sep w (Fo) rs12 ∧ (∀ r, r ∈ rs → r ∈ rs12) ∧ rSl k_api_Node v1 l2 ∈ rs12 ∧ rSl kS v4 l5 ∈ rs12 ∧ rTab Tryd.prog ∈ rs12 ∧ m_cantonlaw06_NodesVersions_j1 l5 u9 s3 l2 b11 = some r) ?_ ?_
 ·refine wp_region_lit ?_
  refine sv E rfl rfl rfl (x_move E rfl rfl) ?_
  clear a E;intro a E
  obtain ⟨u91, hx92, hm⟩ := bnd hm
  refine st_call E (wn rfl) rfl rfl (x_call E rfl rfl (cf11 _)) (c_cantonlaw06_Great v1 l2 H hr6 hx92) ?_
  clear E H; clear a; clear w; rintro _ w ⟨rfl, H⟩ a E
  refine sv E rfl rfl rfl (x_move E rfl rfl) ?_
  clear a E;intro a E
  rcases Bool.eq_false_or_eq_true u91 with hb93 | hb93
  ·rw [if_t hb93] at hm
   refine st_no E (wf' E rfl rfl rfl rfl hb93 rfl) rfl rfl ?_
   clear a E;intro a E
   refine st_no E (wf' E rfl rfl rfl rfl hb93 rfl) rfl rfl ?_
   clear a E;intro a E
   refine st_no E (wf' E rfl rfl rfl rfl hb93 rfl) rfl rfl ?_
   clear a E;intro a E
   refine sv E rfl rfl rfl (x_pickT E rfl rfl hb93 rfl) ?_
   clear a E;intro a E
   refine sv E rfl rfl rfl (x_move E rfl rfl) ?_
   clear a E;intro a E
   refine st_no E (wf E rfl rfl rfl rfl rfl) rfl rfl ?_
   clear a E;intro a E
   refine st_no E (wf E rfl rfl rfl rfl rfl) rfl rfl ?_
   clear a E;intro a E
   refine st_no E (wf E rfl rfl rfl rfl rfl) rfl rfl ?_
   clear a E;intro a E
   refine sv E rfl rfl rfl (x_pickT E rfl rfl rfl rfl) ?_
   clear a E;intro a E
   refine sv E rfl rfl rfl (x_move E rfl rfl) ?_
   clear a E;intro a E
   refine st_no E (wf E rfl rfl rfl rfl rfl) rfl rfl ?_
   clear a E;intro a E
   refine st_no E (wf E rfl rfl rfl rfl rfl) rfl rfl ?_
   clear a E;intro a E
   refine st_no E (wf E rfl rfl rfl rfl rfl) rfl rfl ?_
   clear a E;intro a E
   refine sv E rfl rfl rfl (x_pickT E rfl rfl rfl rfl) ?_
   clear a E;intro a E
   refine wpList_nil ?_
   refine q_then ?_
   exact ⟨true, _, (((((E.nil.keep E 37 rfl).keep E 7 rfl).keep E 2 rfl).keep E 1 rfl).keep E 0 rfl), H, fun r hr => hr, hr6, hr7, hr8, hm⟩
  ·rw [if_f hb93] at hm
   refine st_val E (ws' E rfl rfl rfl rfl hb93) rfl rfl (x_move E rfl rfl) ?_
   clear a E;intro a E
   refine st_val E (ws' E rfl rfl rfl rfl hb93) rfl rfl (x_lenStr E rfl rfl Tryd.underlying9) ?_
   clear a E;intro a E
   refine st_val E (ws' E rfl rfl rfl rfl hb93) rfl rfl (x_bin E rfl rfl rfl rfl) ?_
   clear a E;intro a E
   refine sv E rfl rfl rfl (x_pickF E rfl rfl hb93 rfl) ?_
   clear a E;intro a E
   refine sv E rfl rfl rfl (x_move E rfl rfl) ?_
   clear a E;intro a E
   rcases Bool.eq_false_or_eq_true (decide ((s3.size : Int) > 1000)) with hb94 | hb94
   ·rw [if_t hb94] at hm
    refine st_no E (wf' E rfl rfl rfl rfl hb94 rfl) rfl rfl ?_
    clear a E;intro a E
    refine st_no E (wf' E rfl rfl rfl rfl hb94 rfl) rfl rfl ?_
    clear a E;intro a E
    refine st_no E (wf' E rfl rfl rfl rfl hb94 rfl) rfl rfl ?_
    clear a E;intro a E
    refine sv E rfl rfl rfl (x_pickT E rfl rfl hb94 rfl) ?_
    clear a E;intro a E
    refine sv E rfl rfl rfl (x_move E rfl rfl) ?_
    clear a E;intro a E
    refine st_no E (wf E rfl rfl rfl rfl rfl) rfl rfl ?_
    clear a E;intro a E
    refine st_no E (wf E rfl rfl rfl rfl rfl) rfl rfl ?_
    clear a E;intro a E
    refine st_no E (wf E rfl rfl rfl rfl rfl) rfl rfl ?_
    clear a E;intro a E
    refine sv E rfl rfl rfl (x_pickT E rfl rfl rfl rfl) ?_
    clear a E;intro a E
    refine wpList_nil ?_
    refine q_then ?_
    exact ⟨true, _, (((((E.nil.keep E 37 rfl).keep E 7 rfl).keep E 2 rfl).keep E 1 rfl).keep E 0 rfl), H, fun r hr => hr, hr6, hr7, hr8, hm⟩
   ·rw [if_f hb94] at hm
    refine st_val E (ws' E rfl rfl rfl rfl hb94) rfl rfl (x_move E rfl rfl) ?_
    clear a E;intro a E
    refine st_val E (ws' E rfl rfl rfl rfl hb94) rfl rfl (x_lenS E H rfl rfl hr7 Tryd.underlying29) ?_
    clear a E;intro a E
    refine st_val E (ws' E rfl rfl rfl rfl hb94) rfl rfl (x_bin E rfl rfl rfl rfl) ?_
    clear a E;intro a E
    refine sv E rfl rfl rfl (x_pickF E rfl rfl hb94 rfl) ?_
    clear a E;intro a E
    refine sv E rfl rfl rfl (x_move E rfl rfl) ?_
    clear a E;intro a E
    rcases Bool.eq_false_or_eq_true (decide ((l5.length : Int) > 40)) with hb95 | hb95
    ·rw [if_t hb95] at hm
     refine st_no E (wf' E rfl rfl rfl rfl hb95 rfl) rfl rfl ?_
     clear a E;intro a E
     refine st_no E (wf' E rfl rfl rfl rfl hb95 rfl) rfl rfl ?_
     clear a E;intro a E
     refine st_no E (wf' E rfl rfl rfl rfl hb95 rfl) rfl rfl ?_
     clear a E;intro a E
     refine sv E rfl rfl rfl (x_pickT E rfl rfl hb95 rfl) ?_
     clear a E;intro a E
     refine wpList_nil ?_
     refine q_then ?_
     exact ⟨true, _, (((((E.nil.keep E 37 rfl).keep E 7 rfl).keep E 2 rfl).keep E 1 rfl).keep E 0 rfl), H, fun r hr => hr, hr6, hr7, hr8, hm⟩
    ·rw [if_f hb95] at hm
     refine st_val E (ws' E rfl rfl rfl rfl hb95) rfl rfl (x_move E rfl rfl) ?_
     clear a E;intro a E
     obtain ⟨u96, hx97, hm⟩ := bnd hm
     refine st_call E (ws' E rfl rfl rfl rfl hb95) rfl rfl (x_call E rfl rfl (cf13 _)) (c_cantonref06_Right v1 l2 H hr6 hx97) ?_
     clear E H; clear a; clear w; rintro _ w ⟨rfl, H⟩ a E
     refine st_val E (ws' E rfl rfl rfl rfl hb95) rfl rfl (x_not E rfl rfl) ?_
     clear a E;intro a E
     refine sv E rfl rfl rfl (x_pickF E rfl rfl hb95 rfl) ?_
     clear a E;intro a E
     refine wpList_nil ?_
     refine q_then ?_
     exact ⟨!u96, _, (((((E.nil.keep E 37 rfl).keep E 7 rfl).keep E 2 rfl).keep E 1 rfl).keep E 0 rfl), H, fun r hr => hr, hr6, hr7, hr8, hm⟩
 ·clear E H hm
  rintro a w ⟨b11, rs12, E, H, hs13, hr14, hr15, hr16, hm⟩
  unfold m_cantonlaw06_NodesVersions_j1 at hm
  refine wp_if E rfl ?_ ?_
  ·intro hb
   rw [if_t hb] at hm
   clear hb
   refine wp_seq ?_
   refine wp_region_lit ?_
   refine sv E rfl rfl rfl (x_move E rfl rfl) ?_
   clear a E;intro a E
   refine sv E rfl rfl rfl (x_assign E rfl rfl) ?_
   clear a E;intro a E
   refine wpList_nil ?_
   refine q_then ?_
   refine wp_ret ?_
   refine q_thenR ?_
   refine out1 E rfl rfl ?_
   obtain rfl := Option.some.inj hm
   exact ⟨rfl, H.reads (fun r hr => hs13 r hr)⟩
  ·intro hb
   rw [if_f hb] at hm
   clear hb
   refine wp_skip ?_
   refine q_then ?_
   refine wp_seq ?_
   refine wp_region_lit ?_
   refine sv E rfl rfl rfl (x_move E rfl rfl) ?_
   clear a E;intro a E
   refine sv E rfl rfl rfl (x_move E rfl rfl) ?_
   clear a E;intro a E
   obtain ⟨u17, hx18, hm⟩ := bnd hm
   refine st_call E (wn rfl) rfl rfl (x_call E rfl rfl (cf18 _)) (c_cantonref06_Find v1 l2 s3 H hr14 hx18) ?_
   clear E H; clear a; clear w; rintro _ w ⟨rfl, H⟩ a E
   refine sv E rfl rfl rfl (x_move E rfl rfl) ?_
   clear a E;intro a E
   refine sv E rfl rfl rfl (x_ext E rfl rfl rfl) ?_
   clear a E;intro a E
   refine sv E rfl rfl rfl (x_ext E rfl rfl rfl) ?_
   clear a E;intro a E
   refine st_alloc E H (wn rfl) rfl rfl (cs := [.string (ByteArray.mk #[]), .string (ByteArray.mk #[]), .int .i64 0, .int .i64 0, .int .i64 0]) rfl (z := .agg #[.string ⟨#[]⟩, .string ⟨#[]⟩, .int .i64 0, .int .i64 0, .int .i64 0]) (by kernel_rfl) rfl ?_
   clear E H; clear a; clear w; intro p19 w a H E
   refine st_st (i := 0) E H (wn rfl) rfl (us := [.string u17.1.Path, .string u17.1.Data, .int .i64 u17.1.Version, .int .i64 u17.1.Turn, .int .i64 u17.1.Owner]) rfl rfl rfl rfl rfl sz39 rfl rfl ?_
   clear H; clear w; intro w H
   replace H : Sep w (Blk p19 39 [.string u17.1.Path, .string u17.1.Data, .int .i64 u17.1.Version, .int .i64 u17.1.Turn, .int .i64 u17.1.Owner] :: Fo) _ := H
   refine sv E rfl rfl rfl (x_assign E rfl rfl) ?_
   clear a E;intro a E
   refine wpList_nil ?_
   refine q_then ?_
   refine wp_seq ?_
   refine wp_seq_cut (fun a w => ∃ (b20 : Bool) (rs21 : List Rp), Env 147 a [(0, v1), (1, .string s3), (2, v4), (7, .bool u9), (8, .pointer (some ⟨p19, 0, none⟩)), (51, .bool b20)] ∧ Sep w (Blk p19 39 [.string u17.1.Path, .string u17.1.Data, .int .i64 u17.1.Version, .int .i64 u17.1.Turn, .int .i64 u17.1.Owner] :: Fo) rs21 ∧ (∀ r, r ∈ rs → r ∈ rs21) ∧ rSl k_api_Node v1 l2 ∈ rs21 ∧ rSl kS v4 l5 ∈ rs21 ∧ rTab Tryd.prog ∈ rs21 ∧ m_cantonlaw06_NodesVersions_j2 l5 u9 s3 l2 u17 b20 = some r) ?_ ?_
   ·refine wp_region_lit ?_
    refine sv E rfl rfl rfl (x_move E rfl rfl) ?_
    clear a E;intro a E
    refine sv E rfl rfl rfl (x_not E rfl rfl) ?_
    clear a E;intro a E
    refine sv E rfl rfl rfl (x_move E rfl rfl) ?_
    clear a E;intro a E
    rcases Bool.eq_false_or_eq_true (!u17.2) with hb90 | hb90
    ·rw [if_t hb90] at hm
     refine st_no E (wf' E rfl rfl rfl rfl hb90 rfl) rfl rfl ?_
     clear a E;intro a E
     refine st_no E (wf' E rfl rfl rfl rfl hb90 rfl) rfl rfl ?_
     clear a E;intro a E
     refine st_no E (wf' E rfl rfl rfl rfl hb90 rfl) rfl rfl ?_
     clear a E;intro a E
     refine sv E rfl rfl rfl (x_pickT E rfl rfl hb90 rfl) ?_
     clear a E;intro a E
     refine wpList_nil ?_
     refine q_then ?_
     exact ⟨true, _, ((((((E.nil.keep E 51 rfl).keep E 8 rfl).keep E 7 rfl).keep E 2 rfl).keep E 1 rfl).keep E 0 rfl), H, hs13, hr14, hr15, hr16, hm⟩
    ·rw [if_f hb90] at hm
     refine st_val E (ws' E rfl rfl rfl rfl hb90) rfl rfl (x_fa E rfl rfl (v := .pointer (some ⟨p19, 2, none⟩)) (fa39_2 _ _)) ?_
     clear a E;intro a E
     refine st_val E (ws' E rfl rfl rfl rfl hb90) rfl rfl (x_ldB (i := 0) E H rfl rfl rfl rfl Tryd.underlying2 rfl) ?_
     clear a E;intro a E
     refine st_val E (ws' E rfl rfl rfl rfl hb90) rfl rfl (x_bin E rfl rfl rfl rfl) ?_
     clear a E;intro a E
     refine sv E rfl rfl rfl (x_pickF E rfl rfl hb90 rfl) ?_
     clear a E;intro a E
     refine wpList_nil ?_
     refine q_then ?_
     exact ⟨decide (u17.1.Version > 1000), _, ((((((E.nil.keep E 51 rfl).keep E 8 rfl).keep E 7 rfl).keep E 2 rfl).keep E 1 rfl).keep E 0 rfl), H, hs13, hr14, hr15, hr16, hm⟩
   ·clear E H hm
    rintro a w ⟨b20, rs21, E, H, hs22, hr23, hr24, hr25, hm⟩
    unfold m_cantonlaw06_NodesVersions_j2 at hm
    refine wp_if E rfl ?_ ?_
    ·intro hb
     rw [if_t hb] at hm
     clear hb
     refine wp_seq ?_
     refine wp_region_lit ?_
     refine sv E rfl rfl rfl (x_move E rfl rfl) ?_
     clear a E;intro a E
     refine sv E rfl rfl rfl (x_assign E rfl rfl) ?_
     clear a E;intro a E
     refine wpList_nil ?_
     refine q_then ?_
     refine wp_ret ?_
     refine q_thenR ?_
     refine out1 E rfl rfl ?_
     replace H := H.drop 0
     obtain rfl := Option.some.inj hm
     exact ⟨rfl, H.reads (fun r hr => hs22 r hr)⟩
    ·intro hb
     rw [if_f hb] at hm
     clear hb
     refine wp_skip ?_
     refine q_then ?_
     refine wp_seq ?_
     refine wp_region_lit ?_
     refine sv E rfl rfl rfl (x_fa E rfl rfl (v := .pointer (some ⟨p19, 2, none⟩)) (fa39_2 _ _)) ?_
     clear a E;intro a E
     refine sv E rfl rfl rfl (x_ldB (i := 0) E H rfl rfl rfl rfl Tryd.underlying2 rfl) ?_
     clear a E;intro a E
     refine sv E rfl rfl rfl (x_assign E rfl rfl) ?_
     clear a E;intro a E
     refine wpList_nil ?_
     refine q_then ?_
     refine wp_seq ?_
     refine wp_seq ?_
     refine wp_region_lit ?_
     refine sv E rfl rfl rfl (x_assign E rfl rfl) ?_
     clear a E;intro a E
     refine wpList_nil ?_
     refine q_then ?_
     refine wp_block ?_
     refine wp_loop_g (fun k1 a w => ∃ (v26 : Value) (l27 : (List S_api_Node)) (x28 : Int) (x29 : Int) (rs30 : List Rp), Env 147 a [(0, v26), (1, .string s3), (2, v4), (7, .bool u9), (10, .int .i64 x28), (11, .int .i64 x29)] ∧ Sep w (Fo) rs30 ∧ (∀ r, r ∈ rs → r ∈ rs30) ∧ rSl k_api_Node v26 l27 ∈ rs30 ∧ rSl kS v4 l5 ∈ rs30 ∧ rTab Tryd.prog ∈ rs30 ∧ m_cantonlaw06_NodesVersions_l1 l5 u9 s3 k1 l27 x28 x29 = some r) (((l5.length : Int) - 0 : Int).toNat + 1) ?_ ?_
     ·replace H := H.drop 0
      exact ⟨v1, l2, u17.1.Version, 0, _, ((((((E.nil.keep E 11 rfl).keep E 10 rfl).keep E 7 rfl).keep E 2 rfl).keep E 1 rfl).keep E 0 rfl), H, hs22, hr23, hr24, hr25, hm⟩
     ·clear E H hm
      rintro k1 a w ⟨v26, l27, x28, x29, rs30, E, H, hs31, hr32, hr33, hr34, hm⟩
      cases k1 with
      | zero => exact (none_some hm rfl).elim
      | succ k1 =>
       unfold m_cantonlaw06_NodesVersions_l1 at hm
       refine wp_seq ?_
       refine wp_seq ?_
       refine wp_region_lit ?_
       refine sv E rfl rfl rfl (x_move E rfl rfl) ?_
       clear a E;intro a E
       refine sv E rfl rfl rfl (x_move E rfl rfl) ?_
       clear a E;intro a E
       refine sv E rfl rfl rfl (x_lenS E H rfl rfl hr33 Tryd.underlying29) ?_
       clear a E;intro a E
       refine sv E rfl rfl rfl (x_bin E rfl rfl rfl rfl) ?_
       clear a E;intro a E
       refine wpList_nil ?_
       refine q_then ?_
       refine wp_if E rfl ?_ ?_
       ·intro hb
        rw [if_t hb] at hm
        clear hb
        refine wp_skip ?_
        refine q_then ?_
        refine wp_seq ?_
        refine wp_block ?_
        refine wp_seq ?_
        refine wp_seq ?_
        refine wp_region_lit ?_
        refine sv E rfl rfl rfl (x_move E rfl rfl) ?_
        clear a E;intro a E
        refine sv E rfl rfl rfl (x_move E rfl rfl) ?_
        clear a E;intro a E
        obtain ⟨x35, hx36, hm⟩ := bnd hm
        refine st_ixS E H (wn rfl) rfl rfl rfl rfl rfl hr33 Tryd.underlying29 sz9 hx36 ?_
        clear E H; clear a; intro q37 a H E
        refine sv E rfl rfl rfl (x_ldA E H rfl rfl (.head _) Tryd.underlying9 rfl) ?_
        clear a E;intro a E
        refine sv E rfl rfl rfl (x_lenStr E rfl rfl Tryd.underlying9) ?_
        clear a E;intro a E
        refine sv E rfl rfl rfl (x_bin E rfl rfl rfl rfl) ?_
        clear a E;intro a E
        refine wpList_nil ?_
        refine q_then ?_
        refine wp_if E rfl ?_ ?_
        ·intro hb
         rw [if_t hb] at hm
         clear hb
         refine wp_seq ?_
         refine wp_region_lit ?_
         refine sv E rfl rfl rfl (x_move E rfl rfl) ?_
         clear a E;intro a E
         refine sv E rfl rfl rfl (x_assign E rfl rfl) ?_
         clear a E;intro a E
         refine wpList_nil ?_
         refine q_then ?_
         refine wp_ret ?_
         refine q_thenR ?_
         refine q_blkR ?_
         refine q_thenR ?_
         refine q_thenR ?_
         refine q_blkR ?_
         refine q_thenR ?_
         refine out1 E rfl rfl ?_
         obtain rfl := Option.some.inj hm
         exact ⟨rfl, H.reads (fun r hr => .tail _ (hs31 r hr))⟩
        ·intro hb
         rw [if_f hb] at hm
         clear hb
         refine wp_skip ?_
         refine q_then ?_
         refine wp_seq ?_
         refine wp_region_lit ?_
         refine sv E rfl rfl rfl (x_move E rfl rfl) ?_
         clear a E;intro a E
         refine sv E rfl rfl rfl (x_move E rfl rfl) ?_
         clear a E;intro a E
         refine sv E rfl rfl rfl (x_move E rfl rfl) ?_
         clear a E;intro a E
         refine sv E rfl rfl rfl (x_move E rfl rfl) ?_
         clear a E;intro a E
         obtain ⟨x38, hx39, hm⟩ := bnd hm
         refine st_ixS E H (wn rfl) rfl rfl rfl rfl rfl (.tail _ hr33) Tryd.underlying29 sz9 hx39 ?_
         clear E H; clear a; intro q40 a H E
         refine sv E rfl rfl rfl (x_ldA E H rfl rfl (.head _) Tryd.underlying9 rfl) ?_
         clear a E;intro a E
         refine sv E rfl rfl rfl (x_move E rfl rfl) ?_
         clear a E;intro a E
         refine sv E rfl rfl rfl (x_bin E rfl rfl rfl rfl) ?_
         clear a E;intro a E
         refine sv E rfl rfl rfl (x_build E (ps := [(0, .const (.int .i64 3)), (1, .tmp 70), (2, .tmp 74), (3, .tmp 76)]) (vs := [(0, .int .i64 3), (1, .string s3), (2, .string x38), (3, .int .i64 (IntKind.i64.wrap (x28 + 1)))]) rfl (by simp only [List.map]; rw [E.eval (x := .const (.int .i64 3)) (v := .int .i64 3) rfl, E.eval (x := .tmp 70) (v := .string s3) rfl, E.eval (x := .tmp 74) (v := .string x38) rfl, E.eval (x := .tmp 76) (v := .int .i64 (IntKind.i64.wrap (x28 + 1))) rfl]) (v := .agg #[.int .i64 3, .string s3, .string x38, .int .i64 (IntKind.i64.wrap (x28 + 1)), .int .i64 0, .bool false]) (by kernel_rfl)) ?_
         clear a E;intro a E
         obtain ⟨u41, hx42, hm⟩ := bnd hm
         refine st_call E (wn rfl) rfl rfl (x_call E rfl rfl (cf14 _)) (c_nodes_Apply v26 l27 (⟨3, s3, x38, IntKind.i64.wrap (x28 + 1), 0, false⟩ : S_api_Op) H (.tail _ (.tail _ hr32)) (.tail _ (.tail _ hr34)) hx42) ?_
         clear E H; clear a; clear w; rintro _ w ⟨v43, v44, rfl, H⟩ a E
         refine sv E rfl rfl rfl (x_move E rfl rfl) ?_
         clear a E;intro a E
         refine sv E rfl rfl rfl (x_ext E rfl rfl rfl) ?_
         clear a E;intro a E
         refine sv E rfl rfl rfl (x_ext E rfl rfl rfl) ?_
         clear a E;intro a E
         refine st_alloc E H (wn rfl) rfl rfl (cs := [.int .i64 0, .string (ByteArray.mk #[]), .string (ByteArray.mk #[]), .int .i64 0, .slice none 0 0]) rfl (z := .agg #[.int .i64 0, .string ⟨#[]⟩, .string ⟨#[]⟩, .int .i64 0, .slice none 0 0]) (by kernel_rfl) rfl ?_
         clear E H; clear a; clear w; intro p45 w a H E
         refine sv E rfl rfl rfl (x_assign E rfl rfl) ?_
         clear a E;intro a E
         obtain ⟨q46, x47, rfl⟩ := H.slform (.tail _ (.head _))
         refine st_st (i := 0) E H (wn rfl) rfl (us := [.int .i64 u41.2.Err, .string u41.2.Path, .string u41.2.Data, .int .i64 u41.2.Version, (.slice q46 u41.2.Names.length x47)]) rfl rfl rfl rfl rfl sz31 rfl rfl ?_
         clear H; clear w; intro w H
         replace H : Sep w (Blk p45 31 [.int .i64 u41.2.Err, .string u41.2.Path, .string u41.2.Data, .int .i64 u41.2.Version, (.slice q46 u41.2.Names.length x47)] :: Fo) _ := H
         refine wpList_nil ?_
         refine q_then ?_
         refine wp_seq ?_
         refine wp_region_lit ?_
         refine sv E rfl rfl rfl (x_move E rfl rfl) ?_
         clear a E;intro a E
         refine sv E rfl rfl rfl (x_move E rfl rfl) ?_
         clear a E;intro a E
         refine sv E rfl rfl rfl (x_move E rfl rfl) ?_
         clear a E;intro a E
         refine sv E rfl rfl rfl (x_bin E rfl rfl rfl rfl) ?_
         clear a E;intro a E
         refine sv E rfl rfl rfl (x_build E (ps := [(0, .const (.int .i64 4)), (1, .tmp 83), (3, .tmp 85)]) (vs := [(0, .int .i64 4), (1, .string s3), (3, .int .i64 (IntKind.i64.wrap (x28 + 1)))]) rfl (by simp only [List.map]; rw [E.eval (x := .const (.int .i64 4)) (v := .int .i64 4) rfl, E.eval (x := .tmp 83) (v := .string s3) rfl, E.eval (x := .tmp 85) (v := .int .i64 (IntKind.i64.wrap (x28 + 1))) rfl]) (v := .agg #[.int .i64 4, .string s3, .string (ByteArray.mk #[]), .int .i64 (IntKind.i64.wrap (x28 + 1)), .int .i64 0, .bool false]) (by kernel_rfl)) ?_
         clear a E;intro a E
         obtain ⟨u48, hx49, hm⟩ := bnd hm
         refine st_call E (wn rfl) rfl rfl (x_call E rfl rfl (cf14 _)) (c_nodes_Apply v26 l27 (⟨4, s3, (ByteArray.mk #[]), IntKind.i64.wrap (x28 + 1), 0, false⟩ : S_api_Op) H (.tail _ (.tail _ (.tail _ (.tail _ hr32)))) (.tail _ (.tail _ (.tail _ (.tail _ hr34)))) hx49) ?_
         clear E H; clear a; clear w; rintro _ w ⟨v50, v51, rfl, H⟩ a E
         refine sv E rfl rfl rfl (x_move E rfl rfl) ?_
         clear a E;intro a E
         refine sv E rfl rfl rfl (x_ext E rfl rfl rfl) ?_
         clear a E;intro a E
         refine sv E rfl rfl rfl (x_ext E rfl rfl rfl) ?_
         clear a E;intro a E
         refine st_alloc E H (wn rfl) rfl rfl (cs := [.int .i64 0, .string (ByteArray.mk #[]), .string (ByteArray.mk #[]), .int .i64 0, .slice none 0 0]) rfl (z := .agg #[.int .i64 0, .string ⟨#[]⟩, .string ⟨#[]⟩, .int .i64 0, .slice none 0 0]) (by kernel_rfl) rfl ?_
         clear E H; clear a; clear w; intro p52 w a H E
         refine sv E rfl rfl rfl (x_assign E rfl rfl) ?_
         clear a E;intro a E
         obtain ⟨q53, x54, rfl⟩ := H.slform (.tail _ (.head _))
         refine st_st (i := 0) E H (wn rfl) rfl (us := [.int .i64 u48.2.Err, .string u48.2.Path, .string u48.2.Data, .int .i64 u48.2.Version, (.slice q53 u48.2.Names.length x54)]) rfl rfl rfl rfl rfl sz31 rfl rfl ?_
         clear H; clear w; intro w H
         replace H : Sep w (Blk p52 31 [.int .i64 u48.2.Err, .string u48.2.Path, .string u48.2.Data, .int .i64 u48.2.Version, (.slice q53 u48.2.Names.length x54)] :: Blk p45 31 [.int .i64 u41.2.Err, .string u41.2.Path, .string u41.2.Data, .int .i64 u41.2.Version, (.slice q46 u41.2.Names.length x47)] :: Fo) _ := H
         refine wpList_nil ?_
         refine q_then ?_
         refine wp_seq ?_
         refine wp_region_lit ?_
         refine sv E rfl rfl rfl (x_move E rfl rfl) ?_
         clear a E;intro a E
         refine sv E rfl rfl rfl (x_move E rfl rfl) ?_
         clear a E;intro a E
         refine sv E rfl rfl rfl (x_move E rfl rfl) ?_
         clear a E;intro a E
         refine sv E rfl rfl rfl (x_move E rfl rfl) ?_
         clear a E;intro a E
         obtain ⟨x55, hx56, hm⟩ := bnd hm
         refine st_ixS E H (wn rfl) rfl rfl rfl rfl rfl (.tail _ (.tail _ (.tail _ (.tail _ (.tail _ (.tail _ hr33)))))) Tryd.underlying29 sz9 hx56 ?_
         clear E H; clear a; intro q57 a H E
         refine sv E rfl rfl rfl (x_ldA E H rfl rfl (.head _) Tryd.underlying9 rfl) ?_
         clear a E;intro a E
         refine sv E rfl rfl rfl (x_move E rfl rfl) ?_
         clear a E;intro a E
         refine sv E rfl rfl rfl (x_build E (ps := [(0, .const (.int .i64 3)), (1, .tmp 92), (2, .tmp 96), (3, .tmp 97)]) (vs := [(0, .int .i64 3), (1, .string s3), (2, .string x55), (3, .int .i64 x28)]) rfl (by simp only [List.map]; rw [E.eval (x := .const (.int .i64 3)) (v := .int .i64 3) rfl, E.eval (x := .tmp 92) (v := .string s3) rfl, E.eval (x := .tmp 96) (v := .string x55) rfl, E.eval (x := .tmp 97) (v := .int .i64 x28) rfl]) (v := .agg #[.int .i64 3, .string s3, .string x55, .int .i64 x28, .int .i64 0, .bool false]) (by kernel_rfl)) ?_
         clear a E;intro a E
         obtain ⟨u58, hx59, hm⟩ := bnd hm
         refine st_call E (wn rfl) rfl rfl (x_call E rfl rfl (cf14 _)) (c_nodes_Apply v26 l27 (⟨3, s3, x55, x28, 0, false⟩ : S_api_Op) H (.tail _ (.tail _ (.tail _ (.tail _ (.tail _ (.tail _ (.tail _ hr32))))))) (.tail _ (.tail _ (.tail _ (.tail _ (.tail _ (.tail _ (.tail _ hr34))))))) hx59) ?_
         clear E H; clear a; clear w; rintro _ w ⟨v60, v61, rfl, H⟩ a E
         refine sv E rfl rfl rfl (x_move E rfl rfl) ?_
         clear a E;intro a E
         refine sv E rfl rfl rfl (x_ext E rfl rfl rfl) ?_
         clear a E;intro a E
         refine sv E rfl rfl rfl (x_ext E rfl rfl rfl) ?_
         clear a E;intro a E
         refine st_alloc E H (wn rfl) rfl rfl (cs := [.int .i64 0, .string (ByteArray.mk #[]), .string (ByteArray.mk #[]), .int .i64 0, .slice none 0 0]) rfl (z := .agg #[.int .i64 0, .string ⟨#[]⟩, .string ⟨#[]⟩, .int .i64 0, .slice none 0 0]) (by kernel_rfl) rfl ?_
         clear E H; clear a; clear w; intro p62 w a H E
         refine sv E rfl rfl rfl (x_assign E rfl rfl) ?_
         clear a E;intro a E
         obtain ⟨q63, x64, rfl⟩ := H.slform (.tail _ (.head _))
         refine st_st (i := 0) E H (wn rfl) rfl (us := [.int .i64 u58.2.Err, .string u58.2.Path, .string u58.2.Data, .int .i64 u58.2.Version, (.slice q63 u58.2.Names.length x64)]) rfl rfl rfl rfl rfl sz31 rfl rfl ?_
         clear H; clear w; intro w H
         replace H : Sep w (Blk p62 31 [.int .i64 u58.2.Err, .string u58.2.Path, .string u58.2.Data, .int .i64 u58.2.Version, (.slice q63 u58.2.Names.length x64)] :: Blk p52 31 [.int .i64 u48.2.Err, .string u48.2.Path, .string u48.2.Data, .int .i64 u48.2.Version, (.slice q53 u48.2.Names.length x54)] :: Blk p45 31 [.int .i64 u41.2.Err, .string u41.2.Path, .string u41.2.Data, .int .i64 u41.2.Version, (.slice q46 u41.2.Names.length x47)] :: Fo) _ := H
         refine wpList_nil ?_
         refine q_then ?_
         refine wp_seq ?_
         refine wp_region_lit ?_
         refine sv E rfl rfl rfl (x_move E rfl rfl) ?_
         clear a E;intro a E
         refine sv E rfl rfl rfl (x_move E rfl rfl) ?_
         clear a E;intro a E
         refine sv E rfl rfl rfl (x_build E (ps := [(0, .const (.int .i64 5)), (1, .tmp 104)]) (vs := [(0, .int .i64 5), (1, .string s3)]) rfl (by simp only [List.map]; rw [E.eval (x := .const (.int .i64 5)) (v := .int .i64 5) rfl, E.eval (x := .tmp 104) (v := .string s3) rfl]) (v := .agg #[.int .i64 5, .string s3, .string (ByteArray.mk #[]), .int .i64 0, .int .i64 0, .bool false]) (by kernel_rfl)) ?_
         clear a E;intro a E
         obtain ⟨u65, hx66, hm⟩ := bnd hm
         refine st_call E (wn rfl) rfl rfl (x_call E rfl rfl (cf14 _)) (c_nodes_Apply v60 u58.1 (⟨5, s3, (ByteArray.mk #[]), 0, 0, false⟩ : S_api_Op) H (.head _) (.tail _ (.tail _ (.tail _ (.tail _ (.tail _ (.tail _ (.tail _ (.tail _ (.tail _ hr34))))))))) hx66) ?_
         clear E H; clear a; clear w; rintro _ w ⟨v67, v68, rfl, H⟩ a E
         refine sv E rfl rfl rfl (x_move E rfl rfl) ?_
         clear a E;intro a E
         refine sv E rfl rfl rfl (x_ext E rfl rfl rfl) ?_
         clear a E;intro a E
         refine sv E rfl rfl rfl (x_ext E rfl rfl rfl) ?_
         clear a E;intro a E
         refine st_alloc E H (wn rfl) rfl rfl (cs := [.int .i64 0, .string (ByteArray.mk #[]), .string (ByteArray.mk #[]), .int .i64 0, .slice none 0 0]) rfl (z := .agg #[.int .i64 0, .string ⟨#[]⟩, .string ⟨#[]⟩, .int .i64 0, .slice none 0 0]) (by kernel_rfl) rfl ?_
         clear E H; clear a; clear w; intro p69 w a H E
         refine sv E rfl rfl rfl (x_assign E rfl rfl) ?_
         clear a E;intro a E
         obtain ⟨q70, x71, rfl⟩ := H.slform (.tail _ (.head _))
         refine st_st (i := 0) E H (wn rfl) rfl (us := [.int .i64 u65.2.Err, .string u65.2.Path, .string u65.2.Data, .int .i64 u65.2.Version, (.slice q70 u65.2.Names.length x71)]) rfl rfl rfl rfl rfl sz31 rfl rfl ?_
         clear H; clear w; intro w H
         replace H : Sep w (Blk p69 31 [.int .i64 u65.2.Err, .string u65.2.Path, .string u65.2.Data, .int .i64 u65.2.Version, (.slice q70 u65.2.Names.length x71)] :: Blk p62 31 [.int .i64 u58.2.Err, .string u58.2.Path, .string u58.2.Data, .int .i64 u58.2.Version, (.slice q63 u58.2.Names.length x64)] :: Blk p52 31 [.int .i64 u48.2.Err, .string u48.2.Path, .string u48.2.Data, .int .i64 u48.2.Version, (.slice q53 u48.2.Names.length x54)] :: Blk p45 31 [.int .i64 u41.2.Err, .string u41.2.Path, .string u41.2.Data, .int .i64 u41.2.Version, (.slice q46 u41.2.Names.length x47)] :: Fo) _ := H
         refine wpList_nil ?_
         refine q_then ?_
         refine wp_seq ?_
         refine wp_region_lit ?_
         refine sv E rfl rfl rfl (x_move E rfl rfl) ?_
         clear a E;intro a E
         refine sv E rfl rfl rfl (x_bin E rfl rfl rfl rfl) ?_
         clear a E;intro a E
         refine sv E rfl rfl rfl (x_assign E rfl rfl) ?_
         clear a E;intro a E
         refine wpList_nil ?_
         refine q_then ?_
         refine wp_seq ?_
         refine wp_seq_cut (fun a w => ∃ (b72 : Bool) (rs73 : List Rp), Env 147 a [(1, .string s3), (2, v4), (7, .bool u9), (10, .int .i64 (IntKind.i64.wrap (x28 + 1))), (11, .int .i64 x29), (16, v60), (144, .bool b72)] ∧ Sep w (Fo) rs73 ∧ (∀ r, r ∈ rs → r ∈ rs73) ∧ rSl kS v4 l5 ∈ rs73 ∧ rSl k_api_Node v60 u58.1 ∈ rs73 ∧ rTab Tryd.prog ∈ rs73 ∧ m_cantonlaw06_NodesVersions_j3 (m_cantonlaw06_NodesVersions_l1 l5 u9 s3 k1) u58 x28 x29 b72 = some r) ?_ ?_
         ·obtain ⟨u78, H⟩ := H.raw (.tail _ (.tail _ (.tail _ (.tail _ (.tail _ (.tail _ (.tail _ (.tail _ (.tail _ (.tail _ (.tail _ hr33)))))))))))
          replace H : Sep w (Blk p69 31 [.int .i64 u65.2.Err, .string u65.2.Path, .string u65.2.Data, .int .i64 u65.2.Version, (.slice q70 u65.2.Names.length x71)] :: Blk p62 31 [.int .i64 u58.2.Err, .string u58.2.Path, .string u58.2.Data, .int .i64 u58.2.Version, (.slice q63 u58.2.Names.length x64)] :: Blk p52 31 [.int .i64 u48.2.Err, .string u48.2.Path, .string u48.2.Data, .int .i64 u48.2.Version, (.slice q53 u48.2.Names.length x54)] :: Blk p45 31 [.int .i64 u41.2.Err, .string u41.2.Path, .string u41.2.Data, .int .i64 u41.2.Version, (.slice q46 u41.2.Names.length x47)] :: Fo) (rRow kS v4 l5 u78 :: rSl k_api_Node v67 u65.1 :: rSl kS (.slice q70 u65.2.Names.length x71) u65.2.Names :: rSl k_api_Node v60 u58.1 :: rSl kS (.slice q63 u58.2.Names.length x64) u58.2.Names :: rAt kS q57 x55 :: rSl k_api_Node v50 u48.1 :: rSl kS (.slice q53 u48.2.Names.length x54) u48.2.Names :: rSl k_api_Node v43 u41.1 :: rSl kS (.slice q46 u41.2.Names.length x47) u41.2.Names :: rAt kS q40 x38 :: rAt kS q37 x35 :: rs30) := H
          have hI : Still [Blk p69 31 [.int .i64 u65.2.Err, .string u65.2.Path, .string u65.2.Data, .int .i64 u65.2.Version, (.slice q70 u65.2.Names.length x71)], Blk p62 31 [.int .i64 u58.2.Err, .string u58.2.Path, .string u58.2.Data, .int .i64 u58.2.Version, (.slice q63 u58.2.Names.length x64)], Blk p52 31 [.int .i64 u48.2.Err, .string u48.2.Path, .string u48.2.Data, .int .i64 u48.2.Version, (.slice q53 u48.2.Names.length x54)], Blk p45 31 [.int .i64 u41.2.Err, .string u41.2.Path, .string u41.2.Data, .int .i64 u41.2.Version, (.slice q46 u41.2.Names.length x47)]] [rRow kS v4 l5 u78] { w with drawn := w.drawn + 1 } := ⟨_, _, H.kept (Kp.drawn _ w _), (subO_cons (.head _) (subO_cons (.tail _ (.head _)) (subO_cons (.tail _ (.tail _ (.head _))) (subO_cons (.tail _ (.tail _ (.tail _ (.head _)))) (subO_nil))))), (sub_cons (.head _) (sub_nil))⟩
          refine wp_draw _ [(0, 0), (1, 0), (2, 0), (3, 0), (4, 0), (5, 0), (6, 0), (7, 0), (8, 0), (9, 0), (10, 0), (11, 0), (12, 0), (13, 0), (14, 0), (15, 0), (16, 0), (17, 0), (18, 0), (19, 0), (20, 0), (21, 0), (22, 0), (23, 0), (24, 0), (25, 0), (26, 0), (27, 0), (28, 0), (29, 0), (30, 0), (31, 0), (32, 0), (33, 0)] mixedOk (by kernel_rfl) (fun _ _ _ h => False.elim h.2) hI ?_
          replace H := H.kept (Kp.drawn _ w (w.drawn + 1))
          generalize ({ w with drawn := w.drawn + 1 } : World) = w at H hI ⊢
          replace hI : ∃ W, Still [Blk p69 31 [.int .i64 u65.2.Err, .string u65.2.Path, .string u65.2.Data, .int .i64 u65.2.Version, (.slice q70 u65.2.Names.length x71)], Blk p62 31 [.int .i64 u58.2.Err, .string u58.2.Path, .string u58.2.Data, .int .i64 u58.2.Version, (.slice q63 u58.2.Names.length x64)], Blk p52 31 [.int .i64 u48.2.Err, .string u48.2.Path, .string u48.2.Data, .int .i64 u48.2.Version, (.slice q53 u48.2.Names.length x54)], Blk p45 31 [.int .i64 u41.2.Err, .string u41.2.Path, .string u41.2.Data, .int .i64 u41.2.Version, (.slice q46 u41.2.Names.length x47)]] [rRow kS v4 l5 u78] W := ⟨_, hI⟩
          obtain ⟨W0, hI⟩ := hI
          refine fr_val E rfl (wn rfl) rfl rfl (fun w hW => x_fa E rfl rfl (v := .pointer (some ⟨p45, 0, none⟩)) (fa31_0 _ _)) ?_
          clear a E;intro a E
          refine fr_val E rfl (wn rfl) rfl rfl (fun w hW => x_ld E rfl rfl (ib_ld (.tail _ (.tail _ (.tail _ (.head _)))) rfl Tryd.underlying28 rfl w hW)) ?_
          clear a E;intro a E
          refine fr_val E rfl (wn rfl) rfl rfl (fun w hW => (x_bin E rfl rfl rfl rfl)) ?_
          clear a E;intro a E
          refine fr_val E rfl (wn rfl) rfl rfl (fun w hW => (x_move E rfl rfl)) ?_
          clear a E;intro a E
          rcases Bool.eq_false_or_eq_true (u41.2.Err != 63) with hb79 | hb79
          ·rw [if_t hb79] at hm
           refine fr_no E rfl (wf' E rfl rfl rfl rfl hb79 rfl) rfl rfl ?_
           clear a E;intro a E
           refine fr_no E rfl (wf' E rfl rfl rfl rfl hb79 rfl) rfl rfl ?_
           clear a E;intro a E
           refine fr_no E rfl (wf' E rfl rfl rfl rfl hb79 rfl) rfl rfl ?_
           clear a E;intro a E
           refine fr_val E rfl (wn rfl) rfl rfl (fun w hW => (x_pickT E rfl rfl hb79 rfl)) ?_
           clear a E;intro a E
           refine fr_val E rfl (wn rfl) rfl rfl (fun w hW => (x_move E rfl rfl)) ?_
           clear a E;intro a E
           refine fr_no E rfl (wf E rfl rfl rfl rfl rfl) rfl rfl ?_
           clear a E;intro a E
           refine fr_no E rfl (wf E rfl rfl rfl rfl rfl) rfl rfl ?_
           clear a E;intro a E
           refine fr_no E rfl (wf E rfl rfl rfl rfl rfl) rfl rfl ?_
           clear a E;intro a E
           refine fr_val E rfl (wn rfl) rfl rfl (fun w hW => (x_pickT E rfl rfl rfl rfl)) ?_
           clear a E;intro a E
           refine fr_val E rfl (wn rfl) rfl rfl (fun w hW => (x_move E rfl rfl)) ?_
           clear a E;intro a E
           refine fr_no E rfl (wf E rfl rfl rfl rfl rfl) rfl rfl ?_
           clear a E;intro a E
           refine fr_no E rfl (wf E rfl rfl rfl rfl rfl) rfl rfl ?_
           clear a E;intro a E
           refine fr_no E rfl (wf E rfl rfl rfl rfl rfl) rfl rfl ?_
           clear a E;intro a E
           refine fr_no E rfl (wf E rfl rfl rfl rfl rfl) rfl rfl ?_
           clear a E;intro a E
           refine fr_val E rfl (wn rfl) rfl rfl (fun w hW => (x_pickT E rfl rfl rfl rfl)) ?_
           clear a E;intro a E
           refine fr_val E rfl (wn rfl) rfl rfl (fun w hW => (x_move E rfl rfl)) ?_
           clear a E;intro a E
           refine fr_no E rfl (wf E rfl rfl rfl rfl rfl) rfl rfl ?_
           clear a E;intro a E
           refine fr_no E rfl (wf E rfl rfl rfl rfl rfl) rfl rfl ?_
           clear a E;intro a E
           refine fr_no E rfl (wf E rfl rfl rfl rfl rfl) rfl rfl ?_
           clear a E;intro a E
           refine fr_no E rfl (wf E rfl rfl rfl rfl rfl) rfl rfl ?_
           clear a E;intro a E
           refine fr_no E rfl (wf E rfl rfl rfl rfl rfl) rfl rfl ?_
           clear a E;intro a E
           refine fr_no E rfl (wf E rfl rfl rfl rfl rfl) rfl rfl ?_
           clear a E;intro a E
           refine fr_no E rfl (wf E rfl rfl rfl rfl rfl) rfl rfl ?_
           clear a E;intro a E
           refine fr_val E rfl (wn rfl) rfl rfl (fun w hW => (x_pickT E rfl rfl rfl rfl)) ?_
           clear a E;intro a E
           refine fr_val E rfl (wn rfl) rfl rfl (fun w hW => (x_move E rfl rfl)) ?_
           clear a E;intro a E
           refine fr_no E rfl (wf E rfl rfl rfl rfl rfl) rfl rfl ?_
           clear a E;intro a E
           refine fr_no E rfl (wf E rfl rfl rfl rfl rfl) rfl rfl ?_
           clear a E;intro a E
           refine fr_no E rfl (wf E rfl rfl rfl rfl rfl) rfl rfl ?_
           clear a E;intro a E
           refine fr_no E rfl (wf E rfl rfl rfl rfl rfl) rfl rfl ?_
           clear a E;intro a E
           refine fr_val E rfl (wn rfl) rfl rfl (fun w hW => (x_pickT E rfl rfl rfl rfl)) ?_
           clear a E;intro a E
           refine fr_nil ?_
           clear hI
           refine q_then ?_
           replace H := H.drop 0
           replace H := H.drop 0
           replace H := H.drop 0
           replace H := H.drop 0
           exact ⟨true, _, (((((((E.nil.keep E 144 rfl).keep E 16 rfl).keep E 11 rfl).keep E 10 rfl).keep E 7 rfl).keep E 2 rfl).keep E 1 rfl), H, fun r hr => .tail _ (.tail _ (.tail _ (.tail _ (.tail _ (.tail _ (.tail _ (.tail _ (.tail _ (.tail _ (.tail _ (.tail _ (hs31 r hr)))))))))))), (.tail _ (.tail _ (.tail _ (.tail _ (.tail _ (.tail _ (.tail _ (.tail _ (.tail _ (.tail _ (.tail _ (.tail _ hr33)))))))))))), (.tail _ (.tail _ (.tail _ (.head _)))), (.tail _ (.tail _ (.tail _ (.tail _ (.tail _ (.tail _ (.tail _ (.tail _ (.tail _ (.tail _ (.tail _ (.tail _ hr34)))))))))))), hm⟩
          ·rw [if_f hb79] at hm
           refine fr_val E rfl (ws' E rfl rfl rfl rfl hb79) rfl rfl (fun w hW => x_fa E rfl rfl (v := .pointer (some ⟨p52, 0, none⟩)) (fa31_0 _ _)) ?_
           clear a E;intro a E
           refine fr_val E rfl (ws' E rfl rfl rfl rfl hb79) rfl rfl (fun w hW => x_ld E rfl rfl (ib_ld (.tail _ (.tail _ (.head _))) rfl Tryd.underlying28 rfl w hW)) ?_
           clear a E;intro a E
           refine fr_val E rfl (ws' E rfl rfl rfl rfl hb79) rfl rfl (fun w hW => (x_bin E rfl rfl rfl rfl)) ?_
           clear a E;intro a E
           refine fr_val E rfl (wn rfl) rfl rfl (fun w hW => (x_pickF E rfl rfl hb79 rfl)) ?_
           clear a E;intro a E
           refine fr_val E rfl (wn rfl) rfl rfl (fun w hW => (x_move E rfl rfl)) ?_
           clear a E;intro a E
           rcases Bool.eq_false_or_eq_true (u48.2.Err != 63) with hb80 | hb80
           ·rw [if_t hb80] at hm
            refine fr_no E rfl (wf' E rfl rfl rfl rfl hb80 rfl) rfl rfl ?_
            clear a E;intro a E
            refine fr_no E rfl (wf' E rfl rfl rfl rfl hb80 rfl) rfl rfl ?_
            clear a E;intro a E
            refine fr_no E rfl (wf' E rfl rfl rfl rfl hb80 rfl) rfl rfl ?_
            clear a E;intro a E
            refine fr_val E rfl (wn rfl) rfl rfl (fun w hW => (x_pickT E rfl rfl hb80 rfl)) ?_
            clear a E;intro a E
            refine fr_val E rfl (wn rfl) rfl rfl (fun w hW => (x_move E rfl rfl)) ?_
            clear a E;intro a E
            refine fr_no E rfl (wf E rfl rfl rfl rfl rfl) rfl rfl ?_
            clear a E;intro a E
            refine fr_no E rfl (wf E rfl rfl rfl rfl rfl) rfl rfl ?_
            clear a E;intro a E
            refine fr_no E rfl (wf E rfl rfl rfl rfl rfl) rfl rfl ?_
            clear a E;intro a E
            refine fr_no E rfl (wf E rfl rfl rfl rfl rfl) rfl rfl ?_
            clear a E;intro a E
            refine fr_val E rfl (wn rfl) rfl rfl (fun w hW => (x_pickT E rfl rfl rfl rfl)) ?_
            clear a E;intro a E
            refine fr_val E rfl (wn rfl) rfl rfl (fun w hW => (x_move E rfl rfl)) ?_
            clear a E;intro a E
            refine fr_no E rfl (wf E rfl rfl rfl rfl rfl) rfl rfl ?_
            clear a E;intro a E
            refine fr_no E rfl (wf E rfl rfl rfl rfl rfl) rfl rfl ?_
            clear a E;intro a E
            refine fr_no E rfl (wf E rfl rfl rfl rfl rfl) rfl rfl ?_
            clear a E;intro a E
            refine fr_no E rfl (wf E rfl rfl rfl rfl rfl) rfl rfl ?_
            clear a E;intro a E
            refine fr_no E rfl (wf E rfl rfl rfl rfl rfl) rfl rfl ?_
            clear a E;intro a E
            refine fr_no E rfl (wf E rfl rfl rfl rfl rfl) rfl rfl ?_
            clear a E;intro a E
            refine fr_no E rfl (wf E rfl rfl rfl rfl rfl) rfl rfl ?_
            clear a E;intro a E
            refine fr_val E rfl (wn rfl) rfl rfl (fun w hW => (x_pickT E rfl rfl rfl rfl)) ?_
            clear a E;intro a E
            refine fr_val E rfl (wn rfl) rfl rfl (fun w hW => (x_move E rfl rfl)) ?_
            clear a E;intro a E
            refine fr_no E rfl (wf E rfl rfl rfl rfl rfl) rfl rfl ?_
            clear a E;intro a E
            refine fr_no E rfl (wf E rfl rfl rfl rfl rfl) rfl rfl ?_
            clear a E;intro a E
            refine fr_no E rfl (wf E rfl rfl rfl rfl rfl) rfl rfl ?_
            clear a E;intro a E
            refine fr_no E rfl (wf E rfl rfl rfl rfl rfl) rfl rfl ?_
            clear a E;intro a E
            refine fr_val E rfl (wn rfl) rfl rfl (fun w hW => (x_pickT E rfl rfl rfl rfl)) ?_
            clear a E;intro a E
            refine fr_nil ?_
            clear hI
            refine q_then ?_
            replace H := H.drop 0
            replace H := H.drop 0
            replace H := H.drop 0
            replace H := H.drop 0
            exact ⟨true, _, (((((((E.nil.keep E 144 rfl).keep E 16 rfl).keep E 11 rfl).keep E 10 rfl).keep E 7 rfl).keep E 2 rfl).keep E 1 rfl), H, fun r hr => .tail _ (.tail _ (.tail _ (.tail _ (.tail _ (.tail _ (.tail _ (.tail _ (.tail _ (.tail _ (.tail _ (.tail _ (hs31 r hr)))))))))))), (.tail _ (.tail _ (.tail _ (.tail _ (.tail _ (.tail _ (.tail _ (.tail _ (.tail _ (.tail _ (.tail _ (.tail _ hr33)))))))))))), (.tail _ (.tail _ (.tail _ (.head _)))), (.tail _ (.tail _ (.tail _ (.tail _ (.tail _ (.tail _ (.tail _ (.tail _ (.tail _ (.tail _ (.tail _ (.tail _ hr34)))))))))))), hm⟩
           ·rw [if_f hb80] at hm
            refine fr_val E rfl (ws' E rfl rfl rfl rfl hb80) rfl rfl (fun w hW => x_fa E rfl rfl (v := .pointer (some ⟨p62, 0, none⟩)) (fa31_0 _ _)) ?_
            clear a E;intro a E
            refine fr_val E rfl (ws' E rfl rfl rfl rfl hb80) rfl rfl (fun w hW => x_ld E rfl rfl (ib_ld (.tail _ (.head _)) rfl Tryd.underlying28 rfl w hW)) ?_
            clear a E;intro a E
            refine fr_val E rfl (ws' E rfl rfl rfl rfl hb80) rfl rfl (fun w hW => (x_bin E rfl rfl rfl rfl)) ?_
            clear a E;intro a E
            refine fr_val E rfl (wn rfl) rfl rfl (fun w hW => (x_pickF E rfl rfl hb80 rfl)) ?_
            clear a E;intro a E
            refine fr_val E rfl (wn rfl) rfl rfl (fun w hW => (x_move E rfl rfl)) ?_
            clear a E;intro a E
            rcases Bool.eq_false_or_eq_true (u58.2.Err != 0) with hb81 | hb81
            ·rw [if_t hb81] at hm
             refine fr_no E rfl (wf' E rfl rfl rfl rfl hb81 rfl) rfl rfl ?_
             clear a E;intro a E
             refine fr_no E rfl (wf' E rfl rfl rfl rfl hb81 rfl) rfl rfl ?_
             clear a E;intro a E
             refine fr_no E rfl (wf' E rfl rfl rfl rfl hb81 rfl) rfl rfl ?_
             clear a E;intro a E
             refine fr_no E rfl (wf' E rfl rfl rfl rfl hb81 rfl) rfl rfl ?_
             clear a E;intro a E
             refine fr_val E rfl (wn rfl) rfl rfl (fun w hW => (x_pickT E rfl rfl hb81 rfl)) ?_
             clear a E;intro a E
             refine fr_val E rfl (wn rfl) rfl rfl (fun w hW => (x_move E rfl rfl)) ?_
             clear a E;intro a E
             refine fr_no E rfl (wf E rfl rfl rfl rfl rfl) rfl rfl ?_
             clear a E;intro a E
             refine fr_no E rfl (wf E rfl rfl rfl rfl rfl) rfl rfl ?_
             clear a E;intro a E
             refine fr_no E rfl (wf E rfl rfl rfl rfl rfl) rfl rfl ?_
             clear a E;intro a E
             refine fr_no E rfl (wf E rfl rfl rfl rfl rfl) rfl rfl ?_
             clear a E;intro a E
             refine fr_no E rfl (wf E rfl rfl rfl rfl rfl) rfl rfl ?_
             clear a E;intro a E
             refine fr_no E rfl (wf E rfl rfl rfl rfl rfl) rfl rfl ?_
             clear a E;intro a E
             refine fr_no E rfl (wf E rfl rfl rfl rfl rfl) rfl rfl ?_
             clear a E;intro a E
             refine fr_val E rfl (wn rfl) rfl rfl (fun w hW => (x_pickT E rfl rfl rfl rfl)) ?_
             clear a E;intro a E
             refine fr_val E rfl (wn rfl) rfl rfl (fun w hW => (x_move E rfl rfl)) ?_
             clear a E;intro a E
             refine fr_no E rfl (wf E rfl rfl rfl rfl rfl) rfl rfl ?_
             clear a E;intro a E
             refine fr_no E rfl (wf E rfl rfl rfl rfl rfl) rfl rfl ?_
             clear a E;intro a E
             refine fr_no E rfl (wf E rfl rfl rfl rfl rfl) rfl rfl ?_
             clear a E;intro a E
             refine fr_no E rfl (wf E rfl rfl rfl rfl rfl) rfl rfl ?_
             clear a E;intro a E
             refine fr_val E rfl (wn rfl) rfl rfl (fun w hW => (x_pickT E rfl rfl rfl rfl)) ?_
             clear a E;intro a E
             refine fr_nil ?_
             clear hI
             refine q_then ?_
             replace H := H.drop 0
             replace H := H.drop 0
             replace H := H.drop 0
             replace H := H.drop 0
             exact ⟨true, _, (((((((E.nil.keep E 144 rfl).keep E 16 rfl).keep E 11 rfl).keep E 10 rfl).keep E 7 rfl).keep E 2 rfl).keep E 1 rfl), H, fun r hr => .tail _ (.tail _ (.tail _ (.tail _ (.tail _ (.tail _ (.tail _ (.tail _ (.tail _ (.tail _ (.tail _ (.tail _ (hs31 r hr)))))))))))), (.tail _ (.tail _ (.tail _ (.tail _ (.tail _ (.tail _ (.tail _ (.tail _ (.tail _ (.tail _ (.tail _ (.tail _ hr33)))))))))))), (.tail _ (.tail _ (.tail _ (.head _)))), (.tail _ (.tail _ (.tail _ (.tail _ (.tail _ (.tail _ (.tail _ (.tail _ (.tail _ (.tail _ (.tail _ (.tail _ hr34)))))))))))), hm⟩
            ·rw [if_f hb81] at hm
             refine fr_val E rfl (ws' E rfl rfl rfl rfl hb81) rfl rfl (fun w hW => x_fa E rfl rfl (v := .pointer (some ⟨p62, 3, none⟩)) (fa31_3 _ _)) ?_
             clear a E;intro a E
             refine fr_val E rfl (ws' E rfl rfl rfl rfl hb81) rfl rfl (fun w hW => x_ld E rfl rfl (ib_ld (.tail _ (.head _)) rfl Tryd.underlying2 rfl w hW)) ?_
             clear a E;intro a E
             refine fr_val E rfl (ws' E rfl rfl rfl rfl hb81) rfl rfl (fun w hW => (x_move E rfl rfl)) ?_
             clear a E;intro a E
             refine fr_val E rfl (ws' E rfl rfl rfl rfl hb81) rfl rfl (fun w hW => (x_bin E rfl rfl rfl rfl)) ?_
             clear a E;intro a E
             refine fr_val E rfl (wn rfl) rfl rfl (fun w hW => (x_pickF E rfl rfl hb81 rfl)) ?_
             clear a E;intro a E
             refine fr_val E rfl (wn rfl) rfl rfl (fun w hW => (x_move E rfl rfl)) ?_
             clear a E;intro a E
             rcases Bool.eq_false_or_eq_true (u58.2.Version != (IntKind.i64.wrap (x28 + 1))) with hb82 | hb82
             ·rw [if_t hb82] at hm
              refine fr_no E rfl (wf' E rfl rfl rfl rfl hb82 rfl) rfl rfl ?_
              clear a E;intro a E
              refine fr_no E rfl (wf' E rfl rfl rfl rfl hb82 rfl) rfl rfl ?_
              clear a E;intro a E
              refine fr_no E rfl (wf' E rfl rfl rfl rfl hb82 rfl) rfl rfl ?_
              clear a E;intro a E
              refine fr_no E rfl (wf' E rfl rfl rfl rfl hb82 rfl) rfl rfl ?_
              clear a E;intro a E
              refine fr_no E rfl (wf' E rfl rfl rfl rfl hb82 rfl) rfl rfl ?_
              clear a E;intro a E
              refine fr_no E rfl (wf' E rfl rfl rfl rfl hb82 rfl) rfl rfl ?_
              clear a E;intro a E
              refine fr_no E rfl (wf' E rfl rfl rfl rfl hb82 rfl) rfl rfl ?_
              clear a E;intro a E
              refine fr_val E rfl (wn rfl) rfl rfl (fun w hW => (x_pickT E rfl rfl hb82 rfl)) ?_
              clear a E;intro a E
              refine fr_val E rfl (wn rfl) rfl rfl (fun w hW => (x_move E rfl rfl)) ?_
              clear a E;intro a E
              refine fr_no E rfl (wf E rfl rfl rfl rfl rfl) rfl rfl ?_
              clear a E;intro a E
              refine fr_no E rfl (wf E rfl rfl rfl rfl rfl) rfl rfl ?_
              clear a E;intro a E
              refine fr_no E rfl (wf E rfl rfl rfl rfl rfl) rfl rfl ?_
              clear a E;intro a E
              refine fr_no E rfl (wf E rfl rfl rfl rfl rfl) rfl rfl ?_
              clear a E;intro a E
              refine fr_val E rfl (wn rfl) rfl rfl (fun w hW => (x_pickT E rfl rfl rfl rfl)) ?_
              clear a E;intro a E
              refine fr_nil ?_
              clear hI
              refine q_then ?_
              replace H := H.drop 0
              replace H := H.drop 0
              replace H := H.drop 0
              replace H := H.drop 0
              exact ⟨true, _, (((((((E.nil.keep E 144 rfl).keep E 16 rfl).keep E 11 rfl).keep E 10 rfl).keep E 7 rfl).keep E 2 rfl).keep E 1 rfl), H, fun r hr => .tail _ (.tail _ (.tail _ (.tail _ (.tail _ (.tail _ (.tail _ (.tail _ (.tail _ (.tail _ (.tail _ (.tail _ (hs31 r hr)))))))))))), (.tail _ (.tail _ (.tail _ (.tail _ (.tail _ (.tail _ (.tail _ (.tail _ (.tail _ (.tail _ (.tail _ (.tail _ hr33)))))))))))), (.tail _ (.tail _ (.tail _ (.head _)))), (.tail _ (.tail _ (.tail _ (.tail _ (.tail _ (.tail _ (.tail _ (.tail _ (.tail _ (.tail _ (.tail _ (.tail _ hr34)))))))))))), hm⟩
             ·rw [if_f hb82] at hm
              refine fr_val E rfl (ws' E rfl rfl rfl rfl hb82) rfl rfl (fun w hW => x_fa E rfl rfl (v := .pointer (some ⟨p69, 2, none⟩)) (fa31_2 _ _)) ?_
              clear a E;intro a E
              refine fr_val E rfl (ws' E rfl rfl rfl rfl hb82) rfl rfl (fun w hW => x_ld E rfl rfl (ib_ld (.head _) rfl Tryd.underlying9 rfl w hW)) ?_
              clear a E;intro a E
              refine fr_val E rfl (ws' E rfl rfl rfl rfl hb82) rfl rfl (fun w hW => (x_move E rfl rfl)) ?_
              clear a E;intro a E
              refine fr_val E rfl (ws' E rfl rfl rfl rfl hb82) rfl rfl (fun w hW => (x_move E rfl rfl)) ?_
              clear a E;intro a E
              obtain ⟨x83, hx84, hm⟩ := bnd hm
              obtain ⟨q85, u88, hx86, hx87⟩ := dr_ixW (P := Tryd.prog) (k := .i64) hI (dr_mem (.head _)) Tryd.underlying29 sz9 hx84
              refine fr_val E rfl (ws' E rfl rfl rfl rfl hb82) rfl rfl (fun w hW => x_ixA E rfl rfl rfl (hx86 w)) ?_
              clear a E;intro a E
              refine fr_val E rfl (ws' E rfl rfl rfl rfl hb82) rfl rfl (fun w hW => x_ld E rfl rfl (ir_ld (DR.ir (dr_at hx87)) Tryd.underlying9 rfl w hW)) ?_
              clear a E;intro a E
              refine fr_val E rfl (ws' E rfl rfl rfl rfl hb82) rfl rfl (fun w hW => (x_str E rfl rfl rfl rfl)) ?_
              clear a E;intro a E
              refine fr_val E rfl (wn rfl) rfl rfl (fun w hW => (x_pickF E rfl rfl hb82 rfl)) ?_
              clear a E;intro a E
              refine fr_val E rfl (wn rfl) rfl rfl (fun w hW => (x_move E rfl rfl)) ?_
              clear a E;intro a E
              rcases Bool.eq_false_or_eq_true (!(sEq u65.2.Data x83)) with hb89 | hb89
              ·rw [if_t hb89] at hm
               refine fr_no E rfl (wf' E rfl rfl rfl rfl hb89 rfl) rfl rfl ?_
               clear a E;intro a E
               refine fr_no E rfl (wf' E rfl rfl rfl rfl hb89 rfl) rfl rfl ?_
               clear a E;intro a E
               refine fr_no E rfl (wf' E rfl rfl rfl rfl hb89 rfl) rfl rfl ?_
               clear a E;intro a E
               refine fr_no E rfl (wf' E rfl rfl rfl rfl hb89 rfl) rfl rfl ?_
               clear a E;intro a E
               refine fr_val E rfl (wn rfl) rfl rfl (fun w hW => (x_pickT E rfl rfl hb89 rfl)) ?_
               clear a E;intro a E
               refine fr_nil ?_
               clear hI
               refine q_then ?_
               replace H := H.drop 0
               replace H := H.drop 0
               replace H := H.drop 0
               replace H := H.drop 0
               exact ⟨true, _, (((((((E.nil.keep E 144 rfl).keep E 16 rfl).keep E 11 rfl).keep E 10 rfl).keep E 7 rfl).keep E 2 rfl).keep E 1 rfl), H, fun r hr => .tail _ (.tail _ (.tail _ (.tail _ (.tail _ (.tail _ (.tail _ (.tail _ (.tail _ (.tail _ (.tail _ (.tail _ (hs31 r hr)))))))))))), (.tail _ (.tail _ (.tail _ (.tail _ (.tail _ (.tail _ (.tail _ (.tail _ (.tail _ (.tail _ (.tail _ (.tail _ hr33)))))))))))), (.tail _ (.tail _ (.tail _ (.head _)))), (.tail _ (.tail _ (.tail _ (.tail _ (.tail _ (.tail _ (.tail _ (.tail _ (.tail _ (.tail _ (.tail _ (.tail _ hr34)))))))))))), hm⟩
              ·rw [if_f hb89] at hm
               refine fr_val E rfl (ws' E rfl rfl rfl rfl hb89) rfl rfl (fun w hW => x_fa E rfl rfl (v := .pointer (some ⟨p69, 3, none⟩)) (fa31_3 _ _)) ?_
               clear a E;intro a E
               refine fr_val E rfl (ws' E rfl rfl rfl rfl hb89) rfl rfl (fun w hW => x_ld E rfl rfl (ib_ld (.head _) rfl Tryd.underlying2 rfl w hW)) ?_
               clear a E;intro a E
               refine fr_val E rfl (ws' E rfl rfl rfl rfl hb89) rfl rfl (fun w hW => (x_move E rfl rfl)) ?_
               clear a E;intro a E
               refine fr_val E rfl (ws' E rfl rfl rfl rfl hb89) rfl rfl (fun w hW => (x_bin E rfl rfl rfl rfl)) ?_
               clear a E;intro a E
               refine fr_val E rfl (wn rfl) rfl rfl (fun w hW => (x_pickF E rfl rfl hb89 rfl)) ?_
               clear a E;intro a E
               refine fr_nil ?_
               clear hI
               refine q_then ?_
               replace H := H.drop 0
               replace H := H.drop 0
               replace H := H.drop 0
               replace H := H.drop 0
               exact ⟨u65.2.Version != (IntKind.i64.wrap (x28 + 1)), _, (((((((E.nil.keep E 144 rfl).keep E 16 rfl).keep E 11 rfl).keep E 10 rfl).keep E 7 rfl).keep E 2 rfl).keep E 1 rfl), H, fun r hr => .tail _ (.tail _ (.tail _ (.tail _ (.tail _ (.tail _ (.tail _ (.tail _ (.tail _ (.tail _ (.tail _ (.tail _ (hs31 r hr)))))))))))), (.tail _ (.tail _ (.tail _ (.tail _ (.tail _ (.tail _ (.tail _ (.tail _ (.tail _ (.tail _ (.tail _ (.tail _ hr33)))))))))))), (.tail _ (.tail _ (.tail _ (.head _)))), (.tail _ (.tail _ (.tail _ (.tail _ (.tail _ (.tail _ (.tail _ (.tail _ (.tail _ (.tail _ (.tail _ (.tail _ hr34)))))))))))), hm⟩
         ·clear E H hm
          rintro a w ⟨b72, rs73, E, H, hs74, hr75, hr76, hr77, hm⟩
          unfold m_cantonlaw06_NodesVersions_j3 at hm
          refine wp_if E rfl ?_ ?_
          ·intro hb
           rw [if_t hb] at hm
           clear hb
           refine wp_seq ?_
           refine wp_region_lit ?_
           refine sv E rfl rfl rfl (x_assign E rfl rfl) ?_
           clear a E;intro a E
           refine wpList_nil ?_
           refine q_then ?_
           refine wp_ret ?_
           refine q_thenR ?_
           refine q_blkR ?_
           refine q_thenR ?_
           refine q_thenR ?_
           refine q_blkR ?_
           refine q_thenR ?_
           refine out1 E rfl rfl ?_
           obtain rfl := Option.some.inj hm
           exact ⟨rfl, H.reads (fun r hr => hs74 r hr)⟩
          ·intro hb
           rw [if_f hb] at hm
           clear hb
           refine wp_skip ?_
           refine q_then ?_
           refine wp_region_lit ?_
           refine sv E rfl rfl rfl (x_move E rfl rfl) ?_
           clear a E;intro a E
           refine sv E rfl rfl rfl (x_assign E rfl rfl) ?_
           clear a E;intro a E
           refine wpList_nil ?_
           refine q_blk ?_
           refine q_then ?_
           refine wp_region_lit ?_
           refine sv E rfl rfl rfl (x_move E rfl rfl) ?_
           clear a E;intro a E
           refine sv E rfl rfl rfl (x_bin E rfl rfl rfl rfl) ?_
           clear a E;intro a E
           refine sv E rfl rfl rfl (x_assign E rfl rfl) ?_
           clear a E;intro a E
           refine wpList_nil ?_
           refine q_then ?_
           exact ⟨k1, Nat.lt_succ_self k1, v60, u58.1, IntKind.i64.wrap (x28 + 1), IntKind.i64.wrap (x29 + 1), _, ((((((E.nil.keep E 11 rfl).keep E 10 rfl).keep E 7 rfl).keep E 2 rfl).keep E 1 rfl).keep E 0 rfl), H, hs74, hr76, hr75, hr77, hm⟩
       ·intro hb
        rw [if_f hb] at hm
        clear hb
        refine wp_exit ?_
        refine q_thenX ?_
        refine q_thenX ?_
        refine q_hit ?_
        refine q_then ?_
        refine wp_seq ?_
        refine wp_region_lit ?_
        refine sv E rfl rfl rfl (x_move E rfl rfl) ?_
        clear a E;intro a E
        refine sv E rfl rfl rfl (x_assign E rfl rfl) ?_
        clear a E;intro a E
        refine wpList_nil ?_
        refine q_then ?_
        refine wp_ret ?_
        refine out1 E rfl rfl ?_
        obtain rfl := Option.some.inj hm
        exact ⟨rfl, H.reads (fun r hr => hs31 r hr)⟩
end Go.Cb
