/- Functions of the program, walked: each comes to its plain function. -/
import Derived.Test.YtidapdacihcckaaGreatDoorKte2
import Derived.Test.YtidapdacihcckaaGreatDoorN4te
set_option linter.unusedVariables false
set_option linter.unusedSimpArgs false
namespace Go.Cb
open Go.Proofs Go.RowKit
def m_nodes_Apply_j2 (l2 : List S_api_Node) (x3 : S_api_Op) (u24 : Int × Bool) (b31 : Bool) : Option ((List S_api_Node) × S_api_Result) :=
  if b31 = true then ((m_nodes_failed 63).bind fun u36 => some (l2, (⟨u36.Err, u36.Path, u36.Data, u36.Version, u36.Names⟩ : S_api_Result))) else (if (x3.Kind == 2) = true then ((m_nodes_remove l2 u24.1 (⟨x3.Kind, x3.Path, x3.Data, x3.Version, x3.Owner, x3.Turns⟩ : S_api_Op)).bind fun u78 => some (u78.1, (⟨u78.2.Err, u78.2.Path, u78.2.Data, u78.2.Version, u78.2.Names⟩ : S_api_Result))) else (if (x3.Kind == 3) = true then ((m_nodes_set l2 u24.1 (⟨x3.Kind, x3.Path, x3.Data, x3.Version, x3.Owner, x3.Turns⟩ : S_api_Op)).bind fun u71 => some (u71.1, (⟨u71.2.Err, u71.2.Path, u71.2.Data, u71.2.Version, u71.2.Names⟩ : S_api_Result))) else (if (x3.Kind == 4) = true then ((m_nodes_check l2 u24.1 (⟨x3.Kind, x3.Path, x3.Data, x3.Version, x3.Owner, x3.Turns⟩ : S_api_Op)).bind fun u64 => some (u64.1, (⟨u64.2.Err, u64.2.Path, u64.2.Data, u64.2.Version, u64.2.Names⟩ : S_api_Result))) else (if (x3.Kind == 5) = true then ((m_nodes_get l2 u24.1 (⟨x3.Kind, x3.Path, x3.Data, x3.Version, x3.Owner, x3.Turns⟩ : S_api_Op)).bind fun u57 => some (u57.1, (⟨u57.2.Err, u57.2.Path, u57.2.Data, u57.2.Version, u57.2.Names⟩ : S_api_Result))) else (if (x3.Kind == 6) = true then ((m_nodes_list l2 u24.1 (⟨x3.Kind, x3.Path, x3.Data, x3.Version, x3.Owner, x3.Turns⟩ : S_api_Op)).bind fun u50 => some (u50.1, (⟨u50.2.Err, u50.2.Path, u50.2.Data, u50.2.Version, u50.2.Names⟩ : S_api_Result))) else (if (x3.Kind == 7) = true then ((m_nodes_sweep l2 u24.1 (⟨x3.Kind, x3.Path, x3.Data, x3.Version, x3.Owner, x3.Turns⟩ : S_api_Op)).bind fun u43 => some (u43.1, (⟨u43.2.Err, u43.2.Path, u43.2.Data, u43.2.Version, u43.2.Names⟩ : S_api_Result))) else none))))))
def m_nodes_Apply_j1 (l2 : List S_api_Node) (x3 : S_api_Op) (b8 : Bool) : Option ((List S_api_Node) × S_api_Result) :=
  if b8 = true then ((m_nodes_failed 1).bind fun u13 => some (([] : List S_api_Node), (⟨u13.Err, u13.Path, u13.Data, u13.Version, u13.Names⟩ : S_api_Result))) else (if (x3.Kind == 1) = true then ((m_nodes_create l2 (⟨x3.Kind, x3.Path, x3.Data, x3.Version, x3.Owner, x3.Turns⟩ : S_api_Op)).bind fun u18 => some (u18.1, (⟨u18.2.Err, u18.2.Path, u18.2.Data, u18.2.Version, u18.2.Names⟩ : S_api_Result))) else ((m_nodes_where l2 x3.Path).bind fun u24 => if (!u24.2) = true then ((m_nodes_failed 62).bind fun u26 => some (l2, (⟨u26.Err, u26.Path, u26.Data, u26.Version, u26.Names⟩ : S_api_Result))) else (if (decide (x3.Kind ≤ 4)) = true then (if (decide (x3.Version ≥ 0)) = true then ((idx l2 u24.1).bind fun x87 => m_nodes_Apply_j2 l2 x3 u24 (x3.Version != x87.Version)) else (m_nodes_Apply_j2 l2 x3 u24 false)) else (m_nodes_Apply_j2 l2 x3 u24 false))))
def m_nodes_Apply (l2 : List S_api_Node) (x3 : S_api_Op) : Option ((List S_api_Node) × S_api_Result) :=
  (m_nodes_Right l2).bind fun u94 => if (!u94) = true then (m_nodes_Apply_j1 l2 x3 true) else ((m_nodes_May (⟨x3.Kind, x3.Path, x3.Data, x3.Version, x3.Owner, x3.Turns⟩ : S_api_Op)).bind fun u97 => m_nodes_Apply_j1 l2 x3 (!u97))
set_option maxRecDepth 20000 in
set_option maxHeartbeats 1000000 in
theorem c_nodes_Apply {w : World} {Fo : List Ob} {rs : List Rp} (v1 : Value) (l2 : List S_api_Node) (x3 : S_api_Op) (H : Sep w (Fo) rs) (hr4 : rSl k_api_Node v1 l2 ∈ rs) (hr5 : rTab Tryz.prog ∈ rs) {r : (List S_api_Node) × S_api_Result} (hm : m_nodes_Apply l2 x3 = some r) :
    Calls Tryz.prog 7 [v1, .agg #[.int .i64 x3.Kind, .string x3.Path, .string x3.Data, .int .i64 x3.Version, .int .i64 x3.Owner, .bool x3.Turns]].toArray w (Ret fun v w' => ∃ (v5001 : Value) (v5004 : Value), .tuple #[v5001, .agg #[.int .i64 r.2.Err, .string r.2.Path, .string r.2.Data, .int .i64 r.2.Version, v5004]] = v ∧ Sep w' (Fo) (rSl k_api_Node v5001 r.1 :: rSl kS v5004 r.2.Names :: rs)) := by
 unfold m_nodes_Apply at hm
 refine enter Tryz.func7 rfl Tryz.ntmps7 rfl fun a E => ?_
 simp only [enum, Nat.reduceAdd] at E
 refine wp_seq ?_
 refine wp_region_lit ?_
 refine st_box E H (wn rfl) rfl rfl (cs := [.int .i64 x3.Kind, .string x3.Path, .string x3.Data, .int .i64 x3.Version, .int .i64 x3.Owner, .bool x3.Turns]) rfl rfl rfl ?_
 clear E H; clear a; clear w; intro p6 w a H E
 refine sv E rfl rfl rfl (x_assign E rfl rfl) ?_
 clear a E;intro a E
 refine st_alloc E H (wn rfl) rfl rfl (cs := [.int .i64 0, .string (ByteArray.mk #[]), .string (ByteArray.mk #[]), .int .i64 0, .slice none 0 0]) rfl (z := .agg #[.int .i64 0, .string ⟨#[]⟩, .string ⟨#[]⟩, .int .i64 0, .slice none 0 0]) (by kernel_rfl) rfl ?_
 clear E H; clear a; clear w; intro p7 w a H E
 refine wpList_nil ?_
 refine q_then ?_
 refine wp_seq ?_
 refine wp_seq_cut (fun a w => ∃ (b8 : Bool) (rs9 : List Rp), Env 68 a [(0, v1), (3, .pointer (some ⟨p6, 0, none⟩)), (5, .pointer (some ⟨p7, 0, none⟩)), (16, .bool b8)] ∧ Sep w (Blk p6 24 [.int .i64 x3.Kind, .string x3.Path, .string x3.Data, .int .i64 x3.Version, .int .i64 x3.Owner, .bool x3.Turns] :: Blk p7 31 [.int .i64 0, .string (ByteArray.mk #[]), .string (ByteArray.mk #[]), .int .i64 0, .slice none 0 0] :: Fo) rs9 ∧ (∀ r, r ∈ rs → r ∈ rs9) ∧ rSl k_api_Node v1 l2 ∈ rs9 ∧ rTab Tryz.prog ∈ rs9 ∧ m_nodes_Apply_j1 l2 x3 b8 = some r) ?_ ?_
 ·refine wp_region_lit ?_
  refine sv E rfl rfl rfl (x_move E rfl rfl) ?_
  clear a E;intro a E
  obtain ⟨u94, hx95, hm⟩ := bnd hm
  refine st_call E (wn rfl) rfl rfl (x_call E rfl rfl (cf11 _)) (c_nodes_Right v1 l2 H hr4 hx95) ?_
  clear E H; clear a; clear w; rintro _ w ⟨rfl, H⟩ a E
  refine sv E rfl rfl rfl (x_not E rfl rfl) ?_
  clear a E;intro a E
  refine sv E rfl rfl rfl (x_move E rfl rfl) ?_
  clear a E;intro a E
  rcases Bool.eq_false_or_eq_true (!u94) with hb96 | hb96
  ·rw [if_t hb96] at hm
   refine st_no E (wf' E rfl rfl rfl rfl hb96 rfl) rfl rfl ?_
   clear a E;intro a E
   refine st_no E (wf' E rfl rfl rfl rfl hb96 rfl) rfl rfl ?_
   clear a E;intro a E
   refine st_no E (wf' E rfl rfl rfl rfl hb96 rfl) rfl rfl ?_
   clear a E;intro a E
   refine sv E rfl rfl rfl (x_pickT E rfl rfl hb96 rfl) ?_
   clear a E;intro a E
   refine wpList_nil ?_
   refine q_then ?_
   replace H := H.front 0 rfl
   replace H := H.front 1 rfl
   exact ⟨true, _, ((((E.nil.keep E 16 rfl).keep E 5 rfl).keep E 3 rfl).keep E 0 rfl), H, fun r hr => hr, hr4, hr5, hm⟩
  ·rw [if_f hb96] at hm
   refine st_val E (ws' E rfl rfl rfl rfl hb96) rfl rfl (x_ldBN (i := 1) (us := [.int .i64 x3.Kind, .string x3.Path, .string x3.Data, .int .i64 x3.Version, .int .i64 x3.Owner, .bool x3.Turns]) E H rfl rfl rfl rfl Tryz.underlying24 rfl sz24) ?_
   clear a E;intro a E
   obtain ⟨u97, hx98, hm⟩ := bnd hm
   refine st_call E (ws' E rfl rfl rfl rfl hb96) rfl rfl (x_call E rfl rfl (cf13 _)) (c_nodes_May (⟨x3.Kind, x3.Path, x3.Data, x3.Version, x3.Owner, x3.Turns⟩ : S_api_Op) H hx98) ?_
   clear E H; clear a; clear w; rintro _ w ⟨rfl, H⟩ a E
   refine st_val E (ws' E rfl rfl rfl rfl hb96) rfl rfl (x_not E rfl rfl) ?_
   clear a E;intro a E
   refine sv E rfl rfl rfl (x_pickF E rfl rfl hb96 rfl) ?_
   clear a E;intro a E
   refine wpList_nil ?_
   refine q_then ?_
   replace H := H.front 0 rfl
   replace H := H.front 1 rfl
   exact ⟨!u97, _, ((((E.nil.keep E 16 rfl).keep E 5 rfl).keep E 3 rfl).keep E 0 rfl), H, fun r hr => hr, hr4, hr5, hm⟩
 ·clear E H hm
  rintro a w ⟨b8, rs9, E, H, hs10, hr11, hr12, hm⟩
  unfold m_nodes_Apply_j1 at hm
  refine wp_if E rfl ?_ ?_
  ·intro hb
   rw [if_t hb] at hm
   clear hb
   refine wp_seq ?_
   refine wp_region_lit ?_
   obtain ⟨u13, hx14, hm⟩ := bnd hm
   refine st_call E (wn rfl) rfl rfl (x_call E rfl rfl (cf18 _)) (c_nodes_failed 1 H hx14) ?_
   clear E H; clear a; clear w; rintro _ w ⟨v15, rfl, H⟩ a E
   refine sv E rfl rfl rfl (x_assign E rfl rfl) ?_
   clear a E;intro a E
   obtain ⟨q16, x17, rfl⟩ := H.slform (.head _)
   refine st_st (i := 1) E H (wn rfl) rfl (us := [.int .i64 u13.Err, .string u13.Path, .string u13.Data, .int .i64 u13.Version, (.slice q16 u13.Names.length x17)]) rfl rfl rfl rfl rfl sz31 rfl rfl ?_
   clear H; clear w; intro w H
   replace H : Sep w (Blk p6 24 [.int .i64 x3.Kind, .string x3.Path, .string x3.Data, .int .i64 x3.Version, .int .i64 x3.Owner, .bool x3.Turns] :: Blk p7 31 [.int .i64 u13.Err, .string u13.Path, .string u13.Data, .int .i64 u13.Version, (.slice q16 u13.Names.length x17)] :: Fo) _ := H
   refine wpList_nil ?_
   refine q_then ?_
   refine wp_ret ?_
   refine q_thenR ?_
   refine outR2 E rfl (rvT rfl) (rvBN (i := 1) (us := [.int .i64 u13.Err, .string u13.Path, .string u13.Data, .int .i64 u13.Version, (.slice q16 u13.Names.length x17)]) H rfl rfl rfl Tryz.underlying31 rfl sz31) ?_
   replace H := H.nilSl k_api_Node
   replace H := H.drop 0
   replace H := H.drop 0
   obtain rfl := Option.some.inj hm
   exact ⟨(.slice none 0 0), (.slice q16 u13.Names.length x17), rfl, H.reads (sub_cons (.head _) (sub_cons (.tail _ (.head _)) (fun r hr => .tail _ (.tail _ (hs10 r hr)))))⟩
  ·intro hb
   rw [if_f hb] at hm
   clear hb
   refine wp_skip ?_
   refine q_then ?_
   refine wp_seq ?_
   refine wp_seq ?_
   refine wp_region_lit ?_
   refine sv E rfl rfl rfl (x_fa E rfl rfl (v := .pointer (some ⟨p6, 0, none⟩)) (fa24_0 _ _)) ?_
   clear a E;intro a E
   refine sv E rfl rfl rfl (x_ldB (i := 0) E H rfl rfl rfl rfl Tryz.underlying3 rfl) ?_
   clear a E;intro a E
   refine sv E rfl rfl rfl (x_bin E rfl rfl rfl rfl) ?_
   clear a E;intro a E
   refine wpList_nil ?_
   refine q_then ?_
   refine wp_if E rfl ?_ ?_
   ·intro hb
    rw [if_t hb] at hm
    clear hb
    refine wp_seq ?_
    refine wp_region_lit ?_
    refine sv E rfl rfl rfl (x_move E rfl rfl) ?_
    clear a E;intro a E
    refine sv E rfl rfl rfl (x_ldBN (i := 0) (us := [.int .i64 x3.Kind, .string x3.Path, .string x3.Data, .int .i64 x3.Version, .int .i64 x3.Owner, .bool x3.Turns]) E H rfl rfl rfl rfl Tryz.underlying24 rfl sz24) ?_
    clear a E;intro a E
    obtain ⟨u18, hx19, hm⟩ := bnd hm
    refine st_call E (wn rfl) rfl rfl (x_call E rfl rfl (cf19 _)) (c_nodes_create v1 l2 (⟨x3.Kind, x3.Path, x3.Data, x3.Version, x3.Owner, x3.Turns⟩ : S_api_Op) H hr11 hr12 hx19) ?_
    clear E H; clear a; clear w; rintro _ w ⟨v20, v21, rfl, H⟩ a E
    refine sv E rfl rfl rfl (x_ext E rfl rfl rfl) ?_
    clear a E;intro a E
    refine sv E rfl rfl rfl (x_ext E rfl rfl rfl) ?_
    clear a E;intro a E
    refine sv E rfl rfl rfl (x_assign E rfl rfl) ?_
    clear a E;intro a E
    obtain ⟨q22, x23, rfl⟩ := H.slform (.tail _ (.head _))
    refine st_st (i := 1) E H (wn rfl) rfl (us := [.int .i64 u18.2.Err, .string u18.2.Path, .string u18.2.Data, .int .i64 u18.2.Version, (.slice q22 u18.2.Names.length x23)]) rfl rfl rfl rfl rfl sz31 rfl rfl ?_
    clear H; clear w; intro w H
    replace H : Sep w (Blk p6 24 [.int .i64 x3.Kind, .string x3.Path, .string x3.Data, .int .i64 x3.Version, .int .i64 x3.Owner, .bool x3.Turns] :: Blk p7 31 [.int .i64 u18.2.Err, .string u18.2.Path, .string u18.2.Data, .int .i64 u18.2.Version, (.slice q22 u18.2.Names.length x23)] :: Fo) _ := H
    refine wpList_nil ?_
    refine q_then ?_
    refine wp_ret ?_
    refine q_thenR ?_
    refine outR2 E rfl (rvT rfl) (rvBN (i := 1) (us := [.int .i64 u18.2.Err, .string u18.2.Path, .string u18.2.Data, .int .i64 u18.2.Version, (.slice q22 u18.2.Names.length x23)]) H rfl rfl rfl Tryz.underlying31 rfl sz31) ?_
    replace H := H.drop 0
    replace H := H.drop 0
    obtain rfl := Option.some.inj hm
    exact ⟨v20, (.slice q22 u18.2.Names.length x23), rfl, H.reads (sub_cons (.head _) (sub_cons (.tail _ (.head _)) (fun r hr => .tail _ (.tail _ (hs10 r hr)))))⟩
   ·intro hb
    rw [if_f hb] at hm
    clear hb
    refine wp_skip ?_
    refine q_then ?_
    refine wp_seq ?_
    refine wp_region_lit ?_
    refine sv E rfl rfl rfl (x_move E rfl rfl) ?_
    clear a E;intro a E
    refine sv E rfl rfl rfl (x_fa E rfl rfl (v := .pointer (some ⟨p6, 1, none⟩)) (fa24_1 _ _)) ?_
    clear a E;intro a E
    refine sv E rfl rfl rfl (x_ldB (i := 0) E H rfl rfl rfl rfl Tryz.underlying9 rfl) ?_
    clear a E;intro a E
    obtain ⟨u24, hx25, hm⟩ := bnd hm
    refine st_call E (wn rfl) rfl rfl (x_call E rfl rfl (cf20 _)) (c_nodes_where v1 l2 x3.Path H hr11 hx25) ?_
    clear E H; clear a; clear w; rintro _ w ⟨rfl, H⟩ a E
    refine sv E rfl rfl rfl (x_move E rfl rfl) ?_
    clear a E;intro a E
    refine sv E rfl rfl rfl (x_ext E rfl rfl rfl) ?_
    clear a E;intro a E
    refine sv E rfl rfl rfl (x_ext E rfl rfl rfl) ?_
    clear a E;intro a E
    refine sv E rfl rfl rfl (x_assign E rfl rfl) ?_
    clear a E;intro a E
    refine sv E rfl rfl rfl (x_assign E rfl rfl) ?_
    clear a E;intro a E
    refine wpList_nil ?_
    refine q_then ?_
    refine wp_seq ?_
    refine wp_seq ?_
    refine wp_region_lit ?_
    refine sv E rfl rfl rfl (x_move E rfl rfl) ?_
    clear a E;intro a E
    refine sv E rfl rfl rfl (x_not E rfl rfl) ?_
    clear a E;intro a E
    refine wpList_nil ?_
    refine q_then ?_
    refine wp_if E rfl ?_ ?_
    ·intro hb
     rw [if_t hb] at hm
     clear hb
     refine wp_seq ?_
     refine wp_region_lit ?_
     refine sv E rfl rfl rfl (x_move E rfl rfl) ?_
     clear a E;intro a E
     obtain ⟨u26, hx27, hm⟩ := bnd hm
     refine st_call E (wn rfl) rfl rfl (x_call E rfl rfl (cf18 _)) (c_nodes_failed 62 H hx27) ?_
     clear E H; clear a; clear w; rintro _ w ⟨v28, rfl, H⟩ a E
     refine sv E rfl rfl rfl (x_assign E rfl rfl) ?_
     clear a E;intro a E
     obtain ⟨q29, x30, rfl⟩ := H.slform (.head _)
     refine st_st (i := 1) E H (wn rfl) rfl (us := [.int .i64 u26.Err, .string u26.Path, .string u26.Data, .int .i64 u26.Version, (.slice q29 u26.Names.length x30)]) rfl rfl rfl rfl rfl sz31 rfl rfl ?_
     clear H; clear w; intro w H
     replace H : Sep w (Blk p6 24 [.int .i64 x3.Kind, .string x3.Path, .string x3.Data, .int .i64 x3.Version, .int .i64 x3.Owner, .bool x3.Turns] :: Blk p7 31 [.int .i64 u26.Err, .string u26.Path, .string u26.Data, .int .i64 u26.Version, (.slice q29 u26.Names.length x30)] :: Fo) _ := H
     refine wpList_nil ?_
     refine q_then ?_
     refine wp_ret ?_
     refine q_thenR ?_
     refine outR2 E rfl (rvT rfl) (rvBN (i := 1) (us := [.int .i64 u26.Err, .string u26.Path, .string u26.Data, .int .i64 u26.Version, (.slice q29 u26.Names.length x30)]) H rfl rfl rfl Tryz.underlying31 rfl sz31) ?_
     replace H := H.drop 0
     replace H := H.drop 0
     obtain rfl := Option.some.inj hm
     exact ⟨v1, (.slice q29 u26.Names.length x30), rfl, H.reads (sub_cons (.tail _ hr11) (sub_cons (.head _) (fun r hr => .tail _ (hs10 r hr))))⟩
    ·intro hb
     rw [if_f hb] at hm
     clear hb
     refine wp_skip ?_
     refine q_then ?_
     refine wp_seq ?_
     refine wp_seq_cut (fun a w => ∃ (b31 : Bool) (rs32 : List Rp), Env 68 a [(0, v1), (3, .pointer (some ⟨p6, 0, none⟩)), (5, .pointer (some ⟨p7, 0, none⟩)), (6, .int .i64 u24.1), (54, .bool b31)] ∧ Sep w (Blk p6 24 [.int .i64 x3.Kind, .string x3.Path, .string x3.Data, .int .i64 x3.Version, .int .i64 x3.Owner, .bool x3.Turns] :: Blk p7 31 [.int .i64 0, .string (ByteArray.mk #[]), .string (ByteArray.mk #[]), .int .i64 0, .slice none 0 0] :: Fo) rs32 ∧ (∀ r, r ∈ rs → r ∈ rs32) ∧ rSl k_api_Node v1 l2 ∈ rs32 ∧ rTab Tryz.prog ∈ rs32 ∧ m_nodes_Apply_j2 l2 x3 u24 b31 = some r) ?_ ?_
     ·obtain ⟨u84, H⟩ := H.raw hr11
      replace H : Sep w (Blk p6 24 [.int .i64 x3.Kind, .string x3.Path, .string x3.Data, .int .i64 x3.Version, .int .i64 x3.Owner, .bool x3.Turns] :: Blk p7 31 [.int .i64 0, .string (ByteArray.mk #[]), .string (ByteArray.mk #[]), .int .i64 0, .slice none 0 0] :: Fo) (rRow k_api_Node v1 l2 u84 :: rs9) := H
      have hI : Still [Blk p6 24 [.int .i64 x3.Kind, .string x3.Path, .string x3.Data, .int .i64 x3.Version, .int .i64 x3.Owner, .bool x3.Turns]] [rRow k_api_Node v1 l2 u84] { w with drawn := w.drawn + 1 } := ⟨_, _, H.kept (Kp.drawn _ w _), (subO_cons (.head _) (subO_nil)), (sub_cons (.head _) (sub_nil))⟩
      refine wp_draw _ [(0, 0), (1, 0), (2, 0), (3, 0), (4, 0), (5, 0), (6, 0), (7, 0), (8, 0), (9, 0), (10, 0), (11, 0), (12, 0), (13, 0), (14, 0), (15, 0), (16, 0), (17, 0)] mixedOk (by kernel_rfl) (fun _ _ _ h => False.elim h.2) hI ?_
      replace H := H.kept (Kp.drawn _ w (w.drawn + 1))
      generalize ({ w with drawn := w.drawn + 1 } : World) = w at H hI ⊢
      replace hI : ∃ W, Still [Blk p6 24 [.int .i64 x3.Kind, .string x3.Path, .string x3.Data, .int .i64 x3.Version, .int .i64 x3.Owner, .bool x3.Turns]] [rRow k_api_Node v1 l2 u84] W := ⟨_, hI⟩
      obtain ⟨W0, hI⟩ := hI
      refine fr_val E rfl (wn rfl) rfl rfl (fun w hW => x_fa E rfl rfl (v := .pointer (some ⟨p6, 0, none⟩)) (fa24_0 _ _)) ?_
      clear a E;intro a E
      refine fr_val E rfl (wn rfl) rfl rfl (fun w hW => x_ld E rfl rfl (ib_ld (.head _) rfl Tryz.underlying3 rfl w hW)) ?_
      clear a E;intro a E
      refine fr_val E rfl (wn rfl) rfl rfl (fun w hW => (x_bin E rfl rfl rfl rfl)) ?_
      clear a E;intro a E
      refine fr_val E rfl (wn rfl) rfl rfl (fun w hW => (x_move E rfl rfl)) ?_
      clear a E;intro a E
      rcases Bool.eq_false_or_eq_true (decide (x3.Kind ≤ 4)) with hb85 | hb85
      ·rw [if_t hb85] at hm
       refine fr_val E rfl (ws' E rfl rfl rfl rfl hb85) rfl rfl (fun w hW => x_fa E rfl rfl (v := .pointer (some ⟨p6, 3, none⟩)) (fa24_3 _ _)) ?_
       clear a E;intro a E
       refine fr_val E rfl (ws' E rfl rfl rfl rfl hb85) rfl rfl (fun w hW => x_ld E rfl rfl (ib_ld (.head _) rfl Tryz.underlying2 rfl w hW)) ?_
       clear a E;intro a E
       refine fr_val E rfl (ws' E rfl rfl rfl rfl hb85) rfl rfl (fun w hW => (x_bin E rfl rfl rfl rfl)) ?_
       clear a E;intro a E
       refine fr_val E rfl (wn rfl) rfl rfl (fun w hW => (x_pickT E rfl rfl hb85 rfl)) ?_
       clear a E;intro a E
       refine fr_val E rfl (wn rfl) rfl rfl (fun w hW => (x_move E rfl rfl)) ?_
       clear a E;intro a E
       rcases Bool.eq_false_or_eq_true (decide (x3.Version ≥ 0)) with hb86 | hb86
       ·rw [if_t hb86] at hm
        refine fr_val E rfl (ws' E rfl rfl rfl rfl hb86) rfl rfl (fun w hW => x_fa E rfl rfl (v := .pointer (some ⟨p6, 3, none⟩)) (fa24_3 _ _)) ?_
        clear a E;intro a E
        refine fr_val E rfl (ws' E rfl rfl rfl rfl hb86) rfl rfl (fun w hW => x_ld E rfl rfl (ib_ld (.head _) rfl Tryz.underlying2 rfl w hW)) ?_
        clear a E;intro a E
        refine fr_val E rfl (ws' E rfl rfl rfl rfl hb86) rfl rfl (fun w hW => (x_move E rfl rfl)) ?_
        clear a E;intro a E
        refine fr_val E rfl (ws' E rfl rfl rfl rfl hb86) rfl rfl (fun w hW => (x_move E rfl rfl)) ?_
        clear a E;intro a E
        obtain ⟨x87, hx88, hm⟩ := bnd hm
        obtain ⟨q89, u92, hx90, hx91⟩ := dr_ixW (P := Tryz.prog) (k := .i64) hI (dr_mem (.head _)) Tryz.underlying22 sz35 hx88
        refine fr_val E rfl (ws' E rfl rfl rfl rfl hb86) rfl rfl (fun w hW => x_ixA E rfl rfl rfl (hx90 w)) ?_
        clear a E;intro a E
        have hx93 := dr_fld hx91 (fun _ _ _ h => k_api_Node_aw2 h)
        refine fr_val E rfl (ws' E rfl rfl rfl rfl hb86) rfl rfl (fun w hW => x_fa E rfl rfl (fa35_2 _ _)) ?_
        clear a E;intro a E
        refine fr_val E rfl (ws' E rfl rfl rfl rfl hb86) rfl rfl (fun w hW => x_ld E rfl rfl (ir_ld (DR.ir (dr_at hx93)) Tryz.underlying2 rfl w hW)) ?_
        clear a E;intro a E
        refine fr_val E rfl (ws' E rfl rfl rfl rfl hb86) rfl rfl (fun w hW => (x_bin E rfl rfl rfl rfl)) ?_
        clear a E;intro a E
        refine fr_val E rfl (wn rfl) rfl rfl (fun w hW => (x_pickT E rfl rfl hb86 rfl)) ?_
        clear a E;intro a E
        refine fr_nil ?_
        clear hI
        refine q_then ?_
        exact ⟨x3.Version != x87.Version, _, (((((E.nil.keep E 54 rfl).keep E 6 rfl).keep E 5 rfl).keep E 3 rfl).keep E 0 rfl), H, fun r hr => .tail _ (hs10 r hr), (.tail _ hr11), (.tail _ hr12), hm⟩
       ·rw [if_f hb86] at hm
        refine fr_no E rfl (wf' E rfl rfl rfl rfl hb86 rfl) rfl rfl ?_
        clear a E;intro a E
        refine fr_no E rfl (wf' E rfl rfl rfl rfl hb86 rfl) rfl rfl ?_
        clear a E;intro a E
        refine fr_no E rfl (wf' E rfl rfl rfl rfl hb86 rfl) rfl rfl ?_
        clear a E;intro a E
        refine fr_no E rfl (wf' E rfl rfl rfl rfl hb86 rfl) rfl rfl ?_
        clear a E;intro a E
        refine fr_no E rfl (wf' E rfl rfl rfl rfl hb86 rfl) rfl rfl ?_
        clear a E;intro a E
        refine fr_no E rfl (wf' E rfl rfl rfl rfl hb86 rfl) rfl rfl ?_
        clear a E;intro a E
        refine fr_no E rfl (wf' E rfl rfl rfl rfl hb86 rfl) rfl rfl ?_
        clear a E;intro a E
        refine fr_no E rfl (wf' E rfl rfl rfl rfl hb86 rfl) rfl rfl ?_
        clear a E;intro a E
        refine fr_val E rfl (wn rfl) rfl rfl (fun w hW => (x_pickF E rfl rfl hb86 rfl)) ?_
        clear a E;intro a E
        refine fr_nil ?_
        clear hI
        refine q_then ?_
        exact ⟨false, _, (((((E.nil.keep E 54 rfl).keep E 6 rfl).keep E 5 rfl).keep E 3 rfl).keep E 0 rfl), H, fun r hr => .tail _ (hs10 r hr), (.tail _ hr11), (.tail _ hr12), hm⟩
      ·rw [if_f hb85] at hm
       refine fr_no E rfl (wf' E rfl rfl rfl rfl hb85 rfl) rfl rfl ?_
       clear a E;intro a E
       refine fr_no E rfl (wf' E rfl rfl rfl rfl hb85 rfl) rfl rfl ?_
       clear a E;intro a E
       refine fr_no E rfl (wf' E rfl rfl rfl rfl hb85 rfl) rfl rfl ?_
       clear a E;intro a E
       refine fr_val E rfl (wn rfl) rfl rfl (fun w hW => (x_pickF E rfl rfl hb85 rfl)) ?_
       clear a E;intro a E
       refine fr_val E rfl (wn rfl) rfl rfl (fun w hW => (x_move E rfl rfl)) ?_
       clear a E;intro a E
       refine fr_no E rfl (wf E rfl rfl rfl rfl rfl) rfl rfl ?_
       clear a E;intro a E
       refine fr_no E rfl (wf E rfl rfl rfl rfl rfl) rfl rfl ?_
       clear a E;intro a E
       refine fr_no E rfl (wf E rfl rfl rfl rfl rfl) rfl rfl ?_
       clear a E;intro a E
       refine fr_no E rfl (wf E rfl rfl rfl rfl rfl) rfl rfl ?_
       clear a E;intro a E
       refine fr_no E rfl (wf E rfl rfl rfl rfl rfl) rfl rfl ?_
       clear a E;intro a E
       refine fr_no E rfl (wf E rfl rfl rfl rfl rfl) rfl rfl ?_
       clear a E;intro a E
       refine fr_no E rfl (wf E rfl rfl rfl rfl rfl) rfl rfl ?_
       clear a E;intro a E
       refine fr_no E rfl (wf E rfl rfl rfl rfl rfl) rfl rfl ?_
       clear a E;intro a E
       refine fr_val E rfl (wn rfl) rfl rfl (fun w hW => (x_pickF E rfl rfl rfl rfl)) ?_
       clear a E;intro a E
       refine fr_nil ?_
       clear hI
       refine q_then ?_
       exact ⟨false, _, (((((E.nil.keep E 54 rfl).keep E 6 rfl).keep E 5 rfl).keep E 3 rfl).keep E 0 rfl), H, fun r hr => .tail _ (hs10 r hr), (.tail _ hr11), (.tail _ hr12), hm⟩
     ·clear E H hm
      rintro a w ⟨b31, rs32, E, H, hs33, hr34, hr35, hm⟩
      unfold m_nodes_Apply_j2 at hm
      refine wp_if E rfl ?_ ?_
      ·intro hb
       rw [if_t hb] at hm
       clear hb
       refine wp_seq ?_
       refine wp_region_lit ?_
       refine sv E rfl rfl rfl (x_move E rfl rfl) ?_
       clear a E;intro a E
       obtain ⟨u36, hx37, hm⟩ := bnd hm
       refine st_call E (wn rfl) rfl rfl (x_call E rfl rfl (cf18 _)) (c_nodes_failed 63 H hx37) ?_
       clear E H; clear a; clear w; rintro _ w ⟨v38, rfl, H⟩ a E
       refine sv E rfl rfl rfl (x_assign E rfl rfl) ?_
       clear a E;intro a E
       obtain ⟨q39, x40, rfl⟩ := H.slform (.head _)
       refine st_st (i := 1) E H (wn rfl) rfl (us := [.int .i64 u36.Err, .string u36.Path, .string u36.Data, .int .i64 u36.Version, (.slice q39 u36.Names.length x40)]) rfl rfl rfl rfl rfl sz31 rfl rfl ?_
       clear H; clear w; intro w H
       replace H : Sep w (Blk p6 24 [.int .i64 x3.Kind, .string x3.Path, .string x3.Data, .int .i64 x3.Version, .int .i64 x3.Owner, .bool x3.Turns] :: Blk p7 31 [.int .i64 u36.Err, .string u36.Path, .string u36.Data, .int .i64 u36.Version, (.slice q39 u36.Names.length x40)] :: Fo) _ := H
       refine wpList_nil ?_
       refine q_then ?_
       refine wp_ret ?_
       refine q_thenR ?_
       refine outR2 E rfl (rvT rfl) (rvBN (i := 1) (us := [.int .i64 u36.Err, .string u36.Path, .string u36.Data, .int .i64 u36.Version, (.slice q39 u36.Names.length x40)]) H rfl rfl rfl Tryz.underlying31 rfl sz31) ?_
       replace H := H.drop 0
       replace H := H.drop 0
       obtain rfl := Option.some.inj hm
       exact ⟨v1, (.slice q39 u36.Names.length x40), rfl, H.reads (sub_cons (.tail _ hr34) (sub_cons (.head _) (fun r hr => .tail _ (hs33 r hr))))⟩
      ·intro hb
       rw [if_f hb] at hm
       clear hb
       refine wp_skip ?_
       refine q_then ?_
       refine wp_seq ?_
       refine wp_region_lit ?_
       refine sv E rfl rfl rfl (x_build E (ps := [(2, .func 21), (3, .func 22), (4, .func 23), (5, .func 24), (6, .func 25), (7, .func 26)]) (vs := [(2, .func (.func 21) #[] #[]), (3, .func (.func 22) #[] #[]), (4, .func (.func 23) #[] #[]), (5, .func (.func 24) #[] #[]), (6, .func (.func 25) #[] #[]), (7, .func (.func 26) #[] #[])]) rfl (by simp only [List.map]; rw [E.eval (x := .func 21) (v := .func (.func 21) #[] #[]) rfl, E.eval (x := .func 22) (v := .func (.func 22) #[] #[]) rfl, E.eval (x := .func 23) (v := .func (.func 23) #[] #[]) rfl, E.eval (x := .func 24) (v := .func (.func 24) #[] #[]) rfl, E.eval (x := .func 25) (v := .func (.func 25) #[] #[]) rfl, E.eval (x := .func 26) (v := .func (.func 26) #[] #[]) rfl]) (v := .agg #[.nilFunc, .nilFunc, .func (.func 21) #[] #[], .func (.func 22) #[] #[], .func (.func 23) #[] #[], .func (.func 24) #[] #[], .func (.func 25) #[] #[], .func (.func 26) #[] #[]]) (by kernel_rfl)) ?_
       clear a E;intro a E
       refine st_alloc E H (wn rfl) rfl rfl (cs := [.nilFunc, .nilFunc, .nilFunc, .nilFunc, .nilFunc, .nilFunc, .nilFunc, .nilFunc]) rfl (z := .agg #[.nilFunc, .nilFunc, .nilFunc, .nilFunc, .nilFunc, .nilFunc, .nilFunc, .nilFunc]) (by kernel_rfl) rfl ?_
       clear E H; clear a; clear w; intro p41 w a H E
       refine st_st (i := 0) E H (wn rfl) rfl (us := [.nilFunc, .nilFunc, .func (.func 21) #[] #[], .func (.func 22) #[] #[], .func (.func 23) #[] #[], .func (.func 24) #[] #[], .func (.func 25) #[] #[], .func (.func 26) #[] #[]]) rfl rfl rfl rfl rfl sz46 rfl rfl ?_
       clear H; clear w; intro w H
       replace H : Sep w (Blk p41 46 [.nilFunc, .nilFunc, .func (.func 21) #[] #[], .func (.func 22) #[] #[], .func (.func 23) #[] #[], .func (.func 24) #[] #[], .func (.func 25) #[] #[], .func (.func 26) #[] #[]] :: Blk p6 24 [.int .i64 x3.Kind, .string x3.Path, .string x3.Data, .int .i64 x3.Version, .int .i64 x3.Owner, .bool x3.Turns] :: Blk p7 31 [.int .i64 0, .string (ByteArray.mk #[]), .string (ByteArray.mk #[]), .int .i64 0, .slice none 0 0] :: Fo) _ := H
       refine wpList_nil ?_
       refine q_then ?_
       refine wp_seq ?_
       replace H : Sep w (Blk p41 46 [.nilFunc, .nilFunc, .func (.func 21) #[] #[], .func (.func 22) #[] #[], .func (.func 23) #[] #[], .func (.func 24) #[] #[], .func (.func 25) #[] #[], .func (.func 26) #[] #[]] :: Blk p6 24 [.int .i64 x3.Kind, .string x3.Path, .string x3.Data, .int .i64 x3.Version, .int .i64 x3.Owner, .bool x3.Turns] :: Blk p7 31 [.int .i64 0, .string (ByteArray.mk #[]), .string (ByteArray.mk #[]), .int .i64 0, .slice none 0 0] :: Fo) (rs32) := H
       have hI : Still [Blk p41 46 [.nilFunc, .nilFunc, .func (.func 21) #[] #[], .func (.func 22) #[] #[], .func (.func 23) #[] #[], .func (.func 24) #[] #[], .func (.func 25) #[] #[], .func (.func 26) #[] #[]], Blk p6 24 [.int .i64 x3.Kind, .string x3.Path, .string x3.Data, .int .i64 x3.Version, .int .i64 x3.Owner, .bool x3.Turns]] [] { w with drawn := w.drawn + 1 } := ⟨_, _, H.kept (Kp.drawn _ w _), (subO_cons (.head _) (subO_cons (.tail _ (.head _)) (subO_nil))), (sub_nil)⟩
       refine wp_draw _ [(0, 0), (1, 0), (2, 0), (3, 0), (4, 0), (5, 0), (6, 0), (7, 1), (8, 0), (9, 0), (10, 2), (11, 2)] mixedOk (by kernel_rfl) (fun _ _ _ h => False.elim h.2) hI ?_
       replace H := H.kept (Kp.drawn _ w (w.drawn + 1))
       generalize ({ w with drawn := w.drawn + 1 } : World) = w at H hI ⊢
       replace hI : ∃ W, Still [Blk p41 46 [.nilFunc, .nilFunc, .func (.func 21) #[] #[], .func (.func 22) #[] #[], .func (.func 23) #[] #[], .func (.func 24) #[] #[], .func (.func 25) #[] #[], .func (.func 26) #[] #[]], Blk p6 24 [.int .i64 x3.Kind, .string x3.Path, .string x3.Data, .int .i64 x3.Version, .int .i64 x3.Owner, .bool x3.Turns]] [] W := ⟨_, hI⟩
       obtain ⟨W0, hI⟩ := hI
       refine fr_val E rfl (wn rfl) rfl rfl (fun w hW => x_fa E rfl rfl (v := .pointer (some ⟨p6, 0, none⟩)) (fa24_0 _ _)) ?_
       clear a E;intro a E
       refine fr_val E rfl (wn rfl) rfl rfl (fun w hW => x_ld E rfl rfl (ib_ld (.tail _ (.head _)) rfl Tryz.underlying3 rfl w hW)) ?_
       clear a E;intro a E
       rcases Bool.eq_false_or_eq_true (x3.Kind == 2) with hb77 | hb77
       ·rw [if_t hb77] at hm
        refine fr_val E rfl (wn rfl) rfl rfl (fun w hW => x_ixP (j := 2) E rfl rfl rfl hb77 rfl Tryz.underlying46 sz45) ?_
        clear a E;intro a E
        refine fr_val E rfl (wn rfl) rfl rfl (fun w hW => x_ld E rfl rfl (ib_ld (.head _) rfl Tryz.underlying45 rfl w hW)) ?_
        clear a E;intro a E
        refine fr_val E rfl (wn rfl) rfl rfl (fun w hW => (x_move E rfl rfl)) ?_
        clear a E;intro a E
        refine fr_val E rfl (wn rfl) rfl rfl (fun w hW => (x_move E rfl rfl)) ?_
        clear a E;intro a E
        refine fr_val E rfl (wn rfl) rfl rfl (fun w hW => x_ld E rfl rfl (ib_ldN (us := [.int .i64 x3.Kind, .string x3.Path, .string x3.Data, .int .i64 x3.Version, .int .i64 x3.Owner, .bool x3.Turns]) (.tail _ (.head _)) rfl Tryz.underlying24 rfl sz24 w hW)) ?_
        clear a E;intro a E
        refine fr_op rfl ?_
        obtain ⟨u78, hx79, hm⟩ := bnd hm
        refine st_call E (wn rfl) rfl rfl (x_callv E rfl rfl rfl (cf21 _)) (c_nodes_remove v1 l2 u24.1 (⟨x3.Kind, x3.Path, x3.Data, x3.Version, x3.Owner, x3.Turns⟩ : S_api_Op) H hr34 hx79) ?_
        clear E H; clear a; clear w; rintro _ w ⟨v80, v81, rfl, H⟩ a E
        refine wpList_nil ?_
        refine q_then ?_
        replace H : Sep w (Blk p41 46 [.nilFunc, .nilFunc, .func (.func 21) #[] #[], .func (.func 22) #[] #[], .func (.func 23) #[] #[], .func (.func 24) #[] #[], .func (.func 25) #[] #[], .func (.func 26) #[] #[]] :: Blk p6 24 [.int .i64 x3.Kind, .string x3.Path, .string x3.Data, .int .i64 x3.Version, .int .i64 x3.Owner, .bool x3.Turns] :: Blk p7 31 [.int .i64 0, .string (ByteArray.mk #[]), .string (ByteArray.mk #[]), .int .i64 0, .slice none 0 0] :: Fo) (rSl k_api_Node v80 u78.1 :: rSl kS v81 u78.2.Names :: rs32) := H
        refine ⟨⟨_, _, H, (subO_cons (.head _) (subO_cons (.tail _ (.head _)) (subO_nil))), (sub_nil)⟩, ?_⟩
        refine fr_val E rfl (wn rfl) rfl rfl (fun w hW => (x_ext E rfl rfl rfl)) ?_
        clear a E;intro a E
        refine fr_val E rfl (wn rfl) rfl rfl (fun w hW => (x_ext E rfl rfl rfl)) ?_
        clear a E;intro a E
        refine fr_tail rfl ?_
        refine sv E rfl rfl rfl (x_assign E rfl rfl) ?_
        clear a E;intro a E
        refine wpList_nil ?_
        refine q_then ?_
        refine fr_tail rfl ?_
        obtain ⟨q82, x83, rfl⟩ := H.slform (.tail _ (.head _))
        refine st_st (i := 2) E H (wn rfl) rfl (us := [.int .i64 u78.2.Err, .string u78.2.Path, .string u78.2.Data, .int .i64 u78.2.Version, (.slice q82 u78.2.Names.length x83)]) rfl rfl rfl rfl rfl sz31 rfl rfl ?_
        clear H; clear w; intro w H
        replace H : Sep w (Blk p41 46 [.nilFunc, .nilFunc, .func (.func 21) #[] #[], .func (.func 22) #[] #[], .func (.func 23) #[] #[], .func (.func 24) #[] #[], .func (.func 25) #[] #[], .func (.func 26) #[] #[]] :: Blk p6 24 [.int .i64 x3.Kind, .string x3.Path, .string x3.Data, .int .i64 x3.Version, .int .i64 x3.Owner, .bool x3.Turns] :: Blk p7 31 [.int .i64 u78.2.Err, .string u78.2.Path, .string u78.2.Data, .int .i64 u78.2.Version, (.slice q82 u78.2.Names.length x83)] :: Fo) _ := H
        refine wpList_nil ?_
        refine q_then ?_
        refine fr_nil ?_
        clear hI
        refine q_then ?_
        refine wp_ret ?_
        refine outR2 E rfl (rvT rfl) (rvBN (i := 2) (us := [.int .i64 u78.2.Err, .string u78.2.Path, .string u78.2.Data, .int .i64 u78.2.Version, (.slice q82 u78.2.Names.length x83)]) H rfl rfl rfl Tryz.underlying31 rfl sz31) ?_
        replace H := H.drop 0
        replace H := H.drop 0
        replace H := H.drop 0
        obtain rfl := Option.some.inj hm
        exact ⟨v80, (.slice q82 u78.2.Names.length x83), rfl, H.reads (sub_cons (.head _) (sub_cons (.tail _ (.head _)) (fun r hr => .tail _ (.tail _ (hs33 r hr)))))⟩
       ·rw [if_f hb77] at hm
        rcases Bool.eq_false_or_eq_true (x3.Kind == 3) with hb70 | hb70
        ·rw [if_t hb70] at hm
         refine fr_val E rfl (wn rfl) rfl rfl (fun w hW => x_ixP (j := 3) E rfl rfl rfl hb70 rfl Tryz.underlying46 sz45) ?_
         clear a E;intro a E
         refine fr_val E rfl (wn rfl) rfl rfl (fun w hW => x_ld E rfl rfl (ib_ld (.head _) rfl Tryz.underlying45 rfl w hW)) ?_
         clear a E;intro a E
         refine fr_val E rfl (wn rfl) rfl rfl (fun w hW => (x_move E rfl rfl)) ?_
         clear a E;intro a E
         refine fr_val E rfl (wn rfl) rfl rfl (fun w hW => (x_move E rfl rfl)) ?_
         clear a E;intro a E
         refine fr_val E rfl (wn rfl) rfl rfl (fun w hW => x_ld E rfl rfl (ib_ldN (us := [.int .i64 x3.Kind, .string x3.Path, .string x3.Data, .int .i64 x3.Version, .int .i64 x3.Owner, .bool x3.Turns]) (.tail _ (.head _)) rfl Tryz.underlying24 rfl sz24 w hW)) ?_
         clear a E;intro a E
         refine fr_op rfl ?_
         obtain ⟨u71, hx72, hm⟩ := bnd hm
         refine st_call E (wn rfl) rfl rfl (x_callv E rfl rfl rfl (cf22 _)) (c_nodes_set v1 l2 u24.1 (⟨x3.Kind, x3.Path, x3.Data, x3.Version, x3.Owner, x3.Turns⟩ : S_api_Op) H hr34 hx72) ?_
         clear E H; clear a; clear w; rintro _ w ⟨v73, v74, rfl, H⟩ a E
         refine wpList_nil ?_
         refine q_then ?_
         replace H : Sep w (Blk p41 46 [.nilFunc, .nilFunc, .func (.func 21) #[] #[], .func (.func 22) #[] #[], .func (.func 23) #[] #[], .func (.func 24) #[] #[], .func (.func 25) #[] #[], .func (.func 26) #[] #[]] :: Blk p6 24 [.int .i64 x3.Kind, .string x3.Path, .string x3.Data, .int .i64 x3.Version, .int .i64 x3.Owner, .bool x3.Turns] :: Blk p7 31 [.int .i64 0, .string (ByteArray.mk #[]), .string (ByteArray.mk #[]), .int .i64 0, .slice none 0 0] :: Fo) (rSl k_api_Node v73 u71.1 :: rSl kS v74 u71.2.Names :: rs32) := H
         refine ⟨⟨_, _, H, (subO_cons (.head _) (subO_cons (.tail _ (.head _)) (subO_nil))), (sub_nil)⟩, ?_⟩
         refine fr_val E rfl (wn rfl) rfl rfl (fun w hW => (x_ext E rfl rfl rfl)) ?_
         clear a E;intro a E
         refine fr_val E rfl (wn rfl) rfl rfl (fun w hW => (x_ext E rfl rfl rfl)) ?_
         clear a E;intro a E
         refine fr_tail rfl ?_
         refine sv E rfl rfl rfl (x_assign E rfl rfl) ?_
         clear a E;intro a E
         refine wpList_nil ?_
         refine q_then ?_
         refine fr_tail rfl ?_
         obtain ⟨q75, x76, rfl⟩ := H.slform (.tail _ (.head _))
         refine st_st (i := 2) E H (wn rfl) rfl (us := [.int .i64 u71.2.Err, .string u71.2.Path, .string u71.2.Data, .int .i64 u71.2.Version, (.slice q75 u71.2.Names.length x76)]) rfl rfl rfl rfl rfl sz31 rfl rfl ?_
         clear H; clear w; intro w H
         replace H : Sep w (Blk p41 46 [.nilFunc, .nilFunc, .func (.func 21) #[] #[], .func (.func 22) #[] #[], .func (.func 23) #[] #[], .func (.func 24) #[] #[], .func (.func 25) #[] #[], .func (.func 26) #[] #[]] :: Blk p6 24 [.int .i64 x3.Kind, .string x3.Path, .string x3.Data, .int .i64 x3.Version, .int .i64 x3.Owner, .bool x3.Turns] :: Blk p7 31 [.int .i64 u71.2.Err, .string u71.2.Path, .string u71.2.Data, .int .i64 u71.2.Version, (.slice q75 u71.2.Names.length x76)] :: Fo) _ := H
         refine wpList_nil ?_
         refine q_then ?_
         refine fr_nil ?_
         clear hI
         refine q_then ?_
         refine wp_ret ?_
         refine outR2 E rfl (rvT rfl) (rvBN (i := 2) (us := [.int .i64 u71.2.Err, .string u71.2.Path, .string u71.2.Data, .int .i64 u71.2.Version, (.slice q75 u71.2.Names.length x76)]) H rfl rfl rfl Tryz.underlying31 rfl sz31) ?_
         replace H := H.drop 0
         replace H := H.drop 0
         replace H := H.drop 0
         obtain rfl := Option.some.inj hm
         exact ⟨v73, (.slice q75 u71.2.Names.length x76), rfl, H.reads (sub_cons (.head _) (sub_cons (.tail _ (.head _)) (fun r hr => .tail _ (.tail _ (hs33 r hr)))))⟩
        ·rw [if_f hb70] at hm
         rcases Bool.eq_false_or_eq_true (x3.Kind == 4) with hb63 | hb63
         ·rw [if_t hb63] at hm
          refine fr_val E rfl (wn rfl) rfl rfl (fun w hW => x_ixP (j := 4) E rfl rfl rfl hb63 rfl Tryz.underlying46 sz45) ?_
          clear a E;intro a E
          refine fr_val E rfl (wn rfl) rfl rfl (fun w hW => x_ld E rfl rfl (ib_ld (.head _) rfl Tryz.underlying45 rfl w hW)) ?_
          clear a E;intro a E
          refine fr_val E rfl (wn rfl) rfl rfl (fun w hW => (x_move E rfl rfl)) ?_
          clear a E;intro a E
          refine fr_val E rfl (wn rfl) rfl rfl (fun w hW => (x_move E rfl rfl)) ?_
          clear a E;intro a E
          refine fr_val E rfl (wn rfl) rfl rfl (fun w hW => x_ld E rfl rfl (ib_ldN (us := [.int .i64 x3.Kind, .string x3.Path, .string x3.Data, .int .i64 x3.Version, .int .i64 x3.Owner, .bool x3.Turns]) (.tail _ (.head _)) rfl Tryz.underlying24 rfl sz24 w hW)) ?_
          clear a E;intro a E
          refine fr_op rfl ?_
          obtain ⟨u64, hx65, hm⟩ := bnd hm
          refine st_call E (wn rfl) rfl rfl (x_callv E rfl rfl rfl (cf23 _)) (c_nodes_check v1 l2 u24.1 (⟨x3.Kind, x3.Path, x3.Data, x3.Version, x3.Owner, x3.Turns⟩ : S_api_Op) H hr34 hx65) ?_
          clear E H; clear a; clear w; rintro _ w ⟨v66, v67, rfl, H⟩ a E
          refine wpList_nil ?_
          refine q_then ?_
          replace H : Sep w (Blk p41 46 [.nilFunc, .nilFunc, .func (.func 21) #[] #[], .func (.func 22) #[] #[], .func (.func 23) #[] #[], .func (.func 24) #[] #[], .func (.func 25) #[] #[], .func (.func 26) #[] #[]] :: Blk p6 24 [.int .i64 x3.Kind, .string x3.Path, .string x3.Data, .int .i64 x3.Version, .int .i64 x3.Owner, .bool x3.Turns] :: Blk p7 31 [.int .i64 0, .string (ByteArray.mk #[]), .string (ByteArray.mk #[]), .int .i64 0, .slice none 0 0] :: Fo) (rSl k_api_Node v66 u64.1 :: rSl kS v67 u64.2.Names :: rs32) := H
          refine ⟨⟨_, _, H, (subO_cons (.head _) (subO_cons (.tail _ (.head _)) (subO_nil))), (sub_nil)⟩, ?_⟩
          refine fr_val E rfl (wn rfl) rfl rfl (fun w hW => (x_ext E rfl rfl rfl)) ?_
          clear a E;intro a E
          refine fr_val E rfl (wn rfl) rfl rfl (fun w hW => (x_ext E rfl rfl rfl)) ?_
          clear a E;intro a E
          refine fr_tail rfl ?_
          refine sv E rfl rfl rfl (x_assign E rfl rfl) ?_
          clear a E;intro a E
          refine wpList_nil ?_
          refine q_then ?_
          refine fr_tail rfl ?_
          obtain ⟨q68, x69, rfl⟩ := H.slform (.tail _ (.head _))
          refine st_st (i := 2) E H (wn rfl) rfl (us := [.int .i64 u64.2.Err, .string u64.2.Path, .string u64.2.Data, .int .i64 u64.2.Version, (.slice q68 u64.2.Names.length x69)]) rfl rfl rfl rfl rfl sz31 rfl rfl ?_
          clear H; clear w; intro w H
          replace H : Sep w (Blk p41 46 [.nilFunc, .nilFunc, .func (.func 21) #[] #[], .func (.func 22) #[] #[], .func (.func 23) #[] #[], .func (.func 24) #[] #[], .func (.func 25) #[] #[], .func (.func 26) #[] #[]] :: Blk p6 24 [.int .i64 x3.Kind, .string x3.Path, .string x3.Data, .int .i64 x3.Version, .int .i64 x3.Owner, .bool x3.Turns] :: Blk p7 31 [.int .i64 u64.2.Err, .string u64.2.Path, .string u64.2.Data, .int .i64 u64.2.Version, (.slice q68 u64.2.Names.length x69)] :: Fo) _ := H
          refine wpList_nil ?_
          refine q_then ?_
          refine fr_nil ?_
          clear hI
          refine q_then ?_
          refine wp_ret ?_
          refine outR2 E rfl (rvT rfl) (rvBN (i := 2) (us := [.int .i64 u64.2.Err, .string u64.2.Path, .string u64.2.Data, .int .i64 u64.2.Version, (.slice q68 u64.2.Names.length x69)]) H rfl rfl rfl Tryz.underlying31 rfl sz31) ?_
          replace H := H.drop 0
          replace H := H.drop 0
          replace H := H.drop 0
          obtain rfl := Option.some.inj hm
          exact ⟨v66, (.slice q68 u64.2.Names.length x69), rfl, H.reads (sub_cons (.head _) (sub_cons (.tail _ (.head _)) (fun r hr => .tail _ (.tail _ (hs33 r hr)))))⟩
         ·rw [if_f hb63] at hm
          rcases Bool.eq_false_or_eq_true (x3.Kind == 5) with hb56 | hb56
          ·rw [if_t hb56] at hm
           refine fr_val E rfl (wn rfl) rfl rfl (fun w hW => x_ixP (j := 5) E rfl rfl rfl hb56 rfl Tryz.underlying46 sz45) ?_
           clear a E;intro a E
           refine fr_val E rfl (wn rfl) rfl rfl (fun w hW => x_ld E rfl rfl (ib_ld (.head _) rfl Tryz.underlying45 rfl w hW)) ?_
           clear a E;intro a E
           refine fr_val E rfl (wn rfl) rfl rfl (fun w hW => (x_move E rfl rfl)) ?_
           clear a E;intro a E
           refine fr_val E rfl (wn rfl) rfl rfl (fun w hW => (x_move E rfl rfl)) ?_
           clear a E;intro a E
           refine fr_val E rfl (wn rfl) rfl rfl (fun w hW => x_ld E rfl rfl (ib_ldN (us := [.int .i64 x3.Kind, .string x3.Path, .string x3.Data, .int .i64 x3.Version, .int .i64 x3.Owner, .bool x3.Turns]) (.tail _ (.head _)) rfl Tryz.underlying24 rfl sz24 w hW)) ?_
           clear a E;intro a E
           refine fr_op rfl ?_
           obtain ⟨u57, hx58, hm⟩ := bnd hm
           refine st_call E (wn rfl) rfl rfl (x_callv E rfl rfl rfl (cf24 _)) (c_nodes_get v1 l2 u24.1 (⟨x3.Kind, x3.Path, x3.Data, x3.Version, x3.Owner, x3.Turns⟩ : S_api_Op) H hr34 hx58) ?_
           clear E H; clear a; clear w; rintro _ w ⟨v59, v60, rfl, H⟩ a E
           refine wpList_nil ?_
           refine q_then ?_
           replace H : Sep w (Blk p41 46 [.nilFunc, .nilFunc, .func (.func 21) #[] #[], .func (.func 22) #[] #[], .func (.func 23) #[] #[], .func (.func 24) #[] #[], .func (.func 25) #[] #[], .func (.func 26) #[] #[]] :: Blk p6 24 [.int .i64 x3.Kind, .string x3.Path, .string x3.Data, .int .i64 x3.Version, .int .i64 x3.Owner, .bool x3.Turns] :: Blk p7 31 [.int .i64 0, .string (ByteArray.mk #[]), .string (ByteArray.mk #[]), .int .i64 0, .slice none 0 0] :: Fo) (rSl k_api_Node v59 u57.1 :: rSl kS v60 u57.2.Names :: rs32) := H
           refine ⟨⟨_, _, H, (subO_cons (.head _) (subO_cons (.tail _ (.head _)) (subO_nil))), (sub_nil)⟩, ?_⟩
           refine fr_val E rfl (wn rfl) rfl rfl (fun w hW => (x_ext E rfl rfl rfl)) ?_
           clear a E;intro a E
           refine fr_val E rfl (wn rfl) rfl rfl (fun w hW => (x_ext E rfl rfl rfl)) ?_
           clear a E;intro a E
           refine fr_tail rfl ?_
           refine sv E rfl rfl rfl (x_assign E rfl rfl) ?_
           clear a E;intro a E
           refine wpList_nil ?_
           refine q_then ?_
           refine fr_tail rfl ?_
           obtain ⟨q61, x62, rfl⟩ := H.slform (.tail _ (.head _))
           refine st_st (i := 2) E H (wn rfl) rfl (us := [.int .i64 u57.2.Err, .string u57.2.Path, .string u57.2.Data, .int .i64 u57.2.Version, (.slice q61 u57.2.Names.length x62)]) rfl rfl rfl rfl rfl sz31 rfl rfl ?_
           clear H; clear w; intro w H
           replace H : Sep w (Blk p41 46 [.nilFunc, .nilFunc, .func (.func 21) #[] #[], .func (.func 22) #[] #[], .func (.func 23) #[] #[], .func (.func 24) #[] #[], .func (.func 25) #[] #[], .func (.func 26) #[] #[]] :: Blk p6 24 [.int .i64 x3.Kind, .string x3.Path, .string x3.Data, .int .i64 x3.Version, .int .i64 x3.Owner, .bool x3.Turns] :: Blk p7 31 [.int .i64 u57.2.Err, .string u57.2.Path, .string u57.2.Data, .int .i64 u57.2.Version, (.slice q61 u57.2.Names.length x62)] :: Fo) _ := H
           refine wpList_nil ?_
           refine q_then ?_
           refine fr_nil ?_
           clear hI
           refine q_then ?_
           refine wp_ret ?_
           refine outR2 E rfl (rvT rfl) (rvBN (i := 2) (us := [.int .i64 u57.2.Err, .string u57.2.Path, .string u57.2.Data, .int .i64 u57.2.Version, (.slice q61 u57.2.Names.length x62)]) H rfl rfl rfl Tryz.underlying31 rfl sz31) ?_
           replace H := H.drop 0
           replace H := H.drop 0
           replace H := H.drop 0
           obtain rfl := Option.some.inj hm
           exact ⟨v59, (.slice q61 u57.2.Names.length x62), rfl, H.reads (sub_cons (.head _) (sub_cons (.tail _ (.head _)) (fun r hr => .tail _ (.tail _ (hs33 r hr)))))⟩
          ·rw [if_f hb56] at hm
           rcases Bool.eq_false_or_eq_true (x3.Kind == 6) with hb49 | hb49
           ·rw [if_t hb49] at hm
            refine fr_val E rfl (wn rfl) rfl rfl (fun w hW => x_ixP (j := 6) E rfl rfl rfl hb49 rfl Tryz.underlying46 sz45) ?_
            clear a E;intro a E
            refine fr_val E rfl (wn rfl) rfl rfl (fun w hW => x_ld E rfl rfl (ib_ld (.head _) rfl Tryz.underlying45 rfl w hW)) ?_
            clear a E;intro a E
            refine fr_val E rfl (wn rfl) rfl rfl (fun w hW => (x_move E rfl rfl)) ?_
            clear a E;intro a E
            refine fr_val E rfl (wn rfl) rfl rfl (fun w hW => (x_move E rfl rfl)) ?_
            clear a E;intro a E
            refine fr_val E rfl (wn rfl) rfl rfl (fun w hW => x_ld E rfl rfl (ib_ldN (us := [.int .i64 x3.Kind, .string x3.Path, .string x3.Data, .int .i64 x3.Version, .int .i64 x3.Owner, .bool x3.Turns]) (.tail _ (.head _)) rfl Tryz.underlying24 rfl sz24 w hW)) ?_
            clear a E;intro a E
            refine fr_op rfl ?_
            obtain ⟨u50, hx51, hm⟩ := bnd hm
            refine st_call E (wn rfl) rfl rfl (x_callv E rfl rfl rfl (cf25 _)) (c_nodes_list v1 l2 u24.1 (⟨x3.Kind, x3.Path, x3.Data, x3.Version, x3.Owner, x3.Turns⟩ : S_api_Op) H hr34 hx51) ?_
            clear E H; clear a; clear w; rintro _ w ⟨v52, v53, rfl, H⟩ a E
            refine wpList_nil ?_
            refine q_then ?_
            replace H : Sep w (Blk p41 46 [.nilFunc, .nilFunc, .func (.func 21) #[] #[], .func (.func 22) #[] #[], .func (.func 23) #[] #[], .func (.func 24) #[] #[], .func (.func 25) #[] #[], .func (.func 26) #[] #[]] :: Blk p6 24 [.int .i64 x3.Kind, .string x3.Path, .string x3.Data, .int .i64 x3.Version, .int .i64 x3.Owner, .bool x3.Turns] :: Blk p7 31 [.int .i64 0, .string (ByteArray.mk #[]), .string (ByteArray.mk #[]), .int .i64 0, .slice none 0 0] :: Fo) (rSl k_api_Node v52 u50.1 :: rSl kS v53 u50.2.Names :: rs32) := H
            refine ⟨⟨_, _, H, (subO_cons (.head _) (subO_cons (.tail _ (.head _)) (subO_nil))), (sub_nil)⟩, ?_⟩
            refine fr_val E rfl (wn rfl) rfl rfl (fun w hW => (x_ext E rfl rfl rfl)) ?_
            clear a E;intro a E
            refine fr_val E rfl (wn rfl) rfl rfl (fun w hW => (x_ext E rfl rfl rfl)) ?_
            clear a E;intro a E
            refine fr_tail rfl ?_
            refine sv E rfl rfl rfl (x_assign E rfl rfl) ?_
            clear a E;intro a E
            refine wpList_nil ?_
            refine q_then ?_
            refine fr_tail rfl ?_
            obtain ⟨q54, x55, rfl⟩ := H.slform (.tail _ (.head _))
            refine st_st (i := 2) E H (wn rfl) rfl (us := [.int .i64 u50.2.Err, .string u50.2.Path, .string u50.2.Data, .int .i64 u50.2.Version, (.slice q54 u50.2.Names.length x55)]) rfl rfl rfl rfl rfl sz31 rfl rfl ?_
            clear H; clear w; intro w H
            replace H : Sep w (Blk p41 46 [.nilFunc, .nilFunc, .func (.func 21) #[] #[], .func (.func 22) #[] #[], .func (.func 23) #[] #[], .func (.func 24) #[] #[], .func (.func 25) #[] #[], .func (.func 26) #[] #[]] :: Blk p6 24 [.int .i64 x3.Kind, .string x3.Path, .string x3.Data, .int .i64 x3.Version, .int .i64 x3.Owner, .bool x3.Turns] :: Blk p7 31 [.int .i64 u50.2.Err, .string u50.2.Path, .string u50.2.Data, .int .i64 u50.2.Version, (.slice q54 u50.2.Names.length x55)] :: Fo) _ := H
            refine wpList_nil ?_
            refine q_then ?_
            refine fr_nil ?_
            clear hI
            refine q_then ?_
            refine wp_ret ?_
            refine outR2 E rfl (rvT rfl) (rvBN (i := 2) (us := [.int .i64 u50.2.Err, .string u50.2.Path, .string u50.2.Data, .int .i64 u50.2.Version, (.slice q54 u50.2.Names.length x55)]) H rfl rfl rfl Tryz.underlying31 rfl sz31) ?_
            replace H := H.drop 0
            replace H := H.drop 0
            replace H := H.drop 0
            obtain rfl := Option.some.inj hm
            exact ⟨v52, (.slice q54 u50.2.Names.length x55), rfl, H.reads (sub_cons (.head _) (sub_cons (.tail _ (.head _)) (fun r hr => .tail _ (.tail _ (hs33 r hr)))))⟩
           ·rw [if_f hb49] at hm
            rcases Bool.eq_false_or_eq_true (x3.Kind == 7) with hb42 | hb42
            ·rw [if_t hb42] at hm
             refine fr_val E rfl (wn rfl) rfl rfl (fun w hW => x_ixP (j := 7) E rfl rfl rfl hb42 rfl Tryz.underlying46 sz45) ?_
             clear a E;intro a E
             refine fr_val E rfl (wn rfl) rfl rfl (fun w hW => x_ld E rfl rfl (ib_ld (.head _) rfl Tryz.underlying45 rfl w hW)) ?_
             clear a E;intro a E
             refine fr_val E rfl (wn rfl) rfl rfl (fun w hW => (x_move E rfl rfl)) ?_
             clear a E;intro a E
             refine fr_val E rfl (wn rfl) rfl rfl (fun w hW => (x_move E rfl rfl)) ?_
             clear a E;intro a E
             refine fr_val E rfl (wn rfl) rfl rfl (fun w hW => x_ld E rfl rfl (ib_ldN (us := [.int .i64 x3.Kind, .string x3.Path, .string x3.Data, .int .i64 x3.Version, .int .i64 x3.Owner, .bool x3.Turns]) (.tail _ (.head _)) rfl Tryz.underlying24 rfl sz24 w hW)) ?_
             clear a E;intro a E
             refine fr_op rfl ?_
             obtain ⟨u43, hx44, hm⟩ := bnd hm
             refine st_call E (wn rfl) rfl rfl (x_callv E rfl rfl rfl (cf26 _)) (c_nodes_sweep v1 l2 u24.1 (⟨x3.Kind, x3.Path, x3.Data, x3.Version, x3.Owner, x3.Turns⟩ : S_api_Op) H hr34 hx44) ?_
             clear E H; clear a; clear w; rintro _ w ⟨v45, v46, rfl, H⟩ a E
             refine wpList_nil ?_
             refine q_then ?_
             replace H : Sep w (Row 35 k_api_Node v45 u43.1 :: Blk p41 46 [.nilFunc, .nilFunc, .func (.func 21) #[] #[], .func (.func 22) #[] #[], .func (.func 23) #[] #[], .func (.func 24) #[] #[], .func (.func 25) #[] #[], .func (.func 26) #[] #[]] :: Blk p6 24 [.int .i64 x3.Kind, .string x3.Path, .string x3.Data, .int .i64 x3.Version, .int .i64 x3.Owner, .bool x3.Turns] :: Blk p7 31 [.int .i64 0, .string (ByteArray.mk #[]), .string (ByteArray.mk #[]), .int .i64 0, .slice none 0 0] :: Fo) (rSl kS v46 u43.2.Names :: rs32) := H
             refine ⟨⟨_, _, H, (subO_cons (.tail _ (.head _)) (subO_cons (.tail _ (.tail _ (.head _))) (subO_nil))), (sub_nil)⟩, ?_⟩
             refine fr_val E rfl (wn rfl) rfl rfl (fun w hW => (x_ext E rfl rfl rfl)) ?_
             clear a E;intro a E
             refine fr_val E rfl (wn rfl) rfl rfl (fun w hW => (x_ext E rfl rfl rfl)) ?_
             clear a E;intro a E
             refine fr_tail rfl ?_
             refine sv E rfl rfl rfl (x_assign E rfl rfl) ?_
             clear a E;intro a E
             refine wpList_nil ?_
             refine q_then ?_
             refine fr_tail rfl ?_
             obtain ⟨q47, x48, rfl⟩ := H.slform (.head _)
             refine st_st (i := 3) E H (wn rfl) rfl (us := [.int .i64 u43.2.Err, .string u43.2.Path, .string u43.2.Data, .int .i64 u43.2.Version, (.slice q47 u43.2.Names.length x48)]) rfl rfl rfl rfl rfl sz31 rfl rfl ?_
             clear H; clear w; intro w H
             replace H : Sep w (Row 35 k_api_Node v45 u43.1 :: Blk p41 46 [.nilFunc, .nilFunc, .func (.func 21) #[] #[], .func (.func 22) #[] #[], .func (.func 23) #[] #[], .func (.func 24) #[] #[], .func (.func 25) #[] #[], .func (.func 26) #[] #[]] :: Blk p6 24 [.int .i64 x3.Kind, .string x3.Path, .string x3.Data, .int .i64 x3.Version, .int .i64 x3.Owner, .bool x3.Turns] :: Blk p7 31 [.int .i64 u43.2.Err, .string u43.2.Path, .string u43.2.Data, .int .i64 u43.2.Version, (.slice q47 u43.2.Names.length x48)] :: Fo) _ := H
             refine wpList_nil ?_
             refine q_then ?_
             refine fr_nil ?_
             clear hI
             refine q_then ?_
             refine wp_ret ?_
             refine outR2 E rfl (rvT rfl) (rvBN (i := 3) (us := [.int .i64 u43.2.Err, .string u43.2.Path, .string u43.2.Data, .int .i64 u43.2.Version, (.slice q47 u43.2.Names.length x48)]) H rfl rfl rfl Tryz.underlying31 rfl sz31) ?_
             replace H := H.thaw (i := 0) rfl
             replace H := H.drop 0
             replace H := H.drop 0
             replace H := H.drop 0
             obtain rfl := Option.some.inj hm
             exact ⟨v45, (.slice q47 u43.2.Names.length x48), rfl, H.reads (sub_cons (.head _) (sub_cons (.tail _ (.head _)) (fun r hr => .tail _ (.tail _ (hs33 r hr)))))⟩
            ·rw [if_f hb42] at hm
             exact (none_some hm rfl).elim
end Go.Cb

set_option linter.unusedVariables false
set_option linter.unusedSimpArgs false
namespace Go.Cb
open Go.Proofs Go.RowKit
def m_cantonref01_Last_j1 (u2 : (List ByteArray) × Bool) (b5 : Bool) : Option ByteArray :=
  if b5 = true then (some ((ByteArray.mk #[]))) else ((idx u2.1 (IntKind.i64.wrap ((u2.1.length : Int) - 1))).bind fun x8 => some (x8))
def m_cantonref01_Last (s1 : ByteArray) : Option ByteArray :=
  (m_cantonref01_Split s1).bind fun u2 => if (!u2.2) = true then (m_cantonref01_Last_j1 u2 true) else (m_cantonref01_Last_j1 u2 ((u2.1.length : Int) == 0))
set_option maxRecDepth 20000 in
set_option maxHeartbeats 1000000 in
theorem c_cantonref01_Last {w : World} {Fo : List Ob} {rs : List Rp} (s1 : ByteArray) (H : Sep w (Fo) rs) {r : ByteArray} (hm : m_cantonref01_Last s1 = some r) :
    Calls Tryz.prog 31 [.string s1].toArray w (Ret fun v w' => .string r = v ∧ Sep w' (Fo) (rs)) := by
 unfold m_cantonref01_Last at hm
 refine enter Tryz.func31 rfl Tryz.ntmps31 rfl fun a E => ?_
 simp only [enum, Nat.reduceAdd] at E
 refine wp_seq ?_
 refine wp_region_lit ?_
 refine sv E rfl rfl rfl (x_assign E rfl rfl) ?_
 clear a E;intro a E
 refine wpList_nil ?_
 refine q_then ?_
 refine wp_seq ?_
 refine wp_region_lit ?_
 refine sv E rfl rfl rfl (x_move E rfl rfl) ?_
 clear a E;intro a E
 obtain ⟨u2, hx3, hm⟩ := bnd hm
 refine st_call E (wn rfl) rfl rfl (x_call E rfl rfl (cf56 _)) (c_cantonref01_Split s1 H hx3) ?_
 clear E H; clear a; clear w; rintro _ w ⟨v4, rfl, H⟩ a E
 refine sv E rfl rfl rfl (x_move E rfl rfl) ?_
 clear a E;intro a E
 refine sv E rfl rfl rfl (x_ext E rfl rfl rfl) ?_
 clear a E;intro a E
 refine sv E rfl rfl rfl (x_ext E rfl rfl rfl) ?_
 clear a E;intro a E
 refine sv E rfl rfl rfl (x_assign E rfl rfl) ?_
 clear a E;intro a E
 refine sv E rfl rfl rfl (x_assign E rfl rfl) ?_
 clear a E;intro a E
 refine wpList_nil ?_
 refine q_then ?_
 refine wp_seq ?_
 refine wp_seq_cut (fun a w => ∃ (b5 : Bool) (rs6 : List Rp), Env 23 a [(3, v4), (16, .bool b5)] ∧ Sep w (Row 9 kS v4 u2.1 :: Fo) rs6 ∧ (∀ r, r ∈ rs → r ∈ rs6) ∧ m_cantonref01_Last_j1 u2 b5 = some r) ?_ ?_
 ·refine wp_region_lit ?_
  refine sv E rfl rfl rfl (x_move E rfl rfl) ?_
  clear a E;intro a E
  refine sv E rfl rfl rfl (x_not E rfl rfl) ?_
  clear a E;intro a E
  refine sv E rfl rfl rfl (x_move E rfl rfl) ?_
  clear a E;intro a E
  rcases Bool.eq_false_or_eq_true (!u2.2) with hb11 | hb11
  ·rw [if_t hb11] at hm
   refine st_no E (wf' E rfl rfl rfl rfl hb11 rfl) rfl rfl ?_
   clear a E;intro a E
   refine st_no E (wf' E rfl rfl rfl rfl hb11 rfl) rfl rfl ?_
   clear a E;intro a E
   refine st_no E (wf' E rfl rfl rfl rfl hb11 rfl) rfl rfl ?_
   clear a E;intro a E
   refine sv E rfl rfl rfl (x_pickT E rfl rfl hb11 rfl) ?_
   clear a E;intro a E
   refine wpList_nil ?_
   refine q_then ?_
   exact ⟨true, _, ((E.nil.keep E 16 rfl).keep E 3 rfl), H, fun r hr => hr, hm⟩
  ·rw [if_f hb11] at hm
   refine st_val E (ws' E rfl rfl rfl rfl hb11) rfl rfl (x_move E rfl rfl) ?_
   clear a E;intro a E
   refine st_val E (ws' E rfl rfl rfl rfl hb11) rfl rfl (x_lenR (i := 0) E H rfl rfl rfl Tryz.underlying29) ?_
   clear a E;intro a E
   refine st_val E (ws' E rfl rfl rfl rfl hb11) rfl rfl (x_bin E rfl rfl rfl rfl) ?_
   clear a E;intro a E
   refine sv E rfl rfl rfl (x_pickF E rfl rfl hb11 rfl) ?_
   clear a E;intro a E
   refine wpList_nil ?_
   refine q_then ?_
   exact ⟨(u2.1.length : Int) == 0, _, ((E.nil.keep E 16 rfl).keep E 3 rfl), H, fun r hr => hr, hm⟩
 ·clear E H hm
  rintro a w ⟨b5, rs6, E, H, hs7, hm⟩
  unfold m_cantonref01_Last_j1 at hm
  refine wp_if E rfl ?_ ?_
  ·intro hb
   rw [if_t hb] at hm
   clear hb
   refine wp_seq ?_
   refine wp_region_lit ?_
   refine sv E rfl rfl rfl (x_assign E rfl rfl) ?_
   clear a E;intro a E
   refine wpList_nil ?_
   refine q_then ?_
   refine wp_ret ?_
   refine q_thenR ?_
   refine out1 E rfl rfl ?_
   replace H := H.drop 0
   obtain rfl := Option.some.inj hm
   exact ⟨rfl, H.reads (fun r hr => hs7 r hr)⟩
  ·intro hb
   rw [if_f hb] at hm
   clear hb
   refine wp_skip ?_
   refine q_then ?_
   refine wp_seq ?_
   refine wp_region_lit ?_
   refine sv E rfl rfl rfl (x_move E rfl rfl) ?_
   clear a E;intro a E
   refine sv E rfl rfl rfl (x_move E rfl rfl) ?_
   clear a E;intro a E
   refine sv E rfl rfl rfl (x_lenR (i := 0) E H rfl rfl rfl Tryz.underlying29) ?_
   clear a E;intro a E
   refine sv E rfl rfl rfl (x_bin E rfl rfl rfl rfl) ?_
   clear a E;intro a E
   replace H := H.thaw (i := 0) rfl
   obtain ⟨x8, hx9, hm⟩ := bnd hm
   refine st_ixS E H (wn rfl) rfl rfl rfl rfl rfl (.head _) Tryz.underlying29 sz9 hx9 ?_
   clear E H; clear a; intro q10 a H E
   refine sv E rfl rfl rfl (x_ldA E H rfl rfl (.head _) Tryz.underlying9 rfl) ?_
   clear a E;intro a E
   refine sv E rfl rfl rfl (x_assign E rfl rfl) ?_
   clear a E;intro a E
   refine wpList_nil ?_
   refine q_then ?_
   refine wp_ret ?_
   refine out1 E rfl rfl ?_
   obtain rfl := Option.some.inj hm
   exact ⟨rfl, H.reads (fun r hr => .tail _ (.tail _ (hs7 r hr)))⟩
end Go.Cb

set_option linter.unusedVariables false
set_option linter.unusedSimpArgs false
namespace Go.Cb
open Go.Proofs Go.RowKit
def m_cantonref06_Children_j1 (rec_1 : (List S_api_Node) → Int → Option (List S_api_Node)) (x7 : Int) (l12 : (List S_api_Node)) : Option (List S_api_Node) :=
  rec_1 l12 (IntKind.i64.wrap (x7 + 1))
def m_cantonref06_Children_j2 (rec_1 : (List S_api_Node) → Int → Option (List S_api_Node)) (x7 : Int) (l2 : List S_api_Node) (l6 : (List S_api_Node)) (b21 : Bool) : Option (List S_api_Node) :=
  if b21 = true then ((idx l2 x7).bind fun x25 => (ck (l6.length + ([x25] : List S_api_Node).length ≤ LIM)).bind fun u31 => m_cantonref06_Children_j1 rec_1 x7 (l6 ++ ([x25] : List S_api_Node))) else (m_cantonref06_Children_j1 rec_1 x7 l6)
def m_cantonref06_Children_l1 (l2 : List S_api_Node) (s3 : ByteArray) : Nat → (List S_api_Node) → Int → Option (List S_api_Node)
  | 0, _, _ => none
  | k1 + 1, l6, x7 =>
    if (decide (x7 < (l2.length : Int))) = true then ((idx l2 x7).bind fun x16 => (m_cantonref01_Parent x16.Path).bind fun u19 => if u19.2 = true then (m_cantonref06_Children_j2 (m_cantonref06_Children_l1 l2 s3 k1) x7 l2 l6 (sEq u19.1 s3)) else (m_cantonref06_Children_j2 (m_cantonref06_Children_l1 l2 s3 k1) x7 l2 l6 false)) else (some (l6))
def m_cantonref06_Children (l2 : List S_api_Node) (s3 : ByteArray) : Option (List S_api_Node) :=
  m_cantonref06_Children_l1 l2 s3 (((l2.length : Int) - 0 : Int).toNat + 1) [] 0
set_option maxRecDepth 20000 in
set_option maxHeartbeats 1000000 in
theorem c_cantonref06_Children {w : World} {Fo : List Ob} {rs : List Rp} (v1 : Value) (l2 : List S_api_Node) (s3 : ByteArray) (H : Sep w (Fo) rs) (hr4 : rSl k_api_Node v1 l2 ∈ rs) {r : (List S_api_Node)} (hm : m_cantonref06_Children l2 s3 = some r) :
    Calls Tryz.prog 28 [v1, .string s3].toArray w (Ret fun v w' => ∃ (v5001 : Value), v5001 = v ∧ Sep w' (Row 35 k_api_Node v5001 r :: Fo) (rs)) := by
 unfold m_cantonref06_Children at hm
 refine enter Tryz.func28 rfl Tryz.ntmps28 rfl fun a E => ?_
 simp only [enum, Nat.reduceAdd] at E
 refine wp_seq ?_
 refine wp_region_lit ?_
 refine sv E rfl rfl rfl (x_assign E rfl rfl) ?_
 clear a E;intro a E
 refine wpList_nil ?_
 refine q_then ?_
 refine wp_seq ?_
 refine wp_region_lit ?_
 refine sv E rfl rfl rfl (x_assign E rfl rfl) ?_
 clear a E;intro a E
 refine wpList_nil ?_
 refine q_then ?_
 refine wp_seq ?_
 refine wp_seq ?_
 refine wp_region_lit ?_
 refine sv E rfl rfl rfl (x_assign E rfl rfl) ?_
 clear a E;intro a E
 refine wpList_nil ?_
 refine q_then ?_
 refine wp_block ?_
 refine wp_loop_g (fun k1 a w => ∃ (v5 : Value) (l6 : (List S_api_Node)) (x7 : Int) (rs8 : List Rp), Env 38 a [(0, v1), (1, .string s3), (5, v5), (6, .int .i64 x7)] ∧ Sep w (Row 35 k_api_Node v5 l6 :: Fo) rs8 ∧ (∀ r, r ∈ rs → r ∈ rs8) ∧ rSl k_api_Node v1 l2 ∈ rs8 ∧ m_cantonref06_Children_l1 l2 s3 k1 l6 x7 = some r) (((l2.length : Int) - 0 : Int).toNat + 1) ?_ ?_
 ·replace H := H.nilRow 35 k_api_Node
  exact ⟨(.slice none 0 0), [], 0, _, ((((E.nil.keep E 6 rfl).keep E 5 rfl).keep E 1 rfl).keep E 0 rfl), H, fun r hr => hr, hr4, hm⟩
 ·clear E H hm
  rintro k1 a w ⟨v5, l6, x7, rs8, E, H, hs9, hr10, hm⟩
  cases k1 with
  | zero => exact (none_some hm rfl).elim
  | succ k1 =>
   unfold m_cantonref06_Children_l1 at hm
   refine wp_seq ?_
   refine wp_seq ?_
   refine wp_region_lit ?_
   refine sv E rfl rfl rfl (x_move E rfl rfl) ?_
   clear a E;intro a E
   refine sv E rfl rfl rfl (x_move E rfl rfl) ?_
   clear a E;intro a E
   refine sv E rfl rfl rfl (x_lenS E H rfl rfl hr10 Tryz.underlying22) ?_
   clear a E;intro a E
   refine sv E rfl rfl rfl (x_bin E rfl rfl rfl rfl) ?_
   clear a E;intro a E
   refine wpList_nil ?_
   refine q_then ?_
   refine wp_if E rfl ?_ ?_
   ·intro hb
    rw [if_t hb] at hm
    clear hb
    refine wp_skip ?_
    refine q_then ?_
    refine wp_seq_cut (fun a w => ∃ (v11 : Value) (l12 : (List S_api_Node)) (rs13 : List Rp), Env 38 a [(0, v1), (1, .string s3), (5, v11), (6, .int .i64 x7)] ∧ Sep w (Row 35 k_api_Node v11 l12 :: Fo) rs13 ∧ (∀ r, r ∈ rs → r ∈ rs13) ∧ rSl k_api_Node v1 l2 ∈ rs13 ∧ m_cantonref06_Children_j1 (m_cantonref06_Children_l1 l2 s3 k1) x7 l12 = some r) ?_ ?_
    ·refine wp_block ?_
     refine wp_seq ?_
     refine wp_region_lit ?_
     refine sv E rfl rfl rfl (x_move E rfl rfl) ?_
     clear a E;intro a E
     refine sv E rfl rfl rfl (x_move E rfl rfl) ?_
     clear a E;intro a E
     obtain ⟨x16, hx17, hm⟩ := bnd hm
     refine st_ixS E H (wn rfl) rfl rfl rfl rfl rfl hr10 Tryz.underlying22 sz35 hx17 ?_
     clear E H; clear a; intro q18 a H E
     replace H := H.derive1 (.head _) (rAt kS (q18.add 0) x16.Path) (fun ok h => k_api_Node_at0 h)
     refine sv E rfl rfl rfl (x_fa E rfl rfl (fa35_0 _ _)) ?_
     clear a E;intro a E
     refine sv E rfl rfl rfl (x_ldA E H rfl rfl (.head _) Tryz.underlying9 rfl) ?_
     clear a E;intro a E
     obtain ⟨u19, hx20, hm⟩ := bnd hm
     refine st_call E (wn rfl) rfl rfl (x_call E rfl rfl (cf36 _)) (c_cantonref01_Parent x16.Path H hx20) ?_
     clear E H; clear a; clear w; rintro _ w ⟨rfl, H⟩ a E
     refine sv E rfl rfl rfl (x_move E rfl rfl) ?_
     clear a E;intro a E
     refine sv E rfl rfl rfl (x_ext E rfl rfl rfl) ?_
     clear a E;intro a E
     refine sv E rfl rfl rfl (x_ext E rfl rfl rfl) ?_
     clear a E;intro a E
     refine sv E rfl rfl rfl (x_assign E rfl rfl) ?_
     clear a E;intro a E
     refine sv E rfl rfl rfl (x_assign E rfl rfl) ?_
     clear a E;intro a E
     refine wpList_nil ?_
     refine q_then ?_
     refine wp_seq_cut (fun a w => ∃ (b21 : Bool) (rs22 : List Rp), Env 38 a [(0, v1), (1, .string s3), (5, v5), (6, .int .i64 x7), (29, .bool b21)] ∧ Sep w (Row 35 k_api_Node v5 l6 :: Fo) rs22 ∧ (∀ r, r ∈ rs → r ∈ rs22) ∧ rSl k_api_Node v1 l2 ∈ rs22 ∧ m_cantonref06_Children_j2 (m_cantonref06_Children_l1 l2 s3 k1) x7 l2 l6 b21 = some r) ?_ ?_
     ·refine wp_region_lit ?_
      refine sv E rfl rfl rfl (x_move E rfl rfl) ?_
      clear a E;intro a E
      refine sv E rfl rfl rfl (x_move E rfl rfl) ?_
      clear a E;intro a E
      rcases Bool.eq_false_or_eq_true u19.2 with hb33 | hb33
      ·rw [if_t hb33] at hm
       refine st_val E (ws' E rfl rfl rfl rfl hb33) rfl rfl (x_move E rfl rfl) ?_
       clear a E;intro a E
       refine st_val E (ws' E rfl rfl rfl rfl hb33) rfl rfl (x_move E rfl rfl) ?_
       clear a E;intro a E
       refine st_val E (ws' E rfl rfl rfl rfl hb33) rfl rfl (x_str E rfl rfl rfl rfl) ?_
       clear a E;intro a E
       refine sv E rfl rfl rfl (x_pickT E rfl rfl hb33 rfl) ?_
       clear a E;intro a E
       refine wpList_nil ?_
       refine q_then ?_
       exact ⟨sEq u19.1 s3, _, (((((E.nil.keep E 29 rfl).keep E 6 rfl).keep E 5 rfl).keep E 1 rfl).keep E 0 rfl), H, fun r hr => .tail _ (.tail _ (hs9 r hr)), (.tail _ (.tail _ hr10)), hm⟩
      ·rw [if_f hb33] at hm
       refine st_no E (wf' E rfl rfl rfl rfl hb33 rfl) rfl rfl ?_
       clear a E;intro a E
       refine st_no E (wf' E rfl rfl rfl rfl hb33 rfl) rfl rfl ?_
       clear a E;intro a E
       refine st_no E (wf' E rfl rfl rfl rfl hb33 rfl) rfl rfl ?_
       clear a E;intro a E
       refine sv E rfl rfl rfl (x_pickF E rfl rfl hb33 rfl) ?_
       clear a E;intro a E
       refine wpList_nil ?_
       refine q_then ?_
       exact ⟨false, _, (((((E.nil.keep E 29 rfl).keep E 6 rfl).keep E 5 rfl).keep E 1 rfl).keep E 0 rfl), H, fun r hr => .tail _ (.tail _ (hs9 r hr)), (.tail _ (.tail _ hr10)), hm⟩
     ·clear E H hm
      rintro a w ⟨b21, rs22, E, H, hs23, hr24, hm⟩
      unfold m_cantonref06_Children_j2 at hm
      refine wp_if E rfl ?_ ?_
      ·intro hb
       rw [if_t hb] at hm
       clear hb
       refine wp_region_lit ?_
       refine sv E rfl rfl rfl (x_move E rfl rfl) ?_
       clear a E;intro a E
       refine sv E rfl rfl rfl (x_move E rfl rfl) ?_
       clear a E;intro a E
       refine sv E rfl rfl rfl (x_move E rfl rfl) ?_
       clear a E;intro a E
       obtain ⟨x25, hx26, hm⟩ := bnd hm
       refine st_ixS E H (wn rfl) rfl rfl rfl rfl rfl hr24 Tryz.underlying22 sz35 hx26 ?_
       clear E H; clear a; intro q27 a H E
       refine st_ldN E H (wn rfl) rfl rfl rfl rfl (.head _) Tryz.underlying35 rfl sz35 ?_
       clear E H; clear a; intro u28 a H E
       obtain ⟨_, hcs⟩ := H.rd (.head _)
       obtain rfl := k_api_Node_open hcs
       clear hcs
       refine st_bsR (e := 35) (d := k_api_Node) (cs := [.string x25.Path, .string x25.Data, .int .i64 x25.Version, .int .i64 x25.Turn, .int .i64 x25.Owner]) (xs := [x25]) E H (wn rfl) rfl rfl (ps := [(0, .tmp 34)]) (parts := [(0, .agg #[.string x25.Path, .string x25.Data, .int .i64 x25.Version, .int .i64 x25.Turn, .int .i64 x25.Owner])]) rfl (by simp only [List.map]; rw [E.eval (x := .tmp 34) (v := .agg #[.string x25.Path, .string x25.Data, .int .i64 x25.Version, .int .i64 x25.Turn, .int .i64 x25.Owner]) rfl]) (by kernel_rfl) rfl (fun ok hr => (Rows.single (d := k_api_Node) (cs := [.string x25.Path, .string x25.Data, .int .i64 x25.Version, .int .i64 x25.Turn, .int .i64 x25.Owner]) (x := x25) k_api_Node_mk)) ?_
       clear E H; clear a; clear w; intro v29 w a H E
       obtain ⟨u31, hx32, hm⟩ := bnd hm
       refine st_append (i := 0) E H (wn rfl) rfl rfl rfl rfl rfl rfl (src_rd (.head _)) Tryz.underlying22 inf35 rfl (ck_of hx32) rfl ?_
       clear E H; clear a; clear w; intro v30 w a H E
       refine sv E rfl rfl rfl (x_assign E rfl rfl) ?_
       clear a E;intro a E
       refine wpList_nil ?_
       refine q_blk ?_
       refine q_then ?_
       exact ⟨v30, l6 ++ ([x25] : List S_api_Node), _, ((((E.nil.keep E 6 rfl).keep E 5 rfl).keep E 1 rfl).keep E 0 rfl), H, fun r hr => .tail _ (.tail _ (.tail _ (hs23 r hr))), (.tail _ (.tail _ (.tail _ hr24))), hm⟩
      ·intro hb
       rw [if_f hb] at hm
       clear hb
       refine wp_skip ?_
       refine q_blk ?_
       refine q_then ?_
       exact ⟨v5, l6, _, ((((E.nil.keep E 6 rfl).keep E 5 rfl).keep E 1 rfl).keep E 0 rfl), H, hs23, hr24, hm⟩
    ·clear E H hm
     rintro a w ⟨v11, l12, rs13, E, H, hs14, hr15, hm⟩
     unfold m_cantonref06_Children_j1 at hm
     refine wp_region_lit ?_
     refine sv E rfl rfl rfl (x_move E rfl rfl) ?_
     clear a E;intro a E
     refine sv E rfl rfl rfl (x_bin E rfl rfl rfl rfl) ?_
     clear a E;intro a E
     refine sv E rfl rfl rfl (x_assign E rfl rfl) ?_
     clear a E;intro a E
     refine wpList_nil ?_
     refine q_then ?_
     exact ⟨k1, Nat.lt_succ_self k1, v11, l12, IntKind.i64.wrap (x7 + 1), _, ((((E.nil.keep E 6 rfl).keep E 5 rfl).keep E 1 rfl).keep E 0 rfl), H, hs14, hr15, hm⟩
   ·intro hb
    rw [if_f hb] at hm
    clear hb
    refine wp_exit ?_
    refine q_thenX ?_
    refine q_thenX ?_
    refine q_hit ?_
    refine q_then ?_
    refine wp_seq ?_
    refine wp_region_lit ?_
    refine sv E rfl rfl rfl (x_move E rfl rfl) ?_
    clear a E;intro a E
    refine sv E rfl rfl rfl (x_assign E rfl rfl) ?_
    clear a E;intro a E
    refine wpList_nil ?_
    refine q_then ?_
    refine wp_ret ?_
    refine out1 E rfl rfl ?_
    obtain rfl := Option.some.inj hm
    exact ⟨v5, rfl, H.reads (fun r hr => hs9 r hr)⟩
end Go.Cb

set_option linter.unusedVariables false
set_option linter.unusedSimpArgs false
namespace Go.Cb
open Go.Proofs Go.RowKit
def m_cantonref06_May_j3 (x1 : S_api_Op) (b19 : Bool) : Option Bool :=
  if b19 = true then (if (x1.Version == 0) = true then (if (sEq x1.Data (ByteArray.mk #[])) = true then (if (x1.Owner == 0) = true then (some (!x1.Turns)) else (some (false))) else (some (false))) else (some (false))) else (if (x1.Kind == 7) = true then (if (x1.Version == 0) = true then (if (sEq x1.Data (ByteArray.mk #[])) = true then (if (decide (x1.Owner > 0)) = true then (some (!x1.Turns)) else (some (false))) else (some (false))) else (some (false))) else (some (false)))
def m_cantonref06_May_j2 (x1 : S_api_Op) (b3 : Bool) (b6 : Bool) : Option Bool :=
  if b6 = true then (some (false)) else (if (x1.Kind == 1) = true then (if (!(sEq x1.Path (ByteArray.mk #[47]))) = true then (some (x1.Version == 0)) else (some (false))) else (if (x1.Kind == 2) = true then (if (!(sEq x1.Path (ByteArray.mk #[47]))) = true then (if b3 = true then (if (sEq x1.Data (ByteArray.mk #[])) = true then (if (x1.Owner == 0) = true then (some (!x1.Turns)) else (some (false))) else (some (false))) else (some (false))) else (some (false))) else (if (x1.Kind == 3) = true then (if b3 = true then (if (x1.Owner == 0) = true then (some (!x1.Turns)) else (some (false))) else (some (false))) else (if (x1.Kind == 4) = true then (if b3 = true then (if (sEq x1.Data (ByteArray.mk #[])) = true then (if (x1.Owner == 0) = true then (some (!x1.Turns)) else (some (false))) else (some (false))) else (some (false))) else (if (x1.Kind == 5) = true then (m_cantonref06_May_j3 x1 (x1.Kind == 5)) else (m_cantonref06_May_j3 x1 (x1.Kind == 6)))))))
def m_cantonref06_May_j1 (x1 : S_api_Op) (b3 : Bool) : Option Bool :=
  (m_cantonref01_Right x1.Path).bind fun u28 => if (!u28) = true then (m_cantonref06_May_j2 x1 b3 true) else (if (decide ((x1.Data.size : Int) > 256)) = true then (m_cantonref06_May_j2 x1 b3 true) else (if (decide (x1.Owner < 0)) = true then (m_cantonref06_May_j2 x1 b3 true) else (m_cantonref06_May_j2 x1 b3 (decide (x1.Owner > 1099511627776)))))
def m_cantonref06_May (x1 : S_api_Op) : Option Bool :=
  if (decide (x1.Version ≥ (-1))) = true then (m_cantonref06_May_j1 x1 (decide (x1.Version ≤ 281474976710656))) else (m_cantonref06_May_j1 x1 false)
set_option maxRecDepth 20000 in
set_option maxHeartbeats 1000000 in
theorem c_cantonref06_May {w : World} {Fo : List Ob} {rs : List Rp} (x1 : S_api_Op) (H : Sep w (Fo) rs) {r : Bool} (hm : m_cantonref06_May x1 = some r) :
    Calls Tryz.prog 14 [.agg #[.int .i64 x1.Kind, .string x1.Path, .string x1.Data, .int .i64 x1.Version, .int .i64 x1.Owner, .bool x1.Turns]].toArray w (Ret fun v w' => .bool r = v ∧ Sep w' (Fo) (rs)) := by
 unfold m_cantonref06_May at hm
 refine enter Tryz.func14 rfl Tryz.ntmps14 rfl fun a E => ?_
 simp only [enum, Nat.reduceAdd] at E
 refine wp_seq ?_
 refine wp_region_lit ?_
 refine st_box E H (wn rfl) rfl rfl (cs := [.int .i64 x1.Kind, .string x1.Path, .string x1.Data, .int .i64 x1.Version, .int .i64 x1.Owner, .bool x1.Turns]) rfl rfl rfl ?_
 clear E H; clear a; clear w; intro p2 w a H E
 refine sv E rfl rfl rfl (x_assign E rfl rfl) ?_
 clear a E;intro a E
 refine wpList_nil ?_
 refine q_then ?_
 refine wp_seq ?_
 refine wp_region_lit ?_
 refine sv E rfl rfl rfl (x_fa E rfl rfl (v := .pointer (some ⟨p2, 1, none⟩)) (fa24_1 _ _)) ?_
 clear a E;intro a E
 refine sv E rfl rfl rfl (x_ldB (i := 0) E H rfl rfl rfl rfl Tryz.underlying9 rfl) ?_
 clear a E;intro a E
 refine sv E rfl rfl rfl (x_str E rfl rfl rfl rfl) ?_
 clear a E;intro a E
 refine sv E rfl rfl rfl (x_assign E rfl rfl) ?_
 clear a E;intro a E
 refine wpList_nil ?_
 refine q_then ?_
 refine wp_seq_cut (fun a w => ∃ (b3 : Bool) (rs4 : List Rp), Env 141 a [(1, .pointer (some ⟨p2, 0, none⟩)), (3, .bool (sEq x1.Path (ByteArray.mk #[47]))), (4, .bool b3)] ∧ Sep w (Blk p2 24 [.int .i64 x1.Kind, .string x1.Path, .string x1.Data, .int .i64 x1.Version, .int .i64 x1.Owner, .bool x1.Turns] :: Fo) rs4 ∧ (∀ r, r ∈ rs → r ∈ rs4) ∧ m_cantonref06_May_j1 x1 b3 = some r) ?_ ?_
 ·refine wp_region_lit ?_
  refine sv E rfl rfl rfl (x_fa E rfl rfl (v := .pointer (some ⟨p2, 3, none⟩)) (fa24_3 _ _)) ?_
  clear a E;intro a E
  refine sv E rfl rfl rfl (x_ldB (i := 0) E H rfl rfl rfl rfl Tryz.underlying2 rfl) ?_
  clear a E;intro a E
  refine sv E rfl rfl rfl (x_bin E rfl rfl rfl rfl) ?_
  clear a E;intro a E
  refine sv E rfl rfl rfl (x_move E rfl rfl) ?_
  clear a E;intro a E
  rcases Bool.eq_false_or_eq_true (decide (x1.Version ≥ (-1))) with hb33 | hb33
  ·rw [if_t hb33] at hm
   refine st_val E (ws' E rfl rfl rfl rfl hb33) rfl rfl (x_fa E rfl rfl (v := .pointer (some ⟨p2, 3, none⟩)) (fa24_3 _ _)) ?_
   clear a E;intro a E
   refine st_val E (ws' E rfl rfl rfl rfl hb33) rfl rfl (x_ldB (i := 0) E H rfl rfl rfl rfl Tryz.underlying2 rfl) ?_
   clear a E;intro a E
   refine st_val E (ws' E rfl rfl rfl rfl hb33) rfl rfl (x_bin E rfl rfl rfl rfl) ?_
   clear a E;intro a E
   refine sv E rfl rfl rfl (x_pickT E rfl rfl hb33 rfl) ?_
   clear a E;intro a E
   refine sv E rfl rfl rfl (x_assign E rfl rfl) ?_
   clear a E;intro a E
   refine wpList_nil ?_
   refine q_then ?_
   exact ⟨decide (x1.Version ≤ 281474976710656), _, (((E.nil.keep E 4 rfl).keep E 3 rfl).keep E 1 rfl), H, fun r hr => hr, hm⟩
  ·rw [if_f hb33] at hm
   refine st_no E (wf' E rfl rfl rfl rfl hb33 rfl) rfl rfl ?_
   clear a E;intro a E
   refine st_no E (wf' E rfl rfl rfl rfl hb33 rfl) rfl rfl ?_
   clear a E;intro a E
   refine st_no E (wf' E rfl rfl rfl rfl hb33 rfl) rfl rfl ?_
   clear a E;intro a E
   refine sv E rfl rfl rfl (x_pickF E rfl rfl hb33 rfl) ?_
   clear a E;intro a E
   refine sv E rfl rfl rfl (x_assign E rfl rfl) ?_
   clear a E;intro a E
   refine wpList_nil ?_
   refine q_then ?_
   exact ⟨false, _, (((E.nil.keep E 4 rfl).keep E 3 rfl).keep E 1 rfl), H, fun r hr => hr, hm⟩
 ·clear E H hm
  rintro a w ⟨b3, rs4, E, H, hs5, hm⟩
  unfold m_cantonref06_May_j1 at hm
  refine wp_seq ?_
  refine wp_seq_cut (fun a w => ∃ (b6 : Bool) (rs7 : List Rp), Env 141 a [(1, .pointer (some ⟨p2, 0, none⟩)), (3, .bool (sEq x1.Path (ByteArray.mk #[47]))), (4, .bool b3), (35, .bool b6)] ∧ Sep w (Blk p2 24 [.int .i64 x1.Kind, .string x1.Path, .string x1.Data, .int .i64 x1.Version, .int .i64 x1.Owner, .bool x1.Turns] :: Fo) rs7 ∧ (∀ r, r ∈ rs → r ∈ rs7) ∧ m_cantonref06_May_j2 x1 b3 b6 = some r) ?_ ?_
  ·refine wp_region_lit ?_
   refine sv E rfl rfl rfl (x_fa E rfl rfl (v := .pointer (some ⟨p2, 1, none⟩)) (fa24_1 _ _)) ?_
   clear a E;intro a E
   refine sv E rfl rfl rfl (x_ldB (i := 0) E H rfl rfl rfl rfl Tryz.underlying9 rfl) ?_
   clear a E;intro a E
   obtain ⟨u28, hx29, hm⟩ := bnd hm
   refine st_call E (wn rfl) rfl rfl (x_call E rfl rfl (cf40 _)) (c_cantonref01_Right x1.Path H hx29) ?_
   clear E H; clear a; clear w; rintro _ w ⟨rfl, H⟩ a E
   refine sv E rfl rfl rfl (x_not E rfl rfl) ?_
   clear a E;intro a E
   refine sv E rfl rfl rfl (x_move E rfl rfl) ?_
   clear a E;intro a E
   rcases Bool.eq_false_or_eq_true (!u28) with hb30 | hb30
   ·rw [if_t hb30] at hm
    refine st_no E (wf' E rfl rfl rfl rfl hb30 rfl) rfl rfl ?_
    clear a E;intro a E
    refine st_no E (wf' E rfl rfl rfl rfl hb30 rfl) rfl rfl ?_
    clear a E;intro a E
    refine st_no E (wf' E rfl rfl rfl rfl hb30 rfl) rfl rfl ?_
    clear a E;intro a E
    refine st_no E (wf' E rfl rfl rfl rfl hb30 rfl) rfl rfl ?_
    clear a E;intro a E
    refine sv E rfl rfl rfl (x_pickT E rfl rfl hb30 rfl) ?_
    clear a E;intro a E
    refine sv E rfl rfl rfl (x_move E rfl rfl) ?_
    clear a E;intro a E
    refine st_no E (wf E rfl rfl rfl rfl rfl) rfl rfl ?_
    clear a E;intro a E
    refine st_no E (wf E rfl rfl rfl rfl rfl) rfl rfl ?_
    clear a E;intro a E
    refine st_no E (wf E rfl rfl rfl rfl rfl) rfl rfl ?_
    clear a E;intro a E
    refine sv E rfl rfl rfl (x_pickT E rfl rfl rfl rfl) ?_
    clear a E;intro a E
    refine sv E rfl rfl rfl (x_move E rfl rfl) ?_
    clear a E;intro a E
    refine st_no E (wf E rfl rfl rfl rfl rfl) rfl rfl ?_
    clear a E;intro a E
    refine st_no E (wf E rfl rfl rfl rfl rfl) rfl rfl ?_
    clear a E;intro a E
    refine st_no E (wf E rfl rfl rfl rfl rfl) rfl rfl ?_
    clear a E;intro a E
    refine sv E rfl rfl rfl (x_pickT E rfl rfl rfl rfl) ?_
    clear a E;intro a E
    refine wpList_nil ?_
    refine q_then ?_
    exact ⟨true, _, ((((E.nil.keep E 35 rfl).keep E 4 rfl).keep E 3 rfl).keep E 1 rfl), H, hs5, hm⟩
   ·rw [if_f hb30] at hm
    refine st_val E (ws' E rfl rfl rfl rfl hb30) rfl rfl (x_fa E rfl rfl (v := .pointer (some ⟨p2, 2, none⟩)) (fa24_2 _ _)) ?_
    clear a E;intro a E
    refine st_val E (ws' E rfl rfl rfl rfl hb30) rfl rfl (x_ldB (i := 0) E H rfl rfl rfl rfl Tryz.underlying9 rfl) ?_
    clear a E;intro a E
    refine st_val E (ws' E rfl rfl rfl rfl hb30) rfl rfl (x_lenStr E rfl rfl Tryz.underlying9) ?_
    clear a E;intro a E
    refine st_val E (ws' E rfl rfl rfl rfl hb30) rfl rfl (x_bin E rfl rfl rfl rfl) ?_
    clear a E;intro a E
    refine sv E rfl rfl rfl (x_pickF E rfl rfl hb30 rfl) ?_
    clear a E;intro a E
    refine sv E rfl rfl rfl (x_move E rfl rfl) ?_
    clear a E;intro a E
    rcases Bool.eq_false_or_eq_true (decide ((x1.Data.size : Int) > 256)) with hb31 | hb31
    ·rw [if_t hb31] at hm
     refine st_no E (wf' E rfl rfl rfl rfl hb31 rfl) rfl rfl ?_
     clear a E;intro a E
     refine st_no E (wf' E rfl rfl rfl rfl hb31 rfl) rfl rfl ?_
     clear a E;intro a E
     refine st_no E (wf' E rfl rfl rfl rfl hb31 rfl) rfl rfl ?_
     clear a E;intro a E
     refine sv E rfl rfl rfl (x_pickT E rfl rfl hb31 rfl) ?_
     clear a E;intro a E
     refine sv E rfl rfl rfl (x_move E rfl rfl) ?_
     clear a E;intro a E
     refine st_no E (wf E rfl rfl rfl rfl rfl) rfl rfl ?_
     clear a E;intro a E
     refine st_no E (wf E rfl rfl rfl rfl rfl) rfl rfl ?_
     clear a E;intro a E
     refine st_no E (wf E rfl rfl rfl rfl rfl) rfl rfl ?_
     clear a E;intro a E
     refine sv E rfl rfl rfl (x_pickT E rfl rfl rfl rfl) ?_
     clear a E;intro a E
     refine wpList_nil ?_
     refine q_then ?_
     exact ⟨true, _, ((((E.nil.keep E 35 rfl).keep E 4 rfl).keep E 3 rfl).keep E 1 rfl), H, hs5, hm⟩
    ·rw [if_f hb31] at hm
     refine st_val E (ws' E rfl rfl rfl rfl hb31) rfl rfl (x_fa E rfl rfl (v := .pointer (some ⟨p2, 4, none⟩)) (fa24_4 _ _)) ?_
     clear a E;intro a E
     refine st_val E (ws' E rfl rfl rfl rfl hb31) rfl rfl (x_ldB (i := 0) E H rfl rfl rfl rfl Tryz.underlying2 rfl) ?_
     clear a E;intro a E
     refine st_val E (ws' E rfl rfl rfl rfl hb31) rfl rfl (x_bin E rfl rfl rfl rfl) ?_
     clear a E;intro a E
     refine sv E rfl rfl rfl (x_pickF E rfl rfl hb31 rfl) ?_
     clear a E;intro a E
     refine sv E rfl rfl rfl (x_move E rfl rfl) ?_
     clear a E;intro a E
     rcases Bool.eq_false_or_eq_true (decide (x1.Owner < 0)) with hb32 | hb32
     ·rw [if_t hb32] at hm
      refine st_no E (wf' E rfl rfl rfl rfl hb32 rfl) rfl rfl ?_
      clear a E;intro a E
      refine st_no E (wf' E rfl rfl rfl rfl hb32 rfl) rfl rfl ?_
      clear a E;intro a E
      refine st_no E (wf' E rfl rfl rfl rfl hb32 rfl) rfl rfl ?_
      clear a E;intro a E
      refine sv E rfl rfl rfl (x_pickT E rfl rfl hb32 rfl) ?_
      clear a E;intro a E
      refine wpList_nil ?_
      refine q_then ?_
      exact ⟨true, _, ((((E.nil.keep E 35 rfl).keep E 4 rfl).keep E 3 rfl).keep E 1 rfl), H, hs5, hm⟩
     ·rw [if_f hb32] at hm
      refine st_val E (ws' E rfl rfl rfl rfl hb32) rfl rfl (x_fa E rfl rfl (v := .pointer (some ⟨p2, 4, none⟩)) (fa24_4 _ _)) ?_
      clear a E;intro a E
      refine st_val E (ws' E rfl rfl rfl rfl hb32) rfl rfl (x_ldB (i := 0) E H rfl rfl rfl rfl Tryz.underlying2 rfl) ?_
      clear a E;intro a E
      refine st_val E (ws' E rfl rfl rfl rfl hb32) rfl rfl (x_bin E rfl rfl rfl rfl) ?_
      clear a E;intro a E
      refine sv E rfl rfl rfl (x_pickF E rfl rfl hb32 rfl) ?_
      clear a E;intro a E
      refine wpList_nil ?_
      refine q_then ?_
      exact ⟨decide (x1.Owner > 1099511627776), _, ((((E.nil.keep E 35 rfl).keep E 4 rfl).keep E 3 rfl).keep E 1 rfl), H, hs5, hm⟩
  ·clear E H hm
   rintro a w ⟨b6, rs7, E, H, hs8, hm⟩
   unfold m_cantonref06_May_j2 at hm
   refine wp_if E rfl ?_ ?_
   ·intro hb
    rw [if_t hb] at hm
    clear hb
    refine wp_seq ?_
    refine wp_region_lit ?_
    refine sv E rfl rfl rfl (x_assign E rfl rfl) ?_
    clear a E;intro a E
    refine wpList_nil ?_
    refine q_then ?_
    refine wp_ret ?_
    refine q_thenR ?_
    refine out1 E rfl rfl ?_
    replace H := H.drop 0
    obtain rfl := Option.some.inj hm
    exact ⟨rfl, H.reads (fun r hr => hs8 r hr)⟩
   ·intro hb
    rw [if_f hb] at hm
    clear hb
    refine wp_skip ?_
    refine q_then ?_
    refine wp_seq ?_
    refine wp_seq ?_
    refine wp_region_lit ?_
    refine sv E rfl rfl rfl (x_fa E rfl rfl (v := .pointer (some ⟨p2, 0, none⟩)) (fa24_0 _ _)) ?_
    clear a E;intro a E
    refine sv E rfl rfl rfl (x_ldB (i := 0) E H rfl rfl rfl rfl Tryz.underlying3 rfl) ?_
    clear a E;intro a E
    refine wpList_nil ?_
    refine q_then ?_
    refine wp_block ?_
    refine wp_seq ?_
    refine wp_region_lit ?_
    refine sv E rfl rfl rfl (x_bin E rfl rfl rfl rfl) ?_
    clear a E;intro a E
    refine sv E rfl rfl rfl (x_assign E rfl rfl) ?_
    clear a E;intro a E
    refine wpList_nil ?_
    refine q_then ?_
    refine wp_if E rfl ?_ ?_
    ·intro hb
     rw [if_t hb] at hm
     clear hb
     refine wp_seq ?_
     refine wp_region_lit ?_
     refine sv E rfl rfl rfl (x_move E rfl rfl) ?_
     clear a E;intro a E
     refine sv E rfl rfl rfl (x_not E rfl rfl) ?_
     clear a E;intro a E
     refine sv E rfl rfl rfl (x_move E rfl rfl) ?_
     clear a E;intro a E
     rcases Bool.eq_false_or_eq_true (!(sEq x1.Path (ByteArray.mk #[47]))) with hb9 | hb9
     ·rw [if_t hb9] at hm
      refine st_val E (ws' E rfl rfl rfl rfl hb9) rfl rfl (x_fa E rfl rfl (v := .pointer (some ⟨p2, 3, none⟩)) (fa24_3 _ _)) ?_
      clear a E;intro a E
      refine st_val E (ws' E rfl rfl rfl rfl hb9) rfl rfl (x_ldB (i := 0) E H rfl rfl rfl rfl Tryz.underlying2 rfl) ?_
      clear a E;intro a E
      refine st_val E (ws' E rfl rfl rfl rfl hb9) rfl rfl (x_bin E rfl rfl rfl rfl) ?_
      clear a E;intro a E
      refine sv E rfl rfl rfl (x_pickT E rfl rfl hb9 rfl) ?_
      clear a E;intro a E
      refine sv E rfl rfl rfl (x_assign E rfl rfl) ?_
      clear a E;intro a E
      refine wpList_nil ?_
      refine q_then ?_
      refine wp_ret ?_
      refine q_blkR ?_
      refine q_thenR ?_
      refine out1 E rfl rfl ?_
      replace H := H.drop 0
      obtain rfl := Option.some.inj hm
      exact ⟨rfl, H.reads (fun r hr => hs8 r hr)⟩
     ·rw [if_f hb9] at hm
      refine st_no E (wf' E rfl rfl rfl rfl hb9 rfl) rfl rfl ?_
      clear a E;intro a E
      refine st_no E (wf' E rfl rfl rfl rfl hb9 rfl) rfl rfl ?_
      clear a E;intro a E
      refine st_no E (wf' E rfl rfl rfl rfl hb9 rfl) rfl rfl ?_
      clear a E;intro a E
      refine sv E rfl rfl rfl (x_pickF E rfl rfl hb9 rfl) ?_
      clear a E;intro a E
      refine sv E rfl rfl rfl (x_assign E rfl rfl) ?_
      clear a E;intro a E
      refine wpList_nil ?_
      refine q_then ?_
      refine wp_ret ?_
      refine q_blkR ?_
      refine q_thenR ?_
      refine out1 E rfl rfl ?_
      replace H := H.drop 0
      obtain rfl := Option.some.inj hm
      exact ⟨rfl, H.reads (fun r hr => hs8 r hr)⟩
    ·intro hb
     rw [if_f hb] at hm
     clear hb
     refine wp_seq ?_
     refine wp_region_lit ?_
     refine sv E rfl rfl rfl (x_bin E rfl rfl rfl rfl) ?_
     clear a E;intro a E
     refine sv E rfl rfl rfl (x_assign E rfl rfl) ?_
     clear a E;intro a E
     refine wpList_nil ?_
     refine q_then ?_
     refine wp_if E rfl ?_ ?_
     ·intro hb
      rw [if_t hb] at hm
      clear hb
      refine wp_seq ?_
      refine wp_region_lit ?_
      refine sv E rfl rfl rfl (x_move E rfl rfl) ?_
      clear a E;intro a E
      refine sv E rfl rfl rfl (x_not E rfl rfl) ?_
      clear a E;intro a E
      refine sv E rfl rfl rfl (x_move E rfl rfl) ?_
      clear a E;intro a E
      rcases Bool.eq_false_or_eq_true (!(sEq x1.Path (ByteArray.mk #[47]))) with hb10 | hb10
      ·rw [if_t hb10] at hm
       refine st_val E (ws' E rfl rfl rfl rfl hb10) rfl rfl (x_move E rfl rfl) ?_
       clear a E;intro a E
       refine sv E rfl rfl rfl (x_pickT E rfl rfl hb10 rfl) ?_
       clear a E;intro a E
       refine sv E rfl rfl rfl (x_move E rfl rfl) ?_
       clear a E;intro a E
       rcases Bool.eq_false_or_eq_true b3 with hb11 | hb11
       ·rw [if_t hb11] at hm
        refine st_val E (ws' E rfl rfl rfl rfl hb11) rfl rfl (x_fa E rfl rfl (v := .pointer (some ⟨p2, 2, none⟩)) (fa24_2 _ _)) ?_
        clear a E;intro a E
        refine st_val E (ws' E rfl rfl rfl rfl hb11) rfl rfl (x_ldB (i := 0) E H rfl rfl rfl rfl Tryz.underlying9 rfl) ?_
        clear a E;intro a E
        refine st_val E (ws' E rfl rfl rfl rfl hb11) rfl rfl (x_str E rfl rfl rfl rfl) ?_
        clear a E;intro a E
        refine sv E rfl rfl rfl (x_pickT E rfl rfl hb11 rfl) ?_
        clear a E;intro a E
        refine sv E rfl rfl rfl (x_move E rfl rfl) ?_
        clear a E;intro a E
        rcases Bool.eq_false_or_eq_true (sEq x1.Data (ByteArray.mk #[])) with hb12 | hb12
        ·rw [if_t hb12] at hm
         refine st_val E (ws' E rfl rfl rfl rfl hb12) rfl rfl (x_fa E rfl rfl (v := .pointer (some ⟨p2, 4, none⟩)) (fa24_4 _ _)) ?_
         clear a E;intro a E
         refine st_val E (ws' E rfl rfl rfl rfl hb12) rfl rfl (x_ldB (i := 0) E H rfl rfl rfl rfl Tryz.underlying2 rfl) ?_
         clear a E;intro a E
         refine st_val E (ws' E rfl rfl rfl rfl hb12) rfl rfl (x_bin E rfl rfl rfl rfl) ?_
         clear a E;intro a E
         refine sv E rfl rfl rfl (x_pickT E rfl rfl hb12 rfl) ?_
         clear a E;intro a E
         refine sv E rfl rfl rfl (x_move E rfl rfl) ?_
         clear a E;intro a E
         rcases Bool.eq_false_or_eq_true (x1.Owner == 0) with hb13 | hb13
         ·rw [if_t hb13] at hm
          refine st_val E (ws' E rfl rfl rfl rfl hb13) rfl rfl (x_fa E rfl rfl (v := .pointer (some ⟨p2, 5, none⟩)) (fa24_5 _ _)) ?_
          clear a E;intro a E
          refine st_val E (ws' E rfl rfl rfl rfl hb13) rfl rfl (x_ldB (i := 0) E H rfl rfl rfl rfl Tryz.underlying4 rfl) ?_
          clear a E;intro a E
          refine st_val E (ws' E rfl rfl rfl rfl hb13) rfl rfl (x_not E rfl rfl) ?_
          clear a E;intro a E
          refine sv E rfl rfl rfl (x_pickT E rfl rfl hb13 rfl) ?_
          clear a E;intro a E
          refine sv E rfl rfl rfl (x_assign E rfl rfl) ?_
          clear a E;intro a E
          refine wpList_nil ?_
          refine q_then ?_
          refine wp_ret ?_
          refine q_blkR ?_
          refine q_thenR ?_
          refine out1 E rfl rfl ?_
          replace H := H.drop 0
          obtain rfl := Option.some.inj hm
          exact ⟨rfl, H.reads (fun r hr => hs8 r hr)⟩
         ·rw [if_f hb13] at hm
          refine st_no E (wf' E rfl rfl rfl rfl hb13 rfl) rfl rfl ?_
          clear a E;intro a E
          refine st_no E (wf' E rfl rfl rfl rfl hb13 rfl) rfl rfl ?_
          clear a E;intro a E
          refine st_no E (wf' E rfl rfl rfl rfl hb13 rfl) rfl rfl ?_
          clear a E;intro a E
          refine sv E rfl rfl rfl (x_pickF E rfl rfl hb13 rfl) ?_
          clear a E;intro a E
          refine sv E rfl rfl rfl (x_assign E rfl rfl) ?_
          clear a E;intro a E
          refine wpList_nil ?_
          refine q_then ?_
          refine wp_ret ?_
          refine q_blkR ?_
          refine q_thenR ?_
          refine out1 E rfl rfl ?_
          replace H := H.drop 0
          obtain rfl := Option.some.inj hm
          exact ⟨rfl, H.reads (fun r hr => hs8 r hr)⟩
        ·rw [if_f hb12] at hm
         refine st_no E (wf' E rfl rfl rfl rfl hb12 rfl) rfl rfl ?_
         clear a E;intro a E
         refine st_no E (wf' E rfl rfl rfl rfl hb12 rfl) rfl rfl ?_
         clear a E;intro a E
         refine st_no E (wf' E rfl rfl rfl rfl hb12 rfl) rfl rfl ?_
         clear a E;intro a E
         refine sv E rfl rfl rfl (x_pickF E rfl rfl hb12 rfl) ?_
         clear a E;intro a E
         refine sv E rfl rfl rfl (x_move E rfl rfl) ?_
         clear a E;intro a E
         refine st_no E (wf E rfl rfl rfl rfl rfl) rfl rfl ?_
         clear a E;intro a E
         refine st_no E (wf E rfl rfl rfl rfl rfl) rfl rfl ?_
         clear a E;intro a E
         refine st_no E (wf E rfl rfl rfl rfl rfl) rfl rfl ?_
         clear a E;intro a E
         refine sv E rfl rfl rfl (x_pickF E rfl rfl rfl rfl) ?_
         clear a E;intro a E
         refine sv E rfl rfl rfl (x_assign E rfl rfl) ?_
         clear a E;intro a E
         refine wpList_nil ?_
         refine q_then ?_
         refine wp_ret ?_
         refine q_blkR ?_
         refine q_thenR ?_
         refine out1 E rfl rfl ?_
         replace H := H.drop 0
         obtain rfl := Option.some.inj hm
         exact ⟨rfl, H.reads (fun r hr => hs8 r hr)⟩
       ·rw [if_f hb11] at hm
        refine st_no E (wf' E rfl rfl rfl rfl hb11 rfl) rfl rfl ?_
        clear a E;intro a E
        refine st_no E (wf' E rfl rfl rfl rfl hb11 rfl) rfl rfl ?_
        clear a E;intro a E
        refine st_no E (wf' E rfl rfl rfl rfl hb11 rfl) rfl rfl ?_
        clear a E;intro a E
        refine sv E rfl rfl rfl (x_pickF E rfl rfl hb11 rfl) ?_
        clear a E;intro a E
        refine sv E rfl rfl rfl (x_move E rfl rfl) ?_
        clear a E;intro a E
        refine st_no E (wf E rfl rfl rfl rfl rfl) rfl rfl ?_
        clear a E;intro a E
        refine st_no E (wf E rfl rfl rfl rfl rfl) rfl rfl ?_
        clear a E;intro a E
        refine st_no E (wf E rfl rfl rfl rfl rfl) rfl rfl ?_
        clear a E;intro a E
        refine sv E rfl rfl rfl (x_pickF E rfl rfl rfl rfl) ?_
        clear a E;intro a E
        refine sv E rfl rfl rfl (x_move E rfl rfl) ?_
        clear a E;intro a E
        refine st_no E (wf E rfl rfl rfl rfl rfl) rfl rfl ?_
        clear a E;intro a E
        refine st_no E (wf E rfl rfl rfl rfl rfl) rfl rfl ?_
        clear a E;intro a E
        refine st_no E (wf E rfl rfl rfl rfl rfl) rfl rfl ?_
        clear a E;intro a E
        refine sv E rfl rfl rfl (x_pickF E rfl rfl rfl rfl) ?_
        clear a E;intro a E
        refine sv E rfl rfl rfl (x_assign E rfl rfl) ?_
        clear a E;intro a E
        refine wpList_nil ?_
        refine q_then ?_
        refine wp_ret ?_
        refine q_blkR ?_
        refine q_thenR ?_
        refine out1 E rfl rfl ?_
        replace H := H.drop 0
        obtain rfl := Option.some.inj hm
        exact ⟨rfl, H.reads (fun r hr => hs8 r hr)⟩
      ·rw [if_f hb10] at hm
       refine st_no E (wf' E rfl rfl rfl rfl hb10 rfl) rfl rfl ?_
       clear a E;intro a E
       refine sv E rfl rfl rfl (x_pickF E rfl rfl hb10 rfl) ?_
       clear a E;intro a E
       refine sv E rfl rfl rfl (x_move E rfl rfl) ?_
       clear a E;intro a E
       refine st_no E (wf E rfl rfl rfl rfl rfl) rfl rfl ?_
       clear a E;intro a E
       refine st_no E (wf E rfl rfl rfl rfl rfl) rfl rfl ?_
       clear a E;intro a E
       refine st_no E (wf E rfl rfl rfl rfl rfl) rfl rfl ?_
       clear a E;intro a E
       refine sv E rfl rfl rfl (x_pickF E rfl rfl rfl rfl) ?_
       clear a E;intro a E
       refine sv E rfl rfl rfl (x_move E rfl rfl) ?_
       clear a E;intro a E
       refine st_no E (wf E rfl rfl rfl rfl rfl) rfl rfl ?_
       clear a E;intro a E
       refine st_no E (wf E rfl rfl rfl rfl rfl) rfl rfl ?_
       clear a E;intro a E
       refine st_no E (wf E rfl rfl rfl rfl rfl) rfl rfl ?_
       clear a E;intro a E
       refine sv E rfl rfl rfl (x_pickF E rfl rfl rfl rfl) ?_
       clear a E;intro a E
       refine sv E rfl rfl rfl (x_move E rfl rfl) ?_
       clear a E;intro a E
       refine st_no E (wf E rfl rfl rfl rfl rfl) rfl rfl ?_
       clear a E;intro a E
       refine st_no E (wf E rfl rfl rfl rfl rfl) rfl rfl ?_
       clear a E;intro a E
       refine st_no E (wf E rfl rfl rfl rfl rfl) rfl rfl ?_
       clear a E;intro a E
       refine sv E rfl rfl rfl (x_pickF E rfl rfl rfl rfl) ?_
       clear a E;intro a E
       refine sv E rfl rfl rfl (x_assign E rfl rfl) ?_
       clear a E;intro a E
       refine wpList_nil ?_
       refine q_then ?_
       refine wp_ret ?_
       refine q_blkR ?_
       refine q_thenR ?_
       refine out1 E rfl rfl ?_
       replace H := H.drop 0
       obtain rfl := Option.some.inj hm
       exact ⟨rfl, H.reads (fun r hr => hs8 r hr)⟩
     ·intro hb
      rw [if_f hb] at hm
      clear hb
      refine wp_seq ?_
      refine wp_region_lit ?_
      refine sv E rfl rfl rfl (x_bin E rfl rfl rfl rfl) ?_
      clear a E;intro a E
      refine sv E rfl rfl rfl (x_assign E rfl rfl) ?_
      clear a E;intro a E
      refine wpList_nil ?_
      refine q_then ?_
      refine wp_if E rfl ?_ ?_
      ·intro hb
       rw [if_t hb] at hm
       clear hb
       refine wp_seq ?_
       refine wp_region_lit ?_
       refine sv E rfl rfl rfl (x_move E rfl rfl) ?_
       clear a E;intro a E
       refine sv E rfl rfl rfl (x_move E rfl rfl) ?_
       clear a E;intro a E
       rcases Bool.eq_false_or_eq_true b3 with hb14 | hb14
       ·rw [if_t hb14] at hm
        refine st_val E (ws' E rfl rfl rfl rfl hb14) rfl rfl (x_fa E rfl rfl (v := .pointer (some ⟨p2, 4, none⟩)) (fa24_4 _ _)) ?_
        clear a E;intro a E
        refine st_val E (ws' E rfl rfl rfl rfl hb14) rfl rfl (x_ldB (i := 0) E H rfl rfl rfl rfl Tryz.underlying2 rfl) ?_
        clear a E;intro a E
        refine st_val E (ws' E rfl rfl rfl rfl hb14) rfl rfl (x_bin E rfl rfl rfl rfl) ?_
        clear a E;intro a E
        refine sv E rfl rfl rfl (x_pickT E rfl rfl hb14 rfl) ?_
        clear a E;intro a E
        refine sv E rfl rfl rfl (x_move E rfl rfl) ?_
        clear a E;intro a E
        rcases Bool.eq_false_or_eq_true (x1.Owner == 0) with hb15 | hb15
        ·rw [if_t hb15] at hm
         refine st_val E (ws' E rfl rfl rfl rfl hb15) rfl rfl (x_fa E rfl rfl (v := .pointer (some ⟨p2, 5, none⟩)) (fa24_5 _ _)) ?_
         clear a E;intro a E
         refine st_val E (ws' E rfl rfl rfl rfl hb15) rfl rfl (x_ldB (i := 0) E H rfl rfl rfl rfl Tryz.underlying4 rfl) ?_
         clear a E;intro a E
         refine st_val E (ws' E rfl rfl rfl rfl hb15) rfl rfl (x_not E rfl rfl) ?_
         clear a E;intro a E
         refine sv E rfl rfl rfl (x_pickT E rfl rfl hb15 rfl) ?_
         clear a E;intro a E
         refine sv E rfl rfl rfl (x_assign E rfl rfl) ?_
         clear a E;intro a E
         refine wpList_nil ?_
         refine q_then ?_
         refine wp_ret ?_
         refine q_blkR ?_
         refine q_thenR ?_
         refine out1 E rfl rfl ?_
         replace H := H.drop 0
         obtain rfl := Option.some.inj hm
         exact ⟨rfl, H.reads (fun r hr => hs8 r hr)⟩
        ·rw [if_f hb15] at hm
         refine st_no E (wf' E rfl rfl rfl rfl hb15 rfl) rfl rfl ?_
         clear a E;intro a E
         refine st_no E (wf' E rfl rfl rfl rfl hb15 rfl) rfl rfl ?_
         clear a E;intro a E
         refine st_no E (wf' E rfl rfl rfl rfl hb15 rfl) rfl rfl ?_
         clear a E;intro a E
         refine sv E rfl rfl rfl (x_pickF E rfl rfl hb15 rfl) ?_
         clear a E;intro a E
         refine sv E rfl rfl rfl (x_assign E rfl rfl) ?_
         clear a E;intro a E
         refine wpList_nil ?_
         refine q_then ?_
         refine wp_ret ?_
         refine q_blkR ?_
         refine q_thenR ?_
         refine out1 E rfl rfl ?_
         replace H := H.drop 0
         obtain rfl := Option.some.inj hm
         exact ⟨rfl, H.reads (fun r hr => hs8 r hr)⟩
       ·rw [if_f hb14] at hm
        refine st_no E (wf' E rfl rfl rfl rfl hb14 rfl) rfl rfl ?_
        clear a E;intro a E
        refine st_no E (wf' E rfl rfl rfl rfl hb14 rfl) rfl rfl ?_
        clear a E;intro a E
        refine st_no E (wf' E rfl rfl rfl rfl hb14 rfl) rfl rfl ?_
        clear a E;intro a E
        refine sv E rfl rfl rfl (x_pickF E rfl rfl hb14 rfl) ?_
        clear a E;intro a E
        refine sv E rfl rfl rfl (x_move E rfl rfl) ?_
        clear a E;intro a E
        refine st_no E (wf E rfl rfl rfl rfl rfl) rfl rfl ?_
        clear a E;intro a E
        refine st_no E (wf E rfl rfl rfl rfl rfl) rfl rfl ?_
        clear a E;intro a E
        refine st_no E (wf E rfl rfl rfl rfl rfl) rfl rfl ?_
        clear a E;intro a E
        refine sv E rfl rfl rfl (x_pickF E rfl rfl rfl rfl) ?_
        clear a E;intro a E
        refine sv E rfl rfl rfl (x_assign E rfl rfl) ?_
        clear a E;intro a E
        refine wpList_nil ?_
        refine q_then ?_
        refine wp_ret ?_
        refine q_blkR ?_
        refine q_thenR ?_
        refine out1 E rfl rfl ?_
        replace H := H.drop 0
        obtain rfl := Option.some.inj hm
        exact ⟨rfl, H.reads (fun r hr => hs8 r hr)⟩
      ·intro hb
       rw [if_f hb] at hm
       clear hb
       refine wp_seq ?_
       refine wp_region_lit ?_
       refine sv E rfl rfl rfl (x_bin E rfl rfl rfl rfl) ?_
       clear a E;intro a E
       refine sv E rfl rfl rfl (x_assign E rfl rfl) ?_
       clear a E;intro a E
       refine wpList_nil ?_
       refine q_then ?_
       refine wp_if E rfl ?_ ?_
       ·intro hb
        rw [if_t hb] at hm
        clear hb
        refine wp_seq ?_
        refine wp_region_lit ?_
        refine sv E rfl rfl rfl (x_move E rfl rfl) ?_
        clear a E;intro a E
        refine sv E rfl rfl rfl (x_move E rfl rfl) ?_
        clear a E;intro a E
        rcases Bool.eq_false_or_eq_true b3 with hb16 | hb16
        ·rw [if_t hb16] at hm
         refine st_val E (ws' E rfl rfl rfl rfl hb16) rfl rfl (x_fa E rfl rfl (v := .pointer (some ⟨p2, 2, none⟩)) (fa24_2 _ _)) ?_
         clear a E;intro a E
         refine st_val E (ws' E rfl rfl rfl rfl hb16) rfl rfl (x_ldB (i := 0) E H rfl rfl rfl rfl Tryz.underlying9 rfl) ?_
         clear a E;intro a E
         refine st_val E (ws' E rfl rfl rfl rfl hb16) rfl rfl (x_str E rfl rfl rfl rfl) ?_
         clear a E;intro a E
         refine sv E rfl rfl rfl (x_pickT E rfl rfl hb16 rfl) ?_
         clear a E;intro a E
         refine sv E rfl rfl rfl (x_move E rfl rfl) ?_
         clear a E;intro a E
         rcases Bool.eq_false_or_eq_true (sEq x1.Data (ByteArray.mk #[])) with hb17 | hb17
         ·rw [if_t hb17] at hm
          refine st_val E (ws' E rfl rfl rfl rfl hb17) rfl rfl (x_fa E rfl rfl (v := .pointer (some ⟨p2, 4, none⟩)) (fa24_4 _ _)) ?_
          clear a E;intro a E
          refine st_val E (ws' E rfl rfl rfl rfl hb17) rfl rfl (x_ldB (i := 0) E H rfl rfl rfl rfl Tryz.underlying2 rfl) ?_
          clear a E;intro a E
          refine st_val E (ws' E rfl rfl rfl rfl hb17) rfl rfl (x_bin E rfl rfl rfl rfl) ?_
          clear a E;intro a E
          refine sv E rfl rfl rfl (x_pickT E rfl rfl hb17 rfl) ?_
          clear a E;intro a E
          refine sv E rfl rfl rfl (x_move E rfl rfl) ?_
          clear a E;intro a E
          rcases Bool.eq_false_or_eq_true (x1.Owner == 0) with hb18 | hb18
          ·rw [if_t hb18] at hm
           refine st_val E (ws' E rfl rfl rfl rfl hb18) rfl rfl (x_fa E rfl rfl (v := .pointer (some ⟨p2, 5, none⟩)) (fa24_5 _ _)) ?_
           clear a E;intro a E
           refine st_val E (ws' E rfl rfl rfl rfl hb18) rfl rfl (x_ldB (i := 0) E H rfl rfl rfl rfl Tryz.underlying4 rfl) ?_
           clear a E;intro a E
           refine st_val E (ws' E rfl rfl rfl rfl hb18) rfl rfl (x_not E rfl rfl) ?_
           clear a E;intro a E
           refine sv E rfl rfl rfl (x_pickT E rfl rfl hb18 rfl) ?_
           clear a E;intro a E
           refine sv E rfl rfl rfl (x_assign E rfl rfl) ?_
           clear a E;intro a E
           refine wpList_nil ?_
           refine q_then ?_
           refine wp_ret ?_
           refine q_blkR ?_
           refine q_thenR ?_
           refine out1 E rfl rfl ?_
           replace H := H.drop 0
           obtain rfl := Option.some.inj hm
           exact ⟨rfl, H.reads (fun r hr => hs8 r hr)⟩
          ·rw [if_f hb18] at hm
           refine st_no E (wf' E rfl rfl rfl rfl hb18 rfl) rfl rfl ?_
           clear a E;intro a E
           refine st_no E (wf' E rfl rfl rfl rfl hb18 rfl) rfl rfl ?_
           clear a E;intro a E
           refine st_no E (wf' E rfl rfl rfl rfl hb18 rfl) rfl rfl ?_
           clear a E;intro a E
           refine sv E rfl rfl rfl (x_pickF E rfl rfl hb18 rfl) ?_
           clear a E;intro a E
           refine sv E rfl rfl rfl (x_assign E rfl rfl) ?_
           clear a E;intro a E
           refine wpList_nil ?_
           refine q_then ?_
           refine wp_ret ?_
           refine q_blkR ?_
           refine q_thenR ?_
           refine out1 E rfl rfl ?_
           replace H := H.drop 0
           obtain rfl := Option.some.inj hm
           exact ⟨rfl, H.reads (fun r hr => hs8 r hr)⟩
         ·rw [if_f hb17] at hm
          refine st_no E (wf' E rfl rfl rfl rfl hb17 rfl) rfl rfl ?_
          clear a E;intro a E
          refine st_no E (wf' E rfl rfl rfl rfl hb17 rfl) rfl rfl ?_
          clear a E;intro a E
          refine st_no E (wf' E rfl rfl rfl rfl hb17 rfl) rfl rfl ?_
          clear a E;intro a E
          refine sv E rfl rfl rfl (x_pickF E rfl rfl hb17 rfl) ?_
          clear a E;intro a E
          refine sv E rfl rfl rfl (x_move E rfl rfl) ?_
          clear a E;intro a E
          refine st_no E (wf E rfl rfl rfl rfl rfl) rfl rfl ?_
          clear a E;intro a E
          refine st_no E (wf E rfl rfl rfl rfl rfl) rfl rfl ?_
          clear a E;intro a E
          refine st_no E (wf E rfl rfl rfl rfl rfl) rfl rfl ?_
          clear a E;intro a E
          refine sv E rfl rfl rfl (x_pickF E rfl rfl rfl rfl) ?_
          clear a E;intro a E
          refine sv E rfl rfl rfl (x_assign E rfl rfl) ?_
          clear a E;intro a E
          refine wpList_nil ?_
          refine q_then ?_
          refine wp_ret ?_
          refine q_blkR ?_
          refine q_thenR ?_
          refine out1 E rfl rfl ?_
          replace H := H.drop 0
          obtain rfl := Option.some.inj hm
          exact ⟨rfl, H.reads (fun r hr => hs8 r hr)⟩
        ·rw [if_f hb16] at hm
         refine st_no E (wf' E rfl rfl rfl rfl hb16 rfl) rfl rfl ?_
         clear a E;intro a E
         refine st_no E (wf' E rfl rfl rfl rfl hb16 rfl) rfl rfl ?_
         clear a E;intro a E
         refine st_no E (wf' E rfl rfl rfl rfl hb16 rfl) rfl rfl ?_
         clear a E;intro a E
         refine sv E rfl rfl rfl (x_pickF E rfl rfl hb16 rfl) ?_
         clear a E;intro a E
         refine sv E rfl rfl rfl (x_move E rfl rfl) ?_
         clear a E;intro a E
         refine st_no E (wf E rfl rfl rfl rfl rfl) rfl rfl ?_
         clear a E;intro a E
         refine st_no E (wf E rfl rfl rfl rfl rfl) rfl rfl ?_
         clear a E;intro a E
         refine st_no E (wf E rfl rfl rfl rfl rfl) rfl rfl ?_
         clear a E;intro a E
         refine sv E rfl rfl rfl (x_pickF E rfl rfl rfl rfl) ?_
         clear a E;intro a E
         refine sv E rfl rfl rfl (x_move E rfl rfl) ?_
         clear a E;intro a E
         refine st_no E (wf E rfl rfl rfl rfl rfl) rfl rfl ?_
         clear a E;intro a E
         refine st_no E (wf E rfl rfl rfl rfl rfl) rfl rfl ?_
         clear a E;intro a E
         refine st_no E (wf E rfl rfl rfl rfl rfl) rfl rfl ?_
         clear a E;intro a E
         refine sv E rfl rfl rfl (x_pickF E rfl rfl rfl rfl) ?_
         clear a E;intro a E
         refine sv E rfl rfl rfl (x_assign E rfl rfl) ?_
         clear a E;intro a E
         refine wpList_nil ?_
         refine q_then ?_
         refine wp_ret ?_
         refine q_blkR ?_
         refine q_thenR ?_
         refine out1 E rfl rfl ?_
         replace H := H.drop 0
         obtain rfl := Option.some.inj hm
         exact ⟨rfl, H.reads (fun r hr => hs8 r hr)⟩
       ·intro hb
        rw [if_f hb] at hm
        clear hb
        refine wp_seq_cut (fun a w => ∃ (b19 : Bool) (rs20 : List Rp), Env 141 a [(1, .pointer (some ⟨p2, 0, none⟩)), (37, .int .i64 x1.Kind), (100, .bool b19)] ∧ Sep w (Blk p2 24 [.int .i64 x1.Kind, .string x1.Path, .string x1.Data, .int .i64 x1.Version, .int .i64 x1.Owner, .bool x1.Turns] :: Fo) rs20 ∧ (∀ r, r ∈ rs → r ∈ rs20) ∧ m_cantonref06_May_j3 x1 b19 = some r) ?_ ?_
        ·refine wp_seq ?_
         refine wp_region_lit ?_
         refine sv E rfl rfl rfl (x_bin E rfl rfl rfl rfl) ?_
         clear a E;intro a E
         refine sv E rfl rfl rfl (x_assign E rfl rfl) ?_
         clear a E;intro a E
         refine wpList_nil ?_
         refine q_then ?_
         refine wp_if E rfl ?_ ?_
         ·intro hb
          rw [if_t hb] at hm
          clear hb
          refine wp_skip ?_
          refine q_then ?_
          exact ⟨x1.Kind == 5, _, (((E.nil.keep E 100 rfl).keep E 37 rfl).keep E 1 rfl), H, hs8, hm⟩
         ·intro hb
          rw [if_f hb] at hm
          clear hb
          refine wp_region_lit ?_
          refine sv E rfl rfl rfl (x_bin E rfl rfl rfl rfl) ?_
          clear a E;intro a E
          refine sv E rfl rfl rfl (x_assign E rfl rfl) ?_
          clear a E;intro a E
          refine wpList_nil ?_
          refine q_then ?_
          exact ⟨x1.Kind == 6, _, (((E.nil.keep E 100 rfl).keep E 37 rfl).keep E 1 rfl), H, hs8, hm⟩
        ·clear E H hm
         rintro a w ⟨b19, rs20, E, H, hs21, hm⟩
         unfold m_cantonref06_May_j3 at hm
         refine wp_if E rfl ?_ ?_
         ·intro hb
          rw [if_t hb] at hm
          clear hb
          refine wp_seq ?_
          refine wp_region_lit ?_
          refine sv E rfl rfl rfl (x_fa E rfl rfl (v := .pointer (some ⟨p2, 3, none⟩)) (fa24_3 _ _)) ?_
          clear a E;intro a E
          refine sv E rfl rfl rfl (x_ldB (i := 0) E H rfl rfl rfl rfl Tryz.underlying2 rfl) ?_
          clear a E;intro a E
          refine sv E rfl rfl rfl (x_bin E rfl rfl rfl rfl) ?_
          clear a E;intro a E
          refine sv E rfl rfl rfl (x_move E rfl rfl) ?_
          clear a E;intro a E
          rcases Bool.eq_false_or_eq_true (x1.Version == 0) with hb22 | hb22
          ·rw [if_t hb22] at hm
           refine st_val E (ws' E rfl rfl rfl rfl hb22) rfl rfl (x_fa E rfl rfl (v := .pointer (some ⟨p2, 2, none⟩)) (fa24_2 _ _)) ?_
           clear a E;intro a E
           refine st_val E (ws' E rfl rfl rfl rfl hb22) rfl rfl (x_ldB (i := 0) E H rfl rfl rfl rfl Tryz.underlying9 rfl) ?_
           clear a E;intro a E
           refine st_val E (ws' E rfl rfl rfl rfl hb22) rfl rfl (x_str E rfl rfl rfl rfl) ?_
           clear a E;intro a E
           refine sv E rfl rfl rfl (x_pickT E rfl rfl hb22 rfl) ?_
           clear a E;intro a E
           refine sv E rfl rfl rfl (x_move E rfl rfl) ?_
           clear a E;intro a E
           rcases Bool.eq_false_or_eq_true (sEq x1.Data (ByteArray.mk #[])) with hb23 | hb23
           ·rw [if_t hb23] at hm
            refine st_val E (ws' E rfl rfl rfl rfl hb23) rfl rfl (x_fa E rfl rfl (v := .pointer (some ⟨p2, 4, none⟩)) (fa24_4 _ _)) ?_
            clear a E;intro a E
            refine st_val E (ws' E rfl rfl rfl rfl hb23) rfl rfl (x_ldB (i := 0) E H rfl rfl rfl rfl Tryz.underlying2 rfl) ?_
            clear a E;intro a E
            refine st_val E (ws' E rfl rfl rfl rfl hb23) rfl rfl (x_bin E rfl rfl rfl rfl) ?_
            clear a E;intro a E
            refine sv E rfl rfl rfl (x_pickT E rfl rfl hb23 rfl) ?_
            clear a E;intro a E
            refine sv E rfl rfl rfl (x_move E rfl rfl) ?_
            clear a E;intro a E
            rcases Bool.eq_false_or_eq_true (x1.Owner == 0) with hb24 | hb24
            ·rw [if_t hb24] at hm
             refine st_val E (ws' E rfl rfl rfl rfl hb24) rfl rfl (x_fa E rfl rfl (v := .pointer (some ⟨p2, 5, none⟩)) (fa24_5 _ _)) ?_
             clear a E;intro a E
             refine st_val E (ws' E rfl rfl rfl rfl hb24) rfl rfl (x_ldB (i := 0) E H rfl rfl rfl rfl Tryz.underlying4 rfl) ?_
             clear a E;intro a E
             refine st_val E (ws' E rfl rfl rfl rfl hb24) rfl rfl (x_not E rfl rfl) ?_
             clear a E;intro a E
             refine sv E rfl rfl rfl (x_pickT E rfl rfl hb24 rfl) ?_
             clear a E;intro a E
             refine sv E rfl rfl rfl (x_assign E rfl rfl) ?_
             clear a E;intro a E
             refine wpList_nil ?_
             refine q_then ?_
             refine wp_ret ?_
             refine q_blkR ?_
             refine q_thenR ?_
             refine out1 E rfl rfl ?_
             replace H := H.drop 0
             obtain rfl := Option.some.inj hm
             exact ⟨rfl, H.reads (fun r hr => hs21 r hr)⟩
            ·rw [if_f hb24] at hm
             refine st_no E (wf' E rfl rfl rfl rfl hb24 rfl) rfl rfl ?_
             clear a E;intro a E
             refine st_no E (wf' E rfl rfl rfl rfl hb24 rfl) rfl rfl ?_
             clear a E;intro a E
             refine st_no E (wf' E rfl rfl rfl rfl hb24 rfl) rfl rfl ?_
             clear a E;intro a E
             refine sv E rfl rfl rfl (x_pickF E rfl rfl hb24 rfl) ?_
             clear a E;intro a E
             refine sv E rfl rfl rfl (x_assign E rfl rfl) ?_
             clear a E;intro a E
             refine wpList_nil ?_
             refine q_then ?_
             refine wp_ret ?_
             refine q_blkR ?_
             refine q_thenR ?_
             refine out1 E rfl rfl ?_
             replace H := H.drop 0
             obtain rfl := Option.some.inj hm
             exact ⟨rfl, H.reads (fun r hr => hs21 r hr)⟩
           ·rw [if_f hb23] at hm
            refine st_no E (wf' E rfl rfl rfl rfl hb23 rfl) rfl rfl ?_
            clear a E;intro a E
            refine st_no E (wf' E rfl rfl rfl rfl hb23 rfl) rfl rfl ?_
            clear a E;intro a E
            refine st_no E (wf' E rfl rfl rfl rfl hb23 rfl) rfl rfl ?_
            clear a E;intro a E
            refine sv E rfl rfl rfl (x_pickF E rfl rfl hb23 rfl) ?_
            clear a E;intro a E
            refine sv E rfl rfl rfl (x_move E rfl rfl) ?_
            clear a E;intro a E
            refine st_no E (wf E rfl rfl rfl rfl rfl) rfl rfl ?_
            clear a E;intro a E
            refine st_no E (wf E rfl rfl rfl rfl rfl) rfl rfl ?_
            clear a E;intro a E
            refine st_no E (wf E rfl rfl rfl rfl rfl) rfl rfl ?_
            clear a E;intro a E
            refine sv E rfl rfl rfl (x_pickF E rfl rfl rfl rfl) ?_
            clear a E;intro a E
            refine sv E rfl rfl rfl (x_assign E rfl rfl) ?_
            clear a E;intro a E
            refine wpList_nil ?_
            refine q_then ?_
            refine wp_ret ?_
            refine q_blkR ?_
            refine q_thenR ?_
            refine out1 E rfl rfl ?_
            replace H := H.drop 0
            obtain rfl := Option.some.inj hm
            exact ⟨rfl, H.reads (fun r hr => hs21 r hr)⟩
          ·rw [if_f hb22] at hm
           refine st_no E (wf' E rfl rfl rfl rfl hb22 rfl) rfl rfl ?_
           clear a E;intro a E
           refine st_no E (wf' E rfl rfl rfl rfl hb22 rfl) rfl rfl ?_
           clear a E;intro a E
           refine st_no E (wf' E rfl rfl rfl rfl hb22 rfl) rfl rfl ?_
           clear a E;intro a E
           refine sv E rfl rfl rfl (x_pickF E rfl rfl hb22 rfl) ?_
           clear a E;intro a E
           refine sv E rfl rfl rfl (x_move E rfl rfl) ?_
           clear a E;intro a E
           refine st_no E (wf E rfl rfl rfl rfl rfl) rfl rfl ?_
           clear a E;intro a E
           refine st_no E (wf E rfl rfl rfl rfl rfl) rfl rfl ?_
           clear a E;intro a E
           refine st_no E (wf E rfl rfl rfl rfl rfl) rfl rfl ?_
           clear a E;intro a E
           refine sv E rfl rfl rfl (x_pickF E rfl rfl rfl rfl) ?_
           clear a E;intro a E
           refine sv E rfl rfl rfl (x_move E rfl rfl) ?_
           clear a E;intro a E
           refine st_no E (wf E rfl rfl rfl rfl rfl) rfl rfl ?_
           clear a E;intro a E
           refine st_no E (wf E rfl rfl rfl rfl rfl) rfl rfl ?_
           clear a E;intro a E
           refine st_no E (wf E rfl rfl rfl rfl rfl) rfl rfl ?_
           clear a E;intro a E
           refine sv E rfl rfl rfl (x_pickF E rfl rfl rfl rfl) ?_
           clear a E;intro a E
           refine sv E rfl rfl rfl (x_assign E rfl rfl) ?_
           clear a E;intro a E
           refine wpList_nil ?_
           refine q_then ?_
           refine wp_ret ?_
           refine q_blkR ?_
           refine q_thenR ?_
           refine out1 E rfl rfl ?_
           replace H := H.drop 0
           obtain rfl := Option.some.inj hm
           exact ⟨rfl, H.reads (fun r hr => hs21 r hr)⟩
         ·intro hb
          rw [if_f hb] at hm
          clear hb
          refine wp_seq ?_
          refine wp_region_lit ?_
          refine sv E rfl rfl rfl (x_bin E rfl rfl rfl rfl) ?_
          clear a E;intro a E
          refine sv E rfl rfl rfl (x_assign E rfl rfl) ?_
          clear a E;intro a E
          refine wpList_nil ?_
          refine q_then ?_
          refine wp_if E rfl ?_ ?_
          ·intro hb
           rw [if_t hb] at hm
           clear hb
           refine wp_seq ?_
           refine wp_region_lit ?_
           refine sv E rfl rfl rfl (x_fa E rfl rfl (v := .pointer (some ⟨p2, 3, none⟩)) (fa24_3 _ _)) ?_
           clear a E;intro a E
           refine sv E rfl rfl rfl (x_ldB (i := 0) E H rfl rfl rfl rfl Tryz.underlying2 rfl) ?_
           clear a E;intro a E
           refine sv E rfl rfl rfl (x_bin E rfl rfl rfl rfl) ?_
           clear a E;intro a E
           refine sv E rfl rfl rfl (x_move E rfl rfl) ?_
           clear a E;intro a E
           rcases Bool.eq_false_or_eq_true (x1.Version == 0) with hb25 | hb25
           ·rw [if_t hb25] at hm
            refine st_val E (ws' E rfl rfl rfl rfl hb25) rfl rfl (x_fa E rfl rfl (v := .pointer (some ⟨p2, 2, none⟩)) (fa24_2 _ _)) ?_
            clear a E;intro a E
            refine st_val E (ws' E rfl rfl rfl rfl hb25) rfl rfl (x_ldB (i := 0) E H rfl rfl rfl rfl Tryz.underlying9 rfl) ?_
            clear a E;intro a E
            refine st_val E (ws' E rfl rfl rfl rfl hb25) rfl rfl (x_str E rfl rfl rfl rfl) ?_
            clear a E;intro a E
            refine sv E rfl rfl rfl (x_pickT E rfl rfl hb25 rfl) ?_
            clear a E;intro a E
            refine sv E rfl rfl rfl (x_move E rfl rfl) ?_
            clear a E;intro a E
            rcases Bool.eq_false_or_eq_true (sEq x1.Data (ByteArray.mk #[])) with hb26 | hb26
            ·rw [if_t hb26] at hm
             refine st_val E (ws' E rfl rfl rfl rfl hb26) rfl rfl (x_fa E rfl rfl (v := .pointer (some ⟨p2, 4, none⟩)) (fa24_4 _ _)) ?_
             clear a E;intro a E
             refine st_val E (ws' E rfl rfl rfl rfl hb26) rfl rfl (x_ldB (i := 0) E H rfl rfl rfl rfl Tryz.underlying2 rfl) ?_
             clear a E;intro a E
             refine st_val E (ws' E rfl rfl rfl rfl hb26) rfl rfl (x_bin E rfl rfl rfl rfl) ?_
             clear a E;intro a E
             refine sv E rfl rfl rfl (x_pickT E rfl rfl hb26 rfl) ?_
             clear a E;intro a E
             refine sv E rfl rfl rfl (x_move E rfl rfl) ?_
             clear a E;intro a E
             rcases Bool.eq_false_or_eq_true (decide (x1.Owner > 0)) with hb27 | hb27
             ·rw [if_t hb27] at hm
              refine st_val E (ws' E rfl rfl rfl rfl hb27) rfl rfl (x_fa E rfl rfl (v := .pointer (some ⟨p2, 5, none⟩)) (fa24_5 _ _)) ?_
              clear a E;intro a E
              refine st_val E (ws' E rfl rfl rfl rfl hb27) rfl rfl (x_ldB (i := 0) E H rfl rfl rfl rfl Tryz.underlying4 rfl) ?_
              clear a E;intro a E
              refine st_val E (ws' E rfl rfl rfl rfl hb27) rfl rfl (x_not E rfl rfl) ?_
              clear a E;intro a E
              refine sv E rfl rfl rfl (x_pickT E rfl rfl hb27 rfl) ?_
              clear a E;intro a E
              refine sv E rfl rfl rfl (x_assign E rfl rfl) ?_
              clear a E;intro a E
              refine wpList_nil ?_
              refine q_then ?_
              refine wp_ret ?_
              refine q_blkR ?_
              refine q_thenR ?_
              refine out1 E rfl rfl ?_
              replace H := H.drop 0
              obtain rfl := Option.some.inj hm
              exact ⟨rfl, H.reads (fun r hr => hs21 r hr)⟩
             ·rw [if_f hb27] at hm
              refine st_no E (wf' E rfl rfl rfl rfl hb27 rfl) rfl rfl ?_
              clear a E;intro a E
              refine st_no E (wf' E rfl rfl rfl rfl hb27 rfl) rfl rfl ?_
              clear a E;intro a E
              refine st_no E (wf' E rfl rfl rfl rfl hb27 rfl) rfl rfl ?_
              clear a E;intro a E
              refine sv E rfl rfl rfl (x_pickF E rfl rfl hb27 rfl) ?_
              clear a E;intro a E
              refine sv E rfl rfl rfl (x_assign E rfl rfl) ?_
              clear a E;intro a E
              refine wpList_nil ?_
              refine q_then ?_
              refine wp_ret ?_
              refine q_blkR ?_
              refine q_thenR ?_
              refine out1 E rfl rfl ?_
              replace H := H.drop 0
              obtain rfl := Option.some.inj hm
              exact ⟨rfl, H.reads (fun r hr => hs21 r hr)⟩
            ·rw [if_f hb26] at hm
             refine st_no E (wf' E rfl rfl rfl rfl hb26 rfl) rfl rfl ?_
             clear a E;intro a E
             refine st_no E (wf' E rfl rfl rfl rfl hb26 rfl) rfl rfl ?_
             clear a E;intro a E
             refine st_no E (wf' E rfl rfl rfl rfl hb26 rfl) rfl rfl ?_
             clear a E;intro a E
             refine sv E rfl rfl rfl (x_pickF E rfl rfl hb26 rfl) ?_
             clear a E;intro a E
             refine sv E rfl rfl rfl (x_move E rfl rfl) ?_
             clear a E;intro a E
             refine st_no E (wf E rfl rfl rfl rfl rfl) rfl rfl ?_
             clear a E;intro a E
             refine st_no E (wf E rfl rfl rfl rfl rfl) rfl rfl ?_
             clear a E;intro a E
             refine st_no E (wf E rfl rfl rfl rfl rfl) rfl rfl ?_
             clear a E;intro a E
             refine sv E rfl rfl rfl (x_pickF E rfl rfl rfl rfl) ?_
             clear a E;intro a E
             refine sv E rfl rfl rfl (x_assign E rfl rfl) ?_
             clear a E;intro a E
             refine wpList_nil ?_
             refine q_then ?_
             refine wp_ret ?_
             refine q_blkR ?_
             refine q_thenR ?_
             refine out1 E rfl rfl ?_
             replace H := H.drop 0
             obtain rfl := Option.some.inj hm
             exact ⟨rfl, H.reads (fun r hr => hs21 r hr)⟩
           ·rw [if_f hb25] at hm
            refine st_no E (wf' E rfl rfl rfl rfl hb25 rfl) rfl rfl ?_
            clear a E;intro a E
            refine st_no E (wf' E rfl rfl rfl rfl hb25 rfl) rfl rfl ?_
            clear a E;intro a E
            refine st_no E (wf' E rfl rfl rfl rfl hb25 rfl) rfl rfl ?_
            clear a E;intro a E
            refine sv E rfl rfl rfl (x_pickF E rfl rfl hb25 rfl) ?_
            clear a E;intro a E
            refine sv E rfl rfl rfl (x_move E rfl rfl) ?_
            clear a E;intro a E
            refine st_no E (wf E rfl rfl rfl rfl rfl) rfl rfl ?_
            clear a E;intro a E
            refine st_no E (wf E rfl rfl rfl rfl rfl) rfl rfl ?_
            clear a E;intro a E
            refine st_no E (wf E rfl rfl rfl rfl rfl) rfl rfl ?_
            clear a E;intro a E
            refine sv E rfl rfl rfl (x_pickF E rfl rfl rfl rfl) ?_
            clear a E;intro a E
            refine sv E rfl rfl rfl (x_move E rfl rfl) ?_
            clear a E;intro a E
            refine st_no E (wf E rfl rfl rfl rfl rfl) rfl rfl ?_
            clear a E;intro a E
            refine st_no E (wf E rfl rfl rfl rfl rfl) rfl rfl ?_
            clear a E;intro a E
            refine st_no E (wf E rfl rfl rfl rfl rfl) rfl rfl ?_
            clear a E;intro a E
            refine sv E rfl rfl rfl (x_pickF E rfl rfl rfl rfl) ?_
            clear a E;intro a E
            refine sv E rfl rfl rfl (x_assign E rfl rfl) ?_
            clear a E;intro a E
            refine wpList_nil ?_
            refine q_then ?_
            refine wp_ret ?_
            refine q_blkR ?_
            refine q_thenR ?_
            refine out1 E rfl rfl ?_
            replace H := H.drop 0
            obtain rfl := Option.some.inj hm
            exact ⟨rfl, H.reads (fun r hr => hs21 r hr)⟩
          ·intro hb
           rw [if_f hb] at hm
           clear hb
           refine wp_skip ?_
           refine q_blk ?_
           refine q_then ?_
           refine wp_seq ?_
           refine wp_region_lit ?_
           refine sv E rfl rfl rfl (x_assign E rfl rfl) ?_
           clear a E;intro a E
           refine wpList_nil ?_
           refine q_then ?_
           refine wp_ret ?_
           refine out1 E rfl rfl ?_
           replace H := H.drop 0
           obtain rfl := Option.some.inj hm
           exact ⟨rfl, H.reads (fun r hr => hs21 r hr)⟩
end Go.Cb

set_option linter.unusedVariables false
set_option linter.unusedSimpArgs false
namespace Go.Cb
open Go.Proofs Go.RowKit
def m_cantonref06_Put_j1 (rec_1 : (List S_api_Node) → Bool → Int → Option (List S_api_Node)) (x9 : Int) (l14 : (List S_api_Node)) (b15 : Bool) : Option (List S_api_Node) :=
  rec_1 l14 b15 (IntKind.i64.wrap (x9 + 1))
def m_cantonref06_Put_j2 (rec_1 : (List S_api_Node) → Bool → Int → Option (List S_api_Node)) (x9 : Int) (l2 : List S_api_Node) (x3 : S_api_Node) (l20 : (List S_api_Node)) (b21 : Bool) : Option (List S_api_Node) :=
  (idx l2 x9).bind fun x26 => if (!(sEq x26.Path x3.Path)) = true then ((idx l2 x9).bind fun x33 => (ck (l20.length + ([x33] : List S_api_Node).length ≤ LIM)).bind fun u39 => m_cantonref06_Put_j1 rec_1 x9 (l20 ++ ([x33] : List S_api_Node)) b21) else (m_cantonref06_Put_j1 rec_1 x9 l20 b21)
def m_cantonref06_Put_j3 (rec_1 : (List S_api_Node) → Bool → Int → Option (List S_api_Node)) (x9 : Int) (l2 : List S_api_Node) (x3 : S_api_Node) (l7 : (List S_api_Node)) (b8 : Bool) (b41 : Bool) : Option (List S_api_Node) :=
  if b41 = true then ((ck (l7.length + ([(⟨x3.Path, x3.Data, x3.Version, x3.Turn, x3.Owner⟩ : S_api_Node)] : List S_api_Node).length ≤ LIM)).bind fun u47 => m_cantonref06_Put_j2 rec_1 x9 l2 x3 (l7 ++ ([(⟨x3.Path, x3.Data, x3.Version, x3.Turn, x3.Owner⟩ : S_api_Node)] : List S_api_Node)) true) else (m_cantonref06_Put_j2 rec_1 x9 l2 x3 l7 b8)
def m_cantonref06_Put_j4 (l59 : (List S_api_Node)) : Option (List S_api_Node) :=
  some (l59)
def m_cantonref06_Put_l1 (l2 : List S_api_Node) (x3 : S_api_Node) : Nat → (List S_api_Node) → Bool → Int → Option (List S_api_Node)
  | 0, _, _, _ => none
  | k1 + 1, l7, b8, x9 =>
    if (decide (x9 < (l2.length : Int))) = true then (if (!b8) = true then ((idx l2 x9).bind fun x51 => m_cantonref06_Put_j3 (m_cantonref06_Put_l1 l2 x3 k1) x9 l2 x3 l7 b8 (!(sLt x51.Path x3.Path))) else (m_cantonref06_Put_j3 (m_cantonref06_Put_l1 l2 x3 k1) x9 l2 x3 l7 b8 false)) else (if (!b8) = true then ((ck (l7.length + ([(⟨x3.Path, x3.Data, x3.Version, x3.Turn, x3.Owner⟩ : S_api_Node)] : List S_api_Node).length ≤ LIM)).bind fun u64 => m_cantonref06_Put_j4 (l7 ++ ([(⟨x3.Path, x3.Data, x3.Version, x3.Turn, x3.Owner⟩ : S_api_Node)] : List S_api_Node))) else (m_cantonref06_Put_j4 l7))
def m_cantonref06_Put (l2 : List S_api_Node) (x3 : S_api_Node) : Option (List S_api_Node) :=
  m_cantonref06_Put_l1 l2 x3 (((l2.length : Int) - 0 : Int).toNat + 1) [] false 0
set_option maxRecDepth 20000 in
set_option maxHeartbeats 1000000 in
theorem c_cantonref06_Put {w : World} {Fo : List Ob} {rs : List Rp} (v1 : Value) (l2 : List S_api_Node) (x3 : S_api_Node) (H : Sep w (Fo) rs) (hr4 : rSl k_api_Node v1 l2 ∈ rs) {r : (List S_api_Node)} (hm : m_cantonref06_Put l2 x3 = some r) :
    Calls Tryz.prog 30 [v1, .agg #[.string x3.Path, .string x3.Data, .int .i64 x3.Version, .int .i64 x3.Turn, .int .i64 x3.Owner]].toArray w (Ret fun v w' => ∃ (v5001 : Value), v5001 = v ∧ Sep w' (Row 35 k_api_Node v5001 r :: Fo) (rs)) := by
 unfold m_cantonref06_Put at hm
 refine enter Tryz.func30 rfl Tryz.ntmps30 rfl fun a E => ?_
 simp only [enum, Nat.reduceAdd] at E
 refine wp_seq ?_
 refine wp_region_lit ?_
 refine st_box E H (wn rfl) rfl rfl (cs := [.string x3.Path, .string x3.Data, .int .i64 x3.Version, .int .i64 x3.Turn, .int .i64 x3.Owner]) rfl rfl rfl ?_
 clear E H; clear a; clear w; intro p5 w a H E
 refine sv E rfl rfl rfl (x_assign E rfl rfl) ?_
 clear a E;intro a E
 refine wpList_nil ?_
 refine q_then ?_
 refine wp_seq ?_
 refine wp_region_lit ?_
 refine sv E rfl rfl rfl (x_assign E rfl rfl) ?_
 clear a E;intro a E
 refine wpList_nil ?_
 refine q_then ?_
 refine wp_seq ?_
 refine wp_region_lit ?_
 refine sv E rfl rfl rfl (x_assign E rfl rfl) ?_
 clear a E;intro a E
 refine wpList_nil ?_
 refine q_then ?_
 refine wp_seq ?_
 refine wp_seq ?_
 refine wp_region_lit ?_
 refine sv E rfl rfl rfl (x_assign E rfl rfl) ?_
 clear a E;intro a E
 refine wpList_nil ?_
 refine q_then ?_
 refine wp_block ?_
 refine wp_loop_g (fun k1 a w => ∃ (v6 : Value) (l7 : (List S_api_Node)) (b8 : Bool) (x9 : Int) (rs10 : List Rp), Env 52 a [(0, v1), (3, .pointer (some ⟨p5, 0, none⟩)), (5, v6), (6, .bool b8), (7, .int .i64 x9)] ∧ Sep w (Blk p5 35 [.string x3.Path, .string x3.Data, .int .i64 x3.Version, .int .i64 x3.Turn, .int .i64 x3.Owner] :: Row 35 k_api_Node v6 l7 :: Fo) rs10 ∧ (∀ r, r ∈ rs → r ∈ rs10) ∧ rSl k_api_Node v1 l2 ∈ rs10 ∧ m_cantonref06_Put_l1 l2 x3 k1 l7 b8 x9 = some r) (((l2.length : Int) - 0 : Int).toNat + 1) ?_ ?_
 ·replace H := H.nilRow 35 k_api_Node
  replace H := H.front 0 rfl
  replace H := H.front 1 rfl
  exact ⟨(.slice none 0 0), [], false, 0, _, (((((E.nil.keep E 7 rfl).keep E 6 rfl).keep E 5 rfl).keep E 3 rfl).keep E 0 rfl), H, fun r hr => hr, hr4, hm⟩
 ·clear E H hm
  rintro k1 a w ⟨v6, l7, b8, x9, rs10, E, H, hs11, hr12, hm⟩
  cases k1 with
  | zero => exact (none_some hm rfl).elim
  | succ k1 =>
   unfold m_cantonref06_Put_l1 at hm
   refine wp_seq ?_
   refine wp_seq ?_
   refine wp_region_lit ?_
   refine sv E rfl rfl rfl (x_move E rfl rfl) ?_
   clear a E;intro a E
   refine sv E rfl rfl rfl (x_move E rfl rfl) ?_
   clear a E;intro a E
   refine sv E rfl rfl rfl (x_lenS E H rfl rfl hr12 Tryz.underlying22) ?_
   clear a E;intro a E
   refine sv E rfl rfl rfl (x_bin E rfl rfl rfl rfl) ?_
   clear a E;intro a E
   refine wpList_nil ?_
   refine q_then ?_
   refine wp_if E rfl ?_ ?_
   ·intro hb
    rw [if_t hb] at hm
    clear hb
    refine wp_skip ?_
    refine q_then ?_
    refine wp_seq_cut (fun a w => ∃ (v13 : Value) (l14 : (List S_api_Node)) (b15 : Bool) (rs16 : List Rp), Env 52 a [(0, v1), (3, .pointer (some ⟨p5, 0, none⟩)), (5, v13), (6, .bool b15), (7, .int .i64 x9)] ∧ Sep w (Blk p5 35 [.string x3.Path, .string x3.Data, .int .i64 x3.Version, .int .i64 x3.Turn, .int .i64 x3.Owner] :: Row 35 k_api_Node v13 l14 :: Fo) rs16 ∧ (∀ r, r ∈ rs → r ∈ rs16) ∧ rSl k_api_Node v1 l2 ∈ rs16 ∧ m_cantonref06_Put_j1 (m_cantonref06_Put_l1 l2 x3 k1) x9 l14 b15 = some r) ?_ ?_
    ·refine wp_block ?_
     refine wp_seq_cut (fun a w => ∃ (v19 : Value) (l20 : (List S_api_Node)) (b21 : Bool) (rs22 : List Rp), Env 52 a [(0, v1), (3, .pointer (some ⟨p5, 0, none⟩)), (5, v19), (6, .bool b21), (7, .int .i64 x9)] ∧ Sep w (Blk p5 35 [.string x3.Path, .string x3.Data, .int .i64 x3.Version, .int .i64 x3.Turn, .int .i64 x3.Owner] :: Row 35 k_api_Node v19 l20 :: Fo) rs22 ∧ (∀ r, r ∈ rs → r ∈ rs22) ∧ rSl k_api_Node v1 l2 ∈ rs22 ∧ m_cantonref06_Put_j2 (m_cantonref06_Put_l1 l2 x3 k1) x9 l2 x3 l20 b21 = some r) ?_ ?_
     ·refine wp_seq_cut (fun a w => ∃ (b41 : Bool) (rs42 : List Rp), Env 52 a [(0, v1), (3, .pointer (some ⟨p5, 0, none⟩)), (5, v6), (6, .bool b8), (7, .int .i64 x9), (25, .bool b41)] ∧ Sep w (Blk p5 35 [.string x3.Path, .string x3.Data, .int .i64 x3.Version, .int .i64 x3.Turn, .int .i64 x3.Owner] :: Row 35 k_api_Node v6 l7 :: Fo) rs42 ∧ (∀ r, r ∈ rs → r ∈ rs42) ∧ rSl k_api_Node v1 l2 ∈ rs42 ∧ m_cantonref06_Put_j3 (m_cantonref06_Put_l1 l2 x3 k1) x9 l2 x3 l7 b8 b41 = some r) ?_ ?_
      ·obtain ⟨u49, H⟩ := H.raw hr12
       replace H : Sep w (Blk p5 35 [.string x3.Path, .string x3.Data, .int .i64 x3.Version, .int .i64 x3.Turn, .int .i64 x3.Owner] :: Row 35 k_api_Node v6 l7 :: Fo) (rRow k_api_Node v1 l2 u49 :: rs10) := H
       have hI : Still [Blk p5 35 [.string x3.Path, .string x3.Data, .int .i64 x3.Version, .int .i64 x3.Turn, .int .i64 x3.Owner]] [rRow k_api_Node v1 l2 u49] { w with drawn := w.drawn + 1 } := ⟨_, _, H.kept (Kp.drawn _ w _), (subO_cons (.head _) (subO_nil)), (sub_cons (.head _) (sub_nil))⟩
       refine wp_draw _ [(0, 0), (1, 0), (2, 0), (3, 0), (4, 0), (5, 0), (6, 0), (7, 0), (8, 0), (9, 0), (10, 0), (11, 0)] mixedOk (by kernel_rfl) (fun _ _ _ h => False.elim h.2) hI ?_
       replace H := H.kept (Kp.drawn _ w (w.drawn + 1))
       generalize ({ w with drawn := w.drawn + 1 } : World) = w at H hI ⊢
       replace hI : ∃ W, Still [Blk p5 35 [.string x3.Path, .string x3.Data, .int .i64 x3.Version, .int .i64 x3.Turn, .int .i64 x3.Owner]] [rRow k_api_Node v1 l2 u49] W := ⟨_, hI⟩
       obtain ⟨W0, hI⟩ := hI
       refine fr_val E rfl (wn rfl) rfl rfl (fun w hW => (x_move E rfl rfl)) ?_
       clear a E;intro a E
       refine fr_val E rfl (wn rfl) rfl rfl (fun w hW => (x_not E rfl rfl)) ?_
       clear a E;intro a E
       refine fr_val E rfl (wn rfl) rfl rfl (fun w hW => (x_move E rfl rfl)) ?_
       clear a E;intro a E
       rcases Bool.eq_false_or_eq_true (!b8) with hb50 | hb50
       ·rw [if_t hb50] at hm
        refine fr_val E rfl (ws' E rfl rfl rfl rfl hb50) rfl rfl (fun w hW => (x_move E rfl rfl)) ?_
        clear a E;intro a E
        refine fr_val E rfl (ws' E rfl rfl rfl rfl hb50) rfl rfl (fun w hW => (x_move E rfl rfl)) ?_
        clear a E;intro a E
        obtain ⟨x51, hx52, hm⟩ := bnd hm
        obtain ⟨q53, u56, hx54, hx55⟩ := dr_ixW (P := Tryz.prog) (k := .i64) hI (dr_mem (.head _)) Tryz.underlying22 sz35 hx52
        refine fr_val E rfl (ws' E rfl rfl rfl rfl hb50) rfl rfl (fun w hW => x_ixA E rfl rfl rfl (hx54 w)) ?_
        clear a E;intro a E
        have hx57 := dr_fld hx55 (fun _ _ _ h => k_api_Node_aw0 h)
        refine fr_val E rfl (ws' E rfl rfl rfl rfl hb50) rfl rfl (fun w hW => x_fa E rfl rfl (fa35_0 _ _)) ?_
        clear a E;intro a E
        refine fr_val E rfl (ws' E rfl rfl rfl rfl hb50) rfl rfl (fun w hW => x_ld E rfl rfl (ir_ld (DR.ir (dr_at hx57)) Tryz.underlying9 rfl w hW)) ?_
        clear a E;intro a E
        refine fr_val E rfl (ws' E rfl rfl rfl rfl hb50) rfl rfl (fun w hW => x_fa E rfl rfl (v := .pointer (some ⟨p5, 0, none⟩)) (fa35_0 _ _)) ?_
        clear a E;intro a E
        refine fr_val E rfl (ws' E rfl rfl rfl rfl hb50) rfl rfl (fun w hW => x_ld E rfl rfl (ib_ld (.head _) rfl Tryz.underlying9 rfl w hW)) ?_
        clear a E;intro a E
        refine fr_val E rfl (ws' E rfl rfl rfl rfl hb50) rfl rfl (fun w hW => (x_str E rfl rfl rfl rfl)) ?_
        clear a E;intro a E
        refine fr_val E rfl (wn rfl) rfl rfl (fun w hW => (x_pickT E rfl rfl hb50 rfl)) ?_
        clear a E;intro a E
        refine fr_nil ?_
        clear hI
        refine q_then ?_
        exact ⟨!(sLt x51.Path x3.Path), _, ((((((E.nil.keep E 25 rfl).keep E 7 rfl).keep E 6 rfl).keep E 5 rfl).keep E 3 rfl).keep E 0 rfl), H, fun r hr => .tail _ (hs11 r hr), (.tail _ hr12), hm⟩
       ·rw [if_f hb50] at hm
        refine fr_no E rfl (wf' E rfl rfl rfl rfl hb50 rfl) rfl rfl ?_
        clear a E;intro a E
        refine fr_no E rfl (wf' E rfl rfl rfl rfl hb50 rfl) rfl rfl ?_
        clear a E;intro a E
        refine fr_no E rfl (wf' E rfl rfl rfl rfl hb50 rfl) rfl rfl ?_
        clear a E;intro a E
        refine fr_no E rfl (wf' E rfl rfl rfl rfl hb50 rfl) rfl rfl ?_
        clear a E;intro a E
        refine fr_no E rfl (wf' E rfl rfl rfl rfl hb50 rfl) rfl rfl ?_
        clear a E;intro a E
        refine fr_no E rfl (wf' E rfl rfl rfl rfl hb50 rfl) rfl rfl ?_
        clear a E;intro a E
        refine fr_no E rfl (wf' E rfl rfl rfl rfl hb50 rfl) rfl rfl ?_
        clear a E;intro a E
        refine fr_no E rfl (wf' E rfl rfl rfl rfl hb50 rfl) rfl rfl ?_
        clear a E;intro a E
        refine fr_val E rfl (wn rfl) rfl rfl (fun w hW => (x_pickF E rfl rfl hb50 rfl)) ?_
        clear a E;intro a E
        refine fr_nil ?_
        clear hI
        refine q_then ?_
        exact ⟨false, _, ((((((E.nil.keep E 25 rfl).keep E 7 rfl).keep E 6 rfl).keep E 5 rfl).keep E 3 rfl).keep E 0 rfl), H, fun r hr => .tail _ (hs11 r hr), (.tail _ hr12), hm⟩
      ·clear E H hm
       rintro a w ⟨b41, rs42, E, H, hs43, hr44, hm⟩
       unfold m_cantonref06_Put_j3 at hm
       refine wp_if E rfl ?_ ?_
       ·intro hb
        rw [if_t hb] at hm
        clear hb
        refine wp_seq ?_
        refine wp_region_lit ?_
        refine sv E rfl rfl rfl (x_move E rfl rfl) ?_
        clear a E;intro a E
        refine sv E rfl rfl rfl (x_ldBN (i := 0) (us := [.string x3.Path, .string x3.Data, .int .i64 x3.Version, .int .i64 x3.Turn, .int .i64 x3.Owner]) E H rfl rfl rfl rfl Tryz.underlying35 rfl sz35) ?_
        clear a E;intro a E
        refine st_bsR (e := 35) (d := k_api_Node) (cs := [.string x3.Path, .string x3.Data, .int .i64 x3.Version, .int .i64 x3.Turn, .int .i64 x3.Owner]) (xs := [(⟨x3.Path, x3.Data, x3.Version, x3.Turn, x3.Owner⟩ : S_api_Node)]) E H (wn rfl) rfl rfl (ps := [(0, .tmp 27)]) (parts := [(0, .agg #[.string x3.Path, .string x3.Data, .int .i64 x3.Version, .int .i64 x3.Turn, .int .i64 x3.Owner])]) rfl (by simp only [List.map]; rw [E.eval (x := .tmp 27) (v := .agg #[.string x3.Path, .string x3.Data, .int .i64 x3.Version, .int .i64 x3.Turn, .int .i64 x3.Owner]) rfl]) (by kernel_rfl) rfl (fun ok hr => (Rows.single (d := k_api_Node) (cs := [.string x3.Path, .string x3.Data, .int .i64 x3.Version, .int .i64 x3.Turn, .int .i64 x3.Owner]) (x := (⟨x3.Path, x3.Data, x3.Version, x3.Turn, x3.Owner⟩ : S_api_Node)) k_api_Node_mk)) ?_
        clear E H; clear a; clear w; intro v45 w a H E
        obtain ⟨u47, hx48, hm⟩ := bnd hm
        refine st_append (i := 1) E H (wn rfl) rfl rfl rfl rfl rfl rfl (src_rd (.head _)) Tryz.underlying22 inf35 rfl (ck_of hx48) rfl ?_
        clear E H; clear a; clear w; intro v46 w a H E
        refine sv E rfl rfl rfl (x_assign E rfl rfl) ?_
        clear a E;intro a E
        refine wpList_nil ?_
        refine q_then ?_
        refine wp_region_lit ?_
        refine sv E rfl rfl rfl (x_assign E rfl rfl) ?_
        clear a E;intro a E
        refine wpList_nil ?_
        refine q_then ?_
        exact ⟨v46, l7 ++ ([(⟨x3.Path, x3.Data, x3.Version, x3.Turn, x3.Owner⟩ : S_api_Node)] : List S_api_Node), true, _, (((((E.nil.keep E 7 rfl).keep E 6 rfl).keep E 5 rfl).keep E 3 rfl).keep E 0 rfl), H, fun r hr => .tail _ (hs43 r hr), (.tail _ hr44), hm⟩
       ·intro hb
        rw [if_f hb] at hm
        clear hb
        refine wp_skip ?_
        refine q_then ?_
        exact ⟨v6, l7, b8, _, (((((E.nil.keep E 7 rfl).keep E 6 rfl).keep E 5 rfl).keep E 3 rfl).keep E 0 rfl), H, hs43, hr44, hm⟩
     ·clear E H hm
      rintro a w ⟨v19, l20, b21, rs22, E, H, hs23, hr24, hm⟩
      unfold m_cantonref06_Put_j2 at hm
      refine wp_seq ?_
      obtain ⟨u25, H⟩ := H.raw hr24
      replace H : Sep w (Blk p5 35 [.string x3.Path, .string x3.Data, .int .i64 x3.Version, .int .i64 x3.Turn, .int .i64 x3.Owner] :: Row 35 k_api_Node v19 l20 :: Fo) (rRow k_api_Node v1 l2 u25 :: rs22) := H
      have hI : Still [Blk p5 35 [.string x3.Path, .string x3.Data, .int .i64 x3.Version, .int .i64 x3.Turn, .int .i64 x3.Owner]] [rRow k_api_Node v1 l2 u25] { w with drawn := w.drawn + 1 } := ⟨_, _, H.kept (Kp.drawn _ w _), (subO_cons (.head _) (subO_nil)), (sub_cons (.head _) (sub_nil))⟩
      refine wp_draw _ [(0, 0), (1, 0), (2, 0), (3, 0), (4, 0), (5, 0), (6, 0), (7, 0)] mixedOk (by kernel_rfl) (fun _ _ _ h => False.elim h.2) hI ?_
      replace H := H.kept (Kp.drawn _ w (w.drawn + 1))
      generalize ({ w with drawn := w.drawn + 1 } : World) = w at H hI ⊢
      replace hI : ∃ W, Still [Blk p5 35 [.string x3.Path, .string x3.Data, .int .i64 x3.Version, .int .i64 x3.Turn, .int .i64 x3.Owner]] [rRow k_api_Node v1 l2 u25] W := ⟨_, hI⟩
      obtain ⟨W0, hI⟩ := hI
      refine fr_val E rfl (wn rfl) rfl rfl (fun w hW => (x_move E rfl rfl)) ?_
      clear a E;intro a E
      refine fr_val E rfl (wn rfl) rfl rfl (fun w hW => (x_move E rfl rfl)) ?_
      clear a E;intro a E
      obtain ⟨x26, hx27, hm⟩ := bnd hm
      obtain ⟨q28, u31, hx29, hx30⟩ := dr_ixW (P := Tryz.prog) (k := .i64) hI (dr_mem (.head _)) Tryz.underlying22 sz35 hx27
      refine fr_val E rfl (wn rfl) rfl rfl (fun w hW => x_ixA E rfl rfl rfl (hx29 w)) ?_
      clear a E;intro a E
      have hx32 := dr_fld hx30 (fun _ _ _ h => k_api_Node_aw0 h)
      refine fr_val E rfl (wn rfl) rfl rfl (fun w hW => x_fa E rfl rfl (fa35_0 _ _)) ?_
      clear a E;intro a E
      refine fr_val E rfl (wn rfl) rfl rfl (fun w hW => x_ld E rfl rfl (ir_ld (DR.ir (dr_at hx32)) Tryz.underlying9 rfl w hW)) ?_
      clear a E;intro a E
      refine fr_val E rfl (wn rfl) rfl rfl (fun w hW => x_fa E rfl rfl (v := .pointer (some ⟨p5, 0, none⟩)) (fa35_0 _ _)) ?_
      clear a E;intro a E
      refine fr_val E rfl (wn rfl) rfl rfl (fun w hW => x_ld E rfl rfl (ib_ld (.head _) rfl Tryz.underlying9 rfl w hW)) ?_
      clear a E;intro a E
      refine fr_val E rfl (wn rfl) rfl rfl (fun w hW => (x_str E rfl rfl rfl rfl)) ?_
      clear a E;intro a E
      refine fr_nil ?_
      clear hI
      refine q_then ?_
      refine wp_if E rfl ?_ ?_
      ·intro hb
       rw [if_t hb] at hm
       clear hb
       refine wp_region_lit ?_
       refine sv E rfl rfl rfl (x_move E rfl rfl) ?_
       clear a E;intro a E
       refine sv E rfl rfl rfl (x_move E rfl rfl) ?_
       clear a E;intro a E
       refine sv E rfl rfl rfl (x_move E rfl rfl) ?_
       clear a E;intro a E
       obtain ⟨x33, hx34, hm⟩ := bnd hm
       refine st_ixS E H (wn rfl) rfl rfl rfl rfl rfl (.tail _ hr24) Tryz.underlying22 sz35 hx34 ?_
       clear E H; clear a; intro q35 a H E
       refine st_ldN E H (wn rfl) rfl rfl rfl rfl (.head _) Tryz.underlying35 rfl sz35 ?_
       clear E H; clear a; intro u36 a H E
       obtain ⟨_, hcs⟩ := H.rd (.head _)
       obtain rfl := k_api_Node_open hcs
       clear hcs
       refine st_bsR (e := 35) (d := k_api_Node) (cs := [.string x33.Path, .string x33.Data, .int .i64 x33.Version, .int .i64 x33.Turn, .int .i64 x33.Owner]) (xs := [x33]) E H (wn rfl) rfl rfl (ps := [(0, .tmp 42)]) (parts := [(0, .agg #[.string x33.Path, .string x33.Data, .int .i64 x33.Version, .int .i64 x33.Turn, .int .i64 x33.Owner])]) rfl (by simp only [List.map]; rw [E.eval (x := .tmp 42) (v := .agg #[.string x33.Path, .string x33.Data, .int .i64 x33.Version, .int .i64 x33.Turn, .int .i64 x33.Owner]) rfl]) (by kernel_rfl) rfl (fun ok hr => (Rows.single (d := k_api_Node) (cs := [.string x33.Path, .string x33.Data, .int .i64 x33.Version, .int .i64 x33.Turn, .int .i64 x33.Owner]) (x := x33) k_api_Node_mk)) ?_
       clear E H; clear a; clear w; intro v37 w a H E
       obtain ⟨u39, hx40, hm⟩ := bnd hm
       refine st_append (i := 1) E H (wn rfl) rfl rfl rfl rfl rfl rfl (src_rd (.head _)) Tryz.underlying22 inf35 rfl (ck_of hx40) rfl ?_
       clear E H; clear a; clear w; intro v38 w a H E
       refine sv E rfl rfl rfl (x_assign E rfl rfl) ?_
       clear a E;intro a E
       refine wpList_nil ?_
       refine q_blk ?_
       refine q_then ?_
       exact ⟨v38, l20 ++ ([x33] : List S_api_Node), b21, _, (((((E.nil.keep E 7 rfl).keep E 6 rfl).keep E 5 rfl).keep E 3 rfl).keep E 0 rfl), H, fun r hr => .tail _ (.tail _ (.tail _ (.tail _ (hs23 r hr)))), (.tail _ (.tail _ (.tail _ (.tail _ hr24)))), hm⟩
      ·intro hb
       rw [if_f hb] at hm
       clear hb
       refine wp_skip ?_
       refine q_blk ?_
       refine q_then ?_
       exact ⟨v19, l20, b21, _, (((((E.nil.keep E 7 rfl).keep E 6 rfl).keep E 5 rfl).keep E 3 rfl).keep E 0 rfl), H, fun r hr => .tail _ (hs23 r hr), (.tail _ hr24), hm⟩
    ·clear E H hm
     rintro a w ⟨v13, l14, b15, rs16, E, H, hs17, hr18, hm⟩
     unfold m_cantonref06_Put_j1 at hm
     refine wp_region_lit ?_
     refine sv E rfl rfl rfl (x_move E rfl rfl) ?_
     clear a E;intro a E
     refine sv E rfl rfl rfl (x_bin E rfl rfl rfl rfl) ?_
     clear a E;intro a E
     refine sv E rfl rfl rfl (x_assign E rfl rfl) ?_
     clear a E;intro a E
     refine wpList_nil ?_
     refine q_then ?_
     exact ⟨k1, Nat.lt_succ_self k1, v13, l14, b15, IntKind.i64.wrap (x9 + 1), _, (((((E.nil.keep E 7 rfl).keep E 6 rfl).keep E 5 rfl).keep E 3 rfl).keep E 0 rfl), H, hs17, hr18, hm⟩
   ·intro hb
    rw [if_f hb] at hm
    clear hb
    refine wp_exit ?_
    refine q_thenX ?_
    refine q_thenX ?_
    refine q_hit ?_
    refine q_then ?_
    refine wp_seq_cut (fun a w => ∃ (v58 : Value) (l59 : (List S_api_Node)) (rs60 : List Rp), Env 52 a [(5, v58)] ∧ Sep w (Row 35 k_api_Node v58 l59 :: Fo) rs60 ∧ (∀ r, r ∈ rs → r ∈ rs60) ∧ m_cantonref06_Put_j4 l59 = some r) ?_ ?_
    ·refine wp_seq ?_
     refine wp_region_lit ?_
     refine sv E rfl rfl rfl (x_move E rfl rfl) ?_
     clear a E;intro a E
     refine sv E rfl rfl rfl (x_not E rfl rfl) ?_
     clear a E;intro a E
     refine wpList_nil ?_
     refine q_then ?_
     refine wp_if E rfl ?_ ?_
     ·intro hb
      rw [if_t hb] at hm
      clear hb
      refine wp_region_lit ?_
      refine sv E rfl rfl rfl (x_move E rfl rfl) ?_
      clear a E;intro a E
      refine sv E rfl rfl rfl (x_ldBN (i := 0) (us := [.string x3.Path, .string x3.Data, .int .i64 x3.Version, .int .i64 x3.Turn, .int .i64 x3.Owner]) E H rfl rfl rfl rfl Tryz.underlying35 rfl sz35) ?_
      clear a E;intro a E
      refine st_bsR (e := 35) (d := k_api_Node) (cs := [.string x3.Path, .string x3.Data, .int .i64 x3.Version, .int .i64 x3.Turn, .int .i64 x3.Owner]) (xs := [(⟨x3.Path, x3.Data, x3.Version, x3.Turn, x3.Owner⟩ : S_api_Node)]) E H (wn rfl) rfl rfl (ps := [(0, .tmp 48)]) (parts := [(0, .agg #[.string x3.Path, .string x3.Data, .int .i64 x3.Version, .int .i64 x3.Turn, .int .i64 x3.Owner])]) rfl (by simp only [List.map]; rw [E.eval (x := .tmp 48) (v := .agg #[.string x3.Path, .string x3.Data, .int .i64 x3.Version, .int .i64 x3.Turn, .int .i64 x3.Owner]) rfl]) (by kernel_rfl) rfl (fun ok hr => (Rows.single (d := k_api_Node) (cs := [.string x3.Path, .string x3.Data, .int .i64 x3.Version, .int .i64 x3.Turn, .int .i64 x3.Owner]) (x := (⟨x3.Path, x3.Data, x3.Version, x3.Turn, x3.Owner⟩ : S_api_Node)) k_api_Node_mk)) ?_
      clear E H; clear a; clear w; intro v62 w a H E
      obtain ⟨u64, hx65, hm⟩ := bnd hm
      refine st_append (i := 1) E H (wn rfl) rfl rfl rfl rfl rfl rfl (src_rd (.head _)) Tryz.underlying22 inf35 rfl (ck_of hx65) rfl ?_
      clear E H; clear a; clear w; intro v63 w a H E
      refine sv E rfl rfl rfl (x_assign E rfl rfl) ?_
      clear a E;intro a E
      refine wpList_nil ?_
      refine q_then ?_
      replace H := H.drop 0
      exact ⟨v63, l7 ++ ([(⟨x3.Path, x3.Data, x3.Version, x3.Turn, x3.Owner⟩ : S_api_Node)] : List S_api_Node), _, (E.nil.keep E 5 rfl), H, fun r hr => .tail _ (hs11 r hr), hm⟩
     ·intro hb
      rw [if_f hb] at hm
      clear hb
      refine wp_skip ?_
      refine q_then ?_
      replace H := H.drop 0
      exact ⟨v6, l7, _, (E.nil.keep E 5 rfl), H, hs11, hm⟩
    ·clear E H hm
     rintro a w ⟨v58, l59, rs60, E, H, hs61, hm⟩
     unfold m_cantonref06_Put_j4 at hm
     refine wp_seq ?_
     refine wp_region_lit ?_
     refine sv E rfl rfl rfl (x_move E rfl rfl) ?_
     clear a E;intro a E
     refine sv E rfl rfl rfl (x_assign E rfl rfl) ?_
     clear a E;intro a E
     refine wpList_nil ?_
     refine q_then ?_
     refine wp_ret ?_
     refine out1 E rfl rfl ?_
     obtain rfl := Option.some.inj hm
     exact ⟨v58, rfl, H.reads (fun r hr => hs61 r hr)⟩
end Go.Cb

set_option linter.unusedVariables false
set_option linter.unusedSimpArgs false
namespace Go.Cb
open Go.Proofs Go.RowKit
def m_cantonref01_Numbered_j1 (s1 : ByteArray) (x2 : Int) (b3 : Bool) : Option (ByteArray × Bool) :=
  if b3 = true then (some ((ByteArray.mk #[]), false)) else ((ck (s1.size + (strOf ([IntKind.u8.wrap (IntKind.i64.wrap (48 + (IntKind.i64.wrap (x2.tdiv 1000)))), IntKind.u8.wrap (IntKind.i64.wrap (48 + ((IntKind.i64.wrap (x2.tdiv 100)).tmod 10))), IntKind.u8.wrap (IntKind.i64.wrap (48 + ((IntKind.i64.wrap (x2.tdiv 10)).tmod 10))), IntKind.u8.wrap (IntKind.i64.wrap (48 + (x2.tmod 10)))] : List Int)).size ≤ 4611686018427387904)).bind fun u8 => (m_cantonref01_Part (s1 ++ (strOf ([IntKind.u8.wrap (IntKind.i64.wrap (48 + (IntKind.i64.wrap (x2.tdiv 1000)))), IntKind.u8.wrap (IntKind.i64.wrap (48 + ((IntKind.i64.wrap (x2.tdiv 100)).tmod 10))), IntKind.u8.wrap (IntKind.i64.wrap (48 + ((IntKind.i64.wrap (x2.tdiv 10)).tmod 10))), IntKind.u8.wrap (IntKind.i64.wrap (48 + (x2.tmod 10)))] : List Int)))).bind fun u9 => if (!u9) = true then (some ((ByteArray.mk #[]), false)) else (some (s1 ++ (strOf ([IntKind.u8.wrap (IntKind.i64.wrap (48 + (IntKind.i64.wrap (x2.tdiv 1000)))), IntKind.u8.wrap (IntKind.i64.wrap (48 + ((IntKind.i64.wrap (x2.tdiv 100)).tmod 10))), IntKind.u8.wrap (IntKind.i64.wrap (48 + ((IntKind.i64.wrap (x2.tdiv 10)).tmod 10))), IntKind.u8.wrap (IntKind.i64.wrap (48 + (x2.tmod 10)))] : List Int)), true)))
def m_cantonref01_Numbered (s1 : ByteArray) (x2 : Int) : Option (ByteArray × Bool) :=
  if (decide (x2 < 0)) = true then (m_cantonref01_Numbered_j1 s1 x2 true) else (m_cantonref01_Numbered_j1 s1 x2 (decide (x2 > 9999)))
set_option maxRecDepth 20000 in
set_option maxHeartbeats 1000000 in
theorem c_cantonref01_Numbered {w : World} {Fo : List Ob} {rs : List Rp} (s1 : ByteArray) (x2 : Int) (H : Sep w (Fo) rs) {r : ByteArray × Bool} (hm : m_cantonref01_Numbered s1 x2 = some r) :
    Calls Tryz.prog 66 [.string s1, .int .i64 x2].toArray w (Ret fun v w' => .tuple #[.string r.1, .bool r.2] = v ∧ Sep w' (Fo) (rs)) := by
 unfold m_cantonref01_Numbered at hm
 refine enter Tryz.func66 rfl Tryz.ntmps66 rfl fun a E => ?_
 simp only [enum, Nat.reduceAdd] at E
 refine wp_seq ?_
 refine wp_region_lit ?_
 refine sv E rfl rfl rfl (x_assign E rfl rfl) ?_
 clear a E;intro a E
 refine sv E rfl rfl rfl (x_assign E rfl rfl) ?_
 clear a E;intro a E
 refine wpList_nil ?_
 refine q_then ?_
 refine wp_seq ?_
 refine wp_seq_cut (fun a w => ∃ (b3 : Bool) (rs4 : List Rp), Env 39 a [(0, .string s1), (1, .int .i64 x2), (12, .bool b3)] ∧ Sep w (Fo) rs4 ∧ (∀ r, r ∈ rs → r ∈ rs4) ∧ m_cantonref01_Numbered_j1 s1 x2 b3 = some r) ?_ ?_
 ·refine wp_region_lit ?_
  refine sv E rfl rfl rfl (x_move E rfl rfl) ?_
  clear a E;intro a E
  refine sv E rfl rfl rfl (x_bin E rfl rfl rfl rfl) ?_
  clear a E;intro a E
  refine sv E rfl rfl rfl (x_move E rfl rfl) ?_
  clear a E;intro a E
  rcases Bool.eq_false_or_eq_true (decide (x2 < 0)) with hb11 | hb11
  ·rw [if_t hb11] at hm
   refine st_no E (wf' E rfl rfl rfl rfl hb11 rfl) rfl rfl ?_
   clear a E;intro a E
   refine st_no E (wf' E rfl rfl rfl rfl hb11 rfl) rfl rfl ?_
   clear a E;intro a E
   refine sv E rfl rfl rfl (x_pickT E rfl rfl hb11 rfl) ?_
   clear a E;intro a E
   refine wpList_nil ?_
   refine q_then ?_
   exact ⟨true, _, (((E.nil.keep E 12 rfl).keep E 1 rfl).keep E 0 rfl), H, fun r hr => hr, hm⟩
  ·rw [if_f hb11] at hm
   refine st_val E (ws' E rfl rfl rfl rfl hb11) rfl rfl (x_move E rfl rfl) ?_
   clear a E;intro a E
   refine st_val E (ws' E rfl rfl rfl rfl hb11) rfl rfl (x_bin E rfl rfl rfl rfl) ?_
   clear a E;intro a E
   refine sv E rfl rfl rfl (x_pickF E rfl rfl hb11 rfl) ?_
   clear a E;intro a E
   refine wpList_nil ?_
   refine q_then ?_
   exact ⟨decide (x2 > 9999), _, (((E.nil.keep E 12 rfl).keep E 1 rfl).keep E 0 rfl), H, fun r hr => hr, hm⟩
 ·clear E H hm
  rintro a w ⟨b3, rs4, E, H, hs5, hm⟩
  unfold m_cantonref01_Numbered_j1 at hm
  refine wp_if E rfl ?_ ?_
  ·intro hb
   rw [if_t hb] at hm
   clear hb
   refine wp_seq ?_
   refine wp_region_lit ?_
   refine sv E rfl rfl rfl (x_assign E rfl rfl) ?_
   clear a E;intro a E
   refine sv E rfl rfl rfl (x_assign E rfl rfl) ?_
   clear a E;intro a E
   refine wpList_nil ?_
   refine q_then ?_
   refine wp_ret ?_
   refine q_thenR ?_
   refine out2 E rfl rfl rfl ?_
   obtain rfl := Option.some.inj hm
   exact ⟨rfl, H.reads (fun r hr => hs5 r hr)⟩
  ·intro hb
   rw [if_f hb] at hm
   clear hb
   refine wp_skip ?_
   refine q_then ?_
   refine wp_seq ?_
   refine wp_region_lit ?_
   refine sv E rfl rfl rfl (x_move E rfl rfl) ?_
   clear a E;intro a E
   refine sv E rfl rfl rfl (x_move E rfl rfl) ?_
   clear a E;intro a E
   refine sv E rfl rfl rfl (x_quo E rfl rfl rfl (by decide)) ?_
   clear a E;intro a E
   refine sv E rfl rfl rfl (x_bin E rfl rfl rfl rfl) ?_
   clear a E;intro a E
   refine sv E rfl rfl rfl (x_conv E rfl rfl (v := .int .u8 (IntKind.u8.wrap (IntKind.i64.wrap (48 + (IntKind.i64.wrap (x2.tdiv 1000)))))) (by kernel_rfl)) ?_
   clear a E;intro a E
   refine sv E rfl rfl rfl (x_move E rfl rfl) ?_
   clear a E;intro a E
   refine sv E rfl rfl rfl (x_quo E rfl rfl rfl (by decide)) ?_
   clear a E;intro a E
   refine sv E rfl rfl rfl (x_rem E rfl rfl rfl (by decide)) ?_
   clear a E;intro a E
   refine sv E rfl rfl rfl (x_bin E rfl rfl rfl rfl) ?_
   clear a E;intro a E
   refine sv E rfl rfl rfl (x_conv E rfl rfl (v := .int .u8 (IntKind.u8.wrap (IntKind.i64.wrap (48 + ((IntKind.i64.wrap (x2.tdiv 100)).tmod 10))))) (by kernel_rfl)) ?_
   clear a E;intro a E
   refine sv E rfl rfl rfl (x_move E rfl rfl) ?_
   clear a E;intro a E
   refine sv E rfl rfl rfl (x_quo E rfl rfl rfl (by decide)) ?_
   clear a E;intro a E
   refine sv E rfl rfl rfl (x_rem E rfl rfl rfl (by decide)) ?_
   clear a E;intro a E
   refine sv E rfl rfl rfl (x_bin E rfl rfl rfl rfl) ?_
   clear a E;intro a E
   refine sv E rfl rfl rfl (x_conv E rfl rfl (v := .int .u8 (IntKind.u8.wrap (IntKind.i64.wrap (48 + ((IntKind.i64.wrap (x2.tdiv 10)).tmod 10))))) (by kernel_rfl)) ?_
   clear a E;intro a E
   refine sv E rfl rfl rfl (x_move E rfl rfl) ?_
   clear a E;intro a E
   refine sv E rfl rfl rfl (x_rem E rfl rfl rfl (by decide)) ?_
   clear a E;intro a E
   refine sv E rfl rfl rfl (x_bin E rfl rfl rfl rfl) ?_
   clear a E;intro a E
   refine sv E rfl rfl rfl (x_conv E rfl rfl (v := .int .u8 (IntKind.u8.wrap (IntKind.i64.wrap (48 + (x2.tmod 10))))) (by kernel_rfl)) ?_
   clear a E;intro a E
   refine st_bsO (e := 5) (d := (kI .u8)) (cs := [.int .u8 (IntKind.u8.wrap (IntKind.i64.wrap (48 + (IntKind.i64.wrap (x2.tdiv 1000))))), .int .u8 (IntKind.u8.wrap (IntKind.i64.wrap (48 + ((IntKind.i64.wrap (x2.tdiv 100)).tmod 10)))), .int .u8 (IntKind.u8.wrap (IntKind.i64.wrap (48 + ((IntKind.i64.wrap (x2.tdiv 10)).tmod 10)))), .int .u8 (IntKind.u8.wrap (IntKind.i64.wrap (48 + (x2.tmod 10))))]) (xs := [IntKind.u8.wrap (IntKind.i64.wrap (48 + (IntKind.i64.wrap (x2.tdiv 1000)))), IntKind.u8.wrap (IntKind.i64.wrap (48 + ((IntKind.i64.wrap (x2.tdiv 100)).tmod 10))), IntKind.u8.wrap (IntKind.i64.wrap (48 + ((IntKind.i64.wrap (x2.tdiv 10)).tmod 10))), IntKind.u8.wrap (IntKind.i64.wrap (48 + (x2.tmod 10)))]) E H (wn rfl) rfl rfl (ps := [(0, .tmp 17), (1, .tmp 22), (2, .tmp 27), (3, .tmp 31)]) (parts := [(0, .int .u8 (IntKind.u8.wrap (IntKind.i64.wrap (48 + (IntKind.i64.wrap (x2.tdiv 1000)))))), (1, .int .u8 (IntKind.u8.wrap (IntKind.i64.wrap (48 + ((IntKind.i64.wrap (x2.tdiv 100)).tmod 10))))), (2, .int .u8 (IntKind.u8.wrap (IntKind.i64.wrap (48 + ((IntKind.i64.wrap (x2.tdiv 10)).tmod 10))))), (3, .int .u8 (IntKind.u8.wrap (IntKind.i64.wrap (48 + (x2.tmod 10)))))]) rfl (by simp only [List.map]; rw [E.eval (x := .tmp 17) (v := .int .u8 (IntKind.u8.wrap (IntKind.i64.wrap (48 + (IntKind.i64.wrap (x2.tdiv 1000)))))) rfl, E.eval (x := .tmp 22) (v := .int .u8 (IntKind.u8.wrap (IntKind.i64.wrap (48 + ((IntKind.i64.wrap (x2.tdiv 100)).tmod 10))))) rfl, E.eval (x := .tmp 27) (v := .int .u8 (IntKind.u8.wrap (IntKind.i64.wrap (48 + ((IntKind.i64.wrap (x2.tdiv 10)).tmod 10))))) rfl, E.eval (x := .tmp 31) (v := .int .u8 (IntKind.u8.wrap (IntKind.i64.wrap (48 + (x2.tmod 10))))) rfl]) (by kernel_rfl) rfl rfl (fun ok hr => (Rows.append (Rows.append (Rows.append (Rows.single (d := (kI .u8)) (cs := [.int .u8 (IntKind.u8.wrap (IntKind.i64.wrap (48 + (IntKind.i64.wrap (x2.tdiv 1000)))))]) (x := IntKind.u8.wrap (IntKind.i64.wrap (48 + (IntKind.i64.wrap (x2.tdiv 1000))))) rfl) (Rows.single (d := (kI .u8)) (cs := [.int .u8 (IntKind.u8.wrap (IntKind.i64.wrap (48 + ((IntKind.i64.wrap (x2.tdiv 100)).tmod 10))))]) (x := IntKind.u8.wrap (IntKind.i64.wrap (48 + ((IntKind.i64.wrap (x2.tdiv 100)).tmod 10)))) rfl)) (Rows.single (d := (kI .u8)) (cs := [.int .u8 (IntKind.u8.wrap (IntKind.i64.wrap (48 + ((IntKind.i64.wrap (x2.tdiv 10)).tmod 10))))]) (x := IntKind.u8.wrap (IntKind.i64.wrap (48 + ((IntKind.i64.wrap (x2.tdiv 10)).tmod 10)))) rfl)) (Rows.single (d := (kI .u8)) (cs := [.int .u8 (IntKind.u8.wrap (IntKind.i64.wrap (48 + (x2.tmod 10))))]) (x := IntKind.u8.wrap (IntKind.i64.wrap (48 + (x2.tmod 10)))) rfl))) ?_
   clear E H; clear a; clear w; intro v6 w a H E
   replace H := H.thaw (i := 0) rfl
   refine sv E rfl rfl rfl (x_b2s E H rfl rfl (.head _) Tryz.underlying85 Tryz.underlying5 Tryz.underlying9) ?_
   clear a E;intro a E
   obtain ⟨u8, hx7, hm⟩ := bnd hm
   refine sv E rfl rfl rfl (x_cat E rfl rfl rfl (ck_of hx7)) ?_
   clear a E;intro a E
   refine sv E rfl rfl rfl (x_assign E rfl rfl) ?_
   clear a E;intro a E
   refine wpList_nil ?_
   refine q_then ?_
   refine wp_seq ?_
   refine wp_seq ?_
   refine wp_region_lit ?_
   refine sv E rfl rfl rfl (x_move E rfl rfl) ?_
   clear a E;intro a E
   obtain ⟨u9, hx10, hm⟩ := bnd hm
   refine st_call E (wn rfl) rfl rfl (x_call E rfl rfl (cf68 _)) (c_cantonref01_Part (s1 ++ (strOf ([IntKind.u8.wrap (IntKind.i64.wrap (48 + (IntKind.i64.wrap (x2.tdiv 1000)))), IntKind.u8.wrap (IntKind.i64.wrap (48 + ((IntKind.i64.wrap (x2.tdiv 100)).tmod 10))), IntKind.u8.wrap (IntKind.i64.wrap (48 + ((IntKind.i64.wrap (x2.tdiv 10)).tmod 10))), IntKind.u8.wrap (IntKind.i64.wrap (48 + (x2.tmod 10)))] : List Int))) H hx10) ?_
   clear E H; clear a; clear w; rintro _ w ⟨rfl, H⟩ a E
   refine sv E rfl rfl rfl (x_not E rfl rfl) ?_
   clear a E;intro a E
   refine wpList_nil ?_
   refine q_then ?_
   refine wp_if E rfl ?_ ?_
   ·intro hb
    rw [if_t hb] at hm
    clear hb
    refine wp_seq ?_
    refine wp_region_lit ?_
    refine sv E rfl rfl rfl (x_assign E rfl rfl) ?_
    clear a E;intro a E
    refine sv E rfl rfl rfl (x_assign E rfl rfl) ?_
    clear a E;intro a E
    refine wpList_nil ?_
    refine q_then ?_
    refine wp_ret ?_
    refine q_thenR ?_
    refine out2 E rfl rfl rfl ?_
    obtain rfl := Option.some.inj hm
    exact ⟨rfl, H.reads (fun r hr => .tail _ (hs5 r hr))⟩
   ·intro hb
    rw [if_f hb] at hm
    clear hb
    refine wp_skip ?_
    refine q_then ?_
    refine wp_seq ?_
    refine wp_region_lit ?_
    refine sv E rfl rfl rfl (x_move E rfl rfl) ?_
    clear a E;intro a E
    refine sv E rfl rfl rfl (x_assign E rfl rfl) ?_
    clear a E;intro a E
    refine sv E rfl rfl rfl (x_assign E rfl rfl) ?_
    clear a E;intro a E
    refine wpList_nil ?_
    refine q_then ?_
    refine wp_ret ?_
    refine out2 E rfl rfl rfl ?_
    obtain rfl := Option.some.inj hm
    exact ⟨rfl, H.reads (fun r hr => .tail _ (hs5 r hr))⟩
end Go.Cb

set_option linter.unusedVariables false
set_option linter.unusedSimpArgs false
namespace Go.Cb
open Go.Proofs Go.RowKit
def m_cantonref06_Named (x1 : S_api_Op) (x2 : Int) : Option (ByteArray × Bool) :=
  if (!x1.Turns) = true then (some (x1.Path, true)) else ((m_cantonref01_Parent x1.Path).bind fun u4 => (m_cantonref01_Last x1.Path).bind fun u6 => (m_cantonref01_Numbered u6 x2).bind fun u8 => if (!u8.2) = true then (some ((ByteArray.mk #[]), false)) else ((m_cantonref01_Join u4.1 u8.1).bind fun u10 => some (u10.1, u10.2)))
set_option maxRecDepth 20000 in
set_option maxHeartbeats 1000000 in
theorem c_cantonref06_Named {w : World} {Fo : List Ob} {rs : List Rp} (x1 : S_api_Op) (x2 : Int) (H : Sep w (Fo) rs) {r : ByteArray × Bool} (hm : m_cantonref06_Named x1 x2 = some r) :
    Calls Tryz.prog 55 [.agg #[.int .i64 x1.Kind, .string x1.Path, .string x1.Data, .int .i64 x1.Version, .int .i64 x1.Owner, .bool x1.Turns], .int .i64 x2].toArray w (Ret fun v w' => .tuple #[.string r.1, .bool r.2] = v ∧ Sep w' (Fo) (rs)) := by
 unfold m_cantonref06_Named at hm
 refine enter Tryz.func55 rfl Tryz.ntmps55 rfl fun a E => ?_
 simp only [enum, Nat.reduceAdd] at E
 refine wp_seq ?_
 refine wp_region_lit ?_
 refine st_box E H (wn rfl) rfl rfl (cs := [.int .i64 x1.Kind, .string x1.Path, .string x1.Data, .int .i64 x1.Version, .int .i64 x1.Owner, .bool x1.Turns]) rfl rfl rfl ?_
 clear E H; clear a; clear w; intro p3 w a H E
 refine sv E rfl rfl rfl (x_assign E rfl rfl) ?_
 clear a E;intro a E
 refine sv E rfl rfl rfl (x_assign E rfl rfl) ?_
 clear a E;intro a E
 refine wpList_nil ?_
 refine q_then ?_
 refine wp_seq ?_
 refine wp_seq ?_
 refine wp_region_lit ?_
 refine sv E rfl rfl rfl (x_fa E rfl rfl (v := .pointer (some ⟨p3, 5, none⟩)) (fa24_5 _ _)) ?_
 clear a E;intro a E
 refine sv E rfl rfl rfl (x_ldB (i := 0) E H rfl rfl rfl rfl Tryz.underlying4 rfl) ?_
 clear a E;intro a E
 refine sv E rfl rfl rfl (x_not E rfl rfl) ?_
 clear a E;intro a E
 refine wpList_nil ?_
 refine q_then ?_
 refine wp_if E rfl ?_ ?_
 ·intro hb
  rw [if_t hb] at hm
  clear hb
  refine wp_seq ?_
  refine wp_region_lit ?_
  refine sv E rfl rfl rfl (x_fa E rfl rfl (v := .pointer (some ⟨p3, 1, none⟩)) (fa24_1 _ _)) ?_
  clear a E;intro a E
  refine sv E rfl rfl rfl (x_ldB (i := 0) E H rfl rfl rfl rfl Tryz.underlying9 rfl) ?_
  clear a E;intro a E
  refine sv E rfl rfl rfl (x_assign E rfl rfl) ?_
  clear a E;intro a E
  refine sv E rfl rfl rfl (x_assign E rfl rfl) ?_
  clear a E;intro a E
  refine wpList_nil ?_
  refine q_then ?_
  refine wp_ret ?_
  refine q_thenR ?_
  refine out2 E rfl rfl rfl ?_
  replace H := H.drop 0
  obtain rfl := Option.some.inj hm
  exact ⟨rfl, H.reads (fun r hr => hr)⟩
 ·intro hb
  rw [if_f hb] at hm
  clear hb
  refine wp_skip ?_
  refine q_then ?_
  refine wp_seq ?_
  refine wp_region_lit ?_
  refine sv E rfl rfl rfl (x_fa E rfl rfl (v := .pointer (some ⟨p3, 1, none⟩)) (fa24_1 _ _)) ?_
  clear a E;intro a E
  refine sv E rfl rfl rfl (x_ldB (i := 0) E H rfl rfl rfl rfl Tryz.underlying9 rfl) ?_
  clear a E;intro a E
  obtain ⟨u4, hx5, hm⟩ := bnd hm
  refine st_call E (wn rfl) rfl rfl (x_call E rfl rfl (cf36 _)) (c_cantonref01_Parent x1.Path H hx5) ?_
  clear E H; clear a; clear w; rintro _ w ⟨rfl, H⟩ a E
  refine sv E rfl rfl rfl (x_move E rfl rfl) ?_
  clear a E;intro a E
  refine sv E rfl rfl rfl (x_ext E rfl rfl rfl) ?_
  clear a E;intro a E
  refine sv E rfl rfl rfl (x_ext E rfl rfl rfl) ?_
  clear a E;intro a E
  refine sv E rfl rfl rfl (x_assign E rfl rfl) ?_
  clear a E;intro a E
  refine sv E rfl rfl rfl (x_assign E rfl rfl) ?_
  clear a E;intro a E
  refine wpList_nil ?_
  refine q_then ?_
  refine wp_seq ?_
  refine wp_region_lit ?_
  refine sv E rfl rfl rfl (x_fa E rfl rfl (v := .pointer (some ⟨p3, 1, none⟩)) (fa24_1 _ _)) ?_
  clear a E;intro a E
  refine sv E rfl rfl rfl (x_ldB (i := 0) E H rfl rfl rfl rfl Tryz.underlying9 rfl) ?_
  clear a E;intro a E
  obtain ⟨u6, hx7, hm⟩ := bnd hm
  refine st_call E (wn rfl) rfl rfl (x_call E rfl rfl (cf31 _)) (c_cantonref01_Last x1.Path H hx7) ?_
  clear E H; clear a; clear w; rintro _ w ⟨rfl, H⟩ a E
  refine sv E rfl rfl rfl (x_move E rfl rfl) ?_
  clear a E;intro a E
  obtain ⟨u8, hx9, hm⟩ := bnd hm
  refine st_call E (wn rfl) rfl rfl (x_call E rfl rfl (cf66 _)) (c_cantonref01_Numbered u6 x2 H hx9) ?_
  clear E H; clear a; clear w; rintro _ w ⟨rfl, H⟩ a E
  refine sv E rfl rfl rfl (x_move E rfl rfl) ?_
  clear a E;intro a E
  refine sv E rfl rfl rfl (x_ext E rfl rfl rfl) ?_
  clear a E;intro a E
  refine sv E rfl rfl rfl (x_ext E rfl rfl rfl) ?_
  clear a E;intro a E
  refine sv E rfl rfl rfl (x_assign E rfl rfl) ?_
  clear a E;intro a E
  refine sv E rfl rfl rfl (x_assign E rfl rfl) ?_
  clear a E;intro a E
  refine wpList_nil ?_
  refine q_then ?_
  refine wp_seq ?_
  refine wp_seq ?_
  refine wp_region_lit ?_
  refine sv E rfl rfl rfl (x_move E rfl rfl) ?_
  clear a E;intro a E
  refine sv E rfl rfl rfl (x_not E rfl rfl) ?_
  clear a E;intro a E
  refine wpList_nil ?_
  refine q_then ?_
  refine wp_if E rfl ?_ ?_
  ·intro hb
   rw [if_t hb] at hm
   clear hb
   refine wp_seq ?_
   refine wp_region_lit ?_
   refine sv E rfl rfl rfl (x_assign E rfl rfl) ?_
   clear a E;intro a E
   refine sv E rfl rfl rfl (x_assign E rfl rfl) ?_
   clear a E;intro a E
   refine wpList_nil ?_
   refine q_then ?_
   refine wp_ret ?_
   refine q_thenR ?_
   refine out2 E rfl rfl rfl ?_
   replace H := H.drop 0
   obtain rfl := Option.some.inj hm
   exact ⟨rfl, H.reads (fun r hr => hr)⟩
  ·intro hb
   rw [if_f hb] at hm
   clear hb
   refine wp_skip ?_
   refine q_then ?_
   refine wp_seq ?_
   refine wp_region_lit ?_
   refine sv E rfl rfl rfl (x_move E rfl rfl) ?_
   clear a E;intro a E
   refine sv E rfl rfl rfl (x_move E rfl rfl) ?_
   clear a E;intro a E
   obtain ⟨u10, hx11, hm⟩ := bnd hm
   refine st_call E (wn rfl) rfl rfl (x_call E rfl rfl (cf67 _)) (c_cantonref01_Join u4.1 u8.1 H hx11) ?_
   clear E H; clear a; clear w; rintro _ w ⟨rfl, H⟩ a E
   refine sv E rfl rfl rfl (x_ext E rfl rfl rfl) ?_
   clear a E;intro a E
   refine sv E rfl rfl rfl (x_ext E rfl rfl rfl) ?_
   clear a E;intro a E
   refine sv E rfl rfl rfl (x_assign E rfl rfl) ?_
   clear a E;intro a E
   refine sv E rfl rfl rfl (x_assign E rfl rfl) ?_
   clear a E;intro a E
   refine wpList_nil ?_
   refine q_then ?_
   refine wp_ret ?_
   refine out2 E rfl rfl rfl ?_
   replace H := H.drop 0
   obtain rfl := Option.some.inj hm
   exact ⟨rfl, H.reads (fun r hr => hr)⟩
end Go.Cb

set_option linter.unusedVariables false
set_option linter.unusedSimpArgs false
namespace Go.Cb
open Go.Proofs Go.RowKit
def m_cantonref06_create_j1 (u12 : ByteArray × Bool) (x3 : S_api_Op) (l18 : (List S_api_Node)) : Option ((List S_api_Node) × S_api_Result) :=
  (m_cantonref06_Put l18 (⟨u12.1, x3.Data, 0, 0, x3.Owner⟩ : S_api_Node)).bind fun u22 => some (u22, (⟨0, u12.1, (ByteArray.mk #[]), 0, []⟩ : S_api_Result))
def m_cantonref06_create (l2 : List S_api_Node) (x3 : S_api_Op) : Option ((List S_api_Node) × S_api_Result) :=
  (m_cantonref01_Parent x3.Path).bind fun u7 => (m_cantonref06_Find l2 u7.1).bind fun u9 => if (!u9.2) = true then (some (l2, (⟨62, (ByteArray.mk #[]), (ByteArray.mk #[]), 0, []⟩ : S_api_Result))) else (if (u9.1.Owner != 0) = true then (some (l2, (⟨65, (ByteArray.mk #[]), (ByteArray.mk #[]), 0, []⟩ : S_api_Result))) else ((m_cantonref06_Named (⟨x3.Kind, x3.Path, x3.Data, x3.Version, x3.Owner, x3.Turns⟩ : S_api_Op) u9.1.Turn).bind fun u12 => if (!u12.2) = true then (some (l2, (⟨66, (ByteArray.mk #[]), (ByteArray.mk #[]), 0, []⟩ : S_api_Result))) else ((m_cantonref06_Find l2 u12.1).bind fun u14 => if u14.2 = true then (some (l2, (⟨61, (ByteArray.mk #[]), (ByteArray.mk #[]), 0, []⟩ : S_api_Result))) else (if (decide ((l2.length : Int) ≥ 512)) = true then (some (l2, (⟨2, (ByteArray.mk #[]), (ByteArray.mk #[]), 0, []⟩ : S_api_Result))) else (if x3.Turns = true then ((m_cantonref06_Put l2 (⟨u9.1.Path, u9.1.Data, u9.1.Version, IntKind.i64.wrap (u9.1.Turn + 1), u9.1.Owner⟩ : S_api_Node)).bind fun u25 => m_cantonref06_create_j1 u12 x3 u25) else (m_cantonref06_create_j1 u12 x3 l2))))))
set_option maxRecDepth 20000 in
set_option maxHeartbeats 1000000 in
theorem c_cantonref06_create {w : World} {Fo : List Ob} {rs : List Rp} (v1 : Value) (l2 : List S_api_Node) (x3 : S_api_Op) (H : Sep w (Fo) rs) (hr4 : rSl k_api_Node v1 l2 ∈ rs) {r : (List S_api_Node) × S_api_Result} (hm : m_cantonref06_create l2 x3 = some r) :
    Calls Tryz.prog 27 [v1, .agg #[.int .i64 x3.Kind, .string x3.Path, .string x3.Data, .int .i64 x3.Version, .int .i64 x3.Owner, .bool x3.Turns]].toArray w (Ret fun v w' => ∃ (v5001 : Value) (v5004 : Value), .tuple #[v5001, .agg #[.int .i64 r.2.Err, .string r.2.Path, .string r.2.Data, .int .i64 r.2.Version, v5004]] = v ∧ Sep w' (Fo) (rSl k_api_Node v5001 r.1 :: rSl kS v5004 r.2.Names :: rs)) := by
 unfold m_cantonref06_create at hm
 refine enter Tryz.func27 rfl Tryz.ntmps27 rfl fun a E => ?_
 simp only [enum, Nat.reduceAdd] at E
 refine wp_seq ?_
 refine wp_region_lit ?_
 refine st_box E H (wn rfl) rfl rfl (cs := [.int .i64 x3.Kind, .string x3.Path, .string x3.Data, .int .i64 x3.Version, .int .i64 x3.Owner, .bool x3.Turns]) rfl rfl rfl ?_
 clear E H; clear a; clear w; intro p5 w a H E
 refine sv E rfl rfl rfl (x_assign E rfl rfl) ?_
 clear a E;intro a E
 refine st_alloc E H (wn rfl) rfl rfl (cs := [.int .i64 0, .string (ByteArray.mk #[]), .string (ByteArray.mk #[]), .int .i64 0, .slice none 0 0]) rfl (z := .agg #[.int .i64 0, .string ⟨#[]⟩, .string ⟨#[]⟩, .int .i64 0, .slice none 0 0]) (by kernel_rfl) rfl ?_
 clear E H; clear a; clear w; intro p6 w a H E
 refine wpList_nil ?_
 refine q_then ?_
 refine wp_seq ?_
 refine wp_region_lit ?_
 refine sv E rfl rfl rfl (x_fa E rfl rfl (v := .pointer (some ⟨p5, 1, none⟩)) (fa24_1 _ _)) ?_
 clear a E;intro a E
 refine sv E rfl rfl rfl (x_ldB (i := 1) E H rfl rfl rfl rfl Tryz.underlying9 rfl) ?_
 clear a E;intro a E
 obtain ⟨u7, hx8, hm⟩ := bnd hm
 refine st_call E (wn rfl) rfl rfl (x_call E rfl rfl (cf36 _)) (c_cantonref01_Parent x3.Path H hx8) ?_
 clear E H; clear a; clear w; rintro _ w ⟨rfl, H⟩ a E
 refine sv E rfl rfl rfl (x_move E rfl rfl) ?_
 clear a E;intro a E
 refine sv E rfl rfl rfl (x_ext E rfl rfl rfl) ?_
 clear a E;intro a E
 refine sv E rfl rfl rfl (x_ext E rfl rfl rfl) ?_
 clear a E;intro a E
 refine sv E rfl rfl rfl (x_assign E rfl rfl) ?_
 clear a E;intro a E
 refine sv E rfl rfl rfl (x_assign E rfl rfl) ?_
 clear a E;intro a E
 refine wpList_nil ?_
 refine q_then ?_
 refine wp_seq ?_
 refine wp_region_lit ?_
 refine sv E rfl rfl rfl (x_move E rfl rfl) ?_
 clear a E;intro a E
 refine sv E rfl rfl rfl (x_move E rfl rfl) ?_
 clear a E;intro a E
 obtain ⟨u9, hx10, hm⟩ := bnd hm
 refine st_call E (wn rfl) rfl rfl (x_call E rfl rfl (cf10 _)) (c_cantonref06_Find v1 l2 u7.1 H hr4 hx10) ?_
 clear E H; clear a; clear w; rintro _ w ⟨rfl, H⟩ a E
 refine sv E rfl rfl rfl (x_move E rfl rfl) ?_
 clear a E;intro a E
 refine sv E rfl rfl rfl (x_ext E rfl rfl rfl) ?_
 clear a E;intro a E
 refine sv E rfl rfl rfl (x_ext E rfl rfl rfl) ?_
 clear a E;intro a E
 refine st_alloc E H (wn rfl) rfl rfl (cs := [.string (ByteArray.mk #[]), .string (ByteArray.mk #[]), .int .i64 0, .int .i64 0, .int .i64 0]) rfl (z := .agg #[.string ⟨#[]⟩, .string ⟨#[]⟩, .int .i64 0, .int .i64 0, .int .i64 0]) (by kernel_rfl) rfl ?_
 clear E H; clear a; clear w; intro p11 w a H E
 refine st_st (i := 0) E H (wn rfl) rfl (us := [.string u9.1.Path, .string u9.1.Data, .int .i64 u9.1.Version, .int .i64 u9.1.Turn, .int .i64 u9.1.Owner]) rfl rfl rfl rfl rfl sz35 rfl rfl ?_
 clear H; clear w; intro w H
 replace H : Sep w (Blk p11 35 [.string u9.1.Path, .string u9.1.Data, .int .i64 u9.1.Version, .int .i64 u9.1.Turn, .int .i64 u9.1.Owner] :: Blk p6 31 [.int .i64 0, .string (ByteArray.mk #[]), .string (ByteArray.mk #[]), .int .i64 0, .slice none 0 0] :: Blk p5 24 [.int .i64 x3.Kind, .string x3.Path, .string x3.Data, .int .i64 x3.Version, .int .i64 x3.Owner, .bool x3.Turns] :: Fo) _ := H
 refine sv E rfl rfl rfl (x_assign E rfl rfl) ?_
 clear a E;intro a E
 refine wpList_nil ?_
 refine q_then ?_
 refine wp_seq ?_
 refine wp_seq ?_
 refine wp_region_lit ?_
 refine sv E rfl rfl rfl (x_move E rfl rfl) ?_
 clear a E;intro a E
 refine sv E rfl rfl rfl (x_not E rfl rfl) ?_
 clear a E;intro a E
 refine wpList_nil ?_
 refine q_then ?_
 refine wp_if E rfl ?_ ?_
 ·intro hb
  rw [if_t hb] at hm
  clear hb
  refine wp_seq ?_
  refine wp_region_lit ?_
  refine sv E rfl rfl rfl (x_move E rfl rfl) ?_
  clear a E;intro a E
  refine sv E rfl rfl rfl (x_build E (ps := [(0, .const (.int .i64 62))]) (vs := [(0, .int .i64 62)]) rfl (by simp only [List.map]; rw [E.eval (x := .const (.int .i64 62)) (v := .int .i64 62) rfl]) (v := .agg #[.int .i64 62, .string (ByteArray.mk #[]), .string (ByteArray.mk #[]), .int .i64 0, .slice none 0 0]) (by kernel_rfl)) ?_
  clear a E;intro a E
  refine sv E rfl rfl rfl (x_assign E rfl rfl) ?_
  clear a E;intro a E
  refine st_st (i := 1) E H (wn rfl) rfl (us := [.int .i64 62, .string (ByteArray.mk #[]), .string (ByteArray.mk #[]), .int .i64 0, .slice none 0 0]) rfl rfl rfl rfl rfl sz31 rfl rfl ?_
  clear H; clear w; intro w H
  replace H : Sep w (Blk p11 35 [.string u9.1.Path, .string u9.1.Data, .int .i64 u9.1.Version, .int .i64 u9.1.Turn, .int .i64 u9.1.Owner] :: Blk p6 31 [.int .i64 62, .string (ByteArray.mk #[]), .string (ByteArray.mk #[]), .int .i64 0, .slice none 0 0] :: Blk p5 24 [.int .i64 x3.Kind, .string x3.Path, .string x3.Data, .int .i64 x3.Version, .int .i64 x3.Owner, .bool x3.Turns] :: Fo) _ := H
  refine wpList_nil ?_
  refine q_then ?_
  refine wp_ret ?_
  refine q_thenR ?_
  refine outR2 E rfl (rvT rfl) (rvBN (i := 1) (us := [.int .i64 62, .string (ByteArray.mk #[]), .string (ByteArray.mk #[]), .int .i64 0, .slice none 0 0]) H rfl rfl rfl Tryz.underlying31 rfl sz31) ?_
  replace H := H.nilSl kS
  replace H := H.drop 0
  replace H := H.drop 0
  replace H := H.drop 0
  obtain rfl := Option.some.inj hm
  exact ⟨v1, (.slice none 0 0), rfl, H.reads (sub_cons (.tail _ hr4) (sub_cons (.head _) (fun r hr => .tail _ (hr))))⟩
 ·intro hb
  rw [if_f hb] at hm
  clear hb
  refine wp_skip ?_
  refine q_then ?_
  refine wp_seq ?_
  refine wp_seq ?_
  refine wp_region_lit ?_
  refine sv E rfl rfl rfl (x_fa E rfl rfl (v := .pointer (some ⟨p11, 4, none⟩)) (fa35_4 _ _)) ?_
  clear a E;intro a E
  refine sv E rfl rfl rfl (x_ldB (i := 0) E H rfl rfl rfl rfl Tryz.underlying2 rfl) ?_
  clear a E;intro a E
  refine sv E rfl rfl rfl (x_bin E rfl rfl rfl rfl) ?_
  clear a E;intro a E
  refine wpList_nil ?_
  refine q_then ?_
  refine wp_if E rfl ?_ ?_
  ·intro hb
   rw [if_t hb] at hm
   clear hb
   refine wp_seq ?_
   refine wp_region_lit ?_
   refine sv E rfl rfl rfl (x_move E rfl rfl) ?_
   clear a E;intro a E
   refine sv E rfl rfl rfl (x_build E (ps := [(0, .const (.int .i64 65))]) (vs := [(0, .int .i64 65)]) rfl (by simp only [List.map]; rw [E.eval (x := .const (.int .i64 65)) (v := .int .i64 65) rfl]) (v := .agg #[.int .i64 65, .string (ByteArray.mk #[]), .string (ByteArray.mk #[]), .int .i64 0, .slice none 0 0]) (by kernel_rfl)) ?_
   clear a E;intro a E
   refine sv E rfl rfl rfl (x_assign E rfl rfl) ?_
   clear a E;intro a E
   refine st_st (i := 1) E H (wn rfl) rfl (us := [.int .i64 65, .string (ByteArray.mk #[]), .string (ByteArray.mk #[]), .int .i64 0, .slice none 0 0]) rfl rfl rfl rfl rfl sz31 rfl rfl ?_
   clear H; clear w; intro w H
   replace H : Sep w (Blk p11 35 [.string u9.1.Path, .string u9.1.Data, .int .i64 u9.1.Version, .int .i64 u9.1.Turn, .int .i64 u9.1.Owner] :: Blk p6 31 [.int .i64 65, .string (ByteArray.mk #[]), .string (ByteArray.mk #[]), .int .i64 0, .slice none 0 0] :: Blk p5 24 [.int .i64 x3.Kind, .string x3.Path, .string x3.Data, .int .i64 x3.Version, .int .i64 x3.Owner, .bool x3.Turns] :: Fo) _ := H
   refine wpList_nil ?_
   refine q_then ?_
   refine wp_ret ?_
   refine q_thenR ?_
   refine outR2 E rfl (rvT rfl) (rvBN (i := 1) (us := [.int .i64 65, .string (ByteArray.mk #[]), .string (ByteArray.mk #[]), .int .i64 0, .slice none 0 0]) H rfl rfl rfl Tryz.underlying31 rfl sz31) ?_
   replace H := H.nilSl kS
   replace H := H.drop 0
   replace H := H.drop 0
   replace H := H.drop 0
   obtain rfl := Option.some.inj hm
   exact ⟨v1, (.slice none 0 0), rfl, H.reads (sub_cons (.tail _ hr4) (sub_cons (.head _) (fun r hr => .tail _ (hr))))⟩
  ·intro hb
   rw [if_f hb] at hm
   clear hb
   refine wp_skip ?_
   refine q_then ?_
   refine wp_seq ?_
   refine wp_region_lit ?_
   refine sv E rfl rfl rfl (x_ldBN (i := 2) (us := [.int .i64 x3.Kind, .string x3.Path, .string x3.Data, .int .i64 x3.Version, .int .i64 x3.Owner, .bool x3.Turns]) E H rfl rfl rfl rfl Tryz.underlying24 rfl sz24) ?_
   clear a E;intro a E
   refine sv E rfl rfl rfl (x_fa E rfl rfl (v := .pointer (some ⟨p11, 3, none⟩)) (fa35_3 _ _)) ?_
   clear a E;intro a E
   refine sv E rfl rfl rfl (x_ldB (i := 0) E H rfl rfl rfl rfl Tryz.underlying2 rfl) ?_
   clear a E;intro a E
   obtain ⟨u12, hx13, hm⟩ := bnd hm
   refine st_call E (wn rfl) rfl rfl (x_call E rfl rfl (cf55 _)) (c_cantonref06_Named (⟨x3.Kind, x3.Path, x3.Data, x3.Version, x3.Owner, x3.Turns⟩ : S_api_Op) u9.1.Turn H hx13) ?_
   clear E H; clear a; clear w; rintro _ w ⟨rfl, H⟩ a E
   refine sv E rfl rfl rfl (x_move E rfl rfl) ?_
   clear a E;intro a E
   refine sv E rfl rfl rfl (x_ext E rfl rfl rfl) ?_
   clear a E;intro a E
   refine sv E rfl rfl rfl (x_ext E rfl rfl rfl) ?_
   clear a E;intro a E
   refine sv E rfl rfl rfl (x_assign E rfl rfl) ?_
   clear a E;intro a E
   refine sv E rfl rfl rfl (x_assign E rfl rfl) ?_
   clear a E;intro a E
   refine wpList_nil ?_
   refine q_then ?_
   refine wp_seq ?_
   refine wp_seq ?_
   refine wp_region_lit ?_
   refine sv E rfl rfl rfl (x_move E rfl rfl) ?_
   clear a E;intro a E
   refine sv E rfl rfl rfl (x_not E rfl rfl) ?_
   clear a E;intro a E
   refine wpList_nil ?_
   refine q_then ?_
   refine wp_if E rfl ?_ ?_
   ·intro hb
    rw [if_t hb] at hm
    clear hb
    refine wp_seq ?_
    refine wp_region_lit ?_
    refine sv E rfl rfl rfl (x_move E rfl rfl) ?_
    clear a E;intro a E
    refine sv E rfl rfl rfl (x_build E (ps := [(0, .const (.int .i64 66))]) (vs := [(0, .int .i64 66)]) rfl (by simp only [List.map]; rw [E.eval (x := .const (.int .i64 66)) (v := .int .i64 66) rfl]) (v := .agg #[.int .i64 66, .string (ByteArray.mk #[]), .string (ByteArray.mk #[]), .int .i64 0, .slice none 0 0]) (by kernel_rfl)) ?_
    clear a E;intro a E
    refine sv E rfl rfl rfl (x_assign E rfl rfl) ?_
    clear a E;intro a E
    refine st_st (i := 1) E H (wn rfl) rfl (us := [.int .i64 66, .string (ByteArray.mk #[]), .string (ByteArray.mk #[]), .int .i64 0, .slice none 0 0]) rfl rfl rfl rfl rfl sz31 rfl rfl ?_
    clear H; clear w; intro w H
    replace H : Sep w (Blk p11 35 [.string u9.1.Path, .string u9.1.Data, .int .i64 u9.1.Version, .int .i64 u9.1.Turn, .int .i64 u9.1.Owner] :: Blk p6 31 [.int .i64 66, .string (ByteArray.mk #[]), .string (ByteArray.mk #[]), .int .i64 0, .slice none 0 0] :: Blk p5 24 [.int .i64 x3.Kind, .string x3.Path, .string x3.Data, .int .i64 x3.Version, .int .i64 x3.Owner, .bool x3.Turns] :: Fo) _ := H
    refine wpList_nil ?_
    refine q_then ?_
    refine wp_ret ?_
    refine q_thenR ?_
    refine outR2 E rfl (rvT rfl) (rvBN (i := 1) (us := [.int .i64 66, .string (ByteArray.mk #[]), .string (ByteArray.mk #[]), .int .i64 0, .slice none 0 0]) H rfl rfl rfl Tryz.underlying31 rfl sz31) ?_
    replace H := H.nilSl kS
    replace H := H.drop 0
    replace H := H.drop 0
    replace H := H.drop 0
    obtain rfl := Option.some.inj hm
    exact ⟨v1, (.slice none 0 0), rfl, H.reads (sub_cons (.tail _ hr4) (sub_cons (.head _) (fun r hr => .tail _ (hr))))⟩
   ·intro hb
    rw [if_f hb] at hm
    clear hb
    refine wp_skip ?_
    refine q_then ?_
    refine wp_seq ?_
    refine wp_region_lit ?_
    refine sv E rfl rfl rfl (x_move E rfl rfl) ?_
    clear a E;intro a E
    refine sv E rfl rfl rfl (x_move E rfl rfl) ?_
    clear a E;intro a E
    obtain ⟨u14, hx15, hm⟩ := bnd hm
    refine st_call E (wn rfl) rfl rfl (x_call E rfl rfl (cf10 _)) (c_cantonref06_Find v1 l2 u12.1 H hr4 hx15) ?_
    clear E H; clear a; clear w; rintro _ w ⟨rfl, H⟩ a E
    refine sv E rfl rfl rfl (x_move E rfl rfl) ?_
    clear a E;intro a E
    refine sv E rfl rfl rfl (x_ext E rfl rfl rfl) ?_
    clear a E;intro a E
    refine sv E rfl rfl rfl (x_ext E rfl rfl rfl) ?_
    clear a E;intro a E
    refine st_alloc E H (wn rfl) rfl rfl (cs := [.string (ByteArray.mk #[]), .string (ByteArray.mk #[]), .int .i64 0, .int .i64 0, .int .i64 0]) rfl (z := .agg #[.string ⟨#[]⟩, .string ⟨#[]⟩, .int .i64 0, .int .i64 0, .int .i64 0]) (by kernel_rfl) rfl ?_
    clear E H; clear a; clear w; intro p16 w a H E
    refine st_st (i := 0) E H (wn rfl) rfl (us := [.string u14.1.Path, .string u14.1.Data, .int .i64 u14.1.Version, .int .i64 u14.1.Turn, .int .i64 u14.1.Owner]) rfl rfl rfl rfl rfl sz35 rfl rfl ?_
    clear H; clear w; intro w H
    replace H : Sep w (Blk p16 35 [.string u14.1.Path, .string u14.1.Data, .int .i64 u14.1.Version, .int .i64 u14.1.Turn, .int .i64 u14.1.Owner] :: Blk p11 35 [.string u9.1.Path, .string u9.1.Data, .int .i64 u9.1.Version, .int .i64 u9.1.Turn, .int .i64 u9.1.Owner] :: Blk p6 31 [.int .i64 0, .string (ByteArray.mk #[]), .string (ByteArray.mk #[]), .int .i64 0, .slice none 0 0] :: Blk p5 24 [.int .i64 x3.Kind, .string x3.Path, .string x3.Data, .int .i64 x3.Version, .int .i64 x3.Owner, .bool x3.Turns] :: Fo) _ := H
    refine sv E rfl rfl rfl (x_assign E rfl rfl) ?_
    clear a E;intro a E
    refine wpList_nil ?_
    refine q_then ?_
    refine wp_seq ?_
    refine wp_seq ?_
    refine wp_region_lit ?_
    refine sv E rfl rfl rfl (x_move E rfl rfl) ?_
    clear a E;intro a E
    refine wpList_nil ?_
    refine q_then ?_
    refine wp_if E rfl ?_ ?_
    ·intro hb
     rw [if_t hb] at hm
     clear hb
     refine wp_seq ?_
     refine wp_region_lit ?_
     refine sv E rfl rfl rfl (x_move E rfl rfl) ?_
     clear a E;intro a E
     refine sv E rfl rfl rfl (x_build E (ps := [(0, .const (.int .i64 61))]) (vs := [(0, .int .i64 61)]) rfl (by simp only [List.map]; rw [E.eval (x := .const (.int .i64 61)) (v := .int .i64 61) rfl]) (v := .agg #[.int .i64 61, .string (ByteArray.mk #[]), .string (ByteArray.mk #[]), .int .i64 0, .slice none 0 0]) (by kernel_rfl)) ?_
     clear a E;intro a E
     refine sv E rfl rfl rfl (x_assign E rfl rfl) ?_
     clear a E;intro a E
     refine st_st (i := 2) E H (wn rfl) rfl (us := [.int .i64 61, .string (ByteArray.mk #[]), .string (ByteArray.mk #[]), .int .i64 0, .slice none 0 0]) rfl rfl rfl rfl rfl sz31 rfl rfl ?_
     clear H; clear w; intro w H
     replace H : Sep w (Blk p16 35 [.string u14.1.Path, .string u14.1.Data, .int .i64 u14.1.Version, .int .i64 u14.1.Turn, .int .i64 u14.1.Owner] :: Blk p11 35 [.string u9.1.Path, .string u9.1.Data, .int .i64 u9.1.Version, .int .i64 u9.1.Turn, .int .i64 u9.1.Owner] :: Blk p6 31 [.int .i64 61, .string (ByteArray.mk #[]), .string (ByteArray.mk #[]), .int .i64 0, .slice none 0 0] :: Blk p5 24 [.int .i64 x3.Kind, .string x3.Path, .string x3.Data, .int .i64 x3.Version, .int .i64 x3.Owner, .bool x3.Turns] :: Fo) _ := H
     refine wpList_nil ?_
     refine q_then ?_
     refine wp_ret ?_
     refine q_thenR ?_
     refine outR2 E rfl (rvT rfl) (rvBN (i := 2) (us := [.int .i64 61, .string (ByteArray.mk #[]), .string (ByteArray.mk #[]), .int .i64 0, .slice none 0 0]) H rfl rfl rfl Tryz.underlying31 rfl sz31) ?_
     replace H := H.nilSl kS
     replace H := H.drop 0
     replace H := H.drop 0
     replace H := H.drop 0
     replace H := H.drop 0
     obtain rfl := Option.some.inj hm
     exact ⟨v1, (.slice none 0 0), rfl, H.reads (sub_cons (.tail _ hr4) (sub_cons (.head _) (fun r hr => .tail _ (hr))))⟩
    ·intro hb
     rw [if_f hb] at hm
     clear hb
     refine wp_skip ?_
     refine q_then ?_
     refine wp_seq ?_
     refine wp_seq ?_
     refine wp_region_lit ?_
     refine sv E rfl rfl rfl (x_move E rfl rfl) ?_
     clear a E;intro a E
     refine sv E rfl rfl rfl (x_lenS E H rfl rfl hr4 Tryz.underlying22) ?_
     clear a E;intro a E
     refine sv E rfl rfl rfl (x_bin E rfl rfl rfl rfl) ?_
     clear a E;intro a E
     refine wpList_nil ?_
     refine q_then ?_
     refine wp_if E rfl ?_ ?_
     ·intro hb
      rw [if_t hb] at hm
      clear hb
      refine wp_seq ?_
      refine wp_region_lit ?_
      refine sv E rfl rfl rfl (x_move E rfl rfl) ?_
      clear a E;intro a E
      refine sv E rfl rfl rfl (x_build E (ps := [(0, .const (.int .i64 2))]) (vs := [(0, .int .i64 2)]) rfl (by simp only [List.map]; rw [E.eval (x := .const (.int .i64 2)) (v := .int .i64 2) rfl]) (v := .agg #[.int .i64 2, .string (ByteArray.mk #[]), .string (ByteArray.mk #[]), .int .i64 0, .slice none 0 0]) (by kernel_rfl)) ?_
      clear a E;intro a E
      refine sv E rfl rfl rfl (x_assign E rfl rfl) ?_
      clear a E;intro a E
      refine st_st (i := 2) E H (wn rfl) rfl (us := [.int .i64 2, .string (ByteArray.mk #[]), .string (ByteArray.mk #[]), .int .i64 0, .slice none 0 0]) rfl rfl rfl rfl rfl sz31 rfl rfl ?_
      clear H; clear w; intro w H
      replace H : Sep w (Blk p16 35 [.string u14.1.Path, .string u14.1.Data, .int .i64 u14.1.Version, .int .i64 u14.1.Turn, .int .i64 u14.1.Owner] :: Blk p11 35 [.string u9.1.Path, .string u9.1.Data, .int .i64 u9.1.Version, .int .i64 u9.1.Turn, .int .i64 u9.1.Owner] :: Blk p6 31 [.int .i64 2, .string (ByteArray.mk #[]), .string (ByteArray.mk #[]), .int .i64 0, .slice none 0 0] :: Blk p5 24 [.int .i64 x3.Kind, .string x3.Path, .string x3.Data, .int .i64 x3.Version, .int .i64 x3.Owner, .bool x3.Turns] :: Fo) _ := H
      refine wpList_nil ?_
      refine q_then ?_
      refine wp_ret ?_
      refine q_thenR ?_
      refine outR2 E rfl (rvT rfl) (rvBN (i := 2) (us := [.int .i64 2, .string (ByteArray.mk #[]), .string (ByteArray.mk #[]), .int .i64 0, .slice none 0 0]) H rfl rfl rfl Tryz.underlying31 rfl sz31) ?_
      replace H := H.nilSl kS
      replace H := H.drop 0
      replace H := H.drop 0
      replace H := H.drop 0
      replace H := H.drop 0
      obtain rfl := Option.some.inj hm
      exact ⟨v1, (.slice none 0 0), rfl, H.reads (sub_cons (.tail _ hr4) (sub_cons (.head _) (fun r hr => .tail _ (hr))))⟩
     ·intro hb
      rw [if_f hb] at hm
      clear hb
      refine wp_skip ?_
      refine q_then ?_
      refine wp_seq_cut (fun a w => ∃ (v17 : Value) (l18 : (List S_api_Node)) (rs19 : List Rp), Env 79 a [(0, v17), (3, .pointer (some ⟨p5, 0, none⟩)), (5, .pointer (some ⟨p6, 0, none⟩)), (10, .string u12.1)] ∧ Sep w (Blk p5 24 [.int .i64 x3.Kind, .string x3.Path, .string x3.Data, .int .i64 x3.Version, .int .i64 x3.Owner, .bool x3.Turns] :: Blk p6 31 [.int .i64 0, .string (ByteArray.mk #[]), .string (ByteArray.mk #[]), .int .i64 0, .slice none 0 0] :: Fo) rs19 ∧ (∀ r, r ∈ rs → r ∈ rs19) ∧ rSl k_api_Node v17 l18 ∈ rs19 ∧ m_cantonref06_create_j1 u12 x3 l18 = some r) ?_ ?_
      ·refine wp_seq ?_
       refine wp_region_lit ?_
       refine sv E rfl rfl rfl (x_fa E rfl rfl (v := .pointer (some ⟨p5, 5, none⟩)) (fa24_5 _ _)) ?_
       clear a E;intro a E
       refine sv E rfl rfl rfl (x_ldB (i := 3) E H rfl rfl rfl rfl Tryz.underlying4 rfl) ?_
       clear a E;intro a E
       refine wpList_nil ?_
       refine q_then ?_
       refine wp_if E rfl ?_ ?_
       ·intro hb
        rw [if_t hb] at hm
        clear hb
        refine wp_seq ?_
        refine wp_region_lit ?_
        refine sv E rfl rfl rfl (x_fa E rfl rfl (v := .pointer (some ⟨p11, 3, none⟩)) (fa35_3 _ _)) ?_
        clear a E;intro a E
        refine sv E rfl rfl rfl (x_ldB (i := 1) E H rfl rfl rfl rfl Tryz.underlying2 rfl) ?_
        clear a E;intro a E
        refine sv E rfl rfl rfl (x_bin E rfl rfl rfl rfl) ?_
        clear a E;intro a E
        refine sv E rfl rfl rfl (x_fa E rfl rfl (v := .pointer (some ⟨p11, 3, none⟩)) (fa35_3 _ _)) ?_
        clear a E;intro a E
        refine st_st (i := 1) E H (wn rfl) rfl (us := [.int .i64 (IntKind.i64.wrap (u9.1.Turn + 1))]) rfl rfl rfl rfl rfl sz2 rfl rfl ?_
        clear H; clear w; intro w H
        replace H : Sep w (Blk p16 35 [.string u14.1.Path, .string u14.1.Data, .int .i64 u14.1.Version, .int .i64 u14.1.Turn, .int .i64 u14.1.Owner] :: Blk p11 35 [.string u9.1.Path, .string u9.1.Data, .int .i64 u9.1.Version, .int .i64 (IntKind.i64.wrap (u9.1.Turn + 1)), .int .i64 u9.1.Owner] :: Blk p6 31 [.int .i64 0, .string (ByteArray.mk #[]), .string (ByteArray.mk #[]), .int .i64 0, .slice none 0 0] :: Blk p5 24 [.int .i64 x3.Kind, .string x3.Path, .string x3.Data, .int .i64 x3.Version, .int .i64 x3.Owner, .bool x3.Turns] :: Fo) _ := H
        refine wpList_nil ?_
        refine q_then ?_
        refine wp_region_lit ?_
        refine sv E rfl rfl rfl (x_move E rfl rfl) ?_
        clear a E;intro a E
        refine sv E rfl rfl rfl (x_ldBN (i := 1) (us := [.string u9.1.Path, .string u9.1.Data, .int .i64 u9.1.Version, .int .i64 (IntKind.i64.wrap (u9.1.Turn + 1)), .int .i64 u9.1.Owner]) E H rfl rfl rfl rfl Tryz.underlying35 rfl sz35) ?_
        clear a E;intro a E
        obtain ⟨u25, hx26, hm⟩ := bnd hm
        refine st_call E (wn rfl) rfl rfl (x_call E rfl rfl (cf30 _)) (c_cantonref06_Put v1 l2 (⟨u9.1.Path, u9.1.Data, u9.1.Version, IntKind.i64.wrap (u9.1.Turn + 1), u9.1.Owner⟩ : S_api_Node) H hr4 hx26) ?_
        clear E H; clear a; clear w; rintro _ w ⟨v27, rfl, H⟩ a E
        refine sv E rfl rfl rfl (x_assign E rfl rfl) ?_
        clear a E;intro a E
        refine wpList_nil ?_
        refine q_then ?_
        replace H := H.thaw (i := 0) rfl
        replace H := H.drop 0
        replace H := H.drop 0
        replace H := H.front 0 rfl
        replace H := H.front 1 rfl
        exact ⟨v27, u25, _, ((((E.nil.keep E 10 rfl).keep E 5 rfl).keep E 3 rfl).keep E 0 rfl), H, fun r hr => .tail _ (hr), (.head _), hm⟩
       ·intro hb
        rw [if_f hb] at hm
        clear hb
        refine wp_skip ?_
        refine q_then ?_
        replace H := H.drop 0
        replace H := H.drop 0
        replace H := H.front 0 rfl
        replace H := H.front 1 rfl
        exact ⟨v1, l2, _, ((((E.nil.keep E 10 rfl).keep E 5 rfl).keep E 3 rfl).keep E 0 rfl), H, fun r hr => hr, hr4, hm⟩
      ·clear E H hm
       rintro a w ⟨v17, l18, rs19, E, H, hs20, hr21, hm⟩
       unfold m_cantonref06_create_j1 at hm
       refine wp_seq ?_
       refine wp_region_lit ?_
       refine sv E rfl rfl rfl (x_move E rfl rfl) ?_
       clear a E;intro a E
       refine sv E rfl rfl rfl (x_move E rfl rfl) ?_
       clear a E;intro a E
       refine sv E rfl rfl rfl (x_fa E rfl rfl (v := .pointer (some ⟨p5, 2, none⟩)) (fa24_2 _ _)) ?_
       clear a E;intro a E
       refine sv E rfl rfl rfl (x_ldB (i := 0) E H rfl rfl rfl rfl Tryz.underlying9 rfl) ?_
       clear a E;intro a E
       refine sv E rfl rfl rfl (x_fa E rfl rfl (v := .pointer (some ⟨p5, 4, none⟩)) (fa24_4 _ _)) ?_
       clear a E;intro a E
       refine sv E rfl rfl rfl (x_ldB (i := 0) E H rfl rfl rfl rfl Tryz.underlying2 rfl) ?_
       clear a E;intro a E
       refine sv E rfl rfl rfl (x_build E (ps := [(0, .tmp 70), (1, .tmp 72), (4, .tmp 74)]) (vs := [(0, .string u12.1), (1, .string x3.Data), (4, .int .i64 x3.Owner)]) rfl (by simp only [List.map]; rw [E.eval (x := .tmp 70) (v := .string u12.1) rfl, E.eval (x := .tmp 72) (v := .string x3.Data) rfl, E.eval (x := .tmp 74) (v := .int .i64 x3.Owner) rfl]) (v := .agg #[.string u12.1, .string x3.Data, .int .i64 0, .int .i64 0, .int .i64 x3.Owner]) (by kernel_rfl)) ?_
       clear a E;intro a E
       obtain ⟨u22, hx23, hm⟩ := bnd hm
       refine st_call E (wn rfl) rfl rfl (x_call E rfl rfl (cf30 _)) (c_cantonref06_Put v17 l18 (⟨u12.1, x3.Data, 0, 0, x3.Owner⟩ : S_api_Node) H hr21 hx23) ?_
       clear E H; clear a; clear w; rintro _ w ⟨v24, rfl, H⟩ a E
       refine sv E rfl rfl rfl (x_move E rfl rfl) ?_
       clear a E;intro a E
       refine sv E rfl rfl rfl (x_build E (ps := [(1, .tmp 77)]) (vs := [(1, .string u12.1)]) rfl (by simp only [List.map]; rw [E.eval (x := .tmp 77) (v := .string u12.1) rfl]) (v := .agg #[.int .i64 0, .string u12.1, .string (ByteArray.mk #[]), .int .i64 0, .slice none 0 0]) (by kernel_rfl)) ?_
       clear a E;intro a E
       refine sv E rfl rfl rfl (x_assign E rfl rfl) ?_
       clear a E;intro a E
       refine st_st (i := 2) E H (wn rfl) rfl (us := [.int .i64 0, .string u12.1, .string (ByteArray.mk #[]), .int .i64 0, .slice none 0 0]) rfl rfl rfl rfl rfl sz31 rfl rfl ?_
       clear H; clear w; intro w H
       replace H : Sep w (Row 35 k_api_Node v24 u22 :: Blk p5 24 [.int .i64 x3.Kind, .string x3.Path, .string x3.Data, .int .i64 x3.Version, .int .i64 x3.Owner, .bool x3.Turns] :: Blk p6 31 [.int .i64 0, .string u12.1, .string (ByteArray.mk #[]), .int .i64 0, .slice none 0 0] :: Fo) _ := H
       refine wpList_nil ?_
       refine q_then ?_
       refine wp_ret ?_
       refine outR2 E rfl (rvT rfl) (rvBN (i := 2) (us := [.int .i64 0, .string u12.1, .string (ByteArray.mk #[]), .int .i64 0, .slice none 0 0]) H rfl rfl rfl Tryz.underlying31 rfl sz31) ?_
       replace H := H.thaw (i := 0) rfl
       replace H := H.nilSl kS
       replace H := H.drop 0
       replace H := H.drop 0
       obtain rfl := Option.some.inj hm
       exact ⟨v24, (.slice none 0 0), rfl, H.reads (sub_cons (.tail _ (.head _)) (sub_cons (.head _) (fun r hr => .tail _ (.tail _ (hs20 r hr)))))⟩
end Go.Cb

set_option linter.unusedVariables false
set_option linter.unusedSimpArgs false
namespace Go.Cb
open Go.Proofs Go.RowKit
def m_cantonref06_without_j1 (rec_1 : (List S_api_Node) → Int → Option (List S_api_Node)) (x7 : Int) (l12 : (List S_api_Node)) : Option (List S_api_Node) :=
  rec_1 l12 (IntKind.i64.wrap (x7 + 1))
def m_cantonref06_without_l1 (l2 : List S_api_Node) (s3 : ByteArray) : Nat → (List S_api_Node) → Int → Option (List S_api_Node)
  | 0, _, _ => none
  | k1 + 1, l6, x7 =>
    if (decide (x7 < (l2.length : Int))) = true then ((idx l2 x7).bind fun x16 => if (!(sEq x16.Path s3)) = true then ((idx l2 x7).bind fun x19 => (ck (l6.length + ([x19] : List S_api_Node).length ≤ LIM)).bind fun u25 => m_cantonref06_without_j1 (m_cantonref06_without_l1 l2 s3 k1) x7 (l6 ++ ([x19] : List S_api_Node))) else (m_cantonref06_without_j1 (m_cantonref06_without_l1 l2 s3 k1) x7 l6)) else (some (l6))
def m_cantonref06_without (l2 : List S_api_Node) (s3 : ByteArray) : Option (List S_api_Node) :=
  m_cantonref06_without_l1 l2 s3 (((l2.length : Int) - 0 : Int).toNat + 1) [] 0
set_option maxRecDepth 20000 in
set_option maxHeartbeats 1000000 in
theorem c_cantonref06_without {w : World} {Fo : List Ob} {rs : List Rp} (v1 : Value) (l2 : List S_api_Node) (s3 : ByteArray) (H : Sep w (Fo) rs) (hr4 : rSl k_api_Node v1 l2 ∈ rs) {r : (List S_api_Node)} (hm : m_cantonref06_without l2 s3 = some r) :
    Calls Tryz.prog 29 [v1, .string s3].toArray w (Ret fun v w' => ∃ (v5001 : Value), v5001 = v ∧ Sep w' (Row 35 k_api_Node v5001 r :: Fo) (rs)) := by
 unfold m_cantonref06_without at hm
 refine enter Tryz.func29 rfl Tryz.ntmps29 rfl fun a E => ?_
 simp only [enum, Nat.reduceAdd] at E
 refine wp_seq ?_
 refine wp_region_lit ?_
 refine sv E rfl rfl rfl (x_assign E rfl rfl) ?_
 clear a E;intro a E
 refine wpList_nil ?_
 refine q_then ?_
 refine wp_seq ?_
 refine wp_region_lit ?_
 refine sv E rfl rfl rfl (x_assign E rfl rfl) ?_
 clear a E;intro a E
 refine wpList_nil ?_
 refine q_then ?_
 refine wp_seq ?_
 refine wp_seq ?_
 refine wp_region_lit ?_
 refine sv E rfl rfl rfl (x_assign E rfl rfl) ?_
 clear a E;intro a E
 refine wpList_nil ?_
 refine q_then ?_
 refine wp_block ?_
 refine wp_loop_g (fun k1 a w => ∃ (v5 : Value) (l6 : (List S_api_Node)) (x7 : Int) (rs8 : List Rp), Env 28 a [(0, v1), (1, .string s3), (5, v5), (6, .int .i64 x7)] ∧ Sep w (Row 35 k_api_Node v5 l6 :: Fo) rs8 ∧ (∀ r, r ∈ rs → r ∈ rs8) ∧ rSl k_api_Node v1 l2 ∈ rs8 ∧ m_cantonref06_without_l1 l2 s3 k1 l6 x7 = some r) (((l2.length : Int) - 0 : Int).toNat + 1) ?_ ?_
 ·replace H := H.nilRow 35 k_api_Node
  exact ⟨(.slice none 0 0), [], 0, _, ((((E.nil.keep E 6 rfl).keep E 5 rfl).keep E 1 rfl).keep E 0 rfl), H, fun r hr => hr, hr4, hm⟩
 ·clear E H hm
  rintro k1 a w ⟨v5, l6, x7, rs8, E, H, hs9, hr10, hm⟩
  cases k1 with
  | zero => exact (none_some hm rfl).elim
  | succ k1 =>
   unfold m_cantonref06_without_l1 at hm
   refine wp_seq ?_
   refine wp_seq ?_
   refine wp_region_lit ?_
   refine sv E rfl rfl rfl (x_move E rfl rfl) ?_
   clear a E;intro a E
   refine sv E rfl rfl rfl (x_move E rfl rfl) ?_
   clear a E;intro a E
   refine sv E rfl rfl rfl (x_lenS E H rfl rfl hr10 Tryz.underlying22) ?_
   clear a E;intro a E
   refine sv E rfl rfl rfl (x_bin E rfl rfl rfl rfl) ?_
   clear a E;intro a E
   refine wpList_nil ?_
   refine q_then ?_
   refine wp_if E rfl ?_ ?_
   ·intro hb
    rw [if_t hb] at hm
    clear hb
    refine wp_skip ?_
    refine q_then ?_
    refine wp_seq_cut (fun a w => ∃ (v11 : Value) (l12 : (List S_api_Node)) (rs13 : List Rp), Env 28 a [(0, v1), (1, .string s3), (5, v11), (6, .int .i64 x7)] ∧ Sep w (Row 35 k_api_Node v11 l12 :: Fo) rs13 ∧ (∀ r, r ∈ rs → r ∈ rs13) ∧ rSl k_api_Node v1 l2 ∈ rs13 ∧ m_cantonref06_without_j1 (m_cantonref06_without_l1 l2 s3 k1) x7 l12 = some r) ?_ ?_
    ·refine wp_block ?_
     refine wp_seq ?_
     refine wp_region_lit ?_
     refine sv E rfl rfl rfl (x_move E rfl rfl) ?_
     clear a E;intro a E
     refine sv E rfl rfl rfl (x_move E rfl rfl) ?_
     clear a E;intro a E
     obtain ⟨x16, hx17, hm⟩ := bnd hm
     refine st_ixS E H (wn rfl) rfl rfl rfl rfl rfl hr10 Tryz.underlying22 sz35 hx17 ?_
     clear E H; clear a; intro q18 a H E
     replace H := H.derive1 (.head _) (rAt kS (q18.add 0) x16.Path) (fun ok h => k_api_Node_at0 h)
     refine sv E rfl rfl rfl (x_fa E rfl rfl (fa35_0 _ _)) ?_
     clear a E;intro a E
     refine sv E rfl rfl rfl (x_ldA E H rfl rfl (.head _) Tryz.underlying9 rfl) ?_
     clear a E;intro a E
     refine sv E rfl rfl rfl (x_move E rfl rfl) ?_
     clear a E;intro a E
     refine sv E rfl rfl rfl (x_str E rfl rfl rfl rfl) ?_
     clear a E;intro a E
     refine wpList_nil ?_
     refine q_then ?_
     refine wp_if E rfl ?_ ?_
     ·intro hb
      rw [if_t hb] at hm
      clear hb
      refine wp_region_lit ?_
      refine sv E rfl rfl rfl (x_move E rfl rfl) ?_
      clear a E;intro a E
      refine sv E rfl rfl rfl (x_move E rfl rfl) ?_
      clear a E;intro a E
      refine sv E rfl rfl rfl (x_move E rfl rfl) ?_
      clear a E;intro a E
      obtain ⟨x19, hx20, hm⟩ := bnd hm
      refine st_ixS E H (wn rfl) rfl rfl rfl rfl rfl (.tail _ (.tail _ hr10)) Tryz.underlying22 sz35 hx20 ?_
      clear E H; clear a; intro q21 a H E
      refine st_ldN E H (wn rfl) rfl rfl rfl rfl (.head _) Tryz.underlying35 rfl sz35 ?_
      clear E H; clear a; intro u22 a H E
      obtain ⟨_, hcs⟩ := H.rd (.head _)
      obtain rfl := k_api_Node_open hcs
      clear hcs
      refine st_bsR (e := 35) (d := k_api_Node) (cs := [.string x19.Path, .string x19.Data, .int .i64 x19.Version, .int .i64 x19.Turn, .int .i64 x19.Owner]) (xs := [x19]) E H (wn rfl) rfl rfl (ps := [(0, .tmp 24)]) (parts := [(0, .agg #[.string x19.Path, .string x19.Data, .int .i64 x19.Version, .int .i64 x19.Turn, .int .i64 x19.Owner])]) rfl (by simp only [List.map]; rw [E.eval (x := .tmp 24) (v := .agg #[.string x19.Path, .string x19.Data, .int .i64 x19.Version, .int .i64 x19.Turn, .int .i64 x19.Owner]) rfl]) (by kernel_rfl) rfl (fun ok hr => (Rows.single (d := k_api_Node) (cs := [.string x19.Path, .string x19.Data, .int .i64 x19.Version, .int .i64 x19.Turn, .int .i64 x19.Owner]) (x := x19) k_api_Node_mk)) ?_
      clear E H; clear a; clear w; intro v23 w a H E
      obtain ⟨u25, hx26, hm⟩ := bnd hm
      refine st_append (i := 0) E H (wn rfl) rfl rfl rfl rfl rfl rfl (src_rd (.head _)) Tryz.underlying22 inf35 rfl (ck_of hx26) rfl ?_
      clear E H; clear a; clear w; intro v24 w a H E
      refine sv E rfl rfl rfl (x_assign E rfl rfl) ?_
      clear a E;intro a E
      refine wpList_nil ?_
      refine q_blk ?_
      refine q_then ?_
      exact ⟨v24, l6 ++ ([x19] : List S_api_Node), _, ((((E.nil.keep E 6 rfl).keep E 5 rfl).keep E 1 rfl).keep E 0 rfl), H, fun r hr => .tail _ (.tail _ (.tail _ (.tail _ (.tail _ (hs9 r hr))))), (.tail _ (.tail _ (.tail _ (.tail _ (.tail _ hr10))))), hm⟩
     ·intro hb
      rw [if_f hb] at hm
      clear hb
      refine wp_skip ?_
      refine q_blk ?_
      refine q_then ?_
      exact ⟨v5, l6, _, ((((E.nil.keep E 6 rfl).keep E 5 rfl).keep E 1 rfl).keep E 0 rfl), H, fun r hr => .tail _ (.tail _ (hs9 r hr)), (.tail _ (.tail _ hr10)), hm⟩
    ·clear E H hm
     rintro a w ⟨v11, l12, rs13, E, H, hs14, hr15, hm⟩
     unfold m_cantonref06_without_j1 at hm
     refine wp_region_lit ?_
     refine sv E rfl rfl rfl (x_move E rfl rfl) ?_
     clear a E;intro a E
     refine sv E rfl rfl rfl (x_bin E rfl rfl rfl rfl) ?_
     clear a E;intro a E
     refine sv E rfl rfl rfl (x_assign E rfl rfl) ?_
     clear a E;intro a E
     refine wpList_nil ?_
     refine q_then ?_
     exact ⟨k1, Nat.lt_succ_self k1, v11, l12, IntKind.i64.wrap (x7 + 1), _, ((((E.nil.keep E 6 rfl).keep E 5 rfl).keep E 1 rfl).keep E 0 rfl), H, hs14, hr15, hm⟩
   ·intro hb
    rw [if_f hb] at hm
    clear hb
    refine wp_exit ?_
    refine q_thenX ?_
    refine q_thenX ?_
    refine q_hit ?_
    refine q_then ?_
    refine wp_seq ?_
    refine wp_region_lit ?_
    refine sv E rfl rfl rfl (x_move E rfl rfl) ?_
    clear a E;intro a E
    refine sv E rfl rfl rfl (x_assign E rfl rfl) ?_
    clear a E;intro a E
    refine wpList_nil ?_
    refine q_then ?_
    refine wp_ret ?_
    refine out1 E rfl rfl ?_
    obtain rfl := Option.some.inj hm
    exact ⟨v5, rfl, H.reads (fun r hr => hs9 r hr)⟩
end Go.Cb

set_option linter.unusedVariables false
set_option linter.unusedSimpArgs false
namespace Go.Cb
open Go.Proofs Go.RowKit
def m_cantonref06_Apply_j4 (rec_1 : (List S_api_Node) → (List S_api_Node) → (List ByteArray) → Int → Option ((List S_api_Node) × S_api_Result)) (l40 : (List S_api_Node)) (x43 : Int) (l49 : (List S_api_Node)) (l51 : (List ByteArray)) : Option ((List S_api_Node) × S_api_Result) :=
  rec_1 l49 l40 l51 (IntKind.i64.wrap (x43 + 1))
def m_cantonref06_Apply_l1 (x3 : S_api_Op) : Nat → (List S_api_Node) → (List S_api_Node) → (List ByteArray) → Int → Option ((List S_api_Node) × S_api_Result)
  | 0, _, _, _, _ => none
  | k1 + 1, l38, l40, l42, x43 =>
    if (decide (x43 < (l40.length : Int))) = true then (if (x3.Kind == 6) = true then ((idx l40 x43).bind fun x56 => (m_cantonref01_Last x56.Path).bind fun u59 => (ck (l42.length + ([u59] : List ByteArray).length ≤ LIM)).bind fun u63 => m_cantonref06_Apply_j4 (m_cantonref06_Apply_l1 x3 k1) l40 x43 l38 (l42 ++ ([u59] : List ByteArray))) else ((idx l40 x43).bind fun x66 => if (x66.Owner == x3.Owner) = true then ((idx l40 x43).bind fun x73 => (m_cantonref01_Last x73.Path).bind fun u76 => (ck (l42.length + ([u76] : List ByteArray).length ≤ LIM)).bind fun u80 => (idx l40 x43).bind fun x82 => (m_cantonref06_without l38 x82.Path).bind fun u85 => m_cantonref06_Apply_j4 (m_cantonref06_Apply_l1 x3 k1) l40 x43 u85 (l42 ++ ([u76] : List ByteArray))) else (m_cantonref06_Apply_j4 (m_cantonref06_Apply_l1 x3 k1) l40 x43 l38 l42))) else (some (l38, (⟨0, (ByteArray.mk #[]), (ByteArray.mk #[]), 0, l42⟩ : S_api_Result)))
def m_cantonref06_Apply_j3 (x3 : S_api_Op) (l2 : List S_api_Node) (u17 : S_api_Node × Bool) (b24 : Bool) : Option ((List S_api_Node) × S_api_Result) :=
  if b24 = true then (some (l2, (⟨63, (ByteArray.mk #[]), (ByteArray.mk #[]), 0, []⟩ : S_api_Result))) else ((m_cantonref06_Children l2 x3.Path).bind fun u28 => if (x3.Kind == 2) = true then (if (decide ((u28.length : Int) > 0)) = true then (some (l2, (⟨64, (ByteArray.mk #[]), (ByteArray.mk #[]), 0, []⟩ : S_api_Result))) else ((m_cantonref06_without l2 x3.Path).bind fun u31 => some (u31, (⟨0, (ByteArray.mk #[]), (ByteArray.mk #[]), 0, []⟩ : S_api_Result)))) else (if (x3.Kind == 3) = true then (if (decide (u17.1.Version ≥ 281474976710656)) = true then (some (l2, (⟨2, (ByteArray.mk #[]), (ByteArray.mk #[]), 0, []⟩ : S_api_Result))) else ((m_cantonref06_Put l2 (⟨u17.1.Path, x3.Data, IntKind.i64.wrap (u17.1.Version + 1), u17.1.Turn, u17.1.Owner⟩ : S_api_Node)).bind fun u34 => some (u34, (⟨0, (ByteArray.mk #[]), (ByteArray.mk #[]), IntKind.i64.wrap (u17.1.Version + 1), []⟩ : S_api_Result)))) else (if (x3.Kind == 4) = true then (some (l2, (⟨0, (ByteArray.mk #[]), (ByteArray.mk #[]), u17.1.Version, []⟩ : S_api_Result))) else (if (x3.Kind == 5) = true then (some (l2, (⟨0, (ByteArray.mk #[]), u17.1.Data, u17.1.Version, []⟩ : S_api_Result))) else (m_cantonref06_Apply_l1 x3 (((u28.length : Int) - 0 : Int).toNat + 1) l2 u28 [] 0)))))
def m_cantonref06_Apply_j2 (x3 : S_api_Op) (l2 : List S_api_Node) (u17 : S_api_Node × Bool) (b20 : Bool) : Option ((List S_api_Node) × S_api_Result) :=
  if b20 = true then (if (decide (x3.Version ≥ 0)) = true then (m_cantonref06_Apply_j3 x3 l2 u17 (x3.Version != u17.1.Version)) else (m_cantonref06_Apply_j3 x3 l2 u17 false)) else (m_cantonref06_Apply_j3 x3 l2 u17 false)
def m_cantonref06_Apply_j1 (x3 : S_api_Op) (l2 : List S_api_Node) (b7 : Bool) : Option ((List S_api_Node) × S_api_Result) :=
  if b7 = true then (some (([] : List S_api_Node), (⟨1, (ByteArray.mk #[]), (ByteArray.mk #[]), 0, []⟩ : S_api_Result))) else (if (x3.Kind == 1) = true then ((m_cantonref06_create l2 (⟨x3.Kind, x3.Path, x3.Data, x3.Version, x3.Owner, x3.Turns⟩ : S_api_Op)).bind fun u11 => some (u11.1, (⟨u11.2.Err, u11.2.Path, u11.2.Data, u11.2.Version, u11.2.Names⟩ : S_api_Result))) else ((m_cantonref06_Find l2 x3.Path).bind fun u17 => if (!u17.2) = true then (some (l2, (⟨62, (ByteArray.mk #[]), (ByteArray.mk #[]), 0, []⟩ : S_api_Result))) else (if (x3.Kind == 2) = true then (m_cantonref06_Apply_j2 x3 l2 u17 true) else (if (x3.Kind == 3) = true then (m_cantonref06_Apply_j2 x3 l2 u17 true) else (m_cantonref06_Apply_j2 x3 l2 u17 (x3.Kind == 4))))))
def m_cantonref06_Apply (l2 : List S_api_Node) (x3 : S_api_Op) : Option ((List S_api_Node) × S_api_Result) :=
  (m_cantonref06_Right l2).bind fun u94 => if (!u94) = true then (m_cantonref06_Apply_j1 x3 l2 true) else ((m_cantonref06_May (⟨x3.Kind, x3.Path, x3.Data, x3.Version, x3.Owner, x3.Turns⟩ : S_api_Op)).bind fun u97 => m_cantonref06_Apply_j1 x3 l2 (!u97))
set_option maxRecDepth 20000 in
set_option maxHeartbeats 1000000 in
theorem c_cantonref06_Apply {w : World} {Fo : List Ob} {rs : List Rp} (v1 : Value) (l2 : List S_api_Node) (x3 : S_api_Op) (H : Sep w (Fo) rs) (hr4 : rSl k_api_Node v1 l2 ∈ rs) {r : (List S_api_Node) × S_api_Result} (hm : m_cantonref06_Apply l2 x3 = some r) :
    Calls Tryz.prog 8 [v1, .agg #[.int .i64 x3.Kind, .string x3.Path, .string x3.Data, .int .i64 x3.Version, .int .i64 x3.Owner, .bool x3.Turns]].toArray w (Ret fun v w' => ∃ (v5001 : Value) (v5004 : Value), .tuple #[v5001, .agg #[.int .i64 r.2.Err, .string r.2.Path, .string r.2.Data, .int .i64 r.2.Version, v5004]] = v ∧ Sep w' (Fo) (rSl k_api_Node v5001 r.1 :: rSl kS v5004 r.2.Names :: rs)) := by
 unfold m_cantonref06_Apply at hm
 refine enter Tryz.func8 rfl Tryz.ntmps8 rfl fun a E => ?_
 simp only [enum, Nat.reduceAdd] at E
 refine wp_seq ?_
 refine wp_region_lit ?_
 refine st_box E H (wn rfl) rfl rfl (cs := [.int .i64 x3.Kind, .string x3.Path, .string x3.Data, .int .i64 x3.Version, .int .i64 x3.Owner, .bool x3.Turns]) rfl rfl rfl ?_
 clear E H; clear a; clear w; intro p5 w a H E
 refine sv E rfl rfl rfl (x_assign E rfl rfl) ?_
 clear a E;intro a E
 refine st_alloc E H (wn rfl) rfl rfl (cs := [.int .i64 0, .string (ByteArray.mk #[]), .string (ByteArray.mk #[]), .int .i64 0, .slice none 0 0]) rfl (z := .agg #[.int .i64 0, .string ⟨#[]⟩, .string ⟨#[]⟩, .int .i64 0, .slice none 0 0]) (by kernel_rfl) rfl ?_
 clear E H; clear a; clear w; intro p6 w a H E
 refine wpList_nil ?_
 refine q_then ?_
 refine wp_seq ?_
 refine wp_seq_cut (fun a w => ∃ (b7 : Bool) (rs8 : List Rp), Env 165 a [(0, v1), (3, .pointer (some ⟨p5, 0, none⟩)), (5, .pointer (some ⟨p6, 0, none⟩)), (19, .bool b7)] ∧ Sep w (Blk p5 24 [.int .i64 x3.Kind, .string x3.Path, .string x3.Data, .int .i64 x3.Version, .int .i64 x3.Owner, .bool x3.Turns] :: Blk p6 31 [.int .i64 0, .string (ByteArray.mk #[]), .string (ByteArray.mk #[]), .int .i64 0, .slice none 0 0] :: Fo) rs8 ∧ (∀ r, r ∈ rs → r ∈ rs8) ∧ rSl k_api_Node v1 l2 ∈ rs8 ∧ m_cantonref06_Apply_j1 x3 l2 b7 = some r) ?_ ?_
 ·refine wp_region_lit ?_
  refine sv E rfl rfl rfl (x_move E rfl rfl) ?_
  clear a E;intro a E
  obtain ⟨u94, hx95, hm⟩ := bnd hm
  refine st_call E (wn rfl) rfl rfl (x_call E rfl rfl (cf12 _)) (c_cantonref06_Right v1 l2 H hr4 hx95) ?_
  clear E H; clear a; clear w; rintro _ w ⟨rfl, H⟩ a E
  refine sv E rfl rfl rfl (x_not E rfl rfl) ?_
  clear a E;intro a E
  refine sv E rfl rfl rfl (x_move E rfl rfl) ?_
  clear a E;intro a E
  rcases Bool.eq_false_or_eq_true (!u94) with hb96 | hb96
  ·rw [if_t hb96] at hm
   refine st_no E (wf' E rfl rfl rfl rfl hb96 rfl) rfl rfl ?_
   clear a E;intro a E
   refine st_no E (wf' E rfl rfl rfl rfl hb96 rfl) rfl rfl ?_
   clear a E;intro a E
   refine st_no E (wf' E rfl rfl rfl rfl hb96 rfl) rfl rfl ?_
   clear a E;intro a E
   refine sv E rfl rfl rfl (x_pickT E rfl rfl hb96 rfl) ?_
   clear a E;intro a E
   refine wpList_nil ?_
   refine q_then ?_
   replace H := H.front 0 rfl
   replace H := H.front 1 rfl
   exact ⟨true, _, ((((E.nil.keep E 19 rfl).keep E 5 rfl).keep E 3 rfl).keep E 0 rfl), H, fun r hr => hr, hr4, hm⟩
  ·rw [if_f hb96] at hm
   refine st_val E (ws' E rfl rfl rfl rfl hb96) rfl rfl (x_ldBN (i := 1) (us := [.int .i64 x3.Kind, .string x3.Path, .string x3.Data, .int .i64 x3.Version, .int .i64 x3.Owner, .bool x3.Turns]) E H rfl rfl rfl rfl Tryz.underlying24 rfl sz24) ?_
   clear a E;intro a E
   obtain ⟨u97, hx98, hm⟩ := bnd hm
   refine st_call E (ws' E rfl rfl rfl rfl hb96) rfl rfl (x_call E rfl rfl (cf14 _)) (c_cantonref06_May (⟨x3.Kind, x3.Path, x3.Data, x3.Version, x3.Owner, x3.Turns⟩ : S_api_Op) H hx98) ?_
   clear E H; clear a; clear w; rintro _ w ⟨rfl, H⟩ a E
   refine st_val E (ws' E rfl rfl rfl rfl hb96) rfl rfl (x_not E rfl rfl) ?_
   clear a E;intro a E
   refine sv E rfl rfl rfl (x_pickF E rfl rfl hb96 rfl) ?_
   clear a E;intro a E
   refine wpList_nil ?_
   refine q_then ?_
   replace H := H.front 0 rfl
   replace H := H.front 1 rfl
   exact ⟨!u97, _, ((((E.nil.keep E 19 rfl).keep E 5 rfl).keep E 3 rfl).keep E 0 rfl), H, fun r hr => hr, hr4, hm⟩
 ·clear E H hm
  rintro a w ⟨b7, rs8, E, H, hs9, hr10, hm⟩
  unfold m_cantonref06_Apply_j1 at hm
  refine wp_if E rfl ?_ ?_
  ·intro hb
   rw [if_t hb] at hm
   clear hb
   refine wp_seq ?_
   refine wp_region_lit ?_
   refine sv E rfl rfl rfl (x_build E (ps := [(0, .const (.int .i64 1))]) (vs := [(0, .int .i64 1)]) rfl (by simp only [List.map]; rw [E.eval (x := .const (.int .i64 1)) (v := .int .i64 1) rfl]) (v := .agg #[.int .i64 1, .string (ByteArray.mk #[]), .string (ByteArray.mk #[]), .int .i64 0, .slice none 0 0]) (by kernel_rfl)) ?_
   clear a E;intro a E
   refine sv E rfl rfl rfl (x_assign E rfl rfl) ?_
   clear a E;intro a E
   refine st_st (i := 1) E H (wn rfl) rfl (us := [.int .i64 1, .string (ByteArray.mk #[]), .string (ByteArray.mk #[]), .int .i64 0, .slice none 0 0]) rfl rfl rfl rfl rfl sz31 rfl rfl ?_
   clear H; clear w; intro w H
   replace H : Sep w (Blk p5 24 [.int .i64 x3.Kind, .string x3.Path, .string x3.Data, .int .i64 x3.Version, .int .i64 x3.Owner, .bool x3.Turns] :: Blk p6 31 [.int .i64 1, .string (ByteArray.mk #[]), .string (ByteArray.mk #[]), .int .i64 0, .slice none 0 0] :: Fo) _ := H
   refine wpList_nil ?_
   refine q_then ?_
   refine wp_ret ?_
   refine q_thenR ?_
   refine outR2 E rfl (rvT rfl) (rvBN (i := 1) (us := [.int .i64 1, .string (ByteArray.mk #[]), .string (ByteArray.mk #[]), .int .i64 0, .slice none 0 0]) H rfl rfl rfl Tryz.underlying31 rfl sz31) ?_
   replace H := H.nilSl k_api_Node
   replace H := H.nilSl kS
   replace H := H.drop 0
   replace H := H.drop 0
   obtain rfl := Option.some.inj hm
   exact ⟨(.slice none 0 0), (.slice none 0 0), rfl, H.reads (sub_cons (.tail _ (.head _)) (sub_cons (.head _) (fun r hr => .tail _ (.tail _ (hs9 r hr)))))⟩
  ·intro hb
   rw [if_f hb] at hm
   clear hb
   refine wp_skip ?_
   refine q_then ?_
   refine wp_seq ?_
   refine wp_seq ?_
   refine wp_region_lit ?_
   refine sv E rfl rfl rfl (x_fa E rfl rfl (v := .pointer (some ⟨p5, 0, none⟩)) (fa24_0 _ _)) ?_
   clear a E;intro a E
   refine sv E rfl rfl rfl (x_ldB (i := 0) E H rfl rfl rfl rfl Tryz.underlying3 rfl) ?_
   clear a E;intro a E
   refine sv E rfl rfl rfl (x_bin E rfl rfl rfl rfl) ?_
   clear a E;intro a E
   refine wpList_nil ?_
   refine q_then ?_
   refine wp_if E rfl ?_ ?_
   ·intro hb
    rw [if_t hb] at hm
    clear hb
    refine wp_seq ?_
    refine wp_region_lit ?_
    refine sv E rfl rfl rfl (x_move E rfl rfl) ?_
    clear a E;intro a E
    refine sv E rfl rfl rfl (x_ldBN (i := 0) (us := [.int .i64 x3.Kind, .string x3.Path, .string x3.Data, .int .i64 x3.Version, .int .i64 x3.Owner, .bool x3.Turns]) E H rfl rfl rfl rfl Tryz.underlying24 rfl sz24) ?_
    clear a E;intro a E
    obtain ⟨u11, hx12, hm⟩ := bnd hm
    refine st_call E (wn rfl) rfl rfl (x_call E rfl rfl (cf27 _)) (c_cantonref06_create v1 l2 (⟨x3.Kind, x3.Path, x3.Data, x3.Version, x3.Owner, x3.Turns⟩ : S_api_Op) H hr10 hx12) ?_
    clear E H; clear a; clear w; rintro _ w ⟨v13, v14, rfl, H⟩ a E
    refine sv E rfl rfl rfl (x_ext E rfl rfl rfl) ?_
    clear a E;intro a E
    refine sv E rfl rfl rfl (x_ext E rfl rfl rfl) ?_
    clear a E;intro a E
    refine sv E rfl rfl rfl (x_assign E rfl rfl) ?_
    clear a E;intro a E
    obtain ⟨q15, x16, rfl⟩ := H.slform (.tail _ (.head _))
    refine st_st (i := 1) E H (wn rfl) rfl (us := [.int .i64 u11.2.Err, .string u11.2.Path, .string u11.2.Data, .int .i64 u11.2.Version, (.slice q15 u11.2.Names.length x16)]) rfl rfl rfl rfl rfl sz31 rfl rfl ?_
    clear H; clear w; intro w H
    replace H : Sep w (Blk p5 24 [.int .i64 x3.Kind, .string x3.Path, .string x3.Data, .int .i64 x3.Version, .int .i64 x3.Owner, .bool x3.Turns] :: Blk p6 31 [.int .i64 u11.2.Err, .string u11.2.Path, .string u11.2.Data, .int .i64 u11.2.Version, (.slice q15 u11.2.Names.length x16)] :: Fo) _ := H
    refine wpList_nil ?_
    refine q_then ?_
    refine wp_ret ?_
    refine q_thenR ?_
    refine outR2 E rfl (rvT rfl) (rvBN (i := 1) (us := [.int .i64 u11.2.Err, .string u11.2.Path, .string u11.2.Data, .int .i64 u11.2.Version, (.slice q15 u11.2.Names.length x16)]) H rfl rfl rfl Tryz.underlying31 rfl sz31) ?_
    replace H := H.drop 0
    replace H := H.drop 0
    obtain rfl := Option.some.inj hm
    exact ⟨v13, (.slice q15 u11.2.Names.length x16), rfl, H.reads (sub_cons (.head _) (sub_cons (.tail _ (.head _)) (fun r hr => .tail _ (.tail _ (hs9 r hr)))))⟩
   ·intro hb
    rw [if_f hb] at hm
    clear hb
    refine wp_skip ?_
    refine q_then ?_
    refine wp_seq ?_
    refine wp_region_lit ?_
    refine sv E rfl rfl rfl (x_move E rfl rfl) ?_
    clear a E;intro a E
    refine sv E rfl rfl rfl (x_fa E rfl rfl (v := .pointer (some ⟨p5, 1, none⟩)) (fa24_1 _ _)) ?_
    clear a E;intro a E
    refine sv E rfl rfl rfl (x_ldB (i := 0) E H rfl rfl rfl rfl Tryz.underlying9 rfl) ?_
    clear a E;intro a E
    obtain ⟨u17, hx18, hm⟩ := bnd hm
    refine st_call E (wn rfl) rfl rfl (x_call E rfl rfl (cf10 _)) (c_cantonref06_Find v1 l2 x3.Path H hr10 hx18) ?_
    clear E H; clear a; clear w; rintro _ w ⟨rfl, H⟩ a E
    refine sv E rfl rfl rfl (x_move E rfl rfl) ?_
    clear a E;intro a E
    refine sv E rfl rfl rfl (x_ext E rfl rfl rfl) ?_
    clear a E;intro a E
    refine sv E rfl rfl rfl (x_ext E rfl rfl rfl) ?_
    clear a E;intro a E
    refine st_alloc E H (wn rfl) rfl rfl (cs := [.string (ByteArray.mk #[]), .string (ByteArray.mk #[]), .int .i64 0, .int .i64 0, .int .i64 0]) rfl (z := .agg #[.string ⟨#[]⟩, .string ⟨#[]⟩, .int .i64 0, .int .i64 0, .int .i64 0]) (by kernel_rfl) rfl ?_
    clear E H; clear a; clear w; intro p19 w a H E
    refine st_st (i := 0) E H (wn rfl) rfl (us := [.string u17.1.Path, .string u17.1.Data, .int .i64 u17.1.Version, .int .i64 u17.1.Turn, .int .i64 u17.1.Owner]) rfl rfl rfl rfl rfl sz35 rfl rfl ?_
    clear H; clear w; intro w H
    replace H : Sep w (Blk p19 35 [.string u17.1.Path, .string u17.1.Data, .int .i64 u17.1.Version, .int .i64 u17.1.Turn, .int .i64 u17.1.Owner] :: Blk p5 24 [.int .i64 x3.Kind, .string x3.Path, .string x3.Data, .int .i64 x3.Version, .int .i64 x3.Owner, .bool x3.Turns] :: Blk p6 31 [.int .i64 0, .string (ByteArray.mk #[]), .string (ByteArray.mk #[]), .int .i64 0, .slice none 0 0] :: Fo) _ := H
    refine sv E rfl rfl rfl (x_assign E rfl rfl) ?_
    clear a E;intro a E
    refine wpList_nil ?_
    refine q_then ?_
    refine wp_seq ?_
    refine wp_seq ?_
    refine wp_region_lit ?_
    refine sv E rfl rfl rfl (x_move E rfl rfl) ?_
    clear a E;intro a E
    refine sv E rfl rfl rfl (x_not E rfl rfl) ?_
    clear a E;intro a E
    refine wpList_nil ?_
    refine q_then ?_
    refine wp_if E rfl ?_ ?_
    ·intro hb
     rw [if_t hb] at hm
     clear hb
     refine wp_seq ?_
     refine wp_region_lit ?_
     refine sv E rfl rfl rfl (x_move E rfl rfl) ?_
     clear a E;intro a E
     refine sv E rfl rfl rfl (x_build E (ps := [(0, .const (.int .i64 62))]) (vs := [(0, .int .i64 62)]) rfl (by simp only [List.map]; rw [E.eval (x := .const (.int .i64 62)) (v := .int .i64 62) rfl]) (v := .agg #[.int .i64 62, .string (ByteArray.mk #[]), .string (ByteArray.mk #[]), .int .i64 0, .slice none 0 0]) (by kernel_rfl)) ?_
     clear a E;intro a E
     refine sv E rfl rfl rfl (x_assign E rfl rfl) ?_
     clear a E;intro a E
     refine st_st (i := 2) E H (wn rfl) rfl (us := [.int .i64 62, .string (ByteArray.mk #[]), .string (ByteArray.mk #[]), .int .i64 0, .slice none 0 0]) rfl rfl rfl rfl rfl sz31 rfl rfl ?_
     clear H; clear w; intro w H
     replace H : Sep w (Blk p19 35 [.string u17.1.Path, .string u17.1.Data, .int .i64 u17.1.Version, .int .i64 u17.1.Turn, .int .i64 u17.1.Owner] :: Blk p5 24 [.int .i64 x3.Kind, .string x3.Path, .string x3.Data, .int .i64 x3.Version, .int .i64 x3.Owner, .bool x3.Turns] :: Blk p6 31 [.int .i64 62, .string (ByteArray.mk #[]), .string (ByteArray.mk #[]), .int .i64 0, .slice none 0 0] :: Fo) _ := H
     refine wpList_nil ?_
     refine q_then ?_
     refine wp_ret ?_
     refine q_thenR ?_
     refine outR2 E rfl (rvT rfl) (rvBN (i := 2) (us := [.int .i64 62, .string (ByteArray.mk #[]), .string (ByteArray.mk #[]), .int .i64 0, .slice none 0 0]) H rfl rfl rfl Tryz.underlying31 rfl sz31) ?_
     replace H := H.nilSl kS
     replace H := H.drop 0
     replace H := H.drop 0
     replace H := H.drop 0
     obtain rfl := Option.some.inj hm
     exact ⟨v1, (.slice none 0 0), rfl, H.reads (sub_cons (.tail _ hr10) (sub_cons (.head _) (fun r hr => .tail _ (hs9 r hr))))⟩
    ·intro hb
     rw [if_f hb] at hm
     clear hb
     refine wp_skip ?_
     refine q_then ?_
     refine wp_seq_cut (fun a w => ∃ (b20 : Bool) (rs21 : List Rp), Env 165 a [(0, v1), (3, .pointer (some ⟨p5, 0, none⟩)), (5, .pointer (some ⟨p6, 0, none⟩)), (6, .pointer (some ⟨p19, 0, none⟩)), (8, .bool b20)] ∧ Sep w (Blk p5 24 [.int .i64 x3.Kind, .string x3.Path, .string x3.Data, .int .i64 x3.Version, .int .i64 x3.Owner, .bool x3.Turns] :: Blk p6 31 [.int .i64 0, .string (ByteArray.mk #[]), .string (ByteArray.mk #[]), .int .i64 0, .slice none 0 0] :: Blk p19 35 [.string u17.1.Path, .string u17.1.Data, .int .i64 u17.1.Version, .int .i64 u17.1.Turn, .int .i64 u17.1.Owner] :: Fo) rs21 ∧ (∀ r, r ∈ rs → r ∈ rs21) ∧ rSl k_api_Node v1 l2 ∈ rs21 ∧ m_cantonref06_Apply_j2 x3 l2 u17 b20 = some r) ?_ ?_
     ·refine wp_region_lit ?_
      refine sv E rfl rfl rfl (x_fa E rfl rfl (v := .pointer (some ⟨p5, 0, none⟩)) (fa24_0 _ _)) ?_
      clear a E;intro a E
      refine sv E rfl rfl rfl (x_ldB (i := 1) E H rfl rfl rfl rfl Tryz.underlying3 rfl) ?_
      clear a E;intro a E
      refine sv E rfl rfl rfl (x_bin E rfl rfl rfl rfl) ?_
      clear a E;intro a E
      refine sv E rfl rfl rfl (x_move E rfl rfl) ?_
      clear a E;intro a E
      rcases Bool.eq_false_or_eq_true (x3.Kind == 2) with hb92 | hb92
      ·rw [if_t hb92] at hm
       refine st_no E (wf' E rfl rfl rfl rfl hb92 rfl) rfl rfl ?_
       clear a E;intro a E
       refine st_no E (wf' E rfl rfl rfl rfl hb92 rfl) rfl rfl ?_
       clear a E;intro a E
       refine st_no E (wf' E rfl rfl rfl rfl hb92 rfl) rfl rfl ?_
       clear a E;intro a E
       refine sv E rfl rfl rfl (x_pickT E rfl rfl hb92 rfl) ?_
       clear a E;intro a E
       refine sv E rfl rfl rfl (x_move E rfl rfl) ?_
       clear a E;intro a E
       refine st_no E (wf E rfl rfl rfl rfl rfl) rfl rfl ?_
       clear a E;intro a E
       refine st_no E (wf E rfl rfl rfl rfl rfl) rfl rfl ?_
       clear a E;intro a E
       refine st_no E (wf E rfl rfl rfl rfl rfl) rfl rfl ?_
       clear a E;intro a E
       refine sv E rfl rfl rfl (x_pickT E rfl rfl rfl rfl) ?_
       clear a E;intro a E
       refine sv E rfl rfl rfl (x_assign E rfl rfl) ?_
       clear a E;intro a E
       refine wpList_nil ?_
       refine q_then ?_
       replace H := H.front 0 rfl
       replace H := H.front 2 rfl
       replace H := H.front 2 rfl
       exact ⟨true, _, (((((E.nil.keep E 8 rfl).keep E 6 rfl).keep E 5 rfl).keep E 3 rfl).keep E 0 rfl), H, hs9, hr10, hm⟩
      ·rw [if_f hb92] at hm
       refine st_val E (ws' E rfl rfl rfl rfl hb92) rfl rfl (x_fa E rfl rfl (v := .pointer (some ⟨p5, 0, none⟩)) (fa24_0 _ _)) ?_
       clear a E;intro a E
       refine st_val E (ws' E rfl rfl rfl rfl hb92) rfl rfl (x_ldB (i := 1) E H rfl rfl rfl rfl Tryz.underlying3 rfl) ?_
       clear a E;intro a E
       refine st_val E (ws' E rfl rfl rfl rfl hb92) rfl rfl (x_bin E rfl rfl rfl rfl) ?_
       clear a E;intro a E
       refine sv E rfl rfl rfl (x_pickF E rfl rfl hb92 rfl) ?_
       clear a E;intro a E
       refine sv E rfl rfl rfl (x_move E rfl rfl) ?_
       clear a E;intro a E
       rcases Bool.eq_false_or_eq_true (x3.Kind == 3) with hb93 | hb93
       ·rw [if_t hb93] at hm
        refine st_no E (wf' E rfl rfl rfl rfl hb93 rfl) rfl rfl ?_
        clear a E;intro a E
        refine st_no E (wf' E rfl rfl rfl rfl hb93 rfl) rfl rfl ?_
        clear a E;intro a E
        refine st_no E (wf' E rfl rfl rfl rfl hb93 rfl) rfl rfl ?_
        clear a E;intro a E
        refine sv E rfl rfl rfl (x_pickT E rfl rfl hb93 rfl) ?_
        clear a E;intro a E
        refine sv E rfl rfl rfl (x_assign E rfl rfl) ?_
        clear a E;intro a E
        refine wpList_nil ?_
        refine q_then ?_
        replace H := H.front 0 rfl
        replace H := H.front 2 rfl
        replace H := H.front 2 rfl
        exact ⟨true, _, (((((E.nil.keep E 8 rfl).keep E 6 rfl).keep E 5 rfl).keep E 3 rfl).keep E 0 rfl), H, hs9, hr10, hm⟩
       ·rw [if_f hb93] at hm
        refine st_val E (ws' E rfl rfl rfl rfl hb93) rfl rfl (x_fa E rfl rfl (v := .pointer (some ⟨p5, 0, none⟩)) (fa24_0 _ _)) ?_
        clear a E;intro a E
        refine st_val E (ws' E rfl rfl rfl rfl hb93) rfl rfl (x_ldB (i := 1) E H rfl rfl rfl rfl Tryz.underlying3 rfl) ?_
        clear a E;intro a E
        refine st_val E (ws' E rfl rfl rfl rfl hb93) rfl rfl (x_bin E rfl rfl rfl rfl) ?_
        clear a E;intro a E
        refine sv E rfl rfl rfl (x_pickF E rfl rfl hb93 rfl) ?_
        clear a E;intro a E
        refine sv E rfl rfl rfl (x_assign E rfl rfl) ?_
        clear a E;intro a E
        refine wpList_nil ?_
        refine q_then ?_
        replace H := H.front 0 rfl
        replace H := H.front 2 rfl
        replace H := H.front 2 rfl
        exact ⟨x3.Kind == 4, _, (((((E.nil.keep E 8 rfl).keep E 6 rfl).keep E 5 rfl).keep E 3 rfl).keep E 0 rfl), H, hs9, hr10, hm⟩
     ·clear E H hm
      rintro a w ⟨b20, rs21, E, H, hs22, hr23, hm⟩
      unfold m_cantonref06_Apply_j2 at hm
      refine wp_seq ?_
      refine wp_seq_cut (fun a w => ∃ (b24 : Bool) (rs25 : List Rp), Env 165 a [(0, v1), (3, .pointer (some ⟨p5, 0, none⟩)), (5, .pointer (some ⟨p6, 0, none⟩)), (6, .pointer (some ⟨p19, 0, none⟩)), (65, .bool b24)] ∧ Sep w (Blk p5 24 [.int .i64 x3.Kind, .string x3.Path, .string x3.Data, .int .i64 x3.Version, .int .i64 x3.Owner, .bool x3.Turns] :: Blk p6 31 [.int .i64 0, .string (ByteArray.mk #[]), .string (ByteArray.mk #[]), .int .i64 0, .slice none 0 0] :: Blk p19 35 [.string u17.1.Path, .string u17.1.Data, .int .i64 u17.1.Version, .int .i64 u17.1.Turn, .int .i64 u17.1.Owner] :: Fo) rs25 ∧ (∀ r, r ∈ rs → r ∈ rs25) ∧ rSl k_api_Node v1 l2 ∈ rs25 ∧ m_cantonref06_Apply_j3 x3 l2 u17 b24 = some r) ?_ ?_
      ·refine wp_region_lit ?_
       refine sv E rfl rfl rfl (x_move E rfl rfl) ?_
       clear a E;intro a E
       refine sv E rfl rfl rfl (x_move E rfl rfl) ?_
       clear a E;intro a E
       rcases Bool.eq_false_or_eq_true b20 with hb90 | hb90
       ·rw [if_t hb90] at hm
        refine st_val E (ws' E rfl rfl rfl rfl hb90) rfl rfl (x_fa E rfl rfl (v := .pointer (some ⟨p5, 3, none⟩)) (fa24_3 _ _)) ?_
        clear a E;intro a E
        refine st_val E (ws' E rfl rfl rfl rfl hb90) rfl rfl (x_ldB (i := 0) E H rfl rfl rfl rfl Tryz.underlying2 rfl) ?_
        clear a E;intro a E
        refine st_val E (ws' E rfl rfl rfl rfl hb90) rfl rfl (x_bin E rfl rfl rfl rfl) ?_
        clear a E;intro a E
        refine sv E rfl rfl rfl (x_pickT E rfl rfl hb90 rfl) ?_
        clear a E;intro a E
        refine sv E rfl rfl rfl (x_move E rfl rfl) ?_
        clear a E;intro a E
        rcases Bool.eq_false_or_eq_true (decide (x3.Version ≥ 0)) with hb91 | hb91
        ·rw [if_t hb91] at hm
         refine st_val E (ws' E rfl rfl rfl rfl hb91) rfl rfl (x_fa E rfl rfl (v := .pointer (some ⟨p5, 3, none⟩)) (fa24_3 _ _)) ?_
         clear a E;intro a E
         refine st_val E (ws' E rfl rfl rfl rfl hb91) rfl rfl (x_ldB (i := 0) E H rfl rfl rfl rfl Tryz.underlying2 rfl) ?_
         clear a E;intro a E
         refine st_val E (ws' E rfl rfl rfl rfl hb91) rfl rfl (x_fa E rfl rfl (v := .pointer (some ⟨p19, 2, none⟩)) (fa35_2 _ _)) ?_
         clear a E;intro a E
         refine st_val E (ws' E rfl rfl rfl rfl hb91) rfl rfl (x_ldB (i := 2) E H rfl rfl rfl rfl Tryz.underlying2 rfl) ?_
         clear a E;intro a E
         refine st_val E (ws' E rfl rfl rfl rfl hb91) rfl rfl (x_bin E rfl rfl rfl rfl) ?_
         clear a E;intro a E
         refine sv E rfl rfl rfl (x_pickT E rfl rfl hb91 rfl) ?_
         clear a E;intro a E
         refine wpList_nil ?_
         refine q_then ?_
         exact ⟨x3.Version != u17.1.Version, _, (((((E.nil.keep E 65 rfl).keep E 6 rfl).keep E 5 rfl).keep E 3 rfl).keep E 0 rfl), H, hs22, hr23, hm⟩
        ·rw [if_f hb91] at hm
         refine st_no E (wf' E rfl rfl rfl rfl hb91 rfl) rfl rfl ?_
         clear a E;intro a E
         refine st_no E (wf' E rfl rfl rfl rfl hb91 rfl) rfl rfl ?_
         clear a E;intro a E
         refine st_no E (wf' E rfl rfl rfl rfl hb91 rfl) rfl rfl ?_
         clear a E;intro a E
         refine st_no E (wf' E rfl rfl rfl rfl hb91 rfl) rfl rfl ?_
         clear a E;intro a E
         refine st_no E (wf' E rfl rfl rfl rfl hb91 rfl) rfl rfl ?_
         clear a E;intro a E
         refine sv E rfl rfl rfl (x_pickF E rfl rfl hb91 rfl) ?_
         clear a E;intro a E
         refine wpList_nil ?_
         refine q_then ?_
         exact ⟨false, _, (((((E.nil.keep E 65 rfl).keep E 6 rfl).keep E 5 rfl).keep E 3 rfl).keep E 0 rfl), H, hs22, hr23, hm⟩
       ·rw [if_f hb90] at hm
        refine st_no E (wf' E rfl rfl rfl rfl hb90 rfl) rfl rfl ?_
        clear a E;intro a E
        refine st_no E (wf' E rfl rfl rfl rfl hb90 rfl) rfl rfl ?_
        clear a E;intro a E
        refine st_no E (wf' E rfl rfl rfl rfl hb90 rfl) rfl rfl ?_
        clear a E;intro a E
        refine sv E rfl rfl rfl (x_pickF E rfl rfl hb90 rfl) ?_
        clear a E;intro a E
        refine sv E rfl rfl rfl (x_move E rfl rfl) ?_
        clear a E;intro a E
        refine st_no E (wf E rfl rfl rfl rfl rfl) rfl rfl ?_
        clear a E;intro a E
        refine st_no E (wf E rfl rfl rfl rfl rfl) rfl rfl ?_
        clear a E;intro a E
        refine st_no E (wf E rfl rfl rfl rfl rfl) rfl rfl ?_
        clear a E;intro a E
        refine st_no E (wf E rfl rfl rfl rfl rfl) rfl rfl ?_
        clear a E;intro a E
        refine st_no E (wf E rfl rfl rfl rfl rfl) rfl rfl ?_
        clear a E;intro a E
        refine sv E rfl rfl rfl (x_pickF E rfl rfl rfl rfl) ?_
        clear a E;intro a E
        refine wpList_nil ?_
        refine q_then ?_
        exact ⟨false, _, (((((E.nil.keep E 65 rfl).keep E 6 rfl).keep E 5 rfl).keep E 3 rfl).keep E 0 rfl), H, hs22, hr23, hm⟩
      ·clear E H hm
       rintro a w ⟨b24, rs25, E, H, hs26, hr27, hm⟩
       unfold m_cantonref06_Apply_j3 at hm
       refine wp_if E rfl ?_ ?_
       ·intro hb
        rw [if_t hb] at hm
        clear hb
        refine wp_seq ?_
        refine wp_region_lit ?_
        refine sv E rfl rfl rfl (x_move E rfl rfl) ?_
        clear a E;intro a E
        refine sv E rfl rfl rfl (x_build E (ps := [(0, .const (.int .i64 63))]) (vs := [(0, .int .i64 63)]) rfl (by simp only [List.map]; rw [E.eval (x := .const (.int .i64 63)) (v := .int .i64 63) rfl]) (v := .agg #[.int .i64 63, .string (ByteArray.mk #[]), .string (ByteArray.mk #[]), .int .i64 0, .slice none 0 0]) (by kernel_rfl)) ?_
        clear a E;intro a E
        refine sv E rfl rfl rfl (x_assign E rfl rfl) ?_
        clear a E;intro a E
        refine st_st (i := 1) E H (wn rfl) rfl (us := [.int .i64 63, .string (ByteArray.mk #[]), .string (ByteArray.mk #[]), .int .i64 0, .slice none 0 0]) rfl rfl rfl rfl rfl sz31 rfl rfl ?_
        clear H; clear w; intro w H
        replace H : Sep w (Blk p5 24 [.int .i64 x3.Kind, .string x3.Path, .string x3.Data, .int .i64 x3.Version, .int .i64 x3.Owner, .bool x3.Turns] :: Blk p6 31 [.int .i64 63, .string (ByteArray.mk #[]), .string (ByteArray.mk #[]), .int .i64 0, .slice none 0 0] :: Blk p19 35 [.string u17.1.Path, .string u17.1.Data, .int .i64 u17.1.Version, .int .i64 u17.1.Turn, .int .i64 u17.1.Owner] :: Fo) _ := H
        refine wpList_nil ?_
        refine q_then ?_
        refine wp_ret ?_
        refine q_thenR ?_
        refine outR2 E rfl (rvT rfl) (rvBN (i := 1) (us := [.int .i64 63, .string (ByteArray.mk #[]), .string (ByteArray.mk #[]), .int .i64 0, .slice none 0 0]) H rfl rfl rfl Tryz.underlying31 rfl sz31) ?_
        replace H := H.nilSl kS
        replace H := H.drop 0
        replace H := H.drop 0
        replace H := H.drop 0
        obtain rfl := Option.some.inj hm
        exact ⟨v1, (.slice none 0 0), rfl, H.reads (sub_cons (.tail _ hr27) (sub_cons (.head _) (fun r hr => .tail _ (hs26 r hr))))⟩
       ·intro hb
        rw [if_f hb] at hm
        clear hb
        refine wp_skip ?_
        refine q_then ?_
        refine wp_seq ?_
        refine wp_region_lit ?_
        refine sv E rfl rfl rfl (x_move E rfl rfl) ?_
        clear a E;intro a E
        refine sv E rfl rfl rfl (x_fa E rfl rfl (v := .pointer (some ⟨p5, 1, none⟩)) (fa24_1 _ _)) ?_
        clear a E;intro a E
        refine sv E rfl rfl rfl (x_ldB (i := 0) E H rfl rfl rfl rfl Tryz.underlying9 rfl) ?_
        clear a E;intro a E
        obtain ⟨u28, hx29, hm⟩ := bnd hm
        refine st_call E (wn rfl) rfl rfl (x_call E rfl rfl (cf28 _)) (c_cantonref06_Children v1 l2 x3.Path H hr27 hx29) ?_
        clear E H; clear a; clear w; rintro _ w ⟨v30, rfl, H⟩ a E
        refine sv E rfl rfl rfl (x_assign E rfl rfl) ?_
        clear a E;intro a E
        refine wpList_nil ?_
        refine q_then ?_
        refine wp_seq ?_
        refine wp_seq ?_
        refine wp_region_lit ?_
        refine sv E rfl rfl rfl (x_fa E rfl rfl (v := .pointer (some ⟨p5, 0, none⟩)) (fa24_0 _ _)) ?_
        clear a E;intro a E
        refine sv E rfl rfl rfl (x_ldB (i := 1) E H rfl rfl rfl rfl Tryz.underlying3 rfl) ?_
        clear a E;intro a E
        refine wpList_nil ?_
        refine q_then ?_
        refine wp_block ?_
        refine wp_seq ?_
        refine wp_region_lit ?_
        refine sv E rfl rfl rfl (x_bin E rfl rfl rfl rfl) ?_
        clear a E;intro a E
        refine sv E rfl rfl rfl (x_assign E rfl rfl) ?_
        clear a E;intro a E
        refine wpList_nil ?_
        refine q_then ?_
        refine wp_if E rfl ?_ ?_
        ·intro hb
         rw [if_t hb] at hm
         clear hb
         refine wp_seq ?_
         refine wp_seq ?_
         refine wp_region_lit ?_
         refine sv E rfl rfl rfl (x_move E rfl rfl) ?_
         clear a E;intro a E
         refine sv E rfl rfl rfl (x_lenR (i := 0) E H rfl rfl rfl Tryz.underlying22) ?_
         clear a E;intro a E
         refine sv E rfl rfl rfl (x_bin E rfl rfl rfl rfl) ?_
         clear a E;intro a E
         refine wpList_nil ?_
         refine q_then ?_
         refine wp_if E rfl ?_ ?_
         ·intro hb
          rw [if_t hb] at hm
          clear hb
          refine wp_seq ?_
          refine wp_region_lit ?_
          refine sv E rfl rfl rfl (x_move E rfl rfl) ?_
          clear a E;intro a E
          refine sv E rfl rfl rfl (x_build E (ps := [(0, .const (.int .i64 64))]) (vs := [(0, .int .i64 64)]) rfl (by simp only [List.map]; rw [E.eval (x := .const (.int .i64 64)) (v := .int .i64 64) rfl]) (v := .agg #[.int .i64 64, .string (ByteArray.mk #[]), .string (ByteArray.mk #[]), .int .i64 0, .slice none 0 0]) (by kernel_rfl)) ?_
          clear a E;intro a E
          refine sv E rfl rfl rfl (x_assign E rfl rfl) ?_
          clear a E;intro a E
          refine st_st (i := 2) E H (wn rfl) rfl (us := [.int .i64 64, .string (ByteArray.mk #[]), .string (ByteArray.mk #[]), .int .i64 0, .slice none 0 0]) rfl rfl rfl rfl rfl sz31 rfl rfl ?_
          clear H; clear w; intro w H
          replace H : Sep w (Row 35 k_api_Node v30 u28 :: Blk p5 24 [.int .i64 x3.Kind, .string x3.Path, .string x3.Data, .int .i64 x3.Version, .int .i64 x3.Owner, .bool x3.Turns] :: Blk p6 31 [.int .i64 64, .string (ByteArray.mk #[]), .string (ByteArray.mk #[]), .int .i64 0, .slice none 0 0] :: Blk p19 35 [.string u17.1.Path, .string u17.1.Data, .int .i64 u17.1.Version, .int .i64 u17.1.Turn, .int .i64 u17.1.Owner] :: Fo) _ := H
          refine wpList_nil ?_
          refine q_then ?_
          refine wp_ret ?_
          refine q_thenR ?_
          refine q_blkR ?_
          refine q_thenR ?_
          refine outR2 E rfl (rvT rfl) (rvBN (i := 2) (us := [.int .i64 64, .string (ByteArray.mk #[]), .string (ByteArray.mk #[]), .int .i64 0, .slice none 0 0]) H rfl rfl rfl Tryz.underlying31 rfl sz31) ?_
          replace H := H.nilSl kS
          replace H := H.drop 0
          replace H := H.drop 0
          replace H := H.drop 0
          replace H := H.drop 0
          obtain rfl := Option.some.inj hm
          exact ⟨v1, (.slice none 0 0), rfl, H.reads (sub_cons (.tail _ hr27) (sub_cons (.head _) (fun r hr => .tail _ (hs26 r hr))))⟩
         ·intro hb
          rw [if_f hb] at hm
          clear hb
          refine wp_skip ?_
          refine q_then ?_
          refine wp_seq ?_
          refine wp_region_lit ?_
          refine sv E rfl rfl rfl (x_move E rfl rfl) ?_
          clear a E;intro a E
          refine sv E rfl rfl rfl (x_fa E rfl rfl (v := .pointer (some ⟨p5, 1, none⟩)) (fa24_1 _ _)) ?_
          clear a E;intro a E
          refine sv E rfl rfl rfl (x_ldB (i := 1) E H rfl rfl rfl rfl Tryz.underlying9 rfl) ?_
          clear a E;intro a E
          obtain ⟨u31, hx32, hm⟩ := bnd hm
          refine st_call E (wn rfl) rfl rfl (x_call E rfl rfl (cf29 _)) (c_cantonref06_without v1 l2 x3.Path H hr27 hx32) ?_
          clear E H; clear a; clear w; rintro _ w ⟨v33, rfl, H⟩ a E
          refine sv E rfl rfl rfl (x_build E (ps := []) (vs := []) rfl rfl (v := .agg #[.int .i64 0, .string (ByteArray.mk #[]), .string (ByteArray.mk #[]), .int .i64 0, .slice none 0 0]) (by kernel_rfl)) ?_
          clear a E;intro a E
          refine sv E rfl rfl rfl (x_assign E rfl rfl) ?_
          clear a E;intro a E
          refine st_st (i := 3) E H (wn rfl) rfl (us := [.int .i64 0, .string (ByteArray.mk #[]), .string (ByteArray.mk #[]), .int .i64 0, .slice none 0 0]) rfl rfl rfl rfl rfl sz31 rfl rfl ?_
          clear H; clear w; intro w H
          replace H : Sep w (Row 35 k_api_Node v33 u31 :: Row 35 k_api_Node v30 u28 :: Blk p5 24 [.int .i64 x3.Kind, .string x3.Path, .string x3.Data, .int .i64 x3.Version, .int .i64 x3.Owner, .bool x3.Turns] :: Blk p6 31 [.int .i64 0, .string (ByteArray.mk #[]), .string (ByteArray.mk #[]), .int .i64 0, .slice none 0 0] :: Blk p19 35 [.string u17.1.Path, .string u17.1.Data, .int .i64 u17.1.Version, .int .i64 u17.1.Turn, .int .i64 u17.1.Owner] :: Fo) _ := H
          refine wpList_nil ?_
          refine q_then ?_
          refine wp_ret ?_
          refine q_blkR ?_
          refine q_thenR ?_
          refine outR2 E rfl (rvT rfl) (rvBN (i := 3) (us := [.int .i64 0, .string (ByteArray.mk #[]), .string (ByteArray.mk #[]), .int .i64 0, .slice none 0 0]) H rfl rfl rfl Tryz.underlying31 rfl sz31) ?_
          replace H := H.thaw (i := 0) rfl
          replace H := H.nilSl kS
          replace H := H.drop 0
          replace H := H.drop 0
          replace H := H.drop 0
          replace H := H.drop 0
          obtain rfl := Option.some.inj hm
          exact ⟨v33, (.slice none 0 0), rfl, H.reads (sub_cons (.tail _ (.head _)) (sub_cons (.head _) (fun r hr => .tail _ (.tail _ (hs26 r hr)))))⟩
        ·intro hb
         rw [if_f hb] at hm
         clear hb
         refine wp_seq ?_
         refine wp_region_lit ?_
         refine sv E rfl rfl rfl (x_bin E rfl rfl rfl rfl) ?_
         clear a E;intro a E
         refine sv E rfl rfl rfl (x_assign E rfl rfl) ?_
         clear a E;intro a E
         refine wpList_nil ?_
         refine q_then ?_
         refine wp_if E rfl ?_ ?_
         ·intro hb
          rw [if_t hb] at hm
          clear hb
          refine wp_seq ?_
          refine wp_seq ?_
          refine wp_region_lit ?_
          refine sv E rfl rfl rfl (x_fa E rfl rfl (v := .pointer (some ⟨p19, 2, none⟩)) (fa35_2 _ _)) ?_
          clear a E;intro a E
          refine sv E rfl rfl rfl (x_ldB (i := 3) E H rfl rfl rfl rfl Tryz.underlying2 rfl) ?_
          clear a E;intro a E
          refine sv E rfl rfl rfl (x_bin E rfl rfl rfl rfl) ?_
          clear a E;intro a E
          refine wpList_nil ?_
          refine q_then ?_
          refine wp_if E rfl ?_ ?_
          ·intro hb
           rw [if_t hb] at hm
           clear hb
           refine wp_seq ?_
           refine wp_region_lit ?_
           refine sv E rfl rfl rfl (x_move E rfl rfl) ?_
           clear a E;intro a E
           refine sv E rfl rfl rfl (x_build E (ps := [(0, .const (.int .i64 2))]) (vs := [(0, .int .i64 2)]) rfl (by simp only [List.map]; rw [E.eval (x := .const (.int .i64 2)) (v := .int .i64 2) rfl]) (v := .agg #[.int .i64 2, .string (ByteArray.mk #[]), .string (ByteArray.mk #[]), .int .i64 0, .slice none 0 0]) (by kernel_rfl)) ?_
           clear a E;intro a E
           refine sv E rfl rfl rfl (x_assign E rfl rfl) ?_
           clear a E;intro a E
           refine st_st (i := 2) E H (wn rfl) rfl (us := [.int .i64 2, .string (ByteArray.mk #[]), .string (ByteArray.mk #[]), .int .i64 0, .slice none 0 0]) rfl rfl rfl rfl rfl sz31 rfl rfl ?_
           clear H; clear w; intro w H
           replace H : Sep w (Row 35 k_api_Node v30 u28 :: Blk p5 24 [.int .i64 x3.Kind, .string x3.Path, .string x3.Data, .int .i64 x3.Version, .int .i64 x3.Owner, .bool x3.Turns] :: Blk p6 31 [.int .i64 2, .string (ByteArray.mk #[]), .string (ByteArray.mk #[]), .int .i64 0, .slice none 0 0] :: Blk p19 35 [.string u17.1.Path, .string u17.1.Data, .int .i64 u17.1.Version, .int .i64 u17.1.Turn, .int .i64 u17.1.Owner] :: Fo) _ := H
           refine wpList_nil ?_
           refine q_then ?_
           refine wp_ret ?_
           refine q_thenR ?_
           refine q_blkR ?_
           refine q_thenR ?_
           refine outR2 E rfl (rvT rfl) (rvBN (i := 2) (us := [.int .i64 2, .string (ByteArray.mk #[]), .string (ByteArray.mk #[]), .int .i64 0, .slice none 0 0]) H rfl rfl rfl Tryz.underlying31 rfl sz31) ?_
           replace H := H.nilSl kS
           replace H := H.drop 0
           replace H := H.drop 0
           replace H := H.drop 0
           replace H := H.drop 0
           obtain rfl := Option.some.inj hm
           exact ⟨v1, (.slice none 0 0), rfl, H.reads (sub_cons (.tail _ hr27) (sub_cons (.head _) (fun r hr => .tail _ (hs26 r hr))))⟩
          ·intro hb
           rw [if_f hb] at hm
           clear hb
           refine wp_skip ?_
           refine q_then ?_
           refine wp_seq ?_
           refine wp_region_lit ?_
           refine sv E rfl rfl rfl (x_fa E rfl rfl (v := .pointer (some ⟨p5, 2, none⟩)) (fa24_2 _ _)) ?_
           clear a E;intro a E
           refine sv E rfl rfl rfl (x_ldB (i := 1) E H rfl rfl rfl rfl Tryz.underlying9 rfl) ?_
           clear a E;intro a E
           refine sv E rfl rfl rfl (x_fa E rfl rfl (v := .pointer (some ⟨p19, 1, none⟩)) (fa35_1 _ _)) ?_
           clear a E;intro a E
           refine st_st (i := 3) E H (wn rfl) rfl (us := [.string x3.Data]) rfl rfl rfl rfl rfl sz9 rfl rfl ?_
           clear H; clear w; intro w H
           replace H : Sep w (Row 35 k_api_Node v30 u28 :: Blk p5 24 [.int .i64 x3.Kind, .string x3.Path, .string x3.Data, .int .i64 x3.Version, .int .i64 x3.Owner, .bool x3.Turns] :: Blk p6 31 [.int .i64 0, .string (ByteArray.mk #[]), .string (ByteArray.mk #[]), .int .i64 0, .slice none 0 0] :: Blk p19 35 [.string u17.1.Path, .string x3.Data, .int .i64 u17.1.Version, .int .i64 u17.1.Turn, .int .i64 u17.1.Owner] :: Fo) _ := H
           refine wpList_nil ?_
           refine q_then ?_
           refine wp_seq ?_
           refine wp_region_lit ?_
           refine sv E rfl rfl rfl (x_fa E rfl rfl (v := .pointer (some ⟨p19, 2, none⟩)) (fa35_2 _ _)) ?_
           clear a E;intro a E
           refine sv E rfl rfl rfl (x_ldB (i := 3) E H rfl rfl rfl rfl Tryz.underlying2 rfl) ?_
           clear a E;intro a E
           refine sv E rfl rfl rfl (x_bin E rfl rfl rfl rfl) ?_
           clear a E;intro a E
           refine sv E rfl rfl rfl (x_fa E rfl rfl (v := .pointer (some ⟨p19, 2, none⟩)) (fa35_2 _ _)) ?_
           clear a E;intro a E
           refine st_st (i := 3) E H (wn rfl) rfl (us := [.int .i64 (IntKind.i64.wrap (u17.1.Version + 1))]) rfl rfl rfl rfl rfl sz2 rfl rfl ?_
           clear H; clear w; intro w H
           replace H : Sep w (Row 35 k_api_Node v30 u28 :: Blk p5 24 [.int .i64 x3.Kind, .string x3.Path, .string x3.Data, .int .i64 x3.Version, .int .i64 x3.Owner, .bool x3.Turns] :: Blk p6 31 [.int .i64 0, .string (ByteArray.mk #[]), .string (ByteArray.mk #[]), .int .i64 0, .slice none 0 0] :: Blk p19 35 [.string u17.1.Path, .string x3.Data, .int .i64 (IntKind.i64.wrap (u17.1.Version + 1)), .int .i64 u17.1.Turn, .int .i64 u17.1.Owner] :: Fo) _ := H
           refine wpList_nil ?_
           refine q_then ?_
           refine wp_seq ?_
           replace H : Sep w (Row 35 k_api_Node v30 u28 :: Blk p5 24 [.int .i64 x3.Kind, .string x3.Path, .string x3.Data, .int .i64 x3.Version, .int .i64 x3.Owner, .bool x3.Turns] :: Blk p6 31 [.int .i64 0, .string (ByteArray.mk #[]), .string (ByteArray.mk #[]), .int .i64 0, .slice none 0 0] :: Blk p19 35 [.string u17.1.Path, .string x3.Data, .int .i64 (IntKind.i64.wrap (u17.1.Version + 1)), .int .i64 u17.1.Turn, .int .i64 u17.1.Owner] :: Fo) (rs25) := H
           have hI : Still [Blk p19 35 [.string u17.1.Path, .string x3.Data, .int .i64 (IntKind.i64.wrap (u17.1.Version + 1)), .int .i64 u17.1.Turn, .int .i64 u17.1.Owner]] [] { w with drawn := w.drawn + 1 } := ⟨_, _, H.kept (Kp.drawn _ w _), (subO_cons (.tail _ (.tail _ (.tail _ (.head _)))) (subO_nil)), (sub_nil)⟩
           refine wp_draw _ [(0, 0), (1, 0), (3, 0), (4, 0), (5, 0), (2, 1), (6, 1), (7, 2)] mixedOk (by kernel_rfl) (fun _ _ _ h => False.elim h.2) hI ?_
           replace H := H.kept (Kp.drawn _ w (w.drawn + 1))
           generalize ({ w with drawn := w.drawn + 1 } : World) = w at H hI ⊢
           replace hI : ∃ W, Still [Blk p19 35 [.string u17.1.Path, .string x3.Data, .int .i64 (IntKind.i64.wrap (u17.1.Version + 1)), .int .i64 u17.1.Turn, .int .i64 u17.1.Owner]] [] W := ⟨_, hI⟩
           obtain ⟨W0, hI⟩ := hI
           refine fr_val E rfl (wn rfl) rfl rfl (fun w hW => (x_move E rfl rfl)) ?_
           clear a E;intro a E
           refine fr_val E rfl (wn rfl) rfl rfl (fun w hW => x_ld E rfl rfl (ib_ldN (us := [.string u17.1.Path, .string x3.Data, .int .i64 (IntKind.i64.wrap (u17.1.Version + 1)), .int .i64 u17.1.Turn, .int .i64 u17.1.Owner]) (.head _) rfl Tryz.underlying35 rfl sz35 w hW)) ?_
           clear a E;intro a E
           refine fr_val E rfl (wn rfl) rfl rfl (fun w hW => x_fa E rfl rfl (v := .pointer (some ⟨p19, 2, none⟩)) (fa35_2 _ _)) ?_
           clear a E;intro a E
           refine fr_val E rfl (wn rfl) rfl rfl (fun w hW => x_ld E rfl rfl (ib_ld (.head _) rfl Tryz.underlying2 rfl w hW)) ?_
           clear a E;intro a E
           refine fr_val E rfl (wn rfl) rfl rfl (fun w hW => (x_build E (ps := [(3, .tmp 104)]) (vs := [(3, .int .i64 (IntKind.i64.wrap (u17.1.Version + 1)))]) rfl (by simp only [List.map]; rw [E.eval (x := .tmp 104) (v := .int .i64 (IntKind.i64.wrap (u17.1.Version + 1))) rfl]) (v := .agg #[.int .i64 0, .string (ByteArray.mk #[]), .string (ByteArray.mk #[]), .int .i64 (IntKind.i64.wrap (u17.1.Version + 1)), .slice none 0 0]) (by kernel_rfl))) ?_
           clear a E;intro a E
           refine fr_op rfl ?_
           obtain ⟨u34, hx35, hm⟩ := bnd hm
           refine st_call E (wn rfl) rfl rfl (x_call E rfl rfl (cf30 _)) (c_cantonref06_Put v1 l2 (⟨u17.1.Path, x3.Data, IntKind.i64.wrap (u17.1.Version + 1), u17.1.Turn, u17.1.Owner⟩ : S_api_Node) H hr27 hx35) ?_
           clear E H; clear a; clear w; rintro _ w ⟨v36, rfl, H⟩ a E
           refine wpList_nil ?_
           refine q_then ?_
           replace H : Sep w (Row 35 k_api_Node v36 u34 :: Row 35 k_api_Node v30 u28 :: Blk p5 24 [.int .i64 x3.Kind, .string x3.Path, .string x3.Data, .int .i64 x3.Version, .int .i64 x3.Owner, .bool x3.Turns] :: Blk p6 31 [.int .i64 0, .string (ByteArray.mk #[]), .string (ByteArray.mk #[]), .int .i64 0, .slice none 0 0] :: Blk p19 35 [.string u17.1.Path, .string x3.Data, .int .i64 (IntKind.i64.wrap (u17.1.Version + 1)), .int .i64 u17.1.Turn, .int .i64 u17.1.Owner] :: Fo) (rs25) := H
           refine ⟨⟨_, _, H, (subO_cons (.tail _ (.tail _ (.tail _ (.tail _ (.head _))))) (subO_nil)), (sub_nil)⟩, ?_⟩
           refine fr_op rfl ?_
           refine sv E rfl rfl rfl (x_assign E rfl rfl) ?_
           clear a E;intro a E
           refine wpList_nil ?_
           refine q_then ?_
           replace H : Sep w (Row 35 k_api_Node v36 u34 :: Row 35 k_api_Node v30 u28 :: Blk p5 24 [.int .i64 x3.Kind, .string x3.Path, .string x3.Data, .int .i64 x3.Version, .int .i64 x3.Owner, .bool x3.Turns] :: Blk p6 31 [.int .i64 0, .string (ByteArray.mk #[]), .string (ByteArray.mk #[]), .int .i64 0, .slice none 0 0] :: Blk p19 35 [.string u17.1.Path, .string x3.Data, .int .i64 (IntKind.i64.wrap (u17.1.Version + 1)), .int .i64 u17.1.Turn, .int .i64 u17.1.Owner] :: Fo) (rs25) := H
           refine ⟨⟨_, _, H, (subO_cons (.tail _ (.tail _ (.tail _ (.tail _ (.head _))))) (subO_nil)), (sub_nil)⟩, ?_⟩
           refine fr_tail rfl ?_
           refine st_st (i := 3) E H (wn rfl) rfl (us := [.int .i64 0, .string (ByteArray.mk #[]), .string (ByteArray.mk #[]), .int .i64 (IntKind.i64.wrap (u17.1.Version + 1)), .slice none 0 0]) rfl rfl rfl rfl rfl sz31 rfl rfl ?_
           clear H; clear w; intro w H
           replace H : Sep w (Row 35 k_api_Node v36 u34 :: Row 35 k_api_Node v30 u28 :: Blk p5 24 [.int .i64 x3.Kind, .string x3.Path, .string x3.Data, .int .i64 x3.Version, .int .i64 x3.Owner, .bool x3.Turns] :: Blk p6 31 [.int .i64 0, .string (ByteArray.mk #[]), .string (ByteArray.mk #[]), .int .i64 (IntKind.i64.wrap (u17.1.Version + 1)), .slice none 0 0] :: Blk p19 35 [.string u17.1.Path, .string x3.Data, .int .i64 (IntKind.i64.wrap (u17.1.Version + 1)), .int .i64 u17.1.Turn, .int .i64 u17.1.Owner] :: Fo) _ := H
           refine wpList_nil ?_
           refine q_then ?_
           refine fr_nil ?_
           clear hI
           refine q_then ?_
           refine wp_ret ?_
           refine q_blkR ?_
           refine q_thenR ?_
           refine outR2 E rfl (rvT rfl) (rvBN (i := 3) (us := [.int .i64 0, .string (ByteArray.mk #[]), .string (ByteArray.mk #[]), .int .i64 (IntKind.i64.wrap (u17.1.Version + 1)), .slice none 0 0]) H rfl rfl rfl Tryz.underlying31 rfl sz31) ?_
           replace H := H.thaw (i := 0) rfl
           replace H := H.nilSl kS
           replace H := H.drop 0
           replace H := H.drop 0
           replace H := H.drop 0
           replace H := H.drop 0
           obtain rfl := Option.some.inj hm
           exact ⟨v36, (.slice none 0 0), rfl, H.reads (sub_cons (.tail _ (.head _)) (sub_cons (.head _) (fun r hr => .tail _ (.tail _ (hs26 r hr)))))⟩
         ·intro hb
          rw [if_f hb] at hm
          clear hb
          refine wp_seq ?_
          refine wp_region_lit ?_
          refine sv E rfl rfl rfl (x_bin E rfl rfl rfl rfl) ?_
          clear a E;intro a E
          refine sv E rfl rfl rfl (x_assign E rfl rfl) ?_
          clear a E;intro a E
          refine wpList_nil ?_
          refine q_then ?_
          refine wp_if E rfl ?_ ?_
          ·intro hb
           rw [if_t hb] at hm
           clear hb
           refine wp_seq ?_
           replace H : Sep w (Row 35 k_api_Node v30 u28 :: Blk p5 24 [.int .i64 x3.Kind, .string x3.Path, .string x3.Data, .int .i64 x3.Version, .int .i64 x3.Owner, .bool x3.Turns] :: Blk p6 31 [.int .i64 0, .string (ByteArray.mk #[]), .string (ByteArray.mk #[]), .int .i64 0, .slice none 0 0] :: Blk p19 35 [.string u17.1.Path, .string u17.1.Data, .int .i64 u17.1.Version, .int .i64 u17.1.Turn, .int .i64 u17.1.Owner] :: Fo) (rs25) := H
           have hI : Still [Blk p19 35 [.string u17.1.Path, .string u17.1.Data, .int .i64 u17.1.Version, .int .i64 u17.1.Turn, .int .i64 u17.1.Owner]] [] { w with drawn := w.drawn + 1 } := ⟨_, _, H.kept (Kp.drawn _ w _), (subO_cons (.tail _ (.tail _ (.tail _ (.head _)))) (subO_nil)), (sub_nil)⟩
           refine wp_draw _ [(0, 0), (1, 0), (2, 0), (3, 0), (4, 1), (5, 2)] mixedOk (by kernel_rfl) (fun _ _ _ h => False.elim h.2) hI ?_
           replace H := H.kept (Kp.drawn _ w (w.drawn + 1))
           generalize ({ w with drawn := w.drawn + 1 } : World) = w at H hI ⊢
           replace hI : ∃ W, Still [Blk p19 35 [.string u17.1.Path, .string u17.1.Data, .int .i64 u17.1.Version, .int .i64 u17.1.Turn, .int .i64 u17.1.Owner]] [] W := ⟨_, hI⟩
           obtain ⟨W0, hI⟩ := hI
           refine fr_val E rfl (wn rfl) rfl rfl (fun w hW => (x_move E rfl rfl)) ?_
           clear a E;intro a E
           refine fr_val E rfl (wn rfl) rfl rfl (fun w hW => x_fa E rfl rfl (v := .pointer (some ⟨p19, 2, none⟩)) (fa35_2 _ _)) ?_
           clear a E;intro a E
           refine fr_val E rfl (wn rfl) rfl rfl (fun w hW => x_ld E rfl rfl (ib_ld (.head _) rfl Tryz.underlying2 rfl w hW)) ?_
           clear a E;intro a E
           refine fr_val E rfl (wn rfl) rfl rfl (fun w hW => (x_build E (ps := [(3, .tmp 110)]) (vs := [(3, .int .i64 u17.1.Version)]) rfl (by simp only [List.map]; rw [E.eval (x := .tmp 110) (v := .int .i64 u17.1.Version) rfl]) (v := .agg #[.int .i64 0, .string (ByteArray.mk #[]), .string (ByteArray.mk #[]), .int .i64 u17.1.Version, .slice none 0 0]) (by kernel_rfl))) ?_
           clear a E;intro a E
           refine fr_op rfl ?_
           refine sv E rfl rfl rfl (x_assign E rfl rfl) ?_
           clear a E;intro a E
           refine wpList_nil ?_
           refine q_then ?_
           replace H : Sep w (Row 35 k_api_Node v30 u28 :: Blk p5 24 [.int .i64 x3.Kind, .string x3.Path, .string x3.Data, .int .i64 x3.Version, .int .i64 x3.Owner, .bool x3.Turns] :: Blk p6 31 [.int .i64 0, .string (ByteArray.mk #[]), .string (ByteArray.mk #[]), .int .i64 0, .slice none 0 0] :: Blk p19 35 [.string u17.1.Path, .string u17.1.Data, .int .i64 u17.1.Version, .int .i64 u17.1.Turn, .int .i64 u17.1.Owner] :: Fo) (rs25) := H
           refine ⟨⟨_, _, H, (subO_cons (.tail _ (.tail _ (.tail _ (.head _)))) (subO_nil)), (sub_nil)⟩, ?_⟩
           refine fr_tail rfl ?_
           refine st_st (i := 2) E H (wn rfl) rfl (us := [.int .i64 0, .string (ByteArray.mk #[]), .string (ByteArray.mk #[]), .int .i64 u17.1.Version, .slice none 0 0]) rfl rfl rfl rfl rfl sz31 rfl rfl ?_
           clear H; clear w; intro w H
           replace H : Sep w (Row 35 k_api_Node v30 u28 :: Blk p5 24 [.int .i64 x3.Kind, .string x3.Path, .string x3.Data, .int .i64 x3.Version, .int .i64 x3.Owner, .bool x3.Turns] :: Blk p6 31 [.int .i64 0, .string (ByteArray.mk #[]), .string (ByteArray.mk #[]), .int .i64 u17.1.Version, .slice none 0 0] :: Blk p19 35 [.string u17.1.Path, .string u17.1.Data, .int .i64 u17.1.Version, .int .i64 u17.1.Turn, .int .i64 u17.1.Owner] :: Fo) _ := H
           refine wpList_nil ?_
           refine q_then ?_
           refine fr_nil ?_
           clear hI
           refine q_then ?_
           refine wp_ret ?_
           refine q_blkR ?_
           refine q_thenR ?_
           refine outR2 E rfl (rvT rfl) (rvBN (i := 2) (us := [.int .i64 0, .string (ByteArray.mk #[]), .string (ByteArray.mk #[]), .int .i64 u17.1.Version, .slice none 0 0]) H rfl rfl rfl Tryz.underlying31 rfl sz31) ?_
           replace H := H.nilSl kS
           replace H := H.drop 0
           replace H := H.drop 0
           replace H := H.drop 0
           replace H := H.drop 0
           obtain rfl := Option.some.inj hm
           exact ⟨v1, (.slice none 0 0), rfl, H.reads (sub_cons (.tail _ hr27) (sub_cons (.head _) (fun r hr => .tail _ (hs26 r hr))))⟩
          ·intro hb
           rw [if_f hb] at hm
           clear hb
           refine wp_seq ?_
           refine wp_region_lit ?_
           refine sv E rfl rfl rfl (x_bin E rfl rfl rfl rfl) ?_
           clear a E;intro a E
           refine sv E rfl rfl rfl (x_assign E rfl rfl) ?_
           clear a E;intro a E
           refine wpList_nil ?_
           refine q_then ?_
           refine wp_if E rfl ?_ ?_
           ·intro hb
            rw [if_t hb] at hm
            clear hb
            refine wp_seq ?_
            replace H : Sep w (Row 35 k_api_Node v30 u28 :: Blk p5 24 [.int .i64 x3.Kind, .string x3.Path, .string x3.Data, .int .i64 x3.Version, .int .i64 x3.Owner, .bool x3.Turns] :: Blk p6 31 [.int .i64 0, .string (ByteArray.mk #[]), .string (ByteArray.mk #[]), .int .i64 0, .slice none 0 0] :: Blk p19 35 [.string u17.1.Path, .string u17.1.Data, .int .i64 u17.1.Version, .int .i64 u17.1.Turn, .int .i64 u17.1.Owner] :: Fo) (rs25) := H
            have hI : Still [Blk p19 35 [.string u17.1.Path, .string u17.1.Data, .int .i64 u17.1.Version, .int .i64 u17.1.Turn, .int .i64 u17.1.Owner]] [] { w with drawn := w.drawn + 1 } := ⟨_, _, H.kept (Kp.drawn _ w _), (subO_cons (.tail _ (.tail _ (.tail _ (.head _)))) (subO_nil)), (sub_nil)⟩
            refine wp_draw _ [(0, 0), (1, 0), (2, 0), (3, 0), (4, 0), (5, 0), (6, 1), (7, 2)] mixedOk (by kernel_rfl) (fun _ _ _ h => False.elim h.2) hI ?_
            replace H := H.kept (Kp.drawn _ w (w.drawn + 1))
            generalize ({ w with drawn := w.drawn + 1 } : World) = w at H hI ⊢
            replace hI : ∃ W, Still [Blk p19 35 [.string u17.1.Path, .string u17.1.Data, .int .i64 u17.1.Version, .int .i64 u17.1.Turn, .int .i64 u17.1.Owner]] [] W := ⟨_, hI⟩
            obtain ⟨W0, hI⟩ := hI
            refine fr_val E rfl (wn rfl) rfl rfl (fun w hW => (x_move E rfl rfl)) ?_
            clear a E;intro a E
            refine fr_val E rfl (wn rfl) rfl rfl (fun w hW => x_fa E rfl rfl (v := .pointer (some ⟨p19, 1, none⟩)) (fa35_1 _ _)) ?_
            clear a E;intro a E
            refine fr_val E rfl (wn rfl) rfl rfl (fun w hW => x_ld E rfl rfl (ib_ld (.head _) rfl Tryz.underlying9 rfl w hW)) ?_
            clear a E;intro a E
            refine fr_val E rfl (wn rfl) rfl rfl (fun w hW => x_fa E rfl rfl (v := .pointer (some ⟨p19, 2, none⟩)) (fa35_2 _ _)) ?_
            clear a E;intro a E
            refine fr_val E rfl (wn rfl) rfl rfl (fun w hW => x_ld E rfl rfl (ib_ld (.head _) rfl Tryz.underlying2 rfl w hW)) ?_
            clear a E;intro a E
            refine fr_val E rfl (wn rfl) rfl rfl (fun w hW => (x_build E (ps := [(2, .tmp 116), (3, .tmp 118)]) (vs := [(2, .string u17.1.Data), (3, .int .i64 u17.1.Version)]) rfl (by simp only [List.map]; rw [E.eval (x := .tmp 116) (v := .string u17.1.Data) rfl, E.eval (x := .tmp 118) (v := .int .i64 u17.1.Version) rfl]) (v := .agg #[.int .i64 0, .string (ByteArray.mk #[]), .string u17.1.Data, .int .i64 u17.1.Version, .slice none 0 0]) (by kernel_rfl))) ?_
            clear a E;intro a E
            refine fr_op rfl ?_
            refine sv E rfl rfl rfl (x_assign E rfl rfl) ?_
            clear a E;intro a E
            refine wpList_nil ?_
            refine q_then ?_
            replace H : Sep w (Row 35 k_api_Node v30 u28 :: Blk p5 24 [.int .i64 x3.Kind, .string x3.Path, .string x3.Data, .int .i64 x3.Version, .int .i64 x3.Owner, .bool x3.Turns] :: Blk p6 31 [.int .i64 0, .string (ByteArray.mk #[]), .string (ByteArray.mk #[]), .int .i64 0, .slice none 0 0] :: Blk p19 35 [.string u17.1.Path, .string u17.1.Data, .int .i64 u17.1.Version, .int .i64 u17.1.Turn, .int .i64 u17.1.Owner] :: Fo) (rs25) := H
            refine ⟨⟨_, _, H, (subO_cons (.tail _ (.tail _ (.tail _ (.head _)))) (subO_nil)), (sub_nil)⟩, ?_⟩
            refine fr_tail rfl ?_
            refine st_st (i := 2) E H (wn rfl) rfl (us := [.int .i64 0, .string (ByteArray.mk #[]), .string u17.1.Data, .int .i64 u17.1.Version, .slice none 0 0]) rfl rfl rfl rfl rfl sz31 rfl rfl ?_
            clear H; clear w; intro w H
            replace H : Sep w (Row 35 k_api_Node v30 u28 :: Blk p5 24 [.int .i64 x3.Kind, .string x3.Path, .string x3.Data, .int .i64 x3.Version, .int .i64 x3.Owner, .bool x3.Turns] :: Blk p6 31 [.int .i64 0, .string (ByteArray.mk #[]), .string u17.1.Data, .int .i64 u17.1.Version, .slice none 0 0] :: Blk p19 35 [.string u17.1.Path, .string u17.1.Data, .int .i64 u17.1.Version, .int .i64 u17.1.Turn, .int .i64 u17.1.Owner] :: Fo) _ := H
            refine wpList_nil ?_
            refine q_then ?_
            refine fr_nil ?_
            clear hI
            refine q_then ?_
            refine wp_ret ?_
            refine q_blkR ?_
            refine q_thenR ?_
            refine outR2 E rfl (rvT rfl) (rvBN (i := 2) (us := [.int .i64 0, .string (ByteArray.mk #[]), .string u17.1.Data, .int .i64 u17.1.Version, .slice none 0 0]) H rfl rfl rfl Tryz.underlying31 rfl sz31) ?_
            replace H := H.nilSl kS
            replace H := H.drop 0
            replace H := H.drop 0
            replace H := H.drop 0
            replace H := H.drop 0
            obtain rfl := Option.some.inj hm
            exact ⟨v1, (.slice none 0 0), rfl, H.reads (sub_cons (.tail _ hr27) (sub_cons (.head _) (fun r hr => .tail _ (hs26 r hr))))⟩
           ·intro hb
            rw [if_f hb] at hm
            clear hb
            refine wp_skip ?_
            refine q_blk ?_
            refine q_then ?_
            refine wp_seq ?_
            refine wp_region_lit ?_
            refine sv E rfl rfl rfl (x_assign E rfl rfl) ?_
            clear a E;intro a E
            refine wpList_nil ?_
            refine q_then ?_
            refine wp_seq ?_
            refine wp_seq ?_
            refine wp_region_lit ?_
            refine sv E rfl rfl rfl (x_assign E rfl rfl) ?_
            clear a E;intro a E
            refine wpList_nil ?_
            refine q_then ?_
            refine wp_block ?_
            refine wp_loop_g (fun k1 a w => ∃ (v37 : Value) (v39 : Value) (v41 : Value) (l38 : (List S_api_Node)) (l40 : (List S_api_Node)) (l42 : (List ByteArray)) (x43 : Int) (rs44 : List Rp), Env 165 a [(0, v37), (3, .pointer (some ⟨p5, 0, none⟩)), (5, .pointer (some ⟨p6, 0, none⟩)), (9, v39), (10, v41), (11, .int .i64 x43)] ∧ Sep w (Blk p5 24 [.int .i64 x3.Kind, .string x3.Path, .string x3.Data, .int .i64 x3.Version, .int .i64 x3.Owner, .bool x3.Turns] :: Blk p6 31 [.int .i64 0, .string (ByteArray.mk #[]), .string (ByteArray.mk #[]), .int .i64 0, .slice none 0 0] :: Row 9 kS v41 l42 :: Fo) rs44 ∧ (∀ r, r ∈ rs → r ∈ rs44) ∧ rSl k_api_Node v37 l38 ∈ rs44 ∧ rSl k_api_Node v39 l40 ∈ rs44 ∧ m_cantonref06_Apply_l1 x3 k1 l38 l40 l42 x43 = some r) (((u28.length : Int) - 0 : Int).toNat + 1) ?_ ?_
            ·replace H := H.thaw (i := 0) rfl
             replace H := H.nilRow 9 kS
             replace H := H.drop 3
             replace H := H.front 0 rfl
             replace H := H.front 2 rfl
             replace H := H.front 2 rfl
             exact ⟨v1, v30, (.slice none 0 0), l2, u28, [], 0, _, ((((((E.nil.keep E 11 rfl).keep E 10 rfl).keep E 9 rfl).keep E 5 rfl).keep E 3 rfl).keep E 0 rfl), H, fun r hr => .tail _ (hs26 r hr), (.tail _ hr27), (.head _), hm⟩
            ·clear E H hm
             rintro k1 a w ⟨v37, v39, v41, l38, l40, l42, x43, rs44, E, H, hs45, hr46, hr47, hm⟩
             cases k1 with
             | zero => exact (none_some hm rfl).elim
             | succ k1 =>
              unfold m_cantonref06_Apply_l1 at hm
              refine wp_seq ?_
              refine wp_seq ?_
              refine wp_region_lit ?_
              refine sv E rfl rfl rfl (x_move E rfl rfl) ?_
              clear a E;intro a E
              refine sv E rfl rfl rfl (x_move E rfl rfl) ?_
              clear a E;intro a E
              refine sv E rfl rfl rfl (x_lenS E H rfl rfl hr47 Tryz.underlying22) ?_
              clear a E;intro a E
              refine sv E rfl rfl rfl (x_bin E rfl rfl rfl rfl) ?_
              clear a E;intro a E
              refine wpList_nil ?_
              refine q_then ?_
              refine wp_if E rfl ?_ ?_
              ·intro hb
               rw [if_t hb] at hm
               clear hb
               refine wp_skip ?_
               refine q_then ?_
               refine wp_seq_cut (fun a w => ∃ (v48 : Value) (v50 : Value) (l49 : (List S_api_Node)) (l51 : (List ByteArray)) (rs52 : List Rp), Env 165 a [(0, v48), (3, .pointer (some ⟨p5, 0, none⟩)), (5, .pointer (some ⟨p6, 0, none⟩)), (9, v39), (10, v50), (11, .int .i64 x43)] ∧ Sep w (Blk p5 24 [.int .i64 x3.Kind, .string x3.Path, .string x3.Data, .int .i64 x3.Version, .int .i64 x3.Owner, .bool x3.Turns] :: Blk p6 31 [.int .i64 0, .string (ByteArray.mk #[]), .string (ByteArray.mk #[]), .int .i64 0, .slice none 0 0] :: Row 9 kS v50 l51 :: Fo) rs52 ∧ (∀ r, r ∈ rs → r ∈ rs52) ∧ rSl k_api_Node v48 l49 ∈ rs52 ∧ rSl k_api_Node v39 l40 ∈ rs52 ∧ m_cantonref06_Apply_j4 (m_cantonref06_Apply_l1 x3 k1) l40 x43 l49 l51 = some r) ?_ ?_
               ·refine wp_block ?_
                refine wp_seq ?_
                refine wp_region_lit ?_
                refine sv E rfl rfl rfl (x_fa E rfl rfl (v := .pointer (some ⟨p5, 0, none⟩)) (fa24_0 _ _)) ?_
                clear a E;intro a E
                refine sv E rfl rfl rfl (x_ldB (i := 0) E H rfl rfl rfl rfl Tryz.underlying3 rfl) ?_
                clear a E;intro a E
                refine sv E rfl rfl rfl (x_bin E rfl rfl rfl rfl) ?_
                clear a E;intro a E
                refine wpList_nil ?_
                refine q_then ?_
                refine wp_if E rfl ?_ ?_
                ·intro hb
                 rw [if_t hb] at hm
                 clear hb
                 refine wp_region_lit ?_
                 refine sv E rfl rfl rfl (x_move E rfl rfl) ?_
                 clear a E;intro a E
                 refine sv E rfl rfl rfl (x_move E rfl rfl) ?_
                 clear a E;intro a E
                 refine sv E rfl rfl rfl (x_move E rfl rfl) ?_
                 clear a E;intro a E
                 obtain ⟨x56, hx57, hm⟩ := bnd hm
                 refine st_ixS E H (wn rfl) rfl rfl rfl rfl rfl hr47 Tryz.underlying22 sz35 hx57 ?_
                 clear E H; clear a; intro q58 a H E
                 replace H := H.derive1 (.head _) (rAt kS (q58.add 0) x56.Path) (fun ok h => k_api_Node_at0 h)
                 refine sv E rfl rfl rfl (x_fa E rfl rfl (fa35_0 _ _)) ?_
                 clear a E;intro a E
                 refine sv E rfl rfl rfl (x_ldA E H rfl rfl (.head _) Tryz.underlying9 rfl) ?_
                 clear a E;intro a E
                 obtain ⟨u59, hx60, hm⟩ := bnd hm
                 refine st_call E (wn rfl) rfl rfl (x_call E rfl rfl (cf31 _)) (c_cantonref01_Last x56.Path H hx60) ?_
                 clear E H; clear a; clear w; rintro _ w ⟨rfl, H⟩ a E
                 refine st_bsR (e := 9) (d := kS) (cs := [.string u59]) (xs := [u59]) E H (wn rfl) rfl rfl (ps := [(0, .tmp 135)]) (parts := [(0, .string u59)]) rfl (by simp only [List.map]; rw [E.eval (x := .tmp 135) (v := .string u59) rfl]) (by kernel_rfl) rfl (fun ok hr => (Rows.single (d := kS) (cs := [.string u59]) (x := u59) rfl)) ?_
                 clear E H; clear a; clear w; intro v61 w a H E
                 obtain ⟨u63, hx64, hm⟩ := bnd hm
                 refine st_append (i := 2) E H (wn rfl) rfl rfl rfl rfl rfl rfl (src_rd (.head _)) Tryz.underlying29 inf9 rfl (ck_of hx64) rfl ?_
                 clear E H; clear a; clear w; intro v62 w a H E
                 refine sv E rfl rfl rfl (x_assign E rfl rfl) ?_
                 clear a E;intro a E
                 refine wpList_nil ?_
                 refine q_blk ?_
                 refine q_then ?_
                 exact ⟨v37, v62, l38, l42 ++ ([u59] : List ByteArray), _, ((((((E.nil.keep E 11 rfl).keep E 10 rfl).keep E 9 rfl).keep E 5 rfl).keep E 3 rfl).keep E 0 rfl), H, fun r hr => .tail _ (.tail _ (.tail _ (hs45 r hr))), (.tail _ (.tail _ (.tail _ hr46))), (.tail _ (.tail _ (.tail _ hr47))), hm⟩
                ·intro hb
                 rw [if_f hb] at hm
                 clear hb
                 refine wp_seq ?_
                 obtain ⟨u65, H⟩ := H.raw hr47
                 replace H : Sep w (Blk p5 24 [.int .i64 x3.Kind, .string x3.Path, .string x3.Data, .int .i64 x3.Version, .int .i64 x3.Owner, .bool x3.Turns] :: Blk p6 31 [.int .i64 0, .string (ByteArray.mk #[]), .string (ByteArray.mk #[]), .int .i64 0, .slice none 0 0] :: Row 9 kS v41 l42 :: Fo) (rRow k_api_Node v39 l40 u65 :: rs44) := H
                 have hI : Still [Blk p5 24 [.int .i64 x3.Kind, .string x3.Path, .string x3.Data, .int .i64 x3.Version, .int .i64 x3.Owner, .bool x3.Turns]] [rRow k_api_Node v39 l40 u65] { w with drawn := w.drawn + 1 } := ⟨_, _, H.kept (Kp.drawn _ w _), (subO_cons (.head _) (subO_nil)), (sub_cons (.head _) (sub_nil))⟩
                 refine wp_draw _ [(0, 0), (1, 0), (2, 0), (3, 0), (4, 0), (5, 0), (6, 0), (7, 0)] mixedOk (by kernel_rfl) (fun _ _ _ h => False.elim h.2) hI ?_
                 replace H := H.kept (Kp.drawn _ w (w.drawn + 1))
                 generalize ({ w with drawn := w.drawn + 1 } : World) = w at H hI ⊢
                 replace hI : ∃ W, Still [Blk p5 24 [.int .i64 x3.Kind, .string x3.Path, .string x3.Data, .int .i64 x3.Version, .int .i64 x3.Owner, .bool x3.Turns]] [rRow k_api_Node v39 l40 u65] W := ⟨_, hI⟩
                 obtain ⟨W0, hI⟩ := hI
                 refine fr_val E rfl (wn rfl) rfl rfl (fun w hW => (x_move E rfl rfl)) ?_
                 clear a E;intro a E
                 refine fr_val E rfl (wn rfl) rfl rfl (fun w hW => (x_move E rfl rfl)) ?_
                 clear a E;intro a E
                 obtain ⟨x66, hx67, hm⟩ := bnd hm
                 obtain ⟨q68, u71, hx69, hx70⟩ := dr_ixW (P := Tryz.prog) (k := .i64) hI (dr_mem (.head _)) Tryz.underlying22 sz35 hx67
                 refine fr_val E rfl (wn rfl) rfl rfl (fun w hW => x_ixA E rfl rfl rfl (hx69 w)) ?_
                 clear a E;intro a E
                 have hx72 := dr_fld hx70 (fun _ _ _ h => k_api_Node_aw4 h)
                 refine fr_val E rfl (wn rfl) rfl rfl (fun w hW => x_fa E rfl rfl (fa35_4 _ _)) ?_
                 clear a E;intro a E
                 refine fr_val E rfl (wn rfl) rfl rfl (fun w hW => x_ld E rfl rfl (ir_ld (DR.ir (dr_at hx72)) Tryz.underlying2 rfl w hW)) ?_
                 clear a E;intro a E
                 refine fr_val E rfl (wn rfl) rfl rfl (fun w hW => x_fa E rfl rfl (v := .pointer (some ⟨p5, 4, none⟩)) (fa24_4 _ _)) ?_
                 clear a E;intro a E
                 refine fr_val E rfl (wn rfl) rfl rfl (fun w hW => x_ld E rfl rfl (ib_ld (.head _) rfl Tryz.underlying2 rfl w hW)) ?_
                 clear a E;intro a E
                 refine fr_val E rfl (wn rfl) rfl rfl (fun w hW => (x_bin E rfl rfl rfl rfl)) ?_
                 clear a E;intro a E
                 refine fr_nil ?_
                 clear hI
                 refine q_then ?_
                 refine wp_if E rfl ?_ ?_
                 ·intro hb
                  rw [if_t hb] at hm
                  clear hb
                  refine wp_seq ?_
                  refine wp_region_lit ?_
                  refine sv E rfl rfl rfl (x_move E rfl rfl) ?_
                  clear a E;intro a E
                  refine sv E rfl rfl rfl (x_move E rfl rfl) ?_
                  clear a E;intro a E
                  refine sv E rfl rfl rfl (x_move E rfl rfl) ?_
                  clear a E;intro a E
                  obtain ⟨x73, hx74, hm⟩ := bnd hm
                  refine st_ixS E H (wn rfl) rfl rfl rfl rfl rfl (.tail _ hr47) Tryz.underlying22 sz35 hx74 ?_
                  clear E H; clear a; intro q75 a H E
                  replace H := H.derive1 (.head _) (rAt kS (q75.add 0) x73.Path) (fun ok h => k_api_Node_at0 h)
                  refine sv E rfl rfl rfl (x_fa E rfl rfl (fa35_0 _ _)) ?_
                  clear a E;intro a E
                  refine sv E rfl rfl rfl (x_ldA E H rfl rfl (.head _) Tryz.underlying9 rfl) ?_
                  clear a E;intro a E
                  obtain ⟨u76, hx77, hm⟩ := bnd hm
                  refine st_call E (wn rfl) rfl rfl (x_call E rfl rfl (cf31 _)) (c_cantonref01_Last x73.Path H hx77) ?_
                  clear E H; clear a; clear w; rintro _ w ⟨rfl, H⟩ a E
                  refine st_bsR (e := 9) (d := kS) (cs := [.string u76]) (xs := [u76]) E H (wn rfl) rfl rfl (ps := [(0, .tmp 152)]) (parts := [(0, .string u76)]) rfl (by simp only [List.map]; rw [E.eval (x := .tmp 152) (v := .string u76) rfl]) (by kernel_rfl) rfl (fun ok hr => (Rows.single (d := kS) (cs := [.string u76]) (x := u76) rfl)) ?_
                  clear E H; clear a; clear w; intro v78 w a H E
                  obtain ⟨u80, hx81, hm⟩ := bnd hm
                  refine st_append (i := 2) E H (wn rfl) rfl rfl rfl rfl rfl rfl (src_rd (.head _)) Tryz.underlying29 inf9 rfl (ck_of hx81) rfl ?_
                  clear E H; clear a; clear w; intro v79 w a H E
                  refine sv E rfl rfl rfl (x_assign E rfl rfl) ?_
                  clear a E;intro a E
                  refine wpList_nil ?_
                  refine q_then ?_
                  refine wp_region_lit ?_
                  refine sv E rfl rfl rfl (x_move E rfl rfl) ?_
                  clear a E;intro a E
                  refine sv E rfl rfl rfl (x_move E rfl rfl) ?_
                  clear a E;intro a E
                  refine sv E rfl rfl rfl (x_move E rfl rfl) ?_
                  clear a E;intro a E
                  obtain ⟨x82, hx83, hm⟩ := bnd hm
                  refine st_ixS E H (wn rfl) rfl rfl rfl rfl rfl (.tail _ (.tail _ (.tail _ (.tail _ hr47)))) Tryz.underlying22 sz35 hx83 ?_
                  clear E H; clear a; intro q84 a H E
                  replace H := H.derive1 (.head _) (rAt kS (q84.add 0) x82.Path) (fun ok h => k_api_Node_at0 h)
                  refine sv E rfl rfl rfl (x_fa E rfl rfl (fa35_0 _ _)) ?_
                  clear a E;intro a E
                  refine sv E rfl rfl rfl (x_ldA E H rfl rfl (.head _) Tryz.underlying9 rfl) ?_
                  clear a E;intro a E
                  obtain ⟨u85, hx86, hm⟩ := bnd hm
                  refine st_call E (wn rfl) rfl rfl (x_call E rfl rfl (cf29 _)) (c_cantonref06_without v37 l38 x82.Path H (.tail _ (.tail _ (.tail _ (.tail _ (.tail _ (.tail _ hr46)))))) hx86) ?_
                  clear E H; clear a; clear w; rintro _ w ⟨v87, rfl, H⟩ a E
                  refine sv E rfl rfl rfl (x_assign E rfl rfl) ?_
                  clear a E;intro a E
                  refine wpList_nil ?_
                  refine q_blk ?_
                  refine q_then ?_
                  replace H := H.thaw (i := 0) rfl
                  exact ⟨v87, v79, u85, l42 ++ ([u76] : List ByteArray), _, ((((((E.nil.keep E 11 rfl).keep E 10 rfl).keep E 9 rfl).keep E 5 rfl).keep E 3 rfl).keep E 0 rfl), H, fun r hr => .tail _ (.tail _ (.tail _ (.tail _ (.tail _ (.tail _ (.tail _ (hs45 r hr))))))), (.head _), (.tail _ (.tail _ (.tail _ (.tail _ (.tail _ (.tail _ (.tail _ hr47))))))), hm⟩
                 ·intro hb
                  rw [if_f hb] at hm
                  clear hb
                  refine wp_skip ?_
                  refine q_blk ?_
                  refine q_then ?_
                  exact ⟨v37, v41, l38, l42, _, ((((((E.nil.keep E 11 rfl).keep E 10 rfl).keep E 9 rfl).keep E 5 rfl).keep E 3 rfl).keep E 0 rfl), H, fun r hr => .tail _ (hs45 r hr), (.tail _ hr46), (.tail _ hr47), hm⟩
               ·clear E H hm
                rintro a w ⟨v48, v50, l49, l51, rs52, E, H, hs53, hr54, hr55, hm⟩
                unfold m_cantonref06_Apply_j4 at hm
                refine wp_region_lit ?_
                refine sv E rfl rfl rfl (x_move E rfl rfl) ?_
                clear a E;intro a E
                refine sv E rfl rfl rfl (x_bin E rfl rfl rfl rfl) ?_
                clear a E;intro a E
                refine sv E rfl rfl rfl (x_assign E rfl rfl) ?_
                clear a E;intro a E
                refine wpList_nil ?_
                refine q_then ?_
                exact ⟨k1, Nat.lt_succ_self k1, v48, v39, v50, l49, l40, l51, IntKind.i64.wrap (x43 + 1), _, ((((((E.nil.keep E 11 rfl).keep E 10 rfl).keep E 9 rfl).keep E 5 rfl).keep E 3 rfl).keep E 0 rfl), H, hs53, hr54, hr55, hm⟩
              ·intro hb
               rw [if_f hb] at hm
               clear hb
               refine wp_exit ?_
               refine q_thenX ?_
               refine q_thenX ?_
               refine q_hit ?_
               refine q_then ?_
               refine wp_seq ?_
               refine wp_region_lit ?_
               refine sv E rfl rfl rfl (x_move E rfl rfl) ?_
               clear a E;intro a E
               refine sv E rfl rfl rfl (x_move E rfl rfl) ?_
               clear a E;intro a E
               obtain ⟨q88, x89, rfl⟩ := H.rowform (i := 2) rfl
               refine sv E rfl rfl rfl (x_build E (ps := [(4, .tmp 163)]) (vs := [(4, (.slice q88 l42.length x89))]) rfl (by simp only [List.map]; rw [E.eval (x := .tmp 163) (v := (.slice q88 l42.length x89)) rfl]) (v := .agg #[.int .i64 0, .string (ByteArray.mk #[]), .string (ByteArray.mk #[]), .int .i64 0, (.slice q88 l42.length x89)]) (by kernel_rfl)) ?_
               clear a E;intro a E
               refine sv E rfl rfl rfl (x_assign E rfl rfl) ?_
               clear a E;intro a E
               refine st_st (i := 1) E H (wn rfl) rfl (us := [.int .i64 0, .string (ByteArray.mk #[]), .string (ByteArray.mk #[]), .int .i64 0, (.slice q88 l42.length x89)]) rfl rfl rfl rfl rfl sz31 rfl rfl ?_
               clear H; clear w; intro w H
               replace H : Sep w (Blk p5 24 [.int .i64 x3.Kind, .string x3.Path, .string x3.Data, .int .i64 x3.Version, .int .i64 x3.Owner, .bool x3.Turns] :: Blk p6 31 [.int .i64 0, .string (ByteArray.mk #[]), .string (ByteArray.mk #[]), .int .i64 0, (.slice q88 l42.length x89)] :: Row 9 kS (.slice q88 l42.length x89) l42 :: Fo) _ := H
               refine wpList_nil ?_
               refine q_then ?_
               refine wp_ret ?_
               refine outR2 E rfl (rvT rfl) (rvBN (i := 1) (us := [.int .i64 0, .string (ByteArray.mk #[]), .string (ByteArray.mk #[]), .int .i64 0, (.slice q88 l42.length x89)]) H rfl rfl rfl Tryz.underlying31 rfl sz31) ?_
               replace H := H.thaw (i := 2) rfl
               replace H := H.drop 0
               replace H := H.drop 0
               obtain rfl := Option.some.inj hm
               exact ⟨v37, (.slice q88 l42.length x89), rfl, H.reads (sub_cons (.tail _ hr46) (sub_cons (.head _) (fun r hr => .tail _ (hs45 r hr))))⟩
end Go.Cb
