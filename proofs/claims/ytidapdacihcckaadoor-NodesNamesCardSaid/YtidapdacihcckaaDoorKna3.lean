/- Functions of the program, walked: each comes to its plain function. -/
import Derived.Test.YtidapdacihcckaaDoorKna2
import Derived.Test.YtidapdacihcckaaDoorN4na
set_option linter.unusedVariables false
set_option linter.unusedSimpArgs false
namespace Go.Cb
open Go.Proofs Go.RowKit
def m_nodes_Apply_j2 (l2 : List S_api_Node) (x3 : S_api_Op) (u24 : Int × Bool) (b31 : Bool) : Option ((List S_api_Node) × S_api_Result) :=
  if b31 = true then ((m_nodes_failed 63).bind fun u36 => some (l2, (⟨u36.Err, u36.Path, u36.Data, u36.Version, u36.Names⟩ : S_api_Result))) else (if (x3.Kind == 2) = true then ((m_nodes_remove l2 u24.1 (⟨x3.Kind, x3.Path, x3.Data, x3.Version, x3.Owner, x3.Turns⟩ : S_api_Op)).bind fun u78 => some (u78.1, (⟨u78.2.Err, u78.2.Path, u78.2.Data, u78.2.Version, u78.2.Names⟩ : S_api_Result))) else (if (x3.Kind == 3) = true then ((m_nodes_set l2 u24.1 (⟨x3.Kind, x3.Path, x3.Data, x3.Version, x3.Owner, x3.Turns⟩ : S_api_Op)).bind fun u71 => some (u71.1, (⟨u71.2.Err, u71.2.Path, u71.2.Data, u71.2.Version, u71.2.Names⟩ : S_api_Result))) else (if (x3.Kind == 4) = true then ((m_nodes_check l2 u24.1 (⟨x3.Kind, x3.Path, x3.Data, x3.Version, x3.Owner, x3.Turns⟩ : S_api_Op)).bind fun u64 => some (u64.1, (⟨u64.2.Err, u64.2.Path, u64.2.Data, u64.2.Version, u64.2.Names⟩ : S_api_Result))) else (if (x3.Kind == 5) = true then ((m_nodes_get l2 u24.1 (⟨x3.Kind, x3.Path, x3.Data, x3.Version, x3.Owner, x3.Turns⟩ : S_api_Op)).bind fun u57 => some (u57.1, (⟨u57.2.Err, u57.2.Path, u57.2.Data, u57.2.Version, u57.2.Names⟩ : S_api_Result))) else (if (x3.Kind == 6) = true then ((m_nodes_list l2 u24.1 (⟨x3.Kind, x3.Path, x3.Data, x3.Version, x3.Owner, x3.Turns⟩ : S_api_Op)).bind fun u50 => some (u50.1, (⟨u50.2.Err, u50.2.Path, u50.2.Data, u50.2.Version, u50.2.Names⟩ : S_api_Result))) else (if (x3.Kind == 7) = true then ((m_nodes_sweep l2 u24.1 (⟨x3.Kind, x3.Path, x3.Data, x3.Version, x3.Owner, x3.Turns⟩ : S_api_Op)).bind fun u43 => some (u43.1, (⟨u43.2.Err, u43.2.Path, u43.2.Data, u43.2.Version, u43.2.Names⟩ : S_api_Result))) else none))))))
def m_nodes_Apply_j1 (l2 : List S_api_Node) (x3 : S_api_Op) (b8 : Bool) : Option ((List S_api_Node) × S_api_Result) :=
  if b8 = true then ((m_nodes_failed 1).bind fun u13 => some (([] : List S_api_Node), (⟨u13.Err, u13.Path, u13.Data, u13.Version, u13.Names⟩ : S_api_Result))) else (if (x3.Kind == 1) = true then ((m_nodes_create l2 (⟨x3.Kind, x3.Path, x3.Data, x3.Version, x3.Owner, x3.Turns⟩ : S_api_Op)).bind fun u18 => some (u18.1, (⟨u18.2.Err, u18.2.Path, u18.2.Data, u18.2.Version, u18.2.Names⟩ : S_api_Result))) else ((m_nodes_where l2 x3.Path).bind fun u24 => if (!u24.2) = true then ((m_nodes_failed 62).bind fun u26 => some (l2, (⟨u26.Err, u26.Path, u26.Data, u26.Version, u26.Names⟩ : S_api_Result))) else (if (decide (x3.Kind ≤ 4)) = true then (if (decide (x3.Version ≥ 0)) = true then ((idx l2 u24.1).bind fun x87 => m_nodes_Apply_j2 l2 x3 u24 (x3.Version != x87.Version)) else (m_nodes_Apply_j2 l2 x3 u24 false)) else (m_nodes_Apply_j2 l2 x3 u24 false))))
def m_nodes_Apply (l2 : List S_api_Node) (x3 : S_api_Op) : Option ((List S_api_Node) × S_api_Result) :=
  (m_nodes_Right l2).bind fun u94 => if (!u94) = true then (m_nodes_Apply_j1 l2 x3 true) else ((m_nodes_May (⟨x3.Kind, x3.Path, x3.Data, x3.Version, x3.Owner, x3.Turns⟩ : S_api_Op)).bind fun u97 => m_nodes_Apply_j1 l2 x3 (!u97))
set_option maxRecDepth 20000 in
set_option maxHeartbeats 1000000 in
theorem c_nodes_Apply {w : World} {Fo : List Ob} {rs : List Rp} (v1 : Value) (l2 : List S_api_Node) (x3 : S_api_Op) (H : Sep w (Fo) rs) (hr4 : rSl k_api_Node v1 l2 ∈ rs) (hr5 : rTab Tryd.prog ∈ rs) {r : (List S_api_Node) × S_api_Result} (hm : m_nodes_Apply l2 x3 = some r) :
    Calls Tryd.prog 14 [v1, .agg #[.int .i64 x3.Kind, .string x3.Path, .string x3.Data, .int .i64 x3.Version, .int .i64 x3.Owner, .bool x3.Turns]].toArray w (Ret fun v w' => ∃ (v5001 : Value) (v5004 : Value), .tuple #[v5001, .agg #[.int .i64 r.2.Err, .string r.2.Path, .string r.2.Data, .int .i64 r.2.Version, v5004]] = v ∧ Sep w' (Fo) (rSl k_api_Node v5001 r.1 :: rSl kS v5004 r.2.Names :: rs)) := by
 unfold m_nodes_Apply at hm
 refine enter Tryd.func14 rfl Tryd.ntmps14 rfl fun a E => ?_
 simp only [enum, Nat.reduceAdd] at E
 refine wp_seq ?_
 refine wp_region_lit ?_
 refine st_box E H (wn rfl) rfl rfl (cs := [.int .i64 x3.Kind, .string x3.Path, .string x3.Data, .int .i64 x3.Version, .int .i64 x3.Owner, .bool x3.Turns]) rfl rfl rfl ?_
 clear E H; clear a; clear w; intro p6 w a H E
 refine sv E rfl rfl rfl (x_assign E rfl rfl) ?_
 clear a E;intro a E
 refine st_alloc E H (wn rfl) rfl rfl (cs := [.int .i64 0, .string (ByteArray.mk #[]), .string (ByteArray.mk #[]), .int .i64 0, .slice none 0 0]) rfl (z := .agg #[.int .i64 0, .string ⟨#[]⟩, .string ⟨#[]⟩, .int .i64 0, .slice none 0 0]) (by kernel_rfl) rfl ?_
 clear E H; clear a; clear w; intro p7 w a H E
 refine wpList_nil ?_
 refine q_then ?_
 refine wp_seq ?_
 refine wp_seq_cut (fun a w => ∃ (b8 : Bool) (rs9 : List Rp), Env 68 a [(0, v1), (3, .pointer (some ⟨p6, 0, none⟩)), (5, .pointer (some ⟨p7, 0, none⟩)), (16, .bool b8)] ∧ Sep w (Blk p6 24 [.int .i64 x3.Kind, .string x3.Path, .string x3.Data, .int .i64 x3.Version, .int .i64 x3.Owner, .bool x3.Turns] :: Blk p7 31 [.int .i64 0, .string (ByteArray.mk #[]), .string (ByteArray.mk #[]), .int .i64 0, .slice none 0 0] :: Fo) rs9 ∧ (∀ r, r ∈ rs → r ∈ rs9) ∧ rSl k_api_Node v1 l2 ∈ rs9 ∧ rTab Tryd.prog ∈ rs9 ∧ m_nodes_Apply_j1 l2 x3 b8 = some r) ?_ ?_
 ·refine wp_region_lit ?_
  refine sv E rfl rfl rfl (x_move E rfl rfl) ?_
  clear a E;intro a E
  obtain ⟨u94, hx95, hm⟩ := bnd hm
  refine st_call E (wn rfl) rfl rfl (x_call E rfl rfl (cf25 _)) (c_nodes_Right v1 l2 H hr4 hx95) ?_
  clear E H; clear a; clear w; rintro _ w ⟨rfl, H⟩ a E
  refine sv E rfl rfl rfl (x_not E rfl rfl) ?_
  clear a E;intro a E
  refine sv E rfl rfl rfl (x_move E rfl rfl) ?_
  clear a E;intro a E
  rcases Bool.eq_false_or_eq_true (!u94) with hb96 | hb96
  ·rw [if_t hb96] at hm
   refine st_no E (wf' E rfl rfl rfl rfl hb96 rfl) rfl rfl ?_
   clear a E;intro a E
   refine st_no E (wf' E rfl rfl rfl rfl hb96 rfl) rfl rfl ?_
   clear a E;intro a E
   refine st_no E (wf' E rfl rfl rfl rfl hb96 rfl) rfl rfl ?_
   clear a E;intro a E
   refine sv E rfl rfl rfl (x_pickT E rfl rfl hb96 rfl) ?_
   clear a E;intro a E
   refine wpList_nil ?_
   refine q_then ?_
   replace H := H.front 0 rfl
   replace H := H.front 1 rfl
   exact ⟨true, _, ((((E.nil.keep E 16 rfl).keep E 5 rfl).keep E 3 rfl).keep E 0 rfl), H, fun r hr => hr, hr4, hr5, hm⟩
  ·rw [if_f hb96] at hm
   refine st_val E (ws' E rfl rfl rfl rfl hb96) rfl rfl (x_ldBN (i := 1) (us := [.int .i64 x3.Kind, .string x3.Path, .string x3.Data, .int .i64 x3.Version, .int .i64 x3.Owner, .bool x3.Turns]) E H rfl rfl rfl rfl Tryd.underlying24 rfl sz24) ?_
   clear a E;intro a E
   obtain ⟨u97, hx98, hm⟩ := bnd hm
   refine st_call E (ws' E rfl rfl rfl rfl hb96) rfl rfl (x_call E rfl rfl (cf26 _)) (c_nodes_May (⟨x3.Kind, x3.Path, x3.Data, x3.Version, x3.Owner, x3.Turns⟩ : S_api_Op) H hx98) ?_
   clear E H; clear a; clear w; rintro _ w ⟨rfl, H⟩ a E
   refine st_val E (ws' E rfl rfl rfl rfl hb96) rfl rfl (x_not E rfl rfl) ?_
   clear a E;intro a E
   refine sv E rfl rfl rfl (x_pickF E rfl rfl hb96 rfl) ?_
   clear a E;intro a E
   refine wpList_nil ?_
   refine q_then ?_
   replace H := H.front 0 rfl
   replace H := H.front 1 rfl
   exact ⟨!u97, _, ((((E.nil.keep E 16 rfl).keep E 5 rfl).keep E 3 rfl).keep E 0 rfl), H, fun r hr => hr, hr4, hr5, hm⟩
 ·clear E H hm
  rintro a w ⟨b8, rs9, E, H, hs10, hr11, hr12, hm⟩
  unfold m_nodes_Apply_j1 at hm
  refine wp_if E rfl ?_ ?_
  ·intro hb
   rw [if_t hb] at hm
   clear hb
   refine wp_seq ?_
   refine wp_region_lit ?_
   obtain ⟨u13, hx14, hm⟩ := bnd hm
   refine st_call E (wn rfl) rfl rfl (x_call E rfl rfl (cf27 _)) (c_nodes_failed 1 H hx14) ?_
   clear E H; clear a; clear w; rintro _ w ⟨v15, rfl, H⟩ a E
   refine sv E rfl rfl rfl (x_assign E rfl rfl) ?_
   clear a E;intro a E
   obtain ⟨q16, x17, rfl⟩ := H.slform (.head _)
   refine st_st (i := 1) E H (wn rfl) rfl (us := [.int .i64 u13.Err, .string u13.Path, .string u13.Data, .int .i64 u13.Version, (.slice q16 u13.Names.length x17)]) rfl rfl rfl rfl rfl sz31 rfl rfl ?_
   clear H; clear w; intro w H
   replace H : Sep w (Blk p6 24 [.int .i64 x3.Kind, .string x3.Path, .string x3.Data, .int .i64 x3.Version, .int .i64 x3.Owner, .bool x3.Turns] :: Blk p7 31 [.int .i64 u13.Err, .string u13.Path, .string u13.Data, .int .i64 u13.Version, (.slice q16 u13.Names.length x17)] :: Fo) _ := H
   refine wpList_nil ?_
   refine q_then ?_
   refine wp_ret ?_
   refine q_thenR ?_
   refine outR2 E rfl (rvT rfl) (rvBN (i := 1) (us := [.int .i64 u13.Err, .string u13.Path, .string u13.Data, .int .i64 u13.Version, (.slice q16 u13.Names.length x17)]) H rfl rfl rfl Tryd.underlying31 rfl sz31) ?_
   replace H := H.nilSl k_api_Node
   replace H := H.drop 0
   replace H := H.drop 0
   obtain rfl := Option.some.inj hm
   exact ⟨(.slice none 0 0), (.slice q16 u13.Names.length x17), rfl, H.reads (sub_cons (.head _) (sub_cons (.tail _ (.head _)) (fun r hr => .tail _ (.tail _ (hs10 r hr)))))⟩
  ·intro hb
   rw [if_f hb] at hm
   clear hb
   refine wp_skip ?_
   refine q_then ?_
   refine wp_seq ?_
   refine wp_seq ?_
   refine wp_region_lit ?_
   refine sv E rfl rfl rfl (x_fa E rfl rfl (v := .pointer (some ⟨p6, 0, none⟩)) (fa24_0 _ _)) ?_
   clear a E;intro a E
   refine sv E rfl rfl rfl (x_ldB (i := 0) E H rfl rfl rfl rfl Tryd.underlying3 rfl) ?_
   clear a E;intro a E
   refine sv E rfl rfl rfl (x_bin E rfl rfl rfl rfl) ?_
   clear a E;intro a E
   refine wpList_nil ?_
   refine q_then ?_
   refine wp_if E rfl ?_ ?_
   ·intro hb
    rw [if_t hb] at hm
    clear hb
    refine wp_seq ?_
    refine wp_region_lit ?_
    refine sv E rfl rfl rfl (x_move E rfl rfl) ?_
    clear a E;intro a E
    refine sv E rfl rfl rfl (x_ldBN (i := 0) (us := [.int .i64 x3.Kind, .string x3.Path, .string x3.Data, .int .i64 x3.Version, .int .i64 x3.Owner, .bool x3.Turns]) E H rfl rfl rfl rfl Tryd.underlying24 rfl sz24) ?_
    clear a E;intro a E
    obtain ⟨u18, hx19, hm⟩ := bnd hm
    refine st_call E (wn rfl) rfl rfl (x_call E rfl rfl (cf28 _)) (c_nodes_create v1 l2 (⟨x3.Kind, x3.Path, x3.Data, x3.Version, x3.Owner, x3.Turns⟩ : S_api_Op) H hr11 hr12 hx19) ?_
    clear E H; clear a; clear w; rintro _ w ⟨v20, v21, rfl, H⟩ a E
    refine sv E rfl rfl rfl (x_ext E rfl rfl rfl) ?_
    clear a E;intro a E
    refine sv E rfl rfl rfl (x_ext E rfl rfl rfl) ?_
    clear a E;intro a E
    refine sv E rfl rfl rfl (x_assign E rfl rfl) ?_
    clear a E;intro a E
    obtain ⟨q22, x23, rfl⟩ := H.slform (.tail _ (.head _))
    refine st_st (i := 1) E H (wn rfl) rfl (us := [.int .i64 u18.2.Err, .string u18.2.Path, .string u18.2.Data, .int .i64 u18.2.Version, (.slice q22 u18.2.Names.length x23)]) rfl rfl rfl rfl rfl sz31 rfl rfl ?_
    clear H; clear w; intro w H
    replace H : Sep w (Blk p6 24 [.int .i64 x3.Kind, .string x3.Path, .string x3.Data, .int .i64 x3.Version, .int .i64 x3.Owner, .bool x3.Turns] :: Blk p7 31 [.int .i64 u18.2.Err, .string u18.2.Path, .string u18.2.Data, .int .i64 u18.2.Version, (.slice q22 u18.2.Names.length x23)] :: Fo) _ := H
    refine wpList_nil ?_
    refine q_then ?_
    refine wp_ret ?_
    refine q_thenR ?_
    refine outR2 E rfl (rvT rfl) (rvBN (i := 1) (us := [.int .i64 u18.2.Err, .string u18.2.Path, .string u18.2.Data, .int .i64 u18.2.Version, (.slice q22 u18.2.Names.length x23)]) H rfl rfl rfl Tryd.underlying31 rfl sz31) ?_
    replace H := H.drop 0
    replace H := H.drop 0
    obtain rfl := Option.some.inj hm
    exact ⟨v20, (.slice q22 u18.2.Names.length x23), rfl, H.reads (sub_cons (.head _) (sub_cons (.tail _ (.head _)) (fun r hr => .tail _ (.tail _ (hs10 r hr)))))⟩
   ·intro hb
    rw [if_f hb] at hm
    clear hb
    refine wp_skip ?_
    refine q_then ?_
    refine wp_seq ?_
    refine wp_region_lit ?_
    refine sv E rfl rfl rfl (x_move E rfl rfl) ?_
    clear a E;intro a E
    refine sv E rfl rfl rfl (x_fa E rfl rfl (v := .pointer (some ⟨p6, 1, none⟩)) (fa24_1 _ _)) ?_
    clear a E;intro a E
    refine sv E rfl rfl rfl (x_ldB (i := 0) E H rfl rfl rfl rfl Tryd.underlying9 rfl) ?_
    clear a E;intro a E
    obtain ⟨u24, hx25, hm⟩ := bnd hm
    refine st_call E (wn rfl) rfl rfl (x_call E rfl rfl (cf29 _)) (c_nodes_where v1 l2 x3.Path H hr11 hx25) ?_
    clear E H; clear a; clear w; rintro _ w ⟨rfl, H⟩ a E
    refine sv E rfl rfl rfl (x_move E rfl rfl) ?_
    clear a E;intro a E
    refine sv E rfl rfl rfl (x_ext E rfl rfl rfl) ?_
    clear a E;intro a E
    refine sv E rfl rfl rfl (x_ext E rfl rfl rfl) ?_
    clear a E;intro a E
    refine sv E rfl rfl rfl (x_assign E rfl rfl) ?_
    clear a E;intro a E
    refine sv E rfl rfl rfl (x_assign E rfl rfl) ?_
    clear a E;intro a E
    refine wpList_nil ?_
    refine q_then ?_
    refine wp_seq ?_
    refine wp_seq ?_
    refine wp_region_lit ?_
    refine sv E rfl rfl rfl (x_move E rfl rfl) ?_
    clear a E;intro a E
    refine sv E rfl rfl rfl (x_not E rfl rfl) ?_
    clear a E;intro a E
    refine wpList_nil ?_
    refine q_then ?_
    refine wp_if E rfl ?_ ?_
    ·intro hb
     rw [if_t hb] at hm
     clear hb
     refine wp_seq ?_
     refine wp_region_lit ?_
     refine sv E rfl rfl rfl (x_move E rfl rfl) ?_
     clear a E;intro a E
     obtain ⟨u26, hx27, hm⟩ := bnd hm
     refine st_call E (wn rfl) rfl rfl (x_call E rfl rfl (cf27 _)) (c_nodes_failed 62 H hx27) ?_
     clear E H; clear a; clear w; rintro _ w ⟨v28, rfl, H⟩ a E
     refine sv E rfl rfl rfl (x_assign E rfl rfl) ?_
     clear a E;intro a E
     obtain ⟨q29, x30, rfl⟩ := H.slform (.head _)
     refine st_st (i := 1) E H (wn rfl) rfl (us := [.int .i64 u26.Err, .string u26.Path, .string u26.Data, .int .i64 u26.Version, (.slice q29 u26.Names.length x30)]) rfl rfl rfl rfl rfl sz31 rfl rfl ?_
     clear H; clear w; intro w H
     replace H : Sep w (Blk p6 24 [.int .i64 x3.Kind, .string x3.Path, .string x3.Data, .int .i64 x3.Version, .int .i64 x3.Owner, .bool x3.Turns] :: Blk p7 31 [.int .i64 u26.Err, .string u26.Path, .string u26.Data, .int .i64 u26.Version, (.slice q29 u26.Names.length x30)] :: Fo) _ := H
     refine wpList_nil ?_
     refine q_then ?_
     refine wp_ret ?_
     refine q_thenR ?_
     refine outR2 E rfl (rvT rfl) (rvBN (i := 1) (us := [.int .i64 u26.Err, .string u26.Path, .string u26.Data, .int .i64 u26.Version, (.slice q29 u26.Names.length x30)]) H rfl rfl rfl Tryd.underlying31 rfl sz31) ?_
     replace H := H.drop 0
     replace H := H.drop 0
     obtain rfl := Option.some.inj hm
     exact ⟨v1, (.slice q29 u26.Names.length x30), rfl, H.reads (sub_cons (.tail _ hr11) (sub_cons (.head _) (fun r hr => .tail _ (hs10 r hr))))⟩
    ·intro hb
     rw [if_f hb] at hm
     clear hb
     refine wp_skip ?_
     refine q_then ?_
     refine wp_seq ?_
     refine wp_seq_cut (fun a w => ∃ (b31 : Bool) (rs32 : List Rp), Env 68 a [(0, v1), (3, .pointer (some ⟨p6, 0, none⟩)), (5, .pointer (some ⟨p7, 0, none⟩)), (6, .int .i64 u24.1), (54, .bool b31)] ∧ Sep w (Blk p6 24 [.int .i64 x3.Kind, .string x3.Path, .string x3.Data, .int .i64 x3.Version, .int .i64 x3.Owner, .bool x3.Turns] :: Blk p7 31 [.int .i64 0, .string (ByteArray.mk #[]), .string (ByteArray.mk #[]), .int .i64 0, .slice none 0 0] :: Fo) rs32 ∧ (∀ r, r ∈ rs → r ∈ rs32) ∧ rSl k_api_Node v1 l2 ∈ rs32 ∧ rTab Tryd.prog ∈ rs32 ∧ m_nodes_Apply_j2 l2 x3 u24 b31 = some r) ?_ ?_
     ·obtain ⟨u84, H⟩ := H.raw hr11
      replace H : Sep w (Blk p6 24 [.int .i64 x3.Kind, .string x3.Path, .string x3.Data, .int .i64 x3.Version, .int .i64 x3.Owner, .bool x3.Turns] :: Blk p7 31 [.int .i64 0, .string (ByteArray.mk #[]), .string (ByteArray.mk #[]), .int .i64 0, .slice none 0 0] :: Fo) (rRow k_api_Node v1 l2 u84 :: rs9) := H
      have hI : Still [Blk p6 24 [.int .i64 x3.Kind, .string x3.Path, .string x3.Data, .int .i64 x3.Version, .int .i64 x3.Owner, .bool x3.Turns]] [rRow k_api_Node v1 l2 u84] { w with drawn := w.drawn + 1 } := ⟨_, _, H.kept (Kp.drawn _ w _), (subO_cons (.head _) (subO_nil)), (sub_cons (.head _) (sub_nil))⟩
      refine wp_draw _ [(0, 0), (1, 0), (2, 0), (3, 0), (4, 0), (5, 0), (6, 0), (7, 0), (8, 0), (9, 0), (10, 0), (11, 0), (12, 0), (13, 0), (14, 0), (15, 0), (16, 0), (17, 0)] mixedOk (by kernel_rfl) (fun _ _ _ h => False.elim h.2) hI ?_
      replace H := H.kept (Kp.drawn _ w (w.drawn + 1))
      generalize ({ w with drawn := w.drawn + 1 } : World) = w at H hI ⊢
      replace hI : ∃ W, Still [Blk p6 24 [.int .i64 x3.Kind, .string x3.Path, .string x3.Data, .int .i64 x3.Version, .int .i64 x3.Owner, .bool x3.Turns]] [rRow k_api_Node v1 l2 u84] W := ⟨_, hI⟩
      obtain ⟨W0, hI⟩ := hI
      refine fr_val E rfl (wn rfl) rfl rfl (fun w hW => x_fa E rfl rfl (v := .pointer (some ⟨p6, 0, none⟩)) (fa24_0 _ _)) ?_
      clear a E;intro a E
      refine fr_val E rfl (wn rfl) rfl rfl (fun w hW => x_ld E rfl rfl (ib_ld (.head _) rfl Tryd.underlying3 rfl w hW)) ?_
      clear a E;intro a E
      refine fr_val E rfl (wn rfl) rfl rfl (fun w hW => (x_bin E rfl rfl rfl rfl)) ?_
      clear a E;intro a E
      refine fr_val E rfl (wn rfl) rfl rfl (fun w hW => (x_move E rfl rfl)) ?_
      clear a E;intro a E
      rcases Bool.eq_false_or_eq_true (decide (x3.Kind ≤ 4)) with hb85 | hb85
      ·rw [if_t hb85] at hm
       refine fr_val E rfl (ws' E rfl rfl rfl rfl hb85) rfl rfl (fun w hW => x_fa E rfl rfl (v := .pointer (some ⟨p6, 3, none⟩)) (fa24_3 _ _)) ?_
       clear a E;intro a E
       refine fr_val E rfl (ws' E rfl rfl rfl rfl hb85) rfl rfl (fun w hW => x_ld E rfl rfl (ib_ld (.head _) rfl Tryd.underlying2 rfl w hW)) ?_
       clear a E;intro a E
       refine fr_val E rfl (ws' E rfl rfl rfl rfl hb85) rfl rfl (fun w hW => (x_bin E rfl rfl rfl rfl)) ?_
       clear a E;intro a E
       refine fr_val E rfl (wn rfl) rfl rfl (fun w hW => (x_pickT E rfl rfl hb85 rfl)) ?_
       clear a E;intro a E
       refine fr_val E rfl (wn rfl) rfl rfl (fun w hW => (x_move E rfl rfl)) ?_
       clear a E;intro a E
       rcases Bool.eq_false_or_eq_true (decide (x3.Version ≥ 0)) with hb86 | hb86
       ·rw [if_t hb86] at hm
        refine fr_val E rfl (ws' E rfl rfl rfl rfl hb86) rfl rfl (fun w hW => x_fa E rfl rfl (v := .pointer (some ⟨p6, 3, none⟩)) (fa24_3 _ _)) ?_
        clear a E;intro a E
        refine fr_val E rfl (ws' E rfl rfl rfl rfl hb86) rfl rfl (fun w hW => x_ld E rfl rfl (ib_ld (.head _) rfl Tryd.underlying2 rfl w hW)) ?_
        clear a E;intro a E
        refine fr_val E rfl (ws' E rfl rfl rfl rfl hb86) rfl rfl (fun w hW => (x_move E rfl rfl)) ?_
        clear a E;intro a E
        refine fr_val E rfl (ws' E rfl rfl rfl rfl hb86) rfl rfl (fun w hW => (x_move E rfl rfl)) ?_
        clear a E;intro a E
        obtain ⟨x87, hx88, hm⟩ := bnd hm
        obtain ⟨q89, u92, hx90, hx91⟩ := dr_ixW (P := Tryd.prog) (k := .i64) hI (dr_mem (.head _)) Tryd.underlying22 sz39 hx88
        refine fr_val E rfl (ws' E rfl rfl rfl rfl hb86) rfl rfl (fun w hW => x_ixA E rfl rfl rfl (hx90 w)) ?_
        clear a E;intro a E
        have hx93 := dr_fld hx91 (fun _ _ _ h => k_api_Node_aw2 h)
        refine fr_val E rfl (ws' E rfl rfl rfl rfl hb86) rfl rfl (fun w hW => x_fa E rfl rfl (fa39_2 _ _)) ?_
        clear a E;intro a E
        refine fr_val E rfl (ws' E rfl rfl rfl rfl hb86) rfl rfl (fun w hW => x_ld E rfl rfl (ir_ld (DR.ir (dr_at hx93)) Tryd.underlying2 rfl w hW)) ?_
        clear a E;intro a E
        refine fr_val E rfl (ws' E rfl rfl rfl rfl hb86) rfl rfl (fun w hW => (x_bin E rfl rfl rfl rfl)) ?_
        clear a E;intro a E
        refine fr_val E rfl (wn rfl) rfl rfl (fun w hW => (x_pickT E rfl rfl hb86 rfl)) ?_
        clear a E;intro a E
        refine fr_nil ?_
        clear hI
        refine q_then ?_
        exact ⟨x3.Version != x87.Version, _, (((((E.nil.keep E 54 rfl).keep E 6 rfl).keep E 5 rfl).keep E 3 rfl).keep E 0 rfl), H, fun r hr => .tail _ (hs10 r hr), (.tail _ hr11), (.tail _ hr12), hm⟩
       ·rw [if_f hb86] at hm
        refine fr_no E rfl (wf' E rfl rfl rfl rfl hb86 rfl) rfl rfl ?_
        clear a E;intro a E
        refine fr_no E rfl (wf' E rfl rfl rfl rfl hb86 rfl) rfl rfl ?_
        clear a E;intro a E
        refine fr_no E rfl (wf' E rfl rfl rfl rfl hb86 rfl) rfl rfl ?_
        clear a E;intro a E
        refine fr_no E rfl (wf' E rfl rfl rfl rfl hb86 rfl) rfl rfl ?_
        clear a E;intro a E
        refine fr_no E rfl (wf' E rfl rfl rfl rfl hb86 rfl) rfl rfl ?_
        clear a E;intro a E
        refine fr_no E rfl (wf' E rfl rfl rfl rfl hb86 rfl) rfl rfl ?_
        clear a E;intro a E
        refine fr_no E rfl (wf' E rfl rfl rfl rfl hb86 rfl) rfl rfl ?_
        clear a E;intro a E
        refine fr_no E rfl (wf' E rfl rfl rfl rfl hb86 rfl) rfl rfl ?_
        clear a E;intro a E
        refine fr_val E rfl (wn rfl) rfl rfl (fun w hW => (x_pickF E rfl rfl hb86 rfl)) ?_
        clear a E;intro a E
        refine fr_nil ?_
        clear hI
        refine q_then ?_
        exact ⟨false, _, (((((E.nil.keep E 54 rfl).keep E 6 rfl).keep E 5 rfl).keep E 3 rfl).keep E 0 rfl), H, fun r hr => .tail _ (hs10 r hr), (.tail _ hr11), (.tail _ hr12), hm⟩
      ·rw [if_f hb85] at hm
       refine fr_no E rfl (wf' E rfl rfl rfl rfl hb85 rfl) rfl rfl ?_
       clear a E;intro a E
       refine fr_no E rfl (wf' E rfl rfl rfl rfl hb85 rfl) rfl rfl ?_
       clear a E;intro a E
       refine fr_no E rfl (wf' E rfl rfl rfl rfl hb85 rfl) rfl rfl ?_
       clear a E;intro a E
       refine fr_val E rfl (wn rfl) rfl rfl (fun w hW => (x_pickF E rfl rfl hb85 rfl)) ?_
       clear a E;intro a E
       refine fr_val E rfl (wn rfl) rfl rfl (fun w hW => (x_move E rfl rfl)) ?_
       clear a E;intro a E
       refine fr_no E rfl (wf E rfl rfl rfl rfl rfl) rfl rfl ?_
       clear a E;intro a E
       refine fr_no E rfl (wf E rfl rfl rfl rfl rfl) rfl rfl ?_
       clear a E;intro a E
       refine fr_no E rfl (wf E rfl rfl rfl rfl rfl) rfl rfl ?_
       clear a E;intro a E
       refine fr_no E rfl (wf E rfl rfl rfl rfl rfl) rfl rfl ?_
       clear a E;intro a E
       refine fr_no E rfl (wf E rfl rfl rfl rfl rfl) rfl rfl ?_
       clear a E;intro a E
       refine fr_no E rfl (wf E rfl rfl rfl rfl rfl) rfl rfl ?_
       clear a E;intro a E
       refine fr_no E rfl (wf E rfl rfl rfl rfl rfl) rfl rfl ?_
       clear a E;intro a E
       refine fr_no E rfl (wf E rfl rfl rfl rfl rfl) rfl rfl ?_
       clear a E;intro a E
       refine fr_val E rfl (wn rfl) rfl rfl (fun w hW => (x_pickF E rfl rfl rfl rfl)) ?_
       clear a E;intro a E
       refine fr_nil ?_
       clear hI
       refine q_then ?_
       exact ⟨false, _, (((((E.nil.keep E 54 rfl).keep E 6 rfl).keep E 5 rfl).keep E 3 rfl).keep E 0 rfl), H, fun r hr => .tail _ (hs10 r hr), (.tail _ hr11), (.tail _ hr12), hm⟩
     ·clear E H hm
      rintro a w ⟨b31, rs32, E, H, hs33, hr34, hr35, hm⟩
      unfold m_nodes_Apply_j2 at hm
      refine wp_if E rfl ?_ ?_
      ·intro hb
       rw [if_t hb] at hm
       clear hb
       refine wp_seq ?_
       refine wp_region_lit ?_
       refine sv E rfl rfl rfl (x_move E rfl rfl) ?_
       clear a E;intro a E
       obtain ⟨u36, hx37, hm⟩ := bnd hm
       refine st_call E (wn rfl) rfl rfl (x_call E rfl rfl (cf27 _)) (c_nodes_failed 63 H hx37) ?_
       clear E H; clear a; clear w; rintro _ w ⟨v38, rfl, H⟩ a E
       refine sv E rfl rfl rfl (x_assign E rfl rfl) ?_
       clear a E;intro a E
       obtain ⟨q39, x40, rfl⟩ := H.slform (.head _)
       refine st_st (i := 1) E H (wn rfl) rfl (us := [.int .i64 u36.Err, .string u36.Path, .string u36.Data, .int .i64 u36.Version, (.slice q39 u36.Names.length x40)]) rfl rfl rfl rfl rfl sz31 rfl rfl ?_
       clear H; clear w; intro w H
       replace H : Sep w (Blk p6 24 [.int .i64 x3.Kind, .string x3.Path, .string x3.Data, .int .i64 x3.Version, .int .i64 x3.Owner, .bool x3.Turns] :: Blk p7 31 [.int .i64 u36.Err, .string u36.Path, .string u36.Data, .int .i64 u36.Version, (.slice q39 u36.Names.length x40)] :: Fo) _ := H
       refine wpList_nil ?_
       refine q_then ?_
       refine wp_ret ?_
       refine q_thenR ?_
       refine outR2 E rfl (rvT rfl) (rvBN (i := 1) (us := [.int .i64 u36.Err, .string u36.Path, .string u36.Data, .int .i64 u36.Version, (.slice q39 u36.Names.length x40)]) H rfl rfl rfl Tryd.underlying31 rfl sz31) ?_
       replace H := H.drop 0
       replace H := H.drop 0
       obtain rfl := Option.some.inj hm
       exact ⟨v1, (.slice q39 u36.Names.length x40), rfl, H.reads (sub_cons (.tail _ hr34) (sub_cons (.head _) (fun r hr => .tail _ (hs33 r hr))))⟩
      ·intro hb
       rw [if_f hb] at hm
       clear hb
       refine wp_skip ?_
       refine q_then ?_
       refine wp_seq ?_
       refine wp_region_lit ?_
       refine sv E rfl rfl rfl (x_build E (ps := [(2, .func 30), (3, .func 31), (4, .func 32), (5, .func 33), (6, .func 34), (7, .func 35)]) (vs := [(2, .func (.func 30) #[] #[]), (3, .func (.func 31) #[] #[]), (4, .func (.func 32) #[] #[]), (5, .func (.func 33) #[] #[]), (6, .func (.func 34) #[] #[]), (7, .func (.func 35) #[] #[])]) rfl (by simp only [List.map]; rw [E.eval (x := .func 30) (v := .func (.func 30) #[] #[]) rfl, E.eval (x := .func 31) (v := .func (.func 31) #[] #[]) rfl, E.eval (x := .func 32) (v := .func (.func 32) #[] #[]) rfl, E.eval (x := .func 33) (v := .func (.func 33) #[] #[]) rfl, E.eval (x := .func 34) (v := .func (.func 34) #[] #[]) rfl, E.eval (x := .func 35) (v := .func (.func 35) #[] #[]) rfl]) (v := .agg #[.nilFunc, .nilFunc, .func (.func 30) #[] #[], .func (.func 31) #[] #[], .func (.func 32) #[] #[], .func (.func 33) #[] #[], .func (.func 34) #[] #[], .func (.func 35) #[] #[]]) (by kernel_rfl)) ?_
       clear a E;intro a E
       refine st_alloc E H (wn rfl) rfl rfl (cs := [.nilFunc, .nilFunc, .nilFunc, .nilFunc, .nilFunc, .nilFunc, .nilFunc, .nilFunc]) rfl (z := .agg #[.nilFunc, .nilFunc, .nilFunc, .nilFunc, .nilFunc, .nilFunc, .nilFunc, .nilFunc]) (by kernel_rfl) rfl ?_
       clear E H; clear a; clear w; intro p41 w a H E
       refine st_st (i := 0) E H (wn rfl) rfl (us := [.nilFunc, .nilFunc, .func (.func 30) #[] #[], .func (.func 31) #[] #[], .func (.func 32) #[] #[], .func (.func 33) #[] #[], .func (.func 34) #[] #[], .func (.func 35) #[] #[]]) rfl rfl rfl rfl rfl sz57 rfl rfl ?_
       clear H; clear w; intro w H
       replace H : Sep w (Blk p41 57 [.nilFunc, .nilFunc, .func (.func 30) #[] #[], .func (.func 31) #[] #[], .func (.func 32) #[] #[], .func (.func 33) #[] #[], .func (.func 34) #[] #[], .func (.func 35) #[] #[]] :: Blk p6 24 [.int .i64 x3.Kind, .string x3.Path, .string x3.Data, .int .i64 x3.Version, .int .i64 x3.Owner, .bool x3.Turns] :: Blk p7 31 [.int .i64 0, .string (ByteArray.mk #[]), .string (ByteArray.mk #[]), .int .i64 0, .slice none 0 0] :: Fo) _ := H
       refine wpList_nil ?_
       refine q_then ?_
       refine wp_seq ?_
       replace H : Sep w (Blk p41 57 [.nilFunc, .nilFunc, .func (.func 30) #[] #[], .func (.func 31) #[] #[], .func (.func 32) #[] #[], .func (.func 33) #[] #[], .func (.func 34) #[] #[], .func (.func 35) #[] #[]] :: Blk p6 24 [.int .i64 x3.Kind, .string x3.Path, .string x3.Data, .int .i64 x3.Version, .int .i64 x3.Owner, .bool x3.Turns] :: Blk p7 31 [.int .i64 0, .string (ByteArray.mk #[]), .string (ByteArray.mk #[]), .int .i64 0, .slice none 0 0] :: Fo) (rs32) := H
       have hI : Still [Blk p41 57 [.nilFunc, .nilFunc, .func (.func 30) #[] #[], .func (.func 31) #[] #[], .func (.func 32) #[] #[], .func (.func 33) #[] #[], .func (.func 34) #[] #[], .func (.func 35) #[] #[]], Blk p6 24 [.int .i64 x3.Kind, .string x3.Path, .string x3.Data, .int .i64 x3.Version, .int .i64 x3.Owner, .bool x3.Turns]] [] { w with drawn := w.drawn + 1 } := ⟨_, _, H.kept (Kp.drawn _ w _), (subO_cons (.head _) (subO_cons (.tail _ (.head _)) (subO_nil))), (sub_nil)⟩
       refine wp_draw _ [(0, 0), (1, 0), (2, 0), (3, 0), (4, 0), (5, 0), (6, 0), (7, 1), (8, 0), (9, 0), (10, 2), (11, 2)] mixedOk (by kernel_rfl) (fun _ _ _ h => False.elim h.2) hI ?_
       replace H := H.kept (Kp.drawn _ w (w.drawn + 1))
       generalize ({ w with drawn := w.drawn + 1 } : World) = w at H hI ⊢
       replace hI : ∃ W, Still [Blk p41 57 [.nilFunc, .nilFunc, .func (.func 30) #[] #[], .func (.func 31) #[] #[], .func (.func 32) #[] #[], .func (.func 33) #[] #[], .func (.func 34) #[] #[], .func (.func 35) #[] #[]], Blk p6 24 [.int .i64 x3.Kind, .string x3.Path, .string x3.Data, .int .i64 x3.Version, .int .i64 x3.Owner, .bool x3.Turns]] [] W := ⟨_, hI⟩
       obtain ⟨W0, hI⟩ := hI
       refine fr_val E rfl (wn rfl) rfl rfl (fun w hW => x_fa E rfl rfl (v := .pointer (some ⟨p6, 0, none⟩)) (fa24_0 _ _)) ?_
       clear a E;intro a E
       refine fr_val E rfl (wn rfl) rfl rfl (fun w hW => x_ld E rfl rfl (ib_ld (.tail _ (.head _)) rfl Tryd.underlying3 rfl w hW)) ?_
       clear a E;intro a E
       rcases Bool.eq_false_or_eq_true (x3.Kind == 2) with hb77 | hb77
       ·rw [if_t hb77] at hm
        refine fr_val E rfl (wn rfl) rfl rfl (fun w hW => x_ixP (j := 2) E rfl rfl rfl hb77 rfl Tryd.underlying57 sz56) ?_
        clear a E;intro a E
        refine fr_val E rfl (wn rfl) rfl rfl (fun w hW => x_ld E rfl rfl (ib_ld (.head _) rfl Tryd.underlying56 rfl w hW)) ?_
        clear a E;intro a E
        refine fr_val E rfl (wn rfl) rfl rfl (fun w hW => (x_move E rfl rfl)) ?_
        clear a E;intro a E
        refine fr_val E rfl (wn rfl) rfl rfl (fun w hW => (x_move E rfl rfl)) ?_
        clear a E;intro a E
        refine fr_val E rfl (wn rfl) rfl rfl (fun w hW => x_ld E rfl rfl (ib_ldN (us := [.int .i64 x3.Kind, .string x3.Path, .string x3.Data, .int .i64 x3.Version, .int .i64 x3.Owner, .bool x3.Turns]) (.tail _ (.head _)) rfl Tryd.underlying24 rfl sz24 w hW)) ?_
        clear a E;intro a E
        refine fr_op rfl ?_
        obtain ⟨u78, hx79, hm⟩ := bnd hm
        refine st_call E (wn rfl) rfl rfl (x_callv E rfl rfl rfl (cf30 _)) (c_nodes_remove v1 l2 u24.1 (⟨x3.Kind, x3.Path, x3.Data, x3.Version, x3.Owner, x3.Turns⟩ : S_api_Op) H hr34 hx79) ?_
        clear E H; clear a; clear w; rintro _ w ⟨v80, v81, rfl, H⟩ a E
        refine wpList_nil ?_
        refine q_then ?_
        replace H : Sep w (Blk p41 57 [.nilFunc, .nilFunc, .func (.func 30) #[] #[], .func (.func 31) #[] #[], .func (.func 32) #[] #[], .func (.func 33) #[] #[], .func (.func 34) #[] #[], .func (.func 35) #[] #[]] :: Blk p6 24 [.int .i64 x3.Kind, .string x3.Path, .string x3.Data, .int .i64 x3.Version, .int .i64 x3.Owner, .bool x3.Turns] :: Blk p7 31 [.int .i64 0, .string (ByteArray.mk #[]), .string (ByteArray.mk #[]), .int .i64 0, .slice none 0 0] :: Fo) (rSl k_api_Node v80 u78.1 :: rSl kS v81 u78.2.Names :: rs32) := H
        refine ⟨⟨_, _, H, (subO_cons (.head _) (subO_cons (.tail _ (.head _)) (subO_nil))), (sub_nil)⟩, ?_⟩
        refine fr_val E rfl (wn rfl) rfl rfl (fun w hW => (x_ext E rfl rfl rfl)) ?_
        clear a E;intro a E
        refine fr_val E rfl (wn rfl) rfl rfl (fun w hW => (x_ext E rfl rfl rfl)) ?_
        clear a E;intro a E
        refine fr_tail rfl ?_
        refine sv E rfl rfl rfl (x_assign E rfl rfl) ?_
        clear a E;intro a E
        refine wpList_nil ?_
        refine q_then ?_
        refine fr_tail rfl ?_
        obtain ⟨q82, x83, rfl⟩ := H.slform (.tail _ (.head _))
        refine st_st (i := 2) E H (wn rfl) rfl (us := [.int .i64 u78.2.Err, .string u78.2.Path, .string u78.2.Data, .int .i64 u78.2.Version, (.slice q82 u78.2.Names.length x83)]) rfl rfl rfl rfl rfl sz31 rfl rfl ?_
        clear H; clear w; intro w H
        replace H : Sep w (Blk p41 57 [.nilFunc, .nilFunc, .func (.func 30) #[] #[], .func (.func 31) #[] #[], .func (.func 32) #[] #[], .func (.func 33) #[] #[], .func (.func 34) #[] #[], .func (.func 35) #[] #[]] :: Blk p6 24 [.int .i64 x3.Kind, .string x3.Path, .string x3.Data, .int .i64 x3.Version, .int .i64 x3.Owner, .bool x3.Turns] :: Blk p7 31 [.int .i64 u78.2.Err, .string u78.2.Path, .string u78.2.Data, .int .i64 u78.2.Version, (.slice q82 u78.2.Names.length x83)] :: Fo) _ := H
        refine wpList_nil ?_
        refine q_then ?_
        refine fr_nil ?_
        clear hI
        refine q_then ?_
        refine wp_ret ?_
        refine outR2 E rfl (rvT rfl) (rvBN (i := 2) (us := [.int .i64 u78.2.Err, .string u78.2.Path, .string u78.2.Data, .int .i64 u78.2.Version, (.slice q82 u78.2.Names.length x83)]) H rfl rfl rfl Tryd.underlying31 rfl sz31) ?_
        replace H := H.drop 0
        replace H := H.drop 0
        replace H := H.drop 0
        obtain rfl := Option.some.inj hm
        exact ⟨v80, (.slice q82 u78.2.Names.length x83), rfl, H.reads (sub_cons (.head _) (sub_cons (.tail _ (.head _)) (fun r hr => .tail _ (.tail _ (hs33 r hr)))))⟩
       ·rw [if_f hb77] at hm
        rcases Bool.eq_false_or_eq_true (x3.Kind == 3) with hb70 | hb70
        ·rw [if_t hb70] at hm
         refine fr_val E rfl (wn rfl) rfl rfl (fun w hW => x_ixP (j := 3) E rfl rfl rfl hb70 rfl Tryd.underlying57 sz56) ?_
         clear a E;intro a E
         refine fr_val E rfl (wn rfl) rfl rfl (fun w hW => x_ld E rfl rfl (ib_ld (.head _) rfl Tryd.underlying56 rfl w hW)) ?_
         clear a E;intro a E
         refine fr_val E rfl (wn rfl) rfl rfl (fun w hW => (x_move E rfl rfl)) ?_
         clear a E;intro a E
         refine fr_val E rfl (wn rfl) rfl rfl (fun w hW => (x_move E rfl rfl)) ?_
         clear a E;intro a E
         refine fr_val E rfl (wn rfl) rfl rfl (fun w hW => x_ld E rfl rfl (ib_ldN (us := [.int .i64 x3.Kind, .string x3.Path, .string x3.Data, .int .i64 x3.Version, .int .i64 x3.Owner, .bool x3.Turns]) (.tail _ (.head _)) rfl Tryd.underlying24 rfl sz24 w hW)) ?_
         clear a E;intro a E
         refine fr_op rfl ?_
         obtain ⟨u71, hx72, hm⟩ := bnd hm
         refine st_call E (wn rfl) rfl rfl (x_callv E rfl rfl rfl (cf31 _)) (c_nodes_set v1 l2 u24.1 (⟨x3.Kind, x3.Path, x3.Data, x3.Version, x3.Owner, x3.Turns⟩ : S_api_Op) H hr34 hx72) ?_
         clear E H; clear a; clear w; rintro _ w ⟨v73, v74, rfl, H⟩ a E
         refine wpList_nil ?_
         refine q_then ?_
         replace H : Sep w (Blk p41 57 [.nilFunc, .nilFunc, .func (.func 30) #[] #[], .func (.func 31) #[] #[], .func (.func 32) #[] #[], .func (.func 33) #[] #[], .func (.func 34) #[] #[], .func (.func 35) #[] #[]] :: Blk p6 24 [.int .i64 x3.Kind, .string x3.Path, .string x3.Data, .int .i64 x3.Version, .int .i64 x3.Owner, .bool x3.Turns] :: Blk p7 31 [.int .i64 0, .string (ByteArray.mk #[]), .string (ByteArray.mk #[]), .int .i64 0, .slice none 0 0] :: Fo) (rSl k_api_Node v73 u71.1 :: rSl kS v74 u71.2.Names :: rs32) := H
         refine ⟨⟨_, _, H, (subO_cons (.head _) (subO_cons (.tail _ (.head _)) (subO_nil))), (sub_nil)⟩, ?_⟩
         refine fr_val E rfl (wn rfl) rfl rfl (fun w hW => (x_ext E rfl rfl rfl)) ?_
         clear a E;intro a E
         refine fr_val E rfl (wn rfl) rfl rfl (fun w hW => (x_ext E rfl rfl rfl)) ?_
         clear a E;intro a E
         refine fr_tail rfl ?_
         refine sv E rfl rfl rfl (x_assign E rfl rfl) ?_
         clear a E;intro a E
         refine wpList_nil ?_
         refine q_then ?_
         refine fr_tail rfl ?_
         obtain ⟨q75, x76, rfl⟩ := H.slform (.tail _ (.head _))
         refine st_st (i := 2) E H (wn rfl) rfl (us := [.int .i64 u71.2.Err, .string u71.2.Path, .string u71.2.Data, .int .i64 u71.2.Version, (.slice q75 u71.2.Names.length x76)]) rfl rfl rfl rfl rfl sz31 rfl rfl ?_
         clear H; clear w; intro w H
         replace H : Sep w (Blk p41 57 [.nilFunc, .nilFunc, .func (.func 30) #[] #[], .func (.func 31) #[] #[], .func (.func 32) #[] #[], .func (.func 33) #[] #[], .func (.func 34) #[] #[], .func (.func 35) #[] #[]] :: Blk p6 24 [.int .i64 x3.Kind, .string x3.Path, .string x3.Data, .int .i64 x3.Version, .int .i64 x3.Owner, .bool x3.Turns] :: Blk p7 31 [.int .i64 u71.2.Err, .string u71.2.Path, .string u71.2.Data, .int .i64 u71.2.Version, (.slice q75 u71.2.Names.length x76)] :: Fo) _ := H
         refine wpList_nil ?_
         refine q_then ?_
         refine fr_nil ?_
         clear hI
         refine q_then ?_
         refine wp_ret ?_
         refine outR2 E rfl (rvT rfl) (rvBN (i := 2) (us := [.int .i64 u71.2.Err, .string u71.2.Path, .string u71.2.Data, .int .i64 u71.2.Version, (.slice q75 u71.2.Names.length x76)]) H rfl rfl rfl Tryd.underlying31 rfl sz31) ?_
         replace H := H.drop 0
         replace H := H.drop 0
         replace H := H.drop 0
         obtain rfl := Option.some.inj hm
         exact ⟨v73, (.slice q75 u71.2.Names.length x76), rfl, H.reads (sub_cons (.head _) (sub_cons (.tail _ (.head _)) (fun r hr => .tail _ (.tail _ (hs33 r hr)))))⟩
        ·rw [if_f hb70] at hm
         rcases Bool.eq_false_or_eq_true (x3.Kind == 4) with hb63 | hb63
         ·rw [if_t hb63] at hm
          refine fr_val E rfl (wn rfl) rfl rfl (fun w hW => x_ixP (j := 4) E rfl rfl rfl hb63 rfl Tryd.underlying57 sz56) ?_
          clear a E;intro a E
          refine fr_val E rfl (wn rfl) rfl rfl (fun w hW => x_ld E rfl rfl (ib_ld (.head _) rfl Tryd.underlying56 rfl w hW)) ?_
          clear a E;intro a E
          refine fr_val E rfl (wn rfl) rfl rfl (fun w hW => (x_move E rfl rfl)) ?_
          clear a E;intro a E
          refine fr_val E rfl (wn rfl) rfl rfl (fun w hW => (x_move E rfl rfl)) ?_
          clear a E;intro a E
          refine fr_val E rfl (wn rfl) rfl rfl (fun w hW => x_ld E rfl rfl (ib_ldN (us := [.int .i64 x3.Kind, .string x3.Path, .string x3.Data, .int .i64 x3.Version, .int .i64 x3.Owner, .bool x3.Turns]) (.tail _ (.head _)) rfl Tryd.underlying24 rfl sz24 w hW)) ?_
          clear a E;intro a E
          refine fr_op rfl ?_
          obtain ⟨u64, hx65, hm⟩ := bnd hm
          refine st_call E (wn rfl) rfl rfl (x_callv E rfl rfl rfl (cf32 _)) (c_nodes_check v1 l2 u24.1 (⟨x3.Kind, x3.Path, x3.Data, x3.Version, x3.Owner, x3.Turns⟩ : S_api_Op) H hr34 hx65) ?_
          clear E H; clear a; clear w; rintro _ w ⟨v66, v67, rfl, H⟩ a E
          refine wpList_nil ?_
          refine q_then ?_
          replace H : Sep w (Blk p41 57 [.nilFunc, .nilFunc, .func (.func 30) #[] #[], .func (.func 31) #[] #[], .func (.func 32) #[] #[], .func (.func 33) #[] #[], .func (.func 34) #[] #[], .func (.func 35) #[] #[]] :: Blk p6 24 [.int .i64 x3.Kind, .string x3.Path, .string x3.Data, .int .i64 x3.Version, .int .i64 x3.Owner, .bool x3.Turns] :: Blk p7 31 [.int .i64 0, .string (ByteArray.mk #[]), .string (ByteArray.mk #[]), .int .i64 0, .slice none 0 0] :: Fo) (rSl k_api_Node v66 u64.1 :: rSl kS v67 u64.2.Names :: rs32) := H
          refine ⟨⟨_, _, H, (subO_cons (.head _) (subO_cons (.tail _ (.head _)) (subO_nil))), (sub_nil)⟩, ?_⟩
          refine fr_val E rfl (wn rfl) rfl rfl (fun w hW => (x_ext E rfl rfl rfl)) ?_
          clear a E;intro a E
          refine fr_val E rfl (wn rfl) rfl rfl (fun w hW => (x_ext E rfl rfl rfl)) ?_
          clear a E;intro a E
          refine fr_tail rfl ?_
          refine sv E rfl rfl rfl (x_assign E rfl rfl) ?_
          clear a E;intro a E
          refine wpList_nil ?_
          refine q_then ?_
          refine fr_tail rfl ?_
          obtain ⟨q68, x69, rfl⟩ := H.slform (.tail _ (.head _))
          refine st_st (i := 2) E H (wn rfl) rfl (us := [.int .i64 u64.2.Err, .string u64.2.Path, .string u64.2.Data, .int .i64 u64.2.Version, (.slice q68 u64.2.Names.length x69)]) rfl rfl rfl rfl rfl sz31 rfl rfl ?_
          clear H; clear w; intro w H
          replace H : Sep w (Blk p41 57 [.nilFunc, .nilFunc, .func (.func 30) #[] #[], .func (.func 31) #[] #[], .func (.func 32) #[] #[], .func (.func 33) #[] #[], .func (.func 34) #[] #[], .func (.func 35) #[] #[]] :: Blk p6 24 [.int .i64 x3.Kind, .string x3.Path, .string x3.Data, .int .i64 x3.Version, .int .i64 x3.Owner, .bool x3.Turns] :: Blk p7 31 [.int .i64 u64.2.Err, .string u64.2.Path, .string u64.2.Data, .int .i64 u64.2.Version, (.slice q68 u64.2.Names.length x69)] :: Fo) _ := H
          refine wpList_nil ?_
          refine q_then ?_
          refine fr_nil ?_
          clear hI
          refine q_then ?_
          refine wp_ret ?_
          refine outR2 E rfl (rvT rfl) (rvBN (i := 2) (us := [.int .i64 u64.2.Err, .string u64.2.Path, .string u64.2.Data, .int .i64 u64.2.Version, (.slice q68 u64.2.Names.length x69)]) H rfl rfl rfl Tryd.underlying31 rfl sz31) ?_
          replace H := H.drop 0
          replace H := H.drop 0
          replace H := H.drop 0
          obtain rfl := Option.some.inj hm
          exact ⟨v66, (.slice q68 u64.2.Names.length x69), rfl, H.reads (sub_cons (.head _) (sub_cons (.tail _ (.head _)) (fun r hr => .tail _ (.tail _ (hs33 r hr)))))⟩
         ·rw [if_f hb63] at hm
          rcases Bool.eq_false_or_eq_true (x3.Kind == 5) with hb56 | hb56
          ·rw [if_t hb56] at hm
           refine fr_val E rfl (wn rfl) rfl rfl (fun w hW => x_ixP (j := 5) E rfl rfl rfl hb56 rfl Tryd.underlying57 sz56) ?_
           clear a E;intro a E
           refine fr_val E rfl (wn rfl) rfl rfl (fun w hW => x_ld E rfl rfl (ib_ld (.head _) rfl Tryd.underlying56 rfl w hW)) ?_
           clear a E;intro a E
           refine fr_val E rfl (wn rfl) rfl rfl (fun w hW => (x_move E rfl rfl)) ?_
           clear a E;intro a E
           refine fr_val E rfl (wn rfl) rfl rfl (fun w hW => (x_move E rfl rfl)) ?_
           clear a E;intro a E
           refine fr_val E rfl (wn rfl) rfl rfl (fun w hW => x_ld E rfl rfl (ib_ldN (us := [.int .i64 x3.Kind, .string x3.Path, .string x3.Data, .int .i64 x3.Version, .int .i64 x3.Owner, .bool x3.Turns]) (.tail _ (.head _)) rfl Tryd.underlying24 rfl sz24 w hW)) ?_
           clear a E;intro a E
           refine fr_op rfl ?_
           obtain ⟨u57, hx58, hm⟩ := bnd hm
           refine st_call E (wn rfl) rfl rfl (x_callv E rfl rfl rfl (cf33 _)) (c_nodes_get v1 l2 u24.1 (⟨x3.Kind, x3.Path, x3.Data, x3.Version, x3.Owner, x3.Turns⟩ : S_api_Op) H hr34 hx58) ?_
           clear E H; clear a; clear w; rintro _ w ⟨v59, v60, rfl, H⟩ a E
           refine wpList_nil ?_
           refine q_then ?_
           replace H : Sep w (Blk p41 57 [.nilFunc, .nilFunc, .func (.func 30) #[] #[], .func (.func 31) #[] #[], .func (.func 32) #[] #[], .func (.func 33) #[] #[], .func (.func 34) #[] #[], .func (.func 35) #[] #[]] :: Blk p6 24 [.int .i64 x3.Kind, .string x3.Path, .string x3.Data, .int .i64 x3.Version, .int .i64 x3.Owner, .bool x3.Turns] :: Blk p7 31 [.int .i64 0, .string (ByteArray.mk #[]), .string (ByteArray.mk #[]), .int .i64 0, .slice none 0 0] :: Fo) (rSl k_api_Node v59 u57.1 :: rSl kS v60 u57.2.Names :: rs32) := H
           refine ⟨⟨_, _, H, (subO_cons (.head _) (subO_cons (.tail _ (.head _)) (subO_nil))), (sub_nil)⟩, ?_⟩
           refine fr_val E rfl (wn rfl) rfl rfl (fun w hW => (x_ext E rfl rfl rfl)) ?_
           clear a E;intro a E
           refine fr_val E rfl (wn rfl) rfl rfl (fun w hW => (x_ext E rfl rfl rfl)) ?_
           clear a E;intro a E
           refine fr_tail rfl ?_
           refine sv E rfl rfl rfl (x_assign E rfl rfl) ?_
           clear a E;intro a E
           refine wpList_nil ?_
           refine q_then ?_
           refine fr_tail rfl ?_
           obtain ⟨q61, x62, rfl⟩ := H.slform (.tail _ (.head _))
           refine st_st (i := 2) E H (wn rfl) rfl (us := [.int .i64 u57.2.Err, .string u57.2.Path, .string u57.2.Data, .int .i64 u57.2.Version, (.slice q61 u57.2.Names.length x62)]) rfl rfl rfl rfl rfl sz31 rfl rfl ?_
           clear H; clear w; intro w H
           replace H : Sep w (Blk p41 57 [.nilFunc, .nilFunc, .func (.func 30) #[] #[], .func (.func 31) #[] #[], .func (.func 32) #[] #[], .func (.func 33) #[] #[], .func (.func 34) #[] #[], .func (.func 35) #[] #[]] :: Blk p6 24 [.int .i64 x3.Kind, .string x3.Path, .string x3.Data, .int .i64 x3.Version, .int .i64 x3.Owner, .bool x3.Turns] :: Blk p7 31 [.int .i64 u57.2.Err, .string u57.2.Path, .string u57.2.Data, .int .i64 u57.2.Version, (.slice q61 u57.2.Names.length x62)] :: Fo) _ := H
           refine wpList_nil ?_
           refine q_then ?_
           refine fr_nil ?_
           clear hI
           refine q_then ?_
           refine wp_ret ?_
           refine outR2 E rfl (rvT rfl) (rvBN (i := 2) (us := [.int .i64 u57.2.Err, .string u57.2.Path, .string u57.2.Data, .int .i64 u57.2.Version, (.slice q61 u57.2.Names.length x62)]) H rfl rfl rfl Tryd.underlying31 rfl sz31) ?_
           replace H := H.drop 0
           replace H := H.drop 0
           replace H := H.drop 0
           obtain rfl := Option.some.inj hm
           exact ⟨v59, (.slice q61 u57.2.Names.length x62), rfl, H.reads (sub_cons (.head _) (sub_cons (.tail _ (.head _)) (fun r hr => .tail _ (.tail _ (hs33 r hr)))))⟩
          ·rw [if_f hb56] at hm
           rcases Bool.eq_false_or_eq_true (x3.Kind == 6) with hb49 | hb49
           ·rw [if_t hb49] at hm
            refine fr_val E rfl (wn rfl) rfl rfl (fun w hW => x_ixP (j := 6) E rfl rfl rfl hb49 rfl Tryd.underlying57 sz56) ?_
            clear a E;intro a E
            refine fr_val E rfl (wn rfl) rfl rfl (fun w hW => x_ld E rfl rfl (ib_ld (.head _) rfl Tryd.underlying56 rfl w hW)) ?_
            clear a E;intro a E
            refine fr_val E rfl (wn rfl) rfl rfl (fun w hW => (x_move E rfl rfl)) ?_
            clear a E;intro a E
            refine fr_val E rfl (wn rfl) rfl rfl (fun w hW => (x_move E rfl rfl)) ?_
            clear a E;intro a E
            refine fr_val E rfl (wn rfl) rfl rfl (fun w hW => x_ld E rfl rfl (ib_ldN (us := [.int .i64 x3.Kind, .string x3.Path, .string x3.Data, .int .i64 x3.Version, .int .i64 x3.Owner, .bool x3.Turns]) (.tail _ (.head _)) rfl Tryd.underlying24 rfl sz24 w hW)) ?_
            clear a E;intro a E
            refine fr_op rfl ?_
            obtain ⟨u50, hx51, hm⟩ := bnd hm
            refine st_call E (wn rfl) rfl rfl (x_callv E rfl rfl rfl (cf34 _)) (c_nodes_list v1 l2 u24.1 (⟨x3.Kind, x3.Path, x3.Data, x3.Version, x3.Owner, x3.Turns⟩ : S_api_Op) H hr34 hx51) ?_
            clear E H; clear a; clear w; rintro _ w ⟨v52, v53, rfl, H⟩ a E
            refine wpList_nil ?_
            refine q_then ?_
            replace H : Sep w (Blk p41 57 [.nilFunc, .nilFunc, .func (.func 30) #[] #[], .func (.func 31) #[] #[], .func (.func 32) #[] #[], .func (.func 33) #[] #[], .func (.func 34) #[] #[], .func (.func 35) #[] #[]] :: Blk p6 24 [.int .i64 x3.Kind, .string x3.Path, .string x3.Data, .int .i64 x3.Version, .int .i64 x3.Owner, .bool x3.Turns] :: Blk p7 31 [.int .i64 0, .string (ByteArray.mk #[]), .string (ByteArray.mk #[]), .int .i64 0, .slice none 0 0] :: Fo) (rSl k_api_Node v52 u50.1 :: rSl kS v53 u50.2.Names :: rs32) := H
            refine ⟨⟨_, _, H, (subO_cons (.head _) (subO_cons (.tail _ (.head _)) (subO_nil))), (sub_nil)⟩, ?_⟩
            refine fr_val E rfl (wn rfl) rfl rfl (fun w hW => (x_ext E rfl rfl rfl)) ?_
            clear a E;intro a E
            refine fr_val E rfl (wn rfl) rfl rfl (fun w hW => (x_ext E rfl rfl rfl)) ?_
            clear a E;intro a E
            refine fr_tail rfl ?_
            refine sv E rfl rfl rfl (x_assign E rfl rfl) ?_
            clear a E;intro a E
            refine wpList_nil ?_
            refine q_then ?_
            refine fr_tail rfl ?_
            obtain ⟨q54, x55, rfl⟩ := H.slform (.tail _ (.head _))
            refine st_st (i := 2) E H (wn rfl) rfl (us := [.int .i64 u50.2.Err, .string u50.2.Path, .string u50.2.Data, .int .i64 u50.2.Version, (.slice q54 u50.2.Names.length x55)]) rfl rfl rfl rfl rfl sz31 rfl rfl ?_
            clear H; clear w; intro w H
            replace H : Sep w (Blk p41 57 [.nilFunc, .nilFunc, .func (.func 30) #[] #[], .func (.func 31) #[] #[], .func (.func 32) #[] #[], .func (.func 33) #[] #[], .func (.func 34) #[] #[], .func (.func 35) #[] #[]] :: Blk p6 24 [.int .i64 x3.Kind, .string x3.Path, .string x3.Data, .int .i64 x3.Version, .int .i64 x3.Owner, .bool x3.Turns] :: Blk p7 31 [.int .i64 u50.2.Err, .string u50.2.Path, .string u50.2.Data, .int .i64 u50.2.Version, (.slice q54 u50.2.Names.length x55)] :: Fo) _ := H
            refine wpList_nil ?_
            refine q_then ?_
            refine fr_nil ?_
            clear hI
            refine q_then ?_
            refine wp_ret ?_
            refine outR2 E rfl (rvT rfl) (rvBN (i := 2) (us := [.int .i64 u50.2.Err, .string u50.2.Path, .string u50.2.Data, .int .i64 u50.2.Version, (.slice q54 u50.2.Names.length x55)]) H rfl rfl rfl Tryd.underlying31 rfl sz31) ?_
            replace H := H.drop 0
            replace H := H.drop 0
            replace H := H.drop 0
            obtain rfl := Option.some.inj hm
            exact ⟨v52, (.slice q54 u50.2.Names.length x55), rfl, H.reads (sub_cons (.head _) (sub_cons (.tail _ (.head _)) (fun r hr => .tail _ (.tail _ (hs33 r hr)))))⟩
           ·rw [if_f hb49] at hm
            rcases Bool.eq_false_or_eq_true (x3.Kind == 7) with hb42 | hb42
            ·rw [if_t hb42] at hm
             refine fr_val E rfl (wn rfl) rfl rfl (fun w hW => x_ixP (j := 7) E rfl rfl rfl hb42 rfl Tryd.underlying57 sz56) ?_
             clear a E;intro a E
             refine fr_val E rfl (wn rfl) rfl rfl (fun w hW => x_ld E rfl rfl (ib_ld (.head _) rfl Tryd.underlying56 rfl w hW)) ?_
             clear a E;intro a E
             refine fr_val E rfl (wn rfl) rfl rfl (fun w hW => (x_move E rfl rfl)) ?_
             clear a E;intro a E
             refine fr_val E rfl (wn rfl) rfl rfl (fun w hW => (x_move E rfl rfl)) ?_
             clear a E;intro a E
             refine fr_val E rfl (wn rfl) rfl rfl (fun w hW => x_ld E rfl rfl (ib_ldN (us := [.int .i64 x3.Kind, .string x3.Path, .string x3.Data, .int .i64 x3.Version, .int .i64 x3.Owner, .bool x3.Turns]) (.tail _ (.head _)) rfl Tryd.underlying24 rfl sz24 w hW)) ?_
             clear a E;intro a E
             refine fr_op rfl ?_
             obtain ⟨u43, hx44, hm⟩ := bnd hm
             refine st_call E (wn rfl) rfl rfl (x_callv E rfl rfl rfl (cf35 _)) (c_nodes_sweep v1 l2 u24.1 (⟨x3.Kind, x3.Path, x3.Data, x3.Version, x3.Owner, x3.Turns⟩ : S_api_Op) H hr34 hx44) ?_
             clear E H; clear a; clear w; rintro _ w ⟨v45, v46, rfl, H⟩ a E
             refine wpList_nil ?_
             refine q_then ?_
             replace H : Sep w (Row 39 k_api_Node v45 u43.1 :: Blk p41 57 [.nilFunc, .nilFunc, .func (.func 30) #[] #[], .func (.func 31) #[] #[], .func (.func 32) #[] #[], .func (.func 33) #[] #[], .func (.func 34) #[] #[], .func (.func 35) #[] #[]] :: Blk p6 24 [.int .i64 x3.Kind, .string x3.Path, .string x3.Data, .int .i64 x3.Version, .int .i64 x3.Owner, .bool x3.Turns] :: Blk p7 31 [.int .i64 0, .string (ByteArray.mk #[]), .string (ByteArray.mk #[]), .int .i64 0, .slice none 0 0] :: Fo) (rSl kS v46 u43.2.Names :: rs32) := H
             refine ⟨⟨_, _, H, (subO_cons (.tail _ (.head _)) (subO_cons (.tail _ (.tail _ (.head _))) (subO_nil))), (sub_nil)⟩, ?_⟩
             refine fr_val E rfl (wn rfl) rfl rfl (fun w hW => (x_ext E rfl rfl rfl)) ?_
             clear a E;intro a E
             refine fr_val E rfl (wn rfl) rfl rfl (fun w hW => (x_ext E rfl rfl rfl)) ?_
             clear a E;intro a E
             refine fr_tail rfl ?_
             refine sv E rfl rfl rfl (x_assign E rfl rfl) ?_
             clear a E;intro a E
             refine wpList_nil ?_
             refine q_then ?_
             refine fr_tail rfl ?_
             obtain ⟨q47, x48, rfl⟩ := H.slform (.head _)
             refine st_st (i := 3) E H (wn rfl) rfl (us := [.int .i64 u43.2.Err, .string u43.2.Path, .string u43.2.Data, .int .i64 u43.2.Version, (.slice q47 u43.2.Names.length x48)]) rfl rfl rfl rfl rfl sz31 rfl rfl ?_
             clear H; clear w; intro w H
             replace H : Sep w (Row 39 k_api_Node v45 u43.1 :: Blk p41 57 [.nilFunc, .nilFunc, .func (.func 30) #[] #[], .func (.func 31) #[] #[], .func (.func 32) #[] #[], .func (.func 33) #[] #[], .func (.func 34) #[] #[], .func (.func 35) #[] #[]] :: Blk p6 24 [.int .i64 x3.Kind, .string x3.Path, .string x3.Data, .int .i64 x3.Version, .int .i64 x3.Owner, .bool x3.Turns] :: Blk p7 31 [.int .i64 u43.2.Err, .string u43.2.Path, .string u43.2.Data, .int .i64 u43.2.Version, (.slice q47 u43.2.Names.length x48)] :: Fo) _ := H
             refine wpList_nil ?_
             refine q_then ?_
             refine fr_nil ?_
             clear hI
             refine q_then ?_
             refine wp_ret ?_
             refine outR2 E rfl (rvT rfl) (rvBN (i := 3) (us := [.int .i64 u43.2.Err, .string u43.2.Path, .string u43.2.Data, .int .i64 u43.2.Version, (.slice q47 u43.2.Names.length x48)]) H rfl rfl rfl Tryd.underlying31 rfl sz31) ?_
             replace H := H.thaw (i := 0) rfl
             replace H := H.drop 0
             replace H := H.drop 0
             replace H := H.drop 0
             obtain rfl := Option.some.inj hm
             exact ⟨v45, (.slice q47 u43.2.Names.length x48), rfl, H.reads (sub_cons (.head _) (sub_cons (.tail _ (.head _)) (fun r hr => .tail _ (.tail _ (hs33 r hr)))))⟩
            ·rw [if_f hb42] at hm
             exact (none_some hm rfl).elim
end Go.Cb

set_option linter.unusedVariables false
set_option linter.unusedSimpArgs false
namespace Go.Cb
open Go.Proofs Go.RowKit
def m_cantonlaw06_Great_j1 (x4 : Int) : Option Bool :=
  some (decide (x4 ≥ 5000))
def m_cantonlaw06_Great_l1 (l2 : List S_api_Node) : Nat → Int → Int → Option Bool
  | 0, _, _ => none
  | k1 + 1, x7, x8 =>
    if (decide (x8 < (l2.length : Int))) = true then (if (decide (x7 < 5000)) = true then ((idx l2 x8).bind fun x14 => (idx l2 x8).bind fun x21 => m_cantonlaw06_Great_l1 l2 k1 (IntKind.i64.wrap ((IntKind.i64.wrap (x7 + (min (x14.Path.size : Int) 5000))) + (min (x21.Data.size : Int) 5000))) (IntKind.i64.wrap (x8 + 1))) else (m_cantonlaw06_Great_j1 x7)) else (m_cantonlaw06_Great_j1 x7)
def m_cantonlaw06_Great (l2 : List S_api_Node) : Option Bool :=
  m_cantonlaw06_Great_l1 l2 5002 (IntKind.i64.wrap (3 * (l2.length : Int))) 0
set_option maxRecDepth 20000 in
set_option maxHeartbeats 1000000 in
theorem c_cantonlaw06_Great {w : World} {Fo : List Ob} {rs : List Rp} (v1 : Value) (l2 : List S_api_Node) (H : Sep w (Fo) rs) (hr3 : rSl k_api_Node v1 l2 ∈ rs) {r : Bool} (hm : m_cantonlaw06_Great l2 = some r) :
    Calls Tryd.prog 11 [v1].toArray w (Ret fun v w' => .bool r = v ∧ Sep w' (Fo) (rs)) := by
 unfold m_cantonlaw06_Great at hm
 refine enter Tryd.func11 rfl Tryd.ntmps11 rfl fun a E => ?_
 simp only [enum, Nat.reduceAdd] at E
 refine wp_seq ?_
 refine wp_region_lit ?_
 refine sv E rfl rfl rfl (x_assign E rfl rfl) ?_
 clear a E;intro a E
 refine wpList_nil ?_
 refine q_then ?_
 refine wp_seq ?_
 refine wp_region_lit ?_
 refine sv E rfl rfl rfl (x_move E rfl rfl) ?_
 clear a E;intro a E
 refine sv E rfl rfl rfl (x_lenS E H rfl rfl hr3 Tryd.underlying22) ?_
 clear a E;intro a E
 refine sv E rfl rfl rfl (x_bin E rfl rfl rfl rfl) ?_
 clear a E;intro a E
 refine sv E rfl rfl rfl (x_assign E rfl rfl) ?_
 clear a E;intro a E
 refine wpList_nil ?_
 refine q_then ?_
 refine wp_seq_cut (fun a w => ∃ (x4 : Int) (rs5 : List Rp), Env 37 a [(3, .int .i64 x4)] ∧ Sep w (Fo) rs5 ∧ (∀ r, r ∈ rs → r ∈ rs5) ∧ m_cantonlaw06_Great_j1 x4 = some r) ?_ ?_
 ·refine wp_seq ?_
  refine wp_region_lit ?_
  refine sv E rfl rfl rfl (x_assign E rfl rfl) ?_
  clear a E;intro a E
  refine wpList_nil ?_
  refine q_then ?_
  refine wp_block ?_
  refine wp_loop_g (fun k1 a w => ∃ (x7 : Int) (x8 : Int) (rs9 : List Rp), Env 37 a [(0, v1), (3, .int .i64 x7), (4, .int .i64 x8)] ∧ Sep w (Fo) rs9 ∧ (∀ r, r ∈ rs → r ∈ rs9) ∧ rSl k_api_Node v1 l2 ∈ rs9 ∧ m_cantonlaw06_Great_l1 l2 k1 x7 x8 = some r) (5002) ?_ ?_
  ·exact ⟨IntKind.i64.wrap (3 * (l2.length : Int)), 0, _, (((E.nil.keep E 4 rfl).keep E 3 rfl).keep E 0 rfl), H, fun r hr => hr, hr3, hm⟩
  ·clear E H hm
   rintro k1 a w ⟨x7, x8, rs9, E, H, hs10, hr11, hm⟩
   cases k1 with
   | zero => exact (none_some hm rfl).elim
   | succ k1 =>
    unfold m_cantonlaw06_Great_l1 at hm
    refine wp_seq ?_
    refine wp_seq ?_
    refine wp_region_lit ?_
    refine sv E rfl rfl rfl (x_move E rfl rfl) ?_
    clear a E;intro a E
    refine sv E rfl rfl rfl (x_move E rfl rfl) ?_
    clear a E;intro a E
    refine sv E rfl rfl rfl (x_lenS E H rfl rfl hr11 Tryd.underlying22) ?_
    clear a E;intro a E
    refine sv E rfl rfl rfl (x_bin E rfl rfl rfl rfl) ?_
    clear a E;intro a E
    refine sv E rfl rfl rfl (x_move E rfl rfl) ?_
    clear a E;intro a E
    rcases Bool.eq_false_or_eq_true (decide (x8 < (l2.length : Int))) with hb12 | hb12
    ·rw [if_t hb12] at hm
     refine st_val E (ws' E rfl rfl rfl rfl hb12) rfl rfl (x_move E rfl rfl) ?_
     clear a E;intro a E
     refine st_val E (ws' E rfl rfl rfl rfl hb12) rfl rfl (x_bin E rfl rfl rfl rfl) ?_
     clear a E;intro a E
     refine sv E rfl rfl rfl (x_pickT E rfl rfl hb12 rfl) ?_
     clear a E;intro a E
     refine wpList_nil ?_
     refine q_then ?_
     refine wp_if E rfl ?_ ?_
     ·intro hb
      rw [if_t hb] at hm
      clear hb
      refine wp_skip ?_
      refine q_then ?_
      refine wp_seq ?_
      refine wp_block ?_
      obtain ⟨u13, H⟩ := H.raw hr11
      replace H : Sep w (Fo) (rRow k_api_Node v1 l2 u13 :: rs9) := H
      have hI : Still [] [rRow k_api_Node v1 l2 u13] { w with drawn := w.drawn + 1 } := ⟨_, _, H.kept (Kp.drawn _ w _), (subO_nil), (sub_cons (.head _) (sub_nil))⟩
      refine wp_draw _ [(0, 0), (1, 0), (2, 0), (3, 0), (4, 0), (5, 0), (6, 0), (7, 0), (8, 0), (9, 0), (10, 0), (11, 0), (12, 0), (13, 0), (14, 0), (15, 0), (16, 0), (17, 2)] mixedOk (by kernel_rfl) (fun _ _ _ h => False.elim h.2) hI ?_
      replace H := H.kept (Kp.drawn _ w (w.drawn + 1))
      generalize ({ w with drawn := w.drawn + 1 } : World) = w at H hI ⊢
      replace hI : ∃ W, Still [] [rRow k_api_Node v1 l2 u13] W := ⟨_, hI⟩
      obtain ⟨W0, hI⟩ := hI
      refine fr_val E rfl (wn rfl) rfl rfl (fun w hW => (x_move E rfl rfl)) ?_
      clear a E;intro a E
      refine fr_val E rfl (wn rfl) rfl rfl (fun w hW => (x_move E rfl rfl)) ?_
      clear a E;intro a E
      refine fr_val E rfl (wn rfl) rfl rfl (fun w hW => (x_move E rfl rfl)) ?_
      clear a E;intro a E
      obtain ⟨x14, hx15, hm⟩ := bnd hm
      obtain ⟨q16, u19, hx17, hx18⟩ := dr_ixW (P := Tryd.prog) (k := .i64) hI (dr_mem (.head _)) Tryd.underlying22 sz39 hx15
      refine fr_val E rfl (wn rfl) rfl rfl (fun w hW => x_ixA E rfl rfl rfl (hx17 w)) ?_
      clear a E;intro a E
      have hx20 := dr_fld hx18 (fun _ _ _ h => k_api_Node_aw0 h)
      refine fr_val E rfl (wn rfl) rfl rfl (fun w hW => x_fa E rfl rfl (fa39_0 _ _)) ?_
      clear a E;intro a E
      refine fr_val E rfl (wn rfl) rfl rfl (fun w hW => x_ld E rfl rfl (ir_ld (DR.ir (dr_at hx20)) Tryd.underlying9 rfl w hW)) ?_
      clear a E;intro a E
      refine fr_val E rfl (wn rfl) rfl rfl (fun w hW => (x_lenStr E rfl rfl Tryd.underlying9)) ?_
      clear a E;intro a E
      refine fr_val E rfl (wn rfl) rfl rfl (fun w hW => (x_min (t := 0) E rfl rfl rfl)) ?_
      clear a E;intro a E
      refine fr_val E rfl (wn rfl) rfl rfl (fun w hW => (x_bin E rfl rfl rfl rfl)) ?_
      clear a E;intro a E
      refine fr_val E rfl (wn rfl) rfl rfl (fun w hW => (x_move E rfl rfl)) ?_
      clear a E;intro a E
      refine fr_val E rfl (wn rfl) rfl rfl (fun w hW => (x_move E rfl rfl)) ?_
      clear a E;intro a E
      obtain ⟨x21, hx22, hm⟩ := bnd hm
      obtain ⟨q23, u26, hx24, hx25⟩ := dr_ixW (P := Tryd.prog) (k := .i64) hI (dr_mem (.head _)) Tryd.underlying22 sz39 hx22
      refine fr_val E rfl (wn rfl) rfl rfl (fun w hW => x_ixA E rfl rfl rfl (hx24 w)) ?_
      clear a E;intro a E
      have hx27 := dr_fld hx25 (fun _ _ _ h => k_api_Node_aw1 h)
      refine fr_val E rfl (wn rfl) rfl rfl (fun w hW => x_fa E rfl rfl (fa39_1 _ _)) ?_
      clear a E;intro a E
      refine fr_val E rfl (wn rfl) rfl rfl (fun w hW => x_ld E rfl rfl (ir_ld (DR.ir (dr_at hx27)) Tryd.underlying9 rfl w hW)) ?_
      clear a E;intro a E
      refine fr_val E rfl (wn rfl) rfl rfl (fun w hW => (x_lenStr E rfl rfl Tryd.underlying9)) ?_
      clear a E;intro a E
      refine fr_val E rfl (wn rfl) rfl rfl (fun w hW => (x_min (t := 0) E rfl rfl rfl)) ?_
      clear a E;intro a E
      refine fr_val E rfl (wn rfl) rfl rfl (fun w hW => (x_bin E rfl rfl rfl rfl)) ?_
      clear a E;intro a E
      refine fr_tail rfl ?_
      refine sv E rfl rfl rfl (x_assign E rfl rfl) ?_
      clear a E;intro a E
      refine wpList_nil ?_
      refine q_then ?_
      refine fr_nil ?_
      clear hI
      refine q_blk ?_
      refine q_then ?_
      refine wp_region_lit ?_
      refine sv E rfl rfl rfl (x_move E rfl rfl) ?_
      clear a E;intro a E
      refine sv E rfl rfl rfl (x_bin E rfl rfl rfl rfl) ?_
      clear a E;intro a E
      refine sv E rfl rfl rfl (x_assign E rfl rfl) ?_
      clear a E;intro a E
      refine wpList_nil ?_
      refine q_then ?_
      exact ⟨k1, Nat.lt_succ_self k1, IntKind.i64.wrap ((IntKind.i64.wrap (x7 + (min (x14.Path.size : Int) 5000))) + (min (x21.Data.size : Int) 5000)), IntKind.i64.wrap (x8 + 1), _, (((E.nil.keep E 4 rfl).keep E 3 rfl).keep E 0 rfl), H, fun r hr => .tail _ (hs10 r hr), (.tail _ hr11), hm⟩
     ·intro hb
      rw [if_f hb] at hm
      clear hb
      refine wp_exit ?_
      refine q_thenX ?_
      refine q_thenX ?_
      refine q_hit ?_
      refine q_then ?_
      exact ⟨x7, _, (E.nil.keep E 3 rfl), H, hs10, hm⟩
    ·rw [if_f hb12] at hm
     refine st_no E (wf' E rfl rfl rfl rfl hb12 rfl) rfl rfl ?_
     clear a E;intro a E
     refine st_no E (wf' E rfl rfl rfl rfl hb12 rfl) rfl rfl ?_
     clear a E;intro a E
     refine sv E rfl rfl rfl (x_pickF E rfl rfl hb12 rfl) ?_
     clear a E;intro a E
     refine wpList_nil ?_
     refine q_then ?_
     refine wp_cond_false (E.eval rfl) ?_
     refine wp_exit ?_
     refine q_thenX ?_
     refine q_thenX ?_
     refine q_hit ?_
     refine q_then ?_
     exact ⟨x7, _, (E.nil.keep E 3 rfl), H, hs10, hm⟩
 ·clear E H hm
  rintro a w ⟨x4, rs5, E, H, hs6, hm⟩
  unfold m_cantonlaw06_Great_j1 at hm
  refine wp_seq ?_
  refine wp_region_lit ?_
  refine sv E rfl rfl rfl (x_move E rfl rfl) ?_
  clear a E;intro a E
  refine sv E rfl rfl rfl (x_bin E rfl rfl rfl rfl) ?_
  clear a E;intro a E
  refine sv E rfl rfl rfl (x_assign E rfl rfl) ?_
  clear a E;intro a E
  refine wpList_nil ?_
  refine q_then ?_
  refine wp_ret ?_
  refine out1 E rfl rfl ?_
  obtain rfl := Option.some.inj hm
  exact ⟨rfl, H.reads (fun r hr => hs6 r hr)⟩
end Go.Cb

set_option linter.unusedVariables false
set_option linter.unusedSimpArgs false
namespace Go.Cb
open Go.Proofs Go.RowKit
def m_nodes_New : Option (List S_api_Node) :=
  some (([(⟨(ByteArray.mk #[47]), (ByteArray.mk #[]), 0, 0, 0⟩ : S_api_Node)] : List S_api_Node))
set_option maxRecDepth 20000 in
set_option maxHeartbeats 1000000 in
theorem c_nodes_New {w : World} {Fo : List Ob} {rs : List Rp} (H : Sep w (Fo) rs) {r : (List S_api_Node)} (hm : m_nodes_New = some r) :
    Calls Tryd.prog 24 [].toArray w (Ret fun v w' => ∃ (v5001 : Value), v5001 = v ∧ Sep w' (Row 39 k_api_Node v5001 r :: Fo) (rs)) := by
 unfold m_nodes_New at hm
 refine enter Tryd.func24 rfl Tryd.ntmps24 rfl fun a E => ?_
 simp only [enum, Nat.reduceAdd] at E
 refine wp_seq ?_
 refine wp_region_lit ?_
 refine sv E rfl rfl rfl (x_assign E rfl rfl) ?_
 clear a E;intro a E
 refine wpList_nil ?_
 refine q_then ?_
 refine wp_seq ?_
 refine wp_region_lit ?_
 refine sv E rfl rfl rfl (x_build E (ps := [(0, .const (.string (ByteArray.mk #[47])))]) (vs := [(0, .string (ByteArray.mk #[47]))]) rfl (by simp only [List.map]; rw [E.eval (x := .const (.string (ByteArray.mk #[47]))) (v := .string (ByteArray.mk #[47])) rfl]) (v := .agg #[.string (ByteArray.mk #[47]), .string (ByteArray.mk #[]), .int .i64 0, .int .i64 0, .int .i64 0]) (by kernel_rfl)) ?_
 clear a E;intro a E
 refine st_bsO (e := 39) (d := k_api_Node) (cs := [.string (ByteArray.mk #[47]), .string (ByteArray.mk #[]), .int .i64 0, .int .i64 0, .int .i64 0]) (xs := [(⟨(ByteArray.mk #[47]), (ByteArray.mk #[]), 0, 0, 0⟩ : S_api_Node)]) E H (wn rfl) rfl rfl (ps := [(0, .tmp 1)]) (parts := [(0, .agg #[.string (ByteArray.mk #[47]), .string (ByteArray.mk #[]), .int .i64 0, .int .i64 0, .int .i64 0])]) rfl (by simp only [List.map]; rw [E.eval (x := .tmp 1) (v := .agg #[.string (ByteArray.mk #[47]), .string (ByteArray.mk #[]), .int .i64 0, .int .i64 0, .int .i64 0]) rfl]) (by kernel_rfl) rfl rfl (fun ok hr => (Rows.single (d := k_api_Node) (cs := [.string (ByteArray.mk #[47]), .string (ByteArray.mk #[]), .int .i64 0, .int .i64 0, .int .i64 0]) (x := (⟨(ByteArray.mk #[47]), (ByteArray.mk #[]), 0, 0, 0⟩ : S_api_Node)) k_api_Node_mk)) ?_
 clear E H; clear a; clear w; intro v1 w a H E
 refine sv E rfl rfl rfl (x_assign E rfl rfl) ?_
 clear a E;intro a E
 refine wpList_nil ?_
 refine q_then ?_
 refine wp_ret ?_
 refine out1 E rfl rfl ?_
 obtain rfl := Option.some.inj hm
 exact ⟨v1, rfl, H.reads (fun r hr => hr)⟩
end Go.Cb

set_option linter.unusedVariables false
set_option linter.unusedSimpArgs false
namespace Go.Cb
open Go.Proofs Go.RowKit
def m_cantonlaw06_head : Option Bool :=
  m_nodes_New.bind fun u2 => (m_nodes_Apply u2 (⟨1, (ByteArray.mk #[47, 113]), (ByteArray.mk #[]), 0, 0, true⟩ : S_api_Op)).bind fun u5 => (m_nodes_Apply u5.1 (⟨3, (ByteArray.mk #[47, 113, 48, 48, 48, 48]), (ByteArray.mk #[120]), (-1), 0, false⟩ : S_api_Op)).bind fun u12 => (m_nodes_Apply u12.1 (⟨2, (ByteArray.mk #[47, 113, 48, 48, 48, 48]), (ByteArray.mk #[]), 0, 0, false⟩ : S_api_Op)).bind fun u19 => (m_nodes_Apply u12.1 (⟨6, (ByteArray.mk #[47]), (ByteArray.mk #[]), 0, 0, false⟩ : S_api_Op)).bind fun u26 => (m_nodes_Apply ([] : List S_api_Node) (⟨0, (ByteArray.mk #[]), (ByteArray.mk #[]), 0, 0, false⟩ : S_api_Op)).bind fun u33 => (m_nodes_Find u12.1 (ByteArray.mk #[47, 113, 48, 48, 48, 48])).bind fun u40 => if ((u2.length : Int) == 1) = true then (if (sEq u5.2.Path (ByteArray.mk #[47, 113, 48, 48, 48, 48])) = true then (if (u5.2.Err == 0) = true then (if ((u5.1.length : Int) == 2) = true then ((idx u5.1 0).bind fun x47 => if (x47.Turn == 1) = true then (if (u12.2.Version == 1) = true then (if (u19.2.Err == 63) = true then (if ((u26.2.Names.length : Int) == 1) = true then (if (u33.2.Err == 1) = true then (if u40.2 = true then (if (sEq u40.1.Data (ByteArray.mk #[120])) = true then ((m_nodes_Right u12.1).bind fun u57 => if u57 = true then ((m_nodes_May (⟨0, (ByteArray.mk #[]), (ByteArray.mk #[]), 0, 0, false⟩ : S_api_Op)).bind fun u60 => some (!u60)) else (some (false))) else (some (false))) else (some (false))) else (some (false))) else (some (false))) else (some (false))) else (some (false))) else (some (false))) else (some (false))) else (some (false))) else (some (false))) else (some (false))
set_option maxRecDepth 20000 in
set_option maxHeartbeats 1000000 in
theorem c_cantonlaw06_head {w : World} {Fo : List Ob} {rs : List Rp} (H : Sep w (Fo) rs) (hr1 : rTab Tryd.prog ∈ rs) {r : Bool} (hm : m_cantonlaw06_head = some r) :
    Calls Tryd.prog 10 [].toArray w (Ret fun v w' => .bool r = v ∧ Sep w' (Fo) (rs)) := by
 unfold m_cantonlaw06_head at hm
 refine enter Tryd.func10 rfl Tryd.ntmps10 rfl fun a E => ?_
 simp only [enum, Nat.reduceAdd] at E
 refine wp_seq ?_
 refine wp_region_lit ?_
 refine sv E rfl rfl rfl (x_assign E rfl rfl) ?_
 clear a E;intro a E
 refine wpList_nil ?_
 refine q_then ?_
 refine wp_seq ?_
 refine wp_region_lit ?_
 obtain ⟨u2, hx3, hm⟩ := bnd hm
 refine st_call E (wn rfl) rfl rfl (x_call E rfl rfl (cf24 _)) (c_nodes_New H hx3) ?_
 clear E H; clear a; clear w; rintro _ w ⟨v4, rfl, H⟩ a E
 refine sv E rfl rfl rfl (x_assign E rfl rfl) ?_
 clear a E;intro a E
 refine wpList_nil ?_
 refine q_then ?_
 refine wp_seq ?_
 refine wp_region_lit ?_
 refine sv E rfl rfl rfl (x_move E rfl rfl) ?_
 clear a E;intro a E
 refine sv E rfl rfl rfl (x_build E (ps := [(0, .const (.int .i64 1)), (1, .const (.string (ByteArray.mk #[47, 113]))), (5, .const (.bool true))]) (vs := [(0, .int .i64 1), (1, .string (ByteArray.mk #[47, 113])), (5, .bool true)]) rfl (by simp only [List.map]; rw [E.eval (x := .const (.int .i64 1)) (v := .int .i64 1) rfl, E.eval (x := .const (.string (ByteArray.mk #[47, 113]))) (v := .string (ByteArray.mk #[47, 113])) rfl, E.eval (x := .const (.bool true)) (v := .bool true) rfl]) (v := .agg #[.int .i64 1, .string (ByteArray.mk #[47, 113]), .string (ByteArray.mk #[]), .int .i64 0, .int .i64 0, .bool true]) (by kernel_rfl)) ?_
 clear a E;intro a E
 replace H := H.thaw (i := 0) rfl
 replace H : Sep w (Fo) (rSl k_api_Node v4 u2 :: rs) := H
 obtain ⟨u5, hx6, hm⟩ := bnd hm
 refine st_call E (wn rfl) rfl rfl (x_call E rfl rfl (cf14 _)) (c_nodes_Apply v4 u2 (⟨1, (ByteArray.mk #[47, 113]), (ByteArray.mk #[]), 0, 0, true⟩ : S_api_Op) H (.head _) (.tail _ hr1) hx6) ?_
 clear E H; clear a; clear w; rintro _ w ⟨v7, v8, rfl, H⟩ a E
 refine sv E rfl rfl rfl (x_move E rfl rfl) ?_
 clear a E;intro a E
 refine sv E rfl rfl rfl (x_ext E rfl rfl rfl) ?_
 clear a E;intro a E
 refine sv E rfl rfl rfl (x_ext E rfl rfl rfl) ?_
 clear a E;intro a E
 refine st_alloc E H (wn rfl) rfl rfl (cs := [.int .i64 0, .string (ByteArray.mk #[]), .string (ByteArray.mk #[]), .int .i64 0, .slice none 0 0]) rfl (z := .agg #[.int .i64 0, .string ⟨#[]⟩, .string ⟨#[]⟩, .int .i64 0, .slice none 0 0]) (by kernel_rfl) rfl ?_
 clear E H; clear a; clear w; intro p9 w a H E
 refine sv E rfl rfl rfl (x_assign E rfl rfl) ?_
 clear a E;intro a E
 obtain ⟨q10, x11, rfl⟩ := H.slform (.tail _ (.head _))
 refine st_st (i := 0) E H (wn rfl) rfl (us := [.int .i64 u5.2.Err, .string u5.2.Path, .string u5.2.Data, .int .i64 u5.2.Version, (.slice q10 u5.2.Names.length x11)]) rfl rfl rfl rfl rfl sz31 rfl rfl ?_
 clear H; clear w; intro w H
 replace H : Sep w (Blk p9 31 [.int .i64 u5.2.Err, .string u5.2.Path, .string u5.2.Data, .int .i64 u5.2.Version, (.slice q10 u5.2.Names.length x11)] :: Fo) _ := H
 refine wpList_nil ?_
 refine q_then ?_
 refine wp_seq ?_
 refine wp_region_lit ?_
 refine sv E rfl rfl rfl (x_move E rfl rfl) ?_
 clear a E;intro a E
 refine sv E rfl rfl rfl (x_build E (ps := [(0, .const (.int .i64 3)), (1, .const (.string (ByteArray.mk #[47, 113, 48, 48, 48, 48]))), (2, .const (.string (ByteArray.mk #[120]))), (3, .const (.int .i64 (-1)))]) (vs := [(0, .int .i64 3), (1, .string (ByteArray.mk #[47, 113, 48, 48, 48, 48])), (2, .string (ByteArray.mk #[120])), (3, .int .i64 (-1))]) rfl (by simp only [List.map]; rw [E.eval (x := .const (.int .i64 3)) (v := .int .i64 3) rfl, E.eval (x := .const (.string (ByteArray.mk #[47, 113, 48, 48, 48, 48]))) (v := .string (ByteArray.mk #[47, 113, 48, 48, 48, 48])) rfl, E.eval (x := .const (.string (ByteArray.mk #[120]))) (v := .string (ByteArray.mk #[120])) rfl, E.eval (x := .const (.int .i64 (-1))) (v := .int .i64 (-1)) rfl]) (v := .agg #[.int .i64 3, .string (ByteArray.mk #[47, 113, 48, 48, 48, 48]), .string (ByteArray.mk #[120]), .int .i64 (-1), .int .i64 0, .bool false]) (by kernel_rfl)) ?_
 clear a E;intro a E
 obtain ⟨u12, hx13, hm⟩ := bnd hm
 refine st_call E (wn rfl) rfl rfl (x_call E rfl rfl (cf14 _)) (c_nodes_Apply v7 u5.1 (⟨3, (ByteArray.mk #[47, 113, 48, 48, 48, 48]), (ByteArray.mk #[120]), (-1), 0, false⟩ : S_api_Op) H (.head _) (.tail _ (.tail _ (.tail _ hr1))) hx13) ?_
 clear E H; clear a; clear w; rintro _ w ⟨v14, v15, rfl, H⟩ a E
 refine sv E rfl rfl rfl (x_move E rfl rfl) ?_
 clear a E;intro a E
 refine sv E rfl rfl rfl (x_ext E rfl rfl rfl) ?_
 clear a E;intro a E
 refine sv E rfl rfl rfl (x_ext E rfl rfl rfl) ?_
 clear a E;intro a E
 refine st_alloc E H (wn rfl) rfl rfl (cs := [.int .i64 0, .string (ByteArray.mk #[]), .string (ByteArray.mk #[]), .int .i64 0, .slice none 0 0]) rfl (z := .agg #[.int .i64 0, .string ⟨#[]⟩, .string ⟨#[]⟩, .int .i64 0, .slice none 0 0]) (by kernel_rfl) rfl ?_
 clear E H; clear a; clear w; intro p16 w a H E
 refine sv E rfl rfl rfl (x_assign E rfl rfl) ?_
 clear a E;intro a E
 obtain ⟨q17, x18, rfl⟩ := H.slform (.tail _ (.head _))
 refine st_st (i := 0) E H (wn rfl) rfl (us := [.int .i64 u12.2.Err, .string u12.2.Path, .string u12.2.Data, .int .i64 u12.2.Version, (.slice q17 u12.2.Names.length x18)]) rfl rfl rfl rfl rfl sz31 rfl rfl ?_
 clear H; clear w; intro w H
 replace H : Sep w (Blk p16 31 [.int .i64 u12.2.Err, .string u12.2.Path, .string u12.2.Data, .int .i64 u12.2.Version, (.slice q17 u12.2.Names.length x18)] :: Blk p9 31 [.int .i64 u5.2.Err, .string u5.2.Path, .string u5.2.Data, .int .i64 u5.2.Version, (.slice q10 u5.2.Names.length x11)] :: Fo) _ := H
 refine wpList_nil ?_
 refine q_then ?_
 refine wp_seq ?_
 refine wp_region_lit ?_
 refine sv E rfl rfl rfl (x_move E rfl rfl) ?_
 clear a E;intro a E
 refine sv E rfl rfl rfl (x_build E (ps := [(0, .const (.int .i64 2)), (1, .const (.string (ByteArray.mk #[47, 113, 48, 48, 48, 48]))), (3, .const (.int .i64 0))]) (vs := [(0, .int .i64 2), (1, .string (ByteArray.mk #[47, 113, 48, 48, 48, 48])), (3, .int .i64 0)]) rfl (by simp only [List.map]; rw [E.eval (x := .const (.int .i64 2)) (v := .int .i64 2) rfl, E.eval (x := .const (.string (ByteArray.mk #[47, 113, 48, 48, 48, 48]))) (v := .string (ByteArray.mk #[47, 113, 48, 48, 48, 48])) rfl, E.eval (x := .const (.int .i64 0)) (v := .int .i64 0) rfl]) (v := .agg #[.int .i64 2, .string (ByteArray.mk #[47, 113, 48, 48, 48, 48]), .string (ByteArray.mk #[]), .int .i64 0, .int .i64 0, .bool false]) (by kernel_rfl)) ?_
 clear a E;intro a E
 obtain ⟨u19, hx20, hm⟩ := bnd hm
 refine st_call E (wn rfl) rfl rfl (x_call E rfl rfl (cf14 _)) (c_nodes_Apply v14 u12.1 (⟨2, (ByteArray.mk #[47, 113, 48, 48, 48, 48]), (ByteArray.mk #[]), 0, 0, false⟩ : S_api_Op) H (.head _) (.tail _ (.tail _ (.tail _ (.tail _ (.tail _ hr1))))) hx20) ?_
 clear E H; clear a; clear w; rintro _ w ⟨v21, v22, rfl, H⟩ a E
 refine sv E rfl rfl rfl (x_move E rfl rfl) ?_
 clear a E;intro a E
 refine sv E rfl rfl rfl (x_ext E rfl rfl rfl) ?_
 clear a E;intro a E
 refine sv E rfl rfl rfl (x_ext E rfl rfl rfl) ?_
 clear a E;intro a E
 refine st_alloc E H (wn rfl) rfl rfl (cs := [.int .i64 0, .string (ByteArray.mk #[]), .string (ByteArray.mk #[]), .int .i64 0, .slice none 0 0]) rfl (z := .agg #[.int .i64 0, .string ⟨#[]⟩, .string ⟨#[]⟩, .int .i64 0, .slice none 0 0]) (by kernel_rfl) rfl ?_
 clear E H; clear a; clear w; intro p23 w a H E
 refine sv E rfl rfl rfl (x_assign E rfl rfl) ?_
 clear a E;intro a E
 obtain ⟨q24, x25, rfl⟩ := H.slform (.tail _ (.head _))
 refine st_st (i := 0) E H (wn rfl) rfl (us := [.int .i64 u19.2.Err, .string u19.2.Path, .string u19.2.Data, .int .i64 u19.2.Version, (.slice q24 u19.2.Names.length x25)]) rfl rfl rfl rfl rfl sz31 rfl rfl ?_
 clear H; clear w; intro w H
 replace H : Sep w (Blk p23 31 [.int .i64 u19.2.Err, .string u19.2.Path, .string u19.2.Data, .int .i64 u19.2.Version, (.slice q24 u19.2.Names.length x25)] :: Blk p16 31 [.int .i64 u12.2.Err, .string u12.2.Path, .string u12.2.Data, .int .i64 u12.2.Version, (.slice q17 u12.2.Names.length x18)] :: Blk p9 31 [.int .i64 u5.2.Err, .string u5.2.Path, .string u5.2.Data, .int .i64 u5.2.Version, (.slice q10 u5.2.Names.length x11)] :: Fo) _ := H
 refine wpList_nil ?_
 refine q_then ?_
 refine wp_seq ?_
 refine wp_region_lit ?_
 refine sv E rfl rfl rfl (x_move E rfl rfl) ?_
 clear a E;intro a E
 refine sv E rfl rfl rfl (x_build E (ps := [(0, .const (.int .i64 6)), (1, .const (.string (ByteArray.mk #[47])))]) (vs := [(0, .int .i64 6), (1, .string (ByteArray.mk #[47]))]) rfl (by simp only [List.map]; rw [E.eval (x := .const (.int .i64 6)) (v := .int .i64 6) rfl, E.eval (x := .const (.string (ByteArray.mk #[47]))) (v := .string (ByteArray.mk #[47])) rfl]) (v := .agg #[.int .i64 6, .string (ByteArray.mk #[47]), .string (ByteArray.mk #[]), .int .i64 0, .int .i64 0, .bool false]) (by kernel_rfl)) ?_
 clear a E;intro a E
 obtain ⟨u26, hx27, hm⟩ := bnd hm
 refine st_call E (wn rfl) rfl rfl (x_call E rfl rfl (cf14 _)) (c_nodes_Apply v14 u12.1 (⟨6, (ByteArray.mk #[47]), (ByteArray.mk #[]), 0, 0, false⟩ : S_api_Op) H (.tail _ (.tail _ (.head _))) (.tail _ (.tail _ (.tail _ (.tail _ (.tail _ (.tail _ (.tail _ hr1))))))) hx27) ?_
 clear E H; clear a; clear w; rintro _ w ⟨v28, v29, rfl, H⟩ a E
 refine sv E rfl rfl rfl (x_move E rfl rfl) ?_
 clear a E;intro a E
 refine sv E rfl rfl rfl (x_ext E rfl rfl rfl) ?_
 clear a E;intro a E
 refine sv E rfl rfl rfl (x_ext E rfl rfl rfl) ?_
 clear a E;intro a E
 refine st_alloc E H (wn rfl) rfl rfl (cs := [.int .i64 0, .string (ByteArray.mk #[]), .string (ByteArray.mk #[]), .int .i64 0, .slice none 0 0]) rfl (z := .agg #[.int .i64 0, .string ⟨#[]⟩, .string ⟨#[]⟩, .int .i64 0, .slice none 0 0]) (by kernel_rfl) rfl ?_
 clear E H; clear a; clear w; intro p30 w a H E
 refine sv E rfl rfl rfl (x_assign E rfl rfl) ?_
 clear a E;intro a E
 obtain ⟨q31, x32, rfl⟩ := H.slform (.tail _ (.head _))
 refine st_st (i := 0) E H (wn rfl) rfl (us := [.int .i64 u26.2.Err, .string u26.2.Path, .string u26.2.Data, .int .i64 u26.2.Version, (.slice q31 u26.2.Names.length x32)]) rfl rfl rfl rfl rfl sz31 rfl rfl ?_
 clear H; clear w; intro w H
 replace H : Sep w (Blk p30 31 [.int .i64 u26.2.Err, .string u26.2.Path, .string u26.2.Data, .int .i64 u26.2.Version, (.slice q31 u26.2.Names.length x32)] :: Blk p23 31 [.int .i64 u19.2.Err, .string u19.2.Path, .string u19.2.Data, .int .i64 u19.2.Version, (.slice q24 u19.2.Names.length x25)] :: Blk p16 31 [.int .i64 u12.2.Err, .string u12.2.Path, .string u12.2.Data, .int .i64 u12.2.Version, (.slice q17 u12.2.Names.length x18)] :: Blk p9 31 [.int .i64 u5.2.Err, .string u5.2.Path, .string u5.2.Data, .int .i64 u5.2.Version, (.slice q10 u5.2.Names.length x11)] :: Fo) _ := H
 refine wpList_nil ?_
 refine q_then ?_
 refine wp_seq ?_
 refine wp_region_lit ?_
 refine sv E rfl rfl rfl (x_build E (ps := []) (vs := []) rfl rfl (v := .agg #[.int .i64 0, .string (ByteArray.mk #[]), .string (ByteArray.mk #[]), .int .i64 0, .int .i64 0, .bool false]) (by kernel_rfl)) ?_
 clear a E;intro a E
 replace H := H.nilSl k_api_Node
 replace H : Sep w (Blk p30 31 [.int .i64 u26.2.Err, .string u26.2.Path, .string u26.2.Data, .int .i64 u26.2.Version, (.slice q31 u26.2.Names.length x32)] :: Blk p23 31 [.int .i64 u19.2.Err, .string u19.2.Path, .string u19.2.Data, .int .i64 u19.2.Version, (.slice q24 u19.2.Names.length x25)] :: Blk p16 31 [.int .i64 u12.2.Err, .string u12.2.Path, .string u12.2.Data, .int .i64 u12.2.Version, (.slice q17 u12.2.Names.length x18)] :: Blk p9 31 [.int .i64 u5.2.Err, .string u5.2.Path, .string u5.2.Data, .int .i64 u5.2.Version, (.slice q10 u5.2.Names.length x11)] :: Fo) (rSl k_api_Node (.slice none 0 0) ([] : List S_api_Node) :: rSl k_api_Node v28 u26.1 :: rSl kS (.slice q31 u26.2.Names.length x32) u26.2.Names :: rSl k_api_Node v21 u19.1 :: rSl kS (.slice q24 u19.2.Names.length x25) u19.2.Names :: rSl k_api_Node v14 u12.1 :: rSl kS (.slice q17 u12.2.Names.length x18) u12.2.Names :: rSl k_api_Node v7 u5.1 :: rSl kS (.slice q10 u5.2.Names.length x11) u5.2.Names :: rSl k_api_Node v4 u2 :: rs) := H
 obtain ⟨u33, hx34, hm⟩ := bnd hm
 refine st_call E (wn rfl) rfl rfl (x_call E rfl rfl (cf14 _)) (c_nodes_Apply (.slice none 0 0) ([] : List S_api_Node) (⟨0, (ByteArray.mk #[]), (ByteArray.mk #[]), 0, 0, false⟩ : S_api_Op) H (.head _) (.tail _ (.tail _ (.tail _ (.tail _ (.tail _ (.tail _ (.tail _ (.tail _ (.tail _ (.tail _ hr1)))))))))) hx34) ?_
 clear E H; clear a; clear w; rintro _ w ⟨v35, v36, rfl, H⟩ a E
 refine sv E rfl rfl rfl (x_move E rfl rfl) ?_
 clear a E;intro a E
 refine sv E rfl rfl rfl (x_ext E rfl rfl rfl) ?_
 clear a E;intro a E
 refine sv E rfl rfl rfl (x_ext E rfl rfl rfl) ?_
 clear a E;intro a E
 refine st_alloc E H (wn rfl) rfl rfl (cs := [.int .i64 0, .string (ByteArray.mk #[]), .string (ByteArray.mk #[]), .int .i64 0, .slice none 0 0]) rfl (z := .agg #[.int .i64 0, .string ⟨#[]⟩, .string ⟨#[]⟩, .int .i64 0, .slice none 0 0]) (by kernel_rfl) rfl ?_
 clear E H; clear a; clear w; intro p37 w a H E
 refine sv E rfl rfl rfl (x_assign E rfl rfl) ?_
 clear a E;intro a E
 obtain ⟨q38, x39, rfl⟩ := H.slform (.tail _ (.head _))
 refine st_st (i := 0) E H (wn rfl) rfl (us := [.int .i64 u33.2.Err, .string u33.2.Path, .string u33.2.Data, .int .i64 u33.2.Version, (.slice q38 u33.2.Names.length x39)]) rfl rfl rfl rfl rfl sz31 rfl rfl ?_
 clear H; clear w; intro w H
 replace H : Sep w (Blk p37 31 [.int .i64 u33.2.Err, .string u33.2.Path, .string u33.2.Data, .int .i64 u33.2.Version, (.slice q38 u33.2.Names.length x39)] :: Blk p30 31 [.int .i64 u26.2.Err, .string u26.2.Path, .string u26.2.Data, .int .i64 u26.2.Version, (.slice q31 u26.2.Names.length x32)] :: Blk p23 31 [.int .i64 u19.2.Err, .string u19.2.Path, .string u19.2.Data, .int .i64 u19.2.Version, (.slice q24 u19.2.Names.length x25)] :: Blk p16 31 [.int .i64 u12.2.Err, .string u12.2.Path, .string u12.2.Data, .int .i64 u12.2.Version, (.slice q17 u12.2.Names.length x18)] :: Blk p9 31 [.int .i64 u5.2.Err, .string u5.2.Path, .string u5.2.Data, .int .i64 u5.2.Version, (.slice q10 u5.2.Names.length x11)] :: Fo) _ := H
 refine wpList_nil ?_
 refine q_then ?_
 refine wp_seq ?_
 refine wp_region_lit ?_
 refine sv E rfl rfl rfl (x_move E rfl rfl) ?_
 clear a E;intro a E
 obtain ⟨u40, hx41, hm⟩ := bnd hm
 refine st_call E (wn rfl) rfl rfl (x_call E rfl rfl (cf21 _)) (c_nodes_Find v14 u12.1 (ByteArray.mk #[47, 113, 48, 48, 48, 48]) H (.tail _ (.tail _ (.tail _ (.tail _ (.tail _ (.tail _ (.tail _ (.head _)))))))) hx41) ?_
 clear E H; clear a; clear w; rintro _ w ⟨rfl, H⟩ a E
 refine sv E rfl rfl rfl (x_move E rfl rfl) ?_
 clear a E;intro a E
 refine sv E rfl rfl rfl (x_ext E rfl rfl rfl) ?_
 clear a E;intro a E
 refine sv E rfl rfl rfl (x_ext E rfl rfl rfl) ?_
 clear a E;intro a E
 refine st_alloc E H (wn rfl) rfl rfl (cs := [.string (ByteArray.mk #[]), .string (ByteArray.mk #[]), .int .i64 0, .int .i64 0, .int .i64 0]) rfl (z := .agg #[.string ⟨#[]⟩, .string ⟨#[]⟩, .int .i64 0, .int .i64 0, .int .i64 0]) (by kernel_rfl) rfl ?_
 clear E H; clear a; clear w; intro p42 w a H E
 refine st_st (i := 0) E H (wn rfl) rfl (us := [.string u40.1.Path, .string u40.1.Data, .int .i64 u40.1.Version, .int .i64 u40.1.Turn, .int .i64 u40.1.Owner]) rfl rfl rfl rfl rfl sz39 rfl rfl ?_
 clear H; clear w; intro w H
 replace H : Sep w (Blk p42 39 [.string u40.1.Path, .string u40.1.Data, .int .i64 u40.1.Version, .int .i64 u40.1.Turn, .int .i64 u40.1.Owner] :: Blk p37 31 [.int .i64 u33.2.Err, .string u33.2.Path, .string u33.2.Data, .int .i64 u33.2.Version, (.slice q38 u33.2.Names.length x39)] :: Blk p30 31 [.int .i64 u26.2.Err, .string u26.2.Path, .string u26.2.Data, .int .i64 u26.2.Version, (.slice q31 u26.2.Names.length x32)] :: Blk p23 31 [.int .i64 u19.2.Err, .string u19.2.Path, .string u19.2.Data, .int .i64 u19.2.Version, (.slice q24 u19.2.Names.length x25)] :: Blk p16 31 [.int .i64 u12.2.Err, .string u12.2.Path, .string u12.2.Data, .int .i64 u12.2.Version, (.slice q17 u12.2.Names.length x18)] :: Blk p9 31 [.int .i64 u5.2.Err, .string u5.2.Path, .string u5.2.Data, .int .i64 u5.2.Version, (.slice q10 u5.2.Names.length x11)] :: Fo) _ := H
 refine sv E rfl rfl rfl (x_assign E rfl rfl) ?_
 clear a E;intro a E
 refine wpList_nil ?_
 refine q_then ?_
 refine wp_seq ?_
 refine wp_region_lit ?_
 refine sv E rfl rfl rfl (x_move E rfl rfl) ?_
 clear a E;intro a E
 refine sv E rfl rfl rfl (x_lenS E H rfl rfl (.tail _ (.tail _ (.tail _ (.tail _ (.tail _ (.tail _ (.tail _ (.tail _ (.tail _ (.tail _ (.tail _ (.head _)))))))))))) Tryd.underlying22) ?_
 clear a E;intro a E
 refine sv E rfl rfl rfl (x_bin E rfl rfl rfl rfl) ?_
 clear a E;intro a E
 refine sv E rfl rfl rfl (x_move E rfl rfl) ?_
 clear a E;intro a E
 rcases Bool.eq_false_or_eq_true ((u2.length : Int) == 1) with hb43 | hb43
 ·rw [if_t hb43] at hm
  refine st_val E (ws' E rfl rfl rfl rfl hb43) rfl rfl (x_fa E rfl rfl (v := .pointer (some ⟨p9, 1, none⟩)) (fa31_1 _ _)) ?_
  clear a E;intro a E
  refine st_val E (ws' E rfl rfl rfl rfl hb43) rfl rfl (x_ldB (i := 5) E H rfl rfl rfl rfl Tryd.underlying9 rfl) ?_
  clear a E;intro a E
  refine st_val E (ws' E rfl rfl rfl rfl hb43) rfl rfl (x_str E rfl rfl rfl rfl) ?_
  clear a E;intro a E
  refine sv E rfl rfl rfl (x_pickT E rfl rfl hb43 rfl) ?_
  clear a E;intro a E
  refine sv E rfl rfl rfl (x_move E rfl rfl) ?_
  clear a E;intro a E
  rcases Bool.eq_false_or_eq_true (sEq u5.2.Path (ByteArray.mk #[47, 113, 48, 48, 48, 48])) with hb44 | hb44
  ·rw [if_t hb44] at hm
   refine st_val E (ws' E rfl rfl rfl rfl hb44) rfl rfl (x_fa E rfl rfl (v := .pointer (some ⟨p9, 0, none⟩)) (fa31_0 _ _)) ?_
   clear a E;intro a E
   refine st_val E (ws' E rfl rfl rfl rfl hb44) rfl rfl (x_ldB (i := 5) E H rfl rfl rfl rfl Tryd.underlying28 rfl) ?_
   clear a E;intro a E
   refine st_val E (ws' E rfl rfl rfl rfl hb44) rfl rfl (x_bin E rfl rfl rfl rfl) ?_
   clear a E;intro a E
   refine sv E rfl rfl rfl (x_pickT E rfl rfl hb44 rfl) ?_
   clear a E;intro a E
   refine sv E rfl rfl rfl (x_move E rfl rfl) ?_
   clear a E;intro a E
   rcases Bool.eq_false_or_eq_true (u5.2.Err == 0) with hb45 | hb45
   ·rw [if_t hb45] at hm
    refine st_val E (ws' E rfl rfl rfl rfl hb45) rfl rfl (x_move E rfl rfl) ?_
    clear a E;intro a E
    refine st_val E (ws' E rfl rfl rfl rfl hb45) rfl rfl (x_lenS E H rfl rfl (.tail _ (.tail _ (.tail _ (.tail _ (.tail _ (.tail _ (.tail _ (.tail _ (.tail _ (.head _)))))))))) Tryd.underlying22) ?_
    clear a E;intro a E
    refine st_val E (ws' E rfl rfl rfl rfl hb45) rfl rfl (x_bin E rfl rfl rfl rfl) ?_
    clear a E;intro a E
    refine sv E rfl rfl rfl (x_pickT E rfl rfl hb45 rfl) ?_
    clear a E;intro a E
    refine sv E rfl rfl rfl (x_move E rfl rfl) ?_
    clear a E;intro a E
    rcases Bool.eq_false_or_eq_true ((u5.1.length : Int) == 2) with hb46 | hb46
    ·rw [if_t hb46] at hm
     refine st_val E (ws' E rfl rfl rfl rfl hb46) rfl rfl (x_move E rfl rfl) ?_
     clear a E;intro a E
     obtain ⟨x47, hx48, hm⟩ := bnd hm
     refine st_ixS E H (ws' E rfl rfl rfl rfl hb46) rfl rfl rfl rfl rfl (.tail _ (.tail _ (.tail _ (.tail _ (.tail _ (.tail _ (.tail _ (.tail _ (.tail _ (.head _)))))))))) Tryd.underlying22 sz39 hx48 ?_
     clear E H; clear a; intro q49 a H E
     replace H := H.derive1 (.head _) (rAt (kI .i64) (q49.add 3) x47.Turn) (fun ok h => k_api_Node_at3 h)
     refine st_val E (ws' E rfl rfl rfl rfl hb46) rfl rfl (x_fa E rfl rfl (fa39_3 _ _)) ?_
     clear a E;intro a E
     refine st_val E (ws' E rfl rfl rfl rfl hb46) rfl rfl (x_ldA E H rfl rfl (.head _) Tryd.underlying2 rfl) ?_
     clear a E;intro a E
     refine st_val E (ws' E rfl rfl rfl rfl hb46) rfl rfl (x_bin E rfl rfl rfl rfl) ?_
     clear a E;intro a E
     refine sv E rfl rfl rfl (x_pickT E rfl rfl hb46 rfl) ?_
     clear a E;intro a E
     refine sv E rfl rfl rfl (x_move E rfl rfl) ?_
     clear a E;intro a E
     rcases Bool.eq_false_or_eq_true (x47.Turn == 1) with hb50 | hb50
     ·rw [if_t hb50] at hm
      refine st_val E (ws' E rfl rfl rfl rfl hb50) rfl rfl (x_fa E rfl rfl (v := .pointer (some ⟨p16, 3, none⟩)) (fa31_3 _ _)) ?_
      clear a E;intro a E
      refine st_val E (ws' E rfl rfl rfl rfl hb50) rfl rfl (x_ldB (i := 4) E H rfl rfl rfl rfl Tryd.underlying2 rfl) ?_
      clear a E;intro a E
      refine st_val E (ws' E rfl rfl rfl rfl hb50) rfl rfl (x_bin E rfl rfl rfl rfl) ?_
      clear a E;intro a E
      refine sv E rfl rfl rfl (x_pickT E rfl rfl hb50 rfl) ?_
      clear a E;intro a E
      refine sv E rfl rfl rfl (x_move E rfl rfl) ?_
      clear a E;intro a E
      rcases Bool.eq_false_or_eq_true (u12.2.Version == 1) with hb51 | hb51
      ·rw [if_t hb51] at hm
       refine st_val E (ws' E rfl rfl rfl rfl hb51) rfl rfl (x_fa E rfl rfl (v := .pointer (some ⟨p23, 0, none⟩)) (fa31_0 _ _)) ?_
       clear a E;intro a E
       refine st_val E (ws' E rfl rfl rfl rfl hb51) rfl rfl (x_ldB (i := 3) E H rfl rfl rfl rfl Tryd.underlying28 rfl) ?_
       clear a E;intro a E
       refine st_val E (ws' E rfl rfl rfl rfl hb51) rfl rfl (x_bin E rfl rfl rfl rfl) ?_
       clear a E;intro a E
       refine sv E rfl rfl rfl (x_pickT E rfl rfl hb51 rfl) ?_
       clear a E;intro a E
       refine sv E rfl rfl rfl (x_move E rfl rfl) ?_
       clear a E;intro a E
       rcases Bool.eq_false_or_eq_true (u19.2.Err == 63) with hb52 | hb52
       ·rw [if_t hb52] at hm
        refine st_val E (ws' E rfl rfl rfl rfl hb52) rfl rfl (x_fa E rfl rfl (v := .pointer (some ⟨p30, 4, none⟩)) (fa31_4 _ _)) ?_
        clear a E;intro a E
        refine st_val E (ws' E rfl rfl rfl rfl hb52) rfl rfl (x_ldB (i := 2) E H rfl rfl rfl rfl Tryd.underlying29 rfl) ?_
        clear a E;intro a E
        refine st_val E (ws' E rfl rfl rfl rfl hb52) rfl rfl (x_lenS E H rfl rfl (.tail _ (.tail _ (.tail _ (.tail _ (.tail _ (.tail _ (.head _))))))) Tryd.underlying29) ?_
        clear a E;intro a E
        refine st_val E (ws' E rfl rfl rfl rfl hb52) rfl rfl (x_bin E rfl rfl rfl rfl) ?_
        clear a E;intro a E
        refine sv E rfl rfl rfl (x_pickT E rfl rfl hb52 rfl) ?_
        clear a E;intro a E
        refine sv E rfl rfl rfl (x_move E rfl rfl) ?_
        clear a E;intro a E
        rcases Bool.eq_false_or_eq_true ((u26.2.Names.length : Int) == 1) with hb53 | hb53
        ·rw [if_t hb53] at hm
         refine st_val E (ws' E rfl rfl rfl rfl hb53) rfl rfl (x_fa E rfl rfl (v := .pointer (some ⟨p37, 0, none⟩)) (fa31_0 _ _)) ?_
         clear a E;intro a E
         refine st_val E (ws' E rfl rfl rfl rfl hb53) rfl rfl (x_ldB (i := 1) E H rfl rfl rfl rfl Tryd.underlying28 rfl) ?_
         clear a E;intro a E
         refine st_val E (ws' E rfl rfl rfl rfl hb53) rfl rfl (x_bin E rfl rfl rfl rfl) ?_
         clear a E;intro a E
         refine sv E rfl rfl rfl (x_pickT E rfl rfl hb53 rfl) ?_
         clear a E;intro a E
         refine sv E rfl rfl rfl (x_move E rfl rfl) ?_
         clear a E;intro a E
         rcases Bool.eq_false_or_eq_true (u33.2.Err == 1) with hb54 | hb54
         ·rw [if_t hb54] at hm
          refine st_val E (ws' E rfl rfl rfl rfl hb54) rfl rfl (x_move E rfl rfl) ?_
          clear a E;intro a E
          refine sv E rfl rfl rfl (x_pickT E rfl rfl hb54 rfl) ?_
          clear a E;intro a E
          refine sv E rfl rfl rfl (x_move E rfl rfl) ?_
          clear a E;intro a E
          rcases Bool.eq_false_or_eq_true u40.2 with hb55 | hb55
          ·rw [if_t hb55] at hm
           refine st_val E (ws' E rfl rfl rfl rfl hb55) rfl rfl (x_fa E rfl rfl (v := .pointer (some ⟨p42, 1, none⟩)) (fa39_1 _ _)) ?_
           clear a E;intro a E
           refine st_val E (ws' E rfl rfl rfl rfl hb55) rfl rfl (x_ldB (i := 0) E H rfl rfl rfl rfl Tryd.underlying9 rfl) ?_
           clear a E;intro a E
           refine st_val E (ws' E rfl rfl rfl rfl hb55) rfl rfl (x_str E rfl rfl rfl rfl) ?_
           clear a E;intro a E
           refine sv E rfl rfl rfl (x_pickT E rfl rfl hb55 rfl) ?_
           clear a E;intro a E
           refine sv E rfl rfl rfl (x_move E rfl rfl) ?_
           clear a E;intro a E
           rcases Bool.eq_false_or_eq_true (sEq u40.1.Data (ByteArray.mk #[120])) with hb56 | hb56
           ·rw [if_t hb56] at hm
            refine st_val E (ws' E rfl rfl rfl rfl hb56) rfl rfl (x_move E rfl rfl) ?_
            clear a E;intro a E
            obtain ⟨u57, hx58, hm⟩ := bnd hm
            refine st_call E (ws' E rfl rfl rfl rfl hb56) rfl rfl (x_call E rfl rfl (cf25 _)) (c_nodes_Right v14 u12.1 H (.tail _ (.tail _ (.tail _ (.tail _ (.tail _ (.tail _ (.tail _ (.tail _ (.tail _ (.head _)))))))))) hx58) ?_
            clear E H; clear a; clear w; rintro _ w ⟨rfl, H⟩ a E
            refine sv E rfl rfl rfl (x_pickT E rfl rfl hb56 rfl) ?_
            clear a E;intro a E
            refine sv E rfl rfl rfl (x_move E rfl rfl) ?_
            clear a E;intro a E
            rcases Bool.eq_false_or_eq_true u57 with hb59 | hb59
            ·rw [if_t hb59] at hm
             refine st_val E (ws' E rfl rfl rfl rfl hb59) rfl rfl (x_build E (ps := []) (vs := []) rfl rfl (v := .agg #[.int .i64 0, .string (ByteArray.mk #[]), .string (ByteArray.mk #[]), .int .i64 0, .int .i64 0, .bool false]) (by kernel_rfl)) ?_
             clear a E;intro a E
             obtain ⟨u60, hx61, hm⟩ := bnd hm
             refine st_call E (ws' E rfl rfl rfl rfl hb59) rfl rfl (x_call E rfl rfl (cf26 _)) (c_nodes_May (⟨0, (ByteArray.mk #[]), (ByteArray.mk #[]), 0, 0, false⟩ : S_api_Op) H hx61) ?_
             clear E H; clear a; clear w; rintro _ w ⟨rfl, H⟩ a E
             refine st_val E (ws' E rfl rfl rfl rfl hb59) rfl rfl (x_not E rfl rfl) ?_
             clear a E;intro a E
             refine sv E rfl rfl rfl (x_pickT E rfl rfl hb59 rfl) ?_
             clear a E;intro a E
             refine sv E rfl rfl rfl (x_assign E rfl rfl) ?_
             clear a E;intro a E
             refine wpList_nil ?_
             refine q_then ?_
             refine wp_ret ?_
             refine out1 E rfl rfl ?_
             replace H := H.drop 0
             replace H := H.drop 0
             replace H := H.drop 0
             replace H := H.drop 0
             replace H := H.drop 0
             replace H := H.drop 0
             obtain rfl := Option.some.inj hm
             exact ⟨rfl, H.reads (fun r hr => .tail _ (.tail _ (.tail _ (.tail _ (.tail _ (.tail _ (.tail _ (.tail _ (.tail _ (.tail _ (.tail _ (.tail _ (.tail _ (.tail _ (hr)))))))))))))))⟩
            ·rw [if_f hb59] at hm
             refine st_no E (wf' E rfl rfl rfl rfl hb59 rfl) rfl rfl ?_
             clear a E;intro a E
             refine st_no E (wf' E rfl rfl rfl rfl hb59 rfl) rfl rfl ?_
             clear a E;intro a E
             refine st_no E (wf' E rfl rfl rfl rfl hb59 rfl) rfl rfl ?_
             clear a E;intro a E
             refine sv E rfl rfl rfl (x_pickF E rfl rfl hb59 rfl) ?_
             clear a E;intro a E
             refine sv E rfl rfl rfl (x_assign E rfl rfl) ?_
             clear a E;intro a E
             refine wpList_nil ?_
             refine q_then ?_
             refine wp_ret ?_
             refine out1 E rfl rfl ?_
             replace H := H.drop 0
             replace H := H.drop 0
             replace H := H.drop 0
             replace H := H.drop 0
             replace H := H.drop 0
             replace H := H.drop 0
             obtain rfl := Option.some.inj hm
             exact ⟨rfl, H.reads (fun r hr => .tail _ (.tail _ (.tail _ (.tail _ (.tail _ (.tail _ (.tail _ (.tail _ (.tail _ (.tail _ (.tail _ (.tail _ (.tail _ (.tail _ (hr)))))))))))))))⟩
           ·rw [if_f hb56] at hm
            refine st_no E (wf' E rfl rfl rfl rfl hb56 rfl) rfl rfl ?_
            clear a E;intro a E
            refine st_no E (wf' E rfl rfl rfl rfl hb56 rfl) rfl rfl ?_
            clear a E;intro a E
            refine sv E rfl rfl rfl (x_pickF E rfl rfl hb56 rfl) ?_
            clear a E;intro a E
            refine sv E rfl rfl rfl (x_move E rfl rfl) ?_
            clear a E;intro a E
            refine st_no E (wf E rfl rfl rfl rfl rfl) rfl rfl ?_
            clear a E;intro a E
            refine st_no E (wf E rfl rfl rfl rfl rfl) rfl rfl ?_
            clear a E;intro a E
            refine st_no E (wf E rfl rfl rfl rfl rfl) rfl rfl ?_
            clear a E;intro a E
            refine sv E rfl rfl rfl (x_pickF E rfl rfl rfl rfl) ?_
            clear a E;intro a E
            refine sv E rfl rfl rfl (x_assign E rfl rfl) ?_
            clear a E;intro a E
            refine wpList_nil ?_
            refine q_then ?_
            refine wp_ret ?_
            refine out1 E rfl rfl ?_
            replace H := H.drop 0
            replace H := H.drop 0
            replace H := H.drop 0
            replace H := H.drop 0
            replace H := H.drop 0
            replace H := H.drop 0
            obtain rfl := Option.some.inj hm
            exact ⟨rfl, H.reads (fun r hr => .tail _ (.tail _ (.tail _ (.tail _ (.tail _ (.tail _ (.tail _ (.tail _ (.tail _ (.tail _ (.tail _ (.tail _ (.tail _ (.tail _ (hr)))))))))))))))⟩
          ·rw [if_f hb55] at hm
           refine st_no E (wf' E rfl rfl rfl rfl hb55 rfl) rfl rfl ?_
           clear a E;intro a E
           refine st_no E (wf' E rfl rfl rfl rfl hb55 rfl) rfl rfl ?_
           clear a E;intro a E
           refine st_no E (wf' E rfl rfl rfl rfl hb55 rfl) rfl rfl ?_
           clear a E;intro a E
           refine sv E rfl rfl rfl (x_pickF E rfl rfl hb55 rfl) ?_
           clear a E;intro a E
           refine sv E rfl rfl rfl (x_move E rfl rfl) ?_
           clear a E;intro a E
           refine st_no E (wf E rfl rfl rfl rfl rfl) rfl rfl ?_
           clear a E;intro a E
           refine st_no E (wf E rfl rfl rfl rfl rfl) rfl rfl ?_
           clear a E;intro a E
           refine sv E rfl rfl rfl (x_pickF E rfl rfl rfl rfl) ?_
           clear a E;intro a E
           refine sv E rfl rfl rfl (x_move E rfl rfl) ?_
           clear a E;intro a E
           refine st_no E (wf E rfl rfl rfl rfl rfl) rfl rfl ?_
           clear a E;intro a E
           refine st_no E (wf E rfl rfl rfl rfl rfl) rfl rfl ?_
           clear a E;intro a E
           refine st_no E (wf E rfl rfl rfl rfl rfl) rfl rfl ?_
           clear a E;intro a E
           refine sv E rfl rfl rfl (x_pickF E rfl rfl rfl rfl) ?_
           clear a E;intro a E
           refine sv E rfl rfl rfl (x_assign E rfl rfl) ?_
           clear a E;intro a E
           refine wpList_nil ?_
           refine q_then ?_
           refine wp_ret ?_
           refine out1 E rfl rfl ?_
           replace H := H.drop 0
           replace H := H.drop 0
           replace H := H.drop 0
           replace H := H.drop 0
           replace H := H.drop 0
           replace H := H.drop 0
           obtain rfl := Option.some.inj hm
           exact ⟨rfl, H.reads (fun r hr => .tail _ (.tail _ (.tail _ (.tail _ (.tail _ (.tail _ (.tail _ (.tail _ (.tail _ (.tail _ (.tail _ (.tail _ (.tail _ (.tail _ (hr)))))))))))))))⟩
         ·rw [if_f hb54] at hm
          refine st_no E (wf' E rfl rfl rfl rfl hb54 rfl) rfl rfl ?_
          clear a E;intro a E
          refine sv E rfl rfl rfl (x_pickF E rfl rfl hb54 rfl) ?_
          clear a E;intro a E
          refine sv E rfl rfl rfl (x_move E rfl rfl) ?_
          clear a E;intro a E
          refine st_no E (wf E rfl rfl rfl rfl rfl) rfl rfl ?_
          clear a E;intro a E
          refine st_no E (wf E rfl rfl rfl rfl rfl) rfl rfl ?_
          clear a E;intro a E
          refine st_no E (wf E rfl rfl rfl rfl rfl) rfl rfl ?_
          clear a E;intro a E
          refine sv E rfl rfl rfl (x_pickF E rfl rfl rfl rfl) ?_
          clear a E;intro a E
          refine sv E rfl rfl rfl (x_move E rfl rfl) ?_
          clear a E;intro a E
          refine st_no E (wf E rfl rfl rfl rfl rfl) rfl rfl ?_
          clear a E;intro a E
          refine st_no E (wf E rfl rfl rfl rfl rfl) rfl rfl ?_
          clear a E;intro a E
          refine sv E rfl rfl rfl (x_pickF E rfl rfl rfl rfl) ?_
          clear a E;intro a E
          refine sv E rfl rfl rfl (x_move E rfl rfl) ?_
          clear a E;intro a E
          refine st_no E (wf E rfl rfl rfl rfl rfl) rfl rfl ?_
          clear a E;intro a E
          refine st_no E (wf E rfl rfl rfl rfl rfl) rfl rfl ?_
          clear a E;intro a E
          refine st_no E (wf E rfl rfl rfl rfl rfl) rfl rfl ?_
          clear a E;intro a E
          refine sv E rfl rfl rfl (x_pickF E rfl rfl rfl rfl) ?_
          clear a E;intro a E
          refine sv E rfl rfl rfl (x_assign E rfl rfl) ?_
          clear a E;intro a E
          refine wpList_nil ?_
          refine q_then ?_
          refine wp_ret ?_
          refine out1 E rfl rfl ?_
          replace H := H.drop 0
          replace H := H.drop 0
          replace H := H.drop 0
          replace H := H.drop 0
          replace H := H.drop 0
          replace H := H.drop 0
          obtain rfl := Option.some.inj hm
          exact ⟨rfl, H.reads (fun r hr => .tail _ (.tail _ (.tail _ (.tail _ (.tail _ (.tail _ (.tail _ (.tail _ (.tail _ (.tail _ (.tail _ (.tail _ (.tail _ (.tail _ (hr)))))))))))))))⟩
        ·rw [if_f hb53] at hm
         refine st_no E (wf' E rfl rfl rfl rfl hb53 rfl) rfl rfl ?_
         clear a E;intro a E
         refine st_no E (wf' E rfl rfl rfl rfl hb53 rfl) rfl rfl ?_
         clear a E;intro a E
         refine st_no E (wf' E rfl rfl rfl rfl hb53 rfl) rfl rfl ?_
         clear a E;intro a E
         refine sv E rfl rfl rfl (x_pickF E rfl rfl hb53 rfl) ?_
         clear a E;intro a E
         refine sv E rfl rfl rfl (x_move E rfl rfl) ?_
         clear a E;intro a E
         refine st_no E (wf E rfl rfl rfl rfl rfl) rfl rfl ?_
         clear a E;intro a E
         refine sv E rfl rfl rfl (x_pickF E rfl rfl rfl rfl) ?_
         clear a E;intro a E
         refine sv E rfl rfl rfl (x_move E rfl rfl) ?_
         clear a E;intro a E
         refine st_no E (wf E rfl rfl rfl rfl rfl) rfl rfl ?_
         clear a E;intro a E
         refine st_no E (wf E rfl rfl rfl rfl rfl) rfl rfl ?_
         clear a E;intro a E
         refine st_no E (wf E rfl rfl rfl rfl rfl) rfl rfl ?_
         clear a E;intro a E
         refine sv E rfl rfl rfl (x_pickF E rfl rfl rfl rfl) ?_
         clear a E;intro a E
         refine sv E rfl rfl rfl (x_move E rfl rfl) ?_
         clear a E;intro a E
         refine st_no E (wf E rfl rfl rfl rfl rfl) rfl rfl ?_
         clear a E;intro a E
         refine st_no E (wf E rfl rfl rfl rfl rfl) rfl rfl ?_
         clear a E;intro a E
         refine sv E rfl rfl rfl (x_pickF E rfl rfl rfl rfl) ?_
         clear a E;intro a E
         refine sv E rfl rfl rfl (x_move E rfl rfl) ?_
         clear a E;intro a E
         refine st_no E (wf E rfl rfl rfl rfl rfl) rfl rfl ?_
         clear a E;intro a E
         refine st_no E (wf E rfl rfl rfl rfl rfl) rfl rfl ?_
         clear a E;intro a E
         refine st_no E (wf E rfl rfl rfl rfl rfl) rfl rfl ?_
         clear a E;intro a E
         refine sv E rfl rfl rfl (x_pickF E rfl rfl rfl rfl) ?_
         clear a E;intro a E
         refine sv E rfl rfl rfl (x_assign E rfl rfl) ?_
         clear a E;intro a E
         refine wpList_nil ?_
         refine q_then ?_
         refine wp_ret ?_
         refine out1 E rfl rfl ?_
         replace H := H.drop 0
         replace H := H.drop 0
         replace H := H.drop 0
         replace H := H.drop 0
         replace H := H.drop 0
         replace H := H.drop 0
         obtain rfl := Option.some.inj hm
         exact ⟨rfl, H.reads (fun r hr => .tail _ (.tail _ (.tail _ (.tail _ (.tail _ (.tail _ (.tail _ (.tail _ (.tail _ (.tail _ (.tail _ (.tail _ (.tail _ (.tail _ (hr)))))))))))))))⟩
       ·rw [if_f hb52] at hm
        refine st_no E (wf' E rfl rfl rfl rfl hb52 rfl) rfl rfl ?_
        clear a E;intro a E
        refine st_no E (wf' E rfl rfl rfl rfl hb52 rfl) rfl rfl ?_
        clear a E;intro a E
        refine st_no E (wf' E rfl rfl rfl rfl hb52 rfl) rfl rfl ?_
        clear a E;intro a E
        refine st_no E (wf' E rfl rfl rfl rfl hb52 rfl) rfl rfl ?_
        clear a E;intro a E
        refine sv E rfl rfl rfl (x_pickF E rfl rfl hb52 rfl) ?_
        clear a E;intro a E
        refine sv E rfl rfl rfl (x_move E rfl rfl) ?_
        clear a E;intro a E
        refine st_no E (wf E rfl rfl rfl rfl rfl) rfl rfl ?_
        clear a E;intro a E
        refine st_no E (wf E rfl rfl rfl rfl rfl) rfl rfl ?_
        clear a E;intro a E
        refine st_no E (wf E rfl rfl rfl rfl rfl) rfl rfl ?_
        clear a E;intro a E
        refine sv E rfl rfl rfl (x_pickF E rfl rfl rfl rfl) ?_
        clear a E;intro a E
        refine sv E rfl rfl rfl (x_move E rfl rfl) ?_
        clear a E;intro a E
        refine st_no E (wf E rfl rfl rfl rfl rfl) rfl rfl ?_
        clear a E;intro a E
        refine sv E rfl rfl rfl (x_pickF E rfl rfl rfl rfl) ?_
        clear a E;intro a E
        refine sv E rfl rfl rfl (x_move E rfl rfl) ?_
        clear a E;intro a E
        refine st_no E (wf E rfl rfl rfl rfl rfl) rfl rfl ?_
        clear a E;intro a E
        refine st_no E (wf E rfl rfl rfl rfl rfl) rfl rfl ?_
        clear a E;intro a E
        refine st_no E (wf E rfl rfl rfl rfl rfl) rfl rfl ?_
        clear a E;intro a E
        refine sv E rfl rfl rfl (x_pickF E rfl rfl rfl rfl) ?_
        clear a E;intro a E
        refine sv E rfl rfl rfl (x_move E rfl rfl) ?_
        clear a E;intro a E
        refine st_no E (wf E rfl rfl rfl rfl rfl) rfl rfl ?_
        clear a E;intro a E
        refine st_no E (wf E rfl rfl rfl rfl rfl) rfl rfl ?_
        clear a E;intro a E
        refine sv E rfl rfl rfl (x_pickF E rfl rfl rfl rfl) ?_
        clear a E;intro a E
        refine sv E rfl rfl rfl (x_move E rfl rfl) ?_
        clear a E;intro a E
        refine st_no E (wf E rfl rfl rfl rfl rfl) rfl rfl ?_
        clear a E;intro a E
        refine st_no E (wf E rfl rfl rfl rfl rfl) rfl rfl ?_
        clear a E;intro a E
        refine st_no E (wf E rfl rfl rfl rfl rfl) rfl rfl ?_
        clear a E;intro a E
        refine sv E rfl rfl rfl (x_pickF E rfl rfl rfl rfl) ?_
        clear a E;intro a E
        refine sv E rfl rfl rfl (x_assign E rfl rfl) ?_
        clear a E;intro a E
        refine wpList_nil ?_
        refine q_then ?_
        refine wp_ret ?_
        refine out1 E rfl rfl ?_
        replace H := H.drop 0
        replace H := H.drop 0
        replace H := H.drop 0
        replace H := H.drop 0
        replace H := H.drop 0
        replace H := H.drop 0
        obtain rfl := Option.some.inj hm
        exact ⟨rfl, H.reads (fun r hr => .tail _ (.tail _ (.tail _ (.tail _ (.tail _ (.tail _ (.tail _ (.tail _ (.tail _ (.tail _ (.tail _ (.tail _ (.tail _ (.tail _ (hr)))))))))))))))⟩
      ·rw [if_f hb51] at hm
       refine st_no E (wf' E rfl rfl rfl rfl hb51 rfl) rfl rfl ?_
       clear a E;intro a E
       refine st_no E (wf' E rfl rfl rfl rfl hb51 rfl) rfl rfl ?_
       clear a E;intro a E
       refine st_no E (wf' E rfl rfl rfl rfl hb51 rfl) rfl rfl ?_
       clear a E;intro a E
       refine sv E rfl rfl rfl (x_pickF E rfl rfl hb51 rfl) ?_
       clear a E;intro a E
       refine sv E rfl rfl rfl (x_move E rfl rfl) ?_
       clear a E;intro a E
       refine st_no E (wf E rfl rfl rfl rfl rfl) rfl rfl ?_
       clear a E;intro a E
       refine st_no E (wf E rfl rfl rfl rfl rfl) rfl rfl ?_
       clear a E;intro a E
       refine st_no E (wf E rfl rfl rfl rfl rfl) rfl rfl ?_
       clear a E;intro a E
       refine st_no E (wf E rfl rfl rfl rfl rfl) rfl rfl ?_
       clear a E;intro a E
       refine sv E rfl rfl rfl (x_pickF E rfl rfl rfl rfl) ?_
       clear a E;intro a E
       refine sv E rfl rfl rfl (x_move E rfl rfl) ?_
       clear a E;intro a E
       refine st_no E (wf E rfl rfl rfl rfl rfl) rfl rfl ?_
       clear a E;intro a E
       refine st_no E (wf E rfl rfl rfl rfl rfl) rfl rfl ?_
       clear a E;intro a E
       refine st_no E (wf E rfl rfl rfl rfl rfl) rfl rfl ?_
       clear a E;intro a E
       refine sv E rfl rfl rfl (x_pickF E rfl rfl rfl rfl) ?_
       clear a E;intro a E
       refine sv E rfl rfl rfl (x_move E rfl rfl) ?_
       clear a E;intro a E
       refine st_no E (wf E rfl rfl rfl rfl rfl) rfl rfl ?_
       clear a E;intro a E
       refine sv E rfl rfl rfl (x_pickF E rfl rfl rfl rfl) ?_
       clear a E;intro a E
       refine sv E rfl rfl rfl (x_move E rfl rfl) ?_
       clear a E;intro a E
       refine st_no E (wf E rfl rfl rfl rfl rfl) rfl rfl ?_
       clear a E;intro a E
       refine st_no E (wf E rfl rfl rfl rfl rfl) rfl rfl ?_
       clear a E;intro a E
       refine st_no E (wf E rfl rfl rfl rfl rfl) rfl rfl ?_
       clear a E;intro a E
       refine sv E rfl rfl rfl (x_pickF E rfl rfl rfl rfl) ?_
       clear a E;intro a E
       refine sv E rfl rfl rfl (x_move E rfl rfl) ?_
       clear a E;intro a E
       refine st_no E (wf E rfl rfl rfl rfl rfl) rfl rfl ?_
       clear a E;intro a E
       refine st_no E (wf E rfl rfl rfl rfl rfl) rfl rfl ?_
       clear a E;intro a E
       refine sv E rfl rfl rfl (x_pickF E rfl rfl rfl rfl) ?_
       clear a E;intro a E
       refine sv E rfl rfl rfl (x_move E rfl rfl) ?_
       clear a E;intro a E
       refine st_no E (wf E rfl rfl rfl rfl rfl) rfl rfl ?_
       clear a E;intro a E
       refine st_no E (wf E rfl rfl rfl rfl rfl) rfl rfl ?_
       clear a E;intro a E
       refine st_no E (wf E rfl rfl rfl rfl rfl) rfl rfl ?_
       clear a E;intro a E
       refine sv E rfl rfl rfl (x_pickF E rfl rfl rfl rfl) ?_
       clear a E;intro a E
       refine sv E rfl rfl rfl (x_assign E rfl rfl) ?_
       clear a E;intro a E
       refine wpList_nil ?_
       refine q_then ?_
       refine wp_ret ?_
       refine out1 E rfl rfl ?_
       replace H := H.drop 0
       replace H := H.drop 0
       replace H := H.drop 0
       replace H := H.drop 0
       replace H := H.drop 0
       replace H := H.drop 0
       obtain rfl := Option.some.inj hm
       exact ⟨rfl, H.reads (fun r hr => .tail _ (.tail _ (.tail _ (.tail _ (.tail _ (.tail _ (.tail _ (.tail _ (.tail _ (.tail _ (.tail _ (.tail _ (.tail _ (.tail _ (hr)))))))))))))))⟩
     ·rw [if_f hb50] at hm
      refine st_no E (wf' E rfl rfl rfl rfl hb50 rfl) rfl rfl ?_
      clear a E;intro a E
      refine st_no E (wf' E rfl rfl rfl rfl hb50 rfl) rfl rfl ?_
      clear a E;intro a E
      refine st_no E (wf' E rfl rfl rfl rfl hb50 rfl) rfl rfl ?_
      clear a E;intro a E
      refine sv E rfl rfl rfl (x_pickF E rfl rfl hb50 rfl) ?_
      clear a E;intro a E
      refine sv E rfl rfl rfl (x_move E rfl rfl) ?_
      clear a E;intro a E
      refine st_no E (wf E rfl rfl rfl rfl rfl) rfl rfl ?_
      clear a E;intro a E
      refine st_no E (wf E rfl rfl rfl rfl rfl) rfl rfl ?_
      clear a E;intro a E
      refine st_no E (wf E rfl rfl rfl rfl rfl) rfl rfl ?_
      clear a E;intro a E
      refine sv E rfl rfl rfl (x_pickF E rfl rfl rfl rfl) ?_
      clear a E;intro a E
      refine sv E rfl rfl rfl (x_move E rfl rfl) ?_
      clear a E;intro a E
      refine st_no E (wf E rfl rfl rfl rfl rfl) rfl rfl ?_
      clear a E;intro a E
      refine st_no E (wf E rfl rfl rfl rfl rfl) rfl rfl ?_
      clear a E;intro a E
      refine st_no E (wf E rfl rfl rfl rfl rfl) rfl rfl ?_
      clear a E;intro a E
      refine st_no E (wf E rfl rfl rfl rfl rfl) rfl rfl ?_
      clear a E;intro a E
      refine sv E rfl rfl rfl (x_pickF E rfl rfl rfl rfl) ?_
      clear a E;intro a E
      refine sv E rfl rfl rfl (x_move E rfl rfl) ?_
      clear a E;intro a E
      refine st_no E (wf E rfl rfl rfl rfl rfl) rfl rfl ?_
      clear a E;intro a E
      refine st_no E (wf E rfl rfl rfl rfl rfl) rfl rfl ?_
      clear a E;intro a E
      refine st_no E (wf E rfl rfl rfl rfl rfl) rfl rfl ?_
      clear a E;intro a E
      refine sv E rfl rfl rfl (x_pickF E rfl rfl rfl rfl) ?_
      clear a E;intro a E
      refine sv E rfl rfl rfl (x_move E rfl rfl) ?_
      clear a E;intro a E
      refine st_no E (wf E rfl rfl rfl rfl rfl) rfl rfl ?_
      clear a E;intro a E
      refine sv E rfl rfl rfl (x_pickF E rfl rfl rfl rfl) ?_
      clear a E;intro a E
      refine sv E rfl rfl rfl (x_move E rfl rfl) ?_
      clear a E;intro a E
      refine st_no E (wf E rfl rfl rfl rfl rfl) rfl rfl ?_
      clear a E;intro a E
      refine st_no E (wf E rfl rfl rfl rfl rfl) rfl rfl ?_
      clear a E;intro a E
      refine st_no E (wf E rfl rfl rfl rfl rfl) rfl rfl ?_
      clear a E;intro a E
      refine sv E rfl rfl rfl (x_pickF E rfl rfl rfl rfl) ?_
      clear a E;intro a E
      refine sv E rfl rfl rfl (x_move E rfl rfl) ?_
      clear a E;intro a E
      refine st_no E (wf E rfl rfl rfl rfl rfl) rfl rfl ?_
      clear a E;intro a E
      refine st_no E (wf E rfl rfl rfl rfl rfl) rfl rfl ?_
      clear a E;intro a E
      refine sv E rfl rfl rfl (x_pickF E rfl rfl rfl rfl) ?_
      clear a E;intro a E
      refine sv E rfl rfl rfl (x_move E rfl rfl) ?_
      clear a E;intro a E
      refine st_no E (wf E rfl rfl rfl rfl rfl) rfl rfl ?_
      clear a E;intro a E
      refine st_no E (wf E rfl rfl rfl rfl rfl) rfl rfl ?_
      clear a E;intro a E
      refine st_no E (wf E rfl rfl rfl rfl rfl) rfl rfl ?_
      clear a E;intro a E
      refine sv E rfl rfl rfl (x_pickF E rfl rfl rfl rfl) ?_
      clear a E;intro a E
      refine sv E rfl rfl rfl (x_assign E rfl rfl) ?_
      clear a E;intro a E
      refine wpList_nil ?_
      refine q_then ?_
      refine wp_ret ?_
      refine out1 E rfl rfl ?_
      replace H := H.drop 0
      replace H := H.drop 0
      replace H := H.drop 0
      replace H := H.drop 0
      replace H := H.drop 0
      replace H := H.drop 0
      obtain rfl := Option.some.inj hm
      exact ⟨rfl, H.reads (fun r hr => .tail _ (.tail _ (.tail _ (.tail _ (.tail _ (.tail _ (.tail _ (.tail _ (.tail _ (.tail _ (.tail _ (.tail _ (.tail _ (.tail _ (hr)))))))))))))))⟩
    ·rw [if_f hb46] at hm
     refine st_no E (wf' E rfl rfl rfl rfl hb46 rfl) rfl rfl ?_
     clear a E;intro a E
     refine st_no E (wf' E rfl rfl rfl rfl hb46 rfl) rfl rfl ?_
     clear a E;intro a E
     refine st_no E (wf' E rfl rfl rfl rfl hb46 rfl) rfl rfl ?_
     clear a E;intro a E
     refine st_no E (wf' E rfl rfl rfl rfl hb46 rfl) rfl rfl ?_
     clear a E;intro a E
     refine st_no E (wf' E rfl rfl rfl rfl hb46 rfl) rfl rfl ?_
     clear a E;intro a E
     refine sv E rfl rfl rfl (x_pickF E rfl rfl hb46 rfl) ?_
     clear a E;intro a E
     refine sv E rfl rfl rfl (x_move E rfl rfl) ?_
     clear a E;intro a E
     refine st_no E (wf E rfl rfl rfl rfl rfl) rfl rfl ?_
     clear a E;intro a E
     refine st_no E (wf E rfl rfl rfl rfl rfl) rfl rfl ?_
     clear a E;intro a E
     refine st_no E (wf E rfl rfl rfl rfl rfl) rfl rfl ?_
     clear a E;intro a E
     refine sv E rfl rfl rfl (x_pickF E rfl rfl rfl rfl) ?_
     clear a E;intro a E
     refine sv E rfl rfl rfl (x_move E rfl rfl) ?_
     clear a E;intro a E
     refine st_no E (wf E rfl rfl rfl rfl rfl) rfl rfl ?_
     clear a E;intro a E
     refine st_no E (wf E rfl rfl rfl rfl rfl) rfl rfl ?_
     clear a E;intro a E
     refine st_no E (wf E rfl rfl rfl rfl rfl) rfl rfl ?_
     clear a E;intro a E
     refine sv E rfl rfl rfl (x_pickF E rfl rfl rfl rfl) ?_
     clear a E;intro a E
     refine sv E rfl rfl rfl (x_move E rfl rfl) ?_
     clear a E;intro a E
     refine st_no E (wf E rfl rfl rfl rfl rfl) rfl rfl ?_
     clear a E;intro a E
     refine st_no E (wf E rfl rfl rfl rfl rfl) rfl rfl ?_
     clear a E;intro a E
     refine st_no E (wf E rfl rfl rfl rfl rfl) rfl rfl ?_
     clear a E;intro a E
     refine st_no E (wf E rfl rfl rfl rfl rfl) rfl rfl ?_
     clear a E;intro a E
     refine sv E rfl rfl rfl (x_pickF E rfl rfl rfl rfl) ?_
     clear a E;intro a E
     refine sv E rfl rfl rfl (x_move E rfl rfl) ?_
     clear a E;intro a E
     refine st_no E (wf E rfl rfl rfl rfl rfl) rfl rfl ?_
     clear a E;intro a E
     refine st_no E (wf E rfl rfl rfl rfl rfl) rfl rfl ?_
     clear a E;intro a E
     refine st_no E (wf E rfl rfl rfl rfl rfl) rfl rfl ?_
     clear a E;intro a E
     refine sv E rfl rfl rfl (x_pickF E rfl rfl rfl rfl) ?_
     clear a E;intro a E
     refine sv E rfl rfl rfl (x_move E rfl rfl) ?_
     clear a E;intro a E
     refine st_no E (wf E rfl rfl rfl rfl rfl) rfl rfl ?_
     clear a E;intro a E
     refine sv E rfl rfl rfl (x_pickF E rfl rfl rfl rfl) ?_
     clear a E;intro a E
     refine sv E rfl rfl rfl (x_move E rfl rfl) ?_
     clear a E;intro a E
     refine st_no E (wf E rfl rfl rfl rfl rfl) rfl rfl ?_
     clear a E;intro a E
     refine st_no E (wf E rfl rfl rfl rfl rfl) rfl rfl ?_
     clear a E;intro a E
     refine st_no E (wf E rfl rfl rfl rfl rfl) rfl rfl ?_
     clear a E;intro a E
     refine sv E rfl rfl rfl (x_pickF E rfl rfl rfl rfl) ?_
     clear a E;intro a E
     refine sv E rfl rfl rfl (x_move E rfl rfl) ?_
     clear a E;intro a E
     refine st_no E (wf E rfl rfl rfl rfl rfl) rfl rfl ?_
     clear a E;intro a E
     refine st_no E (wf E rfl rfl rfl rfl rfl) rfl rfl ?_
     clear a E;intro a E
     refine sv E rfl rfl rfl (x_pickF E rfl rfl rfl rfl) ?_
     clear a E;intro a E
     refine sv E rfl rfl rfl (x_move E rfl rfl) ?_
     clear a E;intro a E
     refine st_no E (wf E rfl rfl rfl rfl rfl) rfl rfl ?_
     clear a E;intro a E
     refine st_no E (wf E rfl rfl rfl rfl rfl) rfl rfl ?_
     clear a E;intro a E
     refine st_no E (wf E rfl rfl rfl rfl rfl) rfl rfl ?_
     clear a E;intro a E
     refine sv E rfl rfl rfl (x_pickF E rfl rfl rfl rfl) ?_
     clear a E;intro a E
     refine sv E rfl rfl rfl (x_assign E rfl rfl) ?_
     clear a E;intro a E
     refine wpList_nil ?_
     refine q_then ?_
     refine wp_ret ?_
     refine out1 E rfl rfl ?_
     replace H := H.drop 0
     replace H := H.drop 0
     replace H := H.drop 0
     replace H := H.drop 0
     replace H := H.drop 0
     replace H := H.drop 0
     obtain rfl := Option.some.inj hm
     exact ⟨rfl, H.reads (fun r hr => .tail _ (.tail _ (.tail _ (.tail _ (.tail _ (.tail _ (.tail _ (.tail _ (.tail _ (.tail _ (.tail _ (.tail _ (hr)))))))))))))⟩
   ·rw [if_f hb45] at hm
    refine st_no E (wf' E rfl rfl rfl rfl hb45 rfl) rfl rfl ?_
    clear a E;intro a E
    refine st_no E (wf' E rfl rfl rfl rfl hb45 rfl) rfl rfl ?_
    clear a E;intro a E
    refine st_no E (wf' E rfl rfl rfl rfl hb45 rfl) rfl rfl ?_
    clear a E;intro a E
    refine sv E rfl rfl rfl (x_pickF E rfl rfl hb45 rfl) ?_
    clear a E;intro a E
    refine sv E rfl rfl rfl (x_move E rfl rfl) ?_
    clear a E;intro a E
    refine st_no E (wf E rfl rfl rfl rfl rfl) rfl rfl ?_
    clear a E;intro a E
    refine st_no E (wf E rfl rfl rfl rfl rfl) rfl rfl ?_
    clear a E;intro a E
    refine st_no E (wf E rfl rfl rfl rfl rfl) rfl rfl ?_
    clear a E;intro a E
    refine st_no E (wf E rfl rfl rfl rfl rfl) rfl rfl ?_
    clear a E;intro a E
    refine st_no E (wf E rfl rfl rfl rfl rfl) rfl rfl ?_
    clear a E;intro a E
    refine sv E rfl rfl rfl (x_pickF E rfl rfl rfl rfl) ?_
    clear a E;intro a E
    refine sv E rfl rfl rfl (x_move E rfl rfl) ?_
    clear a E;intro a E
    refine st_no E (wf E rfl rfl rfl rfl rfl) rfl rfl ?_
    clear a E;intro a E
    refine st_no E (wf E rfl rfl rfl rfl rfl) rfl rfl ?_
    clear a E;intro a E
    refine st_no E (wf E rfl rfl rfl rfl rfl) rfl rfl ?_
    clear a E;intro a E
    refine sv E rfl rfl rfl (x_pickF E rfl rfl rfl rfl) ?_
    clear a E;intro a E
    refine sv E rfl rfl rfl (x_move E rfl rfl) ?_
    clear a E;intro a E
    refine st_no E (wf E rfl rfl rfl rfl rfl) rfl rfl ?_
    clear a E;intro a E
    refine st_no E (wf E rfl rfl rfl rfl rfl) rfl rfl ?_
    clear a E;intro a E
    refine st_no E (wf E rfl rfl rfl rfl rfl) rfl rfl ?_
    clear a E;intro a E
    refine sv E rfl rfl rfl (x_pickF E rfl rfl rfl rfl) ?_
    clear a E;intro a E
    refine sv E rfl rfl rfl (x_move E rfl rfl) ?_
    clear a E;intro a E
    refine st_no E (wf E rfl rfl rfl rfl rfl) rfl rfl ?_
    clear a E;intro a E
    refine st_no E (wf E rfl rfl rfl rfl rfl) rfl rfl ?_
    clear a E;intro a E
    refine st_no E (wf E rfl rfl rfl rfl rfl) rfl rfl ?_
    clear a E;intro a E
    refine st_no E (wf E rfl rfl rfl rfl rfl) rfl rfl ?_
    clear a E;intro a E
    refine sv E rfl rfl rfl (x_pickF E rfl rfl rfl rfl) ?_
    clear a E;intro a E
    refine sv E rfl rfl rfl (x_move E rfl rfl) ?_
    clear a E;intro a E
    refine st_no E (wf E rfl rfl rfl rfl rfl) rfl rfl ?_
    clear a E;intro a E
    refine st_no E (wf E rfl rfl rfl rfl rfl) rfl rfl ?_
    clear a E;intro a E
    refine st_no E (wf E rfl rfl rfl rfl rfl) rfl rfl ?_
    clear a E;intro a E
    refine sv E rfl rfl rfl (x_pickF E rfl rfl rfl rfl) ?_
    clear a E;intro a E
    refine sv E rfl rfl rfl (x_move E rfl rfl) ?_
    clear a E;intro a E
    refine st_no E (wf E rfl rfl rfl rfl rfl) rfl rfl ?_
    clear a E;intro a E
    refine sv E rfl rfl rfl (x_pickF E rfl rfl rfl rfl) ?_
    clear a E;intro a E
    refine sv E rfl rfl rfl (x_move E rfl rfl) ?_
    clear a E;intro a E
    refine st_no E (wf E rfl rfl rfl rfl rfl) rfl rfl ?_
    clear a E;intro a E
    refine st_no E (wf E rfl rfl rfl rfl rfl) rfl rfl ?_
    clear a E;intro a E
    refine st_no E (wf E rfl rfl rfl rfl rfl) rfl rfl ?_
    clear a E;intro a E
    refine sv E rfl rfl rfl (x_pickF E rfl rfl rfl rfl) ?_
    clear a E;intro a E
    refine sv E rfl rfl rfl (x_move E rfl rfl) ?_
    clear a E;intro a E
    refine st_no E (wf E rfl rfl rfl rfl rfl) rfl rfl ?_
    clear a E;intro a E
    refine st_no E (wf E rfl rfl rfl rfl rfl) rfl rfl ?_
    clear a E;intro a E
    refine sv E rfl rfl rfl (x_pickF E rfl rfl rfl rfl) ?_
    clear a E;intro a E
    refine sv E rfl rfl rfl (x_move E rfl rfl) ?_
    clear a E;intro a E
    refine st_no E (wf E rfl rfl rfl rfl rfl) rfl rfl ?_
    clear a E;intro a E
    refine st_no E (wf E rfl rfl rfl rfl rfl) rfl rfl ?_
    clear a E;intro a E
    refine st_no E (wf E rfl rfl rfl rfl rfl) rfl rfl ?_
    clear a E;intro a E
    refine sv E rfl rfl rfl (x_pickF E rfl rfl rfl rfl) ?_
    clear a E;intro a E
    refine sv E rfl rfl rfl (x_assign E rfl rfl) ?_
    clear a E;intro a E
    refine wpList_nil ?_
    refine q_then ?_
    refine wp_ret ?_
    refine out1 E rfl rfl ?_
    replace H := H.drop 0
    replace H := H.drop 0
    replace H := H.drop 0
    replace H := H.drop 0
    replace H := H.drop 0
    replace H := H.drop 0
    obtain rfl := Option.some.inj hm
    exact ⟨rfl, H.reads (fun r hr => .tail _ (.tail _ (.tail _ (.tail _ (.tail _ (.tail _ (.tail _ (.tail _ (.tail _ (.tail _ (.tail _ (.tail _ (hr)))))))))))))⟩
  ·rw [if_f hb44] at hm
   refine st_no E (wf' E rfl rfl rfl rfl hb44 rfl) rfl rfl ?_
   clear a E;intro a E
   refine st_no E (wf' E rfl rfl rfl rfl hb44 rfl) rfl rfl ?_
   clear a E;intro a E
   refine st_no E (wf' E rfl rfl rfl rfl hb44 rfl) rfl rfl ?_
   clear a E;intro a E
   refine sv E rfl rfl rfl (x_pickF E rfl rfl hb44 rfl) ?_
   clear a E;intro a E
   refine sv E rfl rfl rfl (x_move E rfl rfl) ?_
   clear a E;intro a E
   refine st_no E (wf E rfl rfl rfl rfl rfl) rfl rfl ?_
   clear a E;intro a E
   refine st_no E (wf E rfl rfl rfl rfl rfl) rfl rfl ?_
   clear a E;intro a E
   refine st_no E (wf E rfl rfl rfl rfl rfl) rfl rfl ?_
   clear a E;intro a E
   refine sv E rfl rfl rfl (x_pickF E rfl rfl rfl rfl) ?_
   clear a E;intro a E
   refine sv E rfl rfl rfl (x_move E rfl rfl) ?_
   clear a E;intro a E
   refine st_no E (wf E rfl rfl rfl rfl rfl) rfl rfl ?_
   clear a E;intro a E
   refine st_no E (wf E rfl rfl rfl rfl rfl) rfl rfl ?_
   clear a E;intro a E
   refine st_no E (wf E rfl rfl rfl rfl rfl) rfl rfl ?_
   clear a E;intro a E
   refine st_no E (wf E rfl rfl rfl rfl rfl) rfl rfl ?_
   clear a E;intro a E
   refine st_no E (wf E rfl rfl rfl rfl rfl) rfl rfl ?_
   clear a E;intro a E
   refine sv E rfl rfl rfl (x_pickF E rfl rfl rfl rfl) ?_
   clear a E;intro a E
   refine sv E rfl rfl rfl (x_move E rfl rfl) ?_
   clear a E;intro a E
   refine st_no E (wf E rfl rfl rfl rfl rfl) rfl rfl ?_
   clear a E;intro a E
   refine st_no E (wf E rfl rfl rfl rfl rfl) rfl rfl ?_
   clear a E;intro a E
   refine st_no E (wf E rfl rfl rfl rfl rfl) rfl rfl ?_
   clear a E;intro a E
   refine sv E rfl rfl rfl (x_pickF E rfl rfl rfl rfl) ?_
   clear a E;intro a E
   refine sv E rfl rfl rfl (x_move E rfl rfl) ?_
   clear a E;intro a E
   refine st_no E (wf E rfl rfl rfl rfl rfl) rfl rfl ?_
   clear a E;intro a E
   refine st_no E (wf E rfl rfl rfl rfl rfl) rfl rfl ?_
   clear a E;intro a E
   refine st_no E (wf E rfl rfl rfl rfl rfl) rfl rfl ?_
   clear a E;intro a E
   refine sv E rfl rfl rfl (x_pickF E rfl rfl rfl rfl) ?_
   clear a E;intro a E
   refine sv E rfl rfl rfl (x_move E rfl rfl) ?_
   clear a E;intro a E
   refine st_no E (wf E rfl rfl rfl rfl rfl) rfl rfl ?_
   clear a E;intro a E
   refine st_no E (wf E rfl rfl rfl rfl rfl) rfl rfl ?_
   clear a E;intro a E
   refine st_no E (wf E rfl rfl rfl rfl rfl) rfl rfl ?_
   clear a E;intro a E
   refine st_no E (wf E rfl rfl rfl rfl rfl) rfl rfl ?_
   clear a E;intro a E
   refine sv E rfl rfl rfl (x_pickF E rfl rfl rfl rfl) ?_
   clear a E;intro a E
   refine sv E rfl rfl rfl (x_move E rfl rfl) ?_
   clear a E;intro a E
   refine st_no E (wf E rfl rfl rfl rfl rfl) rfl rfl ?_
   clear a E;intro a E
   refine st_no E (wf E rfl rfl rfl rfl rfl) rfl rfl ?_
   clear a E;intro a E
   refine st_no E (wf E rfl rfl rfl rfl rfl) rfl rfl ?_
   clear a E;intro a E
   refine sv E rfl rfl rfl (x_pickF E rfl rfl rfl rfl) ?_
   clear a E;intro a E
   refine sv E rfl rfl rfl (x_move E rfl rfl) ?_
   clear a E;intro a E
   refine st_no E (wf E rfl rfl rfl rfl rfl) rfl rfl ?_
   clear a E;intro a E
   refine sv E rfl rfl rfl (x_pickF E rfl rfl rfl rfl) ?_
   clear a E;intro a E
   refine sv E rfl rfl rfl (x_move E rfl rfl) ?_
   clear a E;intro a E
   refine st_no E (wf E rfl rfl rfl rfl rfl) rfl rfl ?_
   clear a E;intro a E
   refine st_no E (wf E rfl rfl rfl rfl rfl) rfl rfl ?_
   clear a E;intro a E
   refine st_no E (wf E rfl rfl rfl rfl rfl) rfl rfl ?_
   clear a E;intro a E
   refine sv E rfl rfl rfl (x_pickF E rfl rfl rfl rfl) ?_
   clear a E;intro a E
   refine sv E rfl rfl rfl (x_move E rfl rfl) ?_
   clear a E;intro a E
   refine st_no E (wf E rfl rfl rfl rfl rfl) rfl rfl ?_
   clear a E;intro a E
   refine st_no E (wf E rfl rfl rfl rfl rfl) rfl rfl ?_
   clear a E;intro a E
   refine sv E rfl rfl rfl (x_pickF E rfl rfl rfl rfl) ?_
   clear a E;intro a E
   refine sv E rfl rfl rfl (x_move E rfl rfl) ?_
   clear a E;intro a E
   refine st_no E (wf E rfl rfl rfl rfl rfl) rfl rfl ?_
   clear a E;intro a E
   refine st_no E (wf E rfl rfl rfl rfl rfl) rfl rfl ?_
   clear a E;intro a E
   refine st_no E (wf E rfl rfl rfl rfl rfl) rfl rfl ?_
   clear a E;intro a E
   refine sv E rfl rfl rfl (x_pickF E rfl rfl rfl rfl) ?_
   clear a E;intro a E
   refine sv E rfl rfl rfl (x_assign E rfl rfl) ?_
   clear a E;intro a E
   refine wpList_nil ?_
   refine q_then ?_
   refine wp_ret ?_
   refine out1 E rfl rfl ?_
   replace H := H.drop 0
   replace H := H.drop 0
   replace H := H.drop 0
   replace H := H.drop 0
   replace H := H.drop 0
   replace H := H.drop 0
   obtain rfl := Option.some.inj hm
   exact ⟨rfl, H.reads (fun r hr => .tail _ (.tail _ (.tail _ (.tail _ (.tail _ (.tail _ (.tail _ (.tail _ (.tail _ (.tail _ (.tail _ (.tail _ (hr)))))))))))))⟩
 ·rw [if_f hb43] at hm
  refine st_no E (wf' E rfl rfl rfl rfl hb43 rfl) rfl rfl ?_
  clear a E;intro a E
  refine st_no E (wf' E rfl rfl rfl rfl hb43 rfl) rfl rfl ?_
  clear a E;intro a E
  refine st_no E (wf' E rfl rfl rfl rfl hb43 rfl) rfl rfl ?_
  clear a E;intro a E
  refine sv E rfl rfl rfl (x_pickF E rfl rfl hb43 rfl) ?_
  clear a E;intro a E
  refine sv E rfl rfl rfl (x_move E rfl rfl) ?_
  clear a E;intro a E
  refine st_no E (wf E rfl rfl rfl rfl rfl) rfl rfl ?_
  clear a E;intro a E
  refine st_no E (wf E rfl rfl rfl rfl rfl) rfl rfl ?_
  clear a E;intro a E
  refine st_no E (wf E rfl rfl rfl rfl rfl) rfl rfl ?_
  clear a E;intro a E
  refine sv E rfl rfl rfl (x_pickF E rfl rfl rfl rfl) ?_
  clear a E;intro a E
  refine sv E rfl rfl rfl (x_move E rfl rfl) ?_
  clear a E;intro a E
  refine st_no E (wf E rfl rfl rfl rfl rfl) rfl rfl ?_
  clear a E;intro a E
  refine st_no E (wf E rfl rfl rfl rfl rfl) rfl rfl ?_
  clear a E;intro a E
  refine st_no E (wf E rfl rfl rfl rfl rfl) rfl rfl ?_
  clear a E;intro a E
  refine sv E rfl rfl rfl (x_pickF E rfl rfl rfl rfl) ?_
  clear a E;intro a E
  refine sv E rfl rfl rfl (x_move E rfl rfl) ?_
  clear a E;intro a E
  refine st_no E (wf E rfl rfl rfl rfl rfl) rfl rfl ?_
  clear a E;intro a E
  refine st_no E (wf E rfl rfl rfl rfl rfl) rfl rfl ?_
  clear a E;intro a E
  refine st_no E (wf E rfl rfl rfl rfl rfl) rfl rfl ?_
  clear a E;intro a E
  refine st_no E (wf E rfl rfl rfl rfl rfl) rfl rfl ?_
  clear a E;intro a E
  refine st_no E (wf E rfl rfl rfl rfl rfl) rfl rfl ?_
  clear a E;intro a E
  refine sv E rfl rfl rfl (x_pickF E rfl rfl rfl rfl) ?_
  clear a E;intro a E
  refine sv E rfl rfl rfl (x_move E rfl rfl) ?_
  clear a E;intro a E
  refine st_no E (wf E rfl rfl rfl rfl rfl) rfl rfl ?_
  clear a E;intro a E
  refine st_no E (wf E rfl rfl rfl rfl rfl) rfl rfl ?_
  clear a E;intro a E
  refine st_no E (wf E rfl rfl rfl rfl rfl) rfl rfl ?_
  clear a E;intro a E
  refine sv E rfl rfl rfl (x_pickF E rfl rfl rfl rfl) ?_
  clear a E;intro a E
  refine sv E rfl rfl rfl (x_move E rfl rfl) ?_
  clear a E;intro a E
  refine st_no E (wf E rfl rfl rfl rfl rfl) rfl rfl ?_
  clear a E;intro a E
  refine st_no E (wf E rfl rfl rfl rfl rfl) rfl rfl ?_
  clear a E;intro a E
  refine st_no E (wf E rfl rfl rfl rfl rfl) rfl rfl ?_
  clear a E;intro a E
  refine sv E rfl rfl rfl (x_pickF E rfl rfl rfl rfl) ?_
  clear a E;intro a E
  refine sv E rfl rfl rfl (x_move E rfl rfl) ?_
  clear a E;intro a E
  refine st_no E (wf E rfl rfl rfl rfl rfl) rfl rfl ?_
  clear a E;intro a E
  refine st_no E (wf E rfl rfl rfl rfl rfl) rfl rfl ?_
  clear a E;intro a E
  refine st_no E (wf E rfl rfl rfl rfl rfl) rfl rfl ?_
  clear a E;intro a E
  refine st_no E (wf E rfl rfl rfl rfl rfl) rfl rfl ?_
  clear a E;intro a E
  refine sv E rfl rfl rfl (x_pickF E rfl rfl rfl rfl) ?_
  clear a E;intro a E
  refine sv E rfl rfl rfl (x_move E rfl rfl) ?_
  clear a E;intro a E
  refine st_no E (wf E rfl rfl rfl rfl rfl) rfl rfl ?_
  clear a E;intro a E
  refine st_no E (wf E rfl rfl rfl rfl rfl) rfl rfl ?_
  clear a E;intro a E
  refine st_no E (wf E rfl rfl rfl rfl rfl) rfl rfl ?_
  clear a E;intro a E
  refine sv E rfl rfl rfl (x_pickF E rfl rfl rfl rfl) ?_
  clear a E;intro a E
  refine sv E rfl rfl rfl (x_move E rfl rfl) ?_
  clear a E;intro a E
  refine st_no E (wf E rfl rfl rfl rfl rfl) rfl rfl ?_
  clear a E;intro a E
  refine sv E rfl rfl rfl (x_pickF E rfl rfl rfl rfl) ?_
  clear a E;intro a E
  refine sv E rfl rfl rfl (x_move E rfl rfl) ?_
  clear a E;intro a E
  refine st_no E (wf E rfl rfl rfl rfl rfl) rfl rfl ?_
  clear a E;intro a E
  refine st_no E (wf E rfl rfl rfl rfl rfl) rfl rfl ?_
  clear a E;intro a E
  refine st_no E (wf E rfl rfl rfl rfl rfl) rfl rfl ?_
  clear a E;intro a E
  refine sv E rfl rfl rfl (x_pickF E rfl rfl rfl rfl) ?_
  clear a E;intro a E
  refine sv E rfl rfl rfl (x_move E rfl rfl) ?_
  clear a E;intro a E
  refine st_no E (wf E rfl rfl rfl rfl rfl) rfl rfl ?_
  clear a E;intro a E
  refine st_no E (wf E rfl rfl rfl rfl rfl) rfl rfl ?_
  clear a E;intro a E
  refine sv E rfl rfl rfl (x_pickF E rfl rfl rfl rfl) ?_
  clear a E;intro a E
  refine sv E rfl rfl rfl (x_move E rfl rfl) ?_
  clear a E;intro a E
  refine st_no E (wf E rfl rfl rfl rfl rfl) rfl rfl ?_
  clear a E;intro a E
  refine st_no E (wf E rfl rfl rfl rfl rfl) rfl rfl ?_
  clear a E;intro a E
  refine st_no E (wf E rfl rfl rfl rfl rfl) rfl rfl ?_
  clear a E;intro a E
  refine sv E rfl rfl rfl (x_pickF E rfl rfl rfl rfl) ?_
  clear a E;intro a E
  refine sv E rfl rfl rfl (x_assign E rfl rfl) ?_
  clear a E;intro a E
  refine wpList_nil ?_
  refine q_then ?_
  refine wp_ret ?_
  refine out1 E rfl rfl ?_
  replace H := H.drop 0
  replace H := H.drop 0
  replace H := H.drop 0
  replace H := H.drop 0
  replace H := H.drop 0
  replace H := H.drop 0
  obtain rfl := Option.some.inj hm
  exact ⟨rfl, H.reads (fun r hr => .tail _ (.tail _ (.tail _ (.tail _ (.tail _ (.tail _ (.tail _ (.tail _ (.tail _ (.tail _ (.tail _ (.tail _ (hr)))))))))))))⟩
end Go.Cb

set_option linter.unusedVariables false
set_option linter.unusedSimpArgs false
namespace Go.Cb
open Go.Proofs Go.RowKit
def m_cantonref06_Children_j1 (rec_1 : (List S_api_Node) → Int → Option (List S_api_Node)) (x7 : Int) (l12 : (List S_api_Node)) : Option (List S_api_Node) :=
  rec_1 l12 (IntKind.i64.wrap (x7 + 1))
def m_cantonref06_Children_j2 (rec_1 : (List S_api_Node) → Int → Option (List S_api_Node)) (x7 : Int) (l2 : List S_api_Node) (l6 : (List S_api_Node)) (b21 : Bool) : Option (List S_api_Node) :=
  if b21 = true then ((idx l2 x7).bind fun x25 => (ck (l6.length + ([x25] : List S_api_Node).length ≤ LIM)).bind fun u31 => m_cantonref06_Children_j1 rec_1 x7 (l6 ++ ([x25] : List S_api_Node))) else (m_cantonref06_Children_j1 rec_1 x7 l6)
def m_cantonref06_Children_l1 (l2 : List S_api_Node) (s3 : ByteArray) : Nat → (List S_api_Node) → Int → Option (List S_api_Node)
  | 0, _, _ => none
  | k1 + 1, l6, x7 =>
    if (decide (x7 < (l2.length : Int))) = true then ((idx l2 x7).bind fun x16 => (m_cantonref01_Parent x16.Path).bind fun u19 => if u19.2 = true then (m_cantonref06_Children_j2 (m_cantonref06_Children_l1 l2 s3 k1) x7 l2 l6 (sEq u19.1 s3)) else (m_cantonref06_Children_j2 (m_cantonref06_Children_l1 l2 s3 k1) x7 l2 l6 false)) else (some (l6))
def m_cantonref06_Children (l2 : List S_api_Node) (s3 : ByteArray) : Option (List S_api_Node) :=
  m_cantonref06_Children_l1 l2 s3 (((l2.length : Int) - 0 : Int).toNat + 1) [] 0
set_option maxRecDepth 20000 in
set_option maxHeartbeats 1000000 in
theorem c_cantonref06_Children {w : World} {Fo : List Ob} {rs : List Rp} (v1 : Value) (l2 : List S_api_Node) (s3 : ByteArray) (H : Sep w (Fo) rs) (hr4 : rSl k_api_Node v1 l2 ∈ rs) {r : (List S_api_Node)} (hm : m_cantonref06_Children l2 s3 = some r) :
    Calls Tryd.prog 20 [v1, .string s3].toArray w (Ret fun v w' => ∃ (v5001 : Value), v5001 = v ∧ Sep w' (Row 39 k_api_Node v5001 r :: Fo) (rs)) := by
 unfold m_cantonref06_Children at hm
 refine enter Tryd.func20 rfl Tryd.ntmps20 rfl fun a E => ?_
 simp only [enum, Nat.reduceAdd] at E
 refine wp_seq ?_
 refine wp_region_lit ?_
 refine sv E rfl rfl rfl (x_assign E rfl rfl) ?_
 clear a E;intro a E
 refine wpList_nil ?_
 refine q_then ?_
 refine wp_seq ?_
 refine wp_region_lit ?_
 refine sv E rfl rfl rfl (x_assign E rfl rfl) ?_
 clear a E;intro a E
 refine wpList_nil ?_
 refine q_then ?_
 refine wp_seq ?_
 refine wp_seq ?_
 refine wp_region_lit ?_
 refine sv E rfl rfl rfl (x_assign E rfl rfl) ?_
 clear a E;intro a E
 refine wpList_nil ?_
 refine q_then ?_
 refine wp_block ?_
 refine wp_loop_g (fun k1 a w => ∃ (v5 : Value) (l6 : (List S_api_Node)) (x7 : Int) (rs8 : List Rp), Env 38 a [(0, v1), (1, .string s3), (5, v5), (6, .int .i64 x7)] ∧ Sep w (Row 39 k_api_Node v5 l6 :: Fo) rs8 ∧ (∀ r, r ∈ rs → r ∈ rs8) ∧ rSl k_api_Node v1 l2 ∈ rs8 ∧ m_cantonref06_Children_l1 l2 s3 k1 l6 x7 = some r) (((l2.length : Int) - 0 : Int).toNat + 1) ?_ ?_
 ·replace H := H.nilRow 39 k_api_Node
  exact ⟨(.slice none 0 0), [], 0, _, ((((E.nil.keep E 6 rfl).keep E 5 rfl).keep E 1 rfl).keep E 0 rfl), H, fun r hr => hr, hr4, hm⟩
 ·clear E H hm
  rintro k1 a w ⟨v5, l6, x7, rs8, E, H, hs9, hr10, hm⟩
  cases k1 with
  | zero => exact (none_some hm rfl).elim
  | succ k1 =>
   unfold m_cantonref06_Children_l1 at hm
   refine wp_seq ?_
   refine wp_seq ?_
   refine wp_region_lit ?_
   refine sv E rfl rfl rfl (x_move E rfl rfl) ?_
   clear a E;intro a E
   refine sv E rfl rfl rfl (x_move E rfl rfl) ?_
   clear a E;intro a E
   refine sv E rfl rfl rfl (x_lenS E H rfl rfl hr10 Tryd.underlying22) ?_
   clear a E;intro a E
   refine sv E rfl rfl rfl (x_bin E rfl rfl rfl rfl) ?_
   clear a E;intro a E
   refine wpList_nil ?_
   refine q_then ?_
   refine wp_if E rfl ?_ ?_
   ·intro hb
    rw [if_t hb] at hm
    clear hb
    refine wp_skip ?_
    refine q_then ?_
    refine wp_seq_cut (fun a w => ∃ (v11 : Value) (l12 : (List S_api_Node)) (rs13 : List Rp), Env 38 a [(0, v1), (1, .string s3), (5, v11), (6, .int .i64 x7)] ∧ Sep w (Row 39 k_api_Node v11 l12 :: Fo) rs13 ∧ (∀ r, r ∈ rs → r ∈ rs13) ∧ rSl k_api_Node v1 l2 ∈ rs13 ∧ m_cantonref06_Children_j1 (m_cantonref06_Children_l1 l2 s3 k1) x7 l12 = some r) ?_ ?_
    ·refine wp_block ?_
     refine wp_seq ?_
     refine wp_region_lit ?_
     refine sv E rfl rfl rfl (x_move E rfl rfl) ?_
     clear a E;intro a E
     refine sv E rfl rfl rfl (x_move E rfl rfl) ?_
     clear a E;intro a E
     obtain ⟨x16, hx17, hm⟩ := bnd hm
     refine st_ixS E H (wn rfl) rfl rfl rfl rfl rfl hr10 Tryd.underlying22 sz39 hx17 ?_
     clear E H; clear a; intro q18 a H E
     replace H := H.derive1 (.head _) (rAt kS (q18.add 0) x16.Path) (fun ok h => k_api_Node_at0 h)
     refine sv E rfl rfl rfl (x_fa E rfl rfl (fa39_0 _ _)) ?_
     clear a E;intro a E
     refine sv E rfl rfl rfl (x_ldA E H rfl rfl (.head _) Tryd.underlying9 rfl) ?_
     clear a E;intro a E
     obtain ⟨u19, hx20, hm⟩ := bnd hm
     refine st_call E (wn rfl) rfl rfl (x_call E rfl rfl (cf16 _)) (c_cantonref01_Parent x16.Path H hx20) ?_
     clear E H; clear a; clear w; rintro _ w ⟨rfl, H⟩ a E
     refine sv E rfl rfl rfl (x_move E rfl rfl) ?_
     clear a E;intro a E
     refine sv E rfl rfl rfl (x_ext E rfl rfl rfl) ?_
     clear a E;intro a E
     refine sv E rfl rfl rfl (x_ext E rfl rfl rfl) ?_
     clear a E;intro a E
     refine sv E rfl rfl rfl (x_assign E rfl rfl) ?_
     clear a E;intro a E
     refine sv E rfl rfl rfl (x_assign E rfl rfl) ?_
     clear a E;intro a E
     refine wpList_nil ?_
     refine q_then ?_
     refine wp_seq_cut (fun a w => ∃ (b21 : Bool) (rs22 : List Rp), Env 38 a [(0, v1), (1, .string s3), (5, v5), (6, .int .i64 x7), (29, .bool b21)] ∧ Sep w (Row 39 k_api_Node v5 l6 :: Fo) rs22 ∧ (∀ r, r ∈ rs → r ∈ rs22) ∧ rSl k_api_Node v1 l2 ∈ rs22 ∧ m_cantonref06_Children_j2 (m_cantonref06_Children_l1 l2 s3 k1) x7 l2 l6 b21 = some r) ?_ ?_
     ·refine wp_region_lit ?_
      refine sv E rfl rfl rfl (x_move E rfl rfl) ?_
      clear a E;intro a E
      refine sv E rfl rfl rfl (x_move E rfl rfl) ?_
      clear a E;intro a E
      rcases Bool.eq_false_or_eq_true u19.2 with hb33 | hb33
      ·rw [if_t hb33] at hm
       refine st_val E (ws' E rfl rfl rfl rfl hb33) rfl rfl (x_move E rfl rfl) ?_
       clear a E;intro a E
       refine st_val E (ws' E rfl rfl rfl rfl hb33) rfl rfl (x_move E rfl rfl) ?_
       clear a E;intro a E
       refine st_val E (ws' E rfl rfl rfl rfl hb33) rfl rfl (x_str E rfl rfl rfl rfl) ?_
       clear a E;intro a E
       refine sv E rfl rfl rfl (x_pickT E rfl rfl hb33 rfl) ?_
       clear a E;intro a E
       refine wpList_nil ?_
       refine q_then ?_
       exact ⟨sEq u19.1 s3, _, (((((E.nil.keep E 29 rfl).keep E 6 rfl).keep E 5 rfl).keep E 1 rfl).keep E 0 rfl), H, fun r hr => .tail _ (.tail _ (hs9 r hr)), (.tail _ (.tail _ hr10)), hm⟩
      ·rw [if_f hb33] at hm
       refine st_no E (wf' E rfl rfl rfl rfl hb33 rfl) rfl rfl ?_
       clear a E;intro a E
       refine st_no E (wf' E rfl rfl rfl rfl hb33 rfl) rfl rfl ?_
       clear a E;intro a E
       refine st_no E (wf' E rfl rfl rfl rfl hb33 rfl) rfl rfl ?_
       clear a E;intro a E
       refine sv E rfl rfl rfl (x_pickF E rfl rfl hb33 rfl) ?_
       clear a E;intro a E
       refine wpList_nil ?_
       refine q_then ?_
       exact ⟨false, _, (((((E.nil.keep E 29 rfl).keep E 6 rfl).keep E 5 rfl).keep E 1 rfl).keep E 0 rfl), H, fun r hr => .tail _ (.tail _ (hs9 r hr)), (.tail _ (.tail _ hr10)), hm⟩
     ·clear E H hm
      rintro a w ⟨b21, rs22, E, H, hs23, hr24, hm⟩
      unfold m_cantonref06_Children_j2 at hm
      refine wp_if E rfl ?_ ?_
      ·intro hb
       rw [if_t hb] at hm
       clear hb
       refine wp_region_lit ?_
       refine sv E rfl rfl rfl (x_move E rfl rfl) ?_
       clear a E;intro a E
       refine sv E rfl rfl rfl (x_move E rfl rfl) ?_
       clear a E;intro a E
       refine sv E rfl rfl rfl (x_move E rfl rfl) ?_
       clear a E;intro a E
       obtain ⟨x25, hx26, hm⟩ := bnd hm
       refine st_ixS E H (wn rfl) rfl rfl rfl rfl rfl hr24 Tryd.underlying22 sz39 hx26 ?_
       clear E H; clear a; intro q27 a H E
       refine st_ldN E H (wn rfl) rfl rfl rfl rfl (.head _) Tryd.underlying39 rfl sz39 ?_
       clear E H; clear a; intro u28 a H E
       obtain ⟨_, hcs⟩ := H.rd (.head _)
       obtain rfl := k_api_Node_open hcs
       clear hcs
       refine st_bsR (e := 39) (d := k_api_Node) (cs := [.string x25.Path, .string x25.Data, .int .i64 x25.Version, .int .i64 x25.Turn, .int .i64 x25.Owner]) (xs := [x25]) E H (wn rfl) rfl rfl (ps := [(0, .tmp 34)]) (parts := [(0, .agg #[.string x25.Path, .string x25.Data, .int .i64 x25.Version, .int .i64 x25.Turn, .int .i64 x25.Owner])]) rfl (by simp only [List.map]; rw [E.eval (x := .tmp 34) (v := .agg #[.string x25.Path, .string x25.Data, .int .i64 x25.Version, .int .i64 x25.Turn, .int .i64 x25.Owner]) rfl]) (by kernel_rfl) rfl (fun ok hr => (Rows.single (d := k_api_Node) (cs := [.string x25.Path, .string x25.Data, .int .i64 x25.Version, .int .i64 x25.Turn, .int .i64 x25.Owner]) (x := x25) k_api_Node_mk)) ?_
       clear E H; clear a; clear w; intro v29 w a H E
       obtain ⟨u31, hx32, hm⟩ := bnd hm
       refine st_append (i := 0) E H (wn rfl) rfl rfl rfl rfl rfl rfl (src_rd (.head _)) Tryd.underlying22 inf39 rfl (ck_of hx32) rfl ?_
       clear E H; clear a; clear w; intro v30 w a H E
       refine sv E rfl rfl rfl (x_assign E rfl rfl) ?_
       clear a E;intro a E
       refine wpList_nil ?_
       refine q_blk ?_
       refine q_then ?_
       exact ⟨v30, l6 ++ ([x25] : List S_api_Node), _, ((((E.nil.keep E 6 rfl).keep E 5 rfl).keep E 1 rfl).keep E 0 rfl), H, fun r hr => .tail _ (.tail _ (.tail _ (hs23 r hr))), (.tail _ (.tail _ (.tail _ hr24))), hm⟩
      ·intro hb
       rw [if_f hb] at hm
       clear hb
       refine wp_skip ?_
       refine q_blk ?_
       refine q_then ?_
       exact ⟨v5, l6, _, ((((E.nil.keep E 6 rfl).keep E 5 rfl).keep E 1 rfl).keep E 0 rfl), H, hs23, hr24, hm⟩
    ·clear E H hm
     rintro a w ⟨v11, l12, rs13, E, H, hs14, hr15, hm⟩
     unfold m_cantonref06_Children_j1 at hm
     refine wp_region_lit ?_
     refine sv E rfl rfl rfl (x_move E rfl rfl) ?_
     clear a E;intro a E
     refine sv E rfl rfl rfl (x_bin E rfl rfl rfl rfl) ?_
     clear a E;intro a E
     refine sv E rfl rfl rfl (x_assign E rfl rfl) ?_
     clear a E;intro a E
     refine wpList_nil ?_
     refine q_then ?_
     exact ⟨k1, Nat.lt_succ_self k1, v11, l12, IntKind.i64.wrap (x7 + 1), _, ((((E.nil.keep E 6 rfl).keep E 5 rfl).keep E 1 rfl).keep E 0 rfl), H, hs14, hr15, hm⟩
   ·intro hb
    rw [if_f hb] at hm
    clear hb
    refine wp_exit ?_
    refine q_thenX ?_
    refine q_thenX ?_
    refine q_hit ?_
    refine q_then ?_
    refine wp_seq ?_
    refine wp_region_lit ?_
    refine sv E rfl rfl rfl (x_move E rfl rfl) ?_
    clear a E;intro a E
    refine sv E rfl rfl rfl (x_assign E rfl rfl) ?_
    clear a E;intro a E
    refine wpList_nil ?_
    refine q_then ?_
    refine wp_ret ?_
    refine out1 E rfl rfl ?_
    obtain rfl := Option.some.inj hm
    exact ⟨v5, rfl, H.reads (fun r hr => hs9 r hr)⟩
end Go.Cb

set_option linter.unusedVariables false
set_option linter.unusedSimpArgs false
namespace Go.Cb
open Go.Proofs Go.RowKit
def m_cantonlaw06_NodesNames_j2 (rec_1 : Int → Option Bool) (x28 : Int) (b42 : Bool) : Option Bool :=
  if b42 = true then (some (false)) else (rec_1 (IntKind.i64.wrap (x28 + 1)))
def m_cantonlaw06_NodesNames_l1 (u13 : (List S_api_Node) × S_api_Result) (s3 : ByteArray) (l2 : List S_api_Node) (u6 : Bool) (u20 : S_api_Node × Bool) : Nat → Int → Option Bool
  | 0, _ => none
  | k1 + 1, x28 =>
    if (decide (x28 < (u13.2.Names.length : Int))) = true then ((idx u13.2.Names x28).bind fun x34 => (m_cantonref01_Join s3 x34).bind fun u37 => (m_nodes_Find l2 u37.1).bind fun u39 => if (!u37.2) = true then (m_cantonlaw06_NodesNames_j2 (m_cantonlaw06_NodesNames_l1 u13 s3 l2 u6 u20 k1) x28 true) else (if (!u39.2) = true then (m_cantonlaw06_NodesNames_j2 (m_cantonlaw06_NodesNames_l1 u13 s3 l2 u6 u20 k1) x28 true) else (if (decide (x28 > 0)) = true then ((idx u13.2.Names (IntKind.i64.wrap (x28 - 1))).bind fun x52 => (idx u13.2.Names x28).bind fun x58 => m_cantonlaw06_NodesNames_j2 (m_cantonlaw06_NodesNames_l1 u13 s3 l2 u6 u20 k1) x28 (!(sLt x52 x58))) else (m_cantonlaw06_NodesNames_j2 (m_cantonlaw06_NodesNames_l1 u13 s3 l2 u6 u20 k1) x28 false)))) else (if u6 = true then (if u20.2 = true then ((m_cantonref06_Children l2 s3).bind fun u66 => some ((u13.2.Names.length : Int) == (u66.length : Int))) else (some (false))) else (some (false)))
def m_cantonlaw06_NodesNames_j1 (s3 : ByteArray) (l2 : List S_api_Node) (u6 : Bool) (b8 : Bool) : Option Bool :=
  if b8 = true then (some (u6)) else ((m_nodes_Apply l2 (⟨6, s3, (ByteArray.mk #[]), 0, 0, false⟩ : S_api_Op)).bind fun u13 => (m_nodes_Find l2 s3).bind fun u20 => if (u13.2.Err != 0) = true then (if u6 = true then (if ((u13.2.Names.length : Int) == 0) = true then (if (!u20.2) = true then (some (true)) else ((m_cantonref01_Right s3).bind fun u26 => some (!u26))) else (some (false))) else (some (false))) else (m_cantonlaw06_NodesNames_l1 u13 s3 l2 u6 u20 (((u13.2.Names.length : Int) - 0 : Int).toNat + 1) 0))
def m_cantonlaw06_NodesNames (l2 : List S_api_Node) (s3 : ByteArray) : Option Bool :=
  m_cantonlaw06_head.bind fun u6 => (m_cantonlaw06_Great l2).bind fun u71 => if u71 = true then (m_cantonlaw06_NodesNames_j1 s3 l2 u6 true) else (if (decide ((s3.size : Int) > 1000)) = true then (m_cantonlaw06_NodesNames_j1 s3 l2 u6 true) else ((m_cantonref06_Right l2).bind fun u75 => m_cantonlaw06_NodesNames_j1 s3 l2 u6 (!u75)))
set_option maxRecDepth 20000 in
set_option maxHeartbeats 1000000 in
theorem c_cantonlaw06_NodesNames {w : World} {Fo : List Ob} {rs : List Rp} (v1 : Value) (l2 : List S_api_Node) (s3 : ByteArray) (H : Sep w (Fo) rs) (hr4 : rSl k_api_Node v1 l2 ∈ rs) (hr5 : rTab Tryd.prog ∈ rs) {r : Bool} (hm : m_cantonlaw06_NodesNames l2 s3 = some r) :
    Calls Tryd.prog 8 [v1, .string s3].toArray w (Ret fun v w' => .bool r = v ∧ Sep w' (Fo) (rs)) := by
 unfold m_cantonlaw06_NodesNames at hm
 refine enter Tryd.func8 rfl Tryd.ntmps8 rfl fun a E => ?_
 simp only [enum, Nat.reduceAdd] at E
 refine wp_seq ?_
 refine wp_region_lit ?_
 refine sv E rfl rfl rfl (x_assign E rfl rfl) ?_
 clear a E;intro a E
 refine wpList_nil ?_
 refine q_then ?_
 refine wp_seq ?_
 refine wp_region_lit ?_
 obtain ⟨u6, hx7, hm⟩ := bnd hm
 refine st_call E (wn rfl) rfl rfl (x_call E rfl rfl (cf10 _)) (c_cantonlaw06_head H hr5 hx7) ?_
 clear E H; clear a; clear w; rintro _ w ⟨rfl, H⟩ a E
 refine sv E rfl rfl rfl (x_assign E rfl rfl) ?_
 clear a E;intro a E
 refine wpList_nil ?_
 refine q_then ?_
 refine wp_seq ?_
 refine wp_seq_cut (fun a w => ∃ (b8 : Bool) (rs9 : List Rp), Env 122 a [(0, v1), (1, .string s3), (5, .bool u6), (27, .bool b8)] ∧ Sep w (Fo) rs9 ∧ (∀ r, r ∈ rs → r ∈ rs9) ∧ rSl k_api_Node v1 l2 ∈ rs9 ∧ rTab Tryd.prog ∈ rs9 ∧ m_cantonlaw06_NodesNames_j1 s3 l2 u6 b8 = some r) ?_ ?_
 ·refine wp_region_lit ?_
  refine sv E rfl rfl rfl (x_move E rfl rfl) ?_
  clear a E;intro a E
  obtain ⟨u71, hx72, hm⟩ := bnd hm
  refine st_call E (wn rfl) rfl rfl (x_call E rfl rfl (cf11 _)) (c_cantonlaw06_Great v1 l2 H hr4 hx72) ?_
  clear E H; clear a; clear w; rintro _ w ⟨rfl, H⟩ a E
  refine sv E rfl rfl rfl (x_move E rfl rfl) ?_
  clear a E;intro a E
  rcases Bool.eq_false_or_eq_true u71 with hb73 | hb73
  ·rw [if_t hb73] at hm
   refine st_no E (wf' E rfl rfl rfl rfl hb73 rfl) rfl rfl ?_
   clear a E;intro a E
   refine st_no E (wf' E rfl rfl rfl rfl hb73 rfl) rfl rfl ?_
   clear a E;intro a E
   refine st_no E (wf' E rfl rfl rfl rfl hb73 rfl) rfl rfl ?_
   clear a E;intro a E
   refine sv E rfl rfl rfl (x_pickT E rfl rfl hb73 rfl) ?_
   clear a E;intro a E
   refine sv E rfl rfl rfl (x_move E rfl rfl) ?_
   clear a E;intro a E
   refine st_no E (wf E rfl rfl rfl rfl rfl) rfl rfl ?_
   clear a E;intro a E
   refine st_no E (wf E rfl rfl rfl rfl rfl) rfl rfl ?_
   clear a E;intro a E
   refine st_no E (wf E rfl rfl rfl rfl rfl) rfl rfl ?_
   clear a E;intro a E
   refine sv E rfl rfl rfl (x_pickT E rfl rfl rfl rfl) ?_
   clear a E;intro a E
   refine wpList_nil ?_
   refine q_then ?_
   exact ⟨true, _, ((((E.nil.keep E 27 rfl).keep E 5 rfl).keep E 1 rfl).keep E 0 rfl), H, fun r hr => hr, hr4, hr5, hm⟩
  ·rw [if_f hb73] at hm
   refine st_val E (ws' E rfl rfl rfl rfl hb73) rfl rfl (x_move E rfl rfl) ?_
   clear a E;intro a E
   refine st_val E (ws' E rfl rfl rfl rfl hb73) rfl rfl (x_lenStr E rfl rfl Tryd.underlying9) ?_
   clear a E;intro a E
   refine st_val E (ws' E rfl rfl rfl rfl hb73) rfl rfl (x_bin E rfl rfl rfl rfl) ?_
   clear a E;intro a E
   refine sv E rfl rfl rfl (x_pickF E rfl rfl hb73 rfl) ?_
   clear a E;intro a E
   refine sv E rfl rfl rfl (x_move E rfl rfl) ?_
   clear a E;intro a E
   rcases Bool.eq_false_or_eq_true (decide ((s3.size : Int) > 1000)) with hb74 | hb74
   ·rw [if_t hb74] at hm
    refine st_no E (wf' E rfl rfl rfl rfl hb74 rfl) rfl rfl ?_
    clear a E;intro a E
    refine st_no E (wf' E rfl rfl rfl rfl hb74 rfl) rfl rfl ?_
    clear a E;intro a E
    refine st_no E (wf' E rfl rfl rfl rfl hb74 rfl) rfl rfl ?_
    clear a E;intro a E
    refine sv E rfl rfl rfl (x_pickT E rfl rfl hb74 rfl) ?_
    clear a E;intro a E
    refine wpList_nil ?_
    refine q_then ?_
    exact ⟨true, _, ((((E.nil.keep E 27 rfl).keep E 5 rfl).keep E 1 rfl).keep E 0 rfl), H, fun r hr => hr, hr4, hr5, hm⟩
   ·rw [if_f hb74] at hm
    refine st_val E (ws' E rfl rfl rfl rfl hb74) rfl rfl (x_move E rfl rfl) ?_
    clear a E;intro a E
    obtain ⟨u75, hx76, hm⟩ := bnd hm
    refine st_call E (ws' E rfl rfl rfl rfl hb74) rfl rfl (x_call E rfl rfl (cf13 _)) (c_cantonref06_Right v1 l2 H hr4 hx76) ?_
    clear E H; clear a; clear w; rintro _ w ⟨rfl, H⟩ a E
    refine st_val E (ws' E rfl rfl rfl rfl hb74) rfl rfl (x_not E rfl rfl) ?_
    clear a E;intro a E
    refine sv E rfl rfl rfl (x_pickF E rfl rfl hb74 rfl) ?_
    clear a E;intro a E
    refine wpList_nil ?_
    refine q_then ?_
    exact ⟨!u75, _, ((((E.nil.keep E 27 rfl).keep E 5 rfl).keep E 1 rfl).keep E 0 rfl), H, fun r hr => hr, hr4, hr5, hm⟩
 ·clear E H hm
  rintro a w ⟨b8, rs9, E, H, hs10, hr11, hr12, hm⟩
  unfold m_cantonlaw06_NodesNames_j1 at hm
  refine wp_if E rfl ?_ ?_
  ·intro hb
   rw [if_t hb] at hm
   clear hb
   refine wp_seq ?_
   refine wp_region_lit ?_
   refine sv E rfl rfl rfl (x_move E rfl rfl) ?_
   clear a E;intro a E
   refine sv E rfl rfl rfl (x_assign E rfl rfl) ?_
   clear a E;intro a E
   refine wpList_nil ?_
   refine q_then ?_
   refine wp_ret ?_
   refine q_thenR ?_
   refine out1 E rfl rfl ?_
   obtain rfl := Option.some.inj hm
   exact ⟨rfl, H.reads (fun r hr => hs10 r hr)⟩
  ·intro hb
   rw [if_f hb] at hm
   clear hb
   refine wp_skip ?_
   refine q_then ?_
   refine wp_seq ?_
   refine wp_region_lit ?_
   refine sv E rfl rfl rfl (x_move E rfl rfl) ?_
   clear a E;intro a E
   refine sv E rfl rfl rfl (x_move E rfl rfl) ?_
   clear a E;intro a E
   refine sv E rfl rfl rfl (x_build E (ps := [(0, .const (.int .i64 6)), (1, .tmp 31)]) (vs := [(0, .int .i64 6), (1, .string s3)]) rfl (by simp only [List.map]; rw [E.eval (x := .const (.int .i64 6)) (v := .int .i64 6) rfl, E.eval (x := .tmp 31) (v := .string s3) rfl]) (v := .agg #[.int .i64 6, .string s3, .string (ByteArray.mk #[]), .int .i64 0, .int .i64 0, .bool false]) (by kernel_rfl)) ?_
   clear a E;intro a E
   obtain ⟨u13, hx14, hm⟩ := bnd hm
   refine st_call E (wn rfl) rfl rfl (x_call E rfl rfl (cf14 _)) (c_nodes_Apply v1 l2 (⟨6, s3, (ByteArray.mk #[]), 0, 0, false⟩ : S_api_Op) H hr11 hr12 hx14) ?_
   clear E H; clear a; clear w; rintro _ w ⟨v15, v16, rfl, H⟩ a E
   refine sv E rfl rfl rfl (x_move E rfl rfl) ?_
   clear a E;intro a E
   refine sv E rfl rfl rfl (x_ext E rfl rfl rfl) ?_
   clear a E;intro a E
   refine sv E rfl rfl rfl (x_ext E rfl rfl rfl) ?_
   clear a E;intro a E
   refine st_alloc E H (wn rfl) rfl rfl (cs := [.int .i64 0, .string (ByteArray.mk #[]), .string (ByteArray.mk #[]), .int .i64 0, .slice none 0 0]) rfl (z := .agg #[.int .i64 0, .string ⟨#[]⟩, .string ⟨#[]⟩, .int .i64 0, .slice none 0 0]) (by kernel_rfl) rfl ?_
   clear E H; clear a; clear w; intro p17 w a H E
   refine sv E rfl rfl rfl (x_assign E rfl rfl) ?_
   clear a E;intro a E
   obtain ⟨q18, x19, rfl⟩ := H.slform (.tail _ (.head _))
   refine st_st (i := 0) E H (wn rfl) rfl (us := [.int .i64 u13.2.Err, .string u13.2.Path, .string u13.2.Data, .int .i64 u13.2.Version, (.slice q18 u13.2.Names.length x19)]) rfl rfl rfl rfl rfl sz31 rfl rfl ?_
   clear H; clear w; intro w H
   replace H : Sep w (Blk p17 31 [.int .i64 u13.2.Err, .string u13.2.Path, .string u13.2.Data, .int .i64 u13.2.Version, (.slice q18 u13.2.Names.length x19)] :: Fo) _ := H
   refine wpList_nil ?_
   refine q_then ?_
   refine wp_seq ?_
   refine wp_region_lit ?_
   refine sv E rfl rfl rfl (x_move E rfl rfl) ?_
   clear a E;intro a E
   refine sv E rfl rfl rfl (x_move E rfl rfl) ?_
   clear a E;intro a E
   obtain ⟨u20, hx21, hm⟩ := bnd hm
   refine st_call E (wn rfl) rfl rfl (x_call E rfl rfl (cf21 _)) (c_nodes_Find v1 l2 s3 H (.tail _ (.tail _ hr11)) hx21) ?_
   clear E H; clear a; clear w; rintro _ w ⟨rfl, H⟩ a E
   refine sv E rfl rfl rfl (x_move E rfl rfl) ?_
   clear a E;intro a E
   refine sv E rfl rfl rfl (x_ext E rfl rfl rfl) ?_
   clear a E;intro a E
   refine sv E rfl rfl rfl (x_ext E rfl rfl rfl) ?_
   clear a E;intro a E
   refine st_alloc E H (wn rfl) rfl rfl (cs := [.string (ByteArray.mk #[]), .string (ByteArray.mk #[]), .int .i64 0, .int .i64 0, .int .i64 0]) rfl (z := .agg #[.string ⟨#[]⟩, .string ⟨#[]⟩, .int .i64 0, .int .i64 0, .int .i64 0]) (by kernel_rfl) rfl ?_
   clear E H; clear a; clear w; intro p22 w a H E
   refine st_st (i := 0) E H (wn rfl) rfl (us := [.string u20.1.Path, .string u20.1.Data, .int .i64 u20.1.Version, .int .i64 u20.1.Turn, .int .i64 u20.1.Owner]) rfl rfl rfl rfl rfl sz39 rfl rfl ?_
   clear H; clear w; intro w H
   replace H : Sep w (Blk p22 39 [.string u20.1.Path, .string u20.1.Data, .int .i64 u20.1.Version, .int .i64 u20.1.Turn, .int .i64 u20.1.Owner] :: Blk p17 31 [.int .i64 u13.2.Err, .string u13.2.Path, .string u13.2.Data, .int .i64 u13.2.Version, (.slice q18 u13.2.Names.length x19)] :: Fo) _ := H
   refine sv E rfl rfl rfl (x_assign E rfl rfl) ?_
   clear a E;intro a E
   refine wpList_nil ?_
   refine q_then ?_
   refine wp_seq ?_
   refine wp_seq ?_
   refine wp_region_lit ?_
   refine sv E rfl rfl rfl (x_fa E rfl rfl (v := .pointer (some ⟨p17, 0, none⟩)) (fa31_0 _ _)) ?_
   clear a E;intro a E
   refine sv E rfl rfl rfl (x_ldB (i := 1) E H rfl rfl rfl rfl Tryd.underlying28 rfl) ?_
   clear a E;intro a E
   refine sv E rfl rfl rfl (x_bin E rfl rfl rfl rfl) ?_
   clear a E;intro a E
   refine wpList_nil ?_
   refine q_then ?_
   refine wp_if E rfl ?_ ?_
   ·intro hb
    rw [if_t hb] at hm
    clear hb
    refine wp_seq ?_
    refine wp_region_lit ?_
    refine sv E rfl rfl rfl (x_move E rfl rfl) ?_
    clear a E;intro a E
    refine sv E rfl rfl rfl (x_move E rfl rfl) ?_
    clear a E;intro a E
    rcases Bool.eq_false_or_eq_true u6 with hb23 | hb23
    ·rw [if_t hb23] at hm
     refine st_val E (ws' E rfl rfl rfl rfl hb23) rfl rfl (x_fa E rfl rfl (v := .pointer (some ⟨p17, 4, none⟩)) (fa31_4 _ _)) ?_
     clear a E;intro a E
     refine st_val E (ws' E rfl rfl rfl rfl hb23) rfl rfl (x_ldB (i := 1) E H rfl rfl rfl rfl Tryd.underlying29 rfl) ?_
     clear a E;intro a E
     refine st_val E (ws' E rfl rfl rfl rfl hb23) rfl rfl (x_lenS E H rfl rfl (.tail _ (.head _)) Tryd.underlying29) ?_
     clear a E;intro a E
     refine st_val E (ws' E rfl rfl rfl rfl hb23) rfl rfl (x_bin E rfl rfl rfl rfl) ?_
     clear a E;intro a E
     refine sv E rfl rfl rfl (x_pickT E rfl rfl hb23 rfl) ?_
     clear a E;intro a E
     refine sv E rfl rfl rfl (x_move E rfl rfl) ?_
     clear a E;intro a E
     rcases Bool.eq_false_or_eq_true ((u13.2.Names.length : Int) == 0) with hb24 | hb24
     ·rw [if_t hb24] at hm
      refine st_val E (ws' E rfl rfl rfl rfl hb24) rfl rfl (x_move E rfl rfl) ?_
      clear a E;intro a E
      refine st_val E (ws' E rfl rfl rfl rfl hb24) rfl rfl (x_not E rfl rfl) ?_
      clear a E;intro a E
      refine st_val E (ws' E rfl rfl rfl rfl hb24) rfl rfl (x_move E rfl rfl) ?_
      clear a E;intro a E
      rcases Bool.eq_false_or_eq_true (!u20.2) with hb25 | hb25
      ·rw [if_t hb25] at hm
       refine st_no E (wf' E rfl rfl rfl rfl hb25 rfl) rfl rfl ?_
       clear a E;intro a E
       refine st_no E (wf' E rfl rfl rfl rfl hb25 rfl) rfl rfl ?_
       clear a E;intro a E
       refine st_no E (wf' E rfl rfl rfl rfl hb25 rfl) rfl rfl ?_
       clear a E;intro a E
       refine st_val E (ws' E rfl rfl rfl rfl hb24) rfl rfl (x_pickT E rfl rfl hb25 rfl) ?_
       clear a E;intro a E
       refine sv E rfl rfl rfl (x_pickT E rfl rfl hb24 rfl) ?_
       clear a E;intro a E
       refine sv E rfl rfl rfl (x_assign E rfl rfl) ?_
       clear a E;intro a E
       refine wpList_nil ?_
       refine q_then ?_
       refine wp_ret ?_
       refine q_thenR ?_
       refine out1 E rfl rfl ?_
       replace H := H.drop 0
       replace H := H.drop 0
       obtain rfl := Option.some.inj hm
       exact ⟨rfl, H.reads (fun r hr => .tail _ (.tail _ (hs10 r hr)))⟩
      ·rw [if_f hb25] at hm
       refine st_val E (ws' E rfl rfl rfl rfl hb25) rfl rfl (x_move E rfl rfl) ?_
       clear a E;intro a E
       obtain ⟨u26, hx27, hm⟩ := bnd hm
       refine st_call E (ws' E rfl rfl rfl rfl hb25) rfl rfl (x_call E rfl rfl (cf22 _)) (c_cantonref01_Right s3 H hx27) ?_
       clear E H; clear a; clear w; rintro _ w ⟨rfl, H⟩ a E
       refine st_val E (ws' E rfl rfl rfl rfl hb25) rfl rfl (x_not E rfl rfl) ?_
       clear a E;intro a E
       refine st_val E (ws' E rfl rfl rfl rfl hb24) rfl rfl (x_pickF E rfl rfl hb25 rfl) ?_
       clear a E;intro a E
       refine sv E rfl rfl rfl (x_pickT E rfl rfl hb24 rfl) ?_
       clear a E;intro a E
       refine sv E rfl rfl rfl (x_assign E rfl rfl) ?_
       clear a E;intro a E
       refine wpList_nil ?_
       refine q_then ?_
       refine wp_ret ?_
       refine q_thenR ?_
       refine out1 E rfl rfl ?_
       replace H := H.drop 0
       replace H := H.drop 0
       obtain rfl := Option.some.inj hm
       exact ⟨rfl, H.reads (fun r hr => .tail _ (.tail _ (hs10 r hr)))⟩
     ·rw [if_f hb24] at hm
      refine st_no E (wf' E rfl rfl rfl rfl hb24 rfl) rfl rfl ?_
      clear a E;intro a E
      refine st_no E (wf' E rfl rfl rfl rfl hb24 rfl) rfl rfl ?_
      clear a E;intro a E
      refine st_no E (wf' E rfl rfl rfl rfl hb24 rfl) rfl rfl ?_
      clear a E;intro a E
      refine st_no E (wu E rfl rfl rfl rfl) rfl rfl ?_
      clear a E;intro a E
      refine st_no E (wu E rfl rfl rfl rfl) rfl rfl ?_
      clear a E;intro a E
      refine st_no E (wu E rfl rfl rfl rfl) rfl rfl ?_
      clear a E;intro a E
      refine st_no E (wf' E rfl rfl rfl rfl hb24 rfl) rfl rfl ?_
      clear a E;intro a E
      refine sv E rfl rfl rfl (x_pickF E rfl rfl hb24 rfl) ?_
      clear a E;intro a E
      refine sv E rfl rfl rfl (x_assign E rfl rfl) ?_
      clear a E;intro a E
      refine wpList_nil ?_
      refine q_then ?_
      refine wp_ret ?_
      refine q_thenR ?_
      refine out1 E rfl rfl ?_
      replace H := H.drop 0
      replace H := H.drop 0
      obtain rfl := Option.some.inj hm
      exact ⟨rfl, H.reads (fun r hr => .tail _ (.tail _ (hs10 r hr)))⟩
    ·rw [if_f hb23] at hm
     refine st_no E (wf' E rfl rfl rfl rfl hb23 rfl) rfl rfl ?_
     clear a E;intro a E
     refine st_no E (wf' E rfl rfl rfl rfl hb23 rfl) rfl rfl ?_
     clear a E;intro a E
     refine st_no E (wf' E rfl rfl rfl rfl hb23 rfl) rfl rfl ?_
     clear a E;intro a E
     refine st_no E (wf' E rfl rfl rfl rfl hb23 rfl) rfl rfl ?_
     clear a E;intro a E
     refine sv E rfl rfl rfl (x_pickF E rfl rfl hb23 rfl) ?_
     clear a E;intro a E
     refine sv E rfl rfl rfl (x_move E rfl rfl) ?_
     clear a E;intro a E
     refine st_no E (wf E rfl rfl rfl rfl rfl) rfl rfl ?_
     clear a E;intro a E
     refine st_no E (wf E rfl rfl rfl rfl rfl) rfl rfl ?_
     clear a E;intro a E
     refine st_no E (wf E rfl rfl rfl rfl rfl) rfl rfl ?_
     clear a E;intro a E
     refine st_no E (wu E rfl rfl rfl rfl) rfl rfl ?_
     clear a E;intro a E
     refine st_no E (wu E rfl rfl rfl rfl) rfl rfl ?_
     clear a E;intro a E
     refine st_no E (wu E rfl rfl rfl rfl) rfl rfl ?_
     clear a E;intro a E
     refine st_no E (wf E rfl rfl rfl rfl rfl) rfl rfl ?_
     clear a E;intro a E
     refine sv E rfl rfl rfl (x_pickF E rfl rfl rfl rfl) ?_
     clear a E;intro a E
     refine sv E rfl rfl rfl (x_assign E rfl rfl) ?_
     clear a E;intro a E
     refine wpList_nil ?_
     refine q_then ?_
     refine wp_ret ?_
     refine q_thenR ?_
     refine out1 E rfl rfl ?_
     replace H := H.drop 0
     replace H := H.drop 0
     obtain rfl := Option.some.inj hm
     exact ⟨rfl, H.reads (fun r hr => .tail _ (.tail _ (hs10 r hr)))⟩
   ·intro hb
    rw [if_f hb] at hm
    clear hb
    refine wp_skip ?_
    refine q_then ?_
    refine wp_seq ?_
    refine wp_seq ?_
    refine wp_region_lit ?_
    refine sv E rfl rfl rfl (x_assign E rfl rfl) ?_
    clear a E;intro a E
    refine wpList_nil ?_
    refine q_then ?_
    refine wp_block ?_
    refine wp_loop_g (fun k1 a w => ∃ (x28 : Int) (rs29 : List Rp), Env 122 a [(0, v1), (1, .string s3), (5, .bool u6), (7, .pointer (some ⟨p17, 0, none⟩)), (9, .bool u20.2), (10, .int .i64 x28)] ∧ Sep w (Blk p17 31 [.int .i64 u13.2.Err, .string u13.2.Path, .string u13.2.Data, .int .i64 u13.2.Version, (.slice q18 u13.2.Names.length x19)] :: Fo) rs29 ∧ (∀ r, r ∈ rs → r ∈ rs29) ∧ rSl k_api_Node v1 l2 ∈ rs29 ∧ rSl kS (.slice q18 u13.2.Names.length x19) u13.2.Names ∈ rs29 ∧ rTab Tryd.prog ∈ rs29 ∧ m_cantonlaw06_NodesNames_l1 u13 s3 l2 u6 u20 k1 x28 = some r) (((u13.2.Names.length : Int) - 0 : Int).toNat + 1) ?_ ?_
    ·replace H := H.drop 0
     exact ⟨0, _, ((((((E.nil.keep E 10 rfl).keep E 9 rfl).keep E 7 rfl).keep E 5 rfl).keep E 1 rfl).keep E 0 rfl), H, fun r hr => .tail _ (.tail _ (hs10 r hr)), (.tail _ (.tail _ hr11)), (.tail _ (.head _)), (.tail _ (.tail _ hr12)), hm⟩
    ·clear E H hm
     rintro k1 a w ⟨x28, rs29, E, H, hs30, hr31, hr32, hr33, hm⟩
     cases k1 with
     | zero => exact (none_some hm rfl).elim
     | succ k1 =>
      unfold m_cantonlaw06_NodesNames_l1 at hm
      refine wp_seq ?_
      refine wp_seq ?_
      refine wp_region_lit ?_
      refine sv E rfl rfl rfl (x_move E rfl rfl) ?_
      clear a E;intro a E
      refine sv E rfl rfl rfl (x_fa E rfl rfl (v := .pointer (some ⟨p17, 4, none⟩)) (fa31_4 _ _)) ?_
      clear a E;intro a E
      refine sv E rfl rfl rfl (x_ldB (i := 0) E H rfl rfl rfl rfl Tryd.underlying29 rfl) ?_
      clear a E;intro a E
      refine sv E rfl rfl rfl (x_lenS E H rfl rfl hr32 Tryd.underlying29) ?_
      clear a E;intro a E
      refine sv E rfl rfl rfl (x_bin E rfl rfl rfl rfl) ?_
      clear a E;intro a E
      refine wpList_nil ?_
      refine q_then ?_
      refine wp_if E rfl ?_ ?_
      ·intro hb
       rw [if_t hb] at hm
       clear hb
       refine wp_skip ?_
       refine q_then ?_
       refine wp_seq ?_
       refine wp_block ?_
       refine wp_seq ?_
       refine wp_region_lit ?_
       refine sv E rfl rfl rfl (x_move E rfl rfl) ?_
       clear a E;intro a E
       refine sv E rfl rfl rfl (x_fa E rfl rfl (v := .pointer (some ⟨p17, 4, none⟩)) (fa31_4 _ _)) ?_
       clear a E;intro a E
       refine sv E rfl rfl rfl (x_ldB (i := 0) E H rfl rfl rfl rfl Tryd.underlying29 rfl) ?_
       clear a E;intro a E
       refine sv E rfl rfl rfl (x_move E rfl rfl) ?_
       clear a E;intro a E
       obtain ⟨x34, hx35, hm⟩ := bnd hm
       refine st_ixS E H (wn rfl) rfl rfl rfl rfl rfl hr32 Tryd.underlying29 sz9 hx35 ?_
       clear E H; clear a; intro q36 a H E
       refine sv E rfl rfl rfl (x_ldA E H rfl rfl (.head _) Tryd.underlying9 rfl) ?_
       clear a E;intro a E
       obtain ⟨u37, hx38, hm⟩ := bnd hm
       refine st_call E (wn rfl) rfl rfl (x_call E rfl rfl (cf23 _)) (c_cantonref01_Join s3 x34 H hx38) ?_
       clear E H; clear a; clear w; rintro _ w ⟨rfl, H⟩ a E
       refine sv E rfl rfl rfl (x_move E rfl rfl) ?_
       clear a E;intro a E
       refine sv E rfl rfl rfl (x_ext E rfl rfl rfl) ?_
       clear a E;intro a E
       refine sv E rfl rfl rfl (x_ext E rfl rfl rfl) ?_
       clear a E;intro a E
       refine sv E rfl rfl rfl (x_assign E rfl rfl) ?_
       clear a E;intro a E
       refine sv E rfl rfl rfl (x_assign E rfl rfl) ?_
       clear a E;intro a E
       refine wpList_nil ?_
       refine q_then ?_
       refine wp_seq ?_
       refine wp_region_lit ?_
       refine sv E rfl rfl rfl (x_move E rfl rfl) ?_
       clear a E;intro a E
       refine sv E rfl rfl rfl (x_move E rfl rfl) ?_
       clear a E;intro a E
       obtain ⟨u39, hx40, hm⟩ := bnd hm
       refine st_call E (wn rfl) rfl rfl (x_call E rfl rfl (cf21 _)) (c_nodes_Find v1 l2 u37.1 H (.tail _ hr31) hx40) ?_
       clear E H; clear a; clear w; rintro _ w ⟨rfl, H⟩ a E
       refine sv E rfl rfl rfl (x_move E rfl rfl) ?_
       clear a E;intro a E
       refine sv E rfl rfl rfl (x_ext E rfl rfl rfl) ?_
       clear a E;intro a E
       refine sv E rfl rfl rfl (x_ext E rfl rfl rfl) ?_
       clear a E;intro a E
       refine st_alloc E H (wn rfl) rfl rfl (cs := [.string (ByteArray.mk #[]), .string (ByteArray.mk #[]), .int .i64 0, .int .i64 0, .int .i64 0]) rfl (z := .agg #[.string ⟨#[]⟩, .string ⟨#[]⟩, .int .i64 0, .int .i64 0, .int .i64 0]) (by kernel_rfl) rfl ?_
       clear E H; clear a; clear w; intro p41 w a H E
       refine st_st (i := 0) E H (wn rfl) rfl (us := [.string u39.1.Path, .string u39.1.Data, .int .i64 u39.1.Version, .int .i64 u39.1.Turn, .int .i64 u39.1.Owner]) rfl rfl rfl rfl rfl sz39 rfl rfl ?_
       clear H; clear w; intro w H
       replace H : Sep w (Blk p41 39 [.string u39.1.Path, .string u39.1.Data, .int .i64 u39.1.Version, .int .i64 u39.1.Turn, .int .i64 u39.1.Owner] :: Blk p17 31 [.int .i64 u13.2.Err, .string u13.2.Path, .string u13.2.Data, .int .i64 u13.2.Version, (.slice q18 u13.2.Names.length x19)] :: Fo) _ := H
       refine sv E rfl rfl rfl (x_assign E rfl rfl) ?_
       clear a E;intro a E
       refine wpList_nil ?_
       refine q_then ?_
       refine wp_seq_cut (fun a w => ∃ (b42 : Bool) (rs43 : List Rp), Env 122 a [(0, v1), (1, .string s3), (5, .bool u6), (7, .pointer (some ⟨p17, 0, none⟩)), (9, .bool u20.2), (10, .int .i64 x28), (107, .bool b42)] ∧ Sep w (Blk p17 31 [.int .i64 u13.2.Err, .string u13.2.Path, .string u13.2.Data, .int .i64 u13.2.Version, (.slice q18 u13.2.Names.length x19)] :: Fo) rs43 ∧ (∀ r, r ∈ rs → r ∈ rs43) ∧ rSl k_api_Node v1 l2 ∈ rs43 ∧ rSl kS (.slice q18 u13.2.Names.length x19) u13.2.Names ∈ rs43 ∧ rTab Tryd.prog ∈ rs43 ∧ m_cantonlaw06_NodesNames_j2 (m_cantonlaw06_NodesNames_l1 u13 s3 l2 u6 u20 k1) x28 b42 = some r) ?_ ?_
       ·obtain ⟨u48, H⟩ := H.raw (.tail _ hr32)
        replace H : Sep w (Blk p41 39 [.string u39.1.Path, .string u39.1.Data, .int .i64 u39.1.Version, .int .i64 u39.1.Turn, .int .i64 u39.1.Owner] :: Blk p17 31 [.int .i64 u13.2.Err, .string u13.2.Path, .string u13.2.Data, .int .i64 u13.2.Version, (.slice q18 u13.2.Names.length x19)] :: Fo) (rRow kS (.slice q18 u13.2.Names.length x19) u13.2.Names u48 :: rAt kS q36 x34 :: rs29) := H
        have hI : Still [Blk p17 31 [.int .i64 u13.2.Err, .string u13.2.Path, .string u13.2.Data, .int .i64 u13.2.Version, (.slice q18 u13.2.Names.length x19)]] [rRow kS (.slice q18 u13.2.Names.length x19) u13.2.Names u48] { w with drawn := w.drawn + 1 } := ⟨_, _, H.kept (Kp.drawn _ w _), (subO_cons (.tail _ (.head _)) (subO_nil)), (sub_cons (.head _) (sub_nil))⟩
        refine wp_draw _ [(0, 0), (1, 0), (2, 0), (3, 0), (4, 0), (5, 0), (6, 0), (7, 0), (8, 0), (9, 0), (10, 0), (11, 0), (12, 0), (13, 0), (14, 0), (15, 0), (16, 0), (17, 0), (18, 0), (19, 0), (20, 0), (21, 0), (22, 0), (23, 0)] mixedOk (by kernel_rfl) (fun _ _ _ h => False.elim h.2) hI ?_
        replace H := H.kept (Kp.drawn _ w (w.drawn + 1))
        generalize ({ w with drawn := w.drawn + 1 } : World) = w at H hI ⊢
        replace hI : ∃ W, Still [Blk p17 31 [.int .i64 u13.2.Err, .string u13.2.Path, .string u13.2.Data, .int .i64 u13.2.Version, (.slice q18 u13.2.Names.length x19)]] [rRow kS (.slice q18 u13.2.Names.length x19) u13.2.Names u48] W := ⟨_, hI⟩
        obtain ⟨W0, hI⟩ := hI
        refine fr_val E rfl (wn rfl) rfl rfl (fun w hW => (x_move E rfl rfl)) ?_
        clear a E;intro a E
        refine fr_val E rfl (wn rfl) rfl rfl (fun w hW => (x_not E rfl rfl)) ?_
        clear a E;intro a E
        refine fr_val E rfl (wn rfl) rfl rfl (fun w hW => (x_move E rfl rfl)) ?_
        clear a E;intro a E
        rcases Bool.eq_false_or_eq_true (!u37.2) with hb49 | hb49
        ·rw [if_t hb49] at hm
         refine fr_no E rfl (wf' E rfl rfl rfl rfl hb49 rfl) rfl rfl ?_
         clear a E;intro a E
         refine fr_no E rfl (wf' E rfl rfl rfl rfl hb49 rfl) rfl rfl ?_
         clear a E;intro a E
         refine fr_val E rfl (wn rfl) rfl rfl (fun w hW => (x_pickT E rfl rfl hb49 rfl)) ?_
         clear a E;intro a E
         refine fr_val E rfl (wn rfl) rfl rfl (fun w hW => (x_move E rfl rfl)) ?_
         clear a E;intro a E
         refine fr_no E rfl (wf E rfl rfl rfl rfl rfl) rfl rfl ?_
         clear a E;intro a E
         refine fr_no E rfl (wf E rfl rfl rfl rfl rfl) rfl rfl ?_
         clear a E;intro a E
         refine fr_no E rfl (wf E rfl rfl rfl rfl rfl) rfl rfl ?_
         clear a E;intro a E
         refine fr_no E rfl (wu E rfl rfl rfl rfl) rfl rfl ?_
         clear a E;intro a E
         refine fr_no E rfl (wu E rfl rfl rfl rfl) rfl rfl ?_
         clear a E;intro a E
         refine fr_no E rfl (wu E rfl rfl rfl rfl) rfl rfl ?_
         clear a E;intro a E
         refine fr_no E rfl (wu E rfl rfl rfl rfl) rfl rfl ?_
         clear a E;intro a E
         refine fr_no E rfl (wu E rfl rfl rfl rfl) rfl rfl ?_
         clear a E;intro a E
         refine fr_no E rfl (wu E rfl rfl rfl rfl) rfl rfl ?_
         clear a E;intro a E
         refine fr_no E rfl (wu E rfl rfl rfl rfl) rfl rfl ?_
         clear a E;intro a E
         refine fr_no E rfl (wu E rfl rfl rfl rfl) rfl rfl ?_
         clear a E;intro a E
         refine fr_no E rfl (wu E rfl rfl rfl rfl) rfl rfl ?_
         clear a E;intro a E
         refine fr_no E rfl (wu E rfl rfl rfl rfl) rfl rfl ?_
         clear a E;intro a E
         refine fr_no E rfl (wu E rfl rfl rfl rfl) rfl rfl ?_
         clear a E;intro a E
         refine fr_no E rfl (wu E rfl rfl rfl rfl) rfl rfl ?_
         clear a E;intro a E
         refine fr_no E rfl (wf E rfl rfl rfl rfl rfl) rfl rfl ?_
         clear a E;intro a E
         refine fr_val E rfl (wn rfl) rfl rfl (fun w hW => (x_pickT E rfl rfl rfl rfl)) ?_
         clear a E;intro a E
         refine fr_nil ?_
         clear hI
         refine q_then ?_
         replace H := H.drop 0
         exact ⟨true, _, (((((((E.nil.keep E 107 rfl).keep E 10 rfl).keep E 9 rfl).keep E 7 rfl).keep E 5 rfl).keep E 1 rfl).keep E 0 rfl), H, fun r hr => .tail _ (.tail _ (hs30 r hr)), (.tail _ (.tail _ hr31)), (.tail _ (.tail _ hr32)), (.tail _ (.tail _ hr33)), hm⟩
        ·rw [if_f hb49] at hm
         refine fr_val E rfl (ws' E rfl rfl rfl rfl hb49) rfl rfl (fun w hW => (x_move E rfl rfl)) ?_
         clear a E;intro a E
         refine fr_val E rfl (ws' E rfl rfl rfl rfl hb49) rfl rfl (fun w hW => (x_not E rfl rfl)) ?_
         clear a E;intro a E
         refine fr_val E rfl (wn rfl) rfl rfl (fun w hW => (x_pickF E rfl rfl hb49 rfl)) ?_
         clear a E;intro a E
         refine fr_val E rfl (wn rfl) rfl rfl (fun w hW => (x_move E rfl rfl)) ?_
         clear a E;intro a E
         rcases Bool.eq_false_or_eq_true (!u39.2) with hb50 | hb50
         ·rw [if_t hb50] at hm
          refine fr_no E rfl (wf' E rfl rfl rfl rfl hb50 rfl) rfl rfl ?_
          clear a E;intro a E
          refine fr_no E rfl (wf' E rfl rfl rfl rfl hb50 rfl) rfl rfl ?_
          clear a E;intro a E
          refine fr_no E rfl (wf' E rfl rfl rfl rfl hb50 rfl) rfl rfl ?_
          clear a E;intro a E
          refine fr_no E rfl (wu E rfl rfl rfl rfl) rfl rfl ?_
          clear a E;intro a E
          refine fr_no E rfl (wu E rfl rfl rfl rfl) rfl rfl ?_
          clear a E;intro a E
          refine fr_no E rfl (wu E rfl rfl rfl rfl) rfl rfl ?_
          clear a E;intro a E
          refine fr_no E rfl (wu E rfl rfl rfl rfl) rfl rfl ?_
          clear a E;intro a E
          refine fr_no E rfl (wu E rfl rfl rfl rfl) rfl rfl ?_
          clear a E;intro a E
          refine fr_no E rfl (wu E rfl rfl rfl rfl) rfl rfl ?_
          clear a E;intro a E
          refine fr_no E rfl (wu E rfl rfl rfl rfl) rfl rfl ?_
          clear a E;intro a E
          refine fr_no E rfl (wu E rfl rfl rfl rfl) rfl rfl ?_
          clear a E;intro a E
          refine fr_no E rfl (wu E rfl rfl rfl rfl) rfl rfl ?_
          clear a E;intro a E
          refine fr_no E rfl (wu E rfl rfl rfl rfl) rfl rfl ?_
          clear a E;intro a E
          refine fr_no E rfl (wu E rfl rfl rfl rfl) rfl rfl ?_
          clear a E;intro a E
          refine fr_no E rfl (wu E rfl rfl rfl rfl) rfl rfl ?_
          clear a E;intro a E
          refine fr_no E rfl (wf' E rfl rfl rfl rfl hb50 rfl) rfl rfl ?_
          clear a E;intro a E
          refine fr_val E rfl (wn rfl) rfl rfl (fun w hW => (x_pickT E rfl rfl hb50 rfl)) ?_
          clear a E;intro a E
          refine fr_nil ?_
          clear hI
          refine q_then ?_
          replace H := H.drop 0
          exact ⟨true, _, (((((((E.nil.keep E 107 rfl).keep E 10 rfl).keep E 9 rfl).keep E 7 rfl).keep E 5 rfl).keep E 1 rfl).keep E 0 rfl), H, fun r hr => .tail _ (.tail _ (hs30 r hr)), (.tail _ (.tail _ hr31)), (.tail _ (.tail _ hr32)), (.tail _ (.tail _ hr33)), hm⟩
         ·rw [if_f hb50] at hm
          refine fr_val E rfl (ws' E rfl rfl rfl rfl hb50) rfl rfl (fun w hW => (x_move E rfl rfl)) ?_
          clear a E;intro a E
          refine fr_val E rfl (ws' E rfl rfl rfl rfl hb50) rfl rfl (fun w hW => (x_bin E rfl rfl rfl rfl)) ?_
          clear a E;intro a E
          refine fr_val E rfl (ws' E rfl rfl rfl rfl hb50) rfl rfl (fun w hW => (x_move E rfl rfl)) ?_
          clear a E;intro a E
          rcases Bool.eq_false_or_eq_true (decide (x28 > 0)) with hb51 | hb51
          ·rw [if_t hb51] at hm
           refine fr_val E rfl (ws' E rfl rfl rfl rfl hb51) rfl rfl (fun w hW => x_fa E rfl rfl (v := .pointer (some ⟨p17, 4, none⟩)) (fa31_4 _ _)) ?_
           clear a E;intro a E
           refine fr_val E rfl (ws' E rfl rfl rfl rfl hb51) rfl rfl (fun w hW => x_ld E rfl rfl (ib_ld (.head _) rfl Tryd.underlying29 rfl w hW)) ?_
           clear a E;intro a E
           refine fr_val E rfl (ws' E rfl rfl rfl rfl hb51) rfl rfl (fun w hW => (x_move E rfl rfl)) ?_
           clear a E;intro a E
           refine fr_val E rfl (ws' E rfl rfl rfl rfl hb51) rfl rfl (fun w hW => (x_bin E rfl rfl rfl rfl)) ?_
           clear a E;intro a E
           obtain ⟨x52, hx53, hm⟩ := bnd hm
           obtain ⟨q54, u57, hx55, hx56⟩ := dr_ixW (P := Tryd.prog) (k := .i64) hI (dr_mem (.head _)) Tryd.underlying29 sz9 hx53
           refine fr_val E rfl (ws' E rfl rfl rfl rfl hb51) rfl rfl (fun w hW => x_ixA E rfl rfl rfl (hx55 w)) ?_
           clear a E;intro a E
           refine fr_val E rfl (ws' E rfl rfl rfl rfl hb51) rfl rfl (fun w hW => x_ld E rfl rfl (ir_ld (DR.ir (dr_at hx56)) Tryd.underlying9 rfl w hW)) ?_
           clear a E;intro a E
           refine fr_val E rfl (ws' E rfl rfl rfl rfl hb51) rfl rfl (fun w hW => x_fa E rfl rfl (v := .pointer (some ⟨p17, 4, none⟩)) (fa31_4 _ _)) ?_
           clear a E;intro a E
           refine fr_val E rfl (ws' E rfl rfl rfl rfl hb51) rfl rfl (fun w hW => x_ld E rfl rfl (ib_ld (.head _) rfl Tryd.underlying29 rfl w hW)) ?_
           clear a E;intro a E
           refine fr_val E rfl (ws' E rfl rfl rfl rfl hb51) rfl rfl (fun w hW => (x_move E rfl rfl)) ?_
           clear a E;intro a E
           obtain ⟨x58, hx59, hm⟩ := bnd hm
           obtain ⟨q60, u63, hx61, hx62⟩ := dr_ixW (P := Tryd.prog) (k := .i64) hI (dr_mem (.head _)) Tryd.underlying29 sz9 hx59
           refine fr_val E rfl (ws' E rfl rfl rfl rfl hb51) rfl rfl (fun w hW => x_ixA E rfl rfl rfl (hx61 w)) ?_
           clear a E;intro a E
           refine fr_val E rfl (ws' E rfl rfl rfl rfl hb51) rfl rfl (fun w hW => x_ld E rfl rfl (ir_ld (DR.ir (dr_at hx62)) Tryd.underlying9 rfl w hW)) ?_
           clear a E;intro a E
           refine fr_val E rfl (ws' E rfl rfl rfl rfl hb51) rfl rfl (fun w hW => (x_str E rfl rfl rfl rfl)) ?_
           clear a E;intro a E
           refine fr_val E rfl (ws' E rfl rfl rfl rfl hb50) rfl rfl (fun w hW => (x_pickT E rfl rfl hb51 rfl)) ?_
           clear a E;intro a E
           refine fr_val E rfl (wn rfl) rfl rfl (fun w hW => (x_pickF E rfl rfl hb50 rfl)) ?_
           clear a E;intro a E
           refine fr_nil ?_
           clear hI
           refine q_then ?_
           replace H := H.drop 0
           exact ⟨!(sLt x52 x58), _, (((((((E.nil.keep E 107 rfl).keep E 10 rfl).keep E 9 rfl).keep E 7 rfl).keep E 5 rfl).keep E 1 rfl).keep E 0 rfl), H, fun r hr => .tail _ (.tail _ (hs30 r hr)), (.tail _ (.tail _ hr31)), (.tail _ (.tail _ hr32)), (.tail _ (.tail _ hr33)), hm⟩
          ·rw [if_f hb51] at hm
           refine fr_no E rfl (wf' E rfl rfl rfl rfl hb51 rfl) rfl rfl ?_
           clear a E;intro a E
           refine fr_no E rfl (wf' E rfl rfl rfl rfl hb51 rfl) rfl rfl ?_
           clear a E;intro a E
           refine fr_no E rfl (wf' E rfl rfl rfl rfl hb51 rfl) rfl rfl ?_
           clear a E;intro a E
           refine fr_no E rfl (wf' E rfl rfl rfl rfl hb51 rfl) rfl rfl ?_
           clear a E;intro a E
           refine fr_no E rfl (wf' E rfl rfl rfl rfl hb51 rfl) rfl rfl ?_
           clear a E;intro a E
           refine fr_no E rfl (wf' E rfl rfl rfl rfl hb51 rfl) rfl rfl ?_
           clear a E;intro a E
           refine fr_no E rfl (wf' E rfl rfl rfl rfl hb51 rfl) rfl rfl ?_
           clear a E;intro a E
           refine fr_no E rfl (wf' E rfl rfl rfl rfl hb51 rfl) rfl rfl ?_
           clear a E;intro a E
           refine fr_no E rfl (wf' E rfl rfl rfl rfl hb51 rfl) rfl rfl ?_
           clear a E;intro a E
           refine fr_no E rfl (wf' E rfl rfl rfl rfl hb51 rfl) rfl rfl ?_
           clear a E;intro a E
           refine fr_no E rfl (wf' E rfl rfl rfl rfl hb51 rfl) rfl rfl ?_
           clear a E;intro a E
           refine fr_no E rfl (wf' E rfl rfl rfl rfl hb51 rfl) rfl rfl ?_
           clear a E;intro a E
           refine fr_val E rfl (ws' E rfl rfl rfl rfl hb50) rfl rfl (fun w hW => (x_pickF E rfl rfl hb51 rfl)) ?_
           clear a E;intro a E
           refine fr_val E rfl (wn rfl) rfl rfl (fun w hW => (x_pickF E rfl rfl hb50 rfl)) ?_
           clear a E;intro a E
           refine fr_nil ?_
           clear hI
           refine q_then ?_
           replace H := H.drop 0
           exact ⟨false, _, (((((((E.nil.keep E 107 rfl).keep E 10 rfl).keep E 9 rfl).keep E 7 rfl).keep E 5 rfl).keep E 1 rfl).keep E 0 rfl), H, fun r hr => .tail _ (.tail _ (hs30 r hr)), (.tail _ (.tail _ hr31)), (.tail _ (.tail _ hr32)), (.tail _ (.tail _ hr33)), hm⟩
       ·clear E H hm
        rintro a w ⟨b42, rs43, E, H, hs44, hr45, hr46, hr47, hm⟩
        unfold m_cantonlaw06_NodesNames_j2 at hm
        refine wp_if E rfl ?_ ?_
        ·intro hb
         rw [if_t hb] at hm
         clear hb
         refine wp_seq ?_
         refine wp_region_lit ?_
         refine sv E rfl rfl rfl (x_assign E rfl rfl) ?_
         clear a E;intro a E
         refine wpList_nil ?_
         refine q_then ?_
         refine wp_ret ?_
         refine q_blkR ?_
         refine q_thenR ?_
         refine q_thenR ?_
         refine q_blkR ?_
         refine q_thenR ?_
         refine out1 E rfl rfl ?_
         replace H := H.drop 0
         obtain rfl := Option.some.inj hm
         exact ⟨rfl, H.reads (fun r hr => hs44 r hr)⟩
        ·intro hb
         rw [if_f hb] at hm
         clear hb
         refine wp_skip ?_
         refine q_blk ?_
         refine q_then ?_
         refine wp_region_lit ?_
         refine sv E rfl rfl rfl (x_move E rfl rfl) ?_
         clear a E;intro a E
         refine sv E rfl rfl rfl (x_bin E rfl rfl rfl rfl) ?_
         clear a E;intro a E
         refine sv E rfl rfl rfl (x_assign E rfl rfl) ?_
         clear a E;intro a E
         refine wpList_nil ?_
         refine q_then ?_
         exact ⟨k1, Nat.lt_succ_self k1, IntKind.i64.wrap (x28 + 1), _, ((((((E.nil.keep E 10 rfl).keep E 9 rfl).keep E 7 rfl).keep E 5 rfl).keep E 1 rfl).keep E 0 rfl), H, hs44, hr45, hr46, hr47, hm⟩
      ·intro hb
       rw [if_f hb] at hm
       clear hb
       refine wp_exit ?_
       refine q_thenX ?_
       refine q_thenX ?_
       refine q_hit ?_
       refine q_then ?_
       refine wp_seq ?_
       replace H : Sep w (Blk p17 31 [.int .i64 u13.2.Err, .string u13.2.Path, .string u13.2.Data, .int .i64 u13.2.Version, (.slice q18 u13.2.Names.length x19)] :: Fo) (rs29) := H
       have hI : Still [Blk p17 31 [.int .i64 u13.2.Err, .string u13.2.Path, .string u13.2.Data, .int .i64 u13.2.Version, (.slice q18 u13.2.Names.length x19)]] [] { w with drawn := w.drawn + 1 } := ⟨_, _, H.kept (Kp.drawn _ w _), (subO_cons (.head _) (subO_nil)), (sub_nil)⟩
       refine wp_draw _ [(0, 0), (1, 0), (2, 0), (3, 0), (4, 0), (5, 0), (6, 0), (7, 0), (8, 0), (9, 0), (10, 1), (11, 0), (12, 0), (13, 0), (14, 2)] mixedOk (by kernel_rfl) (fun _ _ _ h => False.elim h.2) hI ?_
       replace H := H.kept (Kp.drawn _ w (w.drawn + 1))
       generalize ({ w with drawn := w.drawn + 1 } : World) = w at H hI ⊢
       replace hI : ∃ W, Still [Blk p17 31 [.int .i64 u13.2.Err, .string u13.2.Path, .string u13.2.Data, .int .i64 u13.2.Version, (.slice q18 u13.2.Names.length x19)]] [] W := ⟨_, hI⟩
       obtain ⟨W0, hI⟩ := hI
       refine fr_val E rfl (wn rfl) rfl rfl (fun w hW => (x_move E rfl rfl)) ?_
       clear a E;intro a E
       refine fr_val E rfl (wn rfl) rfl rfl (fun w hW => (x_move E rfl rfl)) ?_
       clear a E;intro a E
       rcases Bool.eq_false_or_eq_true u6 with hb64 | hb64
       ·rw [if_t hb64] at hm
        refine fr_val E rfl (ws' E rfl rfl rfl rfl hb64) rfl rfl (fun w hW => (x_move E rfl rfl)) ?_
        clear a E;intro a E
        refine fr_val E rfl (wn rfl) rfl rfl (fun w hW => (x_pickT E rfl rfl hb64 rfl)) ?_
        clear a E;intro a E
        refine fr_val E rfl (wn rfl) rfl rfl (fun w hW => (x_move E rfl rfl)) ?_
        clear a E;intro a E
        rcases Bool.eq_false_or_eq_true u20.2 with hb65 | hb65
        ·rw [if_t hb65] at hm
         refine fr_val E rfl (ws' E rfl rfl rfl rfl hb65) rfl rfl (fun w hW => x_fa E rfl rfl (v := .pointer (some ⟨p17, 4, none⟩)) (fa31_4 _ _)) ?_
         clear a E;intro a E
         refine fr_val E rfl (ws' E rfl rfl rfl rfl hb65) rfl rfl (fun w hW => x_ld E rfl rfl (ib_ld (.head _) rfl Tryd.underlying29 rfl w hW)) ?_
         clear a E;intro a E
         refine fr_val E rfl (ws' E rfl rfl rfl rfl hb65) rfl rfl (fun w hW => x_lenV E rfl rfl Tryd.underlying29) ?_
         clear a E;intro a E
         refine fr_val E rfl (ws' E rfl rfl rfl rfl hb65) rfl rfl (fun w hW => (x_move E rfl rfl)) ?_
         clear a E;intro a E
         refine fr_val E rfl (ws' E rfl rfl rfl rfl hb65) rfl rfl (fun w hW => (x_move E rfl rfl)) ?_
         clear a E;intro a E
         refine fr_op rfl ?_
         obtain ⟨u66, hx67, hm⟩ := bnd hm
         refine st_call E (ws' E rfl rfl rfl rfl hb65) rfl rfl (x_call E rfl rfl (cf20 _)) (c_cantonref06_Children v1 l2 s3 H hr31 hx67) ?_
         clear E H; clear a; clear w; rintro _ w ⟨v68, rfl, H⟩ a E
         obtain ⟨q69, x70, rfl⟩ := H.rowform (i := 0) rfl
         refine wpList_nil ?_
         refine q_then ?_
         replace H : Sep w (Row 39 k_api_Node (.slice q69 u66.length x70) u66 :: Blk p17 31 [.int .i64 u13.2.Err, .string u13.2.Path, .string u13.2.Data, .int .i64 u13.2.Version, (.slice q18 u13.2.Names.length x19)] :: Fo) (rs29) := H
         refine ⟨⟨_, _, H, (subO_cons (.tail _ (.head _)) (subO_nil)), (sub_nil)⟩, ?_⟩
         refine fr_val E rfl (ws' E rfl rfl rfl rfl hb65) rfl rfl (fun w hW => x_lenV E rfl rfl Tryd.underlying22) ?_
         clear a E;intro a E
         refine fr_val E rfl (ws' E rfl rfl rfl rfl hb65) rfl rfl (fun w hW => (x_bin E rfl rfl rfl rfl)) ?_
         clear a E;intro a E
         refine fr_val E rfl (wn rfl) rfl rfl (fun w hW => (x_pickT E rfl rfl hb65 rfl)) ?_
         clear a E;intro a E
         refine fr_tail rfl ?_
         refine sv E rfl rfl rfl (x_assign E rfl rfl) ?_
         clear a E;intro a E
         refine wpList_nil ?_
         refine q_then ?_
         refine fr_nil ?_
         clear hI
         refine q_then ?_
         refine wp_ret ?_
         refine out1 E rfl rfl ?_
         replace H := H.drop 0
         replace H := H.drop 0
         obtain rfl := Option.some.inj hm
         exact ⟨rfl, H.reads (fun r hr => hs30 r hr)⟩
        ·rw [if_f hb65] at hm
         refine fr_no E rfl (wf' E rfl rfl rfl rfl hb65 rfl) rfl rfl ?_
         clear a E;intro a E
         refine fr_no E rfl (wf' E rfl rfl rfl rfl hb65 rfl) rfl rfl ?_
         clear a E;intro a E
         refine fr_no E rfl (wf' E rfl rfl rfl rfl hb65 rfl) rfl rfl ?_
         clear a E;intro a E
         refine fr_no E rfl (wf' E rfl rfl rfl rfl hb65 rfl) rfl rfl ?_
         clear a E;intro a E
         refine fr_no E rfl (wf' E rfl rfl rfl rfl hb65 rfl) rfl rfl ?_
         clear a E;intro a E
         refine fr_op rfl ?_
         refine st_no E (wf' E rfl rfl rfl rfl hb65 rfl) rfl rfl ?_
         clear a E;intro a E
         refine wpList_nil ?_
         refine q_then ?_
         replace H : Sep w (Blk p17 31 [.int .i64 u13.2.Err, .string u13.2.Path, .string u13.2.Data, .int .i64 u13.2.Version, (.slice q18 u13.2.Names.length x19)] :: Fo) (rs29) := H
         refine ⟨⟨_, _, H, (subO_cons (.head _) (subO_nil)), (sub_nil)⟩, ?_⟩
         refine fr_no E rfl (wf' E rfl rfl rfl rfl hb65 rfl) rfl rfl ?_
         clear a E;intro a E
         refine fr_no E rfl (wf' E rfl rfl rfl rfl hb65 rfl) rfl rfl ?_
         clear a E;intro a E
         refine fr_val E rfl (wn rfl) rfl rfl (fun w hW => (x_pickF E rfl rfl hb65 rfl)) ?_
         clear a E;intro a E
         refine fr_tail rfl ?_
         refine sv E rfl rfl rfl (x_assign E rfl rfl) ?_
         clear a E;intro a E
         refine wpList_nil ?_
         refine q_then ?_
         refine fr_nil ?_
         clear hI
         refine q_then ?_
         refine wp_ret ?_
         refine out1 E rfl rfl ?_
         replace H := H.drop 0
         obtain rfl := Option.some.inj hm
         exact ⟨rfl, H.reads (fun r hr => hs30 r hr)⟩
       ·rw [if_f hb64] at hm
        refine fr_no E rfl (wf' E rfl rfl rfl rfl hb64 rfl) rfl rfl ?_
        clear a E;intro a E
        refine fr_val E rfl (wn rfl) rfl rfl (fun w hW => (x_pickF E rfl rfl hb64 rfl)) ?_
        clear a E;intro a E
        refine fr_val E rfl (wn rfl) rfl rfl (fun w hW => (x_move E rfl rfl)) ?_
        clear a E;intro a E
        refine fr_no E rfl (wf E rfl rfl rfl rfl rfl) rfl rfl ?_
        clear a E;intro a E
        refine fr_no E rfl (wf E rfl rfl rfl rfl rfl) rfl rfl ?_
        clear a E;intro a E
        refine fr_no E rfl (wf E rfl rfl rfl rfl rfl) rfl rfl ?_
        clear a E;intro a E
        refine fr_no E rfl (wf E rfl rfl rfl rfl rfl) rfl rfl ?_
        clear a E;intro a E
        refine fr_no E rfl (wf E rfl rfl rfl rfl rfl) rfl rfl ?_
        clear a E;intro a E
        refine fr_op rfl ?_
        refine st_no E (wf E rfl rfl rfl rfl rfl) rfl rfl ?_
        clear a E;intro a E
        refine wpList_nil ?_
        refine q_then ?_
        replace H : Sep w (Blk p17 31 [.int .i64 u13.2.Err, .string u13.2.Path, .string u13.2.Data, .int .i64 u13.2.Version, (.slice q18 u13.2.Names.length x19)] :: Fo) (rs29) := H
        refine ⟨⟨_, _, H, (subO_cons (.head _) (subO_nil)), (sub_nil)⟩, ?_⟩
        refine fr_no E rfl (wf E rfl rfl rfl rfl rfl) rfl rfl ?_
        clear a E;intro a E
        refine fr_no E rfl (wf E rfl rfl rfl rfl rfl) rfl rfl ?_
        clear a E;intro a E
        refine fr_val E rfl (wn rfl) rfl rfl (fun w hW => (x_pickF E rfl rfl rfl rfl)) ?_
        clear a E;intro a E
        refine fr_tail rfl ?_
        refine sv E rfl rfl rfl (x_assign E rfl rfl) ?_
        clear a E;intro a E
        refine wpList_nil ?_
        refine q_then ?_
        refine fr_nil ?_
        clear hI
        refine q_then ?_
        refine wp_ret ?_
        refine out1 E rfl rfl ?_
        replace H := H.drop 0
        obtain rfl := Option.some.inj hm
        exact ⟨rfl, H.reads (fun r hr => hs30 r hr)⟩
end Go.Cb
