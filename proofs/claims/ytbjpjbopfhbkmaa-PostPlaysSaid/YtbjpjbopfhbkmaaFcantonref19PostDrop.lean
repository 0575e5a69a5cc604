/- A function of the program, walked: it comes to its plain function. -/
import Derived.Test.YtbjpjbopfhbkmaaT
import Derived.Test.YtbjpjbopfhbkmaaO8
set_option linter.unusedVariables false
set_option linter.unusedSimpArgs false
namespace Go.Cb
open Go.Proofs Go.RowKit
def m_cantonref19_Post_Drop_j1 (rec_1 : (List S_api_Mail) → Int → (List S_api_Mail) → Option (Int × (List S_api_Mail))) (x7 : Int) (l9 : (List S_api_Mail)) (l14 : (List S_api_Mail)) : Option (Int × (List S_api_Mail)) :=
  rec_1 l14 (IntKind.i64.wrap (x7 + 1)) l9
def m_cantonref19_Post_Drop_l1 (x4 : Int) : Nat → (List S_api_Mail) → Int → (List S_api_Mail) → Option (Int × (List S_api_Mail))
  | 0, _, _, _ => none
  | k1 + 1, l6, x7, l9 =>
    if (decide (x7 < (l9.length : Int))) = true then ((idx l9 x7).bind fun x18 => if (x18.To != x4) = true then ((idx l9 x7).bind fun x21 => (ck (l6.length + ([x21] : List S_api_Mail).length ≤ LIM)).bind fun u27 => m_cantonref19_Post_Drop_j1 (m_cantonref19_Post_Drop_l1 x4 k1) x7 l9 (l6 ++ ([x21] : List S_api_Mail))) else (m_cantonref19_Post_Drop_j1 (m_cantonref19_Post_Drop_l1 x4 k1) x7 l9 l6)) else (some (IntKind.i64.wrap ((l9.length : Int) - (l6.length : Int)), l6))
def m_cantonref19_Post_Drop (l3 : List S_api_Mail) (x4 : Int) : Option (Int × (List S_api_Mail)) :=
  m_cantonref19_Post_Drop_l1 x4 (((l3.length : Int) - 0 : Int).toNat + 1) [] 0 l3
set_option maxRecDepth 20000 in
set_option maxHeartbeats 1000000 in
theorem c_cantonref19_Post_Drop {w : World} {Fo : List Ob} {rs : List Rp} (p1 : Nat) (v2 : Value) (l3 : List S_api_Mail) (x4 : Int) (H : Sep w (Blk p1 29 [v2] :: Row 32 k_api_Mail v2 l3 :: Fo) rs) {r : Int × (List S_api_Mail)} (hm : m_cantonref19_Post_Drop l3 x4 = some r) :
    Calls Try.prog 22 [.pointer (some ⟨p1, 0, none⟩), .int .i64 x4].toArray w (Ret fun v w' => ∃ (v5002 : Value), .int .i64 r.1 = v ∧ Sep w' (Blk p1 29 [v5002] :: Row 32 k_api_Mail v5002 r.2 :: Fo) (rs)) := by
 unfold m_cantonref19_Post_Drop at hm
 refine enter Try.func22 rfl Try.ntmps22 rfl fun a E => ?_
 simp only [enum, Nat.reduceAdd] at E
 refine wp_seq ?_
 refine wp_region_lit ?_
 refine sv E rfl rfl rfl (x_assign E rfl rfl) ?_
 clear a E;intro a E
 refine wpList_nil ?_
 refine q_then ?_
 refine wp_seq ?_
 refine wp_region_lit ?_
 refine sv E rfl rfl rfl (x_assign E rfl rfl) ?_
 clear a E;intro a E
 refine wpList_nil ?_
 refine q_then ?_
 refine wp_seq ?_
 refine wp_seq ?_
 refine wp_region_lit ?_
 refine sv E rfl rfl rfl (x_assign E rfl rfl) ?_
 clear a E;intro a E
 refine wpList_nil ?_
 refine q_then ?_
 refine wp_block ?_
 refine wp_loop_g (fun k1 a w => ∃ (v5 : Value) (v8 : Value) (l6 : (List S_api_Mail)) (x7 : Int) (l9 : (List S_api_Mail)) (rs10 : List Rp), Env 50 a [(0, .pointer (some ⟨p1, 0, none⟩)), (1, .int .i64 x4), (5, v5), (6, .int .i64 x7)] ∧ Sep w (Blk p1 29 [v8] :: Row 32 k_api_Mail v5 l6 :: Fo) rs10 ∧ (∀ r, r ∈ rs → r ∈ rs10) ∧ rSl k_api_Mail v8 l9 ∈ rs10 ∧ m_cantonref19_Post_Drop_l1 x4 k1 l6 x7 l9 = some r) (((l3.length : Int) - 0 : Int).toNat + 1) ?_ ?_
 ·replace H := H.nilRow 32 k_api_Mail
  replace H := H.thaw (i := 2) rfl
  replace H := H.front 0 rfl
  replace H := H.front 1 rfl
  exact ⟨(.slice none 0 0), v2, [], 0, l3, _, ((((E.nil.keep E 6 rfl).keep E 5 rfl).keep E 1 rfl).keep E 0 rfl), H, fun r hr => .tail _ (hr), (.head _), hm⟩
 ·clear E H hm
  rintro k1 a w ⟨v5, v8, l6, x7, l9, rs10, E, H, hs11, hr12, hm⟩
  cases k1 with
  | zero => exact (none_some hm rfl).elim
  | succ k1 =>
   unfold m_cantonref19_Post_Drop_l1 at hm
   refine wp_seq ?_
   refine wp_seq ?_
   refine wp_region_lit ?_
   refine sv E rfl rfl rfl (x_move E rfl rfl) ?_
   clear a E;intro a E
   refine sv E rfl rfl rfl (x_move E rfl rfl) ?_
   clear a E;intro a E
   refine sv E rfl rfl rfl (x_nil E rfl rfl) ?_
   clear a E;intro a E
   refine sv E rfl rfl rfl (x_fa E rfl rfl (v := .pointer (some ⟨p1, 0, none⟩)) (fa29_0 _ _)) ?_
   clear a E;intro a E
   refine sv E rfl rfl rfl (x_ldB (i := 0) E H rfl rfl rfl rfl Try.underlying27 rfl) ?_
   clear a E;intro a E
   refine sv E rfl rfl rfl (x_lenS E H rfl rfl hr12 Try.underlying27) ?_
   clear a E;intro a E
   refine sv E rfl rfl rfl (x_bin E rfl rfl rfl rfl) ?_
   clear a E;intro a E
   refine wpList_nil ?_
   refine q_then ?_
   refine wp_if E rfl ?_ ?_
   ·intro hb
    rw [if_t hb] at hm
    clear hb
    refine wp_skip ?_
    refine q_then ?_
    refine wp_seq_cut (fun a w => ∃ (v13 : Value) (l14 : (List S_api_Mail)) (rs15 : List Rp), Env 50 a [(0, .pointer (some ⟨p1, 0, none⟩)), (1, .int .i64 x4), (5, v13), (6, .int .i64 x7)] ∧ Sep w (Blk p1 29 [v8] :: Row 32 k_api_Mail v13 l14 :: Fo) rs15 ∧ (∀ r, r ∈ rs → r ∈ rs15) ∧ rSl k_api_Mail v8 l9 ∈ rs15 ∧ m_cantonref19_Post_Drop_j1 (m_cantonref19_Post_Drop_l1 x4 k1) x7 l9 l14 = some r) ?_ ?_
    ·refine wp_block ?_
     refine wp_seq ?_
     refine wp_region_lit ?_
     refine sv E rfl rfl rfl (x_move E rfl rfl) ?_
     clear a E;intro a E
     refine sv E rfl rfl rfl (x_nil E rfl rfl) ?_
     clear a E;intro a E
     refine sv E rfl rfl rfl (x_fa E rfl rfl (v := .pointer (some ⟨p1, 0, none⟩)) (fa29_0 _ _)) ?_
     clear a E;intro a E
     refine sv E rfl rfl rfl (x_ldB (i := 0) E H rfl rfl rfl rfl Try.underlying27 rfl) ?_
     clear a E;intro a E
     refine sv E rfl rfl rfl (x_move E rfl rfl) ?_
     clear a E;intro a E
     obtain ⟨x18, hx19, hm⟩ := bnd hm
     refine st_ixS E H (wn rfl) rfl rfl rfl rfl rfl hr12 Try.underlying27 sz32 hx19 ?_
     clear E H; clear a; intro q20 a H E
     replace H := H.derive1 (.head _) (rAt (kI .i64) (q20.add 1) x18.To) (fun ok h => k_api_Mail_at1 h)
     refine sv E rfl rfl rfl (x_fa E rfl rfl (fa32_1 _ _)) ?_
     clear a E;intro a E
     refine sv E rfl rfl rfl (x_ldA E H rfl rfl (.head _) Try.underlying3 rfl) ?_
     clear a E;intro a E
     refine sv E rfl rfl rfl (x_move E rfl rfl) ?_
     clear a E;intro a E
     refine sv E rfl rfl rfl (x_bin E rfl rfl rfl rfl) ?_
     clear a E;intro a E
     refine wpList_nil ?_
     refine q_then ?_
     refine wp_if E rfl ?_ ?_
     ·intro hb
      rw [if_t hb] at hm
      clear hb
      refine wp_region_lit ?_
      refine sv E rfl rfl rfl (x_move E rfl rfl) ?_
      clear a E;intro a E
      refine sv E rfl rfl rfl (x_move E rfl rfl) ?_
      clear a E;intro a E
      refine sv E rfl rfl rfl (x_nil E rfl rfl) ?_
      clear a E;intro a E
      refine sv E rfl rfl rfl (x_fa E rfl rfl (v := .pointer (some ⟨p1, 0, none⟩)) (fa29_0 _ _)) ?_
      clear a E;intro a E
      refine sv E rfl rfl rfl (x_ldB (i := 0) E H rfl rfl rfl rfl Try.underlying27 rfl) ?_
      clear a E;intro a E
      refine sv E rfl rfl rfl (x_move E rfl rfl) ?_
      clear a E;intro a E
      obtain ⟨x21, hx22, hm⟩ := bnd hm
      refine st_ixS E H (wn rfl) rfl rfl rfl rfl rfl (.tail _ (.tail _ hr12)) Try.underlying27 sz32 hx22 ?_
      clear E H; clear a; intro q23 a H E
      refine st_ldN E H (wn rfl) rfl rfl rfl rfl (.head _) Try.underlying32 rfl sz32 ?_
      clear E H; clear a; intro u24 a H E
      obtain ⟨_, hcs⟩ := H.rd (.head _)
      obtain rfl := k_api_Mail_open hcs
      clear hcs
      refine st_bsR (e := 32) (d := k_api_Mail) (cs := [.int .i64 x21.From, .int .i64 x21.To, .string x21.Data]) (xs := [x21]) E H (wn rfl) rfl rfl (ps := [(0, .tmp 34)]) (parts := [(0, .agg #[.int .i64 x21.From, .int .i64 x21.To, .string x21.Data])]) rfl (by simp only [List.map]; rw [E.eval (x := .tmp 34) (v := .agg #[.int .i64 x21.From, .int .i64 x21.To, .string x21.Data]) rfl]) (by kernel_rfl) rfl (fun ok hr => (Rows.single (d := k_api_Mail) (cs := [.int .i64 x21.From, .int .i64 x21.To, .string x21.Data]) (x := x21) k_api_Mail_mk)) ?_
      clear E H; clear a; clear w; intro v25 w a H E
      obtain ⟨u27, hx28, hm⟩ := bnd hm
      refine st_append (i := 1) E H (wn rfl) rfl rfl rfl rfl rfl rfl (src_rd (.head _)) Try.underlying27 inf32 rfl (ck_of hx28) rfl ?_
      clear E H; clear a; clear w; intro v26 w a H E
      refine sv E rfl rfl rfl (x_assign E rfl rfl) ?_
      clear a E;intro a E
      refine wpList_nil ?_
      refine q_blk ?_
      refine q_then ?_
      exact ⟨v26, l6 ++ ([x21] : List S_api_Mail), _, ((((E.nil.keep E 6 rfl).keep E 5 rfl).keep E 1 rfl).keep E 0 rfl), H, fun r hr => .tail _ (.tail _ (.tail _ (.tail _ (.tail _ (hs11 r hr))))), (.tail _ (.tail _ (.tail _ (.tail _ (.tail _ hr12))))), hm⟩
     ·intro hb
      rw [if_f hb] at hm
      clear hb
      refine wp_skip ?_
      refine q_blk ?_
      refine q_then ?_
      exact ⟨v5, l6, _, ((((E.nil.keep E 6 rfl).keep E 5 rfl).keep E 1 rfl).keep E 0 rfl), H, fun r hr => .tail _ (.tail _ (hs11 r hr)), (.tail _ (.tail _ hr12)), hm⟩
    ·clear E H hm
     rintro a w ⟨v13, l14, rs15, E, H, hs16, hr17, hm⟩
     unfold m_cantonref19_Post_Drop_j1 at hm
     refine wp_region_lit ?_
     refine sv E rfl rfl rfl (x_move E rfl rfl) ?_
     clear a E;intro a E
     refine sv E rfl rfl rfl (x_bin E rfl rfl rfl rfl) ?_
     clear a E;intro a E
     refine sv E rfl rfl rfl (x_assign E rfl rfl) ?_
     clear a E;intro a E
     refine wpList_nil ?_
     refine q_then ?_
     exact ⟨k1, Nat.lt_succ_self k1, v13, v8, l14, IntKind.i64.wrap (x7 + 1), l9, _, ((((E.nil.keep E 6 rfl).keep E 5 rfl).keep E 1 rfl).keep E 0 rfl), H, hs16, hr17, hm⟩
   ·intro hb
    rw [if_f hb] at hm
    clear hb
    refine wp_exit ?_
    refine q_thenX ?_
    refine q_thenX ?_
    refine q_hit ?_
    refine q_then ?_
    refine wp_seq ?_
    refine wp_region_lit ?_
    refine sv E rfl rfl rfl (x_move E rfl rfl) ?_
    clear a E;intro a E
    refine sv E rfl rfl rfl (x_nil E rfl rfl) ?_
    clear a E;intro a E
    refine sv E rfl rfl rfl (x_fa E rfl rfl (v := .pointer (some ⟨p1, 0, none⟩)) (fa29_0 _ _)) ?_
    clear a E;intro a E
    refine sv E rfl rfl rfl (x_ldB (i := 0) E H rfl rfl rfl rfl Try.underlying27 rfl) ?_
    clear a E;intro a E
    refine sv E rfl rfl rfl (x_lenS E H rfl rfl hr12 Try.underlying27) ?_
    clear a E;intro a E
    refine sv E rfl rfl rfl (x_move E rfl rfl) ?_
    clear a E;intro a E
    refine sv E rfl rfl rfl (x_lenR (i := 1) E H rfl rfl rfl Try.underlying27) ?_
    clear a E;intro a E
    refine sv E rfl rfl rfl (x_bin E rfl rfl rfl rfl) ?_
    clear a E;intro a E
    refine sv E rfl rfl rfl (x_assign E rfl rfl) ?_
    clear a E;intro a E
    refine wpList_nil ?_
    refine q_then ?_
    refine wp_seq ?_
    refine wp_region_lit ?_
    refine sv E rfl rfl rfl (x_move E rfl rfl) ?_
    clear a E;intro a E
    refine sv E rfl rfl rfl (x_move E rfl rfl) ?_
    clear a E;intro a E
    refine sv E rfl rfl rfl (x_nil E rfl rfl) ?_
    clear a E;intro a E
    refine sv E rfl rfl rfl (x_fa E rfl rfl (v := .pointer (some ⟨p1, 0, none⟩)) (fa29_0 _ _)) ?_
    clear a E;intro a E
    obtain ⟨q29, x30, rfl⟩ := H.rowform (i := 1) rfl
    refine st_st (i := 0) E H (wn rfl) rfl (us := [(.slice q29 l6.length x30)]) rfl rfl rfl rfl rfl sz27 rfl rfl ?_
    clear H; clear w; intro w H
    replace H : Sep w (Blk p1 29 [(.slice q29 l6.length x30)] :: Row 32 k_api_Mail (.slice q29 l6.length x30) l6 :: Fo) _ := H
    refine wpList_nil ?_
    refine q_then ?_
    refine wp_seq ?_
    refine wp_region_lit ?_
    refine sv E rfl rfl rfl (x_move E rfl rfl) ?_
    clear a E;intro a E
    refine sv E rfl rfl rfl (x_assign E rfl rfl) ?_
    clear a E;intro a E
    refine wpList_nil ?_
    refine q_then ?_
    refine wp_ret ?_
    refine out1 E rfl rfl ?_
    obtain rfl := Option.some.inj hm
    exact ⟨(.slice q29 l6.length x30), rfl, H.reads (fun r hr => hs11 r hr)⟩
end Go.Cb
