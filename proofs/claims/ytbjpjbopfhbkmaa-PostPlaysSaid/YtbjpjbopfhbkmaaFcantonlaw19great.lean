/- A function of the program, walked: it comes to its plain function. -/
import Derived.Test.YtbjpjbopfhbkmaaT
import Derived.Test.YtbjpjbopfhbkmaaO8
set_option linter.unusedVariables false
set_option linter.unusedSimpArgs false
namespace Go.Cb
open Go.Proofs Go.RowKit
def m_cantonlaw19_great_j1 (l2 : List S_cantonlaw19_Op) (x4 : Int) : Option Bool :=
  if (decide (x4 ≥ 20000)) = true then (some (true)) else (some (decide ((l2.length : Int) > 900)))
def m_cantonlaw19_great_l1 (l2 : List S_cantonlaw19_Op) : Nat → Int → Int → Option Bool
  | 0, _, _ => none
  | k1 + 1, x9, x10 =>
    if (decide (x10 < (l2.length : Int))) = true then (if (decide (x9 < 20000)) = true then ((idx l2 x10).bind fun x15 => m_cantonlaw19_great_l1 l2 k1 (IntKind.i64.wrap (x9 + (min (x15.M.Data.size : Int) 20000))) (IntKind.i64.wrap (x10 + 1))) else (m_cantonlaw19_great_j1 l2 x9)) else (m_cantonlaw19_great_j1 l2 x9)
def m_cantonlaw19_great (l2 : List S_cantonlaw19_Op) : Option Bool :=
  m_cantonlaw19_great_l1 l2 20002 (l2.length : Int) 0
set_option maxRecDepth 20000 in
set_option maxHeartbeats 1000000 in
theorem c_cantonlaw19_great {w : World} {Fo : List Ob} {rs : List Rp} (v1 : Value) (l2 : List S_cantonlaw19_Op) (H : Sep w (Fo) rs) (hr3 : rSl k_cantonlaw19_Op v1 l2 ∈ rs) {r : Bool} (hm : m_cantonlaw19_great l2 = some r) :
    Calls Try.prog 16 [v1].toArray w (Ret fun v w' => .bool r = v ∧ Sep w' (Fo) (rs)) := by
 unfold m_cantonlaw19_great at hm
 refine enter Try.func16 rfl Try.ntmps16 rfl fun a E => ?_
 simp only [enum, Nat.reduceAdd] at E
 refine wp_seq ?_
 refine wp_region_lit ?_
 refine sv E rfl rfl rfl (x_assign E rfl rfl) ?_
 clear a E;intro a E
 refine wpList_nil ?_
 refine q_then ?_
 refine wp_seq ?_
 refine wp_region_lit ?_
 refine sv E rfl rfl rfl (x_move E rfl rfl) ?_
 clear a E;intro a E
 refine sv E rfl rfl rfl (x_lenS E H rfl rfl hr3 Try.underlying22) ?_
 clear a E;intro a E
 refine sv E rfl rfl rfl (x_assign E rfl rfl) ?_
 clear a E;intro a E
 refine wpList_nil ?_
 refine q_then ?_
 refine wp_seq_cut (fun a w => ∃ (x4 : Int) (rs5 : List Rp), Env 34 a [(0, v1), (3, .int .i64 x4)] ∧ Sep w (Fo) rs5 ∧ (∀ r, r ∈ rs → r ∈ rs5) ∧ rSl k_cantonlaw19_Op v1 l2 ∈ rs5 ∧ m_cantonlaw19_great_j1 l2 x4 = some r) ?_ ?_
 ·refine wp_seq ?_
  refine wp_region_lit ?_
  refine sv E rfl rfl rfl (x_assign E rfl rfl) ?_
  clear a E;intro a E
  refine wpList_nil ?_
  refine q_then ?_
  refine wp_block ?_
  refine wp_loop_g (fun k1 a w => ∃ (x9 : Int) (x10 : Int) (rs11 : List Rp), Env 34 a [(0, v1), (3, .int .i64 x9), (4, .int .i64 x10)] ∧ Sep w (Fo) rs11 ∧ (∀ r, r ∈ rs → r ∈ rs11) ∧ rSl k_cantonlaw19_Op v1 l2 ∈ rs11 ∧ m_cantonlaw19_great_l1 l2 k1 x9 x10 = some r) (20002) ?_ ?_
  ·exact ⟨(l2.length : Int), 0, _, (((E.nil.keep E 4 rfl).keep E 3 rfl).keep E 0 rfl), H, fun r hr => hr, hr3, hm⟩
  ·clear E H hm
   rintro k1 a w ⟨x9, x10, rs11, E, H, hs12, hr13, hm⟩
   cases k1 with
   | zero => exact (none_some hm rfl).elim
   | succ k1 =>
    unfold m_cantonlaw19_great_l1 at hm
    refine wp_seq ?_
    refine wp_seq ?_
    refine wp_region_lit ?_
    refine sv E rfl rfl rfl (x_move E rfl rfl) ?_
    clear a E;intro a E
    refine sv E rfl rfl rfl (x_move E rfl rfl) ?_
    clear a E;intro a E
    refine sv E rfl rfl rfl (x_lenS E H rfl rfl hr13 Try.underlying22) ?_
    clear a E;intro a E
    refine sv E rfl rfl rfl (x_bin E rfl rfl rfl rfl) ?_
    clear a E;intro a E
    refine sv E rfl rfl rfl (x_move E rfl rfl) ?_
    clear a E;intro a E
    rcases Bool.eq_false_or_eq_true (decide (x10 < (l2.length : Int))) with hb14 | hb14
    ·rw [if_t hb14] at hm
     refine st_val E (ws' E rfl rfl rfl rfl hb14) rfl rfl (x_move E rfl rfl) ?_
     clear a E;intro a E
     refine st_val E (ws' E rfl rfl rfl rfl hb14) rfl rfl (x_bin E rfl rfl rfl rfl) ?_
     clear a E;intro a E
     refine sv E rfl rfl rfl (x_pickT E rfl rfl hb14 rfl) ?_
     clear a E;intro a E
     refine wpList_nil ?_
     refine q_then ?_
     refine wp_if E rfl ?_ ?_
     ·intro hb
      rw [if_t hb] at hm
      clear hb
      refine wp_skip ?_
      refine q_then ?_
      refine wp_seq ?_
      refine wp_block ?_
      refine wp_region_lit ?_
      refine sv E rfl rfl rfl (x_move E rfl rfl) ?_
      clear a E;intro a E
      refine sv E rfl rfl rfl (x_move E rfl rfl) ?_
      clear a E;intro a E
      refine sv E rfl rfl rfl (x_move E rfl rfl) ?_
      clear a E;intro a E
      obtain ⟨x15, hx16, hm⟩ := bnd hm
      refine st_ixS E H (wn rfl) rfl rfl rfl rfl rfl hr13 Try.underlying22 sz34 hx16 ?_
      clear E H; clear a; intro q17 a H E
      replace H := H.derive1 (.head _) (rAt k_api_Mail (q17.add 1) x15.M) (fun ok h => k_cantonlaw19_Op_at1 h)
      refine sv E rfl rfl rfl (x_fa E rfl rfl (fa34_1 _ _)) ?_
      clear a E;intro a E
      replace H := H.derive1 (.head _) (rAt kS ((q17.add 1).add 2) x15.M.Data) (fun ok h => k_api_Mail_at2 h)
      refine sv E rfl rfl rfl (x_fa E rfl rfl (fa32_2 _ _)) ?_
      clear a E;intro a E
      refine sv E rfl rfl rfl (x_ldA E H rfl rfl (.head _) Try.underlying9 rfl) ?_
      clear a E;intro a E
      refine sv E rfl rfl rfl (x_lenStr E rfl rfl Try.underlying9) ?_
      clear a E;intro a E
      refine sv E rfl rfl rfl (x_min (t := 0) E rfl rfl rfl) ?_
      clear a E;intro a E
      refine sv E rfl rfl rfl (x_bin E rfl rfl rfl rfl) ?_
      clear a E;intro a E
      refine sv E rfl rfl rfl (x_assign E rfl rfl) ?_
      clear a E;intro a E
      refine wpList_nil ?_
      refine q_blk ?_
      refine q_then ?_
      refine wp_region_lit ?_
      refine sv E rfl rfl rfl (x_move E rfl rfl) ?_
      clear a E;intro a E
      refine sv E rfl rfl rfl (x_bin E rfl rfl rfl rfl) ?_
      clear a E;intro a E
      refine sv E rfl rfl rfl (x_assign E rfl rfl) ?_
      clear a E;intro a E
      refine wpList_nil ?_
      refine q_then ?_
      exact ⟨k1, Nat.lt_succ_self k1, IntKind.i64.wrap (x9 + (min (x15.M.Data.size : Int) 20000)), IntKind.i64.wrap (x10 + 1), _, (((E.nil.keep E 4 rfl).keep E 3 rfl).keep E 0 rfl), H, fun r hr => .tail _ (.tail _ (.tail _ (hs12 r hr))), (.tail _ (.tail _ (.tail _ hr13))), hm⟩
     ·intro hb
      rw [if_f hb] at hm
      clear hb
      refine wp_exit ?_
      refine q_thenX ?_
      refine q_thenX ?_
      refine q_hit ?_
      refine q_then ?_
      exact ⟨x9, _, ((E.nil.keep E 3 rfl).keep E 0 rfl), H, hs12, hr13, hm⟩
    ·rw [if_f hb14] at hm
     refine st_no E (wf' E rfl rfl rfl rfl hb14 rfl) rfl rfl ?_
     clear a E;intro a E
     refine st_no E (wf' E rfl rfl rfl rfl hb14 rfl) rfl rfl ?_
     clear a E;intro a E
     refine sv E rfl rfl rfl (x_pickF E rfl rfl hb14 rfl) ?_
     clear a E;intro a E
     refine wpList_nil ?_
     refine q_then ?_
     refine wp_cond_false (E.eval rfl) ?_
     refine wp_exit ?_
     refine q_thenX ?_
     refine q_thenX ?_
     refine q_hit ?_
     refine q_then ?_
     exact ⟨x9, _, ((E.nil.keep E 3 rfl).keep E 0 rfl), H, hs12, hr13, hm⟩
 ·clear E H hm
  rintro a w ⟨x4, rs5, E, H, hs6, hr7, hm⟩
  unfold m_cantonlaw19_great_j1 at hm
  refine wp_seq ?_
  refine wp_region_lit ?_
  refine sv E rfl rfl rfl (x_move E rfl rfl) ?_
  clear a E;intro a E
  refine sv E rfl rfl rfl (x_bin E rfl rfl rfl rfl) ?_
  clear a E;intro a E
  refine sv E rfl rfl rfl (x_move E rfl rfl) ?_
  clear a E;intro a E
  rcases Bool.eq_false_or_eq_true (decide (x4 ≥ 20000)) with hb8 | hb8
  ·rw [if_t hb8] at hm
   refine st_no E (wf' E rfl rfl rfl rfl hb8 rfl) rfl rfl ?_
   clear a E;intro a E
   refine st_no E (wf' E rfl rfl rfl rfl hb8 rfl) rfl rfl ?_
   clear a E;intro a E
   refine st_no E (wf' E rfl rfl rfl rfl hb8 rfl) rfl rfl ?_
   clear a E;intro a E
   refine sv E rfl rfl rfl (x_pickT E rfl rfl hb8 rfl) ?_
   clear a E;intro a E
   refine sv E rfl rfl rfl (x_assign E rfl rfl) ?_
   clear a E;intro a E
   refine wpList_nil ?_
   refine q_then ?_
   refine wp_ret ?_
   refine out1 E rfl rfl ?_
   obtain rfl := Option.some.inj hm
   exact ⟨rfl, H.reads (fun r hr => hs6 r hr)⟩
  ·rw [if_f hb8] at hm
   refine st_val E (ws' E rfl rfl rfl rfl hb8) rfl rfl (x_move E rfl rfl) ?_
   clear a E;intro a E
   refine st_val E (ws' E rfl rfl rfl rfl hb8) rfl rfl (x_lenS E H rfl rfl hr7 Try.underlying22) ?_
   clear a E;intro a E
   refine st_val E (ws' E rfl rfl rfl rfl hb8) rfl rfl (x_bin E rfl rfl rfl rfl) ?_
   clear a E;intro a E
   refine sv E rfl rfl rfl (x_pickF E rfl rfl hb8 rfl) ?_
   clear a E;intro a E
   refine sv E rfl rfl rfl (x_assign E rfl rfl) ?_
   clear a E;intro a E
   refine wpList_nil ?_
   refine q_then ?_
   refine wp_ret ?_
   refine out1 E rfl rfl ?_
   obtain rfl := Option.some.inj hm
   exact ⟨rfl, H.reads (fun r hr => hs6 r hr)⟩
end Go.Cb
