/- A function of the program, walked: it comes to its plain function. -/
import Derived.Test.YtbjpjbopfhbkmaaT
import Derived.Test.YtbjpjbopfhbkmaaO8
set_option linter.unusedVariables false
set_option linter.unusedSimpArgs false
namespace Go.Cb
open Go.Proofs Go.RowKit
def m_cantonref19_Same_l1 (l2 : List S_api_Mail) (l4 : List S_api_Mail) : Nat → Int → Option Bool
  | 0, _ => none
  | k1 + 1, x7 =>
    if (decide (x7 < (l2.length : Int))) = true then ((idx l2 x7).bind fun x14 => (idx l4 x7).bind fun x20 => if (!((x14.From == x20.From) && ((x14.To == x20.To) && (sEq x14.Data x20.Data)))) = true then (some (false)) else (m_cantonref19_Same_l1 l2 l4 k1 (IntKind.i64.wrap (x7 + 1)))) else (some (true))
def m_cantonref19_Same (l2 : List S_api_Mail) (l4 : List S_api_Mail) : Option Bool :=
  if ((l2.length : Int) != (l4.length : Int)) = true then (some (false)) else (m_cantonref19_Same_l1 l2 l4 (((l2.length : Int) - 0 : Int).toNat + 1) 0)
set_option maxRecDepth 20000 in
set_option maxHeartbeats 1000000 in
theorem c_cantonref19_Same {w : World} {Fo : List Ob} {rs : List Rp} (v1 : Value) (l2 : List S_api_Mail) (v3 : Value) (l4 : List S_api_Mail) (H : Sep w (Fo) rs) (hr5 : rSl k_api_Mail v1 l2 ∈ rs) (hr6 : rSl k_api_Mail v3 l4 ∈ rs) {r : Bool} (hm : m_cantonref19_Same l2 l4 = some r) :
    Calls Try.prog 26 [v1, v3].toArray w (Ret fun v w' => .bool r = v ∧ Sep w' (Fo) (rs)) := by
 unfold m_cantonref19_Same at hm
 refine enter Try.func26 rfl Try.ntmps26 rfl fun a E => ?_
 simp only [enum, Nat.reduceAdd] at E
 refine wp_seq ?_
 refine wp_region_lit ?_
 refine sv E rfl rfl rfl (x_assign E rfl rfl) ?_
 clear a E;intro a E
 refine wpList_nil ?_
 refine q_then ?_
 refine wp_seq ?_
 refine wp_seq ?_
 refine wp_region_lit ?_
 refine sv E rfl rfl rfl (x_move E rfl rfl) ?_
 clear a E;intro a E
 refine sv E rfl rfl rfl (x_lenS E H rfl rfl hr5 Try.underlying27) ?_
 clear a E;intro a E
 refine sv E rfl rfl rfl (x_move E rfl rfl) ?_
 clear a E;intro a E
 refine sv E rfl rfl rfl (x_lenS E H rfl rfl hr6 Try.underlying27) ?_
 clear a E;intro a E
 refine sv E rfl rfl rfl (x_bin E rfl rfl rfl rfl) ?_
 clear a E;intro a E
 refine wpList_nil ?_
 refine q_then ?_
 refine wp_if E rfl ?_ ?_
 ·intro hb
  rw [if_t hb] at hm
  clear hb
  refine wp_seq ?_
  refine wp_region_lit ?_
  refine sv E rfl rfl rfl (x_assign E rfl rfl) ?_
  clear a E;intro a E
  refine wpList_nil ?_
  refine q_then ?_
  refine wp_ret ?_
  refine q_thenR ?_
  refine out1 E rfl rfl ?_
  obtain rfl := Option.some.inj hm
  exact ⟨rfl, H.reads (fun r hr => hr)⟩
 ·intro hb
  rw [if_f hb] at hm
  clear hb
  refine wp_skip ?_
  refine q_then ?_
  refine wp_seq ?_
  refine wp_seq ?_
  refine wp_region_lit ?_
  refine sv E rfl rfl rfl (x_assign E rfl rfl) ?_
  clear a E;intro a E
  refine wpList_nil ?_
  refine q_then ?_
  refine wp_block ?_
  refine wp_loop_g (fun k1 a w => ∃ (x7 : Int) (rs8 : List Rp), Env 26 a [(0, v1), (1, v3), (5, .int .i64 x7)] ∧ Sep w (Fo) rs8 ∧ (∀ r, r ∈ rs → r ∈ rs8) ∧ rSl k_api_Mail v1 l2 ∈ rs8 ∧ rSl k_api_Mail v3 l4 ∈ rs8 ∧ m_cantonref19_Same_l1 l2 l4 k1 x7 = some r) (((l2.length : Int) - 0 : Int).toNat + 1) ?_ ?_
  ·exact ⟨0, _, (((E.nil.keep E 5 rfl).keep E 1 rfl).keep E 0 rfl), H, fun r hr => hr, hr5, hr6, hm⟩
  ·clear E H hm
   rintro k1 a w ⟨x7, rs8, E, H, hs9, hr10, hr11, hm⟩
   cases k1 with
   | zero => exact (none_some hm rfl).elim
   | succ k1 =>
    unfold m_cantonref19_Same_l1 at hm
    refine wp_seq ?_
    refine wp_seq ?_
    refine wp_region_lit ?_
    refine sv E rfl rfl rfl (x_move E rfl rfl) ?_
    clear a E;intro a E
    refine sv E rfl rfl rfl (x_move E rfl rfl) ?_
    clear a E;intro a E
    refine sv E rfl rfl rfl (x_lenS E H rfl rfl hr10 Try.underlying27) ?_
    clear a E;intro a E
    refine sv E rfl rfl rfl (x_bin E rfl rfl rfl rfl) ?_
    clear a E;intro a E
    refine wpList_nil ?_
    refine q_then ?_
    refine wp_if E rfl ?_ ?_
    ·intro hb
     rw [if_t hb] at hm
     clear hb
     refine wp_skip ?_
     refine q_then ?_
     refine wp_seq ?_
     refine wp_block ?_
     refine wp_seq ?_
     obtain ⟨u12, H⟩ := H.raw hr10
     obtain ⟨u13, H⟩ := H.raw (.tail _ hr11)
     replace H : Sep w (Fo) (rRow k_api_Mail v3 l4 u13 :: rRow k_api_Mail v1 l2 u12 :: rs8) := H
     have hI : Still [] [rRow k_api_Mail v1 l2 u12, rRow k_api_Mail v3 l4 u13] { w with drawn := w.drawn + 1 } := ⟨_, _, H.kept (Kp.drawn _ w _), (subO_nil), (sub_cons (.tail _ (.head _)) (sub_cons (.head _) (sub_nil)))⟩
     refine wp_draw _ [(0, 0), (1, 0), (2, 0), (3, 0), (4, 0), (5, 0), (6, 0), (7, 0), (8, 0)] mixedOk (by kernel_rfl) (fun _ _ _ h => False.elim h.2) hI ?_
     replace H := H.kept (Kp.drawn _ w (w.drawn + 1))
     generalize ({ w with drawn := w.drawn + 1 } : World) = w at H hI ⊢
     replace hI : ∃ W, Still [] [rRow k_api_Mail v1 l2 u12, rRow k_api_Mail v3 l4 u13] W := ⟨_, hI⟩
     obtain ⟨W0, hI⟩ := hI
     refine fr_val E rfl (wn rfl) rfl rfl (fun w hW => (x_move E rfl rfl)) ?_
     clear a E;intro a E
     refine fr_val E rfl (wn rfl) rfl rfl (fun w hW => (x_move E rfl rfl)) ?_
     clear a E;intro a E
     obtain ⟨x14, hx15, hm⟩ := bnd hm
     obtain ⟨q16, u19, hx17, hx18⟩ := dr_ixW (P := Try.prog) (k := .i64) hI (dr_mem (.head _)) Try.underlying27 sz32 hx15
     refine fr_val E rfl (wn rfl) rfl rfl (fun w hW => x_ixA E rfl rfl rfl (hx17 w)) ?_
     clear a E;intro a E
     refine fr_val E rfl (wn rfl) rfl rfl (fun w hW => x_ld E rfl rfl (ir_ldN (cs := [.int .i64 x14.From, .int .i64 x14.To, .string x14.Data]) (DR.ir (dr_at hx18)) (fun _ _ _ h => k_api_Mail_open h) Try.underlying32 rfl sz32 w hW)) ?_
     clear a E;intro a E
     refine fr_val E rfl (wn rfl) rfl rfl (fun w hW => (x_move E rfl rfl)) ?_
     clear a E;intro a E
     refine fr_val E rfl (wn rfl) rfl rfl (fun w hW => (x_move E rfl rfl)) ?_
     clear a E;intro a E
     obtain ⟨x20, hx21, hm⟩ := bnd hm
     obtain ⟨q22, u25, hx23, hx24⟩ := dr_ixW (P := Try.prog) (k := .i64) hI (dr_mem (.tail _ (.head _))) Try.underlying27 sz32 hx21
     refine fr_val E rfl (wn rfl) rfl rfl (fun w hW => x_ixA E rfl rfl rfl (hx23 w)) ?_
     clear a E;intro a E
     refine fr_val E rfl (wn rfl) rfl rfl (fun w hW => x_ld E rfl rfl (ir_ldN (cs := [.int .i64 x20.From, .int .i64 x20.To, .string x20.Data]) (DR.ir (dr_at hx24)) (fun _ _ _ h => k_api_Mail_open h) Try.underlying32 rfl sz32 w hW)) ?_
     clear a E;intro a E
     refine fr_val E rfl (wn rfl) rfl rfl (fun w hW => (x_bin2 E rfl rfl rfl (v := .bool (!((x14.From == x20.From) && ((x14.To == x20.To) && (sEq x14.Data x20.Data))))) (ne_agg egt32 (eq_struct Try.underlying32 sih32 (eqf_cons (by rfl) (by kernel_rfl) (by kernel_rfl) (eq_int Try.underlying3) (eqf_cons (by rfl) (by kernel_rfl) (by kernel_rfl) (eq_int Try.underlying3) (eqf_last (by rfl) (by kernel_rfl) (by kernel_rfl) (eq_string Try.underlying9)))))))) ?_
     clear a E;intro a E
     refine fr_nil ?_
     clear hI
     refine q_then ?_
     refine wp_if E rfl ?_ ?_
     ·intro hb
      rw [if_t hb] at hm
      clear hb
      refine wp_seq ?_
      refine wp_region_lit ?_
      refine sv E rfl rfl rfl (x_assign E rfl rfl) ?_
      clear a E;intro a E
      refine wpList_nil ?_
      refine q_then ?_
      refine wp_ret ?_
      refine q_blkR ?_
      refine q_thenR ?_
      refine q_thenR ?_
      refine q_blkR ?_
      refine q_thenR ?_
      refine out1 E rfl rfl ?_
      obtain rfl := Option.some.inj hm
      exact ⟨rfl, H.reads (fun r hr => .tail _ (.tail _ (hs9 r hr)))⟩
     ·intro hb
      rw [if_f hb] at hm
      clear hb
      refine wp_skip ?_
      refine q_blk ?_
      refine q_then ?_
      refine wp_region_lit ?_
      refine sv E rfl rfl rfl (x_move E rfl rfl) ?_
      clear a E;intro a E
      refine sv E rfl rfl rfl (x_bin E rfl rfl rfl rfl) ?_
      clear a E;intro a E
      refine sv E rfl rfl rfl (x_assign E rfl rfl) ?_
      clear a E;intro a E
      refine wpList_nil ?_
      refine q_then ?_
      exact ⟨k1, Nat.lt_succ_self k1, IntKind.i64.wrap (x7 + 1), _, (((E.nil.keep E 5 rfl).keep E 1 rfl).keep E 0 rfl), H, fun r hr => .tail _ (.tail _ (hs9 r hr)), (.tail _ (.tail _ hr10)), (.tail _ (.tail _ hr11)), hm⟩
    ·intro hb
     rw [if_f hb] at hm
     clear hb
     refine wp_exit ?_
     refine q_thenX ?_
     refine q_thenX ?_
     refine q_hit ?_
     refine q_then ?_
     refine wp_seq ?_
     refine wp_region_lit ?_
     refine sv E rfl rfl rfl (x_assign E rfl rfl) ?_
     clear a E;intro a E
     refine wpList_nil ?_
     refine q_then ?_
     refine wp_ret ?_
     refine out1 E rfl rfl ?_
     obtain rfl := Option.some.inj hm
     exact ⟨rfl, H.reads (fun r hr => hs9 r hr)⟩
end Go.Cb
