/- A function of the program, walked: it comes to its plain function. -/
import Derived.Test.YtbjpjbopfhbkmaaT
set_option linter.unusedVariables false
set_option linter.unusedSimpArgs false
namespace Go.Cb
open Go.Proofs Go.RowKit
def m_cantonlaw02_Great_l2 (rec_1 : Int → Int → Option Bool) (l2 : List S_cantonlaw02_Item) (x5 : Int) : Nat → Int → Int → Option Bool
  | 0, _, _ => none
  | k2 + 1, x28, x29 =>
    (idx l2 x5).bind fun x33 => if (decide (x29 < (x33.L.length : Int))) = true then (if (decide (x28 < 20000)) = true then ((idx l2 x5).bind fun x38 => (idx x38.L x29).bind fun x42 => m_cantonlaw02_Great_l2 rec_1 l2 x5 k2 (IntKind.i64.wrap (x28 + (min (x42.size : Int) 20000))) (IntKind.i64.wrap (x29 + 1))) else (rec_1 x28 (IntKind.i64.wrap (x5 + 1)))) else (rec_1 x28 (IntKind.i64.wrap (x5 + 1)))
def m_cantonlaw02_Great_l1 (l2 : List S_cantonlaw02_Item) : Nat → Int → Int → Option Bool
  | 0, _, _ => none
  | k1 + 1, x4, x5 =>
    if (decide (x5 < (l2.length : Int))) = true then (if (decide (x4 < 20000)) = true then ((idx l2 x5).bind fun x11 => (idx l2 x5).bind fun x18 => m_cantonlaw02_Great_l2 (m_cantonlaw02_Great_l1 l2 k1) l2 x5 20002 (IntKind.i64.wrap ((IntKind.i64.wrap (x4 + (min (x11.S.size : Int) 20000))) + (x18.L.length : Int))) 0) else (some (decide (x4 ≥ 20000)))) else (some (decide (x4 ≥ 20000)))
def m_cantonlaw02_Great (l2 : List S_cantonlaw02_Item) : Option Bool :=
  m_cantonlaw02_Great_l1 l2 20002 (l2.length : Int) 0
set_option maxRecDepth 20000 in
set_option maxHeartbeats 1000000 in
theorem c_cantonlaw02_Great {w : World} {Fo : List Ob} {rs : List Rp} (v1 : Value) (l2 : List S_cantonlaw02_Item) (H : Sep w (Fo) rs) (hr3 : rSl k_cantonlaw02_Item v1 l2 ∈ rs) {r : Bool} (hm : m_cantonlaw02_Great l2 = some r) :
    Calls Try.prog 37 [v1].toArray w (Ret fun v w' => .bool r = v ∧ Sep w' (Fo) (rs)) := by
  unfold m_cantonlaw02_Great at hm
  refine enter Try.func37 rfl Try.ntmps37 rfl fun a E => ?_
  simp only [enum, Nat.reduceAdd] at E
  refine wp_seq ?_
  refine wp_region_lit ?_
  refine st_val E (wn rfl) rfl rfl (x_assign E rfl rfl) ?_
  clear E; clear a; intro a E
  refine wpList_nil ?_
  refine q_then ?_
  refine wp_seq ?_
  refine wp_region_lit ?_
  refine st_val E (wn rfl) rfl rfl (x_move E rfl rfl) ?_
  clear E; clear a; intro a E
  refine st_val E (wn rfl) rfl rfl (x_lenS E H rfl rfl hr3 Try.underlying63) ?_
  clear E; clear a; intro a E
  refine st_val E (wn rfl) rfl rfl (x_assign E rfl rfl) ?_
  clear E; clear a; intro a E
  refine wpList_nil ?_
  refine q_then ?_
  refine wp_seq ?_
  refine wp_seq ?_
  refine wp_region_lit ?_
  refine st_val E (wn rfl) rfl rfl (x_assign E rfl rfl) ?_
  clear E; clear a; intro a E
  refine wpList_nil ?_
  refine q_then ?_
  refine wp_block ?_
  refine wp_loop_g (fun k1 a w => ∃ (x4 : Int) (x5 : Int) (rs6 : List Rp), Env 62 a [(0, v1), (3, .int .i64 x4), (4, .int .i64 x5)] ∧ Sep w (Fo) rs6 ∧ (∀ r, r ∈ rs → r ∈ rs6) ∧ rSl k_cantonlaw02_Item v1 l2 ∈ rs6 ∧ m_cantonlaw02_Great_l1 l2 k1 x4 x5 = some r) (20002) ?_ ?_
  · exact ⟨(l2.length : Int), 0, _, (((E.nil.keep E 4 rfl).keep E 3 rfl).keep E 0 rfl), H, fun r hr => hr, hr3, hm⟩
  · clear E H hm
    rintro k1 a w ⟨x4, x5, rs6, E, H, hs7, hr8, hm⟩
    cases k1 with
    | zero => exact (none_some hm rfl).elim
    | succ k1 =>
      unfold m_cantonlaw02_Great_l1 at hm
      refine wp_seq ?_
      refine wp_seq ?_
      refine wp_region_lit ?_
      refine st_val E (wn rfl) rfl rfl (x_move E rfl rfl) ?_
      clear E; clear a; intro a E
      refine st_val E (wn rfl) rfl rfl (x_move E rfl rfl) ?_
      clear E; clear a; intro a E
      refine st_val E (wn rfl) rfl rfl (x_lenS E H rfl rfl hr8 Try.underlying63) ?_
      clear E; clear a; intro a E
      refine st_val E (wn rfl) rfl rfl (x_bin E rfl rfl rfl rfl) ?_
      clear E; clear a; intro a E
      refine st_val E (wn rfl) rfl rfl (x_move E rfl rfl) ?_
      clear E; clear a; intro a E
      rcases Bool.eq_false_or_eq_true (decide (x5 < (l2.length : Int))) with hb9 | hb9
      · rw [if_t hb9] at hm
        refine st_val E (ws' E rfl rfl rfl rfl hb9) rfl rfl (x_move E rfl rfl) ?_
        clear E; clear a; intro a E
        refine st_val E (ws' E rfl rfl rfl rfl hb9) rfl rfl (x_bin E rfl rfl rfl rfl) ?_
        clear E; clear a; intro a E
        refine st_val E (wn rfl) rfl rfl (x_pickT E rfl rfl hb9 rfl) ?_
        clear E; clear a; intro a E
        refine wpList_nil ?_
        refine q_then ?_
        refine wp_if E rfl ?_ ?_
        · intro hb
          rw [if_t hb] at hm
          clear hb
          refine wp_skip ?_
          refine q_then ?_
          refine wp_seq ?_
          refine wp_block ?_
          refine wp_seq ?_
          obtain ⟨u10, H⟩ := H.raw hr8
          replace H : Sep w (Fo) (rRow k_cantonlaw02_Item v1 l2 u10 :: rs6) := H
          have hI : Still [] [rRow k_cantonlaw02_Item v1 l2 u10] { w with drawn := w.drawn + 1 } := ⟨_, _, H.kept (Kp.drawn _ w _), (subO_nil), (sub_cons (.head _) (sub_nil))⟩
          refine wp_draw _ [(0, 0), (1, 0), (2, 0), (3, 0), (4, 0), (5, 0), (6, 0), (7, 0), (8, 0), (9, 0), (10, 0), (11, 0), (12, 0), (13, 0), (14, 0), (15, 0), (16, 2)] mixedOk (by kernel_rfl) (fun _ _ _ h => False.elim h.2) hI ?_
          replace H := H.kept (Kp.drawn _ w (w.drawn + 1))
          generalize ({ w with drawn := w.drawn + 1 } : World) = w at H hI ⊢
          replace hI : ∃ W, Still [] [rRow k_cantonlaw02_Item v1 l2 u10] W := ⟨_, hI⟩
          obtain ⟨W0, hI⟩ := hI
          refine fr_val E rfl (wn rfl) rfl rfl (fun w hW => (x_move E rfl rfl)) ?_
          clear E; clear a; intro a E
          refine fr_val E rfl (wn rfl) rfl rfl (fun w hW => (x_move E rfl rfl)) ?_
          clear E; clear a; intro a E
          refine fr_val E rfl (wn rfl) rfl rfl (fun w hW => (x_move E rfl rfl)) ?_
          clear E; clear a; intro a E
          obtain ⟨x11, hx12, hm⟩ := bnd hm
          obtain ⟨q13, u16, hx14, hx15⟩ := ir_ixW (P := Try.prog) (k := .i64) hI (ir_mem (.head _)) Try.underlying63 sz70 hx12
          refine fr_val E rfl (wn rfl) rfl rfl (fun w hW => x_ixA E rfl rfl rfl (hx14 w)) ?_
          clear E; clear a; intro a E
          have hx17 := ir_fld hx15 (fun _ _ _ h => k_cantonlaw02_Item_aw2 h)
          refine fr_val E rfl (wn rfl) rfl rfl (fun w hW => x_fa E rfl rfl (fa70_2 _ _)) ?_
          clear E; clear a; intro a E
          refine fr_val E rfl (wn rfl) rfl rfl (fun w hW => x_ld E rfl rfl (ir_ld (IR.imp hx17 rAw_at) Try.underlying9 rfl w hW)) ?_
          clear E; clear a; intro a E
          refine fr_val E rfl (wn rfl) rfl rfl (fun w hW => (x_lenStr E rfl rfl Try.underlying9)) ?_
          clear E; clear a; intro a E
          refine fr_val E rfl (wn rfl) rfl rfl (fun w hW => (x_min (t := 0) E rfl rfl rfl)) ?_
          clear E; clear a; intro a E
          refine fr_val E rfl (wn rfl) rfl rfl (fun w hW => (x_bin E rfl rfl rfl rfl)) ?_
          clear E; clear a; intro a E
          refine fr_val E rfl (wn rfl) rfl rfl (fun w hW => (x_move E rfl rfl)) ?_
          clear E; clear a; intro a E
          refine fr_val E rfl (wn rfl) rfl rfl (fun w hW => (x_move E rfl rfl)) ?_
          clear E; clear a; intro a E
          obtain ⟨x18, hx19, hm⟩ := bnd hm
          obtain ⟨q20, u23, hx21, hx22⟩ := ir_ixW (P := Try.prog) (k := .i64) hI (ir_mem (.head _)) Try.underlying63 sz70 hx19
          refine fr_val E rfl (wn rfl) rfl rfl (fun w hW => x_ixA E rfl rfl rfl (hx21 w)) ?_
          clear E; clear a; intro a E
          have hx24 := ir_fld hx22 (fun _ _ _ h => k_cantonlaw02_Item_aw3 h)
          refine fr_val E rfl (wn rfl) rfl rfl (fun w hW => x_fa E rfl rfl (fa70_3 _ _)) ?_
          clear E; clear a; intro a E
          obtain ⟨v25, hx26, hx27⟩ := ir_ldL (P := Try.prog) hI hx24 Try.underlying68 rfl
          refine fr_val E rfl (wn rfl) rfl rfl (fun w hW => x_ld E rfl rfl (hx26 w hW)) ?_
          clear E; clear a; intro a E
          refine fr_val E rfl (wn rfl) rfl rfl (fun w hW => x_lenB E rfl rfl (ir_len hx27 Try.underlying68 w hW)) ?_
          clear E; clear a; intro a E
          refine fr_val E rfl (wn rfl) rfl rfl (fun w hW => (x_bin E rfl rfl rfl rfl)) ?_
          clear E; clear a; intro a E
          refine fr_tail rfl ?_
          refine st_val E (wn rfl) rfl rfl (x_assign E rfl rfl) ?_
          clear E; clear a; intro a E
          refine wpList_nil ?_
          refine q_then ?_
          refine fr_nil ?_
          clear hI
          refine q_then ?_
          refine wp_seq ?_
          refine wp_region_lit ?_
          refine st_val E (wn rfl) rfl rfl (x_assign E rfl rfl) ?_
          clear E; clear a; intro a E
          refine wpList_nil ?_
          refine q_then ?_
          refine wp_block ?_
          refine wp_loop_g (fun k2 a w => ∃ (x28 : Int) (x29 : Int) (rs30 : List Rp), Env 62 a [(0, v1), (3, .int .i64 x28), (4, .int .i64 x5), (5, .int .i64 x29)] ∧ Sep w (Fo) rs30 ∧ (∀ r, r ∈ rs → r ∈ rs30) ∧ rSl k_cantonlaw02_Item v1 l2 ∈ rs30 ∧ m_cantonlaw02_Great_l2 (m_cantonlaw02_Great_l1 l2 k1) l2 x5 k2 x28 x29 = some r) (20002) ?_ ?_
          · exact ⟨IntKind.i64.wrap ((IntKind.i64.wrap (x4 + (min (x11.S.size : Int) 20000))) + (x18.L.length : Int)), 0, _, ((((E.nil.keep E 5 rfl).keep E 4 rfl).keep E 3 rfl).keep E 0 rfl), H, fun r hr => .tail _ (hs7 r hr), (.tail _ hr8), hm⟩
          · clear E H hm
            rintro k2 a w ⟨x28, x29, rs30, E, H, hs31, hr32, hm⟩
            cases k2 with
            | zero => exact (none_some hm rfl).elim
            | succ k2 =>
              unfold m_cantonlaw02_Great_l2 at hm
              refine wp_seq ?_
              refine wp_seq ?_
              refine wp_region_lit ?_
              refine st_val E (wn rfl) rfl rfl (x_move E rfl rfl) ?_
              clear E; clear a; intro a E
              refine st_val E (wn rfl) rfl rfl (x_move E rfl rfl) ?_
              clear E; clear a; intro a E
              refine st_val E (wn rfl) rfl rfl (x_move E rfl rfl) ?_
              clear E; clear a; intro a E
              obtain ⟨x33, hx34, hm⟩ := bnd hm
              refine st_ixS E H (wn rfl) rfl rfl rfl rfl rfl hr32 Try.underlying63 sz70 hx34 ?_
              clear E H; clear a; intro q35 a H E
              replace H := H.derive1 (.head _) (rAt (kL kS) (q35.add 3) x33.L) (fun ok h => k_cantonlaw02_Item_at3 h)
              refine st_val E (wn rfl) rfl rfl (x_fa E rfl rfl (fa70_3 _ _)) ?_
              clear E; clear a; intro a E
              refine st_ldL E H (wn rfl) rfl rfl rfl rfl (.head _) Try.underlying68 rfl ?_
              clear E H; clear a; intro v36 a H E
              refine st_val E (wn rfl) rfl rfl (x_lenS E H rfl rfl (.head _) Try.underlying68) ?_
              clear E; clear a; intro a E
              refine st_val E (wn rfl) rfl rfl (x_bin E rfl rfl rfl rfl) ?_
              clear E; clear a; intro a E
              refine st_val E (wn rfl) rfl rfl (x_move E rfl rfl) ?_
              clear E; clear a; intro a E
              rcases Bool.eq_false_or_eq_true (decide (x29 < (x33.L.length : Int))) with hb37 | hb37
              · rw [if_t hb37] at hm
                refine st_val E (ws' E rfl rfl rfl rfl hb37) rfl rfl (x_move E rfl rfl) ?_
                clear E; clear a; intro a E
                refine st_val E (ws' E rfl rfl rfl rfl hb37) rfl rfl (x_bin E rfl rfl rfl rfl) ?_
                clear E; clear a; intro a E
                refine st_val E (wn rfl) rfl rfl (x_pickT E rfl rfl hb37 rfl) ?_
                clear E; clear a; intro a E
                refine wpList_nil ?_
                refine q_then ?_
                refine wp_if E rfl ?_ ?_
                · intro hb
                  rw [if_t hb] at hm
                  clear hb
                  refine wp_skip ?_
                  refine q_then ?_
                  refine wp_seq ?_
                  refine wp_block ?_
                  refine wp_region_lit ?_
                  refine st_val E (wn rfl) rfl rfl (x_move E rfl rfl) ?_
                  clear E; clear a; intro a E
                  refine st_val E (wn rfl) rfl rfl (x_move E rfl rfl) ?_
                  clear E; clear a; intro a E
                  refine st_val E (wn rfl) rfl rfl (x_move E rfl rfl) ?_
                  clear E; clear a; intro a E
                  obtain ⟨x38, hx39, hm⟩ := bnd hm
                  refine st_ixS E H (wn rfl) rfl rfl rfl rfl rfl (.tail _ (.tail _ (.tail _ hr32))) Try.underlying63 sz70 hx39 ?_
                  clear E H; clear a; intro q40 a H E
                  replace H := H.derive1 (.head _) (rAt (kL kS) (q40.add 3) x38.L) (fun ok h => k_cantonlaw02_Item_at3 h)
                  refine st_val E (wn rfl) rfl rfl (x_fa E rfl rfl (fa70_3 _ _)) ?_
                  clear E; clear a; intro a E
                  refine st_ldL E H (wn rfl) rfl rfl rfl rfl (.head _) Try.underlying68 rfl ?_
                  clear E H; clear a; intro v41 a H E
                  refine st_val E (wn rfl) rfl rfl (x_move E rfl rfl) ?_
                  clear E; clear a; intro a E
                  obtain ⟨x42, hx43, hm⟩ := bnd hm
                  refine st_ixS E H (wn rfl) rfl rfl rfl rfl rfl (.head _) Try.underlying68 sz9 hx43 ?_
                  clear E H; clear a; intro q44 a H E
                  refine st_val E (wn rfl) rfl rfl (x_ldA E H rfl rfl (.head _) Try.underlying9 rfl) ?_
                  clear E; clear a; intro a E
                  refine st_val E (wn rfl) rfl rfl (x_lenStr E rfl rfl Try.underlying9) ?_
                  clear E; clear a; intro a E
                  refine st_val E (wn rfl) rfl rfl (x_min (t := 0) E rfl rfl rfl) ?_
                  clear E; clear a; intro a E
                  refine st_val E (wn rfl) rfl rfl (x_bin E rfl rfl rfl rfl) ?_
                  clear E; clear a; intro a E
                  refine st_val E (wn rfl) rfl rfl (x_assign E rfl rfl) ?_
                  clear E; clear a; intro a E
                  refine wpList_nil ?_
                  refine q_blk ?_
                  refine q_then ?_
                  refine wp_region_lit ?_
                  refine st_val E (wn rfl) rfl rfl (x_move E rfl rfl) ?_
                  clear E; clear a; intro a E
                  refine st_val E (wn rfl) rfl rfl (x_bin E rfl rfl rfl rfl) ?_
                  clear E; clear a; intro a E
                  refine st_val E (wn rfl) rfl rfl (x_assign E rfl rfl) ?_
                  clear E; clear a; intro a E
                  refine wpList_nil ?_
                  refine q_then ?_
                  exact ⟨k2, Nat.lt_succ_self k2, IntKind.i64.wrap (x28 + (min (x42.size : Int) 20000)), IntKind.i64.wrap (x29 + 1), _, ((((E.nil.keep E 5 rfl).keep E 4 rfl).keep E 3 rfl).keep E 0 rfl), H, fun r hr => .tail _ (.tail _ (.tail _ (.tail _ (.tail _ (.tail _ (.tail _ (hs31 r hr))))))), (.tail _ (.tail _ (.tail _ (.tail _ (.tail _ (.tail _ (.tail _ hr32))))))), hm⟩
                · intro hb
                  rw [if_f hb] at hm
                  clear hb
                  refine wp_exit ?_
                  refine q_thenX ?_
                  refine q_thenX ?_
                  refine q_hit ?_
                  refine q_blk ?_
                  refine q_then ?_
                  refine wp_region_lit ?_
                  refine st_val E (wn rfl) rfl rfl (x_move E rfl rfl) ?_
                  clear E; clear a; intro a E
                  refine st_val E (wn rfl) rfl rfl (x_bin E rfl rfl rfl rfl) ?_
                  clear E; clear a; intro a E
                  refine st_val E (wn rfl) rfl rfl (x_assign E rfl rfl) ?_
                  clear E; clear a; intro a E
                  refine wpList_nil ?_
                  refine q_then ?_
                  exact ⟨k1, Nat.lt_succ_self k1, x28, IntKind.i64.wrap (x5 + 1), _, (((E.nil.keep E 4 rfl).keep E 3 rfl).keep E 0 rfl), H, fun r hr => .tail _ (.tail _ (.tail _ (hs31 r hr))), (.tail _ (.tail _ (.tail _ hr32))), hm⟩
              · rw [if_f hb37] at hm
                refine st_no E (wf' E rfl rfl rfl rfl hb37 rfl) rfl rfl ?_
                clear E; clear a; intro a E
                refine st_no E (wf' E rfl rfl rfl rfl hb37 rfl) rfl rfl ?_
                clear E; clear a; intro a E
                refine st_val E (wn rfl) rfl rfl (x_pickF E rfl rfl hb37 rfl) ?_
                clear E; clear a; intro a E
                refine wpList_nil ?_
                refine q_then ?_
                refine wp_cond_false (E.eval rfl) ?_
                refine wp_exit ?_
                refine q_thenX ?_
                refine q_thenX ?_
                refine q_hit ?_
                refine q_blk ?_
                refine q_then ?_
                refine wp_region_lit ?_
                refine st_val E (wn rfl) rfl rfl (x_move E rfl rfl) ?_
                clear E; clear a; intro a E
                refine st_val E (wn rfl) rfl rfl (x_bin E rfl rfl rfl rfl) ?_
                clear E; clear a; intro a E
                refine st_val E (wn rfl) rfl rfl (x_assign E rfl rfl) ?_
                clear E; clear a; intro a E
                refine wpList_nil ?_
                refine q_then ?_
                exact ⟨k1, Nat.lt_succ_self k1, x28, IntKind.i64.wrap (x5 + 1), _, (((E.nil.keep E 4 rfl).keep E 3 rfl).keep E 0 rfl), H, fun r hr => .tail _ (.tail _ (.tail _ (hs31 r hr))), (.tail _ (.tail _ (.tail _ hr32))), hm⟩
        · intro hb
          rw [if_f hb] at hm
          clear hb
          refine wp_exit ?_
          refine q_thenX ?_
          refine q_thenX ?_
          refine q_hit ?_
          refine q_then ?_
          refine wp_seq ?_
          refine wp_region_lit ?_
          refine st_val E (wn rfl) rfl rfl (x_move E rfl rfl) ?_
          clear E; clear a; intro a E
          refine st_val E (wn rfl) rfl rfl (x_bin E rfl rfl rfl rfl) ?_
          clear E; clear a; intro a E
          refine st_val E (wn rfl) rfl rfl (x_assign E rfl rfl) ?_
          clear E; clear a; intro a E
          refine wpList_nil ?_
          refine q_then ?_
          refine wp_ret ?_
          refine out1 E rfl rfl ?_
          obtain rfl := Option.some.inj hm
          exact ⟨rfl, H.reads (fun r hr => hs7 r hr)⟩
      · rw [if_f hb9] at hm
        refine st_no E (wf' E rfl rfl rfl rfl hb9 rfl) rfl rfl ?_
        clear E; clear a; intro a E
        refine st_no E (wf' E rfl rfl rfl rfl hb9 rfl) rfl rfl ?_
        clear E; clear a; intro a E
        refine st_val E (wn rfl) rfl rfl (x_pickF E rfl rfl hb9 rfl) ?_
        clear E; clear a; intro a E
        refine wpList_nil ?_
        refine q_then ?_
        refine wp_cond_false (E.eval rfl) ?_
        refine wp_exit ?_
        refine q_thenX ?_
        refine q_thenX ?_
        refine q_hit ?_
        refine q_then ?_
        refine wp_seq ?_
        refine wp_region_lit ?_
        refine st_val E (wn rfl) rfl rfl (x_move E rfl rfl) ?_
        clear E; clear a; intro a E
        refine st_val E (wn rfl) rfl rfl (x_bin E rfl rfl rfl rfl) ?_
        clear E; clear a; intro a E
        refine st_val E (wn rfl) rfl rfl (x_assign E rfl rfl) ?_
        clear E; clear a; intro a E
        refine wpList_nil ?_
        refine q_then ?_
        refine wp_ret ?_
        refine out1 E rfl rfl ?_
        obtain rfl := Option.some.inj hm
        exact ⟨rfl, H.reads (fun r hr => hs7 r hr)⟩
end Go.Cb
