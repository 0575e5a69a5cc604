/- A function of the program, walked: it comes to its plain function. -/
import Derived.Test.YtbjpjbopfhbkmaaT
set_option linter.unusedVariables false
set_option linter.unusedSimpArgs false
namespace Go.Cb
open Go.Proofs Go.RowKit
def m_cantonref02_Put_l1 : Nat → Int → (List Int) → Option (List Int)
  | 0, _, _ => none
  | k1 + 1, x3, l5 =>
    if (decide (x3 > 0)) = true then ((ck ([IntKind.u8.wrap ((IntKind.u8.wrap (x3.tmod 128)) + 128)].length + l5.length ≤ LIM)).bind fun u10 => m_cantonref02_Put_l1 k1 (IntKind.i64.wrap (x3.tdiv 128)) ([IntKind.u8.wrap ((IntKind.u8.wrap (x3.tmod 128)) + 128)] ++ l5)) else (some (l5))
def m_cantonref02_Put (x1 : Int) : Option (List Int) :=
  m_cantonref02_Put_l1 10 (IntKind.i64.wrap (x1.tdiv 128)) [IntKind.u8.wrap (x1.tmod 128)]
set_option maxRecDepth 20000 in
set_option maxHeartbeats 1000000 in
theorem c_cantonref02_Put {w : World} {Fo : List Ob} {rs : List Rp} (x1 : Int) (H : Sep w (Fo) rs) {r : (List Int)} (hm : m_cantonref02_Put x1 = some r) :
    Calls Try.prog 53 [.int .i64 x1].toArray w (Ret fun v w' => ∃ (v5001 : Value), v5001 = v ∧ Sep w' (Row 5 (kI .u8) v5001 r :: Fo) (rs)) := by
  unfold m_cantonref02_Put at hm
  refine enter Try.func53 rfl Try.ntmps53 rfl fun a E => ?_
  simp only [enum, Nat.reduceAdd] at E
  refine wp_seq ?_
  refine wp_region_lit ?_
  refine st_val E (wn rfl) rfl rfl (x_assign E rfl rfl) ?_
  clear E; clear a; intro a E
  refine wpList_nil ?_
  refine q_then ?_
  refine wp_seq ?_
  refine wp_region_lit ?_
  refine st_val E (wn rfl) rfl rfl (x_move E rfl rfl) ?_
  clear E; clear a; intro a E
  refine st_val E (wn rfl) rfl rfl (x_rem E rfl rfl rfl (by decide)) ?_
  clear E; clear a; intro a E
  refine st_val E (wn rfl) rfl rfl (x_conv E rfl rfl (v := .int .u8 (IntKind.u8.wrap (x1.tmod 128))) (by kernel_rfl)) ?_
  clear E; clear a; intro a E
  refine st_bsO (e := 5) (d := (kI .u8)) (cs := [.int .u8 (IntKind.u8.wrap (x1.tmod 128))]) (xs := [IntKind.u8.wrap (x1.tmod 128)]) E H (wn rfl) rfl rfl (ps := [(0, .tmp 6)]) (parts := [(0, .int .u8 (IntKind.u8.wrap (x1.tmod 128)))]) rfl (by simp only [List.map]; rw [E.eval (x := .tmp 6) (v := .int .u8 (IntKind.u8.wrap (x1.tmod 128))) rfl]) (by kernel_rfl) rfl rfl (fun ok hr => (Rows.single (x := IntKind.u8.wrap (x1.tmod 128)) rfl)) ?_
  clear E H; clear a; clear w; intro v2 w a H E
  refine st_val E (wn rfl) rfl rfl (x_assign E rfl rfl) ?_
  clear E; clear a; intro a E
  refine wpList_nil ?_
  refine q_then ?_
  refine wp_seq ?_
  refine wp_seq ?_
  refine wp_region_lit ?_
  refine st_val E (wn rfl) rfl rfl (x_move E rfl rfl) ?_
  clear E; clear a; intro a E
  refine st_val E (wn rfl) rfl rfl (x_quo E rfl rfl rfl (by decide)) ?_
  clear E; clear a; intro a E
  refine st_val E (wn rfl) rfl rfl (x_assign E rfl rfl) ?_
  clear E; clear a; intro a E
  refine wpList_nil ?_
  refine q_then ?_
  refine wp_block ?_
  refine wp_loop_g (fun k1 a w => ∃ (v4 : Value) (x3 : Int) (l5 : (List Int)) (rs6 : List Rp), Env 22 a [(0, .int .i64 x3), (3, v4)] ∧ Sep w (Row 5 (kI .u8) v4 l5 :: Fo) rs6 ∧ (∀ r, r ∈ rs → r ∈ rs6) ∧ m_cantonref02_Put_l1 k1 x3 l5 = some r) (10) ?_ ?_
  · exact ⟨v2, IntKind.i64.wrap (x1.tdiv 128), [IntKind.u8.wrap (x1.tmod 128)], _, ((E.nil.keep E 3 rfl).keep E 0 rfl), H, fun r hr => hr, hm⟩
  · clear E H hm
    rintro k1 a w ⟨v4, x3, l5, rs6, E, H, hs7, hm⟩
    cases k1 with
    | zero => exact (none_some hm rfl).elim
    | succ k1 =>
      unfold m_cantonref02_Put_l1 at hm
      refine wp_seq ?_
      refine wp_seq ?_
      refine wp_region_lit ?_
      refine st_val E (wn rfl) rfl rfl (x_move E rfl rfl) ?_
      clear E; clear a; intro a E
      refine st_val E (wn rfl) rfl rfl (x_bin E rfl rfl rfl rfl) ?_
      clear E; clear a; intro a E
      refine wpList_nil ?_
      refine q_then ?_
      refine wp_if E rfl ?_ ?_
      · intro hb
        rw [if_t hb] at hm
        clear hb
        refine wp_skip ?_
        refine q_then ?_
        refine wp_seq ?_
        refine wp_block ?_
        refine wp_region_lit ?_
        refine st_val E (wn rfl) rfl rfl (x_move E rfl rfl) ?_
        clear E; clear a; intro a E
        refine st_val E (wn rfl) rfl rfl (x_rem E rfl rfl rfl (by decide)) ?_
        clear E; clear a; intro a E
        refine st_val E (wn rfl) rfl rfl (x_conv E rfl rfl (v := .int .u8 (IntKind.u8.wrap (x3.tmod 128))) (by kernel_rfl)) ?_
        clear E; clear a; intro a E
        refine st_val E (wn rfl) rfl rfl (x_bin E rfl rfl rfl rfl) ?_
        clear E; clear a; intro a E
        refine st_bsO (e := 5) (d := (kI .u8)) (cs := [.int .u8 (IntKind.u8.wrap ((IntKind.u8.wrap (x3.tmod 128)) + 128))]) (xs := [IntKind.u8.wrap ((IntKind.u8.wrap (x3.tmod 128)) + 128)]) E H (wn rfl) rfl rfl (ps := [(0, .tmp 17)]) (parts := [(0, .int .u8 (IntKind.u8.wrap ((IntKind.u8.wrap (x3.tmod 128)) + 128)))]) rfl (by simp only [List.map]; rw [E.eval (x := .tmp 17) (v := .int .u8 (IntKind.u8.wrap ((IntKind.u8.wrap (x3.tmod 128)) + 128))) rfl]) (by kernel_rfl) rfl rfl (fun ok hr => (Rows.single (x := IntKind.u8.wrap ((IntKind.u8.wrap (x3.tmod 128)) + 128)) rfl)) ?_
        clear E H; clear a; clear w; intro v8 w a H E
        refine st_val E (wn rfl) rfl rfl (x_move E rfl rfl) ?_
        clear E; clear a; intro a E
        obtain ⟨u10, hx11, hm⟩ := bnd hm
        refine st_append (i := 0) E H (wn rfl) rfl rfl rfl rfl rfl rfl (src_row (i := 1) rfl) Try.underlying46 inf5 rfl (ck_of hx11) rfl ?_
        clear E H; clear a; clear w; intro v9 w a H E
        refine st_val E (wn rfl) rfl rfl (x_assign E rfl rfl) ?_
        clear E; clear a; intro a E
        refine wpList_nil ?_
        refine q_blk ?_
        refine q_then ?_
        refine wp_region_lit ?_
        refine st_val E (wn rfl) rfl rfl (x_move E rfl rfl) ?_
        clear E; clear a; intro a E
        refine st_val E (wn rfl) rfl rfl (x_quo E rfl rfl rfl (by decide)) ?_
        clear E; clear a; intro a E
        refine st_val E (wn rfl) rfl rfl (x_assign E rfl rfl) ?_
        clear E; clear a; intro a E
        refine wpList_nil ?_
        refine q_then ?_
        replace H := H.drop 1
        exact ⟨k1, Nat.lt_succ_self k1, v9, IntKind.i64.wrap (x3.tdiv 128), [IntKind.u8.wrap ((IntKind.u8.wrap (x3.tmod 128)) + 128)] ++ l5, _, ((E.nil.keep E 3 rfl).keep E 0 rfl), H, hs7, hm⟩
      · intro hb
        rw [if_f hb] at hm
        clear hb
        refine wp_exit ?_
        refine q_thenX ?_
        refine q_thenX ?_
        refine q_hit ?_
        refine q_then ?_
        refine wp_seq ?_
        refine wp_region_lit ?_
        refine st_val E (wn rfl) rfl rfl (x_move E rfl rfl) ?_
        clear E; clear a; intro a E
        refine st_val E (wn rfl) rfl rfl (x_assign E rfl rfl) ?_
        clear E; clear a; intro a E
        refine wpList_nil ?_
        refine q_then ?_
        refine wp_ret ?_
        refine out1 E rfl rfl ?_
        obtain rfl := Option.some.inj hm
        exact ⟨v4, rfl, H.reads (fun r hr => hs7 r hr)⟩
end Go.Cb
