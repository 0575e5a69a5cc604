/- Functions of the program, walked: each comes to its plain function. -/
import Derived.Test.YtlocfgonplkcoaaKa2
set_option linter.unusedVariables false
set_option linter.unusedSimpArgs false
namespace Go.Cb
open Go.Proofs Go.RowKit
def m_letter_row_api_Node_l1 (l6 : List S_api_Node) : Nat → Int → (List Int) → Bool → Option ((List Int) × Bool)
  | 0, _, _, _ => none
  | k1 + 1, x11, l13, b14 =>
    if (decide (x11 < (l6.length : Int))) = true then ((idx l6 x11).bind fun x18 => (m_letter_writer_node l13 b14 (⟨x18.Path, x18.Data, x18.Version, x18.Turn, x18.Owner⟩ : S_api_Node)).bind fun u23 => m_letter_row_api_Node_l1 l6 k1 (IntKind.i64.wrap (x11 + 1)) u23.1 u23.2) else (some (l13, b14))
def m_letter_row_api_Node (l3 : List Int) (b4 : Bool) (l6 : List S_api_Node) : Option ((List Int) × Bool) :=
  (m_pack_Writer_Num l3 b4 (l6.length : Int)).bind fun u8 => m_letter_row_api_Node_l1 l6 (((l6.length : Int) - 0 : Int).toNat + 1) 0 u8.1 u8.2
set_option maxRecDepth 20000 in
set_option maxHeartbeats 1000000 in
theorem c_letter_row_api_Node {w : World} {Fo : List Ob} {rs : List Rp} (p1 : Nat) (v2 : Value) (l3 : List Int) (b4 : Bool) (v5 : Value) (l6 : List S_api_Node) (H : Sep w (Blk p1 76 [v2, .bool b4] :: Row 5 (kI .u8) v2 l3 :: Fo) rs) (hr7 : rSl k_api_Node v5 l6 ∈ rs) {r : (List Int) × Bool} (hm : m_letter_row_api_Node l3 b4 l6 = some r) :
    Calls Try.prog 54 [.pointer (some ⟨p1, 0, none⟩), v5, .func (.func 55) #[.pointer (some ⟨p1, 0, none⟩)] #[]].toArray w (Ret fun v w' => ∃ (v5001 : Value), .tuple #[] = v ∧ Sep w' (Blk p1 76 [v5001, .bool r.2] :: Row 5 (kI .u8) v5001 r.1 :: Fo) (rs)) := by
  unfold m_letter_row_api_Node at hm
  refine enter Try.func54 rfl Try.ntmps54 rfl fun a E => ?_
  simp only [enum, Nat.reduceAdd] at E
  refine wp_seq ?_
  refine wp_region_lit ?_
  refine st_val E (wn rfl) rfl rfl (x_move E rfl rfl) ?_
  clear E; clear a; intro a E
  refine st_val E (wn rfl) rfl rfl (x_nil E rfl rfl) ?_
  clear E; clear a; intro a E
  refine st_val E (wn rfl) rfl rfl (x_fa E rfl rfl (v := .pointer (some ⟨p1, 0, none⟩)) (fa76_0 _ _)) ?_
  clear E; clear a; intro a E
  refine st_val E (wn rfl) rfl rfl (x_move E rfl rfl) ?_
  clear E; clear a; intro a E
  refine st_val E (wn rfl) rfl rfl (x_lenS E H rfl rfl hr7 Try.underlying42) ?_
  clear E; clear a; intro a E
  replace H : Sep w (Blk p1 76 [v2, .bool b4] :: Row 5 (kI .u8) v2 l3 :: Fo) (rs) := H
  obtain ⟨u8, hx9, hm⟩ := bnd hm
  refine st_call E (wn rfl) rfl rfl (x_call E rfl rfl (cf30 _)) (c_pack_Writer_Num p1 v2 l3 b4 (l6.length : Int) H hx9) ?_
  clear E H; clear a; clear w; rintro _ w ⟨v10, rfl, H⟩ a E
  refine wpList_nil ?_
  refine q_then ?_
  refine wp_seq ?_
  refine wp_region_lit ?_
  refine st_val E (wn rfl) rfl rfl (x_move E rfl rfl) ?_
  clear E; clear a; intro a E
  refine st_val E (wn rfl) rfl rfl (x_lenS E H rfl rfl hr7 Try.underlying42) ?_
  clear E; clear a; intro a E
  refine st_val E (wn rfl) rfl rfl (x_move E rfl rfl) ?_
  clear E; clear a; intro a E
  refine wpList_nil ?_
  refine q_then ?_
  refine wp_block ?_
  refine wp_loop_g (fun k1 a w => ∃ (v12 : Value) (x11 : Int) (l13 : (List Int)) (b14 : Bool) (rs15 : List Rp), Env 24 a [(2, .func (.func 55) #[.pointer (some ⟨p1, 0, none⟩)] #[]), (14, v5), (15, .int .i64 (l6.length : Int)), (16, .int .i64 x11)] ∧ Sep w (Blk p1 76 [v12, .bool b14] :: Row 5 (kI .u8) v12 l13 :: Fo) rs15 ∧ (∀ r, r ∈ rs → r ∈ rs15) ∧ rSl k_api_Node v5 l6 ∈ rs15 ∧ m_letter_row_api_Node_l1 l6 k1 x11 l13 b14 = some r) (((l6.length : Int) - 0 : Int).toNat + 1) ?_ ?_
  · exact ⟨v10, 0, u8.1, u8.2, _, ((((E.nil.keep E 16 rfl).keep E 15 rfl).keep E 14 rfl).keep E 2 rfl), H, fun r hr => hr, hr7, hm⟩
  · clear E H hm
    rintro k1 a w ⟨v12, x11, l13, b14, rs15, E, H, hs16, hr17, hm⟩
    cases k1 with
    | zero => exact (none_some hm rfl).elim
    | succ k1 =>
      unfold m_letter_row_api_Node_l1 at hm
      refine wp_seq ?_
      refine wp_region_lit ?_
      refine st_val E (wn rfl) rfl rfl (x_bin E rfl rfl rfl rfl) ?_
      clear E; clear a; intro a E
      refine wpList_nil ?_
      refine q_then ?_
      refine wp_seq ?_
      refine wp_if E rfl ?_ ?_
      · intro hb
        rw [if_t hb] at hm
        clear hb
        refine wp_skip ?_
        refine q_then ?_
        refine wp_seq ?_
        refine wp_block ?_
        refine wp_seq ?_
        refine wp_region_lit ?_
        obtain ⟨x18, hx19, hm⟩ := bnd hm
        refine st_ixS E H (wn rfl) rfl rfl rfl rfl rfl hr17 Try.underlying42 sz64 hx19 ?_
        clear E H; clear a; intro q20 a H E
        refine st_ldN E H (wn rfl) rfl rfl rfl rfl (.head _) Try.underlying64 rfl sz64 ?_
        clear E H; clear a; intro u21 a H E
        obtain ⟨_, hcs⟩ := H.rd (.head _)
        obtain rfl := k_api_Node_open hcs
        clear hcs
        refine st_alloc E H (wn rfl) rfl rfl (cs := [.string (ByteArray.mk #[]), .string (ByteArray.mk #[]), .int .i64 0, .int .i64 0, .int .i64 0]) rfl (z := .agg #[.string ⟨#[]⟩, .string ⟨#[]⟩, .int .i64 0, .int .i64 0, .int .i64 0]) (by kernel_rfl) rfl ?_
        clear E H; clear a; clear w; intro p22 w a H E
        refine st_st (i := 0) E H (wn rfl) rfl (us := [.string x18.Path, .string x18.Data, .int .i64 x18.Version, .int .i64 x18.Turn, .int .i64 x18.Owner]) rfl rfl rfl rfl rfl sz64 rfl rfl ?_
        clear H; clear w; intro w H
        replace H : Sep w (Blk p22 64 [.string x18.Path, .string x18.Data, .int .i64 x18.Version, .int .i64 x18.Turn, .int .i64 x18.Owner] :: Blk p1 76 [v12, .bool b14] :: Row 5 (kI .u8) v12 l13 :: Fo) _ := H
        refine wpList_nil ?_
        refine q_then ?_
        refine wp_region_lit ?_
        refine st_val E (wn rfl) rfl rfl (x_move E rfl rfl) ?_
        clear E; clear a; intro a E
        refine st_val E (wn rfl) rfl rfl (x_ldBN (i := 0) (us := [.string x18.Path, .string x18.Data, .int .i64 x18.Version, .int .i64 x18.Turn, .int .i64 x18.Owner]) E H rfl rfl rfl rfl Try.underlying64 rfl sz64) ?_
        clear E; clear a; intro a E
        replace H := H.front 0 rfl
        replace H := H.front 2 rfl
        replace H := H.front 2 rfl
        replace H : Sep w (Blk p1 76 [v12, .bool b14] :: Row 5 (kI .u8) v12 l13 :: Blk p22 64 [.string x18.Path, .string x18.Data, .int .i64 x18.Version, .int .i64 x18.Turn, .int .i64 x18.Owner] :: Fo) (rCs k_api_Node [.string x18.Path, .string x18.Data, .int .i64 x18.Version, .int .i64 x18.Turn, .int .i64 x18.Owner] x18 :: rAt k_api_Node q20 x18 :: rs15) := H
        obtain ⟨u23, hx24, hm⟩ := bnd hm
        refine st_call E (wn rfl) rfl rfl (x_callv E rfl rfl rfl (cf55 _)) (c_letter_writer_node p1 v12 l13 b14 (⟨x18.Path, x18.Data, x18.Version, x18.Turn, x18.Owner⟩ : S_api_Node) H hx24) ?_
        clear E H; clear a; clear w; rintro _ w ⟨v25, rfl, H⟩ a E
        refine wpList_nil ?_
        refine q_blk ?_
        refine q_then ?_
        refine wp_region_lit ?_
        refine st_val E (wn rfl) rfl rfl (x_bin E rfl rfl rfl rfl) ?_
        clear E; clear a; intro a E
        refine st_val E (wn rfl) rfl rfl (x_move E rfl rfl) ?_
        clear E; clear a; intro a E
        refine wpList_nil ?_
        refine q_then ?_
        replace H := H.drop 2
        exact ⟨k1, Nat.lt_succ_self k1, v25, IntKind.i64.wrap (x11 + 1), u23.1, u23.2, _, ((((E.nil.keep E 16 rfl).keep E 15 rfl).keep E 14 rfl).keep E 2 rfl), H, fun r hr => .tail _ (.tail _ (hs16 r hr)), (.tail _ (.tail _ hr17)), hm⟩
      · intro hb
        rw [if_f hb] at hm
        clear hb
        refine wp_exit ?_
        refine q_thenX ?_
        refine q_thenX ?_
        refine q_hit ?_
        refine out0 E rfl ?_
        obtain rfl := Option.some.inj hm
        exact ⟨v12, rfl, H.reads (fun r hr => hs16 r hr)⟩
end Go.Cb

set_option linter.unusedVariables false
set_option linter.unusedSimpArgs false
namespace Go.Cb
open Go.Proofs Go.RowKit
def m_letter_writer_result (l3 : List Int) (b4 : Bool) (x5 : S_api_Result) : Option ((List Int) × Bool) :=
  (m_pack_Writer_Num l3 b4 x5.Err).bind fun u11 => (m_pack_Writer_Text u11.1 u11.2 x5.Path).bind fun u14 => (m_pack_Writer_Text u14.1 u14.2 x5.Data).bind fun u17 => (m_pack_Writer_Num u17.1 u17.2 x5.Version).bind fun u20 => (m_pack_Writer_Texts u20.1 u20.2 x5.Names).bind fun u23 => some (u23.1, u23.2)
set_option maxRecDepth 20000 in
set_option maxHeartbeats 1000000 in
theorem c_letter_writer_result {w : World} {Fo : List Ob} {rs : List Rp} (p1 : Nat) (v2 : Value) (l3 : List Int) (b4 : Bool) (x5 : S_api_Result) (v6 : Value) (H : Sep w (Blk p1 76 [v2, .bool b4] :: Row 5 (kI .u8) v2 l3 :: Fo) rs) (hr7 : rSl kS v6 x5.Names ∈ rs) {r : (List Int) × Bool} (hm : m_letter_writer_result l3 b4 x5 = some r) :
    Calls Try.prog 53 [.pointer (some ⟨p1, 0, none⟩), .agg #[.int .i64 x5.Err, .string x5.Path, .string x5.Data, .int .i64 x5.Version, v6]].toArray w (Ret fun v w' => ∃ (v5001 : Value), .tuple #[] = v ∧ Sep w' (Blk p1 76 [v5001, .bool r.2] :: Row 5 (kI .u8) v5001 r.1 :: Fo) (rs)) := by
  unfold m_letter_writer_result at hm
  refine enter Try.func53 rfl Try.ntmps53 rfl fun a E => ?_
  simp only [enum, Nat.reduceAdd] at E
  refine wp_seq ?_
  refine wp_region_lit ?_
  obtain ⟨q9, x10, rfl⟩ := H.slform hr7
  refine st_box E H (wn rfl) rfl rfl (cs := [.int .i64 x5.Err, .string x5.Path, .string x5.Data, .int .i64 x5.Version, (.slice q9 x5.Names.length x10)]) rfl rfl rfl ?_
  clear E H; clear a; clear w; intro p8 w a H E
  refine wpList_nil ?_
  refine q_then ?_
  refine wp_seq ?_
  replace H : Sep w (Blk p8 62 [.int .i64 x5.Err, .string x5.Path, .string x5.Data, .int .i64 x5.Version, (.slice q9 x5.Names.length x10)] :: Blk p1 76 [v2, .bool b4] :: Row 5 (kI .u8) v2 l3 :: Fo) (rs) := H
  have hI : Still [Blk p8 62 [.int .i64 x5.Err, .string x5.Path, .string x5.Data, .int .i64 x5.Version, (.slice q9 x5.Names.length x10)]] [] { w with drawn := w.drawn + 1 } := ⟨_, _, H.kept (Kp.drawn _ w _), (subO_cons (.head _) (subO_nil)), (sub_nil)⟩
  refine wp_draw _ [(0, 0), (1, 0), (2, 0), (3, 0), (4, 0), (5, 1)] mixedOk (by kernel_rfl) (fun _ _ _ h => False.elim h.2) hI ?_
  replace H := H.kept (Kp.drawn _ w (w.drawn + 1))
  generalize ({ w with drawn := w.drawn + 1 } : World) = w at H hI ⊢
  replace hI : ∃ W, Still [Blk p8 62 [.int .i64 x5.Err, .string x5.Path, .string x5.Data, .int .i64 x5.Version, (.slice q9 x5.Names.length x10)]] [] W := ⟨_, hI⟩
  obtain ⟨W0, hI⟩ := hI
  refine fr_val E rfl (wn rfl) rfl rfl (fun w hW => (x_move E rfl rfl)) ?_
  clear E; clear a; intro a E
  refine fr_val E rfl (wn rfl) rfl rfl (fun w hW => (x_nil E rfl rfl)) ?_
  clear E; clear a; intro a E
  refine fr_val E rfl (wn rfl) rfl rfl (fun w hW => x_fa E rfl rfl (v := .pointer (some ⟨p1, 0, none⟩)) (fa76_0 _ _)) ?_
  clear E; clear a; intro a E
  refine fr_val E rfl (wn rfl) rfl rfl (fun w hW => x_fa E rfl rfl (v := .pointer (some ⟨p8, 0, none⟩)) (fa62_0 _ _)) ?_
  clear E; clear a; intro a E
  refine fr_val E rfl (wn rfl) rfl rfl (fun w hW => x_ld E rfl rfl (ib_ld (.head _) rfl Try.underlying30 rfl w hW)) ?_
  clear E; clear a; intro a E
  refine fr_op rfl ?_
  replace H := H.front 0 rfl
  replace H := H.front 2 rfl
  replace H := H.front 2 rfl
  replace H : Sep w (Blk p1 76 [v2, .bool b4] :: Row 5 (kI .u8) v2 l3 :: Blk p8 62 [.int .i64 x5.Err, .string x5.Path, .string x5.Data, .int .i64 x5.Version, (.slice q9 x5.Names.length x10)] :: Fo) (rs) := H
  obtain ⟨u11, hx12, hm⟩ := bnd hm
  refine st_call E (wn rfl) rfl rfl (x_call E rfl rfl (cf30 _)) (c_pack_Writer_Num p1 v2 l3 b4 x5.Err H hx12) ?_
  clear E H; clear a; clear w; rintro _ w ⟨v13, rfl, H⟩ a E
  refine wpList_nil ?_
  refine q_then ?_
  replace H : Sep w (Blk p1 76 [v13, .bool u11.2] :: Row 5 (kI .u8) v13 u11.1 :: Blk p8 62 [.int .i64 x5.Err, .string x5.Path, .string x5.Data, .int .i64 x5.Version, (.slice q9 x5.Names.length x10)] :: Fo) (rs) := H
  refine ⟨⟨_, _, H, (subO_cons (.tail _ (.tail _ (.head _))) (subO_nil)), (sub_nil)⟩, ?_⟩
  refine fr_nil ?_
  clear hI
  refine q_then ?_
  refine wp_seq ?_
  replace H : Sep w (Blk p1 76 [v13, .bool u11.2] :: Row 5 (kI .u8) v13 u11.1 :: Blk p8 62 [.int .i64 x5.Err, .string x5.Path, .string x5.Data, .int .i64 x5.Version, (.slice q9 x5.Names.length x10)] :: Fo) (rs) := H
  have hI : Still [Blk p8 62 [.int .i64 x5.Err, .string x5.Path, .string x5.Data, .int .i64 x5.Version, (.slice q9 x5.Names.length x10)]] [] { w with drawn := w.drawn + 1 } := ⟨_, _, H.kept (Kp.drawn _ w _), (subO_cons (.tail _ (.tail _ (.head _))) (subO_nil)), (sub_nil)⟩
  refine wp_draw _ [(0, 0), (1, 0), (2, 0), (3, 0), (4, 0), (5, 1)] mixedOk (by kernel_rfl) (fun _ _ _ h => False.elim h.2) hI ?_
  replace H := H.kept (Kp.drawn _ w (w.drawn + 1))
  generalize ({ w with drawn := w.drawn + 1 } : World) = w at H hI ⊢
  replace hI : ∃ W, Still [Blk p8 62 [.int .i64 x5.Err, .string x5.Path, .string x5.Data, .int .i64 x5.Version, (.slice q9 x5.Names.length x10)]] [] W := ⟨_, hI⟩
  obtain ⟨W0, hI⟩ := hI
  refine fr_val E rfl (wn rfl) rfl rfl (fun w hW => (x_move E rfl rfl)) ?_
  clear E; clear a; intro a E
  refine fr_val E rfl (wn rfl) rfl rfl (fun w hW => (x_nil E rfl rfl)) ?_
  clear E; clear a; intro a E
  refine fr_val E rfl (wn rfl) rfl rfl (fun w hW => x_fa E rfl rfl (v := .pointer (some ⟨p1, 0, none⟩)) (fa76_0 _ _)) ?_
  clear E; clear a; intro a E
  refine fr_val E rfl (wn rfl) rfl rfl (fun w hW => x_fa E rfl rfl (v := .pointer (some ⟨p8, 1, none⟩)) (fa62_1 _ _)) ?_
  clear E; clear a; intro a E
  refine fr_val E rfl (wn rfl) rfl rfl (fun w hW => x_ld E rfl rfl (ib_ld (.head _) rfl Try.underlying9 rfl w hW)) ?_
  clear E; clear a; intro a E
  refine fr_op rfl ?_
  replace H : Sep w (Blk p1 76 [v13, .bool u11.2] :: Row 5 (kI .u8) v13 u11.1 :: Blk p8 62 [.int .i64 x5.Err, .string x5.Path, .string x5.Data, .int .i64 x5.Version, (.slice q9 x5.Names.length x10)] :: Fo) (rs) := H
  obtain ⟨u14, hx15, hm⟩ := bnd hm
  refine st_call E (wn rfl) rfl rfl (x_call E rfl rfl (cf31 _)) (c_pack_Writer_Text p1 v13 u11.1 u11.2 x5.Path H hx15) ?_
  clear E H; clear a; clear w; rintro _ w ⟨v16, rfl, H⟩ a E
  refine wpList_nil ?_
  refine q_then ?_
  replace H : Sep w (Blk p1 76 [v16, .bool u14.2] :: Row 5 (kI .u8) v16 u14.1 :: Blk p8 62 [.int .i64 x5.Err, .string x5.Path, .string x5.Data, .int .i64 x5.Version, (.slice q9 x5.Names.length x10)] :: Fo) (rs) := H
  refine ⟨⟨_, _, H, (subO_cons (.tail _ (.tail _ (.head _))) (subO_nil)), (sub_nil)⟩, ?_⟩
  refine fr_nil ?_
  clear hI
  refine q_then ?_
  refine wp_seq ?_
  replace H : Sep w (Blk p1 76 [v16, .bool u14.2] :: Row 5 (kI .u8) v16 u14.1 :: Blk p8 62 [.int .i64 x5.Err, .string x5.Path, .string x5.Data, .int .i64 x5.Version, (.slice q9 x5.Names.length x10)] :: Fo) (rs) := H
  have hI : Still [Blk p8 62 [.int .i64 x5.Err, .string x5.Path, .string x5.Data, .int .i64 x5.Version, (.slice q9 x5.Names.length x10)]] [] { w with drawn := w.drawn + 1 } := ⟨_, _, H.kept (Kp.drawn _ w _), (subO_cons (.tail _ (.tail _ (.head _))) (subO_nil)), (sub_nil)⟩
  refine wp_draw _ [(0, 0), (1, 0), (2, 0), (3, 0), (4, 0), (5, 1)] mixedOk (by kernel_rfl) (fun _ _ _ h => False.elim h.2) hI ?_
  replace H := H.kept (Kp.drawn _ w (w.drawn + 1))
  generalize ({ w with drawn := w.drawn + 1 } : World) = w at H hI ⊢
  replace hI : ∃ W, Still [Blk p8 62 [.int .i64 x5.Err, .string x5.Path, .string x5.Data, .int .i64 x5.Version, (.slice q9 x5.Names.length x10)]] [] W := ⟨_, hI⟩
  obtain ⟨W0, hI⟩ := hI
  refine fr_val E rfl (wn rfl) rfl rfl (fun w hW => (x_move E rfl rfl)) ?_
  clear E; clear a; intro a E
  refine fr_val E rfl (wn rfl) rfl rfl (fun w hW => (x_nil E rfl rfl)) ?_
  clear E; clear a; intro a E
  refine fr_val E rfl (wn rfl) rfl rfl (fun w hW => x_fa E rfl rfl (v := .pointer (some ⟨p1, 0, none⟩)) (fa76_0 _ _)) ?_
  clear E; clear a; intro a E
  refine fr_val E rfl (wn rfl) rfl rfl (fun w hW => x_fa E rfl rfl (v := .pointer (some ⟨p8, 2, none⟩)) (fa62_2 _ _)) ?_
  clear E; clear a; intro a E
  refine fr_val E rfl (wn rfl) rfl rfl (fun w hW => x_ld E rfl rfl (ib_ld (.head _) rfl Try.underlying9 rfl w hW)) ?_
  clear E; clear a; intro a E
  refine fr_op rfl ?_
  replace H : Sep w (Blk p1 76 [v16, .bool u14.2] :: Row 5 (kI .u8) v16 u14.1 :: Blk p8 62 [.int .i64 x5.Err, .string x5.Path, .string x5.Data, .int .i64 x5.Version, (.slice q9 x5.Names.length x10)] :: Fo) (rs) := H
  obtain ⟨u17, hx18, hm⟩ := bnd hm
  refine st_call E (wn rfl) rfl rfl (x_call E rfl rfl (cf31 _)) (c_pack_Writer_Text p1 v16 u14.1 u14.2 x5.Data H hx18) ?_
  clear E H; clear a; clear w; rintro _ w ⟨v19, rfl, H⟩ a E
  refine wpList_nil ?_
  refine q_then ?_
  replace H : Sep w (Blk p1 76 [v19, .bool u17.2] :: Row 5 (kI .u8) v19 u17.1 :: Blk p8 62 [.int .i64 x5.Err, .string x5.Path, .string x5.Data, .int .i64 x5.Version, (.slice q9 x5.Names.length x10)] :: Fo) (rs) := H
  refine ⟨⟨_, _, H, (subO_cons (.tail _ (.tail _ (.head _))) (subO_nil)), (sub_nil)⟩, ?_⟩
  refine fr_nil ?_
  clear hI
  refine q_then ?_
  refine wp_seq ?_
  replace H : Sep w (Blk p1 76 [v19, .bool u17.2] :: Row 5 (kI .u8) v19 u17.1 :: Blk p8 62 [.int .i64 x5.Err, .string x5.Path, .string x5.Data, .int .i64 x5.Version, (.slice q9 x5.Names.length x10)] :: Fo) (rs) := H
  have hI : Still [Blk p8 62 [.int .i64 x5.Err, .string x5.Path, .string x5.Data, .int .i64 x5.Version, (.slice q9 x5.Names.length x10)]] [] { w with drawn := w.drawn + 1 } := ⟨_, _, H.kept (Kp.drawn _ w _), (subO_cons (.tail _ (.tail _ (.head _))) (subO_nil)), (sub_nil)⟩
  refine wp_draw _ [(0, 0), (1, 0), (2, 0), (3, 0), (4, 0), (5, 1)] mixedOk (by kernel_rfl) (fun _ _ _ h => False.elim h.2) hI ?_
  replace H := H.kept (Kp.drawn _ w (w.drawn + 1))
  generalize ({ w with drawn := w.drawn + 1 } : World) = w at H hI ⊢
  replace hI : ∃ W, Still [Blk p8 62 [.int .i64 x5.Err, .string x5.Path, .string x5.Data, .int .i64 x5.Version, (.slice q9 x5.Names.length x10)]] [] W := ⟨_, hI⟩
  obtain ⟨W0, hI⟩ := hI
  refine fr_val E rfl (wn rfl) rfl rfl (fun w hW => (x_move E rfl rfl)) ?_
  clear E; clear a; intro a E
  refine fr_val E rfl (wn rfl) rfl rfl (fun w hW => (x_nil E rfl rfl)) ?_
  clear E; clear a; intro a E
  refine fr_val E rfl (wn rfl) rfl rfl (fun w hW => x_fa E rfl rfl (v := .pointer (some ⟨p1, 0, none⟩)) (fa76_0 _ _)) ?_
  clear E; clear a; intro a E
  refine fr_val E rfl (wn rfl) rfl rfl (fun w hW => x_fa E rfl rfl (v := .pointer (some ⟨p8, 3, none⟩)) (fa62_3 _ _)) ?_
  clear E; clear a; intro a E
  refine fr_val E rfl (wn rfl) rfl rfl (fun w hW => x_ld E rfl rfl (ib_ld (.head _) rfl Try.underlying2 rfl w hW)) ?_
  clear E; clear a; intro a E
  refine fr_op rfl ?_
  replace H : Sep w (Blk p1 76 [v19, .bool u17.2] :: Row 5 (kI .u8) v19 u17.1 :: Blk p8 62 [.int .i64 x5.Err, .string x5.Path, .string x5.Data, .int .i64 x5.Version, (.slice q9 x5.Names.length x10)] :: Fo) (rs) := H
  obtain ⟨u20, hx21, hm⟩ := bnd hm
  refine st_call E (wn rfl) rfl rfl (x_call E rfl rfl (cf30 _)) (c_pack_Writer_Num p1 v19 u17.1 u17.2 x5.Version H hx21) ?_
  clear E H; clear a; clear w; rintro _ w ⟨v22, rfl, H⟩ a E
  refine wpList_nil ?_
  refine q_then ?_
  replace H : Sep w (Blk p1 76 [v22, .bool u20.2] :: Row 5 (kI .u8) v22 u20.1 :: Blk p8 62 [.int .i64 x5.Err, .string x5.Path, .string x5.Data, .int .i64 x5.Version, (.slice q9 x5.Names.length x10)] :: Fo) (rs) := H
  refine ⟨⟨_, _, H, (subO_cons (.tail _ (.tail _ (.head _))) (subO_nil)), (sub_nil)⟩, ?_⟩
  refine fr_nil ?_
  clear hI
  refine q_then ?_
  replace H : Sep w (Blk p1 76 [v22, .bool u20.2] :: Row 5 (kI .u8) v22 u20.1 :: Blk p8 62 [.int .i64 x5.Err, .string x5.Path, .string x5.Data, .int .i64 x5.Version, (.slice q9 x5.Names.length x10)] :: Fo) (rs) := H
  have hI : Still [Blk p8 62 [.int .i64 x5.Err, .string x5.Path, .string x5.Data, .int .i64 x5.Version, (.slice q9 x5.Names.length x10)]] [] { w with drawn := w.drawn + 1 } := ⟨_, _, H.kept (Kp.drawn _ w _), (subO_cons (.tail _ (.tail _ (.head _))) (subO_nil)), (sub_nil)⟩
  refine wp_draw _ [(0, 0), (1, 0), (2, 0), (3, 0), (4, 0), (5, 1)] mixedOk (by kernel_rfl) (fun _ _ _ h => False.elim h.2) hI ?_
  replace H := H.kept (Kp.drawn _ w (w.drawn + 1))
  generalize ({ w with drawn := w.drawn + 1 } : World) = w at H hI ⊢
  replace hI : ∃ W, Still [Blk p8 62 [.int .i64 x5.Err, .string x5.Path, .string x5.Data, .int .i64 x5.Version, (.slice q9 x5.Names.length x10)]] [] W := ⟨_, hI⟩
  obtain ⟨W0, hI⟩ := hI
  refine fr_val E rfl (wn rfl) rfl rfl (fun w hW => (x_move E rfl rfl)) ?_
  clear E; clear a; intro a E
  refine fr_val E rfl (wn rfl) rfl rfl (fun w hW => (x_nil E rfl rfl)) ?_
  clear E; clear a; intro a E
  refine fr_val E rfl (wn rfl) rfl rfl (fun w hW => x_fa E rfl rfl (v := .pointer (some ⟨p1, 0, none⟩)) (fa76_0 _ _)) ?_
  clear E; clear a; intro a E
  refine fr_val E rfl (wn rfl) rfl rfl (fun w hW => x_fa E rfl rfl (v := .pointer (some ⟨p8, 4, none⟩)) (fa62_4 _ _)) ?_
  clear E; clear a; intro a E
  refine fr_val E rfl (wn rfl) rfl rfl (fun w hW => x_ld E rfl rfl (ib_ld (.head _) rfl Try.underlying22 rfl w hW)) ?_
  clear E; clear a; intro a E
  refine fr_op rfl ?_
  replace H : Sep w (Blk p1 76 [v22, .bool u20.2] :: Row 5 (kI .u8) v22 u20.1 :: Blk p8 62 [.int .i64 x5.Err, .string x5.Path, .string x5.Data, .int .i64 x5.Version, (.slice q9 x5.Names.length x10)] :: Fo) (rs) := H
  obtain ⟨u23, hx24, hm⟩ := bnd hm
  refine st_call E (wn rfl) rfl rfl (x_call E rfl rfl (cf29 _)) (c_pack_Writer_Texts p1 v22 u20.1 u20.2 (.slice q9 x5.Names.length x10) x5.Names H hr7 hx24) ?_
  clear E H; clear a; clear w; rintro _ w ⟨v25, rfl, H⟩ a E
  refine wpList_nil ?_
  refine q_then ?_
  replace H : Sep w (Blk p1 76 [v25, .bool u23.2] :: Row 5 (kI .u8) v25 u23.1 :: Blk p8 62 [.int .i64 x5.Err, .string x5.Path, .string x5.Data, .int .i64 x5.Version, (.slice q9 x5.Names.length x10)] :: Fo) (rs) := H
  refine ⟨⟨_, _, H, (subO_cons (.tail _ (.tail _ (.head _))) (subO_nil)), (sub_nil)⟩, ?_⟩
  refine fr_nil ?_
  clear hI
  refine out0 E rfl ?_
  replace H := H.drop 2
  obtain rfl := Option.some.inj hm
  exact ⟨v25, rfl, H.reads (fun r hr => hr)⟩
end Go.Cb

set_option linter.unusedVariables false
set_option linter.unusedSimpArgs false
namespace Go.Cb
open Go.Proofs Go.RowKit
def m_letter_row_api_Result_l1 (l6 : List S_api_Result) : Nat → Int → (List Int) → Bool → Option ((List Int) × Bool)
  | 0, _, _, _ => none
  | k1 + 1, x11, l13, b14 =>
    if (decide (x11 < (l6.length : Int))) = true then ((idx l6 x11).bind fun x18 => (m_letter_writer_result l13 b14 (⟨x18.Err, x18.Path, x18.Data, x18.Version, x18.Names⟩ : S_api_Result)).bind fun u26 => m_letter_row_api_Result_l1 l6 k1 (IntKind.i64.wrap (x11 + 1)) u26.1 u26.2) else (some (l13, b14))
def m_letter_row_api_Result (l3 : List Int) (b4 : Bool) (l6 : List S_api_Result) : Option ((List Int) × Bool) :=
  (m_pack_Writer_Num l3 b4 (l6.length : Int)).bind fun u8 => m_letter_row_api_Result_l1 l6 (((l6.length : Int) - 0 : Int).toNat + 1) 0 u8.1 u8.2
set_option maxRecDepth 20000 in
set_option maxHeartbeats 1000000 in
theorem c_letter_row_api_Result {w : World} {Fo : List Ob} {rs : List Rp} (p1 : Nat) (v2 : Value) (l3 : List Int) (b4 : Bool) (v5 : Value) (l6 : List S_api_Result) (H : Sep w (Blk p1 76 [v2, .bool b4] :: Row 5 (kI .u8) v2 l3 :: Fo) rs) (hr7 : rSl k_api_Result v5 l6 ∈ rs) {r : (List Int) × Bool} (hm : m_letter_row_api_Result l3 b4 l6 = some r) :
    Calls Try.prog 52 [.pointer (some ⟨p1, 0, none⟩), v5, .func (.func 53) #[.pointer (some ⟨p1, 0, none⟩)] #[]].toArray w (Ret fun v w' => ∃ (v5001 : Value), .tuple #[] = v ∧ Sep w' (Blk p1 76 [v5001, .bool r.2] :: Row 5 (kI .u8) v5001 r.1 :: Fo) (rs)) := by
  unfold m_letter_row_api_Result at hm
  refine enter Try.func52 rfl Try.ntmps52 rfl fun a E => ?_
  simp only [enum, Nat.reduceAdd] at E
  refine wp_seq ?_
  refine wp_region_lit ?_
  refine st_val E (wn rfl) rfl rfl (x_move E rfl rfl) ?_
  clear E; clear a; intro a E
  refine st_val E (wn rfl) rfl rfl (x_nil E rfl rfl) ?_
  clear E; clear a; intro a E
  refine st_val E (wn rfl) rfl rfl (x_fa E rfl rfl (v := .pointer (some ⟨p1, 0, none⟩)) (fa76_0 _ _)) ?_
  clear E; clear a; intro a E
  refine st_val E (wn rfl) rfl rfl (x_move E rfl rfl) ?_
  clear E; clear a; intro a E
  refine st_val E (wn rfl) rfl rfl (x_lenS E H rfl rfl hr7 Try.underlying41) ?_
  clear E; clear a; intro a E
  replace H : Sep w (Blk p1 76 [v2, .bool b4] :: Row 5 (kI .u8) v2 l3 :: Fo) (rs) := H
  obtain ⟨u8, hx9, hm⟩ := bnd hm
  refine st_call E (wn rfl) rfl rfl (x_call E rfl rfl (cf30 _)) (c_pack_Writer_Num p1 v2 l3 b4 (l6.length : Int) H hx9) ?_
  clear E H; clear a; clear w; rintro _ w ⟨v10, rfl, H⟩ a E
  refine wpList_nil ?_
  refine q_then ?_
  refine wp_seq ?_
  refine wp_region_lit ?_
  refine st_val E (wn rfl) rfl rfl (x_move E rfl rfl) ?_
  clear E; clear a; intro a E
  refine st_val E (wn rfl) rfl rfl (x_lenS E H rfl rfl hr7 Try.underlying41) ?_
  clear E; clear a; intro a E
  refine st_val E (wn rfl) rfl rfl (x_move E rfl rfl) ?_
  clear E; clear a; intro a E
  refine wpList_nil ?_
  refine q_then ?_
  refine wp_block ?_
  refine wp_loop_g (fun k1 a w => ∃ (v12 : Value) (x11 : Int) (l13 : (List Int)) (b14 : Bool) (rs15 : List Rp), Env 24 a [(2, .func (.func 53) #[.pointer (some ⟨p1, 0, none⟩)] #[]), (14, v5), (15, .int .i64 (l6.length : Int)), (16, .int .i64 x11)] ∧ Sep w (Blk p1 76 [v12, .bool b14] :: Row 5 (kI .u8) v12 l13 :: Fo) rs15 ∧ (∀ r, r ∈ rs → r ∈ rs15) ∧ rSl k_api_Result v5 l6 ∈ rs15 ∧ m_letter_row_api_Result_l1 l6 k1 x11 l13 b14 = some r) (((l6.length : Int) - 0 : Int).toNat + 1) ?_ ?_
  · exact ⟨v10, 0, u8.1, u8.2, _, ((((E.nil.keep E 16 rfl).keep E 15 rfl).keep E 14 rfl).keep E 2 rfl), H, fun r hr => hr, hr7, hm⟩
  · clear E H hm
    rintro k1 a w ⟨v12, x11, l13, b14, rs15, E, H, hs16, hr17, hm⟩
    cases k1 with
    | zero => exact (none_some hm rfl).elim
    | succ k1 =>
      unfold m_letter_row_api_Result_l1 at hm
      refine wp_seq ?_
      refine wp_region_lit ?_
      refine st_val E (wn rfl) rfl rfl (x_bin E rfl rfl rfl rfl) ?_
      clear E; clear a; intro a E
      refine wpList_nil ?_
      refine q_then ?_
      refine wp_seq ?_
      refine wp_if E rfl ?_ ?_
      · intro hb
        rw [if_t hb] at hm
        clear hb
        refine wp_skip ?_
        refine q_then ?_
        refine wp_seq ?_
        refine wp_block ?_
        refine wp_seq ?_
        refine wp_region_lit ?_
        obtain ⟨x18, hx19, hm⟩ := bnd hm
        refine st_ixS E H (wn rfl) rfl rfl rfl rfl rfl hr17 Try.underlying41 sz62 hx19 ?_
        clear E H; clear a; intro q20 a H E
        refine st_ldN E H (wn rfl) rfl rfl rfl rfl (.head _) Try.underlying62 rfl sz62 ?_
        clear E H; clear a; intro u21 a H E
        obtain ⟨_, hcs⟩ := H.rd (.head _)
        obtain ⟨v22, rfl, -⟩ := k_api_Result_open hcs
        clear hcs
        replace H := H.derive1 (.head _) (rSl kS v22 x18.Names) (fun ok h => k_api_Result_get1 h)
        refine st_alloc E H (wn rfl) rfl rfl (cs := [.int .i64 0, .string (ByteArray.mk #[]), .string (ByteArray.mk #[]), .int .i64 0, .slice none 0 0]) rfl (z := .agg #[.int .i64 0, .string ⟨#[]⟩, .string ⟨#[]⟩, .int .i64 0, .slice none 0 0]) (by kernel_rfl) rfl ?_
        clear E H; clear a; clear w; intro p23 w a H E
        obtain ⟨q24, x25, rfl⟩ := H.slform (.head _)
        refine st_st (i := 0) E H (wn rfl) rfl (us := [.int .i64 x18.Err, .string x18.Path, .string x18.Data, .int .i64 x18.Version, (.slice q24 x18.Names.length x25)]) rfl rfl rfl rfl rfl sz62 rfl rfl ?_
        clear H; clear w; intro w H
        replace H : Sep w (Blk p23 62 [.int .i64 x18.Err, .string x18.Path, .string x18.Data, .int .i64 x18.Version, (.slice q24 x18.Names.length x25)] :: Blk p1 76 [v12, .bool b14] :: Row 5 (kI .u8) v12 l13 :: Fo) _ := H
        refine wpList_nil ?_
        refine q_then ?_
        refine wp_region_lit ?_
        refine st_val E (wn rfl) rfl rfl (x_move E rfl rfl) ?_
        clear E; clear a; intro a E
        refine st_val E (wn rfl) rfl rfl (x_ldBN (i := 0) (us := [.int .i64 x18.Err, .string x18.Path, .string x18.Data, .int .i64 x18.Version, (.slice q24 x18.Names.length x25)]) E H rfl rfl rfl rfl Try.underlying62 rfl sz62) ?_
        clear E; clear a; intro a E
        replace H := H.front 0 rfl
        replace H := H.front 2 rfl
        replace H := H.front 2 rfl
        replace H : Sep w (Blk p1 76 [v12, .bool b14] :: Row 5 (kI .u8) v12 l13 :: Blk p23 62 [.int .i64 x18.Err, .string x18.Path, .string x18.Data, .int .i64 x18.Version, (.slice q24 x18.Names.length x25)] :: Fo) (rSl kS (.slice q24 x18.Names.length x25) x18.Names :: rCs k_api_Result [.int .i64 x18.Err, .string x18.Path, .string x18.Data, .int .i64 x18.Version, (.slice q24 x18.Names.length x25)] x18 :: rAt k_api_Result q20 x18 :: rs15) := H
        obtain ⟨u26, hx27, hm⟩ := bnd hm
        refine st_call E (wn rfl) rfl rfl (x_callv E rfl rfl rfl (cf53 _)) (c_letter_writer_result p1 v12 l13 b14 (⟨x18.Err, x18.Path, x18.Data, x18.Version, x18.Names⟩ : S_api_Result) (.slice q24 x18.Names.length x25) H (.head _) hx27) ?_
        clear E H; clear a; clear w; rintro _ w ⟨v28, rfl, H⟩ a E
        refine wpList_nil ?_
        refine q_blk ?_
        refine q_then ?_
        refine wp_region_lit ?_
        refine st_val E (wn rfl) rfl rfl (x_bin E rfl rfl rfl rfl) ?_
        clear E; clear a; intro a E
        refine st_val E (wn rfl) rfl rfl (x_move E rfl rfl) ?_
        clear E; clear a; intro a E
        refine wpList_nil ?_
        refine q_then ?_
        replace H := H.drop 2
        exact ⟨k1, Nat.lt_succ_self k1, v28, IntKind.i64.wrap (x11 + 1), u26.1, u26.2, _, ((((E.nil.keep E 16 rfl).keep E 15 rfl).keep E 14 rfl).keep E 2 rfl), H, fun r hr => .tail _ (.tail _ (.tail _ (hs16 r hr))), (.tail _ (.tail _ (.tail _ hr17))), hm⟩
      · intro hb
        rw [if_f hb] at hm
        clear hb
        refine wp_exit ?_
        refine q_thenX ?_
        refine q_thenX ?_
        refine q_hit ?_
        refine out0 E rfl ?_
        obtain rfl := Option.some.inj hm
        exact ⟨v12, rfl, H.reads (fun r hr => hs16 r hr)⟩
end Go.Cb

set_option linter.unusedVariables false
set_option linter.unusedSimpArgs false
namespace Go.Cb
open Go.Proofs Go.RowKit
def m_letter_writer_turn (l3 : List Int) (b4 : Bool) (x5 : S_api_Turn) : Option ((List Int) × Bool) :=
  (m_pack_Writer_Text l3 b4 x5.Dir).bind fun u7 => (m_pack_Writer_Num u7.1 u7.2 x5.Next).bind fun u10 => some (u10.1, u10.2)
set_option maxRecDepth 20000 in
set_option maxHeartbeats 1000000 in
theorem c_letter_writer_turn {w : World} {Fo : List Ob} {rs : List Rp} (p1 : Nat) (v2 : Value) (l3 : List Int) (b4 : Bool) (x5 : S_api_Turn) (H : Sep w (Blk p1 76 [v2, .bool b4] :: Row 5 (kI .u8) v2 l3 :: Fo) rs) {r : (List Int) × Bool} (hm : m_letter_writer_turn l3 b4 x5 = some r) :
    Calls Try.prog 57 [.pointer (some ⟨p1, 0, none⟩), .agg #[.string x5.Dir, .int .i64 x5.Next]].toArray w (Ret fun v w' => ∃ (v5001 : Value), .tuple #[] = v ∧ Sep w' (Blk p1 76 [v5001, .bool r.2] :: Row 5 (kI .u8) v5001 r.1 :: Fo) (rs)) := by
  unfold m_letter_writer_turn at hm
  refine enter Try.func57 rfl Try.ntmps57 rfl fun a E => ?_
  simp only [enum, Nat.reduceAdd] at E
  refine wp_seq ?_
  refine wp_region_lit ?_
  refine st_box E H (wn rfl) rfl rfl (cs := [.string x5.Dir, .int .i64 x5.Next]) rfl rfl rfl ?_
  clear E H; clear a; clear w; intro p6 w a H E
  refine wpList_nil ?_
  refine q_then ?_
  refine wp_seq ?_
  replace H : Sep w (Blk p6 66 [.string x5.Dir, .int .i64 x5.Next] :: Blk p1 76 [v2, .bool b4] :: Row 5 (kI .u8) v2 l3 :: Fo) (rs) := H
  have hI : Still [Blk p6 66 [.string x5.Dir, .int .i64 x5.Next]] [] { w with drawn := w.drawn + 1 } := ⟨_, _, H.kept (Kp.drawn _ w _), (subO_cons (.head _) (subO_nil)), (sub_nil)⟩
  refine wp_draw _ [(0, 0), (1, 0), (2, 0), (3, 0), (4, 0), (5, 1)] mixedOk (by kernel_rfl) (fun _ _ _ h => False.elim h.2) hI ?_
  replace H := H.kept (Kp.drawn _ w (w.drawn + 1))
  generalize ({ w with drawn := w.drawn + 1 } : World) = w at H hI ⊢
  replace hI : ∃ W, Still [Blk p6 66 [.string x5.Dir, .int .i64 x5.Next]] [] W := ⟨_, hI⟩
  obtain ⟨W0, hI⟩ := hI
  refine fr_val E rfl (wn rfl) rfl rfl (fun w hW => (x_move E rfl rfl)) ?_
  clear E; clear a; intro a E
  refine fr_val E rfl (wn rfl) rfl rfl (fun w hW => (x_nil E rfl rfl)) ?_
  clear E; clear a; intro a E
  refine fr_val E rfl (wn rfl) rfl rfl (fun w hW => x_fa E rfl rfl (v := .pointer (some ⟨p1, 0, none⟩)) (fa76_0 _ _)) ?_
  clear E; clear a; intro a E
  refine fr_val E rfl (wn rfl) rfl rfl (fun w hW => x_fa E rfl rfl (v := .pointer (some ⟨p6, 0, none⟩)) (fa66_0 _ _)) ?_
  clear E; clear a; intro a E
  refine fr_val E rfl (wn rfl) rfl rfl (fun w hW => x_ld E rfl rfl (ib_ld (.head _) rfl Try.underlying9 rfl w hW)) ?_
  clear E; clear a; intro a E
  refine fr_op rfl ?_
  replace H := H.front 0 rfl
  replace H := H.front 2 rfl
  replace H := H.front 2 rfl
  replace H : Sep w (Blk p1 76 [v2, .bool b4] :: Row 5 (kI .u8) v2 l3 :: Blk p6 66 [.string x5.Dir, .int .i64 x5.Next] :: Fo) (rs) := H
  obtain ⟨u7, hx8, hm⟩ := bnd hm
  refine st_call E (wn rfl) rfl rfl (x_call E rfl rfl (cf31 _)) (c_pack_Writer_Text p1 v2 l3 b4 x5.Dir H hx8) ?_
  clear E H; clear a; clear w; rintro _ w ⟨v9, rfl, H⟩ a E
  refine wpList_nil ?_
  refine q_then ?_
  replace H : Sep w (Blk p1 76 [v9, .bool u7.2] :: Row 5 (kI .u8) v9 u7.1 :: Blk p6 66 [.string x5.Dir, .int .i64 x5.Next] :: Fo) (rs) := H
  refine ⟨⟨_, _, H, (subO_cons (.tail _ (.tail _ (.head _))) (subO_nil)), (sub_nil)⟩, ?_⟩
  refine fr_nil ?_
  clear hI
  refine q_then ?_
  replace H : Sep w (Blk p1 76 [v9, .bool u7.2] :: Row 5 (kI .u8) v9 u7.1 :: Blk p6 66 [.string x5.Dir, .int .i64 x5.Next] :: Fo) (rs) := H
  have hI : Still [Blk p6 66 [.string x5.Dir, .int .i64 x5.Next]] [] { w with drawn := w.drawn + 1 } := ⟨_, _, H.kept (Kp.drawn _ w _), (subO_cons (.tail _ (.tail _ (.head _))) (subO_nil)), (sub_nil)⟩
  refine wp_draw _ [(0, 0), (1, 0), (2, 0), (3, 0), (4, 0), (5, 1)] mixedOk (by kernel_rfl) (fun _ _ _ h => False.elim h.2) hI ?_
  replace H := H.kept (Kp.drawn _ w (w.drawn + 1))
  generalize ({ w with drawn := w.drawn + 1 } : World) = w at H hI ⊢
  replace hI : ∃ W, Still [Blk p6 66 [.string x5.Dir, .int .i64 x5.Next]] [] W := ⟨_, hI⟩
  obtain ⟨W0, hI⟩ := hI
  refine fr_val E rfl (wn rfl) rfl rfl (fun w hW => (x_move E rfl rfl)) ?_
  clear E; clear a; intro a E
  refine fr_val E rfl (wn rfl) rfl rfl (fun w hW => (x_nil E rfl rfl)) ?_
  clear E; clear a; intro a E
  refine fr_val E rfl (wn rfl) rfl rfl (fun w hW => x_fa E rfl rfl (v := .pointer (some ⟨p1, 0, none⟩)) (fa76_0 _ _)) ?_
  clear E; clear a; intro a E
  refine fr_val E rfl (wn rfl) rfl rfl (fun w hW => x_fa E rfl rfl (v := .pointer (some ⟨p6, 1, none⟩)) (fa66_1 _ _)) ?_
  clear E; clear a; intro a E
  refine fr_val E rfl (wn rfl) rfl rfl (fun w hW => x_ld E rfl rfl (ib_ld (.head _) rfl Try.underlying2 rfl w hW)) ?_
  clear E; clear a; intro a E
  refine fr_op rfl ?_
  replace H : Sep w (Blk p1 76 [v9, .bool u7.2] :: Row 5 (kI .u8) v9 u7.1 :: Blk p6 66 [.string x5.Dir, .int .i64 x5.Next] :: Fo) (rs) := H
  obtain ⟨u10, hx11, hm⟩ := bnd hm
  refine st_call E (wn rfl) rfl rfl (x_call E rfl rfl (cf30 _)) (c_pack_Writer_Num p1 v9 u7.1 u7.2 x5.Next H hx11) ?_
  clear E H; clear a; clear w; rintro _ w ⟨v12, rfl, H⟩ a E
  refine wpList_nil ?_
  refine q_then ?_
  replace H : Sep w (Blk p1 76 [v12, .bool u10.2] :: Row 5 (kI .u8) v12 u10.1 :: Blk p6 66 [.string x5.Dir, .int .i64 x5.Next] :: Fo) (rs) := H
  refine ⟨⟨_, _, H, (subO_cons (.tail _ (.tail _ (.head _))) (subO_nil)), (sub_nil)⟩, ?_⟩
  refine fr_nil ?_
  clear hI
  refine out0 E rfl ?_
  replace H := H.drop 2
  obtain rfl := Option.some.inj hm
  exact ⟨v12, rfl, H.reads (fun r hr => hr)⟩
end Go.Cb

set_option linter.unusedVariables false
set_option linter.unusedSimpArgs false
namespace Go.Cb
open Go.Proofs Go.RowKit
def m_letter_row_api_Turn_l1 (l6 : List S_api_Turn) : Nat → Int → (List Int) → Bool → Option ((List Int) × Bool)
  | 0, _, _, _ => none
  | k1 + 1, x11, l13, b14 =>
    if (decide (x11 < (l6.length : Int))) = true then ((idx l6 x11).bind fun x18 => (m_letter_writer_turn l13 b14 (⟨x18.Dir, x18.Next⟩ : S_api_Turn)).bind fun u23 => m_letter_row_api_Turn_l1 l6 k1 (IntKind.i64.wrap (x11 + 1)) u23.1 u23.2) else (some (l13, b14))
def m_letter_row_api_Turn (l3 : List Int) (b4 : Bool) (l6 : List S_api_Turn) : Option ((List Int) × Bool) :=
  (m_pack_Writer_Num l3 b4 (l6.length : Int)).bind fun u8 => m_letter_row_api_Turn_l1 l6 (((l6.length : Int) - 0 : Int).toNat + 1) 0 u8.1 u8.2
set_option maxRecDepth 20000 in
set_option maxHeartbeats 1000000 in
theorem c_letter_row_api_Turn {w : World} {Fo : List Ob} {rs : List Rp} (p1 : Nat) (v2 : Value) (l3 : List Int) (b4 : Bool) (v5 : Value) (l6 : List S_api_Turn) (H : Sep w (Blk p1 76 [v2, .bool b4] :: Row 5 (kI .u8) v2 l3 :: Fo) rs) (hr7 : rSl k_api_Turn v5 l6 ∈ rs) {r : (List Int) × Bool} (hm : m_letter_row_api_Turn l3 b4 l6 = some r) :
    Calls Try.prog 56 [.pointer (some ⟨p1, 0, none⟩), v5, .func (.func 57) #[.pointer (some ⟨p1, 0, none⟩)] #[]].toArray w (Ret fun v w' => ∃ (v5001 : Value), .tuple #[] = v ∧ Sep w' (Blk p1 76 [v5001, .bool r.2] :: Row 5 (kI .u8) v5001 r.1 :: Fo) (rs)) := by
  unfold m_letter_row_api_Turn at hm
  refine enter Try.func56 rfl Try.ntmps56 rfl fun a E => ?_
  simp only [enum, Nat.reduceAdd] at E
  refine wp_seq ?_
  refine wp_region_lit ?_
  refine st_val E (wn rfl) rfl rfl (x_move E rfl rfl) ?_
  clear E; clear a; intro a E
  refine st_val E (wn rfl) rfl rfl (x_nil E rfl rfl) ?_
  clear E; clear a; intro a E
  refine st_val E (wn rfl) rfl rfl (x_fa E rfl rfl (v := .pointer (some ⟨p1, 0, none⟩)) (fa76_0 _ _)) ?_
  clear E; clear a; intro a E
  refine st_val E (wn rfl) rfl rfl (x_move E rfl rfl) ?_
  clear E; clear a; intro a E
  refine st_val E (wn rfl) rfl rfl (x_lenS E H rfl rfl hr7 Try.underlying43) ?_
  clear E; clear a; intro a E
  replace H : Sep w (Blk p1 76 [v2, .bool b4] :: Row 5 (kI .u8) v2 l3 :: Fo) (rs) := H
  obtain ⟨u8, hx9, hm⟩ := bnd hm
  refine st_call E (wn rfl) rfl rfl (x_call E rfl rfl (cf30 _)) (c_pack_Writer_Num p1 v2 l3 b4 (l6.length : Int) H hx9) ?_
  clear E H; clear a; clear w; rintro _ w ⟨v10, rfl, H⟩ a E
  refine wpList_nil ?_
  refine q_then ?_
  refine wp_seq ?_
  refine wp_region_lit ?_
  refine st_val E (wn rfl) rfl rfl (x_move E rfl rfl) ?_
  clear E; clear a; intro a E
  refine st_val E (wn rfl) rfl rfl (x_lenS E H rfl rfl hr7 Try.underlying43) ?_
  clear E; clear a; intro a E
  refine st_val E (wn rfl) rfl rfl (x_move E rfl rfl) ?_
  clear E; clear a; intro a E
  refine wpList_nil ?_
  refine q_then ?_
  refine wp_block ?_
  refine wp_loop_g (fun k1 a w => ∃ (v12 : Value) (x11 : Int) (l13 : (List Int)) (b14 : Bool) (rs15 : List Rp), Env 24 a [(2, .func (.func 57) #[.pointer (some ⟨p1, 0, none⟩)] #[]), (14, v5), (15, .int .i64 (l6.length : Int)), (16, .int .i64 x11)] ∧ Sep w (Blk p1 76 [v12, .bool b14] :: Row 5 (kI .u8) v12 l13 :: Fo) rs15 ∧ (∀ r, r ∈ rs → r ∈ rs15) ∧ rSl k_api_Turn v5 l6 ∈ rs15 ∧ m_letter_row_api_Turn_l1 l6 k1 x11 l13 b14 = some r) (((l6.length : Int) - 0 : Int).toNat + 1) ?_ ?_
  · exact ⟨v10, 0, u8.1, u8.2, _, ((((E.nil.keep E 16 rfl).keep E 15 rfl).keep E 14 rfl).keep E 2 rfl), H, fun r hr => hr, hr7, hm⟩
  · clear E H hm
    rintro k1 a w ⟨v12, x11, l13, b14, rs15, E, H, hs16, hr17, hm⟩
    cases k1 with
    | zero => exact (none_some hm rfl).elim
    | succ k1 =>
      unfold m_letter_row_api_Turn_l1 at hm
      refine wp_seq ?_
      refine wp_region_lit ?_
      refine st_val E (wn rfl) rfl rfl (x_bin E rfl rfl rfl rfl) ?_
      clear E; clear a; intro a E
      refine wpList_nil ?_
      refine q_then ?_
      refine wp_seq ?_
      refine wp_if E rfl ?_ ?_
      · intro hb
        rw [if_t hb] at hm
        clear hb
        refine wp_skip ?_
        refine q_then ?_
        refine wp_seq ?_
        refine wp_block ?_
        refine wp_seq ?_
        refine wp_region_lit ?_
        obtain ⟨x18, hx19, hm⟩ := bnd hm
        refine st_ixS E H (wn rfl) rfl rfl rfl rfl rfl hr17 Try.underlying43 sz66 hx19 ?_
        clear E H; clear a; intro q20 a H E
        refine st_ldN E H (wn rfl) rfl rfl rfl rfl (.head _) Try.underlying66 rfl sz66 ?_
        clear E H; clear a; intro u21 a H E
        obtain ⟨_, hcs⟩ := H.rd (.head _)
        obtain rfl := k_api_Turn_open hcs
        clear hcs
        refine st_alloc E H (wn rfl) rfl rfl (cs := [.string (ByteArray.mk #[]), .int .i64 0]) rfl (z := .agg #[.string ⟨#[]⟩, .int .i64 0]) (by kernel_rfl) rfl ?_
        clear E H; clear a; clear w; intro p22 w a H E
        refine st_st (i := 0) E H (wn rfl) rfl (us := [.string x18.Dir, .int .i64 x18.Next]) rfl rfl rfl rfl rfl sz66 rfl rfl ?_
        clear H; clear w; intro w H
        replace H : Sep w (Blk p22 66 [.string x18.Dir, .int .i64 x18.Next] :: Blk p1 76 [v12, .bool b14] :: Row 5 (kI .u8) v12 l13 :: Fo) _ := H
        refine wpList_nil ?_
        refine q_then ?_
        refine wp_region_lit ?_
        refine st_val E (wn rfl) rfl rfl (x_move E rfl rfl) ?_
        clear E; clear a; intro a E
        refine st_val E (wn rfl) rfl rfl (x_ldBN (i := 0) (us := [.string x18.Dir, .int .i64 x18.Next]) E H rfl rfl rfl rfl Try.underlying66 rfl sz66) ?_
        clear E; clear a; intro a E
        replace H := H.front 0 rfl
        replace H := H.front 2 rfl
        replace H := H.front 2 rfl
        replace H : Sep w (Blk p1 76 [v12, .bool b14] :: Row 5 (kI .u8) v12 l13 :: Blk p22 66 [.string x18.Dir, .int .i64 x18.Next] :: Fo) (rCs k_api_Turn [.string x18.Dir, .int .i64 x18.Next] x18 :: rAt k_api_Turn q20 x18 :: rs15) := H
        obtain ⟨u23, hx24, hm⟩ := bnd hm
        refine st_call E (wn rfl) rfl rfl (x_callv E rfl rfl rfl (cf57 _)) (c_letter_writer_turn p1 v12 l13 b14 (⟨x18.Dir, x18.Next⟩ : S_api_Turn) H hx24) ?_
        clear E H; clear a; clear w; rintro _ w ⟨v25, rfl, H⟩ a E
        refine wpList_nil ?_
        refine q_blk ?_
        refine q_then ?_
        refine wp_region_lit ?_
        refine st_val E (wn rfl) rfl rfl (x_bin E rfl rfl rfl rfl) ?_
        clear E; clear a; intro a E
        refine st_val E (wn rfl) rfl rfl (x_move E rfl rfl) ?_
        clear E; clear a; intro a E
        refine wpList_nil ?_
        refine q_then ?_
        replace H := H.drop 2
        exact ⟨k1, Nat.lt_succ_self k1, v25, IntKind.i64.wrap (x11 + 1), u23.1, u23.2, _, ((((E.nil.keep E 16 rfl).keep E 15 rfl).keep E 14 rfl).keep E 2 rfl), H, fun r hr => .tail _ (.tail _ (hs16 r hr)), (.tail _ (.tail _ hr17)), hm⟩
      · intro hb
        rw [if_f hb] at hm
        clear hb
        refine wp_exit ?_
        refine q_thenX ?_
        refine q_thenX ?_
        refine q_hit ?_
        refine out0 E rfl ?_
        obtain rfl := Option.some.inj hm
        exact ⟨v12, rfl, H.reads (fun r hr => hs16 r hr)⟩
end Go.Cb

set_option linter.unusedVariables false
set_option linter.unusedSimpArgs false
namespace Go.Cb
open Go.Proofs Go.RowKit
def m_letter_row_int64_l1 (l6 : List Int) : Nat → Int → (List Int) → Bool → Option ((List Int) × Bool)
  | 0, _, _, _ => none
  | k1 + 1, x11, l13, b14 =>
    if (decide (x11 < (l6.length : Int))) = true then ((idx l6 x11).bind fun x18 => (m_pack_Writer_Num l13 b14 x18).bind fun u21 => m_letter_row_int64_l1 l6 k1 (IntKind.i64.wrap (x11 + 1)) u21.1 u21.2) else (some (l13, b14))
def m_letter_row_int64 (l3 : List Int) (b4 : Bool) (l6 : List Int) : Option ((List Int) × Bool) :=
  (m_pack_Writer_Num l3 b4 (l6.length : Int)).bind fun u8 => m_letter_row_int64_l1 l6 (((l6.length : Int) - 0 : Int).toNat + 1) 0 u8.1 u8.2
set_option maxRecDepth 20000 in
set_option maxHeartbeats 1000000 in
theorem c_letter_row_int64 {w : World} {Fo : List Ob} {rs : List Rp} (p1 : Nat) (v2 : Value) (l3 : List Int) (b4 : Bool) (v5 : Value) (l6 : List Int) (H : Sep w (Blk p1 76 [v2, .bool b4] :: Row 5 (kI .u8) v2 l3 :: Fo) rs) (hr7 : rSl (kI .i64) v5 l6 ∈ rs) {r : (List Int) × Bool} (hm : m_letter_row_int64 l3 b4 l6 = some r) :
    Calls Try.prog 62 [.pointer (some ⟨p1, 0, none⟩), v5, .func (.func 30) #[.pointer (some ⟨p1, 0, none⟩)] #[]].toArray w (Ret fun v w' => ∃ (v5001 : Value), .tuple #[] = v ∧ Sep w' (Blk p1 76 [v5001, .bool r.2] :: Row 5 (kI .u8) v5001 r.1 :: Fo) (rs)) := by
  unfold m_letter_row_int64 at hm
  refine enter Try.func62 rfl Try.ntmps62 rfl fun a E => ?_
  simp only [enum, Nat.reduceAdd] at E
  refine wp_seq ?_
  refine wp_region_lit ?_
  refine st_val E (wn rfl) rfl rfl (x_move E rfl rfl) ?_
  clear E; clear a; intro a E
  refine st_val E (wn rfl) rfl rfl (x_nil E rfl rfl) ?_
  clear E; clear a; intro a E
  refine st_val E (wn rfl) rfl rfl (x_fa E rfl rfl (v := .pointer (some ⟨p1, 0, none⟩)) (fa76_0 _ _)) ?_
  clear E; clear a; intro a E
  refine st_val E (wn rfl) rfl rfl (x_move E rfl rfl) ?_
  clear E; clear a; intro a E
  refine st_val E (wn rfl) rfl rfl (x_lenS E H rfl rfl hr7 Try.underlying48) ?_
  clear E; clear a; intro a E
  replace H : Sep w (Blk p1 76 [v2, .bool b4] :: Row 5 (kI .u8) v2 l3 :: Fo) (rs) := H
  obtain ⟨u8, hx9, hm⟩ := bnd hm
  refine st_call E (wn rfl) rfl rfl (x_call E rfl rfl (cf30 _)) (c_pack_Writer_Num p1 v2 l3 b4 (l6.length : Int) H hx9) ?_
  clear E H; clear a; clear w; rintro _ w ⟨v10, rfl, H⟩ a E
  refine wpList_nil ?_
  refine q_then ?_
  refine wp_seq ?_
  refine wp_region_lit ?_
  refine st_val E (wn rfl) rfl rfl (x_move E rfl rfl) ?_
  clear E; clear a; intro a E
  refine st_val E (wn rfl) rfl rfl (x_lenS E H rfl rfl hr7 Try.underlying48) ?_
  clear E; clear a; intro a E
  refine st_val E (wn rfl) rfl rfl (x_move E rfl rfl) ?_
  clear E; clear a; intro a E
  refine wpList_nil ?_
  refine q_then ?_
  refine wp_block ?_
  refine wp_loop_g (fun k1 a w => ∃ (v12 : Value) (x11 : Int) (l13 : (List Int)) (b14 : Bool) (rs15 : List Rp), Env 24 a [(2, .func (.func 30) #[.pointer (some ⟨p1, 0, none⟩)] #[]), (14, v5), (15, .int .i64 (l6.length : Int)), (16, .int .i64 x11)] ∧ Sep w (Blk p1 76 [v12, .bool b14] :: Row 5 (kI .u8) v12 l13 :: Fo) rs15 ∧ (∀ r, r ∈ rs → r ∈ rs15) ∧ rSl (kI .i64) v5 l6 ∈ rs15 ∧ m_letter_row_int64_l1 l6 k1 x11 l13 b14 = some r) (((l6.length : Int) - 0 : Int).toNat + 1) ?_ ?_
  · exact ⟨v10, 0, u8.1, u8.2, _, ((((E.nil.keep E 16 rfl).keep E 15 rfl).keep E 14 rfl).keep E 2 rfl), H, fun r hr => hr, hr7, hm⟩
  · clear E H hm
    rintro k1 a w ⟨v12, x11, l13, b14, rs15, E, H, hs16, hr17, hm⟩
    cases k1 with
    | zero => exact (none_some hm rfl).elim
    | succ k1 =>
      unfold m_letter_row_int64_l1 at hm
      refine wp_seq ?_
      refine wp_region_lit ?_
      refine st_val E (wn rfl) rfl rfl (x_bin E rfl rfl rfl rfl) ?_
      clear E; clear a; intro a E
      refine wpList_nil ?_
      refine q_then ?_
      refine wp_seq ?_
      refine wp_if E rfl ?_ ?_
      · intro hb
        rw [if_t hb] at hm
        clear hb
        refine wp_skip ?_
        refine q_then ?_
        refine wp_seq ?_
        refine wp_block ?_
        refine wp_seq ?_
        refine wp_region_lit ?_
        obtain ⟨x18, hx19, hm⟩ := bnd hm
        refine st_ixS E H (wn rfl) rfl rfl rfl rfl rfl hr17 Try.underlying48 sz2 hx19 ?_
        clear E H; clear a; intro q20 a H E
        refine st_val E (wn rfl) rfl rfl (x_ldA E H rfl rfl (.head _) Try.underlying2 rfl) ?_
        clear E; clear a; intro a E
        refine st_val E (wn rfl) rfl rfl (x_assign E rfl rfl) ?_
        clear E; clear a; intro a E
        refine wpList_nil ?_
        refine q_then ?_
        refine wp_region_lit ?_
        refine st_val E (wn rfl) rfl rfl (x_move E rfl rfl) ?_
        clear E; clear a; intro a E
        refine st_val E (wn rfl) rfl rfl (x_move E rfl rfl) ?_
        clear E; clear a; intro a E
        replace H : Sep w (Blk p1 76 [v12, .bool b14] :: Row 5 (kI .u8) v12 l13 :: Fo) (rAt (kI .i64) q20 x18 :: rs15) := H
        obtain ⟨u21, hx22, hm⟩ := bnd hm
        refine st_call E (wn rfl) rfl rfl (x_callv E rfl rfl rfl (cf30 _)) (c_pack_Writer_Num p1 v12 l13 b14 x18 H hx22) ?_
        clear E H; clear a; clear w; rintro _ w ⟨v23, rfl, H⟩ a E
        refine wpList_nil ?_
        refine q_blk ?_
        refine q_then ?_
        refine wp_region_lit ?_
        refine st_val E (wn rfl) rfl rfl (x_bin E rfl rfl rfl rfl) ?_
        clear E; clear a; intro a E
        refine st_val E (wn rfl) rfl rfl (x_move E rfl rfl) ?_
        clear E; clear a; intro a E
        refine wpList_nil ?_
        refine q_then ?_
        exact ⟨k1, Nat.lt_succ_self k1, v23, IntKind.i64.wrap (x11 + 1), u21.1, u21.2, _, ((((E.nil.keep E 16 rfl).keep E 15 rfl).keep E 14 rfl).keep E 2 rfl), H, fun r hr => .tail _ (hs16 r hr), (.tail _ hr17), hm⟩
      · intro hb
        rw [if_f hb] at hm
        clear hb
        refine wp_exit ?_
        refine q_thenX ?_
        refine q_thenX ?_
        refine q_hit ?_
        refine out0 E rfl ?_
        obtain rfl := Option.some.inj hm
        exact ⟨v12, rfl, H.reads (fun r hr => hs16 r hr)⟩
end Go.Cb

set_option linter.unusedVariables false
set_option linter.unusedSimpArgs false
namespace Go.Cb
open Go.Proofs Go.RowKit
def m_letter_writer_bit (l3 : List Int) (b4 : Bool) (b5 : Bool) : Option ((List Int) × Bool) :=
  if b5 = true then ((m_pack_Writer_Num l3 b4 1).bind fun u6 => some (u6.1, u6.2)) else ((m_pack_Writer_Num l3 b4 0).bind fun u9 => some (u9.1, u9.2))
set_option maxRecDepth 20000 in
set_option maxHeartbeats 1000000 in
theorem c_letter_writer_bit {w : World} {Fo : List Ob} {rs : List Rp} (p1 : Nat) (v2 : Value) (l3 : List Int) (b4 : Bool) (b5 : Bool) (H : Sep w (Blk p1 76 [v2, .bool b4] :: Row 5 (kI .u8) v2 l3 :: Fo) rs) {r : (List Int) × Bool} (hm : m_letter_writer_bit l3 b4 b5 = some r) :
    Calls Try.prog 51 [.pointer (some ⟨p1, 0, none⟩), .bool b5].toArray w (Ret fun v w' => ∃ (v5001 : Value), .tuple #[] = v ∧ Sep w' (Blk p1 76 [v5001, .bool r.2] :: Row 5 (kI .u8) v5001 r.1 :: Fo) (rs)) := by
  unfold m_letter_writer_bit at hm
  refine enter Try.func51 rfl Try.ntmps51 rfl fun a E => ?_
  simp only [enum, Nat.reduceAdd] at E
  refine wp_seq ?_
  refine wp_region_lit ?_
  refine st_val E (wn rfl) rfl rfl (x_move E rfl rfl) ?_
  clear E; clear a; intro a E
  refine wpList_nil ?_
  refine q_then ?_
  refine wp_if E rfl ?_ ?_
  · intro hb
    rw [if_t hb] at hm
    clear hb
    refine wp_region_lit ?_
    refine st_val E (wn rfl) rfl rfl (x_move E rfl rfl) ?_
    clear E; clear a; intro a E
    refine st_val E (wn rfl) rfl rfl (x_nil E rfl rfl) ?_
    clear E; clear a; intro a E
    refine st_val E (wn rfl) rfl rfl (x_fa E rfl rfl (v := .pointer (some ⟨p1, 0, none⟩)) (fa76_0 _ _)) ?_
    clear E; clear a; intro a E
    replace H : Sep w (Blk p1 76 [v2, .bool b4] :: Row 5 (kI .u8) v2 l3 :: Fo) (rs) := H
    obtain ⟨u6, hx7, hm⟩ := bnd hm
    refine st_call E (wn rfl) rfl rfl (x_call E rfl rfl (cf30 _)) (c_pack_Writer_Num p1 v2 l3 b4 1 H hx7) ?_
    clear E H; clear a; clear w; rintro _ w ⟨v8, rfl, H⟩ a E
    refine wpList_nil ?_
    refine out0 E rfl ?_
    obtain rfl := Option.some.inj hm
    exact ⟨v8, rfl, H.reads (fun r hr => hr)⟩
  · intro hb
    rw [if_f hb] at hm
    clear hb
    refine wp_region_lit ?_
    refine st_val E (wn rfl) rfl rfl (x_move E rfl rfl) ?_
    clear E; clear a; intro a E
    refine st_val E (wn rfl) rfl rfl (x_nil E rfl rfl) ?_
    clear E; clear a; intro a E
    refine st_val E (wn rfl) rfl rfl (x_fa E rfl rfl (v := .pointer (some ⟨p1, 0, none⟩)) (fa76_0 _ _)) ?_
    clear E; clear a; intro a E
    replace H : Sep w (Blk p1 76 [v2, .bool b4] :: Row 5 (kI .u8) v2 l3 :: Fo) (rs) := H
    obtain ⟨u9, hx10, hm⟩ := bnd hm
    refine st_call E (wn rfl) rfl rfl (x_call E rfl rfl (cf30 _)) (c_pack_Writer_Num p1 v2 l3 b4 0 H hx10) ?_
    clear E H; clear a; clear w; rintro _ w ⟨v11, rfl, H⟩ a E
    refine wpList_nil ?_
    refine out0 E rfl ?_
    obtain rfl := Option.some.inj hm
    exact ⟨v11, rfl, H.reads (fun r hr => hr)⟩
end Go.Cb

set_option linter.unusedVariables false
set_option linter.unusedSimpArgs false
namespace Go.Cb
open Go.Proofs Go.RowKit
def m_letter_PutAnswer (x1 : S_api_Answer) : Option ((List Int) × Int) :=
  (m_letter_writer_nums [] false ([x1.Err, x1.At] : List Int)).bind fun u29 => (m_letter_writer_bit u29.1 u29.2 x1.Yes).bind fun u32 => (m_pack_Writer_Num u32.1 u32.2 x1.Epoch).bind fun u35 => (m_letter_row_api_Result u35.1 u35.2 x1.Results).bind fun u38 => (m_letter_row_api_Node u38.1 u38.2 x1.Store.Nodes).bind fun u41 => (m_letter_row_api_Turn u41.1 u41.2 x1.Store.Turns).bind fun u44 => (m_letter_row_api_Event u44.1 u44.2 x1.Events).bind fun u47 => (m_letter_row_api_Mount u47.1 u47.2 x1.Mounts).bind fun u50 => (m_letter_row_int64 u50.1 u50.2 x1.Wounded).bind fun u53 => (m_pack_Writer_Bytes u53.1 u53.2).bind fun u56 => some (u56.1, u56.2)
set_option maxRecDepth 20000 in
set_option maxHeartbeats 1000000 in
theorem c_letter_PutAnswer {w : World} {Fo : List Ob} {rs : List Rp} (x1 : S_api_Answer) (v2 : Value) (v3 : Value) (v4 : Value) (v5 : Value) (v6 : Value) (v7 : Value) (H : Sep w (Fo) rs) (hr8 : rSl k_api_Result v2 x1.Results ∈ rs) (hr9 : rSl k_api_Node v3 x1.Store.Nodes ∈ rs) (hr10 : rSl k_api_Turn v4 x1.Store.Turns ∈ rs) (hr11 : rSl k_api_Event v5 x1.Events ∈ rs) (hr12 : rSl k_api_Mount v6 x1.Mounts ∈ rs) (hr13 : rSl (kI .i64) v7 x1.Wounded ∈ rs) {r : (List Int) × Int} (hm : m_letter_PutAnswer x1 = some r) :
    Calls Try.prog 22 [.agg #[.int .i64 x1.Err, .int .i64 x1.At, .bool x1.Yes, .int .i64 x1.Epoch, v2, v3, v4, v5, v6, v7]].toArray w (Ret fun v w' => ∃ (v5001 : Value), .tuple #[v5001, .int .i64 r.2] = v ∧ Sep w' (Row 5 (kI .u8) v5001 r.1 :: Fo) (rs)) := by
  unfold m_letter_PutAnswer at hm
  refine enter Try.func22 rfl Try.ntmps22 rfl fun a E => ?_
  simp only [enum, Nat.reduceAdd] at E
  refine wp_seq ?_
  refine wp_region_lit ?_
  obtain ⟨q15, x16, rfl⟩ := H.slform hr8
  obtain ⟨q17, x18, rfl⟩ := H.slform hr9
  obtain ⟨q19, x20, rfl⟩ := H.slform hr10
  obtain ⟨q21, x22, rfl⟩ := H.slform hr11
  obtain ⟨q23, x24, rfl⟩ := H.slform hr12
  obtain ⟨q25, x26, rfl⟩ := H.slform hr13
  refine st_box E H (wn rfl) rfl rfl (cs := [.int .i64 x1.Err, .int .i64 x1.At, .bool x1.Yes, .int .i64 x1.Epoch, (.slice q15 x1.Results.length x16), (.slice q17 x1.Store.Nodes.length x18), (.slice q19 x1.Store.Turns.length x20), (.slice q21 x1.Events.length x22), (.slice q23 x1.Mounts.length x24), (.slice q25 x1.Wounded.length x26)]) rfl rfl rfl ?_
  clear E H; clear a; clear w; intro p14 w a H E
  refine st_val E (wn rfl) rfl rfl (x_assign E rfl rfl) ?_
  clear E; clear a; intro a E
  refine st_val E (wn rfl) rfl rfl (x_assign E rfl rfl) ?_
  clear E; clear a; intro a E
  refine wpList_nil ?_
  refine q_then ?_
  refine wp_seq ?_
  refine wp_region_lit ?_
  refine st_val E (wn rfl) rfl rfl (x_build E (ps := []) (vs := []) rfl rfl (v := .agg #[.slice none 0 0, .bool false]) (by kernel_rfl)) ?_
  clear E; clear a; intro a E
  refine st_box E H (wn rfl) rfl rfl (cs := [.slice none 0 0, .bool false]) rfl rfl rfl ?_
  clear E H; clear a; clear w; intro p27 w a H E
  refine st_val E (wn rfl) rfl rfl (x_assign E rfl rfl) ?_
  clear E; clear a; intro a E
  refine wpList_nil ?_
  refine q_then ?_
  refine wp_seq ?_
  refine wp_region_lit ?_
  refine st_val E (wn rfl) rfl rfl (x_move E rfl rfl) ?_
  clear E; clear a; intro a E
  refine st_val E (wn rfl) rfl rfl (x_fa E rfl rfl (v := .pointer (some ⟨p14, 0, none⟩)) (fa50_0 _ _)) ?_
  clear E; clear a; intro a E
  refine st_val E (wn rfl) rfl rfl (x_ldB (i := 1) E H rfl rfl rfl rfl Try.underlying30 rfl) ?_
  clear E; clear a; intro a E
  refine st_val E (wn rfl) rfl rfl (x_fa E rfl rfl (v := .pointer (some ⟨p14, 1, none⟩)) (fa50_1 _ _)) ?_
  clear E; clear a; intro a E
  refine st_val E (wn rfl) rfl rfl (x_ldB (i := 1) E H rfl rfl rfl rfl Try.underlying3 rfl) ?_
  clear E; clear a; intro a E
  refine st_bsO (e := 2) (d := (kI .i64)) (cs := [.int .i64 x1.Err, .int .i64 x1.At]) (xs := [x1.Err, x1.At]) E H (wn rfl) rfl rfl (ps := [(0, .tmp 9), (1, .tmp 11)]) (parts := [(0, .int .i64 x1.Err), (1, .int .i64 x1.At)]) rfl (by simp only [List.map]; rw [E.eval (x := .tmp 9) (v := .int .i64 x1.Err) rfl, E.eval (x := .tmp 11) (v := .int .i64 x1.At) rfl]) (by kernel_rfl) rfl rfl (fun ok hr => (Rows.append (Rows.single (d := (kI .i64)) (cs := [.int .i64 x1.Err]) (x := x1.Err) rfl) (Rows.single (d := (kI .i64)) (cs := [.int .i64 x1.At]) (x := x1.At) rfl))) ?_
  clear E H; clear a; clear w; intro v28 w a H E
  replace H := H.thaw (i := 0) rfl
  replace H := H.nilRow 5 (kI .u8)
  replace H := H.front 2 rfl
  replace H := H.front 1 rfl
  replace H := H.front 2 rfl
  replace H : Sep w (Blk p27 76 [.slice none 0 0, .bool false] :: Row 5 (kI .u8) (.slice none 0 0) ([] : List Int) :: Blk p14 50 [.int .i64 x1.Err, .int .i64 x1.At, .bool x1.Yes, .int .i64 x1.Epoch, (.slice q15 x1.Results.length x16), (.slice q17 x1.Store.Nodes.length x18), (.slice q19 x1.Store.Turns.length x20), (.slice q21 x1.Events.length x22), (.slice q23 x1.Mounts.length x24), (.slice q25 x1.Wounded.length x26)] :: Fo) (rSl (kI .i64) v28 ([x1.Err, x1.At] : List Int) :: rs) := H
  obtain ⟨u29, hx30, hm⟩ := bnd hm
  refine st_call E (wn rfl) rfl rfl (x_call E rfl rfl (cf28 _)) (c_letter_writer_nums p27 (.slice none 0 0) [] false v28 ([x1.Err, x1.At] : List Int) H (.head _) hx30) ?_
  clear E H; clear a; clear w; rintro _ w ⟨v31, rfl, H⟩ a E
  refine wpList_nil ?_
  refine q_then ?_
  refine wp_seq ?_
  refine wp_region_lit ?_
  refine st_val E (wn rfl) rfl rfl (x_move E rfl rfl) ?_
  clear E; clear a; intro a E
  refine st_val E (wn rfl) rfl rfl (x_fa E rfl rfl (v := .pointer (some ⟨p14, 2, none⟩)) (fa50_2 _ _)) ?_
  clear E; clear a; intro a E
  refine st_val E (wn rfl) rfl rfl (x_ldB (i := 2) E H rfl rfl rfl rfl Try.underlying4 rfl) ?_
  clear E; clear a; intro a E
  replace H : Sep w (Blk p27 76 [v31, .bool u29.2] :: Row 5 (kI .u8) v31 u29.1 :: Blk p14 50 [.int .i64 x1.Err, .int .i64 x1.At, .bool x1.Yes, .int .i64 x1.Epoch, (.slice q15 x1.Results.length x16), (.slice q17 x1.Store.Nodes.length x18), (.slice q19 x1.Store.Turns.length x20), (.slice q21 x1.Events.length x22), (.slice q23 x1.Mounts.length x24), (.slice q25 x1.Wounded.length x26)] :: Fo) (rSl (kI .i64) v28 ([x1.Err, x1.At] : List Int) :: rs) := H
  obtain ⟨u32, hx33, hm⟩ := bnd hm
  refine st_call E (wn rfl) rfl rfl (x_call E rfl rfl (cf51 _)) (c_letter_writer_bit p27 v31 u29.1 u29.2 x1.Yes H hx33) ?_
  clear E H; clear a; clear w; rintro _ w ⟨v34, rfl, H⟩ a E
  refine wpList_nil ?_
  refine q_then ?_
  refine wp_seq ?_
  replace H : Sep w (Blk p27 76 [v34, .bool u32.2] :: Row 5 (kI .u8) v34 u32.1 :: Blk p14 50 [.int .i64 x1.Err, .int .i64 x1.At, .bool x1.Yes, .int .i64 x1.Epoch, (.slice q15 x1.Results.length x16), (.slice q17 x1.Store.Nodes.length x18), (.slice q19 x1.Store.Turns.length x20), (.slice q21 x1.Events.length x22), (.slice q23 x1.Mounts.length x24), (.slice q25 x1.Wounded.length x26)] :: Fo) (rSl (kI .i64) v28 ([x1.Err, x1.At] : List Int) :: rs) := H
  have hI : Still [Blk p14 50 [.int .i64 x1.Err, .int .i64 x1.At, .bool x1.Yes, .int .i64 x1.Epoch, (.slice q15 x1.Results.length x16), (.slice q17 x1.Store.Nodes.length x18), (.slice q19 x1.Store.Turns.length x20), (.slice q21 x1.Events.length x22), (.slice q23 x1.Mounts.length x24), (.slice q25 x1.Wounded.length x26)]] [] { w with drawn := w.drawn + 1 } := ⟨_, _, H.kept (Kp.drawn _ w _), (subO_cons (.tail _ (.tail _ (.head _))) (subO_nil)), (sub_nil)⟩
  refine wp_draw _ [(0, 0), (1, 0), (2, 0), (3, 0), (4, 0), (5, 1)] mixedOk (by kernel_rfl) (fun _ _ _ h => False.elim h.2) hI ?_
  replace H := H.kept (Kp.drawn _ w (w.drawn + 1))
  generalize ({ w with drawn := w.drawn + 1 } : World) = w at H hI ⊢
  replace hI : ∃ W, Still [Blk p14 50 [.int .i64 x1.Err, .int .i64 x1.At, .bool x1.Yes, .int .i64 x1.Epoch, (.slice q15 x1.Results.length x16), (.slice q17 x1.Store.Nodes.length x18), (.slice q19 x1.Store.Turns.length x20), (.slice q21 x1.Events.length x22), (.slice q23 x1.Mounts.length x24), (.slice q25 x1.Wounded.length x26)]] [] W := ⟨_, hI⟩
  obtain ⟨W0, hI⟩ := hI
  refine fr_val E rfl (wn rfl) rfl rfl (fun w hW => (x_move E rfl rfl)) ?_
  clear E; clear a; intro a E
  refine fr_val E rfl (wn rfl) rfl rfl (fun w hW => (x_nil E rfl rfl)) ?_
  clear E; clear a; intro a E
  refine fr_val E rfl (wn rfl) rfl rfl (fun w hW => x_fa E rfl rfl (v := .pointer (some ⟨p27, 0, none⟩)) (fa76_0 _ _)) ?_
  clear E; clear a; intro a E
  refine fr_val E rfl (wn rfl) rfl rfl (fun w hW => x_fa E rfl rfl (v := .pointer (some ⟨p14, 3, none⟩)) (fa50_3 _ _)) ?_
  clear E; clear a; intro a E
  refine fr_val E rfl (wn rfl) rfl rfl (fun w hW => x_ld E rfl rfl (ib_ld (.head _) rfl Try.underlying2 rfl w hW)) ?_
  clear E; clear a; intro a E
  refine fr_op rfl ?_
  replace H : Sep w (Blk p27 76 [v34, .bool u32.2] :: Row 5 (kI .u8) v34 u32.1 :: Blk p14 50 [.int .i64 x1.Err, .int .i64 x1.At, .bool x1.Yes, .int .i64 x1.Epoch, (.slice q15 x1.Results.length x16), (.slice q17 x1.Store.Nodes.length x18), (.slice q19 x1.Store.Turns.length x20), (.slice q21 x1.Events.length x22), (.slice q23 x1.Mounts.length x24), (.slice q25 x1.Wounded.length x26)] :: Fo) (rSl (kI .i64) v28 ([x1.Err, x1.At] : List Int) :: rs) := H
  obtain ⟨u35, hx36, hm⟩ := bnd hm
  refine st_call E (wn rfl) rfl rfl (x_call E rfl rfl (cf30 _)) (c_pack_Writer_Num p27 v34 u32.1 u32.2 x1.Epoch H hx36) ?_
  clear E H; clear a; clear w; rintro _ w ⟨v37, rfl, H⟩ a E
  refine wpList_nil ?_
  refine q_then ?_
  replace H : Sep w (Blk p27 76 [v37, .bool u35.2] :: Row 5 (kI .u8) v37 u35.1 :: Blk p14 50 [.int .i64 x1.Err, .int .i64 x1.At, .bool x1.Yes, .int .i64 x1.Epoch, (.slice q15 x1.Results.length x16), (.slice q17 x1.Store.Nodes.length x18), (.slice q19 x1.Store.Turns.length x20), (.slice q21 x1.Events.length x22), (.slice q23 x1.Mounts.length x24), (.slice q25 x1.Wounded.length x26)] :: Fo) (rSl (kI .i64) v28 ([x1.Err, x1.At] : List Int) :: rs) := H
  refine ⟨⟨_, _, H, (subO_cons (.tail _ (.tail _ (.head _))) (subO_nil)), (sub_nil)⟩, ?_⟩
  refine fr_nil ?_
  clear hI
  refine q_then ?_
  refine wp_seq ?_
  refine wp_region_lit ?_
  refine st_val E (wn rfl) rfl rfl (x_move E rfl rfl) ?_
  clear E; clear a; intro a E
  refine st_val E (wn rfl) rfl rfl (x_fa E rfl rfl (v := .pointer (some ⟨p14, 4, none⟩)) (fa50_4 _ _)) ?_
  clear E; clear a; intro a E
  refine st_val E (wn rfl) rfl rfl (x_ldB (i := 2) E H rfl rfl rfl rfl Try.underlying41 rfl) ?_
  clear E; clear a; intro a E
  refine st_val E (wn rfl) rfl rfl (x_move E rfl rfl) ?_
  clear E; clear a; intro a E
  refine st_val E (wn rfl) rfl rfl (x_func E rfl rfl rfl) ?_
  clear E; clear a; intro a E
  replace H : Sep w (Blk p27 76 [v37, .bool u35.2] :: Row 5 (kI .u8) v37 u35.1 :: Blk p14 50 [.int .i64 x1.Err, .int .i64 x1.At, .bool x1.Yes, .int .i64 x1.Epoch, (.slice q15 x1.Results.length x16), (.slice q17 x1.Store.Nodes.length x18), (.slice q19 x1.Store.Turns.length x20), (.slice q21 x1.Events.length x22), (.slice q23 x1.Mounts.length x24), (.slice q25 x1.Wounded.length x26)] :: Fo) (rSl (kI .i64) v28 ([x1.Err, x1.At] : List Int) :: rs) := H
  obtain ⟨u38, hx39, hm⟩ := bnd hm
  refine st_call E (wn rfl) rfl rfl (x_call E rfl rfl (cf52 _)) (c_letter_row_api_Result p27 v37 u35.1 u35.2 (.slice q15 x1.Results.length x16) x1.Results H (.tail _ hr8) hx39) ?_
  clear E H; clear a; clear w; rintro _ w ⟨v40, rfl, H⟩ a E
  refine wpList_nil ?_
  refine q_then ?_
  refine wp_seq ?_
  refine wp_region_lit ?_
  refine st_val E (wn rfl) rfl rfl (x_move E rfl rfl) ?_
  clear E; clear a; intro a E
  refine st_val E (wn rfl) rfl rfl (x_fa E rfl rfl (v := .pointer (some ⟨p14, 5, none⟩)) (fa50_5 _ _)) ?_
  clear E; clear a; intro a E
  refine st_val E (wn rfl) rfl rfl (x_fa E rfl rfl (v := .pointer (some ⟨p14, 5, none⟩)) (fa45_0 _ _)) ?_
  clear E; clear a; intro a E
  refine st_val E (wn rfl) rfl rfl (x_ldB (i := 2) E H rfl rfl rfl rfl Try.underlying42 rfl) ?_
  clear E; clear a; intro a E
  refine st_val E (wn rfl) rfl rfl (x_move E rfl rfl) ?_
  clear E; clear a; intro a E
  refine st_val E (wn rfl) rfl rfl (x_func E rfl rfl rfl) ?_
  clear E; clear a; intro a E
  replace H : Sep w (Blk p27 76 [v40, .bool u38.2] :: Row 5 (kI .u8) v40 u38.1 :: Blk p14 50 [.int .i64 x1.Err, .int .i64 x1.At, .bool x1.Yes, .int .i64 x1.Epoch, (.slice q15 x1.Results.length x16), (.slice q17 x1.Store.Nodes.length x18), (.slice q19 x1.Store.Turns.length x20), (.slice q21 x1.Events.length x22), (.slice q23 x1.Mounts.length x24), (.slice q25 x1.Wounded.length x26)] :: Fo) (rSl (kI .i64) v28 ([x1.Err, x1.At] : List Int) :: rs) := H
  obtain ⟨u41, hx42, hm⟩ := bnd hm
  refine st_call E (wn rfl) rfl rfl (x_call E rfl rfl (cf54 _)) (c_letter_row_api_Node p27 v40 u38.1 u38.2 (.slice q17 x1.Store.Nodes.length x18) x1.Store.Nodes H (.tail _ hr9) hx42) ?_
  clear E H; clear a; clear w; rintro _ w ⟨v43, rfl, H⟩ a E
  refine wpList_nil ?_
  refine q_then ?_
  refine wp_seq ?_
  refine wp_region_lit ?_
  refine st_val E (wn rfl) rfl rfl (x_move E rfl rfl) ?_
  clear E; clear a; intro a E
  refine st_val E (wn rfl) rfl rfl (x_fa E rfl rfl (v := .pointer (some ⟨p14, 5, none⟩)) (fa50_5 _ _)) ?_
  clear E; clear a; intro a E
  refine st_val E (wn rfl) rfl rfl (x_fa E rfl rfl (v := .pointer (some ⟨p14, 6, none⟩)) (fa45_1 _ _)) ?_
  clear E; clear a; intro a E
  refine st_val E (wn rfl) rfl rfl (x_ldB (i := 2) E H rfl rfl rfl rfl Try.underlying43 rfl) ?_
  clear E; clear a; intro a E
  refine st_val E (wn rfl) rfl rfl (x_move E rfl rfl) ?_
  clear E; clear a; intro a E
  refine st_val E (wn rfl) rfl rfl (x_func E rfl rfl rfl) ?_
  clear E; clear a; intro a E
  replace H : Sep w (Blk p27 76 [v43, .bool u41.2] :: Row 5 (kI .u8) v43 u41.1 :: Blk p14 50 [.int .i64 x1.Err, .int .i64 x1.At, .bool x1.Yes, .int .i64 x1.Epoch, (.slice q15 x1.Results.length x16), (.slice q17 x1.Store.Nodes.length x18), (.slice q19 x1.Store.Turns.length x20), (.slice q21 x1.Events.length x22), (.slice q23 x1.Mounts.length x24), (.slice q25 x1.Wounded.length x26)] :: Fo) (rSl (kI .i64) v28 ([x1.Err, x1.At] : List Int) :: rs) := H
  obtain ⟨u44, hx45, hm⟩ := bnd hm
  refine st_call E (wn rfl) rfl rfl (x_call E rfl rfl (cf56 _)) (c_letter_row_api_Turn p27 v43 u41.1 u41.2 (.slice q19 x1.Store.Turns.length x20) x1.Store.Turns H (.tail _ hr10) hx45) ?_
  clear E H; clear a; clear w; rintro _ w ⟨v46, rfl, H⟩ a E
  refine wpList_nil ?_
  refine q_then ?_
  refine wp_seq ?_
  refine wp_region_lit ?_
  refine st_val E (wn rfl) rfl rfl (x_move E rfl rfl) ?_
  clear E; clear a; intro a E
  refine st_val E (wn rfl) rfl rfl (x_fa E rfl rfl (v := .pointer (some ⟨p14, 7, none⟩)) (fa50_6 _ _)) ?_
  clear E; clear a; intro a E
  refine st_val E (wn rfl) rfl rfl (x_ldB (i := 2) E H rfl rfl rfl rfl Try.underlying46 rfl) ?_
  clear E; clear a; intro a E
  refine st_val E (wn rfl) rfl rfl (x_move E rfl rfl) ?_
  clear E; clear a; intro a E
  refine st_val E (wn rfl) rfl rfl (x_func E rfl rfl rfl) ?_
  clear E; clear a; intro a E
  replace H : Sep w (Blk p27 76 [v46, .bool u44.2] :: Row 5 (kI .u8) v46 u44.1 :: Blk p14 50 [.int .i64 x1.Err, .int .i64 x1.At, .bool x1.Yes, .int .i64 x1.Epoch, (.slice q15 x1.Results.length x16), (.slice q17 x1.Store.Nodes.length x18), (.slice q19 x1.Store.Turns.length x20), (.slice q21 x1.Events.length x22), (.slice q23 x1.Mounts.length x24), (.slice q25 x1.Wounded.length x26)] :: Fo) (rSl (kI .i64) v28 ([x1.Err, x1.At] : List Int) :: rs) := H
  obtain ⟨u47, hx48, hm⟩ := bnd hm
  refine st_call E (wn rfl) rfl rfl (x_call E rfl rfl (cf58 _)) (c_letter_row_api_Event p27 v46 u44.1 u44.2 (.slice q21 x1.Events.length x22) x1.Events H (.tail _ hr11) hx48) ?_
  clear E H; clear a; clear w; rintro _ w ⟨v49, rfl, H⟩ a E
  refine wpList_nil ?_
  refine q_then ?_
  refine wp_seq ?_
  refine wp_region_lit ?_
  refine st_val E (wn rfl) rfl rfl (x_move E rfl rfl) ?_
  clear E; clear a; intro a E
  refine st_val E (wn rfl) rfl rfl (x_fa E rfl rfl (v := .pointer (some ⟨p14, 8, none⟩)) (fa50_7 _ _)) ?_
  clear E; clear a; intro a E
  refine st_val E (wn rfl) rfl rfl (x_ldB (i := 2) E H rfl rfl rfl rfl Try.underlying47 rfl) ?_
  clear E; clear a; intro a E
  refine st_val E (wn rfl) rfl rfl (x_move E rfl rfl) ?_
  clear E; clear a; intro a E
  refine st_val E (wn rfl) rfl rfl (x_func E rfl rfl rfl) ?_
  clear E; clear a; intro a E
  replace H : Sep w (Blk p27 76 [v49, .bool u47.2] :: Row 5 (kI .u8) v49 u47.1 :: Blk p14 50 [.int .i64 x1.Err, .int .i64 x1.At, .bool x1.Yes, .int .i64 x1.Epoch, (.slice q15 x1.Results.length x16), (.slice q17 x1.Store.Nodes.length x18), (.slice q19 x1.Store.Turns.length x20), (.slice q21 x1.Events.length x22), (.slice q23 x1.Mounts.length x24), (.slice q25 x1.Wounded.length x26)] :: Fo) (rSl (kI .i64) v28 ([x1.Err, x1.At] : List Int) :: rs) := H
  obtain ⟨u50, hx51, hm⟩ := bnd hm
  refine st_call E (wn rfl) rfl rfl (x_call E rfl rfl (cf60 _)) (c_letter_row_api_Mount p27 v49 u47.1 u47.2 (.slice q23 x1.Mounts.length x24) x1.Mounts H (.tail _ hr12) hx51) ?_
  clear E H; clear a; clear w; rintro _ w ⟨v52, rfl, H⟩ a E
  refine wpList_nil ?_
  refine q_then ?_
  refine wp_seq ?_
  replace H : Sep w (Blk p27 76 [v52, .bool u50.2] :: Row 5 (kI .u8) v52 u50.1 :: Blk p14 50 [.int .i64 x1.Err, .int .i64 x1.At, .bool x1.Yes, .int .i64 x1.Epoch, (.slice q15 x1.Results.length x16), (.slice q17 x1.Store.Nodes.length x18), (.slice q19 x1.Store.Turns.length x20), (.slice q21 x1.Events.length x22), (.slice q23 x1.Mounts.length x24), (.slice q25 x1.Wounded.length x26)] :: Fo) (rSl (kI .i64) v28 ([x1.Err, x1.At] : List Int) :: rs) := H
  have hI : Still [Blk p14 50 [.int .i64 x1.Err, .int .i64 x1.At, .bool x1.Yes, .int .i64 x1.Epoch, (.slice q15 x1.Results.length x16), (.slice q17 x1.Store.Nodes.length x18), (.slice q19 x1.Store.Turns.length x20), (.slice q21 x1.Events.length x22), (.slice q23 x1.Mounts.length x24), (.slice q25 x1.Wounded.length x26)]] [] { w with drawn := w.drawn + 1 } := ⟨_, _, H.kept (Kp.drawn _ w _), (subO_cons (.tail _ (.tail _ (.head _))) (subO_nil)), (sub_nil)⟩
  refine wp_draw _ [(0, 0), (1, 0), (2, 0), (3, 0), (4, 0), (5, 0), (6, 0), (7, 1)] mixedOk (by kernel_rfl) (fun _ _ _ h => False.elim h.2) hI ?_
  replace H := H.kept (Kp.drawn _ w (w.drawn + 1))
  generalize ({ w with drawn := w.drawn + 1 } : World) = w at H hI ⊢
  replace hI : ∃ W, Still [Blk p14 50 [.int .i64 x1.Err, .int .i64 x1.At, .bool x1.Yes, .int .i64 x1.Epoch, (.slice q15 x1.Results.length x16), (.slice q17 x1.Store.Nodes.length x18), (.slice q19 x1.Store.Turns.length x20), (.slice q21 x1.Events.length x22), (.slice q23 x1.Mounts.length x24), (.slice q25 x1.Wounded.length x26)]] [] W := ⟨_, hI⟩
  obtain ⟨W0, hI⟩ := hI
  refine fr_val E rfl (wn rfl) rfl rfl (fun w hW => (x_move E rfl rfl)) ?_
  clear E; clear a; intro a E
  refine fr_val E rfl (wn rfl) rfl rfl (fun w hW => x_fa E rfl rfl (v := .pointer (some ⟨p14, 9, none⟩)) (fa50_8 _ _)) ?_
  clear E; clear a; intro a E
  refine fr_val E rfl (wn rfl) rfl rfl (fun w hW => x_ld E rfl rfl (ib_ld (.head _) rfl Try.underlying48 rfl w hW)) ?_
  clear E; clear a; intro a E
  refine fr_val E rfl (wn rfl) rfl rfl (fun w hW => (x_move E rfl rfl)) ?_
  clear E; clear a; intro a E
  refine fr_val E rfl (wn rfl) rfl rfl (fun w hW => (x_nil E rfl rfl)) ?_
  clear E; clear a; intro a E
  refine fr_val E rfl (wn rfl) rfl rfl (fun w hW => x_fa E rfl rfl (v := .pointer (some ⟨p27, 0, none⟩)) (fa76_0 _ _)) ?_
  clear E; clear a; intro a E
  refine fr_val E rfl (wn rfl) rfl rfl (fun w hW => (x_func E rfl rfl rfl)) ?_
  clear E; clear a; intro a E
  refine fr_op rfl ?_
  replace H : Sep w (Blk p27 76 [v52, .bool u50.2] :: Row 5 (kI .u8) v52 u50.1 :: Blk p14 50 [.int .i64 x1.Err, .int .i64 x1.At, .bool x1.Yes, .int .i64 x1.Epoch, (.slice q15 x1.Results.length x16), (.slice q17 x1.Store.Nodes.length x18), (.slice q19 x1.Store.Turns.length x20), (.slice q21 x1.Events.length x22), (.slice q23 x1.Mounts.length x24), (.slice q25 x1.Wounded.length x26)] :: Fo) (rSl (kI .i64) v28 ([x1.Err, x1.At] : List Int) :: rs) := H
  obtain ⟨u53, hx54, hm⟩ := bnd hm
  refine st_call E (wn rfl) rfl rfl (x_call E rfl rfl (cf62 _)) (c_letter_row_int64 p27 v52 u50.1 u50.2 (.slice q25 x1.Wounded.length x26) x1.Wounded H (.tail _ hr13) hx54) ?_
  clear E H; clear a; clear w; rintro _ w ⟨v55, rfl, H⟩ a E
  refine wpList_nil ?_
  refine q_then ?_
  replace H : Sep w (Blk p27 76 [v55, .bool u53.2] :: Row 5 (kI .u8) v55 u53.1 :: Blk p14 50 [.int .i64 x1.Err, .int .i64 x1.At, .bool x1.Yes, .int .i64 x1.Epoch, (.slice q15 x1.Results.length x16), (.slice q17 x1.Store.Nodes.length x18), (.slice q19 x1.Store.Turns.length x20), (.slice q21 x1.Events.length x22), (.slice q23 x1.Mounts.length x24), (.slice q25 x1.Wounded.length x26)] :: Fo) (rSl (kI .i64) v28 ([x1.Err, x1.At] : List Int) :: rs) := H
  refine ⟨⟨_, _, H, (subO_cons (.tail _ (.tail _ (.head _))) (subO_nil)), (sub_nil)⟩, ?_⟩
  refine fr_nil ?_
  clear hI
  refine q_then ?_
  refine wp_seq ?_
  refine wp_region_lit ?_
  refine st_val E (wn rfl) rfl rfl (x_move E rfl rfl) ?_
  clear E; clear a; intro a E
  refine st_val E (wn rfl) rfl rfl (x_nil E rfl rfl) ?_
  clear E; clear a; intro a E
  refine st_val E (wn rfl) rfl rfl (x_fa E rfl rfl (v := .pointer (some ⟨p27, 0, none⟩)) (fa76_0 _ _)) ?_
  clear E; clear a; intro a E
  replace H : Sep w (Blk p27 76 [v55, .bool u53.2] :: Row 5 (kI .u8) v55 u53.1 :: Blk p14 50 [.int .i64 x1.Err, .int .i64 x1.At, .bool x1.Yes, .int .i64 x1.Epoch, (.slice q15 x1.Results.length x16), (.slice q17 x1.Store.Nodes.length x18), (.slice q19 x1.Store.Turns.length x20), (.slice q21 x1.Events.length x22), (.slice q23 x1.Mounts.length x24), (.slice q25 x1.Wounded.length x26)] :: Fo) (rSl (kI .i64) v28 ([x1.Err, x1.At] : List Int) :: rs) := H
  obtain ⟨u56, hx57, hm⟩ := bnd hm
  refine st_call E (wn rfl) rfl rfl (x_call E rfl rfl (cf32 _)) (c_pack_Writer_Bytes p27 v55 u53.1 u53.2 H hx57) ?_
  clear E H; clear a; clear w; rintro _ w ⟨v58, rfl, H⟩ a E
  refine st_val E (wn rfl) rfl rfl (x_ext E rfl rfl rfl) ?_
  clear E; clear a; intro a E
  refine st_val E (wn rfl) rfl rfl (x_ext E rfl rfl rfl) ?_
  clear E; clear a; intro a E
  refine st_val E (wn rfl) rfl rfl (x_assign E rfl rfl) ?_
  clear E; clear a; intro a E
  refine st_val E (wn rfl) rfl rfl (x_assign E rfl rfl) ?_
  clear E; clear a; intro a E
  refine wpList_nil ?_
  refine q_then ?_
  refine wp_ret ?_
  refine out2 E rfl rfl rfl ?_
  replace H := H.drop 1
  replace H := H.drop 1
  replace H := H.drop 1
  obtain rfl := Option.some.inj hm
  exact ⟨v58, rfl, H.reads (fun r hr => .tail _ (hr))⟩
end Go.Cb

set_option linter.unusedVariables false
set_option linter.unusedSimpArgs false
namespace Go.Cb
open Go.Proofs Go.RowKit
def m_letter_PutSaved (x1 : S_api_Saved) : Option ((List Int) × Int) :=
  (m_letter_writer_nums [] false ([x1.View, x1.Normal] : List Int)).bind fun u9 => (m_pack_Writer_Texts u9.1 u9.2 x1.Log).bind fun u12 => (m_pack_Writer_Bytes u12.1 u12.2).bind fun u15 => some (u15.1, u15.2)
set_option maxRecDepth 20000 in
set_option maxHeartbeats 1000000 in
theorem c_letter_PutSaved {w : World} {Fo : List Ob} {rs : List Rp} (x1 : S_api_Saved) (v2 : Value) (H : Sep w (Fo) rs) (hr3 : rSl kS v2 x1.Log ∈ rs) {r : (List Int) × Int} (hm : m_letter_PutSaved x1 = some r) :
    Calls Try.prog 13 [.agg #[.int .i64 x1.View, .int .i64 x1.Normal, v2]].toArray w (Ret fun v w' => ∃ (v5001 : Value), .tuple #[v5001, .int .i64 r.2] = v ∧ Sep w' (Row 5 (kI .u8) v5001 r.1 :: Fo) (rs)) := by
  unfold m_letter_PutSaved at hm
  refine enter Try.func13 rfl Try.ntmps13 rfl fun a E => ?_
  simp only [enum, Nat.reduceAdd] at E
  refine wp_seq ?_
  refine wp_region_lit ?_
  obtain ⟨q5, x6, rfl⟩ := H.slform hr3
  refine st_box E H (wn rfl) rfl rfl (cs := [.int .i64 x1.View, .int .i64 x1.Normal, (.slice q5 x1.Log.length x6)]) rfl rfl rfl ?_
  clear E H; clear a; clear w; intro p4 w a H E
  refine st_val E (wn rfl) rfl rfl (x_assign E rfl rfl) ?_
  clear E; clear a; intro a E
  refine st_val E (wn rfl) rfl rfl (x_assign E rfl rfl) ?_
  clear E; clear a; intro a E
  refine wpList_nil ?_
  refine q_then ?_
  refine wp_seq ?_
  refine wp_region_lit ?_
  refine st_val E (wn rfl) rfl rfl (x_build E (ps := []) (vs := []) rfl rfl (v := .agg #[.slice none 0 0, .bool false]) (by kernel_rfl)) ?_
  clear E; clear a; intro a E
  refine st_box E H (wn rfl) rfl rfl (cs := [.slice none 0 0, .bool false]) rfl rfl rfl ?_
  clear E H; clear a; clear w; intro p7 w a H E
  refine st_val E (wn rfl) rfl rfl (x_assign E rfl rfl) ?_
  clear E; clear a; intro a E
  refine wpList_nil ?_
  refine q_then ?_
  refine wp_seq ?_
  refine wp_region_lit ?_
  refine st_val E (wn rfl) rfl rfl (x_move E rfl rfl) ?_
  clear E; clear a; intro a E
  refine st_val E (wn rfl) rfl rfl (x_fa E rfl rfl (v := .pointer (some ⟨p4, 0, none⟩)) (fa26_0 _ _)) ?_
  clear E; clear a; intro a E
  refine st_val E (wn rfl) rfl rfl (x_ldB (i := 1) E H rfl rfl rfl rfl Try.underlying2 rfl) ?_
  clear E; clear a; intro a E
  refine st_val E (wn rfl) rfl rfl (x_fa E rfl rfl (v := .pointer (some ⟨p4, 1, none⟩)) (fa26_1 _ _)) ?_
  clear E; clear a; intro a E
  refine st_val E (wn rfl) rfl rfl (x_ldB (i := 1) E H rfl rfl rfl rfl Try.underlying2 rfl) ?_
  clear E; clear a; intro a E
  refine st_bsO (e := 2) (d := (kI .i64)) (cs := [.int .i64 x1.View, .int .i64 x1.Normal]) (xs := [x1.View, x1.Normal]) E H (wn rfl) rfl rfl (ps := [(0, .tmp 9), (1, .tmp 11)]) (parts := [(0, .int .i64 x1.View), (1, .int .i64 x1.Normal)]) rfl (by simp only [List.map]; rw [E.eval (x := .tmp 9) (v := .int .i64 x1.View) rfl, E.eval (x := .tmp 11) (v := .int .i64 x1.Normal) rfl]) (by kernel_rfl) rfl rfl (fun ok hr => (Rows.append (Rows.single (d := (kI .i64)) (cs := [.int .i64 x1.View]) (x := x1.View) rfl) (Rows.single (d := (kI .i64)) (cs := [.int .i64 x1.Normal]) (x := x1.Normal) rfl))) ?_
  clear E H; clear a; clear w; intro v8 w a H E
  replace H := H.thaw (i := 0) rfl
  replace H := H.nilRow 5 (kI .u8)
  replace H := H.front 2 rfl
  replace H := H.front 1 rfl
  replace H := H.front 2 rfl
  replace H : Sep w (Blk p7 76 [.slice none 0 0, .bool false] :: Row 5 (kI .u8) (.slice none 0 0) ([] : List Int) :: Blk p4 26 [.int .i64 x1.View, .int .i64 x1.Normal, (.slice q5 x1.Log.length x6)] :: Fo) (rSl (kI .i64) v8 ([x1.View, x1.Normal] : List Int) :: rs) := H
  obtain ⟨u9, hx10, hm⟩ := bnd hm
  refine st_call E (wn rfl) rfl rfl (x_call E rfl rfl (cf28 _)) (c_letter_writer_nums p7 (.slice none 0 0) [] false v8 ([x1.View, x1.Normal] : List Int) H (.head _) hx10) ?_
  clear E H; clear a; clear w; rintro _ w ⟨v11, rfl, H⟩ a E
  refine wpList_nil ?_
  refine q_then ?_
  refine wp_seq ?_
  replace H : Sep w (Blk p7 76 [v11, .bool u9.2] :: Row 5 (kI .u8) v11 u9.1 :: Blk p4 26 [.int .i64 x1.View, .int .i64 x1.Normal, (.slice q5 x1.Log.length x6)] :: Fo) (rSl (kI .i64) v8 ([x1.View, x1.Normal] : List Int) :: rs) := H
  have hI : Still [Blk p4 26 [.int .i64 x1.View, .int .i64 x1.Normal, (.slice q5 x1.Log.length x6)]] [] { w with drawn := w.drawn + 1 } := ⟨_, _, H.kept (Kp.drawn _ w _), (subO_cons (.tail _ (.tail _ (.head _))) (subO_nil)), (sub_nil)⟩
  refine wp_draw _ [(0, 0), (1, 0), (2, 0), (3, 0), (4, 0), (5, 1)] mixedOk (by kernel_rfl) (fun _ _ _ h => False.elim h.2) hI ?_
  replace H := H.kept (Kp.drawn _ w (w.drawn + 1))
  generalize ({ w with drawn := w.drawn + 1 } : World) = w at H hI ⊢
  replace hI : ∃ W, Still [Blk p4 26 [.int .i64 x1.View, .int .i64 x1.Normal, (.slice q5 x1.Log.length x6)]] [] W := ⟨_, hI⟩
  obtain ⟨W0, hI⟩ := hI
  refine fr_val E rfl (wn rfl) rfl rfl (fun w hW => (x_move E rfl rfl)) ?_
  clear E; clear a; intro a E
  refine fr_val E rfl (wn rfl) rfl rfl (fun w hW => (x_nil E rfl rfl)) ?_
  clear E; clear a; intro a E
  refine fr_val E rfl (wn rfl) rfl rfl (fun w hW => x_fa E rfl rfl (v := .pointer (some ⟨p7, 0, none⟩)) (fa76_0 _ _)) ?_
  clear E; clear a; intro a E
  refine fr_val E rfl (wn rfl) rfl rfl (fun w hW => x_fa E rfl rfl (v := .pointer (some ⟨p4, 2, none⟩)) (fa26_2 _ _)) ?_
  clear E; clear a; intro a E
  refine fr_val E rfl (wn rfl) rfl rfl (fun w hW => x_ld E rfl rfl (ib_ld (.head _) rfl Try.underlying22 rfl w hW)) ?_
  clear E; clear a; intro a E
  refine fr_op rfl ?_
  replace H : Sep w (Blk p7 76 [v11, .bool u9.2] :: Row 5 (kI .u8) v11 u9.1 :: Blk p4 26 [.int .i64 x1.View, .int .i64 x1.Normal, (.slice q5 x1.Log.length x6)] :: Fo) (rSl (kI .i64) v8 ([x1.View, x1.Normal] : List Int) :: rs) := H
  obtain ⟨u12, hx13, hm⟩ := bnd hm
  refine st_call E (wn rfl) rfl rfl (x_call E rfl rfl (cf29 _)) (c_pack_Writer_Texts p7 v11 u9.1 u9.2 (.slice q5 x1.Log.length x6) x1.Log H (.tail _ hr3) hx13) ?_
  clear E H; clear a; clear w; rintro _ w ⟨v14, rfl, H⟩ a E
  refine wpList_nil ?_
  refine q_then ?_
  replace H : Sep w (Blk p7 76 [v14, .bool u12.2] :: Row 5 (kI .u8) v14 u12.1 :: Blk p4 26 [.int .i64 x1.View, .int .i64 x1.Normal, (.slice q5 x1.Log.length x6)] :: Fo) (rSl (kI .i64) v8 ([x1.View, x1.Normal] : List Int) :: rs) := H
  refine ⟨⟨_, _, H, (subO_cons (.tail _ (.tail _ (.head _))) (subO_nil)), (sub_nil)⟩, ?_⟩
  refine fr_nil ?_
  clear hI
  refine q_then ?_
  refine wp_seq ?_
  refine wp_region_lit ?_
  refine st_val E (wn rfl) rfl rfl (x_move E rfl rfl) ?_
  clear E; clear a; intro a E
  refine st_val E (wn rfl) rfl rfl (x_nil E rfl rfl) ?_
  clear E; clear a; intro a E
  refine st_val E (wn rfl) rfl rfl (x_fa E rfl rfl (v := .pointer (some ⟨p7, 0, none⟩)) (fa76_0 _ _)) ?_
  clear E; clear a; intro a E
  replace H : Sep w (Blk p7 76 [v14, .bool u12.2] :: Row 5 (kI .u8) v14 u12.1 :: Blk p4 26 [.int .i64 x1.View, .int .i64 x1.Normal, (.slice q5 x1.Log.length x6)] :: Fo) (rSl (kI .i64) v8 ([x1.View, x1.Normal] : List Int) :: rs) := H
  obtain ⟨u15, hx16, hm⟩ := bnd hm
  refine st_call E (wn rfl) rfl rfl (x_call E rfl rfl (cf32 _)) (c_pack_Writer_Bytes p7 v14 u12.1 u12.2 H hx16) ?_
  clear E H; clear a; clear w; rintro _ w ⟨v17, rfl, H⟩ a E
  refine st_val E (wn rfl) rfl rfl (x_ext E rfl rfl rfl) ?_
  clear E; clear a; intro a E
  refine st_val E (wn rfl) rfl rfl (x_ext E rfl rfl rfl) ?_
  clear E; clear a; intro a E
  refine st_val E (wn rfl) rfl rfl (x_assign E rfl rfl) ?_
  clear E; clear a; intro a E
  refine st_val E (wn rfl) rfl rfl (x_assign E rfl rfl) ?_
  clear E; clear a; intro a E
  refine wpList_nil ?_
  refine q_then ?_
  refine wp_ret ?_
  refine out2 E rfl rfl rfl ?_
  replace H := H.drop 1
  replace H := H.drop 1
  replace H := H.drop 1
  obtain rfl := Option.some.inj hm
  exact ⟨v17, rfl, H.reads (fun r hr => .tail _ (hr))⟩
end Go.Cb

set_option linter.unusedVariables false
set_option linter.unusedSimpArgs false
namespace Go.Cb
open Go.Proofs Go.RowKit
def m_cantonlaw17_head : Option Bool :=
  (m_letter_PutSaved (⟨1, 0, ([(ByteArray.mk #[97])] : List ByteArray)⟩ : S_api_Saved)).bind fun u4 => (m_letter_GetSaved u4.1).bind fun u7 => (m_letter_Put (⟨5, 0, 0, 0, 0, [], 7, (ByteArray.mk #[116])⟩ : S_api_Letter)).bind fun u13 => (m_letter_Get u13.1).bind fun u16 => (m_letter_PutAnswer (⟨0, 0, true, 0, [], (⟨[], []⟩ : S_api_Store), [], [], ([9] : List Int)⟩ : S_api_Answer)).bind fun u25 => (m_letter_GetAnswer u25.1).bind fun u28 => (m_letter_Put (⟨0, (-1), 0, 0, 0, [], 0, (ByteArray.mk #[])⟩ : S_api_Letter)).bind fun u49 => (m_letter_GetAnswer ([] : List Int)).bind fun u52 => if (u4.2 == 0) = true then (if (sEq (strOf u4.1) (ByteArray.mk #[1, 0, 1, 1, 97])) = true then (if (u7.2 == 0) = true then (if (u7.1.View == 1) = true then (if (u13.2 == 0) = true then (if (u16.2 == 0) = true then (if (sEq u16.1.Text (ByteArray.mk #[116])) = true then (if (u25.2 == 0) = true then (if (u28.2 == 0) = true then (if u28.1.Yes = true then (if ((u28.1.Wounded.length : Int) == 1) = true then (if (u49.2 == 1) = true then (some (u52.2 == 3)) else (some (false))) else (some (false))) else (some (false))) else (some (false))) else (some (false))) else (some (false))) else (some (false))) else (some (false))) else (some (false))) else (some (false))) else (some (false))) else (some (false))
set_option maxRecDepth 20000 in
set_option maxHeartbeats 1000000 in
theorem c_cantonlaw17_head {w : World} {Fo : List Ob} {rs : List Rp} (H : Sep w (Fo) rs) {r : Bool} (hm : m_cantonlaw17_head = some r) :
    Calls Try.prog 9 [].toArray w (Ret fun v w' => .bool r = v ∧ Sep w' (Fo) (rs)) := by
  unfold m_cantonlaw17_head at hm
  refine enter Try.func9 rfl Try.ntmps9 rfl fun a E => ?_
  simp only [enum, Nat.reduceAdd] at E
  refine wp_seq ?_
  refine wp_region_lit ?_
  refine st_val E (wn rfl) rfl rfl (x_assign E rfl rfl) ?_
  clear E; clear a; intro a E
  refine wpList_nil ?_
  refine q_then ?_
  refine wp_seq ?_
  refine wp_region_lit ?_
  refine st_bsO (e := 9) (d := kS) (cs := [.string (ByteArray.mk #[97])]) (xs := [(ByteArray.mk #[97])]) E H (wn rfl) rfl rfl (ps := [(0, .const (.string (ByteArray.mk #[97])))]) (parts := [(0, .string (ByteArray.mk #[97]))]) rfl (by simp only [List.map]; rw [E.eval (x := .const (.string (ByteArray.mk #[97]))) (v := .string (ByteArray.mk #[97])) rfl]) (by kernel_rfl) rfl rfl (fun ok hr => (Rows.single (d := kS) (cs := [.string (ByteArray.mk #[97])]) (x := (ByteArray.mk #[97])) rfl)) ?_
  clear E H; clear a; clear w; intro v1 w a H E
  obtain ⟨q2, x3, rfl⟩ := H.rowform (i := 0) rfl
  refine st_val E (wn rfl) rfl rfl (x_build E (ps := [(0, .const (.int .i64 1)), (2, .tmp 18)]) (vs := [(0, .int .i64 1), (2, (.slice q2 ([(ByteArray.mk #[97])] : List ByteArray).length x3))]) rfl (by simp only [List.map]; rw [E.eval (x := .const (.int .i64 1)) (v := .int .i64 1) rfl, E.eval (x := .tmp 18) (v := (.slice q2 ([(ByteArray.mk #[97])] : List ByteArray).length x3)) rfl]) (v := .agg #[.int .i64 1, .int .i64 0, (.slice q2 ([(ByteArray.mk #[97])] : List ByteArray).length x3)]) (by kernel_rfl)) ?_
  clear E; clear a; intro a E
  replace H := H.thaw (i := 0) rfl
  replace H : Sep w (Fo) (rSl kS (.slice q2 ([(ByteArray.mk #[97])] : List ByteArray).length x3) ([(ByteArray.mk #[97])] : List ByteArray) :: rs) := H
  obtain ⟨u4, hx5, hm⟩ := bnd hm
  refine st_call E (wn rfl) rfl rfl (x_call E rfl rfl (cf13 _)) (c_letter_PutSaved (⟨1, 0, ([(ByteArray.mk #[97])] : List ByteArray)⟩ : S_api_Saved) (.slice q2 ([(ByteArray.mk #[97])] : List ByteArray).length x3) H (.head _) hx5) ?_
  clear E H; clear a; clear w; rintro _ w ⟨v6, rfl, H⟩ a E
  refine st_val E (wn rfl) rfl rfl (x_move E rfl rfl) ?_
  clear E; clear a; intro a E
  refine st_val E (wn rfl) rfl rfl (x_ext E rfl rfl rfl) ?_
  clear E; clear a; intro a E
  refine st_val E (wn rfl) rfl rfl (x_ext E rfl rfl rfl) ?_
  clear E; clear a; intro a E
  refine st_val E (wn rfl) rfl rfl (x_assign E rfl rfl) ?_
  clear E; clear a; intro a E
  refine st_val E (wn rfl) rfl rfl (x_assign E rfl rfl) ?_
  clear E; clear a; intro a E
  refine wpList_nil ?_
  refine q_then ?_
  refine wp_seq ?_
  refine wp_region_lit ?_
  refine st_val E (wn rfl) rfl rfl (x_move E rfl rfl) ?_
  clear E; clear a; intro a E
  replace H := H.thaw (i := 0) rfl
  replace H : Sep w (Fo) (rSl (kI .u8) v6 u4.1 :: rSl kS (.slice q2 ([(ByteArray.mk #[97])] : List ByteArray).length x3) ([(ByteArray.mk #[97])] : List ByteArray) :: rs) := H
  obtain ⟨u7, hx8, hm⟩ := bnd hm
  refine st_call E (wn rfl) rfl rfl (x_call E rfl rfl (cf17 _)) (c_letter_GetSaved v6 u4.1 H (.head _) hx8) ?_
  clear E H; clear a; clear w; rintro _ w ⟨v9, rfl, H⟩ a E
  refine st_val E (wn rfl) rfl rfl (x_move E rfl rfl) ?_
  clear E; clear a; intro a E
  refine st_val E (wn rfl) rfl rfl (x_ext E rfl rfl rfl) ?_
  clear E; clear a; intro a E
  refine st_val E (wn rfl) rfl rfl (x_ext E rfl rfl rfl) ?_
  clear E; clear a; intro a E
  refine st_alloc E H (wn rfl) rfl rfl (cs := [.int .i64 0, .int .i64 0, .slice none 0 0]) rfl (z := .agg #[.int .i64 0, .int .i64 0, .slice none 0 0]) (by kernel_rfl) rfl ?_
  clear E H; clear a; clear w; intro p10 w a H E
  obtain ⟨q11, x12, rfl⟩ := H.slform (.head _)
  refine st_st (i := 0) E H (wn rfl) rfl (us := [.int .i64 u7.1.View, .int .i64 u7.1.Normal, (.slice q11 u7.1.Log.length x12)]) rfl rfl rfl rfl rfl sz26 rfl rfl ?_
  clear H; clear w; intro w H
  replace H : Sep w (Blk p10 26 [.int .i64 u7.1.View, .int .i64 u7.1.Normal, (.slice q11 u7.1.Log.length x12)] :: Fo) _ := H
  refine st_val E (wn rfl) rfl rfl (x_assign E rfl rfl) ?_
  clear E; clear a; intro a E
  refine wpList_nil ?_
  refine q_then ?_
  refine wp_seq ?_
  refine wp_region_lit ?_
  refine st_val E (wn rfl) rfl rfl (x_build E (ps := [(0, .const (.int .i64 5)), (6, .const (.int .i64 7)), (7, .const (.string (ByteArray.mk #[116])))]) (vs := [(0, .int .i64 5), (6, .int .i64 7), (7, .string (ByteArray.mk #[116]))]) rfl (by simp only [List.map]; rw [E.eval (x := .const (.int .i64 5)) (v := .int .i64 5) rfl, E.eval (x := .const (.int .i64 7)) (v := .int .i64 7) rfl, E.eval (x := .const (.string (ByteArray.mk #[116]))) (v := .string (ByteArray.mk #[116])) rfl]) (v := .agg #[.int .i64 5, .int .i64 0, .int .i64 0, .int .i64 0, .int .i64 0, .slice none 0 0, .int .i64 7, .string (ByteArray.mk #[116])]) (by kernel_rfl)) ?_
  clear E; clear a; intro a E
  replace H := H.nilSl kS
  replace H : Sep w (Blk p10 26 [.int .i64 u7.1.View, .int .i64 u7.1.Normal, (.slice q11 u7.1.Log.length x12)] :: Fo) (rSl kS (.slice none 0 0) ([] : List ByteArray) :: rSl kS (.slice q11 u7.1.Log.length x12) u7.1.Log :: rSl (kI .u8) v6 u4.1 :: rSl kS (.slice q2 ([(ByteArray.mk #[97])] : List ByteArray).length x3) ([(ByteArray.mk #[97])] : List ByteArray) :: rs) := H
  obtain ⟨u13, hx14, hm⟩ := bnd hm
  refine st_call E (wn rfl) rfl rfl (x_call E rfl rfl (cf11 _)) (c_letter_Put (⟨5, 0, 0, 0, 0, [], 7, (ByteArray.mk #[116])⟩ : S_api_Letter) (.slice none 0 0) H (.head _) hx14) ?_
  clear E H; clear a; clear w; rintro _ w ⟨v15, rfl, H⟩ a E
  refine st_val E (wn rfl) rfl rfl (x_move E rfl rfl) ?_
  clear E; clear a; intro a E
  refine st_val E (wn rfl) rfl rfl (x_ext E rfl rfl rfl) ?_
  clear E; clear a; intro a E
  refine st_val E (wn rfl) rfl rfl (x_ext E rfl rfl rfl) ?_
  clear E; clear a; intro a E
  refine st_val E (wn rfl) rfl rfl (x_assign E rfl rfl) ?_
  clear E; clear a; intro a E
  refine st_val E (wn rfl) rfl rfl (x_assign E rfl rfl) ?_
  clear E; clear a; intro a E
  refine wpList_nil ?_
  refine q_then ?_
  refine wp_seq ?_
  refine wp_region_lit ?_
  refine st_val E (wn rfl) rfl rfl (x_move E rfl rfl) ?_
  clear E; clear a; intro a E
  replace H := H.thaw (i := 0) rfl
  replace H : Sep w (Blk p10 26 [.int .i64 u7.1.View, .int .i64 u7.1.Normal, (.slice q11 u7.1.Log.length x12)] :: Fo) (rSl (kI .u8) v15 u13.1 :: rSl kS (.slice none 0 0) ([] : List ByteArray) :: rSl kS (.slice q11 u7.1.Log.length x12) u7.1.Log :: rSl (kI .u8) v6 u4.1 :: rSl kS (.slice q2 ([(ByteArray.mk #[97])] : List ByteArray).length x3) ([(ByteArray.mk #[97])] : List ByteArray) :: rs) := H
  obtain ⟨u16, hx17, hm⟩ := bnd hm
  refine st_call E (wn rfl) rfl rfl (x_call E rfl rfl (cf15 _)) (c_letter_Get v15 u13.1 H (.head _) hx17) ?_
  clear E H; clear a; clear w; rintro _ w ⟨v18, rfl, H⟩ a E
  refine st_val E (wn rfl) rfl rfl (x_move E rfl rfl) ?_
  clear E; clear a; intro a E
  refine st_val E (wn rfl) rfl rfl (x_ext E rfl rfl rfl) ?_
  clear E; clear a; intro a E
  refine st_val E (wn rfl) rfl rfl (x_ext E rfl rfl rfl) ?_
  clear E; clear a; intro a E
  refine st_alloc E H (wn rfl) rfl rfl (cs := [.int .i64 0, .int .i64 0, .int .i64 0, .int .i64 0, .int .i64 0, .slice none 0 0, .int .i64 0, .string (ByteArray.mk #[])]) rfl (z := .agg #[.int .i64 0, .int .i64 0, .int .i64 0, .int .i64 0, .int .i64 0, .slice none 0 0, .int .i64 0, .string ⟨#[]⟩]) (by kernel_rfl) rfl ?_
  clear E H; clear a; clear w; intro p19 w a H E
  obtain ⟨q20, x21, rfl⟩ := H.slform (.head _)
  refine st_st (i := 0) E H (wn rfl) rfl (us := [.int .i64 u16.1.Kind, .int .i64 u16.1.View, .int .i64 u16.1.Normal, .int .i64 u16.1.Len, .int .i64 u16.1.Stays, (.slice q20 u16.1.Log.length x21), .int .i64 u16.1.Num, .string u16.1.Text]) rfl rfl rfl rfl rfl sz24 rfl rfl ?_
  clear H; clear w; intro w H
  replace H : Sep w (Blk p19 24 [.int .i64 u16.1.Kind, .int .i64 u16.1.View, .int .i64 u16.1.Normal, .int .i64 u16.1.Len, .int .i64 u16.1.Stays, (.slice q20 u16.1.Log.length x21), .int .i64 u16.1.Num, .string u16.1.Text] :: Blk p10 26 [.int .i64 u7.1.View, .int .i64 u7.1.Normal, (.slice q11 u7.1.Log.length x12)] :: Fo) _ := H
  refine st_val E (wn rfl) rfl rfl (x_assign E rfl rfl) ?_
  clear E; clear a; intro a E
  refine wpList_nil ?_
  refine q_then ?_
  refine wp_seq ?_
  refine wp_region_lit ?_
  refine st_bsO (e := 2) (d := (kI .i64)) (cs := [.int .i64 9]) (xs := [9]) E H (wn rfl) rfl rfl (ps := [(0, .const (.int .i64 9))]) (parts := [(0, .int .i64 9)]) rfl (by simp only [List.map]; rw [E.eval (x := .const (.int .i64 9)) (v := .int .i64 9) rfl]) (by kernel_rfl) rfl rfl (fun ok hr => (Rows.single (d := (kI .i64)) (cs := [.int .i64 9]) (x := 9) rfl)) ?_
  clear E H; clear a; clear w; intro v22 w a H E
  obtain ⟨q23, x24, rfl⟩ := H.rowform (i := 0) rfl
  refine st_val E (wn rfl) rfl rfl (x_build E (ps := [(2, .const (.bool true)), (8, .tmp 39)]) (vs := [(2, .bool true), (8, (.slice q23 ([9] : List Int).length x24))]) rfl (by simp only [List.map]; rw [E.eval (x := .const (.bool true)) (v := .bool true) rfl, E.eval (x := .tmp 39) (v := (.slice q23 ([9] : List Int).length x24)) rfl]) (v := .agg #[.int .i64 0, .int .i64 0, .bool true, .int .i64 0, .slice none 0 0, .slice none 0 0, .slice none 0 0, .slice none 0 0, .slice none 0 0, (.slice q23 ([9] : List Int).length x24)]) (by kernel_rfl)) ?_
  clear E; clear a; intro a E
  replace H := H.thaw (i := 0) rfl
  replace H := H.nilSl k_api_Result
  replace H := H.nilSl k_api_Node
  replace H := H.nilSl k_api_Turn
  replace H := H.nilSl k_api_Event
  replace H := H.nilSl k_api_Mount
  replace H : Sep w (Blk p19 24 [.int .i64 u16.1.Kind, .int .i64 u16.1.View, .int .i64 u16.1.Normal, .int .i64 u16.1.Len, .int .i64 u16.1.Stays, (.slice q20 u16.1.Log.length x21), .int .i64 u16.1.Num, .string u16.1.Text] :: Blk p10 26 [.int .i64 u7.1.View, .int .i64 u7.1.Normal, (.slice q11 u7.1.Log.length x12)] :: Fo) (rSl k_api_Mount (.slice none 0 0) ([] : List S_api_Mount) :: rSl k_api_Event (.slice none 0 0) ([] : List S_api_Event) :: rSl k_api_Turn (.slice none 0 0) ([] : List S_api_Turn) :: rSl k_api_Node (.slice none 0 0) ([] : List S_api_Node) :: rSl k_api_Result (.slice none 0 0) ([] : List S_api_Result) :: rSl (kI .i64) (.slice q23 ([9] : List Int).length x24) ([9] : List Int) :: rSl kS (.slice q20 u16.1.Log.length x21) u16.1.Log :: rSl (kI .u8) v15 u13.1 :: rSl kS (.slice none 0 0) ([] : List ByteArray) :: rSl kS (.slice q11 u7.1.Log.length x12) u7.1.Log :: rSl (kI .u8) v6 u4.1 :: rSl kS (.slice q2 ([(ByteArray.mk #[97])] : List ByteArray).length x3) ([(ByteArray.mk #[97])] : List ByteArray) :: rs) := H
  obtain ⟨u25, hx26, hm⟩ := bnd hm
  refine st_call E (wn rfl) rfl rfl (x_call E rfl rfl (cf22 _)) (c_letter_PutAnswer (⟨0, 0, true, 0, [], (⟨[], []⟩ : S_api_Store), [], [], ([9] : List Int)⟩ : S_api_Answer) (.slice none 0 0) (.slice none 0 0) (.slice none 0 0) (.slice none 0 0) (.slice none 0 0) (.slice q23 ([9] : List Int).length x24) H (.tail _ (.tail _ (.tail _ (.tail _ (.head _))))) (.tail _ (.tail _ (.tail _ (.head _)))) (.tail _ (.tail _ (.head _))) (.tail _ (.head _)) (.head _) (.tail _ (.tail _ (.tail _ (.tail _ (.tail _ (.head _)))))) hx26) ?_
  clear E H; clear a; clear w; rintro _ w ⟨v27, rfl, H⟩ a E
  refine st_val E (wn rfl) rfl rfl (x_move E rfl rfl) ?_
  clear E; clear a; intro a E
  refine st_val E (wn rfl) rfl rfl (x_ext E rfl rfl rfl) ?_
  clear E; clear a; intro a E
  refine st_val E (wn rfl) rfl rfl (x_ext E rfl rfl rfl) ?_
  clear E; clear a; intro a E
  refine st_val E (wn rfl) rfl rfl (x_assign E rfl rfl) ?_
  clear E; clear a; intro a E
  refine st_val E (wn rfl) rfl rfl (x_assign E rfl rfl) ?_
  clear E; clear a; intro a E
  refine wpList_nil ?_
  refine q_then ?_
  refine wp_seq ?_
  refine wp_region_lit ?_
  refine st_val E (wn rfl) rfl rfl (x_move E rfl rfl) ?_
  clear E; clear a; intro a E
  replace H := H.thaw (i := 0) rfl
  replace H : Sep w (Blk p19 24 [.int .i64 u16.1.Kind, .int .i64 u16.1.View, .int .i64 u16.1.Normal, .int .i64 u16.1.Len, .int .i64 u16.1.Stays, (.slice q20 u16.1.Log.length x21), .int .i64 u16.1.Num, .string u16.1.Text] :: Blk p10 26 [.int .i64 u7.1.View, .int .i64 u7.1.Normal, (.slice q11 u7.1.Log.length x12)] :: Fo) (rSl (kI .u8) v27 u25.1 :: rSl k_api_Mount (.slice none 0 0) ([] : List S_api_Mount) :: rSl k_api_Event (.slice none 0 0) ([] : List S_api_Event) :: rSl k_api_Turn (.slice none 0 0) ([] : List S_api_Turn) :: rSl k_api_Node (.slice none 0 0) ([] : List S_api_Node) :: rSl k_api_Result (.slice none 0 0) ([] : List S_api_Result) :: rSl (kI .i64) (.slice q23 ([9] : List Int).length x24) ([9] : List Int) :: rSl kS (.slice q20 u16.1.Log.length x21) u16.1.Log :: rSl (kI .u8) v15 u13.1 :: rSl kS (.slice none 0 0) ([] : List ByteArray) :: rSl kS (.slice q11 u7.1.Log.length x12) u7.1.Log :: rSl (kI .u8) v6 u4.1 :: rSl kS (.slice q2 ([(ByteArray.mk #[97])] : List ByteArray).length x3) ([(ByteArray.mk #[97])] : List ByteArray) :: rs) := H
  obtain ⟨u28, hx29, hm⟩ := bnd hm
  refine st_call E (wn rfl) rfl rfl (x_call E rfl rfl (cf24 _)) (c_letter_GetAnswer v27 u25.1 H (.head _) hx29) ?_
  clear E H; clear a; clear w; rintro _ w ⟨v30, v31, v32, v33, v34, v35, rfl, H⟩ a E
  refine st_val E (wn rfl) rfl rfl (x_move E rfl rfl) ?_
  clear E; clear a; intro a E
  refine st_val E (wn rfl) rfl rfl (x_ext E rfl rfl rfl) ?_
  clear E; clear a; intro a E
  refine st_val E (wn rfl) rfl rfl (x_ext E rfl rfl rfl) ?_
  clear E; clear a; intro a E
  refine st_alloc E H (wn rfl) rfl rfl (cs := [.int .i64 0, .int .i64 0, .bool false, .int .i64 0, .slice none 0 0, .slice none 0 0, .slice none 0 0, .slice none 0 0, .slice none 0 0, .slice none 0 0]) rfl (z := .agg #[.int .i64 0, .int .i64 0, .bool false, .int .i64 0, .slice none 0 0, .slice none 0 0, .slice none 0 0, .slice none 0 0, .slice none 0 0, .slice none 0 0]) (by kernel_rfl) rfl ?_
  clear E H; clear a; clear w; intro p36 w a H E
  obtain ⟨q37, x38, rfl⟩ := H.slform (.head _)
  obtain ⟨q39, x40, rfl⟩ := H.slform (.tail _ (.head _))
  obtain ⟨q41, x42, rfl⟩ := H.slform (.tail _ (.tail _ (.head _)))
  obtain ⟨q43, x44, rfl⟩ := H.slform (.tail _ (.tail _ (.tail _ (.head _))))
  obtain ⟨q45, x46, rfl⟩ := H.slform (.tail _ (.tail _ (.tail _ (.tail _ (.head _)))))
  obtain ⟨q47, x48, rfl⟩ := H.slform (.tail _ (.tail _ (.tail _ (.tail _ (.tail _ (.head _))))))
  refine st_st (i := 0) E H (wn rfl) rfl (us := [.int .i64 u28.1.Err, .int .i64 u28.1.At, .bool u28.1.Yes, .int .i64 u28.1.Epoch, (.slice q37 u28.1.Results.length x38), (.slice q39 u28.1.Store.Nodes.length x40), (.slice q41 u28.1.Store.Turns.length x42), (.slice q43 u28.1.Events.length x44), (.slice q45 u28.1.Mounts.length x46), (.slice q47 u28.1.Wounded.length x48)]) rfl rfl rfl rfl rfl sz50 rfl rfl ?_
  clear H; clear w; intro w H
  replace H : Sep w (Blk p36 50 [.int .i64 u28.1.Err, .int .i64 u28.1.At, .bool u28.1.Yes, .int .i64 u28.1.Epoch, (.slice q37 u28.1.Results.length x38), (.slice q39 u28.1.Store.Nodes.length x40), (.slice q41 u28.1.Store.Turns.length x42), (.slice q43 u28.1.Events.length x44), (.slice q45 u28.1.Mounts.length x46), (.slice q47 u28.1.Wounded.length x48)] :: Blk p19 24 [.int .i64 u16.1.Kind, .int .i64 u16.1.View, .int .i64 u16.1.Normal, .int .i64 u16.1.Len, .int .i64 u16.1.Stays, (.slice q20 u16.1.Log.length x21), .int .i64 u16.1.Num, .string u16.1.Text] :: Blk p10 26 [.int .i64 u7.1.View, .int .i64 u7.1.Normal, (.slice q11 u7.1.Log.length x12)] :: Fo) _ := H
  refine st_val E (wn rfl) rfl rfl (x_assign E rfl rfl) ?_
  clear E; clear a; intro a E
  refine wpList_nil ?_
  refine q_then ?_
  refine wp_seq ?_
  refine wp_region_lit ?_
  refine st_val E (wn rfl) rfl rfl (x_build E (ps := [(1, .const (.int .i64 (-1)))]) (vs := [(1, .int .i64 (-1))]) rfl (by simp only [List.map]; rw [E.eval (x := .const (.int .i64 (-1))) (v := .int .i64 (-1)) rfl]) (v := .agg #[.int .i64 0, .int .i64 (-1), .int .i64 0, .int .i64 0, .int .i64 0, .slice none 0 0, .int .i64 0, .string (ByteArray.mk #[])]) (by kernel_rfl)) ?_
  clear E; clear a; intro a E
  replace H := H.nilSl kS
  replace H : Sep w (Blk p36 50 [.int .i64 u28.1.Err, .int .i64 u28.1.At, .bool u28.1.Yes, .int .i64 u28.1.Epoch, (.slice q37 u28.1.Results.length x38), (.slice q39 u28.1.Store.Nodes.length x40), (.slice q41 u28.1.Store.Turns.length x42), (.slice q43 u28.1.Events.length x44), (.slice q45 u28.1.Mounts.length x46), (.slice q47 u28.1.Wounded.length x48)] :: Blk p19 24 [.int .i64 u16.1.Kind, .int .i64 u16.1.View, .int .i64 u16.1.Normal, .int .i64 u16.1.Len, .int .i64 u16.1.Stays, (.slice q20 u16.1.Log.length x21), .int .i64 u16.1.Num, .string u16.1.Text] :: Blk p10 26 [.int .i64 u7.1.View, .int .i64 u7.1.Normal, (.slice q11 u7.1.Log.length x12)] :: Fo) (rSl kS (.slice none 0 0) ([] : List ByteArray) :: rSl k_api_Result (.slice q37 u28.1.Results.length x38) u28.1.Results :: rSl k_api_Node (.slice q39 u28.1.Store.Nodes.length x40) u28.1.Store.Nodes :: rSl k_api_Turn (.slice q41 u28.1.Store.Turns.length x42) u28.1.Store.Turns :: rSl k_api_Event (.slice q43 u28.1.Events.length x44) u28.1.Events :: rSl k_api_Mount (.slice q45 u28.1.Mounts.length x46) u28.1.Mounts :: rSl (kI .i64) (.slice q47 u28.1.Wounded.length x48) u28.1.Wounded :: rSl (kI .u8) v27 u25.1 :: rSl k_api_Mount (.slice none 0 0) ([] : List S_api_Mount) :: rSl k_api_Event (.slice none 0 0) ([] : List S_api_Event) :: rSl k_api_Turn (.slice none 0 0) ([] : List S_api_Turn) :: rSl k_api_Node (.slice none 0 0) ([] : List S_api_Node) :: rSl k_api_Result (.slice none 0 0) ([] : List S_api_Result) :: rSl (kI .i64) (.slice q23 ([9] : List Int).length x24) ([9] : List Int) :: rSl kS (.slice q20 u16.1.Log.length x21) u16.1.Log :: rSl (kI .u8) v15 u13.1 :: rSl kS (.slice none 0 0) ([] : List ByteArray) :: rSl kS (.slice q11 u7.1.Log.length x12) u7.1.Log :: rSl (kI .u8) v6 u4.1 :: rSl kS (.slice q2 ([(ByteArray.mk #[97])] : List ByteArray).length x3) ([(ByteArray.mk #[97])] : List ByteArray) :: rs) := H
  obtain ⟨u49, hx50, hm⟩ := bnd hm
  refine st_call E (wn rfl) rfl rfl (x_call E rfl rfl (cf11 _)) (c_letter_Put (⟨0, (-1), 0, 0, 0, [], 0, (ByteArray.mk #[])⟩ : S_api_Letter) (.slice none 0 0) H (.head _) hx50) ?_
  clear E H; clear a; clear w; rintro _ w ⟨v51, rfl, H⟩ a E
  refine st_val E (wn rfl) rfl rfl (x_move E rfl rfl) ?_
  clear E; clear a; intro a E
  refine st_val E (wn rfl) rfl rfl (x_ext E rfl rfl rfl) ?_
  clear E; clear a; intro a E
  refine st_val E (wn rfl) rfl rfl (x_ext E rfl rfl rfl) ?_
  clear E; clear a; intro a E
  refine st_val E (wn rfl) rfl rfl (x_assign E rfl rfl) ?_
  clear E; clear a; intro a E
  refine st_val E (wn rfl) rfl rfl (x_assign E rfl rfl) ?_
  clear E; clear a; intro a E
  refine wpList_nil ?_
  refine q_then ?_
  refine wp_seq ?_
  refine wp_region_lit ?_
  replace H := H.nilSl (kI .u8)
  replace H : Sep w (Row 5 (kI .u8) v51 u49.1 :: Blk p36 50 [.int .i64 u28.1.Err, .int .i64 u28.1.At, .bool u28.1.Yes, .int .i64 u28.1.Epoch, (.slice q37 u28.1.Results.length x38), (.slice q39 u28.1.Store.Nodes.length x40), (.slice q41 u28.1.Store.Turns.length x42), (.slice q43 u28.1.Events.length x44), (.slice q45 u28.1.Mounts.length x46), (.slice q47 u28.1.Wounded.length x48)] :: Blk p19 24 [.int .i64 u16.1.Kind, .int .i64 u16.1.View, .int .i64 u16.1.Normal, .int .i64 u16.1.Len, .int .i64 u16.1.Stays, (.slice q20 u16.1.Log.length x21), .int .i64 u16.1.Num, .string u16.1.Text] :: Blk p10 26 [.int .i64 u7.1.View, .int .i64 u7.1.Normal, (.slice q11 u7.1.Log.length x12)] :: Fo) (rSl (kI .u8) (.slice none 0 0) ([] : List Int) :: rSl kS (.slice none 0 0) ([] : List ByteArray) :: rSl k_api_Result (.slice q37 u28.1.Results.length x38) u28.1.Results :: rSl k_api_Node (.slice q39 u28.1.Store.Nodes.length x40) u28.1.Store.Nodes :: rSl k_api_Turn (.slice q41 u28.1.Store.Turns.length x42) u28.1.Store.Turns :: rSl k_api_Event (.slice q43 u28.1.Events.length x44) u28.1.Events :: rSl k_api_Mount (.slice q45 u28.1.Mounts.length x46) u28.1.Mounts :: rSl (kI .i64) (.slice q47 u28.1.Wounded.length x48) u28.1.Wounded :: rSl (kI .u8) v27 u25.1 :: rSl k_api_Mount (.slice none 0 0) ([] : List S_api_Mount) :: rSl k_api_Event (.slice none 0 0) ([] : List S_api_Event) :: rSl k_api_Turn (.slice none 0 0) ([] : List S_api_Turn) :: rSl k_api_Node (.slice none 0 0) ([] : List S_api_Node) :: rSl k_api_Result (.slice none 0 0) ([] : List S_api_Result) :: rSl (kI .i64) (.slice q23 ([9] : List Int).length x24) ([9] : List Int) :: rSl kS (.slice q20 u16.1.Log.length x21) u16.1.Log :: rSl (kI .u8) v15 u13.1 :: rSl kS (.slice none 0 0) ([] : List ByteArray) :: rSl kS (.slice q11 u7.1.Log.length x12) u7.1.Log :: rSl (kI .u8) v6 u4.1 :: rSl kS (.slice q2 ([(ByteArray.mk #[97])] : List ByteArray).length x3) ([(ByteArray.mk #[97])] : List ByteArray) :: rs) := H
  obtain ⟨u52, hx53, hm⟩ := bnd hm
  refine st_call E (wn rfl) rfl rfl (x_call E rfl rfl (cf24 _)) (c_letter_GetAnswer (.slice none 0 0) ([] : List Int) H (.head _) hx53) ?_
  clear E H; clear a; clear w; rintro _ w ⟨v54, v55, v56, v57, v58, v59, rfl, H⟩ a E
  refine st_val E (wn rfl) rfl rfl (x_move E rfl rfl) ?_
  clear E; clear a; intro a E
  refine st_val E (wn rfl) rfl rfl (x_ext E rfl rfl rfl) ?_
  clear E; clear a; intro a E
  refine st_val E (wn rfl) rfl rfl (x_ext E rfl rfl rfl) ?_
  clear E; clear a; intro a E
  refine st_alloc E H (wn rfl) rfl rfl (cs := [.int .i64 0, .int .i64 0, .bool false, .int .i64 0, .slice none 0 0, .slice none 0 0, .slice none 0 0, .slice none 0 0, .slice none 0 0, .slice none 0 0]) rfl (z := .agg #[.int .i64 0, .int .i64 0, .bool false, .int .i64 0, .slice none 0 0, .slice none 0 0, .slice none 0 0, .slice none 0 0, .slice none 0 0, .slice none 0 0]) (by kernel_rfl) rfl ?_
  clear E H; clear a; clear w; intro p60 w a H E
  obtain ⟨q61, x62, rfl⟩ := H.slform (.head _)
  obtain ⟨q63, x64, rfl⟩ := H.slform (.tail _ (.head _))
  obtain ⟨q65, x66, rfl⟩ := H.slform (.tail _ (.tail _ (.head _)))
  obtain ⟨q67, x68, rfl⟩ := H.slform (.tail _ (.tail _ (.tail _ (.head _))))
  obtain ⟨q69, x70, rfl⟩ := H.slform (.tail _ (.tail _ (.tail _ (.tail _ (.head _)))))
  obtain ⟨q71, x72, rfl⟩ := H.slform (.tail _ (.tail _ (.tail _ (.tail _ (.tail _ (.head _))))))
  refine st_st (i := 0) E H (wn rfl) rfl (us := [.int .i64 u52.1.Err, .int .i64 u52.1.At, .bool u52.1.Yes, .int .i64 u52.1.Epoch, (.slice q61 u52.1.Results.length x62), (.slice q63 u52.1.Store.Nodes.length x64), (.slice q65 u52.1.Store.Turns.length x66), (.slice q67 u52.1.Events.length x68), (.slice q69 u52.1.Mounts.length x70), (.slice q71 u52.1.Wounded.length x72)]) rfl rfl rfl rfl rfl sz50 rfl rfl ?_
  clear H; clear w; intro w H
  replace H : Sep w (Blk p60 50 [.int .i64 u52.1.Err, .int .i64 u52.1.At, .bool u52.1.Yes, .int .i64 u52.1.Epoch, (.slice q61 u52.1.Results.length x62), (.slice q63 u52.1.Store.Nodes.length x64), (.slice q65 u52.1.Store.Turns.length x66), (.slice q67 u52.1.Events.length x68), (.slice q69 u52.1.Mounts.length x70), (.slice q71 u52.1.Wounded.length x72)] :: Row 5 (kI .u8) v51 u49.1 :: Blk p36 50 [.int .i64 u28.1.Err, .int .i64 u28.1.At, .bool u28.1.Yes, .int .i64 u28.1.Epoch, (.slice q37 u28.1.Results.length x38), (.slice q39 u28.1.Store.Nodes.length x40), (.slice q41 u28.1.Store.Turns.length x42), (.slice q43 u28.1.Events.length x44), (.slice q45 u28.1.Mounts.length x46), (.slice q47 u28.1.Wounded.length x48)] :: Blk p19 24 [.int .i64 u16.1.Kind, .int .i64 u16.1.View, .int .i64 u16.1.Normal, .int .i64 u16.1.Len, .int .i64 u16.1.Stays, (.slice q20 u16.1.Log.length x21), .int .i64 u16.1.Num, .string u16.1.Text] :: Blk p10 26 [.int .i64 u7.1.View, .int .i64 u7.1.Normal, (.slice q11 u7.1.Log.length x12)] :: Fo) _ := H
  refine st_val E (wn rfl) rfl rfl (x_assign E rfl rfl) ?_
  clear E; clear a; intro a E
  refine wpList_nil ?_
  refine q_then ?_
  refine wp_seq ?_
  refine wp_region_lit ?_
  refine st_val E (wn rfl) rfl rfl (x_move E rfl rfl) ?_
  clear E; clear a; intro a E
  refine st_val E (wn rfl) rfl rfl (x_bin E rfl rfl rfl rfl) ?_
  clear E; clear a; intro a E
  refine st_val E (wn rfl) rfl rfl (x_move E rfl rfl) ?_
  clear E; clear a; intro a E
  rcases Bool.eq_false_or_eq_true (u4.2 == 0) with hb73 | hb73
  · rw [if_t hb73] at hm
    refine st_val E (ws' E rfl rfl rfl rfl hb73) rfl rfl (x_move E rfl rfl) ?_
    clear E; clear a; intro a E
    refine st_val E (ws' E rfl rfl rfl rfl hb73) rfl rfl (x_b2s E H rfl rfl (.tail _ (.tail _ (.tail _ (.tail _ (.tail _ (.tail _ (.tail _ (.tail _ (.tail _ (.tail _ (.tail _ (.tail _ (.tail _ (.tail _ (.tail _ (.tail _ (.tail _ (.tail _ (.tail _ (.tail _ (.tail _ (.tail _ (.tail _ (.tail _ (.tail _ (.head _)))))))))))))))))))))))))) Try.underlying27 Try.underlying5 Try.underlying9) ?_
    clear E; clear a; intro a E
    refine st_val E (ws' E rfl rfl rfl rfl hb73) rfl rfl (x_str E rfl rfl rfl rfl) ?_
    clear E; clear a; intro a E
    refine st_val E (wn rfl) rfl rfl (x_pickT E rfl rfl hb73 rfl) ?_
    clear E; clear a; intro a E
    refine st_val E (wn rfl) rfl rfl (x_move E rfl rfl) ?_
    clear E; clear a; intro a E
    rcases Bool.eq_false_or_eq_true (sEq (strOf u4.1) (ByteArray.mk #[1, 0, 1, 1, 97])) with hb74 | hb74
    · rw [if_t hb74] at hm
      refine st_val E (ws' E rfl rfl rfl rfl hb74) rfl rfl (x_move E rfl rfl) ?_
      clear E; clear a; intro a E
      refine st_val E (ws' E rfl rfl rfl rfl hb74) rfl rfl (x_bin E rfl rfl rfl rfl) ?_
      clear E; clear a; intro a E
      refine st_val E (wn rfl) rfl rfl (x_pickT E rfl rfl hb74 rfl) ?_
      clear E; clear a; intro a E
      refine st_val E (wn rfl) rfl rfl (x_move E rfl rfl) ?_
      clear E; clear a; intro a E
      rcases Bool.eq_false_or_eq_true (u7.2 == 0) with hb75 | hb75
      · rw [if_t hb75] at hm
        refine st_val E (ws' E rfl rfl rfl rfl hb75) rfl rfl (x_fa E rfl rfl (v := .pointer (some ⟨p10, 0, none⟩)) (fa26_0 _ _)) ?_
        clear E; clear a; intro a E
        refine st_val E (ws' E rfl rfl rfl rfl hb75) rfl rfl (x_ldB (i := 4) E H rfl rfl rfl rfl Try.underlying2 rfl) ?_
        clear E; clear a; intro a E
        refine st_val E (ws' E rfl rfl rfl rfl hb75) rfl rfl (x_bin E rfl rfl rfl rfl) ?_
        clear E; clear a; intro a E
        refine st_val E (wn rfl) rfl rfl (x_pickT E rfl rfl hb75 rfl) ?_
        clear E; clear a; intro a E
        refine st_val E (wn rfl) rfl rfl (x_move E rfl rfl) ?_
        clear E; clear a; intro a E
        rcases Bool.eq_false_or_eq_true (u7.1.View == 1) with hb76 | hb76
        · rw [if_t hb76] at hm
          refine st_val E (ws' E rfl rfl rfl rfl hb76) rfl rfl (x_move E rfl rfl) ?_
          clear E; clear a; intro a E
          refine st_val E (ws' E rfl rfl rfl rfl hb76) rfl rfl (x_bin E rfl rfl rfl rfl) ?_
          clear E; clear a; intro a E
          refine st_val E (wn rfl) rfl rfl (x_pickT E rfl rfl hb76 rfl) ?_
          clear E; clear a; intro a E
          refine st_val E (wn rfl) rfl rfl (x_move E rfl rfl) ?_
          clear E; clear a; intro a E
          rcases Bool.eq_false_or_eq_true (u13.2 == 0) with hb77 | hb77
          · rw [if_t hb77] at hm
            refine st_val E (ws' E rfl rfl rfl rfl hb77) rfl rfl (x_move E rfl rfl) ?_
            clear E; clear a; intro a E
            refine st_val E (ws' E rfl rfl rfl rfl hb77) rfl rfl (x_bin E rfl rfl rfl rfl) ?_
            clear E; clear a; intro a E
            refine st_val E (wn rfl) rfl rfl (x_pickT E rfl rfl hb77 rfl) ?_
            clear E; clear a; intro a E
            refine st_val E (wn rfl) rfl rfl (x_move E rfl rfl) ?_
            clear E; clear a; intro a E
            rcases Bool.eq_false_or_eq_true (u16.2 == 0) with hb78 | hb78
            · rw [if_t hb78] at hm
              refine st_val E (ws' E rfl rfl rfl rfl hb78) rfl rfl (x_fa E rfl rfl (v := .pointer (some ⟨p19, 7, none⟩)) (fa24_7 _ _)) ?_
              clear E; clear a; intro a E
              refine st_val E (ws' E rfl rfl rfl rfl hb78) rfl rfl (x_ldB (i := 3) E H rfl rfl rfl rfl Try.underlying9 rfl) ?_
              clear E; clear a; intro a E
              refine st_val E (ws' E rfl rfl rfl rfl hb78) rfl rfl (x_str E rfl rfl rfl rfl) ?_
              clear E; clear a; intro a E
              refine st_val E (wn rfl) rfl rfl (x_pickT E rfl rfl hb78 rfl) ?_
              clear E; clear a; intro a E
              refine st_val E (wn rfl) rfl rfl (x_move E rfl rfl) ?_
              clear E; clear a; intro a E
              rcases Bool.eq_false_or_eq_true (sEq u16.1.Text (ByteArray.mk #[116])) with hb79 | hb79
              · rw [if_t hb79] at hm
                refine st_val E (ws' E rfl rfl rfl rfl hb79) rfl rfl (x_move E rfl rfl) ?_
                clear E; clear a; intro a E
                refine st_val E (ws' E rfl rfl rfl rfl hb79) rfl rfl (x_bin E rfl rfl rfl rfl) ?_
                clear E; clear a; intro a E
                refine st_val E (wn rfl) rfl rfl (x_pickT E rfl rfl hb79 rfl) ?_
                clear E; clear a; intro a E
                refine st_val E (wn rfl) rfl rfl (x_move E rfl rfl) ?_
                clear E; clear a; intro a E
                rcases Bool.eq_false_or_eq_true (u25.2 == 0) with hb80 | hb80
                · rw [if_t hb80] at hm
                  refine st_val E (ws' E rfl rfl rfl rfl hb80) rfl rfl (x_move E rfl rfl) ?_
                  clear E; clear a; intro a E
                  refine st_val E (ws' E rfl rfl rfl rfl hb80) rfl rfl (x_bin E rfl rfl rfl rfl) ?_
                  clear E; clear a; intro a E
                  refine st_val E (wn rfl) rfl rfl (x_pickT E rfl rfl hb80 rfl) ?_
                  clear E; clear a; intro a E
                  refine st_val E (wn rfl) rfl rfl (x_move E rfl rfl) ?_
                  clear E; clear a; intro a E
                  rcases Bool.eq_false_or_eq_true (u28.2 == 0) with hb81 | hb81
                  · rw [if_t hb81] at hm
                    refine st_val E (ws' E rfl rfl rfl rfl hb81) rfl rfl (x_fa E rfl rfl (v := .pointer (some ⟨p36, 2, none⟩)) (fa50_2 _ _)) ?_
                    clear E; clear a; intro a E
                    refine st_val E (ws' E rfl rfl rfl rfl hb81) rfl rfl (x_ldB (i := 2) E H rfl rfl rfl rfl Try.underlying4 rfl) ?_
                    clear E; clear a; intro a E
                    refine st_val E (wn rfl) rfl rfl (x_pickT E rfl rfl hb81 rfl) ?_
                    clear E; clear a; intro a E
                    refine st_val E (wn rfl) rfl rfl (x_move E rfl rfl) ?_
                    clear E; clear a; intro a E
                    rcases Bool.eq_false_or_eq_true u28.1.Yes with hb82 | hb82
                    · rw [if_t hb82] at hm
                      refine st_val E (ws' E rfl rfl rfl rfl hb82) rfl rfl (x_fa E rfl rfl (v := .pointer (some ⟨p36, 9, none⟩)) (fa50_8 _ _)) ?_
                      clear E; clear a; intro a E
                      refine st_val E (ws' E rfl rfl rfl rfl hb82) rfl rfl (x_ldB (i := 2) E H rfl rfl rfl rfl Try.underlying48 rfl) ?_
                      clear E; clear a; intro a E
                      refine st_val E (ws' E rfl rfl rfl rfl hb82) rfl rfl (x_lenS E H rfl rfl (.tail _ (.tail _ (.tail _ (.tail _ (.tail _ (.tail _ (.tail _ (.tail _ (.tail _ (.tail _ (.tail _ (.tail _ (.tail _ (.head _)))))))))))))) Try.underlying48) ?_
                      clear E; clear a; intro a E
                      refine st_val E (ws' E rfl rfl rfl rfl hb82) rfl rfl (x_bin E rfl rfl rfl rfl) ?_
                      clear E; clear a; intro a E
                      refine st_val E (wn rfl) rfl rfl (x_pickT E rfl rfl hb82 rfl) ?_
                      clear E; clear a; intro a E
                      refine st_val E (wn rfl) rfl rfl (x_move E rfl rfl) ?_
                      clear E; clear a; intro a E
                      rcases Bool.eq_false_or_eq_true ((u28.1.Wounded.length : Int) == 1) with hb83 | hb83
                      · rw [if_t hb83] at hm
                        refine st_val E (ws' E rfl rfl rfl rfl hb83) rfl rfl (x_move E rfl rfl) ?_
                        clear E; clear a; intro a E
                        refine st_val E (ws' E rfl rfl rfl rfl hb83) rfl rfl (x_bin E rfl rfl rfl rfl) ?_
                        clear E; clear a; intro a E
                        refine st_val E (wn rfl) rfl rfl (x_pickT E rfl rfl hb83 rfl) ?_
                        clear E; clear a; intro a E
                        refine st_val E (wn rfl) rfl rfl (x_move E rfl rfl) ?_
                        clear E; clear a; intro a E
                        rcases Bool.eq_false_or_eq_true (u49.2 == 1) with hb84 | hb84
                        · rw [if_t hb84] at hm
                          refine st_val E (ws' E rfl rfl rfl rfl hb84) rfl rfl (x_move E rfl rfl) ?_
                          clear E; clear a; intro a E
                          refine st_val E (ws' E rfl rfl rfl rfl hb84) rfl rfl (x_bin E rfl rfl rfl rfl) ?_
                          clear E; clear a; intro a E
                          refine st_val E (wn rfl) rfl rfl (x_pickT E rfl rfl hb84 rfl) ?_
                          clear E; clear a; intro a E
                          refine st_val E (wn rfl) rfl rfl (x_assign E rfl rfl) ?_
                          clear E; clear a; intro a E
                          refine wpList_nil ?_
                          refine q_then ?_
                          refine wp_ret ?_
                          refine out1 E rfl rfl ?_
                          replace H := H.drop 0
                          replace H := H.drop 0
                          replace H := H.drop 0
                          replace H := H.drop 0
                          replace H := H.drop 0
                          obtain rfl := Option.some.inj hm
                          exact ⟨rfl, H.reads (fun r hr => .tail _ (.tail _ (.tail _ (.tail _ (.tail _ (.tail _ (.tail _ (.tail _ (.tail _ (.tail _ (.tail _ (.tail _ (.tail _ (.tail _ (.tail _ (.tail _ (.tail _ (.tail _ (.tail _ (.tail _ (.tail _ (.tail _ (.tail _ (.tail _ (.tail _ (.tail _ (.tail _ (hr))))))))))))))))))))))))))))⟩
                        · rw [if_f hb84] at hm
                          refine st_no E (wf' E rfl rfl rfl rfl hb84 rfl) rfl rfl ?_
                          clear E; clear a; intro a E
                          refine st_no E (wf' E rfl rfl rfl rfl hb84 rfl) rfl rfl ?_
                          clear E; clear a; intro a E
                          refine st_val E (wn rfl) rfl rfl (x_pickF E rfl rfl hb84 rfl) ?_
                          clear E; clear a; intro a E
                          refine st_val E (wn rfl) rfl rfl (x_assign E rfl rfl) ?_
                          clear E; clear a; intro a E
                          refine wpList_nil ?_
                          refine q_then ?_
                          refine wp_ret ?_
                          refine out1 E rfl rfl ?_
                          replace H := H.drop 0
                          replace H := H.drop 0
                          replace H := H.drop 0
                          replace H := H.drop 0
                          replace H := H.drop 0
                          obtain rfl := Option.some.inj hm
                          exact ⟨rfl, H.reads (fun r hr => .tail _ (.tail _ (.tail _ (.tail _ (.tail _ (.tail _ (.tail _ (.tail _ (.tail _ (.tail _ (.tail _ (.tail _ (.tail _ (.tail _ (.tail _ (.tail _ (.tail _ (.tail _ (.tail _ (.tail _ (.tail _ (.tail _ (.tail _ (.tail _ (.tail _ (.tail _ (.tail _ (hr))))))))))))))))))))))))))))⟩
                      · rw [if_f hb83] at hm
                        refine st_no E (wf' E rfl rfl rfl rfl hb83 rfl) rfl rfl ?_
                        clear E; clear a; intro a E
                        refine st_no E (wf' E rfl rfl rfl rfl hb83 rfl) rfl rfl ?_
                        clear E; clear a; intro a E
                        refine st_val E (wn rfl) rfl rfl (x_pickF E rfl rfl hb83 rfl) ?_
                        clear E; clear a; intro a E
                        refine st_val E (wn rfl) rfl rfl (x_move E rfl rfl) ?_
                        clear E; clear a; intro a E
                        refine st_no E (wf E rfl rfl rfl rfl rfl) rfl rfl ?_
                        clear E; clear a; intro a E
                        refine st_no E (wf E rfl rfl rfl rfl rfl) rfl rfl ?_
                        clear E; clear a; intro a E
                        refine st_val E (wn rfl) rfl rfl (x_pickF E rfl rfl rfl rfl) ?_
                        clear E; clear a; intro a E
                        refine st_val E (wn rfl) rfl rfl (x_assign E rfl rfl) ?_
                        clear E; clear a; intro a E
                        refine wpList_nil ?_
                        refine q_then ?_
                        refine wp_ret ?_
                        refine out1 E rfl rfl ?_
                        replace H := H.drop 0
                        replace H := H.drop 0
                        replace H := H.drop 0
                        replace H := H.drop 0
                        replace H := H.drop 0
                        obtain rfl := Option.some.inj hm
                        exact ⟨rfl, H.reads (fun r hr => .tail _ (.tail _ (.tail _ (.tail _ (.tail _ (.tail _ (.tail _ (.tail _ (.tail _ (.tail _ (.tail _ (.tail _ (.tail _ (.tail _ (.tail _ (.tail _ (.tail _ (.tail _ (.tail _ (.tail _ (.tail _ (.tail _ (.tail _ (.tail _ (.tail _ (.tail _ (.tail _ (hr))))))))))))))))))))))))))))⟩
                    · rw [if_f hb82] at hm
                      refine st_no E (wf' E rfl rfl rfl rfl hb82 rfl) rfl rfl ?_
                      clear E; clear a; intro a E
                      refine st_no E (wf' E rfl rfl rfl rfl hb82 rfl) rfl rfl ?_
                      clear E; clear a; intro a E
                      refine st_no E (wf' E rfl rfl rfl rfl hb82 rfl) rfl rfl ?_
                      clear E; clear a; intro a E
                      refine st_no E (wf' E rfl rfl rfl rfl hb82 rfl) rfl rfl ?_
                      clear E; clear a; intro a E
                      refine st_val E (wn rfl) rfl rfl (x_pickF E rfl rfl hb82 rfl) ?_
                      clear E; clear a; intro a E
                      refine st_val E (wn rfl) rfl rfl (x_move E rfl rfl) ?_
                      clear E; clear a; intro a E
                      refine st_no E (wf E rfl rfl rfl rfl rfl) rfl rfl ?_
                      clear E; clear a; intro a E
                      refine st_no E (wf E rfl rfl rfl rfl rfl) rfl rfl ?_
                      clear E; clear a; intro a E
                      refine st_val E (wn rfl) rfl rfl (x_pickF E rfl rfl rfl rfl) ?_
                      clear E; clear a; intro a E
                      refine st_val E (wn rfl) rfl rfl (x_move E rfl rfl) ?_
                      clear E; clear a; intro a E
                      refine st_no E (wf E rfl rfl rfl rfl rfl) rfl rfl ?_
                      clear E; clear a; intro a E
                      refine st_no E (wf E rfl rfl rfl rfl rfl) rfl rfl ?_
                      clear E; clear a; intro a E
                      refine st_val E (wn rfl) rfl rfl (x_pickF E rfl rfl rfl rfl) ?_
                      clear E; clear a; intro a E
                      refine st_val E (wn rfl) rfl rfl (x_assign E rfl rfl) ?_
                      clear E; clear a; intro a E
                      refine wpList_nil ?_
                      refine q_then ?_
                      refine wp_ret ?_
                      refine out1 E rfl rfl ?_
                      replace H := H.drop 0
                      replace H := H.drop 0
                      replace H := H.drop 0
                      replace H := H.drop 0
                      replace H := H.drop 0
                      obtain rfl := Option.some.inj hm
                      exact ⟨rfl, H.reads (fun r hr => .tail _ (.tail _ (.tail _ (.tail _ (.tail _ (.tail _ (.tail _ (.tail _ (.tail _ (.tail _ (.tail _ (.tail _ (.tail _ (.tail _ (.tail _ (.tail _ (.tail _ (.tail _ (.tail _ (.tail _ (.tail _ (.tail _ (.tail _ (.tail _ (.tail _ (.tail _ (.tail _ (hr))))))))))))))))))))))))))))⟩
                  · rw [if_f hb81] at hm
                    refine st_no E (wf' E rfl rfl rfl rfl hb81 rfl) rfl rfl ?_
                    clear E; clear a; intro a E
                    refine st_no E (wf' E rfl rfl rfl rfl hb81 rfl) rfl rfl ?_
                    clear E; clear a; intro a E
                    refine st_val E (wn rfl) rfl rfl (x_pickF E rfl rfl hb81 rfl) ?_
                    clear E; clear a; intro a E
                    refine st_val E (wn rfl) rfl rfl (x_move E rfl rfl) ?_
                    clear E; clear a; intro a E
                    refine st_no E (wf E rfl rfl rfl rfl rfl) rfl rfl ?_
                    clear E; clear a; intro a E
                    refine st_no E (wf E rfl rfl rfl rfl rfl) rfl rfl ?_
                    clear E; clear a; intro a E
                    refine st_no E (wf E rfl rfl rfl rfl rfl) rfl rfl ?_
                    clear E; clear a; intro a E
                    refine st_no E (wf E rfl rfl rfl rfl rfl) rfl rfl ?_
                    clear E; clear a; intro a E
                    refine st_val E (wn rfl) rfl rfl (x_pickF E rfl rfl rfl rfl) ?_
                    clear E; clear a; intro a E
                    refine st_val E (wn rfl) rfl rfl (x_move E rfl rfl) ?_
                    clear E; clear a; intro a E
                    refine st_no E (wf E rfl rfl rfl rfl rfl) rfl rfl ?_
                    clear E; clear a; intro a E
                    refine st_no E (wf E rfl rfl rfl rfl rfl) rfl rfl ?_
                    clear E; clear a; intro a E
                    refine st_val E (wn rfl) rfl rfl (x_pickF E rfl rfl rfl rfl) ?_
                    clear E; clear a; intro a E
                    refine st_val E (wn rfl) rfl rfl (x_move E rfl rfl) ?_
                    clear E; clear a; intro a E
                    refine st_no E (wf E rfl rfl rfl rfl rfl) rfl rfl ?_
                    clear E; clear a; intro a E
                    refine st_no E (wf E rfl rfl rfl rfl rfl) rfl rfl ?_
                    clear E; clear a; intro a E
                    refine st_val E (wn rfl) rfl rfl (x_pickF E rfl rfl rfl rfl) ?_
                    clear E; clear a; intro a E
                    refine st_val E (wn rfl) rfl rfl (x_assign E rfl rfl) ?_
                    clear E; clear a; intro a E
                    refine wpList_nil ?_
                    refine q_then ?_
                    refine wp_ret ?_
                    refine out1 E rfl rfl ?_
                    replace H := H.drop 0
                    replace H := H.drop 0
                    replace H := H.drop 0
                    replace H := H.drop 0
                    replace H := H.drop 0
                    obtain rfl := Option.some.inj hm
                    exact ⟨rfl, H.reads (fun r hr => .tail _ (.tail _ (.tail _ (.tail _ (.tail _ (.tail _ (.tail _ (.tail _ (.tail _ (.tail _ (.tail _ (.tail _ (.tail _ (.tail _ (.tail _ (.tail _ (.tail _ (.tail _ (.tail _ (.tail _ (.tail _ (.tail _ (.tail _ (.tail _ (.tail _ (.tail _ (.tail _ (hr))))))))))))))))))))))))))))⟩
                · rw [if_f hb80] at hm
                  refine st_no E (wf' E rfl rfl rfl rfl hb80 rfl) rfl rfl ?_
                  clear E; clear a; intro a E
                  refine st_no E (wf' E rfl rfl rfl rfl hb80 rfl) rfl rfl ?_
                  clear E; clear a; intro a E
                  refine st_val E (wn rfl) rfl rfl (x_pickF E rfl rfl hb80 rfl) ?_
                  clear E; clear a; intro a E
                  refine st_val E (wn rfl) rfl rfl (x_move E rfl rfl) ?_
                  clear E; clear a; intro a E
                  refine st_no E (wf E rfl rfl rfl rfl rfl) rfl rfl ?_
                  clear E; clear a; intro a E
                  refine st_no E (wf E rfl rfl rfl rfl rfl) rfl rfl ?_
                  clear E; clear a; intro a E
                  refine st_val E (wn rfl) rfl rfl (x_pickF E rfl rfl rfl rfl) ?_
                  clear E; clear a; intro a E
                  refine st_val E (wn rfl) rfl rfl (x_move E rfl rfl) ?_
                  clear E; clear a; intro a E
                  refine st_no E (wf E rfl rfl rfl rfl rfl) rfl rfl ?_
                  clear E; clear a; intro a E
                  refine st_no E (wf E rfl rfl rfl rfl rfl) rfl rfl ?_
                  clear E; clear a; intro a E
                  refine st_no E (wf E rfl rfl rfl rfl rfl) rfl rfl ?_
                  clear E; clear a; intro a E
                  refine st_no E (wf E rfl rfl rfl rfl rfl) rfl rfl ?_
                  clear E; clear a; intro a E
                  refine st_val E (wn rfl) rfl rfl (x_pickF E rfl rfl rfl rfl) ?_
                  clear E; clear a; intro a E
                  refine st_val E (wn rfl) rfl rfl (x_move E rfl rfl) ?_
                  clear E; clear a; intro a E
                  refine st_no E (wf E rfl rfl rfl rfl rfl) rfl rfl ?_
                  clear E; clear a; intro a E
                  refine st_no E (wf E rfl rfl rfl rfl rfl) rfl rfl ?_
                  clear E; clear a; intro a E
                  refine st_val E (wn rfl) rfl rfl (x_pickF E rfl rfl rfl rfl) ?_
                  clear E; clear a; intro a E
                  refine st_val E (wn rfl) rfl rfl (x_move E rfl rfl) ?_
                  clear E; clear a; intro a E
                  refine st_no E (wf E rfl rfl rfl rfl rfl) rfl rfl ?_
                  clear E; clear a; intro a E
                  refine st_no E (wf E rfl rfl rfl rfl rfl) rfl rfl ?_
                  clear E; clear a; intro a E
                  refine st_val E (wn rfl) rfl rfl (x_pickF E rfl rfl rfl rfl) ?_
                  clear E; clear a; intro a E
                  refine st_val E (wn rfl) rfl rfl (x_assign E rfl rfl) ?_
                  clear E; clear a; intro a E
                  refine wpList_nil ?_
                  refine q_then ?_
                  refine wp_ret ?_
                  refine out1 E rfl rfl ?_
                  replace H := H.drop 0
                  replace H := H.drop 0
                  replace H := H.drop 0
                  replace H := H.drop 0
                  replace H := H.drop 0
                  obtain rfl := Option.some.inj hm
                  exact ⟨rfl, H.reads (fun r hr => .tail _ (.tail _ (.tail _ (.tail _ (.tail _ (.tail _ (.tail _ (.tail _ (.tail _ (.tail _ (.tail _ (.tail _ (.tail _ (.tail _ (.tail _ (.tail _ (.tail _ (.tail _ (.tail _ (.tail _ (.tail _ (.tail _ (.tail _ (.tail _ (.tail _ (.tail _ (.tail _ (hr))))))))))))))))))))))))))))⟩
              · rw [if_f hb79] at hm
                refine st_no E (wf' E rfl rfl rfl rfl hb79 rfl) rfl rfl ?_
                clear E; clear a; intro a E
                refine st_no E (wf' E rfl rfl rfl rfl hb79 rfl) rfl rfl ?_
                clear E; clear a; intro a E
                refine st_val E (wn rfl) rfl rfl (x_pickF E rfl rfl hb79 rfl) ?_
                clear E; clear a; intro a E
                refine st_val E (wn rfl) rfl rfl (x_move E rfl rfl) ?_
                clear E; clear a; intro a E
                refine st_no E (wf E rfl rfl rfl rfl rfl) rfl rfl ?_
                clear E; clear a; intro a E
                refine st_no E (wf E rfl rfl rfl rfl rfl) rfl rfl ?_
                clear E; clear a; intro a E
                refine st_val E (wn rfl) rfl rfl (x_pickF E rfl rfl rfl rfl) ?_
                clear E; clear a; intro a E
                refine st_val E (wn rfl) rfl rfl (x_move E rfl rfl) ?_
                clear E; clear a; intro a E
                refine st_no E (wf E rfl rfl rfl rfl rfl) rfl rfl ?_
                clear E; clear a; intro a E
                refine st_no E (wf E rfl rfl rfl rfl rfl) rfl rfl ?_
                clear E; clear a; intro a E
                refine st_val E (wn rfl) rfl rfl (x_pickF E rfl rfl rfl rfl) ?_
                clear E; clear a; intro a E
                refine st_val E (wn rfl) rfl rfl (x_move E rfl rfl) ?_
                clear E; clear a; intro a E
                refine st_no E (wf E rfl rfl rfl rfl rfl) rfl rfl ?_
                clear E; clear a; intro a E
                refine st_no E (wf E rfl rfl rfl rfl rfl) rfl rfl ?_
                clear E; clear a; intro a E
                refine st_no E (wf E rfl rfl rfl rfl rfl) rfl rfl ?_
                clear E; clear a; intro a E
                refine st_no E (wf E rfl rfl rfl rfl rfl) rfl rfl ?_
                clear E; clear a; intro a E
                refine st_val E (wn rfl) rfl rfl (x_pickF E rfl rfl rfl rfl) ?_
                clear E; clear a; intro a E
                refine st_val E (wn rfl) rfl rfl (x_move E rfl rfl) ?_
                clear E; clear a; intro a E
                refine st_no E (wf E rfl rfl rfl rfl rfl) rfl rfl ?_
                clear E; clear a; intro a E
                refine st_no E (wf E rfl rfl rfl rfl rfl) rfl rfl ?_
                clear E; clear a; intro a E
                refine st_val E (wn rfl) rfl rfl (x_pickF E rfl rfl rfl rfl) ?_
                clear E; clear a; intro a E
                refine st_val E (wn rfl) rfl rfl (x_move E rfl rfl) ?_
                clear E; clear a; intro a E
                refine st_no E (wf E rfl rfl rfl rfl rfl) rfl rfl ?_
                clear E; clear a; intro a E
                refine st_no E (wf E rfl rfl rfl rfl rfl) rfl rfl ?_
                clear E; clear a; intro a E
                refine st_val E (wn rfl) rfl rfl (x_pickF E rfl rfl rfl rfl) ?_
                clear E; clear a; intro a E
                refine st_val E (wn rfl) rfl rfl (x_assign E rfl rfl) ?_
                clear E; clear a; intro a E
                refine wpList_nil ?_
                refine q_then ?_
                refine wp_ret ?_
                refine out1 E rfl rfl ?_
                replace H := H.drop 0
                replace H := H.drop 0
                replace H := H.drop 0
                replace H := H.drop 0
                replace H := H.drop 0
                obtain rfl := Option.some.inj hm
                exact ⟨rfl, H.reads (fun r hr => .tail _ (.tail _ (.tail _ (.tail _ (.tail _ (.tail _ (.tail _ (.tail _ (.tail _ (.tail _ (.tail _ (.tail _ (.tail _ (.tail _ (.tail _ (.tail _ (.tail _ (.tail _ (.tail _ (.tail _ (.tail _ (.tail _ (.tail _ (.tail _ (.tail _ (.tail _ (.tail _ (hr))))))))))))))))))))))))))))⟩
            · rw [if_f hb78] at hm
              refine st_no E (wf' E rfl rfl rfl rfl hb78 rfl) rfl rfl ?_
              clear E; clear a; intro a E
              refine st_no E (wf' E rfl rfl rfl rfl hb78 rfl) rfl rfl ?_
              clear E; clear a; intro a E
              refine st_no E (wf' E rfl rfl rfl rfl hb78 rfl) rfl rfl ?_
              clear E; clear a; intro a E
              refine st_val E (wn rfl) rfl rfl (x_pickF E rfl rfl hb78 rfl) ?_
              clear E; clear a; intro a E
              refine st_val E (wn rfl) rfl rfl (x_move E rfl rfl) ?_
              clear E; clear a; intro a E
              refine st_no E (wf E rfl rfl rfl rfl rfl) rfl rfl ?_
              clear E; clear a; intro a E
              refine st_no E (wf E rfl rfl rfl rfl rfl) rfl rfl ?_
              clear E; clear a; intro a E
              refine st_val E (wn rfl) rfl rfl (x_pickF E rfl rfl rfl rfl) ?_
              clear E; clear a; intro a E
              refine st_val E (wn rfl) rfl rfl (x_move E rfl rfl) ?_
              clear E; clear a; intro a E
              refine st_no E (wf E rfl rfl rfl rfl rfl) rfl rfl ?_
              clear E; clear a; intro a E
              refine st_no E (wf E rfl rfl rfl rfl rfl) rfl rfl ?_
              clear E; clear a; intro a E
              refine st_val E (wn rfl) rfl rfl (x_pickF E rfl rfl rfl rfl) ?_
              clear E; clear a; intro a E
              refine st_val E (wn rfl) rfl rfl (x_move E rfl rfl) ?_
              clear E; clear a; intro a E
              refine st_no E (wf E rfl rfl rfl rfl rfl) rfl rfl ?_
              clear E; clear a; intro a E
              refine st_no E (wf E rfl rfl rfl rfl rfl) rfl rfl ?_
              clear E; clear a; intro a E
              refine st_val E (wn rfl) rfl rfl (x_pickF E rfl rfl rfl rfl) ?_
              clear E; clear a; intro a E
              refine st_val E (wn rfl) rfl rfl (x_move E rfl rfl) ?_
              clear E; clear a; intro a E
              refine st_no E (wf E rfl rfl rfl rfl rfl) rfl rfl ?_
              clear E; clear a; intro a E
              refine st_no E (wf E rfl rfl rfl rfl rfl) rfl rfl ?_
              clear E; clear a; intro a E
              refine st_no E (wf E rfl rfl rfl rfl rfl) rfl rfl ?_
              clear E; clear a; intro a E
              refine st_no E (wf E rfl rfl rfl rfl rfl) rfl rfl ?_
              clear E; clear a; intro a E
              refine st_val E (wn rfl) rfl rfl (x_pickF E rfl rfl rfl rfl) ?_
              clear E; clear a; intro a E
              refine st_val E (wn rfl) rfl rfl (x_move E rfl rfl) ?_
              clear E; clear a; intro a E
              refine st_no E (wf E rfl rfl rfl rfl rfl) rfl rfl ?_
              clear E; clear a; intro a E
              refine st_no E (wf E rfl rfl rfl rfl rfl) rfl rfl ?_
              clear E; clear a; intro a E
              refine st_val E (wn rfl) rfl rfl (x_pickF E rfl rfl rfl rfl) ?_
              clear E; clear a; intro a E
              refine st_val E (wn rfl) rfl rfl (x_move E rfl rfl) ?_
              clear E; clear a; intro a E
              refine st_no E (wf E rfl rfl rfl rfl rfl) rfl rfl ?_
              clear E; clear a; intro a E
              refine st_no E (wf E rfl rfl rfl rfl rfl) rfl rfl ?_
              clear E; clear a; intro a E
              refine st_val E (wn rfl) rfl rfl (x_pickF E rfl rfl rfl rfl) ?_
              clear E; clear a; intro a E
              refine st_val E (wn rfl) rfl rfl (x_assign E rfl rfl) ?_
              clear E; clear a; intro a E
              refine wpList_nil ?_
              refine q_then ?_
              refine wp_ret ?_
              refine out1 E rfl rfl ?_
              replace H := H.drop 0
              replace H := H.drop 0
              replace H := H.drop 0
              replace H := H.drop 0
              replace H := H.drop 0
              obtain rfl := Option.some.inj hm
              exact ⟨rfl, H.reads (fun r hr => .tail _ (.tail _ (.tail _ (.tail _ (.tail _ (.tail _ (.tail _ (.tail _ (.tail _ (.tail _ (.tail _ (.tail _ (.tail _ (.tail _ (.tail _ (.tail _ (.tail _ (.tail _ (.tail _ (.tail _ (.tail _ (.tail _ (.tail _ (.tail _ (.tail _ (.tail _ (.tail _ (hr))))))))))))))))))))))))))))⟩
          · rw [if_f hb77] at hm
            refine st_no E (wf' E rfl rfl rfl rfl hb77 rfl) rfl rfl ?_
            clear E; clear a; intro a E
            refine st_no E (wf' E rfl rfl rfl rfl hb77 rfl) rfl rfl ?_
            clear E; clear a; intro a E
            refine st_val E (wn rfl) rfl rfl (x_pickF E rfl rfl hb77 rfl) ?_
            clear E; clear a; intro a E
            refine st_val E (wn rfl) rfl rfl (x_move E rfl rfl) ?_
            clear E; clear a; intro a E
            refine st_no E (wf E rfl rfl rfl rfl rfl) rfl rfl ?_
            clear E; clear a; intro a E
            refine st_no E (wf E rfl rfl rfl rfl rfl) rfl rfl ?_
            clear E; clear a; intro a E
            refine st_no E (wf E rfl rfl rfl rfl rfl) rfl rfl ?_
            clear E; clear a; intro a E
            refine st_val E (wn rfl) rfl rfl (x_pickF E rfl rfl rfl rfl) ?_
            clear E; clear a; intro a E
            refine st_val E (wn rfl) rfl rfl (x_move E rfl rfl) ?_
            clear E; clear a; intro a E
            refine st_no E (wf E rfl rfl rfl rfl rfl) rfl rfl ?_
            clear E; clear a; intro a E
            refine st_no E (wf E rfl rfl rfl rfl rfl) rfl rfl ?_
            clear E; clear a; intro a E
            refine st_val E (wn rfl) rfl rfl (x_pickF E rfl rfl rfl rfl) ?_
            clear E; clear a; intro a E
            refine st_val E (wn rfl) rfl rfl (x_move E rfl rfl) ?_
            clear E; clear a; intro a E
            refine st_no E (wf E rfl rfl rfl rfl rfl) rfl rfl ?_
            clear E; clear a; intro a E
            refine st_no E (wf E rfl rfl rfl rfl rfl) rfl rfl ?_
            clear E; clear a; intro a E
            refine st_val E (wn rfl) rfl rfl (x_pickF E rfl rfl rfl rfl) ?_
            clear E; clear a; intro a E
            refine st_val E (wn rfl) rfl rfl (x_move E rfl rfl) ?_
            clear E; clear a; intro a E
            refine st_no E (wf E rfl rfl rfl rfl rfl) rfl rfl ?_
            clear E; clear a; intro a E
            refine st_no E (wf E rfl rfl rfl rfl rfl) rfl rfl ?_
            clear E; clear a; intro a E
            refine st_val E (wn rfl) rfl rfl (x_pickF E rfl rfl rfl rfl) ?_
            clear E; clear a; intro a E
            refine st_val E (wn rfl) rfl rfl (x_move E rfl rfl) ?_
            clear E; clear a; intro a E
            refine st_no E (wf E rfl rfl rfl rfl rfl) rfl rfl ?_
            clear E; clear a; intro a E
            refine st_no E (wf E rfl rfl rfl rfl rfl) rfl rfl ?_
            clear E; clear a; intro a E
            refine st_no E (wf E rfl rfl rfl rfl rfl) rfl rfl ?_
            clear E; clear a; intro a E
            refine st_no E (wf E rfl rfl rfl rfl rfl) rfl rfl ?_
            clear E; clear a; intro a E
            refine st_val E (wn rfl) rfl rfl (x_pickF E rfl rfl rfl rfl) ?_
            clear E; clear a; intro a E
            refine st_val E (wn rfl) rfl rfl (x_move E rfl rfl) ?_
            clear E; clear a; intro a E
            refine st_no E (wf E rfl rfl rfl rfl rfl) rfl rfl ?_
            clear E; clear a; intro a E
            refine st_no E (wf E rfl rfl rfl rfl rfl) rfl rfl ?_
            clear E; clear a; intro a E
            refine st_val E (wn rfl) rfl rfl (x_pickF E rfl rfl rfl rfl) ?_
            clear E; clear a; intro a E
            refine st_val E (wn rfl) rfl rfl (x_move E rfl rfl) ?_
            clear E; clear a; intro a E
            refine st_no E (wf E rfl rfl rfl rfl rfl) rfl rfl ?_
            clear E; clear a; intro a E
            refine st_no E (wf E rfl rfl rfl rfl rfl) rfl rfl ?_
            clear E; clear a; intro a E
            refine st_val E (wn rfl) rfl rfl (x_pickF E rfl rfl rfl rfl) ?_
            clear E; clear a; intro a E
            refine st_val E (wn rfl) rfl rfl (x_assign E rfl rfl) ?_
            clear E; clear a; intro a E
            refine wpList_nil ?_
            refine q_then ?_
            refine wp_ret ?_
            refine out1 E rfl rfl ?_
            replace H := H.drop 0
            replace H := H.drop 0
            replace H := H.drop 0
            replace H := H.drop 0
            replace H := H.drop 0
            obtain rfl := Option.some.inj hm
            exact ⟨rfl, H.reads (fun r hr => .tail _ (.tail _ (.tail _ (.tail _ (.tail _ (.tail _ (.tail _ (.tail _ (.tail _ (.tail _ (.tail _ (.tail _ (.tail _ (.tail _ (.tail _ (.tail _ (.tail _ (.tail _ (.tail _ (.tail _ (.tail _ (.tail _ (.tail _ (.tail _ (.tail _ (.tail _ (.tail _ (hr))))))))))))))))))))))))))))⟩
        · rw [if_f hb76] at hm
          refine st_no E (wf' E rfl rfl rfl rfl hb76 rfl) rfl rfl ?_
          clear E; clear a; intro a E
          refine st_no E (wf' E rfl rfl rfl rfl hb76 rfl) rfl rfl ?_
          clear E; clear a; intro a E
          refine st_val E (wn rfl) rfl rfl (x_pickF E rfl rfl hb76 rfl) ?_
          clear E; clear a; intro a E
          refine st_val E (wn rfl) rfl rfl (x_move E rfl rfl) ?_
          clear E; clear a; intro a E
          refine st_no E (wf E rfl rfl rfl rfl rfl) rfl rfl ?_
          clear E; clear a; intro a E
          refine st_no E (wf E rfl rfl rfl rfl rfl) rfl rfl ?_
          clear E; clear a; intro a E
          refine st_val E (wn rfl) rfl rfl (x_pickF E rfl rfl rfl rfl) ?_
          clear E; clear a; intro a E
          refine st_val E (wn rfl) rfl rfl (x_move E rfl rfl) ?_
          clear E; clear a; intro a E
          refine st_no E (wf E rfl rfl rfl rfl rfl) rfl rfl ?_
          clear E; clear a; intro a E
          refine st_no E (wf E rfl rfl rfl rfl rfl) rfl rfl ?_
          clear E; clear a; intro a E
          refine st_no E (wf E rfl rfl rfl rfl rfl) rfl rfl ?_
          clear E; clear a; intro a E
          refine st_val E (wn rfl) rfl rfl (x_pickF E rfl rfl rfl rfl) ?_
          clear E; clear a; intro a E
          refine st_val E (wn rfl) rfl rfl (x_move E rfl rfl) ?_
          clear E; clear a; intro a E
          refine st_no E (wf E rfl rfl rfl rfl rfl) rfl rfl ?_
          clear E; clear a; intro a E
          refine st_no E (wf E rfl rfl rfl rfl rfl) rfl rfl ?_
          clear E; clear a; intro a E
          refine st_val E (wn rfl) rfl rfl (x_pickF E rfl rfl rfl rfl) ?_
          clear E; clear a; intro a E
          refine st_val E (wn rfl) rfl rfl (x_move E rfl rfl) ?_
          clear E; clear a; intro a E
          refine st_no E (wf E rfl rfl rfl rfl rfl) rfl rfl ?_
          clear E; clear a; intro a E
          refine st_no E (wf E rfl rfl rfl rfl rfl) rfl rfl ?_
          clear E; clear a; intro a E
          refine st_val E (wn rfl) rfl rfl (x_pickF E rfl rfl rfl rfl) ?_
          clear E; clear a; intro a E
          refine st_val E (wn rfl) rfl rfl (x_move E rfl rfl) ?_
          clear E; clear a; intro a E
          refine st_no E (wf E rfl rfl rfl rfl rfl) rfl rfl ?_
          clear E; clear a; intro a E
          refine st_no E (wf E rfl rfl rfl rfl rfl) rfl rfl ?_
          clear E; clear a; intro a E
          refine st_val E (wn rfl) rfl rfl (x_pickF E rfl rfl rfl rfl) ?_
          clear E; clear a; intro a E
          refine st_val E (wn rfl) rfl rfl (x_move E rfl rfl) ?_
          clear E; clear a; intro a E
          refine st_no E (wf E rfl rfl rfl rfl rfl) rfl rfl ?_
          clear E; clear a; intro a E
          refine st_no E (wf E rfl rfl rfl rfl rfl) rfl rfl ?_
          clear E; clear a; intro a E
          refine st_no E (wf E rfl rfl rfl rfl rfl) rfl rfl ?_
          clear E; clear a; intro a E
          refine st_no E (wf E rfl rfl rfl rfl rfl) rfl rfl ?_
          clear E; clear a; intro a E
          refine st_val E (wn rfl) rfl rfl (x_pickF E rfl rfl rfl rfl) ?_
          clear E; clear a; intro a E
          refine st_val E (wn rfl) rfl rfl (x_move E rfl rfl) ?_
          clear E; clear a; intro a E
          refine st_no E (wf E rfl rfl rfl rfl rfl) rfl rfl ?_
          clear E; clear a; intro a E
          refine st_no E (wf E rfl rfl rfl rfl rfl) rfl rfl ?_
          clear E; clear a; intro a E
          refine st_val E (wn rfl) rfl rfl (x_pickF E rfl rfl rfl rfl) ?_
          clear E; clear a; intro a E
          refine st_val E (wn rfl) rfl rfl (x_move E rfl rfl) ?_
          clear E; clear a; intro a E
          refine st_no E (wf E rfl rfl rfl rfl rfl) rfl rfl ?_
          clear E; clear a; intro a E
          refine st_no E (wf E rfl rfl rfl rfl rfl) rfl rfl ?_
          clear E; clear a; intro a E
          refine st_val E (wn rfl) rfl rfl (x_pickF E rfl rfl rfl rfl) ?_
          clear E; clear a; intro a E
          refine st_val E (wn rfl) rfl rfl (x_assign E rfl rfl) ?_
          clear E; clear a; intro a E
          refine wpList_nil ?_
          refine q_then ?_
          refine wp_ret ?_
          refine out1 E rfl rfl ?_
          replace H := H.drop 0
          replace H := H.drop 0
          replace H := H.drop 0
          replace H := H.drop 0
          replace H := H.drop 0
          obtain rfl := Option.some.inj hm
          exact ⟨rfl, H.reads (fun r hr => .tail _ (.tail _ (.tail _ (.tail _ (.tail _ (.tail _ (.tail _ (.tail _ (.tail _ (.tail _ (.tail _ (.tail _ (.tail _ (.tail _ (.tail _ (.tail _ (.tail _ (.tail _ (.tail _ (.tail _ (.tail _ (.tail _ (.tail _ (.tail _ (.tail _ (.tail _ (.tail _ (hr))))))))))))))))))))))))))))⟩
      · rw [if_f hb75] at hm
        refine st_no E (wf' E rfl rfl rfl rfl hb75 rfl) rfl rfl ?_
        clear E; clear a; intro a E
        refine st_no E (wf' E rfl rfl rfl rfl hb75 rfl) rfl rfl ?_
        clear E; clear a; intro a E
        refine st_no E (wf' E rfl rfl rfl rfl hb75 rfl) rfl rfl ?_
        clear E; clear a; intro a E
        refine st_val E (wn rfl) rfl rfl (x_pickF E rfl rfl hb75 rfl) ?_
        clear E; clear a; intro a E
        refine st_val E (wn rfl) rfl rfl (x_move E rfl rfl) ?_
        clear E; clear a; intro a E
        refine st_no E (wf E rfl rfl rfl rfl rfl) rfl rfl ?_
        clear E; clear a; intro a E
        refine st_no E (wf E rfl rfl rfl rfl rfl) rfl rfl ?_
        clear E; clear a; intro a E
        refine st_val E (wn rfl) rfl rfl (x_pickF E rfl rfl rfl rfl) ?_
        clear E; clear a; intro a E
        refine st_val E (wn rfl) rfl rfl (x_move E rfl rfl) ?_
        clear E; clear a; intro a E
        refine st_no E (wf E rfl rfl rfl rfl rfl) rfl rfl ?_
        clear E; clear a; intro a E
        refine st_no E (wf E rfl rfl rfl rfl rfl) rfl rfl ?_
        clear E; clear a; intro a E
        refine st_val E (wn rfl) rfl rfl (x_pickF E rfl rfl rfl rfl) ?_
        clear E; clear a; intro a E
        refine st_val E (wn rfl) rfl rfl (x_move E rfl rfl) ?_
        clear E; clear a; intro a E
        refine st_no E (wf E rfl rfl rfl rfl rfl) rfl rfl ?_
        clear E; clear a; intro a E
        refine st_no E (wf E rfl rfl rfl rfl rfl) rfl rfl ?_
        clear E; clear a; intro a E
        refine st_no E (wf E rfl rfl rfl rfl rfl) rfl rfl ?_
        clear E; clear a; intro a E
        refine st_val E (wn rfl) rfl rfl (x_pickF E rfl rfl rfl rfl) ?_
        clear E; clear a; intro a E
        refine st_val E (wn rfl) rfl rfl (x_move E rfl rfl) ?_
        clear E; clear a; intro a E
        refine st_no E (wf E rfl rfl rfl rfl rfl) rfl rfl ?_
        clear E; clear a; intro a E
        refine st_no E (wf E rfl rfl rfl rfl rfl) rfl rfl ?_
        clear E; clear a; intro a E
        refine st_val E (wn rfl) rfl rfl (x_pickF E rfl rfl rfl rfl) ?_
        clear E; clear a; intro a E
        refine st_val E (wn rfl) rfl rfl (x_move E rfl rfl) ?_
        clear E; clear a; intro a E
        refine st_no E (wf E rfl rfl rfl rfl rfl) rfl rfl ?_
        clear E; clear a; intro a E
        refine st_no E (wf E rfl rfl rfl rfl rfl) rfl rfl ?_
        clear E; clear a; intro a E
        refine st_val E (wn rfl) rfl rfl (x_pickF E rfl rfl rfl rfl) ?_
        clear E; clear a; intro a E
        refine st_val E (wn rfl) rfl rfl (x_move E rfl rfl) ?_
        clear E; clear a; intro a E
        refine st_no E (wf E rfl rfl rfl rfl rfl) rfl rfl ?_
        clear E; clear a; intro a E
        refine st_no E (wf E rfl rfl rfl rfl rfl) rfl rfl ?_
        clear E; clear a; intro a E
        refine st_val E (wn rfl) rfl rfl (x_pickF E rfl rfl rfl rfl) ?_
        clear E; clear a; intro a E
        refine st_val E (wn rfl) rfl rfl (x_move E rfl rfl) ?_
        clear E; clear a; intro a E
        refine st_no E (wf E rfl rfl rfl rfl rfl) rfl rfl ?_
        clear E; clear a; intro a E
        refine st_no E (wf E rfl rfl rfl rfl rfl) rfl rfl ?_
        clear E; clear a; intro a E
        refine st_no E (wf E rfl rfl rfl rfl rfl) rfl rfl ?_
        clear E; clear a; intro a E
        refine st_no E (wf E rfl rfl rfl rfl rfl) rfl rfl ?_
        clear E; clear a; intro a E
        refine st_val E (wn rfl) rfl rfl (x_pickF E rfl rfl rfl rfl) ?_
        clear E; clear a; intro a E
        refine st_val E (wn rfl) rfl rfl (x_move E rfl rfl) ?_
        clear E; clear a; intro a E
        refine st_no E (wf E rfl rfl rfl rfl rfl) rfl rfl ?_
        clear E; clear a; intro a E
        refine st_no E (wf E rfl rfl rfl rfl rfl) rfl rfl ?_
        clear E; clear a; intro a E
        refine st_val E (wn rfl) rfl rfl (x_pickF E rfl rfl rfl rfl) ?_
        clear E; clear a; intro a E
        refine st_val E (wn rfl) rfl rfl (x_move E rfl rfl) ?_
        clear E; clear a; intro a E
        refine st_no E (wf E rfl rfl rfl rfl rfl) rfl rfl ?_
        clear E; clear a; intro a E
        refine st_no E (wf E rfl rfl rfl rfl rfl) rfl rfl ?_
        clear E; clear a; intro a E
        refine st_val E (wn rfl) rfl rfl (x_pickF E rfl rfl rfl rfl) ?_
        clear E; clear a; intro a E
        refine st_val E (wn rfl) rfl rfl (x_assign E rfl rfl) ?_
        clear E; clear a; intro a E
        refine wpList_nil ?_
        refine q_then ?_
        refine wp_ret ?_
        refine out1 E rfl rfl ?_
        replace H := H.drop 0
        replace H := H.drop 0
        replace H := H.drop 0
        replace H := H.drop 0
        replace H := H.drop 0
        obtain rfl := Option.some.inj hm
        exact ⟨rfl, H.reads (fun r hr => .tail _ (.tail _ (.tail _ (.tail _ (.tail _ (.tail _ (.tail _ (.tail _ (.tail _ (.tail _ (.tail _ (.tail _ (.tail _ (.tail _ (.tail _ (.tail _ (.tail _ (.tail _ (.tail _ (.tail _ (.tail _ (.tail _ (.tail _ (.tail _ (.tail _ (.tail _ (.tail _ (hr))))))))))))))))))))))))))))⟩
    · rw [if_f hb74] at hm
      refine st_no E (wf' E rfl rfl rfl rfl hb74 rfl) rfl rfl ?_
      clear E; clear a; intro a E
      refine st_no E (wf' E rfl rfl rfl rfl hb74 rfl) rfl rfl ?_
      clear E; clear a; intro a E
      refine st_val E (wn rfl) rfl rfl (x_pickF E rfl rfl hb74 rfl) ?_
      clear E; clear a; intro a E
      refine st_val E (wn rfl) rfl rfl (x_move E rfl rfl) ?_
      clear E; clear a; intro a E
      refine st_no E (wf E rfl rfl rfl rfl rfl) rfl rfl ?_
      clear E; clear a; intro a E
      refine st_no E (wf E rfl rfl rfl rfl rfl) rfl rfl ?_
      clear E; clear a; intro a E
      refine st_no E (wf E rfl rfl rfl rfl rfl) rfl rfl ?_
      clear E; clear a; intro a E
      refine st_val E (wn rfl) rfl rfl (x_pickF E rfl rfl rfl rfl) ?_
      clear E; clear a; intro a E
      refine st_val E (wn rfl) rfl rfl (x_move E rfl rfl) ?_
      clear E; clear a; intro a E
      refine st_no E (wf E rfl rfl rfl rfl rfl) rfl rfl ?_
      clear E; clear a; intro a E
      refine st_no E (wf E rfl rfl rfl rfl rfl) rfl rfl ?_
      clear E; clear a; intro a E
      refine st_val E (wn rfl) rfl rfl (x_pickF E rfl rfl rfl rfl) ?_
      clear E; clear a; intro a E
      refine st_val E (wn rfl) rfl rfl (x_move E rfl rfl) ?_
      clear E; clear a; intro a E
      refine st_no E (wf E rfl rfl rfl rfl rfl) rfl rfl ?_
      clear E; clear a; intro a E
      refine st_no E (wf E rfl rfl rfl rfl rfl) rfl rfl ?_
      clear E; clear a; intro a E
      refine st_val E (wn rfl) rfl rfl (x_pickF E rfl rfl rfl rfl) ?_
      clear E; clear a; intro a E
      refine st_val E (wn rfl) rfl rfl (x_move E rfl rfl) ?_
      clear E; clear a; intro a E
      refine st_no E (wf E rfl rfl rfl rfl rfl) rfl rfl ?_
      clear E; clear a; intro a E
      refine st_no E (wf E rfl rfl rfl rfl rfl) rfl rfl ?_
      clear E; clear a; intro a E
      refine st_no E (wf E rfl rfl rfl rfl rfl) rfl rfl ?_
      clear E; clear a; intro a E
      refine st_val E (wn rfl) rfl rfl (x_pickF E rfl rfl rfl rfl) ?_
      clear E; clear a; intro a E
      refine st_val E (wn rfl) rfl rfl (x_move E rfl rfl) ?_
      clear E; clear a; intro a E
      refine st_no E (wf E rfl rfl rfl rfl rfl) rfl rfl ?_
      clear E; clear a; intro a E
      refine st_no E (wf E rfl rfl rfl rfl rfl) rfl rfl ?_
      clear E; clear a; intro a E
      refine st_val E (wn rfl) rfl rfl (x_pickF E rfl rfl rfl rfl) ?_
      clear E; clear a; intro a E
      refine st_val E (wn rfl) rfl rfl (x_move E rfl rfl) ?_
      clear E; clear a; intro a E
      refine st_no E (wf E rfl rfl rfl rfl rfl) rfl rfl ?_
      clear E; clear a; intro a E
      refine st_no E (wf E rfl rfl rfl rfl rfl) rfl rfl ?_
      clear E; clear a; intro a E
      refine st_val E (wn rfl) rfl rfl (x_pickF E rfl rfl rfl rfl) ?_
      clear E; clear a; intro a E
      refine st_val E (wn rfl) rfl rfl (x_move E rfl rfl) ?_
      clear E; clear a; intro a E
      refine st_no E (wf E rfl rfl rfl rfl rfl) rfl rfl ?_
      clear E; clear a; intro a E
      refine st_no E (wf E rfl rfl rfl rfl rfl) rfl rfl ?_
      clear E; clear a; intro a E
      refine st_val E (wn rfl) rfl rfl (x_pickF E rfl rfl rfl rfl) ?_
      clear E; clear a; intro a E
      refine st_val E (wn rfl) rfl rfl (x_move E rfl rfl) ?_
      clear E; clear a; intro a E
      refine st_no E (wf E rfl rfl rfl rfl rfl) rfl rfl ?_
      clear E; clear a; intro a E
      refine st_no E (wf E rfl rfl rfl rfl rfl) rfl rfl ?_
      clear E; clear a; intro a E
      refine st_no E (wf E rfl rfl rfl rfl rfl) rfl rfl ?_
      clear E; clear a; intro a E
      refine st_no E (wf E rfl rfl rfl rfl rfl) rfl rfl ?_
      clear E; clear a; intro a E
      refine st_val E (wn rfl) rfl rfl (x_pickF E rfl rfl rfl rfl) ?_
      clear E; clear a; intro a E
      refine st_val E (wn rfl) rfl rfl (x_move E rfl rfl) ?_
      clear E; clear a; intro a E
      refine st_no E (wf E rfl rfl rfl rfl rfl) rfl rfl ?_
      clear E; clear a; intro a E
      refine st_no E (wf E rfl rfl rfl rfl rfl) rfl rfl ?_
      clear E; clear a; intro a E
      refine st_val E (wn rfl) rfl rfl (x_pickF E rfl rfl rfl rfl) ?_
      clear E; clear a; intro a E
      refine st_val E (wn rfl) rfl rfl (x_move E rfl rfl) ?_
      clear E; clear a; intro a E
      refine st_no E (wf E rfl rfl rfl rfl rfl) rfl rfl ?_
      clear E; clear a; intro a E
      refine st_no E (wf E rfl rfl rfl rfl rfl) rfl rfl ?_
      clear E; clear a; intro a E
      refine st_val E (wn rfl) rfl rfl (x_pickF E rfl rfl rfl rfl) ?_
      clear E; clear a; intro a E
      refine st_val E (wn rfl) rfl rfl (x_assign E rfl rfl) ?_
      clear E; clear a; intro a E
      refine wpList_nil ?_
      refine q_then ?_
      refine wp_ret ?_
      refine out1 E rfl rfl ?_
      replace H := H.drop 0
      replace H := H.drop 0
      replace H := H.drop 0
      replace H := H.drop 0
      replace H := H.drop 0
      obtain rfl := Option.some.inj hm
      exact ⟨rfl, H.reads (fun r hr => .tail _ (.tail _ (.tail _ (.tail _ (.tail _ (.tail _ (.tail _ (.tail _ (.tail _ (.tail _ (.tail _ (.tail _ (.tail _ (.tail _ (.tail _ (.tail _ (.tail _ (.tail _ (.tail _ (.tail _ (.tail _ (.tail _ (.tail _ (.tail _ (.tail _ (.tail _ (.tail _ (hr))))))))))))))))))))))))))))⟩
  · rw [if_f hb73] at hm
    refine st_no E (wf' E rfl rfl rfl rfl hb73 rfl) rfl rfl ?_
    clear E; clear a; intro a E
    refine st_no E (wf' E rfl rfl rfl rfl hb73 rfl) rfl rfl ?_
    clear E; clear a; intro a E
    refine st_no E (wf' E rfl rfl rfl rfl hb73 rfl) rfl rfl ?_
    clear E; clear a; intro a E
    refine st_val E (wn rfl) rfl rfl (x_pickF E rfl rfl hb73 rfl) ?_
    clear E; clear a; intro a E
    refine st_val E (wn rfl) rfl rfl (x_move E rfl rfl) ?_
    clear E; clear a; intro a E
    refine st_no E (wf E rfl rfl rfl rfl rfl) rfl rfl ?_
    clear E; clear a; intro a E
    refine st_no E (wf E rfl rfl rfl rfl rfl) rfl rfl ?_
    clear E; clear a; intro a E
    refine st_val E (wn rfl) rfl rfl (x_pickF E rfl rfl rfl rfl) ?_
    clear E; clear a; intro a E
    refine st_val E (wn rfl) rfl rfl (x_move E rfl rfl) ?_
    clear E; clear a; intro a E
    refine st_no E (wf E rfl rfl rfl rfl rfl) rfl rfl ?_
    clear E; clear a; intro a E
    refine st_no E (wf E rfl rfl rfl rfl rfl) rfl rfl ?_
    clear E; clear a; intro a E
    refine st_no E (wf E rfl rfl rfl rfl rfl) rfl rfl ?_
    clear E; clear a; intro a E
    refine st_val E (wn rfl) rfl rfl (x_pickF E rfl rfl rfl rfl) ?_
    clear E; clear a; intro a E
    refine st_val E (wn rfl) rfl rfl (x_move E rfl rfl) ?_
    clear E; clear a; intro a E
    refine st_no E (wf E rfl rfl rfl rfl rfl) rfl rfl ?_
    clear E; clear a; intro a E
    refine st_no E (wf E rfl rfl rfl rfl rfl) rfl rfl ?_
    clear E; clear a; intro a E
    refine st_val E (wn rfl) rfl rfl (x_pickF E rfl rfl rfl rfl) ?_
    clear E; clear a; intro a E
    refine st_val E (wn rfl) rfl rfl (x_move E rfl rfl) ?_
    clear E; clear a; intro a E
    refine st_no E (wf E rfl rfl rfl rfl rfl) rfl rfl ?_
    clear E; clear a; intro a E
    refine st_no E (wf E rfl rfl rfl rfl rfl) rfl rfl ?_
    clear E; clear a; intro a E
    refine st_val E (wn rfl) rfl rfl (x_pickF E rfl rfl rfl rfl) ?_
    clear E; clear a; intro a E
    refine st_val E (wn rfl) rfl rfl (x_move E rfl rfl) ?_
    clear E; clear a; intro a E
    refine st_no E (wf E rfl rfl rfl rfl rfl) rfl rfl ?_
    clear E; clear a; intro a E
    refine st_no E (wf E rfl rfl rfl rfl rfl) rfl rfl ?_
    clear E; clear a; intro a E
    refine st_no E (wf E rfl rfl rfl rfl rfl) rfl rfl ?_
    clear E; clear a; intro a E
    refine st_val E (wn rfl) rfl rfl (x_pickF E rfl rfl rfl rfl) ?_
    clear E; clear a; intro a E
    refine st_val E (wn rfl) rfl rfl (x_move E rfl rfl) ?_
    clear E; clear a; intro a E
    refine st_no E (wf E rfl rfl rfl rfl rfl) rfl rfl ?_
    clear E; clear a; intro a E
    refine st_no E (wf E rfl rfl rfl rfl rfl) rfl rfl ?_
    clear E; clear a; intro a E
    refine st_val E (wn rfl) rfl rfl (x_pickF E rfl rfl rfl rfl) ?_
    clear E; clear a; intro a E
    refine st_val E (wn rfl) rfl rfl (x_move E rfl rfl) ?_
    clear E; clear a; intro a E
    refine st_no E (wf E rfl rfl rfl rfl rfl) rfl rfl ?_
    clear E; clear a; intro a E
    refine st_no E (wf E rfl rfl rfl rfl rfl) rfl rfl ?_
    clear E; clear a; intro a E
    refine st_val E (wn rfl) rfl rfl (x_pickF E rfl rfl rfl rfl) ?_
    clear E; clear a; intro a E
    refine st_val E (wn rfl) rfl rfl (x_move E rfl rfl) ?_
    clear E; clear a; intro a E
    refine st_no E (wf E rfl rfl rfl rfl rfl) rfl rfl ?_
    clear E; clear a; intro a E
    refine st_no E (wf E rfl rfl rfl rfl rfl) rfl rfl ?_
    clear E; clear a; intro a E
    refine st_val E (wn rfl) rfl rfl (x_pickF E rfl rfl rfl rfl) ?_
    clear E; clear a; intro a E
    refine st_val E (wn rfl) rfl rfl (x_move E rfl rfl) ?_
    clear E; clear a; intro a E
    refine st_no E (wf E rfl rfl rfl rfl rfl) rfl rfl ?_
    clear E; clear a; intro a E
    refine st_no E (wf E rfl rfl rfl rfl rfl) rfl rfl ?_
    clear E; clear a; intro a E
    refine st_no E (wf E rfl rfl rfl rfl rfl) rfl rfl ?_
    clear E; clear a; intro a E
    refine st_no E (wf E rfl rfl rfl rfl rfl) rfl rfl ?_
    clear E; clear a; intro a E
    refine st_val E (wn rfl) rfl rfl (x_pickF E rfl rfl rfl rfl) ?_
    clear E; clear a; intro a E
    refine st_val E (wn rfl) rfl rfl (x_move E rfl rfl) ?_
    clear E; clear a; intro a E
    refine st_no E (wf E rfl rfl rfl rfl rfl) rfl rfl ?_
    clear E; clear a; intro a E
    refine st_no E (wf E rfl rfl rfl rfl rfl) rfl rfl ?_
    clear E; clear a; intro a E
    refine st_val E (wn rfl) rfl rfl (x_pickF E rfl rfl rfl rfl) ?_
    clear E; clear a; intro a E
    refine st_val E (wn rfl) rfl rfl (x_move E rfl rfl) ?_
    clear E; clear a; intro a E
    refine st_no E (wf E rfl rfl rfl rfl rfl) rfl rfl ?_
    clear E; clear a; intro a E
    refine st_no E (wf E rfl rfl rfl rfl rfl) rfl rfl ?_
    clear E; clear a; intro a E
    refine st_val E (wn rfl) rfl rfl (x_pickF E rfl rfl rfl rfl) ?_
    clear E; clear a; intro a E
    refine st_val E (wn rfl) rfl rfl (x_assign E rfl rfl) ?_
    clear E; clear a; intro a E
    refine wpList_nil ?_
    refine q_then ?_
    refine wp_ret ?_
    refine out1 E rfl rfl ?_
    replace H := H.drop 0
    replace H := H.drop 0
    replace H := H.drop 0
    replace H := H.drop 0
    replace H := H.drop 0
    obtain rfl := Option.some.inj hm
    exact ⟨rfl, H.reads (fun r hr => .tail _ (.tail _ (.tail _ (.tail _ (.tail _ (.tail _ (.tail _ (.tail _ (.tail _ (.tail _ (.tail _ (.tail _ (.tail _ (.tail _ (.tail _ (.tail _ (.tail _ (.tail _ (.tail _ (.tail _ (.tail _ (.tail _ (.tail _ (.tail _ (.tail _ (.tail _ (.tail _ (hr))))))))))))))))))))))))))))⟩
end Go.Cb

set_option linter.unusedVariables false
set_option linter.unusedSimpArgs false
namespace Go.Cb
open Go.Proofs Go.RowKit
def m_cantonref17_Put (x1 : S_api_Letter) : Option ((List Int) × Int) :=
  (m_cantonref02_Writer_Num [] false x1.Kind).bind fun u8 => (m_cantonref02_Writer_Num u8.1 u8.2 x1.View).bind fun u11 => (m_cantonref02_Writer_Num u11.1 u11.2 x1.Normal).bind fun u14 => (m_cantonref02_Writer_Num u14.1 u14.2 x1.Len).bind fun u17 => (m_cantonref02_Writer_Num u17.1 u17.2 x1.Stays).bind fun u20 => (m_cantonref02_Writer_Texts u20.1 u20.2 x1.Log).bind fun u23 => (m_cantonref02_Writer_Num u23.1 u23.2 x1.Num).bind fun u26 => (m_cantonref02_Writer_Text u26.1 u26.2 x1.Text).bind fun u29 => (m_cantonref02_Writer_Bytes u29.1 u29.2).bind fun u32 => some (u32.1, u32.2)
set_option maxRecDepth 20000 in
set_option maxHeartbeats 1000000 in
theorem c_cantonref17_Put {w : World} {Fo : List Ob} {rs : List Rp} (x1 : S_api_Letter) (v2 : Value) (H : Sep w (Fo) rs) (hr3 : rSl kS v2 x1.Log ∈ rs) {r : (List Int) × Int} (hm : m_cantonref17_Put x1 = some r) :
    Calls Try.prog 12 [.agg #[.int .i64 x1.Kind, .int .i64 x1.View, .int .i64 x1.Normal, .int .i64 x1.Len, .int .i64 x1.Stays, v2, .int .i64 x1.Num, .string x1.Text]].toArray w (Ret fun v w' => ∃ (v5001 : Value), .tuple #[v5001, .int .i64 r.2] = v ∧ Sep w' (Row 5 (kI .u8) v5001 r.1 :: Fo) (rs)) := by
  unfold m_cantonref17_Put at hm
  refine enter Try.func12 rfl Try.ntmps12 rfl fun a E => ?_
  simp only [enum, Nat.reduceAdd] at E
  refine wp_seq ?_
  refine wp_region_lit ?_
  obtain ⟨q5, x6, rfl⟩ := H.slform hr3
  refine st_box E H (wn rfl) rfl rfl (cs := [.int .i64 x1.Kind, .int .i64 x1.View, .int .i64 x1.Normal, .int .i64 x1.Len, .int .i64 x1.Stays, (.slice q5 x1.Log.length x6), .int .i64 x1.Num, .string x1.Text]) rfl rfl rfl ?_
  clear E H; clear a; clear w; intro p4 w a H E
  refine st_val E (wn rfl) rfl rfl (x_assign E rfl rfl) ?_
  clear E; clear a; intro a E
  refine st_val E (wn rfl) rfl rfl (x_assign E rfl rfl) ?_
  clear E; clear a; intro a E
  refine wpList_nil ?_
  refine q_then ?_
  refine wp_seq ?_
  refine wp_region_lit ?_
  refine st_val E (wn rfl) rfl rfl (x_build E (ps := []) (vs := []) rfl rfl (v := .agg #[.slice none 0 0, .bool false]) (by kernel_rfl)) ?_
  clear E; clear a; intro a E
  refine st_box E H (wn rfl) rfl rfl (cs := [.slice none 0 0, .bool false]) rfl rfl rfl ?_
  clear E H; clear a; clear w; intro p7 w a H E
  refine st_val E (wn rfl) rfl rfl (x_assign E rfl rfl) ?_
  clear E; clear a; intro a E
  refine wpList_nil ?_
  refine q_then ?_
  refine wp_seq ?_
  refine wp_region_lit ?_
  refine st_val E (wn rfl) rfl rfl (x_move E rfl rfl) ?_
  clear E; clear a; intro a E
  refine st_val E (wn rfl) rfl rfl (x_fa E rfl rfl (v := .pointer (some ⟨p4, 0, none⟩)) (fa24_0 _ _)) ?_
  clear E; clear a; intro a E
  refine st_val E (wn rfl) rfl rfl (x_ldB (i := 1) E H rfl rfl rfl rfl Try.underlying3 rfl) ?_
  clear E; clear a; intro a E
  replace H := H.nilRow 5 (kI .u8)
  replace H := H.front 2 rfl
  replace H := H.front 1 rfl
  replace H := H.front 2 rfl
  replace H : Sep w (Blk p7 84 [.slice none 0 0, .bool false] :: Row 5 (kI .u8) (.slice none 0 0) ([] : List Int) :: Blk p4 24 [.int .i64 x1.Kind, .int .i64 x1.View, .int .i64 x1.Normal, .int .i64 x1.Len, .int .i64 x1.Stays, (.slice q5 x1.Log.length x6), .int .i64 x1.Num, .string x1.Text] :: Fo) (rs) := H
  obtain ⟨u8, hx9, hm⟩ := bnd hm
  refine st_call E (wn rfl) rfl rfl (x_call E rfl rfl (cf33 _)) (c_cantonref02_Writer_Num p7 (.slice none 0 0) [] false x1.Kind H hx9) ?_
  clear E H; clear a; clear w; rintro _ w ⟨v10, rfl, H⟩ a E
  refine wpList_nil ?_
  refine q_then ?_
  refine wp_seq ?_
  refine wp_region_lit ?_
  refine st_val E (wn rfl) rfl rfl (x_move E rfl rfl) ?_
  clear E; clear a; intro a E
  refine st_val E (wn rfl) rfl rfl (x_fa E rfl rfl (v := .pointer (some ⟨p4, 1, none⟩)) (fa24_1 _ _)) ?_
  clear E; clear a; intro a E
  refine st_val E (wn rfl) rfl rfl (x_ldB (i := 2) E H rfl rfl rfl rfl Try.underlying2 rfl) ?_
  clear E; clear a; intro a E
  replace H : Sep w (Blk p7 84 [v10, .bool u8.2] :: Row 5 (kI .u8) v10 u8.1 :: Blk p4 24 [.int .i64 x1.Kind, .int .i64 x1.View, .int .i64 x1.Normal, .int .i64 x1.Len, .int .i64 x1.Stays, (.slice q5 x1.Log.length x6), .int .i64 x1.Num, .string x1.Text] :: Fo) (rs) := H
  obtain ⟨u11, hx12, hm⟩ := bnd hm
  refine st_call E (wn rfl) rfl rfl (x_call E rfl rfl (cf33 _)) (c_cantonref02_Writer_Num p7 v10 u8.1 u8.2 x1.View H hx12) ?_
  clear E H; clear a; clear w; rintro _ w ⟨v13, rfl, H⟩ a E
  refine wpList_nil ?_
  refine q_then ?_
  refine wp_seq ?_
  refine wp_region_lit ?_
  refine st_val E (wn rfl) rfl rfl (x_move E rfl rfl) ?_
  clear E; clear a; intro a E
  refine st_val E (wn rfl) rfl rfl (x_fa E rfl rfl (v := .pointer (some ⟨p4, 2, none⟩)) (fa24_2 _ _)) ?_
  clear E; clear a; intro a E
  refine st_val E (wn rfl) rfl rfl (x_ldB (i := 2) E H rfl rfl rfl rfl Try.underlying2 rfl) ?_
  clear E; clear a; intro a E
  replace H : Sep w (Blk p7 84 [v13, .bool u11.2] :: Row 5 (kI .u8) v13 u11.1 :: Blk p4 24 [.int .i64 x1.Kind, .int .i64 x1.View, .int .i64 x1.Normal, .int .i64 x1.Len, .int .i64 x1.Stays, (.slice q5 x1.Log.length x6), .int .i64 x1.Num, .string x1.Text] :: Fo) (rs) := H
  obtain ⟨u14, hx15, hm⟩ := bnd hm
  refine st_call E (wn rfl) rfl rfl (x_call E rfl rfl (cf33 _)) (c_cantonref02_Writer_Num p7 v13 u11.1 u11.2 x1.Normal H hx15) ?_
  clear E H; clear a; clear w; rintro _ w ⟨v16, rfl, H⟩ a E
  refine wpList_nil ?_
  refine q_then ?_
  refine wp_seq ?_
  refine wp_region_lit ?_
  refine st_val E (wn rfl) rfl rfl (x_move E rfl rfl) ?_
  clear E; clear a; intro a E
  refine st_val E (wn rfl) rfl rfl (x_fa E rfl rfl (v := .pointer (some ⟨p4, 3, none⟩)) (fa24_3 _ _)) ?_
  clear E; clear a; intro a E
  refine st_val E (wn rfl) rfl rfl (x_ldB (i := 2) E H rfl rfl rfl rfl Try.underlying3 rfl) ?_
  clear E; clear a; intro a E
  replace H : Sep w (Blk p7 84 [v16, .bool u14.2] :: Row 5 (kI .u8) v16 u14.1 :: Blk p4 24 [.int .i64 x1.Kind, .int .i64 x1.View, .int .i64 x1.Normal, .int .i64 x1.Len, .int .i64 x1.Stays, (.slice q5 x1.Log.length x6), .int .i64 x1.Num, .string x1.Text] :: Fo) (rs) := H
  obtain ⟨u17, hx18, hm⟩ := bnd hm
  refine st_call E (wn rfl) rfl rfl (x_call E rfl rfl (cf33 _)) (c_cantonref02_Writer_Num p7 v16 u14.1 u14.2 x1.Len H hx18) ?_
  clear E H; clear a; clear w; rintro _ w ⟨v19, rfl, H⟩ a E
  refine wpList_nil ?_
  refine q_then ?_
  refine wp_seq ?_
  refine wp_region_lit ?_
  refine st_val E (wn rfl) rfl rfl (x_move E rfl rfl) ?_
  clear E; clear a; intro a E
  refine st_val E (wn rfl) rfl rfl (x_fa E rfl rfl (v := .pointer (some ⟨p4, 4, none⟩)) (fa24_4 _ _)) ?_
  clear E; clear a; intro a E
  refine st_val E (wn rfl) rfl rfl (x_ldB (i := 2) E H rfl rfl rfl rfl Try.underlying3 rfl) ?_
  clear E; clear a; intro a E
  replace H : Sep w (Blk p7 84 [v19, .bool u17.2] :: Row 5 (kI .u8) v19 u17.1 :: Blk p4 24 [.int .i64 x1.Kind, .int .i64 x1.View, .int .i64 x1.Normal, .int .i64 x1.Len, .int .i64 x1.Stays, (.slice q5 x1.Log.length x6), .int .i64 x1.Num, .string x1.Text] :: Fo) (rs) := H
  obtain ⟨u20, hx21, hm⟩ := bnd hm
  refine st_call E (wn rfl) rfl rfl (x_call E rfl rfl (cf33 _)) (c_cantonref02_Writer_Num p7 v19 u17.1 u17.2 x1.Stays H hx21) ?_
  clear E H; clear a; clear w; rintro _ w ⟨v22, rfl, H⟩ a E
  refine wpList_nil ?_
  refine q_then ?_
  refine wp_seq ?_
  refine wp_region_lit ?_
  refine st_val E (wn rfl) rfl rfl (x_move E rfl rfl) ?_
  clear E; clear a; intro a E
  refine st_val E (wn rfl) rfl rfl (x_fa E rfl rfl (v := .pointer (some ⟨p4, 5, none⟩)) (fa24_5 _ _)) ?_
  clear E; clear a; intro a E
  refine st_val E (wn rfl) rfl rfl (x_ldB (i := 2) E H rfl rfl rfl rfl Try.underlying22 rfl) ?_
  clear E; clear a; intro a E
  replace H : Sep w (Blk p7 84 [v22, .bool u20.2] :: Row 5 (kI .u8) v22 u20.1 :: Blk p4 24 [.int .i64 x1.Kind, .int .i64 x1.View, .int .i64 x1.Normal, .int .i64 x1.Len, .int .i64 x1.Stays, (.slice q5 x1.Log.length x6), .int .i64 x1.Num, .string x1.Text] :: Fo) (rs) := H
  obtain ⟨u23, hx24, hm⟩ := bnd hm
  refine st_call E (wn rfl) rfl rfl (x_call E rfl rfl (cf34 _)) (c_cantonref02_Writer_Texts p7 v22 u20.1 u20.2 (.slice q5 x1.Log.length x6) x1.Log H hr3 hx24) ?_
  clear E H; clear a; clear w; rintro _ w ⟨v25, rfl, H⟩ a E
  refine wpList_nil ?_
  refine q_then ?_
  refine wp_seq ?_
  refine wp_region_lit ?_
  refine st_val E (wn rfl) rfl rfl (x_move E rfl rfl) ?_
  clear E; clear a; intro a E
  refine st_val E (wn rfl) rfl rfl (x_fa E rfl rfl (v := .pointer (some ⟨p4, 6, none⟩)) (fa24_6 _ _)) ?_
  clear E; clear a; intro a E
  refine st_val E (wn rfl) rfl rfl (x_ldB (i := 2) E H rfl rfl rfl rfl Try.underlying2 rfl) ?_
  clear E; clear a; intro a E
  replace H : Sep w (Blk p7 84 [v25, .bool u23.2] :: Row 5 (kI .u8) v25 u23.1 :: Blk p4 24 [.int .i64 x1.Kind, .int .i64 x1.View, .int .i64 x1.Normal, .int .i64 x1.Len, .int .i64 x1.Stays, (.slice q5 x1.Log.length x6), .int .i64 x1.Num, .string x1.Text] :: Fo) (rs) := H
  obtain ⟨u26, hx27, hm⟩ := bnd hm
  refine st_call E (wn rfl) rfl rfl (x_call E rfl rfl (cf33 _)) (c_cantonref02_Writer_Num p7 v25 u23.1 u23.2 x1.Num H hx27) ?_
  clear E H; clear a; clear w; rintro _ w ⟨v28, rfl, H⟩ a E
  refine wpList_nil ?_
  refine q_then ?_
  refine wp_seq ?_
  refine wp_region_lit ?_
  refine st_val E (wn rfl) rfl rfl (x_move E rfl rfl) ?_
  clear E; clear a; intro a E
  refine st_val E (wn rfl) rfl rfl (x_fa E rfl rfl (v := .pointer (some ⟨p4, 7, none⟩)) (fa24_7 _ _)) ?_
  clear E; clear a; intro a E
  refine st_val E (wn rfl) rfl rfl (x_ldB (i := 2) E H rfl rfl rfl rfl Try.underlying9 rfl) ?_
  clear E; clear a; intro a E
  replace H : Sep w (Blk p7 84 [v28, .bool u26.2] :: Row 5 (kI .u8) v28 u26.1 :: Blk p4 24 [.int .i64 x1.Kind, .int .i64 x1.View, .int .i64 x1.Normal, .int .i64 x1.Len, .int .i64 x1.Stays, (.slice q5 x1.Log.length x6), .int .i64 x1.Num, .string x1.Text] :: Fo) (rs) := H
  obtain ⟨u29, hx30, hm⟩ := bnd hm
  refine st_call E (wn rfl) rfl rfl (x_call E rfl rfl (cf35 _)) (c_cantonref02_Writer_Text p7 v28 u26.1 u26.2 x1.Text H hx30) ?_
  clear E H; clear a; clear w; rintro _ w ⟨v31, rfl, H⟩ a E
  refine wpList_nil ?_
  refine q_then ?_
  refine wp_seq ?_
  refine wp_region_lit ?_
  refine st_val E (wn rfl) rfl rfl (x_move E rfl rfl) ?_
  clear E; clear a; intro a E
  replace H : Sep w (Blk p7 84 [v31, .bool u29.2] :: Row 5 (kI .u8) v31 u29.1 :: Blk p4 24 [.int .i64 x1.Kind, .int .i64 x1.View, .int .i64 x1.Normal, .int .i64 x1.Len, .int .i64 x1.Stays, (.slice q5 x1.Log.length x6), .int .i64 x1.Num, .string x1.Text] :: Fo) (rs) := H
  obtain ⟨u32, hx33, hm⟩ := bnd hm
  refine st_call E (wn rfl) rfl rfl (x_call E rfl rfl (cf36 _)) (c_cantonref02_Writer_Bytes p7 v31 u29.1 u29.2 H hx33) ?_
  clear E H; clear a; clear w; rintro _ w ⟨v34, rfl, H⟩ a E
  refine st_val E (wn rfl) rfl rfl (x_ext E rfl rfl rfl) ?_
  clear E; clear a; intro a E
  refine st_val E (wn rfl) rfl rfl (x_ext E rfl rfl rfl) ?_
  clear E; clear a; intro a E
  refine st_val E (wn rfl) rfl rfl (x_assign E rfl rfl) ?_
  clear E; clear a; intro a E
  refine st_val E (wn rfl) rfl rfl (x_assign E rfl rfl) ?_
  clear E; clear a; intro a E
  refine wpList_nil ?_
  refine q_then ?_
  refine wp_ret ?_
  refine out2 E rfl rfl rfl ?_
  replace H := H.drop 1
  replace H := H.drop 1
  replace H := H.drop 1
  obtain rfl := Option.some.inj hm
  exact ⟨v34, rfl, H.reads (fun r hr => hr)⟩
end Go.Cb

set_option linter.unusedVariables false
set_option linter.unusedSimpArgs false
namespace Go.Cb
open Go.Proofs Go.RowKit
def m_cantonref17_PutSaved (x1 : S_api_Saved) : Option ((List Int) × Int) :=
  (m_cantonref02_Writer_Num [] false x1.View).bind fun u8 => (m_cantonref02_Writer_Num u8.1 u8.2 x1.Normal).bind fun u11 => (m_cantonref02_Writer_Texts u11.1 u11.2 x1.Log).bind fun u14 => (m_cantonref02_Writer_Bytes u14.1 u14.2).bind fun u17 => some (u17.1, u17.2)
set_option maxRecDepth 20000 in
set_option maxHeartbeats 1000000 in
theorem c_cantonref17_PutSaved {w : World} {Fo : List Ob} {rs : List Rp} (x1 : S_api_Saved) (v2 : Value) (H : Sep w (Fo) rs) (hr3 : rSl kS v2 x1.Log ∈ rs) {r : (List Int) × Int} (hm : m_cantonref17_PutSaved x1 = some r) :
    Calls Try.prog 14 [.agg #[.int .i64 x1.View, .int .i64 x1.Normal, v2]].toArray w (Ret fun v w' => ∃ (v5001 : Value), .tuple #[v5001, .int .i64 r.2] = v ∧ Sep w' (Row 5 (kI .u8) v5001 r.1 :: Fo) (rs)) := by
  unfold m_cantonref17_PutSaved at hm
  refine enter Try.func14 rfl Try.ntmps14 rfl fun a E => ?_
  simp only [enum, Nat.reduceAdd] at E
  refine wp_seq ?_
  refine wp_region_lit ?_
  obtain ⟨q5, x6, rfl⟩ := H.slform hr3
  refine st_box E H (wn rfl) rfl rfl (cs := [.int .i64 x1.View, .int .i64 x1.Normal, (.slice q5 x1.Log.length x6)]) rfl rfl rfl ?_
  clear E H; clear a; clear w; intro p4 w a H E
  refine st_val E (wn rfl) rfl rfl (x_assign E rfl rfl) ?_
  clear E; clear a; intro a E
  refine st_val E (wn rfl) rfl rfl (x_assign E rfl rfl) ?_
  clear E; clear a; intro a E
  refine wpList_nil ?_
  refine q_then ?_
  refine wp_seq ?_
  refine wp_region_lit ?_
  refine st_val E (wn rfl) rfl rfl (x_build E (ps := []) (vs := []) rfl rfl (v := .agg #[.slice none 0 0, .bool false]) (by kernel_rfl)) ?_
  clear E; clear a; intro a E
  refine st_box E H (wn rfl) rfl rfl (cs := [.slice none 0 0, .bool false]) rfl rfl rfl ?_
  clear E H; clear a; clear w; intro p7 w a H E
  refine st_val E (wn rfl) rfl rfl (x_assign E rfl rfl) ?_
  clear E; clear a; intro a E
  refine wpList_nil ?_
  refine q_then ?_
  refine wp_seq ?_
  refine wp_region_lit ?_
  refine st_val E (wn rfl) rfl rfl (x_move E rfl rfl) ?_
  clear E; clear a; intro a E
  refine st_val E (wn rfl) rfl rfl (x_fa E rfl rfl (v := .pointer (some ⟨p4, 0, none⟩)) (fa26_0 _ _)) ?_
  clear E; clear a; intro a E
  refine st_val E (wn rfl) rfl rfl (x_ldB (i := 1) E H rfl rfl rfl rfl Try.underlying2 rfl) ?_
  clear E; clear a; intro a E
  replace H := H.nilRow 5 (kI .u8)
  replace H := H.front 2 rfl
  replace H := H.front 1 rfl
  replace H := H.front 2 rfl
  replace H : Sep w (Blk p7 84 [.slice none 0 0, .bool false] :: Row 5 (kI .u8) (.slice none 0 0) ([] : List Int) :: Blk p4 26 [.int .i64 x1.View, .int .i64 x1.Normal, (.slice q5 x1.Log.length x6)] :: Fo) (rs) := H
  obtain ⟨u8, hx9, hm⟩ := bnd hm
  refine st_call E (wn rfl) rfl rfl (x_call E rfl rfl (cf33 _)) (c_cantonref02_Writer_Num p7 (.slice none 0 0) [] false x1.View H hx9) ?_
  clear E H; clear a; clear w; rintro _ w ⟨v10, rfl, H⟩ a E
  refine wpList_nil ?_
  refine q_then ?_
  refine wp_seq ?_
  refine wp_region_lit ?_
  refine st_val E (wn rfl) rfl rfl (x_move E rfl rfl) ?_
  clear E; clear a; intro a E
  refine st_val E (wn rfl) rfl rfl (x_fa E rfl rfl (v := .pointer (some ⟨p4, 1, none⟩)) (fa26_1 _ _)) ?_
  clear E; clear a; intro a E
  refine st_val E (wn rfl) rfl rfl (x_ldB (i := 2) E H rfl rfl rfl rfl Try.underlying2 rfl) ?_
  clear E; clear a; intro a E
  replace H : Sep w (Blk p7 84 [v10, .bool u8.2] :: Row 5 (kI .u8) v10 u8.1 :: Blk p4 26 [.int .i64 x1.View, .int .i64 x1.Normal, (.slice q5 x1.Log.length x6)] :: Fo) (rs) := H
  obtain ⟨u11, hx12, hm⟩ := bnd hm
  refine st_call E (wn rfl) rfl rfl (x_call E rfl rfl (cf33 _)) (c_cantonref02_Writer_Num p7 v10 u8.1 u8.2 x1.Normal H hx12) ?_
  clear E H; clear a; clear w; rintro _ w ⟨v13, rfl, H⟩ a E
  refine wpList_nil ?_
  refine q_then ?_
  refine wp_seq ?_
  refine wp_region_lit ?_
  refine st_val E (wn rfl) rfl rfl (x_move E rfl rfl) ?_
  clear E; clear a; intro a E
  refine st_val E (wn rfl) rfl rfl (x_fa E rfl rfl (v := .pointer (some ⟨p4, 2, none⟩)) (fa26_2 _ _)) ?_
  clear E; clear a; intro a E
  refine st_val E (wn rfl) rfl rfl (x_ldB (i := 2) E H rfl rfl rfl rfl Try.underlying22 rfl) ?_
  clear E; clear a; intro a E
  replace H : Sep w (Blk p7 84 [v13, .bool u11.2] :: Row 5 (kI .u8) v13 u11.1 :: Blk p4 26 [.int .i64 x1.View, .int .i64 x1.Normal, (.slice q5 x1.Log.length x6)] :: Fo) (rs) := H
  obtain ⟨u14, hx15, hm⟩ := bnd hm
  refine st_call E (wn rfl) rfl rfl (x_call E rfl rfl (cf34 _)) (c_cantonref02_Writer_Texts p7 v13 u11.1 u11.2 (.slice q5 x1.Log.length x6) x1.Log H hr3 hx15) ?_
  clear E H; clear a; clear w; rintro _ w ⟨v16, rfl, H⟩ a E
  refine wpList_nil ?_
  refine q_then ?_
  refine wp_seq ?_
  refine wp_region_lit ?_
  refine st_val E (wn rfl) rfl rfl (x_move E rfl rfl) ?_
  clear E; clear a; intro a E
  replace H : Sep w (Blk p7 84 [v16, .bool u14.2] :: Row 5 (kI .u8) v16 u14.1 :: Blk p4 26 [.int .i64 x1.View, .int .i64 x1.Normal, (.slice q5 x1.Log.length x6)] :: Fo) (rs) := H
  obtain ⟨u17, hx18, hm⟩ := bnd hm
  refine st_call E (wn rfl) rfl rfl (x_call E rfl rfl (cf36 _)) (c_cantonref02_Writer_Bytes p7 v16 u14.1 u14.2 H hx18) ?_
  clear E H; clear a; clear w; rintro _ w ⟨v19, rfl, H⟩ a E
  refine st_val E (wn rfl) rfl rfl (x_ext E rfl rfl rfl) ?_
  clear E; clear a; intro a E
  refine st_val E (wn rfl) rfl rfl (x_ext E rfl rfl rfl) ?_
  clear E; clear a; intro a E
  refine st_val E (wn rfl) rfl rfl (x_assign E rfl rfl) ?_
  clear E; clear a; intro a E
  refine st_val E (wn rfl) rfl rfl (x_assign E rfl rfl) ?_
  clear E; clear a; intro a E
  refine wpList_nil ?_
  refine q_then ?_
  refine wp_ret ?_
  refine out2 E rfl rfl rfl ?_
  replace H := H.drop 1
  replace H := H.drop 1
  replace H := H.drop 1
  obtain rfl := Option.some.inj hm
  exact ⟨v19, rfl, H.reads (fun r hr => hr)⟩
end Go.Cb

set_option linter.unusedVariables false
set_option linter.unusedSimpArgs false
namespace Go.Cb
open Go.Proofs Go.RowKit
def m_cantonref17_Get (l2 : List Int) : Option (S_api_Letter × Int) :=
  (m_cantonref02_New l2).bind fun u5 => (m_cantonref02_Reader_Num u5 0 281474976710656).bind fun u10 => (m_cantonref02_Reader_Num u10.2.1 u10.2.2 281474976710656).bind fun u13 => (m_cantonref02_Reader_Num u13.2.1 u13.2.2 281474976710656).bind fun u16 => (m_cantonref02_Reader_Num u16.2.1 u16.2.2 281474976710656).bind fun u19 => (m_cantonref02_Reader_Num u19.2.1 u19.2.2 281474976710656).bind fun u22 => (m_cantonref02_Reader_Texts u22.2.1 u22.2.2).bind fun u25 => (m_cantonref02_Reader_Num u25.2.1 u25.2.2 281474976710656).bind fun u31 => (m_cantonref02_Reader_Text u31.2.1 u31.2.2).bind fun u34 => (m_cantonref02_Reader_End u34.2.1 u34.2.2).bind fun u37 => if (!u37) = true then (some ((⟨0, 0, 0, 0, 0, [], 0, (ByteArray.mk #[])⟩ : S_api_Letter), 3)) else (some ((⟨u10.1, u13.1, u16.1, u19.1, u22.1, u25.1, u31.1, u34.1⟩ : S_api_Letter), 0))
set_option maxRecDepth 20000 in
set_option maxHeartbeats 1000000 in
theorem c_cantonref17_Get {w : World} {Fo : List Ob} {rs : List Rp} (v1 : Value) (l2 : List Int) (H : Sep w (Fo) rs) (hr3 : rSl (kI .u8) v1 l2 ∈ rs) {r : S_api_Letter × Int} (hm : m_cantonref17_Get l2 = some r) :
    Calls Try.prog 16 [v1].toArray w (Ret fun v w' => ∃ (v5002 : Value), .tuple #[.agg #[.int .i64 r.1.Kind, .int .i64 r.1.View, .int .i64 r.1.Normal, .int .i64 r.1.Len, .int .i64 r.1.Stays, v5002, .int .i64 r.1.Num, .string r.1.Text], .int .i64 r.2] = v ∧ Sep w' (Fo) (rSl kS v5002 r.1.Log :: rs)) := by
  unfold m_cantonref17_Get at hm
  refine enter Try.func16 rfl Try.ntmps16 rfl fun a E => ?_
  simp only [enum, Nat.reduceAdd] at E
  refine wp_seq ?_
  refine wp_region_lit ?_
  refine st_alloc E H (wn rfl) rfl rfl (cs := [.int .i64 0, .int .i64 0, .int .i64 0, .int .i64 0, .int .i64 0, .slice none 0 0, .int .i64 0, .string (ByteArray.mk #[])]) rfl (z := .agg #[.int .i64 0, .int .i64 0, .int .i64 0, .int .i64 0, .int .i64 0, .slice none 0 0, .int .i64 0, .string ⟨#[]⟩]) (by kernel_rfl) rfl ?_
  clear E H; clear a; clear w; intro p4 w a H E
  refine st_val E (wn rfl) rfl rfl (x_assign E rfl rfl) ?_
  clear E; clear a; intro a E
  refine wpList_nil ?_
  refine q_then ?_
  refine wp_seq ?_
  refine wp_region_lit ?_
  refine st_val E (wn rfl) rfl rfl (x_move E rfl rfl) ?_
  clear E; clear a; intro a E
  replace H : Sep w (Blk p4 24 [.int .i64 0, .int .i64 0, .int .i64 0, .int .i64 0, .int .i64 0, .slice none 0 0, .int .i64 0, .string (ByteArray.mk #[])] :: Fo) (rs) := H
  obtain ⟨u5, hx6, hm⟩ := bnd hm
  refine st_call E (wn rfl) rfl rfl (x_call E rfl rfl (cf43 _)) (c_cantonref02_New v1 l2 H hr3 hx6) ?_
  clear E H; clear a; clear w; rintro _ w ⟨p7, v8, rfl, H⟩ a E
  refine st_val E (wn rfl) rfl rfl (x_assign E rfl rfl) ?_
  clear E; clear a; intro a E
  refine wpList_nil ?_
  refine q_then ?_
  refine wp_seq ?_
  refine wp_region_lit ?_
  refine st_alloc E H (wn rfl) rfl rfl (cs := [.int .i64 0, .int .i64 0, .int .i64 0, .int .i64 0, .int .i64 0, .slice none 0 0, .int .i64 0, .string (ByteArray.mk #[])]) rfl (z := .agg #[.int .i64 0, .int .i64 0, .int .i64 0, .int .i64 0, .int .i64 0, .slice none 0 0, .int .i64 0, .string ⟨#[]⟩]) (by kernel_rfl) rfl ?_
  clear E H; clear a; clear w; intro p9 w a H E
  refine wpList_nil ?_
  refine q_then ?_
  refine wp_seq ?_
  refine wp_region_lit ?_
  refine st_val E (wn rfl) rfl rfl (x_move E rfl rfl) ?_
  clear E; clear a; intro a E
  replace H := H.thaw (i := 2) rfl
  replace H := H.front 2 rfl
  replace H := H.front 1 rfl
  replace H := H.front 2 rfl
  replace H : Sep w (Blk p7 128 [v8, .int .i64 0] :: Blk p9 24 [.int .i64 0, .int .i64 0, .int .i64 0, .int .i64 0, .int .i64 0, .slice none 0 0, .int .i64 0, .string (ByteArray.mk #[])] :: Blk p4 24 [.int .i64 0, .int .i64 0, .int .i64 0, .int .i64 0, .int .i64 0, .slice none 0 0, .int .i64 0, .string (ByteArray.mk #[])] :: Fo) (rSl (kI .u8) v8 u5 :: rs) := H
  obtain ⟨u10, hx11, hm⟩ := bnd hm
  refine st_call E (wn rfl) rfl rfl (x_call E rfl rfl (cf44 _)) (c_cantonref02_Reader_Num p7 v8 u5 0 281474976710656 H (.head _) hx11) ?_
  clear E H; clear a; clear w; rintro _ w ⟨v12, rfl, H⟩ a E
  refine st_val E (wn rfl) rfl rfl (x_fa E rfl rfl (v := .pointer (some ⟨p9, 0, none⟩)) (fa24_0 _ _)) ?_
  clear E; clear a; intro a E
  refine st_st (i := 1) E H (wn rfl) rfl (us := [.int .i64 u10.1]) rfl rfl rfl rfl rfl sz3 rfl rfl ?_
  clear H; clear w; intro w H
  replace H : Sep w (Blk p7 128 [v12, .int .i64 u10.2.2] :: Blk p9 24 [.int .i64 u10.1, .int .i64 0, .int .i64 0, .int .i64 0, .int .i64 0, .slice none 0 0, .int .i64 0, .string (ByteArray.mk #[])] :: Blk p4 24 [.int .i64 0, .int .i64 0, .int .i64 0, .int .i64 0, .int .i64 0, .slice none 0 0, .int .i64 0, .string (ByteArray.mk #[])] :: Fo) _ := H
  refine wpList_nil ?_
  refine q_then ?_
  refine wp_seq ?_
  refine wp_region_lit ?_
  refine st_val E (wn rfl) rfl rfl (x_move E rfl rfl) ?_
  clear E; clear a; intro a E
  replace H : Sep w (Blk p7 128 [v12, .int .i64 u10.2.2] :: Blk p9 24 [.int .i64 u10.1, .int .i64 0, .int .i64 0, .int .i64 0, .int .i64 0, .slice none 0 0, .int .i64 0, .string (ByteArray.mk #[])] :: Blk p4 24 [.int .i64 0, .int .i64 0, .int .i64 0, .int .i64 0, .int .i64 0, .slice none 0 0, .int .i64 0, .string (ByteArray.mk #[])] :: Fo) (rSl (kI .u8) v12 u10.2.1 :: rSl (kI .u8) v8 u5 :: rs) := H
  obtain ⟨u13, hx14, hm⟩ := bnd hm
  refine st_call E (wn rfl) rfl rfl (x_call E rfl rfl (cf44 _)) (c_cantonref02_Reader_Num p7 v12 u10.2.1 u10.2.2 281474976710656 H (.head _) hx14) ?_
  clear E H; clear a; clear w; rintro _ w ⟨v15, rfl, H⟩ a E
  refine st_val E (wn rfl) rfl rfl (x_fa E rfl rfl (v := .pointer (some ⟨p9, 1, none⟩)) (fa24_1 _ _)) ?_
  clear E; clear a; intro a E
  refine st_st (i := 1) E H (wn rfl) rfl (us := [.int .i64 u13.1]) rfl rfl rfl rfl rfl sz2 rfl rfl ?_
  clear H; clear w; intro w H
  replace H : Sep w (Blk p7 128 [v15, .int .i64 u13.2.2] :: Blk p9 24 [.int .i64 u10.1, .int .i64 u13.1, .int .i64 0, .int .i64 0, .int .i64 0, .slice none 0 0, .int .i64 0, .string (ByteArray.mk #[])] :: Blk p4 24 [.int .i64 0, .int .i64 0, .int .i64 0, .int .i64 0, .int .i64 0, .slice none 0 0, .int .i64 0, .string (ByteArray.mk #[])] :: Fo) _ := H
  refine wpList_nil ?_
  refine q_then ?_
  refine wp_seq ?_
  refine wp_region_lit ?_
  refine st_val E (wn rfl) rfl rfl (x_move E rfl rfl) ?_
  clear E; clear a; intro a E
  replace H : Sep w (Blk p7 128 [v15, .int .i64 u13.2.2] :: Blk p9 24 [.int .i64 u10.1, .int .i64 u13.1, .int .i64 0, .int .i64 0, .int .i64 0, .slice none 0 0, .int .i64 0, .string (ByteArray.mk #[])] :: Blk p4 24 [.int .i64 0, .int .i64 0, .int .i64 0, .int .i64 0, .int .i64 0, .slice none 0 0, .int .i64 0, .string (ByteArray.mk #[])] :: Fo) (rSl (kI .u8) v15 u13.2.1 :: rSl (kI .u8) v12 u10.2.1 :: rSl (kI .u8) v8 u5 :: rs) := H
  obtain ⟨u16, hx17, hm⟩ := bnd hm
  refine st_call E (wn rfl) rfl rfl (x_call E rfl rfl (cf44 _)) (c_cantonref02_Reader_Num p7 v15 u13.2.1 u13.2.2 281474976710656 H (.head _) hx17) ?_
  clear E H; clear a; clear w; rintro _ w ⟨v18, rfl, H⟩ a E
  refine st_val E (wn rfl) rfl rfl (x_fa E rfl rfl (v := .pointer (some ⟨p9, 2, none⟩)) (fa24_2 _ _)) ?_
  clear E; clear a; intro a E
  refine st_st (i := 1) E H (wn rfl) rfl (us := [.int .i64 u16.1]) rfl rfl rfl rfl rfl sz2 rfl rfl ?_
  clear H; clear w; intro w H
  replace H : Sep w (Blk p7 128 [v18, .int .i64 u16.2.2] :: Blk p9 24 [.int .i64 u10.1, .int .i64 u13.1, .int .i64 u16.1, .int .i64 0, .int .i64 0, .slice none 0 0, .int .i64 0, .string (ByteArray.mk #[])] :: Blk p4 24 [.int .i64 0, .int .i64 0, .int .i64 0, .int .i64 0, .int .i64 0, .slice none 0 0, .int .i64 0, .string (ByteArray.mk #[])] :: Fo) _ := H
  refine wpList_nil ?_
  refine q_then ?_
  refine wp_seq ?_
  refine wp_region_lit ?_
  refine st_val E (wn rfl) rfl rfl (x_move E rfl rfl) ?_
  clear E; clear a; intro a E
  replace H : Sep w (Blk p7 128 [v18, .int .i64 u16.2.2] :: Blk p9 24 [.int .i64 u10.1, .int .i64 u13.1, .int .i64 u16.1, .int .i64 0, .int .i64 0, .slice none 0 0, .int .i64 0, .string (ByteArray.mk #[])] :: Blk p4 24 [.int .i64 0, .int .i64 0, .int .i64 0, .int .i64 0, .int .i64 0, .slice none 0 0, .int .i64 0, .string (ByteArray.mk #[])] :: Fo) (rSl (kI .u8) v18 u16.2.1 :: rSl (kI .u8) v15 u13.2.1 :: rSl (kI .u8) v12 u10.2.1 :: rSl (kI .u8) v8 u5 :: rs) := H
  obtain ⟨u19, hx20, hm⟩ := bnd hm
  refine st_call E (wn rfl) rfl rfl (x_call E rfl rfl (cf44 _)) (c_cantonref02_Reader_Num p7 v18 u16.2.1 u16.2.2 281474976710656 H (.head _) hx20) ?_
  clear E H; clear a; clear w; rintro _ w ⟨v21, rfl, H⟩ a E
  refine st_val E (wn rfl) rfl rfl (x_fa E rfl rfl (v := .pointer (some ⟨p9, 3, none⟩)) (fa24_3 _ _)) ?_
  clear E; clear a; intro a E
  refine st_st (i := 1) E H (wn rfl) rfl (us := [.int .i64 u19.1]) rfl rfl rfl rfl rfl sz3 rfl rfl ?_
  clear H; clear w; intro w H
  replace H : Sep w (Blk p7 128 [v21, .int .i64 u19.2.2] :: Blk p9 24 [.int .i64 u10.1, .int .i64 u13.1, .int .i64 u16.1, .int .i64 u19.1, .int .i64 0, .slice none 0 0, .int .i64 0, .string (ByteArray.mk #[])] :: Blk p4 24 [.int .i64 0, .int .i64 0, .int .i64 0, .int .i64 0, .int .i64 0, .slice none 0 0, .int .i64 0, .string (ByteArray.mk #[])] :: Fo) _ := H
  refine wpList_nil ?_
  refine q_then ?_
  refine wp_seq ?_
  refine wp_region_lit ?_
  refine st_val E (wn rfl) rfl rfl (x_move E rfl rfl) ?_
  clear E; clear a; intro a E
  replace H : Sep w (Blk p7 128 [v21, .int .i64 u19.2.2] :: Blk p9 24 [.int .i64 u10.1, .int .i64 u13.1, .int .i64 u16.1, .int .i64 u19.1, .int .i64 0, .slice none 0 0, .int .i64 0, .string (ByteArray.mk #[])] :: Blk p4 24 [.int .i64 0, .int .i64 0, .int .i64 0, .int .i64 0, .int .i64 0, .slice none 0 0, .int .i64 0, .string (ByteArray.mk #[])] :: Fo) (rSl (kI .u8) v21 u19.2.1 :: rSl (kI .u8) v18 u16.2.1 :: rSl (kI .u8) v15 u13.2.1 :: rSl (kI .u8) v12 u10.2.1 :: rSl (kI .u8) v8 u5 :: rs) := H
  obtain ⟨u22, hx23, hm⟩ := bnd hm
  refine st_call E (wn rfl) rfl rfl (x_call E rfl rfl (cf44 _)) (c_cantonref02_Reader_Num p7 v21 u19.2.1 u19.2.2 281474976710656 H (.head _) hx23) ?_
  clear E H; clear a; clear w; rintro _ w ⟨v24, rfl, H⟩ a E
  refine st_val E (wn rfl) rfl rfl (x_fa E rfl rfl (v := .pointer (some ⟨p9, 4, none⟩)) (fa24_4 _ _)) ?_
  clear E; clear a; intro a E
  refine st_st (i := 1) E H (wn rfl) rfl (us := [.int .i64 u22.1]) rfl rfl rfl rfl rfl sz3 rfl rfl ?_
  clear H; clear w; intro w H
  replace H : Sep w (Blk p7 128 [v24, .int .i64 u22.2.2] :: Blk p9 24 [.int .i64 u10.1, .int .i64 u13.1, .int .i64 u16.1, .int .i64 u19.1, .int .i64 u22.1, .slice none 0 0, .int .i64 0, .string (ByteArray.mk #[])] :: Blk p4 24 [.int .i64 0, .int .i64 0, .int .i64 0, .int .i64 0, .int .i64 0, .slice none 0 0, .int .i64 0, .string (ByteArray.mk #[])] :: Fo) _ := H
  refine wpList_nil ?_
  refine q_then ?_
  refine wp_seq ?_
  refine wp_region_lit ?_
  refine st_val E (wn rfl) rfl rfl (x_move E rfl rfl) ?_
  clear E; clear a; intro a E
  replace H : Sep w (Blk p7 128 [v24, .int .i64 u22.2.2] :: Blk p9 24 [.int .i64 u10.1, .int .i64 u13.1, .int .i64 u16.1, .int .i64 u19.1, .int .i64 u22.1, .slice none 0 0, .int .i64 0, .string (ByteArray.mk #[])] :: Blk p4 24 [.int .i64 0, .int .i64 0, .int .i64 0, .int .i64 0, .int .i64 0, .slice none 0 0, .int .i64 0, .string (ByteArray.mk #[])] :: Fo) (rSl (kI .u8) v24 u22.2.1 :: rSl (kI .u8) v21 u19.2.1 :: rSl (kI .u8) v18 u16.2.1 :: rSl (kI .u8) v15 u13.2.1 :: rSl (kI .u8) v12 u10.2.1 :: rSl (kI .u8) v8 u5 :: rs) := H
  obtain ⟨u25, hx26, hm⟩ := bnd hm
  refine st_call E (wn rfl) rfl rfl (x_call E rfl rfl (cf45 _)) (c_cantonref02_Reader_Texts p7 v24 u22.2.1 u22.2.2 H (.head _) hx26) ?_
  clear E H; clear a; clear w; rintro _ w ⟨v27, v28, rfl, H⟩ a E
  refine st_val E (wn rfl) rfl rfl (x_fa E rfl rfl (v := .pointer (some ⟨p9, 5, none⟩)) (fa24_5 _ _)) ?_
  clear E; clear a; intro a E
  obtain ⟨q29, x30, rfl⟩ := H.rowform (i := 0) rfl
  refine st_st (i := 2) E H (wn rfl) rfl (us := [(.slice q29 u25.1.length x30)]) rfl rfl rfl rfl rfl sz22 rfl rfl ?_
  clear H; clear w; intro w H
  replace H : Sep w (Row 9 kS (.slice q29 u25.1.length x30) u25.1 :: Blk p7 128 [v28, .int .i64 u25.2.2] :: Blk p9 24 [.int .i64 u10.1, .int .i64 u13.1, .int .i64 u16.1, .int .i64 u19.1, .int .i64 u22.1, (.slice q29 u25.1.length x30), .int .i64 0, .string (ByteArray.mk #[])] :: Blk p4 24 [.int .i64 0, .int .i64 0, .int .i64 0, .int .i64 0, .int .i64 0, .slice none 0 0, .int .i64 0, .string (ByteArray.mk #[])] :: Fo) _ := H
  refine wpList_nil ?_
  refine q_then ?_
  refine wp_seq ?_
  refine wp_region_lit ?_
  refine st_val E (wn rfl) rfl rfl (x_move E rfl rfl) ?_
  clear E; clear a; intro a E
  replace H := H.front 3 rfl
  replace H := H.front 3 rfl
  replace H := H.front 2 rfl
  replace H := H.front 3 rfl
  replace H : Sep w (Blk p7 128 [v28, .int .i64 u25.2.2] :: Row 9 kS (.slice q29 u25.1.length x30) u25.1 :: Blk p9 24 [.int .i64 u10.1, .int .i64 u13.1, .int .i64 u16.1, .int .i64 u19.1, .int .i64 u22.1, (.slice q29 u25.1.length x30), .int .i64 0, .string (ByteArray.mk #[])] :: Blk p4 24 [.int .i64 0, .int .i64 0, .int .i64 0, .int .i64 0, .int .i64 0, .slice none 0 0, .int .i64 0, .string (ByteArray.mk #[])] :: Fo) (rSl (kI .u8) v28 u25.2.1 :: rSl (kI .u8) v24 u22.2.1 :: rSl (kI .u8) v21 u19.2.1 :: rSl (kI .u8) v18 u16.2.1 :: rSl (kI .u8) v15 u13.2.1 :: rSl (kI .u8) v12 u10.2.1 :: rSl (kI .u8) v8 u5 :: rs) := H
  obtain ⟨u31, hx32, hm⟩ := bnd hm
  refine st_call E (wn rfl) rfl rfl (x_call E rfl rfl (cf44 _)) (c_cantonref02_Reader_Num p7 v28 u25.2.1 u25.2.2 281474976710656 H (.head _) hx32) ?_
  clear E H; clear a; clear w; rintro _ w ⟨v33, rfl, H⟩ a E
  refine st_val E (wn rfl) rfl rfl (x_fa E rfl rfl (v := .pointer (some ⟨p9, 6, none⟩)) (fa24_6 _ _)) ?_
  clear E; clear a; intro a E
  refine st_st (i := 2) E H (wn rfl) rfl (us := [.int .i64 u31.1]) rfl rfl rfl rfl rfl sz2 rfl rfl ?_
  clear H; clear w; intro w H
  replace H : Sep w (Blk p7 128 [v33, .int .i64 u31.2.2] :: Row 9 kS (.slice q29 u25.1.length x30) u25.1 :: Blk p9 24 [.int .i64 u10.1, .int .i64 u13.1, .int .i64 u16.1, .int .i64 u19.1, .int .i64 u22.1, (.slice q29 u25.1.length x30), .int .i64 u31.1, .string (ByteArray.mk #[])] :: Blk p4 24 [.int .i64 0, .int .i64 0, .int .i64 0, .int .i64 0, .int .i64 0, .slice none 0 0, .int .i64 0, .string (ByteArray.mk #[])] :: Fo) _ := H
  refine wpList_nil ?_
  refine q_then ?_
  refine wp_seq ?_
  refine wp_region_lit ?_
  refine st_val E (wn rfl) rfl rfl (x_move E rfl rfl) ?_
  clear E; clear a; intro a E
  replace H : Sep w (Blk p7 128 [v33, .int .i64 u31.2.2] :: Row 9 kS (.slice q29 u25.1.length x30) u25.1 :: Blk p9 24 [.int .i64 u10.1, .int .i64 u13.1, .int .i64 u16.1, .int .i64 u19.1, .int .i64 u22.1, (.slice q29 u25.1.length x30), .int .i64 u31.1, .string (ByteArray.mk #[])] :: Blk p4 24 [.int .i64 0, .int .i64 0, .int .i64 0, .int .i64 0, .int .i64 0, .slice none 0 0, .int .i64 0, .string (ByteArray.mk #[])] :: Fo) (rSl (kI .u8) v33 u31.2.1 :: rSl (kI .u8) v28 u25.2.1 :: rSl (kI .u8) v24 u22.2.1 :: rSl (kI .u8) v21 u19.2.1 :: rSl (kI .u8) v18 u16.2.1 :: rSl (kI .u8) v15 u13.2.1 :: rSl (kI .u8) v12 u10.2.1 :: rSl (kI .u8) v8 u5 :: rs) := H
  obtain ⟨u34, hx35, hm⟩ := bnd hm
  refine st_call E (wn rfl) rfl rfl (x_call E rfl rfl (cf46 _)) (c_cantonref02_Reader_Text p7 v33 u31.2.1 u31.2.2 H (.head _) hx35) ?_
  clear E H; clear a; clear w; rintro _ w ⟨v36, rfl, H⟩ a E
  refine st_val E (wn rfl) rfl rfl (x_fa E rfl rfl (v := .pointer (some ⟨p9, 7, none⟩)) (fa24_7 _ _)) ?_
  clear E; clear a; intro a E
  refine st_st (i := 2) E H (wn rfl) rfl (us := [.string u34.1]) rfl rfl rfl rfl rfl sz9 rfl rfl ?_
  clear H; clear w; intro w H
  replace H : Sep w (Blk p7 128 [v36, .int .i64 u34.2.2] :: Row 9 kS (.slice q29 u25.1.length x30) u25.1 :: Blk p9 24 [.int .i64 u10.1, .int .i64 u13.1, .int .i64 u16.1, .int .i64 u19.1, .int .i64 u22.1, (.slice q29 u25.1.length x30), .int .i64 u31.1, .string u34.1] :: Blk p4 24 [.int .i64 0, .int .i64 0, .int .i64 0, .int .i64 0, .int .i64 0, .slice none 0 0, .int .i64 0, .string (ByteArray.mk #[])] :: Fo) _ := H
  refine wpList_nil ?_
  refine q_then ?_
  refine wp_seq ?_
  refine wp_seq ?_
  refine wp_region_lit ?_
  refine st_val E (wn rfl) rfl rfl (x_move E rfl rfl) ?_
  clear E; clear a; intro a E
  replace H : Sep w (Blk p7 128 [v36, .int .i64 u34.2.2] :: Row 9 kS (.slice q29 u25.1.length x30) u25.1 :: Blk p9 24 [.int .i64 u10.1, .int .i64 u13.1, .int .i64 u16.1, .int .i64 u19.1, .int .i64 u22.1, (.slice q29 u25.1.length x30), .int .i64 u31.1, .string u34.1] :: Blk p4 24 [.int .i64 0, .int .i64 0, .int .i64 0, .int .i64 0, .int .i64 0, .slice none 0 0, .int .i64 0, .string (ByteArray.mk #[])] :: Fo) (rSl (kI .u8) v36 u34.2.1 :: rSl (kI .u8) v33 u31.2.1 :: rSl (kI .u8) v28 u25.2.1 :: rSl (kI .u8) v24 u22.2.1 :: rSl (kI .u8) v21 u19.2.1 :: rSl (kI .u8) v18 u16.2.1 :: rSl (kI .u8) v15 u13.2.1 :: rSl (kI .u8) v12 u10.2.1 :: rSl (kI .u8) v8 u5 :: rs) := H
  obtain ⟨u37, hx38, hm⟩ := bnd hm
  refine st_call E (wn rfl) rfl rfl (x_call E rfl rfl (cf47 _)) (c_cantonref02_Reader_End p7 v36 u34.2.1 u34.2.2 H (.head _) hx38) ?_
  clear E H; clear a; clear w; rintro _ w ⟨rfl, H⟩ a E
  refine st_val E (wn rfl) rfl rfl (x_not E rfl rfl) ?_
  clear E; clear a; intro a E
  refine wpList_nil ?_
  refine q_then ?_
  refine wp_if E rfl ?_ ?_
  · intro hb
    rw [if_t hb] at hm
    clear hb
    refine wp_seq ?_
    refine wp_region_lit ?_
    refine st_val E (wn rfl) rfl rfl (x_build E (ps := []) (vs := []) rfl rfl (v := .agg #[.int .i64 0, .int .i64 0, .int .i64 0, .int .i64 0, .int .i64 0, .slice none 0 0, .int .i64 0, .string (ByteArray.mk #[])]) (by kernel_rfl)) ?_
    clear E; clear a; intro a E
    refine st_st (i := 3) E H (wn rfl) rfl (us := [.int .i64 0, .int .i64 0, .int .i64 0, .int .i64 0, .int .i64 0, .slice none 0 0, .int .i64 0, .string (ByteArray.mk #[])]) rfl rfl rfl rfl rfl sz24 rfl rfl ?_
    clear H; clear w; intro w H
    replace H : Sep w (Blk p7 128 [v36, .int .i64 u34.2.2] :: Row 9 kS (.slice q29 u25.1.length x30) u25.1 :: Blk p9 24 [.int .i64 u10.1, .int .i64 u13.1, .int .i64 u16.1, .int .i64 u19.1, .int .i64 u22.1, (.slice q29 u25.1.length x30), .int .i64 u31.1, .string u34.1] :: Blk p4 24 [.int .i64 0, .int .i64 0, .int .i64 0, .int .i64 0, .int .i64 0, .slice none 0 0, .int .i64 0, .string (ByteArray.mk #[])] :: Fo) _ := H
    refine st_val E (wn rfl) rfl rfl (x_assign E rfl rfl) ?_
    clear E; clear a; intro a E
    refine wpList_nil ?_
    refine q_then ?_
    refine wp_ret ?_
    refine q_thenR ?_
    refine outR2 E rfl (rvBN (i := 3) (us := [.int .i64 0, .int .i64 0, .int .i64 0, .int .i64 0, .int .i64 0, .slice none 0 0, .int .i64 0, .string (ByteArray.mk #[])]) H rfl rfl rfl Try.underlying24 rfl sz24) (rvT rfl) ?_
    replace H := H.nilSl kS
    replace H := H.drop 0
    replace H := H.drop 0
    replace H := H.drop 0
    replace H := H.drop 0
    obtain rfl := Option.some.inj hm
    exact ⟨(.slice none 0 0), rfl, H.reads (sub_cons (.head _) (fun r hr => .tail _ (.tail _ (.tail _ (.tail _ (.tail _ (.tail _ (.tail _ (.tail _ (.tail _ (.tail _ (hr))))))))))))⟩
  · intro hb
    rw [if_f hb] at hm
    clear hb
    refine wp_skip ?_
    refine q_then ?_
    refine wp_seq ?_
    refine wp_region_lit ?_
    refine st_val E (wn rfl) rfl rfl (x_ldBN (i := 2) (us := [.int .i64 u10.1, .int .i64 u13.1, .int .i64 u16.1, .int .i64 u19.1, .int .i64 u22.1, (.slice q29 u25.1.length x30), .int .i64 u31.1, .string u34.1]) E H rfl rfl rfl rfl Try.underlying24 rfl sz24) ?_
    clear E; clear a; intro a E
    refine st_st (i := 3) E H (wn rfl) rfl (us := [.int .i64 u10.1, .int .i64 u13.1, .int .i64 u16.1, .int .i64 u19.1, .int .i64 u22.1, (.slice q29 u25.1.length x30), .int .i64 u31.1, .string u34.1]) rfl rfl rfl rfl rfl sz24 rfl rfl ?_
    clear H; clear w; intro w H
    replace H : Sep w (Blk p7 128 [v36, .int .i64 u34.2.2] :: Row 9 kS (.slice q29 u25.1.length x30) u25.1 :: Blk p9 24 [.int .i64 u10.1, .int .i64 u13.1, .int .i64 u16.1, .int .i64 u19.1, .int .i64 u22.1, (.slice q29 u25.1.length x30), .int .i64 u31.1, .string u34.1] :: Blk p4 24 [.int .i64 u10.1, .int .i64 u13.1, .int .i64 u16.1, .int .i64 u19.1, .int .i64 u22.1, (.slice q29 u25.1.length x30), .int .i64 u31.1, .string u34.1] :: Fo) _ := H
    refine st_val E (wn rfl) rfl rfl (x_assign E rfl rfl) ?_
    clear E; clear a; intro a E
    refine wpList_nil ?_
    refine q_then ?_
    refine wp_ret ?_
    refine outR2 E rfl (rvBN (i := 3) (us := [.int .i64 u10.1, .int .i64 u13.1, .int .i64 u16.1, .int .i64 u19.1, .int .i64 u22.1, (.slice q29 u25.1.length x30), .int .i64 u31.1, .string u34.1]) H rfl rfl rfl Try.underlying24 rfl sz24) (rvT rfl) ?_
    replace H := H.thaw (i := 1) rfl
    replace H := H.drop 0
    replace H := H.drop 0
    replace H := H.drop 0
    obtain rfl := Option.some.inj hm
    exact ⟨(.slice q29 u25.1.length x30), rfl, H.reads (sub_cons (.head _) (fun r hr => .tail _ (.tail _ (.tail _ (.tail _ (.tail _ (.tail _ (.tail _ (.tail _ (.tail _ (.tail _ (hr))))))))))))⟩
end Go.Cb

set_option linter.unusedVariables false
set_option linter.unusedSimpArgs false
namespace Go.Cb
open Go.Proofs Go.RowKit
def m_cantonref17_GetSaved (l2 : List Int) : Option (S_api_Saved × Int) :=
  (m_cantonref02_New l2).bind fun u5 => (m_cantonref02_Reader_Num u5 0 281474976710656).bind fun u10 => (m_cantonref02_Reader_Num u10.2.1 u10.2.2 281474976710656).bind fun u13 => (m_cantonref02_Reader_Texts u13.2.1 u13.2.2).bind fun u16 => (m_cantonref02_Reader_End u16.2.1 u16.2.2).bind fun u22 => if (!u22) = true then (some ((⟨0, 0, []⟩ : S_api_Saved), 3)) else (some ((⟨u10.1, u13.1, u16.1⟩ : S_api_Saved), 0))
set_option maxRecDepth 20000 in
set_option maxHeartbeats 1000000 in
theorem c_cantonref17_GetSaved {w : World} {Fo : List Ob} {rs : List Rp} (v1 : Value) (l2 : List Int) (H : Sep w (Fo) rs) (hr3 : rSl (kI .u8) v1 l2 ∈ rs) {r : S_api_Saved × Int} (hm : m_cantonref17_GetSaved l2 = some r) :
    Calls Try.prog 18 [v1].toArray w (Ret fun v w' => ∃ (v5002 : Value), .tuple #[.agg #[.int .i64 r.1.View, .int .i64 r.1.Normal, v5002], .int .i64 r.2] = v ∧ Sep w' (Fo) (rSl kS v5002 r.1.Log :: rs)) := by
  unfold m_cantonref17_GetSaved at hm
  refine enter Try.func18 rfl Try.ntmps18 rfl fun a E => ?_
  simp only [enum, Nat.reduceAdd] at E
  refine wp_seq ?_
  refine wp_region_lit ?_
  refine st_alloc E H (wn rfl) rfl rfl (cs := [.int .i64 0, .int .i64 0, .slice none 0 0]) rfl (z := .agg #[.int .i64 0, .int .i64 0, .slice none 0 0]) (by kernel_rfl) rfl ?_
  clear E H; clear a; clear w; intro p4 w a H E
  refine st_val E (wn rfl) rfl rfl (x_assign E rfl rfl) ?_
  clear E; clear a; intro a E
  refine wpList_nil ?_
  refine q_then ?_
  refine wp_seq ?_
  refine wp_region_lit ?_
  refine st_val E (wn rfl) rfl rfl (x_move E rfl rfl) ?_
  clear E; clear a; intro a E
  replace H : Sep w (Blk p4 26 [.int .i64 0, .int .i64 0, .slice none 0 0] :: Fo) (rs) := H
  obtain ⟨u5, hx6, hm⟩ := bnd hm
  refine st_call E (wn rfl) rfl rfl (x_call E rfl rfl (cf43 _)) (c_cantonref02_New v1 l2 H hr3 hx6) ?_
  clear E H; clear a; clear w; rintro _ w ⟨p7, v8, rfl, H⟩ a E
  refine st_val E (wn rfl) rfl rfl (x_assign E rfl rfl) ?_
  clear E; clear a; intro a E
  refine wpList_nil ?_
  refine q_then ?_
  refine wp_seq ?_
  refine wp_region_lit ?_
  refine st_alloc E H (wn rfl) rfl rfl (cs := [.int .i64 0, .int .i64 0, .slice none 0 0]) rfl (z := .agg #[.int .i64 0, .int .i64 0, .slice none 0 0]) (by kernel_rfl) rfl ?_
  clear E H; clear a; clear w; intro p9 w a H E
  refine wpList_nil ?_
  refine q_then ?_
  refine wp_seq ?_
  refine wp_region_lit ?_
  refine st_val E (wn rfl) rfl rfl (x_move E rfl rfl) ?_
  clear E; clear a; intro a E
  replace H := H.thaw (i := 2) rfl
  replace H := H.front 2 rfl
  replace H := H.front 1 rfl
  replace H := H.front 2 rfl
  replace H : Sep w (Blk p7 128 [v8, .int .i64 0] :: Blk p9 26 [.int .i64 0, .int .i64 0, .slice none 0 0] :: Blk p4 26 [.int .i64 0, .int .i64 0, .slice none 0 0] :: Fo) (rSl (kI .u8) v8 u5 :: rs) := H
  obtain ⟨u10, hx11, hm⟩ := bnd hm
  refine st_call E (wn rfl) rfl rfl (x_call E rfl rfl (cf44 _)) (c_cantonref02_Reader_Num p7 v8 u5 0 281474976710656 H (.head _) hx11) ?_
  clear E H; clear a; clear w; rintro _ w ⟨v12, rfl, H⟩ a E
  refine st_val E (wn rfl) rfl rfl (x_fa E rfl rfl (v := .pointer (some ⟨p9, 0, none⟩)) (fa26_0 _ _)) ?_
  clear E; clear a; intro a E
  refine st_st (i := 1) E H (wn rfl) rfl (us := [.int .i64 u10.1]) rfl rfl rfl rfl rfl sz2 rfl rfl ?_
  clear H; clear w; intro w H
  replace H : Sep w (Blk p7 128 [v12, .int .i64 u10.2.2] :: Blk p9 26 [.int .i64 u10.1, .int .i64 0, .slice none 0 0] :: Blk p4 26 [.int .i64 0, .int .i64 0, .slice none 0 0] :: Fo) _ := H
  refine wpList_nil ?_
  refine q_then ?_
  refine wp_seq ?_
  refine wp_region_lit ?_
  refine st_val E (wn rfl) rfl rfl (x_move E rfl rfl) ?_
  clear E; clear a; intro a E
  replace H : Sep w (Blk p7 128 [v12, .int .i64 u10.2.2] :: Blk p9 26 [.int .i64 u10.1, .int .i64 0, .slice none 0 0] :: Blk p4 26 [.int .i64 0, .int .i64 0, .slice none 0 0] :: Fo) (rSl (kI .u8) v12 u10.2.1 :: rSl (kI .u8) v8 u5 :: rs) := H
  obtain ⟨u13, hx14, hm⟩ := bnd hm
  refine st_call E (wn rfl) rfl rfl (x_call E rfl rfl (cf44 _)) (c_cantonref02_Reader_Num p7 v12 u10.2.1 u10.2.2 281474976710656 H (.head _) hx14) ?_
  clear E H; clear a; clear w; rintro _ w ⟨v15, rfl, H⟩ a E
  refine st_val E (wn rfl) rfl rfl (x_fa E rfl rfl (v := .pointer (some ⟨p9, 1, none⟩)) (fa26_1 _ _)) ?_
  clear E; clear a; intro a E
  refine st_st (i := 1) E H (wn rfl) rfl (us := [.int .i64 u13.1]) rfl rfl rfl rfl rfl sz2 rfl rfl ?_
  clear H; clear w; intro w H
  replace H : Sep w (Blk p7 128 [v15, .int .i64 u13.2.2] :: Blk p9 26 [.int .i64 u10.1, .int .i64 u13.1, .slice none 0 0] :: Blk p4 26 [.int .i64 0, .int .i64 0, .slice none 0 0] :: Fo) _ := H
  refine wpList_nil ?_
  refine q_then ?_
  refine wp_seq ?_
  refine wp_region_lit ?_
  refine st_val E (wn rfl) rfl rfl (x_move E rfl rfl) ?_
  clear E; clear a; intro a E
  replace H : Sep w (Blk p7 128 [v15, .int .i64 u13.2.2] :: Blk p9 26 [.int .i64 u10.1, .int .i64 u13.1, .slice none 0 0] :: Blk p4 26 [.int .i64 0, .int .i64 0, .slice none 0 0] :: Fo) (rSl (kI .u8) v15 u13.2.1 :: rSl (kI .u8) v12 u10.2.1 :: rSl (kI .u8) v8 u5 :: rs) := H
  obtain ⟨u16, hx17, hm⟩ := bnd hm
  refine st_call E (wn rfl) rfl rfl (x_call E rfl rfl (cf45 _)) (c_cantonref02_Reader_Texts p7 v15 u13.2.1 u13.2.2 H (.head _) hx17) ?_
  clear E H; clear a; clear w; rintro _ w ⟨v18, v19, rfl, H⟩ a E
  refine st_val E (wn rfl) rfl rfl (x_fa E rfl rfl (v := .pointer (some ⟨p9, 2, none⟩)) (fa26_2 _ _)) ?_
  clear E; clear a; intro a E
  obtain ⟨q20, x21, rfl⟩ := H.rowform (i := 0) rfl
  refine st_st (i := 2) E H (wn rfl) rfl (us := [(.slice q20 u16.1.length x21)]) rfl rfl rfl rfl rfl sz22 rfl rfl ?_
  clear H; clear w; intro w H
  replace H : Sep w (Row 9 kS (.slice q20 u16.1.length x21) u16.1 :: Blk p7 128 [v19, .int .i64 u16.2.2] :: Blk p9 26 [.int .i64 u10.1, .int .i64 u13.1, (.slice q20 u16.1.length x21)] :: Blk p4 26 [.int .i64 0, .int .i64 0, .slice none 0 0] :: Fo) _ := H
  refine wpList_nil ?_
  refine q_then ?_
  refine wp_seq ?_
  refine wp_seq ?_
  refine wp_region_lit ?_
  refine st_val E (wn rfl) rfl rfl (x_move E rfl rfl) ?_
  clear E; clear a; intro a E
  replace H := H.front 3 rfl
  replace H := H.front 3 rfl
  replace H := H.front 2 rfl
  replace H := H.front 3 rfl
  replace H : Sep w (Blk p7 128 [v19, .int .i64 u16.2.2] :: Row 9 kS (.slice q20 u16.1.length x21) u16.1 :: Blk p9 26 [.int .i64 u10.1, .int .i64 u13.1, (.slice q20 u16.1.length x21)] :: Blk p4 26 [.int .i64 0, .int .i64 0, .slice none 0 0] :: Fo) (rSl (kI .u8) v19 u16.2.1 :: rSl (kI .u8) v15 u13.2.1 :: rSl (kI .u8) v12 u10.2.1 :: rSl (kI .u8) v8 u5 :: rs) := H
  obtain ⟨u22, hx23, hm⟩ := bnd hm
  refine st_call E (wn rfl) rfl rfl (x_call E rfl rfl (cf47 _)) (c_cantonref02_Reader_End p7 v19 u16.2.1 u16.2.2 H (.head _) hx23) ?_
  clear E H; clear a; clear w; rintro _ w ⟨rfl, H⟩ a E
  refine st_val E (wn rfl) rfl rfl (x_not E rfl rfl) ?_
  clear E; clear a; intro a E
  refine wpList_nil ?_
  refine q_then ?_
  refine wp_if E rfl ?_ ?_
  · intro hb
    rw [if_t hb] at hm
    clear hb
    refine wp_seq ?_
    refine wp_region_lit ?_
    refine st_val E (wn rfl) rfl rfl (x_build E (ps := []) (vs := []) rfl rfl (v := .agg #[.int .i64 0, .int .i64 0, .slice none 0 0]) (by kernel_rfl)) ?_
    clear E; clear a; intro a E
    refine st_st (i := 3) E H (wn rfl) rfl (us := [.int .i64 0, .int .i64 0, .slice none 0 0]) rfl rfl rfl rfl rfl sz26 rfl rfl ?_
    clear H; clear w; intro w H
    replace H : Sep w (Blk p7 128 [v19, .int .i64 u16.2.2] :: Row 9 kS (.slice q20 u16.1.length x21) u16.1 :: Blk p9 26 [.int .i64 u10.1, .int .i64 u13.1, (.slice q20 u16.1.length x21)] :: Blk p4 26 [.int .i64 0, .int .i64 0, .slice none 0 0] :: Fo) _ := H
    refine st_val E (wn rfl) rfl rfl (x_assign E rfl rfl) ?_
    clear E; clear a; intro a E
    refine wpList_nil ?_
    refine q_then ?_
    refine wp_ret ?_
    refine q_thenR ?_
    refine outR2 E rfl (rvBN (i := 3) (us := [.int .i64 0, .int .i64 0, .slice none 0 0]) H rfl rfl rfl Try.underlying26 rfl sz26) (rvT rfl) ?_
    replace H := H.nilSl kS
    replace H := H.drop 0
    replace H := H.drop 0
    replace H := H.drop 0
    replace H := H.drop 0
    obtain rfl := Option.some.inj hm
    exact ⟨(.slice none 0 0), rfl, H.reads (sub_cons (.head _) (fun r hr => .tail _ (.tail _ (.tail _ (.tail _ (.tail _ (hr)))))))⟩
  · intro hb
    rw [if_f hb] at hm
    clear hb
    refine wp_skip ?_
    refine q_then ?_
    refine wp_seq ?_
    refine wp_region_lit ?_
    refine st_val E (wn rfl) rfl rfl (x_ldBN (i := 2) (us := [.int .i64 u10.1, .int .i64 u13.1, (.slice q20 u16.1.length x21)]) E H rfl rfl rfl rfl Try.underlying26 rfl sz26) ?_
    clear E; clear a; intro a E
    refine st_st (i := 3) E H (wn rfl) rfl (us := [.int .i64 u10.1, .int .i64 u13.1, (.slice q20 u16.1.length x21)]) rfl rfl rfl rfl rfl sz26 rfl rfl ?_
    clear H; clear w; intro w H
    replace H : Sep w (Blk p7 128 [v19, .int .i64 u16.2.2] :: Row 9 kS (.slice q20 u16.1.length x21) u16.1 :: Blk p9 26 [.int .i64 u10.1, .int .i64 u13.1, (.slice q20 u16.1.length x21)] :: Blk p4 26 [.int .i64 u10.1, .int .i64 u13.1, (.slice q20 u16.1.length x21)] :: Fo) _ := H
    refine st_val E (wn rfl) rfl rfl (x_assign E rfl rfl) ?_
    clear E; clear a; intro a E
    refine wpList_nil ?_
    refine q_then ?_
    refine wp_ret ?_
    refine outR2 E rfl (rvBN (i := 3) (us := [.int .i64 u10.1, .int .i64 u13.1, (.slice q20 u16.1.length x21)]) H rfl rfl rfl Try.underlying26 rfl sz26) (rvT rfl) ?_
    replace H := H.thaw (i := 1) rfl
    replace H := H.drop 0
    replace H := H.drop 0
    replace H := H.drop 0
    obtain rfl := Option.some.inj hm
    exact ⟨(.slice q20 u16.1.length x21), rfl, H.reads (sub_cons (.head _) (fun r hr => .tail _ (.tail _ (.tail _ (.tail _ (.tail _ (hr)))))))⟩
end Go.Cb
