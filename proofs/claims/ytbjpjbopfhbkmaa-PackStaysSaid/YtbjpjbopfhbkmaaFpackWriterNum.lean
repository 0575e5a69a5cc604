/- A function of the program, walked: it comes to its plain function. -/
import Derived.Test.YtbjpjbopfhbkmaaT
set_option linter.unusedVariables false
set_option linter.unusedSimpArgs false
namespace Go.Cb
open Go.Proofs Go.RowKit
def m_pack_Writer_Num_l2 (x5 : Int) (b4 : Bool) : Nat → Int → (List Int) → Option ((List Int) × Bool)
  | 0, _, _ => none
  | k2 + 1, x14, l16 =>
    if (decide (x14 > 0)) = true then ((ck (0 ≤ x14)).bind fun u20 => (ck (l16.length + [ior .u8 (iand .u8 (IntKind.u8.wrap (ishr .i64 x5 x14)) 127) 128].length ≤ LIM)).bind fun u23 => m_pack_Writer_Num_l2 x5 b4 k2 (IntKind.i64.wrap (x14 - 7)) (l16 ++ [ior .u8 (iand .u8 (IntKind.u8.wrap (ishr .i64 x5 x14)) 127) 128])) else ((ck (l16.length + [iand .u8 (IntKind.u8.wrap x5) 127].length ≤ LIM)).bind fun u29 => some (l16 ++ [iand .u8 (IntKind.u8.wrap x5) 127], b4))
def m_pack_Writer_Num_l1 (x5 : Int) (b4 : Bool) (l3 : List Int) : Nat → Int → Option ((List Int) × Bool)
  | 0, _ => none
  | k1 + 1, x9 =>
    (ck (0 ≤ x9)).bind fun u13 => if (decide ((ishr .i64 x5 x9) > 127)) = true then (m_pack_Writer_Num_l1 x5 b4 l3 k1 (IntKind.i64.wrap (x9 + 7))) else (m_pack_Writer_Num_l2 x5 b4 9 x9 l3)
def m_pack_Writer_Num_j1 (x5 : Int) (b4 : Bool) (l3 : List Int) (b6 : Bool) : Option ((List Int) × Bool) :=
  if b6 = true then (some (l3, true)) else (m_pack_Writer_Num_l1 x5 b4 l3 9 0)
def m_pack_Writer_Num (l3 : List Int) (b4 : Bool) (x5 : Int) : Option ((List Int) × Bool) :=
  if (decide (x5 < 0)) = true then (m_pack_Writer_Num_j1 x5 b4 l3 true) else (m_pack_Writer_Num_j1 x5 b4 l3 (decide (x5 > 281474976710656)))
set_option maxRecDepth 20000 in
set_option maxHeartbeats 1000000 in
theorem c_pack_Writer_Num {w : World} {Fo : List Ob} {rs : List Rp} (p1 : Nat) (v2 : Value) (l3 : List Int) (b4 : Bool) (x5 : Int) (H : Sep w (Blk p1 51 [v2, .bool b4] :: Row 5 (kI .u8) v2 l3 :: Fo) rs) {r : (List Int) × Bool} (hm : m_pack_Writer_Num l3 b4 x5 = some r) :
    Calls Try.prog 33 [.pointer (some ⟨p1, 0, none⟩), .int .i64 x5].toArray w (Ret fun v w' => ∃ (v5001 : Value), .tuple #[] = v ∧ Sep w' (Blk p1 51 [v5001, .bool r.2] :: Row 5 (kI .u8) v5001 r.1 :: Fo) (rs)) := by
  unfold m_pack_Writer_Num at hm
  refine enter Try.func33 rfl Try.ntmps33 rfl fun a E => ?_
  simp only [enum, Nat.reduceAdd] at E
  refine wp_seq ?_
  refine wp_seq_cut (fun a w => ∃ (b6 : Bool) (rs7 : List Rp), Env 51 a [(0, .pointer (some ⟨p1, 0, none⟩)), (1, .int .i64 x5), (10, .bool b6)] ∧ Sep w (Blk p1 51 [v2, .bool b4] :: Row 5 (kI .u8) v2 l3 :: Fo) rs7 ∧ (∀ r, r ∈ rs → r ∈ rs7) ∧ m_pack_Writer_Num_j1 x5 b4 l3 b6 = some r) ?_ ?_
  · refine wp_region_lit ?_
    refine st_val E (wn rfl) rfl rfl (x_move E rfl rfl) ?_
    clear E; clear a; intro a E
    refine st_val E (wn rfl) rfl rfl (x_bin E rfl rfl rfl rfl) ?_
    clear E; clear a; intro a E
    refine st_val E (wn rfl) rfl rfl (x_move E rfl rfl) ?_
    clear E; clear a; intro a E
    rcases Bool.eq_false_or_eq_true (decide (x5 < 0)) with hb33 | hb33
    · rw [if_t hb33] at hm
      refine st_no E (wf' E rfl rfl rfl rfl hb33 rfl) rfl rfl ?_
      clear E; clear a; intro a E
      refine st_no E (wf' E rfl rfl rfl rfl hb33 rfl) rfl rfl ?_
      clear E; clear a; intro a E
      refine st_val E (wn rfl) rfl rfl (x_pickT E rfl rfl hb33 rfl) ?_
      clear E; clear a; intro a E
      refine wpList_nil ?_
      refine q_then ?_
      exact ⟨true, _, (((E.nil.keep E 10 rfl).keep E 1 rfl).keep E 0 rfl), H, fun r hr => hr, hm⟩
    · rw [if_f hb33] at hm
      refine st_val E (ws' E rfl rfl rfl rfl hb33) rfl rfl (x_move E rfl rfl) ?_
      clear E; clear a; intro a E
      refine st_val E (ws' E rfl rfl rfl rfl hb33) rfl rfl (x_bin E rfl rfl rfl rfl) ?_
      clear E; clear a; intro a E
      refine st_val E (wn rfl) rfl rfl (x_pickF E rfl rfl hb33 rfl) ?_
      clear E; clear a; intro a E
      refine wpList_nil ?_
      refine q_then ?_
      exact ⟨decide (x5 > 281474976710656), _, (((E.nil.keep E 10 rfl).keep E 1 rfl).keep E 0 rfl), H, fun r hr => hr, hm⟩
  · clear E H hm
    rintro a w ⟨b6, rs7, E, H, hs8, hm⟩
    unfold m_pack_Writer_Num_j1 at hm
    refine wp_if E rfl ?_ ?_
    · intro hb
      rw [if_t hb] at hm
      clear hb
      refine wp_seq ?_
      refine wp_region_lit ?_
      refine st_val E (wn rfl) rfl rfl (x_move E rfl rfl) ?_
      clear E; clear a; intro a E
      refine st_val E (wn rfl) rfl rfl (x_nil E rfl rfl) ?_
      clear E; clear a; intro a E
      refine st_val E (wn rfl) rfl rfl (x_fa E rfl rfl (v := .pointer (some ⟨p1, 1, none⟩)) (fa51_1 _ _)) ?_
      clear E; clear a; intro a E
      refine st_st (i := 0) E H (wn rfl) rfl (us := [.bool true]) rfl rfl rfl rfl rfl sz4 rfl rfl ?_
      clear H; clear w; intro w H
      replace H : Sep w (Blk p1 51 [v2, .bool true] :: Row 5 (kI .u8) v2 l3 :: Fo) _ := H
      refine wpList_nil ?_
      refine q_then ?_
      refine wp_ret ?_
      refine q_thenR ?_
      refine out0r E rfl ?_
      obtain rfl := Option.some.inj hm
      exact ⟨v2, rfl, H.reads (fun r hr => hs8 r hr)⟩
    · intro hb
      rw [if_f hb] at hm
      clear hb
      refine wp_skip ?_
      refine q_then ?_
      refine wp_seq ?_
      refine wp_region_lit ?_
      refine st_val E (wn rfl) rfl rfl (x_assign E rfl rfl) ?_
      clear E; clear a; intro a E
      refine wpList_nil ?_
      refine q_then ?_
      refine wp_seq ?_
      refine wp_block ?_
      refine wp_loop_g (fun k1 a w => ∃ (x9 : Int) (rs10 : List Rp), Env 51 a [(0, .pointer (some ⟨p1, 0, none⟩)), (1, .int .i64 x5), (4, .int .i64 x9)] ∧ Sep w (Blk p1 51 [v2, .bool b4] :: Row 5 (kI .u8) v2 l3 :: Fo) rs10 ∧ (∀ r, r ∈ rs → r ∈ rs10) ∧ m_pack_Writer_Num_l1 x5 b4 l3 k1 x9 = some r) (9) ?_ ?_
      · exact ⟨0, _, (((E.nil.keep E 4 rfl).keep E 1 rfl).keep E 0 rfl), H, hs8, hm⟩
      · clear E H hm
        rintro k1 a w ⟨x9, rs10, E, H, hs11, hm⟩
        cases k1 with
        | zero => exact (none_some hm rfl).elim
        | succ k1 =>
          unfold m_pack_Writer_Num_l1 at hm
          refine wp_seq ?_
          refine wp_seq ?_
          refine wp_region_lit ?_
          refine st_val E (wn rfl) rfl rfl (x_move E rfl rfl) ?_
          clear E; clear a; intro a E
          refine st_val E (wn rfl) rfl rfl (x_move E rfl rfl) ?_
          clear E; clear a; intro a E
          obtain ⟨u13, hx12, hm⟩ := bnd hm
          refine st_val E (wn rfl) rfl rfl (x_shr E rfl rfl rfl (ck_of hx12)) ?_
          clear E; clear a; intro a E
          refine st_val E (wn rfl) rfl rfl (x_bin E rfl rfl rfl rfl) ?_
          clear E; clear a; intro a E
          refine wpList_nil ?_
          refine q_then ?_
          refine wp_if E rfl ?_ ?_
          · intro hb
            rw [if_t hb] at hm
            clear hb
            refine wp_skip ?_
            refine q_then ?_
            refine wp_block ?_
            refine wp_region_lit ?_
            refine st_val E (wn rfl) rfl rfl (x_move E rfl rfl) ?_
            clear E; clear a; intro a E
            refine st_val E (wn rfl) rfl rfl (x_bin E rfl rfl rfl rfl) ?_
            clear E; clear a; intro a E
            refine st_val E (wn rfl) rfl rfl (x_assign E rfl rfl) ?_
            clear E; clear a; intro a E
            refine wpList_nil ?_
            refine q_blk ?_
            refine q_then ?_
            exact ⟨k1, Nat.lt_succ_self k1, IntKind.i64.wrap (x9 + 7), _, (((E.nil.keep E 4 rfl).keep E 1 rfl).keep E 0 rfl), H, hs11, hm⟩
          · intro hb
            rw [if_f hb] at hm
            clear hb
            refine wp_exit ?_
            refine q_thenX ?_
            refine q_thenX ?_
            refine q_hit ?_
            refine q_then ?_
            refine wp_seq ?_
            refine wp_block ?_
            refine wp_loop_g (fun k2 a w => ∃ (v15 : Value) (x14 : Int) (l16 : (List Int)) (rs17 : List Rp), Env 51 a [(0, .pointer (some ⟨p1, 0, none⟩)), (1, .int .i64 x5), (4, .int .i64 x14)] ∧ Sep w (Blk p1 51 [v15, .bool b4] :: Row 5 (kI .u8) v15 l16 :: Fo) rs17 ∧ (∀ r, r ∈ rs → r ∈ rs17) ∧ m_pack_Writer_Num_l2 x5 b4 k2 x14 l16 = some r) (9) ?_ ?_
            · exact ⟨v2, x9, l3, _, (((E.nil.keep E 4 rfl).keep E 1 rfl).keep E 0 rfl), H, hs11, hm⟩
            · clear E H hm
              rintro k2 a w ⟨v15, x14, l16, rs17, E, H, hs18, hm⟩
              cases k2 with
              | zero => exact (none_some hm rfl).elim
              | succ k2 =>
                unfold m_pack_Writer_Num_l2 at hm
                refine wp_seq ?_
                refine wp_seq ?_
                refine wp_region_lit ?_
                refine st_val E (wn rfl) rfl rfl (x_move E rfl rfl) ?_
                clear E; clear a; intro a E
                refine st_val E (wn rfl) rfl rfl (x_bin E rfl rfl rfl rfl) ?_
                clear E; clear a; intro a E
                refine wpList_nil ?_
                refine q_then ?_
                refine wp_if E rfl ?_ ?_
                · intro hb
                  rw [if_t hb] at hm
                  clear hb
                  refine wp_skip ?_
                  refine q_then ?_
                  refine wp_seq ?_
                  refine wp_block ?_
                  replace H : Sep w (Blk p1 51 [v15, .bool b4] :: Row 5 (kI .u8) v15 l16 :: Fo) (rs17) := H
                  have hI : Still [Blk p1 51 [v15, .bool b4]] [] { w with drawn := w.drawn + 1 } := ⟨_, _, H.kept (Kp.drawn _ w _), (subO_cons (.head _) (subO_nil)), (sub_nil)⟩
                  refine wp_draw _ [(0, 0), (1, 0), (2, 0), (3, 0), (4, 0), (5, 0), (6, 0), (7, 0), (8, 0), (9, 0), (10, 0), (11, 1), (12, 1), (13, 2), (14, 2), (15, 2)] mixedOk (by kernel_rfl) (fun _ _ _ h => False.elim h.2) hI ?_
                  replace H := H.kept (Kp.drawn _ w (w.drawn + 1))
                  generalize ({ w with drawn := w.drawn + 1 } : World) = w at H hI ⊢
                  replace hI : ∃ W, Still [Blk p1 51 [v15, .bool b4]] [] W := ⟨_, hI⟩
                  obtain ⟨W0, hI⟩ := hI
                  refine fr_val E rfl (wn rfl) rfl rfl (fun w hW => (x_move E rfl rfl)) ?_
                  clear E; clear a; intro a E
                  refine fr_val E rfl (wn rfl) rfl rfl (fun w hW => (x_move E rfl rfl)) ?_
                  clear E; clear a; intro a E
                  refine fr_val E rfl (wn rfl) rfl rfl (fun w hW => (x_nil E rfl rfl)) ?_
                  clear E; clear a; intro a E
                  refine fr_val E rfl (wn rfl) rfl rfl (fun w hW => x_fa E rfl rfl (v := .pointer (some ⟨p1, 0, none⟩)) (fa51_0 _ _)) ?_
                  clear E; clear a; intro a E
                  refine fr_val E rfl (wn rfl) rfl rfl (fun w hW => x_ld E rfl rfl (ib_ld (.head _) rfl Try.underlying46 rfl w hW)) ?_
                  clear E; clear a; intro a E
                  refine fr_val E rfl (wn rfl) rfl rfl (fun w hW => (x_move E rfl rfl)) ?_
                  clear E; clear a; intro a E
                  refine fr_val E rfl (wn rfl) rfl rfl (fun w hW => (x_move E rfl rfl)) ?_
                  clear E; clear a; intro a E
                  obtain ⟨u20, hx19, hm⟩ := bnd hm
                  refine fr_val E rfl (wn rfl) rfl rfl (fun w hW => (x_shr E rfl rfl rfl (ck_of hx19))) ?_
                  clear E; clear a; intro a E
                  refine fr_val E rfl (wn rfl) rfl rfl (fun w hW => (x_conv E rfl rfl (v := .int .u8 (IntKind.u8.wrap (ishr .i64 x5 x14))) (by kernel_rfl))) ?_
                  clear E; clear a; intro a E
                  refine fr_val E rfl (wn rfl) rfl rfl (fun w hW => (x_bin E rfl rfl rfl rfl)) ?_
                  clear E; clear a; intro a E
                  refine fr_val E rfl (wn rfl) rfl rfl (fun w hW => (x_bin E rfl rfl rfl rfl)) ?_
                  clear E; clear a; intro a E
                  refine fr_op rfl ?_
                  refine st_bsR (e := 5) (d := (kI .u8)) (cs := [.int .u8 (ior .u8 (iand .u8 (IntKind.u8.wrap (ishr .i64 x5 x14)) 127) 128)]) (xs := [ior .u8 (iand .u8 (IntKind.u8.wrap (ishr .i64 x5 x14)) 127) 128]) E H (wn rfl) rfl rfl (ps := [(0, .tmp 34)]) (parts := [(0, .int .u8 (ior .u8 (iand .u8 (IntKind.u8.wrap (ishr .i64 x5 x14)) 127) 128))]) rfl (by simp only [List.map]; rw [E.eval (x := .tmp 34) (v := .int .u8 (ior .u8 (iand .u8 (IntKind.u8.wrap (ishr .i64 x5 x14)) 127) 128)) rfl]) (by kernel_rfl) rfl (fun ok hr => (Rows.single (x := ior .u8 (iand .u8 (IntKind.u8.wrap (ishr .i64 x5 x14)) 127) 128) rfl)) ?_
                  clear E H; clear a; clear w; intro v21 w a H E
                  refine wpList_nil ?_
                  refine q_then ?_
                  replace H : Sep w (Blk p1 51 [v15, .bool b4] :: Row 5 (kI .u8) v15 l16 :: Fo) (rSl (kI .u8) v21 [ior .u8 (iand .u8 (IntKind.u8.wrap (ishr .i64 x5 x14)) 127) 128] :: rs17) := H
                  refine ⟨⟨_, _, H, (subO_cons (.head _) (subO_nil)), (sub_nil)⟩, ?_⟩
                  refine fr_op rfl ?_
                  obtain ⟨u23, hx24, hm⟩ := bnd hm
                  refine st_append (i := 1) E H (wn rfl) rfl rfl rfl rfl rfl rfl (src_rd (.head _)) Try.underlying46 inf5 rfl (ck_of hx24) rfl ?_
                  clear E H; clear a; clear w; intro v22 w a H E
                  refine wpList_nil ?_
                  refine q_then ?_
                  replace H : Sep w (Blk p1 51 [v15, .bool b4] :: Row 5 (kI .u8) v22 (l16 ++ [ior .u8 (iand .u8 (IntKind.u8.wrap (ishr .i64 x5 x14)) 127) 128]) :: Fo) (rSl (kI .u8) v21 [ior .u8 (iand .u8 (IntKind.u8.wrap (ishr .i64 x5 x14)) 127) 128] :: rs17) := H
                  refine ⟨⟨_, _, H, (subO_cons (.head _) (subO_nil)), (sub_nil)⟩, ?_⟩
                  refine fr_tail rfl ?_
                  refine st_val E (wn rfl) rfl rfl (x_nil E rfl rfl) ?_
                  clear E; clear a; intro a E
                  refine wpList_nil ?_
                  refine q_then ?_
                  refine fr_tail rfl ?_
                  refine st_val E (wn rfl) rfl rfl (x_fa E rfl rfl (v := .pointer (some ⟨p1, 0, none⟩)) (fa51_0 _ _)) ?_
                  clear E; clear a; intro a E
                  refine wpList_nil ?_
                  refine q_then ?_
                  refine fr_tail rfl ?_
                  obtain ⟨q25, x26, rfl⟩ := H.rowform (i := 1) rfl
                  refine st_st (i := 0) E H (wn rfl) rfl (us := [(.slice q25 (l16 ++ [ior .u8 (iand .u8 (IntKind.u8.wrap (ishr .i64 x5 x14)) 127) 128]).length x26)]) rfl rfl rfl rfl rfl sz46 rfl rfl ?_
                  clear H; clear w; intro w H
                  replace H : Sep w (Blk p1 51 [(.slice q25 (l16 ++ [ior .u8 (iand .u8 (IntKind.u8.wrap (ishr .i64 x5 x14)) 127) 128]).length x26), .bool b4] :: Row 5 (kI .u8) (.slice q25 (l16 ++ [ior .u8 (iand .u8 (IntKind.u8.wrap (ishr .i64 x5 x14)) 127) 128]).length x26) (l16 ++ [ior .u8 (iand .u8 (IntKind.u8.wrap (ishr .i64 x5 x14)) 127) 128]) :: Fo) _ := H
                  refine wpList_nil ?_
                  refine q_then ?_
                  refine fr_nil ?_
                  clear hI
                  refine q_blk ?_
                  refine q_then ?_
                  refine wp_region_lit ?_
                  refine st_val E (wn rfl) rfl rfl (x_move E rfl rfl) ?_
                  clear E; clear a; intro a E
                  refine st_val E (wn rfl) rfl rfl (x_bin E rfl rfl rfl rfl) ?_
                  clear E; clear a; intro a E
                  refine st_val E (wn rfl) rfl rfl (x_assign E rfl rfl) ?_
                  clear E; clear a; intro a E
                  refine wpList_nil ?_
                  refine q_then ?_
                  exact ⟨k2, Nat.lt_succ_self k2, (.slice q25 (l16 ++ [ior .u8 (iand .u8 (IntKind.u8.wrap (ishr .i64 x5 x14)) 127) 128]).length x26), IntKind.i64.wrap (x14 - 7), l16 ++ [ior .u8 (iand .u8 (IntKind.u8.wrap (ishr .i64 x5 x14)) 127) 128], _, (((E.nil.keep E 4 rfl).keep E 1 rfl).keep E 0 rfl), H, fun r hr => .tail _ (hs18 r hr), hm⟩
                · intro hb
                  rw [if_f hb] at hm
                  clear hb
                  refine wp_exit ?_
                  refine q_thenX ?_
                  refine q_thenX ?_
                  refine q_hit ?_
                  refine q_then ?_
                  refine wp_region_lit ?_
                  refine st_val E (wn rfl) rfl rfl (x_move E rfl rfl) ?_
                  clear E; clear a; intro a E
                  refine st_val E (wn rfl) rfl rfl (x_move E rfl rfl) ?_
                  clear E; clear a; intro a E
                  refine st_val E (wn rfl) rfl rfl (x_nil E rfl rfl) ?_
                  clear E; clear a; intro a E
                  refine st_val E (wn rfl) rfl rfl (x_fa E rfl rfl (v := .pointer (some ⟨p1, 0, none⟩)) (fa51_0 _ _)) ?_
                  clear E; clear a; intro a E
                  refine st_val E (wn rfl) rfl rfl (x_ldB (i := 0) E H rfl rfl rfl rfl Try.underlying46 rfl) ?_
                  clear E; clear a; intro a E
                  refine st_val E (wn rfl) rfl rfl (x_move E rfl rfl) ?_
                  clear E; clear a; intro a E
                  refine st_val E (wn rfl) rfl rfl (x_conv E rfl rfl (v := .int .u8 (IntKind.u8.wrap x5)) (by kernel_rfl)) ?_
                  clear E; clear a; intro a E
                  refine st_val E (wn rfl) rfl rfl (x_bin E rfl rfl rfl rfl) ?_
                  clear E; clear a; intro a E
                  refine st_bsR (e := 5) (d := (kI .u8)) (cs := [.int .u8 (iand .u8 (IntKind.u8.wrap x5) 127)]) (xs := [iand .u8 (IntKind.u8.wrap x5) 127]) E H (wn rfl) rfl rfl (ps := [(0, .tmp 46)]) (parts := [(0, .int .u8 (iand .u8 (IntKind.u8.wrap x5) 127))]) rfl (by simp only [List.map]; rw [E.eval (x := .tmp 46) (v := .int .u8 (iand .u8 (IntKind.u8.wrap x5) 127)) rfl]) (by kernel_rfl) rfl (fun ok hr => (Rows.single (x := iand .u8 (IntKind.u8.wrap x5) 127) rfl)) ?_
                  clear E H; clear a; clear w; intro v27 w a H E
                  obtain ⟨u29, hx30, hm⟩ := bnd hm
                  refine st_append (i := 1) E H (wn rfl) rfl rfl rfl rfl rfl rfl (src_rd (.head _)) Try.underlying46 inf5 rfl (ck_of hx30) rfl ?_
                  clear E H; clear a; clear w; intro v28 w a H E
                  refine st_val E (wn rfl) rfl rfl (x_nil E rfl rfl) ?_
                  clear E; clear a; intro a E
                  refine st_val E (wn rfl) rfl rfl (x_fa E rfl rfl (v := .pointer (some ⟨p1, 0, none⟩)) (fa51_0 _ _)) ?_
                  clear E; clear a; intro a E
                  obtain ⟨q31, x32, rfl⟩ := H.rowform (i := 1) rfl
                  refine st_st (i := 0) E H (wn rfl) rfl (us := [(.slice q31 (l16 ++ [iand .u8 (IntKind.u8.wrap x5) 127]).length x32)]) rfl rfl rfl rfl rfl sz46 rfl rfl ?_
                  clear H; clear w; intro w H
                  replace H : Sep w (Blk p1 51 [(.slice q31 (l16 ++ [iand .u8 (IntKind.u8.wrap x5) 127]).length x32), .bool b4] :: Row 5 (kI .u8) (.slice q31 (l16 ++ [iand .u8 (IntKind.u8.wrap x5) 127]).length x32) (l16 ++ [iand .u8 (IntKind.u8.wrap x5) 127]) :: Fo) _ := H
                  refine wpList_nil ?_
                  refine out0 E rfl ?_
                  obtain rfl := Option.some.inj hm
                  exact ⟨(.slice q31 (l16 ++ [iand .u8 (IntKind.u8.wrap x5) 127]).length x32), rfl, H.reads (fun r hr => .tail _ (hs18 r hr))⟩
end Go.Cb
