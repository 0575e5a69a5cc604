/- Functions of the program, walked: each comes to its plain function. -/
import Derived.Test.YtlocfgonplkcoaaTm
set_option linter.unusedVariables false
set_option linter.unusedSimpArgs false
namespace Go.Cb
open Go.Proofs Go.RowKit
def m_pack_Writer_Num_l2 (x5 : Int) (b4 : Bool) : Nat → Int → (List Int) → Option ((List Int) × Bool)
  | 0, _, _ => none
  | k2 + 1, x14, l16 =>
    if (decide (x14 > 0)) = true then ((ck (0 ≤ x14)).bind fun u20 => (ck (l16.length + ([ior .u8 (iand .u8 (IntKind.u8.wrap (ishr .i64 x5 x14)) 127) 128] : List Int).length ≤ LIM)).bind fun u23 => m_pack_Writer_Num_l2 x5 b4 k2 (IntKind.i64.wrap (x14 - 7)) (l16 ++ ([ior .u8 (iand .u8 (IntKind.u8.wrap (ishr .i64 x5 x14)) 127) 128] : List Int))) else ((ck (l16.length + ([iand .u8 (IntKind.u8.wrap x5) 127] : List Int).length ≤ LIM)).bind fun u29 => some (l16 ++ ([iand .u8 (IntKind.u8.wrap x5) 127] : List Int), b4))
def m_pack_Writer_Num_l1 (x5 : Int) (b4 : Bool) (l3 : List Int) : Nat → Int → Option ((List Int) × Bool)
  | 0, _ => none
  | k1 + 1, x9 =>
    (ck (0 ≤ x9)).bind fun u13 => if (decide ((ishr .i64 x5 x9) > 127)) = true then (m_pack_Writer_Num_l1 x5 b4 l3 k1 (IntKind.i64.wrap (x9 + 7))) else (m_pack_Writer_Num_l2 x5 b4 9 x9 l3)
def m_pack_Writer_Num_j1 (x5 : Int) (b4 : Bool) (l3 : List Int) (b6 : Bool) : Option ((List Int) × Bool) :=
  if b6 = true then (some (l3, true)) else (m_pack_Writer_Num_l1 x5 b4 l3 9 0)
def m_pack_Writer_Num (l3 : List Int) (b4 : Bool) (x5 : Int) : Option ((List Int) × Bool) :=
  if (decide (x5 < 0)) = true then (m_pack_Writer_Num_j1 x5 b4 l3 true) else (m_pack_Writer_Num_j1 x5 b4 l3 (decide (x5 > 281474976710656)))
set_option maxRecDepth 20000 in
set_option maxHeartbeats 1000000 in
theorem c_pack_Writer_Num {w : World} {Fo : List Ob} {rs : List Rp} (p1 : Nat) (v2 : Value) (l3 : List Int) (b4 : Bool) (x5 : Int) (H : Sep w (Blk p1 76 [v2, .bool b4] :: Row 5 (kI .u8) v2 l3 :: Fo) rs) {r : (List Int) × Bool} (hm : m_pack_Writer_Num l3 b4 x5 = some r) :
    Calls Try.prog 30 [.pointer (some ⟨p1, 0, none⟩), .int .i64 x5].toArray w (Ret fun v w' => ∃ (v5001 : Value), .tuple #[] = v ∧ Sep w' (Blk p1 76 [v5001, .bool r.2] :: Row 5 (kI .u8) v5001 r.1 :: Fo) (rs)) := by
 unfold m_pack_Writer_Num at hm
 refine enter Try.func30 rfl Try.ntmps30 rfl fun a E => ?_
 simp only [enum, Nat.reduceAdd] at E
 refine wp_seq ?_
 refine wp_seq_cut (fun a w => ∃ (b6 : Bool) (rs7 : List Rp), Env 51 a [(0, .pointer (some ⟨p1, 0, none⟩)), (1, .int .i64 x5), (10, .bool b6)] ∧ Sep w (Blk p1 76 [v2, .bool b4] :: Row 5 (kI .u8) v2 l3 :: Fo) rs7 ∧ (∀ r, r ∈ rs → r ∈ rs7) ∧ m_pack_Writer_Num_j1 x5 b4 l3 b6 = some r) ?_ ?_
 ·refine wp_region_lit ?_
  refine sv E rfl rfl rfl (x_move E rfl rfl) ?_
  clear a E;intro a E
  refine sv E rfl rfl rfl (x_bin E rfl rfl rfl rfl) ?_
  clear a E;intro a E
  refine sv E rfl rfl rfl (x_move E rfl rfl) ?_
  clear a E;intro a E
  rcases Bool.eq_false_or_eq_true (decide (x5 < 0)) with hb33 | hb33
  ·rw [if_t hb33] at hm
   refine st_no E (wf' E rfl rfl rfl rfl hb33 rfl) rfl rfl ?_
   clear a E;intro a E
   refine st_no E (wf' E rfl rfl rfl rfl hb33 rfl) rfl rfl ?_
   clear a E;intro a E
   refine sv E rfl rfl rfl (x_pickT E rfl rfl hb33 rfl) ?_
   clear a E;intro a E
   refine wpList_nil ?_
   refine q_then ?_
   exact ⟨true, _, (((E.nil.keep E 10 rfl).keep E 1 rfl).keep E 0 rfl), H, fun r hr => hr, hm⟩
  ·rw [if_f hb33] at hm
   refine st_val E (ws' E rfl rfl rfl rfl hb33) rfl rfl (x_move E rfl rfl) ?_
   clear a E;intro a E
   refine st_val E (ws' E rfl rfl rfl rfl hb33) rfl rfl (x_bin E rfl rfl rfl rfl) ?_
   clear a E;intro a E
   refine sv E rfl rfl rfl (x_pickF E rfl rfl hb33 rfl) ?_
   clear a E;intro a E
   refine wpList_nil ?_
   refine q_then ?_
   exact ⟨decide (x5 > 281474976710656), _, (((E.nil.keep E 10 rfl).keep E 1 rfl).keep E 0 rfl), H, fun r hr => hr, hm⟩
 ·clear E H hm
  rintro a w ⟨b6, rs7, E, H, hs8, hm⟩
  unfold m_pack_Writer_Num_j1 at hm
  refine wp_if E rfl ?_ ?_
  ·intro hb
   rw [if_t hb] at hm
   clear hb
   refine wp_seq ?_
   refine wp_region_lit ?_
   refine sv E rfl rfl rfl (x_move E rfl rfl) ?_
   clear a E;intro a E
   refine sv E rfl rfl rfl (x_nil E rfl rfl) ?_
   clear a E;intro a E
   refine sv E rfl rfl rfl (x_fa E rfl rfl (v := .pointer (some ⟨p1, 1, none⟩)) (fa74_1 _ _)) ?_
   clear a E;intro a E
   refine st_st (i := 0) E H (wn rfl) rfl (us := [.bool true]) rfl rfl rfl rfl rfl sz4 rfl rfl ?_
   clear H; clear w; intro w H
   replace H : Sep w (Blk p1 76 [v2, .bool true] :: Row 5 (kI .u8) v2 l3 :: Fo) _ := H
   refine wpList_nil ?_
   refine q_then ?_
   refine wp_ret ?_
   refine q_thenR ?_
   refine out0r E rfl ?_
   obtain rfl := Option.some.inj hm
   exact ⟨v2, rfl, H.reads (fun r hr => hs8 r hr)⟩
  ·intro hb
   rw [if_f hb] at hm
   clear hb
   refine wp_skip ?_
   refine q_then ?_
   refine wp_seq ?_
   refine wp_region_lit ?_
   refine sv E rfl rfl rfl (x_assign E rfl rfl) ?_
   clear a E;intro a E
   refine wpList_nil ?_
   refine q_then ?_
   refine wp_seq ?_
   refine wp_block ?_
   refine wp_loop_g (fun k1 a w => ∃ (x9 : Int) (rs10 : List Rp), Env 51 a [(0, .pointer (some ⟨p1, 0, none⟩)), (1, .int .i64 x5), (4, .int .i64 x9)] ∧ Sep w (Blk p1 76 [v2, .bool b4] :: Row 5 (kI .u8) v2 l3 :: Fo) rs10 ∧ (∀ r, r ∈ rs → r ∈ rs10) ∧ m_pack_Writer_Num_l1 x5 b4 l3 k1 x9 = some r) (9) ?_ ?_
   ·exact ⟨0, _, (((E.nil.keep E 4 rfl).keep E 1 rfl).keep E 0 rfl), H, hs8, hm⟩
   ·clear E H hm
    rintro k1 a w ⟨x9, rs10, E, H, hs11, hm⟩
    cases k1 with
    | zero => exact (none_some hm rfl).elim
    | succ k1 =>
     unfold m_pack_Writer_Num_l1 at hm
     refine wp_seq ?_
     refine wp_seq ?_
     refine wp_region_lit ?_
     refine sv E rfl rfl rfl (x_move E rfl rfl) ?_
     clear a E;intro a E
     refine sv E rfl rfl rfl (x_move E rfl rfl) ?_
     clear a E;intro a E
     obtain ⟨u13, hx12, hm⟩ := bnd hm
     refine sv E rfl rfl rfl (x_shr E rfl rfl rfl (ck_of hx12)) ?_
     clear a E;intro a E
     refine sv E rfl rfl rfl (x_bin E rfl rfl rfl rfl) ?_
     clear a E;intro a E
     refine wpList_nil ?_
     refine q_then ?_
     refine wp_if E rfl ?_ ?_
     ·intro hb
      rw [if_t hb] at hm
      clear hb
      refine wp_skip ?_
      refine q_then ?_
      refine wp_block ?_
      refine wp_region_lit ?_
      refine sv E rfl rfl rfl (x_move E rfl rfl) ?_
      clear a E;intro a E
      refine sv E rfl rfl rfl (x_bin E rfl rfl rfl rfl) ?_
      clear a E;intro a E
      refine sv E rfl rfl rfl (x_assign E rfl rfl) ?_
      clear a E;intro a E
      refine wpList_nil ?_
      refine q_blk ?_
      refine q_then ?_
      exact ⟨k1, Nat.lt_succ_self k1, IntKind.i64.wrap (x9 + 7), _, (((E.nil.keep E 4 rfl).keep E 1 rfl).keep E 0 rfl), H, hs11, hm⟩
     ·intro hb
      rw [if_f hb] at hm
      clear hb
      refine wp_exit ?_
      refine q_thenX ?_
      refine q_thenX ?_
      refine q_hit ?_
      refine q_then ?_
      refine wp_seq ?_
      refine wp_block ?_
      refine wp_loop_g (fun k2 a w => ∃ (v15 : Value) (x14 : Int) (l16 : (List Int)) (rs17 : List Rp), Env 51 a [(0, .pointer (some ⟨p1, 0, none⟩)), (1, .int .i64 x5), (4, .int .i64 x14)] ∧ Sep w (Blk p1 76 [v15, .bool b4] :: Row 5 (kI .u8) v15 l16 :: Fo) rs17 ∧ (∀ r, r ∈ rs → r ∈ rs17) ∧ m_pack_Writer_Num_l2 x5 b4 k2 x14 l16 = some r) (9) ?_ ?_
      ·exact ⟨v2, x9, l3, _, (((E.nil.keep E 4 rfl).keep E 1 rfl).keep E 0 rfl), H, hs11, hm⟩
      ·clear E H hm
       rintro k2 a w ⟨v15, x14, l16, rs17, E, H, hs18, hm⟩
       cases k2 with
       | zero => exact (none_some hm rfl).elim
       | succ k2 =>
        unfold m_pack_Writer_Num_l2 at hm
        refine wp_seq ?_
        refine wp_seq ?_
        refine wp_region_lit ?_
        refine sv E rfl rfl rfl (x_move E rfl rfl) ?_
        clear a E;intro a E
        refine sv E rfl rfl rfl (x_bin E rfl rfl rfl rfl) ?_
        clear a E;intro a E
        refine wpList_nil ?_
        refine q_then ?_
        refine wp_if E rfl ?_ ?_
        ·intro hb
         rw [if_t hb] at hm
         clear hb
         refine wp_skip ?_
         refine q_then ?_
         refine wp_seq ?_
         refine wp_block ?_
         replace H : Sep w (Blk p1 76 [v15, .bool b4] :: Row 5 (kI .u8) v15 l16 :: Fo) (rs17) := H
         have hI : Still [Blk p1 76 [v15, .bool b4]] [] { w with drawn := w.drawn + 1 } := ⟨_, _, H.kept (Kp.drawn _ w _), (subO_cons (.head _) (subO_nil)), (sub_nil)⟩
         refine wp_draw _ [(0, 0), (1, 0), (2, 0), (3, 0), (4, 0), (5, 0), (6, 0), (7, 0), (8, 0), (9, 0), (10, 0), (11, 1), (12, 1), (13, 2), (14, 2), (15, 2)] mixedOk (by kernel_rfl) (fun _ _ _ h => False.elim h.2) hI ?_
         replace H := H.kept (Kp.drawn _ w (w.drawn + 1))
         generalize ({ w with drawn := w.drawn + 1 } : World) = w at H hI ⊢
         replace hI : ∃ W, Still [Blk p1 76 [v15, .bool b4]] [] W := ⟨_, hI⟩
         obtain ⟨W0, hI⟩ := hI
         refine fr_val E rfl (wn rfl) rfl rfl (fun w hW => (x_move E rfl rfl)) ?_
         clear a E;intro a E
         refine fr_val E rfl (wn rfl) rfl rfl (fun w hW => (x_move E rfl rfl)) ?_
         clear a E;intro a E
         refine fr_val E rfl (wn rfl) rfl rfl (fun w hW => (x_nil E rfl rfl)) ?_
         clear a E;intro a E
         refine fr_val E rfl (wn rfl) rfl rfl (fun w hW => x_fa E rfl rfl (v := .pointer (some ⟨p1, 0, none⟩)) (fa74_0 _ _)) ?_
         clear a E;intro a E
         refine fr_val E rfl (wn rfl) rfl rfl (fun w hW => x_ld E rfl rfl (ib_ld (.head _) rfl Try.underlying27 rfl w hW)) ?_
         clear a E;intro a E
         refine fr_val E rfl (wn rfl) rfl rfl (fun w hW => (x_move E rfl rfl)) ?_
         clear a E;intro a E
         refine fr_val E rfl (wn rfl) rfl rfl (fun w hW => (x_move E rfl rfl)) ?_
         clear a E;intro a E
         obtain ⟨u20, hx19, hm⟩ := bnd hm
         refine fr_val E rfl (wn rfl) rfl rfl (fun w hW => (x_shr E rfl rfl rfl (ck_of hx19))) ?_
         clear a E;intro a E
         refine fr_val E rfl (wn rfl) rfl rfl (fun w hW => (x_conv E rfl rfl (v := .int .u8 (IntKind.u8.wrap (ishr .i64 x5 x14))) (by kernel_rfl))) ?_
         clear a E;intro a E
         refine fr_val E rfl (wn rfl) rfl rfl (fun w hW => (x_bin E rfl rfl rfl rfl)) ?_
         clear a E;intro a E
         refine fr_val E rfl (wn rfl) rfl rfl (fun w hW => (x_bin E rfl rfl rfl rfl)) ?_
         clear a E;intro a E
         refine fr_op rfl ?_
         refine st_bsR (e := 5) (d := (kI .u8)) (cs := [.int .u8 (ior .u8 (iand .u8 (IntKind.u8.wrap (ishr .i64 x5 x14)) 127) 128)]) (xs := [ior .u8 (iand .u8 (IntKind.u8.wrap (ishr .i64 x5 x14)) 127) 128]) E H (wn rfl) rfl rfl (ps := [(0, .tmp 34)]) (parts := [(0, .int .u8 (ior .u8 (iand .u8 (IntKind.u8.wrap (ishr .i64 x5 x14)) 127) 128))]) rfl (by simp only [List.map]; rw [E.eval (x := .tmp 34) (v := .int .u8 (ior .u8 (iand .u8 (IntKind.u8.wrap (ishr .i64 x5 x14)) 127) 128)) rfl]) (by kernel_rfl) rfl (fun ok hr => (Rows.single (d := (kI .u8)) (cs := [.int .u8 (ior .u8 (iand .u8 (IntKind.u8.wrap (ishr .i64 x5 x14)) 127) 128)]) (x := ior .u8 (iand .u8 (IntKind.u8.wrap (ishr .i64 x5 x14)) 127) 128) rfl)) ?_
         clear E H; clear a; clear w; intro v21 w a H E
         refine wpList_nil ?_
         refine q_then ?_
         replace H : Sep w (Blk p1 76 [v15, .bool b4] :: Row 5 (kI .u8) v15 l16 :: Fo) (rSl (kI .u8) v21 ([ior .u8 (iand .u8 (IntKind.u8.wrap (ishr .i64 x5 x14)) 127) 128] : List Int) :: rs17) := H
         refine ⟨⟨_, _, H, (subO_cons (.head _) (subO_nil)), (sub_nil)⟩, ?_⟩
         refine fr_op rfl ?_
         obtain ⟨u23, hx24, hm⟩ := bnd hm
         refine st_append (i := 1) E H (wn rfl) rfl rfl rfl rfl rfl rfl (src_rd (.head _)) Try.underlying27 inf5 rfl (ck_of hx24) rfl ?_
         clear E H; clear a; clear w; intro v22 w a H E
         refine wpList_nil ?_
         refine q_then ?_
         replace H : Sep w (Blk p1 76 [v15, .bool b4] :: Row 5 (kI .u8) v22 (l16 ++ ([ior .u8 (iand .u8 (IntKind.u8.wrap (ishr .i64 x5 x14)) 127) 128] : List Int)) :: Fo) (rSl (kI .u8) v21 ([ior .u8 (iand .u8 (IntKind.u8.wrap (ishr .i64 x5 x14)) 127) 128] : List Int) :: rs17) := H
         refine ⟨⟨_, _, H, (subO_cons (.head _) (subO_nil)), (sub_nil)⟩, ?_⟩
         refine fr_tail rfl ?_
         refine sv E rfl rfl rfl (x_nil E rfl rfl) ?_
         clear a E;intro a E
         refine wpList_nil ?_
         refine q_then ?_
         refine fr_tail rfl ?_
         refine sv E rfl rfl rfl (x_fa E rfl rfl (v := .pointer (some ⟨p1, 0, none⟩)) (fa74_0 _ _)) ?_
         clear a E;intro a E
         refine wpList_nil ?_
         refine q_then ?_
         refine fr_tail rfl ?_
         obtain ⟨q25, x26, rfl⟩ := H.rowform (i := 1) rfl
         refine st_st (i := 0) E H (wn rfl) rfl (us := [(.slice q25 (l16 ++ ([ior .u8 (iand .u8 (IntKind.u8.wrap (ishr .i64 x5 x14)) 127) 128] : List Int)).length x26)]) rfl rfl rfl rfl rfl sz27 rfl rfl ?_
         clear H; clear w; intro w H
         replace H : Sep w (Blk p1 76 [(.slice q25 (l16 ++ ([ior .u8 (iand .u8 (IntKind.u8.wrap (ishr .i64 x5 x14)) 127) 128] : List Int)).length x26), .bool b4] :: Row 5 (kI .u8) (.slice q25 (l16 ++ ([ior .u8 (iand .u8 (IntKind.u8.wrap (ishr .i64 x5 x14)) 127) 128] : List Int)).length x26) (l16 ++ ([ior .u8 (iand .u8 (IntKind.u8.wrap (ishr .i64 x5 x14)) 127) 128] : List Int)) :: Fo) _ := H
         refine wpList_nil ?_
         refine q_then ?_
         refine fr_nil ?_
         clear hI
         refine q_blk ?_
         refine q_then ?_
         refine wp_region_lit ?_
         refine sv E rfl rfl rfl (x_move E rfl rfl) ?_
         clear a E;intro a E
         refine sv E rfl rfl rfl (x_bin E rfl rfl rfl rfl) ?_
         clear a E;intro a E
         refine sv E rfl rfl rfl (x_assign E rfl rfl) ?_
         clear a E;intro a E
         refine wpList_nil ?_
         refine q_then ?_
         exact ⟨k2, Nat.lt_succ_self k2, (.slice q25 (l16 ++ ([ior .u8 (iand .u8 (IntKind.u8.wrap (ishr .i64 x5 x14)) 127) 128] : List Int)).length x26), IntKind.i64.wrap (x14 - 7), l16 ++ ([ior .u8 (iand .u8 (IntKind.u8.wrap (ishr .i64 x5 x14)) 127) 128] : List Int), _, (((E.nil.keep E 4 rfl).keep E 1 rfl).keep E 0 rfl), H, fun r hr => .tail _ (hs18 r hr), hm⟩
        ·intro hb
         rw [if_f hb] at hm
         clear hb
         refine wp_exit ?_
         refine q_thenX ?_
         refine q_thenX ?_
         refine q_hit ?_
         refine q_then ?_
         refine wp_region_lit ?_
         refine sv E rfl rfl rfl (x_move E rfl rfl) ?_
         clear a E;intro a E
         refine sv E rfl rfl rfl (x_move E rfl rfl) ?_
         clear a E;intro a E
         refine sv E rfl rfl rfl (x_nil E rfl rfl) ?_
         clear a E;intro a E
         refine sv E rfl rfl rfl (x_fa E rfl rfl (v := .pointer (some ⟨p1, 0, none⟩)) (fa74_0 _ _)) ?_
         clear a E;intro a E
         refine sv E rfl rfl rfl (x_ldB (i := 0) E H rfl rfl rfl rfl Try.underlying27 rfl) ?_
         clear a E;intro a E
         refine sv E rfl rfl rfl (x_move E rfl rfl) ?_
         clear a E;intro a E
         refine sv E rfl rfl rfl (x_conv E rfl rfl (v := .int .u8 (IntKind.u8.wrap x5)) (by kernel_rfl)) ?_
         clear a E;intro a E
         refine sv E rfl rfl rfl (x_bin E rfl rfl rfl rfl) ?_
         clear a E;intro a E
         refine st_bsR (e := 5) (d := (kI .u8)) (cs := [.int .u8 (iand .u8 (IntKind.u8.wrap x5) 127)]) (xs := [iand .u8 (IntKind.u8.wrap x5) 127]) E H (wn rfl) rfl rfl (ps := [(0, .tmp 46)]) (parts := [(0, .int .u8 (iand .u8 (IntKind.u8.wrap x5) 127))]) rfl (by simp only [List.map]; rw [E.eval (x := .tmp 46) (v := .int .u8 (iand .u8 (IntKind.u8.wrap x5) 127)) rfl]) (by kernel_rfl) rfl (fun ok hr => (Rows.single (d := (kI .u8)) (cs := [.int .u8 (iand .u8 (IntKind.u8.wrap x5) 127)]) (x := iand .u8 (IntKind.u8.wrap x5) 127) rfl)) ?_
         clear E H; clear a; clear w; intro v27 w a H E
         obtain ⟨u29, hx30, hm⟩ := bnd hm
         refine st_append (i := 1) E H (wn rfl) rfl rfl rfl rfl rfl rfl (src_rd (.head _)) Try.underlying27 inf5 rfl (ck_of hx30) rfl ?_
         clear E H; clear a; clear w; intro v28 w a H E
         refine sv E rfl rfl rfl (x_nil E rfl rfl) ?_
         clear a E;intro a E
         refine sv E rfl rfl rfl (x_fa E rfl rfl (v := .pointer (some ⟨p1, 0, none⟩)) (fa74_0 _ _)) ?_
         clear a E;intro a E
         obtain ⟨q31, x32, rfl⟩ := H.rowform (i := 1) rfl
         refine st_st (i := 0) E H (wn rfl) rfl (us := [(.slice q31 (l16 ++ ([iand .u8 (IntKind.u8.wrap x5) 127] : List Int)).length x32)]) rfl rfl rfl rfl rfl sz27 rfl rfl ?_
         clear H; clear w; intro w H
         replace H : Sep w (Blk p1 76 [(.slice q31 (l16 ++ ([iand .u8 (IntKind.u8.wrap x5) 127] : List Int)).length x32), .bool b4] :: Row 5 (kI .u8) (.slice q31 (l16 ++ ([iand .u8 (IntKind.u8.wrap x5) 127] : List Int)).length x32) (l16 ++ ([iand .u8 (IntKind.u8.wrap x5) 127] : List Int)) :: Fo) _ := H
         refine wpList_nil ?_
         refine out0 E rfl ?_
         obtain rfl := Option.some.inj hm
         exact ⟨(.slice q31 (l16 ++ ([iand .u8 (IntKind.u8.wrap x5) 127] : List Int)).length x32), rfl, H.reads (fun r hr => .tail _ (hs18 r hr))⟩
end Go.Cb

set_option linter.unusedVariables false
set_option linter.unusedSimpArgs false
namespace Go.Cb
open Go.Proofs Go.RowKit
def m_pack_Writer_Text (l3 : List Int) (b4 : Bool) (s5 : ByteArray) : Option ((List Int) × Bool) :=
  (m_pack_Writer_Num l3 b4 (s5.size : Int)).bind fun u6 => (ck (u6.1.length + s5.size ≤ LIM)).bind fun u10 => some (u6.1 ++ bytesOf s5, u6.2)
set_option maxRecDepth 20000 in
set_option maxHeartbeats 1000000 in
theorem c_pack_Writer_Text {w : World} {Fo : List Ob} {rs : List Rp} (p1 : Nat) (v2 : Value) (l3 : List Int) (b4 : Bool) (s5 : ByteArray) (H : Sep w (Blk p1 76 [v2, .bool b4] :: Row 5 (kI .u8) v2 l3 :: Fo) rs) {r : (List Int) × Bool} (hm : m_pack_Writer_Text l3 b4 s5 = some r) :
    Calls Try.prog 31 [.pointer (some ⟨p1, 0, none⟩), .string s5].toArray w (Ret fun v w' => ∃ (v5001 : Value), .tuple #[] = v ∧ Sep w' (Blk p1 76 [v5001, .bool r.2] :: Row 5 (kI .u8) v5001 r.1 :: Fo) (rs)) := by
 unfold m_pack_Writer_Text at hm
 refine enter Try.func31 rfl Try.ntmps31 rfl fun a E => ?_
 simp only [enum, Nat.reduceAdd] at E
 refine wp_seq ?_
 refine wp_region_lit ?_
 refine sv E rfl rfl rfl (x_move E rfl rfl) ?_
 clear a E;intro a E
 refine sv E rfl rfl rfl (x_move E rfl rfl) ?_
 clear a E;intro a E
 refine sv E rfl rfl rfl (x_lenStr E rfl rfl Try.underlying9) ?_
 clear a E;intro a E
 obtain ⟨u6, hx7, hm⟩ := bnd hm
 refine st_call E (wn rfl) rfl rfl (x_call E rfl rfl (cf30 _)) (c_pack_Writer_Num p1 v2 l3 b4 (s5.size : Int) H hx7) ?_
 clear E H; clear a; clear w; rintro _ w ⟨v8, rfl, H⟩ a E
 refine wpList_nil ?_
 refine q_then ?_
 refine wp_region_lit ?_
 refine sv E rfl rfl rfl (x_move E rfl rfl) ?_
 clear a E;intro a E
 refine sv E rfl rfl rfl (x_move E rfl rfl) ?_
 clear a E;intro a E
 refine sv E rfl rfl rfl (x_nil E rfl rfl) ?_
 clear a E;intro a E
 refine sv E rfl rfl rfl (x_fa E rfl rfl (v := .pointer (some ⟨p1, 0, none⟩)) (fa74_0 _ _)) ?_
 clear a E;intro a E
 refine sv E rfl rfl rfl (x_ldB (i := 0) E H rfl rfl rfl rfl Try.underlying27 rfl) ?_
 clear a E;intro a E
 refine sv E rfl rfl rfl (x_move E rfl rfl) ?_
 clear a E;intro a E
 obtain ⟨u10, hx11, hm⟩ := bnd hm
 refine st_appendStr (i := 1) E H (wn rfl) rfl rfl rfl rfl rfl rfl Try.underlying27 Try.underlying9 inf5 (ck_of hx11) ?_
 clear E H; clear a; clear w; intro v9 w a H E
 refine sv E rfl rfl rfl (x_nil E rfl rfl) ?_
 clear a E;intro a E
 refine sv E rfl rfl rfl (x_fa E rfl rfl (v := .pointer (some ⟨p1, 0, none⟩)) (fa74_0 _ _)) ?_
 clear a E;intro a E
 obtain ⟨q12, x13, rfl⟩ := H.rowform (i := 1) rfl
 refine st_st (i := 0) E H (wn rfl) rfl (us := [(.slice q12 (u6.1 ++ bytesOf s5).length x13)]) rfl rfl rfl rfl rfl sz27 rfl rfl ?_
 clear H; clear w; intro w H
 replace H : Sep w (Blk p1 76 [(.slice q12 (u6.1 ++ bytesOf s5).length x13), .bool u6.2] :: Row 5 (kI .u8) (.slice q12 (u6.1 ++ bytesOf s5).length x13) (u6.1 ++ bytesOf s5) :: Fo) _ := H
 refine wpList_nil ?_
 refine out0 E rfl ?_
 obtain rfl := Option.some.inj hm
 exact ⟨(.slice q12 (u6.1 ++ bytesOf s5).length x13), rfl, H.reads (fun r hr => hr)⟩
end Go.Cb

set_option linter.unusedVariables false
set_option linter.unusedSimpArgs false
namespace Go.Cb
open Go.Proofs Go.RowKit
def m_pack_Writer_Texts_l1 (l6 : List ByteArray) : Nat → Int → (List Int) → Bool → Option ((List Int) × Bool)
  | 0, _, _, _ => none
  | k1 + 1, x11, l13, b14 =>
    if (decide (x11 < (l6.length : Int))) = true then ((idx l6 x11).bind fun x18 => (m_pack_Writer_Text l13 b14 x18).bind fun u21 => m_pack_Writer_Texts_l1 l6 k1 (IntKind.i64.wrap (x11 + 1)) u21.1 u21.2) else (some (l13, b14))
def m_pack_Writer_Texts (l3 : List Int) (b4 : Bool) (l6 : List ByteArray) : Option ((List Int) × Bool) :=
  (m_pack_Writer_Num l3 b4 (l6.length : Int)).bind fun u8 => m_pack_Writer_Texts_l1 l6 (((l6.length : Int) - 0 : Int).toNat + 1) 0 u8.1 u8.2
set_option maxRecDepth 20000 in
set_option maxHeartbeats 1000000 in
theorem c_pack_Writer_Texts {w : World} {Fo : List Ob} {rs : List Rp} (p1 : Nat) (v2 : Value) (l3 : List Int) (b4 : Bool) (v5 : Value) (l6 : List ByteArray) (H : Sep w (Blk p1 76 [v2, .bool b4] :: Row 5 (kI .u8) v2 l3 :: Fo) rs) (hr7 : rSl kS v5 l6 ∈ rs) {r : (List Int) × Bool} (hm : m_pack_Writer_Texts l3 b4 l6 = some r) :
    Calls Try.prog 29 [.pointer (some ⟨p1, 0, none⟩), v5].toArray w (Ret fun v w' => ∃ (v5001 : Value), .tuple #[] = v ∧ Sep w' (Blk p1 76 [v5001, .bool r.2] :: Row 5 (kI .u8) v5001 r.1 :: Fo) (rs)) := by
 unfold m_pack_Writer_Texts at hm
 refine enter Try.func29 rfl Try.ntmps29 rfl fun a E => ?_
 simp only [enum, Nat.reduceAdd] at E
 refine wp_seq ?_
 refine wp_region_lit ?_
 refine sv E rfl rfl rfl (x_move E rfl rfl) ?_
 clear a E;intro a E
 refine sv E rfl rfl rfl (x_move E rfl rfl) ?_
 clear a E;intro a E
 refine sv E rfl rfl rfl (x_lenS E H rfl rfl hr7 Try.underlying22) ?_
 clear a E;intro a E
 obtain ⟨u8, hx9, hm⟩ := bnd hm
 refine st_call E (wn rfl) rfl rfl (x_call E rfl rfl (cf30 _)) (c_pack_Writer_Num p1 v2 l3 b4 (l6.length : Int) H hx9) ?_
 clear E H; clear a; clear w; rintro _ w ⟨v10, rfl, H⟩ a E
 refine wpList_nil ?_
 refine q_then ?_
 refine wp_seq ?_
 refine wp_region_lit ?_
 refine sv E rfl rfl rfl (x_move E rfl rfl) ?_
 clear a E;intro a E
 refine sv E rfl rfl rfl (x_lenS E H rfl rfl hr7 Try.underlying22) ?_
 clear a E;intro a E
 refine sv E rfl rfl rfl (x_move E rfl rfl) ?_
 clear a E;intro a E
 refine wpList_nil ?_
 refine q_then ?_
 refine wp_block ?_
 refine wp_loop_g (fun k1 a w => ∃ (v12 : Value) (x11 : Int) (l13 : (List Int)) (b14 : Bool) (rs15 : List Rp), Env 20 a [(0, .pointer (some ⟨p1, 0, none⟩)), (10, v5), (11, .int .i64 (l6.length : Int)), (12, .int .i64 x11)] ∧ Sep w (Blk p1 76 [v12, .bool b14] :: Row 5 (kI .u8) v12 l13 :: Fo) rs15 ∧ (∀ r, r ∈ rs → r ∈ rs15) ∧ rSl kS v5 l6 ∈ rs15 ∧ m_pack_Writer_Texts_l1 l6 k1 x11 l13 b14 = some r) (((l6.length : Int) - 0 : Int).toNat + 1) ?_ ?_
 ·exact ⟨v10, 0, u8.1, u8.2, _, ((((E.nil.keep E 12 rfl).keep E 11 rfl).keep E 10 rfl).keep E 0 rfl), H, fun r hr => hr, hr7, hm⟩
 ·clear E H hm
  rintro k1 a w ⟨v12, x11, l13, b14, rs15, E, H, hs16, hr17, hm⟩
  cases k1 with
  | zero => exact (none_some hm rfl).elim
  | succ k1 =>
   unfold m_pack_Writer_Texts_l1 at hm
   refine wp_seq ?_
   refine wp_region_lit ?_
   refine sv E rfl rfl rfl (x_bin E rfl rfl rfl rfl) ?_
   clear a E;intro a E
   refine wpList_nil ?_
   refine q_then ?_
   refine wp_seq ?_
   refine wp_if E rfl ?_ ?_
   ·intro hb
    rw [if_t hb] at hm
    clear hb
    refine wp_skip ?_
    refine q_then ?_
    refine wp_seq ?_
    refine wp_block ?_
    refine wp_seq ?_
    refine wp_region_lit ?_
    obtain ⟨x18, hx19, hm⟩ := bnd hm
    refine st_ixS E H (wn rfl) rfl rfl rfl rfl rfl hr17 Try.underlying22 sz9 hx19 ?_
    clear E H; clear a; intro q20 a H E
    refine sv E rfl rfl rfl (x_ldA E H rfl rfl (.head _) Try.underlying9 rfl) ?_
    clear a E;intro a E
    refine sv E rfl rfl rfl (x_assign E rfl rfl) ?_
    clear a E;intro a E
    refine wpList_nil ?_
    refine q_then ?_
    refine wp_region_lit ?_
    refine sv E rfl rfl rfl (x_move E rfl rfl) ?_
    clear a E;intro a E
    refine sv E rfl rfl rfl (x_move E rfl rfl) ?_
    clear a E;intro a E
    obtain ⟨u21, hx22, hm⟩ := bnd hm
    refine st_call E (wn rfl) rfl rfl (x_call E rfl rfl (cf31 _)) (c_pack_Writer_Text p1 v12 l13 b14 x18 H hx22) ?_
    clear E H; clear a; clear w; rintro _ w ⟨v23, rfl, H⟩ a E
    refine wpList_nil ?_
    refine q_blk ?_
    refine q_then ?_
    refine wp_region_lit ?_
    refine sv E rfl rfl rfl (x_bin E rfl rfl rfl rfl) ?_
    clear a E;intro a E
    refine sv E rfl rfl rfl (x_move E rfl rfl) ?_
    clear a E;intro a E
    refine wpList_nil ?_
    refine q_then ?_
    exact ⟨k1, Nat.lt_succ_self k1, v23, IntKind.i64.wrap (x11 + 1), u21.1, u21.2, _, ((((E.nil.keep E 12 rfl).keep E 11 rfl).keep E 10 rfl).keep E 0 rfl), H, fun r hr => .tail _ (hs16 r hr), (.tail _ hr17), hm⟩
   ·intro hb
    rw [if_f hb] at hm
    clear hb
    refine wp_exit ?_
    refine q_thenX ?_
    refine q_thenX ?_
    refine q_hit ?_
    refine out0 E rfl ?_
    obtain rfl := Option.some.inj hm
    exact ⟨v12, rfl, H.reads (fun r hr => hs16 r hr)⟩
end Go.Cb

set_option linter.unusedVariables false
set_option linter.unusedSimpArgs false
namespace Go.Cb
open Go.Proofs Go.RowKit
def m_pack_Writer_Bytes (l3 : List Int) (b4 : Bool) : Option ((List Int) × Int) :=
  if b4 = true then (some ([], 1)) else ((ck (l3.length ≤ LIM)).bind fun u6 => some (l3, 0))
set_option maxRecDepth 20000 in
set_option maxHeartbeats 1000000 in
theorem c_pack_Writer_Bytes {w : World} {Fo : List Ob} {rs : List Rp} (p1 : Nat) (v2 : Value) (l3 : List Int) (b4 : Bool) (H : Sep w (Blk p1 76 [v2, .bool b4] :: Row 5 (kI .u8) v2 l3 :: Fo) rs) {r : (List Int) × Int} (hm : m_pack_Writer_Bytes l3 b4 = some r) :
    Calls Try.prog 32 [.pointer (some ⟨p1, 0, none⟩)].toArray w (Ret fun v w' => ∃ (v5001 : Value), .tuple #[v5001, .int .i64 r.2] = v ∧ Sep w' (Row 5 (kI .u8) v5001 r.1 :: Blk p1 76 [v2, .bool b4] :: Row 5 (kI .u8) v2 l3 :: Fo) (rs)) := by
 unfold m_pack_Writer_Bytes at hm
 refine enter Try.func32 rfl Try.ntmps32 rfl fun a E => ?_
 simp only [enum, Nat.reduceAdd] at E
 refine wp_seq ?_
 refine wp_region_lit ?_
 refine sv E rfl rfl rfl (x_assign E rfl rfl) ?_
 clear a E;intro a E
 refine sv E rfl rfl rfl (x_assign E rfl rfl) ?_
 clear a E;intro a E
 refine wpList_nil ?_
 refine q_then ?_
 refine wp_seq ?_
 refine wp_seq ?_
 refine wp_region_lit ?_
 refine sv E rfl rfl rfl (x_move E rfl rfl) ?_
 clear a E;intro a E
 refine sv E rfl rfl rfl (x_nil E rfl rfl) ?_
 clear a E;intro a E
 refine sv E rfl rfl rfl (x_fa E rfl rfl (v := .pointer (some ⟨p1, 1, none⟩)) (fa74_1 _ _)) ?_
 clear a E;intro a E
 refine sv E rfl rfl rfl (x_ldB (i := 0) E H rfl rfl rfl rfl Try.underlying4 rfl) ?_
 clear a E;intro a E
 refine wpList_nil ?_
 refine q_then ?_
 refine wp_if E rfl ?_ ?_
 ·intro hb
  rw [if_t hb] at hm
  clear hb
  refine wp_seq ?_
  refine wp_region_lit ?_
  refine sv E rfl rfl rfl (x_assign E rfl rfl) ?_
  clear a E;intro a E
  refine sv E rfl rfl rfl (x_assign E rfl rfl) ?_
  clear a E;intro a E
  refine wpList_nil ?_
  refine q_then ?_
  refine wp_ret ?_
  refine q_thenR ?_
  refine out2 E rfl rfl rfl ?_
  replace H := H.nilRow 5 (kI .u8)
  obtain rfl := Option.some.inj hm
  exact ⟨(.slice none 0 0), rfl, H.reads (fun r hr => hr)⟩
 ·intro hb
  rw [if_f hb] at hm
  clear hb
  refine wp_skip ?_
  refine q_then ?_
  refine wp_seq ?_
  refine wp_region_lit ?_
  refine sv E rfl rfl rfl (x_move E rfl rfl) ?_
  clear a E;intro a E
  refine sv E rfl rfl rfl (x_nil E rfl rfl) ?_
  clear a E;intro a E
  refine sv E rfl rfl rfl (x_fa E rfl rfl (v := .pointer (some ⟨p1, 0, none⟩)) (fa74_0 _ _)) ?_
  clear a E;intro a E
  refine sv E rfl rfl rfl (x_ldB (i := 0) E H rfl rfl rfl rfl Try.underlying27 rfl) ?_
  clear a E;intro a E
  obtain ⟨u6, hx7, hm⟩ := bnd hm
  refine st_call E (wn rfl) rfl rfl (x_call E rfl rfl (cf83 _)) (lib_bytes_Clone_own (i := 1) H rfl (ck_of hx7)) ?_
  clear E H; clear a; clear w; rintro v5 w H a E
  refine sv E rfl rfl rfl (x_assign E rfl rfl) ?_
  clear a E;intro a E
  refine sv E rfl rfl rfl (x_assign E rfl rfl) ?_
  clear a E;intro a E
  refine wpList_nil ?_
  refine q_then ?_
  refine wp_ret ?_
  refine out2 E rfl rfl rfl ?_
  obtain rfl := Option.some.inj hm
  exact ⟨v5, rfl, H.reads (fun r hr => hr)⟩
end Go.Cb

set_option linter.unusedVariables false
set_option linter.unusedSimpArgs false
namespace Go.Cb
open Go.Proofs Go.RowKit
def m_pack_New (l2 : List Int) : Option (List Int) :=
  (ck (l2.length ≤ LIM)).bind fun u5 => some (l2)
set_option maxRecDepth 20000 in
set_option maxHeartbeats 1000000 in
theorem c_pack_New {w : World} {Fo : List Ob} {rs : List Rp} (v1 : Value) (l2 : List Int) (H : Sep w (Fo) rs) (hr3 : rSl (kI .u8) v1 l2 ∈ rs) {r : (List Int)} (hm : m_pack_New l2 = some r) :
    Calls Try.prog 37 [v1].toArray w (Ret fun v w' => ∃ (p5001 : Nat) (v5002 : Value), .pointer (some ⟨p5001, 0, none⟩) = v ∧ Sep w' (Blk p5001 137 [v5002, .int .i64 0] :: Row 5 (kI .u8) v5002 r :: Fo) (rs)) := by
 unfold m_pack_New at hm
 refine enter Try.func37 rfl Try.ntmps37 rfl fun a E => ?_
 simp only [enum, Nat.reduceAdd] at E
 refine wp_seq ?_
 refine wp_region_lit ?_
 refine sv E rfl rfl rfl (x_assign E rfl rfl) ?_
 clear a E;intro a E
 refine wpList_nil ?_
 refine q_then ?_
 refine wp_seq ?_
 refine wp_region_lit ?_
 refine sv E rfl rfl rfl (x_move E rfl rfl) ?_
 clear a E;intro a E
 obtain ⟨u5, hx6, hm⟩ := bnd hm
 refine st_call E (wn rfl) rfl rfl (x_call E rfl rfl (cf83 _)) (lib_bytes_Clone_rd H hr3 (ck_of hx6)) ?_
 clear E H; clear a; clear w; rintro v4 w H a E
 obtain ⟨q7, x8, rfl⟩ := H.rowform (i := 0) rfl
 refine sv E rfl rfl rfl (x_build E (ps := [(0, .tmp 4)]) (vs := [(0, (.slice q7 l2.length x8))]) rfl (by simp only [List.map]; rw [E.eval (x := .tmp 4) (v := (.slice q7 l2.length x8)) rfl]) (v := .agg #[(.slice q7 l2.length x8), .int .i64 0]) (by kernel_rfl)) ?_
 clear a E;intro a E
 refine st_box E H (wn rfl) rfl rfl (cs := [(.slice q7 l2.length x8), .int .i64 0]) rfl rfl rfl ?_
 clear E H; clear a; clear w; intro p9 w a H E
 refine sv E rfl rfl rfl (x_assign E rfl rfl) ?_
 clear a E;intro a E
 refine wpList_nil ?_
 refine q_then ?_
 refine wp_ret ?_
 refine out1 E rfl rfl ?_
 obtain rfl := Option.some.inj hm
 exact ⟨p9, (.slice q7 l2.length x8), rfl, H.reads (fun r hr => hr)⟩
end Go.Cb

set_option linter.unusedVariables false
set_option linter.unusedSimpArgs false
namespace Go.Cb
open Go.Proofs Go.RowKit
def m_pack_Reader_End (l3 : List Int) (x4 : Int) : Option Bool :=
  if (x4 == 0) = true then (some ((l3.length : Int) == 0)) else (some (false))
set_option maxRecDepth 20000 in
set_option maxHeartbeats 1000000 in
theorem c_pack_Reader_End {w : World} {Fo : List Ob} {rs : List Rp} (p1 : Nat) (v2 : Value) (l3 : List Int) (x4 : Int) (H : Sep w (Blk p1 137 [v2, .int .i64 x4] :: Fo) rs) (hr5 : rSl (kI .u8) v2 l3 ∈ rs) {r : Bool} (hm : m_pack_Reader_End l3 x4 = some r) :
    Calls Try.prog 85 [.pointer (some ⟨p1, 0, none⟩)].toArray w (Ret fun v w' => .bool r = v ∧ Sep w' (Blk p1 137 [v2, .int .i64 x4] :: Fo) (rs)) := by
 unfold m_pack_Reader_End at hm
 refine enter Try.func85 rfl Try.ntmps85 rfl fun a E => ?_
 simp only [enum, Nat.reduceAdd] at E
 refine wp_seq ?_
 refine wp_region_lit ?_
 refine sv E rfl rfl rfl (x_assign E rfl rfl) ?_
 clear a E;intro a E
 refine wpList_nil ?_
 refine q_then ?_
 refine wp_seq ?_
 refine wp_region_lit ?_
 refine sv E rfl rfl rfl (x_move E rfl rfl) ?_
 clear a E;intro a E
 refine sv E rfl rfl rfl (x_nil E rfl rfl) ?_
 clear a E;intro a E
 refine sv E rfl rfl rfl (x_fa E rfl rfl (v := .pointer (some ⟨p1, 1, none⟩)) (fa137_1 _ _)) ?_
 clear a E;intro a E
 refine sv E rfl rfl rfl (x_ldB (i := 0) E H rfl rfl rfl rfl Try.underlying30 rfl) ?_
 clear a E;intro a E
 refine sv E rfl rfl rfl (x_bin E rfl rfl rfl rfl) ?_
 clear a E;intro a E
 refine sv E rfl rfl rfl (x_move E rfl rfl) ?_
 clear a E;intro a E
 rcases Bool.eq_false_or_eq_true (x4 == 0) with hb6 | hb6
 ·rw [if_t hb6] at hm
  refine st_val E (ws' E rfl rfl rfl rfl hb6) rfl rfl (x_move E rfl rfl) ?_
  clear a E;intro a E
  refine st_val E (ws' E rfl rfl rfl rfl hb6) rfl rfl (x_nil E rfl rfl) ?_
  clear a E;intro a E
  refine st_val E (ws' E rfl rfl rfl rfl hb6) rfl rfl (x_fa E rfl rfl (v := .pointer (some ⟨p1, 0, none⟩)) (fa137_0 _ _)) ?_
  clear a E;intro a E
  refine st_val E (ws' E rfl rfl rfl rfl hb6) rfl rfl (x_ldB (i := 0) E H rfl rfl rfl rfl Try.underlying27 rfl) ?_
  clear a E;intro a E
  refine st_val E (ws' E rfl rfl rfl rfl hb6) rfl rfl (x_lenS E H rfl rfl hr5 Try.underlying27) ?_
  clear a E;intro a E
  refine st_val E (ws' E rfl rfl rfl rfl hb6) rfl rfl (x_bin E rfl rfl rfl rfl) ?_
  clear a E;intro a E
  refine sv E rfl rfl rfl (x_pickT E rfl rfl hb6 rfl) ?_
  clear a E;intro a E
  refine sv E rfl rfl rfl (x_assign E rfl rfl) ?_
  clear a E;intro a E
  refine wpList_nil ?_
  refine q_then ?_
  refine wp_ret ?_
  refine out1 E rfl rfl ?_
  obtain rfl := Option.some.inj hm
  exact ⟨rfl, H.reads (fun r hr => hr)⟩
 ·rw [if_f hb6] at hm
  refine st_no E (wf' E rfl rfl rfl rfl hb6 rfl) rfl rfl ?_
  clear a E;intro a E
  refine st_no E (wf' E rfl rfl rfl rfl hb6 rfl) rfl rfl ?_
  clear a E;intro a E
  refine st_no E (wf' E rfl rfl rfl rfl hb6 rfl) rfl rfl ?_
  clear a E;intro a E
  refine st_no E (wf' E rfl rfl rfl rfl hb6 rfl) rfl rfl ?_
  clear a E;intro a E
  refine st_no E (wf' E rfl rfl rfl rfl hb6 rfl) rfl rfl ?_
  clear a E;intro a E
  refine st_no E (wf' E rfl rfl rfl rfl hb6 rfl) rfl rfl ?_
  clear a E;intro a E
  refine sv E rfl rfl rfl (x_pickF E rfl rfl hb6 rfl) ?_
  clear a E;intro a E
  refine sv E rfl rfl rfl (x_assign E rfl rfl) ?_
  clear a E;intro a E
  refine wpList_nil ?_
  refine q_then ?_
  refine wp_ret ?_
  refine out1 E rfl rfl ?_
  obtain rfl := Option.some.inj hm
  exact ⟨rfl, H.reads (fun r hr => hr)⟩
end Go.Cb

set_option linter.unusedVariables false
set_option linter.unusedSimpArgs false
namespace Go.Cb
open Go.Proofs Go.RowKit
def m_pack_Reader_Err (l3 : List Int) (x4 : Int) : Option Unit :=
  some ()
set_option maxRecDepth 20000 in
set_option maxHeartbeats 1000000 in
theorem c_pack_Reader_Err {w : World} {Fo : List Ob} {rs : List Rp} (p1 : Nat) (v2 : Value) (l3 : List Int) (x4 : Int) (H : Sep w (Blk p1 137 [v2, .int .i64 x4] :: Fo) rs) (hr5 : rSl (kI .u8) v2 l3 ∈ rs) {r : Unit} (hm : m_pack_Reader_Err l3 x4 = some r) :
    Calls Try.prog 88 [.pointer (some ⟨p1, 0, none⟩)].toArray w (Ret fun v w' => .int .i64 x4 = v ∧ Sep w' (Blk p1 137 [v2, .int .i64 x4] :: Fo) (rs)) := by
 unfold m_pack_Reader_Err at hm
 refine enter Try.func88 rfl Try.ntmps88 rfl fun a E => ?_
 simp only [enum, Nat.reduceAdd] at E
 refine wp_seq ?_
 refine wp_region_lit ?_
 refine sv E rfl rfl rfl (x_assign E rfl rfl) ?_
 clear a E;intro a E
 refine wpList_nil ?_
 refine q_then ?_
 refine wp_seq ?_
 refine wp_region_lit ?_
 refine sv E rfl rfl rfl (x_move E rfl rfl) ?_
 clear a E;intro a E
 refine sv E rfl rfl rfl (x_nil E rfl rfl) ?_
 clear a E;intro a E
 refine sv E rfl rfl rfl (x_fa E rfl rfl (v := .pointer (some ⟨p1, 1, none⟩)) (fa137_1 _ _)) ?_
 clear a E;intro a E
 refine sv E rfl rfl rfl (x_ldB (i := 0) E H rfl rfl rfl rfl Try.underlying30 rfl) ?_
 clear a E;intro a E
 refine sv E rfl rfl rfl (x_assign E rfl rfl) ?_
 clear a E;intro a E
 refine wpList_nil ?_
 refine q_then ?_
 refine wp_ret ?_
 refine out1 E rfl rfl ?_
 obtain rfl := Option.some.inj hm
 exact ⟨rfl, H.reads (fun r hr => hr)⟩
end Go.Cb

set_option linter.unusedVariables false
set_option linter.unusedSimpArgs false
namespace Go.Cb
open Go.Proofs Go.RowKit
def m_pack_Reader_Num_j1 : Option (Int × (List Int) × Int) :=
  some (0, ([] : List Int), 3)
def m_pack_Reader_Num_j3 (x26 : Int) : Option (Int × (List Int) × Int) :=
  some (0, ([] : List Int), x26)
def m_pack_Reader_Num_l1 (l3 : List Int) (x5 : Int) (x4 : Int) : Nat → Int → Int → Option (Int × (List Int) × Int)
  | 0, _, _ => none
  | k1 + 1, x13, x14 =>
    if (decide (x14 < (l3.length : Int))) = true then ((idx l3 x14).bind fun x18 => if (x14 == 7) = true then (m_pack_Reader_Num_j1) else (if (decide (x18 > 127)) = true then (m_pack_Reader_Num_l1 l3 x5 x4 k1 (ior .i64 (ishl .i64 x13 7) (IntKind.i64.wrap (iand .u8 x18 127))) (IntKind.i64.wrap (x14 + 1))) else (if (decide ((ior .i64 (ishl .i64 x13 7) (IntKind.i64.wrap (iand .u8 x18 127))) > (min x5 281474976710656))) = true then (m_pack_Reader_Num_j1) else ((ck (0 ≤ (IntKind.i64.wrap (x14 + 1)) ∧ (IntKind.i64.wrap (x14 + 1)) ≤ l3.length)).bind fun u21 => some (ior .i64 (ishl .i64 x13 7) (IntKind.i64.wrap (iand .u8 x18 127)), l3.drop (IntKind.i64.wrap (x14 + 1)).toNat, x4))))) else (if (decide ((l3.length : Int) < 7)) = true then (m_pack_Reader_Num_j3 21) else (m_pack_Reader_Num_j3 3))
def m_pack_Reader_Num_j2 (l3 : List Int) (x5 : Int) (x4 : Int) : Option (Int × (List Int) × Int) :=
  m_pack_Reader_Num_l1 l3 x5 x4 9 0 0
def m_pack_Reader_Num (l3 : List Int) (x4 : Int) (x5 : Int) : Option (Int × (List Int) × Int) :=
  if (x4 != 0) = true then (some (0, l3, x4)) else (if (decide ((l3.length : Int) > 0)) = true then ((idx l3 0).bind fun x31 => if (x31 == 128) = true then (m_pack_Reader_Num_j1) else (m_pack_Reader_Num_j2 l3 x5 x4)) else (m_pack_Reader_Num_j2 l3 x5 x4))
set_option maxRecDepth 20000 in
set_option maxHeartbeats 1000000 in
theorem c_pack_Reader_Num {w : World} {Fo : List Ob} {rs : List Rp} (p1 : Nat) (v2 : Value) (l3 : List Int) (x4 : Int) (x5 : Int) (H : Sep w (Blk p1 137 [v2, .int .i64 x4] :: Fo) rs) (hr6 : rSl (kI .u8) v2 l3 ∈ rs) {r : Int × (List Int) × Int} (hm : m_pack_Reader_Num l3 x4 x5 = some r) :
    Calls Try.prog 64 [.pointer (some ⟨p1, 0, none⟩), .int .i64 x5].toArray w (Ret fun v w' => ∃ (v5002 : Value), .int .i64 r.1 = v ∧ Sep w' (Blk p1 137 [v5002, .int .i64 r.2.2] :: Fo) (rSl (kI .u8) v5002 r.2.1 :: rs)) := by
 unfold m_pack_Reader_Num at hm
 refine enter Try.func64 rfl Try.ntmps64 rfl fun a E => ?_
 simp only [enum, Nat.reduceAdd] at E
 refine wp_seq ?_
 refine wp_region_lit ?_
 refine sv E rfl rfl rfl (x_assign E rfl rfl) ?_
 clear a E;intro a E
 refine wpList_nil ?_
 refine q_then ?_
 refine wp_scope_jumps 0 (fun a w => ∃ (rs7 : List Rp), Env 78 a [(0, .pointer (some ⟨p1, 0, none⟩)), (6, .int .i64 3)] ∧ Sep w (Blk p1 137 [v2, .int .i64 x4] :: Fo) rs7 ∧ (∀ r, r ∈ rs → r ∈ rs7) ∧ rSl (kI .u8) v2 l3 ∈ rs7 ∧ m_pack_Reader_Num_j1 = some r) (fun _ _ => 0) rfl ?_ ?_
 ·refine wp_seq ?_
  refine wp_region_lit ?_
  refine sv E rfl rfl rfl (x_assign E rfl rfl) ?_
  clear a E;intro a E
  refine wpList_nil ?_
  refine q_then ?_
  refine wp_seq ?_
  refine wp_region_lit ?_
  refine sv E rfl rfl rfl (x_assign E rfl rfl) ?_
  clear a E;intro a E
  refine wpList_nil ?_
  refine q_then ?_
  refine wp_seq ?_
  refine wp_seq ?_
  refine wp_region_lit ?_
  refine sv E rfl rfl rfl (x_move E rfl rfl) ?_
  clear a E;intro a E
  refine sv E rfl rfl rfl (x_nil E rfl rfl) ?_
  clear a E;intro a E
  refine sv E rfl rfl rfl (x_fa E rfl rfl (v := .pointer (some ⟨p1, 1, none⟩)) (fa137_1 _ _)) ?_
  clear a E;intro a E
  refine sv E rfl rfl rfl (x_ldB (i := 0) E H rfl rfl rfl rfl Try.underlying30 rfl) ?_
  clear a E;intro a E
  refine sv E rfl rfl rfl (x_bin E rfl rfl rfl rfl) ?_
  clear a E;intro a E
  refine wpList_nil ?_
  refine q_then ?_
  refine wp_if E rfl ?_ ?_
  ·intro hb
   rw [if_t hb] at hm
   clear hb
   refine wp_seq ?_
   refine wp_region_lit ?_
   refine sv E rfl rfl rfl (x_assign E rfl rfl) ?_
   clear a E;intro a E
   refine wpList_nil ?_
   refine q_then ?_
   refine wp_ret ?_
   refine q_thenR ?_
   refine q_jumpR ?_
   refine out1 E rfl rfl ?_
   obtain rfl := Option.some.inj hm
   exact ⟨v2, rfl, H.reads (sub_cons hr6 (fun r hr => hr))⟩
  ·intro hb
   rw [if_f hb] at hm
   clear hb
   refine wp_skip ?_
   refine q_then ?_
   refine wp_seq_cut (fun a w => ∃ (rs10 : List Rp), Env 78 a [(0, .pointer (some ⟨p1, 0, none⟩)), (1, .int .i64 x5), (5, .int .i64 0), (6, .int .i64 3)] ∧ Sep w (Blk p1 137 [v2, .int .i64 x4] :: Fo) rs10 ∧ (∀ r, r ∈ rs → r ∈ rs10) ∧ rSl (kI .u8) v2 l3 ∈ rs10 ∧ m_pack_Reader_Num_j2 l3 x5 x4 = some r) ?_ ?_
   ·refine wp_seq ?_
    refine wp_region_lit ?_
    refine sv E rfl rfl rfl (x_move E rfl rfl) ?_
    clear a E;intro a E
    refine sv E rfl rfl rfl (x_nil E rfl rfl) ?_
    clear a E;intro a E
    refine sv E rfl rfl rfl (x_fa E rfl rfl (v := .pointer (some ⟨p1, 0, none⟩)) (fa137_0 _ _)) ?_
    clear a E;intro a E
    refine sv E rfl rfl rfl (x_ldB (i := 0) E H rfl rfl rfl rfl Try.underlying27 rfl) ?_
    clear a E;intro a E
    refine sv E rfl rfl rfl (x_lenS E H rfl rfl hr6 Try.underlying27) ?_
    clear a E;intro a E
    refine sv E rfl rfl rfl (x_bin E rfl rfl rfl rfl) ?_
    clear a E;intro a E
    refine sv E rfl rfl rfl (x_move E rfl rfl) ?_
    clear a E;intro a E
    rcases Bool.eq_false_or_eq_true (decide ((l3.length : Int) > 0)) with hb30 | hb30
    ·rw [if_t hb30] at hm
     refine st_val E (ws' E rfl rfl rfl rfl hb30) rfl rfl (x_move E rfl rfl) ?_
     clear a E;intro a E
     refine st_val E (ws' E rfl rfl rfl rfl hb30) rfl rfl (x_nil E rfl rfl) ?_
     clear a E;intro a E
     refine st_val E (ws' E rfl rfl rfl rfl hb30) rfl rfl (x_fa E rfl rfl (v := .pointer (some ⟨p1, 0, none⟩)) (fa137_0 _ _)) ?_
     clear a E;intro a E
     refine st_val E (ws' E rfl rfl rfl rfl hb30) rfl rfl (x_ldB (i := 0) E H rfl rfl rfl rfl Try.underlying27 rfl) ?_
     clear a E;intro a E
     obtain ⟨x31, hx32, hm⟩ := bnd hm
     refine st_ixS E H (ws' E rfl rfl rfl rfl hb30) rfl rfl rfl rfl rfl hr6 Try.underlying27 sz5 hx32 ?_
     clear E H; clear a; intro q33 a H E
     refine st_val E (ws' E rfl rfl rfl rfl hb30) rfl rfl (x_ldA E H rfl rfl (.head _) Try.underlying5 rfl) ?_
     clear a E;intro a E
     refine st_val E (ws' E rfl rfl rfl rfl hb30) rfl rfl (x_bin E rfl rfl rfl rfl) ?_
     clear a E;intro a E
     refine sv E rfl rfl rfl (x_pickT E rfl rfl hb30 rfl) ?_
     clear a E;intro a E
     refine wpList_nil ?_
     refine q_then ?_
     refine wp_if E rfl ?_ ?_
     ·intro hb
      rw [if_t hb] at hm
      clear hb
      refine wp_goto ?_
      refine q_thenG ?_
      refine q_jump ?_
      exact ⟨_, ((E.nil.keep E 6 rfl).keep E 0 rfl), H, fun r hr => .tail _ (hr), (.tail _ hr6), hm⟩
     ·intro hb
      rw [if_f hb] at hm
      clear hb
      refine wp_skip ?_
      refine q_then ?_
      exact ⟨_, ((((E.nil.keep E 6 rfl).keep E 5 rfl).keep E 1 rfl).keep E 0 rfl), H, fun r hr => .tail _ (hr), (.tail _ hr6), hm⟩
    ·rw [if_f hb30] at hm
     refine st_no E (wf' E rfl rfl rfl rfl hb30 rfl) rfl rfl ?_
     clear a E;intro a E
     refine st_no E (wf' E rfl rfl rfl rfl hb30 rfl) rfl rfl ?_
     clear a E;intro a E
     refine st_no E (wf' E rfl rfl rfl rfl hb30 rfl) rfl rfl ?_
     clear a E;intro a E
     refine st_no E (wf' E rfl rfl rfl rfl hb30 rfl) rfl rfl ?_
     clear a E;intro a E
     refine st_no E (wf' E rfl rfl rfl rfl hb30 rfl) rfl rfl ?_
     clear a E;intro a E
     refine st_no E (wf' E rfl rfl rfl rfl hb30 rfl) rfl rfl ?_
     clear a E;intro a E
     refine st_no E (wf' E rfl rfl rfl rfl hb30 rfl) rfl rfl ?_
     clear a E;intro a E
     refine sv E rfl rfl rfl (x_pickF E rfl rfl hb30 rfl) ?_
     clear a E;intro a E
     refine wpList_nil ?_
     refine q_then ?_
     refine wp_cond_false (E.eval rfl) ?_
     refine wp_skip ?_
     refine q_then ?_
     exact ⟨_, ((((E.nil.keep E 6 rfl).keep E 5 rfl).keep E 1 rfl).keep E 0 rfl), H, fun r hr => hr, hr6, hm⟩
   ·clear E H hm
    rintro a w ⟨rs10, E, H, hs11, hr12, hm⟩
    unfold m_pack_Reader_Num_j2 at hm
    refine wp_seq ?_
    refine wp_seq ?_
    refine wp_region_lit ?_
    refine sv E rfl rfl rfl (x_move E rfl rfl) ?_
    clear a E;intro a E
    refine sv E rfl rfl rfl (x_nil E rfl rfl) ?_
    clear a E;intro a E
    refine sv E rfl rfl rfl (x_fa E rfl rfl (v := .pointer (some ⟨p1, 0, none⟩)) (fa137_0 _ _)) ?_
    clear a E;intro a E
    refine sv E rfl rfl rfl (x_ldB (i := 0) E H rfl rfl rfl rfl Try.underlying27 rfl) ?_
    clear a E;intro a E
    refine sv E rfl rfl rfl (x_lenS E H rfl rfl hr12 Try.underlying27) ?_
    clear a E;intro a E
    refine sv E rfl rfl rfl (x_move E rfl rfl) ?_
    clear a E;intro a E
    refine wpList_nil ?_
    refine q_then ?_
    refine wp_block ?_
    refine wp_loop_g (fun k1 a w => ∃ (x13 : Int) (x14 : Int) (rs15 : List Rp), Env 78 a [(0, .pointer (some ⟨p1, 0, none⟩)), (1, .int .i64 x5), (5, .int .i64 x13), (6, .int .i64 3), (32, v2), (33, .int .i64 (l3.length : Int)), (34, .int .i64 x14)] ∧ Sep w (Blk p1 137 [v2, .int .i64 x4] :: Fo) rs15 ∧ (∀ r, r ∈ rs → r ∈ rs15) ∧ rSl (kI .u8) v2 l3 ∈ rs15 ∧ m_pack_Reader_Num_l1 l3 x5 x4 k1 x13 x14 = some r) (9) ?_ ?_
    ·exact ⟨0, 0, _, (((((((E.nil.keep E 34 rfl).keep E 33 rfl).keep E 32 rfl).keep E 6 rfl).keep E 5 rfl).keep E 1 rfl).keep E 0 rfl), H, hs11, hr12, hm⟩
    ·clear E H hm
     rintro k1 a w ⟨x13, x14, rs15, E, H, hs16, hr17, hm⟩
     cases k1 with
     | zero => exact (none_some hm rfl).elim
     | succ k1 =>
      unfold m_pack_Reader_Num_l1 at hm
      refine wp_seq ?_
      refine wp_region_lit ?_
      refine sv E rfl rfl rfl (x_bin E rfl rfl rfl rfl) ?_
      clear a E;intro a E
      refine wpList_nil ?_
      refine q_then ?_
      refine wp_seq ?_
      refine wp_if E rfl ?_ ?_
      ·intro hb
       rw [if_t hb] at hm
       clear hb
       refine wp_skip ?_
       refine q_then ?_
       refine wp_seq ?_
       refine wp_block ?_
       refine wp_seq ?_
       refine wp_region_lit ?_
       refine sv E rfl rfl rfl (x_move E rfl rfl) ?_
       clear a E;intro a E
       obtain ⟨x18, hx19, hm⟩ := bnd hm
       refine st_ixS E H (wn rfl) rfl rfl rfl rfl rfl hr17 Try.underlying27 sz5 hx19 ?_
       clear E H; clear a; intro q20 a H E
       refine sv E rfl rfl rfl (x_ldA E H rfl rfl (.head _) Try.underlying5 rfl) ?_
       clear a E;intro a E
       refine sv E rfl rfl rfl (x_assign E rfl rfl) ?_
       clear a E;intro a E
       refine sv E rfl rfl rfl (x_assign E rfl rfl) ?_
       clear a E;intro a E
       refine wpList_nil ?_
       refine q_then ?_
       refine wp_seq ?_
       refine wp_seq ?_
       refine wp_region_lit ?_
       refine sv E rfl rfl rfl (x_move E rfl rfl) ?_
       clear a E;intro a E
       refine sv E rfl rfl rfl (x_bin E rfl rfl rfl rfl) ?_
       clear a E;intro a E
       refine wpList_nil ?_
       refine q_then ?_
       refine wp_if E rfl ?_ ?_
       ·intro hb
        rw [if_t hb] at hm
        clear hb
        refine wp_goto ?_
        refine q_thenG ?_
        refine q_blkG ?_
        refine q_thenG ?_
        refine q_thenG ?_
        refine q_blkG ?_
        refine q_thenG ?_
        refine q_jump ?_
        exact ⟨_, ((E.nil.keep E 6 rfl).keep E 0 rfl), H, fun r hr => .tail _ (hs16 r hr), (.tail _ hr17), hm⟩
       ·intro hb
        rw [if_f hb] at hm
        clear hb
        refine wp_skip ?_
        refine q_then ?_
        refine wp_seq ?_
        refine wp_region_lit ?_
        refine sv E rfl rfl rfl (x_move E rfl rfl) ?_
        clear a E;intro a E
        refine sv E rfl rfl rfl (x_shl E rfl rfl rfl (by decide)) ?_
        clear a E;intro a E
        refine sv E rfl rfl rfl (x_move E rfl rfl) ?_
        clear a E;intro a E
        refine sv E rfl rfl rfl (x_bin E rfl rfl rfl rfl) ?_
        clear a E;intro a E
        refine sv E rfl rfl rfl (x_conv E rfl rfl (v := .int .i64 (IntKind.i64.wrap (iand .u8 x18 127))) (by kernel_rfl)) ?_
        clear a E;intro a E
        refine sv E rfl rfl rfl (x_bin E rfl rfl rfl rfl) ?_
        clear a E;intro a E
        refine sv E rfl rfl rfl (x_assign E rfl rfl) ?_
        clear a E;intro a E
        refine wpList_nil ?_
        refine q_then ?_
        refine wp_seq ?_
        refine wp_seq ?_
        refine wp_region_lit ?_
        refine sv E rfl rfl rfl (x_move E rfl rfl) ?_
        clear a E;intro a E
        refine sv E rfl rfl rfl (x_bin E rfl rfl rfl rfl) ?_
        clear a E;intro a E
        refine wpList_nil ?_
        refine q_then ?_
        refine wp_if E rfl ?_ ?_
        ·intro hb
         rw [if_t hb] at hm
         clear hb
         refine wp_exit ?_
         refine q_thenX ?_
         refine q_hit ?_
         refine q_then ?_
         refine wp_region_lit ?_
         refine sv E rfl rfl rfl (x_bin E rfl rfl rfl rfl) ?_
         clear a E;intro a E
         refine sv E rfl rfl rfl (x_move E rfl rfl) ?_
         clear a E;intro a E
         refine wpList_nil ?_
         refine q_then ?_
         exact ⟨k1, Nat.lt_succ_self k1, ior .i64 (ishl .i64 x13 7) (IntKind.i64.wrap (iand .u8 x18 127)), IntKind.i64.wrap (x14 + 1), _, (((((((E.nil.keep E 34 rfl).keep E 33 rfl).keep E 32 rfl).keep E 6 rfl).keep E 5 rfl).keep E 1 rfl).keep E 0 rfl), H, fun r hr => .tail _ (hs16 r hr), (.tail _ hr17), hm⟩
        ·intro hb
         rw [if_f hb] at hm
         clear hb
         refine wp_skip ?_
         refine q_then ?_
         refine wp_seq ?_
         refine wp_seq ?_
         refine wp_region_lit ?_
         refine sv E rfl rfl rfl (x_move E rfl rfl) ?_
         clear a E;intro a E
         refine sv E rfl rfl rfl (x_move E rfl rfl) ?_
         clear a E;intro a E
         refine sv E rfl rfl rfl (x_min (t := 0) E rfl rfl rfl) ?_
         clear a E;intro a E
         refine sv E rfl rfl rfl (x_bin E rfl rfl rfl rfl) ?_
         clear a E;intro a E
         refine wpList_nil ?_
         refine q_then ?_
         refine wp_if E rfl ?_ ?_
         ·intro hb
          rw [if_t hb] at hm
          clear hb
          refine wp_goto ?_
          refine q_thenG ?_
          refine q_blkG ?_
          refine q_thenG ?_
          refine q_thenG ?_
          refine q_blkG ?_
          refine q_thenG ?_
          refine q_jump ?_
          exact ⟨_, ((E.nil.keep E 6 rfl).keep E 0 rfl), H, fun r hr => .tail _ (hs16 r hr), (.tail _ hr17), hm⟩
         ·intro hb
          rw [if_f hb] at hm
          clear hb
          refine wp_skip ?_
          refine q_then ?_
          refine wp_seq ?_
          refine wp_region_lit ?_
          refine sv E rfl rfl rfl (x_move E rfl rfl) ?_
          clear a E;intro a E
          refine sv E rfl rfl rfl (x_move E rfl rfl) ?_
          clear a E;intro a E
          refine sv E rfl rfl rfl (x_nil E rfl rfl) ?_
          clear a E;intro a E
          refine sv E rfl rfl rfl (x_fa E rfl rfl (v := .pointer (some ⟨p1, 0, none⟩)) (fa137_0 _ _)) ?_
          clear a E;intro a E
          refine sv E rfl rfl rfl (x_ldB (i := 0) E H rfl rfl rfl rfl Try.underlying27 rfl) ?_
          clear a E;intro a E
          refine sv E rfl rfl rfl (x_move E rfl rfl) ?_
          clear a E;intro a E
          refine sv E rfl rfl rfl (x_bin E rfl rfl rfl rfl) ?_
          clear a E;intro a E
          obtain ⟨u21, hx22, hm⟩ := bnd hm
          refine st_cut E H (wn rfl) rfl rfl rfl rfl rfl (.tail _ hr17) Try.underlying27 sz5 (ck_of hx22) ?_
          clear E H; clear a; intro v23 a H E
          refine sv E rfl rfl rfl (x_nil E rfl rfl) ?_
          clear a E;intro a E
          refine sv E rfl rfl rfl (x_fa E rfl rfl (v := .pointer (some ⟨p1, 0, none⟩)) (fa137_0 _ _)) ?_
          clear a E;intro a E
          obtain ⟨q24, x25, rfl⟩ := H.slform (.head _)
          refine st_st (i := 0) E H (wn rfl) rfl (us := [(.slice q24 (l3.drop (IntKind.i64.wrap (x14 + 1)).toNat).length x25)]) rfl rfl rfl rfl rfl sz27 rfl rfl ?_
          clear H; clear w; intro w H
          replace H : Sep w (Blk p1 137 [(.slice q24 (l3.drop (IntKind.i64.wrap (x14 + 1)).toNat).length x25), .int .i64 x4] :: Fo) _ := H
          refine wpList_nil ?_
          refine q_then ?_
          refine wp_seq ?_
          refine wp_region_lit ?_
          refine sv E rfl rfl rfl (x_move E rfl rfl) ?_
          clear a E;intro a E
          refine sv E rfl rfl rfl (x_assign E rfl rfl) ?_
          clear a E;intro a E
          refine wpList_nil ?_
          refine q_then ?_
          refine wp_ret ?_
          refine q_blkR ?_
          refine q_thenR ?_
          refine q_thenR ?_
          refine q_blkR ?_
          refine q_thenR ?_
          refine q_jumpR ?_
          refine out1 E rfl rfl ?_
          obtain rfl := Option.some.inj hm
          exact ⟨(.slice q24 (l3.drop (IntKind.i64.wrap (x14 + 1)).toNat).length x25), rfl, H.reads (sub_cons (.head _) (fun r hr => .tail _ (.tail _ (hs16 r hr))))⟩
      ·intro hb
       rw [if_f hb] at hm
       clear hb
       refine wp_exit ?_
       refine q_thenX ?_
       refine q_thenX ?_
       refine q_hit ?_
       refine q_then ?_
       refine wp_seq_cut (fun a w => ∃ (x26 : Int) (rs27 : List Rp), Env 78 a [(0, .pointer (some ⟨p1, 0, none⟩)), (6, .int .i64 x26)] ∧ Sep w (Blk p1 137 [v2, .int .i64 x4] :: Fo) rs27 ∧ (∀ r, r ∈ rs → r ∈ rs27) ∧ rSl (kI .u8) v2 l3 ∈ rs27 ∧ m_pack_Reader_Num_j3 x26 = some r) ?_ ?_
       ·refine wp_seq ?_
        refine wp_region_lit ?_
        refine sv E rfl rfl rfl (x_move E rfl rfl) ?_
        clear a E;intro a E
        refine sv E rfl rfl rfl (x_nil E rfl rfl) ?_
        clear a E;intro a E
        refine sv E rfl rfl rfl (x_fa E rfl rfl (v := .pointer (some ⟨p1, 0, none⟩)) (fa137_0 _ _)) ?_
        clear a E;intro a E
        refine sv E rfl rfl rfl (x_ldB (i := 0) E H rfl rfl rfl rfl Try.underlying27 rfl) ?_
        clear a E;intro a E
        refine sv E rfl rfl rfl (x_lenS E H rfl rfl hr17 Try.underlying27) ?_
        clear a E;intro a E
        refine sv E rfl rfl rfl (x_bin E rfl rfl rfl rfl) ?_
        clear a E;intro a E
        refine wpList_nil ?_
        refine q_then ?_
        refine wp_if E rfl ?_ ?_
        ·intro hb
         rw [if_t hb] at hm
         clear hb
         refine wp_region_lit ?_
         refine sv E rfl rfl rfl (x_assign E rfl rfl) ?_
         clear a E;intro a E
         refine wpList_nil ?_
         refine q_then ?_
         exact ⟨21, _, ((E.nil.keep E 6 rfl).keep E 0 rfl), H, hs16, hr17, hm⟩
        ·intro hb
         rw [if_f hb] at hm
         clear hb
         refine wp_skip ?_
         refine q_then ?_
         exact ⟨3, _, ((E.nil.keep E 6 rfl).keep E 0 rfl), H, hs16, hr17, hm⟩
       ·clear E H hm
        rintro a w ⟨x26, rs27, E, H, hs28, hr29, hm⟩
        unfold m_pack_Reader_Num_j3 at hm
        refine wp_seq ?_
        refine wp_label ?_
        refine q_then ?_
        refine wp_seq ?_
        refine wp_region_lit ?_
        refine sv E rfl rfl rfl (x_move E rfl rfl) ?_
        clear a E;intro a E
        refine sv E rfl rfl rfl (x_move E rfl rfl) ?_
        clear a E;intro a E
        refine sv E rfl rfl rfl (x_move E rfl rfl) ?_
        clear a E;intro a E
        refine sv E rfl rfl rfl (x_nil E rfl rfl) ?_
        clear a E;intro a E
        refine sv E rfl rfl rfl (x_fa E rfl rfl (v := .pointer (some ⟨p1, 1, none⟩)) (fa137_1 _ _)) ?_
        clear a E;intro a E
        refine st_st (i := 0) E H (wn rfl) rfl (us := [.int .i64 x26]) rfl rfl rfl rfl rfl sz30 rfl rfl ?_
        clear H; clear w; intro w H
        replace H : Sep w (Blk p1 137 [v2, .int .i64 x26] :: Fo) _ := H
        refine sv E rfl rfl rfl (x_nil E rfl rfl) ?_
        clear a E;intro a E
        refine sv E rfl rfl rfl (x_fa E rfl rfl (v := .pointer (some ⟨p1, 0, none⟩)) (fa137_0 _ _)) ?_
        clear a E;intro a E
        refine st_st (i := 0) E H (wn rfl) rfl (us := [.slice none 0 0]) rfl rfl rfl rfl rfl sz27 rfl rfl ?_
        clear H; clear w; intro w H
        replace H : Sep w (Blk p1 137 [.slice none 0 0, .int .i64 x26] :: Fo) _ := H
        refine wpList_nil ?_
        refine q_then ?_
        refine wp_seq ?_
        refine wp_region_lit ?_
        refine sv E rfl rfl rfl (x_assign E rfl rfl) ?_
        clear a E;intro a E
        refine wpList_nil ?_
        refine q_then ?_
        refine wp_ret ?_
        refine q_jumpR ?_
        refine out1 E rfl rfl ?_
        replace H := H.nilSl (kI .u8)
        obtain rfl := Option.some.inj hm
        exact ⟨(.slice none 0 0), rfl, H.reads (sub_cons (.head _) (fun r hr => .tail _ (hs28 r hr)))⟩
 ·clear E H hm
  rintro a w ⟨rs7, E, H, hs8, hr9, hm⟩
  unfold m_pack_Reader_Num_j1 at hm
  refine wp_seq ?_
  refine wp_skip ?_
  refine q_then ?_
  refine wp_seq ?_
  refine wp_region_lit ?_
  refine sv E rfl rfl rfl (x_move E rfl rfl) ?_
  clear a E;intro a E
  refine sv E rfl rfl rfl (x_move E rfl rfl) ?_
  clear a E;intro a E
  refine sv E rfl rfl rfl (x_move E rfl rfl) ?_
  clear a E;intro a E
  refine sv E rfl rfl rfl (x_nil E rfl rfl) ?_
  clear a E;intro a E
  refine sv E rfl rfl rfl (x_fa E rfl rfl (v := .pointer (some ⟨p1, 1, none⟩)) (fa137_1 _ _)) ?_
  clear a E;intro a E
  refine st_st (i := 0) E H (wn rfl) rfl (us := [.int .i64 3]) rfl rfl rfl rfl rfl sz30 rfl rfl ?_
  clear H; clear w; intro w H
  replace H : Sep w (Blk p1 137 [v2, .int .i64 3] :: Fo) _ := H
  refine sv E rfl rfl rfl (x_nil E rfl rfl) ?_
  clear a E;intro a E
  refine sv E rfl rfl rfl (x_fa E rfl rfl (v := .pointer (some ⟨p1, 0, none⟩)) (fa137_0 _ _)) ?_
  clear a E;intro a E
  refine st_st (i := 0) E H (wn rfl) rfl (us := [.slice none 0 0]) rfl rfl rfl rfl rfl sz27 rfl rfl ?_
  clear H; clear w; intro w H
  replace H : Sep w (Blk p1 137 [.slice none 0 0, .int .i64 3] :: Fo) _ := H
  refine wpList_nil ?_
  refine q_then ?_
  refine wp_seq ?_
  refine wp_region_lit ?_
  refine sv E rfl rfl rfl (x_assign E rfl rfl) ?_
  clear a E;intro a E
  refine wpList_nil ?_
  refine q_then ?_
  refine wp_ret ?_
  refine q_jumpR ?_
  refine out1 E rfl rfl ?_
  replace H := H.nilSl (kI .u8)
  obtain rfl := Option.some.inj hm
  exact ⟨(.slice none 0 0), rfl, H.reads (sub_cons (.head _) (fun r hr => .tail _ (hs8 r hr)))⟩
end Go.Cb

set_option linter.unusedVariables false
set_option linter.unusedSimpArgs false
namespace Go.Cb
open Go.Proofs Go.RowKit
def m_pack_Reader_Text_j1 (u6 : Int × (List Int) × Int) (l10 : (List Int)) (x11 : Int) : Option (ByteArray × (List Int) × Int) :=
  if (x11 != 0) = true then (some ((ByteArray.mk #[]), l10, x11)) else ((ck (0 ≤ u6.1 ∧ u6.1 ≤ l10.length)).bind fun u15 => (ck (0 ≤ u6.1 ∧ u6.1 ≤ l10.length)).bind fun u18 => some (strOf (l10.take u6.1.toNat), l10.drop u6.1.toNat, x11))
def m_pack_Reader_Text_j2 (u6 : Int × (List Int) × Int) (b23 : Bool) : Option (ByteArray × (List Int) × Int) :=
  if b23 = true then (m_pack_Reader_Text_j1 u6 ([] : List Int) 21) else (m_pack_Reader_Text_j1 u6 u6.2.1 u6.2.2)
def m_pack_Reader_Text (l3 : List Int) (x4 : Int) : Option (ByteArray × (List Int) × Int) :=
  (m_pack_Reader_Num l3 x4 281474976710656).bind fun u6 => if (u6.2.2 == 0) = true then (m_pack_Reader_Text_j2 u6 (decide (u6.1 > (u6.2.1.length : Int)))) else (m_pack_Reader_Text_j2 u6 false)
set_option maxRecDepth 20000 in
set_option maxHeartbeats 1000000 in
theorem c_pack_Reader_Text {w : World} {Fo : List Ob} {rs : List Rp} (p1 : Nat) (v2 : Value) (l3 : List Int) (x4 : Int) (H : Sep w (Blk p1 137 [v2, .int .i64 x4] :: Fo) rs) (hr5 : rSl (kI .u8) v2 l3 ∈ rs) {r : ByteArray × (List Int) × Int} (hm : m_pack_Reader_Text l3 x4 = some r) :
    Calls Try.prog 41 [.pointer (some ⟨p1, 0, none⟩)].toArray w (Ret fun v w' => ∃ (v5002 : Value), .string r.1 = v ∧ Sep w' (Blk p1 137 [v5002, .int .i64 r.2.2] :: Fo) (rSl (kI .u8) v5002 r.2.1 :: rs)) := by
 unfold m_pack_Reader_Text at hm
 refine enter Try.func41 rfl Try.ntmps41 rfl fun a E => ?_
 simp only [enum, Nat.reduceAdd] at E
 refine wp_seq ?_
 refine wp_region_lit ?_
 refine sv E rfl rfl rfl (x_assign E rfl rfl) ?_
 clear a E;intro a E
 refine wpList_nil ?_
 refine q_then ?_
 refine wp_seq ?_
 refine wp_region_lit ?_
 refine sv E rfl rfl rfl (x_move E rfl rfl) ?_
 clear a E;intro a E
 obtain ⟨u6, hx7, hm⟩ := bnd hm
 refine st_call E (wn rfl) rfl rfl (x_call E rfl rfl (cf64 _)) (c_pack_Reader_Num p1 v2 l3 x4 281474976710656 H hr5 hx7) ?_
 clear E H; clear a; clear w; rintro _ w ⟨v8, rfl, H⟩ a E
 refine sv E rfl rfl rfl (x_assign E rfl rfl) ?_
 clear a E;intro a E
 refine wpList_nil ?_
 refine q_then ?_
 refine wp_seq_cut (fun a w => ∃ (v9 : Value) (l10 : (List Int)) (x11 : Int) (rs12 : List Rp), Env 49 a [(0, .pointer (some ⟨p1, 0, none⟩)), (3, .int .i64 u6.1)] ∧ Sep w (Blk p1 137 [v9, .int .i64 x11] :: Fo) rs12 ∧ (∀ r, r ∈ rs → r ∈ rs12) ∧ rSl (kI .u8) v9 l10 ∈ rs12 ∧ m_pack_Reader_Text_j1 u6 l10 x11 = some r) ?_ ?_
 ·refine wp_seq_cut (fun a w => ∃ (b23 : Bool) (rs24 : List Rp), Env 49 a [(0, .pointer (some ⟨p1, 0, none⟩)), (3, .int .i64 u6.1), (20, .bool b23)] ∧ Sep w (Blk p1 137 [v8, .int .i64 u6.2.2] :: Fo) rs24 ∧ (∀ r, r ∈ rs → r ∈ rs24) ∧ rSl (kI .u8) v8 u6.2.1 ∈ rs24 ∧ m_pack_Reader_Text_j2 u6 b23 = some r) ?_ ?_
  ·refine wp_region_lit ?_
   refine sv E rfl rfl rfl (x_move E rfl rfl) ?_
   clear a E;intro a E
   refine sv E rfl rfl rfl (x_nil E rfl rfl) ?_
   clear a E;intro a E
   refine sv E rfl rfl rfl (x_fa E rfl rfl (v := .pointer (some ⟨p1, 1, none⟩)) (fa137_1 _ _)) ?_
   clear a E;intro a E
   refine sv E rfl rfl rfl (x_ldB (i := 0) E H rfl rfl rfl rfl Try.underlying30 rfl) ?_
   clear a E;intro a E
   refine sv E rfl rfl rfl (x_bin E rfl rfl rfl rfl) ?_
   clear a E;intro a E
   refine sv E rfl rfl rfl (x_move E rfl rfl) ?_
   clear a E;intro a E
   rcases Bool.eq_false_or_eq_true (u6.2.2 == 0) with hb27 | hb27
   ·rw [if_t hb27] at hm
    refine st_val E (ws' E rfl rfl rfl rfl hb27) rfl rfl (x_move E rfl rfl) ?_
    clear a E;intro a E
    refine st_val E (ws' E rfl rfl rfl rfl hb27) rfl rfl (x_move E rfl rfl) ?_
    clear a E;intro a E
    refine st_val E (ws' E rfl rfl rfl rfl hb27) rfl rfl (x_nil E rfl rfl) ?_
    clear a E;intro a E
    refine st_val E (ws' E rfl rfl rfl rfl hb27) rfl rfl (x_fa E rfl rfl (v := .pointer (some ⟨p1, 0, none⟩)) (fa137_0 _ _)) ?_
    clear a E;intro a E
    refine st_val E (ws' E rfl rfl rfl rfl hb27) rfl rfl (x_ldB (i := 0) E H rfl rfl rfl rfl Try.underlying27 rfl) ?_
    clear a E;intro a E
    refine st_val E (ws' E rfl rfl rfl rfl hb27) rfl rfl (x_lenS E H rfl rfl (.head _) Try.underlying27) ?_
    clear a E;intro a E
    refine st_val E (ws' E rfl rfl rfl rfl hb27) rfl rfl (x_bin E rfl rfl rfl rfl) ?_
    clear a E;intro a E
    refine sv E rfl rfl rfl (x_pickT E rfl rfl hb27 rfl) ?_
    clear a E;intro a E
    refine wpList_nil ?_
    refine q_then ?_
    exact ⟨decide (u6.1 > (u6.2.1.length : Int)), _, (((E.nil.keep E 20 rfl).keep E 3 rfl).keep E 0 rfl), H, fun r hr => .tail _ (hr), (.head _), hm⟩
   ·rw [if_f hb27] at hm
    refine st_no E (wf' E rfl rfl rfl rfl hb27 rfl) rfl rfl ?_
    clear a E;intro a E
    refine st_no E (wf' E rfl rfl rfl rfl hb27 rfl) rfl rfl ?_
    clear a E;intro a E
    refine st_no E (wf' E rfl rfl rfl rfl hb27 rfl) rfl rfl ?_
    clear a E;intro a E
    refine st_no E (wf' E rfl rfl rfl rfl hb27 rfl) rfl rfl ?_
    clear a E;intro a E
    refine st_no E (wf' E rfl rfl rfl rfl hb27 rfl) rfl rfl ?_
    clear a E;intro a E
    refine st_no E (wf' E rfl rfl rfl rfl hb27 rfl) rfl rfl ?_
    clear a E;intro a E
    refine st_no E (wf' E rfl rfl rfl rfl hb27 rfl) rfl rfl ?_
    clear a E;intro a E
    refine sv E rfl rfl rfl (x_pickF E rfl rfl hb27 rfl) ?_
    clear a E;intro a E
    refine wpList_nil ?_
    refine q_then ?_
    exact ⟨false, _, (((E.nil.keep E 20 rfl).keep E 3 rfl).keep E 0 rfl), H, fun r hr => .tail _ (hr), (.head _), hm⟩
  ·clear E H hm
   rintro a w ⟨b23, rs24, E, H, hs25, hr26, hm⟩
   unfold m_pack_Reader_Text_j2 at hm
   refine wp_if E rfl ?_ ?_
   ·intro hb
    rw [if_t hb] at hm
    clear hb
    refine wp_region_lit ?_
    refine sv E rfl rfl rfl (x_move E rfl rfl) ?_
    clear a E;intro a E
    refine sv E rfl rfl rfl (x_move E rfl rfl) ?_
    clear a E;intro a E
    refine sv E rfl rfl rfl (x_nil E rfl rfl) ?_
    clear a E;intro a E
    refine sv E rfl rfl rfl (x_fa E rfl rfl (v := .pointer (some ⟨p1, 1, none⟩)) (fa137_1 _ _)) ?_
    clear a E;intro a E
    refine st_st (i := 0) E H (wn rfl) rfl (us := [.int .i64 21]) rfl rfl rfl rfl rfl sz30 rfl rfl ?_
    clear H; clear w; intro w H
    replace H : Sep w (Blk p1 137 [v8, .int .i64 21] :: Fo) _ := H
    refine sv E rfl rfl rfl (x_nil E rfl rfl) ?_
    clear a E;intro a E
    refine sv E rfl rfl rfl (x_fa E rfl rfl (v := .pointer (some ⟨p1, 0, none⟩)) (fa137_0 _ _)) ?_
    clear a E;intro a E
    refine st_st (i := 0) E H (wn rfl) rfl (us := [.slice none 0 0]) rfl rfl rfl rfl rfl sz27 rfl rfl ?_
    clear H; clear w; intro w H
    replace H : Sep w (Blk p1 137 [.slice none 0 0, .int .i64 21] :: Fo) _ := H
    refine wpList_nil ?_
    refine q_then ?_
    replace H := H.nilSl (kI .u8)
    exact ⟨(.slice none 0 0), ([] : List Int), 21, _, ((E.nil.keep E 3 rfl).keep E 0 rfl), H, fun r hr => .tail _ (hs25 r hr), (.head _), hm⟩
   ·intro hb
    rw [if_f hb] at hm
    clear hb
    refine wp_skip ?_
    refine q_then ?_
    exact ⟨v8, u6.2.1, u6.2.2, _, ((E.nil.keep E 3 rfl).keep E 0 rfl), H, hs25, hr26, hm⟩
 ·clear E H hm
  rintro a w ⟨v9, l10, x11, rs12, E, H, hs13, hr14, hm⟩
  unfold m_pack_Reader_Text_j1 at hm
  refine wp_seq ?_
  refine wp_seq ?_
  refine wp_region_lit ?_
  refine sv E rfl rfl rfl (x_move E rfl rfl) ?_
  clear a E;intro a E
  refine sv E rfl rfl rfl (x_nil E rfl rfl) ?_
  clear a E;intro a E
  refine sv E rfl rfl rfl (x_fa E rfl rfl (v := .pointer (some ⟨p1, 1, none⟩)) (fa137_1 _ _)) ?_
  clear a E;intro a E
  refine sv E rfl rfl rfl (x_ldB (i := 0) E H rfl rfl rfl rfl Try.underlying30 rfl) ?_
  clear a E;intro a E
  refine sv E rfl rfl rfl (x_bin E rfl rfl rfl rfl) ?_
  clear a E;intro a E
  refine wpList_nil ?_
  refine q_then ?_
  refine wp_if E rfl ?_ ?_
  ·intro hb
   rw [if_t hb] at hm
   clear hb
   refine wp_seq ?_
   refine wp_region_lit ?_
   refine sv E rfl rfl rfl (x_assign E rfl rfl) ?_
   clear a E;intro a E
   refine wpList_nil ?_
   refine q_then ?_
   refine wp_ret ?_
   refine q_thenR ?_
   refine out1 E rfl rfl ?_
   obtain rfl := Option.some.inj hm
   exact ⟨v9, rfl, H.reads (sub_cons hr14 (fun r hr => hs13 r hr))⟩
  ·intro hb
   rw [if_f hb] at hm
   clear hb
   refine wp_skip ?_
   refine q_then ?_
   refine wp_seq ?_
   refine wp_region_lit ?_
   refine sv E rfl rfl rfl (x_move E rfl rfl) ?_
   clear a E;intro a E
   refine sv E rfl rfl rfl (x_nil E rfl rfl) ?_
   clear a E;intro a E
   refine sv E rfl rfl rfl (x_fa E rfl rfl (v := .pointer (some ⟨p1, 0, none⟩)) (fa137_0 _ _)) ?_
   clear a E;intro a E
   refine sv E rfl rfl rfl (x_ldB (i := 0) E H rfl rfl rfl rfl Try.underlying27 rfl) ?_
   clear a E;intro a E
   refine sv E rfl rfl rfl (x_move E rfl rfl) ?_
   clear a E;intro a E
   obtain ⟨u15, hx16, hm⟩ := bnd hm
   refine st_take E H (wn rfl) rfl rfl rfl rfl rfl hr14 Try.underlying27 sz5 (ck_of hx16) ?_
   clear E H; clear a; intro v17 a H E
   refine sv E rfl rfl rfl (x_b2s E H rfl rfl (.head _) Try.underlying27 Try.underlying5 Try.underlying9) ?_
   clear a E;intro a E
   refine sv E rfl rfl rfl (x_assign E rfl rfl) ?_
   clear a E;intro a E
   refine wpList_nil ?_
   refine q_then ?_
   refine wp_seq ?_
   refine wp_region_lit ?_
   refine sv E rfl rfl rfl (x_move E rfl rfl) ?_
   clear a E;intro a E
   refine sv E rfl rfl rfl (x_move E rfl rfl) ?_
   clear a E;intro a E
   refine sv E rfl rfl rfl (x_nil E rfl rfl) ?_
   clear a E;intro a E
   refine sv E rfl rfl rfl (x_fa E rfl rfl (v := .pointer (some ⟨p1, 0, none⟩)) (fa137_0 _ _)) ?_
   clear a E;intro a E
   refine sv E rfl rfl rfl (x_ldB (i := 0) E H rfl rfl rfl rfl Try.underlying27 rfl) ?_
   clear a E;intro a E
   refine sv E rfl rfl rfl (x_move E rfl rfl) ?_
   clear a E;intro a E
   obtain ⟨u18, hx19, hm⟩ := bnd hm
   refine st_cut E H (wn rfl) rfl rfl rfl rfl rfl (.tail _ hr14) Try.underlying27 sz5 (ck_of hx19) ?_
   clear E H; clear a; intro v20 a H E
   refine sv E rfl rfl rfl (x_nil E rfl rfl) ?_
   clear a E;intro a E
   refine sv E rfl rfl rfl (x_fa E rfl rfl (v := .pointer (some ⟨p1, 0, none⟩)) (fa137_0 _ _)) ?_
   clear a E;intro a E
   obtain ⟨q21, x22, rfl⟩ := H.slform (.head _)
   refine st_st (i := 0) E H (wn rfl) rfl (us := [(.slice q21 (l10.drop u6.1.toNat).length x22)]) rfl rfl rfl rfl rfl sz27 rfl rfl ?_
   clear H; clear w; intro w H
   replace H : Sep w (Blk p1 137 [(.slice q21 (l10.drop u6.1.toNat).length x22), .int .i64 x11] :: Fo) _ := H
   refine wpList_nil ?_
   refine q_then ?_
   refine wp_seq ?_
   refine wp_region_lit ?_
   refine sv E rfl rfl rfl (x_move E rfl rfl) ?_
   clear a E;intro a E
   refine sv E rfl rfl rfl (x_assign E rfl rfl) ?_
   clear a E;intro a E
   refine wpList_nil ?_
   refine q_then ?_
   refine wp_ret ?_
   refine out1 E rfl rfl ?_
   obtain rfl := Option.some.inj hm
   exact ⟨(.slice q21 (l10.drop u6.1.toNat).length x22), rfl, H.reads (sub_cons (.head _) (fun r hr => .tail _ (.tail _ (hs13 r hr))))⟩
end Go.Cb

set_option linter.unusedVariables false
set_option linter.unusedSimpArgs false
namespace Go.Cb
open Go.Proofs Go.RowKit
def m_pack_Reader_Texts_j1 (l7 : (List ByteArray)) (l9 : (List Int)) (x10 : Int) : Option ((List ByteArray) × (List Int) × Int) :=
  if (x10 != 0) = true then (some ([], l9, x10)) else (some (l7, l9, x10))
def m_pack_Reader_Texts_l1 : Nat → (List ByteArray) → Int → (List Int) → Int → Option ((List ByteArray) × (List Int) × Int)
  | 0, _, _, _, _ => none
  | k1 + 1, l18, x19, l21, x22 =>
    if (decide (x19 > 0)) = true then (if (x22 == 0) = true then ((m_pack_Reader_Text l21 x22).bind fun u27 => (ck (l18.length + ([u27.1] : List ByteArray).length ≤ LIM)).bind fun u32 => m_pack_Reader_Texts_l1 k1 (l18 ++ ([u27.1] : List ByteArray)) (IntKind.i64.wrap (x19 - 1)) u27.2.1 u27.2.2) else (m_pack_Reader_Texts_j1 l18 l21 x22)) else (m_pack_Reader_Texts_j1 l18 l21 x22)
def m_pack_Reader_Texts (l3 : List Int) (x4 : Int) : Option ((List ByteArray) × (List Int) × Int) :=
  (m_pack_Reader_Num l3 x4 281474976710656).bind fun u14 => m_pack_Reader_Texts_l1 (u14.1.toNat + 2) [] u14.1 u14.2.1 u14.2.2
set_option maxRecDepth 20000 in
set_option maxHeartbeats 1000000 in
theorem c_pack_Reader_Texts {w : World} {Fo : List Ob} {rs : List Rp} (p1 : Nat) (v2 : Value) (l3 : List Int) (x4 : Int) (H : Sep w (Blk p1 137 [v2, .int .i64 x4] :: Fo) rs) (hr5 : rSl (kI .u8) v2 l3 ∈ rs) {r : (List ByteArray) × (List Int) × Int} (hm : m_pack_Reader_Texts l3 x4 = some r) :
    Calls Try.prog 40 [.pointer (some ⟨p1, 0, none⟩)].toArray w (Ret fun v w' => ∃ (v5001 : Value) (v5003 : Value), v5001 = v ∧ Sep w' (Row 9 kS v5001 r.1 :: Blk p1 137 [v5003, .int .i64 r.2.2] :: Fo) (rSl (kI .u8) v5003 r.2.1 :: rs)) := by
 unfold m_pack_Reader_Texts at hm
 refine enter Try.func40 rfl Try.ntmps40 rfl fun a E => ?_
 simp only [enum, Nat.reduceAdd] at E
 refine wp_seq ?_
 refine wp_region_lit ?_
 refine sv E rfl rfl rfl (x_assign E rfl rfl) ?_
 clear a E;intro a E
 refine wpList_nil ?_
 refine q_then ?_
 refine wp_seq ?_
 refine wp_region_lit ?_
 refine sv E rfl rfl rfl (x_assign E rfl rfl) ?_
 clear a E;intro a E
 refine wpList_nil ?_
 refine q_then ?_
 refine wp_seq_cut (fun a w => ∃ (v6 : Value) (v8 : Value) (l7 : (List ByteArray)) (l9 : (List Int)) (x10 : Int) (rs11 : List Rp), Env 29 a [(0, .pointer (some ⟨p1, 0, none⟩)), (3, v6)] ∧ Sep w (Blk p1 137 [v8, .int .i64 x10] :: Row 9 kS v6 l7 :: Fo) rs11 ∧ (∀ r, r ∈ rs → r ∈ rs11) ∧ rSl (kI .u8) v8 l9 ∈ rs11 ∧ m_pack_Reader_Texts_j1 l7 l9 x10 = some r) ?_ ?_
 ·refine wp_seq ?_
  refine wp_region_lit ?_
  refine sv E rfl rfl rfl (x_move E rfl rfl) ?_
  clear a E;intro a E
  obtain ⟨u14, hx15, hm⟩ := bnd hm
  refine st_call E (wn rfl) rfl rfl (x_call E rfl rfl (cf64 _)) (c_pack_Reader_Num p1 v2 l3 x4 281474976710656 H hr5 hx15) ?_
  clear E H; clear a; clear w; rintro _ w ⟨v16, rfl, H⟩ a E
  refine sv E rfl rfl rfl (x_assign E rfl rfl) ?_
  clear a E;intro a E
  refine wpList_nil ?_
  refine q_then ?_
  refine wp_block ?_
  refine wp_loop_g (fun k1 a w => ∃ (v17 : Value) (v20 : Value) (l18 : (List ByteArray)) (x19 : Int) (l21 : (List Int)) (x22 : Int) (rs23 : List Rp), Env 29 a [(0, .pointer (some ⟨p1, 0, none⟩)), (3, v17), (4, .int .i64 x19)] ∧ Sep w (Blk p1 137 [v20, .int .i64 x22] :: Row 9 kS v17 l18 :: Fo) rs23 ∧ (∀ r, r ∈ rs → r ∈ rs23) ∧ rSl (kI .u8) v20 l21 ∈ rs23 ∧ m_pack_Reader_Texts_l1 k1 l18 x19 l21 x22 = some r) (u14.1.toNat + 2) ?_ ?_
  ·replace H := H.nilRow 9 kS
   replace H := H.front 0 rfl
   replace H := H.front 1 rfl
   exact ⟨(.slice none 0 0), v16, [], u14.1, u14.2.1, u14.2.2, _, (((E.nil.keep E 4 rfl).keep E 3 rfl).keep E 0 rfl), H, fun r hr => .tail _ (hr), (.head _), hm⟩
  ·clear E H hm
   rintro k1 a w ⟨v17, v20, l18, x19, l21, x22, rs23, E, H, hs24, hr25, hm⟩
   cases k1 with
   | zero => exact (none_some hm rfl).elim
   | succ k1 =>
    unfold m_pack_Reader_Texts_l1 at hm
    refine wp_seq ?_
    refine wp_seq ?_
    refine wp_region_lit ?_
    refine sv E rfl rfl rfl (x_move E rfl rfl) ?_
    clear a E;intro a E
    refine sv E rfl rfl rfl (x_bin E rfl rfl rfl rfl) ?_
    clear a E;intro a E
    refine sv E rfl rfl rfl (x_move E rfl rfl) ?_
    clear a E;intro a E
    rcases Bool.eq_false_or_eq_true (decide (x19 > 0)) with hb26 | hb26
    ·rw [if_t hb26] at hm
     refine st_val E (ws' E rfl rfl rfl rfl hb26) rfl rfl (x_move E rfl rfl) ?_
     clear a E;intro a E
     refine st_val E (ws' E rfl rfl rfl rfl hb26) rfl rfl (x_nil E rfl rfl) ?_
     clear a E;intro a E
     refine st_val E (ws' E rfl rfl rfl rfl hb26) rfl rfl (x_fa E rfl rfl (v := .pointer (some ⟨p1, 1, none⟩)) (fa137_1 _ _)) ?_
     clear a E;intro a E
     refine st_val E (ws' E rfl rfl rfl rfl hb26) rfl rfl (x_ldB (i := 0) E H rfl rfl rfl rfl Try.underlying30 rfl) ?_
     clear a E;intro a E
     refine st_val E (ws' E rfl rfl rfl rfl hb26) rfl rfl (x_bin E rfl rfl rfl rfl) ?_
     clear a E;intro a E
     refine sv E rfl rfl rfl (x_pickT E rfl rfl hb26 rfl) ?_
     clear a E;intro a E
     refine wpList_nil ?_
     refine q_then ?_
     refine wp_if E rfl ?_ ?_
     ·intro hb
      rw [if_t hb] at hm
      clear hb
      refine wp_skip ?_
      refine q_then ?_
      refine wp_seq ?_
      refine wp_block ?_
      refine wp_region_lit ?_
      refine sv E rfl rfl rfl (x_move E rfl rfl) ?_
      clear a E;intro a E
      refine sv E rfl rfl rfl (x_move E rfl rfl) ?_
      clear a E;intro a E
      obtain ⟨u27, hx28, hm⟩ := bnd hm
      refine st_call E (wn rfl) rfl rfl (x_call E rfl rfl (cf41 _)) (c_pack_Reader_Text p1 v20 l21 x22 H hr25 hx28) ?_
      clear E H; clear a; clear w; rintro _ w ⟨v29, rfl, H⟩ a E
      refine st_bsR (e := 9) (d := kS) (cs := [.string u27.1]) (xs := [u27.1]) E H (wn rfl) rfl rfl (ps := [(0, .tmp 20)]) (parts := [(0, .string u27.1)]) rfl (by simp only [List.map]; rw [E.eval (x := .tmp 20) (v := .string u27.1) rfl]) (by kernel_rfl) rfl (fun ok hr => (Rows.single (d := kS) (cs := [.string u27.1]) (x := u27.1) rfl)) ?_
      clear E H; clear a; clear w; intro v30 w a H E
      obtain ⟨u32, hx33, hm⟩ := bnd hm
      refine st_append (i := 1) E H (wn rfl) rfl rfl rfl rfl rfl rfl (src_rd (.head _)) Try.underlying22 inf9 rfl (ck_of hx33) rfl ?_
      clear E H; clear a; clear w; intro v31 w a H E
      refine sv E rfl rfl rfl (x_assign E rfl rfl) ?_
      clear a E;intro a E
      refine wpList_nil ?_
      refine q_blk ?_
      refine q_then ?_
      refine wp_region_lit ?_
      refine sv E rfl rfl rfl (x_move E rfl rfl) ?_
      clear a E;intro a E
      refine sv E rfl rfl rfl (x_bin E rfl rfl rfl rfl) ?_
      clear a E;intro a E
      refine sv E rfl rfl rfl (x_assign E rfl rfl) ?_
      clear a E;intro a E
      refine wpList_nil ?_
      refine q_then ?_
      exact ⟨k1, Nat.lt_succ_self k1, v31, v29, l18 ++ ([u27.1] : List ByteArray), IntKind.i64.wrap (x19 - 1), u27.2.1, u27.2.2, _, (((E.nil.keep E 4 rfl).keep E 3 rfl).keep E 0 rfl), H, fun r hr => .tail _ (.tail _ (hs24 r hr)), (.tail _ (.head _)), hm⟩
     ·intro hb
      rw [if_f hb] at hm
      clear hb
      refine wp_exit ?_
      refine q_thenX ?_
      refine q_thenX ?_
      refine q_hit ?_
      refine q_then ?_
      exact ⟨v17, v20, l18, l21, x22, _, ((E.nil.keep E 3 rfl).keep E 0 rfl), H, hs24, hr25, hm⟩
    ·rw [if_f hb26] at hm
     refine st_no E (wf' E rfl rfl rfl rfl hb26 rfl) rfl rfl ?_
     clear a E;intro a E
     refine st_no E (wf' E rfl rfl rfl rfl hb26 rfl) rfl rfl ?_
     clear a E;intro a E
     refine st_no E (wf' E rfl rfl rfl rfl hb26 rfl) rfl rfl ?_
     clear a E;intro a E
     refine st_no E (wf' E rfl rfl rfl rfl hb26 rfl) rfl rfl ?_
     clear a E;intro a E
     refine st_no E (wf' E rfl rfl rfl rfl hb26 rfl) rfl rfl ?_
     clear a E;intro a E
     refine sv E rfl rfl rfl (x_pickF E rfl rfl hb26 rfl) ?_
     clear a E;intro a E
     refine wpList_nil ?_
     refine q_then ?_
     refine wp_cond_false (E.eval rfl) ?_
     refine wp_exit ?_
     refine q_thenX ?_
     refine q_thenX ?_
     refine q_hit ?_
     refine q_then ?_
     exact ⟨v17, v20, l18, l21, x22, _, ((E.nil.keep E 3 rfl).keep E 0 rfl), H, hs24, hr25, hm⟩
 ·clear E H hm
  rintro a w ⟨v6, v8, l7, l9, x10, rs11, E, H, hs12, hr13, hm⟩
  unfold m_pack_Reader_Texts_j1 at hm
  refine wp_seq ?_
  refine wp_seq ?_
  refine wp_region_lit ?_
  refine sv E rfl rfl rfl (x_move E rfl rfl) ?_
  clear a E;intro a E
  refine sv E rfl rfl rfl (x_nil E rfl rfl) ?_
  clear a E;intro a E
  refine sv E rfl rfl rfl (x_fa E rfl rfl (v := .pointer (some ⟨p1, 1, none⟩)) (fa137_1 _ _)) ?_
  clear a E;intro a E
  refine sv E rfl rfl rfl (x_ldB (i := 0) E H rfl rfl rfl rfl Try.underlying30 rfl) ?_
  clear a E;intro a E
  refine sv E rfl rfl rfl (x_bin E rfl rfl rfl rfl) ?_
  clear a E;intro a E
  refine wpList_nil ?_
  refine q_then ?_
  refine wp_if E rfl ?_ ?_
  ·intro hb
   rw [if_t hb] at hm
   clear hb
   refine wp_seq ?_
   refine wp_region_lit ?_
   refine sv E rfl rfl rfl (x_assign E rfl rfl) ?_
   clear a E;intro a E
   refine wpList_nil ?_
   refine q_then ?_
   refine wp_ret ?_
   refine q_thenR ?_
   refine out1 E rfl rfl ?_
   replace H := H.nilRow 9 kS
   replace H := H.drop 2
   obtain rfl := Option.some.inj hm
   exact ⟨(.slice none 0 0), v8, rfl, H.reads (sub_cons hr13 (fun r hr => hs12 r hr))⟩
  ·intro hb
   rw [if_f hb] at hm
   clear hb
   refine wp_skip ?_
   refine q_then ?_
   refine wp_seq ?_
   refine wp_region_lit ?_
   refine sv E rfl rfl rfl (x_move E rfl rfl) ?_
   clear a E;intro a E
   refine sv E rfl rfl rfl (x_assign E rfl rfl) ?_
   clear a E;intro a E
   refine wpList_nil ?_
   refine q_then ?_
   refine wp_ret ?_
   refine out1 E rfl rfl ?_
   replace H := H.front 0 rfl
   replace H := H.front 1 rfl
   obtain rfl := Option.some.inj hm
   exact ⟨v6, v8, rfl, H.reads (sub_cons hr13 (fun r hr => hs12 r hr))⟩
end Go.Cb

set_option linter.unusedVariables false
set_option linter.unusedSimpArgs false
namespace Go.Cb
open Go.Proofs Go.RowKit
def m_letter_reader_num (l3 : List Int) (x4 : Int) : Option (Int × (List Int) × Int) :=
  (m_pack_Reader_Num l3 x4 281474976710656).bind fun u7 => some (u7.1, u7.2.1, u7.2.2)
set_option maxRecDepth 20000 in
set_option maxHeartbeats 1000000 in
theorem c_letter_reader_num {w : World} {Fo : List Ob} {rs : List Rp} (p1 : Nat) (v2 : Value) (l3 : List Int) (x4 : Int) (H : Sep w (Blk p1 137 [v2, .int .i64 x4] :: Fo) rs) (hr5 : rSl (kI .u8) v2 l3 ∈ rs) {r : Int × (List Int) × Int} (hm : m_letter_reader_num l3 x4 = some r) :
    Calls Try.prog 39 [.agg #[.pointer (some ⟨p1, 0, none⟩)]].toArray w (Ret fun v w' => ∃ (v5002 : Value), .int .i64 r.1 = v ∧ Sep w' (Blk p1 137 [v5002, .int .i64 r.2.2] :: Fo) (rSl (kI .u8) v5002 r.2.1 :: rs)) := by
 unfold m_letter_reader_num at hm
 refine enter Try.func39 rfl Try.ntmps39 rfl fun a E => ?_
 simp only [enum, Nat.reduceAdd] at E
 refine wp_seq ?_
 refine wp_region_lit ?_
 refine st_box E H (wn rfl) rfl rfl (cs := [.pointer (some ⟨p1, 0, none⟩)]) rfl rfl rfl ?_
 clear E H; clear a; clear w; intro p6 w a H E
 refine sv E rfl rfl rfl (x_assign E rfl rfl) ?_
 clear a E;intro a E
 refine wpList_nil ?_
 refine q_then ?_
 refine wp_seq ?_
 refine wp_region_lit ?_
 refine sv E rfl rfl rfl (x_fa E rfl rfl (v := .pointer (some ⟨p6, 0, none⟩)) (fa88_0 _ _)) ?_
 clear a E;intro a E
 refine sv E rfl rfl rfl (x_ldB (i := 0) E H rfl rfl rfl rfl Try.underlying85 rfl) ?_
 clear a E;intro a E
 replace H := H.front 0 rfl
 replace H := H.front 1 rfl
 replace H : Sep w (Blk p1 137 [v2, .int .i64 x4] :: Blk p6 88 [.pointer (some ⟨p1, 0, none⟩)] :: Fo) (rs) := H
 obtain ⟨u7, hx8, hm⟩ := bnd hm
 refine st_call E (wn rfl) rfl rfl (x_call E rfl rfl (cf64 _)) (c_pack_Reader_Num p1 v2 l3 x4 281474976710656 H hr5 hx8) ?_
 clear E H; clear a; clear w; rintro _ w ⟨v9, rfl, H⟩ a E
 refine sv E rfl rfl rfl (x_assign E rfl rfl) ?_
 clear a E;intro a E
 refine wpList_nil ?_
 refine q_then ?_
 refine wp_ret ?_
 refine out1 E rfl rfl ?_
 replace H := H.drop 1
 obtain rfl := Option.some.inj hm
 exact ⟨v9, rfl, H.reads (sub_cons (.head _) (fun r hr => .tail _ (hr)))⟩
end Go.Cb

set_option linter.unusedVariables false
set_option linter.unusedSimpArgs false
namespace Go.Cb
open Go.Proofs Go.RowKit
def m_letter_reader_small (l3 : List Int) (x4 : Int) : Option (Int × (List Int) × Int) :=
  (m_letter_reader_num l3 x4).bind fun u7 => some (u7.1, u7.2.1, u7.2.2)
set_option maxRecDepth 20000 in
set_option maxHeartbeats 1000000 in
theorem c_letter_reader_small {w : World} {Fo : List Ob} {rs : List Rp} (p1 : Nat) (v2 : Value) (l3 : List Int) (x4 : Int) (H : Sep w (Blk p1 137 [v2, .int .i64 x4] :: Fo) rs) (hr5 : rSl (kI .u8) v2 l3 ∈ rs) {r : Int × (List Int) × Int} (hm : m_letter_reader_small l3 x4 = some r) :
    Calls Try.prog 38 [.agg #[.pointer (some ⟨p1, 0, none⟩)]].toArray w (Ret fun v w' => ∃ (v5002 : Value), .int .i64 r.1 = v ∧ Sep w' (Blk p1 137 [v5002, .int .i64 r.2.2] :: Fo) (rSl (kI .u8) v5002 r.2.1 :: rs)) := by
 unfold m_letter_reader_small at hm
 refine enter Try.func38 rfl Try.ntmps38 rfl fun a E => ?_
 simp only [enum, Nat.reduceAdd] at E
 refine wp_seq ?_
 refine wp_region_lit ?_
 refine st_box E H (wn rfl) rfl rfl (cs := [.pointer (some ⟨p1, 0, none⟩)]) rfl rfl rfl ?_
 clear E H; clear a; clear w; intro p6 w a H E
 refine sv E rfl rfl rfl (x_assign E rfl rfl) ?_
 clear a E;intro a E
 refine wpList_nil ?_
 refine q_then ?_
 refine wp_seq ?_
 refine wp_region_lit ?_
 refine sv E rfl rfl rfl (x_ldBN (i := 0) (us := [.pointer (some ⟨p1, 0, none⟩)]) E H rfl rfl rfl rfl Try.underlying88 rfl sz88) ?_
 clear a E;intro a E
 replace H := H.front 0 rfl
 replace H := H.front 1 rfl
 replace H : Sep w (Blk p1 137 [v2, .int .i64 x4] :: Blk p6 88 [.pointer (some ⟨p1, 0, none⟩)] :: Fo) (rs) := H
 obtain ⟨u7, hx8, hm⟩ := bnd hm
 refine st_call E (wn rfl) rfl rfl (x_call E rfl rfl (cf39 _)) (c_letter_reader_num p1 v2 l3 x4 H hr5 hx8) ?_
 clear E H; clear a; clear w; rintro _ w ⟨v9, rfl, H⟩ a E
 refine sv E rfl rfl rfl (x_assign E rfl rfl) ?_
 clear a E;intro a E
 refine wpList_nil ?_
 refine q_then ?_
 refine wp_ret ?_
 refine out1 E rfl rfl ?_
 replace H := H.drop 1
 obtain rfl := Option.some.inj hm
 exact ⟨v9, rfl, H.reads (sub_cons (.head _) (fun r hr => .tail _ (hr)))⟩
end Go.Cb

set_option linter.unusedVariables false
set_option linter.unusedSimpArgs false
namespace Go.Cb
open Go.Proofs Go.RowKit
def m_letter_whole_api_Letter (l3 : List Int) (x4 : Int) (x5 : S_api_Letter) : Option (S_api_Letter × Int) :=
  (m_pack_Reader_End l3 x4).bind fun u15 => if (!u15) = true then (some ((⟨0, 0, 0, 0, 0, [], 0, (ByteArray.mk #[])⟩ : S_api_Letter), 3)) else (some ((⟨x5.Kind, x5.View, x5.Normal, x5.Len, x5.Stays, x5.Log, x5.Num, x5.Text⟩ : S_api_Letter), 0))
set_option maxRecDepth 20000 in
set_option maxHeartbeats 1000000 in
theorem c_letter_whole_api_Letter {w : World} {Fo : List Ob} {rs : List Rp} (p1 : Nat) (v2 : Value) (l3 : List Int) (x4 : Int) (x5 : S_api_Letter) (v6 : Value) (H : Sep w (Blk p1 137 [v2, .int .i64 x4] :: Fo) rs) (hr7 : rSl (kI .u8) v2 l3 ∈ rs) (hr8 : rSl kS v6 x5.Log ∈ rs) {r : S_api_Letter × Int} (hm : m_letter_whole_api_Letter l3 x4 x5 = some r) :
    Calls Try.prog 42 [.agg #[.pointer (some ⟨p1, 0, none⟩)], .agg #[.int .i64 x5.Kind, .int .i64 x5.View, .int .i64 x5.Normal, .int .i64 x5.Len, .int .i64 x5.Stays, v6, .int .i64 x5.Num, .string x5.Text]].toArray w (Ret fun v w' => ∃ (v5002 : Value), .tuple #[.agg #[.int .i64 r.1.Kind, .int .i64 r.1.View, .int .i64 r.1.Normal, .int .i64 r.1.Len, .int .i64 r.1.Stays, v5002, .int .i64 r.1.Num, .string r.1.Text], .int .i64 r.2] = v ∧ Sep w' (Blk p1 137 [v2, .int .i64 x4] :: Fo) (rSl kS v5002 r.1.Log :: rs)) := by
 unfold m_letter_whole_api_Letter at hm
 refine enter Try.func42 rfl Try.ntmps42 rfl fun a E => ?_
 simp only [enum, Nat.reduceAdd] at E
 refine wp_seq ?_
 refine wp_region_lit ?_
 refine st_box E H (wn rfl) rfl rfl (cs := [.pointer (some ⟨p1, 0, none⟩)]) rfl rfl rfl ?_
 clear E H; clear a; clear w; intro p9 w a H E
 obtain ⟨q11, x12, rfl⟩ := H.slform hr8
 refine st_box E H (wn rfl) rfl rfl (cs := [.int .i64 x5.Kind, .int .i64 x5.View, .int .i64 x5.Normal, .int .i64 x5.Len, .int .i64 x5.Stays, (.slice q11 x5.Log.length x12), .int .i64 x5.Num, .string x5.Text]) rfl rfl rfl ?_
 clear E H; clear a; clear w; intro p10 w a H E
 refine st_alloc E H (wn rfl) rfl rfl (cs := [.int .i64 0, .int .i64 0, .int .i64 0, .int .i64 0, .int .i64 0, .slice none 0 0, .int .i64 0, .string (ByteArray.mk #[])]) rfl (z := .agg #[.int .i64 0, .int .i64 0, .int .i64 0, .int .i64 0, .int .i64 0, .slice none 0 0, .int .i64 0, .string ⟨#[]⟩]) (by kernel_rfl) rfl ?_
 clear E H; clear a; clear w; intro p13 w a H E
 refine sv E rfl rfl rfl (x_assign E rfl rfl) ?_
 clear a E;intro a E
 refine wpList_nil ?_
 refine q_then ?_
 refine wp_seq ?_
 refine wp_region_lit ?_
 refine st_alloc E H (wn rfl) rfl rfl (cs := [.int .i64 0, .int .i64 0, .int .i64 0, .int .i64 0, .int .i64 0, .slice none 0 0, .int .i64 0, .string (ByteArray.mk #[])]) rfl (z := .agg #[.int .i64 0, .int .i64 0, .int .i64 0, .int .i64 0, .int .i64 0, .slice none 0 0, .int .i64 0, .string ⟨#[]⟩]) (by kernel_rfl) rfl ?_
 clear E H; clear a; clear w; intro p14 w a H E
 refine wpList_nil ?_
 refine q_then ?_
 refine wp_seq ?_
 refine wp_seq ?_
 refine wp_region_lit ?_
 refine sv E rfl rfl rfl (x_fa E rfl rfl (v := .pointer (some ⟨p9, 0, none⟩)) (fa88_0 _ _)) ?_
 clear a E;intro a E
 refine sv E rfl rfl rfl (x_ldB (i := 3) E H rfl rfl rfl rfl Try.underlying85 rfl) ?_
 clear a E;intro a E
 replace H := H.front 3 rfl
 replace H := H.front 3 rfl
 replace H := H.front 3 rfl
 replace H := H.front 3 rfl
 replace H := H.front 4 rfl
 replace H : Sep w (Blk p1 137 [v2, .int .i64 x4] :: Blk p14 24 [.int .i64 0, .int .i64 0, .int .i64 0, .int .i64 0, .int .i64 0, .slice none 0 0, .int .i64 0, .string (ByteArray.mk #[])] :: Blk p13 24 [.int .i64 0, .int .i64 0, .int .i64 0, .int .i64 0, .int .i64 0, .slice none 0 0, .int .i64 0, .string (ByteArray.mk #[])] :: Blk p10 24 [.int .i64 x5.Kind, .int .i64 x5.View, .int .i64 x5.Normal, .int .i64 x5.Len, .int .i64 x5.Stays, (.slice q11 x5.Log.length x12), .int .i64 x5.Num, .string x5.Text] :: Blk p9 88 [.pointer (some ⟨p1, 0, none⟩)] :: Fo) (rs) := H
 obtain ⟨u15, hx16, hm⟩ := bnd hm
 refine st_call E (wn rfl) rfl rfl (x_call E rfl rfl (cf85 _)) (c_pack_Reader_End p1 v2 l3 x4 H hr7 hx16) ?_
 clear E H; clear a; clear w; rintro _ w ⟨rfl, H⟩ a E
 refine sv E rfl rfl rfl (x_not E rfl rfl) ?_
 clear a E;intro a E
 refine wpList_nil ?_
 refine q_then ?_
 refine wp_if E rfl ?_ ?_
 ·intro hb
  rw [if_t hb] at hm
  clear hb
  refine wp_seq ?_
  refine wp_region_lit ?_
  refine sv E rfl rfl rfl (x_ldBN (i := 1) (us := [.int .i64 0, .int .i64 0, .int .i64 0, .int .i64 0, .int .i64 0, .slice none 0 0, .int .i64 0, .string (ByteArray.mk #[])]) E H rfl rfl rfl rfl Try.underlying24 rfl sz24) ?_
  clear a E;intro a E
  refine st_st (i := 2) E H (wn rfl) rfl (us := [.int .i64 0, .int .i64 0, .int .i64 0, .int .i64 0, .int .i64 0, .slice none 0 0, .int .i64 0, .string (ByteArray.mk #[])]) rfl rfl rfl rfl rfl sz24 rfl rfl ?_
  clear H; clear w; intro w H
  replace H : Sep w (Blk p1 137 [v2, .int .i64 x4] :: Blk p14 24 [.int .i64 0, .int .i64 0, .int .i64 0, .int .i64 0, .int .i64 0, .slice none 0 0, .int .i64 0, .string (ByteArray.mk #[])] :: Blk p13 24 [.int .i64 0, .int .i64 0, .int .i64 0, .int .i64 0, .int .i64 0, .slice none 0 0, .int .i64 0, .string (ByteArray.mk #[])] :: Blk p10 24 [.int .i64 x5.Kind, .int .i64 x5.View, .int .i64 x5.Normal, .int .i64 x5.Len, .int .i64 x5.Stays, (.slice q11 x5.Log.length x12), .int .i64 x5.Num, .string x5.Text] :: Blk p9 88 [.pointer (some ⟨p1, 0, none⟩)] :: Fo) _ := H
  refine sv E rfl rfl rfl (x_assign E rfl rfl) ?_
  clear a E;intro a E
  refine wpList_nil ?_
  refine q_then ?_
  refine wp_ret ?_
  refine q_thenR ?_
  refine outR2 E rfl (rvBN (i := 2) (us := [.int .i64 0, .int .i64 0, .int .i64 0, .int .i64 0, .int .i64 0, .slice none 0 0, .int .i64 0, .string (ByteArray.mk #[])]) H rfl rfl rfl Try.underlying24 rfl sz24) (rvT rfl) ?_
  replace H := H.nilSl kS
  replace H := H.drop 1
  replace H := H.drop 1
  replace H := H.drop 1
  replace H := H.drop 1
  obtain rfl := Option.some.inj hm
  exact ⟨(.slice none 0 0), rfl, H.reads (sub_cons (.head _) (fun r hr => .tail _ (hr)))⟩
 ·intro hb
  rw [if_f hb] at hm
  clear hb
  refine wp_skip ?_
  refine q_then ?_
  refine wp_seq ?_
  refine wp_region_lit ?_
  refine sv E rfl rfl rfl (x_ldBN (i := 3) (us := [.int .i64 x5.Kind, .int .i64 x5.View, .int .i64 x5.Normal, .int .i64 x5.Len, .int .i64 x5.Stays, (.slice q11 x5.Log.length x12), .int .i64 x5.Num, .string x5.Text]) E H rfl rfl rfl rfl Try.underlying24 rfl sz24) ?_
  clear a E;intro a E
  refine st_st (i := 2) E H (wn rfl) rfl (us := [.int .i64 x5.Kind, .int .i64 x5.View, .int .i64 x5.Normal, .int .i64 x5.Len, .int .i64 x5.Stays, (.slice q11 x5.Log.length x12), .int .i64 x5.Num, .string x5.Text]) rfl rfl rfl rfl rfl sz24 rfl rfl ?_
  clear H; clear w; intro w H
  replace H : Sep w (Blk p1 137 [v2, .int .i64 x4] :: Blk p14 24 [.int .i64 0, .int .i64 0, .int .i64 0, .int .i64 0, .int .i64 0, .slice none 0 0, .int .i64 0, .string (ByteArray.mk #[])] :: Blk p13 24 [.int .i64 x5.Kind, .int .i64 x5.View, .int .i64 x5.Normal, .int .i64 x5.Len, .int .i64 x5.Stays, (.slice q11 x5.Log.length x12), .int .i64 x5.Num, .string x5.Text] :: Blk p10 24 [.int .i64 x5.Kind, .int .i64 x5.View, .int .i64 x5.Normal, .int .i64 x5.Len, .int .i64 x5.Stays, (.slice q11 x5.Log.length x12), .int .i64 x5.Num, .string x5.Text] :: Blk p9 88 [.pointer (some ⟨p1, 0, none⟩)] :: Fo) _ := H
  refine sv E rfl rfl rfl (x_assign E rfl rfl) ?_
  clear a E;intro a E
  refine wpList_nil ?_
  refine q_then ?_
  refine wp_ret ?_
  refine outR2 E rfl (rvBN (i := 2) (us := [.int .i64 x5.Kind, .int .i64 x5.View, .int .i64 x5.Normal, .int .i64 x5.Len, .int .i64 x5.Stays, (.slice q11 x5.Log.length x12), .int .i64 x5.Num, .string x5.Text]) H rfl rfl rfl Try.underlying24 rfl sz24) (rvT rfl) ?_
  replace H := H.drop 1
  replace H := H.drop 1
  replace H := H.drop 1
  replace H := H.drop 1
  obtain rfl := Option.some.inj hm
  exact ⟨(.slice q11 x5.Log.length x12), rfl, H.reads (sub_cons hr8 (fun r hr => hr))⟩
end Go.Cb

set_option linter.unusedVariables false
set_option linter.unusedSimpArgs false
namespace Go.Cb
open Go.Proofs Go.RowKit
def m_letter_Get (l2 : List Int) : Option (S_api_Letter × Int) :=
  (m_pack_New l2).bind fun u5 => (m_letter_reader_small u5 0).bind fun u10 => (m_letter_reader_num u10.2.1 u10.2.2).bind fun u14 => (m_letter_reader_num u14.2.1 u14.2.2).bind fun u17 => (m_letter_reader_small u17.2.1 u17.2.2).bind fun u20 => (m_letter_reader_small u20.2.1 u20.2.2).bind fun u23 => (m_pack_Reader_Texts u23.2.1 u23.2.2).bind fun u26 => (m_letter_reader_num u26.2.1 u26.2.2).bind fun u32 => (m_pack_Reader_Text u32.2.1 u32.2.2).bind fun u35 => (m_letter_whole_api_Letter u35.2.1 u35.2.2 (⟨u10.1, u14.1, u17.1, u20.1, u23.1, u26.1, u32.1, u35.1⟩ : S_api_Letter)).bind fun u38 => some ((⟨u38.1.Kind, u38.1.View, u38.1.Normal, u38.1.Len, u38.1.Stays, u38.1.Log, u38.1.Num, u38.1.Text⟩ : S_api_Letter), u38.2)
set_option maxRecDepth 20000 in
set_option maxHeartbeats 1000000 in
theorem c_letter_Get {w : World} {Fo : List Ob} {rs : List Rp} (v1 : Value) (l2 : List Int) (H : Sep w (Fo) rs) (hr3 : rSl (kI .u8) v1 l2 ∈ rs) {r : S_api_Letter × Int} (hm : m_letter_Get l2 = some r) :
    Calls Try.prog 15 [v1].toArray w (Ret fun v w' => ∃ (v5002 : Value), .tuple #[.agg #[.int .i64 r.1.Kind, .int .i64 r.1.View, .int .i64 r.1.Normal, .int .i64 r.1.Len, .int .i64 r.1.Stays, v5002, .int .i64 r.1.Num, .string r.1.Text], .int .i64 r.2] = v ∧ Sep w' (Fo) (rSl kS v5002 r.1.Log :: rs)) := by
 unfold m_letter_Get at hm
 refine enter Try.func15 rfl Try.ntmps15 rfl fun a E => ?_
 simp only [enum, Nat.reduceAdd] at E
 refine wp_seq ?_
 refine wp_region_lit ?_
 refine st_alloc E H (wn rfl) rfl rfl (cs := [.int .i64 0, .int .i64 0, .int .i64 0, .int .i64 0, .int .i64 0, .slice none 0 0, .int .i64 0, .string (ByteArray.mk #[])]) rfl (z := .agg #[.int .i64 0, .int .i64 0, .int .i64 0, .int .i64 0, .int .i64 0, .slice none 0 0, .int .i64 0, .string ⟨#[]⟩]) (by kernel_rfl) rfl ?_
 clear E H; clear a; clear w; intro p4 w a H E
 refine sv E rfl rfl rfl (x_assign E rfl rfl) ?_
 clear a E;intro a E
 refine wpList_nil ?_
 refine q_then ?_
 refine wp_seq ?_
 refine wp_region_lit ?_
 refine sv E rfl rfl rfl (x_move E rfl rfl) ?_
 clear a E;intro a E
 obtain ⟨u5, hx6, hm⟩ := bnd hm
 refine st_call E (wn rfl) rfl rfl (x_call E rfl rfl (cf37 _)) (c_pack_New v1 l2 H hr3 hx6) ?_
 clear E H; clear a; clear w; rintro _ w ⟨p7, v8, rfl, H⟩ a E
 refine sv E rfl rfl rfl (x_build E (ps := [(0, .tmp 7)]) (vs := [(0, .pointer (some ⟨p7, 0, none⟩))]) rfl (by simp only [List.map]; rw [E.eval (x := .tmp 7) (v := .pointer (some ⟨p7, 0, none⟩)) rfl]) (v := .agg #[.pointer (some ⟨p7, 0, none⟩)]) (by kernel_rfl)) ?_
 clear a E;intro a E
 refine st_alloc E H (wn rfl) rfl rfl (cs := [.pointer none]) rfl (z := .agg #[.pointer none]) (by kernel_rfl) rfl ?_
 clear E H; clear a; clear w; intro p9 w a H E
 refine st_st (i := 0) E H (wn rfl) rfl (us := [.pointer (some ⟨p7, 0, none⟩)]) rfl rfl rfl rfl rfl sz88 rfl rfl ?_
 clear H; clear w; intro w H
 replace H : Sep w (Blk p9 88 [.pointer (some ⟨p7, 0, none⟩)] :: Blk p7 137 [v8, .int .i64 0] :: Row 5 (kI .u8) v8 u5 :: Blk p4 24 [.int .i64 0, .int .i64 0, .int .i64 0, .int .i64 0, .int .i64 0, .slice none 0 0, .int .i64 0, .string (ByteArray.mk #[])] :: Fo) _ := H
 refine wpList_nil ?_
 refine q_then ?_
 refine wp_seq ?_
 refine wp_region_lit ?_
 refine sv E rfl rfl rfl (x_ldBN (i := 0) (us := [.pointer (some ⟨p7, 0, none⟩)]) E H rfl rfl rfl rfl Try.underlying88 rfl sz88) ?_
 clear a E;intro a E
 replace H := H.thaw (i := 2) rfl
 replace H := H.front 2 rfl
 replace H := H.front 1 rfl
 replace H := H.front 2 rfl
 replace H : Sep w (Blk p7 137 [v8, .int .i64 0] :: Blk p9 88 [.pointer (some ⟨p7, 0, none⟩)] :: Blk p4 24 [.int .i64 0, .int .i64 0, .int .i64 0, .int .i64 0, .int .i64 0, .slice none 0 0, .int .i64 0, .string (ByteArray.mk #[])] :: Fo) (rSl (kI .u8) v8 u5 :: rs) := H
 obtain ⟨u10, hx11, hm⟩ := bnd hm
 refine st_call E (wn rfl) rfl rfl (x_call E rfl rfl (cf38 _)) (c_letter_reader_small p7 v8 u5 0 H (.head _) hx11) ?_
 clear E H; clear a; clear w; rintro _ w ⟨v12, rfl, H⟩ a E
 refine sv E rfl rfl rfl (x_build E (ps := [(0, .tmp 10)]) (vs := [(0, .int .i64 u10.1)]) rfl (by simp only [List.map]; rw [E.eval (x := .tmp 10) (v := .int .i64 u10.1) rfl]) (v := .agg #[.int .i64 u10.1, .int .i64 0, .int .i64 0, .int .i64 0, .int .i64 0, .slice none 0 0, .int .i64 0, .string (ByteArray.mk #[])]) (by kernel_rfl)) ?_
 clear a E;intro a E
 refine st_alloc E H (wn rfl) rfl rfl (cs := [.int .i64 0, .int .i64 0, .int .i64 0, .int .i64 0, .int .i64 0, .slice none 0 0, .int .i64 0, .string (ByteArray.mk #[])]) rfl (z := .agg #[.int .i64 0, .int .i64 0, .int .i64 0, .int .i64 0, .int .i64 0, .slice none 0 0, .int .i64 0, .string ⟨#[]⟩]) (by kernel_rfl) rfl ?_
 clear E H; clear a; clear w; intro p13 w a H E
 refine st_st (i := 0) E H (wn rfl) rfl (us := [.int .i64 u10.1, .int .i64 0, .int .i64 0, .int .i64 0, .int .i64 0, .slice none 0 0, .int .i64 0, .string (ByteArray.mk #[])]) rfl rfl rfl rfl rfl sz24 rfl rfl ?_
 clear H; clear w; intro w H
 replace H : Sep w (Blk p13 24 [.int .i64 u10.1, .int .i64 0, .int .i64 0, .int .i64 0, .int .i64 0, .slice none 0 0, .int .i64 0, .string (ByteArray.mk #[])] :: Blk p7 137 [v12, .int .i64 u10.2.2] :: Blk p9 88 [.pointer (some ⟨p7, 0, none⟩)] :: Blk p4 24 [.int .i64 0, .int .i64 0, .int .i64 0, .int .i64 0, .int .i64 0, .slice none 0 0, .int .i64 0, .string (ByteArray.mk #[])] :: Fo) _ := H
 refine wpList_nil ?_
 refine q_then ?_
 refine wp_seq ?_
 refine wp_region_lit ?_
 refine sv E rfl rfl rfl (x_ldBN (i := 2) (us := [.pointer (some ⟨p7, 0, none⟩)]) E H rfl rfl rfl rfl Try.underlying88 rfl sz88) ?_
 clear a E;intro a E
 replace H := H.front 3 rfl
 replace H := H.front 3 rfl
 replace H := H.front 2 rfl
 replace H := H.front 3 rfl
 replace H : Sep w (Blk p7 137 [v12, .int .i64 u10.2.2] :: Blk p13 24 [.int .i64 u10.1, .int .i64 0, .int .i64 0, .int .i64 0, .int .i64 0, .slice none 0 0, .int .i64 0, .string (ByteArray.mk #[])] :: Blk p9 88 [.pointer (some ⟨p7, 0, none⟩)] :: Blk p4 24 [.int .i64 0, .int .i64 0, .int .i64 0, .int .i64 0, .int .i64 0, .slice none 0 0, .int .i64 0, .string (ByteArray.mk #[])] :: Fo) (rSl (kI .u8) v12 u10.2.1 :: rSl (kI .u8) v8 u5 :: rs) := H
 obtain ⟨u14, hx15, hm⟩ := bnd hm
 refine st_call E (wn rfl) rfl rfl (x_call E rfl rfl (cf39 _)) (c_letter_reader_num p7 v12 u10.2.1 u10.2.2 H (.head _) hx15) ?_
 clear E H; clear a; clear w; rintro _ w ⟨v16, rfl, H⟩ a E
 refine sv E rfl rfl rfl (x_fa E rfl rfl (v := .pointer (some ⟨p13, 1, none⟩)) (fa24_1 _ _)) ?_
 clear a E;intro a E
 refine st_st (i := 1) E H (wn rfl) rfl (us := [.int .i64 u14.1]) rfl rfl rfl rfl rfl sz2 rfl rfl ?_
 clear H; clear w; intro w H
 replace H : Sep w (Blk p7 137 [v16, .int .i64 u14.2.2] :: Blk p13 24 [.int .i64 u10.1, .int .i64 u14.1, .int .i64 0, .int .i64 0, .int .i64 0, .slice none 0 0, .int .i64 0, .string (ByteArray.mk #[])] :: Blk p9 88 [.pointer (some ⟨p7, 0, none⟩)] :: Blk p4 24 [.int .i64 0, .int .i64 0, .int .i64 0, .int .i64 0, .int .i64 0, .slice none 0 0, .int .i64 0, .string (ByteArray.mk #[])] :: Fo) _ := H
 refine wpList_nil ?_
 refine q_then ?_
 refine wp_seq ?_
 refine wp_region_lit ?_
 refine sv E rfl rfl rfl (x_ldBN (i := 2) (us := [.pointer (some ⟨p7, 0, none⟩)]) E H rfl rfl rfl rfl Try.underlying88 rfl sz88) ?_
 clear a E;intro a E
 obtain ⟨u17, hx18, hm⟩ := bnd hm
 refine st_call E (wn rfl) rfl rfl (x_call E rfl rfl (cf39 _)) (c_letter_reader_num p7 v16 u14.2.1 u14.2.2 H (.head _) hx18) ?_
 clear E H; clear a; clear w; rintro _ w ⟨v19, rfl, H⟩ a E
 refine sv E rfl rfl rfl (x_fa E rfl rfl (v := .pointer (some ⟨p13, 2, none⟩)) (fa24_2 _ _)) ?_
 clear a E;intro a E
 refine st_st (i := 1) E H (wn rfl) rfl (us := [.int .i64 u17.1]) rfl rfl rfl rfl rfl sz2 rfl rfl ?_
 clear H; clear w; intro w H
 replace H : Sep w (Blk p7 137 [v19, .int .i64 u17.2.2] :: Blk p13 24 [.int .i64 u10.1, .int .i64 u14.1, .int .i64 u17.1, .int .i64 0, .int .i64 0, .slice none 0 0, .int .i64 0, .string (ByteArray.mk #[])] :: Blk p9 88 [.pointer (some ⟨p7, 0, none⟩)] :: Blk p4 24 [.int .i64 0, .int .i64 0, .int .i64 0, .int .i64 0, .int .i64 0, .slice none 0 0, .int .i64 0, .string (ByteArray.mk #[])] :: Fo) _ := H
 refine wpList_nil ?_
 refine q_then ?_
 refine wp_seq ?_
 refine wp_region_lit ?_
 refine sv E rfl rfl rfl (x_ldBN (i := 2) (us := [.pointer (some ⟨p7, 0, none⟩)]) E H rfl rfl rfl rfl Try.underlying88 rfl sz88) ?_
 clear a E;intro a E
 obtain ⟨u20, hx21, hm⟩ := bnd hm
 refine st_call E (wn rfl) rfl rfl (x_call E rfl rfl (cf38 _)) (c_letter_reader_small p7 v19 u17.2.1 u17.2.2 H (.head _) hx21) ?_
 clear E H; clear a; clear w; rintro _ w ⟨v22, rfl, H⟩ a E
 refine sv E rfl rfl rfl (x_fa E rfl rfl (v := .pointer (some ⟨p13, 3, none⟩)) (fa24_3 _ _)) ?_
 clear a E;intro a E
 refine st_st (i := 1) E H (wn rfl) rfl (us := [.int .i64 u20.1]) rfl rfl rfl rfl rfl sz3 rfl rfl ?_
 clear H; clear w; intro w H
 replace H : Sep w (Blk p7 137 [v22, .int .i64 u20.2.2] :: Blk p13 24 [.int .i64 u10.1, .int .i64 u14.1, .int .i64 u17.1, .int .i64 u20.1, .int .i64 0, .slice none 0 0, .int .i64 0, .string (ByteArray.mk #[])] :: Blk p9 88 [.pointer (some ⟨p7, 0, none⟩)] :: Blk p4 24 [.int .i64 0, .int .i64 0, .int .i64 0, .int .i64 0, .int .i64 0, .slice none 0 0, .int .i64 0, .string (ByteArray.mk #[])] :: Fo) _ := H
 refine wpList_nil ?_
 refine q_then ?_
 refine wp_seq ?_
 refine wp_region_lit ?_
 refine sv E rfl rfl rfl (x_ldBN (i := 2) (us := [.pointer (some ⟨p7, 0, none⟩)]) E H rfl rfl rfl rfl Try.underlying88 rfl sz88) ?_
 clear a E;intro a E
 obtain ⟨u23, hx24, hm⟩ := bnd hm
 refine st_call E (wn rfl) rfl rfl (x_call E rfl rfl (cf38 _)) (c_letter_reader_small p7 v22 u20.2.1 u20.2.2 H (.head _) hx24) ?_
 clear E H; clear a; clear w; rintro _ w ⟨v25, rfl, H⟩ a E
 refine sv E rfl rfl rfl (x_fa E rfl rfl (v := .pointer (some ⟨p13, 4, none⟩)) (fa24_4 _ _)) ?_
 clear a E;intro a E
 refine st_st (i := 1) E H (wn rfl) rfl (us := [.int .i64 u23.1]) rfl rfl rfl rfl rfl sz3 rfl rfl ?_
 clear H; clear w; intro w H
 replace H : Sep w (Blk p7 137 [v25, .int .i64 u23.2.2] :: Blk p13 24 [.int .i64 u10.1, .int .i64 u14.1, .int .i64 u17.1, .int .i64 u20.1, .int .i64 u23.1, .slice none 0 0, .int .i64 0, .string (ByteArray.mk #[])] :: Blk p9 88 [.pointer (some ⟨p7, 0, none⟩)] :: Blk p4 24 [.int .i64 0, .int .i64 0, .int .i64 0, .int .i64 0, .int .i64 0, .slice none 0 0, .int .i64 0, .string (ByteArray.mk #[])] :: Fo) _ := H
 refine wpList_nil ?_
 refine q_then ?_
 refine wp_seq ?_
 refine wp_region_lit ?_
 refine sv E rfl rfl rfl (x_fa E rfl rfl (v := .pointer (some ⟨p9, 0, none⟩)) (fa88_0 _ _)) ?_
 clear a E;intro a E
 refine sv E rfl rfl rfl (x_ldB (i := 2) E H rfl rfl rfl rfl Try.underlying85 rfl) ?_
 clear a E;intro a E
 obtain ⟨u26, hx27, hm⟩ := bnd hm
 refine st_call E (wn rfl) rfl rfl (x_call E rfl rfl (cf40 _)) (c_pack_Reader_Texts p7 v25 u23.2.1 u23.2.2 H (.head _) hx27) ?_
 clear E H; clear a; clear w; rintro _ w ⟨v28, v29, rfl, H⟩ a E
 refine sv E rfl rfl rfl (x_fa E rfl rfl (v := .pointer (some ⟨p13, 5, none⟩)) (fa24_5 _ _)) ?_
 clear a E;intro a E
 obtain ⟨q30, x31, rfl⟩ := H.rowform (i := 0) rfl
 refine st_st (i := 2) E H (wn rfl) rfl (us := [(.slice q30 u26.1.length x31)]) rfl rfl rfl rfl rfl sz22 rfl rfl ?_
 clear H; clear w; intro w H
 replace H : Sep w (Row 9 kS (.slice q30 u26.1.length x31) u26.1 :: Blk p7 137 [v29, .int .i64 u26.2.2] :: Blk p13 24 [.int .i64 u10.1, .int .i64 u14.1, .int .i64 u17.1, .int .i64 u20.1, .int .i64 u23.1, (.slice q30 u26.1.length x31), .int .i64 0, .string (ByteArray.mk #[])] :: Blk p9 88 [.pointer (some ⟨p7, 0, none⟩)] :: Blk p4 24 [.int .i64 0, .int .i64 0, .int .i64 0, .int .i64 0, .int .i64 0, .slice none 0 0, .int .i64 0, .string (ByteArray.mk #[])] :: Fo) _ := H
 refine wpList_nil ?_
 refine q_then ?_
 refine wp_seq ?_
 refine wp_region_lit ?_
 refine sv E rfl rfl rfl (x_ldBN (i := 3) (us := [.pointer (some ⟨p7, 0, none⟩)]) E H rfl rfl rfl rfl Try.underlying88 rfl sz88) ?_
 clear a E;intro a E
 replace H := H.front 4 rfl
 replace H := H.front 4 rfl
 replace H := H.front 4 rfl
 replace H := H.front 3 rfl
 replace H := H.front 4 rfl
 replace H : Sep w (Blk p7 137 [v29, .int .i64 u26.2.2] :: Row 9 kS (.slice q30 u26.1.length x31) u26.1 :: Blk p13 24 [.int .i64 u10.1, .int .i64 u14.1, .int .i64 u17.1, .int .i64 u20.1, .int .i64 u23.1, (.slice q30 u26.1.length x31), .int .i64 0, .string (ByteArray.mk #[])] :: Blk p9 88 [.pointer (some ⟨p7, 0, none⟩)] :: Blk p4 24 [.int .i64 0, .int .i64 0, .int .i64 0, .int .i64 0, .int .i64 0, .slice none 0 0, .int .i64 0, .string (ByteArray.mk #[])] :: Fo) (rSl (kI .u8) v29 u26.2.1 :: rSl (kI .u8) v25 u23.2.1 :: rSl (kI .u8) v22 u20.2.1 :: rSl (kI .u8) v19 u17.2.1 :: rSl (kI .u8) v16 u14.2.1 :: rSl (kI .u8) v12 u10.2.1 :: rSl (kI .u8) v8 u5 :: rs) := H
 obtain ⟨u32, hx33, hm⟩ := bnd hm
 refine st_call E (wn rfl) rfl rfl (x_call E rfl rfl (cf39 _)) (c_letter_reader_num p7 v29 u26.2.1 u26.2.2 H (.head _) hx33) ?_
 clear E H; clear a; clear w; rintro _ w ⟨v34, rfl, H⟩ a E
 refine sv E rfl rfl rfl (x_fa E rfl rfl (v := .pointer (some ⟨p13, 6, none⟩)) (fa24_6 _ _)) ?_
 clear a E;intro a E
 refine st_st (i := 2) E H (wn rfl) rfl (us := [.int .i64 u32.1]) rfl rfl rfl rfl rfl sz2 rfl rfl ?_
 clear H; clear w; intro w H
 replace H : Sep w (Blk p7 137 [v34, .int .i64 u32.2.2] :: Row 9 kS (.slice q30 u26.1.length x31) u26.1 :: Blk p13 24 [.int .i64 u10.1, .int .i64 u14.1, .int .i64 u17.1, .int .i64 u20.1, .int .i64 u23.1, (.slice q30 u26.1.length x31), .int .i64 u32.1, .string (ByteArray.mk #[])] :: Blk p9 88 [.pointer (some ⟨p7, 0, none⟩)] :: Blk p4 24 [.int .i64 0, .int .i64 0, .int .i64 0, .int .i64 0, .int .i64 0, .slice none 0 0, .int .i64 0, .string (ByteArray.mk #[])] :: Fo) _ := H
 refine wpList_nil ?_
 refine q_then ?_
 refine wp_seq ?_
 refine wp_region_lit ?_
 refine sv E rfl rfl rfl (x_fa E rfl rfl (v := .pointer (some ⟨p9, 0, none⟩)) (fa88_0 _ _)) ?_
 clear a E;intro a E
 refine sv E rfl rfl rfl (x_ldB (i := 3) E H rfl rfl rfl rfl Try.underlying85 rfl) ?_
 clear a E;intro a E
 obtain ⟨u35, hx36, hm⟩ := bnd hm
 refine st_call E (wn rfl) rfl rfl (x_call E rfl rfl (cf41 _)) (c_pack_Reader_Text p7 v34 u32.2.1 u32.2.2 H (.head _) hx36) ?_
 clear E H; clear a; clear w; rintro _ w ⟨v37, rfl, H⟩ a E
 refine sv E rfl rfl rfl (x_fa E rfl rfl (v := .pointer (some ⟨p13, 7, none⟩)) (fa24_7 _ _)) ?_
 clear a E;intro a E
 refine st_st (i := 2) E H (wn rfl) rfl (us := [.string u35.1]) rfl rfl rfl rfl rfl sz9 rfl rfl ?_
 clear H; clear w; intro w H
 replace H : Sep w (Blk p7 137 [v37, .int .i64 u35.2.2] :: Row 9 kS (.slice q30 u26.1.length x31) u26.1 :: Blk p13 24 [.int .i64 u10.1, .int .i64 u14.1, .int .i64 u17.1, .int .i64 u20.1, .int .i64 u23.1, (.slice q30 u26.1.length x31), .int .i64 u32.1, .string u35.1] :: Blk p9 88 [.pointer (some ⟨p7, 0, none⟩)] :: Blk p4 24 [.int .i64 0, .int .i64 0, .int .i64 0, .int .i64 0, .int .i64 0, .slice none 0 0, .int .i64 0, .string (ByteArray.mk #[])] :: Fo) _ := H
 refine wpList_nil ?_
 refine q_then ?_
 refine wp_seq ?_
 refine wp_region_lit ?_
 refine sv E rfl rfl rfl (x_ldBN (i := 3) (us := [.pointer (some ⟨p7, 0, none⟩)]) E H rfl rfl rfl rfl Try.underlying88 rfl sz88) ?_
 clear a E;intro a E
 refine sv E rfl rfl rfl (x_ldBN (i := 2) (us := [.int .i64 u10.1, .int .i64 u14.1, .int .i64 u17.1, .int .i64 u20.1, .int .i64 u23.1, (.slice q30 u26.1.length x31), .int .i64 u32.1, .string u35.1]) E H rfl rfl rfl rfl Try.underlying24 rfl sz24) ?_
 clear a E;intro a E
 replace H := H.thaw (i := 1) rfl
 replace H : Sep w (Blk p7 137 [v37, .int .i64 u35.2.2] :: Blk p13 24 [.int .i64 u10.1, .int .i64 u14.1, .int .i64 u17.1, .int .i64 u20.1, .int .i64 u23.1, (.slice q30 u26.1.length x31), .int .i64 u32.1, .string u35.1] :: Blk p9 88 [.pointer (some ⟨p7, 0, none⟩)] :: Blk p4 24 [.int .i64 0, .int .i64 0, .int .i64 0, .int .i64 0, .int .i64 0, .slice none 0 0, .int .i64 0, .string (ByteArray.mk #[])] :: Fo) (rSl kS (.slice q30 u26.1.length x31) u26.1 :: rSl (kI .u8) v37 u35.2.1 :: rSl (kI .u8) v34 u32.2.1 :: rSl (kI .u8) v29 u26.2.1 :: rSl (kI .u8) v25 u23.2.1 :: rSl (kI .u8) v22 u20.2.1 :: rSl (kI .u8) v19 u17.2.1 :: rSl (kI .u8) v16 u14.2.1 :: rSl (kI .u8) v12 u10.2.1 :: rSl (kI .u8) v8 u5 :: rs) := H
 obtain ⟨u38, hx39, hm⟩ := bnd hm
 refine st_call E (wn rfl) rfl rfl (x_call E rfl rfl (cf42 _)) (c_letter_whole_api_Letter p7 v37 u35.2.1 u35.2.2 (⟨u10.1, u14.1, u17.1, u20.1, u23.1, u26.1, u32.1, u35.1⟩ : S_api_Letter) (.slice q30 u26.1.length x31) H (.tail _ (.head _)) (.head _) hx39) ?_
 clear E H; clear a; clear w; rintro _ w ⟨v40, rfl, H⟩ a E
 refine sv E rfl rfl rfl (x_ext E rfl rfl rfl) ?_
 clear a E;intro a E
 refine sv E rfl rfl rfl (x_ext E rfl rfl rfl) ?_
 clear a E;intro a E
 obtain ⟨q41, x42, rfl⟩ := H.slform (.head _)
 refine st_st (i := 3) E H (wn rfl) rfl (us := [.int .i64 u38.1.Kind, .int .i64 u38.1.View, .int .i64 u38.1.Normal, .int .i64 u38.1.Len, .int .i64 u38.1.Stays, (.slice q41 u38.1.Log.length x42), .int .i64 u38.1.Num, .string u38.1.Text]) rfl rfl rfl rfl rfl sz24 rfl rfl ?_
 clear H; clear w; intro w H
 replace H : Sep w (Blk p7 137 [v37, .int .i64 u35.2.2] :: Blk p13 24 [.int .i64 u10.1, .int .i64 u14.1, .int .i64 u17.1, .int .i64 u20.1, .int .i64 u23.1, (.slice q30 u26.1.length x31), .int .i64 u32.1, .string u35.1] :: Blk p9 88 [.pointer (some ⟨p7, 0, none⟩)] :: Blk p4 24 [.int .i64 u38.1.Kind, .int .i64 u38.1.View, .int .i64 u38.1.Normal, .int .i64 u38.1.Len, .int .i64 u38.1.Stays, (.slice q41 u38.1.Log.length x42), .int .i64 u38.1.Num, .string u38.1.Text] :: Fo) _ := H
 refine sv E rfl rfl rfl (x_assign E rfl rfl) ?_
 clear a E;intro a E
 refine wpList_nil ?_
 refine q_then ?_
 refine wp_ret ?_
 refine outR2 E rfl (rvBN (i := 3) (us := [.int .i64 u38.1.Kind, .int .i64 u38.1.View, .int .i64 u38.1.Normal, .int .i64 u38.1.Len, .int .i64 u38.1.Stays, (.slice q41 u38.1.Log.length x42), .int .i64 u38.1.Num, .string u38.1.Text]) H rfl rfl rfl Try.underlying24 rfl sz24) (rvT rfl) ?_
 replace H := H.drop 0
 replace H := H.drop 0
 replace H := H.drop 0
 replace H := H.drop 0
 obtain rfl := Option.some.inj hm
 exact ⟨(.slice q41 u38.1.Log.length x42), rfl, H.reads (sub_cons (.head _) (fun r hr => .tail _ (.tail _ (.tail _ (.tail _ (.tail _ (.tail _ (.tail _ (.tail _ (.tail _ (.tail _ (.tail _ (hr)))))))))))))⟩
end Go.Cb

set_option linter.unusedVariables false
set_option linter.unusedSimpArgs false
namespace Go.Cb
open Go.Proofs Go.RowKit
def m_letter_reader_event (l3 : List Int) (x4 : Int) : Option (S_api_Event × (List Int) × Int) :=
  (m_letter_reader_num l3 x4).bind fun u8 => (m_letter_reader_small u8.2.1 u8.2.2).bind fun u12 => (m_pack_Reader_Text u12.2.1 u12.2.2).bind fun u15 => (m_letter_reader_num u15.2.1 u15.2.2).bind fun u18 => some ((⟨u8.1, u12.1, u15.1, u18.1⟩ : S_api_Event), u18.2.1, u18.2.2)
set_option maxRecDepth 20000 in
set_option maxHeartbeats 1000000 in
theorem c_letter_reader_event {w : World} {Fo : List Ob} {rs : List Rp} (p1 : Nat) (v2 : Value) (l3 : List Int) (x4 : Int) (H : Sep w (Blk p1 137 [v2, .int .i64 x4] :: Fo) rs) (hr5 : rSl (kI .u8) v2 l3 ∈ rs) {r : S_api_Event × (List Int) × Int} (hm : m_letter_reader_event l3 x4 = some r) :
    Calls Try.prog 72 [.agg #[.pointer (some ⟨p1, 0, none⟩)]].toArray w (Ret fun v w' => ∃ (v5002 : Value), .agg #[.int .i64 r.1.Num, .int .i64 r.1.Kind, .string r.1.Path, .int .i64 r.1.Watch] = v ∧ Sep w' (Blk p1 137 [v5002, .int .i64 r.2.2] :: Fo) (rSl (kI .u8) v5002 r.2.1 :: rs)) := by
 unfold m_letter_reader_event at hm
 refine enter Try.func72 rfl Try.ntmps72 rfl fun a E => ?_
 simp only [enum, Nat.reduceAdd] at E
 refine wp_seq ?_
 refine wp_region_lit ?_
 refine st_box E H (wn rfl) rfl rfl (cs := [.pointer (some ⟨p1, 0, none⟩)]) rfl rfl rfl ?_
 clear E H; clear a; clear w; intro p6 w a H E
 refine st_alloc E H (wn rfl) rfl rfl (cs := [.int .i64 0, .int .i64 0, .string (ByteArray.mk #[]), .int .i64 0]) rfl (z := .agg #[.int .i64 0, .int .i64 0, .string ⟨#[]⟩, .int .i64 0]) (by kernel_rfl) rfl ?_
 clear E H; clear a; clear w; intro p7 w a H E
 refine wpList_nil ?_
 refine q_then ?_
 refine wp_seq ?_
 refine wp_region_lit ?_
 refine sv E rfl rfl rfl (x_ldBN (i := 1) (us := [.pointer (some ⟨p1, 0, none⟩)]) E H rfl rfl rfl rfl Try.underlying88 rfl sz88) ?_
 clear a E;intro a E
 replace H := H.front 1 rfl
 replace H := H.front 1 rfl
 replace H := H.front 2 rfl
 replace H : Sep w (Blk p1 137 [v2, .int .i64 x4] :: Blk p7 68 [.int .i64 0, .int .i64 0, .string (ByteArray.mk #[]), .int .i64 0] :: Blk p6 88 [.pointer (some ⟨p1, 0, none⟩)] :: Fo) (rs) := H
 obtain ⟨u8, hx9, hm⟩ := bnd hm
 refine st_call E (wn rfl) rfl rfl (x_call E rfl rfl (cf39 _)) (c_letter_reader_num p1 v2 l3 x4 H hr5 hx9) ?_
 clear E H; clear a; clear w; rintro _ w ⟨v10, rfl, H⟩ a E
 refine sv E rfl rfl rfl (x_build E (ps := [(0, .tmp 5)]) (vs := [(0, .int .i64 u8.1)]) rfl (by simp only [List.map]; rw [E.eval (x := .tmp 5) (v := .int .i64 u8.1) rfl]) (v := .agg #[.int .i64 u8.1, .int .i64 0, .string (ByteArray.mk #[]), .int .i64 0]) (by kernel_rfl)) ?_
 clear a E;intro a E
 refine st_alloc E H (wn rfl) rfl rfl (cs := [.int .i64 0, .int .i64 0, .string (ByteArray.mk #[]), .int .i64 0]) rfl (z := .agg #[.int .i64 0, .int .i64 0, .string ⟨#[]⟩, .int .i64 0]) (by kernel_rfl) rfl ?_
 clear E H; clear a; clear w; intro p11 w a H E
 refine st_st (i := 0) E H (wn rfl) rfl (us := [.int .i64 u8.1, .int .i64 0, .string (ByteArray.mk #[]), .int .i64 0]) rfl rfl rfl rfl rfl sz68 rfl rfl ?_
 clear H; clear w; intro w H
 replace H : Sep w (Blk p11 68 [.int .i64 u8.1, .int .i64 0, .string (ByteArray.mk #[]), .int .i64 0] :: Blk p1 137 [v10, .int .i64 u8.2.2] :: Blk p7 68 [.int .i64 0, .int .i64 0, .string (ByteArray.mk #[]), .int .i64 0] :: Blk p6 88 [.pointer (some ⟨p1, 0, none⟩)] :: Fo) _ := H
 refine wpList_nil ?_
 refine q_then ?_
 refine wp_seq ?_
 refine wp_region_lit ?_
 refine sv E rfl rfl rfl (x_ldBN (i := 3) (us := [.pointer (some ⟨p1, 0, none⟩)]) E H rfl rfl rfl rfl Try.underlying88 rfl sz88) ?_
 clear a E;intro a E
 replace H := H.front 3 rfl
 replace H := H.front 3 rfl
 replace H := H.front 2 rfl
 replace H := H.front 3 rfl
 replace H : Sep w (Blk p1 137 [v10, .int .i64 u8.2.2] :: Blk p11 68 [.int .i64 u8.1, .int .i64 0, .string (ByteArray.mk #[]), .int .i64 0] :: Blk p7 68 [.int .i64 0, .int .i64 0, .string (ByteArray.mk #[]), .int .i64 0] :: Blk p6 88 [.pointer (some ⟨p1, 0, none⟩)] :: Fo) (rSl (kI .u8) v10 u8.2.1 :: rs) := H
 obtain ⟨u12, hx13, hm⟩ := bnd hm
 refine st_call E (wn rfl) rfl rfl (x_call E rfl rfl (cf38 _)) (c_letter_reader_small p1 v10 u8.2.1 u8.2.2 H (.head _) hx13) ?_
 clear E H; clear a; clear w; rintro _ w ⟨v14, rfl, H⟩ a E
 refine sv E rfl rfl rfl (x_fa E rfl rfl (v := .pointer (some ⟨p11, 1, none⟩)) (fa68_1 _ _)) ?_
 clear a E;intro a E
 refine st_st (i := 1) E H (wn rfl) rfl (us := [.int .i64 u12.1]) rfl rfl rfl rfl rfl sz3 rfl rfl ?_
 clear H; clear w; intro w H
 replace H : Sep w (Blk p1 137 [v14, .int .i64 u12.2.2] :: Blk p11 68 [.int .i64 u8.1, .int .i64 u12.1, .string (ByteArray.mk #[]), .int .i64 0] :: Blk p7 68 [.int .i64 0, .int .i64 0, .string (ByteArray.mk #[]), .int .i64 0] :: Blk p6 88 [.pointer (some ⟨p1, 0, none⟩)] :: Fo) _ := H
 refine wpList_nil ?_
 refine q_then ?_
 refine wp_seq ?_
 refine wp_region_lit ?_
 refine sv E rfl rfl rfl (x_fa E rfl rfl (v := .pointer (some ⟨p6, 0, none⟩)) (fa88_0 _ _)) ?_
 clear a E;intro a E
 refine sv E rfl rfl rfl (x_ldB (i := 3) E H rfl rfl rfl rfl Try.underlying85 rfl) ?_
 clear a E;intro a E
 obtain ⟨u15, hx16, hm⟩ := bnd hm
 refine st_call E (wn rfl) rfl rfl (x_call E rfl rfl (cf41 _)) (c_pack_Reader_Text p1 v14 u12.2.1 u12.2.2 H (.head _) hx16) ?_
 clear E H; clear a; clear w; rintro _ w ⟨v17, rfl, H⟩ a E
 refine sv E rfl rfl rfl (x_fa E rfl rfl (v := .pointer (some ⟨p11, 2, none⟩)) (fa68_2 _ _)) ?_
 clear a E;intro a E
 refine st_st (i := 1) E H (wn rfl) rfl (us := [.string u15.1]) rfl rfl rfl rfl rfl sz9 rfl rfl ?_
 clear H; clear w; intro w H
 replace H : Sep w (Blk p1 137 [v17, .int .i64 u15.2.2] :: Blk p11 68 [.int .i64 u8.1, .int .i64 u12.1, .string u15.1, .int .i64 0] :: Blk p7 68 [.int .i64 0, .int .i64 0, .string (ByteArray.mk #[]), .int .i64 0] :: Blk p6 88 [.pointer (some ⟨p1, 0, none⟩)] :: Fo) _ := H
 refine wpList_nil ?_
 refine q_then ?_
 refine wp_seq ?_
 refine wp_region_lit ?_
 refine sv E rfl rfl rfl (x_ldBN (i := 3) (us := [.pointer (some ⟨p1, 0, none⟩)]) E H rfl rfl rfl rfl Try.underlying88 rfl sz88) ?_
 clear a E;intro a E
 obtain ⟨u18, hx19, hm⟩ := bnd hm
 refine st_call E (wn rfl) rfl rfl (x_call E rfl rfl (cf39 _)) (c_letter_reader_num p1 v17 u15.2.1 u15.2.2 H (.head _) hx19) ?_
 clear E H; clear a; clear w; rintro _ w ⟨v20, rfl, H⟩ a E
 refine sv E rfl rfl rfl (x_fa E rfl rfl (v := .pointer (some ⟨p11, 3, none⟩)) (fa68_3 _ _)) ?_
 clear a E;intro a E
 refine st_st (i := 1) E H (wn rfl) rfl (us := [.int .i64 u18.1]) rfl rfl rfl rfl rfl sz2 rfl rfl ?_
 clear H; clear w; intro w H
 replace H : Sep w (Blk p1 137 [v20, .int .i64 u18.2.2] :: Blk p11 68 [.int .i64 u8.1, .int .i64 u12.1, .string u15.1, .int .i64 u18.1] :: Blk p7 68 [.int .i64 0, .int .i64 0, .string (ByteArray.mk #[]), .int .i64 0] :: Blk p6 88 [.pointer (some ⟨p1, 0, none⟩)] :: Fo) _ := H
 refine wpList_nil ?_
 refine q_then ?_
 refine wp_seq ?_
 refine wp_region_lit ?_
 refine sv E rfl rfl rfl (x_ldBN (i := 1) (us := [.int .i64 u8.1, .int .i64 u12.1, .string u15.1, .int .i64 u18.1]) E H rfl rfl rfl rfl Try.underlying68 rfl sz68) ?_
 clear a E;intro a E
 refine st_st (i := 2) E H (wn rfl) rfl (us := [.int .i64 u8.1, .int .i64 u12.1, .string u15.1, .int .i64 u18.1]) rfl rfl rfl rfl rfl sz68 rfl rfl ?_
 clear H; clear w; intro w H
 replace H : Sep w (Blk p1 137 [v20, .int .i64 u18.2.2] :: Blk p11 68 [.int .i64 u8.1, .int .i64 u12.1, .string u15.1, .int .i64 u18.1] :: Blk p7 68 [.int .i64 u8.1, .int .i64 u12.1, .string u15.1, .int .i64 u18.1] :: Blk p6 88 [.pointer (some ⟨p1, 0, none⟩)] :: Fo) _ := H
 refine wpList_nil ?_
 refine q_then ?_
 refine wp_ret ?_
 refine outR1 E rfl (rvBN (i := 2) (us := [.int .i64 u8.1, .int .i64 u12.1, .string u15.1, .int .i64 u18.1]) H rfl rfl rfl Try.underlying68 rfl sz68) ?_
 replace H := H.drop 1
 replace H := H.drop 1
 replace H := H.drop 1
 obtain rfl := Option.some.inj hm
 exact ⟨v20, rfl, H.reads (sub_cons (.head _) (fun r hr => .tail _ (.tail _ (.tail _ (.tail _ (hr))))))⟩
end Go.Cb

set_option linter.unusedVariables false
set_option linter.unusedSimpArgs false
namespace Go.Cb
open Go.Proofs Go.RowKit
def m_letter_some_api_Event_j1 (l8 : (List S_api_Event)) (l10 : (List Int)) (x11 : Int) : Option ((List S_api_Event) × (List Int) × Int) :=
  some (l8, l10, x11)
def m_letter_some_api_Event_l1 : Nat → (List S_api_Event) → Int → (List Int) → Int → Option ((List S_api_Event) × (List Int) × Int)
  | 0, _, _, _, _ => none
  | k1 + 1, l19, x20, l22, x23 =>
    if (decide (x20 > 0)) = true then ((m_pack_Reader_Err l22 x23).bind fun u28 => if (x23 == 0) = true then ((m_letter_reader_event l22 x23).bind fun u30 => (ck (l19.length + ([u30.1] : List S_api_Event).length ≤ LIM)).bind fun u35 => m_letter_some_api_Event_l1 k1 (l19 ++ ([u30.1] : List S_api_Event)) (IntKind.i64.wrap (x20 - 1)) u30.2.1 u30.2.2) else (m_letter_some_api_Event_j1 l19 l22 x23)) else (m_letter_some_api_Event_j1 l19 l22 x23)
def m_letter_some_api_Event (l3 : List Int) (x4 : Int) : Option ((List S_api_Event) × (List Int) × Int) :=
  (m_letter_reader_num l3 x4).bind fun u15 => m_letter_some_api_Event_l1 (u15.1.toNat + 2) [] u15.1 u15.2.1 u15.2.2
set_option maxRecDepth 20000 in
set_option maxHeartbeats 1000000 in
theorem c_letter_some_api_Event {w : World} {Fo : List Ob} {rs : List Rp} (p1 : Nat) (v2 : Value) (l3 : List Int) (x4 : Int) (H : Sep w (Blk p1 137 [v2, .int .i64 x4] :: Fo) rs) (hr5 : rSl (kI .u8) v2 l3 ∈ rs) {r : (List S_api_Event) × (List Int) × Int} (hm : m_letter_some_api_Event l3 x4 = some r) :
    Calls Try.prog 71 [.agg #[.pointer (some ⟨p1, 0, none⟩)], .func (.func 72) #[.agg #[.pointer (some ⟨p1, 0, none⟩)]] #[]].toArray w (Ret fun v w' => ∃ (v5001 : Value) (v5003 : Value), v5001 = v ∧ Sep w' (Row 68 k_api_Event v5001 r.1 :: Blk p1 137 [v5003, .int .i64 r.2.2] :: Fo) (rSl (kI .u8) v5003 r.2.1 :: rs)) := by
 unfold m_letter_some_api_Event at hm
 refine enter Try.func71 rfl Try.ntmps71 rfl fun a E => ?_
 simp only [enum, Nat.reduceAdd] at E
 refine wp_seq ?_
 refine wp_region_lit ?_
 refine st_box E H (wn rfl) rfl rfl (cs := [.pointer (some ⟨p1, 0, none⟩)]) rfl rfl rfl ?_
 clear E H; clear a; clear w; intro p6 w a H E
 refine sv E rfl rfl rfl (x_assign E rfl rfl) ?_
 clear a E;intro a E
 refine wpList_nil ?_
 refine q_then ?_
 refine wp_seq ?_
 refine wp_region_lit ?_
 refine sv E rfl rfl rfl (x_assign E rfl rfl) ?_
 clear a E;intro a E
 refine wpList_nil ?_
 refine q_then ?_
 refine wp_seq_cut (fun a w => ∃ (v7 : Value) (v9 : Value) (l8 : (List S_api_Event)) (l10 : (List Int)) (x11 : Int) (rs12 : List Rp), Env 25 a [(5, v7)] ∧ Sep w (Row 68 k_api_Event v7 l8 :: Blk p1 137 [v9, .int .i64 x11] :: Fo) rs12 ∧ (∀ r, r ∈ rs → r ∈ rs12) ∧ rSl (kI .u8) v9 l10 ∈ rs12 ∧ m_letter_some_api_Event_j1 l8 l10 x11 = some r) ?_ ?_
 ·refine wp_seq ?_
  refine wp_region_lit ?_
  refine sv E rfl rfl rfl (x_ldBN (i := 0) (us := [.pointer (some ⟨p1, 0, none⟩)]) E H rfl rfl rfl rfl Try.underlying88 rfl sz88) ?_
  clear a E;intro a E
  replace H := H.front 0 rfl
  replace H := H.front 1 rfl
  replace H : Sep w (Blk p1 137 [v2, .int .i64 x4] :: Blk p6 88 [.pointer (some ⟨p1, 0, none⟩)] :: Fo) (rs) := H
  obtain ⟨u15, hx16, hm⟩ := bnd hm
  refine st_call E (wn rfl) rfl rfl (x_call E rfl rfl (cf39 _)) (c_letter_reader_num p1 v2 l3 x4 H hr5 hx16) ?_
  clear E H; clear a; clear w; rintro _ w ⟨v17, rfl, H⟩ a E
  refine sv E rfl rfl rfl (x_assign E rfl rfl) ?_
  clear a E;intro a E
  refine wpList_nil ?_
  refine q_then ?_
  refine wp_block ?_
  refine wp_loop_g (fun k1 a w => ∃ (v18 : Value) (v21 : Value) (l19 : (List S_api_Event)) (x20 : Int) (l22 : (List Int)) (x23 : Int) (rs24 : List Rp), Env 25 a [(1, .func (.func 72) #[.agg #[.pointer (some ⟨p1, 0, none⟩)]] #[]), (2, .pointer (some ⟨p6, 0, none⟩)), (5, v18), (6, .int .i64 x20)] ∧ Sep w (Blk p6 88 [.pointer (some ⟨p1, 0, none⟩)] :: Row 68 k_api_Event v18 l19 :: Blk p1 137 [v21, .int .i64 x23] :: Fo) rs24 ∧ (∀ r, r ∈ rs → r ∈ rs24) ∧ rSl (kI .u8) v21 l22 ∈ rs24 ∧ m_letter_some_api_Event_l1 k1 l19 x20 l22 x23 = some r) (u15.1.toNat + 2) ?_ ?_
  ·replace H := H.nilRow 68 k_api_Event
   replace H := H.front 1 rfl
   replace H := H.front 1 rfl
   replace H := H.front 2 rfl
   exact ⟨(.slice none 0 0), v17, [], u15.1, u15.2.1, u15.2.2, _, ((((E.nil.keep E 6 rfl).keep E 5 rfl).keep E 2 rfl).keep E 1 rfl), H, fun r hr => .tail _ (hr), (.head _), hm⟩
  ·clear E H hm
   rintro k1 a w ⟨v18, v21, l19, x20, l22, x23, rs24, E, H, hs25, hr26, hm⟩
   cases k1 with
   | zero => exact (none_some hm rfl).elim
   | succ k1 =>
    unfold m_letter_some_api_Event_l1 at hm
    refine wp_seq ?_
    refine wp_seq ?_
    refine wp_region_lit ?_
    refine sv E rfl rfl rfl (x_move E rfl rfl) ?_
    clear a E;intro a E
    refine sv E rfl rfl rfl (x_bin E rfl rfl rfl rfl) ?_
    clear a E;intro a E
    refine sv E rfl rfl rfl (x_move E rfl rfl) ?_
    clear a E;intro a E
    rcases Bool.eq_false_or_eq_true (decide (x20 > 0)) with hb27 | hb27
    ·rw [if_t hb27] at hm
     refine st_val E (ws' E rfl rfl rfl rfl hb27) rfl rfl (x_fa E rfl rfl (v := .pointer (some ⟨p6, 0, none⟩)) (fa88_0 _ _)) ?_
     clear a E;intro a E
     refine st_val E (ws' E rfl rfl rfl rfl hb27) rfl rfl (x_ldB (i := 0) E H rfl rfl rfl rfl Try.underlying85 rfl) ?_
     clear a E;intro a E
     replace H := H.front 1 rfl
     replace H := H.front 1 rfl
     replace H := H.front 2 rfl
     replace H : Sep w (Blk p1 137 [v21, .int .i64 x23] :: Blk p6 88 [.pointer (some ⟨p1, 0, none⟩)] :: Row 68 k_api_Event v18 l19 :: Fo) (rs24) := H
     obtain ⟨u28, hx29, hm⟩ := bnd hm
     refine st_call E (ws' E rfl rfl rfl rfl hb27) rfl rfl (x_call E rfl rfl (cf88 _)) (c_pack_Reader_Err p1 v21 l22 x23 H hr26 hx29) ?_
     clear E H; clear a; clear w; rintro _ w ⟨rfl, H⟩ a E
     refine st_val E (ws' E rfl rfl rfl rfl hb27) rfl rfl (x_bin E rfl rfl rfl rfl) ?_
     clear a E;intro a E
     refine sv E rfl rfl rfl (x_pickT E rfl rfl hb27 rfl) ?_
     clear a E;intro a E
     refine wpList_nil ?_
     refine q_then ?_
     refine wp_if E rfl ?_ ?_
     ·intro hb
      rw [if_t hb] at hm
      clear hb
      refine wp_skip ?_
      refine q_then ?_
      refine wp_seq ?_
      refine wp_block ?_
      refine wp_region_lit ?_
      refine sv E rfl rfl rfl (x_move E rfl rfl) ?_
      clear a E;intro a E
      refine sv E rfl rfl rfl (x_move E rfl rfl) ?_
      clear a E;intro a E
      obtain ⟨u30, hx31, hm⟩ := bnd hm
      refine st_call E (wn rfl) rfl rfl (x_callv E rfl rfl rfl (cf72 _)) (c_letter_reader_event p1 v21 l22 x23 H hr26 hx31) ?_
      clear E H; clear a; clear w; rintro _ w ⟨v32, rfl, H⟩ a E
      refine st_bsR (e := 68) (d := k_api_Event) (cs := [.int .i64 u30.1.Num, .int .i64 u30.1.Kind, .string u30.1.Path, .int .i64 u30.1.Watch]) (xs := [u30.1]) E H (wn rfl) rfl rfl (ps := [(0, .tmp 21)]) (parts := [(0, .agg #[.int .i64 u30.1.Num, .int .i64 u30.1.Kind, .string u30.1.Path, .int .i64 u30.1.Watch])]) rfl (by simp only [List.map]; rw [E.eval (x := .tmp 21) (v := .agg #[.int .i64 u30.1.Num, .int .i64 u30.1.Kind, .string u30.1.Path, .int .i64 u30.1.Watch]) rfl]) (by kernel_rfl) rfl (fun ok hr => (Rows.single (d := k_api_Event) (cs := [.int .i64 u30.1.Num, .int .i64 u30.1.Kind, .string u30.1.Path, .int .i64 u30.1.Watch]) (x := u30.1) k_api_Event_mk)) ?_
      clear E H; clear a; clear w; intro v33 w a H E
      obtain ⟨u35, hx36, hm⟩ := bnd hm
      refine st_append (i := 2) E H (wn rfl) rfl rfl rfl rfl rfl rfl (src_rd (.head _)) Try.underlying46 inf68 rfl (ck_of hx36) rfl ?_
      clear E H; clear a; clear w; intro v34 w a H E
      refine sv E rfl rfl rfl (x_assign E rfl rfl) ?_
      clear a E;intro a E
      refine wpList_nil ?_
      refine q_blk ?_
      refine q_then ?_
      refine wp_region_lit ?_
      refine sv E rfl rfl rfl (x_move E rfl rfl) ?_
      clear a E;intro a E
      refine sv E rfl rfl rfl (x_bin E rfl rfl rfl rfl) ?_
      clear a E;intro a E
      refine sv E rfl rfl rfl (x_assign E rfl rfl) ?_
      clear a E;intro a E
      refine wpList_nil ?_
      refine q_then ?_
      replace H := H.front 0 rfl
      replace H := H.front 2 rfl
      replace H := H.front 2 rfl
      exact ⟨k1, Nat.lt_succ_self k1, v34, v32, l19 ++ ([u30.1] : List S_api_Event), IntKind.i64.wrap (x20 - 1), u30.2.1, u30.2.2, _, ((((E.nil.keep E 6 rfl).keep E 5 rfl).keep E 2 rfl).keep E 1 rfl), H, fun r hr => .tail _ (.tail _ (hs25 r hr)), (.tail _ (.head _)), hm⟩
     ·intro hb
      rw [if_f hb] at hm
      clear hb
      refine wp_exit ?_
      refine q_thenX ?_
      refine q_thenX ?_
      refine q_hit ?_
      refine q_then ?_
      replace H := H.drop 1
      replace H := H.front 0 rfl
      replace H := H.front 1 rfl
      exact ⟨v18, v21, l19, l22, x23, _, (E.nil.keep E 5 rfl), H, hs25, hr26, hm⟩
    ·rw [if_f hb27] at hm
     refine st_no E (wf' E rfl rfl rfl rfl hb27 rfl) rfl rfl ?_
     clear a E;intro a E
     refine st_no E (wf' E rfl rfl rfl rfl hb27 rfl) rfl rfl ?_
     clear a E;intro a E
     refine st_no E (wf' E rfl rfl rfl rfl hb27 rfl) rfl rfl ?_
     clear a E;intro a E
     refine st_no E (wf' E rfl rfl rfl rfl hb27 rfl) rfl rfl ?_
     clear a E;intro a E
     refine sv E rfl rfl rfl (x_pickF E rfl rfl hb27 rfl) ?_
     clear a E;intro a E
     refine wpList_nil ?_
     refine q_then ?_
     refine wp_cond_false (E.eval rfl) ?_
     refine wp_exit ?_
     refine q_thenX ?_
     refine q_thenX ?_
     refine q_hit ?_
     refine q_then ?_
     replace H := H.drop 0
     exact ⟨v18, v21, l19, l22, x23, _, (E.nil.keep E 5 rfl), H, hs25, hr26, hm⟩
 ·clear E H hm
  rintro a w ⟨v7, v9, l8, l10, x11, rs12, E, H, hs13, hr14, hm⟩
  unfold m_letter_some_api_Event_j1 at hm
  refine wp_seq ?_
  refine wp_region_lit ?_
  refine sv E rfl rfl rfl (x_move E rfl rfl) ?_
  clear a E;intro a E
  refine sv E rfl rfl rfl (x_assign E rfl rfl) ?_
  clear a E;intro a E
  refine wpList_nil ?_
  refine q_then ?_
  refine wp_ret ?_
  refine out1 E rfl rfl ?_
  obtain rfl := Option.some.inj hm
  exact ⟨v7, v9, rfl, H.reads (sub_cons hr14 (fun r hr => hs13 r hr))⟩
end Go.Cb

set_option linter.unusedVariables false
set_option linter.unusedSimpArgs false
namespace Go.Cb
open Go.Proofs Go.RowKit
def m_letter_reader_mount (l3 : List Int) (x4 : Int) : Option (S_api_Mount × (List Int) × Int) :=
  (m_pack_Reader_Text l3 x4).bind fun u8 => (m_letter_reader_small u8.2.1 u8.2.2).bind fun u12 => (m_letter_reader_num u12.2.1 u12.2.2).bind fun u15 => (m_letter_reader_small u15.2.1 u15.2.2).bind fun u18 => some ((⟨u8.1, u12.1, u15.1, u18.1⟩ : S_api_Mount), u18.2.1, u18.2.2)
set_option maxRecDepth 20000 in
set_option maxHeartbeats 1000000 in
theorem c_letter_reader_mount {w : World} {Fo : List Ob} {rs : List Rp} (p1 : Nat) (v2 : Value) (l3 : List Int) (x4 : Int) (H : Sep w (Blk p1 137 [v2, .int .i64 x4] :: Fo) rs) (hr5 : rSl (kI .u8) v2 l3 ∈ rs) {r : S_api_Mount × (List Int) × Int} (hm : m_letter_reader_mount l3 x4 = some r) :
    Calls Try.prog 74 [.agg #[.pointer (some ⟨p1, 0, none⟩)]].toArray w (Ret fun v w' => ∃ (v5002 : Value), .agg #[.string r.1.Prefix, .int .i64 r.1.Group, .int .i64 r.1.Epoch, .int .i64 r.1.To] = v ∧ Sep w' (Blk p1 137 [v5002, .int .i64 r.2.2] :: Fo) (rSl (kI .u8) v5002 r.2.1 :: rs)) := by
 unfold m_letter_reader_mount at hm
 refine enter Try.func74 rfl Try.ntmps74 rfl fun a E => ?_
 simp only [enum, Nat.reduceAdd] at E
 refine wp_seq ?_
 refine wp_region_lit ?_
 refine st_box E H (wn rfl) rfl rfl (cs := [.pointer (some ⟨p1, 0, none⟩)]) rfl rfl rfl ?_
 clear E H; clear a; clear w; intro p6 w a H E
 refine st_alloc E H (wn rfl) rfl rfl (cs := [.string (ByteArray.mk #[]), .int .i64 0, .int .i64 0, .int .i64 0]) rfl (z := .agg #[.string ⟨#[]⟩, .int .i64 0, .int .i64 0, .int .i64 0]) (by kernel_rfl) rfl ?_
 clear E H; clear a; clear w; intro p7 w a H E
 refine wpList_nil ?_
 refine q_then ?_
 refine wp_seq ?_
 refine wp_region_lit ?_
 refine sv E rfl rfl rfl (x_fa E rfl rfl (v := .pointer (some ⟨p6, 0, none⟩)) (fa88_0 _ _)) ?_
 clear a E;intro a E
 refine sv E rfl rfl rfl (x_ldB (i := 1) E H rfl rfl rfl rfl Try.underlying85 rfl) ?_
 clear a E;intro a E
 replace H := H.front 1 rfl
 replace H := H.front 1 rfl
 replace H := H.front 2 rfl
 replace H : Sep w (Blk p1 137 [v2, .int .i64 x4] :: Blk p7 70 [.string (ByteArray.mk #[]), .int .i64 0, .int .i64 0, .int .i64 0] :: Blk p6 88 [.pointer (some ⟨p1, 0, none⟩)] :: Fo) (rs) := H
 obtain ⟨u8, hx9, hm⟩ := bnd hm
 refine st_call E (wn rfl) rfl rfl (x_call E rfl rfl (cf41 _)) (c_pack_Reader_Text p1 v2 l3 x4 H hr5 hx9) ?_
 clear E H; clear a; clear w; rintro _ w ⟨v10, rfl, H⟩ a E
 refine sv E rfl rfl rfl (x_build E (ps := [(0, .tmp 6)]) (vs := [(0, .string u8.1)]) rfl (by simp only [List.map]; rw [E.eval (x := .tmp 6) (v := .string u8.1) rfl]) (v := .agg #[.string u8.1, .int .i64 0, .int .i64 0, .int .i64 0]) (by kernel_rfl)) ?_
 clear a E;intro a E
 refine st_alloc E H (wn rfl) rfl rfl (cs := [.string (ByteArray.mk #[]), .int .i64 0, .int .i64 0, .int .i64 0]) rfl (z := .agg #[.string ⟨#[]⟩, .int .i64 0, .int .i64 0, .int .i64 0]) (by kernel_rfl) rfl ?_
 clear E H; clear a; clear w; intro p11 w a H E
 refine st_st (i := 0) E H (wn rfl) rfl (us := [.string u8.1, .int .i64 0, .int .i64 0, .int .i64 0]) rfl rfl rfl rfl rfl sz70 rfl rfl ?_
 clear H; clear w; intro w H
 replace H : Sep w (Blk p11 70 [.string u8.1, .int .i64 0, .int .i64 0, .int .i64 0] :: Blk p1 137 [v10, .int .i64 u8.2.2] :: Blk p7 70 [.string (ByteArray.mk #[]), .int .i64 0, .int .i64 0, .int .i64 0] :: Blk p6 88 [.pointer (some ⟨p1, 0, none⟩)] :: Fo) _ := H
 refine wpList_nil ?_
 refine q_then ?_
 refine wp_seq ?_
 refine wp_region_lit ?_
 refine sv E rfl rfl rfl (x_ldBN (i := 3) (us := [.pointer (some ⟨p1, 0, none⟩)]) E H rfl rfl rfl rfl Try.underlying88 rfl sz88) ?_
 clear a E;intro a E
 replace H := H.front 3 rfl
 replace H := H.front 3 rfl
 replace H := H.front 2 rfl
 replace H := H.front 3 rfl
 replace H : Sep w (Blk p1 137 [v10, .int .i64 u8.2.2] :: Blk p11 70 [.string u8.1, .int .i64 0, .int .i64 0, .int .i64 0] :: Blk p7 70 [.string (ByteArray.mk #[]), .int .i64 0, .int .i64 0, .int .i64 0] :: Blk p6 88 [.pointer (some ⟨p1, 0, none⟩)] :: Fo) (rSl (kI .u8) v10 u8.2.1 :: rs) := H
 obtain ⟨u12, hx13, hm⟩ := bnd hm
 refine st_call E (wn rfl) rfl rfl (x_call E rfl rfl (cf38 _)) (c_letter_reader_small p1 v10 u8.2.1 u8.2.2 H (.head _) hx13) ?_
 clear E H; clear a; clear w; rintro _ w ⟨v14, rfl, H⟩ a E
 refine sv E rfl rfl rfl (x_fa E rfl rfl (v := .pointer (some ⟨p11, 1, none⟩)) (fa70_1 _ _)) ?_
 clear a E;intro a E
 refine st_st (i := 1) E H (wn rfl) rfl (us := [.int .i64 u12.1]) rfl rfl rfl rfl rfl sz3 rfl rfl ?_
 clear H; clear w; intro w H
 replace H : Sep w (Blk p1 137 [v14, .int .i64 u12.2.2] :: Blk p11 70 [.string u8.1, .int .i64 u12.1, .int .i64 0, .int .i64 0] :: Blk p7 70 [.string (ByteArray.mk #[]), .int .i64 0, .int .i64 0, .int .i64 0] :: Blk p6 88 [.pointer (some ⟨p1, 0, none⟩)] :: Fo) _ := H
 refine wpList_nil ?_
 refine q_then ?_
 refine wp_seq ?_
 refine wp_region_lit ?_
 refine sv E rfl rfl rfl (x_ldBN (i := 3) (us := [.pointer (some ⟨p1, 0, none⟩)]) E H rfl rfl rfl rfl Try.underlying88 rfl sz88) ?_
 clear a E;intro a E
 obtain ⟨u15, hx16, hm⟩ := bnd hm
 refine st_call E (wn rfl) rfl rfl (x_call E rfl rfl (cf39 _)) (c_letter_reader_num p1 v14 u12.2.1 u12.2.2 H (.head _) hx16) ?_
 clear E H; clear a; clear w; rintro _ w ⟨v17, rfl, H⟩ a E
 refine sv E rfl rfl rfl (x_fa E rfl rfl (v := .pointer (some ⟨p11, 2, none⟩)) (fa70_2 _ _)) ?_
 clear a E;intro a E
 refine st_st (i := 1) E H (wn rfl) rfl (us := [.int .i64 u15.1]) rfl rfl rfl rfl rfl sz2 rfl rfl ?_
 clear H; clear w; intro w H
 replace H : Sep w (Blk p1 137 [v17, .int .i64 u15.2.2] :: Blk p11 70 [.string u8.1, .int .i64 u12.1, .int .i64 u15.1, .int .i64 0] :: Blk p7 70 [.string (ByteArray.mk #[]), .int .i64 0, .int .i64 0, .int .i64 0] :: Blk p6 88 [.pointer (some ⟨p1, 0, none⟩)] :: Fo) _ := H
 refine wpList_nil ?_
 refine q_then ?_
 refine wp_seq ?_
 refine wp_region_lit ?_
 refine sv E rfl rfl rfl (x_ldBN (i := 3) (us := [.pointer (some ⟨p1, 0, none⟩)]) E H rfl rfl rfl rfl Try.underlying88 rfl sz88) ?_
 clear a E;intro a E
 obtain ⟨u18, hx19, hm⟩ := bnd hm
 refine st_call E (wn rfl) rfl rfl (x_call E rfl rfl (cf38 _)) (c_letter_reader_small p1 v17 u15.2.1 u15.2.2 H (.head _) hx19) ?_
 clear E H; clear a; clear w; rintro _ w ⟨v20, rfl, H⟩ a E
 refine sv E rfl rfl rfl (x_fa E rfl rfl (v := .pointer (some ⟨p11, 3, none⟩)) (fa70_3 _ _)) ?_
 clear a E;intro a E
 refine st_st (i := 1) E H (wn rfl) rfl (us := [.int .i64 u18.1]) rfl rfl rfl rfl rfl sz3 rfl rfl ?_
 clear H; clear w; intro w H
 replace H : Sep w (Blk p1 137 [v20, .int .i64 u18.2.2] :: Blk p11 70 [.string u8.1, .int .i64 u12.1, .int .i64 u15.1, .int .i64 u18.1] :: Blk p7 70 [.string (ByteArray.mk #[]), .int .i64 0, .int .i64 0, .int .i64 0] :: Blk p6 88 [.pointer (some ⟨p1, 0, none⟩)] :: Fo) _ := H
 refine wpList_nil ?_
 refine q_then ?_
 refine wp_seq ?_
 refine wp_region_lit ?_
 refine sv E rfl rfl rfl (x_ldBN (i := 1) (us := [.string u8.1, .int .i64 u12.1, .int .i64 u15.1, .int .i64 u18.1]) E H rfl rfl rfl rfl Try.underlying70 rfl sz70) ?_
 clear a E;intro a E
 refine st_st (i := 2) E H (wn rfl) rfl (us := [.string u8.1, .int .i64 u12.1, .int .i64 u15.1, .int .i64 u18.1]) rfl rfl rfl rfl rfl sz70 rfl rfl ?_
 clear H; clear w; intro w H
 replace H : Sep w (Blk p1 137 [v20, .int .i64 u18.2.2] :: Blk p11 70 [.string u8.1, .int .i64 u12.1, .int .i64 u15.1, .int .i64 u18.1] :: Blk p7 70 [.string u8.1, .int .i64 u12.1, .int .i64 u15.1, .int .i64 u18.1] :: Blk p6 88 [.pointer (some ⟨p1, 0, none⟩)] :: Fo) _ := H
 refine wpList_nil ?_
 refine q_then ?_
 refine wp_ret ?_
 refine outR1 E rfl (rvBN (i := 2) (us := [.string u8.1, .int .i64 u12.1, .int .i64 u15.1, .int .i64 u18.1]) H rfl rfl rfl Try.underlying70 rfl sz70) ?_
 replace H := H.drop 1
 replace H := H.drop 1
 replace H := H.drop 1
 obtain rfl := Option.some.inj hm
 exact ⟨v20, rfl, H.reads (sub_cons (.head _) (fun r hr => .tail _ (.tail _ (.tail _ (.tail _ (hr))))))⟩
end Go.Cb

set_option linter.unusedVariables false
set_option linter.unusedSimpArgs false
namespace Go.Cb
open Go.Proofs Go.RowKit
def m_letter_some_api_Mount_j1 (l8 : (List S_api_Mount)) (l10 : (List Int)) (x11 : Int) : Option ((List S_api_Mount) × (List Int) × Int) :=
  some (l8, l10, x11)
def m_letter_some_api_Mount_l1 : Nat → (List S_api_Mount) → Int → (List Int) → Int → Option ((List S_api_Mount) × (List Int) × Int)
  | 0, _, _, _, _ => none
  | k1 + 1, l19, x20, l22, x23 =>
    if (decide (x20 > 0)) = true then ((m_pack_Reader_Err l22 x23).bind fun u28 => if (x23 == 0) = true then ((m_letter_reader_mount l22 x23).bind fun u30 => (ck (l19.length + ([u30.1] : List S_api_Mount).length ≤ LIM)).bind fun u35 => m_letter_some_api_Mount_l1 k1 (l19 ++ ([u30.1] : List S_api_Mount)) (IntKind.i64.wrap (x20 - 1)) u30.2.1 u30.2.2) else (m_letter_some_api_Mount_j1 l19 l22 x23)) else (m_letter_some_api_Mount_j1 l19 l22 x23)
def m_letter_some_api_Mount (l3 : List Int) (x4 : Int) : Option ((List S_api_Mount) × (List Int) × Int) :=
  (m_letter_reader_num l3 x4).bind fun u15 => m_letter_some_api_Mount_l1 (u15.1.toNat + 2) [] u15.1 u15.2.1 u15.2.2
set_option maxRecDepth 20000 in
set_option maxHeartbeats 1000000 in
theorem c_letter_some_api_Mount {w : World} {Fo : List Ob} {rs : List Rp} (p1 : Nat) (v2 : Value) (l3 : List Int) (x4 : Int) (H : Sep w (Blk p1 137 [v2, .int .i64 x4] :: Fo) rs) (hr5 : rSl (kI .u8) v2 l3 ∈ rs) {r : (List S_api_Mount) × (List Int) × Int} (hm : m_letter_some_api_Mount l3 x4 = some r) :
    Calls Try.prog 73 [.agg #[.pointer (some ⟨p1, 0, none⟩)], .func (.func 74) #[.agg #[.pointer (some ⟨p1, 0, none⟩)]] #[]].toArray w (Ret fun v w' => ∃ (v5001 : Value) (v5003 : Value), v5001 = v ∧ Sep w' (Row 70 k_api_Mount v5001 r.1 :: Blk p1 137 [v5003, .int .i64 r.2.2] :: Fo) (rSl (kI .u8) v5003 r.2.1 :: rs)) := by
 unfold m_letter_some_api_Mount at hm
 refine enter Try.func73 rfl Try.ntmps73 rfl fun a E => ?_
 simp only [enum, Nat.reduceAdd] at E
 refine wp_seq ?_
 refine wp_region_lit ?_
 refine st_box E H (wn rfl) rfl rfl (cs := [.pointer (some ⟨p1, 0, none⟩)]) rfl rfl rfl ?_
 clear E H; clear a; clear w; intro p6 w a H E
 refine sv E rfl rfl rfl (x_assign E rfl rfl) ?_
 clear a E;intro a E
 refine wpList_nil ?_
 refine q_then ?_
 refine wp_seq ?_
 refine wp_region_lit ?_
 refine sv E rfl rfl rfl (x_assign E rfl rfl) ?_
 clear a E;intro a E
 refine wpList_nil ?_
 refine q_then ?_
 refine wp_seq_cut (fun a w => ∃ (v7 : Value) (v9 : Value) (l8 : (List S_api_Mount)) (l10 : (List Int)) (x11 : Int) (rs12 : List Rp), Env 25 a [(5, v7)] ∧ Sep w (Row 70 k_api_Mount v7 l8 :: Blk p1 137 [v9, .int .i64 x11] :: Fo) rs12 ∧ (∀ r, r ∈ rs → r ∈ rs12) ∧ rSl (kI .u8) v9 l10 ∈ rs12 ∧ m_letter_some_api_Mount_j1 l8 l10 x11 = some r) ?_ ?_
 ·refine wp_seq ?_
  refine wp_region_lit ?_
  refine sv E rfl rfl rfl (x_ldBN (i := 0) (us := [.pointer (some ⟨p1, 0, none⟩)]) E H rfl rfl rfl rfl Try.underlying88 rfl sz88) ?_
  clear a E;intro a E
  replace H := H.front 0 rfl
  replace H := H.front 1 rfl
  replace H : Sep w (Blk p1 137 [v2, .int .i64 x4] :: Blk p6 88 [.pointer (some ⟨p1, 0, none⟩)] :: Fo) (rs) := H
  obtain ⟨u15, hx16, hm⟩ := bnd hm
  refine st_call E (wn rfl) rfl rfl (x_call E rfl rfl (cf39 _)) (c_letter_reader_num p1 v2 l3 x4 H hr5 hx16) ?_
  clear E H; clear a; clear w; rintro _ w ⟨v17, rfl, H⟩ a E
  refine sv E rfl rfl rfl (x_assign E rfl rfl) ?_
  clear a E;intro a E
  refine wpList_nil ?_
  refine q_then ?_
  refine wp_block ?_
  refine wp_loop_g (fun k1 a w => ∃ (v18 : Value) (v21 : Value) (l19 : (List S_api_Mount)) (x20 : Int) (l22 : (List Int)) (x23 : Int) (rs24 : List Rp), Env 25 a [(1, .func (.func 74) #[.agg #[.pointer (some ⟨p1, 0, none⟩)]] #[]), (2, .pointer (some ⟨p6, 0, none⟩)), (5, v18), (6, .int .i64 x20)] ∧ Sep w (Blk p6 88 [.pointer (some ⟨p1, 0, none⟩)] :: Row 70 k_api_Mount v18 l19 :: Blk p1 137 [v21, .int .i64 x23] :: Fo) rs24 ∧ (∀ r, r ∈ rs → r ∈ rs24) ∧ rSl (kI .u8) v21 l22 ∈ rs24 ∧ m_letter_some_api_Mount_l1 k1 l19 x20 l22 x23 = some r) (u15.1.toNat + 2) ?_ ?_
  ·replace H := H.nilRow 70 k_api_Mount
   replace H := H.front 1 rfl
   replace H := H.front 1 rfl
   replace H := H.front 2 rfl
   exact ⟨(.slice none 0 0), v17, [], u15.1, u15.2.1, u15.2.2, _, ((((E.nil.keep E 6 rfl).keep E 5 rfl).keep E 2 rfl).keep E 1 rfl), H, fun r hr => .tail _ (hr), (.head _), hm⟩
  ·clear E H hm
   rintro k1 a w ⟨v18, v21, l19, x20, l22, x23, rs24, E, H, hs25, hr26, hm⟩
   cases k1 with
   | zero => exact (none_some hm rfl).elim
   | succ k1 =>
    unfold m_letter_some_api_Mount_l1 at hm
    refine wp_seq ?_
    refine wp_seq ?_
    refine wp_region_lit ?_
    refine sv E rfl rfl rfl (x_move E rfl rfl) ?_
    clear a E;intro a E
    refine sv E rfl rfl rfl (x_bin E rfl rfl rfl rfl) ?_
    clear a E;intro a E
    refine sv E rfl rfl rfl (x_move E rfl rfl) ?_
    clear a E;intro a E
    rcases Bool.eq_false_or_eq_true (decide (x20 > 0)) with hb27 | hb27
    ·rw [if_t hb27] at hm
     refine st_val E (ws' E rfl rfl rfl rfl hb27) rfl rfl (x_fa E rfl rfl (v := .pointer (some ⟨p6, 0, none⟩)) (fa88_0 _ _)) ?_
     clear a E;intro a E
     refine st_val E (ws' E rfl rfl rfl rfl hb27) rfl rfl (x_ldB (i := 0) E H rfl rfl rfl rfl Try.underlying85 rfl) ?_
     clear a E;intro a E
     replace H := H.front 1 rfl
     replace H := H.front 1 rfl
     replace H := H.front 2 rfl
     replace H : Sep w (Blk p1 137 [v21, .int .i64 x23] :: Blk p6 88 [.pointer (some ⟨p1, 0, none⟩)] :: Row 70 k_api_Mount v18 l19 :: Fo) (rs24) := H
     obtain ⟨u28, hx29, hm⟩ := bnd hm
     refine st_call E (ws' E rfl rfl rfl rfl hb27) rfl rfl (x_call E rfl rfl (cf88 _)) (c_pack_Reader_Err p1 v21 l22 x23 H hr26 hx29) ?_
     clear E H; clear a; clear w; rintro _ w ⟨rfl, H⟩ a E
     refine st_val E (ws' E rfl rfl rfl rfl hb27) rfl rfl (x_bin E rfl rfl rfl rfl) ?_
     clear a E;intro a E
     refine sv E rfl rfl rfl (x_pickT E rfl rfl hb27 rfl) ?_
     clear a E;intro a E
     refine wpList_nil ?_
     refine q_then ?_
     refine wp_if E rfl ?_ ?_
     ·intro hb
      rw [if_t hb] at hm
      clear hb
      refine wp_skip ?_
      refine q_then ?_
      refine wp_seq ?_
      refine wp_block ?_
      refine wp_region_lit ?_
      refine sv E rfl rfl rfl (x_move E rfl rfl) ?_
      clear a E;intro a E
      refine sv E rfl rfl rfl (x_move E rfl rfl) ?_
      clear a E;intro a E
      obtain ⟨u30, hx31, hm⟩ := bnd hm
      refine st_call E (wn rfl) rfl rfl (x_callv E rfl rfl rfl (cf74 _)) (c_letter_reader_mount p1 v21 l22 x23 H hr26 hx31) ?_
      clear E H; clear a; clear w; rintro _ w ⟨v32, rfl, H⟩ a E
      refine st_bsR (e := 70) (d := k_api_Mount) (cs := [.string u30.1.Prefix, .int .i64 u30.1.Group, .int .i64 u30.1.Epoch, .int .i64 u30.1.To]) (xs := [u30.1]) E H (wn rfl) rfl rfl (ps := [(0, .tmp 21)]) (parts := [(0, .agg #[.string u30.1.Prefix, .int .i64 u30.1.Group, .int .i64 u30.1.Epoch, .int .i64 u30.1.To])]) rfl (by simp only [List.map]; rw [E.eval (x := .tmp 21) (v := .agg #[.string u30.1.Prefix, .int .i64 u30.1.Group, .int .i64 u30.1.Epoch, .int .i64 u30.1.To]) rfl]) (by kernel_rfl) rfl (fun ok hr => (Rows.single (d := k_api_Mount) (cs := [.string u30.1.Prefix, .int .i64 u30.1.Group, .int .i64 u30.1.Epoch, .int .i64 u30.1.To]) (x := u30.1) k_api_Mount_mk)) ?_
      clear E H; clear a; clear w; intro v33 w a H E
      obtain ⟨u35, hx36, hm⟩ := bnd hm
      refine st_append (i := 2) E H (wn rfl) rfl rfl rfl rfl rfl rfl (src_rd (.head _)) Try.underlying47 inf70 rfl (ck_of hx36) rfl ?_
      clear E H; clear a; clear w; intro v34 w a H E
      refine sv E rfl rfl rfl (x_assign E rfl rfl) ?_
      clear a E;intro a E
      refine wpList_nil ?_
      refine q_blk ?_
      refine q_then ?_
      refine wp_region_lit ?_
      refine sv E rfl rfl rfl (x_move E rfl rfl) ?_
      clear a E;intro a E
      refine sv E rfl rfl rfl (x_bin E rfl rfl rfl rfl) ?_
      clear a E;intro a E
      refine sv E rfl rfl rfl (x_assign E rfl rfl) ?_
      clear a E;intro a E
      refine wpList_nil ?_
      refine q_then ?_
      replace H := H.front 0 rfl
      replace H := H.front 2 rfl
      replace H := H.front 2 rfl
      exact ⟨k1, Nat.lt_succ_self k1, v34, v32, l19 ++ ([u30.1] : List S_api_Mount), IntKind.i64.wrap (x20 - 1), u30.2.1, u30.2.2, _, ((((E.nil.keep E 6 rfl).keep E 5 rfl).keep E 2 rfl).keep E 1 rfl), H, fun r hr => .tail _ (.tail _ (hs25 r hr)), (.tail _ (.head _)), hm⟩
     ·intro hb
      rw [if_f hb] at hm
      clear hb
      refine wp_exit ?_
      refine q_thenX ?_
      refine q_thenX ?_
      refine q_hit ?_
      refine q_then ?_
      replace H := H.drop 1
      replace H := H.front 0 rfl
      replace H := H.front 1 rfl
      exact ⟨v18, v21, l19, l22, x23, _, (E.nil.keep E 5 rfl), H, hs25, hr26, hm⟩
    ·rw [if_f hb27] at hm
     refine st_no E (wf' E rfl rfl rfl rfl hb27 rfl) rfl rfl ?_
     clear a E;intro a E
     refine st_no E (wf' E rfl rfl rfl rfl hb27 rfl) rfl rfl ?_
     clear a E;intro a E
     refine st_no E (wf' E rfl rfl rfl rfl hb27 rfl) rfl rfl ?_
     clear a E;intro a E
     refine st_no E (wf' E rfl rfl rfl rfl hb27 rfl) rfl rfl ?_
     clear a E;intro a E
     refine sv E rfl rfl rfl (x_pickF E rfl rfl hb27 rfl) ?_
     clear a E;intro a E
     refine wpList_nil ?_
     refine q_then ?_
     refine wp_cond_false (E.eval rfl) ?_
     refine wp_exit ?_
     refine q_thenX ?_
     refine q_thenX ?_
     refine q_hit ?_
     refine q_then ?_
     replace H := H.drop 0
     exact ⟨v18, v21, l19, l22, x23, _, (E.nil.keep E 5 rfl), H, hs25, hr26, hm⟩
 ·clear E H hm
  rintro a w ⟨v7, v9, l8, l10, x11, rs12, E, H, hs13, hr14, hm⟩
  unfold m_letter_some_api_Mount_j1 at hm
  refine wp_seq ?_
  refine wp_region_lit ?_
  refine sv E rfl rfl rfl (x_move E rfl rfl) ?_
  clear a E;intro a E
  refine sv E rfl rfl rfl (x_assign E rfl rfl) ?_
  clear a E;intro a E
  refine wpList_nil ?_
  refine q_then ?_
  refine wp_ret ?_
  refine out1 E rfl rfl ?_
  obtain rfl := Option.some.inj hm
  exact ⟨v7, v9, rfl, H.reads (sub_cons hr14 (fun r hr => hs13 r hr))⟩
end Go.Cb

set_option linter.unusedVariables false
set_option linter.unusedSimpArgs false
namespace Go.Cb
open Go.Proofs Go.RowKit
def m_letter_reader_node (l3 : List Int) (x4 : Int) : Option (S_api_Node × (List Int) × Int) :=
  (m_pack_Reader_Text l3 x4).bind fun u8 => (m_pack_Reader_Text u8.2.1 u8.2.2).bind fun u12 => (m_letter_reader_num u12.2.1 u12.2.2).bind fun u15 => (m_letter_reader_num u15.2.1 u15.2.2).bind fun u18 => some ((⟨u8.1, u12.1, u15.1, 0, u18.1⟩ : S_api_Node), u18.2.1, u18.2.2)
set_option maxRecDepth 20000 in
set_option maxHeartbeats 1000000 in
theorem c_letter_reader_node {w : World} {Fo : List Ob} {rs : List Rp} (p1 : Nat) (v2 : Value) (l3 : List Int) (x4 : Int) (H : Sep w (Blk p1 137 [v2, .int .i64 x4] :: Fo) rs) (hr5 : rSl (kI .u8) v2 l3 ∈ rs) {r : S_api_Node × (List Int) × Int} (hm : m_letter_reader_node l3 x4 = some r) :
    Calls Try.prog 68 [.agg #[.pointer (some ⟨p1, 0, none⟩)]].toArray w (Ret fun v w' => ∃ (v5002 : Value), .agg #[.string r.1.Path, .string r.1.Data, .int .i64 r.1.Version, .int .i64 r.1.Turn, .int .i64 r.1.Owner] = v ∧ Sep w' (Blk p1 137 [v5002, .int .i64 r.2.2] :: Fo) (rSl (kI .u8) v5002 r.2.1 :: rs)) := by
 unfold m_letter_reader_node at hm
 refine enter Try.func68 rfl Try.ntmps68 rfl fun a E => ?_
 simp only [enum, Nat.reduceAdd] at E
 refine wp_seq ?_
 refine wp_region_lit ?_
 refine st_box E H (wn rfl) rfl rfl (cs := [.pointer (some ⟨p1, 0, none⟩)]) rfl rfl rfl ?_
 clear E H; clear a; clear w; intro p6 w a H E
 refine st_alloc E H (wn rfl) rfl rfl (cs := [.string (ByteArray.mk #[]), .string (ByteArray.mk #[]), .int .i64 0, .int .i64 0, .int .i64 0]) rfl (z := .agg #[.string ⟨#[]⟩, .string ⟨#[]⟩, .int .i64 0, .int .i64 0, .int .i64 0]) (by kernel_rfl) rfl ?_
 clear E H; clear a; clear w; intro p7 w a H E
 refine wpList_nil ?_
 refine q_then ?_
 refine wp_seq ?_
 refine wp_region_lit ?_
 refine sv E rfl rfl rfl (x_fa E rfl rfl (v := .pointer (some ⟨p6, 0, none⟩)) (fa88_0 _ _)) ?_
 clear a E;intro a E
 refine sv E rfl rfl rfl (x_ldB (i := 1) E H rfl rfl rfl rfl Try.underlying85 rfl) ?_
 clear a E;intro a E
 replace H := H.front 1 rfl
 replace H := H.front 1 rfl
 replace H := H.front 2 rfl
 replace H : Sep w (Blk p1 137 [v2, .int .i64 x4] :: Blk p7 64 [.string (ByteArray.mk #[]), .string (ByteArray.mk #[]), .int .i64 0, .int .i64 0, .int .i64 0] :: Blk p6 88 [.pointer (some ⟨p1, 0, none⟩)] :: Fo) (rs) := H
 obtain ⟨u8, hx9, hm⟩ := bnd hm
 refine st_call E (wn rfl) rfl rfl (x_call E rfl rfl (cf41 _)) (c_pack_Reader_Text p1 v2 l3 x4 H hr5 hx9) ?_
 clear E H; clear a; clear w; rintro _ w ⟨v10, rfl, H⟩ a E
 refine sv E rfl rfl rfl (x_build E (ps := [(0, .tmp 6)]) (vs := [(0, .string u8.1)]) rfl (by simp only [List.map]; rw [E.eval (x := .tmp 6) (v := .string u8.1) rfl]) (v := .agg #[.string u8.1, .string (ByteArray.mk #[]), .int .i64 0, .int .i64 0, .int .i64 0]) (by kernel_rfl)) ?_
 clear a E;intro a E
 refine st_alloc E H (wn rfl) rfl rfl (cs := [.string (ByteArray.mk #[]), .string (ByteArray.mk #[]), .int .i64 0, .int .i64 0, .int .i64 0]) rfl (z := .agg #[.string ⟨#[]⟩, .string ⟨#[]⟩, .int .i64 0, .int .i64 0, .int .i64 0]) (by kernel_rfl) rfl ?_
 clear E H; clear a; clear w; intro p11 w a H E
 refine st_st (i := 0) E H (wn rfl) rfl (us := [.string u8.1, .string (ByteArray.mk #[]), .int .i64 0, .int .i64 0, .int .i64 0]) rfl rfl rfl rfl rfl sz64 rfl rfl ?_
 clear H; clear w; intro w H
 replace H : Sep w (Blk p11 64 [.string u8.1, .string (ByteArray.mk #[]), .int .i64 0, .int .i64 0, .int .i64 0] :: Blk p1 137 [v10, .int .i64 u8.2.2] :: Blk p7 64 [.string (ByteArray.mk #[]), .string (ByteArray.mk #[]), .int .i64 0, .int .i64 0, .int .i64 0] :: Blk p6 88 [.pointer (some ⟨p1, 0, none⟩)] :: Fo) _ := H
 refine wpList_nil ?_
 refine q_then ?_
 refine wp_seq ?_
 refine wp_region_lit ?_
 refine sv E rfl rfl rfl (x_fa E rfl rfl (v := .pointer (some ⟨p6, 0, none⟩)) (fa88_0 _ _)) ?_
 clear a E;intro a E
 refine sv E rfl rfl rfl (x_ldB (i := 3) E H rfl rfl rfl rfl Try.underlying85 rfl) ?_
 clear a E;intro a E
 replace H := H.front 3 rfl
 replace H := H.front 3 rfl
 replace H := H.front 2 rfl
 replace H := H.front 3 rfl
 replace H : Sep w (Blk p1 137 [v10, .int .i64 u8.2.2] :: Blk p11 64 [.string u8.1, .string (ByteArray.mk #[]), .int .i64 0, .int .i64 0, .int .i64 0] :: Blk p7 64 [.string (ByteArray.mk #[]), .string (ByteArray.mk #[]), .int .i64 0, .int .i64 0, .int .i64 0] :: Blk p6 88 [.pointer (some ⟨p1, 0, none⟩)] :: Fo) (rSl (kI .u8) v10 u8.2.1 :: rs) := H
 obtain ⟨u12, hx13, hm⟩ := bnd hm
 refine st_call E (wn rfl) rfl rfl (x_call E rfl rfl (cf41 _)) (c_pack_Reader_Text p1 v10 u8.2.1 u8.2.2 H (.head _) hx13) ?_
 clear E H; clear a; clear w; rintro _ w ⟨v14, rfl, H⟩ a E
 refine sv E rfl rfl rfl (x_fa E rfl rfl (v := .pointer (some ⟨p11, 1, none⟩)) (fa64_1 _ _)) ?_
 clear a E;intro a E
 refine st_st (i := 1) E H (wn rfl) rfl (us := [.string u12.1]) rfl rfl rfl rfl rfl sz9 rfl rfl ?_
 clear H; clear w; intro w H
 replace H : Sep w (Blk p1 137 [v14, .int .i64 u12.2.2] :: Blk p11 64 [.string u8.1, .string u12.1, .int .i64 0, .int .i64 0, .int .i64 0] :: Blk p7 64 [.string (ByteArray.mk #[]), .string (ByteArray.mk #[]), .int .i64 0, .int .i64 0, .int .i64 0] :: Blk p6 88 [.pointer (some ⟨p1, 0, none⟩)] :: Fo) _ := H
 refine wpList_nil ?_
 refine q_then ?_
 refine wp_seq ?_
 refine wp_region_lit ?_
 refine sv E rfl rfl rfl (x_ldBN (i := 3) (us := [.pointer (some ⟨p1, 0, none⟩)]) E H rfl rfl rfl rfl Try.underlying88 rfl sz88) ?_
 clear a E;intro a E
 obtain ⟨u15, hx16, hm⟩ := bnd hm
 refine st_call E (wn rfl) rfl rfl (x_call E rfl rfl (cf39 _)) (c_letter_reader_num p1 v14 u12.2.1 u12.2.2 H (.head _) hx16) ?_
 clear E H; clear a; clear w; rintro _ w ⟨v17, rfl, H⟩ a E
 refine sv E rfl rfl rfl (x_fa E rfl rfl (v := .pointer (some ⟨p11, 2, none⟩)) (fa64_2 _ _)) ?_
 clear a E;intro a E
 refine st_st (i := 1) E H (wn rfl) rfl (us := [.int .i64 u15.1]) rfl rfl rfl rfl rfl sz2 rfl rfl ?_
 clear H; clear w; intro w H
 replace H : Sep w (Blk p1 137 [v17, .int .i64 u15.2.2] :: Blk p11 64 [.string u8.1, .string u12.1, .int .i64 u15.1, .int .i64 0, .int .i64 0] :: Blk p7 64 [.string (ByteArray.mk #[]), .string (ByteArray.mk #[]), .int .i64 0, .int .i64 0, .int .i64 0] :: Blk p6 88 [.pointer (some ⟨p1, 0, none⟩)] :: Fo) _ := H
 refine wpList_nil ?_
 refine q_then ?_
 refine wp_seq ?_
 refine wp_region_lit ?_
 refine sv E rfl rfl rfl (x_ldBN (i := 3) (us := [.pointer (some ⟨p1, 0, none⟩)]) E H rfl rfl rfl rfl Try.underlying88 rfl sz88) ?_
 clear a E;intro a E
 obtain ⟨u18, hx19, hm⟩ := bnd hm
 refine st_call E (wn rfl) rfl rfl (x_call E rfl rfl (cf39 _)) (c_letter_reader_num p1 v17 u15.2.1 u15.2.2 H (.head _) hx19) ?_
 clear E H; clear a; clear w; rintro _ w ⟨v20, rfl, H⟩ a E
 refine sv E rfl rfl rfl (x_fa E rfl rfl (v := .pointer (some ⟨p11, 4, none⟩)) (fa64_4 _ _)) ?_
 clear a E;intro a E
 refine st_st (i := 1) E H (wn rfl) rfl (us := [.int .i64 u18.1]) rfl rfl rfl rfl rfl sz2 rfl rfl ?_
 clear H; clear w; intro w H
 replace H : Sep w (Blk p1 137 [v20, .int .i64 u18.2.2] :: Blk p11 64 [.string u8.1, .string u12.1, .int .i64 u15.1, .int .i64 0, .int .i64 u18.1] :: Blk p7 64 [.string (ByteArray.mk #[]), .string (ByteArray.mk #[]), .int .i64 0, .int .i64 0, .int .i64 0] :: Blk p6 88 [.pointer (some ⟨p1, 0, none⟩)] :: Fo) _ := H
 refine wpList_nil ?_
 refine q_then ?_
 refine wp_seq ?_
 refine wp_region_lit ?_
 refine sv E rfl rfl rfl (x_ldBN (i := 1) (us := [.string u8.1, .string u12.1, .int .i64 u15.1, .int .i64 0, .int .i64 u18.1]) E H rfl rfl rfl rfl Try.underlying64 rfl sz64) ?_
 clear a E;intro a E
 refine st_st (i := 2) E H (wn rfl) rfl (us := [.string u8.1, .string u12.1, .int .i64 u15.1, .int .i64 0, .int .i64 u18.1]) rfl rfl rfl rfl rfl sz64 rfl rfl ?_
 clear H; clear w; intro w H
 replace H : Sep w (Blk p1 137 [v20, .int .i64 u18.2.2] :: Blk p11 64 [.string u8.1, .string u12.1, .int .i64 u15.1, .int .i64 0, .int .i64 u18.1] :: Blk p7 64 [.string u8.1, .string u12.1, .int .i64 u15.1, .int .i64 0, .int .i64 u18.1] :: Blk p6 88 [.pointer (some ⟨p1, 0, none⟩)] :: Fo) _ := H
 refine wpList_nil ?_
 refine q_then ?_
 refine wp_ret ?_
 refine outR1 E rfl (rvBN (i := 2) (us := [.string u8.1, .string u12.1, .int .i64 u15.1, .int .i64 0, .int .i64 u18.1]) H rfl rfl rfl Try.underlying64 rfl sz64) ?_
 replace H := H.drop 1
 replace H := H.drop 1
 replace H := H.drop 1
 obtain rfl := Option.some.inj hm
 exact ⟨v20, rfl, H.reads (sub_cons (.head _) (fun r hr => .tail _ (.tail _ (.tail _ (.tail _ (hr))))))⟩
end Go.Cb

set_option linter.unusedVariables false
set_option linter.unusedSimpArgs false
namespace Go.Cb
open Go.Proofs Go.RowKit
def m_letter_some_api_Node_j1 (l8 : (List S_api_Node)) (l10 : (List Int)) (x11 : Int) : Option ((List S_api_Node) × (List Int) × Int) :=
  some (l8, l10, x11)
def m_letter_some_api_Node_l1 : Nat → (List S_api_Node) → Int → (List Int) → Int → Option ((List S_api_Node) × (List Int) × Int)
  | 0, _, _, _, _ => none
  | k1 + 1, l19, x20, l22, x23 =>
    if (decide (x20 > 0)) = true then ((m_pack_Reader_Err l22 x23).bind fun u28 => if (x23 == 0) = true then ((m_letter_reader_node l22 x23).bind fun u30 => (ck (l19.length + ([u30.1] : List S_api_Node).length ≤ LIM)).bind fun u35 => m_letter_some_api_Node_l1 k1 (l19 ++ ([u30.1] : List S_api_Node)) (IntKind.i64.wrap (x20 - 1)) u30.2.1 u30.2.2) else (m_letter_some_api_Node_j1 l19 l22 x23)) else (m_letter_some_api_Node_j1 l19 l22 x23)
def m_letter_some_api_Node (l3 : List Int) (x4 : Int) : Option ((List S_api_Node) × (List Int) × Int) :=
  (m_letter_reader_num l3 x4).bind fun u15 => m_letter_some_api_Node_l1 (u15.1.toNat + 2) [] u15.1 u15.2.1 u15.2.2
set_option maxRecDepth 20000 in
set_option maxHeartbeats 1000000 in
theorem c_letter_some_api_Node {w : World} {Fo : List Ob} {rs : List Rp} (p1 : Nat) (v2 : Value) (l3 : List Int) (x4 : Int) (H : Sep w (Blk p1 137 [v2, .int .i64 x4] :: Fo) rs) (hr5 : rSl (kI .u8) v2 l3 ∈ rs) {r : (List S_api_Node) × (List Int) × Int} (hm : m_letter_some_api_Node l3 x4 = some r) :
    Calls Try.prog 67 [.agg #[.pointer (some ⟨p1, 0, none⟩)], .func (.func 68) #[.agg #[.pointer (some ⟨p1, 0, none⟩)]] #[]].toArray w (Ret fun v w' => ∃ (v5001 : Value) (v5003 : Value), v5001 = v ∧ Sep w' (Row 64 k_api_Node v5001 r.1 :: Blk p1 137 [v5003, .int .i64 r.2.2] :: Fo) (rSl (kI .u8) v5003 r.2.1 :: rs)) := by
 unfold m_letter_some_api_Node at hm
 refine enter Try.func67 rfl Try.ntmps67 rfl fun a E => ?_
 simp only [enum, Nat.reduceAdd] at E
 refine wp_seq ?_
 refine wp_region_lit ?_
 refine st_box E H (wn rfl) rfl rfl (cs := [.pointer (some ⟨p1, 0, none⟩)]) rfl rfl rfl ?_
 clear E H; clear a; clear w; intro p6 w a H E
 refine sv E rfl rfl rfl (x_assign E rfl rfl) ?_
 clear a E;intro a E
 refine wpList_nil ?_
 refine q_then ?_
 refine wp_seq ?_
 refine wp_region_lit ?_
 refine sv E rfl rfl rfl (x_assign E rfl rfl) ?_
 clear a E;intro a E
 refine wpList_nil ?_
 refine q_then ?_
 refine wp_seq_cut (fun a w => ∃ (v7 : Value) (v9 : Value) (l8 : (List S_api_Node)) (l10 : (List Int)) (x11 : Int) (rs12 : List Rp), Env 25 a [(5, v7)] ∧ Sep w (Row 64 k_api_Node v7 l8 :: Blk p1 137 [v9, .int .i64 x11] :: Fo) rs12 ∧ (∀ r, r ∈ rs → r ∈ rs12) ∧ rSl (kI .u8) v9 l10 ∈ rs12 ∧ m_letter_some_api_Node_j1 l8 l10 x11 = some r) ?_ ?_
 ·refine wp_seq ?_
  refine wp_region_lit ?_
  refine sv E rfl rfl rfl (x_ldBN (i := 0) (us := [.pointer (some ⟨p1, 0, none⟩)]) E H rfl rfl rfl rfl Try.underlying88 rfl sz88) ?_
  clear a E;intro a E
  replace H := H.front 0 rfl
  replace H := H.front 1 rfl
  replace H : Sep w (Blk p1 137 [v2, .int .i64 x4] :: Blk p6 88 [.pointer (some ⟨p1, 0, none⟩)] :: Fo) (rs) := H
  obtain ⟨u15, hx16, hm⟩ := bnd hm
  refine st_call E (wn rfl) rfl rfl (x_call E rfl rfl (cf39 _)) (c_letter_reader_num p1 v2 l3 x4 H hr5 hx16) ?_
  clear E H; clear a; clear w; rintro _ w ⟨v17, rfl, H⟩ a E
  refine sv E rfl rfl rfl (x_assign E rfl rfl) ?_
  clear a E;intro a E
  refine wpList_nil ?_
  refine q_then ?_
  refine wp_block ?_
  refine wp_loop_g (fun k1 a w => ∃ (v18 : Value) (v21 : Value) (l19 : (List S_api_Node)) (x20 : Int) (l22 : (List Int)) (x23 : Int) (rs24 : List Rp), Env 25 a [(1, .func (.func 68) #[.agg #[.pointer (some ⟨p1, 0, none⟩)]] #[]), (2, .pointer (some ⟨p6, 0, none⟩)), (5, v18), (6, .int .i64 x20)] ∧ Sep w (Blk p6 88 [.pointer (some ⟨p1, 0, none⟩)] :: Row 64 k_api_Node v18 l19 :: Blk p1 137 [v21, .int .i64 x23] :: Fo) rs24 ∧ (∀ r, r ∈ rs → r ∈ rs24) ∧ rSl (kI .u8) v21 l22 ∈ rs24 ∧ m_letter_some_api_Node_l1 k1 l19 x20 l22 x23 = some r) (u15.1.toNat + 2) ?_ ?_
  ·replace H := H.nilRow 64 k_api_Node
   replace H := H.front 1 rfl
   replace H := H.front 1 rfl
   replace H := H.front 2 rfl
   exact ⟨(.slice none 0 0), v17, [], u15.1, u15.2.1, u15.2.2, _, ((((E.nil.keep E 6 rfl).keep E 5 rfl).keep E 2 rfl).keep E 1 rfl), H, fun r hr => .tail _ (hr), (.head _), hm⟩
  ·clear E H hm
   rintro k1 a w ⟨v18, v21, l19, x20, l22, x23, rs24, E, H, hs25, hr26, hm⟩
   cases k1 with
   | zero => exact (none_some hm rfl).elim
   | succ k1 =>
    unfold m_letter_some_api_Node_l1 at hm
    refine wp_seq ?_
    refine wp_seq ?_
    refine wp_region_lit ?_
    refine sv E rfl rfl rfl (x_move E rfl rfl) ?_
    clear a E;intro a E
    refine sv E rfl rfl rfl (x_bin E rfl rfl rfl rfl) ?_
    clear a E;intro a E
    refine sv E rfl rfl rfl (x_move E rfl rfl) ?_
    clear a E;intro a E
    rcases Bool.eq_false_or_eq_true (decide (x20 > 0)) with hb27 | hb27
    ·rw [if_t hb27] at hm
     refine st_val E (ws' E rfl rfl rfl rfl hb27) rfl rfl (x_fa E rfl rfl (v := .pointer (some ⟨p6, 0, none⟩)) (fa88_0 _ _)) ?_
     clear a E;intro a E
     refine st_val E (ws' E rfl rfl rfl rfl hb27) rfl rfl (x_ldB (i := 0) E H rfl rfl rfl rfl Try.underlying85 rfl) ?_
     clear a E;intro a E
     replace H := H.front 1 rfl
     replace H := H.front 1 rfl
     replace H := H.front 2 rfl
     replace H : Sep w (Blk p1 137 [v21, .int .i64 x23] :: Blk p6 88 [.pointer (some ⟨p1, 0, none⟩)] :: Row 64 k_api_Node v18 l19 :: Fo) (rs24) := H
     obtain ⟨u28, hx29, hm⟩ := bnd hm
     refine st_call E (ws' E rfl rfl rfl rfl hb27) rfl rfl (x_call E rfl rfl (cf88 _)) (c_pack_Reader_Err p1 v21 l22 x23 H hr26 hx29) ?_
     clear E H; clear a; clear w; rintro _ w ⟨rfl, H⟩ a E
     refine st_val E (ws' E rfl rfl rfl rfl hb27) rfl rfl (x_bin E rfl rfl rfl rfl) ?_
     clear a E;intro a E
     refine sv E rfl rfl rfl (x_pickT E rfl rfl hb27 rfl) ?_
     clear a E;intro a E
     refine wpList_nil ?_
     refine q_then ?_
     refine wp_if E rfl ?_ ?_
     ·intro hb
      rw [if_t hb] at hm
      clear hb
      refine wp_skip ?_
      refine q_then ?_
      refine wp_seq ?_
      refine wp_block ?_
      refine wp_region_lit ?_
      refine sv E rfl rfl rfl (x_move E rfl rfl) ?_
      clear a E;intro a E
      refine sv E rfl rfl rfl (x_move E rfl rfl) ?_
      clear a E;intro a E
      obtain ⟨u30, hx31, hm⟩ := bnd hm
      refine st_call E (wn rfl) rfl rfl (x_callv E rfl rfl rfl (cf68 _)) (c_letter_reader_node p1 v21 l22 x23 H hr26 hx31) ?_
      clear E H; clear a; clear w; rintro _ w ⟨v32, rfl, H⟩ a E
      refine st_bsR (e := 64) (d := k_api_Node) (cs := [.string u30.1.Path, .string u30.1.Data, .int .i64 u30.1.Version, .int .i64 u30.1.Turn, .int .i64 u30.1.Owner]) (xs := [u30.1]) E H (wn rfl) rfl rfl (ps := [(0, .tmp 21)]) (parts := [(0, .agg #[.string u30.1.Path, .string u30.1.Data, .int .i64 u30.1.Version, .int .i64 u30.1.Turn, .int .i64 u30.1.Owner])]) rfl (by simp only [List.map]; rw [E.eval (x := .tmp 21) (v := .agg #[.string u30.1.Path, .string u30.1.Data, .int .i64 u30.1.Version, .int .i64 u30.1.Turn, .int .i64 u30.1.Owner]) rfl]) (by kernel_rfl) rfl (fun ok hr => (Rows.single (d := k_api_Node) (cs := [.string u30.1.Path, .string u30.1.Data, .int .i64 u30.1.Version, .int .i64 u30.1.Turn, .int .i64 u30.1.Owner]) (x := u30.1) k_api_Node_mk)) ?_
      clear E H; clear a; clear w; intro v33 w a H E
      obtain ⟨u35, hx36, hm⟩ := bnd hm
      refine st_append (i := 2) E H (wn rfl) rfl rfl rfl rfl rfl rfl (src_rd (.head _)) Try.underlying42 inf64 rfl (ck_of hx36) rfl ?_
      clear E H; clear a; clear w; intro v34 w a H E
      refine sv E rfl rfl rfl (x_assign E rfl rfl) ?_
      clear a E;intro a E
      refine wpList_nil ?_
      refine q_blk ?_
      refine q_then ?_
      refine wp_region_lit ?_
      refine sv E rfl rfl rfl (x_move E rfl rfl) ?_
      clear a E;intro a E
      refine sv E rfl rfl rfl (x_bin E rfl rfl rfl rfl) ?_
      clear a E;intro a E
      refine sv E rfl rfl rfl (x_assign E rfl rfl) ?_
      clear a E;intro a E
      refine wpList_nil ?_
      refine q_then ?_
      replace H := H.front 0 rfl
      replace H := H.front 2 rfl
      replace H := H.front 2 rfl
      exact ⟨k1, Nat.lt_succ_self k1, v34, v32, l19 ++ ([u30.1] : List S_api_Node), IntKind.i64.wrap (x20 - 1), u30.2.1, u30.2.2, _, ((((E.nil.keep E 6 rfl).keep E 5 rfl).keep E 2 rfl).keep E 1 rfl), H, fun r hr => .tail _ (.tail _ (hs25 r hr)), (.tail _ (.head _)), hm⟩
     ·intro hb
      rw [if_f hb] at hm
      clear hb
      refine wp_exit ?_
      refine q_thenX ?_
      refine q_thenX ?_
      refine q_hit ?_
      refine q_then ?_
      replace H := H.drop 1
      replace H := H.front 0 rfl
      replace H := H.front 1 rfl
      exact ⟨v18, v21, l19, l22, x23, _, (E.nil.keep E 5 rfl), H, hs25, hr26, hm⟩
    ·rw [if_f hb27] at hm
     refine st_no E (wf' E rfl rfl rfl rfl hb27 rfl) rfl rfl ?_
     clear a E;intro a E
     refine st_no E (wf' E rfl rfl rfl rfl hb27 rfl) rfl rfl ?_
     clear a E;intro a E
     refine st_no E (wf' E rfl rfl rfl rfl hb27 rfl) rfl rfl ?_
     clear a E;intro a E
     refine st_no E (wf' E rfl rfl rfl rfl hb27 rfl) rfl rfl ?_
     clear a E;intro a E
     refine sv E rfl rfl rfl (x_pickF E rfl rfl hb27 rfl) ?_
     clear a E;intro a E
     refine wpList_nil ?_
     refine q_then ?_
     refine wp_cond_false (E.eval rfl) ?_
     refine wp_exit ?_
     refine q_thenX ?_
     refine q_thenX ?_
     refine q_hit ?_
     refine q_then ?_
     replace H := H.drop 0
     exact ⟨v18, v21, l19, l22, x23, _, (E.nil.keep E 5 rfl), H, hs25, hr26, hm⟩
 ·clear E H hm
  rintro a w ⟨v7, v9, l8, l10, x11, rs12, E, H, hs13, hr14, hm⟩
  unfold m_letter_some_api_Node_j1 at hm
  refine wp_seq ?_
  refine wp_region_lit ?_
  refine sv E rfl rfl rfl (x_move E rfl rfl) ?_
  clear a E;intro a E
  refine sv E rfl rfl rfl (x_assign E rfl rfl) ?_
  clear a E;intro a E
  refine wpList_nil ?_
  refine q_then ?_
  refine wp_ret ?_
  refine out1 E rfl rfl ?_
  obtain rfl := Option.some.inj hm
  exact ⟨v7, v9, rfl, H.reads (sub_cons hr14 (fun r hr => hs13 r hr))⟩
end Go.Cb

set_option linter.unusedVariables false
set_option linter.unusedSimpArgs false
namespace Go.Cb
open Go.Proofs Go.RowKit
def m_letter_reader_result (l3 : List Int) (x4 : Int) : Option (S_api_Result × (List Int) × Int) :=
  (m_letter_reader_num l3 x4).bind fun u8 => (m_pack_Reader_Text u8.2.1 u8.2.2).bind fun u12 => (m_pack_Reader_Text u12.2.1 u12.2.2).bind fun u15 => (m_letter_reader_num u15.2.1 u15.2.2).bind fun u18 => (m_pack_Reader_Texts u18.2.1 u18.2.2).bind fun u21 => some ((⟨u8.1, u12.1, u15.1, u18.1, u21.1⟩ : S_api_Result), u21.2.1, u21.2.2)
set_option maxRecDepth 20000 in
set_option maxHeartbeats 1000000 in
theorem c_letter_reader_result {w : World} {Fo : List Ob} {rs : List Rp} (p1 : Nat) (v2 : Value) (l3 : List Int) (x4 : Int) (H : Sep w (Blk p1 137 [v2, .int .i64 x4] :: Fo) rs) (hr5 : rSl (kI .u8) v2 l3 ∈ rs) {r : S_api_Result × (List Int) × Int} (hm : m_letter_reader_result l3 x4 = some r) :
    Calls Try.prog 66 [.agg #[.pointer (some ⟨p1, 0, none⟩)]].toArray w (Ret fun v w' => ∃ (v5002 : Value) (v5003 : Value), .agg #[.int .i64 r.1.Err, .string r.1.Path, .string r.1.Data, .int .i64 r.1.Version, v5002] = v ∧ Sep w' (Blk p1 137 [v5003, .int .i64 r.2.2] :: Fo) (rSl kS v5002 r.1.Names :: rSl (kI .u8) v5003 r.2.1 :: rs)) := by
 unfold m_letter_reader_result at hm
 refine enter Try.func66 rfl Try.ntmps66 rfl fun a E => ?_
 simp only [enum, Nat.reduceAdd] at E
 refine wp_seq ?_
 refine wp_region_lit ?_
 refine st_box E H (wn rfl) rfl rfl (cs := [.pointer (some ⟨p1, 0, none⟩)]) rfl rfl rfl ?_
 clear E H; clear a; clear w; intro p6 w a H E
 refine st_alloc E H (wn rfl) rfl rfl (cs := [.int .i64 0, .string (ByteArray.mk #[]), .string (ByteArray.mk #[]), .int .i64 0, .slice none 0 0]) rfl (z := .agg #[.int .i64 0, .string ⟨#[]⟩, .string ⟨#[]⟩, .int .i64 0, .slice none 0 0]) (by kernel_rfl) rfl ?_
 clear E H; clear a; clear w; intro p7 w a H E
 refine wpList_nil ?_
 refine q_then ?_
 refine wp_seq ?_
 refine wp_region_lit ?_
 refine sv E rfl rfl rfl (x_ldBN (i := 1) (us := [.pointer (some ⟨p1, 0, none⟩)]) E H rfl rfl rfl rfl Try.underlying88 rfl sz88) ?_
 clear a E;intro a E
 replace H := H.front 1 rfl
 replace H := H.front 1 rfl
 replace H := H.front 2 rfl
 replace H : Sep w (Blk p1 137 [v2, .int .i64 x4] :: Blk p7 62 [.int .i64 0, .string (ByteArray.mk #[]), .string (ByteArray.mk #[]), .int .i64 0, .slice none 0 0] :: Blk p6 88 [.pointer (some ⟨p1, 0, none⟩)] :: Fo) (rs) := H
 obtain ⟨u8, hx9, hm⟩ := bnd hm
 refine st_call E (wn rfl) rfl rfl (x_call E rfl rfl (cf39 _)) (c_letter_reader_num p1 v2 l3 x4 H hr5 hx9) ?_
 clear E H; clear a; clear w; rintro _ w ⟨v10, rfl, H⟩ a E
 refine sv E rfl rfl rfl (x_build E (ps := [(0, .tmp 5)]) (vs := [(0, .int .i64 u8.1)]) rfl (by simp only [List.map]; rw [E.eval (x := .tmp 5) (v := .int .i64 u8.1) rfl]) (v := .agg #[.int .i64 u8.1, .string (ByteArray.mk #[]), .string (ByteArray.mk #[]), .int .i64 0, .slice none 0 0]) (by kernel_rfl)) ?_
 clear a E;intro a E
 refine st_alloc E H (wn rfl) rfl rfl (cs := [.int .i64 0, .string (ByteArray.mk #[]), .string (ByteArray.mk #[]), .int .i64 0, .slice none 0 0]) rfl (z := .agg #[.int .i64 0, .string ⟨#[]⟩, .string ⟨#[]⟩, .int .i64 0, .slice none 0 0]) (by kernel_rfl) rfl ?_
 clear E H; clear a; clear w; intro p11 w a H E
 refine st_st (i := 0) E H (wn rfl) rfl (us := [.int .i64 u8.1, .string (ByteArray.mk #[]), .string (ByteArray.mk #[]), .int .i64 0, .slice none 0 0]) rfl rfl rfl rfl rfl sz62 rfl rfl ?_
 clear H; clear w; intro w H
 replace H : Sep w (Blk p11 62 [.int .i64 u8.1, .string (ByteArray.mk #[]), .string (ByteArray.mk #[]), .int .i64 0, .slice none 0 0] :: Blk p1 137 [v10, .int .i64 u8.2.2] :: Blk p7 62 [.int .i64 0, .string (ByteArray.mk #[]), .string (ByteArray.mk #[]), .int .i64 0, .slice none 0 0] :: Blk p6 88 [.pointer (some ⟨p1, 0, none⟩)] :: Fo) _ := H
 refine wpList_nil ?_
 refine q_then ?_
 refine wp_seq ?_
 refine wp_region_lit ?_
 refine sv E rfl rfl rfl (x_fa E rfl rfl (v := .pointer (some ⟨p6, 0, none⟩)) (fa88_0 _ _)) ?_
 clear a E;intro a E
 refine sv E rfl rfl rfl (x_ldB (i := 3) E H rfl rfl rfl rfl Try.underlying85 rfl) ?_
 clear a E;intro a E
 replace H := H.front 3 rfl
 replace H := H.front 3 rfl
 replace H := H.front 2 rfl
 replace H := H.front 3 rfl
 replace H : Sep w (Blk p1 137 [v10, .int .i64 u8.2.2] :: Blk p11 62 [.int .i64 u8.1, .string (ByteArray.mk #[]), .string (ByteArray.mk #[]), .int .i64 0, .slice none 0 0] :: Blk p7 62 [.int .i64 0, .string (ByteArray.mk #[]), .string (ByteArray.mk #[]), .int .i64 0, .slice none 0 0] :: Blk p6 88 [.pointer (some ⟨p1, 0, none⟩)] :: Fo) (rSl (kI .u8) v10 u8.2.1 :: rs) := H
 obtain ⟨u12, hx13, hm⟩ := bnd hm
 refine st_call E (wn rfl) rfl rfl (x_call E rfl rfl (cf41 _)) (c_pack_Reader_Text p1 v10 u8.2.1 u8.2.2 H (.head _) hx13) ?_
 clear E H; clear a; clear w; rintro _ w ⟨v14, rfl, H⟩ a E
 refine sv E rfl rfl rfl (x_fa E rfl rfl (v := .pointer (some ⟨p11, 1, none⟩)) (fa62_1 _ _)) ?_
 clear a E;intro a E
 refine st_st (i := 1) E H (wn rfl) rfl (us := [.string u12.1]) rfl rfl rfl rfl rfl sz9 rfl rfl ?_
 clear H; clear w; intro w H
 replace H : Sep w (Blk p1 137 [v14, .int .i64 u12.2.2] :: Blk p11 62 [.int .i64 u8.1, .string u12.1, .string (ByteArray.mk #[]), .int .i64 0, .slice none 0 0] :: Blk p7 62 [.int .i64 0, .string (ByteArray.mk #[]), .string (ByteArray.mk #[]), .int .i64 0, .slice none 0 0] :: Blk p6 88 [.pointer (some ⟨p1, 0, none⟩)] :: Fo) _ := H
 refine wpList_nil ?_
 refine q_then ?_
 refine wp_seq ?_
 refine wp_region_lit ?_
 refine sv E rfl rfl rfl (x_fa E rfl rfl (v := .pointer (some ⟨p6, 0, none⟩)) (fa88_0 _ _)) ?_
 clear a E;intro a E
 refine sv E rfl rfl rfl (x_ldB (i := 3) E H rfl rfl rfl rfl Try.underlying85 rfl) ?_
 clear a E;intro a E
 obtain ⟨u15, hx16, hm⟩ := bnd hm
 refine st_call E (wn rfl) rfl rfl (x_call E rfl rfl (cf41 _)) (c_pack_Reader_Text p1 v14 u12.2.1 u12.2.2 H (.head _) hx16) ?_
 clear E H; clear a; clear w; rintro _ w ⟨v17, rfl, H⟩ a E
 refine sv E rfl rfl rfl (x_fa E rfl rfl (v := .pointer (some ⟨p11, 2, none⟩)) (fa62_2 _ _)) ?_
 clear a E;intro a E
 refine st_st (i := 1) E H (wn rfl) rfl (us := [.string u15.1]) rfl rfl rfl rfl rfl sz9 rfl rfl ?_
 clear H; clear w; intro w H
 replace H : Sep w (Blk p1 137 [v17, .int .i64 u15.2.2] :: Blk p11 62 [.int .i64 u8.1, .string u12.1, .string u15.1, .int .i64 0, .slice none 0 0] :: Blk p7 62 [.int .i64 0, .string (ByteArray.mk #[]), .string (ByteArray.mk #[]), .int .i64 0, .slice none 0 0] :: Blk p6 88 [.pointer (some ⟨p1, 0, none⟩)] :: Fo) _ := H
 refine wpList_nil ?_
 refine q_then ?_
 refine wp_seq ?_
 refine wp_region_lit ?_
 refine sv E rfl rfl rfl (x_ldBN (i := 3) (us := [.pointer (some ⟨p1, 0, none⟩)]) E H rfl rfl rfl rfl Try.underlying88 rfl sz88) ?_
 clear a E;intro a E
 obtain ⟨u18, hx19, hm⟩ := bnd hm
 refine st_call E (wn rfl) rfl rfl (x_call E rfl rfl (cf39 _)) (c_letter_reader_num p1 v17 u15.2.1 u15.2.2 H (.head _) hx19) ?_
 clear E H; clear a; clear w; rintro _ w ⟨v20, rfl, H⟩ a E
 refine sv E rfl rfl rfl (x_fa E rfl rfl (v := .pointer (some ⟨p11, 3, none⟩)) (fa62_3 _ _)) ?_
 clear a E;intro a E
 refine st_st (i := 1) E H (wn rfl) rfl (us := [.int .i64 u18.1]) rfl rfl rfl rfl rfl sz2 rfl rfl ?_
 clear H; clear w; intro w H
 replace H : Sep w (Blk p1 137 [v20, .int .i64 u18.2.2] :: Blk p11 62 [.int .i64 u8.1, .string u12.1, .string u15.1, .int .i64 u18.1, .slice none 0 0] :: Blk p7 62 [.int .i64 0, .string (ByteArray.mk #[]), .string (ByteArray.mk #[]), .int .i64 0, .slice none 0 0] :: Blk p6 88 [.pointer (some ⟨p1, 0, none⟩)] :: Fo) _ := H
 refine wpList_nil ?_
 refine q_then ?_
 refine wp_seq ?_
 refine wp_region_lit ?_
 refine sv E rfl rfl rfl (x_fa E rfl rfl (v := .pointer (some ⟨p6, 0, none⟩)) (fa88_0 _ _)) ?_
 clear a E;intro a E
 refine sv E rfl rfl rfl (x_ldB (i := 3) E H rfl rfl rfl rfl Try.underlying85 rfl) ?_
 clear a E;intro a E
 obtain ⟨u21, hx22, hm⟩ := bnd hm
 refine st_call E (wn rfl) rfl rfl (x_call E rfl rfl (cf40 _)) (c_pack_Reader_Texts p1 v20 u18.2.1 u18.2.2 H (.head _) hx22) ?_
 clear E H; clear a; clear w; rintro _ w ⟨v23, v24, rfl, H⟩ a E
 refine sv E rfl rfl rfl (x_fa E rfl rfl (v := .pointer (some ⟨p11, 4, none⟩)) (fa62_4 _ _)) ?_
 clear a E;intro a E
 obtain ⟨q25, x26, rfl⟩ := H.rowform (i := 0) rfl
 refine st_st (i := 2) E H (wn rfl) rfl (us := [(.slice q25 u21.1.length x26)]) rfl rfl rfl rfl rfl sz22 rfl rfl ?_
 clear H; clear w; intro w H
 replace H : Sep w (Row 9 kS (.slice q25 u21.1.length x26) u21.1 :: Blk p1 137 [v24, .int .i64 u21.2.2] :: Blk p11 62 [.int .i64 u8.1, .string u12.1, .string u15.1, .int .i64 u18.1, (.slice q25 u21.1.length x26)] :: Blk p7 62 [.int .i64 0, .string (ByteArray.mk #[]), .string (ByteArray.mk #[]), .int .i64 0, .slice none 0 0] :: Blk p6 88 [.pointer (some ⟨p1, 0, none⟩)] :: Fo) _ := H
 refine wpList_nil ?_
 refine q_then ?_
 refine wp_seq ?_
 refine wp_region_lit ?_
 refine sv E rfl rfl rfl (x_ldBN (i := 2) (us := [.int .i64 u8.1, .string u12.1, .string u15.1, .int .i64 u18.1, (.slice q25 u21.1.length x26)]) E H rfl rfl rfl rfl Try.underlying62 rfl sz62) ?_
 clear a E;intro a E
 refine st_st (i := 3) E H (wn rfl) rfl (us := [.int .i64 u8.1, .string u12.1, .string u15.1, .int .i64 u18.1, (.slice q25 u21.1.length x26)]) rfl rfl rfl rfl rfl sz62 rfl rfl ?_
 clear H; clear w; intro w H
 replace H : Sep w (Row 9 kS (.slice q25 u21.1.length x26) u21.1 :: Blk p1 137 [v24, .int .i64 u21.2.2] :: Blk p11 62 [.int .i64 u8.1, .string u12.1, .string u15.1, .int .i64 u18.1, (.slice q25 u21.1.length x26)] :: Blk p7 62 [.int .i64 u8.1, .string u12.1, .string u15.1, .int .i64 u18.1, (.slice q25 u21.1.length x26)] :: Blk p6 88 [.pointer (some ⟨p1, 0, none⟩)] :: Fo) _ := H
 refine wpList_nil ?_
 refine q_then ?_
 refine wp_ret ?_
 refine outR1 E rfl (rvBN (i := 3) (us := [.int .i64 u8.1, .string u12.1, .string u15.1, .int .i64 u18.1, (.slice q25 u21.1.length x26)]) H rfl rfl rfl Try.underlying62 rfl sz62) ?_
 replace H := H.thaw (i := 0) rfl
 replace H := H.drop 1
 replace H := H.drop 1
 replace H := H.drop 1
 obtain rfl := Option.some.inj hm
 exact ⟨(.slice q25 u21.1.length x26), v24, rfl, H.reads (sub_cons (.head _) (sub_cons (.tail _ (.head _)) (fun r hr => .tail _ (.tail _ (.tail _ (.tail _ (.tail _ (.tail _ (hr)))))))))⟩
end Go.Cb

set_option linter.unusedVariables false
set_option linter.unusedSimpArgs false
namespace Go.Cb
open Go.Proofs Go.RowKit
def m_letter_some_api_Result_j1 (l8 : (List S_api_Result)) (l10 : (List Int)) (x11 : Int) : Option ((List S_api_Result) × (List Int) × Int) :=
  some (l8, l10, x11)
def m_letter_some_api_Result_l1 : Nat → (List S_api_Result) → Int → (List Int) → Int → Option ((List S_api_Result) × (List Int) × Int)
  | 0, _, _, _, _ => none
  | k1 + 1, l19, x20, l22, x23 =>
    if (decide (x20 > 0)) = true then ((m_pack_Reader_Err l22 x23).bind fun u28 => if (x23 == 0) = true then ((m_letter_reader_result l22 x23).bind fun u30 => (ck (l19.length + ([u30.1] : List S_api_Result).length ≤ LIM)).bind fun u38 => m_letter_some_api_Result_l1 k1 (l19 ++ ([u30.1] : List S_api_Result)) (IntKind.i64.wrap (x20 - 1)) u30.2.1 u30.2.2) else (m_letter_some_api_Result_j1 l19 l22 x23)) else (m_letter_some_api_Result_j1 l19 l22 x23)
def m_letter_some_api_Result (l3 : List Int) (x4 : Int) : Option ((List S_api_Result) × (List Int) × Int) :=
  (m_letter_reader_num l3 x4).bind fun u15 => m_letter_some_api_Result_l1 (u15.1.toNat + 2) [] u15.1 u15.2.1 u15.2.2
set_option maxRecDepth 20000 in
set_option maxHeartbeats 1000000 in
theorem c_letter_some_api_Result {w : World} {Fo : List Ob} {rs : List Rp} (p1 : Nat) (v2 : Value) (l3 : List Int) (x4 : Int) (H : Sep w (Blk p1 137 [v2, .int .i64 x4] :: Fo) rs) (hr5 : rSl (kI .u8) v2 l3 ∈ rs) {r : (List S_api_Result) × (List Int) × Int} (hm : m_letter_some_api_Result l3 x4 = some r) :
    Calls Try.prog 65 [.agg #[.pointer (some ⟨p1, 0, none⟩)], .func (.func 66) #[.agg #[.pointer (some ⟨p1, 0, none⟩)]] #[]].toArray w (Ret fun v w' => ∃ (v5001 : Value) (v5003 : Value), v5001 = v ∧ Sep w' (Row 62 k_api_Result v5001 r.1 :: Blk p1 137 [v5003, .int .i64 r.2.2] :: Fo) (rSl (kI .u8) v5003 r.2.1 :: rs)) := by
 unfold m_letter_some_api_Result at hm
 refine enter Try.func65 rfl Try.ntmps65 rfl fun a E => ?_
 simp only [enum, Nat.reduceAdd] at E
 refine wp_seq ?_
 refine wp_region_lit ?_
 refine st_box E H (wn rfl) rfl rfl (cs := [.pointer (some ⟨p1, 0, none⟩)]) rfl rfl rfl ?_
 clear E H; clear a; clear w; intro p6 w a H E
 refine sv E rfl rfl rfl (x_assign E rfl rfl) ?_
 clear a E;intro a E
 refine wpList_nil ?_
 refine q_then ?_
 refine wp_seq ?_
 refine wp_region_lit ?_
 refine sv E rfl rfl rfl (x_assign E rfl rfl) ?_
 clear a E;intro a E
 refine wpList_nil ?_
 refine q_then ?_
 refine wp_seq_cut (fun a w => ∃ (v7 : Value) (v9 : Value) (l8 : (List S_api_Result)) (l10 : (List Int)) (x11 : Int) (rs12 : List Rp), Env 25 a [(5, v7)] ∧ Sep w (Row 62 k_api_Result v7 l8 :: Blk p1 137 [v9, .int .i64 x11] :: Fo) rs12 ∧ (∀ r, r ∈ rs → r ∈ rs12) ∧ rSl (kI .u8) v9 l10 ∈ rs12 ∧ m_letter_some_api_Result_j1 l8 l10 x11 = some r) ?_ ?_
 ·refine wp_seq ?_
  refine wp_region_lit ?_
  refine sv E rfl rfl rfl (x_ldBN (i := 0) (us := [.pointer (some ⟨p1, 0, none⟩)]) E H rfl rfl rfl rfl Try.underlying88 rfl sz88) ?_
  clear a E;intro a E
  replace H := H.front 0 rfl
  replace H := H.front 1 rfl
  replace H : Sep w (Blk p1 137 [v2, .int .i64 x4] :: Blk p6 88 [.pointer (some ⟨p1, 0, none⟩)] :: Fo) (rs) := H
  obtain ⟨u15, hx16, hm⟩ := bnd hm
  refine st_call E (wn rfl) rfl rfl (x_call E rfl rfl (cf39 _)) (c_letter_reader_num p1 v2 l3 x4 H hr5 hx16) ?_
  clear E H; clear a; clear w; rintro _ w ⟨v17, rfl, H⟩ a E
  refine sv E rfl rfl rfl (x_assign E rfl rfl) ?_
  clear a E;intro a E
  refine wpList_nil ?_
  refine q_then ?_
  refine wp_block ?_
  refine wp_loop_g (fun k1 a w => ∃ (v18 : Value) (v21 : Value) (l19 : (List S_api_Result)) (x20 : Int) (l22 : (List Int)) (x23 : Int) (rs24 : List Rp), Env 25 a [(1, .func (.func 66) #[.agg #[.pointer (some ⟨p1, 0, none⟩)]] #[]), (2, .pointer (some ⟨p6, 0, none⟩)), (5, v18), (6, .int .i64 x20)] ∧ Sep w (Blk p6 88 [.pointer (some ⟨p1, 0, none⟩)] :: Row 62 k_api_Result v18 l19 :: Blk p1 137 [v21, .int .i64 x23] :: Fo) rs24 ∧ (∀ r, r ∈ rs → r ∈ rs24) ∧ rSl (kI .u8) v21 l22 ∈ rs24 ∧ m_letter_some_api_Result_l1 k1 l19 x20 l22 x23 = some r) (u15.1.toNat + 2) ?_ ?_
  ·replace H := H.nilRow 62 k_api_Result
   replace H := H.front 1 rfl
   replace H := H.front 1 rfl
   replace H := H.front 2 rfl
   exact ⟨(.slice none 0 0), v17, [], u15.1, u15.2.1, u15.2.2, _, ((((E.nil.keep E 6 rfl).keep E 5 rfl).keep E 2 rfl).keep E 1 rfl), H, fun r hr => .tail _ (hr), (.head _), hm⟩
  ·clear E H hm
   rintro k1 a w ⟨v18, v21, l19, x20, l22, x23, rs24, E, H, hs25, hr26, hm⟩
   cases k1 with
   | zero => exact (none_some hm rfl).elim
   | succ k1 =>
    unfold m_letter_some_api_Result_l1 at hm
    refine wp_seq ?_
    refine wp_seq ?_
    refine wp_region_lit ?_
    refine sv E rfl rfl rfl (x_move E rfl rfl) ?_
    clear a E;intro a E
    refine sv E rfl rfl rfl (x_bin E rfl rfl rfl rfl) ?_
    clear a E;intro a E
    refine sv E rfl rfl rfl (x_move E rfl rfl) ?_
    clear a E;intro a E
    rcases Bool.eq_false_or_eq_true (decide (x20 > 0)) with hb27 | hb27
    ·rw [if_t hb27] at hm
     refine st_val E (ws' E rfl rfl rfl rfl hb27) rfl rfl (x_fa E rfl rfl (v := .pointer (some ⟨p6, 0, none⟩)) (fa88_0 _ _)) ?_
     clear a E;intro a E
     refine st_val E (ws' E rfl rfl rfl rfl hb27) rfl rfl (x_ldB (i := 0) E H rfl rfl rfl rfl Try.underlying85 rfl) ?_
     clear a E;intro a E
     replace H := H.front 1 rfl
     replace H := H.front 1 rfl
     replace H := H.front 2 rfl
     replace H : Sep w (Blk p1 137 [v21, .int .i64 x23] :: Blk p6 88 [.pointer (some ⟨p1, 0, none⟩)] :: Row 62 k_api_Result v18 l19 :: Fo) (rs24) := H
     obtain ⟨u28, hx29, hm⟩ := bnd hm
     refine st_call E (ws' E rfl rfl rfl rfl hb27) rfl rfl (x_call E rfl rfl (cf88 _)) (c_pack_Reader_Err p1 v21 l22 x23 H hr26 hx29) ?_
     clear E H; clear a; clear w; rintro _ w ⟨rfl, H⟩ a E
     refine st_val E (ws' E rfl rfl rfl rfl hb27) rfl rfl (x_bin E rfl rfl rfl rfl) ?_
     clear a E;intro a E
     refine sv E rfl rfl rfl (x_pickT E rfl rfl hb27 rfl) ?_
     clear a E;intro a E
     refine wpList_nil ?_
     refine q_then ?_
     refine wp_if E rfl ?_ ?_
     ·intro hb
      rw [if_t hb] at hm
      clear hb
      refine wp_skip ?_
      refine q_then ?_
      refine wp_seq ?_
      refine wp_block ?_
      refine wp_region_lit ?_
      refine sv E rfl rfl rfl (x_move E rfl rfl) ?_
      clear a E;intro a E
      refine sv E rfl rfl rfl (x_move E rfl rfl) ?_
      clear a E;intro a E
      obtain ⟨u30, hx31, hm⟩ := bnd hm
      refine st_call E (wn rfl) rfl rfl (x_callv E rfl rfl rfl (cf66 _)) (c_letter_reader_result p1 v21 l22 x23 H hr26 hx31) ?_
      clear E H; clear a; clear w; rintro _ w ⟨v32, v33, rfl, H⟩ a E
      obtain ⟨q34, x35, rfl⟩ := H.slform (.head _)
      refine st_bsR (e := 62) (d := k_api_Result) (cs := [.int .i64 u30.1.Err, .string u30.1.Path, .string u30.1.Data, .int .i64 u30.1.Version, (.slice q34 u30.1.Names.length x35)]) (xs := [u30.1]) E H (wn rfl) rfl rfl (ps := [(0, .tmp 21)]) (parts := [(0, .agg #[.int .i64 u30.1.Err, .string u30.1.Path, .string u30.1.Data, .int .i64 u30.1.Version, (.slice q34 u30.1.Names.length x35)])]) rfl (by simp only [List.map]; rw [E.eval (x := .tmp 21) (v := .agg #[.int .i64 u30.1.Err, .string u30.1.Path, .string u30.1.Data, .int .i64 u30.1.Version, (.slice q34 u30.1.Names.length x35)]) rfl]) (by kernel_rfl) rfl (fun ok hr => (Rows.single (d := k_api_Result) (cs := [.int .i64 u30.1.Err, .string u30.1.Path, .string u30.1.Data, .int .i64 u30.1.Version, (.slice q34 u30.1.Names.length x35)]) (x := u30.1) (k_api_Result_mk (hr _ (.head _))))) ?_
      clear E H; clear a; clear w; intro v36 w a H E
      obtain ⟨u38, hx39, hm⟩ := bnd hm
      refine st_append (i := 2) E H (wn rfl) rfl rfl rfl rfl rfl rfl (src_rd (.head _)) Try.underlying41 inf62 rfl (ck_of hx39) rfl ?_
      clear E H; clear a; clear w; intro v37 w a H E
      refine sv E rfl rfl rfl (x_assign E rfl rfl) ?_
      clear a E;intro a E
      refine wpList_nil ?_
      refine q_blk ?_
      refine q_then ?_
      refine wp_region_lit ?_
      refine sv E rfl rfl rfl (x_move E rfl rfl) ?_
      clear a E;intro a E
      refine sv E rfl rfl rfl (x_bin E rfl rfl rfl rfl) ?_
      clear a E;intro a E
      refine sv E rfl rfl rfl (x_assign E rfl rfl) ?_
      clear a E;intro a E
      refine wpList_nil ?_
      refine q_then ?_
      replace H := H.front 0 rfl
      replace H := H.front 2 rfl
      replace H := H.front 2 rfl
      exact ⟨k1, Nat.lt_succ_self k1, v37, v33, l19 ++ ([u30.1] : List S_api_Result), IntKind.i64.wrap (x20 - 1), u30.2.1, u30.2.2, _, ((((E.nil.keep E 6 rfl).keep E 5 rfl).keep E 2 rfl).keep E 1 rfl), H, fun r hr => .tail _ (.tail _ (.tail _ (hs25 r hr))), (.tail _ (.tail _ (.head _))), hm⟩
     ·intro hb
      rw [if_f hb] at hm
      clear hb
      refine wp_exit ?_
      refine q_thenX ?_
      refine q_thenX ?_
      refine q_hit ?_
      refine q_then ?_
      replace H := H.drop 1
      replace H := H.front 0 rfl
      replace H := H.front 1 rfl
      exact ⟨v18, v21, l19, l22, x23, _, (E.nil.keep E 5 rfl), H, hs25, hr26, hm⟩
    ·rw [if_f hb27] at hm
     refine st_no E (wf' E rfl rfl rfl rfl hb27 rfl) rfl rfl ?_
     clear a E;intro a E
     refine st_no E (wf' E rfl rfl rfl rfl hb27 rfl) rfl rfl ?_
     clear a E;intro a E
     refine st_no E (wf' E rfl rfl rfl rfl hb27 rfl) rfl rfl ?_
     clear a E;intro a E
     refine st_no E (wf' E rfl rfl rfl rfl hb27 rfl) rfl rfl ?_
     clear a E;intro a E
     refine sv E rfl rfl rfl (x_pickF E rfl rfl hb27 rfl) ?_
     clear a E;intro a E
     refine wpList_nil ?_
     refine q_then ?_
     refine wp_cond_false (E.eval rfl) ?_
     refine wp_exit ?_
     refine q_thenX ?_
     refine q_thenX ?_
     refine q_hit ?_
     refine q_then ?_
     replace H := H.drop 0
     exact ⟨v18, v21, l19, l22, x23, _, (E.nil.keep E 5 rfl), H, hs25, hr26, hm⟩
 ·clear E H hm
  rintro a w ⟨v7, v9, l8, l10, x11, rs12, E, H, hs13, hr14, hm⟩
  unfold m_letter_some_api_Result_j1 at hm
  refine wp_seq ?_
  refine wp_region_lit ?_
  refine sv E rfl rfl rfl (x_move E rfl rfl) ?_
  clear a E;intro a E
  refine sv E rfl rfl rfl (x_assign E rfl rfl) ?_
  clear a E;intro a E
  refine wpList_nil ?_
  refine q_then ?_
  refine wp_ret ?_
  refine out1 E rfl rfl ?_
  obtain rfl := Option.some.inj hm
  exact ⟨v7, v9, rfl, H.reads (sub_cons hr14 (fun r hr => hs13 r hr))⟩
end Go.Cb

set_option linter.unusedVariables false
set_option linter.unusedSimpArgs false
namespace Go.Cb
open Go.Proofs Go.RowKit
def m_letter_reader_turn (l3 : List Int) (x4 : Int) : Option (S_api_Turn × (List Int) × Int) :=
  (m_pack_Reader_Text l3 x4).bind fun u8 => (m_letter_reader_num u8.2.1 u8.2.2).bind fun u12 => some ((⟨u8.1, u12.1⟩ : S_api_Turn), u12.2.1, u12.2.2)
set_option maxRecDepth 20000 in
set_option maxHeartbeats 1000000 in
theorem c_letter_reader_turn {w : World} {Fo : List Ob} {rs : List Rp} (p1 : Nat) (v2 : Value) (l3 : List Int) (x4 : Int) (H : Sep w (Blk p1 137 [v2, .int .i64 x4] :: Fo) rs) (hr5 : rSl (kI .u8) v2 l3 ∈ rs) {r : S_api_Turn × (List Int) × Int} (hm : m_letter_reader_turn l3 x4 = some r) :
    Calls Try.prog 70 [.agg #[.pointer (some ⟨p1, 0, none⟩)]].toArray w (Ret fun v w' => ∃ (v5002 : Value), .agg #[.string r.1.Dir, .int .i64 r.1.Next] = v ∧ Sep w' (Blk p1 137 [v5002, .int .i64 r.2.2] :: Fo) (rSl (kI .u8) v5002 r.2.1 :: rs)) := by
 unfold m_letter_reader_turn at hm
 refine enter Try.func70 rfl Try.ntmps70 rfl fun a E => ?_
 simp only [enum, Nat.reduceAdd] at E
 refine wp_seq ?_
 refine wp_region_lit ?_
 refine st_box E H (wn rfl) rfl rfl (cs := [.pointer (some ⟨p1, 0, none⟩)]) rfl rfl rfl ?_
 clear E H; clear a; clear w; intro p6 w a H E
 refine st_alloc E H (wn rfl) rfl rfl (cs := [.string (ByteArray.mk #[]), .int .i64 0]) rfl (z := .agg #[.string ⟨#[]⟩, .int .i64 0]) (by kernel_rfl) rfl ?_
 clear E H; clear a; clear w; intro p7 w a H E
 refine wpList_nil ?_
 refine q_then ?_
 refine wp_seq ?_
 refine wp_region_lit ?_
 refine sv E rfl rfl rfl (x_fa E rfl rfl (v := .pointer (some ⟨p6, 0, none⟩)) (fa88_0 _ _)) ?_
 clear a E;intro a E
 refine sv E rfl rfl rfl (x_ldB (i := 1) E H rfl rfl rfl rfl Try.underlying85 rfl) ?_
 clear a E;intro a E
 replace H := H.front 1 rfl
 replace H := H.front 1 rfl
 replace H := H.front 2 rfl
 replace H : Sep w (Blk p1 137 [v2, .int .i64 x4] :: Blk p7 66 [.string (ByteArray.mk #[]), .int .i64 0] :: Blk p6 88 [.pointer (some ⟨p1, 0, none⟩)] :: Fo) (rs) := H
 obtain ⟨u8, hx9, hm⟩ := bnd hm
 refine st_call E (wn rfl) rfl rfl (x_call E rfl rfl (cf41 _)) (c_pack_Reader_Text p1 v2 l3 x4 H hr5 hx9) ?_
 clear E H; clear a; clear w; rintro _ w ⟨v10, rfl, H⟩ a E
 refine sv E rfl rfl rfl (x_build E (ps := [(0, .tmp 6)]) (vs := [(0, .string u8.1)]) rfl (by simp only [List.map]; rw [E.eval (x := .tmp 6) (v := .string u8.1) rfl]) (v := .agg #[.string u8.1, .int .i64 0]) (by kernel_rfl)) ?_
 clear a E;intro a E
 refine st_alloc E H (wn rfl) rfl rfl (cs := [.string (ByteArray.mk #[]), .int .i64 0]) rfl (z := .agg #[.string ⟨#[]⟩, .int .i64 0]) (by kernel_rfl) rfl ?_
 clear E H; clear a; clear w; intro p11 w a H E
 refine st_st (i := 0) E H (wn rfl) rfl (us := [.string u8.1, .int .i64 0]) rfl rfl rfl rfl rfl sz66 rfl rfl ?_
 clear H; clear w; intro w H
 replace H : Sep w (Blk p11 66 [.string u8.1, .int .i64 0] :: Blk p1 137 [v10, .int .i64 u8.2.2] :: Blk p7 66 [.string (ByteArray.mk #[]), .int .i64 0] :: Blk p6 88 [.pointer (some ⟨p1, 0, none⟩)] :: Fo) _ := H
 refine wpList_nil ?_
 refine q_then ?_
 refine wp_seq ?_
 refine wp_region_lit ?_
 refine sv E rfl rfl rfl (x_ldBN (i := 3) (us := [.pointer (some ⟨p1, 0, none⟩)]) E H rfl rfl rfl rfl Try.underlying88 rfl sz88) ?_
 clear a E;intro a E
 replace H := H.front 3 rfl
 replace H := H.front 3 rfl
 replace H := H.front 2 rfl
 replace H := H.front 3 rfl
 replace H : Sep w (Blk p1 137 [v10, .int .i64 u8.2.2] :: Blk p11 66 [.string u8.1, .int .i64 0] :: Blk p7 66 [.string (ByteArray.mk #[]), .int .i64 0] :: Blk p6 88 [.pointer (some ⟨p1, 0, none⟩)] :: Fo) (rSl (kI .u8) v10 u8.2.1 :: rs) := H
 obtain ⟨u12, hx13, hm⟩ := bnd hm
 refine st_call E (wn rfl) rfl rfl (x_call E rfl rfl (cf39 _)) (c_letter_reader_num p1 v10 u8.2.1 u8.2.2 H (.head _) hx13) ?_
 clear E H; clear a; clear w; rintro _ w ⟨v14, rfl, H⟩ a E
 refine sv E rfl rfl rfl (x_fa E rfl rfl (v := .pointer (some ⟨p11, 1, none⟩)) (fa66_1 _ _)) ?_
 clear a E;intro a E
 refine st_st (i := 1) E H (wn rfl) rfl (us := [.int .i64 u12.1]) rfl rfl rfl rfl rfl sz2 rfl rfl ?_
 clear H; clear w; intro w H
 replace H : Sep w (Blk p1 137 [v14, .int .i64 u12.2.2] :: Blk p11 66 [.string u8.1, .int .i64 u12.1] :: Blk p7 66 [.string (ByteArray.mk #[]), .int .i64 0] :: Blk p6 88 [.pointer (some ⟨p1, 0, none⟩)] :: Fo) _ := H
 refine wpList_nil ?_
 refine q_then ?_
 refine wp_seq ?_
 refine wp_region_lit ?_
 refine sv E rfl rfl rfl (x_ldBN (i := 1) (us := [.string u8.1, .int .i64 u12.1]) E H rfl rfl rfl rfl Try.underlying66 rfl sz66) ?_
 clear a E;intro a E
 refine st_st (i := 2) E H (wn rfl) rfl (us := [.string u8.1, .int .i64 u12.1]) rfl rfl rfl rfl rfl sz66 rfl rfl ?_
 clear H; clear w; intro w H
 replace H : Sep w (Blk p1 137 [v14, .int .i64 u12.2.2] :: Blk p11 66 [.string u8.1, .int .i64 u12.1] :: Blk p7 66 [.string u8.1, .int .i64 u12.1] :: Blk p6 88 [.pointer (some ⟨p1, 0, none⟩)] :: Fo) _ := H
 refine wpList_nil ?_
 refine q_then ?_
 refine wp_ret ?_
 refine outR1 E rfl (rvBN (i := 2) (us := [.string u8.1, .int .i64 u12.1]) H rfl rfl rfl Try.underlying66 rfl sz66) ?_
 replace H := H.drop 1
 replace H := H.drop 1
 replace H := H.drop 1
 obtain rfl := Option.some.inj hm
 exact ⟨v14, rfl, H.reads (sub_cons (.head _) (fun r hr => .tail _ (.tail _ (hr))))⟩
end Go.Cb

set_option linter.unusedVariables false
set_option linter.unusedSimpArgs false
namespace Go.Cb
open Go.Proofs Go.RowKit
def m_letter_some_api_Turn_j1 (l8 : (List S_api_Turn)) (l10 : (List Int)) (x11 : Int) : Option ((List S_api_Turn) × (List Int) × Int) :=
  some (l8, l10, x11)
def m_letter_some_api_Turn_l1 : Nat → (List S_api_Turn) → Int → (List Int) → Int → Option ((List S_api_Turn) × (List Int) × Int)
  | 0, _, _, _, _ => none
  | k1 + 1, l19, x20, l22, x23 =>
    if (decide (x20 > 0)) = true then ((m_pack_Reader_Err l22 x23).bind fun u28 => if (x23 == 0) = true then ((m_letter_reader_turn l22 x23).bind fun u30 => (ck (l19.length + ([u30.1] : List S_api_Turn).length ≤ LIM)).bind fun u35 => m_letter_some_api_Turn_l1 k1 (l19 ++ ([u30.1] : List S_api_Turn)) (IntKind.i64.wrap (x20 - 1)) u30.2.1 u30.2.2) else (m_letter_some_api_Turn_j1 l19 l22 x23)) else (m_letter_some_api_Turn_j1 l19 l22 x23)
def m_letter_some_api_Turn (l3 : List Int) (x4 : Int) : Option ((List S_api_Turn) × (List Int) × Int) :=
  (m_letter_reader_num l3 x4).bind fun u15 => m_letter_some_api_Turn_l1 (u15.1.toNat + 2) [] u15.1 u15.2.1 u15.2.2
set_option maxRecDepth 20000 in
set_option maxHeartbeats 1000000 in
theorem c_letter_some_api_Turn {w : World} {Fo : List Ob} {rs : List Rp} (p1 : Nat) (v2 : Value) (l3 : List Int) (x4 : Int) (H : Sep w (Blk p1 137 [v2, .int .i64 x4] :: Fo) rs) (hr5 : rSl (kI .u8) v2 l3 ∈ rs) {r : (List S_api_Turn) × (List Int) × Int} (hm : m_letter_some_api_Turn l3 x4 = some r) :
    Calls Try.prog 69 [.agg #[.pointer (some ⟨p1, 0, none⟩)], .func (.func 70) #[.agg #[.pointer (some ⟨p1, 0, none⟩)]] #[]].toArray w (Ret fun v w' => ∃ (v5001 : Value) (v5003 : Value), v5001 = v ∧ Sep w' (Row 66 k_api_Turn v5001 r.1 :: Blk p1 137 [v5003, .int .i64 r.2.2] :: Fo) (rSl (kI .u8) v5003 r.2.1 :: rs)) := by
 unfold m_letter_some_api_Turn at hm
 refine enter Try.func69 rfl Try.ntmps69 rfl fun a E => ?_
 simp only [enum, Nat.reduceAdd] at E
 refine wp_seq ?_
 refine wp_region_lit ?_
 refine st_box E H (wn rfl) rfl rfl (cs := [.pointer (some ⟨p1, 0, none⟩)]) rfl rfl rfl ?_
 clear E H; clear a; clear w; intro p6 w a H E
 refine sv E rfl rfl rfl (x_assign E rfl rfl) ?_
 clear a E;intro a E
 refine wpList_nil ?_
 refine q_then ?_
 refine wp_seq ?_
 refine wp_region_lit ?_
 refine sv E rfl rfl rfl (x_assign E rfl rfl) ?_
 clear a E;intro a E
 refine wpList_nil ?_
 refine q_then ?_
 refine wp_seq_cut (fun a w => ∃ (v7 : Value) (v9 : Value) (l8 : (List S_api_Turn)) (l10 : (List Int)) (x11 : Int) (rs12 : List Rp), Env 25 a [(5, v7)] ∧ Sep w (Row 66 k_api_Turn v7 l8 :: Blk p1 137 [v9, .int .i64 x11] :: Fo) rs12 ∧ (∀ r, r ∈ rs → r ∈ rs12) ∧ rSl (kI .u8) v9 l10 ∈ rs12 ∧ m_letter_some_api_Turn_j1 l8 l10 x11 = some r) ?_ ?_
 ·refine wp_seq ?_
  refine wp_region_lit ?_
  refine sv E rfl rfl rfl (x_ldBN (i := 0) (us := [.pointer (some ⟨p1, 0, none⟩)]) E H rfl rfl rfl rfl Try.underlying88 rfl sz88) ?_
  clear a E;intro a E
  replace H := H.front 0 rfl
  replace H := H.front 1 rfl
  replace H : Sep w (Blk p1 137 [v2, .int .i64 x4] :: Blk p6 88 [.pointer (some ⟨p1, 0, none⟩)] :: Fo) (rs) := H
  obtain ⟨u15, hx16, hm⟩ := bnd hm
  refine st_call E (wn rfl) rfl rfl (x_call E rfl rfl (cf39 _)) (c_letter_reader_num p1 v2 l3 x4 H hr5 hx16) ?_
  clear E H; clear a; clear w; rintro _ w ⟨v17, rfl, H⟩ a E
  refine sv E rfl rfl rfl (x_assign E rfl rfl) ?_
  clear a E;intro a E
  refine wpList_nil ?_
  refine q_then ?_
  refine wp_block ?_
  refine wp_loop_g (fun k1 a w => ∃ (v18 : Value) (v21 : Value) (l19 : (List S_api_Turn)) (x20 : Int) (l22 : (List Int)) (x23 : Int) (rs24 : List Rp), Env 25 a [(1, .func (.func 70) #[.agg #[.pointer (some ⟨p1, 0, none⟩)]] #[]), (2, .pointer (some ⟨p6, 0, none⟩)), (5, v18), (6, .int .i64 x20)] ∧ Sep w (Blk p6 88 [.pointer (some ⟨p1, 0, none⟩)] :: Row 66 k_api_Turn v18 l19 :: Blk p1 137 [v21, .int .i64 x23] :: Fo) rs24 ∧ (∀ r, r ∈ rs → r ∈ rs24) ∧ rSl (kI .u8) v21 l22 ∈ rs24 ∧ m_letter_some_api_Turn_l1 k1 l19 x20 l22 x23 = some r) (u15.1.toNat + 2) ?_ ?_
  ·replace H := H.nilRow 66 k_api_Turn
   replace H := H.front 1 rfl
   replace H := H.front 1 rfl
   replace H := H.front 2 rfl
   exact ⟨(.slice none 0 0), v17, [], u15.1, u15.2.1, u15.2.2, _, ((((E.nil.keep E 6 rfl).keep E 5 rfl).keep E 2 rfl).keep E 1 rfl), H, fun r hr => .tail _ (hr), (.head _), hm⟩
  ·clear E H hm
   rintro k1 a w ⟨v18, v21, l19, x20, l22, x23, rs24, E, H, hs25, hr26, hm⟩
   cases k1 with
   | zero => exact (none_some hm rfl).elim
   | succ k1 =>
    unfold m_letter_some_api_Turn_l1 at hm
    refine wp_seq ?_
    refine wp_seq ?_
    refine wp_region_lit ?_
    refine sv E rfl rfl rfl (x_move E rfl rfl) ?_
    clear a E;intro a E
    refine sv E rfl rfl rfl (x_bin E rfl rfl rfl rfl) ?_
    clear a E;intro a E
    refine sv E rfl rfl rfl (x_move E rfl rfl) ?_
    clear a E;intro a E
    rcases Bool.eq_false_or_eq_true (decide (x20 > 0)) with hb27 | hb27
    ·rw [if_t hb27] at hm
     refine st_val E (ws' E rfl rfl rfl rfl hb27) rfl rfl (x_fa E rfl rfl (v := .pointer (some ⟨p6, 0, none⟩)) (fa88_0 _ _)) ?_
     clear a E;intro a E
     refine st_val E (ws' E rfl rfl rfl rfl hb27) rfl rfl (x_ldB (i := 0) E H rfl rfl rfl rfl Try.underlying85 rfl) ?_
     clear a E;intro a E
     replace H := H.front 1 rfl
     replace H := H.front 1 rfl
     replace H := H.front 2 rfl
     replace H : Sep w (Blk p1 137 [v21, .int .i64 x23] :: Blk p6 88 [.pointer (some ⟨p1, 0, none⟩)] :: Row 66 k_api_Turn v18 l19 :: Fo) (rs24) := H
     obtain ⟨u28, hx29, hm⟩ := bnd hm
     refine st_call E (ws' E rfl rfl rfl rfl hb27) rfl rfl (x_call E rfl rfl (cf88 _)) (c_pack_Reader_Err p1 v21 l22 x23 H hr26 hx29) ?_
     clear E H; clear a; clear w; rintro _ w ⟨rfl, H⟩ a E
     refine st_val E (ws' E rfl rfl rfl rfl hb27) rfl rfl (x_bin E rfl rfl rfl rfl) ?_
     clear a E;intro a E
     refine sv E rfl rfl rfl (x_pickT E rfl rfl hb27 rfl) ?_
     clear a E;intro a E
     refine wpList_nil ?_
     refine q_then ?_
     refine wp_if E rfl ?_ ?_
     ·intro hb
      rw [if_t hb] at hm
      clear hb
      refine wp_skip ?_
      refine q_then ?_
      refine wp_seq ?_
      refine wp_block ?_
      refine wp_region_lit ?_
      refine sv E rfl rfl rfl (x_move E rfl rfl) ?_
      clear a E;intro a E
      refine sv E rfl rfl rfl (x_move E rfl rfl) ?_
      clear a E;intro a E
      obtain ⟨u30, hx31, hm⟩ := bnd hm
      refine st_call E (wn rfl) rfl rfl (x_callv E rfl rfl rfl (cf70 _)) (c_letter_reader_turn p1 v21 l22 x23 H hr26 hx31) ?_
      clear E H; clear a; clear w; rintro _ w ⟨v32, rfl, H⟩ a E
      refine st_bsR (e := 66) (d := k_api_Turn) (cs := [.string u30.1.Dir, .int .i64 u30.1.Next]) (xs := [u30.1]) E H (wn rfl) rfl rfl (ps := [(0, .tmp 21)]) (parts := [(0, .agg #[.string u30.1.Dir, .int .i64 u30.1.Next])]) rfl (by simp only [List.map]; rw [E.eval (x := .tmp 21) (v := .agg #[.string u30.1.Dir, .int .i64 u30.1.Next]) rfl]) (by kernel_rfl) rfl (fun ok hr => (Rows.single (d := k_api_Turn) (cs := [.string u30.1.Dir, .int .i64 u30.1.Next]) (x := u30.1) k_api_Turn_mk)) ?_
      clear E H; clear a; clear w; intro v33 w a H E
      obtain ⟨u35, hx36, hm⟩ := bnd hm
      refine st_append (i := 2) E H (wn rfl) rfl rfl rfl rfl rfl rfl (src_rd (.head _)) Try.underlying43 inf66 rfl (ck_of hx36) rfl ?_
      clear E H; clear a; clear w; intro v34 w a H E
      refine sv E rfl rfl rfl (x_assign E rfl rfl) ?_
      clear a E;intro a E
      refine wpList_nil ?_
      refine q_blk ?_
      refine q_then ?_
      refine wp_region_lit ?_
      refine sv E rfl rfl rfl (x_move E rfl rfl) ?_
      clear a E;intro a E
      refine sv E rfl rfl rfl (x_bin E rfl rfl rfl rfl) ?_
      clear a E;intro a E
      refine sv E rfl rfl rfl (x_assign E rfl rfl) ?_
      clear a E;intro a E
      refine wpList_nil ?_
      refine q_then ?_
      replace H := H.front 0 rfl
      replace H := H.front 2 rfl
      replace H := H.front 2 rfl
      exact ⟨k1, Nat.lt_succ_self k1, v34, v32, l19 ++ ([u30.1] : List S_api_Turn), IntKind.i64.wrap (x20 - 1), u30.2.1, u30.2.2, _, ((((E.nil.keep E 6 rfl).keep E 5 rfl).keep E 2 rfl).keep E 1 rfl), H, fun r hr => .tail _ (.tail _ (hs25 r hr)), (.tail _ (.head _)), hm⟩
     ·intro hb
      rw [if_f hb] at hm
      clear hb
      refine wp_exit ?_
      refine q_thenX ?_
      refine q_thenX ?_
      refine q_hit ?_
      refine q_then ?_
      replace H := H.drop 1
      replace H := H.front 0 rfl
      replace H := H.front 1 rfl
      exact ⟨v18, v21, l19, l22, x23, _, (E.nil.keep E 5 rfl), H, hs25, hr26, hm⟩
    ·rw [if_f hb27] at hm
     refine st_no E (wf' E rfl rfl rfl rfl hb27 rfl) rfl rfl ?_
     clear a E;intro a E
     refine st_no E (wf' E rfl rfl rfl rfl hb27 rfl) rfl rfl ?_
     clear a E;intro a E
     refine st_no E (wf' E rfl rfl rfl rfl hb27 rfl) rfl rfl ?_
     clear a E;intro a E
     refine st_no E (wf' E rfl rfl rfl rfl hb27 rfl) rfl rfl ?_
     clear a E;intro a E
     refine sv E rfl rfl rfl (x_pickF E rfl rfl hb27 rfl) ?_
     clear a E;intro a E
     refine wpList_nil ?_
     refine q_then ?_
     refine wp_cond_false (E.eval rfl) ?_
     refine wp_exit ?_
     refine q_thenX ?_
     refine q_thenX ?_
     refine q_hit ?_
     refine q_then ?_
     replace H := H.drop 0
     exact ⟨v18, v21, l19, l22, x23, _, (E.nil.keep E 5 rfl), H, hs25, hr26, hm⟩
 ·clear E H hm
  rintro a w ⟨v7, v9, l8, l10, x11, rs12, E, H, hs13, hr14, hm⟩
  unfold m_letter_some_api_Turn_j1 at hm
  refine wp_seq ?_
  refine wp_region_lit ?_
  refine sv E rfl rfl rfl (x_move E rfl rfl) ?_
  clear a E;intro a E
  refine sv E rfl rfl rfl (x_assign E rfl rfl) ?_
  clear a E;intro a E
  refine wpList_nil ?_
  refine q_then ?_
  refine wp_ret ?_
  refine out1 E rfl rfl ?_
  obtain rfl := Option.some.inj hm
  exact ⟨v7, v9, rfl, H.reads (sub_cons hr14 (fun r hr => hs13 r hr))⟩
end Go.Cb

set_option linter.unusedVariables false
set_option linter.unusedSimpArgs false
namespace Go.Cb
open Go.Proofs Go.RowKit
def m_letter_some_int64_j1 (l8 : (List Int)) (l10 : (List Int)) (x11 : Int) : Option ((List Int) × (List Int) × Int) :=
  some (l8, l10, x11)
def m_letter_some_int64_l1 : Nat → (List Int) → Int → (List Int) → Int → Option ((List Int) × (List Int) × Int)
  | 0, _, _, _, _ => none
  | k1 + 1, l19, x20, l22, x23 =>
    if (decide (x20 > 0)) = true then ((m_pack_Reader_Err l22 x23).bind fun u28 => if (x23 == 0) = true then ((m_letter_reader_num l22 x23).bind fun u30 => (ck (l19.length + ([u30.1] : List Int).length ≤ LIM)).bind fun u35 => m_letter_some_int64_l1 k1 (l19 ++ ([u30.1] : List Int)) (IntKind.i64.wrap (x20 - 1)) u30.2.1 u30.2.2) else (m_letter_some_int64_j1 l19 l22 x23)) else (m_letter_some_int64_j1 l19 l22 x23)
def m_letter_some_int64 (l3 : List Int) (x4 : Int) : Option ((List Int) × (List Int) × Int) :=
  (m_letter_reader_num l3 x4).bind fun u15 => m_letter_some_int64_l1 (u15.1.toNat + 2) [] u15.1 u15.2.1 u15.2.2
set_option maxRecDepth 20000 in
set_option maxHeartbeats 1000000 in
theorem c_letter_some_int64 {w : World} {Fo : List Ob} {rs : List Rp} (p1 : Nat) (v2 : Value) (l3 : List Int) (x4 : Int) (H : Sep w (Blk p1 137 [v2, .int .i64 x4] :: Fo) rs) (hr5 : rSl (kI .u8) v2 l3 ∈ rs) {r : (List Int) × (List Int) × Int} (hm : m_letter_some_int64 l3 x4 = some r) :
    Calls Try.prog 75 [.agg #[.pointer (some ⟨p1, 0, none⟩)], .func (.func 39) #[.agg #[.pointer (some ⟨p1, 0, none⟩)]] #[]].toArray w (Ret fun v w' => ∃ (v5001 : Value) (v5003 : Value), v5001 = v ∧ Sep w' (Row 2 (kI .i64) v5001 r.1 :: Blk p1 137 [v5003, .int .i64 r.2.2] :: Fo) (rSl (kI .u8) v5003 r.2.1 :: rs)) := by
 unfold m_letter_some_int64 at hm
 refine enter Try.func75 rfl Try.ntmps75 rfl fun a E => ?_
 simp only [enum, Nat.reduceAdd] at E
 refine wp_seq ?_
 refine wp_region_lit ?_
 refine st_box E H (wn rfl) rfl rfl (cs := [.pointer (some ⟨p1, 0, none⟩)]) rfl rfl rfl ?_
 clear E H; clear a; clear w; intro p6 w a H E
 refine sv E rfl rfl rfl (x_assign E rfl rfl) ?_
 clear a E;intro a E
 refine wpList_nil ?_
 refine q_then ?_
 refine wp_seq ?_
 refine wp_region_lit ?_
 refine sv E rfl rfl rfl (x_assign E rfl rfl) ?_
 clear a E;intro a E
 refine wpList_nil ?_
 refine q_then ?_
 refine wp_seq_cut (fun a w => ∃ (v7 : Value) (v9 : Value) (l8 : (List Int)) (l10 : (List Int)) (x11 : Int) (rs12 : List Rp), Env 25 a [(5, v7)] ∧ Sep w (Row 2 (kI .i64) v7 l8 :: Blk p1 137 [v9, .int .i64 x11] :: Fo) rs12 ∧ (∀ r, r ∈ rs → r ∈ rs12) ∧ rSl (kI .u8) v9 l10 ∈ rs12 ∧ m_letter_some_int64_j1 l8 l10 x11 = some r) ?_ ?_
 ·refine wp_seq ?_
  refine wp_region_lit ?_
  refine sv E rfl rfl rfl (x_ldBN (i := 0) (us := [.pointer (some ⟨p1, 0, none⟩)]) E H rfl rfl rfl rfl Try.underlying88 rfl sz88) ?_
  clear a E;intro a E
  replace H := H.front 0 rfl
  replace H := H.front 1 rfl
  replace H : Sep w (Blk p1 137 [v2, .int .i64 x4] :: Blk p6 88 [.pointer (some ⟨p1, 0, none⟩)] :: Fo) (rs) := H
  obtain ⟨u15, hx16, hm⟩ := bnd hm
  refine st_call E (wn rfl) rfl rfl (x_call E rfl rfl (cf39 _)) (c_letter_reader_num p1 v2 l3 x4 H hr5 hx16) ?_
  clear E H; clear a; clear w; rintro _ w ⟨v17, rfl, H⟩ a E
  refine sv E rfl rfl rfl (x_assign E rfl rfl) ?_
  clear a E;intro a E
  refine wpList_nil ?_
  refine q_then ?_
  refine wp_block ?_
  refine wp_loop_g (fun k1 a w => ∃ (v18 : Value) (v21 : Value) (l19 : (List Int)) (x20 : Int) (l22 : (List Int)) (x23 : Int) (rs24 : List Rp), Env 25 a [(1, .func (.func 39) #[.agg #[.pointer (some ⟨p1, 0, none⟩)]] #[]), (2, .pointer (some ⟨p6, 0, none⟩)), (5, v18), (6, .int .i64 x20)] ∧ Sep w (Blk p6 88 [.pointer (some ⟨p1, 0, none⟩)] :: Row 2 (kI .i64) v18 l19 :: Blk p1 137 [v21, .int .i64 x23] :: Fo) rs24 ∧ (∀ r, r ∈ rs → r ∈ rs24) ∧ rSl (kI .u8) v21 l22 ∈ rs24 ∧ m_letter_some_int64_l1 k1 l19 x20 l22 x23 = some r) (u15.1.toNat + 2) ?_ ?_
  ·replace H := H.nilRow 2 (kI .i64)
   replace H := H.front 1 rfl
   replace H := H.front 1 rfl
   replace H := H.front 2 rfl
   exact ⟨(.slice none 0 0), v17, [], u15.1, u15.2.1, u15.2.2, _, ((((E.nil.keep E 6 rfl).keep E 5 rfl).keep E 2 rfl).keep E 1 rfl), H, fun r hr => .tail _ (hr), (.head _), hm⟩
  ·clear E H hm
   rintro k1 a w ⟨v18, v21, l19, x20, l22, x23, rs24, E, H, hs25, hr26, hm⟩
   cases k1 with
   | zero => exact (none_some hm rfl).elim
   | succ k1 =>
    unfold m_letter_some_int64_l1 at hm
    refine wp_seq ?_
    refine wp_seq ?_
    refine wp_region_lit ?_
    refine sv E rfl rfl rfl (x_move E rfl rfl) ?_
    clear a E;intro a E
    refine sv E rfl rfl rfl (x_bin E rfl rfl rfl rfl) ?_
    clear a E;intro a E
    refine sv E rfl rfl rfl (x_move E rfl rfl) ?_
    clear a E;intro a E
    rcases Bool.eq_false_or_eq_true (decide (x20 > 0)) with hb27 | hb27
    ·rw [if_t hb27] at hm
     refine st_val E (ws' E rfl rfl rfl rfl hb27) rfl rfl (x_fa E rfl rfl (v := .pointer (some ⟨p6, 0, none⟩)) (fa88_0 _ _)) ?_
     clear a E;intro a E
     refine st_val E (ws' E rfl rfl rfl rfl hb27) rfl rfl (x_ldB (i := 0) E H rfl rfl rfl rfl Try.underlying85 rfl) ?_
     clear a E;intro a E
     replace H := H.front 1 rfl
     replace H := H.front 1 rfl
     replace H := H.front 2 rfl
     replace H : Sep w (Blk p1 137 [v21, .int .i64 x23] :: Blk p6 88 [.pointer (some ⟨p1, 0, none⟩)] :: Row 2 (kI .i64) v18 l19 :: Fo) (rs24) := H
     obtain ⟨u28, hx29, hm⟩ := bnd hm
     refine st_call E (ws' E rfl rfl rfl rfl hb27) rfl rfl (x_call E rfl rfl (cf88 _)) (c_pack_Reader_Err p1 v21 l22 x23 H hr26 hx29) ?_
     clear E H; clear a; clear w; rintro _ w ⟨rfl, H⟩ a E
     refine st_val E (ws' E rfl rfl rfl rfl hb27) rfl rfl (x_bin E rfl rfl rfl rfl) ?_
     clear a E;intro a E
     refine sv E rfl rfl rfl (x_pickT E rfl rfl hb27 rfl) ?_
     clear a E;intro a E
     refine wpList_nil ?_
     refine q_then ?_
     refine wp_if E rfl ?_ ?_
     ·intro hb
      rw [if_t hb] at hm
      clear hb
      refine wp_skip ?_
      refine q_then ?_
      refine wp_seq ?_
      refine wp_block ?_
      refine wp_region_lit ?_
      refine sv E rfl rfl rfl (x_move E rfl rfl) ?_
      clear a E;intro a E
      refine sv E rfl rfl rfl (x_move E rfl rfl) ?_
      clear a E;intro a E
      obtain ⟨u30, hx31, hm⟩ := bnd hm
      refine st_call E (wn rfl) rfl rfl (x_callv E rfl rfl rfl (cf39 _)) (c_letter_reader_num p1 v21 l22 x23 H hr26 hx31) ?_
      clear E H; clear a; clear w; rintro _ w ⟨v32, rfl, H⟩ a E
      refine st_bsR (e := 2) (d := (kI .i64)) (cs := [.int .i64 u30.1]) (xs := [u30.1]) E H (wn rfl) rfl rfl (ps := [(0, .tmp 21)]) (parts := [(0, .int .i64 u30.1)]) rfl (by simp only [List.map]; rw [E.eval (x := .tmp 21) (v := .int .i64 u30.1) rfl]) (by kernel_rfl) rfl (fun ok hr => (Rows.single (d := (kI .i64)) (cs := [.int .i64 u30.1]) (x := u30.1) rfl)) ?_
      clear E H; clear a; clear w; intro v33 w a H E
      obtain ⟨u35, hx36, hm⟩ := bnd hm
      refine st_append (i := 2) E H (wn rfl) rfl rfl rfl rfl rfl rfl (src_rd (.head _)) Try.underlying48 inf2 rfl (ck_of hx36) rfl ?_
      clear E H; clear a; clear w; intro v34 w a H E
      refine sv E rfl rfl rfl (x_assign E rfl rfl) ?_
      clear a E;intro a E
      refine wpList_nil ?_
      refine q_blk ?_
      refine q_then ?_
      refine wp_region_lit ?_
      refine sv E rfl rfl rfl (x_move E rfl rfl) ?_
      clear a E;intro a E
      refine sv E rfl rfl rfl (x_bin E rfl rfl rfl rfl) ?_
      clear a E;intro a E
      refine sv E rfl rfl rfl (x_assign E rfl rfl) ?_
      clear a E;intro a E
      refine wpList_nil ?_
      refine q_then ?_
      replace H := H.front 0 rfl
      replace H := H.front 2 rfl
      replace H := H.front 2 rfl
      exact ⟨k1, Nat.lt_succ_self k1, v34, v32, l19 ++ ([u30.1] : List Int), IntKind.i64.wrap (x20 - 1), u30.2.1, u30.2.2, _, ((((E.nil.keep E 6 rfl).keep E 5 rfl).keep E 2 rfl).keep E 1 rfl), H, fun r hr => .tail _ (.tail _ (hs25 r hr)), (.tail _ (.head _)), hm⟩
     ·intro hb
      rw [if_f hb] at hm
      clear hb
      refine wp_exit ?_
      refine q_thenX ?_
      refine q_thenX ?_
      refine q_hit ?_
      refine q_then ?_
      replace H := H.drop 1
      replace H := H.front 0 rfl
      replace H := H.front 1 rfl
      exact ⟨v18, v21, l19, l22, x23, _, (E.nil.keep E 5 rfl), H, hs25, hr26, hm⟩
    ·rw [if_f hb27] at hm
     refine st_no E (wf' E rfl rfl rfl rfl hb27 rfl) rfl rfl ?_
     clear a E;intro a E
     refine st_no E (wf' E rfl rfl rfl rfl hb27 rfl) rfl rfl ?_
     clear a E;intro a E
     refine st_no E (wf' E rfl rfl rfl rfl hb27 rfl) rfl rfl ?_
     clear a E;intro a E
     refine st_no E (wf' E rfl rfl rfl rfl hb27 rfl) rfl rfl ?_
     clear a E;intro a E
     refine sv E rfl rfl rfl (x_pickF E rfl rfl hb27 rfl) ?_
     clear a E;intro a E
     refine wpList_nil ?_
     refine q_then ?_
     refine wp_cond_false (E.eval rfl) ?_
     refine wp_exit ?_
     refine q_thenX ?_
     refine q_thenX ?_
     refine q_hit ?_
     refine q_then ?_
     replace H := H.drop 0
     exact ⟨v18, v21, l19, l22, x23, _, (E.nil.keep E 5 rfl), H, hs25, hr26, hm⟩
 ·clear E H hm
  rintro a w ⟨v7, v9, l8, l10, x11, rs12, E, H, hs13, hr14, hm⟩
  unfold m_letter_some_int64_j1 at hm
  refine wp_seq ?_
  refine wp_region_lit ?_
  refine sv E rfl rfl rfl (x_move E rfl rfl) ?_
  clear a E;intro a E
  refine sv E rfl rfl rfl (x_assign E rfl rfl) ?_
  clear a E;intro a E
  refine wpList_nil ?_
  refine q_then ?_
  refine wp_ret ?_
  refine out1 E rfl rfl ?_
  obtain rfl := Option.some.inj hm
  exact ⟨v7, v9, rfl, H.reads (sub_cons hr14 (fun r hr => hs13 r hr))⟩
end Go.Cb

set_option linter.unusedVariables false
set_option linter.unusedSimpArgs false
namespace Go.Cb
open Go.Proofs Go.RowKit
def m_letter_whole_api_Answer (l3 : List Int) (x4 : Int) (x5 : S_api_Answer) : Option (S_api_Answer × Int) :=
  (m_pack_Reader_End l3 x4).bind fun u35 => if (!u35) = true then (some ((⟨0, 0, false, 0, [], (⟨[], []⟩ : S_api_Store), [], [], []⟩ : S_api_Answer), 3)) else (some ((⟨x5.Err, x5.At, x5.Yes, x5.Epoch, x5.Results, (⟨x5.Store.Nodes, x5.Store.Turns⟩ : S_api_Store), x5.Events, x5.Mounts, x5.Wounded⟩ : S_api_Answer), 0))
set_option maxRecDepth 20000 in
set_option maxHeartbeats 1000000 in
theorem c_letter_whole_api_Answer {w : World} {Fo : List Ob} {rs : List Rp} (p1 : Nat) (v2 : Value) (l3 : List Int) (x4 : Int) (x5 : S_api_Answer) (v6 : Value) (v7 : Value) (v8 : Value) (v9 : Value) (v10 : Value) (v11 : Value) (H : Sep w (Blk p1 137 [v2, .int .i64 x4] :: Fo) rs) (hr12 : rSl (kI .u8) v2 l3 ∈ rs) (hr13 : rSl k_api_Result v6 x5.Results ∈ rs) (hr14 : rSl k_api_Node v7 x5.Store.Nodes ∈ rs) (hr15 : rSl k_api_Turn v8 x5.Store.Turns ∈ rs) (hr16 : rSl k_api_Event v9 x5.Events ∈ rs) (hr17 : rSl k_api_Mount v10 x5.Mounts ∈ rs) (hr18 : rSl (kI .i64) v11 x5.Wounded ∈ rs) {r : S_api_Answer × Int} (hm : m_letter_whole_api_Answer l3 x4 x5 = some r) :
    Calls Try.prog 76 [.agg #[.pointer (some ⟨p1, 0, none⟩)], .agg #[.int .i64 x5.Err, .int .i64 x5.At, .bool x5.Yes, .int .i64 x5.Epoch, v6, v7, v8, v9, v10, v11]].toArray w (Ret fun v w' => ∃ (v5002 : Value) (v5003 : Value) (v5004 : Value) (v5005 : Value) (v5006 : Value) (v5007 : Value), .tuple #[.agg #[.int .i64 r.1.Err, .int .i64 r.1.At, .bool r.1.Yes, .int .i64 r.1.Epoch, v5002, v5003, v5004, v5005, v5006, v5007], .int .i64 r.2] = v ∧ Sep w' (Blk p1 137 [v2, .int .i64 x4] :: Fo) (rSl k_api_Result v5002 r.1.Results :: rSl k_api_Node v5003 r.1.Store.Nodes :: rSl k_api_Turn v5004 r.1.Store.Turns :: rSl k_api_Event v5005 r.1.Events :: rSl k_api_Mount v5006 r.1.Mounts :: rSl (kI .i64) v5007 r.1.Wounded :: rs)) := by
 unfold m_letter_whole_api_Answer at hm
 refine enter Try.func76 rfl Try.ntmps76 rfl fun a E => ?_
 simp only [enum, Nat.reduceAdd] at E
 refine wp_seq ?_
 refine wp_region_lit ?_
 refine st_box E H (wn rfl) rfl rfl (cs := [.pointer (some ⟨p1, 0, none⟩)]) rfl rfl rfl ?_
 clear E H; clear a; clear w; intro p19 w a H E
 obtain ⟨q21, x22, rfl⟩ := H.slform hr13
 obtain ⟨q23, x24, rfl⟩ := H.slform hr14
 obtain ⟨q25, x26, rfl⟩ := H.slform hr15
 obtain ⟨q27, x28, rfl⟩ := H.slform hr16
 obtain ⟨q29, x30, rfl⟩ := H.slform hr17
 obtain ⟨q31, x32, rfl⟩ := H.slform hr18
 refine st_box E H (wn rfl) rfl rfl (cs := [.int .i64 x5.Err, .int .i64 x5.At, .bool x5.Yes, .int .i64 x5.Epoch, (.slice q21 x5.Results.length x22), (.slice q23 x5.Store.Nodes.length x24), (.slice q25 x5.Store.Turns.length x26), (.slice q27 x5.Events.length x28), (.slice q29 x5.Mounts.length x30), (.slice q31 x5.Wounded.length x32)]) rfl rfl rfl ?_
 clear E H; clear a; clear w; intro p20 w a H E
 refine st_alloc E H (wn rfl) rfl rfl (cs := [.int .i64 0, .int .i64 0, .bool false, .int .i64 0, .slice none 0 0, .slice none 0 0, .slice none 0 0, .slice none 0 0, .slice none 0 0, .slice none 0 0]) rfl (z := .agg #[.int .i64 0, .int .i64 0, .bool false, .int .i64 0, .slice none 0 0, .slice none 0 0, .slice none 0 0, .slice none 0 0, .slice none 0 0, .slice none 0 0]) (by kernel_rfl) rfl ?_
 clear E H; clear a; clear w; intro p33 w a H E
 refine sv E rfl rfl rfl (x_assign E rfl rfl) ?_
 clear a E;intro a E
 refine wpList_nil ?_
 refine q_then ?_
 refine wp_seq ?_
 refine wp_region_lit ?_
 refine st_alloc E H (wn rfl) rfl rfl (cs := [.int .i64 0, .int .i64 0, .bool false, .int .i64 0, .slice none 0 0, .slice none 0 0, .slice none 0 0, .slice none 0 0, .slice none 0 0, .slice none 0 0]) rfl (z := .agg #[.int .i64 0, .int .i64 0, .bool false, .int .i64 0, .slice none 0 0, .slice none 0 0, .slice none 0 0, .slice none 0 0, .slice none 0 0, .slice none 0 0]) (by kernel_rfl) rfl ?_
 clear E H; clear a; clear w; intro p34 w a H E
 refine wpList_nil ?_
 refine q_then ?_
 refine wp_seq ?_
 refine wp_seq ?_
 refine wp_region_lit ?_
 refine sv E rfl rfl rfl (x_fa E rfl rfl (v := .pointer (some ⟨p19, 0, none⟩)) (fa88_0 _ _)) ?_
 clear a E;intro a E
 refine sv E rfl rfl rfl (x_ldB (i := 3) E H rfl rfl rfl rfl Try.underlying85 rfl) ?_
 clear a E;intro a E
 replace H := H.front 3 rfl
 replace H := H.front 3 rfl
 replace H := H.front 3 rfl
 replace H := H.front 3 rfl
 replace H := H.front 4 rfl
 replace H : Sep w (Blk p1 137 [v2, .int .i64 x4] :: Blk p34 50 [.int .i64 0, .int .i64 0, .bool false, .int .i64 0, .slice none 0 0, .slice none 0 0, .slice none 0 0, .slice none 0 0, .slice none 0 0, .slice none 0 0] :: Blk p33 50 [.int .i64 0, .int .i64 0, .bool false, .int .i64 0, .slice none 0 0, .slice none 0 0, .slice none 0 0, .slice none 0 0, .slice none 0 0, .slice none 0 0] :: Blk p20 50 [.int .i64 x5.Err, .int .i64 x5.At, .bool x5.Yes, .int .i64 x5.Epoch, (.slice q21 x5.Results.length x22), (.slice q23 x5.Store.Nodes.length x24), (.slice q25 x5.Store.Turns.length x26), (.slice q27 x5.Events.length x28), (.slice q29 x5.Mounts.length x30), (.slice q31 x5.Wounded.length x32)] :: Blk p19 88 [.pointer (some ⟨p1, 0, none⟩)] :: Fo) (rs) := H
 obtain ⟨u35, hx36, hm⟩ := bnd hm
 refine st_call E (wn rfl) rfl rfl (x_call E rfl rfl (cf85 _)) (c_pack_Reader_End p1 v2 l3 x4 H hr12 hx36) ?_
 clear E H; clear a; clear w; rintro _ w ⟨rfl, H⟩ a E
 refine sv E rfl rfl rfl (x_not E rfl rfl) ?_
 clear a E;intro a E
 refine wpList_nil ?_
 refine q_then ?_
 refine wp_if E rfl ?_ ?_
 ·intro hb
  rw [if_t hb] at hm
  clear hb
  refine wp_seq ?_
  refine wp_region_lit ?_
  refine sv E rfl rfl rfl (x_ldBN (i := 1) (us := [.int .i64 0, .int .i64 0, .bool false, .int .i64 0, .slice none 0 0, .slice none 0 0, .slice none 0 0, .slice none 0 0, .slice none 0 0, .slice none 0 0]) E H rfl rfl rfl rfl Try.underlying50 rfl sz50) ?_
  clear a E;intro a E
  refine st_st (i := 2) E H (wn rfl) rfl (us := [.int .i64 0, .int .i64 0, .bool false, .int .i64 0, .slice none 0 0, .slice none 0 0, .slice none 0 0, .slice none 0 0, .slice none 0 0, .slice none 0 0]) rfl rfl rfl rfl rfl sz50 rfl rfl ?_
  clear H; clear w; intro w H
  replace H : Sep w (Blk p1 137 [v2, .int .i64 x4] :: Blk p34 50 [.int .i64 0, .int .i64 0, .bool false, .int .i64 0, .slice none 0 0, .slice none 0 0, .slice none 0 0, .slice none 0 0, .slice none 0 0, .slice none 0 0] :: Blk p33 50 [.int .i64 0, .int .i64 0, .bool false, .int .i64 0, .slice none 0 0, .slice none 0 0, .slice none 0 0, .slice none 0 0, .slice none 0 0, .slice none 0 0] :: Blk p20 50 [.int .i64 x5.Err, .int .i64 x5.At, .bool x5.Yes, .int .i64 x5.Epoch, (.slice q21 x5.Results.length x22), (.slice q23 x5.Store.Nodes.length x24), (.slice q25 x5.Store.Turns.length x26), (.slice q27 x5.Events.length x28), (.slice q29 x5.Mounts.length x30), (.slice q31 x5.Wounded.length x32)] :: Blk p19 88 [.pointer (some ⟨p1, 0, none⟩)] :: Fo) _ := H
  refine sv E rfl rfl rfl (x_assign E rfl rfl) ?_
  clear a E;intro a E
  refine wpList_nil ?_
  refine q_then ?_
  refine wp_ret ?_
  refine q_thenR ?_
  refine outR2 E rfl (rvBN (i := 2) (us := [.int .i64 0, .int .i64 0, .bool false, .int .i64 0, .slice none 0 0, .slice none 0 0, .slice none 0 0, .slice none 0 0, .slice none 0 0, .slice none 0 0]) H rfl rfl rfl Try.underlying50 rfl sz50) (rvT rfl) ?_
  replace H := H.nilSl k_api_Result
  replace H := H.nilSl k_api_Node
  replace H := H.nilSl k_api_Turn
  replace H := H.nilSl k_api_Event
  replace H := H.nilSl k_api_Mount
  replace H := H.nilSl (kI .i64)
  replace H := H.drop 1
  replace H := H.drop 1
  replace H := H.drop 1
  replace H := H.drop 1
  obtain rfl := Option.some.inj hm
  exact ⟨(.slice none 0 0), (.slice none 0 0), (.slice none 0 0), (.slice none 0 0), (.slice none 0 0), (.slice none 0 0), rfl, H.reads (sub_cons (.tail _ (.tail _ (.tail _ (.tail _ (.tail _ (.head _)))))) (sub_cons (.tail _ (.tail _ (.tail _ (.tail _ (.head _))))) (sub_cons (.tail _ (.tail _ (.tail _ (.head _)))) (sub_cons (.tail _ (.tail _ (.head _))) (sub_cons (.tail _ (.head _)) (sub_cons (.head _) (fun r hr => .tail _ (.tail _ (.tail _ (.tail _ (.tail _ (.tail _ (hr)))))))))))))⟩
 ·intro hb
  rw [if_f hb] at hm
  clear hb
  refine wp_skip ?_
  refine q_then ?_
  refine wp_seq ?_
  refine wp_region_lit ?_
  refine sv E rfl rfl rfl (x_ldBN (i := 3) (us := [.int .i64 x5.Err, .int .i64 x5.At, .bool x5.Yes, .int .i64 x5.Epoch, (.slice q21 x5.Results.length x22), (.slice q23 x5.Store.Nodes.length x24), (.slice q25 x5.Store.Turns.length x26), (.slice q27 x5.Events.length x28), (.slice q29 x5.Mounts.length x30), (.slice q31 x5.Wounded.length x32)]) E H rfl rfl rfl rfl Try.underlying50 rfl sz50) ?_
  clear a E;intro a E
  refine st_st (i := 2) E H (wn rfl) rfl (us := [.int .i64 x5.Err, .int .i64 x5.At, .bool x5.Yes, .int .i64 x5.Epoch, (.slice q21 x5.Results.length x22), (.slice q23 x5.Store.Nodes.length x24), (.slice q25 x5.Store.Turns.length x26), (.slice q27 x5.Events.length x28), (.slice q29 x5.Mounts.length x30), (.slice q31 x5.Wounded.length x32)]) rfl rfl rfl rfl rfl sz50 rfl rfl ?_
  clear H; clear w; intro w H
  replace H : Sep w (Blk p1 137 [v2, .int .i64 x4] :: Blk p34 50 [.int .i64 0, .int .i64 0, .bool false, .int .i64 0, .slice none 0 0, .slice none 0 0, .slice none 0 0, .slice none 0 0, .slice none 0 0, .slice none 0 0] :: Blk p33 50 [.int .i64 x5.Err, .int .i64 x5.At, .bool x5.Yes, .int .i64 x5.Epoch, (.slice q21 x5.Results.length x22), (.slice q23 x5.Store.Nodes.length x24), (.slice q25 x5.Store.Turns.length x26), (.slice q27 x5.Events.length x28), (.slice q29 x5.Mounts.length x30), (.slice q31 x5.Wounded.length x32)] :: Blk p20 50 [.int .i64 x5.Err, .int .i64 x5.At, .bool x5.Yes, .int .i64 x5.Epoch, (.slice q21 x5.Results.length x22), (.slice q23 x5.Store.Nodes.length x24), (.slice q25 x5.Store.Turns.length x26), (.slice q27 x5.Events.length x28), (.slice q29 x5.Mounts.length x30), (.slice q31 x5.Wounded.length x32)] :: Blk p19 88 [.pointer (some ⟨p1, 0, none⟩)] :: Fo) _ := H
  refine sv E rfl rfl rfl (x_assign E rfl rfl) ?_
  clear a E;intro a E
  refine wpList_nil ?_
  refine q_then ?_
  refine wp_ret ?_
  refine outR2 E rfl (rvBN (i := 2) (us := [.int .i64 x5.Err, .int .i64 x5.At, .bool x5.Yes, .int .i64 x5.Epoch, (.slice q21 x5.Results.length x22), (.slice q23 x5.Store.Nodes.length x24), (.slice q25 x5.Store.Turns.length x26), (.slice q27 x5.Events.length x28), (.slice q29 x5.Mounts.length x30), (.slice q31 x5.Wounded.length x32)]) H rfl rfl rfl Try.underlying50 rfl sz50) (rvT rfl) ?_
  replace H := H.drop 1
  replace H := H.drop 1
  replace H := H.drop 1
  replace H := H.drop 1
  obtain rfl := Option.some.inj hm
  exact ⟨(.slice q21 x5.Results.length x22), (.slice q23 x5.Store.Nodes.length x24), (.slice q25 x5.Store.Turns.length x26), (.slice q27 x5.Events.length x28), (.slice q29 x5.Mounts.length x30), (.slice q31 x5.Wounded.length x32), rfl, H.reads (sub_cons hr13 (sub_cons hr14 (sub_cons hr15 (sub_cons hr16 (sub_cons hr17 (sub_cons hr18 (fun r hr => hr)))))))⟩
end Go.Cb
