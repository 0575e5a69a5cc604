/- A function of the program, walked: it comes to its plain function. -/
import Derived.Test.YtbjpjbopfhbkmaaT
set_option linter.unusedVariables false
set_option linter.unusedSimpArgs false
namespace Go.Cb
open Go.Proofs Go.RowKit
def m_pack_Reader_Num_j1 : Option (Int × (List Int) × Int) :=
  some (0, ([] : List Int), 3)
def m_pack_Reader_Num_j3 (x26 : Int) : Option (Int × (List Int) × Int) :=
  some (0, ([] : List Int), x26)
def m_pack_Reader_Num_l1 (l3 : List Int) (x5 : Int) (x4 : Int) : Nat → Int → Int → Option (Int × (List Int) × Int)
  | 0, _, _ => none
  | k1 + 1, x13, x14 =>
    if (decide (x14 < (l3.length : Int))) = true then ((idx l3 x14).bind fun x18 => if (x14 == 7) = true then (m_pack_Reader_Num_j1) else (if (decide (x18 > 127)) = true then (m_pack_Reader_Num_l1 l3 x5 x4 k1 (ior .i64 (ishl .i64 x13 7) (IntKind.i64.wrap (iand .u8 x18 127))) (IntKind.i64.wrap (x14 + 1))) else (if (decide ((ior .i64 (ishl .i64 x13 7) (IntKind.i64.wrap (iand .u8 x18 127))) > (min x5 281474976710656))) = true then (m_pack_Reader_Num_j1) else ((ck (0 ≤ (IntKind.i64.wrap (x14 + 1)) ∧ (IntKind.i64.wrap (x14 + 1)) ≤ l3.length)).bind fun u21 => some (ior .i64 (ishl .i64 x13 7) (IntKind.i64.wrap (iand .u8 x18 127)), l3.drop (IntKind.i64.wrap (x14 + 1)).toNat, x4))))) else (if (decide ((l3.length : Int) < 7)) = true then (m_pack_Reader_Num_j3 21) else (m_pack_Reader_Num_j3 3))
def m_pack_Reader_Num_j2 (l3 : List Int) (x5 : Int) (x4 : Int) : Option (Int × (List Int) × Int) :=
  m_pack_Reader_Num_l1 l3 x5 x4 9 0 0
def m_pack_Reader_Num (l3 : List Int) (x4 : Int) (x5 : Int) : Option (Int × (List Int) × Int) :=
  if (x4 != 0) = true then (some (0, l3, x4)) else (if (decide ((l3.length : Int) > 0)) = true then ((idx l3 0).bind fun x31 => if (x31 == 128) = true then (m_pack_Reader_Num_j1) else (m_pack_Reader_Num_j2 l3 x5 x4)) else (m_pack_Reader_Num_j2 l3 x5 x4))
set_option maxRecDepth 20000 in
set_option maxHeartbeats 1000000 in
theorem c_pack_Reader_Num {w : World} {Fo : List Ob} {rs : List Rp} (p1 : Nat) (v2 : Value) (l3 : List Int) (x4 : Int) (x5 : Int) (H : Sep w (Blk p1 91 [v2, .int .i64 x4] :: Fo) rs) (hr6 : rSl (kI .u8) v2 l3 ∈ rs) {r : Int × (List Int) × Int} (hm : m_pack_Reader_Num l3 x4 x5 = some r) :
    Calls Try.prog 32 [.pointer (some ⟨p1, 0, none⟩), .int .i64 x5].toArray w (Ret fun v w' => ∃ (v5002 : Value), .int .i64 r.1 = v ∧ Sep w' (Blk p1 91 [v5002, .int .i64 r.2.2] :: Fo) (rSl (kI .u8) v5002 r.2.1 :: rs)) := by
  unfold m_pack_Reader_Num at hm
  refine enter Try.func32 rfl Try.ntmps32 rfl fun a E => ?_
  simp only [enum, Nat.reduceAdd] at E
  refine wp_seq ?_
  refine wp_region_lit ?_
  refine st_val E (wn rfl) rfl rfl (x_assign E rfl rfl) ?_
  clear E; clear a; intro a E
  refine wpList_nil ?_
  refine q_then ?_
  refine wp_scope_jumps 0 (fun a w => ∃ (rs7 : List Rp), Env 78 a [(0, .pointer (some ⟨p1, 0, none⟩)), (6, .int .i64 3)] ∧ Sep w (Blk p1 91 [v2, .int .i64 x4] :: Fo) rs7 ∧ (∀ r, r ∈ rs → r ∈ rs7) ∧ rSl (kI .u8) v2 l3 ∈ rs7 ∧ m_pack_Reader_Num_j1 = some r) (fun _ _ => 0) rfl ?_ ?_
  · refine wp_seq ?_
    refine wp_region_lit ?_
    refine st_val E (wn rfl) rfl rfl (x_assign E rfl rfl) ?_
    clear E; clear a; intro a E
    refine wpList_nil ?_
    refine q_then ?_
    refine wp_seq ?_
    refine wp_region_lit ?_
    refine st_val E (wn rfl) rfl rfl (x_assign E rfl rfl) ?_
    clear E; clear a; intro a E
    refine wpList_nil ?_
    refine q_then ?_
    refine wp_seq ?_
    refine wp_seq ?_
    refine wp_region_lit ?_
    refine st_val E (wn rfl) rfl rfl (x_move E rfl rfl) ?_
    clear E; clear a; intro a E
    refine st_val E (wn rfl) rfl rfl (x_nil E rfl rfl) ?_
    clear E; clear a; intro a E
    refine st_val E (wn rfl) rfl rfl (x_fa E rfl rfl (v := .pointer (some ⟨p1, 1, none⟩)) (fa91_1 _ _)) ?_
    clear E; clear a; intro a E
    refine st_val E (wn rfl) rfl rfl (x_ldB (i := 0) E H rfl rfl rfl rfl Try.underlying52 rfl) ?_
    clear E; clear a; intro a E
    refine st_val E (wn rfl) rfl rfl (x_bin E rfl rfl rfl rfl) ?_
    clear E; clear a; intro a E
    refine wpList_nil ?_
    refine q_then ?_
    refine wp_if E rfl ?_ ?_
    · intro hb
      rw [if_t hb] at hm
      clear hb
      refine wp_seq ?_
      refine wp_region_lit ?_
      refine st_val E (wn rfl) rfl rfl (x_assign E rfl rfl) ?_
      clear E; clear a; intro a E
      refine wpList_nil ?_
      refine q_then ?_
      refine wp_ret ?_
      refine q_thenR ?_
      refine q_jumpR ?_
      refine out1 E rfl rfl ?_
      obtain rfl := Option.some.inj hm
      exact ⟨v2, rfl, H.reads (sub_cons hr6 (fun r hr => hr))⟩
    · intro hb
      rw [if_f hb] at hm
      clear hb
      refine wp_skip ?_
      refine q_then ?_
      refine wp_seq_cut (fun a w => ∃ (rs10 : List Rp), Env 78 a [(0, .pointer (some ⟨p1, 0, none⟩)), (1, .int .i64 x5), (5, .int .i64 0), (6, .int .i64 3)] ∧ Sep w (Blk p1 91 [v2, .int .i64 x4] :: Fo) rs10 ∧ (∀ r, r ∈ rs → r ∈ rs10) ∧ rSl (kI .u8) v2 l3 ∈ rs10 ∧ m_pack_Reader_Num_j2 l3 x5 x4 = some r) ?_ ?_
      · refine wp_seq ?_
        refine wp_region_lit ?_
        refine st_val E (wn rfl) rfl rfl (x_move E rfl rfl) ?_
        clear E; clear a; intro a E
        refine st_val E (wn rfl) rfl rfl (x_nil E rfl rfl) ?_
        clear E; clear a; intro a E
        refine st_val E (wn rfl) rfl rfl (x_fa E rfl rfl (v := .pointer (some ⟨p1, 0, none⟩)) (fa91_0 _ _)) ?_
        clear E; clear a; intro a E
        refine st_val E (wn rfl) rfl rfl (x_ldB (i := 0) E H rfl rfl rfl rfl Try.underlying46 rfl) ?_
        clear E; clear a; intro a E
        refine st_val E (wn rfl) rfl rfl (x_lenS E H rfl rfl hr6 Try.underlying46) ?_
        clear E; clear a; intro a E
        refine st_val E (wn rfl) rfl rfl (x_bin E rfl rfl rfl rfl) ?_
        clear E; clear a; intro a E
        refine st_val E (wn rfl) rfl rfl (x_move E rfl rfl) ?_
        clear E; clear a; intro a E
        rcases Bool.eq_false_or_eq_true (decide ((l3.length : Int) > 0)) with hb30 | hb30
        · rw [if_t hb30] at hm
          refine st_val E (ws' E rfl rfl rfl rfl hb30) rfl rfl (x_move E rfl rfl) ?_
          clear E; clear a; intro a E
          refine st_val E (ws' E rfl rfl rfl rfl hb30) rfl rfl (x_nil E rfl rfl) ?_
          clear E; clear a; intro a E
          refine st_val E (ws' E rfl rfl rfl rfl hb30) rfl rfl (x_fa E rfl rfl (v := .pointer (some ⟨p1, 0, none⟩)) (fa91_0 _ _)) ?_
          clear E; clear a; intro a E
          refine st_val E (ws' E rfl rfl rfl rfl hb30) rfl rfl (x_ldB (i := 0) E H rfl rfl rfl rfl Try.underlying46 rfl) ?_
          clear E; clear a; intro a E
          obtain ⟨x31, hx32, hm⟩ := bnd hm
          refine st_ixS E H (ws' E rfl rfl rfl rfl hb30) rfl rfl rfl rfl rfl hr6 Try.underlying46 sz5 hx32 ?_
          clear E H; clear a; intro q33 a H E
          refine st_val E (ws' E rfl rfl rfl rfl hb30) rfl rfl (x_ldA E H rfl rfl (.head _) Try.underlying5 rfl) ?_
          clear E; clear a; intro a E
          refine st_val E (ws' E rfl rfl rfl rfl hb30) rfl rfl (x_bin E rfl rfl rfl rfl) ?_
          clear E; clear a; intro a E
          refine st_val E (wn rfl) rfl rfl (x_pickT E rfl rfl hb30 rfl) ?_
          clear E; clear a; intro a E
          refine wpList_nil ?_
          refine q_then ?_
          refine wp_if E rfl ?_ ?_
          · intro hb
            rw [if_t hb] at hm
            clear hb
            refine wp_goto ?_
            refine q_thenG ?_
            refine q_jump ?_
            exact ⟨_, ((E.nil.keep E 6 rfl).keep E 0 rfl), H, fun r hr => .tail _ (hr), (.tail _ hr6), hm⟩
          · intro hb
            rw [if_f hb] at hm
            clear hb
            refine wp_skip ?_
            refine q_then ?_
            exact ⟨_, ((((E.nil.keep E 6 rfl).keep E 5 rfl).keep E 1 rfl).keep E 0 rfl), H, fun r hr => .tail _ (hr), (.tail _ hr6), hm⟩
        · rw [if_f hb30] at hm
          refine st_no E (wf' E rfl rfl rfl rfl hb30 rfl) rfl rfl ?_
          clear E; clear a; intro a E
          refine st_no E (wf' E rfl rfl rfl rfl hb30 rfl) rfl rfl ?_
          clear E; clear a; intro a E
          refine st_no E (wf' E rfl rfl rfl rfl hb30 rfl) rfl rfl ?_
          clear E; clear a; intro a E
          refine st_no E (wf' E rfl rfl rfl rfl hb30 rfl) rfl rfl ?_
          clear E; clear a; intro a E
          refine st_no E (wf' E rfl rfl rfl rfl hb30 rfl) rfl rfl ?_
          clear E; clear a; intro a E
          refine st_no E (wf' E rfl rfl rfl rfl hb30 rfl) rfl rfl ?_
          clear E; clear a; intro a E
          refine st_no E (wf' E rfl rfl rfl rfl hb30 rfl) rfl rfl ?_
          clear E; clear a; intro a E
          refine st_val E (wn rfl) rfl rfl (x_pickF E rfl rfl hb30 rfl) ?_
          clear E; clear a; intro a E
          refine wpList_nil ?_
          refine q_then ?_
          refine wp_cond_false (E.eval rfl) ?_
          refine wp_skip ?_
          refine q_then ?_
          exact ⟨_, ((((E.nil.keep E 6 rfl).keep E 5 rfl).keep E 1 rfl).keep E 0 rfl), H, fun r hr => hr, hr6, hm⟩
      · clear E H hm
        rintro a w ⟨rs10, E, H, hs11, hr12, hm⟩
        unfold m_pack_Reader_Num_j2 at hm
        refine wp_seq ?_
        refine wp_seq ?_
        refine wp_region_lit ?_
        refine st_val E (wn rfl) rfl rfl (x_move E rfl rfl) ?_
        clear E; clear a; intro a E
        refine st_val E (wn rfl) rfl rfl (x_nil E rfl rfl) ?_
        clear E; clear a; intro a E
        refine st_val E (wn rfl) rfl rfl (x_fa E rfl rfl (v := .pointer (some ⟨p1, 0, none⟩)) (fa91_0 _ _)) ?_
        clear E; clear a; intro a E
        refine st_val E (wn rfl) rfl rfl (x_ldB (i := 0) E H rfl rfl rfl rfl Try.underlying46 rfl) ?_
        clear E; clear a; intro a E
        refine st_val E (wn rfl) rfl rfl (x_lenS E H rfl rfl hr12 Try.underlying46) ?_
        clear E; clear a; intro a E
        refine st_val E (wn rfl) rfl rfl (x_move E rfl rfl) ?_
        clear E; clear a; intro a E
        refine wpList_nil ?_
        refine q_then ?_
        refine wp_block ?_
        refine wp_loop_g (fun k1 a w => ∃ (x13 : Int) (x14 : Int) (rs15 : List Rp), Env 78 a [(0, .pointer (some ⟨p1, 0, none⟩)), (1, .int .i64 x5), (5, .int .i64 x13), (6, .int .i64 3), (32, v2), (33, .int .i64 (l3.length : Int)), (34, .int .i64 x14)] ∧ Sep w (Blk p1 91 [v2, .int .i64 x4] :: Fo) rs15 ∧ (∀ r, r ∈ rs → r ∈ rs15) ∧ rSl (kI .u8) v2 l3 ∈ rs15 ∧ m_pack_Reader_Num_l1 l3 x5 x4 k1 x13 x14 = some r) (9) ?_ ?_
        · exact ⟨0, 0, _, (((((((E.nil.keep E 34 rfl).keep E 33 rfl).keep E 32 rfl).keep E 6 rfl).keep E 5 rfl).keep E 1 rfl).keep E 0 rfl), H, hs11, hr12, hm⟩
        · clear E H hm
          rintro k1 a w ⟨x13, x14, rs15, E, H, hs16, hr17, hm⟩
          cases k1 with
          | zero => exact (none_some hm rfl).elim
          | succ k1 =>
            unfold m_pack_Reader_Num_l1 at hm
            refine wp_seq ?_
            refine wp_region_lit ?_
            refine st_val E (wn rfl) rfl rfl (x_bin E rfl rfl rfl rfl) ?_
            clear E; clear a; intro a E
            refine wpList_nil ?_
            refine q_then ?_
            refine wp_seq ?_
            refine wp_if E rfl ?_ ?_
            · intro hb
              rw [if_t hb] at hm
              clear hb
              refine wp_skip ?_
              refine q_then ?_
              refine wp_seq ?_
              refine wp_block ?_
              refine wp_seq ?_
              refine wp_region_lit ?_
              refine st_val E (wn rfl) rfl rfl (x_move E rfl rfl) ?_
              clear E; clear a; intro a E
              obtain ⟨x18, hx19, hm⟩ := bnd hm
              refine st_ixS E H (wn rfl) rfl rfl rfl rfl rfl hr17 Try.underlying46 sz5 hx19 ?_
              clear E H; clear a; intro q20 a H E
              refine st_val E (wn rfl) rfl rfl (x_ldA E H rfl rfl (.head _) Try.underlying5 rfl) ?_
              clear E; clear a; intro a E
              refine st_val E (wn rfl) rfl rfl (x_assign E rfl rfl) ?_
              clear E; clear a; intro a E
              refine st_val E (wn rfl) rfl rfl (x_assign E rfl rfl) ?_
              clear E; clear a; intro a E
              refine wpList_nil ?_
              refine q_then ?_
              refine wp_seq ?_
              refine wp_seq ?_
              refine wp_region_lit ?_
              refine st_val E (wn rfl) rfl rfl (x_move E rfl rfl) ?_
              clear E; clear a; intro a E
              refine st_val E (wn rfl) rfl rfl (x_bin E rfl rfl rfl rfl) ?_
              clear E; clear a; intro a E
              refine wpList_nil ?_
              refine q_then ?_
              refine wp_if E rfl ?_ ?_
              · intro hb
                rw [if_t hb] at hm
                clear hb
                refine wp_goto ?_
                refine q_thenG ?_
                refine q_blkG ?_
                refine q_thenG ?_
                refine q_thenG ?_
                refine q_blkG ?_
                refine q_thenG ?_
                refine q_jump ?_
                exact ⟨_, ((E.nil.keep E 6 rfl).keep E 0 rfl), H, fun r hr => .tail _ (hs16 r hr), (.tail _ hr17), hm⟩
              · intro hb
                rw [if_f hb] at hm
                clear hb
                refine wp_skip ?_
                refine q_then ?_
                refine wp_seq ?_
                refine wp_region_lit ?_
                refine st_val E (wn rfl) rfl rfl (x_move E rfl rfl) ?_
                clear E; clear a; intro a E
                refine st_val E (wn rfl) rfl rfl (x_shl E rfl rfl rfl (by decide)) ?_
                clear E; clear a; intro a E
                refine st_val E (wn rfl) rfl rfl (x_move E rfl rfl) ?_
                clear E; clear a; intro a E
                refine st_val E (wn rfl) rfl rfl (x_bin E rfl rfl rfl rfl) ?_
                clear E; clear a; intro a E
                refine st_val E (wn rfl) rfl rfl (x_conv E rfl rfl (v := .int .i64 (IntKind.i64.wrap (iand .u8 x18 127))) (by kernel_rfl)) ?_
                clear E; clear a; intro a E
                refine st_val E (wn rfl) rfl rfl (x_bin E rfl rfl rfl rfl) ?_
                clear E; clear a; intro a E
                refine st_val E (wn rfl) rfl rfl (x_assign E rfl rfl) ?_
                clear E; clear a; intro a E
                refine wpList_nil ?_
                refine q_then ?_
                refine wp_seq ?_
                refine wp_seq ?_
                refine wp_region_lit ?_
                refine st_val E (wn rfl) rfl rfl (x_move E rfl rfl) ?_
                clear E; clear a; intro a E
                refine st_val E (wn rfl) rfl rfl (x_bin E rfl rfl rfl rfl) ?_
                clear E; clear a; intro a E
                refine wpList_nil ?_
                refine q_then ?_
                refine wp_if E rfl ?_ ?_
                · intro hb
                  rw [if_t hb] at hm
                  clear hb
                  refine wp_exit ?_
                  refine q_thenX ?_
                  refine q_hit ?_
                  refine q_then ?_
                  refine wp_region_lit ?_
                  refine st_val E (wn rfl) rfl rfl (x_bin E rfl rfl rfl rfl) ?_
                  clear E; clear a; intro a E
                  refine st_val E (wn rfl) rfl rfl (x_move E rfl rfl) ?_
                  clear E; clear a; intro a E
                  refine wpList_nil ?_
                  refine q_then ?_
                  exact ⟨k1, Nat.lt_succ_self k1, ior .i64 (ishl .i64 x13 7) (IntKind.i64.wrap (iand .u8 x18 127)), IntKind.i64.wrap (x14 + 1), _, (((((((E.nil.keep E 34 rfl).keep E 33 rfl).keep E 32 rfl).keep E 6 rfl).keep E 5 rfl).keep E 1 rfl).keep E 0 rfl), H, fun r hr => .tail _ (hs16 r hr), (.tail _ hr17), hm⟩
                · intro hb
                  rw [if_f hb] at hm
                  clear hb
                  refine wp_skip ?_
                  refine q_then ?_
                  refine wp_seq ?_
                  refine wp_seq ?_
                  refine wp_region_lit ?_
                  refine st_val E (wn rfl) rfl rfl (x_move E rfl rfl) ?_
                  clear E; clear a; intro a E
                  refine st_val E (wn rfl) rfl rfl (x_move E rfl rfl) ?_
                  clear E; clear a; intro a E
                  refine st_val E (wn rfl) rfl rfl (x_min (t := 0) E rfl rfl rfl) ?_
                  clear E; clear a; intro a E
                  refine st_val E (wn rfl) rfl rfl (x_bin E rfl rfl rfl rfl) ?_
                  clear E; clear a; intro a E
                  refine wpList_nil ?_
                  refine q_then ?_
                  refine wp_if E rfl ?_ ?_
                  · intro hb
                    rw [if_t hb] at hm
                    clear hb
                    refine wp_goto ?_
                    refine q_thenG ?_
                    refine q_blkG ?_
                    refine q_thenG ?_
                    refine q_thenG ?_
                    refine q_blkG ?_
                    refine q_thenG ?_
                    refine q_jump ?_
                    exact ⟨_, ((E.nil.keep E 6 rfl).keep E 0 rfl), H, fun r hr => .tail _ (hs16 r hr), (.tail _ hr17), hm⟩
                  · intro hb
                    rw [if_f hb] at hm
                    clear hb
                    refine wp_skip ?_
                    refine q_then ?_
                    refine wp_seq ?_
                    refine wp_region_lit ?_
                    refine st_val E (wn rfl) rfl rfl (x_move E rfl rfl) ?_
                    clear E; clear a; intro a E
                    refine st_val E (wn rfl) rfl rfl (x_move E rfl rfl) ?_
                    clear E; clear a; intro a E
                    refine st_val E (wn rfl) rfl rfl (x_nil E rfl rfl) ?_
                    clear E; clear a; intro a E
                    refine st_val E (wn rfl) rfl rfl (x_fa E rfl rfl (v := .pointer (some ⟨p1, 0, none⟩)) (fa91_0 _ _)) ?_
                    clear E; clear a; intro a E
                    refine st_val E (wn rfl) rfl rfl (x_ldB (i := 0) E H rfl rfl rfl rfl Try.underlying46 rfl) ?_
                    clear E; clear a; intro a E
                    refine st_val E (wn rfl) rfl rfl (x_move E rfl rfl) ?_
                    clear E; clear a; intro a E
                    refine st_val E (wn rfl) rfl rfl (x_bin E rfl rfl rfl rfl) ?_
                    clear E; clear a; intro a E
                    obtain ⟨u21, hx22, hm⟩ := bnd hm
                    refine st_cut E H (wn rfl) rfl rfl rfl rfl rfl (.tail _ hr17) Try.underlying46 sz5 (ck_of hx22) ?_
                    clear E H; clear a; intro v23 a H E
                    refine st_val E (wn rfl) rfl rfl (x_nil E rfl rfl) ?_
                    clear E; clear a; intro a E
                    refine st_val E (wn rfl) rfl rfl (x_fa E rfl rfl (v := .pointer (some ⟨p1, 0, none⟩)) (fa91_0 _ _)) ?_
                    clear E; clear a; intro a E
                    obtain ⟨q24, x25, rfl⟩ := H.slform (.head _)
                    refine st_st (i := 0) E H (wn rfl) rfl (us := [(.slice q24 (l3.drop (IntKind.i64.wrap (x14 + 1)).toNat).length x25)]) rfl rfl rfl rfl rfl sz46 rfl rfl ?_
                    clear H; clear w; intro w H
                    replace H : Sep w (Blk p1 91 [(.slice q24 (l3.drop (IntKind.i64.wrap (x14 + 1)).toNat).length x25), .int .i64 x4] :: Fo) _ := H
                    refine wpList_nil ?_
                    refine q_then ?_
                    refine wp_seq ?_
                    refine wp_region_lit ?_
                    refine st_val E (wn rfl) rfl rfl (x_move E rfl rfl) ?_
                    clear E; clear a; intro a E
                    refine st_val E (wn rfl) rfl rfl (x_assign E rfl rfl) ?_
                    clear E; clear a; intro a E
                    refine wpList_nil ?_
                    refine q_then ?_
                    refine wp_ret ?_
                    refine q_blkR ?_
                    refine q_thenR ?_
                    refine q_thenR ?_
                    refine q_blkR ?_
                    refine q_thenR ?_
                    refine q_jumpR ?_
                    refine out1 E rfl rfl ?_
                    obtain rfl := Option.some.inj hm
                    exact ⟨(.slice q24 (l3.drop (IntKind.i64.wrap (x14 + 1)).toNat).length x25), rfl, H.reads (sub_cons (.head _) (fun r hr => .tail _ (.tail _ (hs16 r hr))))⟩
            · intro hb
              rw [if_f hb] at hm
              clear hb
              refine wp_exit ?_
              refine q_thenX ?_
              refine q_thenX ?_
              refine q_hit ?_
              refine q_then ?_
              refine wp_seq_cut (fun a w => ∃ (x26 : Int) (rs27 : List Rp), Env 78 a [(0, .pointer (some ⟨p1, 0, none⟩)), (6, .int .i64 x26)] ∧ Sep w (Blk p1 91 [v2, .int .i64 x4] :: Fo) rs27 ∧ (∀ r, r ∈ rs → r ∈ rs27) ∧ rSl (kI .u8) v2 l3 ∈ rs27 ∧ m_pack_Reader_Num_j3 x26 = some r) ?_ ?_
              · refine wp_seq ?_
                refine wp_region_lit ?_
                refine st_val E (wn rfl) rfl rfl (x_move E rfl rfl) ?_
                clear E; clear a; intro a E
                refine st_val E (wn rfl) rfl rfl (x_nil E rfl rfl) ?_
                clear E; clear a; intro a E
                refine st_val E (wn rfl) rfl rfl (x_fa E rfl rfl (v := .pointer (some ⟨p1, 0, none⟩)) (fa91_0 _ _)) ?_
                clear E; clear a; intro a E
                refine st_val E (wn rfl) rfl rfl (x_ldB (i := 0) E H rfl rfl rfl rfl Try.underlying46 rfl) ?_
                clear E; clear a; intro a E
                refine st_val E (wn rfl) rfl rfl (x_lenS E H rfl rfl hr17 Try.underlying46) ?_
                clear E; clear a; intro a E
                refine st_val E (wn rfl) rfl rfl (x_bin E rfl rfl rfl rfl) ?_
                clear E; clear a; intro a E
                refine wpList_nil ?_
                refine q_then ?_
                refine wp_if E rfl ?_ ?_
                · intro hb
                  rw [if_t hb] at hm
                  clear hb
                  refine wp_region_lit ?_
                  refine st_val E (wn rfl) rfl rfl (x_assign E rfl rfl) ?_
                  clear E; clear a; intro a E
                  refine wpList_nil ?_
                  refine q_then ?_
                  exact ⟨21, _, ((E.nil.keep E 6 rfl).keep E 0 rfl), H, hs16, hr17, hm⟩
                · intro hb
                  rw [if_f hb] at hm
                  clear hb
                  refine wp_skip ?_
                  refine q_then ?_
                  exact ⟨3, _, ((E.nil.keep E 6 rfl).keep E 0 rfl), H, hs16, hr17, hm⟩
              · clear E H hm
                rintro a w ⟨x26, rs27, E, H, hs28, hr29, hm⟩
                unfold m_pack_Reader_Num_j3 at hm
                refine wp_seq ?_
                refine wp_label ?_
                refine q_then ?_
                refine wp_seq ?_
                refine wp_region_lit ?_
                refine st_val E (wn rfl) rfl rfl (x_move E rfl rfl) ?_
                clear E; clear a; intro a E
                refine st_val E (wn rfl) rfl rfl (x_move E rfl rfl) ?_
                clear E; clear a; intro a E
                refine st_val E (wn rfl) rfl rfl (x_move E rfl rfl) ?_
                clear E; clear a; intro a E
                refine st_val E (wn rfl) rfl rfl (x_nil E rfl rfl) ?_
                clear E; clear a; intro a E
                refine st_val E (wn rfl) rfl rfl (x_fa E rfl rfl (v := .pointer (some ⟨p1, 1, none⟩)) (fa91_1 _ _)) ?_
                clear E; clear a; intro a E
                refine st_st (i := 0) E H (wn rfl) rfl (us := [.int .i64 x26]) rfl rfl rfl rfl rfl sz52 rfl rfl ?_
                clear H; clear w; intro w H
                replace H : Sep w (Blk p1 91 [v2, .int .i64 x26] :: Fo) _ := H
                refine st_val E (wn rfl) rfl rfl (x_nil E rfl rfl) ?_
                clear E; clear a; intro a E
                refine st_val E (wn rfl) rfl rfl (x_fa E rfl rfl (v := .pointer (some ⟨p1, 0, none⟩)) (fa91_0 _ _)) ?_
                clear E; clear a; intro a E
                refine st_st (i := 0) E H (wn rfl) rfl (us := [.slice none 0 0]) rfl rfl rfl rfl rfl sz46 rfl rfl ?_
                clear H; clear w; intro w H
                replace H : Sep w (Blk p1 91 [.slice none 0 0, .int .i64 x26] :: Fo) _ := H
                refine wpList_nil ?_
                refine q_then ?_
                refine wp_seq ?_
                refine wp_region_lit ?_
                refine st_val E (wn rfl) rfl rfl (x_assign E rfl rfl) ?_
                clear E; clear a; intro a E
                refine wpList_nil ?_
                refine q_then ?_
                refine wp_ret ?_
                refine q_jumpR ?_
                refine out1 E rfl rfl ?_
                replace H := H.nilSl (kI .u8)
                obtain rfl := Option.some.inj hm
                exact ⟨(.slice none 0 0), rfl, H.reads (sub_cons (.head _) (fun r hr => .tail _ (hs28 r hr)))⟩
  · clear E H hm
    rintro a w ⟨rs7, E, H, hs8, hr9, hm⟩
    unfold m_pack_Reader_Num_j1 at hm
    refine wp_seq ?_
    refine wp_skip ?_
    refine q_then ?_
    refine wp_seq ?_
    refine wp_region_lit ?_
    refine st_val E (wn rfl) rfl rfl (x_move E rfl rfl) ?_
    clear E; clear a; intro a E
    refine st_val E (wn rfl) rfl rfl (x_move E rfl rfl) ?_
    clear E; clear a; intro a E
    refine st_val E (wn rfl) rfl rfl (x_move E rfl rfl) ?_
    clear E; clear a; intro a E
    refine st_val E (wn rfl) rfl rfl (x_nil E rfl rfl) ?_
    clear E; clear a; intro a E
    refine st_val E (wn rfl) rfl rfl (x_fa E rfl rfl (v := .pointer (some ⟨p1, 1, none⟩)) (fa91_1 _ _)) ?_
    clear E; clear a; intro a E
    refine st_st (i := 0) E H (wn rfl) rfl (us := [.int .i64 3]) rfl rfl rfl rfl rfl sz52 rfl rfl ?_
    clear H; clear w; intro w H
    replace H : Sep w (Blk p1 91 [v2, .int .i64 3] :: Fo) _ := H
    refine st_val E (wn rfl) rfl rfl (x_nil E rfl rfl) ?_
    clear E; clear a; intro a E
    refine st_val E (wn rfl) rfl rfl (x_fa E rfl rfl (v := .pointer (some ⟨p1, 0, none⟩)) (fa91_0 _ _)) ?_
    clear E; clear a; intro a E
    refine st_st (i := 0) E H (wn rfl) rfl (us := [.slice none 0 0]) rfl rfl rfl rfl rfl sz46 rfl rfl ?_
    clear H; clear w; intro w H
    replace H : Sep w (Blk p1 91 [.slice none 0 0, .int .i64 3] :: Fo) _ := H
    refine wpList_nil ?_
    refine q_then ?_
    refine wp_seq ?_
    refine wp_region_lit ?_
    refine st_val E (wn rfl) rfl rfl (x_assign E rfl rfl) ?_
    clear E; clear a; intro a E
    refine wpList_nil ?_
    refine q_then ?_
    refine wp_ret ?_
    refine q_jumpR ?_
    refine out1 E rfl rfl ?_
    replace H := H.nilSl (kI .u8)
    obtain rfl := Option.some.inj hm
    exact ⟨(.slice none 0 0), rfl, H.reads (sub_cons (.head _) (fun r hr => .tail _ (hs8 r hr)))⟩
end Go.Cb
