/- A function of the program, walked: it comes to its plain function. -/
import Derived.Test.YtbjpjbopfhbkmaaT
import Derived.Test.YtbjpjbopfhbkmaaFcantonref02Readerfail
set_option linter.unusedVariables false
set_option linter.unusedSimpArgs false
namespace Go.Cb
open Go.Proofs Go.RowKit
def m_cantonref02_Reader_Num_j2 (l3 : List Int) (x4 : Int) (x8 : Int) (x7 : Int) (x15 : Int) (b25 : Bool) : Option (Int × (List Int) × Int) :=
  if b25 = true then ((m_cantonref02_Reader_fail l3 x4 3).bind fun u29 => some (0, u29.1, u29.2)) else ((ck (0 ≤ (IntKind.i64.wrap (x8 + 1)) ∧ (IntKind.i64.wrap (x8 + 1)) ≤ l3.length)).bind fun u32 => some (IntKind.i64.wrap ((IntKind.i64.wrap (x7 * 128)) + (IntKind.i64.wrap (x15.tmod 128))), l3.drop (IntKind.i64.wrap (x8 + 1)).toNat, x4))
def m_cantonref02_Reader_Num_j1 (rec_1 : Int → Int → Option (Int × (List Int) × Int)) (l3 : List Int) (x4 : Int) (x8 : Int) (x7 : Int) (x15 : Int) (x5 : Int) (b18 : Bool) : Option (Int × (List Int) × Int) :=
  if b18 = true then ((m_cantonref02_Reader_fail l3 x4 3).bind fun u22 => some (0, u22.1, u22.2)) else (if (decide (x15 < 128)) = true then (if (decide ((IntKind.i64.wrap ((IntKind.i64.wrap (x7 * 128)) + (IntKind.i64.wrap (x15.tmod 128)))) > 281474976710656)) = true then (m_cantonref02_Reader_Num_j2 l3 x4 x8 x7 x15 true) else (m_cantonref02_Reader_Num_j2 l3 x4 x8 x7 x15 (decide ((IntKind.i64.wrap ((IntKind.i64.wrap (x7 * 128)) + (IntKind.i64.wrap (x15.tmod 128)))) > x5)))) else (rec_1 (IntKind.i64.wrap ((IntKind.i64.wrap (x7 * 128)) + (IntKind.i64.wrap (x15.tmod 128)))) (IntKind.i64.wrap (x8 + 1))))
def m_cantonref02_Reader_Num_l1 (l3 : List Int) (x4 : Int) (x5 : Int) : Nat → Int → Int → Option (Int × (List Int) × Int)
  | 0, _, _ => none
  | k1 + 1, x7, x8 =>
    if (decide (x8 < 7)) = true then (if (decide (x8 ≥ (l3.length : Int))) = true then ((m_cantonref02_Reader_fail l3 x4 21).bind fun u12 => some (0, u12.1, u12.2)) else ((idx l3 x8).bind fun x15 => if (x8 == 0) = true then (m_cantonref02_Reader_Num_j1 (m_cantonref02_Reader_Num_l1 l3 x4 x5 k1) l3 x4 x8 x7 x15 x5 (x15 == 128)) else (m_cantonref02_Reader_Num_j1 (m_cantonref02_Reader_Num_l1 l3 x4 x5 k1) l3 x4 x8 x7 x15 x5 false))) else ((m_cantonref02_Reader_fail l3 x4 3).bind fun u39 => some (0, u39.1, u39.2))
def m_cantonref02_Reader_Num (l3 : List Int) (x4 : Int) (x5 : Int) : Option (Int × (List Int) × Int) :=
  if (x4 != 0) = true then (some (0, l3, x4)) else (m_cantonref02_Reader_Num_l1 l3 x4 x5 ((7 - 0 : Int).toNat + 1) 0 0)
set_option maxRecDepth 20000 in
set_option maxHeartbeats 1000000 in
theorem c_cantonref02_Reader_Num {w : World} {Fo : List Ob} {rs : List Rp} (p1 : Nat) (v2 : Value) (l3 : List Int) (x4 : Int) (x5 : Int) (H : Sep w (Blk p1 77 [v2, .int .i64 x4] :: Fo) rs) (hr6 : rSl (kI .u8) v2 l3 ∈ rs) {r : Int × (List Int) × Int} (hm : m_cantonref02_Reader_Num l3 x4 x5 = some r) :
    Calls Try.prog 44 [.pointer (some ⟨p1, 0, none⟩), .int .i64 x5].toArray w (Ret fun v w' => ∃ (v5002 : Value), .int .i64 r.1 = v ∧ Sep w' (Blk p1 77 [v5002, .int .i64 r.2.2] :: Fo) (rSl (kI .u8) v5002 r.2.1 :: rs)) := by
  unfold m_cantonref02_Reader_Num at hm
  refine enter Try.func44 rfl Try.ntmps44 rfl fun a E => ?_
  simp only [enum, Nat.reduceAdd] at E
  refine wp_seq ?_
  refine wp_region_lit ?_
  refine st_val E (wn rfl) rfl rfl (x_assign E rfl rfl) ?_
  clear E; clear a; intro a E
  refine wpList_nil ?_
  refine q_then ?_
  refine wp_seq ?_
  refine wp_seq ?_
  refine wp_region_lit ?_
  refine st_val E (wn rfl) rfl rfl (x_move E rfl rfl) ?_
  clear E; clear a; intro a E
  refine st_val E (wn rfl) rfl rfl (x_nil E rfl rfl) ?_
  clear E; clear a; intro a E
  refine st_val E (wn rfl) rfl rfl (x_fa E rfl rfl (v := .pointer (some ⟨p1, 1, none⟩)) (fa77_1 _ _)) ?_
  clear E; clear a; intro a E
  refine st_val E (wn rfl) rfl rfl (x_ldB (i := 0) E H rfl rfl rfl rfl Try.underlying52 rfl) ?_
  clear E; clear a; intro a E
  refine st_val E (wn rfl) rfl rfl (x_bin E rfl rfl rfl rfl) ?_
  clear E; clear a; intro a E
  refine wpList_nil ?_
  refine q_then ?_
  refine wp_if E rfl ?_ ?_
  · intro hb
    rw [if_t hb] at hm
    clear hb
    refine wp_seq ?_
    refine wp_region_lit ?_
    refine st_val E (wn rfl) rfl rfl (x_assign E rfl rfl) ?_
    clear E; clear a; intro a E
    refine wpList_nil ?_
    refine q_then ?_
    refine wp_ret ?_
    refine q_thenR ?_
    refine out1 E rfl rfl ?_
    obtain rfl := Option.some.inj hm
    exact ⟨v2, rfl, H.reads (sub_cons hr6 (fun r hr => hr))⟩
  · intro hb
    rw [if_f hb] at hm
    clear hb
    refine wp_skip ?_
    refine q_then ?_
    refine wp_seq ?_
    refine wp_region_lit ?_
    refine st_val E (wn rfl) rfl rfl (x_assign E rfl rfl) ?_
    clear E; clear a; intro a E
    refine wpList_nil ?_
    refine q_then ?_
    refine wp_seq ?_
    refine wp_seq ?_
    refine wp_region_lit ?_
    refine st_val E (wn rfl) rfl rfl (x_assign E rfl rfl) ?_
    clear E; clear a; intro a E
    refine wpList_nil ?_
    refine q_then ?_
    refine wp_block ?_
    refine wp_loop_g (fun k1 a w => ∃ (x7 : Int) (x8 : Int) (rs9 : List Rp), Env 71 a [(0, .pointer (some ⟨p1, 0, none⟩)), (1, .int .i64 x5), (5, .int .i64 x7), (6, .int .i64 x8)] ∧ Sep w (Blk p1 77 [v2, .int .i64 x4] :: Fo) rs9 ∧ (∀ r, r ∈ rs → r ∈ rs9) ∧ rSl (kI .u8) v2 l3 ∈ rs9 ∧ m_cantonref02_Reader_Num_l1 l3 x4 x5 k1 x7 x8 = some r) ((7 - 0 : Int).toNat + 1) ?_ ?_
    · exact ⟨0, 0, _, ((((E.nil.keep E 6 rfl).keep E 5 rfl).keep E 1 rfl).keep E 0 rfl), H, fun r hr => hr, hr6, hm⟩
    · clear E H hm
      rintro k1 a w ⟨x7, x8, rs9, E, H, hs10, hr11, hm⟩
      cases k1 with
      | zero => exact (none_some hm rfl).elim
      | succ k1 =>
        unfold m_cantonref02_Reader_Num_l1 at hm
        refine wp_seq ?_
        refine wp_seq ?_
        refine wp_region_lit ?_
        refine st_val E (wn rfl) rfl rfl (x_move E rfl rfl) ?_
        clear E; clear a; intro a E
        refine st_val E (wn rfl) rfl rfl (x_bin E rfl rfl rfl rfl) ?_
        clear E; clear a; intro a E
        refine wpList_nil ?_
        refine q_then ?_
        refine wp_if E rfl ?_ ?_
        · intro hb
          rw [if_t hb] at hm
          clear hb
          refine wp_skip ?_
          refine q_then ?_
          refine wp_seq ?_
          refine wp_block ?_
          refine wp_seq ?_
          refine wp_seq ?_
          refine wp_region_lit ?_
          refine st_val E (wn rfl) rfl rfl (x_move E rfl rfl) ?_
          clear E; clear a; intro a E
          refine st_val E (wn rfl) rfl rfl (x_move E rfl rfl) ?_
          clear E; clear a; intro a E
          refine st_val E (wn rfl) rfl rfl (x_nil E rfl rfl) ?_
          clear E; clear a; intro a E
          refine st_val E (wn rfl) rfl rfl (x_fa E rfl rfl (v := .pointer (some ⟨p1, 0, none⟩)) (fa77_0 _ _)) ?_
          clear E; clear a; intro a E
          refine st_val E (wn rfl) rfl rfl (x_ldB (i := 0) E H rfl rfl rfl rfl Try.underlying46 rfl) ?_
          clear E; clear a; intro a E
          refine st_val E (wn rfl) rfl rfl (x_lenS E H rfl rfl hr11 Try.underlying46) ?_
          clear E; clear a; intro a E
          refine st_val E (wn rfl) rfl rfl (x_bin E rfl rfl rfl rfl) ?_
          clear E; clear a; intro a E
          refine wpList_nil ?_
          refine q_then ?_
          refine wp_if E rfl ?_ ?_
          · intro hb
            rw [if_t hb] at hm
            clear hb
            refine wp_seq ?_
            refine wp_region_lit ?_
            refine st_val E (wn rfl) rfl rfl (x_move E rfl rfl) ?_
            clear E; clear a; intro a E
            replace H : Sep w (Blk p1 77 [v2, .int .i64 x4] :: Fo) (rs9) := H
            obtain ⟨u12, hx13, hm⟩ := bnd hm
            refine st_call E (wn rfl) rfl rfl (x_call E rfl rfl (cf54 _)) (c_cantonref02_Reader_fail p1 v2 l3 x4 21 H hr11 hx13) ?_
            clear E H; clear a; clear w; rintro _ w ⟨v14, rfl, H⟩ a E
            refine wpList_nil ?_
            refine q_then ?_
            refine wp_seq ?_
            refine wp_region_lit ?_
            refine st_val E (wn rfl) rfl rfl (x_assign E rfl rfl) ?_
            clear E; clear a; intro a E
            refine wpList_nil ?_
            refine q_then ?_
            refine wp_ret ?_
            refine q_thenR ?_
            refine q_blkR ?_
            refine q_thenR ?_
            refine q_thenR ?_
            refine q_blkR ?_
            refine q_thenR ?_
            refine out1 E rfl rfl ?_
            obtain rfl := Option.some.inj hm
            exact ⟨v14, rfl, H.reads (sub_cons (.head _) (fun r hr => .tail _ (hs10 r hr)))⟩
          · intro hb
            rw [if_f hb] at hm
            clear hb
            refine wp_skip ?_
            refine q_then ?_
            refine wp_seq ?_
            refine wp_region_lit ?_
            refine st_val E (wn rfl) rfl rfl (x_move E rfl rfl) ?_
            clear E; clear a; intro a E
            refine st_val E (wn rfl) rfl rfl (x_nil E rfl rfl) ?_
            clear E; clear a; intro a E
            refine st_val E (wn rfl) rfl rfl (x_fa E rfl rfl (v := .pointer (some ⟨p1, 0, none⟩)) (fa77_0 _ _)) ?_
            clear E; clear a; intro a E
            refine st_val E (wn rfl) rfl rfl (x_ldB (i := 0) E H rfl rfl rfl rfl Try.underlying46 rfl) ?_
            clear E; clear a; intro a E
            refine st_val E (wn rfl) rfl rfl (x_move E rfl rfl) ?_
            clear E; clear a; intro a E
            obtain ⟨x15, hx16, hm⟩ := bnd hm
            refine st_ixS E H (wn rfl) rfl rfl rfl rfl rfl hr11 Try.underlying46 sz5 hx16 ?_
            clear E H; clear a; intro q17 a H E
            refine st_val E (wn rfl) rfl rfl (x_ldA E H rfl rfl (.head _) Try.underlying5 rfl) ?_
            clear E; clear a; intro a E
            refine st_val E (wn rfl) rfl rfl (x_assign E rfl rfl) ?_
            clear E; clear a; intro a E
            refine wpList_nil ?_
            refine q_then ?_
            refine wp_seq ?_
            refine wp_seq_cut (fun a w => ∃ (b18 : Bool) (rs19 : List Rp), Env 71 a [(0, .pointer (some ⟨p1, 0, none⟩)), (1, .int .i64 x5), (5, .int .i64 x7), (6, .int .i64 x8), (7, .int .u8 x15), (38, .bool b18)] ∧ Sep w (Blk p1 77 [v2, .int .i64 x4] :: Fo) rs19 ∧ (∀ r, r ∈ rs → r ∈ rs19) ∧ rSl (kI .u8) v2 l3 ∈ rs19 ∧ m_cantonref02_Reader_Num_j1 (m_cantonref02_Reader_Num_l1 l3 x4 x5 k1) l3 x4 x8 x7 x15 x5 b18 = some r) ?_ ?_
            · refine wp_region_lit ?_
              refine st_val E (wn rfl) rfl rfl (x_move E rfl rfl) ?_
              clear E; clear a; intro a E
              refine st_val E (wn rfl) rfl rfl (x_bin E rfl rfl rfl rfl) ?_
              clear E; clear a; intro a E
              refine st_val E (wn rfl) rfl rfl (x_move E rfl rfl) ?_
              clear E; clear a; intro a E
              rcases Bool.eq_false_or_eq_true (x8 == 0) with hb38 | hb38
              · rw [if_t hb38] at hm
                refine st_val E (ws' E rfl rfl rfl rfl hb38) rfl rfl (x_move E rfl rfl) ?_
                clear E; clear a; intro a E
                refine st_val E (ws' E rfl rfl rfl rfl hb38) rfl rfl (x_bin E rfl rfl rfl rfl) ?_
                clear E; clear a; intro a E
                refine st_val E (wn rfl) rfl rfl (x_pickT E rfl rfl hb38 rfl) ?_
                clear E; clear a; intro a E
                refine wpList_nil ?_
                refine q_then ?_
                exact ⟨x15 == 128, _, ((((((E.nil.keep E 38 rfl).keep E 7 rfl).keep E 6 rfl).keep E 5 rfl).keep E 1 rfl).keep E 0 rfl), H, fun r hr => .tail _ (hs10 r hr), (.tail _ hr11), hm⟩
              · rw [if_f hb38] at hm
                refine st_no E (wf' E rfl rfl rfl rfl hb38 rfl) rfl rfl ?_
                clear E; clear a; intro a E
                refine st_no E (wf' E rfl rfl rfl rfl hb38 rfl) rfl rfl ?_
                clear E; clear a; intro a E
                refine st_val E (wn rfl) rfl rfl (x_pickF E rfl rfl hb38 rfl) ?_
                clear E; clear a; intro a E
                refine wpList_nil ?_
                refine q_then ?_
                exact ⟨false, _, ((((((E.nil.keep E 38 rfl).keep E 7 rfl).keep E 6 rfl).keep E 5 rfl).keep E 1 rfl).keep E 0 rfl), H, fun r hr => .tail _ (hs10 r hr), (.tail _ hr11), hm⟩
            · clear E H hm
              rintro a w ⟨b18, rs19, E, H, hs20, hr21, hm⟩
              unfold m_cantonref02_Reader_Num_j1 at hm
              refine wp_if E rfl ?_ ?_
              · intro hb
                rw [if_t hb] at hm
                clear hb
                refine wp_seq ?_
                refine wp_region_lit ?_
                refine st_val E (wn rfl) rfl rfl (x_move E rfl rfl) ?_
                clear E; clear a; intro a E
                replace H : Sep w (Blk p1 77 [v2, .int .i64 x4] :: Fo) (rs19) := H
                obtain ⟨u22, hx23, hm⟩ := bnd hm
                refine st_call E (wn rfl) rfl rfl (x_call E rfl rfl (cf54 _)) (c_cantonref02_Reader_fail p1 v2 l3 x4 3 H hr21 hx23) ?_
                clear E H; clear a; clear w; rintro _ w ⟨v24, rfl, H⟩ a E
                refine wpList_nil ?_
                refine q_then ?_
                refine wp_seq ?_
                refine wp_region_lit ?_
                refine st_val E (wn rfl) rfl rfl (x_assign E rfl rfl) ?_
                clear E; clear a; intro a E
                refine wpList_nil ?_
                refine q_then ?_
                refine wp_ret ?_
                refine q_thenR ?_
                refine q_blkR ?_
                refine q_thenR ?_
                refine q_thenR ?_
                refine q_blkR ?_
                refine q_thenR ?_
                refine out1 E rfl rfl ?_
                obtain rfl := Option.some.inj hm
                exact ⟨v24, rfl, H.reads (sub_cons (.head _) (fun r hr => .tail _ (hs20 r hr)))⟩
              · intro hb
                rw [if_f hb] at hm
                clear hb
                refine wp_skip ?_
                refine q_then ?_
                refine wp_seq ?_
                refine wp_region_lit ?_
                refine st_val E (wn rfl) rfl rfl (x_move E rfl rfl) ?_
                clear E; clear a; intro a E
                refine st_val E (wn rfl) rfl rfl (x_bin E rfl rfl rfl rfl) ?_
                clear E; clear a; intro a E
                refine st_val E (wn rfl) rfl rfl (x_move E rfl rfl) ?_
                clear E; clear a; intro a E
                refine st_val E (wn rfl) rfl rfl (x_rem E rfl rfl rfl (by decide)) ?_
                clear E; clear a; intro a E
                refine st_val E (wn rfl) rfl rfl (x_conv E rfl rfl (v := .int .i64 (IntKind.i64.wrap (x15.tmod 128))) (by kernel_rfl)) ?_
                clear E; clear a; intro a E
                refine st_val E (wn rfl) rfl rfl (x_bin E rfl rfl rfl rfl) ?_
                clear E; clear a; intro a E
                refine st_val E (wn rfl) rfl rfl (x_assign E rfl rfl) ?_
                clear E; clear a; intro a E
                refine wpList_nil ?_
                refine q_then ?_
                refine wp_seq ?_
                refine wp_region_lit ?_
                refine st_val E (wn rfl) rfl rfl (x_move E rfl rfl) ?_
                clear E; clear a; intro a E
                refine st_val E (wn rfl) rfl rfl (x_bin E rfl rfl rfl rfl) ?_
                clear E; clear a; intro a E
                refine wpList_nil ?_
                refine q_then ?_
                refine wp_if E rfl ?_ ?_
                · intro hb
                  rw [if_t hb] at hm
                  clear hb
                  refine wp_seq ?_
                  refine wp_seq_cut (fun a w => ∃ (b25 : Bool) (rs26 : List Rp), Env 71 a [(0, .pointer (some ⟨p1, 0, none⟩)), (5, .int .i64 (IntKind.i64.wrap ((IntKind.i64.wrap (x7 * 128)) + (IntKind.i64.wrap (x15.tmod 128))))), (6, .int .i64 x8), (55, .bool b25)] ∧ Sep w (Blk p1 77 [v2, .int .i64 x4] :: Fo) rs26 ∧ (∀ r, r ∈ rs → r ∈ rs26) ∧ rSl (kI .u8) v2 l3 ∈ rs26 ∧ m_cantonref02_Reader_Num_j2 l3 x4 x8 x7 x15 b25 = some r) ?_ ?_
                  · refine wp_region_lit ?_
                    refine st_val E (wn rfl) rfl rfl (x_move E rfl rfl) ?_
                    clear E; clear a; intro a E
                    refine st_val E (wn rfl) rfl rfl (x_bin E rfl rfl rfl rfl) ?_
                    clear E; clear a; intro a E
                    refine st_val E (wn rfl) rfl rfl (x_move E rfl rfl) ?_
                    clear E; clear a; intro a E
                    rcases Bool.eq_false_or_eq_true (decide ((IntKind.i64.wrap ((IntKind.i64.wrap (x7 * 128)) + (IntKind.i64.wrap (x15.tmod 128)))) > 281474976710656)) with hb37 | hb37
                    · rw [if_t hb37] at hm
                      refine st_no E (wf' E rfl rfl rfl rfl hb37 rfl) rfl rfl ?_
                      clear E; clear a; intro a E
                      refine st_no E (wf' E rfl rfl rfl rfl hb37 rfl) rfl rfl ?_
                      clear E; clear a; intro a E
                      refine st_no E (wf' E rfl rfl rfl rfl hb37 rfl) rfl rfl ?_
                      clear E; clear a; intro a E
                      refine st_val E (wn rfl) rfl rfl (x_pickT E rfl rfl hb37 rfl) ?_
                      clear E; clear a; intro a E
                      refine wpList_nil ?_
                      refine q_then ?_
                      exact ⟨true, _, ((((E.nil.keep E 55 rfl).keep E 6 rfl).keep E 5 rfl).keep E 0 rfl), H, hs20, hr21, hm⟩
                    · rw [if_f hb37] at hm
                      refine st_val E (ws' E rfl rfl rfl rfl hb37) rfl rfl (x_move E rfl rfl) ?_
                      clear E; clear a; intro a E
                      refine st_val E (ws' E rfl rfl rfl rfl hb37) rfl rfl (x_move E rfl rfl) ?_
                      clear E; clear a; intro a E
                      refine st_val E (ws' E rfl rfl rfl rfl hb37) rfl rfl (x_bin E rfl rfl rfl rfl) ?_
                      clear E; clear a; intro a E
                      refine st_val E (wn rfl) rfl rfl (x_pickF E rfl rfl hb37 rfl) ?_
                      clear E; clear a; intro a E
                      refine wpList_nil ?_
                      refine q_then ?_
                      exact ⟨decide ((IntKind.i64.wrap ((IntKind.i64.wrap (x7 * 128)) + (IntKind.i64.wrap (x15.tmod 128)))) > x5), _, ((((E.nil.keep E 55 rfl).keep E 6 rfl).keep E 5 rfl).keep E 0 rfl), H, hs20, hr21, hm⟩
                  · clear E H hm
                    rintro a w ⟨b25, rs26, E, H, hs27, hr28, hm⟩
                    unfold m_cantonref02_Reader_Num_j2 at hm
                    refine wp_if E rfl ?_ ?_
                    · intro hb
                      rw [if_t hb] at hm
                      clear hb
                      refine wp_seq ?_
                      refine wp_region_lit ?_
                      refine st_val E (wn rfl) rfl rfl (x_move E rfl rfl) ?_
                      clear E; clear a; intro a E
                      replace H : Sep w (Blk p1 77 [v2, .int .i64 x4] :: Fo) (rs26) := H
                      obtain ⟨u29, hx30, hm⟩ := bnd hm
                      refine st_call E (wn rfl) rfl rfl (x_call E rfl rfl (cf54 _)) (c_cantonref02_Reader_fail p1 v2 l3 x4 3 H hr28 hx30) ?_
                      clear E H; clear a; clear w; rintro _ w ⟨v31, rfl, H⟩ a E
                      refine wpList_nil ?_
                      refine q_then ?_
                      refine wp_seq ?_
                      refine wp_region_lit ?_
                      refine st_val E (wn rfl) rfl rfl (x_assign E rfl rfl) ?_
                      clear E; clear a; intro a E
                      refine wpList_nil ?_
                      refine q_then ?_
                      refine wp_ret ?_
                      refine q_thenR ?_
                      refine q_blkR ?_
                      refine q_thenR ?_
                      refine q_thenR ?_
                      refine q_blkR ?_
                      refine q_thenR ?_
                      refine out1 E rfl rfl ?_
                      obtain rfl := Option.some.inj hm
                      exact ⟨v31, rfl, H.reads (sub_cons (.head _) (fun r hr => .tail _ (hs27 r hr)))⟩
                    · intro hb
                      rw [if_f hb] at hm
                      clear hb
                      refine wp_skip ?_
                      refine q_then ?_
                      refine wp_seq ?_
                      refine wp_region_lit ?_
                      refine st_val E (wn rfl) rfl rfl (x_move E rfl rfl) ?_
                      clear E; clear a; intro a E
                      refine st_val E (wn rfl) rfl rfl (x_move E rfl rfl) ?_
                      clear E; clear a; intro a E
                      refine st_val E (wn rfl) rfl rfl (x_nil E rfl rfl) ?_
                      clear E; clear a; intro a E
                      refine st_val E (wn rfl) rfl rfl (x_fa E rfl rfl (v := .pointer (some ⟨p1, 0, none⟩)) (fa77_0 _ _)) ?_
                      clear E; clear a; intro a E
                      refine st_val E (wn rfl) rfl rfl (x_ldB (i := 0) E H rfl rfl rfl rfl Try.underlying46 rfl) ?_
                      clear E; clear a; intro a E
                      refine st_val E (wn rfl) rfl rfl (x_move E rfl rfl) ?_
                      clear E; clear a; intro a E
                      refine st_val E (wn rfl) rfl rfl (x_bin E rfl rfl rfl rfl) ?_
                      clear E; clear a; intro a E
                      obtain ⟨u32, hx33, hm⟩ := bnd hm
                      refine st_cut E H (wn rfl) rfl rfl rfl rfl rfl hr28 Try.underlying46 sz5 (ck_of hx33) ?_
                      clear E H; clear a; intro v34 a H E
                      refine st_val E (wn rfl) rfl rfl (x_nil E rfl rfl) ?_
                      clear E; clear a; intro a E
                      refine st_val E (wn rfl) rfl rfl (x_fa E rfl rfl (v := .pointer (some ⟨p1, 0, none⟩)) (fa77_0 _ _)) ?_
                      clear E; clear a; intro a E
                      obtain ⟨q35, x36, rfl⟩ := H.slform (.head _)
                      refine st_st (i := 0) E H (wn rfl) rfl (us := [(.slice q35 (l3.drop (IntKind.i64.wrap (x8 + 1)).toNat).length x36)]) rfl rfl rfl rfl rfl sz46 rfl rfl ?_
                      clear H; clear w; intro w H
                      replace H : Sep w (Blk p1 77 [(.slice q35 (l3.drop (IntKind.i64.wrap (x8 + 1)).toNat).length x36), .int .i64 x4] :: Fo) _ := H
                      refine wpList_nil ?_
                      refine q_then ?_
                      refine wp_seq ?_
                      refine wp_region_lit ?_
                      refine st_val E (wn rfl) rfl rfl (x_move E rfl rfl) ?_
                      clear E; clear a; intro a E
                      refine st_val E (wn rfl) rfl rfl (x_assign E rfl rfl) ?_
                      clear E; clear a; intro a E
                      refine wpList_nil ?_
                      refine q_then ?_
                      refine wp_ret ?_
                      refine q_blkR ?_
                      refine q_thenR ?_
                      refine q_thenR ?_
                      refine q_blkR ?_
                      refine q_thenR ?_
                      refine out1 E rfl rfl ?_
                      obtain rfl := Option.some.inj hm
                      exact ⟨(.slice q35 (l3.drop (IntKind.i64.wrap (x8 + 1)).toNat).length x36), rfl, H.reads (sub_cons (.head _) (fun r hr => .tail _ (hs27 r hr)))⟩
                · intro hb
                  rw [if_f hb] at hm
                  clear hb
                  refine wp_skip ?_
                  refine q_blk ?_
                  refine q_then ?_
                  refine wp_region_lit ?_
                  refine st_val E (wn rfl) rfl rfl (x_move E rfl rfl) ?_
                  clear E; clear a; intro a E
                  refine st_val E (wn rfl) rfl rfl (x_bin E rfl rfl rfl rfl) ?_
                  clear E; clear a; intro a E
                  refine st_val E (wn rfl) rfl rfl (x_assign E rfl rfl) ?_
                  clear E; clear a; intro a E
                  refine wpList_nil ?_
                  refine q_then ?_
                  exact ⟨k1, Nat.lt_succ_self k1, IntKind.i64.wrap ((IntKind.i64.wrap (x7 * 128)) + (IntKind.i64.wrap (x15.tmod 128))), IntKind.i64.wrap (x8 + 1), _, ((((E.nil.keep E 6 rfl).keep E 5 rfl).keep E 1 rfl).keep E 0 rfl), H, hs20, hr21, hm⟩
        · intro hb
          rw [if_f hb] at hm
          clear hb
          refine wp_exit ?_
          refine q_thenX ?_
          refine q_thenX ?_
          refine q_hit ?_
          refine q_then ?_
          refine wp_seq ?_
          refine wp_region_lit ?_
          refine st_val E (wn rfl) rfl rfl (x_move E rfl rfl) ?_
          clear E; clear a; intro a E
          replace H : Sep w (Blk p1 77 [v2, .int .i64 x4] :: Fo) (rs9) := H
          obtain ⟨u39, hx40, hm⟩ := bnd hm
          refine st_call E (wn rfl) rfl rfl (x_call E rfl rfl (cf54 _)) (c_cantonref02_Reader_fail p1 v2 l3 x4 3 H hr11 hx40) ?_
          clear E H; clear a; clear w; rintro _ w ⟨v41, rfl, H⟩ a E
          refine wpList_nil ?_
          refine q_then ?_
          refine wp_seq ?_
          refine wp_region_lit ?_
          refine st_val E (wn rfl) rfl rfl (x_assign E rfl rfl) ?_
          clear E; clear a; intro a E
          refine wpList_nil ?_
          refine q_then ?_
          refine wp_ret ?_
          refine out1 E rfl rfl ?_
          obtain rfl := Option.some.inj hm
          exact ⟨v41, rfl, H.reads (sub_cons (.head _) (fun r hr => .tail _ (hs10 r hr)))⟩
end Go.Cb
