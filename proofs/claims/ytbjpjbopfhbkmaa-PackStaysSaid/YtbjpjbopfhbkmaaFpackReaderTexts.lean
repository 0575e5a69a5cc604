/- A function of the program, walked: it comes to its plain function. -/
import Derived.Test.YtbjpjbopfhbkmaaT
import Derived.Test.YtbjpjbopfhbkmaaFpackReaderNum
import Derived.Test.YtbjpjbopfhbkmaaFpackReaderText
set_option linter.unusedVariables false
set_option linter.unusedSimpArgs false
namespace Go.Cb
open Go.Proofs Go.RowKit
def m_pack_Reader_Texts_l1 : Nat → (List ByteArray) → Int → (List Int) → Int → Option ((List ByteArray) × (List Int) × Int)
  | 0, _, _, _, _ => none
  | k1 + 1, l10, x11, l13, x14 =>
    if (decide (x11 > 0)) = true then (if (x14 == 0) = true then ((m_pack_Reader_Text l13 x14).bind fun u19 => (ck (l10.length + [u19.1].length ≤ LIM)).bind fun u24 => m_pack_Reader_Texts_l1 k1 (l10 ++ [u19.1]) (IntKind.i64.wrap (x11 - 1)) u19.2.1 u19.2.2) else (if (x14 != 0) = true then (some ([], l13, x14)) else (some (l10, l13, x14)))) else (if (x14 != 0) = true then (some ([], l13, x14)) else (some (l10, l13, x14)))
def m_pack_Reader_Texts (l3 : List Int) (x4 : Int) : Option ((List ByteArray) × (List Int) × Int) :=
  (m_pack_Reader_Num l3 x4 281474976710656).bind fun u6 => m_pack_Reader_Texts_l1 (u6.1.toNat + 2) [] u6.1 u6.2.1 u6.2.2
set_option maxRecDepth 20000 in
set_option maxHeartbeats 1000000 in
theorem c_pack_Reader_Texts {w : World} {Fo : List Ob} {rs : List Rp} (p1 : Nat) (v2 : Value) (l3 : List Int) (x4 : Int) (H : Sep w (Blk p1 91 [v2, .int .i64 x4] :: Fo) rs) (hr5 : rSl (kI .u8) v2 l3 ∈ rs) {r : (List ByteArray) × (List Int) × Int} (hm : m_pack_Reader_Texts l3 x4 = some r) :
    Calls Try.prog 46 [.pointer (some ⟨p1, 0, none⟩)].toArray w (Ret fun v w' => ∃ (v5001 : Value) (v5003 : Value), v5001 = v ∧ Sep w' (Row 9 kS v5001 r.1 :: Blk p1 91 [v5003, .int .i64 r.2.2] :: Fo) (rSl (kI .u8) v5003 r.2.1 :: rs)) := by
  unfold m_pack_Reader_Texts at hm
  refine enter Try.func46 rfl Try.ntmps46 rfl fun a E => ?_
  simp only [enum, Nat.reduceAdd] at E
  refine wp_seq ?_
  refine wp_region_lit ?_
  refine st_val E (wn rfl) rfl rfl (x_assign E rfl rfl) ?_
  clear E; clear a; intro a E
  refine wpList_nil ?_
  refine q_then ?_
  refine wp_seq ?_
  refine wp_region_lit ?_
  refine st_val E (wn rfl) rfl rfl (x_assign E rfl rfl) ?_
  clear E; clear a; intro a E
  refine wpList_nil ?_
  refine q_then ?_
  refine wp_seq ?_
  refine wp_seq ?_
  refine wp_region_lit ?_
  refine st_val E (wn rfl) rfl rfl (x_move E rfl rfl) ?_
  clear E; clear a; intro a E
  replace H : Sep w (Blk p1 91 [v2, .int .i64 x4] :: Fo) (rs) := H
  obtain ⟨u6, hx7, hm⟩ := bnd hm
  refine st_call E (wn rfl) rfl rfl (x_call E rfl rfl (cf32 _)) (c_pack_Reader_Num p1 v2 l3 x4 281474976710656 H hr5 hx7) ?_
  clear E H; clear a; clear w; rintro _ w ⟨v8, rfl, H⟩ a E
  refine st_val E (wn rfl) rfl rfl (x_assign E rfl rfl) ?_
  clear E; clear a; intro a E
  refine wpList_nil ?_
  refine q_then ?_
  refine wp_block ?_
  refine wp_loop_g (fun k1 a w => ∃ (v9 : Value) (v12 : Value) (l10 : (List ByteArray)) (x11 : Int) (l13 : (List Int)) (x14 : Int) (rs15 : List Rp), Env 29 a [(0, .pointer (some ⟨p1, 0, none⟩)), (3, v9), (4, .int .i64 x11)] ∧ Sep w (Blk p1 91 [v12, .int .i64 x14] :: Row 9 kS v9 l10 :: Fo) rs15 ∧ (∀ r, r ∈ rs → r ∈ rs15) ∧ rSl (kI .u8) v12 l13 ∈ rs15 ∧ m_pack_Reader_Texts_l1 k1 l10 x11 l13 x14 = some r) (u6.1.toNat + 2) ?_ ?_
  · replace H := H.nilRow 9 kS
    replace H := H.front 0 rfl
    replace H := H.front 1 rfl
    exact ⟨(.slice none 0 0), v8, [], u6.1, u6.2.1, u6.2.2, _, (((E.nil.keep E 4 rfl).keep E 3 rfl).keep E 0 rfl), H, fun r hr => .tail _ (hr), (.head _), hm⟩
  · clear E H hm
    rintro k1 a w ⟨v9, v12, l10, x11, l13, x14, rs15, E, H, hs16, hr17, hm⟩
    cases k1 with
    | zero => exact (none_some hm rfl).elim
    | succ k1 =>
      unfold m_pack_Reader_Texts_l1 at hm
      refine wp_seq ?_
      refine wp_seq ?_
      refine wp_region_lit ?_
      refine st_val E (wn rfl) rfl rfl (x_move E rfl rfl) ?_
      clear E; clear a; intro a E
      refine st_val E (wn rfl) rfl rfl (x_bin E rfl rfl rfl rfl) ?_
      clear E; clear a; intro a E
      refine st_val E (wn rfl) rfl rfl (x_move E rfl rfl) ?_
      clear E; clear a; intro a E
      rcases Bool.eq_false_or_eq_true (decide (x11 > 0)) with hb18 | hb18
      · rw [if_t hb18] at hm
        refine st_val E (ws' E rfl rfl rfl rfl hb18) rfl rfl (x_move E rfl rfl) ?_
        clear E; clear a; intro a E
        refine st_val E (ws' E rfl rfl rfl rfl hb18) rfl rfl (x_nil E rfl rfl) ?_
        clear E; clear a; intro a E
        refine st_val E (ws' E rfl rfl rfl rfl hb18) rfl rfl (x_fa E rfl rfl (v := .pointer (some ⟨p1, 1, none⟩)) (fa91_1 _ _)) ?_
        clear E; clear a; intro a E
        refine st_val E (ws' E rfl rfl rfl rfl hb18) rfl rfl (x_ldB (i := 0) E H rfl rfl rfl rfl Try.underlying52 rfl) ?_
        clear E; clear a; intro a E
        refine st_val E (ws' E rfl rfl rfl rfl hb18) rfl rfl (x_bin E rfl rfl rfl rfl) ?_
        clear E; clear a; intro a E
        refine st_val E (wn rfl) rfl rfl (x_pickT E rfl rfl hb18 rfl) ?_
        clear E; clear a; intro a E
        refine wpList_nil ?_
        refine q_then ?_
        refine wp_if E rfl ?_ ?_
        · intro hb
          rw [if_t hb] at hm
          clear hb
          refine wp_skip ?_
          refine q_then ?_
          refine wp_seq ?_
          refine wp_block ?_
          refine wp_region_lit ?_
          refine st_val E (wn rfl) rfl rfl (x_move E rfl rfl) ?_
          clear E; clear a; intro a E
          refine st_val E (wn rfl) rfl rfl (x_move E rfl rfl) ?_
          clear E; clear a; intro a E
          replace H : Sep w (Blk p1 91 [v12, .int .i64 x14] :: Row 9 kS v9 l10 :: Fo) (rs15) := H
          obtain ⟨u19, hx20, hm⟩ := bnd hm
          refine st_call E (wn rfl) rfl rfl (x_call E rfl rfl (cf36 _)) (c_pack_Reader_Text p1 v12 l13 x14 H hr17 hx20) ?_
          clear E H; clear a; clear w; rintro _ w ⟨v21, rfl, H⟩ a E
          refine st_bsR (e := 9) (d := kS) (cs := [.string u19.1]) (xs := [u19.1]) E H (wn rfl) rfl rfl (ps := [(0, .tmp 20)]) (parts := [(0, .string u19.1)]) rfl (by simp only [List.map]; rw [E.eval (x := .tmp 20) (v := .string u19.1) rfl]) (by kernel_rfl) rfl (fun ok hr => (Rows.single (x := u19.1) rfl)) ?_
          clear E H; clear a; clear w; intro v22 w a H E
          obtain ⟨u24, hx25, hm⟩ := bnd hm
          refine st_append (i := 1) E H (wn rfl) rfl rfl rfl rfl rfl rfl (src_rd (.head _)) Try.underlying68 inf9 rfl (ck_of hx25) rfl ?_
          clear E H; clear a; clear w; intro v23 w a H E
          refine st_val E (wn rfl) rfl rfl (x_assign E rfl rfl) ?_
          clear E; clear a; intro a E
          refine wpList_nil ?_
          refine q_blk ?_
          refine q_then ?_
          refine wp_region_lit ?_
          refine st_val E (wn rfl) rfl rfl (x_move E rfl rfl) ?_
          clear E; clear a; intro a E
          refine st_val E (wn rfl) rfl rfl (x_bin E rfl rfl rfl rfl) ?_
          clear E; clear a; intro a E
          refine st_val E (wn rfl) rfl rfl (x_assign E rfl rfl) ?_
          clear E; clear a; intro a E
          refine wpList_nil ?_
          refine q_then ?_
          exact ⟨k1, Nat.lt_succ_self k1, v23, v21, l10 ++ [u19.1], IntKind.i64.wrap (x11 - 1), u19.2.1, u19.2.2, _, (((E.nil.keep E 4 rfl).keep E 3 rfl).keep E 0 rfl), H, fun r hr => .tail _ (.tail _ (hs16 r hr)), (.tail _ (.head _)), hm⟩
        · intro hb
          rw [if_f hb] at hm
          clear hb
          refine wp_exit ?_
          refine q_thenX ?_
          refine q_thenX ?_
          refine q_hit ?_
          refine q_then ?_
          refine wp_seq ?_
          refine wp_seq ?_
          refine wp_region_lit ?_
          refine st_val E (wn rfl) rfl rfl (x_move E rfl rfl) ?_
          clear E; clear a; intro a E
          refine st_val E (wn rfl) rfl rfl (x_nil E rfl rfl) ?_
          clear E; clear a; intro a E
          refine st_val E (wn rfl) rfl rfl (x_fa E rfl rfl (v := .pointer (some ⟨p1, 1, none⟩)) (fa91_1 _ _)) ?_
          clear E; clear a; intro a E
          refine st_val E (wn rfl) rfl rfl (x_ldB (i := 0) E H rfl rfl rfl rfl Try.underlying52 rfl) ?_
          clear E; clear a; intro a E
          refine st_val E (wn rfl) rfl rfl (x_bin E rfl rfl rfl rfl) ?_
          clear E; clear a; intro a E
          refine wpList_nil ?_
          refine q_then ?_
          refine wp_if E rfl ?_ ?_
          · intro hb
            rw [if_t hb] at hm
            clear hb
            refine wp_seq ?_
            refine wp_region_lit ?_
            refine st_val E (wn rfl) rfl rfl (x_assign E rfl rfl) ?_
            clear E; clear a; intro a E
            refine wpList_nil ?_
            refine q_then ?_
            refine wp_ret ?_
            refine q_thenR ?_
            refine out1 E rfl rfl ?_
            replace H := H.nilRow 9 kS
            replace H := H.drop 2
            obtain rfl := Option.some.inj hm
            exact ⟨(.slice none 0 0), v12, rfl, H.reads (sub_cons hr17 (fun r hr => hs16 r hr))⟩
          · intro hb
            rw [if_f hb] at hm
            clear hb
            refine wp_skip ?_
            refine q_then ?_
            refine wp_seq ?_
            refine wp_region_lit ?_
            refine st_val E (wn rfl) rfl rfl (x_move E rfl rfl) ?_
            clear E; clear a; intro a E
            refine st_val E (wn rfl) rfl rfl (x_assign E rfl rfl) ?_
            clear E; clear a; intro a E
            refine wpList_nil ?_
            refine q_then ?_
            refine wp_ret ?_
            refine out1 E rfl rfl ?_
            replace H := H.front 0 rfl
            replace H := H.front 1 rfl
            obtain rfl := Option.some.inj hm
            exact ⟨v9, v12, rfl, H.reads (sub_cons hr17 (fun r hr => hs16 r hr))⟩
      · rw [if_f hb18] at hm
        refine st_no E (wf' E rfl rfl rfl rfl hb18 rfl) rfl rfl ?_
        clear E; clear a; intro a E
        refine st_no E (wf' E rfl rfl rfl rfl hb18 rfl) rfl rfl ?_
        clear E; clear a; intro a E
        refine st_no E (wf' E rfl rfl rfl rfl hb18 rfl) rfl rfl ?_
        clear E; clear a; intro a E
        refine st_no E (wf' E rfl rfl rfl rfl hb18 rfl) rfl rfl ?_
        clear E; clear a; intro a E
        refine st_no E (wf' E rfl rfl rfl rfl hb18 rfl) rfl rfl ?_
        clear E; clear a; intro a E
        refine st_val E (wn rfl) rfl rfl (x_pickF E rfl rfl hb18 rfl) ?_
        clear E; clear a; intro a E
        refine wpList_nil ?_
        refine q_then ?_
        refine wp_cond_false (E.eval rfl) ?_
        refine wp_exit ?_
        refine q_thenX ?_
        refine q_thenX ?_
        refine q_hit ?_
        refine q_then ?_
        refine wp_seq ?_
        refine wp_seq ?_
        refine wp_region_lit ?_
        refine st_val E (wn rfl) rfl rfl (x_move E rfl rfl) ?_
        clear E; clear a; intro a E
        refine st_val E (wn rfl) rfl rfl (x_nil E rfl rfl) ?_
        clear E; clear a; intro a E
        refine st_val E (wn rfl) rfl rfl (x_fa E rfl rfl (v := .pointer (some ⟨p1, 1, none⟩)) (fa91_1 _ _)) ?_
        clear E; clear a; intro a E
        refine st_val E (wn rfl) rfl rfl (x_ldB (i := 0) E H rfl rfl rfl rfl Try.underlying52 rfl) ?_
        clear E; clear a; intro a E
        refine st_val E (wn rfl) rfl rfl (x_bin E rfl rfl rfl rfl) ?_
        clear E; clear a; intro a E
        refine wpList_nil ?_
        refine q_then ?_
        refine wp_if E rfl ?_ ?_
        · intro hb
          rw [if_t hb] at hm
          clear hb
          refine wp_seq ?_
          refine wp_region_lit ?_
          refine st_val E (wn rfl) rfl rfl (x_assign E rfl rfl) ?_
          clear E; clear a; intro a E
          refine wpList_nil ?_
          refine q_then ?_
          refine wp_ret ?_
          refine q_thenR ?_
          refine out1 E rfl rfl ?_
          replace H := H.nilRow 9 kS
          replace H := H.drop 2
          obtain rfl := Option.some.inj hm
          exact ⟨(.slice none 0 0), v12, rfl, H.reads (sub_cons hr17 (fun r hr => hs16 r hr))⟩
        · intro hb
          rw [if_f hb] at hm
          clear hb
          refine wp_skip ?_
          refine q_then ?_
          refine wp_seq ?_
          refine wp_region_lit ?_
          refine st_val E (wn rfl) rfl rfl (x_move E rfl rfl) ?_
          clear E; clear a; intro a E
          refine st_val E (wn rfl) rfl rfl (x_assign E rfl rfl) ?_
          clear E; clear a; intro a E
          refine wpList_nil ?_
          refine q_then ?_
          refine wp_ret ?_
          refine out1 E rfl rfl ?_
          replace H := H.front 0 rfl
          replace H := H.front 1 rfl
          obtain rfl := Option.some.inj hm
          exact ⟨v9, v12, rfl, H.reads (sub_cons hr17 (fun r hr => hs16 r hr))⟩
end Go.Cb
