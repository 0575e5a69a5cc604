/- A function of the program, walked: it comes to its plain function. -/
import Derived.Test.YtbjpjbopfhbkmaaT
import Derived.Test.YtbjpjbopfhbkmaaFpackWriterNum
import Derived.Test.YtbjpjbopfhbkmaaFpackWriterText
set_option linter.unusedVariables false
set_option linter.unusedSimpArgs false
namespace Go.Cb
open Go.Proofs Go.RowKit
def m_pack_Writer_Texts_l1 (l6 : List ByteArray) : Nat → Int → (List Int) → Bool → Option ((List Int) × Bool)
  | 0, _, _, _ => none
  | k1 + 1, x11, l13, b14 =>
    if (decide (x11 < (l6.length : Int))) = true then ((idx l6 x11).bind fun x18 => (m_pack_Writer_Text l13 b14 x18).bind fun u21 => m_pack_Writer_Texts_l1 l6 k1 (IntKind.i64.wrap (x11 + 1)) u21.1 u21.2) else (some (l13, b14))
def m_pack_Writer_Texts (l3 : List Int) (b4 : Bool) (l6 : List ByteArray) : Option ((List Int) × Bool) :=
  (m_pack_Writer_Num l3 b4 (l6.length : Int)).bind fun u8 => m_pack_Writer_Texts_l1 l6 (((l6.length : Int) - 0 : Int).toNat + 1) 0 u8.1 u8.2
set_option maxRecDepth 20000 in
set_option maxHeartbeats 1000000 in
theorem c_pack_Writer_Texts {w : World} {Fo : List Ob} {rs : List Rp} (p1 : Nat) (v2 : Value) (l3 : List Int) (b4 : Bool) (v5 : Value) (l6 : List ByteArray) (H : Sep w (Blk p1 51 [v2, .bool b4] :: Row 5 (kI .u8) v2 l3 :: Fo) rs) (hr7 : rSl kS v5 l6 ∈ rs) {r : (List Int) × Bool} (hm : m_pack_Writer_Texts l3 b4 l6 = some r) :
    Calls Try.prog 40 [.pointer (some ⟨p1, 0, none⟩), v5].toArray w (Ret fun v w' => ∃ (v5001 : Value), .tuple #[] = v ∧ Sep w' (Blk p1 51 [v5001, .bool r.2] :: Row 5 (kI .u8) v5001 r.1 :: Fo) (rs)) := by
  unfold m_pack_Writer_Texts at hm
  refine enter Try.func40 rfl Try.ntmps40 rfl fun a E => ?_
  simp only [enum, Nat.reduceAdd] at E
  refine wp_seq ?_
  refine wp_region_lit ?_
  refine st_val E (wn rfl) rfl rfl (x_move E rfl rfl) ?_
  clear E; clear a; intro a E
  refine st_val E (wn rfl) rfl rfl (x_move E rfl rfl) ?_
  clear E; clear a; intro a E
  refine st_val E (wn rfl) rfl rfl (x_lenS E H rfl rfl hr7 Try.underlying68) ?_
  clear E; clear a; intro a E
  replace H : Sep w (Blk p1 51 [v2, .bool b4] :: Row 5 (kI .u8) v2 l3 :: Fo) (rs) := H
  obtain ⟨u8, hx9, hm⟩ := bnd hm
  refine st_call E (wn rfl) rfl rfl (x_call E rfl rfl (cf33 _)) (c_pack_Writer_Num p1 v2 l3 b4 (l6.length : Int) H hx9) ?_
  clear E H; clear a; clear w; rintro _ w ⟨v10, rfl, H⟩ a E
  refine wpList_nil ?_
  refine q_then ?_
  refine wp_seq ?_
  refine wp_region_lit ?_
  refine st_val E (wn rfl) rfl rfl (x_move E rfl rfl) ?_
  clear E; clear a; intro a E
  refine st_val E (wn rfl) rfl rfl (x_lenS E H rfl rfl hr7 Try.underlying68) ?_
  clear E; clear a; intro a E
  refine st_val E (wn rfl) rfl rfl (x_move E rfl rfl) ?_
  clear E; clear a; intro a E
  refine wpList_nil ?_
  refine q_then ?_
  refine wp_block ?_
  refine wp_loop_g (fun k1 a w => ∃ (v12 : Value) (x11 : Int) (l13 : (List Int)) (b14 : Bool) (rs15 : List Rp), Env 20 a [(0, .pointer (some ⟨p1, 0, none⟩)), (10, v5), (11, .int .i64 (l6.length : Int)), (12, .int .i64 x11)] ∧ Sep w (Blk p1 51 [v12, .bool b14] :: Row 5 (kI .u8) v12 l13 :: Fo) rs15 ∧ (∀ r, r ∈ rs → r ∈ rs15) ∧ rSl kS v5 l6 ∈ rs15 ∧ m_pack_Writer_Texts_l1 l6 k1 x11 l13 b14 = some r) (((l6.length : Int) - 0 : Int).toNat + 1) ?_ ?_
  · exact ⟨v10, 0, u8.1, u8.2, _, ((((E.nil.keep E 12 rfl).keep E 11 rfl).keep E 10 rfl).keep E 0 rfl), H, fun r hr => hr, hr7, hm⟩
  · clear E H hm
    rintro k1 a w ⟨v12, x11, l13, b14, rs15, E, H, hs16, hr17, hm⟩
    cases k1 with
    | zero => exact (none_some hm rfl).elim
    | succ k1 =>
      unfold m_pack_Writer_Texts_l1 at hm
      refine wp_seq ?_
      refine wp_region_lit ?_
      refine st_val E (wn rfl) rfl rfl (x_bin E rfl rfl rfl rfl) ?_
      clear E; clear a; intro a E
      refine wpList_nil ?_
      refine q_then ?_
      refine wp_seq ?_
      refine wp_if E rfl ?_ ?_
      · intro hb
        rw [if_t hb] at hm
        clear hb
        refine wp_skip ?_
        refine q_then ?_
        refine wp_seq ?_
        refine wp_block ?_
        refine wp_seq ?_
        refine wp_region_lit ?_
        obtain ⟨x18, hx19, hm⟩ := bnd hm
        refine st_ixS E H (wn rfl) rfl rfl rfl rfl rfl hr17 Try.underlying68 sz9 hx19 ?_
        clear E H; clear a; intro q20 a H E
        refine st_val E (wn rfl) rfl rfl (x_ldA E H rfl rfl (.head _) Try.underlying9 rfl) ?_
        clear E; clear a; intro a E
        refine st_val E (wn rfl) rfl rfl (x_assign E rfl rfl) ?_
        clear E; clear a; intro a E
        refine wpList_nil ?_
        refine q_then ?_
        refine wp_region_lit ?_
        refine st_val E (wn rfl) rfl rfl (x_move E rfl rfl) ?_
        clear E; clear a; intro a E
        refine st_val E (wn rfl) rfl rfl (x_move E rfl rfl) ?_
        clear E; clear a; intro a E
        replace H : Sep w (Blk p1 51 [v12, .bool b14] :: Row 5 (kI .u8) v12 l13 :: Fo) (rAt kS q20 x18 :: rs15) := H
        obtain ⟨u21, hx22, hm⟩ := bnd hm
        refine st_call E (wn rfl) rfl rfl (x_call E rfl rfl (cf35 _)) (c_pack_Writer_Text p1 v12 l13 b14 x18 H hx22) ?_
        clear E H; clear a; clear w; rintro _ w ⟨v23, rfl, H⟩ a E
        refine wpList_nil ?_
        refine q_blk ?_
        refine q_then ?_
        refine wp_region_lit ?_
        refine st_val E (wn rfl) rfl rfl (x_bin E rfl rfl rfl rfl) ?_
        clear E; clear a; intro a E
        refine st_val E (wn rfl) rfl rfl (x_move E rfl rfl) ?_
        clear E; clear a; intro a E
        refine wpList_nil ?_
        refine q_then ?_
        exact ⟨k1, Nat.lt_succ_self k1, v23, IntKind.i64.wrap (x11 + 1), u21.1, u21.2, _, ((((E.nil.keep E 12 rfl).keep E 11 rfl).keep E 10 rfl).keep E 0 rfl), H, fun r hr => .tail _ (hs16 r hr), (.tail _ hr17), hm⟩
      · intro hb
        rw [if_f hb] at hm
        clear hb
        refine wp_exit ?_
        refine q_thenX ?_
        refine q_thenX ?_
        refine q_hit ?_
        refine out0 E rfl ?_
        obtain rfl := Option.some.inj hm
        exact ⟨v12, rfl, H.reads (fun r hr => hs16 r hr)⟩
end Go.Cb
