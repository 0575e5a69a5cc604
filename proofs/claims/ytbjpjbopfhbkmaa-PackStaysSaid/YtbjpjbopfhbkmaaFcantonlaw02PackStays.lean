/- A function of the program, walked: it comes to its plain function. -/
import Derived.Test.YtbjpjbopfhbkmaaT
import Derived.Test.YtbjpjbopfhbkmaaFcantonlaw02Great
import Derived.Test.YtbjpjbopfhbkmaaFcantonlaw02head
import Derived.Test.YtbjpjbopfhbkmaaFpackNew
import Derived.Test.YtbjpjbopfhbkmaaFpackReaderEnd
import Derived.Test.YtbjpjbopfhbkmaaFpackReaderErr
import Derived.Test.YtbjpjbopfhbkmaaFpackReaderNum
import Derived.Test.YtbjpjbopfhbkmaaFpackReaderText
import Derived.Test.YtbjpjbopfhbkmaaFpackReaderTexts
set_option linter.unusedVariables false
set_option linter.unusedSimpArgs false
namespace Go.Cb
open Go.Proofs Go.RowKit
def m_cantonlaw02_PackStays_j3 (rec_2 : Int → (List Int) → Int → Option Bool) (x40 : Int) (u54 : (List ByteArray) × (List Int) × Int) (b58 : Bool) : Option Bool :=
  if b58 = true then (some (false)) else (rec_2 (IntKind.i64.wrap (x40 + 1)) u54.2.1 u54.2.2)
def m_cantonlaw02_PackStays_l2 (l4 : List S_cantonlaw02_Item) (x21 : Int) (u7 : Bool) : Nat → Int → (List Int) → Int → Option Bool
  | 0, _, _, _ => none
  | k2 + 1, x40, l42, x43 =>
    if (decide (x40 < (l4.length : Int))) = true then ((m_pack_Reader_Num l42 x43 281474976710656).bind fun u48 => (m_pack_Reader_Text u48.2.1 u48.2.2).bind fun u51 => (m_pack_Reader_Texts u51.2.1 u51.2.2).bind fun u54 => if (u48.1 != 0) = true then (m_cantonlaw02_PackStays_j3 (m_cantonlaw02_PackStays_l2 l4 x21 u7 k2) x40 u54 true) else (if (!(sEq u51.1 (⟨#[]⟩))) = true then (m_cantonlaw02_PackStays_j3 (m_cantonlaw02_PackStays_l2 l4 x21 u7 k2) x40 u54 true) else (if ((u54.1.length : Int) != 0) = true then (m_cantonlaw02_PackStays_j3 (m_cantonlaw02_PackStays_l2 l4 x21 u7 k2) x40 u54 true) else ((m_pack_Reader_Err u54.2.1 u54.2.2).bind fun u66 => if (u54.2.2 != x21) = true then (m_cantonlaw02_PackStays_j3 (m_cantonlaw02_PackStays_l2 l4 x21 u7 k2) x40 u54 true) else ((m_pack_Reader_End u54.2.1 u54.2.2).bind fun u69 => m_cantonlaw02_PackStays_j3 (m_cantonlaw02_PackStays_l2 l4 x21 u7 k2) x40 u54 u69))))) else (some (u7))
def m_cantonlaw02_PackStays_j2 (l4 : List S_cantonlaw02_Item) (x21 : Int) (u7 : Bool) (l20 : (List Int)) (b35 : Bool) : Option Bool :=
  if b35 = true then (some (false)) else (m_cantonlaw02_PackStays_l2 l4 x21 u7 (((l4.length : Int) - 0 : Int).toNat + 1) 0 l20 x21)
def m_cantonlaw02_PackStays_j5 (rec_3 : Int → (List Int) → Int → Option Bool) (x79 : Int) (u93 : (List ByteArray) × (List Int) × Int) (b97 : Bool) : Option Bool :=
  if b97 = true then (some (false)) else (rec_3 (IntKind.i64.wrap (x79 + 1)) u93.2.1 u93.2.2)
def m_cantonlaw02_PackStays_l3 (l4 : List S_cantonlaw02_Item) (x21 : Int) (u7 : Bool) : Nat → Int → (List Int) → Int → Option Bool
  | 0, _, _, _ => none
  | k3 + 1, x79, l81, x82 =>
    if (decide (x79 < (l4.length : Int))) = true then ((m_pack_Reader_Num l81 x82 281474976710656).bind fun u87 => (m_pack_Reader_Text u87.2.1 u87.2.2).bind fun u90 => (m_pack_Reader_Texts u90.2.1 u90.2.2).bind fun u93 => if (u87.1 != 0) = true then (m_cantonlaw02_PackStays_j5 (m_cantonlaw02_PackStays_l3 l4 x21 u7 k3) x79 u93 true) else (if (!(sEq u90.1 (⟨#[]⟩))) = true then (m_cantonlaw02_PackStays_j5 (m_cantonlaw02_PackStays_l3 l4 x21 u7 k3) x79 u93 true) else (if ((u93.1.length : Int) != 0) = true then (m_cantonlaw02_PackStays_j5 (m_cantonlaw02_PackStays_l3 l4 x21 u7 k3) x79 u93 true) else ((m_pack_Reader_Err u93.2.1 u93.2.2).bind fun u105 => if (u93.2.2 != x21) = true then (m_cantonlaw02_PackStays_j5 (m_cantonlaw02_PackStays_l3 l4 x21 u7 k3) x79 u93 true) else ((m_pack_Reader_End u93.2.1 u93.2.2).bind fun u108 => m_cantonlaw02_PackStays_j5 (m_cantonlaw02_PackStays_l3 l4 x21 u7 k3) x79 u93 u108))))) else (some (u7))
def m_cantonlaw02_PackStays_j4 (l4 : List S_cantonlaw02_Item) (x21 : Int) (u7 : Bool) (l20 : (List Int)) (b74 : Bool) : Option Bool :=
  if b74 = true then (some (false)) else (m_cantonlaw02_PackStays_l3 l4 x21 u7 (((l4.length : Int) - 0 : Int).toNat + 1) 0 l20 x21)
def m_cantonlaw02_PackStays_l1 (l4 : List S_cantonlaw02_Item) (u7 : Bool) (l2 : List Int) : Nat → Int → (List Int) → Int → Option Bool
  | 0, _, _, _ => none
  | k1 + 1, x18, l20, x21 =>
    if (decide (x18 ≤ (l2.length : Int))) = true then ((m_pack_Reader_Err l20 x21).bind fun u28 => if (x21 == 0) = true then ((m_pack_Reader_Num l20 x21 (x18.tmod 300)).bind fun u30 => m_cantonlaw02_PackStays_l1 l4 u7 l2 k1 (IntKind.i64.wrap (x18 + 1)) u30.2.1 u30.2.2) else ((m_pack_Reader_Err l20 x21).bind fun u33 => if (x21 != 21) = true then (m_cantonlaw02_PackStays_j2 l4 x21 u7 l20 (x21 != 3)) else (m_cantonlaw02_PackStays_j2 l4 x21 u7 l20 false))) else ((m_pack_Reader_Err l20 x21).bind fun u72 => if (x21 != 21) = true then (m_cantonlaw02_PackStays_j4 l4 x21 u7 l20 (x21 != 3)) else (m_cantonlaw02_PackStays_j4 l4 x21 u7 l20 false))
def m_cantonlaw02_PackStays_j1 (l4 : List S_cantonlaw02_Item) (u7 : Bool) (l2 : List Int) (b9 : Bool) : Option Bool :=
  if b9 = true then (some (u7)) else ((m_pack_New l2).bind fun u14 => m_cantonlaw02_PackStays_l1 l4 u7 l2 (l2.length + 2) 0 u14 0)
def m_cantonlaw02_PackStays (l2 : List Int) (l4 : List S_cantonlaw02_Item) : Option Bool :=
  m_cantonlaw02_head.bind fun u7 => (m_cantonlaw02_Great l4).bind fun u111 => if u111 = true then (m_cantonlaw02_PackStays_j1 l4 u7 l2 true) else (m_cantonlaw02_PackStays_j1 l4 u7 l2 (decide ((l2.length : Int) > 20000)))
set_option maxRecDepth 20000 in
set_option maxHeartbeats 1000000 in
theorem c_cantonlaw02_PackStays {w : World} {Fo : List Ob} {rs : List Rp} (v1 : Value) (l2 : List Int) (v3 : Value) (l4 : List S_cantonlaw02_Item) (H : Sep w (Fo) rs) (hr5 : rSl (kI .u8) v1 l2 ∈ rs) (hr6 : rSl k_cantonlaw02_Item v3 l4 ∈ rs) {r : Bool} (hm : m_cantonlaw02_PackStays l2 l4 = some r) :
    Calls Try.prog 12 [v1, v3].toArray w (Ret fun v w' => .bool r = v ∧ Sep w' (Fo) (rs)) := by
  unfold m_cantonlaw02_PackStays at hm
  refine enter Try.func12 rfl Try.ntmps12 rfl fun a E => ?_
  simp only [enum, Nat.reduceAdd] at E
  refine wp_seq ?_
  refine wp_region_lit ?_
  refine st_val E (wn rfl) rfl rfl (x_assign E rfl rfl) ?_
  clear E; clear a; intro a E
  refine wpList_nil ?_
  refine q_then ?_
  refine wp_seq ?_
  refine wp_region_lit ?_
  replace H : Sep w (Fo) (rs) := H
  obtain ⟨u7, hx8, hm⟩ := bnd hm
  refine st_call E (wn rfl) rfl rfl (x_call E rfl rfl (cf28 _)) (c_cantonlaw02_head H hx8) ?_
  clear E H; clear a; clear w; rintro _ w ⟨rfl, H⟩ a E
  refine st_val E (wn rfl) rfl rfl (x_assign E rfl rfl) ?_
  clear E; clear a; intro a E
  refine wpList_nil ?_
  refine q_then ?_
  refine wp_seq ?_
  refine wp_seq_cut (fun a w => ∃ (b9 : Bool) (rs10 : List Rp), Env 83 a [(0, v1), (1, v3), (5, .bool u7), (20, .bool b9)] ∧ Sep w (Fo) rs10 ∧ (∀ r, r ∈ rs → r ∈ rs10) ∧ rSl (kI .u8) v1 l2 ∈ rs10 ∧ rSl k_cantonlaw02_Item v3 l4 ∈ rs10 ∧ m_cantonlaw02_PackStays_j1 l4 u7 l2 b9 = some r) ?_ ?_
  · refine wp_region_lit ?_
    refine st_val E (wn rfl) rfl rfl (x_move E rfl rfl) ?_
    clear E; clear a; intro a E
    replace H : Sep w (Fo) (rs) := H
    obtain ⟨u111, hx112, hm⟩ := bnd hm
    refine st_call E (wn rfl) rfl rfl (x_call E rfl rfl (cf37 _)) (c_cantonlaw02_Great v3 l4 H hr6 hx112) ?_
    clear E H; clear a; clear w; rintro _ w ⟨rfl, H⟩ a E
    refine st_val E (wn rfl) rfl rfl (x_move E rfl rfl) ?_
    clear E; clear a; intro a E
    rcases Bool.eq_false_or_eq_true u111 with hb113 | hb113
    · rw [if_t hb113] at hm
      refine st_no E (wf' E rfl rfl rfl rfl hb113 rfl) rfl rfl ?_
      clear E; clear a; intro a E
      refine st_no E (wf' E rfl rfl rfl rfl hb113 rfl) rfl rfl ?_
      clear E; clear a; intro a E
      refine st_no E (wf' E rfl rfl rfl rfl hb113 rfl) rfl rfl ?_
      clear E; clear a; intro a E
      refine st_val E (wn rfl) rfl rfl (x_pickT E rfl rfl hb113 rfl) ?_
      clear E; clear a; intro a E
      refine wpList_nil ?_
      refine q_then ?_
      exact ⟨true, _, ((((E.nil.keep E 20 rfl).keep E 5 rfl).keep E 1 rfl).keep E 0 rfl), H, fun r hr => hr, hr5, hr6, hm⟩
    · rw [if_f hb113] at hm
      refine st_val E (ws' E rfl rfl rfl rfl hb113) rfl rfl (x_move E rfl rfl) ?_
      clear E; clear a; intro a E
      refine st_val E (ws' E rfl rfl rfl rfl hb113) rfl rfl (x_lenS E H rfl rfl hr5 Try.underlying46) ?_
      clear E; clear a; intro a E
      refine st_val E (ws' E rfl rfl rfl rfl hb113) rfl rfl (x_bin E rfl rfl rfl rfl) ?_
      clear E; clear a; intro a E
      refine st_val E (wn rfl) rfl rfl (x_pickF E rfl rfl hb113 rfl) ?_
      clear E; clear a; intro a E
      refine wpList_nil ?_
      refine q_then ?_
      exact ⟨decide ((l2.length : Int) > 20000), _, ((((E.nil.keep E 20 rfl).keep E 5 rfl).keep E 1 rfl).keep E 0 rfl), H, fun r hr => hr, hr5, hr6, hm⟩
  · clear E H hm
    rintro a w ⟨b9, rs10, E, H, hs11, hr12, hr13, hm⟩
    unfold m_cantonlaw02_PackStays_j1 at hm
    refine wp_if E rfl ?_ ?_
    · intro hb
      rw [if_t hb] at hm
      clear hb
      refine wp_seq ?_
      refine wp_region_lit ?_
      refine st_val E (wn rfl) rfl rfl (x_move E rfl rfl) ?_
      clear E; clear a; intro a E
      refine st_val E (wn rfl) rfl rfl (x_assign E rfl rfl) ?_
      clear E; clear a; intro a E
      refine wpList_nil ?_
      refine q_then ?_
      refine wp_ret ?_
      refine q_thenR ?_
      refine out1 E rfl rfl ?_
      obtain rfl := Option.some.inj hm
      exact ⟨rfl, H.reads (fun r hr => hs11 r hr)⟩
    · intro hb
      rw [if_f hb] at hm
      clear hb
      refine wp_skip ?_
      refine q_then ?_
      refine wp_seq ?_
      refine wp_region_lit ?_
      refine st_val E (wn rfl) rfl rfl (x_move E rfl rfl) ?_
      clear E; clear a; intro a E
      replace H : Sep w (Fo) (rs10) := H
      obtain ⟨u14, hx15, hm⟩ := bnd hm
      refine st_call E (wn rfl) rfl rfl (x_call E rfl rfl (cf29 _)) (c_pack_New v1 l2 H hr12 hx15) ?_
      clear E H; clear a; clear w; rintro _ w ⟨p16, v17, rfl, H⟩ a E
      refine st_val E (wn rfl) rfl rfl (x_assign E rfl rfl) ?_
      clear E; clear a; intro a E
      refine wpList_nil ?_
      refine q_then ?_
      refine wp_seq ?_
      refine wp_seq ?_
      refine wp_region_lit ?_
      refine st_val E (wn rfl) rfl rfl (x_move E rfl rfl) ?_
      clear E; clear a; intro a E
      refine st_val E (wn rfl) rfl rfl (x_bin2 E rfl rfl rfl (v := .bool false) (by kernel_rfl)) ?_
      clear E; clear a; intro a E
      refine wpList_nil ?_
      refine q_then ?_
      refine wp_cond_false (E.eval rfl) ?_
      refine wp_skip ?_
      refine q_then ?_
      refine wp_seq ?_
      refine wp_seq ?_
      refine wp_region_lit ?_
      refine st_val E (wn rfl) rfl rfl (x_assign E rfl rfl) ?_
      clear E; clear a; intro a E
      refine wpList_nil ?_
      refine q_then ?_
      refine wp_block ?_
      refine wp_loop_g (fun k1 a w => ∃ (v19 : Value) (x18 : Int) (l20 : (List Int)) (x21 : Int) (rs22 : List Rp), Env 83 a [(0, v1), (1, v3), (5, .bool u7), (6, .pointer (some ⟨p16, 0, none⟩)), (7, .int .i64 x18)] ∧ Sep w (Blk p16 91 [v19, .int .i64 x21] :: Fo) rs22 ∧ (∀ r, r ∈ rs → r ∈ rs22) ∧ rSl (kI .u8) v1 l2 ∈ rs22 ∧ rSl k_cantonlaw02_Item v3 l4 ∈ rs22 ∧ rSl (kI .u8) v19 l20 ∈ rs22 ∧ m_cantonlaw02_PackStays_l1 l4 u7 l2 k1 x18 l20 x21 = some r) (l2.length + 2) ?_ ?_
      · replace H := H.thaw (i := 1) rfl
        exact ⟨v17, 0, u14, 0, _, (((((E.nil.keep E 7 rfl).keep E 6 rfl).keep E 5 rfl).keep E 1 rfl).keep E 0 rfl), H, fun r hr => .tail _ (hs11 r hr), (.tail _ hr12), (.tail _ hr13), (.head _), hm⟩
      · clear E H hm
        rintro k1 a w ⟨v19, x18, l20, x21, rs22, E, H, hs23, hr24, hr25, hr26, hm⟩
        cases k1 with
        | zero => exact (none_some hm rfl).elim
        | succ k1 =>
          unfold m_cantonlaw02_PackStays_l1 at hm
          refine wp_seq ?_
          refine wp_seq ?_
          refine wp_region_lit ?_
          refine st_val E (wn rfl) rfl rfl (x_move E rfl rfl) ?_
          clear E; clear a; intro a E
          refine st_val E (wn rfl) rfl rfl (x_move E rfl rfl) ?_
          clear E; clear a; intro a E
          refine st_val E (wn rfl) rfl rfl (x_lenS E H rfl rfl hr24 Try.underlying46) ?_
          clear E; clear a; intro a E
          refine st_val E (wn rfl) rfl rfl (x_bin E rfl rfl rfl rfl) ?_
          clear E; clear a; intro a E
          refine st_val E (wn rfl) rfl rfl (x_move E rfl rfl) ?_
          clear E; clear a; intro a E
          rcases Bool.eq_false_or_eq_true (decide (x18 ≤ (l2.length : Int))) with hb27 | hb27
          · rw [if_t hb27] at hm
            refine st_val E (ws' E rfl rfl rfl rfl hb27) rfl rfl (x_move E rfl rfl) ?_
            clear E; clear a; intro a E
            replace H : Sep w (Blk p16 91 [v19, .int .i64 x21] :: Fo) (rs22) := H
            obtain ⟨u28, hx29, hm⟩ := bnd hm
            refine st_call E (ws' E rfl rfl rfl rfl hb27) rfl rfl (x_call E rfl rfl (cf31 _)) (c_pack_Reader_Err p16 v19 l20 x21 H hr26 hx29) ?_
            clear E H; clear a; clear w; rintro _ w ⟨rfl, H⟩ a E
            refine st_val E (ws' E rfl rfl rfl rfl hb27) rfl rfl (x_bin E rfl rfl rfl rfl) ?_
            clear E; clear a; intro a E
            refine st_val E (wn rfl) rfl rfl (x_pickT E rfl rfl hb27 rfl) ?_
            clear E; clear a; intro a E
            refine wpList_nil ?_
            refine q_then ?_
            refine wp_if E rfl ?_ ?_
            · intro hb
              rw [if_t hb] at hm
              clear hb
              refine wp_skip ?_
              refine q_then ?_
              refine wp_seq ?_
              refine wp_block ?_
              refine wp_region_lit ?_
              refine st_val E (wn rfl) rfl rfl (x_move E rfl rfl) ?_
              clear E; clear a; intro a E
              refine st_val E (wn rfl) rfl rfl (x_move E rfl rfl) ?_
              clear E; clear a; intro a E
              refine st_val E (wn rfl) rfl rfl (x_rem E rfl rfl rfl (by decide)) ?_
              clear E; clear a; intro a E
              replace H : Sep w (Blk p16 91 [v19, .int .i64 x21] :: Fo) (rs22) := H
              obtain ⟨u30, hx31, hm⟩ := bnd hm
              refine st_call E (wn rfl) rfl rfl (x_call E rfl rfl (cf32 _)) (c_pack_Reader_Num p16 v19 l20 x21 (x18.tmod 300) H hr26 hx31) ?_
              clear E H; clear a; clear w; rintro _ w ⟨v32, rfl, H⟩ a E
              refine wpList_nil ?_
              refine q_blk ?_
              refine q_then ?_
              refine wp_region_lit ?_
              refine st_val E (wn rfl) rfl rfl (x_move E rfl rfl) ?_
              clear E; clear a; intro a E
              refine st_val E (wn rfl) rfl rfl (x_bin E rfl rfl rfl rfl) ?_
              clear E; clear a; intro a E
              refine st_val E (wn rfl) rfl rfl (x_assign E rfl rfl) ?_
              clear E; clear a; intro a E
              refine wpList_nil ?_
              refine q_then ?_
              exact ⟨k1, Nat.lt_succ_self k1, v32, IntKind.i64.wrap (x18 + 1), u30.2.1, u30.2.2, _, (((((E.nil.keep E 7 rfl).keep E 6 rfl).keep E 5 rfl).keep E 1 rfl).keep E 0 rfl), H, fun r hr => .tail _ (hs23 r hr), (.tail _ hr24), (.tail _ hr25), (.head _), hm⟩
            · intro hb
              rw [if_f hb] at hm
              clear hb
              refine wp_exit ?_
              refine q_thenX ?_
              refine q_thenX ?_
              refine q_hit ?_
              refine q_then ?_
              refine wp_seq ?_
              refine wp_region_lit ?_
              refine st_val E (wn rfl) rfl rfl (x_move E rfl rfl) ?_
              clear E; clear a; intro a E
              replace H : Sep w (Blk p16 91 [v19, .int .i64 x21] :: Fo) (rs22) := H
              obtain ⟨u33, hx34, hm⟩ := bnd hm
              refine st_call E (wn rfl) rfl rfl (x_call E rfl rfl (cf31 _)) (c_pack_Reader_Err p16 v19 l20 x21 H hr26 hx34) ?_
              clear E H; clear a; clear w; rintro _ w ⟨rfl, H⟩ a E
              refine st_val E (wn rfl) rfl rfl (x_assign E rfl rfl) ?_
              clear E; clear a; intro a E
              refine wpList_nil ?_
              refine q_then ?_
              refine wp_seq ?_
              refine wp_seq_cut (fun a w => ∃ (b35 : Bool) (rs36 : List Rp), Env 83 a [(1, v3), (5, .bool u7), (6, .pointer (some ⟨p16, 0, none⟩)), (8, .int .i64 x21), (48, .bool b35)] ∧ Sep w (Blk p16 91 [v19, .int .i64 x21] :: Fo) rs36 ∧ (∀ r, r ∈ rs → r ∈ rs36) ∧ rSl k_cantonlaw02_Item v3 l4 ∈ rs36 ∧ rSl (kI .u8) v19 l20 ∈ rs36 ∧ m_cantonlaw02_PackStays_j2 l4 x21 u7 l20 b35 = some r) ?_ ?_
              · refine wp_region_lit ?_
                refine st_val E (wn rfl) rfl rfl (x_move E rfl rfl) ?_
                clear E; clear a; intro a E
                refine st_val E (wn rfl) rfl rfl (x_bin E rfl rfl rfl rfl) ?_
                clear E; clear a; intro a E
                refine st_val E (wn rfl) rfl rfl (x_move E rfl rfl) ?_
                clear E; clear a; intro a E
                rcases Bool.eq_false_or_eq_true (x21 != 21) with hb71 | hb71
                · rw [if_t hb71] at hm
                  refine st_val E (ws' E rfl rfl rfl rfl hb71) rfl rfl (x_move E rfl rfl) ?_
                  clear E; clear a; intro a E
                  refine st_val E (ws' E rfl rfl rfl rfl hb71) rfl rfl (x_bin E rfl rfl rfl rfl) ?_
                  clear E; clear a; intro a E
                  refine st_val E (wn rfl) rfl rfl (x_pickT E rfl rfl hb71 rfl) ?_
                  clear E; clear a; intro a E
                  refine wpList_nil ?_
                  refine q_then ?_
                  exact ⟨x21 != 3, _, (((((E.nil.keep E 48 rfl).keep E 8 rfl).keep E 6 rfl).keep E 5 rfl).keep E 1 rfl), H, hs23, hr25, hr26, hm⟩
                · rw [if_f hb71] at hm
                  refine st_no E (wf' E rfl rfl rfl rfl hb71 rfl) rfl rfl ?_
                  clear E; clear a; intro a E
                  refine st_no E (wf' E rfl rfl rfl rfl hb71 rfl) rfl rfl ?_
                  clear E; clear a; intro a E
                  refine st_val E (wn rfl) rfl rfl (x_pickF E rfl rfl hb71 rfl) ?_
                  clear E; clear a; intro a E
                  refine wpList_nil ?_
                  refine q_then ?_
                  exact ⟨false, _, (((((E.nil.keep E 48 rfl).keep E 8 rfl).keep E 6 rfl).keep E 5 rfl).keep E 1 rfl), H, hs23, hr25, hr26, hm⟩
              · clear E H hm
                rintro a w ⟨b35, rs36, E, H, hs37, hr38, hr39, hm⟩
                unfold m_cantonlaw02_PackStays_j2 at hm
                refine wp_if E rfl ?_ ?_
                · intro hb
                  rw [if_t hb] at hm
                  clear hb
                  refine wp_seq ?_
                  refine wp_region_lit ?_
                  refine st_val E (wn rfl) rfl rfl (x_assign E rfl rfl) ?_
                  clear E; clear a; intro a E
                  refine wpList_nil ?_
                  refine q_then ?_
                  refine wp_ret ?_
                  refine q_thenR ?_
                  refine out1 E rfl rfl ?_
                  replace H := H.drop 0
                  obtain rfl := Option.some.inj hm
                  exact ⟨rfl, H.reads (fun r hr => hs37 r hr)⟩
                · intro hb
                  rw [if_f hb] at hm
                  clear hb
                  refine wp_skip ?_
                  refine q_then ?_
                  refine wp_seq ?_
                  refine wp_seq ?_
                  refine wp_region_lit ?_
                  refine st_val E (wn rfl) rfl rfl (x_assign E rfl rfl) ?_
                  clear E; clear a; intro a E
                  refine wpList_nil ?_
                  refine q_then ?_
                  refine wp_block ?_
                  refine wp_loop_g (fun k2 a w => ∃ (v41 : Value) (x40 : Int) (l42 : (List Int)) (x43 : Int) (rs44 : List Rp), Env 83 a [(1, v3), (5, .bool u7), (6, .pointer (some ⟨p16, 0, none⟩)), (8, .int .i64 x21), (9, .int .i64 x40)] ∧ Sep w (Blk p16 91 [v41, .int .i64 x43] :: Fo) rs44 ∧ (∀ r, r ∈ rs → r ∈ rs44) ∧ rSl k_cantonlaw02_Item v3 l4 ∈ rs44 ∧ rSl (kI .u8) v41 l42 ∈ rs44 ∧ m_cantonlaw02_PackStays_l2 l4 x21 u7 k2 x40 l42 x43 = some r) (((l4.length : Int) - 0 : Int).toNat + 1) ?_ ?_
                  · exact ⟨v19, 0, l20, x21, _, (((((E.nil.keep E 9 rfl).keep E 8 rfl).keep E 6 rfl).keep E 5 rfl).keep E 1 rfl), H, hs37, hr38, hr39, hm⟩
                  · clear E H hm
                    rintro k2 a w ⟨v41, x40, l42, x43, rs44, E, H, hs45, hr46, hr47, hm⟩
                    cases k2 with
                    | zero => exact (none_some hm rfl).elim
                    | succ k2 =>
                      unfold m_cantonlaw02_PackStays_l2 at hm
                      refine wp_seq ?_
                      refine wp_seq ?_
                      refine wp_region_lit ?_
                      refine st_val E (wn rfl) rfl rfl (x_move E rfl rfl) ?_
                      clear E; clear a; intro a E
                      refine st_val E (wn rfl) rfl rfl (x_move E rfl rfl) ?_
                      clear E; clear a; intro a E
                      refine st_val E (wn rfl) rfl rfl (x_lenS E H rfl rfl hr46 Try.underlying63) ?_
                      clear E; clear a; intro a E
                      refine st_val E (wn rfl) rfl rfl (x_bin E rfl rfl rfl rfl) ?_
                      clear E; clear a; intro a E
                      refine wpList_nil ?_
                      refine q_then ?_
                      refine wp_if E rfl ?_ ?_
                      · intro hb
                        rw [if_t hb] at hm
                        clear hb
                        refine wp_skip ?_
                        refine q_then ?_
                        refine wp_seq ?_
                        refine wp_block ?_
                        refine wp_seq ?_
                        refine wp_region_lit ?_
                        refine st_val E (wn rfl) rfl rfl (x_move E rfl rfl) ?_
                        clear E; clear a; intro a E
                        replace H : Sep w (Blk p16 91 [v41, .int .i64 x43] :: Fo) (rs44) := H
                        obtain ⟨u48, hx49, hm⟩ := bnd hm
                        refine st_call E (wn rfl) rfl rfl (x_call E rfl rfl (cf32 _)) (c_pack_Reader_Num p16 v41 l42 x43 281474976710656 H hr47 hx49) ?_
                        clear E H; clear a; clear w; rintro _ w ⟨v50, rfl, H⟩ a E
                        refine st_val E (wn rfl) rfl rfl (x_assign E rfl rfl) ?_
                        clear E; clear a; intro a E
                        refine wpList_nil ?_
                        refine q_then ?_
                        refine wp_seq ?_
                        refine wp_region_lit ?_
                        refine st_val E (wn rfl) rfl rfl (x_move E rfl rfl) ?_
                        clear E; clear a; intro a E
                        replace H : Sep w (Blk p16 91 [v50, .int .i64 u48.2.2] :: Fo) (rSl (kI .u8) v50 u48.2.1 :: rs44) := H
                        obtain ⟨u51, hx52, hm⟩ := bnd hm
                        refine st_call E (wn rfl) rfl rfl (x_call E rfl rfl (cf36 _)) (c_pack_Reader_Text p16 v50 u48.2.1 u48.2.2 H (.head _) hx52) ?_
                        clear E H; clear a; clear w; rintro _ w ⟨v53, rfl, H⟩ a E
                        refine st_val E (wn rfl) rfl rfl (x_assign E rfl rfl) ?_
                        clear E; clear a; intro a E
                        refine wpList_nil ?_
                        refine q_then ?_
                        refine wp_seq ?_
                        refine wp_region_lit ?_
                        refine st_val E (wn rfl) rfl rfl (x_move E rfl rfl) ?_
                        clear E; clear a; intro a E
                        replace H : Sep w (Blk p16 91 [v53, .int .i64 u51.2.2] :: Fo) (rSl (kI .u8) v53 u51.2.1 :: rSl (kI .u8) v50 u48.2.1 :: rs44) := H
                        obtain ⟨u54, hx55, hm⟩ := bnd hm
                        refine st_call E (wn rfl) rfl rfl (x_call E rfl rfl (cf46 _)) (c_pack_Reader_Texts p16 v53 u51.2.1 u51.2.2 H (.head _) hx55) ?_
                        clear E H; clear a; clear w; rintro _ w ⟨v56, v57, rfl, H⟩ a E
                        refine st_val E (wn rfl) rfl rfl (x_assign E rfl rfl) ?_
                        clear E; clear a; intro a E
                        refine wpList_nil ?_
                        refine q_then ?_
                        refine wp_seq_cut (fun a w => ∃ (b58 : Bool) (rs59 : List Rp), Env 83 a [(1, v3), (5, .bool u7), (6, .pointer (some ⟨p16, 0, none⟩)), (8, .int .i64 x21), (9, .int .i64 x40), (81, .bool b58)] ∧ Sep w (Blk p16 91 [v57, .int .i64 u54.2.2] :: Fo) rs59 ∧ (∀ r, r ∈ rs → r ∈ rs59) ∧ rSl k_cantonlaw02_Item v3 l4 ∈ rs59 ∧ rSl (kI .u8) v57 u54.2.1 ∈ rs59 ∧ m_cantonlaw02_PackStays_j3 (m_cantonlaw02_PackStays_l2 l4 x21 u7 k2) x40 u54 b58 = some r) ?_ ?_
                        · refine wp_region_lit ?_
                          refine st_val E (wn rfl) rfl rfl (x_move E rfl rfl) ?_
                          clear E; clear a; intro a E
                          refine st_val E (wn rfl) rfl rfl (x_bin E rfl rfl rfl rfl) ?_
                          clear E; clear a; intro a E
                          refine st_val E (wn rfl) rfl rfl (x_move E rfl rfl) ?_
                          clear E; clear a; intro a E
                          rcases Bool.eq_false_or_eq_true (u48.1 != 0) with hb63 | hb63
                          · rw [if_t hb63] at hm
                            refine st_no E (wf' E rfl rfl rfl rfl hb63 rfl) rfl rfl ?_
                            clear E; clear a; intro a E
                            refine st_no E (wf' E rfl rfl rfl rfl hb63 rfl) rfl rfl ?_
                            clear E; clear a; intro a E
                            refine st_val E (wn rfl) rfl rfl (x_pickT E rfl rfl hb63 rfl) ?_
                            clear E; clear a; intro a E
                            refine st_val E (wn rfl) rfl rfl (x_move E rfl rfl) ?_
                            clear E; clear a; intro a E
                            refine st_no E (wf E rfl rfl rfl rfl rfl) rfl rfl ?_
                            clear E; clear a; intro a E
                            refine st_no E (wf E rfl rfl rfl rfl rfl) rfl rfl ?_
                            clear E; clear a; intro a E
                            refine st_no E (wf E rfl rfl rfl rfl rfl) rfl rfl ?_
                            clear E; clear a; intro a E
                            refine st_val E (wn rfl) rfl rfl (x_pickT E rfl rfl rfl rfl) ?_
                            clear E; clear a; intro a E
                            refine st_val E (wn rfl) rfl rfl (x_move E rfl rfl) ?_
                            clear E; clear a; intro a E
                            refine st_no E (wf E rfl rfl rfl rfl rfl) rfl rfl ?_
                            clear E; clear a; intro a E
                            refine st_no E (wf E rfl rfl rfl rfl rfl) rfl rfl ?_
                            clear E; clear a; intro a E
                            refine st_no E (wf E rfl rfl rfl rfl rfl) rfl rfl ?_
                            clear E; clear a; intro a E
                            refine st_no E (wf E rfl rfl rfl rfl rfl) rfl rfl ?_
                            clear E; clear a; intro a E
                            refine st_val E (wn rfl) rfl rfl (x_pickT E rfl rfl rfl rfl) ?_
                            clear E; clear a; intro a E
                            refine st_val E (wn rfl) rfl rfl (x_move E rfl rfl) ?_
                            clear E; clear a; intro a E
                            refine st_no E (wf E rfl rfl rfl rfl rfl) rfl rfl ?_
                            clear E; clear a; intro a E
                            refine st_no E (wf E rfl rfl rfl rfl rfl) rfl rfl ?_
                            clear E; clear a; intro a E
                            refine st_val E (wn rfl) rfl rfl (x_pickT E rfl rfl rfl rfl) ?_
                            clear E; clear a; intro a E
                            refine wpList_nil ?_
                            refine q_then ?_
                            replace H := H.drop 0
                            exact ⟨true, _, ((((((E.nil.keep E 81 rfl).keep E 9 rfl).keep E 8 rfl).keep E 6 rfl).keep E 5 rfl).keep E 1 rfl), H, fun r hr => .tail _ (.tail _ (.tail _ (hs45 r hr))), (.tail _ (.tail _ (.tail _ hr46))), (.head _), hm⟩
                          · rw [if_f hb63] at hm
                            refine st_val E (ws' E rfl rfl rfl rfl hb63) rfl rfl (x_move E rfl rfl) ?_
                            clear E; clear a; intro a E
                            refine st_val E (ws' E rfl rfl rfl rfl hb63) rfl rfl (x_str E rfl rfl rfl rfl) ?_
                            clear E; clear a; intro a E
                            refine st_val E (wn rfl) rfl rfl (x_pickF E rfl rfl hb63 rfl) ?_
                            clear E; clear a; intro a E
                            refine st_val E (wn rfl) rfl rfl (x_move E rfl rfl) ?_
                            clear E; clear a; intro a E
                            rcases Bool.eq_false_or_eq_true (!(sEq u51.1 (⟨#[]⟩))) with hb64 | hb64
                            · rw [if_t hb64] at hm
                              refine st_no E (wf' E rfl rfl rfl rfl hb64 rfl) rfl rfl ?_
                              clear E; clear a; intro a E
                              refine st_no E (wf' E rfl rfl rfl rfl hb64 rfl) rfl rfl ?_
                              clear E; clear a; intro a E
                              refine st_no E (wf' E rfl rfl rfl rfl hb64 rfl) rfl rfl ?_
                              clear E; clear a; intro a E
                              refine st_val E (wn rfl) rfl rfl (x_pickT E rfl rfl hb64 rfl) ?_
                              clear E; clear a; intro a E
                              refine st_val E (wn rfl) rfl rfl (x_move E rfl rfl) ?_
                              clear E; clear a; intro a E
                              refine st_no E (wf E rfl rfl rfl rfl rfl) rfl rfl ?_
                              clear E; clear a; intro a E
                              refine st_no E (wf E rfl rfl rfl rfl rfl) rfl rfl ?_
                              clear E; clear a; intro a E
                              refine st_no E (wf E rfl rfl rfl rfl rfl) rfl rfl ?_
                              clear E; clear a; intro a E
                              refine st_no E (wf E rfl rfl rfl rfl rfl) rfl rfl ?_
                              clear E; clear a; intro a E
                              refine st_val E (wn rfl) rfl rfl (x_pickT E rfl rfl rfl rfl) ?_
                              clear E; clear a; intro a E
                              refine st_val E (wn rfl) rfl rfl (x_move E rfl rfl) ?_
                              clear E; clear a; intro a E
                              refine st_no E (wf E rfl rfl rfl rfl rfl) rfl rfl ?_
                              clear E; clear a; intro a E
                              refine st_no E (wf E rfl rfl rfl rfl rfl) rfl rfl ?_
                              clear E; clear a; intro a E
                              refine st_val E (wn rfl) rfl rfl (x_pickT E rfl rfl rfl rfl) ?_
                              clear E; clear a; intro a E
                              refine wpList_nil ?_
                              refine q_then ?_
                              replace H := H.drop 0
                              exact ⟨true, _, ((((((E.nil.keep E 81 rfl).keep E 9 rfl).keep E 8 rfl).keep E 6 rfl).keep E 5 rfl).keep E 1 rfl), H, fun r hr => .tail _ (.tail _ (.tail _ (hs45 r hr))), (.tail _ (.tail _ (.tail _ hr46))), (.head _), hm⟩
                            · rw [if_f hb64] at hm
                              refine st_val E (ws' E rfl rfl rfl rfl hb64) rfl rfl (x_move E rfl rfl) ?_
                              clear E; clear a; intro a E
                              refine st_val E (ws' E rfl rfl rfl rfl hb64) rfl rfl (x_lenR (i := 0) E H rfl rfl rfl Try.underlying68) ?_
                              clear E; clear a; intro a E
                              refine st_val E (ws' E rfl rfl rfl rfl hb64) rfl rfl (x_bin E rfl rfl rfl rfl) ?_
                              clear E; clear a; intro a E
                              refine st_val E (wn rfl) rfl rfl (x_pickF E rfl rfl hb64 rfl) ?_
                              clear E; clear a; intro a E
                              refine st_val E (wn rfl) rfl rfl (x_move E rfl rfl) ?_
                              clear E; clear a; intro a E
                              rcases Bool.eq_false_or_eq_true ((u54.1.length : Int) != 0) with hb65 | hb65
                              · rw [if_t hb65] at hm
                                refine st_no E (wf' E rfl rfl rfl rfl hb65 rfl) rfl rfl ?_
                                clear E; clear a; intro a E
                                refine st_no E (wf' E rfl rfl rfl rfl hb65 rfl) rfl rfl ?_
                                clear E; clear a; intro a E
                                refine st_no E (wf' E rfl rfl rfl rfl hb65 rfl) rfl rfl ?_
                                clear E; clear a; intro a E
                                refine st_no E (wf' E rfl rfl rfl rfl hb65 rfl) rfl rfl ?_
                                clear E; clear a; intro a E
                                refine st_val E (wn rfl) rfl rfl (x_pickT E rfl rfl hb65 rfl) ?_
                                clear E; clear a; intro a E
                                refine st_val E (wn rfl) rfl rfl (x_move E rfl rfl) ?_
                                clear E; clear a; intro a E
                                refine st_no E (wf E rfl rfl rfl rfl rfl) rfl rfl ?_
                                clear E; clear a; intro a E
                                refine st_no E (wf E rfl rfl rfl rfl rfl) rfl rfl ?_
                                clear E; clear a; intro a E
                                refine st_val E (wn rfl) rfl rfl (x_pickT E rfl rfl rfl rfl) ?_
                                clear E; clear a; intro a E
                                refine wpList_nil ?_
                                refine q_then ?_
                                replace H := H.drop 0
                                exact ⟨true, _, ((((((E.nil.keep E 81 rfl).keep E 9 rfl).keep E 8 rfl).keep E 6 rfl).keep E 5 rfl).keep E 1 rfl), H, fun r hr => .tail _ (.tail _ (.tail _ (hs45 r hr))), (.tail _ (.tail _ (.tail _ hr46))), (.head _), hm⟩
                              · rw [if_f hb65] at hm
                                refine st_val E (ws' E rfl rfl rfl rfl hb65) rfl rfl (x_move E rfl rfl) ?_
                                clear E; clear a; intro a E
                                replace H := H.front 0 rfl
                                replace H := H.front 1 rfl
                                replace H : Sep w (Blk p16 91 [v57, .int .i64 u54.2.2] :: Row 9 kS v56 u54.1 :: Fo) (rSl (kI .u8) v57 u54.2.1 :: rSl (kI .u8) v53 u51.2.1 :: rSl (kI .u8) v50 u48.2.1 :: rs44) := H
                                obtain ⟨u66, hx67, hm⟩ := bnd hm
                                refine st_call E (ws' E rfl rfl rfl rfl hb65) rfl rfl (x_call E rfl rfl (cf31 _)) (c_pack_Reader_Err p16 v57 u54.2.1 u54.2.2 H (.head _) hx67) ?_
                                clear E H; clear a; clear w; rintro _ w ⟨rfl, H⟩ a E
                                refine st_val E (ws' E rfl rfl rfl rfl hb65) rfl rfl (x_move E rfl rfl) ?_
                                clear E; clear a; intro a E
                                refine st_val E (ws' E rfl rfl rfl rfl hb65) rfl rfl (x_bin E rfl rfl rfl rfl) ?_
                                clear E; clear a; intro a E
                                refine st_val E (wn rfl) rfl rfl (x_pickF E rfl rfl hb65 rfl) ?_
                                clear E; clear a; intro a E
                                refine st_val E (wn rfl) rfl rfl (x_move E rfl rfl) ?_
                                clear E; clear a; intro a E
                                rcases Bool.eq_false_or_eq_true (u54.2.2 != x21) with hb68 | hb68
                                · rw [if_t hb68] at hm
                                  refine st_no E (wf' E rfl rfl rfl rfl hb68 rfl) rfl rfl ?_
                                  clear E; clear a; intro a E
                                  refine st_no E (wf' E rfl rfl rfl rfl hb68 rfl) rfl rfl ?_
                                  clear E; clear a; intro a E
                                  refine st_val E (wn rfl) rfl rfl (x_pickT E rfl rfl hb68 rfl) ?_
                                  clear E; clear a; intro a E
                                  refine wpList_nil ?_
                                  refine q_then ?_
                                  replace H := H.drop 1
                                  exact ⟨true, _, ((((((E.nil.keep E 81 rfl).keep E 9 rfl).keep E 8 rfl).keep E 6 rfl).keep E 5 rfl).keep E 1 rfl), H, fun r hr => .tail _ (.tail _ (.tail _ (hs45 r hr))), (.tail _ (.tail _ (.tail _ hr46))), (.head _), hm⟩
                                · rw [if_f hb68] at hm
                                  refine st_val E (ws' E rfl rfl rfl rfl hb68) rfl rfl (x_move E rfl rfl) ?_
                                  clear E; clear a; intro a E
                                  replace H : Sep w (Blk p16 91 [v57, .int .i64 u54.2.2] :: Row 9 kS v56 u54.1 :: Fo) (rSl (kI .u8) v57 u54.2.1 :: rSl (kI .u8) v53 u51.2.1 :: rSl (kI .u8) v50 u48.2.1 :: rs44) := H
                                  obtain ⟨u69, hx70, hm⟩ := bnd hm
                                  refine st_call E (ws' E rfl rfl rfl rfl hb68) rfl rfl (x_call E rfl rfl (cf30 _)) (c_pack_Reader_End p16 v57 u54.2.1 u54.2.2 H (.head _) hx70) ?_
                                  clear E H; clear a; clear w; rintro _ w ⟨rfl, H⟩ a E
                                  refine st_val E (wn rfl) rfl rfl (x_pickF E rfl rfl hb68 rfl) ?_
                                  clear E; clear a; intro a E
                                  refine wpList_nil ?_
                                  refine q_then ?_
                                  replace H := H.drop 1
                                  exact ⟨u69, _, ((((((E.nil.keep E 81 rfl).keep E 9 rfl).keep E 8 rfl).keep E 6 rfl).keep E 5 rfl).keep E 1 rfl), H, fun r hr => .tail _ (.tail _ (.tail _ (hs45 r hr))), (.tail _ (.tail _ (.tail _ hr46))), (.head _), hm⟩
                        · clear E H hm
                          rintro a w ⟨b58, rs59, E, H, hs60, hr61, hr62, hm⟩
                          unfold m_cantonlaw02_PackStays_j3 at hm
                          refine wp_if E rfl ?_ ?_
                          · intro hb
                            rw [if_t hb] at hm
                            clear hb
                            refine wp_seq ?_
                            refine wp_region_lit ?_
                            refine st_val E (wn rfl) rfl rfl (x_assign E rfl rfl) ?_
                            clear E; clear a; intro a E
                            refine wpList_nil ?_
                            refine q_then ?_
                            refine wp_ret ?_
                            refine q_blkR ?_
                            refine q_thenR ?_
                            refine q_thenR ?_
                            refine q_blkR ?_
                            refine q_thenR ?_
                            refine out1 E rfl rfl ?_
                            replace H := H.drop 0
                            obtain rfl := Option.some.inj hm
                            exact ⟨rfl, H.reads (fun r hr => hs60 r hr)⟩
                          · intro hb
                            rw [if_f hb] at hm
                            clear hb
                            refine wp_skip ?_
                            refine q_blk ?_
                            refine q_then ?_
                            refine wp_region_lit ?_
                            refine st_val E (wn rfl) rfl rfl (x_move E rfl rfl) ?_
                            clear E; clear a; intro a E
                            refine st_val E (wn rfl) rfl rfl (x_bin E rfl rfl rfl rfl) ?_
                            clear E; clear a; intro a E
                            refine st_val E (wn rfl) rfl rfl (x_assign E rfl rfl) ?_
                            clear E; clear a; intro a E
                            refine wpList_nil ?_
                            refine q_then ?_
                            exact ⟨k2, Nat.lt_succ_self k2, v57, IntKind.i64.wrap (x40 + 1), u54.2.1, u54.2.2, _, (((((E.nil.keep E 9 rfl).keep E 8 rfl).keep E 6 rfl).keep E 5 rfl).keep E 1 rfl), H, hs60, hr61, hr62, hm⟩
                      · intro hb
                        rw [if_f hb] at hm
                        clear hb
                        refine wp_exit ?_
                        refine q_thenX ?_
                        refine q_thenX ?_
                        refine q_hit ?_
                        refine q_then ?_
                        refine wp_seq ?_
                        refine wp_region_lit ?_
                        refine st_val E (wn rfl) rfl rfl (x_move E rfl rfl) ?_
                        clear E; clear a; intro a E
                        refine st_val E (wn rfl) rfl rfl (x_assign E rfl rfl) ?_
                        clear E; clear a; intro a E
                        refine wpList_nil ?_
                        refine q_then ?_
                        refine wp_ret ?_
                        refine out1 E rfl rfl ?_
                        replace H := H.drop 0
                        obtain rfl := Option.some.inj hm
                        exact ⟨rfl, H.reads (fun r hr => hs45 r hr)⟩
          · rw [if_f hb27] at hm
            refine st_no E (wf' E rfl rfl rfl rfl hb27 rfl) rfl rfl ?_
            clear E; clear a; intro a E
            refine st_no E (wf' E rfl rfl rfl rfl hb27 rfl) rfl rfl ?_
            clear E; clear a; intro a E
            refine st_no E (wf' E rfl rfl rfl rfl hb27 rfl) rfl rfl ?_
            clear E; clear a; intro a E
            refine st_val E (wn rfl) rfl rfl (x_pickF E rfl rfl hb27 rfl) ?_
            clear E; clear a; intro a E
            refine wpList_nil ?_
            refine q_then ?_
            refine wp_cond_false (E.eval rfl) ?_
            refine wp_exit ?_
            refine q_thenX ?_
            refine q_thenX ?_
            refine q_hit ?_
            refine q_then ?_
            refine wp_seq ?_
            refine wp_region_lit ?_
            refine st_val E (wn rfl) rfl rfl (x_move E rfl rfl) ?_
            clear E; clear a; intro a E
            replace H : Sep w (Blk p16 91 [v19, .int .i64 x21] :: Fo) (rs22) := H
            obtain ⟨u72, hx73, hm⟩ := bnd hm
            refine st_call E (wn rfl) rfl rfl (x_call E rfl rfl (cf31 _)) (c_pack_Reader_Err p16 v19 l20 x21 H hr26 hx73) ?_
            clear E H; clear a; clear w; rintro _ w ⟨rfl, H⟩ a E
            refine st_val E (wn rfl) rfl rfl (x_assign E rfl rfl) ?_
            clear E; clear a; intro a E
            refine wpList_nil ?_
            refine q_then ?_
            refine wp_seq ?_
            refine wp_seq_cut (fun a w => ∃ (b74 : Bool) (rs75 : List Rp), Env 83 a [(1, v3), (5, .bool u7), (6, .pointer (some ⟨p16, 0, none⟩)), (8, .int .i64 x21), (48, .bool b74)] ∧ Sep w (Blk p16 91 [v19, .int .i64 x21] :: Fo) rs75 ∧ (∀ r, r ∈ rs → r ∈ rs75) ∧ rSl k_cantonlaw02_Item v3 l4 ∈ rs75 ∧ rSl (kI .u8) v19 l20 ∈ rs75 ∧ m_cantonlaw02_PackStays_j4 l4 x21 u7 l20 b74 = some r) ?_ ?_
            · refine wp_region_lit ?_
              refine st_val E (wn rfl) rfl rfl (x_move E rfl rfl) ?_
              clear E; clear a; intro a E
              refine st_val E (wn rfl) rfl rfl (x_bin E rfl rfl rfl rfl) ?_
              clear E; clear a; intro a E
              refine st_val E (wn rfl) rfl rfl (x_move E rfl rfl) ?_
              clear E; clear a; intro a E
              rcases Bool.eq_false_or_eq_true (x21 != 21) with hb110 | hb110
              · rw [if_t hb110] at hm
                refine st_val E (ws' E rfl rfl rfl rfl hb110) rfl rfl (x_move E rfl rfl) ?_
                clear E; clear a; intro a E
                refine st_val E (ws' E rfl rfl rfl rfl hb110) rfl rfl (x_bin E rfl rfl rfl rfl) ?_
                clear E; clear a; intro a E
                refine st_val E (wn rfl) rfl rfl (x_pickT E rfl rfl hb110 rfl) ?_
                clear E; clear a; intro a E
                refine wpList_nil ?_
                refine q_then ?_
                exact ⟨x21 != 3, _, (((((E.nil.keep E 48 rfl).keep E 8 rfl).keep E 6 rfl).keep E 5 rfl).keep E 1 rfl), H, hs23, hr25, hr26, hm⟩
              · rw [if_f hb110] at hm
                refine st_no E (wf' E rfl rfl rfl rfl hb110 rfl) rfl rfl ?_
                clear E; clear a; intro a E
                refine st_no E (wf' E rfl rfl rfl rfl hb110 rfl) rfl rfl ?_
                clear E; clear a; intro a E
                refine st_val E (wn rfl) rfl rfl (x_pickF E rfl rfl hb110 rfl) ?_
                clear E; clear a; intro a E
                refine wpList_nil ?_
                refine q_then ?_
                exact ⟨false, _, (((((E.nil.keep E 48 rfl).keep E 8 rfl).keep E 6 rfl).keep E 5 rfl).keep E 1 rfl), H, hs23, hr25, hr26, hm⟩
            · clear E H hm
              rintro a w ⟨b74, rs75, E, H, hs76, hr77, hr78, hm⟩
              unfold m_cantonlaw02_PackStays_j4 at hm
              refine wp_if E rfl ?_ ?_
              · intro hb
                rw [if_t hb] at hm
                clear hb
                refine wp_seq ?_
                refine wp_region_lit ?_
                refine st_val E (wn rfl) rfl rfl (x_assign E rfl rfl) ?_
                clear E; clear a; intro a E
                refine wpList_nil ?_
                refine q_then ?_
                refine wp_ret ?_
                refine q_thenR ?_
                refine out1 E rfl rfl ?_
                replace H := H.drop 0
                obtain rfl := Option.some.inj hm
                exact ⟨rfl, H.reads (fun r hr => hs76 r hr)⟩
              · intro hb
                rw [if_f hb] at hm
                clear hb
                refine wp_skip ?_
                refine q_then ?_
                refine wp_seq ?_
                refine wp_seq ?_
                refine wp_region_lit ?_
                refine st_val E (wn rfl) rfl rfl (x_assign E rfl rfl) ?_
                clear E; clear a; intro a E
                refine wpList_nil ?_
                refine q_then ?_
                refine wp_block ?_
                refine wp_loop_g (fun k3 a w => ∃ (v80 : Value) (x79 : Int) (l81 : (List Int)) (x82 : Int) (rs83 : List Rp), Env 83 a [(1, v3), (5, .bool u7), (6, .pointer (some ⟨p16, 0, none⟩)), (8, .int .i64 x21), (9, .int .i64 x79)] ∧ Sep w (Blk p16 91 [v80, .int .i64 x82] :: Fo) rs83 ∧ (∀ r, r ∈ rs → r ∈ rs83) ∧ rSl k_cantonlaw02_Item v3 l4 ∈ rs83 ∧ rSl (kI .u8) v80 l81 ∈ rs83 ∧ m_cantonlaw02_PackStays_l3 l4 x21 u7 k3 x79 l81 x82 = some r) (((l4.length : Int) - 0 : Int).toNat + 1) ?_ ?_
                · exact ⟨v19, 0, l20, x21, _, (((((E.nil.keep E 9 rfl).keep E 8 rfl).keep E 6 rfl).keep E 5 rfl).keep E 1 rfl), H, hs76, hr77, hr78, hm⟩
                · clear E H hm
                  rintro k3 a w ⟨v80, x79, l81, x82, rs83, E, H, hs84, hr85, hr86, hm⟩
                  cases k3 with
                  | zero => exact (none_some hm rfl).elim
                  | succ k3 =>
                    unfold m_cantonlaw02_PackStays_l3 at hm
                    refine wp_seq ?_
                    refine wp_seq ?_
                    refine wp_region_lit ?_
                    refine st_val E (wn rfl) rfl rfl (x_move E rfl rfl) ?_
                    clear E; clear a; intro a E
                    refine st_val E (wn rfl) rfl rfl (x_move E rfl rfl) ?_
                    clear E; clear a; intro a E
                    refine st_val E (wn rfl) rfl rfl (x_lenS E H rfl rfl hr85 Try.underlying63) ?_
                    clear E; clear a; intro a E
                    refine st_val E (wn rfl) rfl rfl (x_bin E rfl rfl rfl rfl) ?_
                    clear E; clear a; intro a E
                    refine wpList_nil ?_
                    refine q_then ?_
                    refine wp_if E rfl ?_ ?_
                    · intro hb
                      rw [if_t hb] at hm
                      clear hb
                      refine wp_skip ?_
                      refine q_then ?_
                      refine wp_seq ?_
                      refine wp_block ?_
                      refine wp_seq ?_
                      refine wp_region_lit ?_
                      refine st_val E (wn rfl) rfl rfl (x_move E rfl rfl) ?_
                      clear E; clear a; intro a E
                      replace H : Sep w (Blk p16 91 [v80, .int .i64 x82] :: Fo) (rs83) := H
                      obtain ⟨u87, hx88, hm⟩ := bnd hm
                      refine st_call E (wn rfl) rfl rfl (x_call E rfl rfl (cf32 _)) (c_pack_Reader_Num p16 v80 l81 x82 281474976710656 H hr86 hx88) ?_
                      clear E H; clear a; clear w; rintro _ w ⟨v89, rfl, H⟩ a E
                      refine st_val E (wn rfl) rfl rfl (x_assign E rfl rfl) ?_
                      clear E; clear a; intro a E
                      refine wpList_nil ?_
                      refine q_then ?_
                      refine wp_seq ?_
                      refine wp_region_lit ?_
                      refine st_val E (wn rfl) rfl rfl (x_move E rfl rfl) ?_
                      clear E; clear a; intro a E
                      replace H : Sep w (Blk p16 91 [v89, .int .i64 u87.2.2] :: Fo) (rSl (kI .u8) v89 u87.2.1 :: rs83) := H
                      obtain ⟨u90, hx91, hm⟩ := bnd hm
                      refine st_call E (wn rfl) rfl rfl (x_call E rfl rfl (cf36 _)) (c_pack_Reader_Text p16 v89 u87.2.1 u87.2.2 H (.head _) hx91) ?_
                      clear E H; clear a; clear w; rintro _ w ⟨v92, rfl, H⟩ a E
                      refine st_val E (wn rfl) rfl rfl (x_assign E rfl rfl) ?_
                      clear E; clear a; intro a E
                      refine wpList_nil ?_
                      refine q_then ?_
                      refine wp_seq ?_
                      refine wp_region_lit ?_
                      refine st_val E (wn rfl) rfl rfl (x_move E rfl rfl) ?_
                      clear E; clear a; intro a E
                      replace H : Sep w (Blk p16 91 [v92, .int .i64 u90.2.2] :: Fo) (rSl (kI .u8) v92 u90.2.1 :: rSl (kI .u8) v89 u87.2.1 :: rs83) := H
                      obtain ⟨u93, hx94, hm⟩ := bnd hm
                      refine st_call E (wn rfl) rfl rfl (x_call E rfl rfl (cf46 _)) (c_pack_Reader_Texts p16 v92 u90.2.1 u90.2.2 H (.head _) hx94) ?_
                      clear E H; clear a; clear w; rintro _ w ⟨v95, v96, rfl, H⟩ a E
                      refine st_val E (wn rfl) rfl rfl (x_assign E rfl rfl) ?_
                      clear E; clear a; intro a E
                      refine wpList_nil ?_
                      refine q_then ?_
                      refine wp_seq_cut (fun a w => ∃ (b97 : Bool) (rs98 : List Rp), Env 83 a [(1, v3), (5, .bool u7), (6, .pointer (some ⟨p16, 0, none⟩)), (8, .int .i64 x21), (9, .int .i64 x79), (81, .bool b97)] ∧ Sep w (Blk p16 91 [v96, .int .i64 u93.2.2] :: Fo) rs98 ∧ (∀ r, r ∈ rs → r ∈ rs98) ∧ rSl k_cantonlaw02_Item v3 l4 ∈ rs98 ∧ rSl (kI .u8) v96 u93.2.1 ∈ rs98 ∧ m_cantonlaw02_PackStays_j5 (m_cantonlaw02_PackStays_l3 l4 x21 u7 k3) x79 u93 b97 = some r) ?_ ?_
                      · refine wp_region_lit ?_
                        refine st_val E (wn rfl) rfl rfl (x_move E rfl rfl) ?_
                        clear E; clear a; intro a E
                        refine st_val E (wn rfl) rfl rfl (x_bin E rfl rfl rfl rfl) ?_
                        clear E; clear a; intro a E
                        refine st_val E (wn rfl) rfl rfl (x_move E rfl rfl) ?_
                        clear E; clear a; intro a E
                        rcases Bool.eq_false_or_eq_true (u87.1 != 0) with hb102 | hb102
                        · rw [if_t hb102] at hm
                          refine st_no E (wf' E rfl rfl rfl rfl hb102 rfl) rfl rfl ?_
                          clear E; clear a; intro a E
                          refine st_no E (wf' E rfl rfl rfl rfl hb102 rfl) rfl rfl ?_
                          clear E; clear a; intro a E
                          refine st_val E (wn rfl) rfl rfl (x_pickT E rfl rfl hb102 rfl) ?_
                          clear E; clear a; intro a E
                          refine st_val E (wn rfl) rfl rfl (x_move E rfl rfl) ?_
                          clear E; clear a; intro a E
                          refine st_no E (wf E rfl rfl rfl rfl rfl) rfl rfl ?_
                          clear E; clear a; intro a E
                          refine st_no E (wf E rfl rfl rfl rfl rfl) rfl rfl ?_
                          clear E; clear a; intro a E
                          refine st_no E (wf E rfl rfl rfl rfl rfl) rfl rfl ?_
                          clear E; clear a; intro a E
                          refine st_val E (wn rfl) rfl rfl (x_pickT E rfl rfl rfl rfl) ?_
                          clear E; clear a; intro a E
                          refine st_val E (wn rfl) rfl rfl (x_move E rfl rfl) ?_
                          clear E; clear a; intro a E
                          refine st_no E (wf E rfl rfl rfl rfl rfl) rfl rfl ?_
                          clear E; clear a; intro a E
                          refine st_no E (wf E rfl rfl rfl rfl rfl) rfl rfl ?_
                          clear E; clear a; intro a E
                          refine st_no E (wf E rfl rfl rfl rfl rfl) rfl rfl ?_
                          clear E; clear a; intro a E
                          refine st_no E (wf E rfl rfl rfl rfl rfl) rfl rfl ?_
                          clear E; clear a; intro a E
                          refine st_val E (wn rfl) rfl rfl (x_pickT E rfl rfl rfl rfl) ?_
                          clear E; clear a; intro a E
                          refine st_val E (wn rfl) rfl rfl (x_move E rfl rfl) ?_
                          clear E; clear a; intro a E
                          refine st_no E (wf E rfl rfl rfl rfl rfl) rfl rfl ?_
                          clear E; clear a; intro a E
                          refine st_no E (wf E rfl rfl rfl rfl rfl) rfl rfl ?_
                          clear E; clear a; intro a E
                          refine st_val E (wn rfl) rfl rfl (x_pickT E rfl rfl rfl rfl) ?_
                          clear E; clear a; intro a E
                          refine wpList_nil ?_
                          refine q_then ?_
                          replace H := H.drop 0
                          exact ⟨true, _, ((((((E.nil.keep E 81 rfl).keep E 9 rfl).keep E 8 rfl).keep E 6 rfl).keep E 5 rfl).keep E 1 rfl), H, fun r hr => .tail _ (.tail _ (.tail _ (hs84 r hr))), (.tail _ (.tail _ (.tail _ hr85))), (.head _), hm⟩
                        · rw [if_f hb102] at hm
                          refine st_val E (ws' E rfl rfl rfl rfl hb102) rfl rfl (x_move E rfl rfl) ?_
                          clear E; clear a; intro a E
                          refine st_val E (ws' E rfl rfl rfl rfl hb102) rfl rfl (x_str E rfl rfl rfl rfl) ?_
                          clear E; clear a; intro a E
                          refine st_val E (wn rfl) rfl rfl (x_pickF E rfl rfl hb102 rfl) ?_
                          clear E; clear a; intro a E
                          refine st_val E (wn rfl) rfl rfl (x_move E rfl rfl) ?_
                          clear E; clear a; intro a E
                          rcases Bool.eq_false_or_eq_true (!(sEq u90.1 (⟨#[]⟩))) with hb103 | hb103
                          · rw [if_t hb103] at hm
                            refine st_no E (wf' E rfl rfl rfl rfl hb103 rfl) rfl rfl ?_
                            clear E; clear a; intro a E
                            refine st_no E (wf' E rfl rfl rfl rfl hb103 rfl) rfl rfl ?_
                            clear E; clear a; intro a E
                            refine st_no E (wf' E rfl rfl rfl rfl hb103 rfl) rfl rfl ?_
                            clear E; clear a; intro a E
                            refine st_val E (wn rfl) rfl rfl (x_pickT E rfl rfl hb103 rfl) ?_
                            clear E; clear a; intro a E
                            refine st_val E (wn rfl) rfl rfl (x_move E rfl rfl) ?_
                            clear E; clear a; intro a E
                            refine st_no E (wf E rfl rfl rfl rfl rfl) rfl rfl ?_
                            clear E; clear a; intro a E
                            refine st_no E (wf E rfl rfl rfl rfl rfl) rfl rfl ?_
                            clear E; clear a; intro a E
                            refine st_no E (wf E rfl rfl rfl rfl rfl) rfl rfl ?_
                            clear E; clear a; intro a E
                            refine st_no E (wf E rfl rfl rfl rfl rfl) rfl rfl ?_
                            clear E; clear a; intro a E
                            refine st_val E (wn rfl) rfl rfl (x_pickT E rfl rfl rfl rfl) ?_
                            clear E; clear a; intro a E
                            refine st_val E (wn rfl) rfl rfl (x_move E rfl rfl) ?_
                            clear E; clear a; intro a E
                            refine st_no E (wf E rfl rfl rfl rfl rfl) rfl rfl ?_
                            clear E; clear a; intro a E
                            refine st_no E (wf E rfl rfl rfl rfl rfl) rfl rfl ?_
                            clear E; clear a; intro a E
                            refine st_val E (wn rfl) rfl rfl (x_pickT E rfl rfl rfl rfl) ?_
                            clear E; clear a; intro a E
                            refine wpList_nil ?_
                            refine q_then ?_
                            replace H := H.drop 0
                            exact ⟨true, _, ((((((E.nil.keep E 81 rfl).keep E 9 rfl).keep E 8 rfl).keep E 6 rfl).keep E 5 rfl).keep E 1 rfl), H, fun r hr => .tail _ (.tail _ (.tail _ (hs84 r hr))), (.tail _ (.tail _ (.tail _ hr85))), (.head _), hm⟩
                          · rw [if_f hb103] at hm
                            refine st_val E (ws' E rfl rfl rfl rfl hb103) rfl rfl (x_move E rfl rfl) ?_
                            clear E; clear a; intro a E
                            refine st_val E (ws' E rfl rfl rfl rfl hb103) rfl rfl (x_lenR (i := 0) E H rfl rfl rfl Try.underlying68) ?_
                            clear E; clear a; intro a E
                            refine st_val E (ws' E rfl rfl rfl rfl hb103) rfl rfl (x_bin E rfl rfl rfl rfl) ?_
                            clear E; clear a; intro a E
                            refine st_val E (wn rfl) rfl rfl (x_pickF E rfl rfl hb103 rfl) ?_
                            clear E; clear a; intro a E
                            refine st_val E (wn rfl) rfl rfl (x_move E rfl rfl) ?_
                            clear E; clear a; intro a E
                            rcases Bool.eq_false_or_eq_true ((u93.1.length : Int) != 0) with hb104 | hb104
                            · rw [if_t hb104] at hm
                              refine st_no E (wf' E rfl rfl rfl rfl hb104 rfl) rfl rfl ?_
                              clear E; clear a; intro a E
                              refine st_no E (wf' E rfl rfl rfl rfl hb104 rfl) rfl rfl ?_
                              clear E; clear a; intro a E
                              refine st_no E (wf' E rfl rfl rfl rfl hb104 rfl) rfl rfl ?_
                              clear E; clear a; intro a E
                              refine st_no E (wf' E rfl rfl rfl rfl hb104 rfl) rfl rfl ?_
                              clear E; clear a; intro a E
                              refine st_val E (wn rfl) rfl rfl (x_pickT E rfl rfl hb104 rfl) ?_
                              clear E; clear a; intro a E
                              refine st_val E (wn rfl) rfl rfl (x_move E rfl rfl) ?_
                              clear E; clear a; intro a E
                              refine st_no E (wf E rfl rfl rfl rfl rfl) rfl rfl ?_
                              clear E; clear a; intro a E
                              refine st_no E (wf E rfl rfl rfl rfl rfl) rfl rfl ?_
                              clear E; clear a; intro a E
                              refine st_val E (wn rfl) rfl rfl (x_pickT E rfl rfl rfl rfl) ?_
                              clear E; clear a; intro a E
                              refine wpList_nil ?_
                              refine q_then ?_
                              replace H := H.drop 0
                              exact ⟨true, _, ((((((E.nil.keep E 81 rfl).keep E 9 rfl).keep E 8 rfl).keep E 6 rfl).keep E 5 rfl).keep E 1 rfl), H, fun r hr => .tail _ (.tail _ (.tail _ (hs84 r hr))), (.tail _ (.tail _ (.tail _ hr85))), (.head _), hm⟩
                            · rw [if_f hb104] at hm
                              refine st_val E (ws' E rfl rfl rfl rfl hb104) rfl rfl (x_move E rfl rfl) ?_
                              clear E; clear a; intro a E
                              replace H := H.front 0 rfl
                              replace H := H.front 1 rfl
                              replace H : Sep w (Blk p16 91 [v96, .int .i64 u93.2.2] :: Row 9 kS v95 u93.1 :: Fo) (rSl (kI .u8) v96 u93.2.1 :: rSl (kI .u8) v92 u90.2.1 :: rSl (kI .u8) v89 u87.2.1 :: rs83) := H
                              obtain ⟨u105, hx106, hm⟩ := bnd hm
                              refine st_call E (ws' E rfl rfl rfl rfl hb104) rfl rfl (x_call E rfl rfl (cf31 _)) (c_pack_Reader_Err p16 v96 u93.2.1 u93.2.2 H (.head _) hx106) ?_
                              clear E H; clear a; clear w; rintro _ w ⟨rfl, H⟩ a E
                              refine st_val E (ws' E rfl rfl rfl rfl hb104) rfl rfl (x_move E rfl rfl) ?_
                              clear E; clear a; intro a E
                              refine st_val E (ws' E rfl rfl rfl rfl hb104) rfl rfl (x_bin E rfl rfl rfl rfl) ?_
                              clear E; clear a; intro a E
                              refine st_val E (wn rfl) rfl rfl (x_pickF E rfl rfl hb104 rfl) ?_
                              clear E; clear a; intro a E
                              refine st_val E (wn rfl) rfl rfl (x_move E rfl rfl) ?_
                              clear E; clear a; intro a E
                              rcases Bool.eq_false_or_eq_true (u93.2.2 != x21) with hb107 | hb107
                              · rw [if_t hb107] at hm
                                refine st_no E (wf' E rfl rfl rfl rfl hb107 rfl) rfl rfl ?_
                                clear E; clear a; intro a E
                                refine st_no E (wf' E rfl rfl rfl rfl hb107 rfl) rfl rfl ?_
                                clear E; clear a; intro a E
                                refine st_val E (wn rfl) rfl rfl (x_pickT E rfl rfl hb107 rfl) ?_
                                clear E; clear a; intro a E
                                refine wpList_nil ?_
                                refine q_then ?_
                                replace H := H.drop 1
                                exact ⟨true, _, ((((((E.nil.keep E 81 rfl).keep E 9 rfl).keep E 8 rfl).keep E 6 rfl).keep E 5 rfl).keep E 1 rfl), H, fun r hr => .tail _ (.tail _ (.tail _ (hs84 r hr))), (.tail _ (.tail _ (.tail _ hr85))), (.head _), hm⟩
                              · rw [if_f hb107] at hm
                                refine st_val E (ws' E rfl rfl rfl rfl hb107) rfl rfl (x_move E rfl rfl) ?_
                                clear E; clear a; intro a E
                                replace H : Sep w (Blk p16 91 [v96, .int .i64 u93.2.2] :: Row 9 kS v95 u93.1 :: Fo) (rSl (kI .u8) v96 u93.2.1 :: rSl (kI .u8) v92 u90.2.1 :: rSl (kI .u8) v89 u87.2.1 :: rs83) := H
                                obtain ⟨u108, hx109, hm⟩ := bnd hm
                                refine st_call E (ws' E rfl rfl rfl rfl hb107) rfl rfl (x_call E rfl rfl (cf30 _)) (c_pack_Reader_End p16 v96 u93.2.1 u93.2.2 H (.head _) hx109) ?_
                                clear E H; clear a; clear w; rintro _ w ⟨rfl, H⟩ a E
                                refine st_val E (wn rfl) rfl rfl (x_pickF E rfl rfl hb107 rfl) ?_
                                clear E; clear a; intro a E
                                refine wpList_nil ?_
                                refine q_then ?_
                                replace H := H.drop 1
                                exact ⟨u108, _, ((((((E.nil.keep E 81 rfl).keep E 9 rfl).keep E 8 rfl).keep E 6 rfl).keep E 5 rfl).keep E 1 rfl), H, fun r hr => .tail _ (.tail _ (.tail _ (hs84 r hr))), (.tail _ (.tail _ (.tail _ hr85))), (.head _), hm⟩
                      · clear E H hm
                        rintro a w ⟨b97, rs98, E, H, hs99, hr100, hr101, hm⟩
                        unfold m_cantonlaw02_PackStays_j5 at hm
                        refine wp_if E rfl ?_ ?_
                        · intro hb
                          rw [if_t hb] at hm
                          clear hb
                          refine wp_seq ?_
                          refine wp_region_lit ?_
                          refine st_val E (wn rfl) rfl rfl (x_assign E rfl rfl) ?_
                          clear E; clear a; intro a E
                          refine wpList_nil ?_
                          refine q_then ?_
                          refine wp_ret ?_
                          refine q_blkR ?_
                          refine q_thenR ?_
                          refine q_thenR ?_
                          refine q_blkR ?_
                          refine q_thenR ?_
                          refine out1 E rfl rfl ?_
                          replace H := H.drop 0
                          obtain rfl := Option.some.inj hm
                          exact ⟨rfl, H.reads (fun r hr => hs99 r hr)⟩
                        · intro hb
                          rw [if_f hb] at hm
                          clear hb
                          refine wp_skip ?_
                          refine q_blk ?_
                          refine q_then ?_
                          refine wp_region_lit ?_
                          refine st_val E (wn rfl) rfl rfl (x_move E rfl rfl) ?_
                          clear E; clear a; intro a E
                          refine st_val E (wn rfl) rfl rfl (x_bin E rfl rfl rfl rfl) ?_
                          clear E; clear a; intro a E
                          refine st_val E (wn rfl) rfl rfl (x_assign E rfl rfl) ?_
                          clear E; clear a; intro a E
                          refine wpList_nil ?_
                          refine q_then ?_
                          exact ⟨k3, Nat.lt_succ_self k3, v96, IntKind.i64.wrap (x79 + 1), u93.2.1, u93.2.2, _, (((((E.nil.keep E 9 rfl).keep E 8 rfl).keep E 6 rfl).keep E 5 rfl).keep E 1 rfl), H, hs99, hr100, hr101, hm⟩
                    · intro hb
                      rw [if_f hb] at hm
                      clear hb
                      refine wp_exit ?_
                      refine q_thenX ?_
                      refine q_thenX ?_
                      refine q_hit ?_
                      refine q_then ?_
                      refine wp_seq ?_
                      refine wp_region_lit ?_
                      refine st_val E (wn rfl) rfl rfl (x_move E rfl rfl) ?_
                      clear E; clear a; intro a E
                      refine st_val E (wn rfl) rfl rfl (x_assign E rfl rfl) ?_
                      clear E; clear a; intro a E
                      refine wpList_nil ?_
                      refine q_then ?_
                      refine wp_ret ?_
                      refine out1 E rfl rfl ?_
                      replace H := H.drop 0
                      obtain rfl := Option.some.inj hm
                      exact ⟨rfl, H.reads (fun r hr => hs84 r hr)⟩
end Go.Cb
