/- A function of the program, walked: it comes to its plain function. -/
import Derived.Test.YtbjpjbopfhbkmaaT
import Derived.Test.YtbjpjbopfhbkmaaO8
import Derived.Test.YtbjpjbopfhbkmaaFcantonlaw19head
import Derived.Test.YtbjpjbopfhbkmaaFcantonref19Same
set_option linter.unusedVariables false
set_option linter.unusedSimpArgs false
namespace Go.Cb
open Go.Proofs Go.RowKit
def m_cantonlaw19_PostDoubles_l2 (x4 : Int) (x3 : Int) (l2 : List S_api_Mail) (u6 : Bool) : Nat → (List S_api_Mail) → Int → (List S_api_Mail) → Option Bool
  | 0, _, _, _ => none
  | k2 + 1, l34, x35, x36 =>
    if (decide (x35 < (IntKind.i64.wrap (x4.tmod 30)))) = true then ((post_mDouble x36 ((IntKind.i64.wrap x3).tmod (l2.length : Int))).bind fun u40 => if (!u40.1) = true then (some (false)) else ((idx l2 ((IntKind.i64.wrap x3).tmod (l2.length : Int))).bind fun x42 => (ck (l34.length + ([x42] : List S_api_Mail).length ≤ LIM)).bind fun u48 => m_cantonlaw19_PostDoubles_l2 x4 x3 l2 u6 k2 (l34 ++ ([x42] : List S_api_Mail)) (IntKind.i64.wrap (x35 + 1)) u40.2)) else (if u6 = true then ((m_cantonref19_Same x36 l34).bind fun u52 => some (u52)) else (some (false)))
def m_cantonlaw19_PostDoubles_l1 (x4 : Int) (x3 : Int) (l2 : List S_api_Mail) (u6 : Bool) : Nat → Int → (List S_api_Mail) → Option Bool
  | 0, _, _ => none
  | k1 + 1, x13, x14 =>
    if (decide (x13 < (l2.length : Int))) = true then ((idx l2 x13).bind fun x18 => if (decide ((x18.Data.size : Int) > 1000)) = true then (some (u6)) else ((idx l2 x13).bind fun x21 => (post_mPut x14 x21).bind fun u25 => m_cantonlaw19_PostDoubles_l1 x4 x3 l2 u6 k1 (IntKind.i64.wrap (x13 + 1)) u25.2)) else ((ck ((l2.length : Int) ≠ 0)).bind fun u28 => (ck (([] : List S_api_Mail).length + l2.length ≤ LIM)).bind fun u31 => m_cantonlaw19_PostDoubles_l2 x4 x3 l2 u6 (((IntKind.i64.wrap (x4.tmod 30)) - 0 : Int).toNat + 1) (([] : List S_api_Mail) ++ l2) 0 x14)
def m_cantonlaw19_PostDoubles_j1 (x4 : Int) (x3 : Int) (l2 : List S_api_Mail) (u6 : Bool) (b9 : Bool) : Option Bool :=
  if b9 = true then (some (u6)) else (m_cantonlaw19_PostDoubles_l1 x4 x3 l2 u6 (((l2.length : Int) - 0 : Int).toNat + 1) 0 ([] : List S_api_Mail))
def m_cantonlaw19_PostDoubles (l2 : List S_api_Mail) (x3 : Int) (x4 : Int) : Option Bool :=
  m_cantonlaw19_head.bind fun u6 => if (decide ((l2.length : Int) > 50)) = true then (m_cantonlaw19_PostDoubles_j1 x4 x3 l2 u6 true) else (m_cantonlaw19_PostDoubles_j1 x4 x3 l2 u6 ((l2.length : Int) == 0))
set_option maxRecDepth 20000 in
set_option maxHeartbeats 1000000 in
theorem c_cantonlaw19_PostDoubles {w : World} {Fo : List Ob} {rs : List Rp} (v1 : Value) (l2 : List S_api_Mail) (x3 : Int) (x4 : Int) (H : Sep w (Fo) rs) (hr5 : rSl k_api_Mail v1 l2 ∈ rs) {r : Bool} (hm : m_cantonlaw19_PostDoubles l2 x3 x4 = some r) :
    Calls Try.prog 6 [v1, .int .u8 x3, .int .u8 x4].toArray w (Ret fun v w' => .bool r = v ∧ Sep w' (Fo) (rs)) := by
 unfold m_cantonlaw19_PostDoubles at hm
 refine enter Try.func6 rfl Try.ntmps6 rfl fun a E => ?_
 simp only [enum, Nat.reduceAdd] at E
 refine wp_seq ?_
 refine wp_region_lit ?_
 refine sv E rfl rfl rfl (x_assign E rfl rfl) ?_
 clear a E;intro a E
 refine wpList_nil ?_
 refine q_then ?_
 refine wp_seq ?_
 refine wp_region_lit ?_
 obtain ⟨u6, hx7, hm⟩ := bnd hm
 refine st_call E (wn rfl) rfl rfl (x_call E rfl rfl (cf14 _)) (c_cantonlaw19_head H hx7) ?_
 clear E H; clear a; clear w; rintro _ w ⟨rfl, H⟩ a E
 refine sv E rfl rfl rfl (x_assign E rfl rfl) ?_
 clear a E;intro a E
 refine wpList_nil ?_
 refine q_then ?_
 refine wp_seq ?_
 refine wp_region_lit ?_
 refine st_call E (wn rfl) rfl rfl (x_call E rfl rfl (cf15 _)) (post_New H) ?_
 clear E H; clear a; clear w; rintro _ w ⟨p8, rfl, H⟩ a E
 refine sv E rfl rfl rfl (x_assign E rfl rfl) ?_
 clear a E;intro a E
 refine wpList_nil ?_
 refine q_then ?_
 refine wp_seq ?_
 refine wp_seq_cut (fun a w => ∃ (b9 : Bool) (rs10 : List Rp), Env 87 a [(0, v1), (1, .int .u8 x3), (2, .int .u8 x4), (7, .bool u6), (8, .pointer (some ⟨p8, 0, none⟩)), (27, .bool b9)] ∧ Sep w (PostO p8 ([] : List S_api_Mail) :: Fo) rs10 ∧ (∀ r, r ∈ rs → r ∈ rs10) ∧ rSl k_api_Mail v1 l2 ∈ rs10 ∧ m_cantonlaw19_PostDoubles_j1 x4 x3 l2 u6 b9 = some r) ?_ ?_
 ·refine wp_region_lit ?_
  refine sv E rfl rfl rfl (x_move E rfl rfl) ?_
  clear a E;intro a E
  refine sv E rfl rfl rfl (x_bin2 E rfl rfl rfl (v := .bool false) (by kernel_rfl)) ?_
  clear a E;intro a E
  refine sv E rfl rfl rfl (x_move E rfl rfl) ?_
  clear a E;intro a E
  refine st_val E (ws E rfl rfl rfl rfl) rfl rfl (x_move E rfl rfl) ?_
  clear a E;intro a E
  refine st_val E (ws E rfl rfl rfl rfl) rfl rfl (x_lenS E H rfl rfl hr5 Try.underlying27) ?_
  clear a E;intro a E
  refine st_val E (ws E rfl rfl rfl rfl) rfl rfl (x_bin E rfl rfl rfl rfl) ?_
  clear a E;intro a E
  refine sv E rfl rfl rfl (x_pickF E rfl rfl rfl rfl) ?_
  clear a E;intro a E
  refine sv E rfl rfl rfl (x_move E rfl rfl) ?_
  clear a E;intro a E
  rcases Bool.eq_false_or_eq_true (decide ((l2.length : Int) > 50)) with hb54 | hb54
  ·rw [if_t hb54] at hm
   refine st_no E (wf' E rfl rfl rfl rfl hb54 rfl) rfl rfl ?_
   clear a E;intro a E
   refine st_no E (wf' E rfl rfl rfl rfl hb54 rfl) rfl rfl ?_
   clear a E;intro a E
   refine st_no E (wf' E rfl rfl rfl rfl hb54 rfl) rfl rfl ?_
   clear a E;intro a E
   refine sv E rfl rfl rfl (x_pickT E rfl rfl hb54 rfl) ?_
   clear a E;intro a E
   refine wpList_nil ?_
   refine q_then ?_
   exact ⟨true, _, ((((((E.nil.keep E 27 rfl).keep E 8 rfl).keep E 7 rfl).keep E 2 rfl).keep E 1 rfl).keep E 0 rfl), H, fun r hr => hr, hr5, hm⟩
  ·rw [if_f hb54] at hm
   refine st_val E (ws' E rfl rfl rfl rfl hb54) rfl rfl (x_move E rfl rfl) ?_
   clear a E;intro a E
   refine st_val E (ws' E rfl rfl rfl rfl hb54) rfl rfl (x_lenS E H rfl rfl hr5 Try.underlying27) ?_
   clear a E;intro a E
   refine st_val E (ws' E rfl rfl rfl rfl hb54) rfl rfl (x_bin E rfl rfl rfl rfl) ?_
   clear a E;intro a E
   refine sv E rfl rfl rfl (x_pickF E rfl rfl hb54 rfl) ?_
   clear a E;intro a E
   refine wpList_nil ?_
   refine q_then ?_
   exact ⟨(l2.length : Int) == 0, _, ((((((E.nil.keep E 27 rfl).keep E 8 rfl).keep E 7 rfl).keep E 2 rfl).keep E 1 rfl).keep E 0 rfl), H, fun r hr => hr, hr5, hm⟩
 ·clear E H hm
  rintro a w ⟨b9, rs10, E, H, hs11, hr12, hm⟩
  unfold m_cantonlaw19_PostDoubles_j1 at hm
  refine wp_if E rfl ?_ ?_
  ·intro hb
   rw [if_t hb] at hm
   clear hb
   refine wp_seq ?_
   refine wp_region_lit ?_
   refine sv E rfl rfl rfl (x_move E rfl rfl) ?_
   clear a E;intro a E
   refine sv E rfl rfl rfl (x_bin2 E rfl rfl rfl (v := .bool true) (by kernel_rfl)) ?_
   clear a E;intro a E
   refine sv E rfl rfl rfl (x_move E rfl rfl) ?_
   clear a E;intro a E
   refine st_val E (ws E rfl rfl rfl rfl) rfl rfl (x_move E rfl rfl) ?_
   clear a E;intro a E
   refine sv E rfl rfl rfl (x_pickT E rfl rfl rfl rfl) ?_
   clear a E;intro a E
   refine sv E rfl rfl rfl (x_assign E rfl rfl) ?_
   clear a E;intro a E
   refine wpList_nil ?_
   refine q_then ?_
   refine wp_ret ?_
   refine q_thenR ?_
   refine out1 E rfl rfl ?_
   replace H := H.drop 0
   obtain rfl := Option.some.inj hm
   exact ⟨rfl, H.reads (fun r hr => hs11 r hr)⟩
  ·intro hb
   rw [if_f hb] at hm
   clear hb
   refine wp_skip ?_
   refine q_then ?_
   refine wp_seq ?_
   refine wp_seq ?_
   refine wp_region_lit ?_
   refine sv E rfl rfl rfl (x_assign E rfl rfl) ?_
   clear a E;intro a E
   refine wpList_nil ?_
   refine q_then ?_
   refine wp_block ?_
   refine wp_loop_g (fun k1 a w => ∃ (x13 : Int) (x14 : (List S_api_Mail)) (rs15 : List Rp), Env 87 a [(0, v1), (1, .int .u8 x3), (2, .int .u8 x4), (7, .bool u6), (8, .pointer (some ⟨p8, 0, none⟩)), (9, .int .i64 x13)] ∧ Sep w (PostO p8 x14 :: Fo) rs15 ∧ (∀ r, r ∈ rs → r ∈ rs15) ∧ rSl k_api_Mail v1 l2 ∈ rs15 ∧ m_cantonlaw19_PostDoubles_l1 x4 x3 l2 u6 k1 x13 x14 = some r) (((l2.length : Int) - 0 : Int).toNat + 1) ?_ ?_
   ·exact ⟨0, ([] : List S_api_Mail), _, ((((((E.nil.keep E 9 rfl).keep E 8 rfl).keep E 7 rfl).keep E 2 rfl).keep E 1 rfl).keep E 0 rfl), H, hs11, hr12, hm⟩
   ·clear E H hm
    rintro k1 a w ⟨x13, x14, rs15, E, H, hs16, hr17, hm⟩
    cases k1 with
    | zero => exact (none_some hm rfl).elim
    | succ k1 =>
     unfold m_cantonlaw19_PostDoubles_l1 at hm
     refine wp_seq ?_
     refine wp_seq ?_
     refine wp_region_lit ?_
     refine sv E rfl rfl rfl (x_move E rfl rfl) ?_
     clear a E;intro a E
     refine sv E rfl rfl rfl (x_move E rfl rfl) ?_
     clear a E;intro a E
     refine sv E rfl rfl rfl (x_lenS E H rfl rfl hr17 Try.underlying27) ?_
     clear a E;intro a E
     refine sv E rfl rfl rfl (x_bin E rfl rfl rfl rfl) ?_
     clear a E;intro a E
     refine wpList_nil ?_
     refine q_then ?_
     refine wp_if E rfl ?_ ?_
     ·intro hb
      rw [if_t hb] at hm
      clear hb
      refine wp_skip ?_
      refine q_then ?_
      refine wp_seq ?_
      refine wp_block ?_
      refine wp_seq ?_
      refine wp_seq ?_
      refine wp_region_lit ?_
      refine sv E rfl rfl rfl (x_move E rfl rfl) ?_
      clear a E;intro a E
      refine sv E rfl rfl rfl (x_move E rfl rfl) ?_
      clear a E;intro a E
      obtain ⟨x18, hx19, hm⟩ := bnd hm
      refine st_ixS E H (wn rfl) rfl rfl rfl rfl rfl hr17 Try.underlying27 sz32 hx19 ?_
      clear E H; clear a; intro q20 a H E
      replace H := H.derive1 (.head _) (rAt kS (q20.add 2) x18.Data) (fun ok h => k_api_Mail_at2 h)
      refine sv E rfl rfl rfl (x_fa E rfl rfl (fa32_2 _ _)) ?_
      clear a E;intro a E
      refine sv E rfl rfl rfl (x_ldA E H rfl rfl (.head _) Try.underlying9 rfl) ?_
      clear a E;intro a E
      refine sv E rfl rfl rfl (x_lenStr E rfl rfl Try.underlying9) ?_
      clear a E;intro a E
      refine sv E rfl rfl rfl (x_bin E rfl rfl rfl rfl) ?_
      clear a E;intro a E
      refine wpList_nil ?_
      refine q_then ?_
      refine wp_if E rfl ?_ ?_
      ·intro hb
       rw [if_t hb] at hm
       clear hb
       refine wp_seq ?_
       refine wp_region_lit ?_
       refine sv E rfl rfl rfl (x_move E rfl rfl) ?_
       clear a E;intro a E
       refine sv E rfl rfl rfl (x_assign E rfl rfl) ?_
       clear a E;intro a E
       refine wpList_nil ?_
       refine q_then ?_
       refine wp_ret ?_
       refine q_thenR ?_
       refine q_blkR ?_
       refine q_thenR ?_
       refine q_thenR ?_
       refine q_blkR ?_
       refine q_thenR ?_
       refine out1 E rfl rfl ?_
       replace H := H.drop 0
       obtain rfl := Option.some.inj hm
       exact ⟨rfl, H.reads (fun r hr => .tail _ (.tail _ (hs16 r hr)))⟩
      ·intro hb
       rw [if_f hb] at hm
       clear hb
       refine wp_skip ?_
       refine q_then ?_
       refine wp_region_lit ?_
       refine sv E rfl rfl rfl (x_move E rfl rfl) ?_
       clear a E;intro a E
       refine sv E rfl rfl rfl (x_move E rfl rfl) ?_
       clear a E;intro a E
       refine sv E rfl rfl rfl (x_move E rfl rfl) ?_
       clear a E;intro a E
       obtain ⟨x21, hx22, hm⟩ := bnd hm
       refine st_ixS E H (wn rfl) rfl rfl rfl rfl rfl (.tail _ (.tail _ hr17)) Try.underlying27 sz32 hx22 ?_
       clear E H; clear a; intro q23 a H E
       refine st_ldN E H (wn rfl) rfl rfl rfl rfl (.head _) Try.underlying32 rfl sz32 ?_
       clear E H; clear a; intro u24 a H E
       obtain ⟨_, hcs⟩ := H.rd (.head _)
       obtain rfl := k_api_Mail_open hcs
       clear hcs
       obtain ⟨u25, hx26, hm⟩ := bnd hm
       refine st_call E (wn rfl) rfl rfl (x_call E rfl rfl (cf23 _)) (post_Put (i := 0) H rfl x21 hx26) ?_
       clear E H; clear a; clear w; rintro _ w ⟨rfl, H⟩ a E
       replace H : Sep w (PostO p8 u25.2 :: Fo) _ := H
       refine wpList_nil ?_
       refine q_blk ?_
       refine q_then ?_
       refine wp_region_lit ?_
       refine sv E rfl rfl rfl (x_move E rfl rfl) ?_
       clear a E;intro a E
       refine sv E rfl rfl rfl (x_bin E rfl rfl rfl rfl) ?_
       clear a E;intro a E
       refine sv E rfl rfl rfl (x_assign E rfl rfl) ?_
       clear a E;intro a E
       refine wpList_nil ?_
       refine q_then ?_
       exact ⟨k1, Nat.lt_succ_self k1, IntKind.i64.wrap (x13 + 1), u25.2, _, ((((((E.nil.keep E 9 rfl).keep E 8 rfl).keep E 7 rfl).keep E 2 rfl).keep E 1 rfl).keep E 0 rfl), H, fun r hr => .tail _ (.tail _ (.tail _ (.tail _ (hs16 r hr)))), (.tail _ (.tail _ (.tail _ (.tail _ hr17)))), hm⟩
     ·intro hb
      rw [if_f hb] at hm
      clear hb
      refine wp_exit ?_
      refine q_thenX ?_
      refine q_thenX ?_
      refine q_hit ?_
      refine q_then ?_
      refine wp_seq ?_
      refine wp_region_lit ?_
      refine sv E rfl rfl rfl (x_move E rfl rfl) ?_
      clear a E;intro a E
      refine sv E rfl rfl rfl (x_conv E rfl rfl (v := .int .i64 (IntKind.i64.wrap x3)) (by kernel_rfl)) ?_
      clear a E;intro a E
      refine sv E rfl rfl rfl (x_move E rfl rfl) ?_
      clear a E;intro a E
      refine sv E rfl rfl rfl (x_lenS E H rfl rfl hr17 Try.underlying27) ?_
      clear a E;intro a E
      obtain ⟨u28, hx27, hm⟩ := bnd hm
      refine sv E rfl rfl rfl (x_rem E rfl rfl rfl (ck_of hx27)) ?_
      clear a E;intro a E
      refine sv E rfl rfl rfl (x_assign E rfl rfl) ?_
      clear a E;intro a E
      refine wpList_nil ?_
      refine q_then ?_
      refine wp_seq ?_
      refine wp_region_lit ?_
      refine st_bsO (e := 32) (d := k_api_Mail) (cs := []) (xs := []) E H (wn rfl) rfl rfl (ps := []) (parts := []) rfl rfl (by kernel_rfl) rfl rfl (fun ok hr => Rows.nil _ _ _) ?_
      clear E H; clear a; clear w; intro v29 w a H E
      refine sv E rfl rfl rfl (x_move E rfl rfl) ?_
      clear a E;intro a E
      obtain ⟨u31, hx32, hm⟩ := bnd hm
      refine st_append (i := 0) E H (wn rfl) rfl rfl rfl rfl rfl rfl (src_rd hr17) Try.underlying27 inf32 rfl (ck_of hx32) rfl ?_
      clear E H; clear a; clear w; intro v30 w a H E
      refine sv E rfl rfl rfl (x_assign E rfl rfl) ?_
      clear a E;intro a E
      refine wpList_nil ?_
      refine q_then ?_
      refine wp_seq ?_
      refine wp_seq ?_
      refine wp_region_lit ?_
      refine sv E rfl rfl rfl (x_assign E rfl rfl) ?_
      clear a E;intro a E
      refine wpList_nil ?_
      refine q_then ?_
      refine wp_block ?_
      refine wp_loop_g (fun k2 a w => ∃ (v33 : Value) (l34 : (List S_api_Mail)) (x35 : Int) (x36 : (List S_api_Mail)) (rs37 : List Rp), Env 87 a [(0, v1), (2, .int .u8 x4), (7, .bool u6), (8, .pointer (some ⟨p8, 0, none⟩)), (10, .int .i64 ((IntKind.i64.wrap x3).tmod (l2.length : Int))), (11, v33), (12, .int .i64 x35)] ∧ Sep w (PostO p8 x36 :: Row 32 k_api_Mail v33 l34 :: Fo) rs37 ∧ (∀ r, r ∈ rs → r ∈ rs37) ∧ rSl k_api_Mail v1 l2 ∈ rs37 ∧ m_cantonlaw19_PostDoubles_l2 x4 x3 l2 u6 k2 l34 x35 x36 = some r) (((IntKind.i64.wrap (x4.tmod 30)) - 0 : Int).toNat + 1) ?_ ?_
      ·replace H := H.front 0 rfl
       replace H := H.front 1 rfl
       exact ⟨v30, ([] : List S_api_Mail) ++ l2, 0, x14, _, (((((((E.nil.keep E 12 rfl).keep E 11 rfl).keep E 10 rfl).keep E 8 rfl).keep E 7 rfl).keep E 2 rfl).keep E 0 rfl), H, hs16, hr17, hm⟩
      ·clear E H hm
       rintro k2 a w ⟨v33, l34, x35, x36, rs37, E, H, hs38, hr39, hm⟩
       cases k2 with
       | zero => exact (none_some hm rfl).elim
       | succ k2 =>
        unfold m_cantonlaw19_PostDoubles_l2 at hm
        refine wp_seq ?_
        refine wp_seq ?_
        refine wp_region_lit ?_
        refine sv E rfl rfl rfl (x_move E rfl rfl) ?_
        clear a E;intro a E
        refine sv E rfl rfl rfl (x_move E rfl rfl) ?_
        clear a E;intro a E
        refine sv E rfl rfl rfl (x_rem E rfl rfl rfl (by decide)) ?_
        clear a E;intro a E
        refine sv E rfl rfl rfl (x_conv E rfl rfl (v := .int .i64 (IntKind.i64.wrap (x4.tmod 30))) (by kernel_rfl)) ?_
        clear a E;intro a E
        refine sv E rfl rfl rfl (x_bin E rfl rfl rfl rfl) ?_
        clear a E;intro a E
        refine wpList_nil ?_
        refine q_then ?_
        refine wp_if E rfl ?_ ?_
        ·intro hb
         rw [if_t hb] at hm
         clear hb
         refine wp_skip ?_
         refine q_then ?_
         refine wp_seq ?_
         refine wp_block ?_
         refine wp_seq ?_
         refine wp_region_lit ?_
         refine sv E rfl rfl rfl (x_move E rfl rfl) ?_
         clear a E;intro a E
         refine sv E rfl rfl rfl (x_move E rfl rfl) ?_
         clear a E;intro a E
         obtain ⟨u40, hx41, hm⟩ := bnd hm
         refine st_call E (wn rfl) rfl rfl (x_call E rfl rfl (cf19 _)) (post_Double (i := 0) H rfl ((IntKind.i64.wrap x3).tmod (l2.length : Int)) hx41) ?_
         clear E H; clear a; clear w; rintro _ w ⟨rfl, H⟩ a E
         replace H : Sep w (PostO p8 u40.2 :: Row 32 k_api_Mail v33 l34 :: Fo) _ := H
         refine sv E rfl rfl rfl (x_assign E rfl rfl) ?_
         clear a E;intro a E
         refine wpList_nil ?_
         refine q_then ?_
         refine wp_seq ?_
         refine wp_seq ?_
         refine wp_region_lit ?_
         refine sv E rfl rfl rfl (x_move E rfl rfl) ?_
         clear a E;intro a E
         refine sv E rfl rfl rfl (x_not E rfl rfl) ?_
         clear a E;intro a E
         refine wpList_nil ?_
         refine q_then ?_
         refine wp_if E rfl ?_ ?_
         ·intro hb
          rw [if_t hb] at hm
          clear hb
          refine wp_seq ?_
          refine wp_region_lit ?_
          refine sv E rfl rfl rfl (x_assign E rfl rfl) ?_
          clear a E;intro a E
          refine wpList_nil ?_
          refine q_then ?_
          refine wp_ret ?_
          refine q_thenR ?_
          refine q_blkR ?_
          refine q_thenR ?_
          refine q_thenR ?_
          refine q_blkR ?_
          refine q_thenR ?_
          refine out1 E rfl rfl ?_
          replace H := H.drop 0
          replace H := H.drop 0
          obtain rfl := Option.some.inj hm
          exact ⟨rfl, H.reads (fun r hr => hs38 r hr)⟩
         ·intro hb
          rw [if_f hb] at hm
          clear hb
          refine wp_skip ?_
          refine q_then ?_
          refine wp_region_lit ?_
          refine sv E rfl rfl rfl (x_move E rfl rfl) ?_
          clear a E;intro a E
          refine sv E rfl rfl rfl (x_move E rfl rfl) ?_
          clear a E;intro a E
          refine sv E rfl rfl rfl (x_move E rfl rfl) ?_
          clear a E;intro a E
          obtain ⟨x42, hx43, hm⟩ := bnd hm
          refine st_ixS E H (wn rfl) rfl rfl rfl rfl rfl hr39 Try.underlying27 sz32 hx43 ?_
          clear E H; clear a; intro q44 a H E
          refine st_ldN E H (wn rfl) rfl rfl rfl rfl (.head _) Try.underlying32 rfl sz32 ?_
          clear E H; clear a; intro u45 a H E
          obtain ⟨_, hcs⟩ := H.rd (.head _)
          obtain rfl := k_api_Mail_open hcs
          clear hcs
          refine st_bsR (e := 32) (d := k_api_Mail) (cs := [.int .i64 x42.From, .int .i64 x42.To, .string x42.Data]) (xs := [x42]) E H (wn rfl) rfl rfl (ps := [(0, .tmp 77)]) (parts := [(0, .agg #[.int .i64 x42.From, .int .i64 x42.To, .string x42.Data])]) rfl (by simp only [List.map]; rw [E.eval (x := .tmp 77) (v := .agg #[.int .i64 x42.From, .int .i64 x42.To, .string x42.Data]) rfl]) (by kernel_rfl) rfl (fun ok hr => (Rows.single (d := k_api_Mail) (cs := [.int .i64 x42.From, .int .i64 x42.To, .string x42.Data]) (x := x42) k_api_Mail_mk)) ?_
          clear E H; clear a; clear w; intro v46 w a H E
          obtain ⟨u48, hx49, hm⟩ := bnd hm
          refine st_append (i := 1) E H (wn rfl) rfl rfl rfl rfl rfl rfl (src_rd (.head _)) Try.underlying27 inf32 rfl (ck_of hx49) rfl ?_
          clear E H; clear a; clear w; intro v47 w a H E
          refine sv E rfl rfl rfl (x_assign E rfl rfl) ?_
          clear a E;intro a E
          refine wpList_nil ?_
          refine q_blk ?_
          refine q_then ?_
          refine wp_region_lit ?_
          refine sv E rfl rfl rfl (x_move E rfl rfl) ?_
          clear a E;intro a E
          refine sv E rfl rfl rfl (x_bin E rfl rfl rfl rfl) ?_
          clear a E;intro a E
          refine sv E rfl rfl rfl (x_assign E rfl rfl) ?_
          clear a E;intro a E
          refine wpList_nil ?_
          refine q_then ?_
          exact ⟨k2, Nat.lt_succ_self k2, v47, l34 ++ ([x42] : List S_api_Mail), IntKind.i64.wrap (x35 + 1), u40.2, _, (((((((E.nil.keep E 12 rfl).keep E 11 rfl).keep E 10 rfl).keep E 8 rfl).keep E 7 rfl).keep E 2 rfl).keep E 0 rfl), H, fun r hr => .tail _ (.tail _ (.tail _ (hs38 r hr))), (.tail _ (.tail _ (.tail _ hr39))), hm⟩
        ·intro hb
         rw [if_f hb] at hm
         clear hb
         refine wp_exit ?_
         refine q_thenX ?_
         refine q_thenX ?_
         refine q_hit ?_
         refine q_then ?_
         refine wp_seq ?_
         refine wp_region_lit ?_
         refine sv E rfl rfl rfl (x_move E rfl rfl) ?_
         clear a E;intro a E
         refine sv E rfl rfl rfl (x_move E rfl rfl) ?_
         clear a E;intro a E
         rcases Bool.eq_false_or_eq_true u6 with hb50 | hb50
         ·rw [if_t hb50] at hm
          refine st_val E (ws' E rfl rfl rfl rfl hb50) rfl rfl (x_move E rfl rfl) ?_
          clear a E;intro a E
          refine st_call E (ws' E rfl rfl rfl rfl hb50) rfl rfl (x_call E rfl rfl (cf27 _)) (post_All (i := 0) H rfl) ?_
          clear E H; clear a; clear w; rintro v51 w H a E
          refine st_val E (ws' E rfl rfl rfl rfl hb50) rfl rfl (x_move E rfl rfl) ?_
          clear a E;intro a E
          replace H := H.thaw (i := 0) rfl
          replace H := H.thaw (i := 1) rfl
          replace H : Sep w (PostO p8 x36 :: Fo) (rSl k_api_Mail v33 l34 :: rSl k_api_Mail v51 x36 :: rs37) := H
          obtain ⟨u52, hx53, hm⟩ := bnd hm
          refine st_call E (ws' E rfl rfl rfl rfl hb50) rfl rfl (x_call E rfl rfl (cf26 _)) (c_cantonref19_Same v51 x36 v33 l34 H (.tail _ (.head _)) (.head _) hx53) ?_
          clear E H; clear a; clear w; rintro _ w ⟨rfl, H⟩ a E
          refine sv E rfl rfl rfl (x_pickT E rfl rfl hb50 rfl) ?_
          clear a E;intro a E
          refine sv E rfl rfl rfl (x_assign E rfl rfl) ?_
          clear a E;intro a E
          refine wpList_nil ?_
          refine q_then ?_
          refine wp_ret ?_
          refine out1 E rfl rfl ?_
          replace H := H.drop 0
          obtain rfl := Option.some.inj hm
          exact ⟨rfl, H.reads (fun r hr => .tail _ (.tail _ (hs38 r hr)))⟩
         ·rw [if_f hb50] at hm
          refine st_no E (wf' E rfl rfl rfl rfl hb50 rfl) rfl rfl ?_
          clear a E;intro a E
          refine st_no E (wf' E rfl rfl rfl rfl hb50 rfl) rfl rfl ?_
          clear a E;intro a E
          refine st_no E (wf' E rfl rfl rfl rfl hb50 rfl) rfl rfl ?_
          clear a E;intro a E
          refine st_no E (wf' E rfl rfl rfl rfl hb50 rfl) rfl rfl ?_
          clear a E;intro a E
          refine sv E rfl rfl rfl (x_pickF E rfl rfl hb50 rfl) ?_
          clear a E;intro a E
          refine sv E rfl rfl rfl (x_assign E rfl rfl) ?_
          clear a E;intro a E
          refine wpList_nil ?_
          refine q_then ?_
          refine wp_ret ?_
          refine out1 E rfl rfl ?_
          replace H := H.drop 0
          replace H := H.drop 0
          obtain rfl := Option.some.inj hm
          exact ⟨rfl, H.reads (fun r hr => hs38 r hr)⟩
end Go.Cb
