/- A function of the program, walked: it comes to its plain function. -/
import Derived.Test.YtbjpjbopfhbkmaaT
import Derived.Test.YtbjpjbopfhbkmaaO8
import Derived.Test.YtbjpjbopfhbkmaaFcantonlaw19head
import Derived.Test.YtbjpjbopfhbkmaaFcantonref19Same
set_option linter.unusedVariables false
set_option linter.unusedSimpArgs false
namespace Go.Cb
open Go.Proofs Go.RowKit
def m_cantonlaw19_PostKeeps_j2 (rec_2 : (List S_api_Mail) → Int → Int → Option Bool) (x31 : Int) (l36 : (List S_api_Mail)) (x37 : Int) : Option Bool :=
  rec_2 l36 x37 (IntKind.i64.wrap (x31 + 1))
def m_cantonlaw19_PostKeeps_l2 (l2 : List S_api_Mail) (x23 : Int) (x4 : Int) (x24 : (List S_api_Mail)) (u6 : Bool) : Nat → (List S_api_Mail) → Int → Int → Option Bool
  | 0, _, _, _ => none
  | k2 + 1, l29, x30, x31 =>
    if (decide (x31 < (l2.length : Int))) = true then (if (x31 == x23) = true then (m_cantonlaw19_PostKeeps_j2 (m_cantonlaw19_PostKeeps_l2 l2 x23 x4 x24 u6 k2) x31 l29 x30) else ((idx l2 x31).bind fun x41 => if (x41.To == x4) = true then (m_cantonlaw19_PostKeeps_j2 (m_cantonlaw19_PostKeeps_l2 l2 x23 x4 x24 u6 k2) x31 l29 (IntKind.i64.wrap (x30 + 1))) else ((idx l2 x31).bind fun x44 => (ck (l29.length + ([x44] : List S_api_Mail).length ≤ LIM)).bind fun u50 => m_cantonlaw19_PostKeeps_j2 (m_cantonlaw19_PostKeeps_l2 l2 x23 x4 x24 u6 k2) x31 (l29 ++ ([x44] : List S_api_Mail)) x30))) else ((post_mDrop x24 x4).bind fun u52 => if u6 = true then (if (u52.1 == x30) = true then ((m_cantonref19_Same u52.2 l29).bind fun u57 => if u57 = true then (some ((u52.2.length : Int) == (l29.length : Int))) else (some (false))) else (some (false))) else (some (false)))
def m_cantonlaw19_PostKeeps_j1 (l2 : List S_api_Mail) (x4 : Int) (u6 : Bool) (x23 : Int) (x24 : (List S_api_Mail)) : Option Bool :=
  m_cantonlaw19_PostKeeps_l2 l2 x23 x4 x24 u6 (((l2.length : Int) - 0 : Int).toNat + 1) [] 0 0
def m_cantonlaw19_PostKeeps_j3 (l2 : List S_api_Mail) (x4 : Int) (u6 : Bool) (x3 : Int) (u62 : post_RTake) (b65 : Bool) : Option Bool :=
  if b65 = true then (some (false)) else (m_cantonlaw19_PostKeeps_j1 l2 x4 u6 ((IntKind.i64.wrap x3).tmod (l2.length : Int)) u62.2)
def m_cantonlaw19_PostKeeps_l1 (l2 : List S_api_Mail) (x4 : Int) (u6 : Bool) (x3 : Int) : Nat → Int → (List S_api_Mail) → Option Bool
  | 0, _, _ => none
  | k1 + 1, x9, x10 =>
    if (decide (x9 < (l2.length : Int))) = true then ((idx l2 x9).bind fun x14 => if (decide ((x14.Data.size : Int) > 1000)) = true then (some (u6)) else ((idx l2 x9).bind fun x17 => (post_mPut x10 x17).bind fun u21 => if (!u21.1) = true then (some (false)) else (m_cantonlaw19_PostKeeps_l1 l2 x4 u6 x3 k1 (IntKind.i64.wrap (x9 + 1)) u21.2))) else (if (decide ((l2.length : Int) > 0)) = true then ((ck ((l2.length : Int) ≠ 0)).bind fun u61 => (post_mTake x10 ((IntKind.i64.wrap x3).tmod (l2.length : Int))).bind fun u62 => if (!u62.1.2) = true then (m_cantonlaw19_PostKeeps_j3 l2 x4 u6 x3 u62 true) else ((idx l2 ((IntKind.i64.wrap x3).tmod (l2.length : Int))).bind fun x71 => m_cantonlaw19_PostKeeps_j3 l2 x4 u6 x3 u62 (!((u62.1.1.From == x71.From) && ((u62.1.1.To == x71.To) && (sEq u62.1.1.Data x71.Data)))))) else (m_cantonlaw19_PostKeeps_j1 l2 x4 u6 (-1) x10))
def m_cantonlaw19_PostKeeps (l2 : List S_api_Mail) (x3 : Int) (x4 : Int) : Option Bool :=
  m_cantonlaw19_head.bind fun u6 => if (decide ((l2.length : Int) > 100)) = true then (some (u6)) else (m_cantonlaw19_PostKeeps_l1 l2 x4 u6 x3 (((l2.length : Int) - 0 : Int).toNat + 1) 0 ([] : List S_api_Mail))
set_option maxRecDepth 20000 in
set_option maxHeartbeats 1000000 in
theorem c_cantonlaw19_PostKeeps {w : World} {Fo : List Ob} {rs : List Rp} (v1 : Value) (l2 : List S_api_Mail) (x3 : Int) (x4 : Int) (H : Sep w (Fo) rs) (hr5 : rSl k_api_Mail v1 l2 ∈ rs) {r : Bool} (hm : m_cantonlaw19_PostKeeps l2 x3 x4 = some r) :
    Calls Try.prog 4 [v1, .int .u8 x3, .int .i64 x4].toArray w (Ret fun v w' => .bool r = v ∧ Sep w' (Fo) (rs)) := by
 unfold m_cantonlaw19_PostKeeps at hm
 refine enter Try.func4 rfl Try.ntmps4 rfl fun a E => ?_
 simp only [enum, Nat.reduceAdd] at E
 refine wp_seq ?_
 refine wp_region_lit ?_
 refine sv E rfl rfl rfl (x_assign E rfl rfl) ?_
 clear a E;intro a E
 refine wpList_nil ?_
 refine q_then ?_
 refine wp_seq ?_
 refine wp_region_lit ?_
 obtain ⟨u6, hx7, hm⟩ := bnd hm
 refine st_call E (wn rfl) rfl rfl (x_call E rfl rfl (cf14 _)) (c_cantonlaw19_head H hx7) ?_
 clear E H; clear a; clear w; rintro _ w ⟨rfl, H⟩ a E
 refine sv E rfl rfl rfl (x_assign E rfl rfl) ?_
 clear a E;intro a E
 refine wpList_nil ?_
 refine q_then ?_
 refine wp_seq ?_
 refine wp_region_lit ?_
 refine st_call E (wn rfl) rfl rfl (x_call E rfl rfl (cf15 _)) (post_New H) ?_
 clear E H; clear a; clear w; rintro _ w ⟨p8, rfl, H⟩ a E
 refine sv E rfl rfl rfl (x_assign E rfl rfl) ?_
 clear a E;intro a E
 refine wpList_nil ?_
 refine q_then ?_
 refine wp_seq ?_
 refine wp_seq ?_
 refine wp_region_lit ?_
 refine sv E rfl rfl rfl (x_move E rfl rfl) ?_
 clear a E;intro a E
 refine sv E rfl rfl rfl (x_bin2 E rfl rfl rfl (v := .bool false) (by kernel_rfl)) ?_
 clear a E;intro a E
 refine sv E rfl rfl rfl (x_move E rfl rfl) ?_
 clear a E;intro a E
 refine st_val E (ws E rfl rfl rfl rfl) rfl rfl (x_move E rfl rfl) ?_
 clear a E;intro a E
 refine st_val E (ws E rfl rfl rfl rfl) rfl rfl (x_lenS E H rfl rfl hr5 Try.underlying27) ?_
 clear a E;intro a E
 refine st_val E (ws E rfl rfl rfl rfl) rfl rfl (x_bin E rfl rfl rfl rfl) ?_
 clear a E;intro a E
 refine sv E rfl rfl rfl (x_pickF E rfl rfl rfl rfl) ?_
 clear a E;intro a E
 refine wpList_nil ?_
 refine q_then ?_
 refine wp_if E rfl ?_ ?_
 ·intro hb
  rw [if_t hb] at hm
  clear hb
  refine wp_seq ?_
  refine wp_region_lit ?_
  refine sv E rfl rfl rfl (x_move E rfl rfl) ?_
  clear a E;intro a E
  refine sv E rfl rfl rfl (x_bin2 E rfl rfl rfl (v := .bool true) (by kernel_rfl)) ?_
  clear a E;intro a E
  refine sv E rfl rfl rfl (x_move E rfl rfl) ?_
  clear a E;intro a E
  refine st_val E (ws E rfl rfl rfl rfl) rfl rfl (x_move E rfl rfl) ?_
  clear a E;intro a E
  refine sv E rfl rfl rfl (x_pickT E rfl rfl rfl rfl) ?_
  clear a E;intro a E
  refine sv E rfl rfl rfl (x_assign E rfl rfl) ?_
  clear a E;intro a E
  refine wpList_nil ?_
  refine q_then ?_
  refine wp_ret ?_
  refine q_thenR ?_
  refine out1 E rfl rfl ?_
  replace H := H.drop 0
  obtain rfl := Option.some.inj hm
  exact ⟨rfl, H.reads (fun r hr => hr)⟩
 ·intro hb
  rw [if_f hb] at hm
  clear hb
  refine wp_skip ?_
  refine q_then ?_
  refine wp_seq ?_
  refine wp_seq ?_
  refine wp_region_lit ?_
  refine sv E rfl rfl rfl (x_assign E rfl rfl) ?_
  clear a E;intro a E
  refine wpList_nil ?_
  refine q_then ?_
  refine wp_block ?_
  refine wp_loop_g (fun k1 a w => ∃ (x9 : Int) (x10 : (List S_api_Mail)) (rs11 : List Rp), Env 123 a [(0, v1), (1, .int .u8 x3), (2, .int .i64 x4), (7, .bool u6), (8, .pointer (some ⟨p8, 0, none⟩)), (9, .int .i64 x9)] ∧ Sep w (PostO p8 x10 :: Fo) rs11 ∧ (∀ r, r ∈ rs → r ∈ rs11) ∧ rSl k_api_Mail v1 l2 ∈ rs11 ∧ m_cantonlaw19_PostKeeps_l1 l2 x4 u6 x3 k1 x9 x10 = some r) (((l2.length : Int) - 0 : Int).toNat + 1) ?_ ?_
  ·exact ⟨0, ([] : List S_api_Mail), _, ((((((E.nil.keep E 9 rfl).keep E 8 rfl).keep E 7 rfl).keep E 2 rfl).keep E 1 rfl).keep E 0 rfl), H, fun r hr => hr, hr5, hm⟩
  ·clear E H hm
   rintro k1 a w ⟨x9, x10, rs11, E, H, hs12, hr13, hm⟩
   cases k1 with
   | zero => exact (none_some hm rfl).elim
   | succ k1 =>
    unfold m_cantonlaw19_PostKeeps_l1 at hm
    refine wp_seq ?_
    refine wp_seq ?_
    refine wp_region_lit ?_
    refine sv E rfl rfl rfl (x_move E rfl rfl) ?_
    clear a E;intro a E
    refine sv E rfl rfl rfl (x_move E rfl rfl) ?_
    clear a E;intro a E
    refine sv E rfl rfl rfl (x_lenS E H rfl rfl hr13 Try.underlying27) ?_
    clear a E;intro a E
    refine sv E rfl rfl rfl (x_bin E rfl rfl rfl rfl) ?_
    clear a E;intro a E
    refine wpList_nil ?_
    refine q_then ?_
    refine wp_if E rfl ?_ ?_
    ·intro hb
     rw [if_t hb] at hm
     clear hb
     refine wp_skip ?_
     refine q_then ?_
     refine wp_seq ?_
     refine wp_block ?_
     refine wp_seq ?_
     refine wp_seq ?_
     refine wp_region_lit ?_
     refine sv E rfl rfl rfl (x_move E rfl rfl) ?_
     clear a E;intro a E
     refine sv E rfl rfl rfl (x_move E rfl rfl) ?_
     clear a E;intro a E
     obtain ⟨x14, hx15, hm⟩ := bnd hm
     refine st_ixS E H (wn rfl) rfl rfl rfl rfl rfl hr13 Try.underlying27 sz32 hx15 ?_
     clear E H; clear a; intro q16 a H E
     replace H := H.derive1 (.head _) (rAt kS (q16.add 2) x14.Data) (fun ok h => k_api_Mail_at2 h)
     refine sv E rfl rfl rfl (x_fa E rfl rfl (fa32_2 _ _)) ?_
     clear a E;intro a E
     refine sv E rfl rfl rfl (x_ldA E H rfl rfl (.head _) Try.underlying9 rfl) ?_
     clear a E;intro a E
     refine sv E rfl rfl rfl (x_lenStr E rfl rfl Try.underlying9) ?_
     clear a E;intro a E
     refine sv E rfl rfl rfl (x_bin E rfl rfl rfl rfl) ?_
     clear a E;intro a E
     refine wpList_nil ?_
     refine q_then ?_
     refine wp_if E rfl ?_ ?_
     ·intro hb
      rw [if_t hb] at hm
      clear hb
      refine wp_seq ?_
      refine wp_region_lit ?_
      refine sv E rfl rfl rfl (x_move E rfl rfl) ?_
      clear a E;intro a E
      refine sv E rfl rfl rfl (x_assign E rfl rfl) ?_
      clear a E;intro a E
      refine wpList_nil ?_
      refine q_then ?_
      refine wp_ret ?_
      refine q_thenR ?_
      refine q_blkR ?_
      refine q_thenR ?_
      refine q_thenR ?_
      refine q_blkR ?_
      refine q_thenR ?_
      refine out1 E rfl rfl ?_
      replace H := H.drop 0
      obtain rfl := Option.some.inj hm
      exact ⟨rfl, H.reads (fun r hr => .tail _ (.tail _ (hs12 r hr)))⟩
     ·intro hb
      rw [if_f hb] at hm
      clear hb
      refine wp_skip ?_
      refine q_then ?_
      refine wp_seq ?_
      refine wp_region_lit ?_
      refine sv E rfl rfl rfl (x_move E rfl rfl) ?_
      clear a E;intro a E
      refine sv E rfl rfl rfl (x_move E rfl rfl) ?_
      clear a E;intro a E
      refine sv E rfl rfl rfl (x_move E rfl rfl) ?_
      clear a E;intro a E
      obtain ⟨x17, hx18, hm⟩ := bnd hm
      refine st_ixS E H (wn rfl) rfl rfl rfl rfl rfl (.tail _ (.tail _ hr13)) Try.underlying27 sz32 hx18 ?_
      clear E H; clear a; intro q19 a H E
      refine st_ldN E H (wn rfl) rfl rfl rfl rfl (.head _) Try.underlying32 rfl sz32 ?_
      clear E H; clear a; intro u20 a H E
      obtain ⟨_, hcs⟩ := H.rd (.head _)
      obtain rfl := k_api_Mail_open hcs
      clear hcs
      obtain ⟨u21, hx22, hm⟩ := bnd hm
      refine st_call E (wn rfl) rfl rfl (x_call E rfl rfl (cf23 _)) (post_Put (i := 0) H rfl x17 hx22) ?_
      clear E H; clear a; clear w; rintro _ w ⟨rfl, H⟩ a E
      replace H : Sep w (PostO p8 u21.2 :: Fo) _ := H
      refine sv E rfl rfl rfl (x_not E rfl rfl) ?_
      clear a E;intro a E
      refine wpList_nil ?_
      refine q_then ?_
      refine wp_if E rfl ?_ ?_
      ·intro hb
       rw [if_t hb] at hm
       clear hb
       refine wp_seq ?_
       refine wp_region_lit ?_
       refine sv E rfl rfl rfl (x_assign E rfl rfl) ?_
       clear a E;intro a E
       refine wpList_nil ?_
       refine q_then ?_
       refine wp_ret ?_
       refine q_blkR ?_
       refine q_thenR ?_
       refine q_thenR ?_
       refine q_blkR ?_
       refine q_thenR ?_
       refine out1 E rfl rfl ?_
       replace H := H.drop 0
       obtain rfl := Option.some.inj hm
       exact ⟨rfl, H.reads (fun r hr => .tail _ (.tail _ (.tail _ (.tail _ (hs12 r hr)))))⟩
      ·intro hb
       rw [if_f hb] at hm
       clear hb
       refine wp_skip ?_
       refine q_blk ?_
       refine q_then ?_
       refine wp_region_lit ?_
       refine sv E rfl rfl rfl (x_move E rfl rfl) ?_
       clear a E;intro a E
       refine sv E rfl rfl rfl (x_bin E rfl rfl rfl rfl) ?_
       clear a E;intro a E
       refine sv E rfl rfl rfl (x_assign E rfl rfl) ?_
       clear a E;intro a E
       refine wpList_nil ?_
       refine q_then ?_
       exact ⟨k1, Nat.lt_succ_self k1, IntKind.i64.wrap (x9 + 1), u21.2, _, ((((((E.nil.keep E 9 rfl).keep E 8 rfl).keep E 7 rfl).keep E 2 rfl).keep E 1 rfl).keep E 0 rfl), H, fun r hr => .tail _ (.tail _ (.tail _ (.tail _ (hs12 r hr)))), (.tail _ (.tail _ (.tail _ (.tail _ hr13)))), hm⟩
    ·intro hb
     rw [if_f hb] at hm
     clear hb
     refine wp_exit ?_
     refine q_thenX ?_
     refine q_thenX ?_
     refine q_hit ?_
     refine q_then ?_
     refine wp_seq ?_
     refine wp_region_lit ?_
     refine sv E rfl rfl rfl (x_assign E rfl rfl) ?_
     clear a E;intro a E
     refine wpList_nil ?_
     refine q_then ?_
     refine wp_seq ?_
     refine wp_region_lit ?_
     refine sv E rfl rfl rfl (x_assign E rfl rfl) ?_
     clear a E;intro a E
     refine wpList_nil ?_
     refine q_then ?_
     refine wp_seq ?_
     refine wp_region_lit ?_
     refine sv E rfl rfl rfl (x_assign E rfl rfl) ?_
     clear a E;intro a E
     refine wpList_nil ?_
     refine q_then ?_
     refine wp_seq_cut (fun a w => ∃ (x23 : Int) (x24 : (List S_api_Mail)) (rs25 : List Rp), Env 123 a [(0, v1), (2, .int .i64 x4), (7, .bool u6), (8, .pointer (some ⟨p8, 0, none⟩)), (10, .slice none 0 0), (11, .int .i64 0), (12, .int .i64 x23)] ∧ Sep w (PostO p8 x24 :: Fo) rs25 ∧ (∀ r, r ∈ rs → r ∈ rs25) ∧ rSl k_api_Mail v1 l2 ∈ rs25 ∧ m_cantonlaw19_PostKeeps_j1 l2 x4 u6 x23 x24 = some r) ?_ ?_
     ·refine wp_seq ?_
      refine wp_region_lit ?_
      refine sv E rfl rfl rfl (x_move E rfl rfl) ?_
      clear a E;intro a E
      refine sv E rfl rfl rfl (x_lenS E H rfl rfl hr13 Try.underlying27) ?_
      clear a E;intro a E
      refine sv E rfl rfl rfl (x_bin E rfl rfl rfl rfl) ?_
      clear a E;intro a E
      refine wpList_nil ?_
      refine q_then ?_
      refine wp_if E rfl ?_ ?_
      ·intro hb
       rw [if_t hb] at hm
       clear hb
       refine wp_seq ?_
       refine wp_region_lit ?_
       refine sv E rfl rfl rfl (x_move E rfl rfl) ?_
       clear a E;intro a E
       refine sv E rfl rfl rfl (x_conv E rfl rfl (v := .int .i64 (IntKind.i64.wrap x3)) (by kernel_rfl)) ?_
       clear a E;intro a E
       refine sv E rfl rfl rfl (x_move E rfl rfl) ?_
       clear a E;intro a E
       refine sv E rfl rfl rfl (x_lenS E H rfl rfl hr13 Try.underlying27) ?_
       clear a E;intro a E
       obtain ⟨u61, hx60, hm⟩ := bnd hm
       refine sv E rfl rfl rfl (x_rem E rfl rfl rfl (ck_of hx60)) ?_
       clear a E;intro a E
       refine sv E rfl rfl rfl (x_assign E rfl rfl) ?_
       clear a E;intro a E
       refine wpList_nil ?_
       refine q_then ?_
       refine wp_seq ?_
       refine wp_region_lit ?_
       refine sv E rfl rfl rfl (x_move E rfl rfl) ?_
       clear a E;intro a E
       refine sv E rfl rfl rfl (x_move E rfl rfl) ?_
       clear a E;intro a E
       obtain ⟨u62, hx63, hm⟩ := bnd hm
       refine st_call E (wn rfl) rfl rfl (x_call E rfl rfl (cf17 _)) (post_Take (i := 0) H rfl ((IntKind.i64.wrap x3).tmod (l2.length : Int)) hx63) ?_
       clear E H; clear a; clear w; rintro _ w ⟨rfl, H⟩ a E
       replace H : Sep w (PostO p8 u62.2 :: Fo) _ := H
       refine sv E rfl rfl rfl (x_move E rfl rfl) ?_
       clear a E;intro a E
       refine sv E rfl rfl rfl (x_ext E rfl rfl rfl) ?_
       clear a E;intro a E
       refine sv E rfl rfl rfl (x_ext E rfl rfl rfl) ?_
       clear a E;intro a E
       refine st_alloc E H (wn rfl) rfl rfl (cs := [.int .i64 0, .int .i64 0, .string (ByteArray.mk #[])]) rfl (z := .agg #[.int .i64 0, .int .i64 0, .string ⟨#[]⟩]) (by kernel_rfl) rfl ?_
       clear E H; clear a; clear w; intro p64 w a H E
       refine st_st (i := 0) E H (wn rfl) rfl (us := [.int .i64 u62.1.1.From, .int .i64 u62.1.1.To, .string u62.1.1.Data]) rfl rfl rfl rfl rfl sz32 rfl rfl ?_
       clear H; clear w; intro w H
       replace H : Sep w (Blk p64 32 [.int .i64 u62.1.1.From, .int .i64 u62.1.1.To, .string u62.1.1.Data] :: PostO p8 u62.2 :: Fo) _ := H
       refine sv E rfl rfl rfl (x_assign E rfl rfl) ?_
       clear a E;intro a E
       refine wpList_nil ?_
       refine q_then ?_
       refine wp_seq_cut (fun a w => ∃ (b65 : Bool) (rs66 : List Rp), Env 123 a [(0, v1), (2, .int .i64 x4), (7, .bool u6), (8, .pointer (some ⟨p8, 0, none⟩)), (10, .slice none 0 0), (11, .int .i64 0), (12, .int .i64 ((IntKind.i64.wrap x3).tmod (l2.length : Int))), (75, .bool b65)] ∧ Sep w (PostO p8 u62.2 :: Fo) rs66 ∧ (∀ r, r ∈ rs → r ∈ rs66) ∧ rSl k_api_Mail v1 l2 ∈ rs66 ∧ m_cantonlaw19_PostKeeps_j3 l2 x4 u6 x3 u62 b65 = some r) ?_ ?_
       ·obtain ⟨u69, H⟩ := H.raw hr13
        replace H : Sep w (Blk p64 32 [.int .i64 u62.1.1.From, .int .i64 u62.1.1.To, .string u62.1.1.Data] :: PostO p8 u62.2 :: Fo) (rRow k_api_Mail v1 l2 u69 :: rs11) := H
        have hI : Still [Blk p64 32 [.int .i64 u62.1.1.From, .int .i64 u62.1.1.To, .string u62.1.1.Data]] [rRow k_api_Mail v1 l2 u69] { w with drawn := w.drawn + 1 } := ⟨_, _, H.kept (Kp.drawn _ w _), (subO_cons (.head _) (subO_nil)), (sub_cons (.head _) (sub_nil))⟩
        refine wp_draw _ [(0, 0), (1, 0), (2, 0), (3, 0), (4, 0), (5, 0), (6, 0), (7, 0), (8, 0), (9, 0)] mixedOk (by kernel_rfl) (fun _ _ _ h => False.elim h.2) hI ?_
        replace H := H.kept (Kp.drawn _ w (w.drawn + 1))
        generalize ({ w with drawn := w.drawn + 1 } : World) = w at H hI ⊢
        replace hI : ∃ W, Still [Blk p64 32 [.int .i64 u62.1.1.From, .int .i64 u62.1.1.To, .string u62.1.1.Data]] [rRow k_api_Mail v1 l2 u69] W := ⟨_, hI⟩
        obtain ⟨W0, hI⟩ := hI
        refine fr_val E rfl (wn rfl) rfl rfl (fun w hW => (x_move E rfl rfl)) ?_
        clear a E;intro a E
        refine fr_val E rfl (wn rfl) rfl rfl (fun w hW => (x_not E rfl rfl)) ?_
        clear a E;intro a E
        refine fr_val E rfl (wn rfl) rfl rfl (fun w hW => (x_move E rfl rfl)) ?_
        clear a E;intro a E
        rcases Bool.eq_false_or_eq_true (!u62.1.2) with hb70 | hb70
        ·rw [if_t hb70] at hm
         refine fr_no E rfl (wf' E rfl rfl rfl rfl hb70 rfl) rfl rfl ?_
         clear a E;intro a E
         refine fr_no E rfl (wf' E rfl rfl rfl rfl hb70 rfl) rfl rfl ?_
         clear a E;intro a E
         refine fr_no E rfl (wf' E rfl rfl rfl rfl hb70 rfl) rfl rfl ?_
         clear a E;intro a E
         refine fr_no E rfl (wf' E rfl rfl rfl rfl hb70 rfl) rfl rfl ?_
         clear a E;intro a E
         refine fr_no E rfl (wf' E rfl rfl rfl rfl hb70 rfl) rfl rfl ?_
         clear a E;intro a E
         refine fr_no E rfl (wf' E rfl rfl rfl rfl hb70 rfl) rfl rfl ?_
         clear a E;intro a E
         refine fr_val E rfl (wn rfl) rfl rfl (fun w hW => (x_pickT E rfl rfl hb70 rfl)) ?_
         clear a E;intro a E
         refine fr_nil ?_
         clear hI
         refine q_then ?_
         replace H := H.drop 0
         exact ⟨true, _, ((((((((E.nil.keep E 75 rfl).keep E 12 rfl).keep E 11 rfl).keep E 10 rfl).keep E 8 rfl).keep E 7 rfl).keep E 2 rfl).keep E 0 rfl), H, fun r hr => .tail _ (hs12 r hr), (.tail _ hr13), hm⟩
        ·rw [if_f hb70] at hm
         refine fr_val E rfl (ws' E rfl rfl rfl rfl hb70) rfl rfl (fun w hW => x_ld E rfl rfl (ib_ldN (us := [.int .i64 u62.1.1.From, .int .i64 u62.1.1.To, .string u62.1.1.Data]) (.head _) rfl Try.underlying32 rfl sz32 w hW)) ?_
         clear a E;intro a E
         refine fr_val E rfl (ws' E rfl rfl rfl rfl hb70) rfl rfl (fun w hW => (x_move E rfl rfl)) ?_
         clear a E;intro a E
         refine fr_val E rfl (ws' E rfl rfl rfl rfl hb70) rfl rfl (fun w hW => (x_move E rfl rfl)) ?_
         clear a E;intro a E
         obtain ⟨x71, hx72, hm⟩ := bnd hm
         obtain ⟨q73, u76, hx74, hx75⟩ := dr_ixW (P := Try.prog) (k := .i64) hI (dr_mem (.head _)) Try.underlying27 sz32 hx72
         refine fr_val E rfl (ws' E rfl rfl rfl rfl hb70) rfl rfl (fun w hW => x_ixA E rfl rfl rfl (hx74 w)) ?_
         clear a E;intro a E
         refine fr_val E rfl (ws' E rfl rfl rfl rfl hb70) rfl rfl (fun w hW => x_ld E rfl rfl (ir_ldN (cs := [.int .i64 x71.From, .int .i64 x71.To, .string x71.Data]) (DR.ir (dr_at hx75)) (fun _ _ _ h => k_api_Mail_open h) Try.underlying32 rfl sz32 w hW)) ?_
         clear a E;intro a E
         refine fr_val E rfl (ws' E rfl rfl rfl rfl hb70) rfl rfl (fun w hW => (x_bin2 E rfl rfl rfl (v := .bool (!((u62.1.1.From == x71.From) && ((u62.1.1.To == x71.To) && (sEq u62.1.1.Data x71.Data))))) (ne_agg egt32 (eq_struct Try.underlying32 sih32 (eqf_cons (by rfl) (by kernel_rfl) (by kernel_rfl) (eq_int Try.underlying3) (eqf_cons (by rfl) (by kernel_rfl) (by kernel_rfl) (eq_int Try.underlying3) (eqf_last (by rfl) (by kernel_rfl) (by kernel_rfl) (eq_string Try.underlying9)))))))) ?_
         clear a E;intro a E
         refine fr_val E rfl (wn rfl) rfl rfl (fun w hW => (x_pickF E rfl rfl hb70 rfl)) ?_
         clear a E;intro a E
         refine fr_nil ?_
         clear hI
         refine q_then ?_
         replace H := H.drop 0
         exact ⟨!((u62.1.1.From == x71.From) && ((u62.1.1.To == x71.To) && (sEq u62.1.1.Data x71.Data))), _, ((((((((E.nil.keep E 75 rfl).keep E 12 rfl).keep E 11 rfl).keep E 10 rfl).keep E 8 rfl).keep E 7 rfl).keep E 2 rfl).keep E 0 rfl), H, fun r hr => .tail _ (hs12 r hr), (.tail _ hr13), hm⟩
       ·clear E H hm
        rintro a w ⟨b65, rs66, E, H, hs67, hr68, hm⟩
        unfold m_cantonlaw19_PostKeeps_j3 at hm
        refine wp_if E rfl ?_ ?_
        ·intro hb
         rw [if_t hb] at hm
         clear hb
         refine wp_seq ?_
         refine wp_region_lit ?_
         refine sv E rfl rfl rfl (x_assign E rfl rfl) ?_
         clear a E;intro a E
         refine wpList_nil ?_
         refine q_then ?_
         refine wp_ret ?_
         refine q_thenR ?_
         refine out1 E rfl rfl ?_
         replace H := H.drop 0
         obtain rfl := Option.some.inj hm
         exact ⟨rfl, H.reads (fun r hr => hs67 r hr)⟩
        ·intro hb
         rw [if_f hb] at hm
         clear hb
         refine wp_skip ?_
         refine q_then ?_
         exact ⟨(IntKind.i64.wrap x3).tmod (l2.length : Int), u62.2, _, (((((((E.nil.keep E 12 rfl).keep E 11 rfl).keep E 10 rfl).keep E 8 rfl).keep E 7 rfl).keep E 2 rfl).keep E 0 rfl), H, hs67, hr68, hm⟩
      ·intro hb
       rw [if_f hb] at hm
       clear hb
       refine wp_skip ?_
       refine q_then ?_
       exact ⟨(-1), x10, _, (((((((E.nil.keep E 12 rfl).keep E 11 rfl).keep E 10 rfl).keep E 8 rfl).keep E 7 rfl).keep E 2 rfl).keep E 0 rfl), H, hs12, hr13, hm⟩
     ·clear E H hm
      rintro a w ⟨x23, x24, rs25, E, H, hs26, hr27, hm⟩
      unfold m_cantonlaw19_PostKeeps_j1 at hm
      refine wp_seq ?_
      refine wp_seq ?_
      refine wp_region_lit ?_
      refine sv E rfl rfl rfl (x_assign E rfl rfl) ?_
      clear a E;intro a E
      refine wpList_nil ?_
      refine q_then ?_
      refine wp_block ?_
      refine wp_loop_g (fun k2 a w => ∃ (v28 : Value) (l29 : (List S_api_Mail)) (x30 : Int) (x31 : Int) (rs32 : List Rp), Env 123 a [(0, v1), (2, .int .i64 x4), (7, .bool u6), (8, .pointer (some ⟨p8, 0, none⟩)), (10, v28), (11, .int .i64 x30), (12, .int .i64 x23), (15, .int .i64 x31)] ∧ Sep w (PostO p8 x24 :: Row 32 k_api_Mail v28 l29 :: Fo) rs32 ∧ (∀ r, r ∈ rs → r ∈ rs32) ∧ rSl k_api_Mail v1 l2 ∈ rs32 ∧ m_cantonlaw19_PostKeeps_l2 l2 x23 x4 x24 u6 k2 l29 x30 x31 = some r) (((l2.length : Int) - 0 : Int).toNat + 1) ?_ ?_
      ·replace H := H.nilRow 32 k_api_Mail
       replace H := H.front 0 rfl
       replace H := H.front 1 rfl
       exact ⟨(.slice none 0 0), [], 0, 0, _, ((((((((E.nil.keep E 15 rfl).keep E 12 rfl).keep E 11 rfl).keep E 10 rfl).keep E 8 rfl).keep E 7 rfl).keep E 2 rfl).keep E 0 rfl), H, hs26, hr27, hm⟩
      ·clear E H hm
       rintro k2 a w ⟨v28, l29, x30, x31, rs32, E, H, hs33, hr34, hm⟩
       cases k2 with
       | zero => exact (none_some hm rfl).elim
       | succ k2 =>
        unfold m_cantonlaw19_PostKeeps_l2 at hm
        refine wp_seq ?_
        refine wp_seq ?_
        refine wp_region_lit ?_
        refine sv E rfl rfl rfl (x_move E rfl rfl) ?_
        clear a E;intro a E
        refine sv E rfl rfl rfl (x_move E rfl rfl) ?_
        clear a E;intro a E
        refine sv E rfl rfl rfl (x_lenS E H rfl rfl hr34 Try.underlying27) ?_
        clear a E;intro a E
        refine sv E rfl rfl rfl (x_bin E rfl rfl rfl rfl) ?_
        clear a E;intro a E
        refine wpList_nil ?_
        refine q_then ?_
        refine wp_if E rfl ?_ ?_
        ·intro hb
         rw [if_t hb] at hm
         clear hb
         refine wp_skip ?_
         refine q_then ?_
         refine wp_seq_cut (fun a w => ∃ (v35 : Value) (l36 : (List S_api_Mail)) (x37 : Int) (rs38 : List Rp), Env 123 a [(0, v1), (2, .int .i64 x4), (7, .bool u6), (8, .pointer (some ⟨p8, 0, none⟩)), (10, v35), (11, .int .i64 x37), (12, .int .i64 x23), (15, .int .i64 x31)] ∧ Sep w (PostO p8 x24 :: Row 32 k_api_Mail v35 l36 :: Fo) rs38 ∧ (∀ r, r ∈ rs → r ∈ rs38) ∧ rSl k_api_Mail v1 l2 ∈ rs38 ∧ m_cantonlaw19_PostKeeps_j2 (m_cantonlaw19_PostKeeps_l2 l2 x23 x4 x24 u6 k2) x31 l36 x37 = some r) ?_ ?_
         ·refine wp_block ?_
          refine wp_seq ?_
          refine wp_seq ?_
          refine wp_region_lit ?_
          refine sv E rfl rfl rfl (x_move E rfl rfl) ?_
          clear a E;intro a E
          refine sv E rfl rfl rfl (x_move E rfl rfl) ?_
          clear a E;intro a E
          refine sv E rfl rfl rfl (x_bin E rfl rfl rfl rfl) ?_
          clear a E;intro a E
          refine wpList_nil ?_
          refine q_then ?_
          refine wp_if E rfl ?_ ?_
          ·intro hb
           rw [if_t hb] at hm
           clear hb
           refine wp_exit ?_
           refine q_thenX ?_
           refine q_hit ?_
           refine q_then ?_
           exact ⟨v28, l29, x30, _, ((((((((E.nil.keep E 15 rfl).keep E 12 rfl).keep E 11 rfl).keep E 10 rfl).keep E 8 rfl).keep E 7 rfl).keep E 2 rfl).keep E 0 rfl), H, hs33, hr34, hm⟩
          ·intro hb
           rw [if_f hb] at hm
           clear hb
           refine wp_skip ?_
           refine q_then ?_
           refine wp_seq ?_
           refine wp_region_lit ?_
           refine sv E rfl rfl rfl (x_move E rfl rfl) ?_
           clear a E;intro a E
           refine sv E rfl rfl rfl (x_move E rfl rfl) ?_
           clear a E;intro a E
           obtain ⟨x41, hx42, hm⟩ := bnd hm
           refine st_ixS E H (wn rfl) rfl rfl rfl rfl rfl hr34 Try.underlying27 sz32 hx42 ?_
           clear E H; clear a; intro q43 a H E
           replace H := H.derive1 (.head _) (rAt (kI .i64) (q43.add 1) x41.To) (fun ok h => k_api_Mail_at1 h)
           refine sv E rfl rfl rfl (x_fa E rfl rfl (fa32_1 _ _)) ?_
           clear a E;intro a E
           refine sv E rfl rfl rfl (x_ldA E H rfl rfl (.head _) Try.underlying3 rfl) ?_
           clear a E;intro a E
           refine sv E rfl rfl rfl (x_move E rfl rfl) ?_
           clear a E;intro a E
           refine sv E rfl rfl rfl (x_bin E rfl rfl rfl rfl) ?_
           clear a E;intro a E
           refine wpList_nil ?_
           refine q_then ?_
           refine wp_if E rfl ?_ ?_
           ·intro hb
            rw [if_t hb] at hm
            clear hb
            refine wp_region_lit ?_
            refine sv E rfl rfl rfl (x_move E rfl rfl) ?_
            clear a E;intro a E
            refine sv E rfl rfl rfl (x_bin E rfl rfl rfl rfl) ?_
            clear a E;intro a E
            refine sv E rfl rfl rfl (x_assign E rfl rfl) ?_
            clear a E;intro a E
            refine wpList_nil ?_
            refine q_blk ?_
            refine q_then ?_
            exact ⟨v28, l29, IntKind.i64.wrap (x30 + 1), _, ((((((((E.nil.keep E 15 rfl).keep E 12 rfl).keep E 11 rfl).keep E 10 rfl).keep E 8 rfl).keep E 7 rfl).keep E 2 rfl).keep E 0 rfl), H, fun r hr => .tail _ (.tail _ (hs33 r hr)), (.tail _ (.tail _ hr34)), hm⟩
           ·intro hb
            rw [if_f hb] at hm
            clear hb
            refine wp_region_lit ?_
            refine sv E rfl rfl rfl (x_move E rfl rfl) ?_
            clear a E;intro a E
            refine sv E rfl rfl rfl (x_move E rfl rfl) ?_
            clear a E;intro a E
            refine sv E rfl rfl rfl (x_move E rfl rfl) ?_
            clear a E;intro a E
            obtain ⟨x44, hx45, hm⟩ := bnd hm
            refine st_ixS E H (wn rfl) rfl rfl rfl rfl rfl (.tail _ (.tail _ hr34)) Try.underlying27 sz32 hx45 ?_
            clear E H; clear a; intro q46 a H E
            refine st_ldN E H (wn rfl) rfl rfl rfl rfl (.head _) Try.underlying32 rfl sz32 ?_
            clear E H; clear a; intro u47 a H E
            obtain ⟨_, hcs⟩ := H.rd (.head _)
            obtain rfl := k_api_Mail_open hcs
            clear hcs
            refine st_bsR (e := 32) (d := k_api_Mail) (cs := [.int .i64 x44.From, .int .i64 x44.To, .string x44.Data]) (xs := [x44]) E H (wn rfl) rfl rfl (ps := [(0, .tmp 98)]) (parts := [(0, .agg #[.int .i64 x44.From, .int .i64 x44.To, .string x44.Data])]) rfl (by simp only [List.map]; rw [E.eval (x := .tmp 98) (v := .agg #[.int .i64 x44.From, .int .i64 x44.To, .string x44.Data]) rfl]) (by kernel_rfl) rfl (fun ok hr => (Rows.single (d := k_api_Mail) (cs := [.int .i64 x44.From, .int .i64 x44.To, .string x44.Data]) (x := x44) k_api_Mail_mk)) ?_
            clear E H; clear a; clear w; intro v48 w a H E
            obtain ⟨u50, hx51, hm⟩ := bnd hm
            refine st_append (i := 1) E H (wn rfl) rfl rfl rfl rfl rfl rfl (src_rd (.head _)) Try.underlying27 inf32 rfl (ck_of hx51) rfl ?_
            clear E H; clear a; clear w; intro v49 w a H E
            refine sv E rfl rfl rfl (x_assign E rfl rfl) ?_
            clear a E;intro a E
            refine wpList_nil ?_
            refine q_blk ?_
            refine q_then ?_
            exact ⟨v49, l29 ++ ([x44] : List S_api_Mail), x30, _, ((((((((E.nil.keep E 15 rfl).keep E 12 rfl).keep E 11 rfl).keep E 10 rfl).keep E 8 rfl).keep E 7 rfl).keep E 2 rfl).keep E 0 rfl), H, fun r hr => .tail _ (.tail _ (.tail _ (.tail _ (.tail _ (hs33 r hr))))), (.tail _ (.tail _ (.tail _ (.tail _ (.tail _ hr34))))), hm⟩
         ·clear E H hm
          rintro a w ⟨v35, l36, x37, rs38, E, H, hs39, hr40, hm⟩
          unfold m_cantonlaw19_PostKeeps_j2 at hm
          refine wp_region_lit ?_
          refine sv E rfl rfl rfl (x_move E rfl rfl) ?_
          clear a E;intro a E
          refine sv E rfl rfl rfl (x_bin E rfl rfl rfl rfl) ?_
          clear a E;intro a E
          refine sv E rfl rfl rfl (x_assign E rfl rfl) ?_
          clear a E;intro a E
          refine wpList_nil ?_
          refine q_then ?_
          exact ⟨k2, Nat.lt_succ_self k2, v35, l36, x37, IntKind.i64.wrap (x31 + 1), _, ((((((((E.nil.keep E 15 rfl).keep E 12 rfl).keep E 11 rfl).keep E 10 rfl).keep E 8 rfl).keep E 7 rfl).keep E 2 rfl).keep E 0 rfl), H, hs39, hr40, hm⟩
        ·intro hb
         rw [if_f hb] at hm
         clear hb
         refine wp_exit ?_
         refine q_thenX ?_
         refine q_thenX ?_
         refine q_hit ?_
         refine q_then ?_
         refine wp_seq ?_
         refine wp_region_lit ?_
         refine sv E rfl rfl rfl (x_move E rfl rfl) ?_
         clear a E;intro a E
         refine sv E rfl rfl rfl (x_move E rfl rfl) ?_
         clear a E;intro a E
         obtain ⟨u52, hx53, hm⟩ := bnd hm
         refine st_call E (wn rfl) rfl rfl (x_call E rfl rfl (cf21 _)) (post_Drop (i := 0) H rfl x4 hx53) ?_
         clear E H; clear a; clear w; rintro _ w ⟨rfl, H⟩ a E
         replace H : Sep w (PostO p8 u52.2 :: Row 32 k_api_Mail v28 l29 :: Fo) _ := H
         refine sv E rfl rfl rfl (x_assign E rfl rfl) ?_
         clear a E;intro a E
         refine wpList_nil ?_
         refine q_then ?_
         refine wp_seq ?_
         refine wp_region_lit ?_
         refine sv E rfl rfl rfl (x_move E rfl rfl) ?_
         clear a E;intro a E
         refine sv E rfl rfl rfl (x_move E rfl rfl) ?_
         clear a E;intro a E
         rcases Bool.eq_false_or_eq_true u6 with hb54 | hb54
         ·rw [if_t hb54] at hm
          refine st_val E (ws' E rfl rfl rfl rfl hb54) rfl rfl (x_move E rfl rfl) ?_
          clear a E;intro a E
          refine st_val E (ws' E rfl rfl rfl rfl hb54) rfl rfl (x_move E rfl rfl) ?_
          clear a E;intro a E
          refine st_val E (ws' E rfl rfl rfl rfl hb54) rfl rfl (x_bin E rfl rfl rfl rfl) ?_
          clear a E;intro a E
          refine sv E rfl rfl rfl (x_pickT E rfl rfl hb54 rfl) ?_
          clear a E;intro a E
          refine sv E rfl rfl rfl (x_move E rfl rfl) ?_
          clear a E;intro a E
          rcases Bool.eq_false_or_eq_true (u52.1 == x30) with hb55 | hb55
          ·rw [if_t hb55] at hm
           refine st_val E (ws' E rfl rfl rfl rfl hb55) rfl rfl (x_move E rfl rfl) ?_
           clear a E;intro a E
           refine st_call E (ws' E rfl rfl rfl rfl hb55) rfl rfl (x_call E rfl rfl (cf27 _)) (post_All (i := 0) H rfl) ?_
           clear E H; clear a; clear w; rintro v56 w H a E
           refine st_val E (ws' E rfl rfl rfl rfl hb55) rfl rfl (x_move E rfl rfl) ?_
           clear a E;intro a E
           replace H := H.thaw (i := 0) rfl
           replace H := H.thaw (i := 1) rfl
           replace H : Sep w (PostO p8 u52.2 :: Fo) (rSl k_api_Mail v28 l29 :: rSl k_api_Mail v56 u52.2 :: rs32) := H
           obtain ⟨u57, hx58, hm⟩ := bnd hm
           refine st_call E (ws' E rfl rfl rfl rfl hb55) rfl rfl (x_call E rfl rfl (cf26 _)) (c_cantonref19_Same v56 u52.2 v28 l29 H (.tail _ (.head _)) (.head _) hx58) ?_
           clear E H; clear a; clear w; rintro _ w ⟨rfl, H⟩ a E
           refine sv E rfl rfl rfl (x_pickT E rfl rfl hb55 rfl) ?_
           clear a E;intro a E
           refine sv E rfl rfl rfl (x_move E rfl rfl) ?_
           clear a E;intro a E
           rcases Bool.eq_false_or_eq_true u57 with hb59 | hb59
           ·rw [if_t hb59] at hm
            refine st_val E (ws' E rfl rfl rfl rfl hb59) rfl rfl (x_move E rfl rfl) ?_
            clear a E;intro a E
            refine st_call E (ws' E rfl rfl rfl rfl hb59) rfl rfl (x_call E rfl rfl (cf25 _)) (post_Many (i := 0) H rfl) ?_
            clear E H; clear a; clear w; rintro _ w ⟨rfl, H⟩ a E
            refine st_val E (ws' E rfl rfl rfl rfl hb59) rfl rfl (x_move E rfl rfl) ?_
            clear a E;intro a E
            refine st_val E (ws' E rfl rfl rfl rfl hb59) rfl rfl (x_lenS E H rfl rfl (.head _) Try.underlying27) ?_
            clear a E;intro a E
            refine st_val E (ws' E rfl rfl rfl rfl hb59) rfl rfl (x_bin E rfl rfl rfl rfl) ?_
            clear a E;intro a E
            refine sv E rfl rfl rfl (x_pickT E rfl rfl hb59 rfl) ?_
            clear a E;intro a E
            refine sv E rfl rfl rfl (x_assign E rfl rfl) ?_
            clear a E;intro a E
            refine wpList_nil ?_
            refine q_then ?_
            refine wp_ret ?_
            refine out1 E rfl rfl ?_
            replace H := H.drop 0
            obtain rfl := Option.some.inj hm
            exact ⟨rfl, H.reads (fun r hr => .tail _ (.tail _ (hs33 r hr)))⟩
           ·rw [if_f hb59] at hm
            refine st_no E (wf' E rfl rfl rfl rfl hb59 rfl) rfl rfl ?_
            clear a E;intro a E
            refine st_no E (wf' E rfl rfl rfl rfl hb59 rfl) rfl rfl ?_
            clear a E;intro a E
            refine st_no E (wf' E rfl rfl rfl rfl hb59 rfl) rfl rfl ?_
            clear a E;intro a E
            refine st_no E (wf' E rfl rfl rfl rfl hb59 rfl) rfl rfl ?_
            clear a E;intro a E
            refine st_no E (wf' E rfl rfl rfl rfl hb59 rfl) rfl rfl ?_
            clear a E;intro a E
            refine sv E rfl rfl rfl (x_pickF E rfl rfl hb59 rfl) ?_
            clear a E;intro a E
            refine sv E rfl rfl rfl (x_assign E rfl rfl) ?_
            clear a E;intro a E
            refine wpList_nil ?_
            refine q_then ?_
            refine wp_ret ?_
            refine out1 E rfl rfl ?_
            replace H := H.drop 0
            obtain rfl := Option.some.inj hm
            exact ⟨rfl, H.reads (fun r hr => .tail _ (.tail _ (hs33 r hr)))⟩
          ·rw [if_f hb55] at hm
           refine st_no E (wf' E rfl rfl rfl rfl hb55 rfl) rfl rfl ?_
           clear a E;intro a E
           refine st_no E (wf' E rfl rfl rfl rfl hb55 rfl) rfl rfl ?_
           clear a E;intro a E
           refine st_no E (wf' E rfl rfl rfl rfl hb55 rfl) rfl rfl ?_
           clear a E;intro a E
           refine st_no E (wf' E rfl rfl rfl rfl hb55 rfl) rfl rfl ?_
           clear a E;intro a E
           refine sv E rfl rfl rfl (x_pickF E rfl rfl hb55 rfl) ?_
           clear a E;intro a E
           refine sv E rfl rfl rfl (x_move E rfl rfl) ?_
           clear a E;intro a E
           refine st_no E (wf E rfl rfl rfl rfl rfl) rfl rfl ?_
           clear a E;intro a E
           refine st_no E (wf E rfl rfl rfl rfl rfl) rfl rfl ?_
           clear a E;intro a E
           refine st_no E (wf E rfl rfl rfl rfl rfl) rfl rfl ?_
           clear a E;intro a E
           refine st_no E (wf E rfl rfl rfl rfl rfl) rfl rfl ?_
           clear a E;intro a E
           refine st_no E (wf E rfl rfl rfl rfl rfl) rfl rfl ?_
           clear a E;intro a E
           refine sv E rfl rfl rfl (x_pickF E rfl rfl rfl rfl) ?_
           clear a E;intro a E
           refine sv E rfl rfl rfl (x_assign E rfl rfl) ?_
           clear a E;intro a E
           refine wpList_nil ?_
           refine q_then ?_
           refine wp_ret ?_
           refine out1 E rfl rfl ?_
           replace H := H.drop 0
           replace H := H.drop 0
           obtain rfl := Option.some.inj hm
           exact ⟨rfl, H.reads (fun r hr => hs33 r hr)⟩
         ·rw [if_f hb54] at hm
          refine st_no E (wf' E rfl rfl rfl rfl hb54 rfl) rfl rfl ?_
          clear a E;intro a E
          refine st_no E (wf' E rfl rfl rfl rfl hb54 rfl) rfl rfl ?_
          clear a E;intro a E
          refine st_no E (wf' E rfl rfl rfl rfl hb54 rfl) rfl rfl ?_
          clear a E;intro a E
          refine sv E rfl rfl rfl (x_pickF E rfl rfl hb54 rfl) ?_
          clear a E;intro a E
          refine sv E rfl rfl rfl (x_move E rfl rfl) ?_
          clear a E;intro a E
          refine st_no E (wf E rfl rfl rfl rfl rfl) rfl rfl ?_
          clear a E;intro a E
          refine st_no E (wf E rfl rfl rfl rfl rfl) rfl rfl ?_
          clear a E;intro a E
          refine st_no E (wf E rfl rfl rfl rfl rfl) rfl rfl ?_
          clear a E;intro a E
          refine st_no E (wf E rfl rfl rfl rfl rfl) rfl rfl ?_
          clear a E;intro a E
          refine sv E rfl rfl rfl (x_pickF E rfl rfl rfl rfl) ?_
          clear a E;intro a E
          refine sv E rfl rfl rfl (x_move E rfl rfl) ?_
          clear a E;intro a E
          refine st_no E (wf E rfl rfl rfl rfl rfl) rfl rfl ?_
          clear a E;intro a E
          refine st_no E (wf E rfl rfl rfl rfl rfl) rfl rfl ?_
          clear a E;intro a E
          refine st_no E (wf E rfl rfl rfl rfl rfl) rfl rfl ?_
          clear a E;intro a E
          refine st_no E (wf E rfl rfl rfl rfl rfl) rfl rfl ?_
          clear a E;intro a E
          refine st_no E (wf E rfl rfl rfl rfl rfl) rfl rfl ?_
          clear a E;intro a E
          refine sv E rfl rfl rfl (x_pickF E rfl rfl rfl rfl) ?_
          clear a E;intro a E
          refine sv E rfl rfl rfl (x_assign E rfl rfl) ?_
          clear a E;intro a E
          refine wpList_nil ?_
          refine q_then ?_
          refine wp_ret ?_
          refine out1 E rfl rfl ?_
          replace H := H.drop 0
          replace H := H.drop 0
          obtain rfl := Option.some.inj hm
          exact ⟨rfl, H.reads (fun r hr => hs33 r hr)⟩
end Go.Cb
