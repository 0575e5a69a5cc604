/- A function of the program, walked: it comes to its plain function. -/
import Derived.Test.YtbjpjbopfhbkmaaT
import Derived.Test.YtbjpjbopfhbkmaaO8
import Derived.Test.YtbjpjbopfhbkmaaFcantonlaw19head
set_option linter.unusedVariables false
set_option linter.unusedSimpArgs false
namespace Go.Cb
open Go.Proofs Go.RowKit
def m_cantonlaw19_PostFull_l1 (x1 : S_api_Mail) (u4 : Bool) : Nat → Int → Int → (List S_api_Mail) → Option Bool
  | 0, _, _, _ => none
  | k1 + 1, x7, x8, x9 =>
    if (decide (x8 < 400)) = true then ((post_mPut x9 (⟨x1.From, x1.To, x1.Data⟩ : S_api_Mail)).bind fun u12 => if (!u12.1) = true then (some (false)) else (m_cantonlaw19_PostFull_l1 x1 u4 k1 x7 (IntKind.i64.wrap (x8 + 1)) u12.2)) else ((post_mPut x9 (⟨x1.From, x1.To, x1.Data⟩ : S_api_Mail)).bind fun u14 => (post_mDouble u14.2 (IntKind.i64.wrap x7)).bind fun u16 => (post_mTake u16.2 (IntKind.i64.wrap x7)).bind fun u18 => (post_mDouble u18.2 0).bind fun u21 => (post_mPut u21.2 (⟨x1.From, x1.To, x1.Data⟩ : S_api_Mail)).bind fun u23 => if u4 = true then (if (!u14.1) = true then (if (!u16.1) = true then (if u18.1.2 = true then (if u21.1 = true then (if (!u23.1) = true then (some ((u23.2.length : Int) == 400)) else (some (false))) else (some (false))) else (some (false))) else (some (false))) else (some (false))) else (some (false)))
def m_cantonlaw19_PostFull (x1 : S_api_Mail) (x2 : Int) : Option Bool :=
  m_cantonlaw19_head.bind fun u4 => if (decide ((x1.Data.size : Int) > 100)) = true then (some (u4)) else (m_cantonlaw19_PostFull_l1 x1 u4 ((400 - 0 : Int).toNat + 1) x2 0 ([] : List S_api_Mail))
set_option maxRecDepth 20000 in
set_option maxHeartbeats 1000000 in
theorem c_cantonlaw19_PostFull {w : World} {Fo : List Ob} {rs : List Rp} (x1 : S_api_Mail) (x2 : Int) (H : Sep w (Fo) rs) {r : Bool} (hm : m_cantonlaw19_PostFull x1 x2 = some r) :
    Calls Try.prog 5 [.agg #[.int .i64 x1.From, .int .i64 x1.To, .string x1.Data], .int .u8 x2].toArray w (Ret fun v w' => .bool r = v ∧ Sep w' (Fo) (rs)) := by
 unfold m_cantonlaw19_PostFull at hm
 refine enter Try.func5 rfl Try.ntmps5 rfl fun a E => ?_
 simp only [enum, Nat.reduceAdd] at E
 refine wp_seq ?_
 refine wp_region_lit ?_
 refine st_box E H (wn rfl) rfl rfl (cs := [.int .i64 x1.From, .int .i64 x1.To, .string x1.Data]) rfl rfl rfl ?_
 clear E H; clear a; clear w; intro p3 w a H E
 refine sv E rfl rfl rfl (x_assign E rfl rfl) ?_
 clear a E;intro a E
 refine wpList_nil ?_
 refine q_then ?_
 refine wp_seq ?_
 refine wp_region_lit ?_
 obtain ⟨u4, hx5, hm⟩ := bnd hm
 refine st_call E (wn rfl) rfl rfl (x_call E rfl rfl (cf14 _)) (c_cantonlaw19_head H hx5) ?_
 clear E H; clear a; clear w; rintro _ w ⟨rfl, H⟩ a E
 refine sv E rfl rfl rfl (x_assign E rfl rfl) ?_
 clear a E;intro a E
 refine wpList_nil ?_
 refine q_then ?_
 refine wp_seq ?_
 refine wp_region_lit ?_
 refine st_call E (wn rfl) rfl rfl (x_call E rfl rfl (cf15 _)) (post_New H) ?_
 clear E H; clear a; clear w; rintro _ w ⟨p6, rfl, H⟩ a E
 refine sv E rfl rfl rfl (x_assign E rfl rfl) ?_
 clear a E;intro a E
 refine wpList_nil ?_
 refine q_then ?_
 refine wp_seq ?_
 refine wp_seq ?_
 refine wp_region_lit ?_
 refine sv E rfl rfl rfl (x_move E rfl rfl) ?_
 clear a E;intro a E
 refine sv E rfl rfl rfl (x_bin2 E rfl rfl rfl (v := .bool false) (by kernel_rfl)) ?_
 clear a E;intro a E
 refine sv E rfl rfl rfl (x_move E rfl rfl) ?_
 clear a E;intro a E
 refine st_val E (ws E rfl rfl rfl rfl) rfl rfl (x_fa E rfl rfl (v := .pointer (some ⟨p3, 2, none⟩)) (fa32_2 _ _)) ?_
 clear a E;intro a E
 refine st_val E (ws E rfl rfl rfl rfl) rfl rfl (x_ldB (i := 1) E H rfl rfl rfl rfl Try.underlying9 rfl) ?_
 clear a E;intro a E
 refine st_val E (ws E rfl rfl rfl rfl) rfl rfl (x_lenStr E rfl rfl Try.underlying9) ?_
 clear a E;intro a E
 refine st_val E (ws E rfl rfl rfl rfl) rfl rfl (x_bin E rfl rfl rfl rfl) ?_
 clear a E;intro a E
 refine sv E rfl rfl rfl (x_pickF E rfl rfl rfl rfl) ?_
 clear a E;intro a E
 refine wpList_nil ?_
 refine q_then ?_
 refine wp_if E rfl ?_ ?_
 ·intro hb
  rw [if_t hb] at hm
  clear hb
  refine wp_seq ?_
  refine wp_region_lit ?_
  refine sv E rfl rfl rfl (x_move E rfl rfl) ?_
  clear a E;intro a E
  refine sv E rfl rfl rfl (x_bin2 E rfl rfl rfl (v := .bool true) (by kernel_rfl)) ?_
  clear a E;intro a E
  refine sv E rfl rfl rfl (x_move E rfl rfl) ?_
  clear a E;intro a E
  refine st_val E (ws E rfl rfl rfl rfl) rfl rfl (x_move E rfl rfl) ?_
  clear a E;intro a E
  refine sv E rfl rfl rfl (x_pickT E rfl rfl rfl rfl) ?_
  clear a E;intro a E
  refine sv E rfl rfl rfl (x_assign E rfl rfl) ?_
  clear a E;intro a E
  refine wpList_nil ?_
  refine q_then ?_
  refine wp_ret ?_
  refine q_thenR ?_
  refine out1 E rfl rfl ?_
  replace H := H.drop 0
  replace H := H.drop 0
  obtain rfl := Option.some.inj hm
  exact ⟨rfl, H.reads (fun r hr => hr)⟩
 ·intro hb
  rw [if_f hb] at hm
  clear hb
  refine wp_skip ?_
  refine q_then ?_
  refine wp_seq ?_
  refine wp_seq ?_
  refine wp_region_lit ?_
  refine sv E rfl rfl rfl (x_assign E rfl rfl) ?_
  clear a E;intro a E
  refine wpList_nil ?_
  refine q_then ?_
  refine wp_block ?_
  refine wp_loop_g (fun k1 a w => ∃ (x7 : Int) (x8 : Int) (x9 : (List S_api_Mail)) (rs10 : List Rp), Env 80 a [(1, .int .u8 x7), (2, .pointer (some ⟨p3, 0, none⟩)), (5, .bool u4), (6, .pointer (some ⟨p6, 0, none⟩)), (7, .int .i64 x8)] ∧ Sep w (Blk p3 32 [.int .i64 x1.From, .int .i64 x1.To, .string x1.Data] :: PostO p6 x9 :: Fo) rs10 ∧ (∀ r, r ∈ rs → r ∈ rs10) ∧ m_cantonlaw19_PostFull_l1 x1 u4 k1 x7 x8 x9 = some r) ((400 - 0 : Int).toNat + 1) ?_ ?_
  ·replace H := H.front 0 rfl
   replace H := H.front 1 rfl
   exact ⟨x2, 0, ([] : List S_api_Mail), _, (((((E.nil.keep E 7 rfl).keep E 6 rfl).keep E 5 rfl).keep E 2 rfl).keep E 1 rfl), H, fun r hr => hr, hm⟩
  ·clear E H hm
   rintro k1 a w ⟨x7, x8, x9, rs10, E, H, hs11, hm⟩
   cases k1 with
   | zero => exact (none_some hm rfl).elim
   | succ k1 =>
    unfold m_cantonlaw19_PostFull_l1 at hm
    refine wp_seq ?_
    refine wp_seq ?_
    refine wp_region_lit ?_
    refine sv E rfl rfl rfl (x_move E rfl rfl) ?_
    clear a E;intro a E
    refine sv E rfl rfl rfl (x_bin E rfl rfl rfl rfl) ?_
    clear a E;intro a E
    refine wpList_nil ?_
    refine q_then ?_
    refine wp_if E rfl ?_ ?_
    ·intro hb
     rw [if_t hb] at hm
     clear hb
     refine wp_skip ?_
     refine q_then ?_
     refine wp_seq ?_
     refine wp_block ?_
     refine wp_seq ?_
     refine wp_region_lit ?_
     refine sv E rfl rfl rfl (x_move E rfl rfl) ?_
     clear a E;intro a E
     refine sv E rfl rfl rfl (x_ldBN (i := 0) (us := [.int .i64 x1.From, .int .i64 x1.To, .string x1.Data]) E H rfl rfl rfl rfl Try.underlying32 rfl sz32) ?_
     clear a E;intro a E
     obtain ⟨u12, hx13, hm⟩ := bnd hm
     refine st_call E (wn rfl) rfl rfl (x_call E rfl rfl (cf23 _)) (post_Put (i := 1) H rfl (⟨x1.From, x1.To, x1.Data⟩ : S_api_Mail) hx13) ?_
     clear E H; clear a; clear w; rintro _ w ⟨rfl, H⟩ a E
     replace H : Sep w (Blk p3 32 [.int .i64 x1.From, .int .i64 x1.To, .string x1.Data] :: PostO p6 u12.2 :: Fo) _ := H
     refine sv E rfl rfl rfl (x_not E rfl rfl) ?_
     clear a E;intro a E
     refine wpList_nil ?_
     refine q_then ?_
     refine wp_if E rfl ?_ ?_
     ·intro hb
      rw [if_t hb] at hm
      clear hb
      refine wp_seq ?_
      refine wp_region_lit ?_
      refine sv E rfl rfl rfl (x_assign E rfl rfl) ?_
      clear a E;intro a E
      refine wpList_nil ?_
      refine q_then ?_
      refine wp_ret ?_
      refine q_blkR ?_
      refine q_thenR ?_
      refine q_thenR ?_
      refine q_blkR ?_
      refine q_thenR ?_
      refine out1 E rfl rfl ?_
      replace H := H.drop 0
      replace H := H.drop 0
      obtain rfl := Option.some.inj hm
      exact ⟨rfl, H.reads (fun r hr => hs11 r hr)⟩
     ·intro hb
      rw [if_f hb] at hm
      clear hb
      refine wp_skip ?_
      refine q_blk ?_
      refine q_then ?_
      refine wp_region_lit ?_
      refine sv E rfl rfl rfl (x_move E rfl rfl) ?_
      clear a E;intro a E
      refine sv E rfl rfl rfl (x_bin E rfl rfl rfl rfl) ?_
      clear a E;intro a E
      refine sv E rfl rfl rfl (x_assign E rfl rfl) ?_
      clear a E;intro a E
      refine wpList_nil ?_
      refine q_then ?_
      exact ⟨k1, Nat.lt_succ_self k1, x7, IntKind.i64.wrap (x8 + 1), u12.2, _, (((((E.nil.keep E 7 rfl).keep E 6 rfl).keep E 5 rfl).keep E 2 rfl).keep E 1 rfl), H, hs11, hm⟩
    ·intro hb
     rw [if_f hb] at hm
     clear hb
     refine wp_exit ?_
     refine q_thenX ?_
     refine q_thenX ?_
     refine q_hit ?_
     refine q_then ?_
     refine wp_seq ?_
     refine wp_region_lit ?_
     refine sv E rfl rfl rfl (x_move E rfl rfl) ?_
     clear a E;intro a E
     refine sv E rfl rfl rfl (x_ldBN (i := 0) (us := [.int .i64 x1.From, .int .i64 x1.To, .string x1.Data]) E H rfl rfl rfl rfl Try.underlying32 rfl sz32) ?_
     clear a E;intro a E
     obtain ⟨u14, hx15, hm⟩ := bnd hm
     refine st_call E (wn rfl) rfl rfl (x_call E rfl rfl (cf23 _)) (post_Put (i := 1) H rfl (⟨x1.From, x1.To, x1.Data⟩ : S_api_Mail) hx15) ?_
     clear E H; clear a; clear w; rintro _ w ⟨rfl, H⟩ a E
     replace H : Sep w (Blk p3 32 [.int .i64 x1.From, .int .i64 x1.To, .string x1.Data] :: PostO p6 u14.2 :: Fo) _ := H
     refine sv E rfl rfl rfl (x_assign E rfl rfl) ?_
     clear a E;intro a E
     refine wpList_nil ?_
     refine q_then ?_
     refine wp_seq ?_
     refine wp_region_lit ?_
     refine sv E rfl rfl rfl (x_move E rfl rfl) ?_
     clear a E;intro a E
     refine sv E rfl rfl rfl (x_move E rfl rfl) ?_
     clear a E;intro a E
     refine sv E rfl rfl rfl (x_conv E rfl rfl (v := .int .i64 (IntKind.i64.wrap x7)) (by kernel_rfl)) ?_
     clear a E;intro a E
     obtain ⟨u16, hx17, hm⟩ := bnd hm
     refine st_call E (wn rfl) rfl rfl (x_call E rfl rfl (cf19 _)) (post_Double (i := 1) H rfl (IntKind.i64.wrap x7) hx17) ?_
     clear E H; clear a; clear w; rintro _ w ⟨rfl, H⟩ a E
     replace H : Sep w (Blk p3 32 [.int .i64 x1.From, .int .i64 x1.To, .string x1.Data] :: PostO p6 u16.2 :: Fo) _ := H
     refine sv E rfl rfl rfl (x_assign E rfl rfl) ?_
     clear a E;intro a E
     refine wpList_nil ?_
     refine q_then ?_
     refine wp_seq ?_
     refine wp_region_lit ?_
     refine sv E rfl rfl rfl (x_move E rfl rfl) ?_
     clear a E;intro a E
     refine sv E rfl rfl rfl (x_move E rfl rfl) ?_
     clear a E;intro a E
     refine sv E rfl rfl rfl (x_conv E rfl rfl (v := .int .i64 (IntKind.i64.wrap x7)) (by kernel_rfl)) ?_
     clear a E;intro a E
     obtain ⟨u18, hx19, hm⟩ := bnd hm
     refine st_call E (wn rfl) rfl rfl (x_call E rfl rfl (cf17 _)) (post_Take (i := 1) H rfl (IntKind.i64.wrap x7) hx19) ?_
     clear E H; clear a; clear w; rintro _ w ⟨rfl, H⟩ a E
     replace H : Sep w (Blk p3 32 [.int .i64 x1.From, .int .i64 x1.To, .string x1.Data] :: PostO p6 u18.2 :: Fo) _ := H
     refine sv E rfl rfl rfl (x_move E rfl rfl) ?_
     clear a E;intro a E
     refine sv E rfl rfl rfl (x_ext E rfl rfl rfl) ?_
     clear a E;intro a E
     refine sv E rfl rfl rfl (x_ext E rfl rfl rfl) ?_
     clear a E;intro a E
     refine st_alloc E H (wn rfl) rfl rfl (cs := [.int .i64 0, .int .i64 0, .string (ByteArray.mk #[])]) rfl (z := .agg #[.int .i64 0, .int .i64 0, .string ⟨#[]⟩]) (by kernel_rfl) rfl ?_
     clear E H; clear a; clear w; intro p20 w a H E
     refine st_st (i := 0) E H (wn rfl) rfl (us := [.int .i64 u18.1.1.From, .int .i64 u18.1.1.To, .string u18.1.1.Data]) rfl rfl rfl rfl rfl sz32 rfl rfl ?_
     clear H; clear w; intro w H
     replace H : Sep w (Blk p20 32 [.int .i64 u18.1.1.From, .int .i64 u18.1.1.To, .string u18.1.1.Data] :: Blk p3 32 [.int .i64 x1.From, .int .i64 x1.To, .string x1.Data] :: PostO p6 u18.2 :: Fo) _ := H
     refine sv E rfl rfl rfl (x_assign E rfl rfl) ?_
     clear a E;intro a E
     refine wpList_nil ?_
     refine q_then ?_
     refine wp_seq ?_
     refine wp_region_lit ?_
     refine sv E rfl rfl rfl (x_move E rfl rfl) ?_
     clear a E;intro a E
     obtain ⟨u21, hx22, hm⟩ := bnd hm
     refine st_call E (wn rfl) rfl rfl (x_call E rfl rfl (cf19 _)) (post_Double (i := 2) H rfl 0 hx22) ?_
     clear E H; clear a; clear w; rintro _ w ⟨rfl, H⟩ a E
     replace H : Sep w (Blk p20 32 [.int .i64 u18.1.1.From, .int .i64 u18.1.1.To, .string u18.1.1.Data] :: Blk p3 32 [.int .i64 x1.From, .int .i64 x1.To, .string x1.Data] :: PostO p6 u21.2 :: Fo) _ := H
     refine sv E rfl rfl rfl (x_assign E rfl rfl) ?_
     clear a E;intro a E
     refine wpList_nil ?_
     refine q_then ?_
     refine wp_seq ?_
     refine wp_region_lit ?_
     refine sv E rfl rfl rfl (x_move E rfl rfl) ?_
     clear a E;intro a E
     refine sv E rfl rfl rfl (x_ldBN (i := 1) (us := [.int .i64 x1.From, .int .i64 x1.To, .string x1.Data]) E H rfl rfl rfl rfl Try.underlying32 rfl sz32) ?_
     clear a E;intro a E
     obtain ⟨u23, hx24, hm⟩ := bnd hm
     refine st_call E (wn rfl) rfl rfl (x_call E rfl rfl (cf23 _)) (post_Put (i := 2) H rfl (⟨x1.From, x1.To, x1.Data⟩ : S_api_Mail) hx24) ?_
     clear E H; clear a; clear w; rintro _ w ⟨rfl, H⟩ a E
     replace H : Sep w (Blk p20 32 [.int .i64 u18.1.1.From, .int .i64 u18.1.1.To, .string u18.1.1.Data] :: Blk p3 32 [.int .i64 x1.From, .int .i64 x1.To, .string x1.Data] :: PostO p6 u23.2 :: Fo) _ := H
     refine sv E rfl rfl rfl (x_assign E rfl rfl) ?_
     clear a E;intro a E
     refine wpList_nil ?_
     refine q_then ?_
     refine wp_seq ?_
     refine wp_region_lit ?_
     refine sv E rfl rfl rfl (x_move E rfl rfl) ?_
     clear a E;intro a E
     refine sv E rfl rfl rfl (x_move E rfl rfl) ?_
     clear a E;intro a E
     rcases Bool.eq_false_or_eq_true u4 with hb25 | hb25
     ·rw [if_t hb25] at hm
      refine st_val E (ws' E rfl rfl rfl rfl hb25) rfl rfl (x_move E rfl rfl) ?_
      clear a E;intro a E
      refine st_val E (ws' E rfl rfl rfl rfl hb25) rfl rfl (x_not E rfl rfl) ?_
      clear a E;intro a E
      refine sv E rfl rfl rfl (x_pickT E rfl rfl hb25 rfl) ?_
      clear a E;intro a E
      refine sv E rfl rfl rfl (x_move E rfl rfl) ?_
      clear a E;intro a E
      rcases Bool.eq_false_or_eq_true (!u14.1) with hb26 | hb26
      ·rw [if_t hb26] at hm
       refine st_val E (ws' E rfl rfl rfl rfl hb26) rfl rfl (x_move E rfl rfl) ?_
       clear a E;intro a E
       refine st_val E (ws' E rfl rfl rfl rfl hb26) rfl rfl (x_not E rfl rfl) ?_
       clear a E;intro a E
       refine sv E rfl rfl rfl (x_pickT E rfl rfl hb26 rfl) ?_
       clear a E;intro a E
       refine sv E rfl rfl rfl (x_move E rfl rfl) ?_
       clear a E;intro a E
       rcases Bool.eq_false_or_eq_true (!u16.1) with hb27 | hb27
       ·rw [if_t hb27] at hm
        refine st_val E (ws' E rfl rfl rfl rfl hb27) rfl rfl (x_move E rfl rfl) ?_
        clear a E;intro a E
        refine sv E rfl rfl rfl (x_pickT E rfl rfl hb27 rfl) ?_
        clear a E;intro a E
        refine sv E rfl rfl rfl (x_move E rfl rfl) ?_
        clear a E;intro a E
        rcases Bool.eq_false_or_eq_true u18.1.2 with hb28 | hb28
        ·rw [if_t hb28] at hm
         refine st_val E (ws' E rfl rfl rfl rfl hb28) rfl rfl (x_move E rfl rfl) ?_
         clear a E;intro a E
         refine sv E rfl rfl rfl (x_pickT E rfl rfl hb28 rfl) ?_
         clear a E;intro a E
         refine sv E rfl rfl rfl (x_move E rfl rfl) ?_
         clear a E;intro a E
         rcases Bool.eq_false_or_eq_true u21.1 with hb29 | hb29
         ·rw [if_t hb29] at hm
          refine st_val E (ws' E rfl rfl rfl rfl hb29) rfl rfl (x_move E rfl rfl) ?_
          clear a E;intro a E
          refine st_val E (ws' E rfl rfl rfl rfl hb29) rfl rfl (x_not E rfl rfl) ?_
          clear a E;intro a E
          refine sv E rfl rfl rfl (x_pickT E rfl rfl hb29 rfl) ?_
          clear a E;intro a E
          refine sv E rfl rfl rfl (x_move E rfl rfl) ?_
          clear a E;intro a E
          rcases Bool.eq_false_or_eq_true (!u23.1) with hb30 | hb30
          ·rw [if_t hb30] at hm
           refine st_val E (ws' E rfl rfl rfl rfl hb30) rfl rfl (x_move E rfl rfl) ?_
           clear a E;intro a E
           refine st_call E (ws' E rfl rfl rfl rfl hb30) rfl rfl (x_call E rfl rfl (cf25 _)) (post_Many (i := 2) H rfl) ?_
           clear E H; clear a; clear w; rintro _ w ⟨rfl, H⟩ a E
           refine st_val E (ws' E rfl rfl rfl rfl hb30) rfl rfl (x_bin E rfl rfl rfl rfl) ?_
           clear a E;intro a E
           refine sv E rfl rfl rfl (x_pickT E rfl rfl hb30 rfl) ?_
           clear a E;intro a E
           refine sv E rfl rfl rfl (x_assign E rfl rfl) ?_
           clear a E;intro a E
           refine wpList_nil ?_
           refine q_then ?_
           refine wp_ret ?_
           refine out1 E rfl rfl ?_
           replace H := H.drop 0
           replace H := H.drop 0
           replace H := H.drop 0
           obtain rfl := Option.some.inj hm
           exact ⟨rfl, H.reads (fun r hr => hs11 r hr)⟩
          ·rw [if_f hb30] at hm
           refine st_no E (wf' E rfl rfl rfl rfl hb30 rfl) rfl rfl ?_
           clear a E;intro a E
           refine st_no E (wf' E rfl rfl rfl rfl hb30 rfl) rfl rfl ?_
           clear a E;intro a E
           refine st_no E (wf' E rfl rfl rfl rfl hb30 rfl) rfl rfl ?_
           clear a E;intro a E
           refine sv E rfl rfl rfl (x_pickF E rfl rfl hb30 rfl) ?_
           clear a E;intro a E
           refine sv E rfl rfl rfl (x_assign E rfl rfl) ?_
           clear a E;intro a E
           refine wpList_nil ?_
           refine q_then ?_
           refine wp_ret ?_
           refine out1 E rfl rfl ?_
           replace H := H.drop 0
           replace H := H.drop 0
           replace H := H.drop 0
           obtain rfl := Option.some.inj hm
           exact ⟨rfl, H.reads (fun r hr => hs11 r hr)⟩
         ·rw [if_f hb29] at hm
          refine st_no E (wf' E rfl rfl rfl rfl hb29 rfl) rfl rfl ?_
          clear a E;intro a E
          refine st_no E (wf' E rfl rfl rfl rfl hb29 rfl) rfl rfl ?_
          clear a E;intro a E
          refine sv E rfl rfl rfl (x_pickF E rfl rfl hb29 rfl) ?_
          clear a E;intro a E
          refine sv E rfl rfl rfl (x_move E rfl rfl) ?_
          clear a E;intro a E
          refine st_no E (wf E rfl rfl rfl rfl rfl) rfl rfl ?_
          clear a E;intro a E
          refine st_no E (wf E rfl rfl rfl rfl rfl) rfl rfl ?_
          clear a E;intro a E
          refine st_no E (wf E rfl rfl rfl rfl rfl) rfl rfl ?_
          clear a E;intro a E
          refine sv E rfl rfl rfl (x_pickF E rfl rfl rfl rfl) ?_
          clear a E;intro a E
          refine sv E rfl rfl rfl (x_assign E rfl rfl) ?_
          clear a E;intro a E
          refine wpList_nil ?_
          refine q_then ?_
          refine wp_ret ?_
          refine out1 E rfl rfl ?_
          replace H := H.drop 0
          replace H := H.drop 0
          replace H := H.drop 0
          obtain rfl := Option.some.inj hm
          exact ⟨rfl, H.reads (fun r hr => hs11 r hr)⟩
        ·rw [if_f hb28] at hm
         refine st_no E (wf' E rfl rfl rfl rfl hb28 rfl) rfl rfl ?_
         clear a E;intro a E
         refine sv E rfl rfl rfl (x_pickF E rfl rfl hb28 rfl) ?_
         clear a E;intro a E
         refine sv E rfl rfl rfl (x_move E rfl rfl) ?_
         clear a E;intro a E
         refine st_no E (wf E rfl rfl rfl rfl rfl) rfl rfl ?_
         clear a E;intro a E
         refine st_no E (wf E rfl rfl rfl rfl rfl) rfl rfl ?_
         clear a E;intro a E
         refine sv E rfl rfl rfl (x_pickF E rfl rfl rfl rfl) ?_
         clear a E;intro a E
         refine sv E rfl rfl rfl (x_move E rfl rfl) ?_
         clear a E;intro a E
         refine st_no E (wf E rfl rfl rfl rfl rfl) rfl rfl ?_
         clear a E;intro a E
         refine st_no E (wf E rfl rfl rfl rfl rfl) rfl rfl ?_
         clear a E;intro a E
         refine st_no E (wf E rfl rfl rfl rfl rfl) rfl rfl ?_
         clear a E;intro a E
         refine sv E rfl rfl rfl (x_pickF E rfl rfl rfl rfl) ?_
         clear a E;intro a E
         refine sv E rfl rfl rfl (x_assign E rfl rfl) ?_
         clear a E;intro a E
         refine wpList_nil ?_
         refine q_then ?_
         refine wp_ret ?_
         refine out1 E rfl rfl ?_
         replace H := H.drop 0
         replace H := H.drop 0
         replace H := H.drop 0
         obtain rfl := Option.some.inj hm
         exact ⟨rfl, H.reads (fun r hr => hs11 r hr)⟩
       ·rw [if_f hb27] at hm
        refine st_no E (wf' E rfl rfl rfl rfl hb27 rfl) rfl rfl ?_
        clear a E;intro a E
        refine sv E rfl rfl rfl (x_pickF E rfl rfl hb27 rfl) ?_
        clear a E;intro a E
        refine sv E rfl rfl rfl (x_move E rfl rfl) ?_
        clear a E;intro a E
        refine st_no E (wf E rfl rfl rfl rfl rfl) rfl rfl ?_
        clear a E;intro a E
        refine sv E rfl rfl rfl (x_pickF E rfl rfl rfl rfl) ?_
        clear a E;intro a E
        refine sv E rfl rfl rfl (x_move E rfl rfl) ?_
        clear a E;intro a E
        refine st_no E (wf E rfl rfl rfl rfl rfl) rfl rfl ?_
        clear a E;intro a E
        refine st_no E (wf E rfl rfl rfl rfl rfl) rfl rfl ?_
        clear a E;intro a E
        refine sv E rfl rfl rfl (x_pickF E rfl rfl rfl rfl) ?_
        clear a E;intro a E
        refine sv E rfl rfl rfl (x_move E rfl rfl) ?_
        clear a E;intro a E
        refine st_no E (wf E rfl rfl rfl rfl rfl) rfl rfl ?_
        clear a E;intro a E
        refine st_no E (wf E rfl rfl rfl rfl rfl) rfl rfl ?_
        clear a E;intro a E
        refine st_no E (wf E rfl rfl rfl rfl rfl) rfl rfl ?_
        clear a E;intro a E
        refine sv E rfl rfl rfl (x_pickF E rfl rfl rfl rfl) ?_
        clear a E;intro a E
        refine sv E rfl rfl rfl (x_assign E rfl rfl) ?_
        clear a E;intro a E
        refine wpList_nil ?_
        refine q_then ?_
        refine wp_ret ?_
        refine out1 E rfl rfl ?_
        replace H := H.drop 0
        replace H := H.drop 0
        replace H := H.drop 0
        obtain rfl := Option.some.inj hm
        exact ⟨rfl, H.reads (fun r hr => hs11 r hr)⟩
      ·rw [if_f hb26] at hm
       refine st_no E (wf' E rfl rfl rfl rfl hb26 rfl) rfl rfl ?_
       clear a E;intro a E
       refine st_no E (wf' E rfl rfl rfl rfl hb26 rfl) rfl rfl ?_
       clear a E;intro a E
       refine sv E rfl rfl rfl (x_pickF E rfl rfl hb26 rfl) ?_
       clear a E;intro a E
       refine sv E rfl rfl rfl (x_move E rfl rfl) ?_
       clear a E;intro a E
       refine st_no E (wf E rfl rfl rfl rfl rfl) rfl rfl ?_
       clear a E;intro a E
       refine sv E rfl rfl rfl (x_pickF E rfl rfl rfl rfl) ?_
       clear a E;intro a E
       refine sv E rfl rfl rfl (x_move E rfl rfl) ?_
       clear a E;intro a E
       refine st_no E (wf E rfl rfl rfl rfl rfl) rfl rfl ?_
       clear a E;intro a E
       refine sv E rfl rfl rfl (x_pickF E rfl rfl rfl rfl) ?_
       clear a E;intro a E
       refine sv E rfl rfl rfl (x_move E rfl rfl) ?_
       clear a E;intro a E
       refine st_no E (wf E rfl rfl rfl rfl rfl) rfl rfl ?_
       clear a E;intro a E
       refine st_no E (wf E rfl rfl rfl rfl rfl) rfl rfl ?_
       clear a E;intro a E
       refine sv E rfl rfl rfl (x_pickF E rfl rfl rfl rfl) ?_
       clear a E;intro a E
       refine sv E rfl rfl rfl (x_move E rfl rfl) ?_
       clear a E;intro a E
       refine st_no E (wf E rfl rfl rfl rfl rfl) rfl rfl ?_
       clear a E;intro a E
       refine st_no E (wf E rfl rfl rfl rfl rfl) rfl rfl ?_
       clear a E;intro a E
       refine st_no E (wf E rfl rfl rfl rfl rfl) rfl rfl ?_
       clear a E;intro a E
       refine sv E rfl rfl rfl (x_pickF E rfl rfl rfl rfl) ?_
       clear a E;intro a E
       refine sv E rfl rfl rfl (x_assign E rfl rfl) ?_
       clear a E;intro a E
       refine wpList_nil ?_
       refine q_then ?_
       refine wp_ret ?_
       refine out1 E rfl rfl ?_
       replace H := H.drop 0
       replace H := H.drop 0
       replace H := H.drop 0
       obtain rfl := Option.some.inj hm
       exact ⟨rfl, H.reads (fun r hr => hs11 r hr)⟩
     ·rw [if_f hb25] at hm
      refine st_no E (wf' E rfl rfl rfl rfl hb25 rfl) rfl rfl ?_
      clear a E;intro a E
      refine st_no E (wf' E rfl rfl rfl rfl hb25 rfl) rfl rfl ?_
      clear a E;intro a E
      refine sv E rfl rfl rfl (x_pickF E rfl rfl hb25 rfl) ?_
      clear a E;intro a E
      refine sv E rfl rfl rfl (x_move E rfl rfl) ?_
      clear a E;intro a E
      refine st_no E (wf E rfl rfl rfl rfl rfl) rfl rfl ?_
      clear a E;intro a E
      refine st_no E (wf E rfl rfl rfl rfl rfl) rfl rfl ?_
      clear a E;intro a E
      refine sv E rfl rfl rfl (x_pickF E rfl rfl rfl rfl) ?_
      clear a E;intro a E
      refine sv E rfl rfl rfl (x_move E rfl rfl) ?_
      clear a E;intro a E
      refine st_no E (wf E rfl rfl rfl rfl rfl) rfl rfl ?_
      clear a E;intro a E
      refine sv E rfl rfl rfl (x_pickF E rfl rfl rfl rfl) ?_
      clear a E;intro a E
      refine sv E rfl rfl rfl (x_move E rfl rfl) ?_
      clear a E;intro a E
      refine st_no E (wf E rfl rfl rfl rfl rfl) rfl rfl ?_
      clear a E;intro a E
      refine sv E rfl rfl rfl (x_pickF E rfl rfl rfl rfl) ?_
      clear a E;intro a E
      refine sv E rfl rfl rfl (x_move E rfl rfl) ?_
      clear a E;intro a E
      refine st_no E (wf E rfl rfl rfl rfl rfl) rfl rfl ?_
      clear a E;intro a E
      refine st_no E (wf E rfl rfl rfl rfl rfl) rfl rfl ?_
      clear a E;intro a E
      refine sv E rfl rfl rfl (x_pickF E rfl rfl rfl rfl) ?_
      clear a E;intro a E
      refine sv E rfl rfl rfl (x_move E rfl rfl) ?_
      clear a E;intro a E
      refine st_no E (wf E rfl rfl rfl rfl rfl) rfl rfl ?_
      clear a E;intro a E
      refine st_no E (wf E rfl rfl rfl rfl rfl) rfl rfl ?_
      clear a E;intro a E
      refine st_no E (wf E rfl rfl rfl rfl rfl) rfl rfl ?_
      clear a E;intro a E
      refine sv E rfl rfl rfl (x_pickF E rfl rfl rfl rfl) ?_
      clear a E;intro a E
      refine sv E rfl rfl rfl (x_assign E rfl rfl) ?_
      clear a E;intro a E
      refine wpList_nil ?_
      refine q_then ?_
      refine wp_ret ?_
      refine out1 E rfl rfl ?_
      replace H := H.drop 0
      replace H := H.drop 0
      replace H := H.drop 0
      obtain rfl := Option.some.inj hm
      exact ⟨rfl, H.reads (fun r hr => hs11 r hr)⟩
end Go.Cb
