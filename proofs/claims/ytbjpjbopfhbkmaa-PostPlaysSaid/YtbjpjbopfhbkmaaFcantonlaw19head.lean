/- A function of the program, walked: it comes to its plain function. -/
import Derived.Test.YtbjpjbopfhbkmaaT
import Derived.Test.YtbjpjbopfhbkmaaO8
set_option linter.unusedVariables false
set_option linter.unusedSimpArgs false
namespace Go.Cb
open Go.Proofs Go.RowKit
def m_cantonlaw19_head : Option Bool :=
  (post_mPut ([] : List S_api_Mail) (⟨1, 2, (ByteArray.mk #[97])⟩ : S_api_Mail)).bind fun u2 => (post_mPut u2.2 (⟨0, 3, (ByteArray.mk #[])⟩ : S_api_Mail)).bind fun u4 => (post_mDouble u4.2 0).bind fun u6 => (post_mTake u6.2 0).bind fun u8 => (post_mTake u8.2 5).bind fun u11 => (post_mDrop u11.2 3).bind fun u15 => if u2.1 = true then (if u4.1 = true then (if u6.1 = true then (if u8.1.2 = true then (if (sEq u8.1.1.Data (ByteArray.mk #[97])) = true then (if (!u11.1.2) = true then (if ((u11.2.length : Int) == 2) = true then ((idx u11.2 0).bind fun x24 => if (x24.To == 3) = true then (if (u15.1 == 1) = true then (some ((u15.2.length : Int) == 1)) else (some (false))) else (some (false))) else (some (false))) else (some (false))) else (some (false))) else (some (false))) else (some (false))) else (some (false))) else (some (false))
set_option maxRecDepth 20000 in
set_option maxHeartbeats 1000000 in
theorem c_cantonlaw19_head {w : World} {Fo : List Ob} {rs : List Rp} (H : Sep w (Fo) rs) {r : Bool} (hm : m_cantonlaw19_head = some r) :
    Calls Try.prog 14 [].toArray w (Ret fun v w' => .bool r = v ∧ Sep w' (Fo) (rs)) := by
 unfold m_cantonlaw19_head at hm
 refine enter Try.func14 rfl Try.ntmps14 rfl fun a E => ?_
 simp only [enum, Nat.reduceAdd] at E
 refine wp_seq ?_
 refine wp_region_lit ?_
 refine sv E rfl rfl rfl (x_assign E rfl rfl) ?_
 clear a E;intro a E
 refine wpList_nil ?_
 refine q_then ?_
 refine wp_seq ?_
 refine wp_region_lit ?_
 refine st_call E (wn rfl) rfl rfl (x_call E rfl rfl (cf15 _)) (post_New H) ?_
 clear E H; clear a; clear w; rintro _ w ⟨p1, rfl, H⟩ a E
 refine sv E rfl rfl rfl (x_assign E rfl rfl) ?_
 clear a E;intro a E
 refine wpList_nil ?_
 refine q_then ?_
 refine wp_seq ?_
 refine wp_seq ?_
 refine wp_region_lit ?_
 refine sv E rfl rfl rfl (x_move E rfl rfl) ?_
 clear a E;intro a E
 refine sv E rfl rfl rfl (x_bin2 E rfl rfl rfl (v := .bool false) (by kernel_rfl)) ?_
 clear a E;intro a E
 refine wpList_nil ?_
 refine q_then ?_
 refine wp_cond_false (E.eval rfl) ?_
 refine wp_skip ?_
 refine q_then ?_
 refine wp_seq ?_
 refine wp_region_lit ?_
 refine sv E rfl rfl rfl (x_move E rfl rfl) ?_
 clear a E;intro a E
 refine sv E rfl rfl rfl (x_build E (ps := [(0, .const (.int .i64 1)), (1, .const (.int .i64 2)), (2, .const (.string (ByteArray.mk #[97])))]) (vs := [(0, .int .i64 1), (1, .int .i64 2), (2, .string (ByteArray.mk #[97]))]) rfl (by simp only [List.map]; rw [E.eval (x := .const (.int .i64 1)) (v := .int .i64 1) rfl, E.eval (x := .const (.int .i64 2)) (v := .int .i64 2) rfl, E.eval (x := .const (.string (ByteArray.mk #[97]))) (v := .string (ByteArray.mk #[97])) rfl]) (v := .agg #[.int .i64 1, .int .i64 2, .string (ByteArray.mk #[97])]) (by kernel_rfl)) ?_
 clear a E;intro a E
 obtain ⟨u2, hx3, hm⟩ := bnd hm
 refine st_call E (wn rfl) rfl rfl (x_call E rfl rfl (cf23 _)) (post_Put (i := 0) H rfl (⟨1, 2, (ByteArray.mk #[97])⟩ : S_api_Mail) hx3) ?_
 clear E H; clear a; clear w; rintro _ w ⟨rfl, H⟩ a E
 replace H : Sep w (PostO p1 u2.2 :: Fo) _ := H
 refine sv E rfl rfl rfl (x_assign E rfl rfl) ?_
 clear a E;intro a E
 refine wpList_nil ?_
 refine q_then ?_
 refine wp_seq ?_
 refine wp_region_lit ?_
 refine sv E rfl rfl rfl (x_move E rfl rfl) ?_
 clear a E;intro a E
 refine sv E rfl rfl rfl (x_build E (ps := [(1, .const (.int .i64 3))]) (vs := [(1, .int .i64 3)]) rfl (by simp only [List.map]; rw [E.eval (x := .const (.int .i64 3)) (v := .int .i64 3) rfl]) (v := .agg #[.int .i64 0, .int .i64 3, .string (ByteArray.mk #[])]) (by kernel_rfl)) ?_
 clear a E;intro a E
 obtain ⟨u4, hx5, hm⟩ := bnd hm
 refine st_call E (wn rfl) rfl rfl (x_call E rfl rfl (cf23 _)) (post_Put (i := 0) H rfl (⟨0, 3, (ByteArray.mk #[])⟩ : S_api_Mail) hx5) ?_
 clear E H; clear a; clear w; rintro _ w ⟨rfl, H⟩ a E
 replace H : Sep w (PostO p1 u4.2 :: Fo) _ := H
 refine sv E rfl rfl rfl (x_assign E rfl rfl) ?_
 clear a E;intro a E
 refine wpList_nil ?_
 refine q_then ?_
 refine wp_seq ?_
 refine wp_region_lit ?_
 refine sv E rfl rfl rfl (x_move E rfl rfl) ?_
 clear a E;intro a E
 obtain ⟨u6, hx7, hm⟩ := bnd hm
 refine st_call E (wn rfl) rfl rfl (x_call E rfl rfl (cf19 _)) (post_Double (i := 0) H rfl 0 hx7) ?_
 clear E H; clear a; clear w; rintro _ w ⟨rfl, H⟩ a E
 replace H : Sep w (PostO p1 u6.2 :: Fo) _ := H
 refine sv E rfl rfl rfl (x_assign E rfl rfl) ?_
 clear a E;intro a E
 refine wpList_nil ?_
 refine q_then ?_
 refine wp_seq ?_
 refine wp_region_lit ?_
 refine sv E rfl rfl rfl (x_move E rfl rfl) ?_
 clear a E;intro a E
 obtain ⟨u8, hx9, hm⟩ := bnd hm
 refine st_call E (wn rfl) rfl rfl (x_call E rfl rfl (cf17 _)) (post_Take (i := 0) H rfl 0 hx9) ?_
 clear E H; clear a; clear w; rintro _ w ⟨rfl, H⟩ a E
 replace H : Sep w (PostO p1 u8.2 :: Fo) _ := H
 refine sv E rfl rfl rfl (x_move E rfl rfl) ?_
 clear a E;intro a E
 refine sv E rfl rfl rfl (x_ext E rfl rfl rfl) ?_
 clear a E;intro a E
 refine sv E rfl rfl rfl (x_ext E rfl rfl rfl) ?_
 clear a E;intro a E
 refine st_alloc E H (wn rfl) rfl rfl (cs := [.int .i64 0, .int .i64 0, .string (ByteArray.mk #[])]) rfl (z := .agg #[.int .i64 0, .int .i64 0, .string ⟨#[]⟩]) (by kernel_rfl) rfl ?_
 clear E H; clear a; clear w; intro p10 w a H E
 refine st_st (i := 0) E H (wn rfl) rfl (us := [.int .i64 u8.1.1.From, .int .i64 u8.1.1.To, .string u8.1.1.Data]) rfl rfl rfl rfl rfl sz32 rfl rfl ?_
 clear H; clear w; intro w H
 replace H : Sep w (Blk p10 32 [.int .i64 u8.1.1.From, .int .i64 u8.1.1.To, .string u8.1.1.Data] :: PostO p1 u8.2 :: Fo) _ := H
 refine sv E rfl rfl rfl (x_assign E rfl rfl) ?_
 clear a E;intro a E
 refine wpList_nil ?_
 refine q_then ?_
 refine wp_seq ?_
 refine wp_region_lit ?_
 refine sv E rfl rfl rfl (x_move E rfl rfl) ?_
 clear a E;intro a E
 obtain ⟨u11, hx12, hm⟩ := bnd hm
 refine st_call E (wn rfl) rfl rfl (x_call E rfl rfl (cf17 _)) (post_Take (i := 1) H rfl 5 hx12) ?_
 clear E H; clear a; clear w; rintro _ w ⟨rfl, H⟩ a E
 replace H : Sep w (Blk p10 32 [.int .i64 u8.1.1.From, .int .i64 u8.1.1.To, .string u8.1.1.Data] :: PostO p1 u11.2 :: Fo) _ := H
 refine sv E rfl rfl rfl (x_move E rfl rfl) ?_
 clear a E;intro a E
 refine sv E rfl rfl rfl (x_ext E rfl rfl rfl) ?_
 clear a E;intro a E
 refine sv E rfl rfl rfl (x_ext E rfl rfl rfl) ?_
 clear a E;intro a E
 refine st_alloc E H (wn rfl) rfl rfl (cs := [.int .i64 0, .int .i64 0, .string (ByteArray.mk #[])]) rfl (z := .agg #[.int .i64 0, .int .i64 0, .string ⟨#[]⟩]) (by kernel_rfl) rfl ?_
 clear E H; clear a; clear w; intro p13 w a H E
 refine st_st (i := 0) E H (wn rfl) rfl (us := [.int .i64 u11.1.1.From, .int .i64 u11.1.1.To, .string u11.1.1.Data]) rfl rfl rfl rfl rfl sz32 rfl rfl ?_
 clear H; clear w; intro w H
 replace H : Sep w (Blk p13 32 [.int .i64 u11.1.1.From, .int .i64 u11.1.1.To, .string u11.1.1.Data] :: Blk p10 32 [.int .i64 u8.1.1.From, .int .i64 u8.1.1.To, .string u8.1.1.Data] :: PostO p1 u11.2 :: Fo) _ := H
 refine sv E rfl rfl rfl (x_assign E rfl rfl) ?_
 clear a E;intro a E
 refine wpList_nil ?_
 refine q_then ?_
 refine wp_seq ?_
 refine wp_region_lit ?_
 refine sv E rfl rfl rfl (x_move E rfl rfl) ?_
 clear a E;intro a E
 refine st_call E (wn rfl) rfl rfl (x_call E rfl rfl (cf27 _)) (post_All (i := 2) H rfl) ?_
 clear E H; clear a; clear w; rintro v14 w H a E
 refine sv E rfl rfl rfl (x_assign E rfl rfl) ?_
 clear a E;intro a E
 refine wpList_nil ?_
 refine q_then ?_
 refine wp_seq ?_
 refine wp_region_lit ?_
 refine sv E rfl rfl rfl (x_move E rfl rfl) ?_
 clear a E;intro a E
 obtain ⟨u15, hx16, hm⟩ := bnd hm
 refine st_call E (wn rfl) rfl rfl (x_call E rfl rfl (cf21 _)) (post_Drop (i := 3) H rfl 3 hx16) ?_
 clear E H; clear a; clear w; rintro _ w ⟨rfl, H⟩ a E
 replace H : Sep w (Row 32 k_api_Mail v14 u11.2 :: Blk p13 32 [.int .i64 u11.1.1.From, .int .i64 u11.1.1.To, .string u11.1.1.Data] :: Blk p10 32 [.int .i64 u8.1.1.From, .int .i64 u8.1.1.To, .string u8.1.1.Data] :: PostO p1 u15.2 :: Fo) _ := H
 refine sv E rfl rfl rfl (x_assign E rfl rfl) ?_
 clear a E;intro a E
 refine wpList_nil ?_
 refine q_then ?_
 refine wp_seq ?_
 refine wp_region_lit ?_
 refine sv E rfl rfl rfl (x_move E rfl rfl) ?_
 clear a E;intro a E
 refine sv E rfl rfl rfl (x_move E rfl rfl) ?_
 clear a E;intro a E
 rcases Bool.eq_false_or_eq_true u2.1 with hb17 | hb17
 ·rw [if_t hb17] at hm
  refine st_val E (ws' E rfl rfl rfl rfl hb17) rfl rfl (x_move E rfl rfl) ?_
  clear a E;intro a E
  refine sv E rfl rfl rfl (x_pickT E rfl rfl hb17 rfl) ?_
  clear a E;intro a E
  refine sv E rfl rfl rfl (x_move E rfl rfl) ?_
  clear a E;intro a E
  rcases Bool.eq_false_or_eq_true u4.1 with hb18 | hb18
  ·rw [if_t hb18] at hm
   refine st_val E (ws' E rfl rfl rfl rfl hb18) rfl rfl (x_move E rfl rfl) ?_
   clear a E;intro a E
   refine sv E rfl rfl rfl (x_pickT E rfl rfl hb18 rfl) ?_
   clear a E;intro a E
   refine sv E rfl rfl rfl (x_move E rfl rfl) ?_
   clear a E;intro a E
   rcases Bool.eq_false_or_eq_true u6.1 with hb19 | hb19
   ·rw [if_t hb19] at hm
    refine st_val E (ws' E rfl rfl rfl rfl hb19) rfl rfl (x_move E rfl rfl) ?_
    clear a E;intro a E
    refine sv E rfl rfl rfl (x_pickT E rfl rfl hb19 rfl) ?_
    clear a E;intro a E
    refine sv E rfl rfl rfl (x_move E rfl rfl) ?_
    clear a E;intro a E
    rcases Bool.eq_false_or_eq_true u8.1.2 with hb20 | hb20
    ·rw [if_t hb20] at hm
     refine st_val E (ws' E rfl rfl rfl rfl hb20) rfl rfl (x_fa E rfl rfl (v := .pointer (some ⟨p10, 2, none⟩)) (fa32_2 _ _)) ?_
     clear a E;intro a E
     refine st_val E (ws' E rfl rfl rfl rfl hb20) rfl rfl (x_ldB (i := 2) E H rfl rfl rfl rfl Try.underlying9 rfl) ?_
     clear a E;intro a E
     refine st_val E (ws' E rfl rfl rfl rfl hb20) rfl rfl (x_str E rfl rfl rfl rfl) ?_
     clear a E;intro a E
     refine sv E rfl rfl rfl (x_pickT E rfl rfl hb20 rfl) ?_
     clear a E;intro a E
     refine sv E rfl rfl rfl (x_move E rfl rfl) ?_
     clear a E;intro a E
     rcases Bool.eq_false_or_eq_true (sEq u8.1.1.Data (ByteArray.mk #[97])) with hb21 | hb21
     ·rw [if_t hb21] at hm
      refine st_val E (ws' E rfl rfl rfl rfl hb21) rfl rfl (x_move E rfl rfl) ?_
      clear a E;intro a E
      refine st_val E (ws' E rfl rfl rfl rfl hb21) rfl rfl (x_not E rfl rfl) ?_
      clear a E;intro a E
      refine sv E rfl rfl rfl (x_pickT E rfl rfl hb21 rfl) ?_
      clear a E;intro a E
      refine sv E rfl rfl rfl (x_move E rfl rfl) ?_
      clear a E;intro a E
      rcases Bool.eq_false_or_eq_true (!u11.1.2) with hb22 | hb22
      ·rw [if_t hb22] at hm
       refine st_val E (ws' E rfl rfl rfl rfl hb22) rfl rfl (x_move E rfl rfl) ?_
       clear a E;intro a E
       refine st_val E (ws' E rfl rfl rfl rfl hb22) rfl rfl (x_lenR (i := 0) E H rfl rfl rfl Try.underlying27) ?_
       clear a E;intro a E
       refine st_val E (ws' E rfl rfl rfl rfl hb22) rfl rfl (x_bin E rfl rfl rfl rfl) ?_
       clear a E;intro a E
       refine sv E rfl rfl rfl (x_pickT E rfl rfl hb22 rfl) ?_
       clear a E;intro a E
       refine sv E rfl rfl rfl (x_move E rfl rfl) ?_
       clear a E;intro a E
       rcases Bool.eq_false_or_eq_true ((u11.2.length : Int) == 2) with hb23 | hb23
       ·rw [if_t hb23] at hm
        refine st_val E (ws' E rfl rfl rfl rfl hb23) rfl rfl (x_move E rfl rfl) ?_
        clear a E;intro a E
        replace H := H.thaw (i := 0) rfl
        obtain ⟨x24, hx25, hm⟩ := bnd hm
        refine st_ixS E H (ws' E rfl rfl rfl rfl hb23) rfl rfl rfl rfl rfl (.head _) Try.underlying27 sz32 hx25 ?_
        clear E H; clear a; intro q26 a H E
        replace H := H.derive1 (.head _) (rAt (kI .i64) (q26.add 1) x24.To) (fun ok h => k_api_Mail_at1 h)
        refine st_val E (ws' E rfl rfl rfl rfl hb23) rfl rfl (x_fa E rfl rfl (fa32_1 _ _)) ?_
        clear a E;intro a E
        refine st_val E (ws' E rfl rfl rfl rfl hb23) rfl rfl (x_ldA E H rfl rfl (.head _) Try.underlying3 rfl) ?_
        clear a E;intro a E
        refine st_val E (ws' E rfl rfl rfl rfl hb23) rfl rfl (x_bin E rfl rfl rfl rfl) ?_
        clear a E;intro a E
        refine sv E rfl rfl rfl (x_pickT E rfl rfl hb23 rfl) ?_
        clear a E;intro a E
        refine sv E rfl rfl rfl (x_move E rfl rfl) ?_
        clear a E;intro a E
        rcases Bool.eq_false_or_eq_true (x24.To == 3) with hb27 | hb27
        ·rw [if_t hb27] at hm
         refine st_val E (ws' E rfl rfl rfl rfl hb27) rfl rfl (x_move E rfl rfl) ?_
         clear a E;intro a E
         refine st_val E (ws' E rfl rfl rfl rfl hb27) rfl rfl (x_bin E rfl rfl rfl rfl) ?_
         clear a E;intro a E
         refine sv E rfl rfl rfl (x_pickT E rfl rfl hb27 rfl) ?_
         clear a E;intro a E
         refine sv E rfl rfl rfl (x_move E rfl rfl) ?_
         clear a E;intro a E
         rcases Bool.eq_false_or_eq_true (u15.1 == 1) with hb28 | hb28
         ·rw [if_t hb28] at hm
          refine st_val E (ws' E rfl rfl rfl rfl hb28) rfl rfl (x_move E rfl rfl) ?_
          clear a E;intro a E
          refine st_call E (ws' E rfl rfl rfl rfl hb28) rfl rfl (x_call E rfl rfl (cf25 _)) (post_Many (i := 2) H rfl) ?_
          clear E H; clear a; clear w; rintro _ w ⟨rfl, H⟩ a E
          refine st_val E (ws' E rfl rfl rfl rfl hb28) rfl rfl (x_bin E rfl rfl rfl rfl) ?_
          clear a E;intro a E
          refine sv E rfl rfl rfl (x_pickT E rfl rfl hb28 rfl) ?_
          clear a E;intro a E
          refine sv E rfl rfl rfl (x_assign E rfl rfl) ?_
          clear a E;intro a E
          refine wpList_nil ?_
          refine q_then ?_
          refine wp_ret ?_
          refine out1 E rfl rfl ?_
          replace H := H.drop 0
          replace H := H.drop 0
          replace H := H.drop 0
          obtain rfl := Option.some.inj hm
          exact ⟨rfl, H.reads (fun r hr => .tail _ (.tail _ (.tail _ (hr))))⟩
         ·rw [if_f hb28] at hm
          refine st_no E (wf' E rfl rfl rfl rfl hb28 rfl) rfl rfl ?_
          clear a E;intro a E
          refine st_no E (wf' E rfl rfl rfl rfl hb28 rfl) rfl rfl ?_
          clear a E;intro a E
          refine st_no E (wf' E rfl rfl rfl rfl hb28 rfl) rfl rfl ?_
          clear a E;intro a E
          refine sv E rfl rfl rfl (x_pickF E rfl rfl hb28 rfl) ?_
          clear a E;intro a E
          refine sv E rfl rfl rfl (x_assign E rfl rfl) ?_
          clear a E;intro a E
          refine wpList_nil ?_
          refine q_then ?_
          refine wp_ret ?_
          refine out1 E rfl rfl ?_
          replace H := H.drop 0
          replace H := H.drop 0
          replace H := H.drop 0
          obtain rfl := Option.some.inj hm
          exact ⟨rfl, H.reads (fun r hr => .tail _ (.tail _ (.tail _ (hr))))⟩
        ·rw [if_f hb27] at hm
         refine st_no E (wf' E rfl rfl rfl rfl hb27 rfl) rfl rfl ?_
         clear a E;intro a E
         refine st_no E (wf' E rfl rfl rfl rfl hb27 rfl) rfl rfl ?_
         clear a E;intro a E
         refine sv E rfl rfl rfl (x_pickF E rfl rfl hb27 rfl) ?_
         clear a E;intro a E
         refine sv E rfl rfl rfl (x_move E rfl rfl) ?_
         clear a E;intro a E
         refine st_no E (wf E rfl rfl rfl rfl rfl) rfl rfl ?_
         clear a E;intro a E
         refine st_no E (wf E rfl rfl rfl rfl rfl) rfl rfl ?_
         clear a E;intro a E
         refine st_no E (wf E rfl rfl rfl rfl rfl) rfl rfl ?_
         clear a E;intro a E
         refine sv E rfl rfl rfl (x_pickF E rfl rfl rfl rfl) ?_
         clear a E;intro a E
         refine sv E rfl rfl rfl (x_assign E rfl rfl) ?_
         clear a E;intro a E
         refine wpList_nil ?_
         refine q_then ?_
         refine wp_ret ?_
         refine out1 E rfl rfl ?_
         replace H := H.drop 0
         replace H := H.drop 0
         replace H := H.drop 0
         obtain rfl := Option.some.inj hm
         exact ⟨rfl, H.reads (fun r hr => .tail _ (.tail _ (.tail _ (hr))))⟩
       ·rw [if_f hb23] at hm
        refine st_no E (wf' E rfl rfl rfl rfl hb23 rfl) rfl rfl ?_
        clear a E;intro a E
        refine st_no E (wf' E rfl rfl rfl rfl hb23 rfl) rfl rfl ?_
        clear a E;intro a E
        refine st_no E (wf' E rfl rfl rfl rfl hb23 rfl) rfl rfl ?_
        clear a E;intro a E
        refine st_no E (wf' E rfl rfl rfl rfl hb23 rfl) rfl rfl ?_
        clear a E;intro a E
        refine st_no E (wf' E rfl rfl rfl rfl hb23 rfl) rfl rfl ?_
        clear a E;intro a E
        refine sv E rfl rfl rfl (x_pickF E rfl rfl hb23 rfl) ?_
        clear a E;intro a E
        refine sv E rfl rfl rfl (x_move E rfl rfl) ?_
        clear a E;intro a E
        refine st_no E (wf E rfl rfl rfl rfl rfl) rfl rfl ?_
        clear a E;intro a E
        refine st_no E (wf E rfl rfl rfl rfl rfl) rfl rfl ?_
        clear a E;intro a E
        refine sv E rfl rfl rfl (x_pickF E rfl rfl rfl rfl) ?_
        clear a E;intro a E
        refine sv E rfl rfl rfl (x_move E rfl rfl) ?_
        clear a E;intro a E
        refine st_no E (wf E rfl rfl rfl rfl rfl) rfl rfl ?_
        clear a E;intro a E
        refine st_no E (wf E rfl rfl rfl rfl rfl) rfl rfl ?_
        clear a E;intro a E
        refine st_no E (wf E rfl rfl rfl rfl rfl) rfl rfl ?_
        clear a E;intro a E
        refine sv E rfl rfl rfl (x_pickF E rfl rfl rfl rfl) ?_
        clear a E;intro a E
        refine sv E rfl rfl rfl (x_assign E rfl rfl) ?_
        clear a E;intro a E
        refine wpList_nil ?_
        refine q_then ?_
        refine wp_ret ?_
        refine out1 E rfl rfl ?_
        replace H := H.drop 0
        replace H := H.drop 0
        replace H := H.drop 0
        replace H := H.drop 0
        obtain rfl := Option.some.inj hm
        exact ⟨rfl, H.reads (fun r hr => hr)⟩
      ·rw [if_f hb22] at hm
       refine st_no E (wf' E rfl rfl rfl rfl hb22 rfl) rfl rfl ?_
       clear a E;intro a E
       refine st_no E (wf' E rfl rfl rfl rfl hb22 rfl) rfl rfl ?_
       clear a E;intro a E
       refine st_no E (wf' E rfl rfl rfl rfl hb22 rfl) rfl rfl ?_
       clear a E;intro a E
       refine sv E rfl rfl rfl (x_pickF E rfl rfl hb22 rfl) ?_
       clear a E;intro a E
       refine sv E rfl rfl rfl (x_move E rfl rfl) ?_
       clear a E;intro a E
       refine st_no E (wf E rfl rfl rfl rfl rfl) rfl rfl ?_
       clear a E;intro a E
       refine st_no E (wf E rfl rfl rfl rfl rfl) rfl rfl ?_
       clear a E;intro a E
       refine st_no E (wf E rfl rfl rfl rfl rfl) rfl rfl ?_
       clear a E;intro a E
       refine st_no E (wf E rfl rfl rfl rfl rfl) rfl rfl ?_
       clear a E;intro a E
       refine st_no E (wf E rfl rfl rfl rfl rfl) rfl rfl ?_
       clear a E;intro a E
       refine sv E rfl rfl rfl (x_pickF E rfl rfl rfl rfl) ?_
       clear a E;intro a E
       refine sv E rfl rfl rfl (x_move E rfl rfl) ?_
       clear a E;intro a E
       refine st_no E (wf E rfl rfl rfl rfl rfl) rfl rfl ?_
       clear a E;intro a E
       refine st_no E (wf E rfl rfl rfl rfl rfl) rfl rfl ?_
       clear a E;intro a E
       refine sv E rfl rfl rfl (x_pickF E rfl rfl rfl rfl) ?_
       clear a E;intro a E
       refine sv E rfl rfl rfl (x_move E rfl rfl) ?_
       clear a E;intro a E
       refine st_no E (wf E rfl rfl rfl rfl rfl) rfl rfl ?_
       clear a E;intro a E
       refine st_no E (wf E rfl rfl rfl rfl rfl) rfl rfl ?_
       clear a E;intro a E
       refine st_no E (wf E rfl rfl rfl rfl rfl) rfl rfl ?_
       clear a E;intro a E
       refine sv E rfl rfl rfl (x_pickF E rfl rfl rfl rfl) ?_
       clear a E;intro a E
       refine sv E rfl rfl rfl (x_assign E rfl rfl) ?_
       clear a E;intro a E
       refine wpList_nil ?_
       refine q_then ?_
       refine wp_ret ?_
       refine out1 E rfl rfl ?_
       replace H := H.drop 0
       replace H := H.drop 0
       replace H := H.drop 0
       replace H := H.drop 0
       obtain rfl := Option.some.inj hm
       exact ⟨rfl, H.reads (fun r hr => hr)⟩
     ·rw [if_f hb21] at hm
      refine st_no E (wf' E rfl rfl rfl rfl hb21 rfl) rfl rfl ?_
      clear a E;intro a E
      refine st_no E (wf' E rfl rfl rfl rfl hb21 rfl) rfl rfl ?_
      clear a E;intro a E
      refine sv E rfl rfl rfl (x_pickF E rfl rfl hb21 rfl) ?_
      clear a E;intro a E
      refine sv E rfl rfl rfl (x_move E rfl rfl) ?_
      clear a E;intro a E
      refine st_no E (wf E rfl rfl rfl rfl rfl) rfl rfl ?_
      clear a E;intro a E
      refine st_no E (wf E rfl rfl rfl rfl rfl) rfl rfl ?_
      clear a E;intro a E
      refine st_no E (wf E rfl rfl rfl rfl rfl) rfl rfl ?_
      clear a E;intro a E
      refine sv E rfl rfl rfl (x_pickF E rfl rfl rfl rfl) ?_
      clear a E;intro a E
      refine sv E rfl rfl rfl (x_move E rfl rfl) ?_
      clear a E;intro a E
      refine st_no E (wf E rfl rfl rfl rfl rfl) rfl rfl ?_
      clear a E;intro a E
      refine st_no E (wf E rfl rfl rfl rfl rfl) rfl rfl ?_
      clear a E;intro a E
      refine st_no E (wf E rfl rfl rfl rfl rfl) rfl rfl ?_
      clear a E;intro a E
      refine st_no E (wf E rfl rfl rfl rfl rfl) rfl rfl ?_
      clear a E;intro a E
      refine st_no E (wf E rfl rfl rfl rfl rfl) rfl rfl ?_
      clear a E;intro a E
      refine sv E rfl rfl rfl (x_pickF E rfl rfl rfl rfl) ?_
      clear a E;intro a E
      refine sv E rfl rfl rfl (x_move E rfl rfl) ?_
      clear a E;intro a E
      refine st_no E (wf E rfl rfl rfl rfl rfl) rfl rfl ?_
      clear a E;intro a E
      refine st_no E (wf E rfl rfl rfl rfl rfl) rfl rfl ?_
      clear a E;intro a E
      refine sv E rfl rfl rfl (x_pickF E rfl rfl rfl rfl) ?_
      clear a E;intro a E
      refine sv E rfl rfl rfl (x_move E rfl rfl) ?_
      clear a E;intro a E
      refine st_no E (wf E rfl rfl rfl rfl rfl) rfl rfl ?_
      clear a E;intro a E
      refine st_no E (wf E rfl rfl rfl rfl rfl) rfl rfl ?_
      clear a E;intro a E
      refine st_no E (wf E rfl rfl rfl rfl rfl) rfl rfl ?_
      clear a E;intro a E
      refine sv E rfl rfl rfl (x_pickF E rfl rfl rfl rfl) ?_
      clear a E;intro a E
      refine sv E rfl rfl rfl (x_assign E rfl rfl) ?_
      clear a E;intro a E
      refine wpList_nil ?_
      refine q_then ?_
      refine wp_ret ?_
      refine out1 E rfl rfl ?_
      replace H := H.drop 0
      replace H := H.drop 0
      replace H := H.drop 0
      replace H := H.drop 0
      obtain rfl := Option.some.inj hm
      exact ⟨rfl, H.reads (fun r hr => hr)⟩
    ·rw [if_f hb20] at hm
     refine st_no E (wf' E rfl rfl rfl rfl hb20 rfl) rfl rfl ?_
     clear a E;intro a E
     refine st_no E (wf' E rfl rfl rfl rfl hb20 rfl) rfl rfl ?_
     clear a E;intro a E
     refine st_no E (wf' E rfl rfl rfl rfl hb20 rfl) rfl rfl ?_
     clear a E;intro a E
     refine sv E rfl rfl rfl (x_pickF E rfl rfl hb20 rfl) ?_
     clear a E;intro a E
     refine sv E rfl rfl rfl (x_move E rfl rfl) ?_
     clear a E;intro a E
     refine st_no E (wf E rfl rfl rfl rfl rfl) rfl rfl ?_
     clear a E;intro a E
     refine st_no E (wf E rfl rfl rfl rfl rfl) rfl rfl ?_
     clear a E;intro a E
     refine sv E rfl rfl rfl (x_pickF E rfl rfl rfl rfl) ?_
     clear a E;intro a E
     refine sv E rfl rfl rfl (x_move E rfl rfl) ?_
     clear a E;intro a E
     refine st_no E (wf E rfl rfl rfl rfl rfl) rfl rfl ?_
     clear a E;intro a E
     refine st_no E (wf E rfl rfl rfl rfl rfl) rfl rfl ?_
     clear a E;intro a E
     refine st_no E (wf E rfl rfl rfl rfl rfl) rfl rfl ?_
     clear a E;intro a E
     refine sv E rfl rfl rfl (x_pickF E rfl rfl rfl rfl) ?_
     clear a E;intro a E
     refine sv E rfl rfl rfl (x_move E rfl rfl) ?_
     clear a E;intro a E
     refine st_no E (wf E rfl rfl rfl rfl rfl) rfl rfl ?_
     clear a E;intro a E
     refine st_no E (wf E rfl rfl rfl rfl rfl) rfl rfl ?_
     clear a E;intro a E
     refine st_no E (wf E rfl rfl rfl rfl rfl) rfl rfl ?_
     clear a E;intro a E
     refine st_no E (wf E rfl rfl rfl rfl rfl) rfl rfl ?_
     clear a E;intro a E
     refine st_no E (wf E rfl rfl rfl rfl rfl) rfl rfl ?_
     clear a E;intro a E
     refine sv E rfl rfl rfl (x_pickF E rfl rfl rfl rfl) ?_
     clear a E;intro a E
     refine sv E rfl rfl rfl (x_move E rfl rfl) ?_
     clear a E;intro a E
     refine st_no E (wf E rfl rfl rfl rfl rfl) rfl rfl ?_
     clear a E;intro a E
     refine st_no E (wf E rfl rfl rfl rfl rfl) rfl rfl ?_
     clear a E;intro a E
     refine sv E rfl rfl rfl (x_pickF E rfl rfl rfl rfl) ?_
     clear a E;intro a E
     refine sv E rfl rfl rfl (x_move E rfl rfl) ?_
     clear a E;intro a E
     refine st_no E (wf E rfl rfl rfl rfl rfl) rfl rfl ?_
     clear a E;intro a E
     refine st_no E (wf E rfl rfl rfl rfl rfl) rfl rfl ?_
     clear a E;intro a E
     refine st_no E (wf E rfl rfl rfl rfl rfl) rfl rfl ?_
     clear a E;intro a E
     refine sv E rfl rfl rfl (x_pickF E rfl rfl rfl rfl) ?_
     clear a E;intro a E
     refine sv E rfl rfl rfl (x_assign E rfl rfl) ?_
     clear a E;intro a E
     refine wpList_nil ?_
     refine q_then ?_
     refine wp_ret ?_
     refine out1 E rfl rfl ?_
     replace H := H.drop 0
     replace H := H.drop 0
     replace H := H.drop 0
     replace H := H.drop 0
     obtain rfl := Option.some.inj hm
     exact ⟨rfl, H.reads (fun r hr => hr)⟩
   ·rw [if_f hb19] at hm
    refine st_no E (wf' E rfl rfl rfl rfl hb19 rfl) rfl rfl ?_
    clear a E;intro a E
    refine sv E rfl rfl rfl (x_pickF E rfl rfl hb19 rfl) ?_
    clear a E;intro a E
    refine sv E rfl rfl rfl (x_move E rfl rfl) ?_
    clear a E;intro a E
    refine st_no E (wf E rfl rfl rfl rfl rfl) rfl rfl ?_
    clear a E;intro a E
    refine st_no E (wf E rfl rfl rfl rfl rfl) rfl rfl ?_
    clear a E;intro a E
    refine st_no E (wf E rfl rfl rfl rfl rfl) rfl rfl ?_
    clear a E;intro a E
    refine sv E rfl rfl rfl (x_pickF E rfl rfl rfl rfl) ?_
    clear a E;intro a E
    refine sv E rfl rfl rfl (x_move E rfl rfl) ?_
    clear a E;intro a E
    refine st_no E (wf E rfl rfl rfl rfl rfl) rfl rfl ?_
    clear a E;intro a E
    refine st_no E (wf E rfl rfl rfl rfl rfl) rfl rfl ?_
    clear a E;intro a E
    refine sv E rfl rfl rfl (x_pickF E rfl rfl rfl rfl) ?_
    clear a E;intro a E
    refine sv E rfl rfl rfl (x_move E rfl rfl) ?_
    clear a E;intro a E
    refine st_no E (wf E rfl rfl rfl rfl rfl) rfl rfl ?_
    clear a E;intro a E
    refine st_no E (wf E rfl rfl rfl rfl rfl) rfl rfl ?_
    clear a E;intro a E
    refine st_no E (wf E rfl rfl rfl rfl rfl) rfl rfl ?_
    clear a E;intro a E
    refine sv E rfl rfl rfl (x_pickF E rfl rfl rfl rfl) ?_
    clear a E;intro a E
    refine sv E rfl rfl rfl (x_move E rfl rfl) ?_
    clear a E;intro a E
    refine st_no E (wf E rfl rfl rfl rfl rfl) rfl rfl ?_
    clear a E;intro a E
    refine st_no E (wf E rfl rfl rfl rfl rfl) rfl rfl ?_
    clear a E;intro a E
    refine st_no E (wf E rfl rfl rfl rfl rfl) rfl rfl ?_
    clear a E;intro a E
    refine st_no E (wf E rfl rfl rfl rfl rfl) rfl rfl ?_
    clear a E;intro a E
    refine st_no E (wf E rfl rfl rfl rfl rfl) rfl rfl ?_
    clear a E;intro a E
    refine sv E rfl rfl rfl (x_pickF E rfl rfl rfl rfl) ?_
    clear a E;intro a E
    refine sv E rfl rfl rfl (x_move E rfl rfl) ?_
    clear a E;intro a E
    refine st_no E (wf E rfl rfl rfl rfl rfl) rfl rfl ?_
    clear a E;intro a E
    refine st_no E (wf E rfl rfl rfl rfl rfl) rfl rfl ?_
    clear a E;intro a E
    refine sv E rfl rfl rfl (x_pickF E rfl rfl rfl rfl) ?_
    clear a E;intro a E
    refine sv E rfl rfl rfl (x_move E rfl rfl) ?_
    clear a E;intro a E
    refine st_no E (wf E rfl rfl rfl rfl rfl) rfl rfl ?_
    clear a E;intro a E
    refine st_no E (wf E rfl rfl rfl rfl rfl) rfl rfl ?_
    clear a E;intro a E
    refine st_no E (wf E rfl rfl rfl rfl rfl) rfl rfl ?_
    clear a E;intro a E
    refine sv E rfl rfl rfl (x_pickF E rfl rfl rfl rfl) ?_
    clear a E;intro a E
    refine sv E rfl rfl rfl (x_assign E rfl rfl) ?_
    clear a E;intro a E
    refine wpList_nil ?_
    refine q_then ?_
    refine wp_ret ?_
    refine out1 E rfl rfl ?_
    replace H := H.drop 0
    replace H := H.drop 0
    replace H := H.drop 0
    replace H := H.drop 0
    obtain rfl := Option.some.inj hm
    exact ⟨rfl, H.reads (fun r hr => hr)⟩
  ·rw [if_f hb18] at hm
   refine st_no E (wf' E rfl rfl rfl rfl hb18 rfl) rfl rfl ?_
   clear a E;intro a E
   refine sv E rfl rfl rfl (x_pickF E rfl rfl hb18 rfl) ?_
   clear a E;intro a E
   refine sv E rfl rfl rfl (x_move E rfl rfl) ?_
   clear a E;intro a E
   refine st_no E (wf E rfl rfl rfl rfl rfl) rfl rfl ?_
   clear a E;intro a E
   refine sv E rfl rfl rfl (x_pickF E rfl rfl rfl rfl) ?_
   clear a E;intro a E
   refine sv E rfl rfl rfl (x_move E rfl rfl) ?_
   clear a E;intro a E
   refine st_no E (wf E rfl rfl rfl rfl rfl) rfl rfl ?_
   clear a E;intro a E
   refine st_no E (wf E rfl rfl rfl rfl rfl) rfl rfl ?_
   clear a E;intro a E
   refine st_no E (wf E rfl rfl rfl rfl rfl) rfl rfl ?_
   clear a E;intro a E
   refine sv E rfl rfl rfl (x_pickF E rfl rfl rfl rfl) ?_
   clear a E;intro a E
   refine sv E rfl rfl rfl (x_move E rfl rfl) ?_
   clear a E;intro a E
   refine st_no E (wf E rfl rfl rfl rfl rfl) rfl rfl ?_
   clear a E;intro a E
   refine st_no E (wf E rfl rfl rfl rfl rfl) rfl rfl ?_
   clear a E;intro a E
   refine sv E rfl rfl rfl (x_pickF E rfl rfl rfl rfl) ?_
   clear a E;intro a E
   refine sv E rfl rfl rfl (x_move E rfl rfl) ?_
   clear a E;intro a E
   refine st_no E (wf E rfl rfl rfl rfl rfl) rfl rfl ?_
   clear a E;intro a E
   refine st_no E (wf E rfl rfl rfl rfl rfl) rfl rfl ?_
   clear a E;intro a E
   refine st_no E (wf E rfl rfl rfl rfl rfl) rfl rfl ?_
   clear a E;intro a E
   refine sv E rfl rfl rfl (x_pickF E rfl rfl rfl rfl) ?_
   clear a E;intro a E
   refine sv E rfl rfl rfl (x_move E rfl rfl) ?_
   clear a E;intro a E
   refine st_no E (wf E rfl rfl rfl rfl rfl) rfl rfl ?_
   clear a E;intro a E
   refine st_no E (wf E rfl rfl rfl rfl rfl) rfl rfl ?_
   clear a E;intro a E
   refine st_no E (wf E rfl rfl rfl rfl rfl) rfl rfl ?_
   clear a E;intro a E
   refine st_no E (wf E rfl rfl rfl rfl rfl) rfl rfl ?_
   clear a E;intro a E
   refine st_no E (wf E rfl rfl rfl rfl rfl) rfl rfl ?_
   clear a E;intro a E
   refine sv E rfl rfl rfl (x_pickF E rfl rfl rfl rfl) ?_
   clear a E;intro a E
   refine sv E rfl rfl rfl (x_move E rfl rfl) ?_
   clear a E;intro a E
   refine st_no E (wf E rfl rfl rfl rfl rfl) rfl rfl ?_
   clear a E;intro a E
   refine st_no E (wf E rfl rfl rfl rfl rfl) rfl rfl ?_
   clear a E;intro a E
   refine sv E rfl rfl rfl (x_pickF E rfl rfl rfl rfl) ?_
   clear a E;intro a E
   refine sv E rfl rfl rfl (x_move E rfl rfl) ?_
   clear a E;intro a E
   refine st_no E (wf E rfl rfl rfl rfl rfl) rfl rfl ?_
   clear a E;intro a E
   refine st_no E (wf E rfl rfl rfl rfl rfl) rfl rfl ?_
   clear a E;intro a E
   refine st_no E (wf E rfl rfl rfl rfl rfl) rfl rfl ?_
   clear a E;intro a E
   refine sv E rfl rfl rfl (x_pickF E rfl rfl rfl rfl) ?_
   clear a E;intro a E
   refine sv E rfl rfl rfl (x_assign E rfl rfl) ?_
   clear a E;intro a E
   refine wpList_nil ?_
   refine q_then ?_
   refine wp_ret ?_
   refine out1 E rfl rfl ?_
   replace H := H.drop 0
   replace H := H.drop 0
   replace H := H.drop 0
   replace H := H.drop 0
   obtain rfl := Option.some.inj hm
   exact ⟨rfl, H.reads (fun r hr => hr)⟩
 ·rw [if_f hb17] at hm
  refine st_no E (wf' E rfl rfl rfl rfl hb17 rfl) rfl rfl ?_
  clear a E;intro a E
  refine sv E rfl rfl rfl (x_pickF E rfl rfl hb17 rfl) ?_
  clear a E;intro a E
  refine sv E rfl rfl rfl (x_move E rfl rfl) ?_
  clear a E;intro a E
  refine st_no E (wf E rfl rfl rfl rfl rfl) rfl rfl ?_
  clear a E;intro a E
  refine sv E rfl rfl rfl (x_pickF E rfl rfl rfl rfl) ?_
  clear a E;intro a E
  refine sv E rfl rfl rfl (x_move E rfl rfl) ?_
  clear a E;intro a E
  refine st_no E (wf E rfl rfl rfl rfl rfl) rfl rfl ?_
  clear a E;intro a E
  refine sv E rfl rfl rfl (x_pickF E rfl rfl rfl rfl) ?_
  clear a E;intro a E
  refine sv E rfl rfl rfl (x_move E rfl rfl) ?_
  clear a E;intro a E
  refine st_no E (wf E rfl rfl rfl rfl rfl) rfl rfl ?_
  clear a E;intro a E
  refine st_no E (wf E rfl rfl rfl rfl rfl) rfl rfl ?_
  clear a E;intro a E
  refine st_no E (wf E rfl rfl rfl rfl rfl) rfl rfl ?_
  clear a E;intro a E
  refine sv E rfl rfl rfl (x_pickF E rfl rfl rfl rfl) ?_
  clear a E;intro a E
  refine sv E rfl rfl rfl (x_move E rfl rfl) ?_
  clear a E;intro a E
  refine st_no E (wf E rfl rfl rfl rfl rfl) rfl rfl ?_
  clear a E;intro a E
  refine st_no E (wf E rfl rfl rfl rfl rfl) rfl rfl ?_
  clear a E;intro a E
  refine sv E rfl rfl rfl (x_pickF E rfl rfl rfl rfl) ?_
  clear a E;intro a E
  refine sv E rfl rfl rfl (x_move E rfl rfl) ?_
  clear a E;intro a E
  refine st_no E (wf E rfl rfl rfl rfl rfl) rfl rfl ?_
  clear a E;intro a E
  refine st_no E (wf E rfl rfl rfl rfl rfl) rfl rfl ?_
  clear a E;intro a E
  refine st_no E (wf E rfl rfl rfl rfl rfl) rfl rfl ?_
  clear a E;intro a E
  refine sv E rfl rfl rfl (x_pickF E rfl rfl rfl rfl) ?_
  clear a E;intro a E
  refine sv E rfl rfl rfl (x_move E rfl rfl) ?_
  clear a E;intro a E
  refine st_no E (wf E rfl rfl rfl rfl rfl) rfl rfl ?_
  clear a E;intro a E
  refine st_no E (wf E rfl rfl rfl rfl rfl) rfl rfl ?_
  clear a E;intro a E
  refine st_no E (wf E rfl rfl rfl rfl rfl) rfl rfl ?_
  clear a E;intro a E
  refine st_no E (wf E rfl rfl rfl rfl rfl) rfl rfl ?_
  clear a E;intro a E
  refine st_no E (wf E rfl rfl rfl rfl rfl) rfl rfl ?_
  clear a E;intro a E
  refine sv E rfl rfl rfl (x_pickF E rfl rfl rfl rfl) ?_
  clear a E;intro a E
  refine sv E rfl rfl rfl (x_move E rfl rfl) ?_
  clear a E;intro a E
  refine st_no E (wf E rfl rfl rfl rfl rfl) rfl rfl ?_
  clear a E;intro a E
  refine st_no E (wf E rfl rfl rfl rfl rfl) rfl rfl ?_
  clear a E;intro a E
  refine sv E rfl rfl rfl (x_pickF E rfl rfl rfl rfl) ?_
  clear a E;intro a E
  refine sv E rfl rfl rfl (x_move E rfl rfl) ?_
  clear a E;intro a E
  refine st_no E (wf E rfl rfl rfl rfl rfl) rfl rfl ?_
  clear a E;intro a E
  refine st_no E (wf E rfl rfl rfl rfl rfl) rfl rfl ?_
  clear a E;intro a E
  refine st_no E (wf E rfl rfl rfl rfl rfl) rfl rfl ?_
  clear a E;intro a E
  refine sv E rfl rfl rfl (x_pickF E rfl rfl rfl rfl) ?_
  clear a E;intro a E
  refine sv E rfl rfl rfl (x_assign E rfl rfl) ?_
  clear a E;intro a E
  refine wpList_nil ?_
  refine q_then ?_
  refine wp_ret ?_
  refine out1 E rfl rfl ?_
  replace H := H.drop 0
  replace H := H.drop 0
  replace H := H.drop 0
  replace H := H.drop 0
  obtain rfl := Option.some.inj hm
  exact ⟨rfl, H.reads (fun r hr => hr)⟩
end Go.Cb
