/- A function of the program, walked: it comes to its plain function. -/
import Derived.Test.YtbjpjbopfhbkmaaT
import Derived.Test.YtbjpjbopfhbkmaaO8
import Derived.Test.YtbjpjbopfhbkmaaFcantonlaw19great
import Derived.Test.YtbjpjbopfhbkmaaFcantonlaw19head
import Derived.Test.YtbjpjbopfhbkmaaFcantonref19PostDouble
import Derived.Test.YtbjpjbopfhbkmaaFcantonref19PostDrop
import Derived.Test.YtbjpjbopfhbkmaaFcantonref19PostPut
import Derived.Test.YtbjpjbopfhbkmaaFcantonref19PostTake
import Derived.Test.YtbjpjbopfhbkmaaFcantonref19Same
set_option linter.unusedVariables false
set_option linter.unusedSimpArgs false
namespace Go.Cb
open Go.Proofs Go.RowKit
def m_cantonlaw19_PostPlays_j1 (rec_1 : Int → (List S_api_Mail) → (List S_api_Mail) → Option Bool) (x10 : Int) (x17 : (List S_api_Mail)) (l19 : (List S_api_Mail)) : Option Bool :=
  if ((x17.length : Int) != (l19.length : Int)) = true then (some (false)) else (rec_1 (IntKind.i64.wrap (x10 + 1)) x17 l19)
def m_cantonlaw19_PostPlays_j2 (rec_1 : Int → (List S_api_Mail) → (List S_api_Mail) → Option Bool) (x10 : Int) (u31 : post_RTake) (u37 : S_api_Mail × Bool × (List S_api_Mail)) (b41 : Bool) : Option Bool :=
  if b41 = true then (some (false)) else (m_cantonlaw19_PostPlays_j1 rec_1 x10 u31.2 u37.2.2)
def m_cantonlaw19_PostPlays_l1 (l2 : List S_cantonlaw19_Op) (u4 : Bool) : Nat → Int → (List S_api_Mail) → (List S_api_Mail) → Option Bool
  | 0, _, _, _ => none
  | k1 + 1, x10, x11, l13 =>
    if (decide (x10 < (l2.length : Int))) = true then ((idx l2 x10).bind fun x25 => if (x25.What == 2) = true then ((idx l2 x10).bind fun x28 => (post_mTake x11 x28.At).bind fun u31 => (idx l2 x10).bind fun x34 => (m_cantonref19_Post_Take l13 x34.At).bind fun u37 => if (u31.1.2 != u37.2.1) = true then (m_cantonlaw19_PostPlays_j2 (m_cantonlaw19_PostPlays_l1 l2 u4 k1) x10 u31 u37 true) else (m_cantonlaw19_PostPlays_j2 (m_cantonlaw19_PostPlays_l1 l2 u4 k1) x10 u31 u37 (!((u31.1.1.From == u37.1.From) && ((u31.1.1.To == u37.1.To) && (sEq u31.1.1.Data u37.1.Data)))))) else (if (x25.What == 3) = true then ((idx l2 x10).bind fun x46 => (post_mDouble x11 x46.At).bind fun u49 => (idx l2 x10).bind fun x51 => (m_cantonref19_Post_Double l13 x51.At).bind fun u54 => if (u49.1 != u54.1) = true then (some (false)) else (m_cantonlaw19_PostPlays_j1 (m_cantonlaw19_PostPlays_l1 l2 u4 k1) x10 u49.2 u54.2)) else (if (x25.What == 4) = true then ((idx l2 x10).bind fun x57 => (post_mDrop x11 x57.At).bind fun u60 => (idx l2 x10).bind fun x62 => (m_cantonref19_Post_Drop l13 x62.At).bind fun u65 => if (u60.1 != u65.1) = true then (some (false)) else (m_cantonlaw19_PostPlays_j1 (m_cantonlaw19_PostPlays_l1 l2 u4 k1) x10 u60.2 u65.2)) else ((idx l2 x10).bind fun x68 => (post_mPut x11 x68.M).bind fun u72 => (idx l2 x10).bind fun x74 => (m_cantonref19_Post_Put l13 x74.M).bind fun u78 => if (u72.1 != u78.1) = true then (some (false)) else (m_cantonlaw19_PostPlays_j1 (m_cantonlaw19_PostPlays_l1 l2 u4 k1) x10 u72.2 u78.2))))) else (if u4 = true then ((m_cantonref19_Same x11 l13).bind fun u83 => if u83 = true then ((m_cantonref19_Same x11 l13).bind fun u87 => some (u87)) else (some (false))) else (some (false)))
def m_cantonlaw19_PostPlays (l2 : List S_cantonlaw19_Op) : Option Bool :=
  m_cantonlaw19_head.bind fun u4 => (m_cantonlaw19_great l2).bind fun u8 => if u8 = true then (some (u4)) else (m_cantonlaw19_PostPlays_l1 l2 u4 (((l2.length : Int) - 0 : Int).toNat + 1) 0 ([] : List S_api_Mail) [])
set_option maxRecDepth 20000 in
set_option maxHeartbeats 1000000 in
theorem c_cantonlaw19_PostPlays {w : World} {Fo : List Ob} {rs : List Rp} (v1 : Value) (l2 : List S_cantonlaw19_Op) (H : Sep w (Fo) rs) (hr3 : rSl k_cantonlaw19_Op v1 l2 ∈ rs) {r : Bool} (hm : m_cantonlaw19_PostPlays l2 = some r) :
    Calls Try.prog 3 [v1].toArray w (Ret fun v w' => .bool r = v ∧ Sep w' (Fo) (rs)) := by
 unfold m_cantonlaw19_PostPlays at hm
 refine enter Try.func3 rfl Try.ntmps3 rfl fun a E => ?_
 simp only [enum, Nat.reduceAdd] at E
 refine wp_seq ?_
 refine wp_region_lit ?_
 refine sv E rfl rfl rfl (x_assign E rfl rfl) ?_
 clear a E;intro a E
 refine wpList_nil ?_
 refine q_then ?_
 refine wp_seq ?_
 refine wp_region_lit ?_
 obtain ⟨u4, hx5, hm⟩ := bnd hm
 refine st_call E (wn rfl) rfl rfl (x_call E rfl rfl (cf14 _)) (c_cantonlaw19_head H hx5) ?_
 clear E H; clear a; clear w; rintro _ w ⟨rfl, H⟩ a E
 refine sv E rfl rfl rfl (x_assign E rfl rfl) ?_
 clear a E;intro a E
 refine wpList_nil ?_
 refine q_then ?_
 refine wp_seq ?_
 refine wp_region_lit ?_
 refine st_call E (wn rfl) rfl rfl (x_call E rfl rfl (cf15 _)) (post_New H) ?_
 clear E H; clear a; clear w; rintro _ w ⟨p6, rfl, H⟩ a E
 refine sv E rfl rfl rfl (x_assign E rfl rfl) ?_
 clear a E;intro a E
 refine wpList_nil ?_
 refine q_then ?_
 refine wp_seq ?_
 refine wp_region_lit ?_
 refine sv E rfl rfl rfl (x_build E (ps := []) (vs := []) rfl rfl (v := .agg #[.slice none 0 0]) (by kernel_rfl)) ?_
 clear a E;intro a E
 refine st_box E H (wn rfl) rfl rfl (cs := [.slice none 0 0]) rfl rfl rfl ?_
 clear E H; clear a; clear w; intro p7 w a H E
 refine sv E rfl rfl rfl (x_assign E rfl rfl) ?_
 clear a E;intro a E
 refine wpList_nil ?_
 refine q_then ?_
 refine wp_seq ?_
 refine wp_seq ?_
 refine wp_region_lit ?_
 refine sv E rfl rfl rfl (x_move E rfl rfl) ?_
 clear a E;intro a E
 refine sv E rfl rfl rfl (x_bin2 E rfl rfl rfl (v := .bool false) (by kernel_rfl)) ?_
 clear a E;intro a E
 refine sv E rfl rfl rfl (x_move E rfl rfl) ?_
 clear a E;intro a E
 refine st_val E (ws E rfl rfl rfl rfl) rfl rfl (x_move E rfl rfl) ?_
 clear a E;intro a E
 obtain ⟨u8, hx9, hm⟩ := bnd hm
 refine st_call E (ws E rfl rfl rfl rfl) rfl rfl (x_call E rfl rfl (cf16 _)) (c_cantonlaw19_great v1 l2 H hr3 hx9) ?_
 clear E H; clear a; clear w; rintro _ w ⟨rfl, H⟩ a E
 refine sv E rfl rfl rfl (x_pickF E rfl rfl rfl rfl) ?_
 clear a E;intro a E
 refine wpList_nil ?_
 refine q_then ?_
 refine wp_if E rfl ?_ ?_
 ·intro hb
  rw [if_t hb] at hm
  clear hb
  refine wp_seq ?_
  refine wp_region_lit ?_
  refine sv E rfl rfl rfl (x_move E rfl rfl) ?_
  clear a E;intro a E
  refine sv E rfl rfl rfl (x_bin2 E rfl rfl rfl (v := .bool true) (by kernel_rfl)) ?_
  clear a E;intro a E
  refine sv E rfl rfl rfl (x_move E rfl rfl) ?_
  clear a E;intro a E
  refine st_val E (ws E rfl rfl rfl rfl) rfl rfl (x_move E rfl rfl) ?_
  clear a E;intro a E
  refine sv E rfl rfl rfl (x_pickT E rfl rfl rfl rfl) ?_
  clear a E;intro a E
  refine sv E rfl rfl rfl (x_assign E rfl rfl) ?_
  clear a E;intro a E
  refine wpList_nil ?_
  refine q_then ?_
  refine wp_ret ?_
  refine q_thenR ?_
  refine out1 E rfl rfl ?_
  replace H := H.drop 0
  replace H := H.drop 0
  obtain rfl := Option.some.inj hm
  exact ⟨rfl, H.reads (fun r hr => hr)⟩
 ·intro hb
  rw [if_f hb] at hm
  clear hb
  refine wp_skip ?_
  refine q_then ?_
  refine wp_seq ?_
  refine wp_seq ?_
  refine wp_region_lit ?_
  refine sv E rfl rfl rfl (x_assign E rfl rfl) ?_
  clear a E;intro a E
  refine wpList_nil ?_
  refine q_then ?_
  refine wp_block ?_
  refine wp_loop_g (fun k1 a w => ∃ (v12 : Value) (x10 : Int) (x11 : (List S_api_Mail)) (l13 : (List S_api_Mail)) (rs14 : List Rp), Env 155 a [(0, v1), (3, .bool u4), (4, .pointer (some ⟨p6, 0, none⟩)), (5, .pointer (some ⟨p7, 0, none⟩)), (6, .int .i64 x10)] ∧ Sep w (PostO p6 x11 :: Blk p7 29 [v12] :: Row 32 k_api_Mail v12 l13 :: Fo) rs14 ∧ (∀ r, r ∈ rs → r ∈ rs14) ∧ rSl k_cantonlaw19_Op v1 l2 ∈ rs14 ∧ m_cantonlaw19_PostPlays_l1 l2 u4 k1 x10 x11 l13 = some r) (((l2.length : Int) - 0 : Int).toNat + 1) ?_ ?_
  ·replace H := H.nilRow 32 k_api_Mail
   replace H := H.front 0 rfl
   replace H := H.front 1 rfl
   replace H := H.front 2 rfl
   exact ⟨(.slice none 0 0), 0, ([] : List S_api_Mail), [], _, (((((E.nil.keep E 6 rfl).keep E 5 rfl).keep E 4 rfl).keep E 3 rfl).keep E 0 rfl), H, fun r hr => hr, hr3, hm⟩
  ·clear E H hm
   rintro k1 a w ⟨v12, x10, x11, l13, rs14, E, H, hs15, hr16, hm⟩
   cases k1 with
   | zero => exact (none_some hm rfl).elim
   | succ k1 =>
    unfold m_cantonlaw19_PostPlays_l1 at hm
    refine wp_seq ?_
    refine wp_seq ?_
    refine wp_region_lit ?_
    refine sv E rfl rfl rfl (x_move E rfl rfl) ?_
    clear a E;intro a E
    refine sv E rfl rfl rfl (x_move E rfl rfl) ?_
    clear a E;intro a E
    refine sv E rfl rfl rfl (x_lenS E H rfl rfl hr16 Try.underlying22) ?_
    clear a E;intro a E
    refine sv E rfl rfl rfl (x_bin E rfl rfl rfl rfl) ?_
    clear a E;intro a E
    refine wpList_nil ?_
    refine q_then ?_
    refine wp_if E rfl ?_ ?_
    ·intro hb
     rw [if_t hb] at hm
     clear hb
     refine wp_skip ?_
     refine q_then ?_
     refine wp_seq ?_
     refine wp_block ?_
     refine wp_seq_cut (fun a w => ∃ (v18 : Value) (x17 : (List S_api_Mail)) (l19 : (List S_api_Mail)) (rs20 : List Rp), Env 155 a [(0, v1), (3, .bool u4), (4, .pointer (some ⟨p6, 0, none⟩)), (5, .pointer (some ⟨p7, 0, none⟩)), (6, .int .i64 x10)] ∧ Sep w (PostO p6 x17 :: Blk p7 29 [v18] :: Row 32 k_api_Mail v18 l19 :: Fo) rs20 ∧ (∀ r, r ∈ rs → r ∈ rs20) ∧ rSl k_cantonlaw19_Op v1 l2 ∈ rs20 ∧ m_cantonlaw19_PostPlays_j1 (m_cantonlaw19_PostPlays_l1 l2 u4 k1) x10 x17 l19 = some r) ?_ ?_
     ·refine wp_seq ?_
      refine wp_region_lit ?_
      refine sv E rfl rfl rfl (x_move E rfl rfl) ?_
      clear a E;intro a E
      refine sv E rfl rfl rfl (x_move E rfl rfl) ?_
      clear a E;intro a E
      obtain ⟨x25, hx26, hm⟩ := bnd hm
      refine st_ixS E H (wn rfl) rfl rfl rfl rfl rfl hr16 Try.underlying22 sz34 hx26 ?_
      clear E H; clear a; intro q27 a H E
      replace H := H.derive1 (.head _) (rAt (kI .i64) (q27.add 0) x25.What) (fun ok h => k_cantonlaw19_Op_at0 h)
      refine sv E rfl rfl rfl (x_fa E rfl rfl (fa34_0 _ _)) ?_
      clear a E;intro a E
      refine sv E rfl rfl rfl (x_ldA E H rfl rfl (.head _) Try.underlying3 rfl) ?_
      clear a E;intro a E
      refine wpList_nil ?_
      refine q_then ?_
      refine wp_block ?_
      refine wp_seq ?_
      refine wp_region_lit ?_
      refine sv E rfl rfl rfl (x_bin E rfl rfl rfl rfl) ?_
      clear a E;intro a E
      refine sv E rfl rfl rfl (x_assign E rfl rfl) ?_
      clear a E;intro a E
      refine wpList_nil ?_
      refine q_then ?_
      refine wp_if E rfl ?_ ?_
      ·intro hb
       rw [if_t hb] at hm
       clear hb
       refine wp_seq ?_
       refine wp_region_lit ?_
       refine sv E rfl rfl rfl (x_move E rfl rfl) ?_
       clear a E;intro a E
       refine sv E rfl rfl rfl (x_move E rfl rfl) ?_
       clear a E;intro a E
       refine sv E rfl rfl rfl (x_move E rfl rfl) ?_
       clear a E;intro a E
       obtain ⟨x28, hx29, hm⟩ := bnd hm
       refine st_ixS E H (wn rfl) rfl rfl rfl rfl rfl (.tail _ (.tail _ hr16)) Try.underlying22 sz34 hx29 ?_
       clear E H; clear a; intro q30 a H E
       replace H := H.derive1 (.head _) (rAt (kI .i64) (q30.add 4) x28.At) (fun ok h => k_cantonlaw19_Op_at2 h)
       refine sv E rfl rfl rfl (x_fa E rfl rfl (fa34_2 _ _)) ?_
       clear a E;intro a E
       refine sv E rfl rfl rfl (x_ldA E H rfl rfl (.head _) Try.underlying3 rfl) ?_
       clear a E;intro a E
       obtain ⟨u31, hx32, hm⟩ := bnd hm
       refine st_call E (wn rfl) rfl rfl (x_call E rfl rfl (cf17 _)) (post_Take (i := 0) H rfl x28.At hx32) ?_
       clear E H; clear a; clear w; rintro _ w ⟨rfl, H⟩ a E
       replace H : Sep w (PostO p6 u31.2 :: Blk p7 29 [v12] :: Row 32 k_api_Mail v12 l13 :: Fo) _ := H
       refine sv E rfl rfl rfl (x_move E rfl rfl) ?_
       clear a E;intro a E
       refine sv E rfl rfl rfl (x_ext E rfl rfl rfl) ?_
       clear a E;intro a E
       refine sv E rfl rfl rfl (x_ext E rfl rfl rfl) ?_
       clear a E;intro a E
       refine st_alloc E H (wn rfl) rfl rfl (cs := [.int .i64 0, .int .i64 0, .string (ByteArray.mk #[])]) rfl (z := .agg #[.int .i64 0, .int .i64 0, .string ⟨#[]⟩]) (by kernel_rfl) rfl ?_
       clear E H; clear a; clear w; intro p33 w a H E
       refine st_st (i := 0) E H (wn rfl) rfl (us := [.int .i64 u31.1.1.From, .int .i64 u31.1.1.To, .string u31.1.1.Data]) rfl rfl rfl rfl rfl sz32 rfl rfl ?_
       clear H; clear w; intro w H
       replace H : Sep w (Blk p33 32 [.int .i64 u31.1.1.From, .int .i64 u31.1.1.To, .string u31.1.1.Data] :: PostO p6 u31.2 :: Blk p7 29 [v12] :: Row 32 k_api_Mail v12 l13 :: Fo) _ := H
       refine sv E rfl rfl rfl (x_assign E rfl rfl) ?_
       clear a E;intro a E
       refine wpList_nil ?_
       refine q_then ?_
       refine wp_seq ?_
       refine wp_region_lit ?_
       refine sv E rfl rfl rfl (x_move E rfl rfl) ?_
       clear a E;intro a E
       refine sv E rfl rfl rfl (x_move E rfl rfl) ?_
       clear a E;intro a E
       refine sv E rfl rfl rfl (x_move E rfl rfl) ?_
       clear a E;intro a E
       obtain ⟨x34, hx35, hm⟩ := bnd hm
       refine st_ixS E H (wn rfl) rfl rfl rfl rfl rfl (.tail _ (.tail _ (.tail _ (.tail _ hr16)))) Try.underlying22 sz34 hx35 ?_
       clear E H; clear a; intro q36 a H E
       replace H := H.derive1 (.head _) (rAt (kI .i64) (q36.add 4) x34.At) (fun ok h => k_cantonlaw19_Op_at2 h)
       refine sv E rfl rfl rfl (x_fa E rfl rfl (fa34_2 _ _)) ?_
       clear a E;intro a E
       refine sv E rfl rfl rfl (x_ldA E H rfl rfl (.head _) Try.underlying3 rfl) ?_
       clear a E;intro a E
       replace H := H.front 1 rfl
       replace H := H.front 1 rfl
       replace H := H.front 3 rfl
       replace H := H.front 3 rfl
       replace H : Sep w (Blk p7 29 [v12] :: Row 32 k_api_Mail v12 l13 :: Blk p33 32 [.int .i64 u31.1.1.From, .int .i64 u31.1.1.To, .string u31.1.1.Data] :: PostO p6 u31.2 :: Fo) (rAt (kI .i64) (q36.add 4) x34.At :: rAt k_cantonlaw19_Op q36 x34 :: rAt (kI .i64) (q30.add 4) x28.At :: rAt k_cantonlaw19_Op q30 x28 :: rAt (kI .i64) (q27.add 0) x25.What :: rAt k_cantonlaw19_Op q27 x25 :: rs14) := H
       obtain ⟨u37, hx38, hm⟩ := bnd hm
       refine st_call E (wn rfl) rfl rfl (x_call E rfl rfl (cf18 _)) (c_cantonref19_Post_Take p7 v12 l13 x34.At H hx38) ?_
       clear E H; clear a; clear w; rintro _ w ⟨v39, rfl, H⟩ a E
       refine sv E rfl rfl rfl (x_move E rfl rfl) ?_
       clear a E;intro a E
       refine sv E rfl rfl rfl (x_ext E rfl rfl rfl) ?_
       clear a E;intro a E
       refine sv E rfl rfl rfl (x_ext E rfl rfl rfl) ?_
       clear a E;intro a E
       refine st_alloc E H (wn rfl) rfl rfl (cs := [.int .i64 0, .int .i64 0, .string (ByteArray.mk #[])]) rfl (z := .agg #[.int .i64 0, .int .i64 0, .string ⟨#[]⟩]) (by kernel_rfl) rfl ?_
       clear E H; clear a; clear w; intro p40 w a H E
       refine st_st (i := 0) E H (wn rfl) rfl (us := [.int .i64 u37.1.From, .int .i64 u37.1.To, .string u37.1.Data]) rfl rfl rfl rfl rfl sz32 rfl rfl ?_
       clear H; clear w; intro w H
       replace H : Sep w (Blk p40 32 [.int .i64 u37.1.From, .int .i64 u37.1.To, .string u37.1.Data] :: Blk p7 29 [v39] :: Row 32 k_api_Mail v39 u37.2.2 :: Blk p33 32 [.int .i64 u31.1.1.From, .int .i64 u31.1.1.To, .string u31.1.1.Data] :: PostO p6 u31.2 :: Fo) _ := H
       refine sv E rfl rfl rfl (x_assign E rfl rfl) ?_
       clear a E;intro a E
       refine wpList_nil ?_
       refine q_then ?_
       refine wp_seq_cut (fun a w => ∃ (b41 : Bool) (rs42 : List Rp), Env 155 a [(0, v1), (3, .bool u4), (4, .pointer (some ⟨p6, 0, none⟩)), (5, .pointer (some ⟨p7, 0, none⟩)), (6, .int .i64 x10), (89, .bool b41)] ∧ Sep w (PostO p6 u31.2 :: Blk p7 29 [v39] :: Row 32 k_api_Mail v39 u37.2.2 :: Fo) rs42 ∧ (∀ r, r ∈ rs → r ∈ rs42) ∧ rSl k_cantonlaw19_Op v1 l2 ∈ rs42 ∧ m_cantonlaw19_PostPlays_j2 (m_cantonlaw19_PostPlays_l1 l2 u4 k1) x10 u31 u37 b41 = some r) ?_ ?_
       ·refine wp_region_lit ?_
        refine sv E rfl rfl rfl (x_move E rfl rfl) ?_
        clear a E;intro a E
        refine sv E rfl rfl rfl (x_move E rfl rfl) ?_
        clear a E;intro a E
        refine sv E rfl rfl rfl (x_bin2 E rfl rfl rfl (v := .bool (u31.1.2 != u37.2.1)) (by kernel_rfl)) ?_
        clear a E;intro a E
        refine sv E rfl rfl rfl (x_move E rfl rfl) ?_
        clear a E;intro a E
        rcases Bool.eq_false_or_eq_true (u31.1.2 != u37.2.1) with hb45 | hb45
        ·rw [if_t hb45] at hm
         refine st_no E (wf' E rfl rfl rfl rfl hb45 rfl) rfl rfl ?_
         clear a E;intro a E
         refine st_no E (wf' E rfl rfl rfl rfl hb45 rfl) rfl rfl ?_
         clear a E;intro a E
         refine st_no E (wf' E rfl rfl rfl rfl hb45 rfl) rfl rfl ?_
         clear a E;intro a E
         refine sv E rfl rfl rfl (x_pickT E rfl rfl hb45 rfl) ?_
         clear a E;intro a E
         refine wpList_nil ?_
         refine q_then ?_
         replace H := H.drop 0
         replace H := H.drop 2
         replace H := H.front 1 rfl
         replace H := H.front 1 rfl
         replace H := H.front 2 rfl
         exact ⟨true, _, ((((((E.nil.keep E 89 rfl).keep E 6 rfl).keep E 5 rfl).keep E 4 rfl).keep E 3 rfl).keep E 0 rfl), H, fun r hr => .tail _ (.tail _ (.tail _ (.tail _ (.tail _ (.tail _ (hs15 r hr)))))), (.tail _ (.tail _ (.tail _ (.tail _ (.tail _ (.tail _ hr16)))))), hm⟩
        ·rw [if_f hb45] at hm
         refine st_val E (ws' E rfl rfl rfl rfl hb45) rfl rfl (x_ldBN (i := 3) (us := [.int .i64 u31.1.1.From, .int .i64 u31.1.1.To, .string u31.1.1.Data]) E H rfl rfl rfl rfl Try.underlying32 rfl sz32) ?_
         clear a E;intro a E
         refine st_val E (ws' E rfl rfl rfl rfl hb45) rfl rfl (x_ldBN (i := 0) (us := [.int .i64 u37.1.From, .int .i64 u37.1.To, .string u37.1.Data]) E H rfl rfl rfl rfl Try.underlying32 rfl sz32) ?_
         clear a E;intro a E
         refine st_val E (ws' E rfl rfl rfl rfl hb45) rfl rfl (x_bin2 E rfl rfl rfl (v := .bool (!((u31.1.1.From == u37.1.From) && ((u31.1.1.To == u37.1.To) && (sEq u31.1.1.Data u37.1.Data))))) (ne_agg egt32 (eq_struct Try.underlying32 sih32 (eqf_cons (by rfl) (by kernel_rfl) (by kernel_rfl) (eq_int Try.underlying3) (eqf_cons (by rfl) (by kernel_rfl) (by kernel_rfl) (eq_int Try.underlying3) (eqf_last (by rfl) (by kernel_rfl) (by kernel_rfl) (eq_string Try.underlying9))))))) ?_
         clear a E;intro a E
         refine sv E rfl rfl rfl (x_pickF E rfl rfl hb45 rfl) ?_
         clear a E;intro a E
         refine wpList_nil ?_
         refine q_then ?_
         replace H := H.drop 0
         replace H := H.drop 2
         replace H := H.front 1 rfl
         replace H := H.front 1 rfl
         replace H := H.front 2 rfl
         exact ⟨!((u31.1.1.From == u37.1.From) && ((u31.1.1.To == u37.1.To) && (sEq u31.1.1.Data u37.1.Data))), _, ((((((E.nil.keep E 89 rfl).keep E 6 rfl).keep E 5 rfl).keep E 4 rfl).keep E 3 rfl).keep E 0 rfl), H, fun r hr => .tail _ (.tail _ (.tail _ (.tail _ (.tail _ (.tail _ (hs15 r hr)))))), (.tail _ (.tail _ (.tail _ (.tail _ (.tail _ (.tail _ hr16)))))), hm⟩
       ·clear E H hm
        rintro a w ⟨b41, rs42, E, H, hs43, hr44, hm⟩
        unfold m_cantonlaw19_PostPlays_j2 at hm
        refine wp_if E rfl ?_ ?_
        ·intro hb
         rw [if_t hb] at hm
         clear hb
         refine wp_seq ?_
         refine wp_region_lit ?_
         refine sv E rfl rfl rfl (x_assign E rfl rfl) ?_
         clear a E;intro a E
         refine wpList_nil ?_
         refine q_then ?_
         refine wp_ret ?_
         refine q_blkR ?_
         refine q_thenR ?_
         refine q_blkR ?_
         refine q_thenR ?_
         refine q_thenR ?_
         refine q_blkR ?_
         refine q_thenR ?_
         refine out1 E rfl rfl ?_
         replace H := H.drop 0
         replace H := H.drop 0
         replace H := H.drop 0
         obtain rfl := Option.some.inj hm
         exact ⟨rfl, H.reads (fun r hr => hs43 r hr)⟩
        ·intro hb
         rw [if_f hb] at hm
         clear hb
         refine wp_skip ?_
         refine q_blk ?_
         refine q_then ?_
         exact ⟨v39, u31.2, u37.2.2, _, (((((E.nil.keep E 6 rfl).keep E 5 rfl).keep E 4 rfl).keep E 3 rfl).keep E 0 rfl), H, hs43, hr44, hm⟩
      ·intro hb
       rw [if_f hb] at hm
       clear hb
       refine wp_seq ?_
       refine wp_region_lit ?_
       refine sv E rfl rfl rfl (x_bin E rfl rfl rfl rfl) ?_
       clear a E;intro a E
       refine sv E rfl rfl rfl (x_assign E rfl rfl) ?_
       clear a E;intro a E
       refine wpList_nil ?_
       refine q_then ?_
       refine wp_if E rfl ?_ ?_
       ·intro hb
        rw [if_t hb] at hm
        clear hb
        refine wp_seq ?_
        refine wp_region_lit ?_
        refine sv E rfl rfl rfl (x_move E rfl rfl) ?_
        clear a E;intro a E
        refine sv E rfl rfl rfl (x_move E rfl rfl) ?_
        clear a E;intro a E
        refine sv E rfl rfl rfl (x_move E rfl rfl) ?_
        clear a E;intro a E
        obtain ⟨x46, hx47, hm⟩ := bnd hm
        refine st_ixS E H (wn rfl) rfl rfl rfl rfl rfl (.tail _ (.tail _ hr16)) Try.underlying22 sz34 hx47 ?_
        clear E H; clear a; intro q48 a H E
        replace H := H.derive1 (.head _) (rAt (kI .i64) (q48.add 4) x46.At) (fun ok h => k_cantonlaw19_Op_at2 h)
        refine sv E rfl rfl rfl (x_fa E rfl rfl (fa34_2 _ _)) ?_
        clear a E;intro a E
        refine sv E rfl rfl rfl (x_ldA E H rfl rfl (.head _) Try.underlying3 rfl) ?_
        clear a E;intro a E
        obtain ⟨u49, hx50, hm⟩ := bnd hm
        refine st_call E (wn rfl) rfl rfl (x_call E rfl rfl (cf19 _)) (post_Double (i := 0) H rfl x46.At hx50) ?_
        clear E H; clear a; clear w; rintro _ w ⟨rfl, H⟩ a E
        replace H : Sep w (PostO p6 u49.2 :: Blk p7 29 [v12] :: Row 32 k_api_Mail v12 l13 :: Fo) _ := H
        refine sv E rfl rfl rfl (x_assign E rfl rfl) ?_
        clear a E;intro a E
        refine wpList_nil ?_
        refine q_then ?_
        refine wp_seq ?_
        refine wp_region_lit ?_
        refine sv E rfl rfl rfl (x_move E rfl rfl) ?_
        clear a E;intro a E
        refine sv E rfl rfl rfl (x_move E rfl rfl) ?_
        clear a E;intro a E
        refine sv E rfl rfl rfl (x_move E rfl rfl) ?_
        clear a E;intro a E
        obtain ⟨x51, hx52, hm⟩ := bnd hm
        refine st_ixS E H (wn rfl) rfl rfl rfl rfl rfl (.tail _ (.tail _ (.tail _ (.tail _ hr16)))) Try.underlying22 sz34 hx52 ?_
        clear E H; clear a; intro q53 a H E
        replace H := H.derive1 (.head _) (rAt (kI .i64) (q53.add 4) x51.At) (fun ok h => k_cantonlaw19_Op_at2 h)
        refine sv E rfl rfl rfl (x_fa E rfl rfl (fa34_2 _ _)) ?_
        clear a E;intro a E
        refine sv E rfl rfl rfl (x_ldA E H rfl rfl (.head _) Try.underlying3 rfl) ?_
        clear a E;intro a E
        replace H := H.front 0 rfl
        replace H := H.front 2 rfl
        replace H := H.front 2 rfl
        replace H : Sep w (Blk p7 29 [v12] :: Row 32 k_api_Mail v12 l13 :: PostO p6 u49.2 :: Fo) (rAt (kI .i64) (q53.add 4) x51.At :: rAt k_cantonlaw19_Op q53 x51 :: rAt (kI .i64) (q48.add 4) x46.At :: rAt k_cantonlaw19_Op q48 x46 :: rAt (kI .i64) (q27.add 0) x25.What :: rAt k_cantonlaw19_Op q27 x25 :: rs14) := H
        obtain ⟨u54, hx55, hm⟩ := bnd hm
        refine st_call E (wn rfl) rfl rfl (x_call E rfl rfl (cf20 _)) (c_cantonref19_Post_Double p7 v12 l13 x51.At H hx55) ?_
        clear E H; clear a; clear w; rintro _ w ⟨v56, rfl, H⟩ a E
        refine sv E rfl rfl rfl (x_assign E rfl rfl) ?_
        clear a E;intro a E
        refine wpList_nil ?_
        refine q_then ?_
        refine wp_seq ?_
        refine wp_region_lit ?_
        refine sv E rfl rfl rfl (x_move E rfl rfl) ?_
        clear a E;intro a E
        refine sv E rfl rfl rfl (x_move E rfl rfl) ?_
        clear a E;intro a E
        refine sv E rfl rfl rfl (x_bin2 E rfl rfl rfl (v := .bool (u49.1 != u54.1)) (by kernel_rfl)) ?_
        clear a E;intro a E
        refine wpList_nil ?_
        refine q_then ?_
        refine wp_if E rfl ?_ ?_
        ·intro hb
         rw [if_t hb] at hm
         clear hb
         refine wp_seq ?_
         refine wp_region_lit ?_
         refine sv E rfl rfl rfl (x_assign E rfl rfl) ?_
         clear a E;intro a E
         refine wpList_nil ?_
         refine q_then ?_
         refine wp_ret ?_
         refine q_blkR ?_
         refine q_thenR ?_
         refine q_blkR ?_
         refine q_thenR ?_
         refine q_thenR ?_
         refine q_blkR ?_
         refine q_thenR ?_
         refine out1 E rfl rfl ?_
         replace H := H.drop 0
         replace H := H.drop 0
         replace H := H.drop 0
         obtain rfl := Option.some.inj hm
         exact ⟨rfl, H.reads (fun r hr => .tail _ (.tail _ (.tail _ (.tail _ (.tail _ (.tail _ (hs15 r hr)))))))⟩
        ·intro hb
         rw [if_f hb] at hm
         clear hb
         refine wp_skip ?_
         refine q_blk ?_
         refine q_then ?_
         replace H := H.front 1 rfl
         replace H := H.front 1 rfl
         replace H := H.front 2 rfl
         exact ⟨v56, u49.2, u54.2, _, (((((E.nil.keep E 6 rfl).keep E 5 rfl).keep E 4 rfl).keep E 3 rfl).keep E 0 rfl), H, fun r hr => .tail _ (.tail _ (.tail _ (.tail _ (.tail _ (.tail _ (hs15 r hr)))))), (.tail _ (.tail _ (.tail _ (.tail _ (.tail _ (.tail _ hr16)))))), hm⟩
       ·intro hb
        rw [if_f hb] at hm
        clear hb
        refine wp_seq ?_
        refine wp_region_lit ?_
        refine sv E rfl rfl rfl (x_bin E rfl rfl rfl rfl) ?_
        clear a E;intro a E
        refine sv E rfl rfl rfl (x_assign E rfl rfl) ?_
        clear a E;intro a E
        refine wpList_nil ?_
        refine q_then ?_
        refine wp_if E rfl ?_ ?_
        ·intro hb
         rw [if_t hb] at hm
         clear hb
         refine wp_seq ?_
         refine wp_region_lit ?_
         refine sv E rfl rfl rfl (x_move E rfl rfl) ?_
         clear a E;intro a E
         refine sv E rfl rfl rfl (x_move E rfl rfl) ?_
         clear a E;intro a E
         refine sv E rfl rfl rfl (x_move E rfl rfl) ?_
         clear a E;intro a E
         obtain ⟨x57, hx58, hm⟩ := bnd hm
         refine st_ixS E H (wn rfl) rfl rfl rfl rfl rfl (.tail _ (.tail _ hr16)) Try.underlying22 sz34 hx58 ?_
         clear E H; clear a; intro q59 a H E
         replace H := H.derive1 (.head _) (rAt (kI .i64) (q59.add 4) x57.At) (fun ok h => k_cantonlaw19_Op_at2 h)
         refine sv E rfl rfl rfl (x_fa E rfl rfl (fa34_2 _ _)) ?_
         clear a E;intro a E
         refine sv E rfl rfl rfl (x_ldA E H rfl rfl (.head _) Try.underlying3 rfl) ?_
         clear a E;intro a E
         obtain ⟨u60, hx61, hm⟩ := bnd hm
         refine st_call E (wn rfl) rfl rfl (x_call E rfl rfl (cf21 _)) (post_Drop (i := 0) H rfl x57.At hx61) ?_
         clear E H; clear a; clear w; rintro _ w ⟨rfl, H⟩ a E
         replace H : Sep w (PostO p6 u60.2 :: Blk p7 29 [v12] :: Row 32 k_api_Mail v12 l13 :: Fo) _ := H
         refine sv E rfl rfl rfl (x_assign E rfl rfl) ?_
         clear a E;intro a E
         refine wpList_nil ?_
         refine q_then ?_
         refine wp_seq ?_
         refine wp_region_lit ?_
         refine sv E rfl rfl rfl (x_move E rfl rfl) ?_
         clear a E;intro a E
         refine sv E rfl rfl rfl (x_move E rfl rfl) ?_
         clear a E;intro a E
         refine sv E rfl rfl rfl (x_move E rfl rfl) ?_
         clear a E;intro a E
         obtain ⟨x62, hx63, hm⟩ := bnd hm
         refine st_ixS E H (wn rfl) rfl rfl rfl rfl rfl (.tail _ (.tail _ (.tail _ (.tail _ hr16)))) Try.underlying22 sz34 hx63 ?_
         clear E H; clear a; intro q64 a H E
         replace H := H.derive1 (.head _) (rAt (kI .i64) (q64.add 4) x62.At) (fun ok h => k_cantonlaw19_Op_at2 h)
         refine sv E rfl rfl rfl (x_fa E rfl rfl (fa34_2 _ _)) ?_
         clear a E;intro a E
         refine sv E rfl rfl rfl (x_ldA E H rfl rfl (.head _) Try.underlying3 rfl) ?_
         clear a E;intro a E
         replace H := H.front 0 rfl
         replace H := H.front 2 rfl
         replace H := H.front 2 rfl
         replace H : Sep w (Blk p7 29 [v12] :: Row 32 k_api_Mail v12 l13 :: PostO p6 u60.2 :: Fo) (rAt (kI .i64) (q64.add 4) x62.At :: rAt k_cantonlaw19_Op q64 x62 :: rAt (kI .i64) (q59.add 4) x57.At :: rAt k_cantonlaw19_Op q59 x57 :: rAt (kI .i64) (q27.add 0) x25.What :: rAt k_cantonlaw19_Op q27 x25 :: rs14) := H
         obtain ⟨u65, hx66, hm⟩ := bnd hm
         refine st_call E (wn rfl) rfl rfl (x_call E rfl rfl (cf22 _)) (c_cantonref19_Post_Drop p7 v12 l13 x62.At H hx66) ?_
         clear E H; clear a; clear w; rintro _ w ⟨v67, rfl, H⟩ a E
         refine sv E rfl rfl rfl (x_assign E rfl rfl) ?_
         clear a E;intro a E
         refine wpList_nil ?_
         refine q_then ?_
         refine wp_seq ?_
         refine wp_region_lit ?_
         refine sv E rfl rfl rfl (x_move E rfl rfl) ?_
         clear a E;intro a E
         refine sv E rfl rfl rfl (x_move E rfl rfl) ?_
         clear a E;intro a E
         refine sv E rfl rfl rfl (x_bin E rfl rfl rfl rfl) ?_
         clear a E;intro a E
         refine wpList_nil ?_
         refine q_then ?_
         refine wp_if E rfl ?_ ?_
         ·intro hb
          rw [if_t hb] at hm
          clear hb
          refine wp_seq ?_
          refine wp_region_lit ?_
          refine sv E rfl rfl rfl (x_assign E rfl rfl) ?_
          clear a E;intro a E
          refine wpList_nil ?_
          refine q_then ?_
          refine wp_ret ?_
          refine q_blkR ?_
          refine q_thenR ?_
          refine q_blkR ?_
          refine q_thenR ?_
          refine q_thenR ?_
          refine q_blkR ?_
          refine q_thenR ?_
          refine out1 E rfl rfl ?_
          replace H := H.drop 0
          replace H := H.drop 0
          replace H := H.drop 0
          obtain rfl := Option.some.inj hm
          exact ⟨rfl, H.reads (fun r hr => .tail _ (.tail _ (.tail _ (.tail _ (.tail _ (.tail _ (hs15 r hr)))))))⟩
         ·intro hb
          rw [if_f hb] at hm
          clear hb
          refine wp_skip ?_
          refine q_blk ?_
          refine q_then ?_
          replace H := H.front 1 rfl
          replace H := H.front 1 rfl
          replace H := H.front 2 rfl
          exact ⟨v67, u60.2, u65.2, _, (((((E.nil.keep E 6 rfl).keep E 5 rfl).keep E 4 rfl).keep E 3 rfl).keep E 0 rfl), H, fun r hr => .tail _ (.tail _ (.tail _ (.tail _ (.tail _ (.tail _ (hs15 r hr)))))), (.tail _ (.tail _ (.tail _ (.tail _ (.tail _ (.tail _ hr16)))))), hm⟩
        ·intro hb
         rw [if_f hb] at hm
         clear hb
         refine wp_seq ?_
         refine wp_region_lit ?_
         refine sv E rfl rfl rfl (x_move E rfl rfl) ?_
         clear a E;intro a E
         refine sv E rfl rfl rfl (x_move E rfl rfl) ?_
         clear a E;intro a E
         refine sv E rfl rfl rfl (x_move E rfl rfl) ?_
         clear a E;intro a E
         obtain ⟨x68, hx69, hm⟩ := bnd hm
         refine st_ixS E H (wn rfl) rfl rfl rfl rfl rfl (.tail _ (.tail _ hr16)) Try.underlying22 sz34 hx69 ?_
         clear E H; clear a; intro q70 a H E
         replace H := H.derive1 (.head _) (rAt k_api_Mail (q70.add 1) x68.M) (fun ok h => k_cantonlaw19_Op_at1 h)
         refine sv E rfl rfl rfl (x_fa E rfl rfl (fa34_1 _ _)) ?_
         clear a E;intro a E
         refine st_ldN E H (wn rfl) rfl rfl rfl rfl (.head _) Try.underlying32 rfl sz32 ?_
         clear E H; clear a; intro u71 a H E
         obtain ⟨_, hcs⟩ := H.rd (.head _)
         obtain rfl := k_api_Mail_open hcs
         clear hcs
         obtain ⟨u72, hx73, hm⟩ := bnd hm
         refine st_call E (wn rfl) rfl rfl (x_call E rfl rfl (cf23 _)) (post_Put (i := 0) H rfl x68.M hx73) ?_
         clear E H; clear a; clear w; rintro _ w ⟨rfl, H⟩ a E
         replace H : Sep w (PostO p6 u72.2 :: Blk p7 29 [v12] :: Row 32 k_api_Mail v12 l13 :: Fo) _ := H
         refine sv E rfl rfl rfl (x_assign E rfl rfl) ?_
         clear a E;intro a E
         refine wpList_nil ?_
         refine q_then ?_
         refine wp_seq ?_
         refine wp_region_lit ?_
         refine sv E rfl rfl rfl (x_move E rfl rfl) ?_
         clear a E;intro a E
         refine sv E rfl rfl rfl (x_move E rfl rfl) ?_
         clear a E;intro a E
         refine sv E rfl rfl rfl (x_move E rfl rfl) ?_
         clear a E;intro a E
         obtain ⟨x74, hx75, hm⟩ := bnd hm
         refine st_ixS E H (wn rfl) rfl rfl rfl rfl rfl (.tail _ (.tail _ (.tail _ (.tail _ (.tail _ hr16))))) Try.underlying22 sz34 hx75 ?_
         clear E H; clear a; intro q76 a H E
         replace H := H.derive1 (.head _) (rAt k_api_Mail (q76.add 1) x74.M) (fun ok h => k_cantonlaw19_Op_at1 h)
         refine sv E rfl rfl rfl (x_fa E rfl rfl (fa34_1 _ _)) ?_
         clear a E;intro a E
         refine st_ldN E H (wn rfl) rfl rfl rfl rfl (.head _) Try.underlying32 rfl sz32 ?_
         clear E H; clear a; intro u77 a H E
         obtain ⟨_, hcs⟩ := H.rd (.head _)
         obtain rfl := k_api_Mail_open hcs
         clear hcs
         replace H := H.front 0 rfl
         replace H := H.front 2 rfl
         replace H := H.front 2 rfl
         replace H : Sep w (Blk p7 29 [v12] :: Row 32 k_api_Mail v12 l13 :: PostO p6 u72.2 :: Fo) (rCs k_api_Mail [.int .i64 x74.M.From, .int .i64 x74.M.To, .string x74.M.Data] x74.M :: rAt k_api_Mail (q76.add 1) x74.M :: rAt k_cantonlaw19_Op q76 x74 :: rCs k_api_Mail [.int .i64 x68.M.From, .int .i64 x68.M.To, .string x68.M.Data] x68.M :: rAt k_api_Mail (q70.add 1) x68.M :: rAt k_cantonlaw19_Op q70 x68 :: rAt (kI .i64) (q27.add 0) x25.What :: rAt k_cantonlaw19_Op q27 x25 :: rs14) := H
         obtain ⟨u78, hx79, hm⟩ := bnd hm
         refine st_call E (wn rfl) rfl rfl (x_call E rfl rfl (cf24 _)) (c_cantonref19_Post_Put p7 v12 l13 x74.M H hx79) ?_
         clear E H; clear a; clear w; rintro _ w ⟨v80, rfl, H⟩ a E
         refine sv E rfl rfl rfl (x_assign E rfl rfl) ?_
         clear a E;intro a E
         refine wpList_nil ?_
         refine q_then ?_
         refine wp_seq ?_
         refine wp_region_lit ?_
         refine sv E rfl rfl rfl (x_move E rfl rfl) ?_
         clear a E;intro a E
         refine sv E rfl rfl rfl (x_move E rfl rfl) ?_
         clear a E;intro a E
         refine sv E rfl rfl rfl (x_bin2 E rfl rfl rfl (v := .bool (u72.1 != u78.1)) (by kernel_rfl)) ?_
         clear a E;intro a E
         refine wpList_nil ?_
         refine q_then ?_
         refine wp_if E rfl ?_ ?_
         ·intro hb
          rw [if_t hb] at hm
          clear hb
          refine wp_seq ?_
          refine wp_region_lit ?_
          refine sv E rfl rfl rfl (x_assign E rfl rfl) ?_
          clear a E;intro a E
          refine wpList_nil ?_
          refine q_then ?_
          refine wp_ret ?_
          refine q_blkR ?_
          refine q_thenR ?_
          refine q_blkR ?_
          refine q_thenR ?_
          refine q_thenR ?_
          refine q_blkR ?_
          refine q_thenR ?_
          refine out1 E rfl rfl ?_
          replace H := H.drop 0
          replace H := H.drop 0
          replace H := H.drop 0
          obtain rfl := Option.some.inj hm
          exact ⟨rfl, H.reads (fun r hr => .tail _ (.tail _ (.tail _ (.tail _ (.tail _ (.tail _ (.tail _ (.tail _ (hs15 r hr)))))))))⟩
         ·intro hb
          rw [if_f hb] at hm
          clear hb
          refine wp_skip ?_
          refine q_blk ?_
          refine q_then ?_
          replace H := H.front 1 rfl
          replace H := H.front 1 rfl
          replace H := H.front 2 rfl
          exact ⟨v80, u72.2, u78.2, _, (((((E.nil.keep E 6 rfl).keep E 5 rfl).keep E 4 rfl).keep E 3 rfl).keep E 0 rfl), H, fun r hr => .tail _ (.tail _ (.tail _ (.tail _ (.tail _ (.tail _ (.tail _ (.tail _ (hs15 r hr)))))))), (.tail _ (.tail _ (.tail _ (.tail _ (.tail _ (.tail _ (.tail _ (.tail _ hr16)))))))), hm⟩
     ·clear E H hm
      rintro a w ⟨v18, x17, l19, rs20, E, H, hs21, hr22, hm⟩
      unfold m_cantonlaw19_PostPlays_j1 at hm
      refine wp_seq ?_
      obtain ⟨q23, x24, rfl⟩ := H.rowform (i := 2) rfl
      replace H : Sep w (PostO p6 x17 :: Blk p7 29 [(.slice q23 l19.length x24)] :: Row 32 k_api_Mail (.slice q23 l19.length x24) l19 :: Fo) (rs20) := H
      have hI : Still [Blk p7 29 [(.slice q23 l19.length x24)]] [] { w with drawn := w.drawn + 1 } := ⟨_, _, H.kept (Kp.drawn _ w _), (subO_cons (.tail _ (.head _)) (subO_nil)), (sub_nil)⟩
      refine wp_draw _ [(0, 0), (2, 0), (3, 0), (4, 0), (5, 0), (6, 0), (1, 1), (7, 0)] mixedOk (by kernel_rfl) (fun _ _ _ h => False.elim h.2) hI ?_
      replace H := H.kept (Kp.drawn _ w (w.drawn + 1))
      generalize ({ w with drawn := w.drawn + 1 } : World) = w at H hI ⊢
      replace hI : ∃ W, Still [Blk p7 29 [(.slice q23 l19.length x24)]] [] W := ⟨_, hI⟩
      obtain ⟨W0, hI⟩ := hI
      refine fr_val E rfl (wn rfl) rfl rfl (fun w hW => (x_move E rfl rfl)) ?_
      clear a E;intro a E
      refine fr_val E rfl (wn rfl) rfl rfl (fun w hW => (x_move E rfl rfl)) ?_
      clear a E;intro a E
      refine fr_val E rfl (wn rfl) rfl rfl (fun w hW => (x_nil E rfl rfl)) ?_
      clear a E;intro a E
      refine fr_val E rfl (wn rfl) rfl rfl (fun w hW => x_fa E rfl rfl (v := .pointer (some ⟨p7, 0, none⟩)) (fa29_0 _ _)) ?_
      clear a E;intro a E
      refine fr_val E rfl (wn rfl) rfl rfl (fun w hW => x_ld E rfl rfl (ib_ld (.head _) rfl Try.underlying27 rfl w hW)) ?_
      clear a E;intro a E
      refine fr_val E rfl (wn rfl) rfl rfl (fun w hW => x_lenV E rfl rfl Try.underlying27) ?_
      clear a E;intro a E
      refine fr_op rfl ?_
      refine st_call E (wn rfl) rfl rfl (x_call E rfl rfl (cf25 _)) (post_Many (i := 0) H rfl) ?_
      clear E H; clear a; clear w; rintro _ w ⟨rfl, H⟩ a E
      refine wpList_nil ?_
      refine q_then ?_
      replace H : Sep w (PostO p6 x17 :: Blk p7 29 [(.slice q23 l19.length x24)] :: Row 32 k_api_Mail (.slice q23 l19.length x24) l19 :: Fo) (rs20) := H
      refine ⟨⟨_, _, H, (subO_cons (.tail _ (.head _)) (subO_nil)), (sub_nil)⟩, ?_⟩
      refine fr_val E rfl (wn rfl) rfl rfl (fun w hW => (x_bin E rfl rfl rfl rfl)) ?_
      clear a E;intro a E
      refine fr_nil ?_
      clear hI
      refine q_then ?_
      refine wp_if E rfl ?_ ?_
      ·intro hb
       rw [if_t hb] at hm
       clear hb
       refine wp_seq ?_
       refine wp_region_lit ?_
       refine sv E rfl rfl rfl (x_assign E rfl rfl) ?_
       clear a E;intro a E
       refine wpList_nil ?_
       refine q_then ?_
       refine wp_ret ?_
       refine q_blkR ?_
       refine q_thenR ?_
       refine q_thenR ?_
       refine q_blkR ?_
       refine q_thenR ?_
       refine out1 E rfl rfl ?_
       replace H := H.drop 0
       replace H := H.drop 0
       replace H := H.drop 0
       obtain rfl := Option.some.inj hm
       exact ⟨rfl, H.reads (fun r hr => hs21 r hr)⟩
      ·intro hb
       rw [if_f hb] at hm
       clear hb
       refine wp_skip ?_
       refine q_blk ?_
       refine q_then ?_
       refine wp_region_lit ?_
       refine sv E rfl rfl rfl (x_move E rfl rfl) ?_
       clear a E;intro a E
       refine sv E rfl rfl rfl (x_bin E rfl rfl rfl rfl) ?_
       clear a E;intro a E
       refine sv E rfl rfl rfl (x_assign E rfl rfl) ?_
       clear a E;intro a E
       refine wpList_nil ?_
       refine q_then ?_
       exact ⟨k1, Nat.lt_succ_self k1, (.slice q23 l19.length x24), IntKind.i64.wrap (x10 + 1), x17, l19, _, (((((E.nil.keep E 6 rfl).keep E 5 rfl).keep E 4 rfl).keep E 3 rfl).keep E 0 rfl), H, hs21, hr22, hm⟩
    ·intro hb
     rw [if_f hb] at hm
     clear hb
     refine wp_exit ?_
     refine q_thenX ?_
     refine q_thenX ?_
     refine q_hit ?_
     refine q_then ?_
     refine wp_seq ?_
     replace H : Sep w (PostO p6 x11 :: Blk p7 29 [v12] :: Row 32 k_api_Mail v12 l13 :: Fo) (rs14) := H
     have hI : Still [Blk p7 29 [v12]] [] { w with drawn := w.drawn + 1 } := ⟨_, _, H.kept (Kp.drawn _ w _), (subO_cons (.tail _ (.head _)) (subO_nil)), (sub_nil)⟩
     refine wp_draw _ [(0, 0), (1, 0), (2, 0), (4, 0), (5, 0), (6, 0), (7, 0), (3, 1), (8, 1), (9, 0), (10, 0), (11, 0), (13, 0), (14, 0), (15, 0), (16, 0), (12, 1), (17, 1), (18, 0), (19, 2)] mixedOk (by kernel_rfl) (fun _ _ _ h => False.elim h.2) hI ?_
     replace H := H.kept (Kp.drawn _ w (w.drawn + 1))
     generalize ({ w with drawn := w.drawn + 1 } : World) = w at H hI ⊢
     replace hI : ∃ W, Still [Blk p7 29 [v12]] [] W := ⟨_, hI⟩
     obtain ⟨W0, hI⟩ := hI
     refine fr_val E rfl (wn rfl) rfl rfl (fun w hW => (x_move E rfl rfl)) ?_
     clear a E;intro a E
     refine fr_val E rfl (wn rfl) rfl rfl (fun w hW => (x_move E rfl rfl)) ?_
     clear a E;intro a E
     rcases Bool.eq_false_or_eq_true u4 with hb81 | hb81
     ·rw [if_t hb81] at hm
      refine fr_val E rfl (ws' E rfl rfl rfl rfl hb81) rfl rfl (fun w hW => (x_move E rfl rfl)) ?_
      clear a E;intro a E
      refine fr_val E rfl (ws' E rfl rfl rfl rfl hb81) rfl rfl (fun w hW => (x_move E rfl rfl)) ?_
      clear a E;intro a E
      refine fr_val E rfl (ws' E rfl rfl rfl rfl hb81) rfl rfl (fun w hW => (x_nil E rfl rfl)) ?_
      clear a E;intro a E
      refine fr_val E rfl (ws' E rfl rfl rfl rfl hb81) rfl rfl (fun w hW => x_fa E rfl rfl (v := .pointer (some ⟨p7, 0, none⟩)) (fa29_0 _ _)) ?_
      clear a E;intro a E
      refine fr_val E rfl (ws' E rfl rfl rfl rfl hb81) rfl rfl (fun w hW => x_ld E rfl rfl (ib_ld (.head _) rfl Try.underlying27 rfl w hW)) ?_
      clear a E;intro a E
      refine fr_op rfl ?_
      refine st_call E (ws' E rfl rfl rfl rfl hb81) rfl rfl (x_call E rfl rfl (cf27 _)) (post_All (i := 0) H rfl) ?_
      clear E H; clear a; clear w; rintro v82 w H a E
      refine wpList_nil ?_
      refine q_then ?_
      replace H : Sep w (Row 32 k_api_Mail v82 x11 :: PostO p6 x11 :: Blk p7 29 [v12] :: Row 32 k_api_Mail v12 l13 :: Fo) (rs14) := H
      refine ⟨⟨_, _, H, (subO_cons (.tail _ (.tail _ (.head _))) (subO_nil)), (sub_nil)⟩, ?_⟩
      refine fr_op rfl ?_
      replace H := H.thaw (i := 0) rfl
      replace H := H.thaw (i := 2) rfl
      replace H : Sep w (PostO p6 x11 :: Blk p7 29 [v12] :: Fo) (rSl k_api_Mail v12 l13 :: rSl k_api_Mail v82 x11 :: rs14) := H
      obtain ⟨u83, hx84, hm⟩ := bnd hm
      refine st_call E (ws' E rfl rfl rfl rfl hb81) rfl rfl (x_call E rfl rfl (cf26 _)) (c_cantonref19_Same v82 x11 v12 l13 H (.tail _ (.head _)) (.head _) hx84) ?_
      clear E H; clear a; clear w; rintro _ w ⟨rfl, H⟩ a E
      refine wpList_nil ?_
      refine q_then ?_
      replace H : Sep w (PostO p6 x11 :: Blk p7 29 [v12] :: Fo) (rSl k_api_Mail v12 l13 :: rSl k_api_Mail v82 x11 :: rs14) := H
      refine ⟨⟨_, _, H, (subO_cons (.tail _ (.head _)) (subO_nil)), (sub_nil)⟩, ?_⟩
      refine fr_val E rfl (wn rfl) rfl rfl (fun w hW => (x_pickT E rfl rfl hb81 rfl)) ?_
      clear a E;intro a E
      refine fr_val E rfl (wn rfl) rfl rfl (fun w hW => (x_move E rfl rfl)) ?_
      clear a E;intro a E
      rcases Bool.eq_false_or_eq_true u83 with hb85 | hb85
      ·rw [if_t hb85] at hm
       refine fr_val E rfl (ws' E rfl rfl rfl rfl hb85) rfl rfl (fun w hW => (x_move E rfl rfl)) ?_
       clear a E;intro a E
       refine fr_val E rfl (ws' E rfl rfl rfl rfl hb85) rfl rfl (fun w hW => (x_move E rfl rfl)) ?_
       clear a E;intro a E
       refine fr_val E rfl (ws' E rfl rfl rfl rfl hb85) rfl rfl (fun w hW => (x_nil E rfl rfl)) ?_
       clear a E;intro a E
       refine fr_val E rfl (ws' E rfl rfl rfl rfl hb85) rfl rfl (fun w hW => x_fa E rfl rfl (v := .pointer (some ⟨p7, 0, none⟩)) (fa29_0 _ _)) ?_
       clear a E;intro a E
       refine fr_val E rfl (ws' E rfl rfl rfl rfl hb85) rfl rfl (fun w hW => x_ld E rfl rfl (ib_ld (.head _) rfl Try.underlying27 rfl w hW)) ?_
       clear a E;intro a E
       refine fr_op rfl ?_
       refine st_call E (ws' E rfl rfl rfl rfl hb85) rfl rfl (x_call E rfl rfl (cf27 _)) (post_All (i := 0) H rfl) ?_
       clear E H; clear a; clear w; rintro v86 w H a E
       refine wpList_nil ?_
       refine q_then ?_
       replace H : Sep w (Row 32 k_api_Mail v86 x11 :: PostO p6 x11 :: Blk p7 29 [v12] :: Fo) (rSl k_api_Mail v12 l13 :: rSl k_api_Mail v82 x11 :: rs14) := H
       refine ⟨⟨_, _, H, (subO_cons (.tail _ (.tail _ (.head _))) (subO_nil)), (sub_nil)⟩, ?_⟩
       refine fr_op rfl ?_
       replace H := H.thaw (i := 0) rfl
       replace H : Sep w (PostO p6 x11 :: Blk p7 29 [v12] :: Fo) (rSl k_api_Mail v86 x11 :: rSl k_api_Mail v12 l13 :: rSl k_api_Mail v82 x11 :: rs14) := H
       obtain ⟨u87, hx88, hm⟩ := bnd hm
       refine st_call E (ws' E rfl rfl rfl rfl hb85) rfl rfl (x_call E rfl rfl (cf26 _)) (c_cantonref19_Same v86 x11 v12 l13 H (.head _) (.tail _ (.head _)) hx88) ?_
       clear E H; clear a; clear w; rintro _ w ⟨rfl, H⟩ a E
       refine wpList_nil ?_
       refine q_then ?_
       replace H : Sep w (PostO p6 x11 :: Blk p7 29 [v12] :: Fo) (rSl k_api_Mail v86 x11 :: rSl k_api_Mail v12 l13 :: rSl k_api_Mail v82 x11 :: rs14) := H
       refine ⟨⟨_, _, H, (subO_cons (.tail _ (.head _)) (subO_nil)), (sub_nil)⟩, ?_⟩
       refine fr_val E rfl (wn rfl) rfl rfl (fun w hW => (x_pickT E rfl rfl hb85 rfl)) ?_
       clear a E;intro a E
       refine fr_tail rfl ?_
       refine sv E rfl rfl rfl (x_assign E rfl rfl) ?_
       clear a E;intro a E
       refine wpList_nil ?_
       refine q_then ?_
       refine fr_nil ?_
       clear hI
       refine q_then ?_
       refine wp_ret ?_
       refine out1 E rfl rfl ?_
       replace H := H.drop 0
       replace H := H.drop 0
       obtain rfl := Option.some.inj hm
       exact ⟨rfl, H.reads (fun r hr => .tail _ (.tail _ (.tail _ (hs15 r hr))))⟩
      ·rw [if_f hb85] at hm
       refine fr_no E rfl (wf' E rfl rfl rfl rfl hb85 rfl) rfl rfl ?_
       clear a E;intro a E
       refine fr_no E rfl (wf' E rfl rfl rfl rfl hb85 rfl) rfl rfl ?_
       clear a E;intro a E
       refine fr_no E rfl (wf' E rfl rfl rfl rfl hb85 rfl) rfl rfl ?_
       clear a E;intro a E
       refine fr_no E rfl (wf' E rfl rfl rfl rfl hb85 rfl) rfl rfl ?_
       clear a E;intro a E
       refine fr_no E rfl (wf' E rfl rfl rfl rfl hb85 rfl) rfl rfl ?_
       clear a E;intro a E
       refine fr_op rfl ?_
       refine st_no E (wf' E rfl rfl rfl rfl hb85 rfl) rfl rfl ?_
       clear a E;intro a E
       refine wpList_nil ?_
       refine q_then ?_
       replace H : Sep w (PostO p6 x11 :: Blk p7 29 [v12] :: Fo) (rSl k_api_Mail v12 l13 :: rSl k_api_Mail v82 x11 :: rs14) := H
       refine ⟨⟨_, _, H, (subO_cons (.tail _ (.head _)) (subO_nil)), (sub_nil)⟩, ?_⟩
       refine fr_op rfl ?_
       refine st_no E (wf' E rfl rfl rfl rfl hb85 rfl) rfl rfl ?_
       clear a E;intro a E
       refine wpList_nil ?_
       refine q_then ?_
       replace H : Sep w (PostO p6 x11 :: Blk p7 29 [v12] :: Fo) (rSl k_api_Mail v12 l13 :: rSl k_api_Mail v82 x11 :: rs14) := H
       refine ⟨⟨_, _, H, (subO_cons (.tail _ (.head _)) (subO_nil)), (sub_nil)⟩, ?_⟩
       refine fr_val E rfl (wn rfl) rfl rfl (fun w hW => (x_pickF E rfl rfl hb85 rfl)) ?_
       clear a E;intro a E
       refine fr_tail rfl ?_
       refine sv E rfl rfl rfl (x_assign E rfl rfl) ?_
       clear a E;intro a E
       refine wpList_nil ?_
       refine q_then ?_
       refine fr_nil ?_
       clear hI
       refine q_then ?_
       refine wp_ret ?_
       refine out1 E rfl rfl ?_
       replace H := H.drop 0
       replace H := H.drop 0
       obtain rfl := Option.some.inj hm
       exact ⟨rfl, H.reads (fun r hr => .tail _ (.tail _ (hs15 r hr)))⟩
     ·rw [if_f hb81] at hm
      refine fr_no E rfl (wf' E rfl rfl rfl rfl hb81 rfl) rfl rfl ?_
      clear a E;intro a E
      refine fr_no E rfl (wf' E rfl rfl rfl rfl hb81 rfl) rfl rfl ?_
      clear a E;intro a E
      refine fr_no E rfl (wf' E rfl rfl rfl rfl hb81 rfl) rfl rfl ?_
      clear a E;intro a E
      refine fr_no E rfl (wf' E rfl rfl rfl rfl hb81 rfl) rfl rfl ?_
      clear a E;intro a E
      refine fr_no E rfl (wf' E rfl rfl rfl rfl hb81 rfl) rfl rfl ?_
      clear a E;intro a E
      refine fr_op rfl ?_
      refine st_no E (wf' E rfl rfl rfl rfl hb81 rfl) rfl rfl ?_
      clear a E;intro a E
      refine wpList_nil ?_
      refine q_then ?_
      replace H : Sep w (PostO p6 x11 :: Blk p7 29 [v12] :: Row 32 k_api_Mail v12 l13 :: Fo) (rs14) := H
      refine ⟨⟨_, _, H, (subO_cons (.tail _ (.head _)) (subO_nil)), (sub_nil)⟩, ?_⟩
      refine fr_op rfl ?_
      refine st_no E (wf' E rfl rfl rfl rfl hb81 rfl) rfl rfl ?_
      clear a E;intro a E
      refine wpList_nil ?_
      refine q_then ?_
      replace H : Sep w (PostO p6 x11 :: Blk p7 29 [v12] :: Row 32 k_api_Mail v12 l13 :: Fo) (rs14) := H
      refine ⟨⟨_, _, H, (subO_cons (.tail _ (.head _)) (subO_nil)), (sub_nil)⟩, ?_⟩
      refine fr_val E rfl (wn rfl) rfl rfl (fun w hW => (x_pickF E rfl rfl hb81 rfl)) ?_
      clear a E;intro a E
      refine fr_val E rfl (wn rfl) rfl rfl (fun w hW => (x_move E rfl rfl)) ?_
      clear a E;intro a E
      refine fr_no E rfl (wf E rfl rfl rfl rfl rfl) rfl rfl ?_
      clear a E;intro a E
      refine fr_no E rfl (wf E rfl rfl rfl rfl rfl) rfl rfl ?_
      clear a E;intro a E
      refine fr_no E rfl (wf E rfl rfl rfl rfl rfl) rfl rfl ?_
      clear a E;intro a E
      refine fr_no E rfl (wf E rfl rfl rfl rfl rfl) rfl rfl ?_
      clear a E;intro a E
      refine fr_no E rfl (wf E rfl rfl rfl rfl rfl) rfl rfl ?_
      clear a E;intro a E
      refine fr_op rfl ?_
      refine st_no E (wf E rfl rfl rfl rfl rfl) rfl rfl ?_
      clear a E;intro a E
      refine wpList_nil ?_
      refine q_then ?_
      replace H : Sep w (PostO p6 x11 :: Blk p7 29 [v12] :: Row 32 k_api_Mail v12 l13 :: Fo) (rs14) := H
      refine ⟨⟨_, _, H, (subO_cons (.tail _ (.head _)) (subO_nil)), (sub_nil)⟩, ?_⟩
      refine fr_op rfl ?_
      refine st_no E (wf E rfl rfl rfl rfl rfl) rfl rfl ?_
      clear a E;intro a E
      refine wpList_nil ?_
      refine q_then ?_
      replace H : Sep w (PostO p6 x11 :: Blk p7 29 [v12] :: Row 32 k_api_Mail v12 l13 :: Fo) (rs14) := H
      refine ⟨⟨_, _, H, (subO_cons (.tail _ (.head _)) (subO_nil)), (sub_nil)⟩, ?_⟩
      refine fr_val E rfl (wn rfl) rfl rfl (fun w hW => (x_pickF E rfl rfl rfl rfl)) ?_
      clear a E;intro a E
      refine fr_tail rfl ?_
      refine sv E rfl rfl rfl (x_assign E rfl rfl) ?_
      clear a E;intro a E
      refine wpList_nil ?_
      refine q_then ?_
      refine fr_nil ?_
      clear hI
      refine q_then ?_
      refine wp_ret ?_
      refine out1 E rfl rfl ?_
      replace H := H.drop 0
      replace H := H.drop 0
      replace H := H.drop 0
      obtain rfl := Option.some.inj hm
      exact ⟨rfl, H.reads (fun r hr => hs15 r hr)⟩
end Go.Cb
