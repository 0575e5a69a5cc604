/- Functions of the program, walked: each comes to its plain function. -/
import Derived.Test.YtidapdacihcckaaGreatDoorKte1
import Derived.Test.YtidapdacihcckaaGreatDoorN1te
import Derived.Test.YtidapdacihcckaaGreatDoorN3te
import Derived.Test.YtidapdacihcckaaGreatDoorN4te
set_option linter.unusedVariables false
set_option linter.unusedSimpArgs false
namespace Go.Cb
open Go.Proofs Go.RowKit
def m_cantonref06_Right_j2 (rec_1 : Int → Option Bool) (x8 : Int) : Option Bool :=
  rec_1 (IntKind.i64.wrap (x8 + 1))
def m_cantonref06_Right_j4 (rec_1 : Int → Option Bool) (x8 : Int) (b29 : Bool) : Option Bool :=
  if b29 = true then (some (false)) else (m_cantonref06_Right_j2 rec_1 x8)
def m_cantonref06_Right_j3 (rec_1 : Int → Option Bool) (x8 : Int) (x15 : S_api_Node) (l2 : List S_api_Node) (b20 : Bool) : Option Bool :=
  if b20 = true then (some (false)) else (if (x8 == 0) = true then (m_cantonref06_Right_j2 rec_1 x8) else ((m_cantonref01_Parent x15.Path).bind fun u24 => (m_cantonref06_Find l2 u24.1).bind fun u26 => (idx l2 (IntKind.i64.wrap (x8 - 1))).bind fun x34 => if (!(sLt x34.Path x15.Path)) = true then (m_cantonref06_Right_j4 rec_1 x8 true) else (if (!u24.2) = true then (m_cantonref06_Right_j4 rec_1 x8 true) else (if (!u26.2) = true then (m_cantonref06_Right_j4 rec_1 x8 true) else (m_cantonref06_Right_j4 rec_1 x8 (u26.1.Owner != 0))))))
def m_cantonref06_Right_l1 (l2 : List S_api_Node) : Nat → Int → Option Bool
  | 0, _ => none
  | k1 + 1, x8 =>
    if (decide (x8 < (l2.length : Int))) = true then ((idx l2 x8).bind fun x15 => if (decide ((x15.Data.size : Int) > 256)) = true then (m_cantonref06_Right_j3 (m_cantonref06_Right_l1 l2 k1) x8 x15 l2 true) else (if (decide (x15.Version < 0)) = true then (m_cantonref06_Right_j3 (m_cantonref06_Right_l1 l2 k1) x8 x15 l2 true) else (if (decide (x15.Version > 281474976710656)) = true then (m_cantonref06_Right_j3 (m_cantonref06_Right_l1 l2 k1) x8 x15 l2 true) else (if (decide (x15.Turn < 0)) = true then (m_cantonref06_Right_j3 (m_cantonref06_Right_l1 l2 k1) x8 x15 l2 true) else (if (decide (x15.Turn > 10000)) = true then (m_cantonref06_Right_j3 (m_cantonref06_Right_l1 l2 k1) x8 x15 l2 true) else (if (decide (x15.Owner < 0)) = true then (m_cantonref06_Right_j3 (m_cantonref06_Right_l1 l2 k1) x8 x15 l2 true) else (if (decide (x15.Owner > 1099511627776)) = true then (m_cantonref06_Right_j3 (m_cantonref06_Right_l1 l2 k1) x8 x15 l2 true) else (if (x15.Owner != 0) = true then (m_cantonref06_Right_j3 (m_cantonref06_Right_l1 l2 k1) x8 x15 l2 (x15.Turn != 0)) else (m_cantonref06_Right_j3 (m_cantonref06_Right_l1 l2 k1) x8 x15 l2 false))))))))) else (some (true))
def m_cantonref06_Right_j1 (l2 : List S_api_Node) (b4 : Bool) : Option Bool :=
  if b4 = true then (some (false)) else (m_cantonref06_Right_l1 l2 (((l2.length : Int) - 0 : Int).toNat + 1) 0)
def m_cantonref06_Right (l2 : List S_api_Node) : Option Bool :=
  if ((l2.length : Int) == 0) = true then (m_cantonref06_Right_j1 l2 true) else (if (decide ((l2.length : Int) > 512)) = true then (m_cantonref06_Right_j1 l2 true) else ((idx l2 0).bind fun x54 => if (!(sEq x54.Path (ByteArray.mk #[47]))) = true then (m_cantonref06_Right_j1 l2 true) else ((idx l2 0).bind fun x58 => m_cantonref06_Right_j1 l2 (x58.Owner != 0))))
set_option maxRecDepth 20000 in
set_option maxHeartbeats 1000000 in
theorem c_cantonref06_Right {w : World} {Fo : List Ob} {rs : List Rp} (v1 : Value) (l2 : List S_api_Node) (H : Sep w (Fo) rs) (hr3 : rSl k_api_Node v1 l2 ∈ rs) {r : Bool} (hm : m_cantonref06_Right l2 = some r) :
    Calls Tryz.prog 12 [v1].toArray w (Ret fun v w' => .bool r = v ∧ Sep w' (Fo) (rs)) := by
 unfold m_cantonref06_Right at hm
 refine enter Tryz.func12 rfl Tryz.ntmps12 rfl fun a E => ?_
 simp only [enum, Nat.reduceAdd] at E
 refine wp_seq ?_
 refine wp_region_lit ?_
 refine sv E rfl rfl rfl (x_assign E rfl rfl) ?_
 clear a E;intro a E
 refine wpList_nil ?_
 refine q_then ?_
 refine wp_seq ?_
 refine wp_seq_cut (fun a w => ∃ (b4 : Bool) (rs5 : List Rp), Env 121 a [(0, v1), (30, .bool b4)] ∧ Sep w (Fo) rs5 ∧ (∀ r, r ∈ rs → r ∈ rs5) ∧ rSl k_api_Node v1 l2 ∈ rs5 ∧ m_cantonref06_Right_j1 l2 b4 = some r) ?_ ?_
 ·refine wp_region_lit ?_
  refine sv E rfl rfl rfl (x_move E rfl rfl) ?_
  clear a E;intro a E
  refine sv E rfl rfl rfl (x_lenS E H rfl rfl hr3 Tryz.underlying22) ?_
  clear a E;intro a E
  refine sv E rfl rfl rfl (x_bin E rfl rfl rfl rfl) ?_
  clear a E;intro a E
  refine sv E rfl rfl rfl (x_move E rfl rfl) ?_
  clear a E;intro a E
  rcases Bool.eq_false_or_eq_true ((l2.length : Int) == 0) with hb52 | hb52
  ·rw [if_t hb52] at hm
   refine st_no E (wf' E rfl rfl rfl rfl hb52 rfl) rfl rfl ?_
   clear a E;intro a E
   refine st_no E (wf' E rfl rfl rfl rfl hb52 rfl) rfl rfl ?_
   clear a E;intro a E
   refine st_no E (wf' E rfl rfl rfl rfl hb52 rfl) rfl rfl ?_
   clear a E;intro a E
   refine sv E rfl rfl rfl (x_pickT E rfl rfl hb52 rfl) ?_
   clear a E;intro a E
   refine sv E rfl rfl rfl (x_move E rfl rfl) ?_
   clear a E;intro a E
   refine st_no E (wf E rfl rfl rfl rfl rfl) rfl rfl ?_
   clear a E;intro a E
   refine st_no E (wf E rfl rfl rfl rfl rfl) rfl rfl ?_
   clear a E;intro a E
   refine st_no E (wf E rfl rfl rfl rfl rfl) rfl rfl ?_
   clear a E;intro a E
   refine st_no E (wf E rfl rfl rfl rfl rfl) rfl rfl ?_
   clear a E;intro a E
   refine st_no E (wf E rfl rfl rfl rfl rfl) rfl rfl ?_
   clear a E;intro a E
   refine sv E rfl rfl rfl (x_pickT E rfl rfl rfl rfl) ?_
   clear a E;intro a E
   refine sv E rfl rfl rfl (x_move E rfl rfl) ?_
   clear a E;intro a E
   refine st_no E (wf E rfl rfl rfl rfl rfl) rfl rfl ?_
   clear a E;intro a E
   refine st_no E (wf E rfl rfl rfl rfl rfl) rfl rfl ?_
   clear a E;intro a E
   refine st_no E (wf E rfl rfl rfl rfl rfl) rfl rfl ?_
   clear a E;intro a E
   refine st_no E (wf E rfl rfl rfl rfl rfl) rfl rfl ?_
   clear a E;intro a E
   refine st_no E (wf E rfl rfl rfl rfl rfl) rfl rfl ?_
   clear a E;intro a E
   refine sv E rfl rfl rfl (x_pickT E rfl rfl rfl rfl) ?_
   clear a E;intro a E
   refine wpList_nil ?_
   refine q_then ?_
   exact ⟨true, _, ((E.nil.keep E 30 rfl).keep E 0 rfl), H, fun r hr => hr, hr3, hm⟩
  ·rw [if_f hb52] at hm
   refine st_val E (ws' E rfl rfl rfl rfl hb52) rfl rfl (x_move E rfl rfl) ?_
   clear a E;intro a E
   refine st_val E (ws' E rfl rfl rfl rfl hb52) rfl rfl (x_lenS E H rfl rfl hr3 Tryz.underlying22) ?_
   clear a E;intro a E
   refine st_val E (ws' E rfl rfl rfl rfl hb52) rfl rfl (x_bin E rfl rfl rfl rfl) ?_
   clear a E;intro a E
   refine sv E rfl rfl rfl (x_pickF E rfl rfl hb52 rfl) ?_
   clear a E;intro a E
   refine sv E rfl rfl rfl (x_move E rfl rfl) ?_
   clear a E;intro a E
   rcases Bool.eq_false_or_eq_true (decide ((l2.length : Int) > 512)) with hb53 | hb53
   ·rw [if_t hb53] at hm
    refine st_no E (wf' E rfl rfl rfl rfl hb53 rfl) rfl rfl ?_
    clear a E;intro a E
    refine st_no E (wf' E rfl rfl rfl rfl hb53 rfl) rfl rfl ?_
    clear a E;intro a E
    refine st_no E (wf' E rfl rfl rfl rfl hb53 rfl) rfl rfl ?_
    clear a E;intro a E
    refine st_no E (wf' E rfl rfl rfl rfl hb53 rfl) rfl rfl ?_
    clear a E;intro a E
    refine st_no E (wf' E rfl rfl rfl rfl hb53 rfl) rfl rfl ?_
    clear a E;intro a E
    refine sv E rfl rfl rfl (x_pickT E rfl rfl hb53 rfl) ?_
    clear a E;intro a E
    refine sv E rfl rfl rfl (x_move E rfl rfl) ?_
    clear a E;intro a E
    refine st_no E (wf E rfl rfl rfl rfl rfl) rfl rfl ?_
    clear a E;intro a E
    refine st_no E (wf E rfl rfl rfl rfl rfl) rfl rfl ?_
    clear a E;intro a E
    refine st_no E (wf E rfl rfl rfl rfl rfl) rfl rfl ?_
    clear a E;intro a E
    refine st_no E (wf E rfl rfl rfl rfl rfl) rfl rfl ?_
    clear a E;intro a E
    refine st_no E (wf E rfl rfl rfl rfl rfl) rfl rfl ?_
    clear a E;intro a E
    refine sv E rfl rfl rfl (x_pickT E rfl rfl rfl rfl) ?_
    clear a E;intro a E
    refine wpList_nil ?_
    refine q_then ?_
    exact ⟨true, _, ((E.nil.keep E 30 rfl).keep E 0 rfl), H, fun r hr => hr, hr3, hm⟩
   ·rw [if_f hb53] at hm
    refine st_val E (ws' E rfl rfl rfl rfl hb53) rfl rfl (x_move E rfl rfl) ?_
    clear a E;intro a E
    obtain ⟨x54, hx55, hm⟩ := bnd hm
    refine st_ixS E H (ws' E rfl rfl rfl rfl hb53) rfl rfl rfl rfl rfl hr3 Tryz.underlying22 sz35 hx55 ?_
    clear E H; clear a; intro q56 a H E
    replace H := H.derive1 (.head _) (rAt kS (q56.add 0) x54.Path) (fun ok h => k_api_Node_at0 h)
    refine st_val E (ws' E rfl rfl rfl rfl hb53) rfl rfl (x_fa E rfl rfl (fa35_0 _ _)) ?_
    clear a E;intro a E
    refine st_val E (ws' E rfl rfl rfl rfl hb53) rfl rfl (x_ldA E H rfl rfl (.head _) Tryz.underlying9 rfl) ?_
    clear a E;intro a E
    refine st_val E (ws' E rfl rfl rfl rfl hb53) rfl rfl (x_str E rfl rfl rfl rfl) ?_
    clear a E;intro a E
    refine sv E rfl rfl rfl (x_pickF E rfl rfl hb53 rfl) ?_
    clear a E;intro a E
    refine sv E rfl rfl rfl (x_move E rfl rfl) ?_
    clear a E;intro a E
    rcases Bool.eq_false_or_eq_true (!(sEq x54.Path (ByteArray.mk #[47]))) with hb57 | hb57
    ·rw [if_t hb57] at hm
     refine st_no E (wf' E rfl rfl rfl rfl hb57 rfl) rfl rfl ?_
     clear a E;intro a E
     refine st_no E (wf' E rfl rfl rfl rfl hb57 rfl) rfl rfl ?_
     clear a E;intro a E
     refine st_no E (wf' E rfl rfl rfl rfl hb57 rfl) rfl rfl ?_
     clear a E;intro a E
     refine st_no E (wf' E rfl rfl rfl rfl hb57 rfl) rfl rfl ?_
     clear a E;intro a E
     refine st_no E (wf' E rfl rfl rfl rfl hb57 rfl) rfl rfl ?_
     clear a E;intro a E
     refine sv E rfl rfl rfl (x_pickT E rfl rfl hb57 rfl) ?_
     clear a E;intro a E
     refine wpList_nil ?_
     refine q_then ?_
     exact ⟨true, _, ((E.nil.keep E 30 rfl).keep E 0 rfl), H, fun r hr => .tail _ (.tail _ (hr)), (.tail _ (.tail _ hr3)), hm⟩
    ·rw [if_f hb57] at hm
     refine st_val E (ws' E rfl rfl rfl rfl hb57) rfl rfl (x_move E rfl rfl) ?_
     clear a E;intro a E
     obtain ⟨x58, hx59, hm⟩ := bnd hm
     refine st_ixS E H (ws' E rfl rfl rfl rfl hb57) rfl rfl rfl rfl rfl (.tail _ (.tail _ hr3)) Tryz.underlying22 sz35 hx59 ?_
     clear E H; clear a; intro q60 a H E
     replace H := H.derive1 (.head _) (rAt (kI .i64) (q60.add 4) x58.Owner) (fun ok h => k_api_Node_at4 h)
     refine st_val E (ws' E rfl rfl rfl rfl hb57) rfl rfl (x_fa E rfl rfl (fa35_4 _ _)) ?_
     clear a E;intro a E
     refine st_val E (ws' E rfl rfl rfl rfl hb57) rfl rfl (x_ldA E H rfl rfl (.head _) Tryz.underlying2 rfl) ?_
     clear a E;intro a E
     refine st_val E (ws' E rfl rfl rfl rfl hb57) rfl rfl (x_bin E rfl rfl rfl rfl) ?_
     clear a E;intro a E
     refine sv E rfl rfl rfl (x_pickF E rfl rfl hb57 rfl) ?_
     clear a E;intro a E
     refine wpList_nil ?_
     refine q_then ?_
     exact ⟨x58.Owner != 0, _, ((E.nil.keep E 30 rfl).keep E 0 rfl), H, fun r hr => .tail _ (.tail _ (.tail _ (.tail _ (hr)))), (.tail _ (.tail _ (.tail _ (.tail _ hr3)))), hm⟩
 ·clear E H hm
  rintro a w ⟨b4, rs5, E, H, hs6, hr7, hm⟩
  unfold m_cantonref06_Right_j1 at hm
  refine wp_if E rfl ?_ ?_
  ·intro hb
   rw [if_t hb] at hm
   clear hb
   refine wp_seq ?_
   refine wp_region_lit ?_
   refine sv E rfl rfl rfl (x_assign E rfl rfl) ?_
   clear a E;intro a E
   refine wpList_nil ?_
   refine q_then ?_
   refine wp_ret ?_
   refine q_thenR ?_
   refine out1 E rfl rfl ?_
   obtain rfl := Option.some.inj hm
   exact ⟨rfl, H.reads (fun r hr => hs6 r hr)⟩
  ·intro hb
   rw [if_f hb] at hm
   clear hb
   refine wp_skip ?_
   refine q_then ?_
   refine wp_seq ?_
   refine wp_seq ?_
   refine wp_region_lit ?_
   refine sv E rfl rfl rfl (x_assign E rfl rfl) ?_
   clear a E;intro a E
   refine wpList_nil ?_
   refine q_then ?_
   refine wp_block ?_
   refine wp_loop_g (fun k1 a w => ∃ (x8 : Int) (rs9 : List Rp), Env 121 a [(0, v1), (3, .int .i64 x8)] ∧ Sep w (Fo) rs9 ∧ (∀ r, r ∈ rs → r ∈ rs9) ∧ rSl k_api_Node v1 l2 ∈ rs9 ∧ m_cantonref06_Right_l1 l2 k1 x8 = some r) (((l2.length : Int) - 0 : Int).toNat + 1) ?_ ?_
   ·exact ⟨0, _, ((E.nil.keep E 3 rfl).keep E 0 rfl), H, hs6, hr7, hm⟩
   ·clear E H hm
    rintro k1 a w ⟨x8, rs9, E, H, hs10, hr11, hm⟩
    cases k1 with
    | zero => exact (none_some hm rfl).elim
    | succ k1 =>
     unfold m_cantonref06_Right_l1 at hm
     refine wp_seq ?_
     refine wp_seq ?_
     refine wp_region_lit ?_
     refine sv E rfl rfl rfl (x_move E rfl rfl) ?_
     clear a E;intro a E
     refine sv E rfl rfl rfl (x_move E rfl rfl) ?_
     clear a E;intro a E
     refine sv E rfl rfl rfl (x_lenS E H rfl rfl hr11 Tryz.underlying22) ?_
     clear a E;intro a E
     refine sv E rfl rfl rfl (x_bin E rfl rfl rfl rfl) ?_
     clear a E;intro a E
     refine wpList_nil ?_
     refine q_then ?_
     refine wp_if E rfl ?_ ?_
     ·intro hb
      rw [if_t hb] at hm
      clear hb
      refine wp_skip ?_
      refine q_then ?_
      refine wp_seq_cut (fun a w => ∃ (rs12 : List Rp), Env 121 a [(0, v1), (3, .int .i64 x8)] ∧ Sep w (Fo) rs12 ∧ (∀ r, r ∈ rs → r ∈ rs12) ∧ rSl k_api_Node v1 l2 ∈ rs12 ∧ m_cantonref06_Right_j2 (m_cantonref06_Right_l1 l2 k1) x8 = some r) ?_ ?_
      ·refine wp_block ?_
       refine wp_seq ?_
       refine wp_region_lit ?_
       refine sv E rfl rfl rfl (x_move E rfl rfl) ?_
       clear a E;intro a E
       refine sv E rfl rfl rfl (x_move E rfl rfl) ?_
       clear a E;intro a E
       obtain ⟨x15, hx16, hm⟩ := bnd hm
       refine st_ixS E H (wn rfl) rfl rfl rfl rfl rfl hr11 Tryz.underlying22 sz35 hx16 ?_
       clear E H; clear a; intro q17 a H E
       refine st_ldN E H (wn rfl) rfl rfl rfl rfl (.head _) Tryz.underlying35 rfl sz35 ?_
       clear E H; clear a; intro u18 a H E
       obtain ⟨_, hcs⟩ := H.rd (.head _)
       obtain rfl := k_api_Node_open hcs
       clear hcs
       refine st_alloc E H (wn rfl) rfl rfl (cs := [.string (ByteArray.mk #[]), .string (ByteArray.mk #[]), .int .i64 0, .int .i64 0, .int .i64 0]) rfl (z := .agg #[.string ⟨#[]⟩, .string ⟨#[]⟩, .int .i64 0, .int .i64 0, .int .i64 0]) (by kernel_rfl) rfl ?_
       clear E H; clear a; clear w; intro p19 w a H E
       refine st_st (i := 0) E H (wn rfl) rfl (us := [.string x15.Path, .string x15.Data, .int .i64 x15.Version, .int .i64 x15.Turn, .int .i64 x15.Owner]) rfl rfl rfl rfl rfl sz35 rfl rfl ?_
       clear H; clear w; intro w H
       replace H : Sep w (Blk p19 35 [.string x15.Path, .string x15.Data, .int .i64 x15.Version, .int .i64 x15.Turn, .int .i64 x15.Owner] :: Fo) _ := H
       refine wpList_nil ?_
       refine q_then ?_
       refine wp_seq ?_
       refine wp_seq_cut (fun a w => ∃ (b20 : Bool) (rs21 : List Rp), Env 121 a [(0, v1), (3, .int .i64 x8), (4, .pointer (some ⟨p19, 0, none⟩)), (84, .bool b20)] ∧ Sep w (Blk p19 35 [.string x15.Path, .string x15.Data, .int .i64 x15.Version, .int .i64 x15.Turn, .int .i64 x15.Owner] :: Fo) rs21 ∧ (∀ r, r ∈ rs → r ∈ rs21) ∧ rSl k_api_Node v1 l2 ∈ rs21 ∧ m_cantonref06_Right_j3 (m_cantonref06_Right_l1 l2 k1) x8 x15 l2 b20 = some r) ?_ ?_
       ·refine wp_region_lit ?_
        refine sv E rfl rfl rfl (x_fa E rfl rfl (v := .pointer (some ⟨p19, 1, none⟩)) (fa35_1 _ _)) ?_
        clear a E;intro a E
        refine sv E rfl rfl rfl (x_ldB (i := 0) E H rfl rfl rfl rfl Tryz.underlying9 rfl) ?_
        clear a E;intro a E
        refine sv E rfl rfl rfl (x_lenStr E rfl rfl Tryz.underlying9) ?_
        clear a E;intro a E
        refine sv E rfl rfl rfl (x_bin E rfl rfl rfl rfl) ?_
        clear a E;intro a E
        refine sv E rfl rfl rfl (x_move E rfl rfl) ?_
        clear a E;intro a E
        rcases Bool.eq_false_or_eq_true (decide ((x15.Data.size : Int) > 256)) with hb44 | hb44
        ·rw [if_t hb44] at hm
         refine st_no E (wf' E rfl rfl rfl rfl hb44 rfl) rfl rfl ?_
         clear a E;intro a E
         refine st_no E (wf' E rfl rfl rfl rfl hb44 rfl) rfl rfl ?_
         clear a E;intro a E
         refine st_no E (wf' E rfl rfl rfl rfl hb44 rfl) rfl rfl ?_
         clear a E;intro a E
         refine sv E rfl rfl rfl (x_pickT E rfl rfl hb44 rfl) ?_
         clear a E;intro a E
         refine sv E rfl rfl rfl (x_move E rfl rfl) ?_
         clear a E;intro a E
         refine st_no E (wf E rfl rfl rfl rfl rfl) rfl rfl ?_
         clear a E;intro a E
         refine st_no E (wf E rfl rfl rfl rfl rfl) rfl rfl ?_
         clear a E;intro a E
         refine st_no E (wf E rfl rfl rfl rfl rfl) rfl rfl ?_
         clear a E;intro a E
         refine sv E rfl rfl rfl (x_pickT E rfl rfl rfl rfl) ?_
         clear a E;intro a E
         refine sv E rfl rfl rfl (x_move E rfl rfl) ?_
         clear a E;intro a E
         refine st_no E (wf E rfl rfl rfl rfl rfl) rfl rfl ?_
         clear a E;intro a E
         refine st_no E (wf E rfl rfl rfl rfl rfl) rfl rfl ?_
         clear a E;intro a E
         refine st_no E (wf E rfl rfl rfl rfl rfl) rfl rfl ?_
         clear a E;intro a E
         refine sv E rfl rfl rfl (x_pickT E rfl rfl rfl rfl) ?_
         clear a E;intro a E
         refine sv E rfl rfl rfl (x_move E rfl rfl) ?_
         clear a E;intro a E
         refine st_no E (wf E rfl rfl rfl rfl rfl) rfl rfl ?_
         clear a E;intro a E
         refine st_no E (wf E rfl rfl rfl rfl rfl) rfl rfl ?_
         clear a E;intro a E
         refine st_no E (wf E rfl rfl rfl rfl rfl) rfl rfl ?_
         clear a E;intro a E
         refine sv E rfl rfl rfl (x_pickT E rfl rfl rfl rfl) ?_
         clear a E;intro a E
         refine sv E rfl rfl rfl (x_move E rfl rfl) ?_
         clear a E;intro a E
         refine st_no E (wf E rfl rfl rfl rfl rfl) rfl rfl ?_
         clear a E;intro a E
         refine st_no E (wf E rfl rfl rfl rfl rfl) rfl rfl ?_
         clear a E;intro a E
         refine st_no E (wf E rfl rfl rfl rfl rfl) rfl rfl ?_
         clear a E;intro a E
         refine sv E rfl rfl rfl (x_pickT E rfl rfl rfl rfl) ?_
         clear a E;intro a E
         refine sv E rfl rfl rfl (x_move E rfl rfl) ?_
         clear a E;intro a E
         refine st_no E (wf E rfl rfl rfl rfl rfl) rfl rfl ?_
         clear a E;intro a E
         refine st_no E (wf E rfl rfl rfl rfl rfl) rfl rfl ?_
         clear a E;intro a E
         refine st_no E (wf E rfl rfl rfl rfl rfl) rfl rfl ?_
         clear a E;intro a E
         refine sv E rfl rfl rfl (x_pickT E rfl rfl rfl rfl) ?_
         clear a E;intro a E
         refine sv E rfl rfl rfl (x_move E rfl rfl) ?_
         clear a E;intro a E
         refine st_no E (wf E rfl rfl rfl rfl rfl) rfl rfl ?_
         clear a E;intro a E
         refine st_no E (wf E rfl rfl rfl rfl rfl) rfl rfl ?_
         clear a E;intro a E
         refine st_no E (wf E rfl rfl rfl rfl rfl) rfl rfl ?_
         clear a E;intro a E
         refine st_no E (wf E rfl rfl rfl rfl rfl) rfl rfl ?_
         clear a E;intro a E
         refine st_no E (wu E rfl rfl rfl rfl) rfl rfl ?_
         clear a E;intro a E
         refine st_no E (wu E rfl rfl rfl rfl) rfl rfl ?_
         clear a E;intro a E
         refine st_no E (wu E rfl rfl rfl rfl) rfl rfl ?_
         clear a E;intro a E
         refine st_no E (wf E rfl rfl rfl rfl rfl) rfl rfl ?_
         clear a E;intro a E
         refine sv E rfl rfl rfl (x_pickT E rfl rfl rfl rfl) ?_
         clear a E;intro a E
         refine wpList_nil ?_
         refine q_then ?_
         exact ⟨true, _, ((((E.nil.keep E 84 rfl).keep E 4 rfl).keep E 3 rfl).keep E 0 rfl), H, fun r hr => .tail _ (.tail _ (hs10 r hr)), (.tail _ (.tail _ hr11)), hm⟩
        ·rw [if_f hb44] at hm
         refine st_val E (ws' E rfl rfl rfl rfl hb44) rfl rfl (x_fa E rfl rfl (v := .pointer (some ⟨p19, 2, none⟩)) (fa35_2 _ _)) ?_
         clear a E;intro a E
         refine st_val E (ws' E rfl rfl rfl rfl hb44) rfl rfl (x_ldB (i := 0) E H rfl rfl rfl rfl Tryz.underlying2 rfl) ?_
         clear a E;intro a E
         refine st_val E (ws' E rfl rfl rfl rfl hb44) rfl rfl (x_bin E rfl rfl rfl rfl) ?_
         clear a E;intro a E
         refine sv E rfl rfl rfl (x_pickF E rfl rfl hb44 rfl) ?_
         clear a E;intro a E
         refine sv E rfl rfl rfl (x_move E rfl rfl) ?_
         clear a E;intro a E
         rcases Bool.eq_false_or_eq_true (decide (x15.Version < 0)) with hb45 | hb45
         ·rw [if_t hb45] at hm
          refine st_no E (wf' E rfl rfl rfl rfl hb45 rfl) rfl rfl ?_
          clear a E;intro a E
          refine st_no E (wf' E rfl rfl rfl rfl hb45 rfl) rfl rfl ?_
          clear a E;intro a E
          refine st_no E (wf' E rfl rfl rfl rfl hb45 rfl) rfl rfl ?_
          clear a E;intro a E
          refine sv E rfl rfl rfl (x_pickT E rfl rfl hb45 rfl) ?_
          clear a E;intro a E
          refine sv E rfl rfl rfl (x_move E rfl rfl) ?_
          clear a E;intro a E
          refine st_no E (wf E rfl rfl rfl rfl rfl) rfl rfl ?_
          clear a E;intro a E
          refine st_no E (wf E rfl rfl rfl rfl rfl) rfl rfl ?_
          clear a E;intro a E
          refine st_no E (wf E rfl rfl rfl rfl rfl) rfl rfl ?_
          clear a E;intro a E
          refine sv E rfl rfl rfl (x_pickT E rfl rfl rfl rfl) ?_
          clear a E;intro a E
          refine sv E rfl rfl rfl (x_move E rfl rfl) ?_
          clear a E;intro a E
          refine st_no E (wf E rfl rfl rfl rfl rfl) rfl rfl ?_
          clear a E;intro a E
          refine st_no E (wf E rfl rfl rfl rfl rfl) rfl rfl ?_
          clear a E;intro a E
          refine st_no E (wf E rfl rfl rfl rfl rfl) rfl rfl ?_
          clear a E;intro a E
          refine sv E rfl rfl rfl (x_pickT E rfl rfl rfl rfl) ?_
          clear a E;intro a E
          refine sv E rfl rfl rfl (x_move E rfl rfl) ?_
          clear a E;intro a E
          refine st_no E (wf E rfl rfl rfl rfl rfl) rfl rfl ?_
          clear a E;intro a E
          refine st_no E (wf E rfl rfl rfl rfl rfl) rfl rfl ?_
          clear a E;intro a E
          refine st_no E (wf E rfl rfl rfl rfl rfl) rfl rfl ?_
          clear a E;intro a E
          refine sv E rfl rfl rfl (x_pickT E rfl rfl rfl rfl) ?_
          clear a E;intro a E
          refine sv E rfl rfl rfl (x_move E rfl rfl) ?_
          clear a E;intro a E
          refine st_no E (wf E rfl rfl rfl rfl rfl) rfl rfl ?_
          clear a E;intro a E
          refine st_no E (wf E rfl rfl rfl rfl rfl) rfl rfl ?_
          clear a E;intro a E
          refine st_no E (wf E rfl rfl rfl rfl rfl) rfl rfl ?_
          clear a E;intro a E
          refine sv E rfl rfl rfl (x_pickT E rfl rfl rfl rfl) ?_
          clear a E;intro a E
          refine sv E rfl rfl rfl (x_move E rfl rfl) ?_
          clear a E;intro a E
          refine st_no E (wf E rfl rfl rfl rfl rfl) rfl rfl ?_
          clear a E;intro a E
          refine st_no E (wf E rfl rfl rfl rfl rfl) rfl rfl ?_
          clear a E;intro a E
          refine st_no E (wf E rfl rfl rfl rfl rfl) rfl rfl ?_
          clear a E;intro a E
          refine st_no E (wf E rfl rfl rfl rfl rfl) rfl rfl ?_
          clear a E;intro a E
          refine st_no E (wu E rfl rfl rfl rfl) rfl rfl ?_
          clear a E;intro a E
          refine st_no E (wu E rfl rfl rfl rfl) rfl rfl ?_
          clear a E;intro a E
          refine st_no E (wu E rfl rfl rfl rfl) rfl rfl ?_
          clear a E;intro a E
          refine st_no E (wf E rfl rfl rfl rfl rfl) rfl rfl ?_
          clear a E;intro a E
          refine sv E rfl rfl rfl (x_pickT E rfl rfl rfl rfl) ?_
          clear a E;intro a E
          refine wpList_nil ?_
          refine q_then ?_
          exact ⟨true, _, ((((E.nil.keep E 84 rfl).keep E 4 rfl).keep E 3 rfl).keep E 0 rfl), H, fun r hr => .tail _ (.tail _ (hs10 r hr)), (.tail _ (.tail _ hr11)), hm⟩
         ·rw [if_f hb45] at hm
          refine st_val E (ws' E rfl rfl rfl rfl hb45) rfl rfl (x_fa E rfl rfl (v := .pointer (some ⟨p19, 2, none⟩)) (fa35_2 _ _)) ?_
          clear a E;intro a E
          refine st_val E (ws' E rfl rfl rfl rfl hb45) rfl rfl (x_ldB (i := 0) E H rfl rfl rfl rfl Tryz.underlying2 rfl) ?_
          clear a E;intro a E
          refine st_val E (ws' E rfl rfl rfl rfl hb45) rfl rfl (x_bin E rfl rfl rfl rfl) ?_
          clear a E;intro a E
          refine sv E rfl rfl rfl (x_pickF E rfl rfl hb45 rfl) ?_
          clear a E;intro a E
          refine sv E rfl rfl rfl (x_move E rfl rfl) ?_
          clear a E;intro a E
          rcases Bool.eq_false_or_eq_true (decide (x15.Version > 281474976710656)) with hb46 | hb46
          ·rw [if_t hb46] at hm
           refine st_no E (wf' E rfl rfl rfl rfl hb46 rfl) rfl rfl ?_
           clear a E;intro a E
           refine st_no E (wf' E rfl rfl rfl rfl hb46 rfl) rfl rfl ?_
           clear a E;intro a E
           refine st_no E (wf' E rfl rfl rfl rfl hb46 rfl) rfl rfl ?_
           clear a E;intro a E
           refine sv E rfl rfl rfl (x_pickT E rfl rfl hb46 rfl) ?_
           clear a E;intro a E
           refine sv E rfl rfl rfl (x_move E rfl rfl) ?_
           clear a E;intro a E
           refine st_no E (wf E rfl rfl rfl rfl rfl) rfl rfl ?_
           clear a E;intro a E
           refine st_no E (wf E rfl rfl rfl rfl rfl) rfl rfl ?_
           clear a E;intro a E
           refine st_no E (wf E rfl rfl rfl rfl rfl) rfl rfl ?_
           clear a E;intro a E
           refine sv E rfl rfl rfl (x_pickT E rfl rfl rfl rfl) ?_
           clear a E;intro a E
           refine sv E rfl rfl rfl (x_move E rfl rfl) ?_
           clear a E;intro a E
           refine st_no E (wf E rfl rfl rfl rfl rfl) rfl rfl ?_
           clear a E;intro a E
           refine st_no E (wf E rfl rfl rfl rfl rfl) rfl rfl ?_
           clear a E;intro a E
           refine st_no E (wf E rfl rfl rfl rfl rfl) rfl rfl ?_
           clear a E;intro a E
           refine sv E rfl rfl rfl (x_pickT E rfl rfl rfl rfl) ?_
           clear a E;intro a E
           refine sv E rfl rfl rfl (x_move E rfl rfl) ?_
           clear a E;intro a E
           refine st_no E (wf E rfl rfl rfl rfl rfl) rfl rfl ?_
           clear a E;intro a E
           refine st_no E (wf E rfl rfl rfl rfl rfl) rfl rfl ?_
           clear a E;intro a E
           refine st_no E (wf E rfl rfl rfl rfl rfl) rfl rfl ?_
           clear a E;intro a E
           refine sv E rfl rfl rfl (x_pickT E rfl rfl rfl rfl) ?_
           clear a E;intro a E
           refine sv E rfl rfl rfl (x_move E rfl rfl) ?_
           clear a E;intro a E
           refine st_no E (wf E rfl rfl rfl rfl rfl) rfl rfl ?_
           clear a E;intro a E
           refine st_no E (wf E rfl rfl rfl rfl rfl) rfl rfl ?_
           clear a E;intro a E
           refine st_no E (wf E rfl rfl rfl rfl rfl) rfl rfl ?_
           clear a E;intro a E
           refine st_no E (wf E rfl rfl rfl rfl rfl) rfl rfl ?_
           clear a E;intro a E
           refine st_no E (wu E rfl rfl rfl rfl) rfl rfl ?_
           clear a E;intro a E
           refine st_no E (wu E rfl rfl rfl rfl) rfl rfl ?_
           clear a E;intro a E
           refine st_no E (wu E rfl rfl rfl rfl) rfl rfl ?_
           clear a E;intro a E
           refine st_no E (wf E rfl rfl rfl rfl rfl) rfl rfl ?_
           clear a E;intro a E
           refine sv E rfl rfl rfl (x_pickT E rfl rfl rfl rfl) ?_
           clear a E;intro a E
           refine wpList_nil ?_
           refine q_then ?_
           exact ⟨true, _, ((((E.nil.keep E 84 rfl).keep E 4 rfl).keep E 3 rfl).keep E 0 rfl), H, fun r hr => .tail _ (.tail _ (hs10 r hr)), (.tail _ (.tail _ hr11)), hm⟩
          ·rw [if_f hb46] at hm
           refine st_val E (ws' E rfl rfl rfl rfl hb46) rfl rfl (x_fa E rfl rfl (v := .pointer (some ⟨p19, 3, none⟩)) (fa35_3 _ _)) ?_
           clear a E;intro a E
           refine st_val E (ws' E rfl rfl rfl rfl hb46) rfl rfl (x_ldB (i := 0) E H rfl rfl rfl rfl Tryz.underlying2 rfl) ?_
           clear a E;intro a E
           refine st_val E (ws' E rfl rfl rfl rfl hb46) rfl rfl (x_bin E rfl rfl rfl rfl) ?_
           clear a E;intro a E
           refine sv E rfl rfl rfl (x_pickF E rfl rfl hb46 rfl) ?_
           clear a E;intro a E
           refine sv E rfl rfl rfl (x_move E rfl rfl) ?_
           clear a E;intro a E
           rcases Bool.eq_false_or_eq_true (decide (x15.Turn < 0)) with hb47 | hb47
           ·rw [if_t hb47] at hm
            refine st_no E (wf' E rfl rfl rfl rfl hb47 rfl) rfl rfl ?_
            clear a E;intro a E
            refine st_no E (wf' E rfl rfl rfl rfl hb47 rfl) rfl rfl ?_
            clear a E;intro a E
            refine st_no E (wf' E rfl rfl rfl rfl hb47 rfl) rfl rfl ?_
            clear a E;intro a E
            refine sv E rfl rfl rfl (x_pickT E rfl rfl hb47 rfl) ?_
            clear a E;intro a E
            refine sv E rfl rfl rfl (x_move E rfl rfl) ?_
            clear a E;intro a E
            refine st_no E (wf E rfl rfl rfl rfl rfl) rfl rfl ?_
            clear a E;intro a E
            refine st_no E (wf E rfl rfl rfl rfl rfl) rfl rfl ?_
            clear a E;intro a E
            refine st_no E (wf E rfl rfl rfl rfl rfl) rfl rfl ?_
            clear a E;intro a E
            refine sv E rfl rfl rfl (x_pickT E rfl rfl rfl rfl) ?_
            clear a E;intro a E
            refine sv E rfl rfl rfl (x_move E rfl rfl) ?_
            clear a E;intro a E
            refine st_no E (wf E rfl rfl rfl rfl rfl) rfl rfl ?_
            clear a E;intro a E
            refine st_no E (wf E rfl rfl rfl rfl rfl) rfl rfl ?_
            clear a E;intro a E
            refine st_no E (wf E rfl rfl rfl rfl rfl) rfl rfl ?_
            clear a E;intro a E
            refine sv E rfl rfl rfl (x_pickT E rfl rfl rfl rfl) ?_
            clear a E;intro a E
            refine sv E rfl rfl rfl (x_move E rfl rfl) ?_
            clear a E;intro a E
            refine st_no E (wf E rfl rfl rfl rfl rfl) rfl rfl ?_
            clear a E;intro a E
            refine st_no E (wf E rfl rfl rfl rfl rfl) rfl rfl ?_
            clear a E;intro a E
            refine st_no E (wf E rfl rfl rfl rfl rfl) rfl rfl ?_
            clear a E;intro a E
            refine st_no E (wf E rfl rfl rfl rfl rfl) rfl rfl ?_
            clear a E;intro a E
            refine st_no E (wu E rfl rfl rfl rfl) rfl rfl ?_
            clear a E;intro a E
            refine st_no E (wu E rfl rfl rfl rfl) rfl rfl ?_
            clear a E;intro a E
            refine st_no E (wu E rfl rfl rfl rfl) rfl rfl ?_
            clear a E;intro a E
            refine st_no E (wf E rfl rfl rfl rfl rfl) rfl rfl ?_
            clear a E;intro a E
            refine sv E rfl rfl rfl (x_pickT E rfl rfl rfl rfl) ?_
            clear a E;intro a E
            refine wpList_nil ?_
            refine q_then ?_
            exact ⟨true, _, ((((E.nil.keep E 84 rfl).keep E 4 rfl).keep E 3 rfl).keep E 0 rfl), H, fun r hr => .tail _ (.tail _ (hs10 r hr)), (.tail _ (.tail _ hr11)), hm⟩
           ·rw [if_f hb47] at hm
            refine st_val E (ws' E rfl rfl rfl rfl hb47) rfl rfl (x_fa E rfl rfl (v := .pointer (some ⟨p19, 3, none⟩)) (fa35_3 _ _)) ?_
            clear a E;intro a E
            refine st_val E (ws' E rfl rfl rfl rfl hb47) rfl rfl (x_ldB (i := 0) E H rfl rfl rfl rfl Tryz.underlying2 rfl) ?_
            clear a E;intro a E
            refine st_val E (ws' E rfl rfl rfl rfl hb47) rfl rfl (x_bin E rfl rfl rfl rfl) ?_
            clear a E;intro a E
            refine sv E rfl rfl rfl (x_pickF E rfl rfl hb47 rfl) ?_
            clear a E;intro a E
            refine sv E rfl rfl rfl (x_move E rfl rfl) ?_
            clear a E;intro a E
            rcases Bool.eq_false_or_eq_true (decide (x15.Turn > 10000)) with hb48 | hb48
            ·rw [if_t hb48] at hm
             refine st_no E (wf' E rfl rfl rfl rfl hb48 rfl) rfl rfl ?_
             clear a E;intro a E
             refine st_no E (wf' E rfl rfl rfl rfl hb48 rfl) rfl rfl ?_
             clear a E;intro a E
             refine st_no E (wf' E rfl rfl rfl rfl hb48 rfl) rfl rfl ?_
             clear a E;intro a E
             refine sv E rfl rfl rfl (x_pickT E rfl rfl hb48 rfl) ?_
             clear a E;intro a E
             refine sv E rfl rfl rfl (x_move E rfl rfl) ?_
             clear a E;intro a E
             refine st_no E (wf E rfl rfl rfl rfl rfl) rfl rfl ?_
             clear a E;intro a E
             refine st_no E (wf E rfl rfl rfl rfl rfl) rfl rfl ?_
             clear a E;intro a E
             refine st_no E (wf E rfl rfl rfl rfl rfl) rfl rfl ?_
             clear a E;intro a E
             refine sv E rfl rfl rfl (x_pickT E rfl rfl rfl rfl) ?_
             clear a E;intro a E
             refine sv E rfl rfl rfl (x_move E rfl rfl) ?_
             clear a E;intro a E
             refine st_no E (wf E rfl rfl rfl rfl rfl) rfl rfl ?_
             clear a E;intro a E
             refine st_no E (wf E rfl rfl rfl rfl rfl) rfl rfl ?_
             clear a E;intro a E
             refine st_no E (wf E rfl rfl rfl rfl rfl) rfl rfl ?_
             clear a E;intro a E
             refine st_no E (wf E rfl rfl rfl rfl rfl) rfl rfl ?_
             clear a E;intro a E
             refine st_no E (wu E rfl rfl rfl rfl) rfl rfl ?_
             clear a E;intro a E
             refine st_no E (wu E rfl rfl rfl rfl) rfl rfl ?_
             clear a E;intro a E
             refine st_no E (wu E rfl rfl rfl rfl) rfl rfl ?_
             clear a E;intro a E
             refine st_no E (wf E rfl rfl rfl rfl rfl) rfl rfl ?_
             clear a E;intro a E
             refine sv E rfl rfl rfl (x_pickT E rfl rfl rfl rfl) ?_
             clear a E;intro a E
             refine wpList_nil ?_
             refine q_then ?_
             exact ⟨true, _, ((((E.nil.keep E 84 rfl).keep E 4 rfl).keep E 3 rfl).keep E 0 rfl), H, fun r hr => .tail _ (.tail _ (hs10 r hr)), (.tail _ (.tail _ hr11)), hm⟩
            ·rw [if_f hb48] at hm
             refine st_val E (ws' E rfl rfl rfl rfl hb48) rfl rfl (x_fa E rfl rfl (v := .pointer (some ⟨p19, 4, none⟩)) (fa35_4 _ _)) ?_
             clear a E;intro a E
             refine st_val E (ws' E rfl rfl rfl rfl hb48) rfl rfl (x_ldB (i := 0) E H rfl rfl rfl rfl Tryz.underlying2 rfl) ?_
             clear a E;intro a E
             refine st_val E (ws' E rfl rfl rfl rfl hb48) rfl rfl (x_bin E rfl rfl rfl rfl) ?_
             clear a E;intro a E
             refine sv E rfl rfl rfl (x_pickF E rfl rfl hb48 rfl) ?_
             clear a E;intro a E
             refine sv E rfl rfl rfl (x_move E rfl rfl) ?_
             clear a E;intro a E
             rcases Bool.eq_false_or_eq_true (decide (x15.Owner < 0)) with hb49 | hb49
             ·rw [if_t hb49] at hm
              refine st_no E (wf' E rfl rfl rfl rfl hb49 rfl) rfl rfl ?_
              clear a E;intro a E
              refine st_no E (wf' E rfl rfl rfl rfl hb49 rfl) rfl rfl ?_
              clear a E;intro a E
              refine st_no E (wf' E rfl rfl rfl rfl hb49 rfl) rfl rfl ?_
              clear a E;intro a E
              refine sv E rfl rfl rfl (x_pickT E rfl rfl hb49 rfl) ?_
              clear a E;intro a E
              refine sv E rfl rfl rfl (x_move E rfl rfl) ?_
              clear a E;intro a E
              refine st_no E (wf E rfl rfl rfl rfl rfl) rfl rfl ?_
              clear a E;intro a E
              refine st_no E (wf E rfl rfl rfl rfl rfl) rfl rfl ?_
              clear a E;intro a E
              refine st_no E (wf E rfl rfl rfl rfl rfl) rfl rfl ?_
              clear a E;intro a E
              refine st_no E (wf E rfl rfl rfl rfl rfl) rfl rfl ?_
              clear a E;intro a E
              refine st_no E (wu E rfl rfl rfl rfl) rfl rfl ?_
              clear a E;intro a E
              refine st_no E (wu E rfl rfl rfl rfl) rfl rfl ?_
              clear a E;intro a E
              refine st_no E (wu E rfl rfl rfl rfl) rfl rfl ?_
              clear a E;intro a E
              refine st_no E (wf E rfl rfl rfl rfl rfl) rfl rfl ?_
              clear a E;intro a E
              refine sv E rfl rfl rfl (x_pickT E rfl rfl rfl rfl) ?_
              clear a E;intro a E
              refine wpList_nil ?_
              refine q_then ?_
              exact ⟨true, _, ((((E.nil.keep E 84 rfl).keep E 4 rfl).keep E 3 rfl).keep E 0 rfl), H, fun r hr => .tail _ (.tail _ (hs10 r hr)), (.tail _ (.tail _ hr11)), hm⟩
             ·rw [if_f hb49] at hm
              refine st_val E (ws' E rfl rfl rfl rfl hb49) rfl rfl (x_fa E rfl rfl (v := .pointer (some ⟨p19, 4, none⟩)) (fa35_4 _ _)) ?_
              clear a E;intro a E
              refine st_val E (ws' E rfl rfl rfl rfl hb49) rfl rfl (x_ldB (i := 0) E H rfl rfl rfl rfl Tryz.underlying2 rfl) ?_
              clear a E;intro a E
              refine st_val E (ws' E rfl rfl rfl rfl hb49) rfl rfl (x_bin E rfl rfl rfl rfl) ?_
              clear a E;intro a E
              refine sv E rfl rfl rfl (x_pickF E rfl rfl hb49 rfl) ?_
              clear a E;intro a E
              refine sv E rfl rfl rfl (x_move E rfl rfl) ?_
              clear a E;intro a E
              rcases Bool.eq_false_or_eq_true (decide (x15.Owner > 1099511627776)) with hb50 | hb50
              ·rw [if_t hb50] at hm
               refine st_no E (wf' E rfl rfl rfl rfl hb50 rfl) rfl rfl ?_
               clear a E;intro a E
               refine st_no E (wf' E rfl rfl rfl rfl hb50 rfl) rfl rfl ?_
               clear a E;intro a E
               refine st_no E (wf' E rfl rfl rfl rfl hb50 rfl) rfl rfl ?_
               clear a E;intro a E
               refine st_no E (wf' E rfl rfl rfl rfl hb50 rfl) rfl rfl ?_
               clear a E;intro a E
               refine st_no E (wu E rfl rfl rfl rfl) rfl rfl ?_
               clear a E;intro a E
               refine st_no E (wu E rfl rfl rfl rfl) rfl rfl ?_
               clear a E;intro a E
               refine st_no E (wu E rfl rfl rfl rfl) rfl rfl ?_
               clear a E;intro a E
               refine st_no E (wf' E rfl rfl rfl rfl hb50 rfl) rfl rfl ?_
               clear a E;intro a E
               refine sv E rfl rfl rfl (x_pickT E rfl rfl hb50 rfl) ?_
               clear a E;intro a E
               refine wpList_nil ?_
               refine q_then ?_
               exact ⟨true, _, ((((E.nil.keep E 84 rfl).keep E 4 rfl).keep E 3 rfl).keep E 0 rfl), H, fun r hr => .tail _ (.tail _ (hs10 r hr)), (.tail _ (.tail _ hr11)), hm⟩
              ·rw [if_f hb50] at hm
               refine st_val E (ws' E rfl rfl rfl rfl hb50) rfl rfl (x_fa E rfl rfl (v := .pointer (some ⟨p19, 4, none⟩)) (fa35_4 _ _)) ?_
               clear a E;intro a E
               refine st_val E (ws' E rfl rfl rfl rfl hb50) rfl rfl (x_ldB (i := 0) E H rfl rfl rfl rfl Tryz.underlying2 rfl) ?_
               clear a E;intro a E
               refine st_val E (ws' E rfl rfl rfl rfl hb50) rfl rfl (x_bin E rfl rfl rfl rfl) ?_
               clear a E;intro a E
               refine st_val E (ws' E rfl rfl rfl rfl hb50) rfl rfl (x_move E rfl rfl) ?_
               clear a E;intro a E
               rcases Bool.eq_false_or_eq_true (x15.Owner != 0) with hb51 | hb51
               ·rw [if_t hb51] at hm
                refine st_val E (ws' E rfl rfl rfl rfl hb51) rfl rfl (x_fa E rfl rfl (v := .pointer (some ⟨p19, 3, none⟩)) (fa35_3 _ _)) ?_
                clear a E;intro a E
                refine st_val E (ws' E rfl rfl rfl rfl hb51) rfl rfl (x_ldB (i := 0) E H rfl rfl rfl rfl Tryz.underlying2 rfl) ?_
                clear a E;intro a E
                refine st_val E (ws' E rfl rfl rfl rfl hb51) rfl rfl (x_bin E rfl rfl rfl rfl) ?_
                clear a E;intro a E
                refine st_val E (ws' E rfl rfl rfl rfl hb50) rfl rfl (x_pickT E rfl rfl hb51 rfl) ?_
                clear a E;intro a E
                refine sv E rfl rfl rfl (x_pickF E rfl rfl hb50 rfl) ?_
                clear a E;intro a E
                refine wpList_nil ?_
                refine q_then ?_
                exact ⟨x15.Turn != 0, _, ((((E.nil.keep E 84 rfl).keep E 4 rfl).keep E 3 rfl).keep E 0 rfl), H, fun r hr => .tail _ (.tail _ (hs10 r hr)), (.tail _ (.tail _ hr11)), hm⟩
               ·rw [if_f hb51] at hm
                refine st_no E (wf' E rfl rfl rfl rfl hb51 rfl) rfl rfl ?_
                clear a E;intro a E
                refine st_no E (wf' E rfl rfl rfl rfl hb51 rfl) rfl rfl ?_
                clear a E;intro a E
                refine st_no E (wf' E rfl rfl rfl rfl hb51 rfl) rfl rfl ?_
                clear a E;intro a E
                refine st_val E (ws' E rfl rfl rfl rfl hb50) rfl rfl (x_pickF E rfl rfl hb51 rfl) ?_
                clear a E;intro a E
                refine sv E rfl rfl rfl (x_pickF E rfl rfl hb50 rfl) ?_
                clear a E;intro a E
                refine wpList_nil ?_
                refine q_then ?_
                exact ⟨false, _, ((((E.nil.keep E 84 rfl).keep E 4 rfl).keep E 3 rfl).keep E 0 rfl), H, fun r hr => .tail _ (.tail _ (hs10 r hr)), (.tail _ (.tail _ hr11)), hm⟩
       ·clear E H hm
        rintro a w ⟨b20, rs21, E, H, hs22, hr23, hm⟩
        unfold m_cantonref06_Right_j3 at hm
        refine wp_if E rfl ?_ ?_
        ·intro hb
         rw [if_t hb] at hm
         clear hb
         refine wp_seq ?_
         refine wp_region_lit ?_
         refine sv E rfl rfl rfl (x_assign E rfl rfl) ?_
         clear a E;intro a E
         refine wpList_nil ?_
         refine q_then ?_
         refine wp_ret ?_
         refine q_thenR ?_
         refine q_blkR ?_
         refine q_thenR ?_
         refine q_thenR ?_
         refine q_blkR ?_
         refine q_thenR ?_
         refine out1 E rfl rfl ?_
         replace H := H.drop 0
         obtain rfl := Option.some.inj hm
         exact ⟨rfl, H.reads (fun r hr => hs22 r hr)⟩
        ·intro hb
         rw [if_f hb] at hm
         clear hb
         refine wp_skip ?_
         refine q_then ?_
         refine wp_seq ?_
         refine wp_seq ?_
         refine wp_region_lit ?_
         refine sv E rfl rfl rfl (x_move E rfl rfl) ?_
         clear a E;intro a E
         refine sv E rfl rfl rfl (x_bin E rfl rfl rfl rfl) ?_
         clear a E;intro a E
         refine wpList_nil ?_
         refine q_then ?_
         refine wp_if E rfl ?_ ?_
         ·intro hb
          rw [if_t hb] at hm
          clear hb
          refine wp_exit ?_
          refine q_thenX ?_
          refine q_hit ?_
          refine q_then ?_
          replace H := H.drop 0
          exact ⟨_, ((E.nil.keep E 3 rfl).keep E 0 rfl), H, hs22, hr23, hm⟩
         ·intro hb
          rw [if_f hb] at hm
          clear hb
          refine wp_skip ?_
          refine q_then ?_
          refine wp_seq ?_
          refine wp_region_lit ?_
          refine sv E rfl rfl rfl (x_fa E rfl rfl (v := .pointer (some ⟨p19, 0, none⟩)) (fa35_0 _ _)) ?_
          clear a E;intro a E
          refine sv E rfl rfl rfl (x_ldB (i := 0) E H rfl rfl rfl rfl Tryz.underlying9 rfl) ?_
          clear a E;intro a E
          obtain ⟨u24, hx25, hm⟩ := bnd hm
          refine st_call E (wn rfl) rfl rfl (x_call E rfl rfl (cf36 _)) (c_cantonref01_Parent x15.Path H hx25) ?_
          clear E H; clear a; clear w; rintro _ w ⟨rfl, H⟩ a E
          refine sv E rfl rfl rfl (x_move E rfl rfl) ?_
          clear a E;intro a E
          refine sv E rfl rfl rfl (x_ext E rfl rfl rfl) ?_
          clear a E;intro a E
          refine sv E rfl rfl rfl (x_ext E rfl rfl rfl) ?_
          clear a E;intro a E
          refine sv E rfl rfl rfl (x_assign E rfl rfl) ?_
          clear a E;intro a E
          refine sv E rfl rfl rfl (x_assign E rfl rfl) ?_
          clear a E;intro a E
          refine wpList_nil ?_
          refine q_then ?_
          refine wp_seq ?_
          refine wp_region_lit ?_
          refine sv E rfl rfl rfl (x_move E rfl rfl) ?_
          clear a E;intro a E
          refine sv E rfl rfl rfl (x_move E rfl rfl) ?_
          clear a E;intro a E
          obtain ⟨u26, hx27, hm⟩ := bnd hm
          refine st_call E (wn rfl) rfl rfl (x_call E rfl rfl (cf10 _)) (c_cantonref06_Find v1 l2 u24.1 H hr23 hx27) ?_
          clear E H; clear a; clear w; rintro _ w ⟨rfl, H⟩ a E
          refine sv E rfl rfl rfl (x_move E rfl rfl) ?_
          clear a E;intro a E
          refine sv E rfl rfl rfl (x_ext E rfl rfl rfl) ?_
          clear a E;intro a E
          refine sv E rfl rfl rfl (x_ext E rfl rfl rfl) ?_
          clear a E;intro a E
          refine st_alloc E H (wn rfl) rfl rfl (cs := [.string (ByteArray.mk #[]), .string (ByteArray.mk #[]), .int .i64 0, .int .i64 0, .int .i64 0]) rfl (z := .agg #[.string ⟨#[]⟩, .string ⟨#[]⟩, .int .i64 0, .int .i64 0, .int .i64 0]) (by kernel_rfl) rfl ?_
          clear E H; clear a; clear w; intro p28 w a H E
          refine st_st (i := 0) E H (wn rfl) rfl (us := [.string u26.1.Path, .string u26.1.Data, .int .i64 u26.1.Version, .int .i64 u26.1.Turn, .int .i64 u26.1.Owner]) rfl rfl rfl rfl rfl sz35 rfl rfl ?_
          clear H; clear w; intro w H
          replace H : Sep w (Blk p28 35 [.string u26.1.Path, .string u26.1.Data, .int .i64 u26.1.Version, .int .i64 u26.1.Turn, .int .i64 u26.1.Owner] :: Blk p19 35 [.string x15.Path, .string x15.Data, .int .i64 x15.Version, .int .i64 x15.Turn, .int .i64 x15.Owner] :: Fo) _ := H
          refine sv E rfl rfl rfl (x_assign E rfl rfl) ?_
          clear a E;intro a E
          refine wpList_nil ?_
          refine q_then ?_
          refine wp_seq_cut (fun a w => ∃ (b29 : Bool) (rs30 : List Rp), Env 121 a [(0, v1), (3, .int .i64 x8), (120, .bool b29)] ∧ Sep w (Fo) rs30 ∧ (∀ r, r ∈ rs → r ∈ rs30) ∧ rSl k_api_Node v1 l2 ∈ rs30 ∧ m_cantonref06_Right_j4 (m_cantonref06_Right_l1 l2 k1) x8 b29 = some r) ?_ ?_
          ·obtain ⟨u33, H⟩ := H.raw hr23
           replace H : Sep w (Blk p28 35 [.string u26.1.Path, .string u26.1.Data, .int .i64 u26.1.Version, .int .i64 u26.1.Turn, .int .i64 u26.1.Owner] :: Blk p19 35 [.string x15.Path, .string x15.Data, .int .i64 x15.Version, .int .i64 x15.Turn, .int .i64 x15.Owner] :: Fo) (rRow k_api_Node v1 l2 u33 :: rs21) := H
           have hI : Still [Blk p28 35 [.string u26.1.Path, .string u26.1.Data, .int .i64 u26.1.Version, .int .i64 u26.1.Turn, .int .i64 u26.1.Owner], Blk p19 35 [.string x15.Path, .string x15.Data, .int .i64 x15.Version, .int .i64 x15.Turn, .int .i64 x15.Owner]] [rRow k_api_Node v1 l2 u33] { w with drawn := w.drawn + 1 } := ⟨_, _, H.kept (Kp.drawn _ w _), (subO_cons (.head _) (subO_cons (.tail _ (.head _)) (subO_nil))), (sub_cons (.head _) (sub_nil))⟩
           refine wp_draw _ [(0, 0), (1, 0), (2, 0), (3, 0), (4, 0), (5, 0), (6, 0), (7, 0), (8, 0), (9, 0), (10, 0), (11, 0), (12, 0), (13, 0), (14, 0), (15, 0), (16, 0), (17, 0), (18, 0), (19, 0), (20, 0), (21, 0)] mixedOk (by kernel_rfl) (fun _ _ _ h => False.elim h.2) hI ?_
           replace H := H.kept (Kp.drawn _ w (w.drawn + 1))
           generalize ({ w with drawn := w.drawn + 1 } : World) = w at H hI ⊢
           replace hI : ∃ W, Still [Blk p28 35 [.string u26.1.Path, .string u26.1.Data, .int .i64 u26.1.Version, .int .i64 u26.1.Turn, .int .i64 u26.1.Owner], Blk p19 35 [.string x15.Path, .string x15.Data, .int .i64 x15.Version, .int .i64 x15.Turn, .int .i64 x15.Owner]] [rRow k_api_Node v1 l2 u33] W := ⟨_, hI⟩
           obtain ⟨W0, hI⟩ := hI
           refine fr_val E rfl (wn rfl) rfl rfl (fun w hW => (x_move E rfl rfl)) ?_
           clear a E;intro a E
           refine fr_val E rfl (wn rfl) rfl rfl (fun w hW => (x_move E rfl rfl)) ?_
           clear a E;intro a E
           refine fr_val E rfl (wn rfl) rfl rfl (fun w hW => (x_bin E rfl rfl rfl rfl)) ?_
           clear a E;intro a E
           obtain ⟨x34, hx35, hm⟩ := bnd hm
           obtain ⟨q36, u39, hx37, hx38⟩ := dr_ixW (P := Tryz.prog) (k := .i64) hI (dr_mem (.head _)) Tryz.underlying22 sz35 hx35
           refine fr_val E rfl (wn rfl) rfl rfl (fun w hW => x_ixA E rfl rfl rfl (hx37 w)) ?_
           clear a E;intro a E
           have hx40 := dr_fld hx38 (fun _ _ _ h => k_api_Node_aw0 h)
           refine fr_val E rfl (wn rfl) rfl rfl (fun w hW => x_fa E rfl rfl (fa35_0 _ _)) ?_
           clear a E;intro a E
           refine fr_val E rfl (wn rfl) rfl rfl (fun w hW => x_ld E rfl rfl (ir_ld (DR.ir (dr_at hx40)) Tryz.underlying9 rfl w hW)) ?_
           clear a E;intro a E
           refine fr_val E rfl (wn rfl) rfl rfl (fun w hW => x_fa E rfl rfl (v := .pointer (some ⟨p19, 0, none⟩)) (fa35_0 _ _)) ?_
           clear a E;intro a E
           refine fr_val E rfl (wn rfl) rfl rfl (fun w hW => x_ld E rfl rfl (ib_ld (.tail _ (.head _)) rfl Tryz.underlying9 rfl w hW)) ?_
           clear a E;intro a E
           refine fr_val E rfl (wn rfl) rfl rfl (fun w hW => (x_str E rfl rfl rfl rfl)) ?_
           clear a E;intro a E
           refine fr_val E rfl (wn rfl) rfl rfl (fun w hW => (x_move E rfl rfl)) ?_
           clear a E;intro a E
           rcases Bool.eq_false_or_eq_true (!(sLt x34.Path x15.Path)) with hb41 | hb41
           ·rw [if_t hb41] at hm
            refine fr_no E rfl (wf' E rfl rfl rfl rfl hb41 rfl) rfl rfl ?_
            clear a E;intro a E
            refine fr_no E rfl (wf' E rfl rfl rfl rfl hb41 rfl) rfl rfl ?_
            clear a E;intro a E
            refine fr_val E rfl (wn rfl) rfl rfl (fun w hW => (x_pickT E rfl rfl hb41 rfl)) ?_
            clear a E;intro a E
            refine fr_val E rfl (wn rfl) rfl rfl (fun w hW => (x_move E rfl rfl)) ?_
            clear a E;intro a E
            refine fr_no E rfl (wf E rfl rfl rfl rfl rfl) rfl rfl ?_
            clear a E;intro a E
            refine fr_no E rfl (wf E rfl rfl rfl rfl rfl) rfl rfl ?_
            clear a E;intro a E
            refine fr_val E rfl (wn rfl) rfl rfl (fun w hW => (x_pickT E rfl rfl rfl rfl)) ?_
            clear a E;intro a E
            refine fr_val E rfl (wn rfl) rfl rfl (fun w hW => (x_move E rfl rfl)) ?_
            clear a E;intro a E
            refine fr_no E rfl (wf E rfl rfl rfl rfl rfl) rfl rfl ?_
            clear a E;intro a E
            refine fr_no E rfl (wf E rfl rfl rfl rfl rfl) rfl rfl ?_
            clear a E;intro a E
            refine fr_no E rfl (wf E rfl rfl rfl rfl rfl) rfl rfl ?_
            clear a E;intro a E
            refine fr_val E rfl (wn rfl) rfl rfl (fun w hW => (x_pickT E rfl rfl rfl rfl)) ?_
            clear a E;intro a E
            refine fr_nil ?_
            clear hI
            refine q_then ?_
            replace H := H.drop 0
            replace H := H.drop 0
            exact ⟨true, _, (((E.nil.keep E 120 rfl).keep E 3 rfl).keep E 0 rfl), H, fun r hr => .tail _ (hs22 r hr), (.tail _ hr23), hm⟩
           ·rw [if_f hb41] at hm
            refine fr_val E rfl (ws' E rfl rfl rfl rfl hb41) rfl rfl (fun w hW => (x_move E rfl rfl)) ?_
            clear a E;intro a E
            refine fr_val E rfl (ws' E rfl rfl rfl rfl hb41) rfl rfl (fun w hW => (x_not E rfl rfl)) ?_
            clear a E;intro a E
            refine fr_val E rfl (wn rfl) rfl rfl (fun w hW => (x_pickF E rfl rfl hb41 rfl)) ?_
            clear a E;intro a E
            refine fr_val E rfl (wn rfl) rfl rfl (fun w hW => (x_move E rfl rfl)) ?_
            clear a E;intro a E
            rcases Bool.eq_false_or_eq_true (!u24.2) with hb42 | hb42
            ·rw [if_t hb42] at hm
             refine fr_no E rfl (wf' E rfl rfl rfl rfl hb42 rfl) rfl rfl ?_
             clear a E;intro a E
             refine fr_no E rfl (wf' E rfl rfl rfl rfl hb42 rfl) rfl rfl ?_
             clear a E;intro a E
             refine fr_val E rfl (wn rfl) rfl rfl (fun w hW => (x_pickT E rfl rfl hb42 rfl)) ?_
             clear a E;intro a E
             refine fr_val E rfl (wn rfl) rfl rfl (fun w hW => (x_move E rfl rfl)) ?_
             clear a E;intro a E
             refine fr_no E rfl (wf E rfl rfl rfl rfl rfl) rfl rfl ?_
             clear a E;intro a E
             refine fr_no E rfl (wf E rfl rfl rfl rfl rfl) rfl rfl ?_
             clear a E;intro a E
             refine fr_no E rfl (wf E rfl rfl rfl rfl rfl) rfl rfl ?_
             clear a E;intro a E
             refine fr_val E rfl (wn rfl) rfl rfl (fun w hW => (x_pickT E rfl rfl rfl rfl)) ?_
             clear a E;intro a E
             refine fr_nil ?_
             clear hI
             refine q_then ?_
             replace H := H.drop 0
             replace H := H.drop 0
             exact ⟨true, _, (((E.nil.keep E 120 rfl).keep E 3 rfl).keep E 0 rfl), H, fun r hr => .tail _ (hs22 r hr), (.tail _ hr23), hm⟩
            ·rw [if_f hb42] at hm
             refine fr_val E rfl (ws' E rfl rfl rfl rfl hb42) rfl rfl (fun w hW => (x_move E rfl rfl)) ?_
             clear a E;intro a E
             refine fr_val E rfl (ws' E rfl rfl rfl rfl hb42) rfl rfl (fun w hW => (x_not E rfl rfl)) ?_
             clear a E;intro a E
             refine fr_val E rfl (wn rfl) rfl rfl (fun w hW => (x_pickF E rfl rfl hb42 rfl)) ?_
             clear a E;intro a E
             refine fr_val E rfl (wn rfl) rfl rfl (fun w hW => (x_move E rfl rfl)) ?_
             clear a E;intro a E
             rcases Bool.eq_false_or_eq_true (!u26.2) with hb43 | hb43
             ·rw [if_t hb43] at hm
              refine fr_no E rfl (wf' E rfl rfl rfl rfl hb43 rfl) rfl rfl ?_
              clear a E;intro a E
              refine fr_no E rfl (wf' E rfl rfl rfl rfl hb43 rfl) rfl rfl ?_
              clear a E;intro a E
              refine fr_no E rfl (wf' E rfl rfl rfl rfl hb43 rfl) rfl rfl ?_
              clear a E;intro a E
              refine fr_val E rfl (wn rfl) rfl rfl (fun w hW => (x_pickT E rfl rfl hb43 rfl)) ?_
              clear a E;intro a E
              refine fr_nil ?_
              clear hI
              refine q_then ?_
              replace H := H.drop 0
              replace H := H.drop 0
              exact ⟨true, _, (((E.nil.keep E 120 rfl).keep E 3 rfl).keep E 0 rfl), H, fun r hr => .tail _ (hs22 r hr), (.tail _ hr23), hm⟩
             ·rw [if_f hb43] at hm
              refine fr_val E rfl (ws' E rfl rfl rfl rfl hb43) rfl rfl (fun w hW => x_fa E rfl rfl (v := .pointer (some ⟨p28, 4, none⟩)) (fa35_4 _ _)) ?_
              clear a E;intro a E
              refine fr_val E rfl (ws' E rfl rfl rfl rfl hb43) rfl rfl (fun w hW => x_ld E rfl rfl (ib_ld (.head _) rfl Tryz.underlying2 rfl w hW)) ?_
              clear a E;intro a E
              refine fr_val E rfl (ws' E rfl rfl rfl rfl hb43) rfl rfl (fun w hW => (x_bin E rfl rfl rfl rfl)) ?_
              clear a E;intro a E
              refine fr_val E rfl (wn rfl) rfl rfl (fun w hW => (x_pickF E rfl rfl hb43 rfl)) ?_
              clear a E;intro a E
              refine fr_nil ?_
              clear hI
              refine q_then ?_
              replace H := H.drop 0
              replace H := H.drop 0
              exact ⟨u26.1.Owner != 0, _, (((E.nil.keep E 120 rfl).keep E 3 rfl).keep E 0 rfl), H, fun r hr => .tail _ (hs22 r hr), (.tail _ hr23), hm⟩
          ·clear E H hm
           rintro a w ⟨b29, rs30, E, H, hs31, hr32, hm⟩
           unfold m_cantonref06_Right_j4 at hm
           refine wp_if E rfl ?_ ?_
           ·intro hb
            rw [if_t hb] at hm
            clear hb
            refine wp_seq ?_
            refine wp_region_lit ?_
            refine sv E rfl rfl rfl (x_assign E rfl rfl) ?_
            clear a E;intro a E
            refine wpList_nil ?_
            refine q_then ?_
            refine wp_ret ?_
            refine q_blkR ?_
            refine q_thenR ?_
            refine q_thenR ?_
            refine q_blkR ?_
            refine q_thenR ?_
            refine out1 E rfl rfl ?_
            obtain rfl := Option.some.inj hm
            exact ⟨rfl, H.reads (fun r hr => hs31 r hr)⟩
           ·intro hb
            rw [if_f hb] at hm
            clear hb
            refine wp_skip ?_
            refine q_blk ?_
            refine q_then ?_
            exact ⟨_, ((E.nil.keep E 3 rfl).keep E 0 rfl), H, hs31, hr32, hm⟩
      ·clear E H hm
       rintro a w ⟨rs12, E, H, hs13, hr14, hm⟩
       unfold m_cantonref06_Right_j2 at hm
       refine wp_region_lit ?_
       refine sv E rfl rfl rfl (x_move E rfl rfl) ?_
       clear a E;intro a E
       refine sv E rfl rfl rfl (x_bin E rfl rfl rfl rfl) ?_
       clear a E;intro a E
       refine sv E rfl rfl rfl (x_assign E rfl rfl) ?_
       clear a E;intro a E
       refine wpList_nil ?_
       refine q_then ?_
       exact ⟨k1, Nat.lt_succ_self k1, IntKind.i64.wrap (x8 + 1), _, ((E.nil.keep E 3 rfl).keep E 0 rfl), H, hs13, hr14, hm⟩
     ·intro hb
      rw [if_f hb] at hm
      clear hb
      refine wp_exit ?_
      refine q_thenX ?_
      refine q_thenX ?_
      refine q_hit ?_
      refine q_then ?_
      refine wp_seq ?_
      refine wp_region_lit ?_
      refine sv E rfl rfl rfl (x_assign E rfl rfl) ?_
      clear a E;intro a E
      refine wpList_nil ?_
      refine q_then ?_
      refine wp_ret ?_
      refine out1 E rfl rfl ?_
      obtain rfl := Option.some.inj hm
      exact ⟨rfl, H.reads (fun r hr => hs10 r hr)⟩
end Go.Cb

set_option linter.unusedVariables false
set_option linter.unusedSimpArgs false
namespace Go.Cb
open Go.Proofs Go.RowKit
def m_nodes_named : Option Unit :=
  some ()
set_option maxRecDepth 20000 in
set_option maxHeartbeats 1000000 in
theorem c_nodes_named {w : World} {Fo : List Ob} {rs : List Rp} (H : Sep w (Fo) rs) {r : Unit} (hm : m_nodes_named = some r) :
    Calls Tryz.prog 39 [].toArray w (Ret fun v w' => .agg #[.int .i64 0, .int .i64 13, .int .i64 2, .int .i64 19, .int .i64 18, .int .i64 16, .int .i64 16, .int .i64 20] = v ∧ Sep w' (Fo) (rs)) := by
 unfold m_nodes_named at hm
 refine enter Tryz.func39 rfl Tryz.ntmps39 rfl fun a E => ?_
 simp only [enum, Nat.reduceAdd] at E
 refine wp_seq ?_
 refine wp_region_lit ?_
 refine st_alloc E H (wn rfl) rfl rfl (cs := [.int .i64 0, .int .i64 0, .int .i64 0, .int .i64 0, .int .i64 0, .int .i64 0, .int .i64 0, .int .i64 0]) rfl (z := .agg #[.int .i64 0, .int .i64 0, .int .i64 0, .int .i64 0, .int .i64 0, .int .i64 0, .int .i64 0, .int .i64 0]) (by kernel_rfl) rfl ?_
 clear E H; clear a; clear w; intro p1 w a H E
 refine wpList_nil ?_
 refine q_then ?_
 refine wp_seq ?_
 refine wp_region_lit ?_
 refine sv E rfl rfl rfl (x_build E (ps := [(1, .const (.int .i64 13)), (2, .const (.int .i64 2)), (3, .const (.int .i64 19)), (4, .const (.int .i64 18)), (5, .const (.int .i64 16)), (6, .const (.int .i64 16)), (7, .const (.int .i64 20))]) (vs := [(1, .int .i64 13), (2, .int .i64 2), (3, .int .i64 19), (4, .int .i64 18), (5, .int .i64 16), (6, .int .i64 16), (7, .int .i64 20)]) rfl (by simp only [List.map]; rw [E.eval (x := .const (.int .i64 13)) (v := .int .i64 13) rfl, E.eval (x := .const (.int .i64 2)) (v := .int .i64 2) rfl, E.eval (x := .const (.int .i64 19)) (v := .int .i64 19) rfl, E.eval (x := .const (.int .i64 18)) (v := .int .i64 18) rfl, E.eval (x := .const (.int .i64 16)) (v := .int .i64 16) rfl, E.eval (x := .const (.int .i64 20)) (v := .int .i64 20) rfl]) (v := .agg #[.int .i64 0, .int .i64 13, .int .i64 2, .int .i64 19, .int .i64 18, .int .i64 16, .int .i64 16, .int .i64 20]) (by kernel_rfl)) ?_
 clear a E;intro a E
 refine st_st (i := 0) E H (wn rfl) rfl (us := [.int .i64 0, .int .i64 13, .int .i64 2, .int .i64 19, .int .i64 18, .int .i64 16, .int .i64 16, .int .i64 20]) rfl rfl rfl rfl rfl sz57 rfl rfl ?_
 clear H; clear w; intro w H
 replace H : Sep w (Blk p1 57 [.int .i64 0, .int .i64 13, .int .i64 2, .int .i64 19, .int .i64 18, .int .i64 16, .int .i64 16, .int .i64 20] :: Fo) _ := H
 refine wpList_nil ?_
 refine q_then ?_
 refine wp_ret ?_
 refine outR1 E rfl (rvBN (i := 0) (us := [.int .i64 0, .int .i64 13, .int .i64 2, .int .i64 19, .int .i64 18, .int .i64 16, .int .i64 16, .int .i64 20]) H rfl rfl rfl Tryz.underlying57 rfl sz57) ?_
 replace H := H.drop 0
 obtain rfl := Option.some.inj hm
 exact ⟨rfl, H.reads (fun r hr => hr)⟩
end Go.Cb

set_option linter.unusedVariables false
set_option linter.unusedSimpArgs false
namespace Go.Cb
open Go.Proofs Go.RowKit
def m_nodes_May_j7 (x1 : S_api_Op) (x18 : Int) (b21 : Bool) : Option Bool :=
  if b21 = true then (m_nodes_named.bind fun u25 => (idx ([0, 13, 2, 19, 18, 16, 16, 20] : List Int) x1.Kind).bind fun x27 => if ((iandNot .i64 x18 x27) == 0) = true then (if (x1.Kind != 7) = true then (some (true)) else (some (decide (x1.Owner > 0)))) else (some (false))) else (some (false))
def m_nodes_May_j6 (x1 : S_api_Op) (x18 : Int) : Option Bool :=
  if (decide (x1.Version ≥ (-1))) = true then (m_nodes_May_j7 x1 x18 (decide (x1.Version ≤ 281474976710656))) else (m_nodes_May_j7 x1 x18 false)
def m_nodes_May_j5 (x1 : S_api_Op) (x15 : Int) : Option Bool :=
  if (sEq x1.Path (ByteArray.mk #[47])) = true then (m_nodes_May_j6 x1 (ior .i64 x15 16)) else (m_nodes_May_j6 x1 x15)
def m_nodes_May_j4 (x1 : S_api_Op) (x12 : Int) : Option Bool :=
  if x1.Turns = true then (m_nodes_May_j5 x1 (ior .i64 x12 8)) else (m_nodes_May_j5 x1 x12)
def m_nodes_May_j3 (x1 : S_api_Op) (x9 : Int) : Option Bool :=
  if (x1.Owner != 0) = true then (m_nodes_May_j4 x1 (ior .i64 x9 4)) else (m_nodes_May_j4 x1 x9)
def m_nodes_May_j2 (x1 : S_api_Op) (x6 : Int) : Option Bool :=
  if (x1.Version != 0) = true then (m_nodes_May_j3 x1 (ior .i64 x6 2)) else (m_nodes_May_j3 x1 x6)
def m_nodes_May_j1 (x1 : S_api_Op) (b3 : Bool) : Option Bool :=
  if b3 = true then (some (false)) else (if (!(sEq x1.Data (ByteArray.mk #[]))) = true then (m_nodes_May_j2 x1 (ior .i64 0 1)) else (m_nodes_May_j2 x1 0))
def m_nodes_May (x1 : S_api_Op) : Option Bool :=
  if (decide (x1.Kind < 1)) = true then (m_nodes_May_j1 x1 true) else (if (decide (x1.Kind > 7)) = true then (m_nodes_May_j1 x1 true) else ((m_path_Right x1.Path).bind fun u34 => if (!u34) = true then (m_nodes_May_j1 x1 true) else (if (decide ((x1.Data.size : Int) > 256)) = true then (m_nodes_May_j1 x1 true) else ((m_nodes_within x1.Owner 1099511627776).bind fun u38 => m_nodes_May_j1 x1 (!u38)))))
set_option maxRecDepth 20000 in
set_option maxHeartbeats 1000000 in
theorem c_nodes_May {w : World} {Fo : List Ob} {rs : List Rp} (x1 : S_api_Op) (H : Sep w (Fo) rs) {r : Bool} (hm : m_nodes_May x1 = some r) :
    Calls Tryz.prog 13 [.agg #[.int .i64 x1.Kind, .string x1.Path, .string x1.Data, .int .i64 x1.Version, .int .i64 x1.Owner, .bool x1.Turns]].toArray w (Ret fun v w' => .bool r = v ∧ Sep w' (Fo) (rs)) := by
 unfold m_nodes_May at hm
 refine enter Tryz.func13 rfl Tryz.ntmps13 rfl fun a E => ?_
 simp only [enum, Nat.reduceAdd] at E
 refine wp_seq ?_
 refine wp_region_lit ?_
 refine st_box E H (wn rfl) rfl rfl (cs := [.int .i64 x1.Kind, .string x1.Path, .string x1.Data, .int .i64 x1.Version, .int .i64 x1.Owner, .bool x1.Turns]) rfl rfl rfl ?_
 clear E H; clear a; clear w; intro p2 w a H E
 refine sv E rfl rfl rfl (x_assign E rfl rfl) ?_
 clear a E;intro a E
 refine wpList_nil ?_
 refine q_then ?_
 refine wp_seq ?_
 refine wp_seq_cut (fun a w => ∃ (b3 : Bool) (rs4 : List Rp), Env 83 a [(1, .pointer (some ⟨p2, 0, none⟩)), (30, .bool b3)] ∧ Sep w (Blk p2 24 [.int .i64 x1.Kind, .string x1.Path, .string x1.Data, .int .i64 x1.Version, .int .i64 x1.Owner, .bool x1.Turns] :: Fo) rs4 ∧ (∀ r, r ∈ rs → r ∈ rs4) ∧ m_nodes_May_j1 x1 b3 = some r) ?_ ?_
 ·refine wp_region_lit ?_
  refine sv E rfl rfl rfl (x_fa E rfl rfl (v := .pointer (some ⟨p2, 0, none⟩)) (fa24_0 _ _)) ?_
  clear a E;intro a E
  refine sv E rfl rfl rfl (x_ldB (i := 0) E H rfl rfl rfl rfl Tryz.underlying3 rfl) ?_
  clear a E;intro a E
  refine sv E rfl rfl rfl (x_bin E rfl rfl rfl rfl) ?_
  clear a E;intro a E
  refine sv E rfl rfl rfl (x_move E rfl rfl) ?_
  clear a E;intro a E
  rcases Bool.eq_false_or_eq_true (decide (x1.Kind < 1)) with hb32 | hb32
  ·rw [if_t hb32] at hm
   refine st_no E (wf' E rfl rfl rfl rfl hb32 rfl) rfl rfl ?_
   clear a E;intro a E
   refine st_no E (wf' E rfl rfl rfl rfl hb32 rfl) rfl rfl ?_
   clear a E;intro a E
   refine st_no E (wf' E rfl rfl rfl rfl hb32 rfl) rfl rfl ?_
   clear a E;intro a E
   refine sv E rfl rfl rfl (x_pickT E rfl rfl hb32 rfl) ?_
   clear a E;intro a E
   refine sv E rfl rfl rfl (x_move E rfl rfl) ?_
   clear a E;intro a E
   refine st_no E (wf E rfl rfl rfl rfl rfl) rfl rfl ?_
   clear a E;intro a E
   refine st_no E (wf E rfl rfl rfl rfl rfl) rfl rfl ?_
   clear a E;intro a E
   refine st_no E (wf E rfl rfl rfl rfl rfl) rfl rfl ?_
   clear a E;intro a E
   refine st_no E (wf E rfl rfl rfl rfl rfl) rfl rfl ?_
   clear a E;intro a E
   refine sv E rfl rfl rfl (x_pickT E rfl rfl rfl rfl) ?_
   clear a E;intro a E
   refine sv E rfl rfl rfl (x_move E rfl rfl) ?_
   clear a E;intro a E
   refine st_no E (wf E rfl rfl rfl rfl rfl) rfl rfl ?_
   clear a E;intro a E
   refine st_no E (wf E rfl rfl rfl rfl rfl) rfl rfl ?_
   clear a E;intro a E
   refine st_no E (wf E rfl rfl rfl rfl rfl) rfl rfl ?_
   clear a E;intro a E
   refine st_no E (wf E rfl rfl rfl rfl rfl) rfl rfl ?_
   clear a E;intro a E
   refine sv E rfl rfl rfl (x_pickT E rfl rfl rfl rfl) ?_
   clear a E;intro a E
   refine sv E rfl rfl rfl (x_move E rfl rfl) ?_
   clear a E;intro a E
   refine st_no E (wf E rfl rfl rfl rfl rfl) rfl rfl ?_
   clear a E;intro a E
   refine st_no E (wf E rfl rfl rfl rfl rfl) rfl rfl ?_
   clear a E;intro a E
   refine st_no E (wf E rfl rfl rfl rfl rfl) rfl rfl ?_
   clear a E;intro a E
   refine st_no E (wf E rfl rfl rfl rfl rfl) rfl rfl ?_
   clear a E;intro a E
   refine sv E rfl rfl rfl (x_pickT E rfl rfl rfl rfl) ?_
   clear a E;intro a E
   refine wpList_nil ?_
   refine q_then ?_
   exact ⟨true, _, ((E.nil.keep E 30 rfl).keep E 1 rfl), H, fun r hr => hr, hm⟩
  ·rw [if_f hb32] at hm
   refine st_val E (ws' E rfl rfl rfl rfl hb32) rfl rfl (x_fa E rfl rfl (v := .pointer (some ⟨p2, 0, none⟩)) (fa24_0 _ _)) ?_
   clear a E;intro a E
   refine st_val E (ws' E rfl rfl rfl rfl hb32) rfl rfl (x_ldB (i := 0) E H rfl rfl rfl rfl Tryz.underlying3 rfl) ?_
   clear a E;intro a E
   refine st_val E (ws' E rfl rfl rfl rfl hb32) rfl rfl (x_bin E rfl rfl rfl rfl) ?_
   clear a E;intro a E
   refine sv E rfl rfl rfl (x_pickF E rfl rfl hb32 rfl) ?_
   clear a E;intro a E
   refine sv E rfl rfl rfl (x_move E rfl rfl) ?_
   clear a E;intro a E
   rcases Bool.eq_false_or_eq_true (decide (x1.Kind > 7)) with hb33 | hb33
   ·rw [if_t hb33] at hm
    refine st_no E (wf' E rfl rfl rfl rfl hb33 rfl) rfl rfl ?_
    clear a E;intro a E
    refine st_no E (wf' E rfl rfl rfl rfl hb33 rfl) rfl rfl ?_
    clear a E;intro a E
    refine st_no E (wf' E rfl rfl rfl rfl hb33 rfl) rfl rfl ?_
    clear a E;intro a E
    refine st_no E (wf' E rfl rfl rfl rfl hb33 rfl) rfl rfl ?_
    clear a E;intro a E
    refine sv E rfl rfl rfl (x_pickT E rfl rfl hb33 rfl) ?_
    clear a E;intro a E
    refine sv E rfl rfl rfl (x_move E rfl rfl) ?_
    clear a E;intro a E
    refine st_no E (wf E rfl rfl rfl rfl rfl) rfl rfl ?_
    clear a E;intro a E
    refine st_no E (wf E rfl rfl rfl rfl rfl) rfl rfl ?_
    clear a E;intro a E
    refine st_no E (wf E rfl rfl rfl rfl rfl) rfl rfl ?_
    clear a E;intro a E
    refine st_no E (wf E rfl rfl rfl rfl rfl) rfl rfl ?_
    clear a E;intro a E
    refine sv E rfl rfl rfl (x_pickT E rfl rfl rfl rfl) ?_
    clear a E;intro a E
    refine sv E rfl rfl rfl (x_move E rfl rfl) ?_
    clear a E;intro a E
    refine st_no E (wf E rfl rfl rfl rfl rfl) rfl rfl ?_
    clear a E;intro a E
    refine st_no E (wf E rfl rfl rfl rfl rfl) rfl rfl ?_
    clear a E;intro a E
    refine st_no E (wf E rfl rfl rfl rfl rfl) rfl rfl ?_
    clear a E;intro a E
    refine st_no E (wf E rfl rfl rfl rfl rfl) rfl rfl ?_
    clear a E;intro a E
    refine sv E rfl rfl rfl (x_pickT E rfl rfl rfl rfl) ?_
    clear a E;intro a E
    refine wpList_nil ?_
    refine q_then ?_
    exact ⟨true, _, ((E.nil.keep E 30 rfl).keep E 1 rfl), H, fun r hr => hr, hm⟩
   ·rw [if_f hb33] at hm
    refine st_val E (ws' E rfl rfl rfl rfl hb33) rfl rfl (x_fa E rfl rfl (v := .pointer (some ⟨p2, 1, none⟩)) (fa24_1 _ _)) ?_
    clear a E;intro a E
    refine st_val E (ws' E rfl rfl rfl rfl hb33) rfl rfl (x_ldB (i := 0) E H rfl rfl rfl rfl Tryz.underlying9 rfl) ?_
    clear a E;intro a E
    obtain ⟨u34, hx35, hm⟩ := bnd hm
    refine st_call E (ws' E rfl rfl rfl rfl hb33) rfl rfl (x_call E rfl rfl (cf37 _)) (c_path_Right x1.Path H hx35) ?_
    clear E H; clear a; clear w; rintro _ w ⟨rfl, H⟩ a E
    refine st_val E (ws' E rfl rfl rfl rfl hb33) rfl rfl (x_not E rfl rfl) ?_
    clear a E;intro a E
    refine sv E rfl rfl rfl (x_pickF E rfl rfl hb33 rfl) ?_
    clear a E;intro a E
    refine sv E rfl rfl rfl (x_move E rfl rfl) ?_
    clear a E;intro a E
    rcases Bool.eq_false_or_eq_true (!u34) with hb36 | hb36
    ·rw [if_t hb36] at hm
     refine st_no E (wf' E rfl rfl rfl rfl hb36 rfl) rfl rfl ?_
     clear a E;intro a E
     refine st_no E (wf' E rfl rfl rfl rfl hb36 rfl) rfl rfl ?_
     clear a E;intro a E
     refine st_no E (wf' E rfl rfl rfl rfl hb36 rfl) rfl rfl ?_
     clear a E;intro a E
     refine st_no E (wf' E rfl rfl rfl rfl hb36 rfl) rfl rfl ?_
     clear a E;intro a E
     refine sv E rfl rfl rfl (x_pickT E rfl rfl hb36 rfl) ?_
     clear a E;intro a E
     refine sv E rfl rfl rfl (x_move E rfl rfl) ?_
     clear a E;intro a E
     refine st_no E (wf E rfl rfl rfl rfl rfl) rfl rfl ?_
     clear a E;intro a E
     refine st_no E (wf E rfl rfl rfl rfl rfl) rfl rfl ?_
     clear a E;intro a E
     refine st_no E (wf E rfl rfl rfl rfl rfl) rfl rfl ?_
     clear a E;intro a E
     refine st_no E (wf E rfl rfl rfl rfl rfl) rfl rfl ?_
     clear a E;intro a E
     refine sv E rfl rfl rfl (x_pickT E rfl rfl rfl rfl) ?_
     clear a E;intro a E
     refine wpList_nil ?_
     refine q_then ?_
     exact ⟨true, _, ((E.nil.keep E 30 rfl).keep E 1 rfl), H, fun r hr => hr, hm⟩
    ·rw [if_f hb36] at hm
     refine st_val E (ws' E rfl rfl rfl rfl hb36) rfl rfl (x_fa E rfl rfl (v := .pointer (some ⟨p2, 2, none⟩)) (fa24_2 _ _)) ?_
     clear a E;intro a E
     refine st_val E (ws' E rfl rfl rfl rfl hb36) rfl rfl (x_ldB (i := 0) E H rfl rfl rfl rfl Tryz.underlying9 rfl) ?_
     clear a E;intro a E
     refine st_val E (ws' E rfl rfl rfl rfl hb36) rfl rfl (x_lenStr E rfl rfl Tryz.underlying9) ?_
     clear a E;intro a E
     refine st_val E (ws' E rfl rfl rfl rfl hb36) rfl rfl (x_bin E rfl rfl rfl rfl) ?_
     clear a E;intro a E
     refine sv E rfl rfl rfl (x_pickF E rfl rfl hb36 rfl) ?_
     clear a E;intro a E
     refine sv E rfl rfl rfl (x_move E rfl rfl) ?_
     clear a E;intro a E
     rcases Bool.eq_false_or_eq_true (decide ((x1.Data.size : Int) > 256)) with hb37 | hb37
     ·rw [if_t hb37] at hm
      refine st_no E (wf' E rfl rfl rfl rfl hb37 rfl) rfl rfl ?_
      clear a E;intro a E
      refine st_no E (wf' E rfl rfl rfl rfl hb37 rfl) rfl rfl ?_
      clear a E;intro a E
      refine st_no E (wf' E rfl rfl rfl rfl hb37 rfl) rfl rfl ?_
      clear a E;intro a E
      refine st_no E (wf' E rfl rfl rfl rfl hb37 rfl) rfl rfl ?_
      clear a E;intro a E
      refine sv E rfl rfl rfl (x_pickT E rfl rfl hb37 rfl) ?_
      clear a E;intro a E
      refine wpList_nil ?_
      refine q_then ?_
      exact ⟨true, _, ((E.nil.keep E 30 rfl).keep E 1 rfl), H, fun r hr => hr, hm⟩
     ·rw [if_f hb37] at hm
      refine st_val E (ws' E rfl rfl rfl rfl hb37) rfl rfl (x_fa E rfl rfl (v := .pointer (some ⟨p2, 4, none⟩)) (fa24_4 _ _)) ?_
      clear a E;intro a E
      refine st_val E (ws' E rfl rfl rfl rfl hb37) rfl rfl (x_ldB (i := 0) E H rfl rfl rfl rfl Tryz.underlying2 rfl) ?_
      clear a E;intro a E
      obtain ⟨u38, hx39, hm⟩ := bnd hm
      refine st_call E (ws' E rfl rfl rfl rfl hb37) rfl rfl (x_call E rfl rfl (cf38 _)) (c_nodes_within x1.Owner 1099511627776 H hx39) ?_
      clear E H; clear a; clear w; rintro _ w ⟨rfl, H⟩ a E
      refine st_val E (ws' E rfl rfl rfl rfl hb37) rfl rfl (x_not E rfl rfl) ?_
      clear a E;intro a E
      refine sv E rfl rfl rfl (x_pickF E rfl rfl hb37 rfl) ?_
      clear a E;intro a E
      refine wpList_nil ?_
      refine q_then ?_
      exact ⟨!u38, _, ((E.nil.keep E 30 rfl).keep E 1 rfl), H, fun r hr => hr, hm⟩
 ·clear E H hm
  rintro a w ⟨b3, rs4, E, H, hs5, hm⟩
  unfold m_nodes_May_j1 at hm
  refine wp_if E rfl ?_ ?_
  ·intro hb
   rw [if_t hb] at hm
   clear hb
   refine wp_seq ?_
   refine wp_region_lit ?_
   refine sv E rfl rfl rfl (x_assign E rfl rfl) ?_
   clear a E;intro a E
   refine wpList_nil ?_
   refine q_then ?_
   refine wp_ret ?_
   refine q_thenR ?_
   refine out1 E rfl rfl ?_
   replace H := H.drop 0
   obtain rfl := Option.some.inj hm
   exact ⟨rfl, H.reads (fun r hr => hs5 r hr)⟩
  ·intro hb
   rw [if_f hb] at hm
   clear hb
   refine wp_skip ?_
   refine q_then ?_
   refine wp_seq ?_
   refine wp_region_lit ?_
   refine sv E rfl rfl rfl (x_assign E rfl rfl) ?_
   clear a E;intro a E
   refine wpList_nil ?_
   refine q_then ?_
   refine wp_seq_cut (fun a w => ∃ (x6 : Int) (rs7 : List Rp), Env 83 a [(1, .pointer (some ⟨p2, 0, none⟩)), (3, .int .i64 x6)] ∧ Sep w (Blk p2 24 [.int .i64 x1.Kind, .string x1.Path, .string x1.Data, .int .i64 x1.Version, .int .i64 x1.Owner, .bool x1.Turns] :: Fo) rs7 ∧ (∀ r, r ∈ rs → r ∈ rs7) ∧ m_nodes_May_j2 x1 x6 = some r) ?_ ?_
   ·refine wp_seq ?_
    refine wp_region_lit ?_
    refine sv E rfl rfl rfl (x_fa E rfl rfl (v := .pointer (some ⟨p2, 2, none⟩)) (fa24_2 _ _)) ?_
    clear a E;intro a E
    refine sv E rfl rfl rfl (x_ldB (i := 0) E H rfl rfl rfl rfl Tryz.underlying9 rfl) ?_
    clear a E;intro a E
    refine sv E rfl rfl rfl (x_str E rfl rfl rfl rfl) ?_
    clear a E;intro a E
    refine wpList_nil ?_
    refine q_then ?_
    refine wp_if E rfl ?_ ?_
    ·intro hb
     rw [if_t hb] at hm
     clear hb
     refine wp_region_lit ?_
     refine sv E rfl rfl rfl (x_move E rfl rfl) ?_
     clear a E;intro a E
     refine sv E rfl rfl rfl (x_bin E rfl rfl rfl rfl) ?_
     clear a E;intro a E
     refine sv E rfl rfl rfl (x_assign E rfl rfl) ?_
     clear a E;intro a E
     refine wpList_nil ?_
     refine q_then ?_
     exact ⟨ior .i64 0 1, _, ((E.nil.keep E 3 rfl).keep E 1 rfl), H, hs5, hm⟩
    ·intro hb
     rw [if_f hb] at hm
     clear hb
     refine wp_skip ?_
     refine q_then ?_
     exact ⟨0, _, ((E.nil.keep E 3 rfl).keep E 1 rfl), H, hs5, hm⟩
   ·clear E H hm
    rintro a w ⟨x6, rs7, E, H, hs8, hm⟩
    unfold m_nodes_May_j2 at hm
    refine wp_seq_cut (fun a w => ∃ (x9 : Int) (rs10 : List Rp), Env 83 a [(1, .pointer (some ⟨p2, 0, none⟩)), (3, .int .i64 x9)] ∧ Sep w (Blk p2 24 [.int .i64 x1.Kind, .string x1.Path, .string x1.Data, .int .i64 x1.Version, .int .i64 x1.Owner, .bool x1.Turns] :: Fo) rs10 ∧ (∀ r, r ∈ rs → r ∈ rs10) ∧ m_nodes_May_j3 x1 x9 = some r) ?_ ?_
    ·refine wp_seq ?_
     refine wp_region_lit ?_
     refine sv E rfl rfl rfl (x_fa E rfl rfl (v := .pointer (some ⟨p2, 3, none⟩)) (fa24_3 _ _)) ?_
     clear a E;intro a E
     refine sv E rfl rfl rfl (x_ldB (i := 0) E H rfl rfl rfl rfl Tryz.underlying2 rfl) ?_
     clear a E;intro a E
     refine sv E rfl rfl rfl (x_bin E rfl rfl rfl rfl) ?_
     clear a E;intro a E
     refine wpList_nil ?_
     refine q_then ?_
     refine wp_if E rfl ?_ ?_
     ·intro hb
      rw [if_t hb] at hm
      clear hb
      refine wp_region_lit ?_
      refine sv E rfl rfl rfl (x_move E rfl rfl) ?_
      clear a E;intro a E
      refine sv E rfl rfl rfl (x_bin E rfl rfl rfl rfl) ?_
      clear a E;intro a E
      refine sv E rfl rfl rfl (x_assign E rfl rfl) ?_
      clear a E;intro a E
      refine wpList_nil ?_
      refine q_then ?_
      exact ⟨ior .i64 x6 2, _, ((E.nil.keep E 3 rfl).keep E 1 rfl), H, hs8, hm⟩
     ·intro hb
      rw [if_f hb] at hm
      clear hb
      refine wp_skip ?_
      refine q_then ?_
      exact ⟨x6, _, ((E.nil.keep E 3 rfl).keep E 1 rfl), H, hs8, hm⟩
    ·clear E H hm
     rintro a w ⟨x9, rs10, E, H, hs11, hm⟩
     unfold m_nodes_May_j3 at hm
     refine wp_seq_cut (fun a w => ∃ (x12 : Int) (rs13 : List Rp), Env 83 a [(1, .pointer (some ⟨p2, 0, none⟩)), (3, .int .i64 x12)] ∧ Sep w (Blk p2 24 [.int .i64 x1.Kind, .string x1.Path, .string x1.Data, .int .i64 x1.Version, .int .i64 x1.Owner, .bool x1.Turns] :: Fo) rs13 ∧ (∀ r, r ∈ rs → r ∈ rs13) ∧ m_nodes_May_j4 x1 x12 = some r) ?_ ?_
     ·refine wp_seq ?_
      refine wp_region_lit ?_
      refine sv E rfl rfl rfl (x_fa E rfl rfl (v := .pointer (some ⟨p2, 4, none⟩)) (fa24_4 _ _)) ?_
      clear a E;intro a E
      refine sv E rfl rfl rfl (x_ldB (i := 0) E H rfl rfl rfl rfl Tryz.underlying2 rfl) ?_
      clear a E;intro a E
      refine sv E rfl rfl rfl (x_bin E rfl rfl rfl rfl) ?_
      clear a E;intro a E
      refine wpList_nil ?_
      refine q_then ?_
      refine wp_if E rfl ?_ ?_
      ·intro hb
       rw [if_t hb] at hm
       clear hb
       refine wp_region_lit ?_
       refine sv E rfl rfl rfl (x_move E rfl rfl) ?_
       clear a E;intro a E
       refine sv E rfl rfl rfl (x_bin E rfl rfl rfl rfl) ?_
       clear a E;intro a E
       refine sv E rfl rfl rfl (x_assign E rfl rfl) ?_
       clear a E;intro a E
       refine wpList_nil ?_
       refine q_then ?_
       exact ⟨ior .i64 x9 4, _, ((E.nil.keep E 3 rfl).keep E 1 rfl), H, hs11, hm⟩
      ·intro hb
       rw [if_f hb] at hm
       clear hb
       refine wp_skip ?_
       refine q_then ?_
       exact ⟨x9, _, ((E.nil.keep E 3 rfl).keep E 1 rfl), H, hs11, hm⟩
     ·clear E H hm
      rintro a w ⟨x12, rs13, E, H, hs14, hm⟩
      unfold m_nodes_May_j4 at hm
      refine wp_seq_cut (fun a w => ∃ (x15 : Int) (rs16 : List Rp), Env 83 a [(1, .pointer (some ⟨p2, 0, none⟩)), (3, .int .i64 x15)] ∧ Sep w (Blk p2 24 [.int .i64 x1.Kind, .string x1.Path, .string x1.Data, .int .i64 x1.Version, .int .i64 x1.Owner, .bool x1.Turns] :: Fo) rs16 ∧ (∀ r, r ∈ rs → r ∈ rs16) ∧ m_nodes_May_j5 x1 x15 = some r) ?_ ?_
      ·refine wp_seq ?_
       refine wp_region_lit ?_
       refine sv E rfl rfl rfl (x_fa E rfl rfl (v := .pointer (some ⟨p2, 5, none⟩)) (fa24_5 _ _)) ?_
       clear a E;intro a E
       refine sv E rfl rfl rfl (x_ldB (i := 0) E H rfl rfl rfl rfl Tryz.underlying4 rfl) ?_
       clear a E;intro a E
       refine wpList_nil ?_
       refine q_then ?_
       refine wp_if E rfl ?_ ?_
       ·intro hb
        rw [if_t hb] at hm
        clear hb
        refine wp_region_lit ?_
        refine sv E rfl rfl rfl (x_move E rfl rfl) ?_
        clear a E;intro a E
        refine sv E rfl rfl rfl (x_bin E rfl rfl rfl rfl) ?_
        clear a E;intro a E
        refine sv E rfl rfl rfl (x_assign E rfl rfl) ?_
        clear a E;intro a E
        refine wpList_nil ?_
        refine q_then ?_
        exact ⟨ior .i64 x12 8, _, ((E.nil.keep E 3 rfl).keep E 1 rfl), H, hs14, hm⟩
       ·intro hb
        rw [if_f hb] at hm
        clear hb
        refine wp_skip ?_
        refine q_then ?_
        exact ⟨x12, _, ((E.nil.keep E 3 rfl).keep E 1 rfl), H, hs14, hm⟩
      ·clear E H hm
       rintro a w ⟨x15, rs16, E, H, hs17, hm⟩
       unfold m_nodes_May_j5 at hm
       refine wp_seq_cut (fun a w => ∃ (x18 : Int) (rs19 : List Rp), Env 83 a [(1, .pointer (some ⟨p2, 0, none⟩)), (3, .int .i64 x18)] ∧ Sep w (Blk p2 24 [.int .i64 x1.Kind, .string x1.Path, .string x1.Data, .int .i64 x1.Version, .int .i64 x1.Owner, .bool x1.Turns] :: Fo) rs19 ∧ (∀ r, r ∈ rs → r ∈ rs19) ∧ m_nodes_May_j6 x1 x18 = some r) ?_ ?_
       ·refine wp_seq ?_
        refine wp_region_lit ?_
        refine sv E rfl rfl rfl (x_fa E rfl rfl (v := .pointer (some ⟨p2, 1, none⟩)) (fa24_1 _ _)) ?_
        clear a E;intro a E
        refine sv E rfl rfl rfl (x_ldB (i := 0) E H rfl rfl rfl rfl Tryz.underlying9 rfl) ?_
        clear a E;intro a E
        refine sv E rfl rfl rfl (x_str E rfl rfl rfl rfl) ?_
        clear a E;intro a E
        refine wpList_nil ?_
        refine q_then ?_
        refine wp_if E rfl ?_ ?_
        ·intro hb
         rw [if_t hb] at hm
         clear hb
         refine wp_region_lit ?_
         refine sv E rfl rfl rfl (x_move E rfl rfl) ?_
         clear a E;intro a E
         refine sv E rfl rfl rfl (x_bin E rfl rfl rfl rfl) ?_
         clear a E;intro a E
         refine sv E rfl rfl rfl (x_assign E rfl rfl) ?_
         clear a E;intro a E
         refine wpList_nil ?_
         refine q_then ?_
         exact ⟨ior .i64 x15 16, _, ((E.nil.keep E 3 rfl).keep E 1 rfl), H, hs17, hm⟩
        ·intro hb
         rw [if_f hb] at hm
         clear hb
         refine wp_skip ?_
         refine q_then ?_
         exact ⟨x15, _, ((E.nil.keep E 3 rfl).keep E 1 rfl), H, hs17, hm⟩
       ·clear E H hm
        rintro a w ⟨x18, rs19, E, H, hs20, hm⟩
        unfold m_nodes_May_j6 at hm
        refine wp_seq_cut (fun a w => ∃ (b21 : Bool) (rs22 : List Rp), Env 83 a [(1, .pointer (some ⟨p2, 0, none⟩)), (3, .int .i64 x18), (4, .bool b21)] ∧ Sep w (Blk p2 24 [.int .i64 x1.Kind, .string x1.Path, .string x1.Data, .int .i64 x1.Version, .int .i64 x1.Owner, .bool x1.Turns] :: Fo) rs22 ∧ (∀ r, r ∈ rs → r ∈ rs22) ∧ m_nodes_May_j7 x1 x18 b21 = some r) ?_ ?_
        ·refine wp_region_lit ?_
         refine sv E rfl rfl rfl (x_fa E rfl rfl (v := .pointer (some ⟨p2, 3, none⟩)) (fa24_3 _ _)) ?_
         clear a E;intro a E
         refine sv E rfl rfl rfl (x_ldB (i := 0) E H rfl rfl rfl rfl Tryz.underlying2 rfl) ?_
         clear a E;intro a E
         refine sv E rfl rfl rfl (x_bin E rfl rfl rfl rfl) ?_
         clear a E;intro a E
         refine sv E rfl rfl rfl (x_move E rfl rfl) ?_
         clear a E;intro a E
         rcases Bool.eq_false_or_eq_true (decide (x1.Version ≥ (-1))) with hb31 | hb31
         ·rw [if_t hb31] at hm
          refine st_val E (ws' E rfl rfl rfl rfl hb31) rfl rfl (x_fa E rfl rfl (v := .pointer (some ⟨p2, 3, none⟩)) (fa24_3 _ _)) ?_
          clear a E;intro a E
          refine st_val E (ws' E rfl rfl rfl rfl hb31) rfl rfl (x_ldB (i := 0) E H rfl rfl rfl rfl Tryz.underlying2 rfl) ?_
          clear a E;intro a E
          refine st_val E (ws' E rfl rfl rfl rfl hb31) rfl rfl (x_bin E rfl rfl rfl rfl) ?_
          clear a E;intro a E
          refine sv E rfl rfl rfl (x_pickT E rfl rfl hb31 rfl) ?_
          clear a E;intro a E
          refine sv E rfl rfl rfl (x_assign E rfl rfl) ?_
          clear a E;intro a E
          refine wpList_nil ?_
          refine q_then ?_
          exact ⟨decide (x1.Version ≤ 281474976710656), _, (((E.nil.keep E 4 rfl).keep E 3 rfl).keep E 1 rfl), H, hs20, hm⟩
         ·rw [if_f hb31] at hm
          refine st_no E (wf' E rfl rfl rfl rfl hb31 rfl) rfl rfl ?_
          clear a E;intro a E
          refine st_no E (wf' E rfl rfl rfl rfl hb31 rfl) rfl rfl ?_
          clear a E;intro a E
          refine st_no E (wf' E rfl rfl rfl rfl hb31 rfl) rfl rfl ?_
          clear a E;intro a E
          refine sv E rfl rfl rfl (x_pickF E rfl rfl hb31 rfl) ?_
          clear a E;intro a E
          refine sv E rfl rfl rfl (x_assign E rfl rfl) ?_
          clear a E;intro a E
          refine wpList_nil ?_
          refine q_then ?_
          exact ⟨false, _, (((E.nil.keep E 4 rfl).keep E 3 rfl).keep E 1 rfl), H, hs20, hm⟩
        ·clear E H hm
         rintro a w ⟨b21, rs22, E, H, hs23, hm⟩
         unfold m_nodes_May_j7 at hm
         refine wp_seq ?_
         replace H : Sep w (Blk p2 24 [.int .i64 x1.Kind, .string x1.Path, .string x1.Data, .int .i64 x1.Version, .int .i64 x1.Owner, .bool x1.Turns] :: Fo) (rs22) := H
         have hI : Still [Blk p2 24 [.int .i64 x1.Kind, .string x1.Path, .string x1.Data, .int .i64 x1.Version, .int .i64 x1.Owner, .bool x1.Turns]] [] { w with drawn := w.drawn + 1 } := ⟨_, _, H.kept (Kp.drawn _ w _), (subO_cons (.head _) (subO_nil)), (sub_nil)⟩
         refine wp_draw _ [(0, 0), (1, 0), (2, 0), (4, 0), (5, 0), (3, 1), (6, 0), (7, 0), (8, 0), (9, 0), (10, 0), (11, 0), (12, 0), (13, 0), (14, 0), (15, 0), (16, 0), (17, 0), (18, 0), (19, 0), (20, 2)] mixedOk (by kernel_rfl) (fun _ _ _ h => False.elim h.2) hI ?_
         replace H := H.kept (Kp.drawn _ w (w.drawn + 1))
         generalize ({ w with drawn := w.drawn + 1 } : World) = w at H hI ⊢
         replace hI : ∃ W, Still [Blk p2 24 [.int .i64 x1.Kind, .string x1.Path, .string x1.Data, .int .i64 x1.Version, .int .i64 x1.Owner, .bool x1.Turns]] [] W := ⟨_, hI⟩
         obtain ⟨W0, hI⟩ := hI
         refine fr_val E rfl (wn rfl) rfl rfl (fun w hW => (x_move E rfl rfl)) ?_
         clear a E;intro a E
         refine fr_val E rfl (wn rfl) rfl rfl (fun w hW => (x_move E rfl rfl)) ?_
         clear a E;intro a E
         rcases Bool.eq_false_or_eq_true b21 with hb24 | hb24
         ·rw [if_t hb24] at hm
          refine fr_val E rfl (ws' E rfl rfl rfl rfl hb24) rfl rfl (fun w hW => (x_move E rfl rfl)) ?_
          clear a E;intro a E
          refine fr_val E rfl (ws' E rfl rfl rfl rfl hb24) rfl rfl (fun w hW => x_fa E rfl rfl (v := .pointer (some ⟨p2, 0, none⟩)) (fa24_0 _ _)) ?_
          clear a E;intro a E
          refine fr_val E rfl (ws' E rfl rfl rfl rfl hb24) rfl rfl (fun w hW => x_ld E rfl rfl (ib_ld (.head _) rfl Tryz.underlying3 rfl w hW)) ?_
          clear a E;intro a E
          refine fr_op rfl ?_
          obtain ⟨u25, hx26, hm⟩ := bnd hm
          refine st_call E (ws' E rfl rfl rfl rfl hb24) rfl rfl (x_call E rfl rfl (cf39 _)) (c_nodes_named H hx26) ?_
          clear E H; clear a; clear w; rintro _ w ⟨rfl, H⟩ a E
          refine wpList_nil ?_
          refine q_then ?_
          replace H : Sep w (Blk p2 24 [.int .i64 x1.Kind, .string x1.Path, .string x1.Data, .int .i64 x1.Version, .int .i64 x1.Owner, .bool x1.Turns] :: Fo) (rs22) := H
          refine ⟨⟨_, _, H, (subO_cons (.head _) (subO_nil)), (sub_nil)⟩, ?_⟩
          obtain ⟨x27, hx28, hm⟩ := bnd hm
          refine fr_val E rfl (ws' E rfl rfl rfl rfl hb24) rfl rfl (fun w hW => (x_ixArr (vs := [.int .i64 0, .int .i64 13, .int .i64 2, .int .i64 19, .int .i64 18, .int .i64 16, .int .i64 16, .int .i64 20]) E rfl rfl rfl Tryz.underlying57 rfl sz3 Tryz.underlying3 rfl (idx_map (Value.int .i64) (xs := ([0, 13, 2, 19, 18, 16, 16, 20] : List Int)) hx28))) ?_
          clear a E;intro a E
          refine fr_val E rfl (ws' E rfl rfl rfl rfl hb24) rfl rfl (fun w hW => (x_bin E rfl rfl rfl rfl)) ?_
          clear a E;intro a E
          refine fr_val E rfl (ws' E rfl rfl rfl rfl hb24) rfl rfl (fun w hW => (x_bin E rfl rfl rfl rfl)) ?_
          clear a E;intro a E
          refine fr_val E rfl (wn rfl) rfl rfl (fun w hW => (x_pickT E rfl rfl hb24 rfl)) ?_
          clear a E;intro a E
          refine fr_val E rfl (wn rfl) rfl rfl (fun w hW => (x_move E rfl rfl)) ?_
          clear a E;intro a E
          rcases Bool.eq_false_or_eq_true ((iandNot .i64 x18 x27) == 0) with hb29 | hb29
          ·rw [if_t hb29] at hm
           refine fr_val E rfl (ws' E rfl rfl rfl rfl hb29) rfl rfl (fun w hW => x_fa E rfl rfl (v := .pointer (some ⟨p2, 0, none⟩)) (fa24_0 _ _)) ?_
           clear a E;intro a E
           refine fr_val E rfl (ws' E rfl rfl rfl rfl hb29) rfl rfl (fun w hW => x_ld E rfl rfl (ib_ld (.head _) rfl Tryz.underlying3 rfl w hW)) ?_
           clear a E;intro a E
           refine fr_val E rfl (ws' E rfl rfl rfl rfl hb29) rfl rfl (fun w hW => (x_bin E rfl rfl rfl rfl)) ?_
           clear a E;intro a E
           refine fr_val E rfl (ws' E rfl rfl rfl rfl hb29) rfl rfl (fun w hW => (x_move E rfl rfl)) ?_
           clear a E;intro a E
           rcases Bool.eq_false_or_eq_true (x1.Kind != 7) with hb30 | hb30
           ·rw [if_t hb30] at hm
            refine fr_no E rfl (wf' E rfl rfl rfl rfl hb30 rfl) rfl rfl ?_
            clear a E;intro a E
            refine fr_no E rfl (wf' E rfl rfl rfl rfl hb30 rfl) rfl rfl ?_
            clear a E;intro a E
            refine fr_no E rfl (wf' E rfl rfl rfl rfl hb30 rfl) rfl rfl ?_
            clear a E;intro a E
            refine fr_val E rfl (ws' E rfl rfl rfl rfl hb29) rfl rfl (fun w hW => (x_pickT E rfl rfl hb30 rfl)) ?_
            clear a E;intro a E
            refine fr_val E rfl (wn rfl) rfl rfl (fun w hW => (x_pickT E rfl rfl hb29 rfl)) ?_
            clear a E;intro a E
            refine fr_tail rfl ?_
            refine sv E rfl rfl rfl (x_assign E rfl rfl) ?_
            clear a E;intro a E
            refine wpList_nil ?_
            refine q_then ?_
            refine fr_nil ?_
            clear hI
            refine q_then ?_
            refine wp_ret ?_
            refine out1 E rfl rfl ?_
            replace H := H.drop 0
            obtain rfl := Option.some.inj hm
            exact ⟨rfl, H.reads (fun r hr => hs23 r hr)⟩
           ·rw [if_f hb30] at hm
            refine fr_val E rfl (ws' E rfl rfl rfl rfl hb30) rfl rfl (fun w hW => x_fa E rfl rfl (v := .pointer (some ⟨p2, 4, none⟩)) (fa24_4 _ _)) ?_
            clear a E;intro a E
            refine fr_val E rfl (ws' E rfl rfl rfl rfl hb30) rfl rfl (fun w hW => x_ld E rfl rfl (ib_ld (.head _) rfl Tryz.underlying2 rfl w hW)) ?_
            clear a E;intro a E
            refine fr_val E rfl (ws' E rfl rfl rfl rfl hb30) rfl rfl (fun w hW => (x_bin E rfl rfl rfl rfl)) ?_
            clear a E;intro a E
            refine fr_val E rfl (ws' E rfl rfl rfl rfl hb29) rfl rfl (fun w hW => (x_pickF E rfl rfl hb30 rfl)) ?_
            clear a E;intro a E
            refine fr_val E rfl (wn rfl) rfl rfl (fun w hW => (x_pickT E rfl rfl hb29 rfl)) ?_
            clear a E;intro a E
            refine fr_tail rfl ?_
            refine sv E rfl rfl rfl (x_assign E rfl rfl) ?_
            clear a E;intro a E
            refine wpList_nil ?_
            refine q_then ?_
            refine fr_nil ?_
            clear hI
            refine q_then ?_
            refine wp_ret ?_
            refine out1 E rfl rfl ?_
            replace H := H.drop 0
            obtain rfl := Option.some.inj hm
            exact ⟨rfl, H.reads (fun r hr => hs23 r hr)⟩
          ·rw [if_f hb29] at hm
           refine fr_no E rfl (wf' E rfl rfl rfl rfl hb29 rfl) rfl rfl ?_
           clear a E;intro a E
           refine fr_no E rfl (wf' E rfl rfl rfl rfl hb29 rfl) rfl rfl ?_
           clear a E;intro a E
           refine fr_no E rfl (wf' E rfl rfl rfl rfl hb29 rfl) rfl rfl ?_
           clear a E;intro a E
           refine fr_no E rfl (wf' E rfl rfl rfl rfl hb29 rfl) rfl rfl ?_
           clear a E;intro a E
           refine fr_no E rfl (wu E rfl rfl rfl rfl) rfl rfl ?_
           clear a E;intro a E
           refine fr_no E rfl (wu E rfl rfl rfl rfl) rfl rfl ?_
           clear a E;intro a E
           refine fr_no E rfl (wu E rfl rfl rfl rfl) rfl rfl ?_
           clear a E;intro a E
           refine fr_no E rfl (wf' E rfl rfl rfl rfl hb29 rfl) rfl rfl ?_
           clear a E;intro a E
           refine fr_val E rfl (wn rfl) rfl rfl (fun w hW => (x_pickF E rfl rfl hb29 rfl)) ?_
           clear a E;intro a E
           refine fr_tail rfl ?_
           refine sv E rfl rfl rfl (x_assign E rfl rfl) ?_
           clear a E;intro a E
           refine wpList_nil ?_
           refine q_then ?_
           refine fr_nil ?_
           clear hI
           refine q_then ?_
           refine wp_ret ?_
           refine out1 E rfl rfl ?_
           replace H := H.drop 0
           obtain rfl := Option.some.inj hm
           exact ⟨rfl, H.reads (fun r hr => hs23 r hr)⟩
         ·rw [if_f hb24] at hm
          refine fr_no E rfl (wf' E rfl rfl rfl rfl hb24 rfl) rfl rfl ?_
          clear a E;intro a E
          refine fr_no E rfl (wf' E rfl rfl rfl rfl hb24 rfl) rfl rfl ?_
          clear a E;intro a E
          refine fr_no E rfl (wf' E rfl rfl rfl rfl hb24 rfl) rfl rfl ?_
          clear a E;intro a E
          refine fr_op rfl ?_
          refine st_no E (wf' E rfl rfl rfl rfl hb24 rfl) rfl rfl ?_
          clear a E;intro a E
          refine wpList_nil ?_
          refine q_then ?_
          replace H : Sep w (Blk p2 24 [.int .i64 x1.Kind, .string x1.Path, .string x1.Data, .int .i64 x1.Version, .int .i64 x1.Owner, .bool x1.Turns] :: Fo) (rs22) := H
          refine ⟨⟨_, _, H, (subO_cons (.head _) (subO_nil)), (sub_nil)⟩, ?_⟩
          refine fr_no E rfl (wf' E rfl rfl rfl rfl hb24 rfl) rfl rfl ?_
          clear a E;intro a E
          refine fr_no E rfl (wf' E rfl rfl rfl rfl hb24 rfl) rfl rfl ?_
          clear a E;intro a E
          refine fr_no E rfl (wf' E rfl rfl rfl rfl hb24 rfl) rfl rfl ?_
          clear a E;intro a E
          refine fr_val E rfl (wn rfl) rfl rfl (fun w hW => (x_pickF E rfl rfl hb24 rfl)) ?_
          clear a E;intro a E
          refine fr_val E rfl (wn rfl) rfl rfl (fun w hW => (x_move E rfl rfl)) ?_
          clear a E;intro a E
          refine fr_no E rfl (wf E rfl rfl rfl rfl rfl) rfl rfl ?_
          clear a E;intro a E
          refine fr_no E rfl (wf E rfl rfl rfl rfl rfl) rfl rfl ?_
          clear a E;intro a E
          refine fr_no E rfl (wf E rfl rfl rfl rfl rfl) rfl rfl ?_
          clear a E;intro a E
          refine fr_no E rfl (wf E rfl rfl rfl rfl rfl) rfl rfl ?_
          clear a E;intro a E
          refine fr_no E rfl (wu E rfl rfl rfl rfl) rfl rfl ?_
          clear a E;intro a E
          refine fr_no E rfl (wu E rfl rfl rfl rfl) rfl rfl ?_
          clear a E;intro a E
          refine fr_no E rfl (wu E rfl rfl rfl rfl) rfl rfl ?_
          clear a E;intro a E
          refine fr_no E rfl (wf E rfl rfl rfl rfl rfl) rfl rfl ?_
          clear a E;intro a E
          refine fr_val E rfl (wn rfl) rfl rfl (fun w hW => (x_pickF E rfl rfl rfl rfl)) ?_
          clear a E;intro a E
          refine fr_tail rfl ?_
          refine sv E rfl rfl rfl (x_assign E rfl rfl) ?_
          clear a E;intro a E
          refine wpList_nil ?_
          refine q_then ?_
          refine fr_nil ?_
          clear hI
          refine q_then ?_
          refine wp_ret ?_
          refine out1 E rfl rfl ?_
          replace H := H.drop 0
          obtain rfl := Option.some.inj hm
          exact ⟨rfl, H.reads (fun r hr => hs23 r hr)⟩
end Go.Cb

set_option linter.unusedVariables false
set_option linter.unusedSimpArgs false
namespace Go.Cb
open Go.Proofs Go.RowKit
def m_nodes_check (l2 : List S_api_Node) (x3 : Int) (x4 : S_api_Op) : Option ((List S_api_Node) × S_api_Result) :=
  (idx l2 x3).bind fun x9 => some (l2, (⟨0, (ByteArray.mk #[]), (ByteArray.mk #[]), x9.Version, []⟩ : S_api_Result))
set_option maxRecDepth 20000 in
set_option maxHeartbeats 1000000 in
theorem c_nodes_check {w : World} {Fo : List Ob} {rs : List Rp} (v1 : Value) (l2 : List S_api_Node) (x3 : Int) (x4 : S_api_Op) (H : Sep w (Fo) rs) (hr5 : rSl k_api_Node v1 l2 ∈ rs) {r : (List S_api_Node) × S_api_Result} (hm : m_nodes_check l2 x3 x4 = some r) :
    Calls Tryz.prog 23 [v1, .int .i64 x3, .agg #[.int .i64 x4.Kind, .string x4.Path, .string x4.Data, .int .i64 x4.Version, .int .i64 x4.Owner, .bool x4.Turns]].toArray w (Ret fun v w' => ∃ (v5001 : Value) (v5004 : Value), .tuple #[v5001, .agg #[.int .i64 r.2.Err, .string r.2.Path, .string r.2.Data, .int .i64 r.2.Version, v5004]] = v ∧ Sep w' (Fo) (rSl k_api_Node v5001 r.1 :: rSl kS v5004 r.2.Names :: rs)) := by
 unfold m_nodes_check at hm
 refine enter Tryz.func23 rfl Tryz.ntmps23 rfl fun a E => ?_
 simp only [enum, Nat.reduceAdd] at E
 refine wp_seq ?_
 refine wp_region_lit ?_
 refine st_box E H (wn rfl) rfl rfl (cs := [.int .i64 x4.Kind, .string x4.Path, .string x4.Data, .int .i64 x4.Version, .int .i64 x4.Owner, .bool x4.Turns]) rfl rfl rfl ?_
 clear E H; clear a; clear w; intro p6 w a H E
 refine sv E rfl rfl rfl (x_assign E rfl rfl) ?_
 clear a E;intro a E
 refine st_alloc E H (wn rfl) rfl rfl (cs := [.int .i64 0, .string (ByteArray.mk #[]), .string (ByteArray.mk #[]), .int .i64 0, .slice none 0 0]) rfl (z := .agg #[.int .i64 0, .string ⟨#[]⟩, .string ⟨#[]⟩, .int .i64 0, .slice none 0 0]) (by kernel_rfl) rfl ?_
 clear E H; clear a; clear w; intro p7 w a H E
 refine wpList_nil ?_
 refine q_then ?_
 refine wp_seq ?_
 obtain ⟨u8, H⟩ := H.raw hr5
 replace H : Sep w (Blk p7 31 [.int .i64 0, .string (ByteArray.mk #[]), .string (ByteArray.mk #[]), .int .i64 0, .slice none 0 0] :: Blk p6 24 [.int .i64 x4.Kind, .string x4.Path, .string x4.Data, .int .i64 x4.Version, .int .i64 x4.Owner, .bool x4.Turns] :: Fo) (rRow k_api_Node v1 l2 u8 :: rs) := H
 have hI : Still [] [rRow k_api_Node v1 l2 u8] { w with drawn := w.drawn + 1 } := ⟨_, _, H.kept (Kp.drawn _ w _), (subO_nil), (sub_cons (.head _) (sub_nil))⟩
 refine wp_draw _ [(0, 0), (1, 0), (2, 0), (3, 0), (4, 0), (5, 0), (6, 0), (7, 1), (8, 2)] mixedOk (by kernel_rfl) (fun _ _ _ h => False.elim h.2) hI ?_
 replace H := H.kept (Kp.drawn _ w (w.drawn + 1))
 generalize ({ w with drawn := w.drawn + 1 } : World) = w at H hI ⊢
 replace hI : ∃ W, Still [] [rRow k_api_Node v1 l2 u8] W := ⟨_, hI⟩
 obtain ⟨W0, hI⟩ := hI
 refine fr_val E rfl (wn rfl) rfl rfl (fun w hW => (x_move E rfl rfl)) ?_
 clear a E;intro a E
 refine fr_val E rfl (wn rfl) rfl rfl (fun w hW => (x_move E rfl rfl)) ?_
 clear a E;intro a E
 refine fr_val E rfl (wn rfl) rfl rfl (fun w hW => (x_move E rfl rfl)) ?_
 clear a E;intro a E
 obtain ⟨x9, hx10, hm⟩ := bnd hm
 obtain ⟨q11, u14, hx12, hx13⟩ := dr_ixW (P := Tryz.prog) (k := .i64) hI (dr_mem (.head _)) Tryz.underlying22 sz35 hx10
 refine fr_val E rfl (wn rfl) rfl rfl (fun w hW => x_ixA E rfl rfl rfl (hx12 w)) ?_
 clear a E;intro a E
 have hx15 := dr_fld hx13 (fun _ _ _ h => k_api_Node_aw2 h)
 refine fr_val E rfl (wn rfl) rfl rfl (fun w hW => x_fa E rfl rfl (fa35_2 _ _)) ?_
 clear a E;intro a E
 refine fr_val E rfl (wn rfl) rfl rfl (fun w hW => x_ld E rfl rfl (ir_ld (DR.ir (dr_at hx15)) Tryz.underlying2 rfl w hW)) ?_
 clear a E;intro a E
 refine fr_val E rfl (wn rfl) rfl rfl (fun w hW => (x_build E (ps := [(3, .tmp 13)]) (vs := [(3, .int .i64 x9.Version)]) rfl (by simp only [List.map]; rw [E.eval (x := .tmp 13) (v := .int .i64 x9.Version) rfl]) (v := .agg #[.int .i64 0, .string (ByteArray.mk #[]), .string (ByteArray.mk #[]), .int .i64 x9.Version, .slice none 0 0]) (by kernel_rfl))) ?_
 clear a E;intro a E
 refine fr_op rfl ?_
 refine sv E rfl rfl rfl (x_assign E rfl rfl) ?_
 clear a E;intro a E
 refine wpList_nil ?_
 refine q_then ?_
 replace H : Sep w (Blk p7 31 [.int .i64 0, .string (ByteArray.mk #[]), .string (ByteArray.mk #[]), .int .i64 0, .slice none 0 0] :: Blk p6 24 [.int .i64 x4.Kind, .string x4.Path, .string x4.Data, .int .i64 x4.Version, .int .i64 x4.Owner, .bool x4.Turns] :: Fo) (rRow k_api_Node v1 l2 u8 :: rs) := H
 refine ⟨⟨_, _, H, (subO_nil), (sub_cons (.head _) (sub_nil))⟩, ?_⟩
 refine fr_tail rfl ?_
 refine st_st (i := 0) E H (wn rfl) rfl (us := [.int .i64 0, .string (ByteArray.mk #[]), .string (ByteArray.mk #[]), .int .i64 x9.Version, .slice none 0 0]) rfl rfl rfl rfl rfl sz31 rfl rfl ?_
 clear H; clear w; intro w H
 replace H : Sep w (Blk p7 31 [.int .i64 0, .string (ByteArray.mk #[]), .string (ByteArray.mk #[]), .int .i64 x9.Version, .slice none 0 0] :: Blk p6 24 [.int .i64 x4.Kind, .string x4.Path, .string x4.Data, .int .i64 x4.Version, .int .i64 x4.Owner, .bool x4.Turns] :: Fo) _ := H
 refine wpList_nil ?_
 refine q_then ?_
 refine fr_nil ?_
 clear hI
 refine q_then ?_
 refine wp_ret ?_
 refine outR2 E rfl (rvT rfl) (rvBN (i := 0) (us := [.int .i64 0, .string (ByteArray.mk #[]), .string (ByteArray.mk #[]), .int .i64 x9.Version, .slice none 0 0]) H rfl rfl rfl Tryz.underlying31 rfl sz31) ?_
 replace H := H.nilSl kS
 replace H := H.drop 0
 replace H := H.drop 0
 obtain rfl := Option.some.inj hm
 exact ⟨v1, (.slice none 0 0), rfl, H.reads (sub_cons (.tail _ (.tail _ hr5)) (sub_cons (.head _) (fun r hr => .tail _ (.tail _ (hr)))))⟩
end Go.Cb

set_option linter.unusedVariables false
set_option linter.unusedSimpArgs false
namespace Go.Cb
open Go.Proofs Go.RowKit
def m_nodes_failed (x1 : Int) : Option S_api_Result :=
  some ((⟨x1, (ByteArray.mk #[]), (ByteArray.mk #[]), 0, []⟩ : S_api_Result))
set_option maxRecDepth 20000 in
set_option maxHeartbeats 1000000 in
theorem c_nodes_failed {w : World} {Fo : List Ob} {rs : List Rp} (x1 : Int) (H : Sep w (Fo) rs) {r : S_api_Result} (hm : m_nodes_failed x1 = some r) :
    Calls Tryz.prog 18 [.int .i64 x1].toArray w (Ret fun v w' => ∃ (v5002 : Value), .agg #[.int .i64 r.Err, .string r.Path, .string r.Data, .int .i64 r.Version, v5002] = v ∧ Sep w' (Fo) (rSl kS v5002 r.Names :: rs)) := by
 unfold m_nodes_failed at hm
 refine enter Tryz.func18 rfl Tryz.ntmps18 rfl fun a E => ?_
 simp only [enum, Nat.reduceAdd] at E
 refine wp_seq ?_
 refine wp_region_lit ?_
 refine st_alloc E H (wn rfl) rfl rfl (cs := [.int .i64 0, .string (ByteArray.mk #[]), .string (ByteArray.mk #[]), .int .i64 0, .slice none 0 0]) rfl (z := .agg #[.int .i64 0, .string ⟨#[]⟩, .string ⟨#[]⟩, .int .i64 0, .slice none 0 0]) (by kernel_rfl) rfl ?_
 clear E H; clear a; clear w; intro p2 w a H E
 refine wpList_nil ?_
 refine q_then ?_
 refine wp_seq ?_
 refine wp_region_lit ?_
 refine sv E rfl rfl rfl (x_move E rfl rfl) ?_
 clear a E;intro a E
 refine sv E rfl rfl rfl (x_build E (ps := [(0, .tmp 3)]) (vs := [(0, .int .i64 x1)]) rfl (by simp only [List.map]; rw [E.eval (x := .tmp 3) (v := .int .i64 x1) rfl]) (v := .agg #[.int .i64 x1, .string (ByteArray.mk #[]), .string (ByteArray.mk #[]), .int .i64 0, .slice none 0 0]) (by kernel_rfl)) ?_
 clear a E;intro a E
 refine st_st (i := 0) E H (wn rfl) rfl (us := [.int .i64 x1, .string (ByteArray.mk #[]), .string (ByteArray.mk #[]), .int .i64 0, .slice none 0 0]) rfl rfl rfl rfl rfl sz31 rfl rfl ?_
 clear H; clear w; intro w H
 replace H : Sep w (Blk p2 31 [.int .i64 x1, .string (ByteArray.mk #[]), .string (ByteArray.mk #[]), .int .i64 0, .slice none 0 0] :: Fo) _ := H
 refine wpList_nil ?_
 refine q_then ?_
 refine wp_ret ?_
 refine outR1 E rfl (rvBN (i := 0) (us := [.int .i64 x1, .string (ByteArray.mk #[]), .string (ByteArray.mk #[]), .int .i64 0, .slice none 0 0]) H rfl rfl rfl Tryz.underlying31 rfl sz31) ?_
 replace H := H.nilSl kS
 replace H := H.drop 0
 obtain rfl := Option.some.inj hm
 exact ⟨(.slice none 0 0), rfl, H.reads (sub_cons (.head _) (fun r hr => .tail _ (hr)))⟩
end Go.Cb

set_option linter.unusedVariables false
set_option linter.unusedSimpArgs false
namespace Go.Cb
open Go.Proofs Go.RowKit
def m_nodes_create_j2 (u30 : Int × Bool) (s25 : ByteArray) (x3 : S_api_Op) (l46 : (List S_api_Node)) : Option ((List S_api_Node) × S_api_Result) :=
  (ck (0 ≤ u30.1 ∧ u30.1 ≤ l46.length ∧ 0 < l46.length ∧ l46.length ≤ 1000000)).bind fun u51 => some (l46.take u30.1.toNat ++ (⟨s25, x3.Data, 0, 0, x3.Owner⟩ : S_api_Node) :: l46.drop u30.1.toNat, (⟨0, s25, (ByteArray.mk #[]), 0, []⟩ : S_api_Result))
def m_nodes_create_j1 (x3 : S_api_Op) (l2 : List S_api_Node) (u10 : Int × Bool) (s25 : ByteArray) : Option ((List S_api_Node) × S_api_Result) :=
  (m_nodes_where l2 s25).bind fun u30 => if u30.2 = true then ((m_nodes_failed 61).bind fun u32 => some (l2, (⟨u32.Err, u32.Path, u32.Data, u32.Version, u32.Names⟩ : S_api_Result))) else (if ((l2.length : Int) == 512) = true then ((m_nodes_failed 2).bind fun u37 => some (l2, (⟨u37.Err, u37.Path, u37.Data, u37.Version, u37.Names⟩ : S_api_Result))) else ((ck (l2.length ≤ LIM)).bind fun u43 => if x3.Turns = true then ((idx l2 u10.1).bind fun x54 => (idx l2 u10.1).bind fun x59 => m_nodes_create_j2 u30 s25 x3 (l2.set u10.1.toNat ({ x59 with Turn := IntKind.i64.wrap (x54.Turn + 1) } : S_api_Node))) else (m_nodes_create_j2 u30 s25 x3 l2)))
def m_nodes_create (l2 : List S_api_Node) (x3 : S_api_Op) : Option ((List S_api_Node) × S_api_Result) :=
  (m_path_Parent x3.Path).bind fun u8 => (m_nodes_where l2 u8.1).bind fun u10 => if (!u10.2) = true then ((m_nodes_failed 62).bind fun u12 => some (l2, (⟨u12.Err, u12.Path, u12.Data, u12.Version, u12.Names⟩ : S_api_Result))) else ((idx l2 u10.1).bind fun x17 => if (x17.Owner != 0) = true then ((m_nodes_failed 65).bind fun u20 => some (l2, (⟨u20.Err, u20.Path, u20.Data, u20.Version, u20.Names⟩ : S_api_Result))) else (if x3.Turns = true then ((idx l2 u10.1).bind fun x65 => (m_path_Last x3.Path).bind fun u72 => (m_path_Numbered u72 x65.Turn).bind fun u74 => if (!u74.2) = true then ((m_nodes_failed 66).bind fun u76 => some (l2, (⟨u76.Err, u76.Path, u76.Data, u76.Version, u76.Names⟩ : S_api_Result))) else ((m_path_Join u8.1 u74.1).bind fun u81 => m_nodes_create_j1 x3 l2 u10 u81.1)) else (m_nodes_create_j1 x3 l2 u10 x3.Path)))
set_option maxRecDepth 20000 in
set_option maxHeartbeats 1000000 in
theorem c_nodes_create {w : World} {Fo : List Ob} {rs : List Rp} (v1 : Value) (l2 : List S_api_Node) (x3 : S_api_Op) (H : Sep w (Fo) rs) (hr4 : rSl k_api_Node v1 l2 ∈ rs) (hr5 : rTab Tryz.prog ∈ rs) {r : (List S_api_Node) × S_api_Result} (hm : m_nodes_create l2 x3 = some r) :
    Calls Tryz.prog 19 [v1, .agg #[.int .i64 x3.Kind, .string x3.Path, .string x3.Data, .int .i64 x3.Version, .int .i64 x3.Owner, .bool x3.Turns]].toArray w (Ret fun v w' => ∃ (v5001 : Value) (v5004 : Value), .tuple #[v5001, .agg #[.int .i64 r.2.Err, .string r.2.Path, .string r.2.Data, .int .i64 r.2.Version, v5004]] = v ∧ Sep w' (Fo) (rSl k_api_Node v5001 r.1 :: rSl kS v5004 r.2.Names :: rs)) := by
 unfold m_nodes_create at hm
 refine enter Tryz.func19 rfl Tryz.ntmps19 rfl fun a E => ?_
 simp only [enum, Nat.reduceAdd] at E
 refine wp_seq ?_
 refine wp_region_lit ?_
 refine st_box E H (wn rfl) rfl rfl (cs := [.int .i64 x3.Kind, .string x3.Path, .string x3.Data, .int .i64 x3.Version, .int .i64 x3.Owner, .bool x3.Turns]) rfl rfl rfl ?_
 clear E H; clear a; clear w; intro p6 w a H E
 refine sv E rfl rfl rfl (x_assign E rfl rfl) ?_
 clear a E;intro a E
 refine st_alloc E H (wn rfl) rfl rfl (cs := [.int .i64 0, .string (ByteArray.mk #[]), .string (ByteArray.mk #[]), .int .i64 0, .slice none 0 0]) rfl (z := .agg #[.int .i64 0, .string ⟨#[]⟩, .string ⟨#[]⟩, .int .i64 0, .slice none 0 0]) (by kernel_rfl) rfl ?_
 clear E H; clear a; clear w; intro p7 w a H E
 refine wpList_nil ?_
 refine q_then ?_
 refine wp_seq ?_
 refine wp_region_lit ?_
 refine sv E rfl rfl rfl (x_fa E rfl rfl (v := .pointer (some ⟨p6, 1, none⟩)) (fa24_1 _ _)) ?_
 clear a E;intro a E
 refine sv E rfl rfl rfl (x_ldB (i := 1) E H rfl rfl rfl rfl Tryz.underlying9 rfl) ?_
 clear a E;intro a E
 obtain ⟨u8, hx9, hm⟩ := bnd hm
 refine st_call E (wn rfl) rfl rfl (x_call E rfl rfl (cf34 _)) (c_path_Parent x3.Path H hx9) ?_
 clear E H; clear a; clear w; rintro _ w ⟨rfl, H⟩ a E
 refine sv E rfl rfl rfl (x_move E rfl rfl) ?_
 clear a E;intro a E
 refine sv E rfl rfl rfl (x_ext E rfl rfl rfl) ?_
 clear a E;intro a E
 refine sv E rfl rfl rfl (x_ext E rfl rfl rfl) ?_
 clear a E;intro a E
 refine sv E rfl rfl rfl (x_assign E rfl rfl) ?_
 clear a E;intro a E
 refine sv E rfl rfl rfl (x_assign E rfl rfl) ?_
 clear a E;intro a E
 refine wpList_nil ?_
 refine q_then ?_
 refine wp_seq ?_
 refine wp_region_lit ?_
 refine sv E rfl rfl rfl (x_move E rfl rfl) ?_
 clear a E;intro a E
 refine sv E rfl rfl rfl (x_move E rfl rfl) ?_
 clear a E;intro a E
 obtain ⟨u10, hx11, hm⟩ := bnd hm
 refine st_call E (wn rfl) rfl rfl (x_call E rfl rfl (cf20 _)) (c_nodes_where v1 l2 u8.1 H hr4 hx11) ?_
 clear E H; clear a; clear w; rintro _ w ⟨rfl, H⟩ a E
 refine sv E rfl rfl rfl (x_move E rfl rfl) ?_
 clear a E;intro a E
 refine sv E rfl rfl rfl (x_ext E rfl rfl rfl) ?_
 clear a E;intro a E
 refine sv E rfl rfl rfl (x_ext E rfl rfl rfl) ?_
 clear a E;intro a E
 refine sv E rfl rfl rfl (x_assign E rfl rfl) ?_
 clear a E;intro a E
 refine sv E rfl rfl rfl (x_assign E rfl rfl) ?_
 clear a E;intro a E
 refine wpList_nil ?_
 refine q_then ?_
 refine wp_seq ?_
 refine wp_block ?_
 refine wp_seq ?_
 refine wp_region_lit ?_
 refine sv E rfl rfl rfl (x_move E rfl rfl) ?_
 clear a E;intro a E
 refine sv E rfl rfl rfl (x_not E rfl rfl) ?_
 clear a E;intro a E
 refine sv E rfl rfl rfl (x_assign E rfl rfl) ?_
 clear a E;intro a E
 refine wpList_nil ?_
 refine q_then ?_
 refine wp_if E rfl ?_ ?_
 ·intro hb
  rw [if_t hb] at hm
  clear hb
  refine wp_seq ?_
  refine wp_region_lit ?_
  refine sv E rfl rfl rfl (x_move E rfl rfl) ?_
  clear a E;intro a E
  obtain ⟨u12, hx13, hm⟩ := bnd hm
  refine st_call E (wn rfl) rfl rfl (x_call E rfl rfl (cf18 _)) (c_nodes_failed 62 H hx13) ?_
  clear E H; clear a; clear w; rintro _ w ⟨v14, rfl, H⟩ a E
  refine sv E rfl rfl rfl (x_assign E rfl rfl) ?_
  clear a E;intro a E
  obtain ⟨q15, x16, rfl⟩ := H.slform (.head _)
  refine st_st (i := 0) E H (wn rfl) rfl (us := [.int .i64 u12.Err, .string u12.Path, .string u12.Data, .int .i64 u12.Version, (.slice q15 u12.Names.length x16)]) rfl rfl rfl rfl rfl sz31 rfl rfl ?_
  clear H; clear w; intro w H
  replace H : Sep w (Blk p7 31 [.int .i64 u12.Err, .string u12.Path, .string u12.Data, .int .i64 u12.Version, (.slice q15 u12.Names.length x16)] :: Blk p6 24 [.int .i64 x3.Kind, .string x3.Path, .string x3.Data, .int .i64 x3.Version, .int .i64 x3.Owner, .bool x3.Turns] :: Fo) _ := H
  refine wpList_nil ?_
  refine q_then ?_
  refine wp_ret ?_
  refine q_blkR ?_
  refine q_thenR ?_
  refine outR2 E rfl (rvT rfl) (rvBN (i := 0) (us := [.int .i64 u12.Err, .string u12.Path, .string u12.Data, .int .i64 u12.Version, (.slice q15 u12.Names.length x16)]) H rfl rfl rfl Tryz.underlying31 rfl sz31) ?_
  replace H := H.drop 0
  replace H := H.drop 0
  obtain rfl := Option.some.inj hm
  exact ⟨v1, (.slice q15 u12.Names.length x16), rfl, H.reads (sub_cons (.tail _ hr4) (sub_cons (.head _) (fun r hr => .tail _ (hr))))⟩
 ·intro hb
  rw [if_f hb] at hm
  clear hb
  refine wp_seq ?_
  refine wp_region_lit ?_
  refine sv E rfl rfl rfl (x_move E rfl rfl) ?_
  clear a E;intro a E
  refine sv E rfl rfl rfl (x_move E rfl rfl) ?_
  clear a E;intro a E
  obtain ⟨x17, hx18, hm⟩ := bnd hm
  refine st_ixS E H (wn rfl) rfl rfl rfl rfl rfl hr4 Tryz.underlying22 sz35 hx18 ?_
  clear E H; clear a; intro q19 a H E
  replace H := H.derive1 (.head _) (rAt (kI .i64) (q19.add 4) x17.Owner) (fun ok h => k_api_Node_at4 h)
  refine sv E rfl rfl rfl (x_fa E rfl rfl (fa35_4 _ _)) ?_
  clear a E;intro a E
  refine sv E rfl rfl rfl (x_ldA E H rfl rfl (.head _) Tryz.underlying2 rfl) ?_
  clear a E;intro a E
  refine sv E rfl rfl rfl (x_bin E rfl rfl rfl rfl) ?_
  clear a E;intro a E
  refine sv E rfl rfl rfl (x_assign E rfl rfl) ?_
  clear a E;intro a E
  refine wpList_nil ?_
  refine q_then ?_
  refine wp_if E rfl ?_ ?_
  ·intro hb
   rw [if_t hb] at hm
   clear hb
   refine wp_seq ?_
   refine wp_region_lit ?_
   refine sv E rfl rfl rfl (x_move E rfl rfl) ?_
   clear a E;intro a E
   obtain ⟨u20, hx21, hm⟩ := bnd hm
   refine st_call E (wn rfl) rfl rfl (x_call E rfl rfl (cf18 _)) (c_nodes_failed 65 H hx21) ?_
   clear E H; clear a; clear w; rintro _ w ⟨v22, rfl, H⟩ a E
   refine sv E rfl rfl rfl (x_assign E rfl rfl) ?_
   clear a E;intro a E
   obtain ⟨q23, x24, rfl⟩ := H.slform (.head _)
   refine st_st (i := 0) E H (wn rfl) rfl (us := [.int .i64 u20.Err, .string u20.Path, .string u20.Data, .int .i64 u20.Version, (.slice q23 u20.Names.length x24)]) rfl rfl rfl rfl rfl sz31 rfl rfl ?_
   clear H; clear w; intro w H
   replace H : Sep w (Blk p7 31 [.int .i64 u20.Err, .string u20.Path, .string u20.Data, .int .i64 u20.Version, (.slice q23 u20.Names.length x24)] :: Blk p6 24 [.int .i64 x3.Kind, .string x3.Path, .string x3.Data, .int .i64 x3.Version, .int .i64 x3.Owner, .bool x3.Turns] :: Fo) _ := H
   refine wpList_nil ?_
   refine q_then ?_
   refine wp_ret ?_
   refine q_blkR ?_
   refine q_thenR ?_
   refine outR2 E rfl (rvT rfl) (rvBN (i := 0) (us := [.int .i64 u20.Err, .string u20.Path, .string u20.Data, .int .i64 u20.Version, (.slice q23 u20.Names.length x24)]) H rfl rfl rfl Tryz.underlying31 rfl sz31) ?_
   replace H := H.drop 0
   replace H := H.drop 0
   obtain rfl := Option.some.inj hm
   exact ⟨v1, (.slice q23 u20.Names.length x24), rfl, H.reads (sub_cons (.tail _ (.tail _ (.tail _ hr4))) (sub_cons (.head _) (fun r hr => .tail _ (.tail _ (.tail _ (hr))))))⟩
  ·intro hb
   rw [if_f hb] at hm
   clear hb
   refine wp_skip ?_
   refine q_blk ?_
   refine q_then ?_
   refine wp_seq ?_
   refine wp_region_lit ?_
   refine sv E rfl rfl rfl (x_fa E rfl rfl (v := .pointer (some ⟨p6, 1, none⟩)) (fa24_1 _ _)) ?_
   clear a E;intro a E
   refine sv E rfl rfl rfl (x_ldB (i := 1) E H rfl rfl rfl rfl Tryz.underlying9 rfl) ?_
   clear a E;intro a E
   refine sv E rfl rfl rfl (x_assign E rfl rfl) ?_
   clear a E;intro a E
   refine wpList_nil ?_
   refine q_then ?_
   refine wp_seq_cut (fun a w => ∃ (s25 : ByteArray) (rs26 : List Rp), Env 106 a [(0, v1), (3, .pointer (some ⟨p6, 0, none⟩)), (5, .pointer (some ⟨p7, 0, none⟩)), (8, .int .i64 u10.1), (10, .string s25)] ∧ Sep w (Blk p6 24 [.int .i64 x3.Kind, .string x3.Path, .string x3.Data, .int .i64 x3.Version, .int .i64 x3.Owner, .bool x3.Turns] :: Blk p7 31 [.int .i64 0, .string (ByteArray.mk #[]), .string (ByteArray.mk #[]), .int .i64 0, .slice none 0 0] :: Fo) rs26 ∧ (∀ r, r ∈ rs → r ∈ rs26) ∧ rSl k_api_Node v1 l2 ∈ rs26 ∧ rTab Tryz.prog ∈ rs26 ∧ m_nodes_create_j1 x3 l2 u10 s25 = some r) ?_ ?_
   ·refine wp_seq ?_
    refine wp_region_lit ?_
    refine sv E rfl rfl rfl (x_fa E rfl rfl (v := .pointer (some ⟨p6, 5, none⟩)) (fa24_5 _ _)) ?_
    clear a E;intro a E
    refine sv E rfl rfl rfl (x_ldB (i := 1) E H rfl rfl rfl rfl Tryz.underlying4 rfl) ?_
    clear a E;intro a E
    refine wpList_nil ?_
    refine q_then ?_
    refine wp_if E rfl ?_ ?_
    ·intro hb
     rw [if_t hb] at hm
     clear hb
     refine wp_seq ?_
     obtain ⟨u64, H⟩ := H.raw (.tail _ (.tail _ hr4))
     replace H : Sep w (Blk p7 31 [.int .i64 0, .string (ByteArray.mk #[]), .string (ByteArray.mk #[]), .int .i64 0, .slice none 0 0] :: Blk p6 24 [.int .i64 x3.Kind, .string x3.Path, .string x3.Data, .int .i64 x3.Version, .int .i64 x3.Owner, .bool x3.Turns] :: Fo) (rRow k_api_Node v1 l2 u64 :: rAt (kI .i64) (q19.add 4) x17.Owner :: rAt k_api_Node q19 x17 :: rs) := H
     have hI : Still [] [rRow k_api_Node v1 l2 u64] { w with drawn := w.drawn + 1 } := ⟨_, _, H.kept (Kp.drawn _ w _), (subO_nil), (sub_cons (.head _) (sub_nil))⟩
     refine wp_draw _ [(0, 0), (2, 0), (3, 0), (4, 0), (5, 0), (6, 0), (1, 1), (7, 1), (8, 0), (9, 0), (10, 0), (11, 1), (12, 2)] mixedOk (by kernel_rfl) (fun _ _ _ h => False.elim h.2) hI ?_
     replace H := H.kept (Kp.drawn _ w (w.drawn + 1))
     generalize ({ w with drawn := w.drawn + 1 } : World) = w at H hI ⊢
     replace hI : ∃ W, Still [] [rRow k_api_Node v1 l2 u64] W := ⟨_, hI⟩
     obtain ⟨W0, hI⟩ := hI
     refine fr_val E rfl (wn rfl) rfl rfl (fun w hW => (x_move E rfl rfl)) ?_
     clear a E;intro a E
     refine fr_val E rfl (wn rfl) rfl rfl (fun w hW => (x_move E rfl rfl)) ?_
     clear a E;intro a E
     refine fr_val E rfl (wn rfl) rfl rfl (fun w hW => (x_move E rfl rfl)) ?_
     clear a E;intro a E
     obtain ⟨x65, hx66, hm⟩ := bnd hm
     obtain ⟨q67, u70, hx68, hx69⟩ := dr_ixW (P := Tryz.prog) (k := .i64) hI (dr_mem (.head _)) Tryz.underlying22 sz35 hx66
     refine fr_val E rfl (wn rfl) rfl rfl (fun w hW => x_ixA E rfl rfl rfl (hx68 w)) ?_
     clear a E;intro a E
     have hx71 := dr_fld hx69 (fun _ _ _ h => k_api_Node_aw3 h)
     refine fr_val E rfl (wn rfl) rfl rfl (fun w hW => x_fa E rfl rfl (fa35_3 _ _)) ?_
     clear a E;intro a E
     refine fr_val E rfl (wn rfl) rfl rfl (fun w hW => x_ld E rfl rfl (ir_ld (DR.ir (dr_at hx71)) Tryz.underlying2 rfl w hW)) ?_
     clear a E;intro a E
     refine fr_op rfl ?_
     obtain ⟨u72, hx73, hm⟩ := bnd hm
     refine st_call E (wn rfl) rfl rfl (x_call E rfl rfl (cf43 _)) (c_path_Last x3.Path H hx73) ?_
     clear E H; clear a; clear w; rintro _ w ⟨rfl, H⟩ a E
     refine wpList_nil ?_
     refine q_then ?_
     replace H : Sep w (Blk p7 31 [.int .i64 0, .string (ByteArray.mk #[]), .string (ByteArray.mk #[]), .int .i64 0, .slice none 0 0] :: Blk p6 24 [.int .i64 x3.Kind, .string x3.Path, .string x3.Data, .int .i64 x3.Version, .int .i64 x3.Owner, .bool x3.Turns] :: Fo) (rRow k_api_Node v1 l2 u64 :: rAt (kI .i64) (q19.add 4) x17.Owner :: rAt k_api_Node q19 x17 :: rs) := H
     refine ⟨⟨_, _, H, (subO_nil), (sub_cons (.head _) (sub_nil))⟩, ?_⟩
     refine fr_op rfl ?_
     obtain ⟨u74, hx75, hm⟩ := bnd hm
     refine st_call E (wn rfl) rfl rfl (x_call E rfl rfl (cf42 _)) (c_path_Numbered u72 x65.Turn H (.tail _ (.tail _ (.tail _ hr5))) hx75) ?_
     clear E H; clear a; clear w; rintro _ w ⟨rfl, H⟩ a E
     refine wpList_nil ?_
     refine q_then ?_
     replace H : Sep w (Blk p7 31 [.int .i64 0, .string (ByteArray.mk #[]), .string (ByteArray.mk #[]), .int .i64 0, .slice none 0 0] :: Blk p6 24 [.int .i64 x3.Kind, .string x3.Path, .string x3.Data, .int .i64 x3.Version, .int .i64 x3.Owner, .bool x3.Turns] :: Fo) (rRow k_api_Node v1 l2 u64 :: rAt (kI .i64) (q19.add 4) x17.Owner :: rAt k_api_Node q19 x17 :: rs) := H
     refine ⟨⟨_, _, H, (subO_nil), (sub_cons (.head _) (sub_nil))⟩, ?_⟩
     refine fr_val E rfl (wn rfl) rfl rfl (fun w hW => (x_move E rfl rfl)) ?_
     clear a E;intro a E
     refine fr_val E rfl (wn rfl) rfl rfl (fun w hW => (x_ext E rfl rfl rfl)) ?_
     clear a E;intro a E
     refine fr_val E rfl (wn rfl) rfl rfl (fun w hW => (x_ext E rfl rfl rfl)) ?_
     clear a E;intro a E
     refine fr_op rfl ?_
     refine sv E rfl rfl rfl (x_assign E rfl rfl) ?_
     clear a E;intro a E
     refine wpList_nil ?_
     refine q_then ?_
     replace H : Sep w (Blk p7 31 [.int .i64 0, .string (ByteArray.mk #[]), .string (ByteArray.mk #[]), .int .i64 0, .slice none 0 0] :: Blk p6 24 [.int .i64 x3.Kind, .string x3.Path, .string x3.Data, .int .i64 x3.Version, .int .i64 x3.Owner, .bool x3.Turns] :: Fo) (rRow k_api_Node v1 l2 u64 :: rAt (kI .i64) (q19.add 4) x17.Owner :: rAt k_api_Node q19 x17 :: rs) := H
     refine ⟨⟨_, _, H, (subO_nil), (sub_cons (.head _) (sub_nil))⟩, ?_⟩
     refine fr_tail rfl ?_
     refine sv E rfl rfl rfl (x_assign E rfl rfl) ?_
     clear a E;intro a E
     refine wpList_nil ?_
     refine q_then ?_
     refine fr_nil ?_
     clear hI
     refine q_then ?_
     refine wp_seq ?_
     refine wp_seq ?_
     refine wp_region_lit ?_
     refine sv E rfl rfl rfl (x_move E rfl rfl) ?_
     clear a E;intro a E
     refine sv E rfl rfl rfl (x_not E rfl rfl) ?_
     clear a E;intro a E
     refine wpList_nil ?_
     refine q_then ?_
     refine wp_if E rfl ?_ ?_
     ·intro hb
      rw [if_t hb] at hm
      clear hb
      refine wp_seq ?_
      refine wp_region_lit ?_
      refine sv E rfl rfl rfl (x_move E rfl rfl) ?_
      clear a E;intro a E
      obtain ⟨u76, hx77, hm⟩ := bnd hm
      refine st_call E (wn rfl) rfl rfl (x_call E rfl rfl (cf18 _)) (c_nodes_failed 66 H hx77) ?_
      clear E H; clear a; clear w; rintro _ w ⟨v78, rfl, H⟩ a E
      refine sv E rfl rfl rfl (x_assign E rfl rfl) ?_
      clear a E;intro a E
      obtain ⟨q79, x80, rfl⟩ := H.slform (.head _)
      refine st_st (i := 0) E H (wn rfl) rfl (us := [.int .i64 u76.Err, .string u76.Path, .string u76.Data, .int .i64 u76.Version, (.slice q79 u76.Names.length x80)]) rfl rfl rfl rfl rfl sz31 rfl rfl ?_
      clear H; clear w; intro w H
      replace H : Sep w (Blk p7 31 [.int .i64 u76.Err, .string u76.Path, .string u76.Data, .int .i64 u76.Version, (.slice q79 u76.Names.length x80)] :: Blk p6 24 [.int .i64 x3.Kind, .string x3.Path, .string x3.Data, .int .i64 x3.Version, .int .i64 x3.Owner, .bool x3.Turns] :: Fo) _ := H
      refine wpList_nil ?_
      refine q_then ?_
      refine wp_ret ?_
      refine q_thenR ?_
      refine q_thenR ?_
      refine outR2 E rfl (rvT rfl) (rvBN (i := 0) (us := [.int .i64 u76.Err, .string u76.Path, .string u76.Data, .int .i64 u76.Version, (.slice q79 u76.Names.length x80)]) H rfl rfl rfl Tryz.underlying31 rfl sz31) ?_
      replace H := H.drop 0
      replace H := H.drop 0
      obtain rfl := Option.some.inj hm
      exact ⟨v1, (.slice q79 u76.Names.length x80), rfl, H.reads (sub_cons (.tail _ (.tail _ (.tail _ (.tail _ hr4)))) (sub_cons (.head _) (fun r hr => .tail _ (.tail _ (.tail _ (.tail _ (hr)))))))⟩
     ·intro hb
      rw [if_f hb] at hm
      clear hb
      refine wp_skip ?_
      refine q_then ?_
      refine wp_region_lit ?_
      refine sv E rfl rfl rfl (x_move E rfl rfl) ?_
      clear a E;intro a E
      refine sv E rfl rfl rfl (x_move E rfl rfl) ?_
      clear a E;intro a E
      obtain ⟨u81, hx82, hm⟩ := bnd hm
      refine st_call E (wn rfl) rfl rfl (x_call E rfl rfl (cf44 _)) (c_path_Join u8.1 u74.1 H hx82) ?_
      clear E H; clear a; clear w; rintro _ w ⟨rfl, H⟩ a E
      refine sv E rfl rfl rfl (x_move E rfl rfl) ?_
      clear a E;intro a E
      refine sv E rfl rfl rfl (x_ext E rfl rfl rfl) ?_
      clear a E;intro a E
      refine sv E rfl rfl rfl (x_ext E rfl rfl rfl) ?_
      clear a E;intro a E
      refine sv E rfl rfl rfl (x_assign E rfl rfl) ?_
      clear a E;intro a E
      refine wpList_nil ?_
      refine q_then ?_
      replace H := H.front 0 rfl
      replace H := H.front 1 rfl
      exact ⟨u81.1, _, (((((E.nil.keep E 10 rfl).keep E 8 rfl).keep E 5 rfl).keep E 3 rfl).keep E 0 rfl), H, fun r hr => .tail _ (.tail _ (.tail _ (hr))), (.tail _ (.tail _ (.tail _ hr4))), (.tail _ (.tail _ (.tail _ hr5))), hm⟩
    ·intro hb
     rw [if_f hb] at hm
     clear hb
     refine wp_skip ?_
     refine q_then ?_
     replace H := H.front 0 rfl
     replace H := H.front 1 rfl
     exact ⟨x3.Path, _, (((((E.nil.keep E 10 rfl).keep E 8 rfl).keep E 5 rfl).keep E 3 rfl).keep E 0 rfl), H, fun r hr => .tail _ (.tail _ (hr)), (.tail _ (.tail _ hr4)), (.tail _ (.tail _ hr5)), hm⟩
   ·clear E H hm
    rintro a w ⟨s25, rs26, E, H, hs27, hr28, hr29, hm⟩
    unfold m_nodes_create_j1 at hm
    refine wp_seq ?_
    refine wp_region_lit ?_
    refine sv E rfl rfl rfl (x_move E rfl rfl) ?_
    clear a E;intro a E
    refine sv E rfl rfl rfl (x_move E rfl rfl) ?_
    clear a E;intro a E
    obtain ⟨u30, hx31, hm⟩ := bnd hm
    refine st_call E (wn rfl) rfl rfl (x_call E rfl rfl (cf20 _)) (c_nodes_where v1 l2 s25 H hr28 hx31) ?_
    clear E H; clear a; clear w; rintro _ w ⟨rfl, H⟩ a E
    refine sv E rfl rfl rfl (x_move E rfl rfl) ?_
    clear a E;intro a E
    refine sv E rfl rfl rfl (x_ext E rfl rfl rfl) ?_
    clear a E;intro a E
    refine sv E rfl rfl rfl (x_ext E rfl rfl rfl) ?_
    clear a E;intro a E
    refine sv E rfl rfl rfl (x_assign E rfl rfl) ?_
    clear a E;intro a E
    refine sv E rfl rfl rfl (x_assign E rfl rfl) ?_
    clear a E;intro a E
    refine wpList_nil ?_
    refine q_then ?_
    refine wp_seq ?_
    refine wp_block ?_
    refine wp_seq ?_
    refine wp_region_lit ?_
    refine sv E rfl rfl rfl (x_move E rfl rfl) ?_
    clear a E;intro a E
    refine sv E rfl rfl rfl (x_assign E rfl rfl) ?_
    clear a E;intro a E
    refine wpList_nil ?_
    refine q_then ?_
    refine wp_if E rfl ?_ ?_
    ·intro hb
     rw [if_t hb] at hm
     clear hb
     refine wp_seq ?_
     refine wp_region_lit ?_
     refine sv E rfl rfl rfl (x_move E rfl rfl) ?_
     clear a E;intro a E
     obtain ⟨u32, hx33, hm⟩ := bnd hm
     refine st_call E (wn rfl) rfl rfl (x_call E rfl rfl (cf18 _)) (c_nodes_failed 61 H hx33) ?_
     clear E H; clear a; clear w; rintro _ w ⟨v34, rfl, H⟩ a E
     refine sv E rfl rfl rfl (x_assign E rfl rfl) ?_
     clear a E;intro a E
     obtain ⟨q35, x36, rfl⟩ := H.slform (.head _)
     refine st_st (i := 1) E H (wn rfl) rfl (us := [.int .i64 u32.Err, .string u32.Path, .string u32.Data, .int .i64 u32.Version, (.slice q35 u32.Names.length x36)]) rfl rfl rfl rfl rfl sz31 rfl rfl ?_
     clear H; clear w; intro w H
     replace H : Sep w (Blk p6 24 [.int .i64 x3.Kind, .string x3.Path, .string x3.Data, .int .i64 x3.Version, .int .i64 x3.Owner, .bool x3.Turns] :: Blk p7 31 [.int .i64 u32.Err, .string u32.Path, .string u32.Data, .int .i64 u32.Version, (.slice q35 u32.Names.length x36)] :: Fo) _ := H
     refine wpList_nil ?_
     refine q_then ?_
     refine wp_ret ?_
     refine q_blkR ?_
     refine q_thenR ?_
     refine outR2 E rfl (rvT rfl) (rvBN (i := 1) (us := [.int .i64 u32.Err, .string u32.Path, .string u32.Data, .int .i64 u32.Version, (.slice q35 u32.Names.length x36)]) H rfl rfl rfl Tryz.underlying31 rfl sz31) ?_
     replace H := H.drop 0
     replace H := H.drop 0
     obtain rfl := Option.some.inj hm
     exact ⟨v1, (.slice q35 u32.Names.length x36), rfl, H.reads (sub_cons (.tail _ hr28) (sub_cons (.head _) (fun r hr => .tail _ (hs27 r hr))))⟩
    ·intro hb
     rw [if_f hb] at hm
     clear hb
     refine wp_seq ?_
     refine wp_region_lit ?_
     refine sv E rfl rfl rfl (x_move E rfl rfl) ?_
     clear a E;intro a E
     refine sv E rfl rfl rfl (x_lenS E H rfl rfl hr28 Tryz.underlying22) ?_
     clear a E;intro a E
     refine sv E rfl rfl rfl (x_bin E rfl rfl rfl rfl) ?_
     clear a E;intro a E
     refine sv E rfl rfl rfl (x_assign E rfl rfl) ?_
     clear a E;intro a E
     refine wpList_nil ?_
     refine q_then ?_
     refine wp_if E rfl ?_ ?_
     ·intro hb
      rw [if_t hb] at hm
      clear hb
      refine wp_seq ?_
      refine wp_region_lit ?_
      refine sv E rfl rfl rfl (x_move E rfl rfl) ?_
      clear a E;intro a E
      obtain ⟨u37, hx38, hm⟩ := bnd hm
      refine st_call E (wn rfl) rfl rfl (x_call E rfl rfl (cf18 _)) (c_nodes_failed 2 H hx38) ?_
      clear E H; clear a; clear w; rintro _ w ⟨v39, rfl, H⟩ a E
      refine sv E rfl rfl rfl (x_assign E rfl rfl) ?_
      clear a E;intro a E
      obtain ⟨q40, x41, rfl⟩ := H.slform (.head _)
      refine st_st (i := 1) E H (wn rfl) rfl (us := [.int .i64 u37.Err, .string u37.Path, .string u37.Data, .int .i64 u37.Version, (.slice q40 u37.Names.length x41)]) rfl rfl rfl rfl rfl sz31 rfl rfl ?_
      clear H; clear w; intro w H
      replace H : Sep w (Blk p6 24 [.int .i64 x3.Kind, .string x3.Path, .string x3.Data, .int .i64 x3.Version, .int .i64 x3.Owner, .bool x3.Turns] :: Blk p7 31 [.int .i64 u37.Err, .string u37.Path, .string u37.Data, .int .i64 u37.Version, (.slice q40 u37.Names.length x41)] :: Fo) _ := H
      refine wpList_nil ?_
      refine q_then ?_
      refine wp_ret ?_
      refine q_blkR ?_
      refine q_thenR ?_
      refine outR2 E rfl (rvT rfl) (rvBN (i := 1) (us := [.int .i64 u37.Err, .string u37.Path, .string u37.Data, .int .i64 u37.Version, (.slice q40 u37.Names.length x41)]) H rfl rfl rfl Tryz.underlying31 rfl sz31) ?_
      replace H := H.drop 0
      replace H := H.drop 0
      obtain rfl := Option.some.inj hm
      exact ⟨v1, (.slice q40 u37.Names.length x41), rfl, H.reads (sub_cons (.tail _ hr28) (sub_cons (.head _) (fun r hr => .tail _ (hs27 r hr))))⟩
     ·intro hb
      rw [if_f hb] at hm
      clear hb
      refine wp_skip ?_
      refine q_blk ?_
      refine q_then ?_
      refine wp_seq ?_
      refine wp_region_lit ?_
      refine sv E rfl rfl rfl (x_move E rfl rfl) ?_
      clear a E;intro a E
      obtain ⟨u43, hx44, hm⟩ := bnd hm
      refine st_call E (wn rfl) rfl rfl (x_call E rfl rfl (cf45 _)) (lib_slices_Clone_api_Node_api_Node_rd H hr28 (ck_of hx44)) ?_
      clear E H; clear a; clear w; rintro v42 w H a E
      refine sv E rfl rfl rfl (x_assign E rfl rfl) ?_
      clear a E;intro a E
      refine wpList_nil ?_
      refine q_then ?_
      refine wp_seq_cut (fun a w => ∃ (v45 : Value) (l46 : (List S_api_Node)) (rs47 : List Rp), Env 106 a [(0, v45), (3, .pointer (some ⟨p6, 0, none⟩)), (5, .pointer (some ⟨p7, 0, none⟩)), (10, .string s25), (13, .int .i64 u30.1)] ∧ Sep w (Row 35 k_api_Node v45 l46 :: Blk p6 24 [.int .i64 x3.Kind, .string x3.Path, .string x3.Data, .int .i64 x3.Version, .int .i64 x3.Owner, .bool x3.Turns] :: Blk p7 31 [.int .i64 0, .string (ByteArray.mk #[]), .string (ByteArray.mk #[]), .int .i64 0, .slice none 0 0] :: Fo) rs47 ∧ (∀ r, r ∈ rs → r ∈ rs47) ∧ rTab Tryz.prog ∈ rs47 ∧ m_nodes_create_j2 u30 s25 x3 l46 = some r) ?_ ?_
      ·refine wp_seq ?_
       refine wp_region_lit ?_
       refine sv E rfl rfl rfl (x_fa E rfl rfl (v := .pointer (some ⟨p6, 5, none⟩)) (fa24_5 _ _)) ?_
       clear a E;intro a E
       refine sv E rfl rfl rfl (x_ldB (i := 1) E H rfl rfl rfl rfl Tryz.underlying4 rfl) ?_
       clear a E;intro a E
       refine wpList_nil ?_
       refine q_then ?_
       refine wp_if E rfl ?_ ?_
       ·intro hb
        rw [if_t hb] at hm
        clear hb
        refine wp_region_lit ?_
        refine sv E rfl rfl rfl (x_move E rfl rfl) ?_
        clear a E;intro a E
        refine sv E rfl rfl rfl (x_move E rfl rfl) ?_
        clear a E;intro a E
        obtain ⟨x54, hx55, hm⟩ := bnd hm
        obtain ⟨p56, x57, hx58⟩ := H.rowformNE (i := 0) rfl hx55
        refine sv E rfl rfl rfl (x_ixRowV (d := k_api_Node) E hx58 rfl rfl rfl rfl Tryz.underlying22 sz35 hx55) ?_
        clear a E;intro a E
        refine sv E rfl rfl rfl (x_fa E rfl rfl (v := .pointer (some ⟨p56, u10.1.toNat * 5 + 3, none⟩)) (fa35_3 _ _)) ?_
        clear a E;intro a E
        refine sv E rfl rfl rfl (x_ldRowV (d := k_api_Node) (i := 0) (k := 3) E H k_api_Node_flat hx58 rfl rfl rfl hx55 rfl Tryz.underlying2 rfl) ?_
        clear a E;intro a E
        refine sv E rfl rfl rfl (x_bin E rfl rfl rfl rfl) ?_
        clear a E;intro a E
        obtain ⟨x59, hx60, hm⟩ := bnd hm
        obtain ⟨p61, x62, hx63⟩ := H.rowformNE (i := 0) rfl hx60
        refine sv E rfl rfl rfl (x_ixRowV (d := k_api_Node) E hx63 rfl rfl rfl rfl Tryz.underlying22 sz35 hx60) ?_
        clear a E;intro a E
        refine sv E rfl rfl rfl (x_fa E rfl rfl (v := .pointer (some ⟨p61, u10.1.toNat * 5 + 3, none⟩)) (fa35_3 _ _)) ?_
        clear a E;intro a E
        refine st_stRowV (d := k_api_Node) (i := 0) (k := 3) (z' := ({ x59 with Turn := IntKind.i64.wrap (x54.Turn + 1) } : S_api_Node)) E H k_api_Node_flat (wn rfl) rfl hx63 rfl rfl rfl rfl rfl rfl hx60 rfl rfl sz2 ?_
        clear H; clear w; intro w H
        replace H : Sep w (Row 35 k_api_Node v42 (l2.set u10.1.toNat ({ x59 with Turn := IntKind.i64.wrap (x54.Turn + 1) } : S_api_Node)) :: Blk p6 24 [.int .i64 x3.Kind, .string x3.Path, .string x3.Data, .int .i64 x3.Version, .int .i64 x3.Owner, .bool x3.Turns] :: Blk p7 31 [.int .i64 0, .string (ByteArray.mk #[]), .string (ByteArray.mk #[]), .int .i64 0, .slice none 0 0] :: Fo) _ := H
        refine wpList_nil ?_
        refine q_then ?_
        exact ⟨v42, l2.set u10.1.toNat ({ x59 with Turn := IntKind.i64.wrap (x54.Turn + 1) } : S_api_Node), _, (((((E.nil.keep E 13 rfl).keep E 10 rfl).keep E 5 rfl).keep E 3 rfl).keep E 0 rfl), H, hs27, hr29, hm⟩
       ·intro hb
        rw [if_f hb] at hm
        clear hb
        refine wp_skip ?_
        refine q_then ?_
        exact ⟨v42, l2, _, (((((E.nil.keep E 13 rfl).keep E 10 rfl).keep E 5 rfl).keep E 3 rfl).keep E 0 rfl), H, hs27, hr29, hm⟩
      ·clear E H hm
       rintro a w ⟨v45, l46, rs47, E, H, hs48, hr49, hm⟩
       unfold m_nodes_create_j2 at hm
       refine wp_seq ?_
       refine wp_region_lit ?_
       refine sv E rfl rfl rfl (x_move E rfl rfl) ?_
       clear a E;intro a E
       refine sv E rfl rfl rfl (x_move E rfl rfl) ?_
       clear a E;intro a E
       refine sv E rfl rfl rfl (x_move E rfl rfl) ?_
       clear a E;intro a E
       refine sv E rfl rfl rfl (x_fa E rfl rfl (v := .pointer (some ⟨p6, 2, none⟩)) (fa24_2 _ _)) ?_
       clear a E;intro a E
       refine sv E rfl rfl rfl (x_ldB (i := 1) E H rfl rfl rfl rfl Tryz.underlying9 rfl) ?_
       clear a E;intro a E
       refine sv E rfl rfl rfl (x_fa E rfl rfl (v := .pointer (some ⟨p6, 4, none⟩)) (fa24_4 _ _)) ?_
       clear a E;intro a E
       refine sv E rfl rfl rfl (x_ldB (i := 1) E H rfl rfl rfl rfl Tryz.underlying2 rfl) ?_
       clear a E;intro a E
       refine sv E rfl rfl rfl (x_build E (ps := [(0, .tmp 96), (1, .tmp 98), (4, .tmp 100)]) (vs := [(0, .string s25), (1, .string x3.Data), (4, .int .i64 x3.Owner)]) rfl (by simp only [List.map]; rw [E.eval (x := .tmp 96) (v := .string s25) rfl, E.eval (x := .tmp 98) (v := .string x3.Data) rfl, E.eval (x := .tmp 100) (v := .int .i64 x3.Owner) rfl]) (v := .agg #[.string s25, .string x3.Data, .int .i64 0, .int .i64 0, .int .i64 x3.Owner]) (by kernel_rfl)) ?_
       clear a E;intro a E
       refine st_bsO (e := 35) (d := k_api_Node) (cs := [.string s25, .string x3.Data, .int .i64 0, .int .i64 0, .int .i64 x3.Owner]) (xs := [(⟨s25, x3.Data, 0, 0, x3.Owner⟩ : S_api_Node)]) E H (wn rfl) rfl rfl (ps := [(0, .tmp 101)]) (parts := [(0, .agg #[.string s25, .string x3.Data, .int .i64 0, .int .i64 0, .int .i64 x3.Owner])]) rfl (by simp only [List.map]; rw [E.eval (x := .tmp 101) (v := .agg #[.string s25, .string x3.Data, .int .i64 0, .int .i64 0, .int .i64 x3.Owner]) rfl]) (by kernel_rfl) rfl rfl (fun ok hr => (Rows.single (d := k_api_Node) (cs := [.string s25, .string x3.Data, .int .i64 0, .int .i64 0, .int .i64 x3.Owner]) (x := (⟨s25, x3.Data, 0, 0, x3.Owner⟩ : S_api_Node)) k_api_Node_mk)) ?_
       clear E H; clear a; clear w; intro v50 w a H E
       obtain ⟨u51, hx52, hm⟩ := bnd hm
       refine st_call E (wn rfl) rfl rfl (x_call E rfl rfl (cf46 _)) (insert_c (ix := 1) (iu := 0) H rfl rfl (by decide) (ck_of hx52)) ?_
       clear E H; clear a; clear w; rintro v53 w H a E
       replace H : Sep w (Row 35 k_api_Node v50 ([(⟨s25, x3.Data, 0, 0, x3.Owner⟩ : S_api_Node)] : List S_api_Node) :: Row 35 k_api_Node v53 (l46.take u30.1.toNat ++ (⟨s25, x3.Data, 0, 0, x3.Owner⟩ : S_api_Node) :: l46.drop u30.1.toNat) :: Blk p6 24 [.int .i64 x3.Kind, .string x3.Path, .string x3.Data, .int .i64 x3.Version, .int .i64 x3.Owner, .bool x3.Turns] :: Blk p7 31 [.int .i64 0, .string (ByteArray.mk #[]), .string (ByteArray.mk #[]), .int .i64 0, .slice none 0 0] :: Fo) (rs47) := H
       refine sv E rfl rfl rfl (x_move E rfl rfl) ?_
       clear a E;intro a E
       refine sv E rfl rfl rfl (x_build E (ps := [(1, .tmp 104)]) (vs := [(1, .string s25)]) rfl (by simp only [List.map]; rw [E.eval (x := .tmp 104) (v := .string s25) rfl]) (v := .agg #[.int .i64 0, .string s25, .string (ByteArray.mk #[]), .int .i64 0, .slice none 0 0]) (by kernel_rfl)) ?_
       clear a E;intro a E
       refine sv E rfl rfl rfl (x_assign E rfl rfl) ?_
       clear a E;intro a E
       refine st_st (i := 3) E H (wn rfl) rfl (us := [.int .i64 0, .string s25, .string (ByteArray.mk #[]), .int .i64 0, .slice none 0 0]) rfl rfl rfl rfl rfl sz31 rfl rfl ?_
       clear H; clear w; intro w H
       replace H : Sep w (Row 35 k_api_Node v50 ([(⟨s25, x3.Data, 0, 0, x3.Owner⟩ : S_api_Node)] : List S_api_Node) :: Row 35 k_api_Node v53 (l46.take u30.1.toNat ++ (⟨s25, x3.Data, 0, 0, x3.Owner⟩ : S_api_Node) :: l46.drop u30.1.toNat) :: Blk p6 24 [.int .i64 x3.Kind, .string x3.Path, .string x3.Data, .int .i64 x3.Version, .int .i64 x3.Owner, .bool x3.Turns] :: Blk p7 31 [.int .i64 0, .string s25, .string (ByteArray.mk #[]), .int .i64 0, .slice none 0 0] :: Fo) _ := H
       refine wpList_nil ?_
       refine q_then ?_
       refine wp_ret ?_
       refine outR2 E rfl (rvT rfl) (rvBN (i := 3) (us := [.int .i64 0, .string s25, .string (ByteArray.mk #[]), .int .i64 0, .slice none 0 0]) H rfl rfl rfl Tryz.underlying31 rfl sz31) ?_
       replace H := H.thaw (i := 1) rfl
       replace H := H.nilSl kS
       replace H := H.drop 0
       replace H := H.drop 0
       replace H := H.drop 0
       obtain rfl := Option.some.inj hm
       exact ⟨v53, (.slice none 0 0), rfl, H.reads (sub_cons (.tail _ (.head _)) (sub_cons (.head _) (fun r hr => .tail _ (.tail _ (hs48 r hr)))))⟩
end Go.Cb

set_option linter.unusedVariables false
set_option linter.unusedSimpArgs false
namespace Go.Cb
open Go.Proofs Go.RowKit
def m_nodes_get (l2 : List S_api_Node) (x3 : Int) (x4 : S_api_Op) : Option ((List S_api_Node) × S_api_Result) :=
  (idx l2 x3).bind fun x9 => (idx l2 x3).bind fun x16 => some (l2, (⟨0, (ByteArray.mk #[]), x9.Data, x16.Version, []⟩ : S_api_Result))
set_option maxRecDepth 20000 in
set_option maxHeartbeats 1000000 in
theorem c_nodes_get {w : World} {Fo : List Ob} {rs : List Rp} (v1 : Value) (l2 : List S_api_Node) (x3 : Int) (x4 : S_api_Op) (H : Sep w (Fo) rs) (hr5 : rSl k_api_Node v1 l2 ∈ rs) {r : (List S_api_Node) × S_api_Result} (hm : m_nodes_get l2 x3 x4 = some r) :
    Calls Tryz.prog 24 [v1, .int .i64 x3, .agg #[.int .i64 x4.Kind, .string x4.Path, .string x4.Data, .int .i64 x4.Version, .int .i64 x4.Owner, .bool x4.Turns]].toArray w (Ret fun v w' => ∃ (v5001 : Value) (v5004 : Value), .tuple #[v5001, .agg #[.int .i64 r.2.Err, .string r.2.Path, .string r.2.Data, .int .i64 r.2.Version, v5004]] = v ∧ Sep w' (Fo) (rSl k_api_Node v5001 r.1 :: rSl kS v5004 r.2.Names :: rs)) := by
 unfold m_nodes_get at hm
 refine enter Tryz.func24 rfl Tryz.ntmps24 rfl fun a E => ?_
 simp only [enum, Nat.reduceAdd] at E
 refine wp_seq ?_
 refine wp_region_lit ?_
 refine st_box E H (wn rfl) rfl rfl (cs := [.int .i64 x4.Kind, .string x4.Path, .string x4.Data, .int .i64 x4.Version, .int .i64 x4.Owner, .bool x4.Turns]) rfl rfl rfl ?_
 clear E H; clear a; clear w; intro p6 w a H E
 refine sv E rfl rfl rfl (x_assign E rfl rfl) ?_
 clear a E;intro a E
 refine st_alloc E H (wn rfl) rfl rfl (cs := [.int .i64 0, .string (ByteArray.mk #[]), .string (ByteArray.mk #[]), .int .i64 0, .slice none 0 0]) rfl (z := .agg #[.int .i64 0, .string ⟨#[]⟩, .string ⟨#[]⟩, .int .i64 0, .slice none 0 0]) (by kernel_rfl) rfl ?_
 clear E H; clear a; clear w; intro p7 w a H E
 refine wpList_nil ?_
 refine q_then ?_
 refine wp_seq ?_
 obtain ⟨u8, H⟩ := H.raw hr5
 replace H : Sep w (Blk p7 31 [.int .i64 0, .string (ByteArray.mk #[]), .string (ByteArray.mk #[]), .int .i64 0, .slice none 0 0] :: Blk p6 24 [.int .i64 x4.Kind, .string x4.Path, .string x4.Data, .int .i64 x4.Version, .int .i64 x4.Owner, .bool x4.Turns] :: Fo) (rRow k_api_Node v1 l2 u8 :: rs) := H
 have hI : Still [] [rRow k_api_Node v1 l2 u8] { w with drawn := w.drawn + 1 } := ⟨_, _, H.kept (Kp.drawn _ w _), (subO_nil), (sub_cons (.head _) (sub_nil))⟩
 refine wp_draw _ [(0, 0), (1, 0), (2, 0), (3, 0), (4, 0), (5, 0), (6, 0), (7, 0), (8, 0), (9, 0), (10, 0), (11, 0), (12, 1), (13, 2)] mixedOk (by kernel_rfl) (fun _ _ _ h => False.elim h.2) hI ?_
 replace H := H.kept (Kp.drawn _ w (w.drawn + 1))
 generalize ({ w with drawn := w.drawn + 1 } : World) = w at H hI ⊢
 replace hI : ∃ W, Still [] [rRow k_api_Node v1 l2 u8] W := ⟨_, hI⟩
 obtain ⟨W0, hI⟩ := hI
 refine fr_val E rfl (wn rfl) rfl rfl (fun w hW => (x_move E rfl rfl)) ?_
 clear a E;intro a E
 refine fr_val E rfl (wn rfl) rfl rfl (fun w hW => (x_move E rfl rfl)) ?_
 clear a E;intro a E
 refine fr_val E rfl (wn rfl) rfl rfl (fun w hW => (x_move E rfl rfl)) ?_
 clear a E;intro a E
 obtain ⟨x9, hx10, hm⟩ := bnd hm
 obtain ⟨q11, u14, hx12, hx13⟩ := dr_ixW (P := Tryz.prog) (k := .i64) hI (dr_mem (.head _)) Tryz.underlying22 sz35 hx10
 refine fr_val E rfl (wn rfl) rfl rfl (fun w hW => x_ixA E rfl rfl rfl (hx12 w)) ?_
 clear a E;intro a E
 have hx15 := dr_fld hx13 (fun _ _ _ h => k_api_Node_aw1 h)
 refine fr_val E rfl (wn rfl) rfl rfl (fun w hW => x_fa E rfl rfl (fa35_1 _ _)) ?_
 clear a E;intro a E
 refine fr_val E rfl (wn rfl) rfl rfl (fun w hW => x_ld E rfl rfl (ir_ld (DR.ir (dr_at hx15)) Tryz.underlying9 rfl w hW)) ?_
 clear a E;intro a E
 refine fr_val E rfl (wn rfl) rfl rfl (fun w hW => (x_move E rfl rfl)) ?_
 clear a E;intro a E
 refine fr_val E rfl (wn rfl) rfl rfl (fun w hW => (x_move E rfl rfl)) ?_
 clear a E;intro a E
 obtain ⟨x16, hx17, hm⟩ := bnd hm
 obtain ⟨q18, u21, hx19, hx20⟩ := dr_ixW (P := Tryz.prog) (k := .i64) hI (dr_mem (.head _)) Tryz.underlying22 sz35 hx17
 refine fr_val E rfl (wn rfl) rfl rfl (fun w hW => x_ixA E rfl rfl rfl (hx19 w)) ?_
 clear a E;intro a E
 have hx22 := dr_fld hx20 (fun _ _ _ h => k_api_Node_aw2 h)
 refine fr_val E rfl (wn rfl) rfl rfl (fun w hW => x_fa E rfl rfl (fa35_2 _ _)) ?_
 clear a E;intro a E
 refine fr_val E rfl (wn rfl) rfl rfl (fun w hW => x_ld E rfl rfl (ir_ld (DR.ir (dr_at hx22)) Tryz.underlying2 rfl w hW)) ?_
 clear a E;intro a E
 refine fr_val E rfl (wn rfl) rfl rfl (fun w hW => (x_build E (ps := [(2, .tmp 13), (3, .tmp 18)]) (vs := [(2, .string x9.Data), (3, .int .i64 x16.Version)]) rfl (by simp only [List.map]; rw [E.eval (x := .tmp 13) (v := .string x9.Data) rfl, E.eval (x := .tmp 18) (v := .int .i64 x16.Version) rfl]) (v := .agg #[.int .i64 0, .string (ByteArray.mk #[]), .string x9.Data, .int .i64 x16.Version, .slice none 0 0]) (by kernel_rfl))) ?_
 clear a E;intro a E
 refine fr_op rfl ?_
 refine sv E rfl rfl rfl (x_assign E rfl rfl) ?_
 clear a E;intro a E
 refine wpList_nil ?_
 refine q_then ?_
 replace H : Sep w (Blk p7 31 [.int .i64 0, .string (ByteArray.mk #[]), .string (ByteArray.mk #[]), .int .i64 0, .slice none 0 0] :: Blk p6 24 [.int .i64 x4.Kind, .string x4.Path, .string x4.Data, .int .i64 x4.Version, .int .i64 x4.Owner, .bool x4.Turns] :: Fo) (rRow k_api_Node v1 l2 u8 :: rs) := H
 refine ⟨⟨_, _, H, (subO_nil), (sub_cons (.head _) (sub_nil))⟩, ?_⟩
 refine fr_tail rfl ?_
 refine st_st (i := 0) E H (wn rfl) rfl (us := [.int .i64 0, .string (ByteArray.mk #[]), .string x9.Data, .int .i64 x16.Version, .slice none 0 0]) rfl rfl rfl rfl rfl sz31 rfl rfl ?_
 clear H; clear w; intro w H
 replace H : Sep w (Blk p7 31 [.int .i64 0, .string (ByteArray.mk #[]), .string x9.Data, .int .i64 x16.Version, .slice none 0 0] :: Blk p6 24 [.int .i64 x4.Kind, .string x4.Path, .string x4.Data, .int .i64 x4.Version, .int .i64 x4.Owner, .bool x4.Turns] :: Fo) _ := H
 refine wpList_nil ?_
 refine q_then ?_
 refine fr_nil ?_
 clear hI
 refine q_then ?_
 refine wp_ret ?_
 refine outR2 E rfl (rvT rfl) (rvBN (i := 0) (us := [.int .i64 0, .string (ByteArray.mk #[]), .string x9.Data, .int .i64 x16.Version, .slice none 0 0]) H rfl rfl rfl Tryz.underlying31 rfl sz31) ?_
 replace H := H.nilSl kS
 replace H := H.drop 0
 replace H := H.drop 0
 obtain rfl := Option.some.inj hm
 exact ⟨v1, (.slice none 0 0), rfl, H.reads (sub_cons (.tail _ (.tail _ hr5)) (sub_cons (.head _) (fun r hr => .tail _ (.tail _ (hr)))))⟩
end Go.Cb

set_option linter.unusedVariables false
set_option linter.unusedSimpArgs false
namespace Go.Cb
open Go.Proofs Go.RowKit
def m_nodes_in (x1 : S_api_Node) (s2 : ByteArray) : Option Bool :=
  (m_path_Parent x1.Path).bind fun u4 => if u4.2 = true then (some (sEq u4.1 s2)) else (some (false))
set_option maxRecDepth 20000 in
set_option maxHeartbeats 1000000 in
theorem c_nodes_in {w : World} {Fo : List Ob} {rs : List Rp} (x1 : S_api_Node) (s2 : ByteArray) (H : Sep w (Fo) rs) {r : Bool} (hm : m_nodes_in x1 s2 = some r) :
    Calls Tryz.prog 51 [.agg #[.string x1.Path, .string x1.Data, .int .i64 x1.Version, .int .i64 x1.Turn, .int .i64 x1.Owner], .string s2].toArray w (Ret fun v w' => .bool r = v ∧ Sep w' (Fo) (rs)) := by
 unfold m_nodes_in at hm
 refine enter Tryz.func51 rfl Tryz.ntmps51 rfl fun a E => ?_
 simp only [enum, Nat.reduceAdd] at E
 refine wp_seq ?_
 refine wp_region_lit ?_
 refine st_box E H (wn rfl) rfl rfl (cs := [.string x1.Path, .string x1.Data, .int .i64 x1.Version, .int .i64 x1.Turn, .int .i64 x1.Owner]) rfl rfl rfl ?_
 clear E H; clear a; clear w; intro p3 w a H E
 refine sv E rfl rfl rfl (x_assign E rfl rfl) ?_
 clear a E;intro a E
 refine wpList_nil ?_
 refine q_then ?_
 refine wp_seq ?_
 refine wp_region_lit ?_
 refine sv E rfl rfl rfl (x_fa E rfl rfl (v := .pointer (some ⟨p3, 0, none⟩)) (fa35_0 _ _)) ?_
 clear a E;intro a E
 refine sv E rfl rfl rfl (x_ldB (i := 0) E H rfl rfl rfl rfl Tryz.underlying9 rfl) ?_
 clear a E;intro a E
 obtain ⟨u4, hx5, hm⟩ := bnd hm
 refine st_call E (wn rfl) rfl rfl (x_call E rfl rfl (cf34 _)) (c_path_Parent x1.Path H hx5) ?_
 clear E H; clear a; clear w; rintro _ w ⟨rfl, H⟩ a E
 refine sv E rfl rfl rfl (x_move E rfl rfl) ?_
 clear a E;intro a E
 refine sv E rfl rfl rfl (x_ext E rfl rfl rfl) ?_
 clear a E;intro a E
 refine sv E rfl rfl rfl (x_ext E rfl rfl rfl) ?_
 clear a E;intro a E
 refine sv E rfl rfl rfl (x_assign E rfl rfl) ?_
 clear a E;intro a E
 refine sv E rfl rfl rfl (x_assign E rfl rfl) ?_
 clear a E;intro a E
 refine wpList_nil ?_
 refine q_then ?_
 refine wp_seq ?_
 refine wp_region_lit ?_
 refine sv E rfl rfl rfl (x_move E rfl rfl) ?_
 clear a E;intro a E
 refine sv E rfl rfl rfl (x_move E rfl rfl) ?_
 clear a E;intro a E
 rcases Bool.eq_false_or_eq_true u4.2 with hb6 | hb6
 ·rw [if_t hb6] at hm
  refine st_val E (ws' E rfl rfl rfl rfl hb6) rfl rfl (x_move E rfl rfl) ?_
  clear a E;intro a E
  refine st_val E (ws' E rfl rfl rfl rfl hb6) rfl rfl (x_move E rfl rfl) ?_
  clear a E;intro a E
  refine st_val E (ws' E rfl rfl rfl rfl hb6) rfl rfl (x_str E rfl rfl rfl rfl) ?_
  clear a E;intro a E
  refine sv E rfl rfl rfl (x_pickT E rfl rfl hb6 rfl) ?_
  clear a E;intro a E
  refine sv E rfl rfl rfl (x_assign E rfl rfl) ?_
  clear a E;intro a E
  refine wpList_nil ?_
  refine q_then ?_
  refine wp_ret ?_
  refine out1 E rfl rfl ?_
  replace H := H.drop 0
  obtain rfl := Option.some.inj hm
  exact ⟨rfl, H.reads (fun r hr => hr)⟩
 ·rw [if_f hb6] at hm
  refine st_no E (wf' E rfl rfl rfl rfl hb6 rfl) rfl rfl ?_
  clear a E;intro a E
  refine st_no E (wf' E rfl rfl rfl rfl hb6 rfl) rfl rfl ?_
  clear a E;intro a E
  refine st_no E (wf' E rfl rfl rfl rfl hb6 rfl) rfl rfl ?_
  clear a E;intro a E
  refine sv E rfl rfl rfl (x_pickF E rfl rfl hb6 rfl) ?_
  clear a E;intro a E
  refine sv E rfl rfl rfl (x_assign E rfl rfl) ?_
  clear a E;intro a E
  refine wpList_nil ?_
  refine q_then ?_
  refine wp_ret ?_
  refine out1 E rfl rfl ?_
  replace H := H.drop 0
  obtain rfl := Option.some.inj hm
  exact ⟨rfl, H.reads (fun r hr => hr)⟩
end Go.Cb

set_option linter.unusedVariables false
set_option linter.unusedSimpArgs false
namespace Go.Cb
open Go.Proofs Go.RowKit
def m_nodes_list_j1 (rec_1 : Int → (List ByteArray) → Option ((List S_api_Node) × S_api_Result)) (x9 : Int) (l16 : (List ByteArray)) : Option ((List S_api_Node) × S_api_Result) :=
  rec_1 (IntKind.i64.wrap (x9 + 1)) l16
def m_nodes_list_l1 (l2 : List S_api_Node) (x3 : Int) : Nat → Int → (List ByteArray) → Option ((List S_api_Node) × S_api_Result)
  | 0, _, _ => none
  | k1 + 1, x9, l11 =>
    if (decide (x9 < (l2.length : Int))) = true then ((idx l2 x9).bind fun x20 => (idx l2 x3).bind fun x26 => (m_nodes_in (⟨x20.Path, x20.Data, x20.Version, x20.Turn, x20.Owner⟩ : S_api_Node) x26.Path).bind fun u33 => if u33 = true then ((m_path_Last x20.Path).bind fun u35 => (ck (l11.length + ([u35] : List ByteArray).length ≤ LIM)).bind fun u39 => m_nodes_list_j1 (m_nodes_list_l1 l2 x3 k1) x9 (l11 ++ ([u35] : List ByteArray))) else (m_nodes_list_j1 (m_nodes_list_l1 l2 x3 k1) x9 l11)) else (some (l2, (⟨0, (ByteArray.mk #[]), (ByteArray.mk #[]), 0, l11⟩ : S_api_Result)))
def m_nodes_list (l2 : List S_api_Node) (x3 : Int) (x4 : S_api_Op) : Option ((List S_api_Node) × S_api_Result) :=
  m_nodes_list_l1 l2 x3 (((l2.length : Int) - 0 : Int).toNat + 1) 0 []
set_option maxRecDepth 20000 in
set_option maxHeartbeats 1000000 in
theorem c_nodes_list {w : World} {Fo : List Ob} {rs : List Rp} (v1 : Value) (l2 : List S_api_Node) (x3 : Int) (x4 : S_api_Op) (H : Sep w (Fo) rs) (hr5 : rSl k_api_Node v1 l2 ∈ rs) {r : (List S_api_Node) × S_api_Result} (hm : m_nodes_list l2 x3 x4 = some r) :
    Calls Tryz.prog 25 [v1, .int .i64 x3, .agg #[.int .i64 x4.Kind, .string x4.Path, .string x4.Data, .int .i64 x4.Version, .int .i64 x4.Owner, .bool x4.Turns]].toArray w (Ret fun v w' => ∃ (v5001 : Value) (v5004 : Value), .tuple #[v5001, .agg #[.int .i64 r.2.Err, .string r.2.Path, .string r.2.Data, .int .i64 r.2.Version, v5004]] = v ∧ Sep w' (Fo) (rSl k_api_Node v5001 r.1 :: rSl kS v5004 r.2.Names :: rs)) := by
 unfold m_nodes_list at hm
 refine enter Tryz.func25 rfl Tryz.ntmps25 rfl fun a E => ?_
 simp only [enum, Nat.reduceAdd] at E
 refine wp_seq ?_
 refine wp_region_lit ?_
 refine st_box E H (wn rfl) rfl rfl (cs := [.int .i64 x4.Kind, .string x4.Path, .string x4.Data, .int .i64 x4.Version, .int .i64 x4.Owner, .bool x4.Turns]) rfl rfl rfl ?_
 clear E H; clear a; clear w; intro p6 w a H E
 refine sv E rfl rfl rfl (x_assign E rfl rfl) ?_
 clear a E;intro a E
 refine st_alloc E H (wn rfl) rfl rfl (cs := [.int .i64 0, .string (ByteArray.mk #[]), .string (ByteArray.mk #[]), .int .i64 0, .slice none 0 0]) rfl (z := .agg #[.int .i64 0, .string ⟨#[]⟩, .string ⟨#[]⟩, .int .i64 0, .slice none 0 0]) (by kernel_rfl) rfl ?_
 clear E H; clear a; clear w; intro p7 w a H E
 refine wpList_nil ?_
 refine q_then ?_
 refine wp_seq ?_
 refine wp_region_lit ?_
 refine st_alloc E H (wn rfl) rfl rfl (cs := [.int .i64 0, .string (ByteArray.mk #[]), .string (ByteArray.mk #[]), .int .i64 0, .slice none 0 0]) rfl (z := .agg #[.int .i64 0, .string ⟨#[]⟩, .string ⟨#[]⟩, .int .i64 0, .slice none 0 0]) (by kernel_rfl) rfl ?_
 clear E H; clear a; clear w; intro p8 w a H E
 refine wpList_nil ?_
 refine q_then ?_
 refine wp_seq ?_
 refine wp_seq ?_
 refine wp_region_lit ?_
 refine sv E rfl rfl rfl (x_move E rfl rfl) ?_
 clear a E;intro a E
 refine sv E rfl rfl rfl (x_lenS E H rfl rfl hr5 Tryz.underlying22) ?_
 clear a E;intro a E
 refine sv E rfl rfl rfl (x_move E rfl rfl) ?_
 clear a E;intro a E
 refine wpList_nil ?_
 refine q_then ?_
 refine wp_block ?_
 refine wp_loop_g (fun k1 a w => ∃ (v10 : Value) (x9 : Int) (l11 : (List ByteArray)) (rs12 : List Rp), Env 35 a [(0, v1), (1, .int .i64 x3), (7, .pointer (some ⟨p7, 0, none⟩)), (8, .pointer (some ⟨p8, 0, none⟩)), (11, v1), (12, .int .i64 (l2.length : Int)), (13, .int .i64 x9)] ∧ Sep w (Blk p7 31 [.int .i64 0, .string (ByteArray.mk #[]), .string (ByteArray.mk #[]), .int .i64 0, .slice none 0 0] :: Blk p8 31 [.int .i64 0, .string (ByteArray.mk #[]), .string (ByteArray.mk #[]), .int .i64 0, v10] :: Row 9 kS v10 l11 :: Fo) rs12 ∧ (∀ r, r ∈ rs → r ∈ rs12) ∧ rSl k_api_Node v1 l2 ∈ rs12 ∧ m_nodes_list_l1 l2 x3 k1 x9 l11 = some r) (((l2.length : Int) - 0 : Int).toNat + 1) ?_ ?_
 ·replace H := H.nilRow 9 kS
  replace H := H.drop 3
  replace H := H.front 0 rfl
  replace H := H.front 1 rfl
  replace H := H.front 2 rfl
  exact ⟨(.slice none 0 0), 0, [], _, (((((((E.nil.keep E 13 rfl).keep E 12 rfl).keep E 11 rfl).keep E 8 rfl).keep E 7 rfl).keep E 1 rfl).keep E 0 rfl), H, fun r hr => hr, hr5, hm⟩
 ·clear E H hm
  rintro k1 a w ⟨v10, x9, l11, rs12, E, H, hs13, hr14, hm⟩
  cases k1 with
  | zero => exact (none_some hm rfl).elim
  | succ k1 =>
   unfold m_nodes_list_l1 at hm
   refine wp_seq ?_
   refine wp_region_lit ?_
   refine sv E rfl rfl rfl (x_bin E rfl rfl rfl rfl) ?_
   clear a E;intro a E
   refine wpList_nil ?_
   refine q_then ?_
   refine wp_seq ?_
   refine wp_if E rfl ?_ ?_
   ·intro hb
    rw [if_t hb] at hm
    clear hb
    refine wp_skip ?_
    refine q_then ?_
    refine wp_seq_cut (fun a w => ∃ (v15 : Value) (l16 : (List ByteArray)) (rs17 : List Rp), Env 35 a [(0, v1), (1, .int .i64 x3), (7, .pointer (some ⟨p7, 0, none⟩)), (8, .pointer (some ⟨p8, 0, none⟩)), (11, v1), (12, .int .i64 (l2.length : Int)), (13, .int .i64 x9)] ∧ Sep w (Blk p7 31 [.int .i64 0, .string (ByteArray.mk #[]), .string (ByteArray.mk #[]), .int .i64 0, .slice none 0 0] :: Blk p8 31 [.int .i64 0, .string (ByteArray.mk #[]), .string (ByteArray.mk #[]), .int .i64 0, v15] :: Row 9 kS v15 l16 :: Fo) rs17 ∧ (∀ r, r ∈ rs → r ∈ rs17) ∧ rSl k_api_Node v1 l2 ∈ rs17 ∧ m_nodes_list_j1 (m_nodes_list_l1 l2 x3 k1) x9 l16 = some r) ?_ ?_
    ·refine wp_block ?_
     refine wp_seq ?_
     refine wp_region_lit ?_
     obtain ⟨x20, hx21, hm⟩ := bnd hm
     refine st_ixS E H (wn rfl) rfl rfl rfl rfl rfl hr14 Tryz.underlying22 sz35 hx21 ?_
     clear E H; clear a; intro q22 a H E
     refine st_ldN E H (wn rfl) rfl rfl rfl rfl (.head _) Tryz.underlying35 rfl sz35 ?_
     clear E H; clear a; intro u23 a H E
     obtain ⟨_, hcs⟩ := H.rd (.head _)
     obtain rfl := k_api_Node_open hcs
     clear hcs
     refine st_alloc E H (wn rfl) rfl rfl (cs := [.string (ByteArray.mk #[]), .string (ByteArray.mk #[]), .int .i64 0, .int .i64 0, .int .i64 0]) rfl (z := .agg #[.string ⟨#[]⟩, .string ⟨#[]⟩, .int .i64 0, .int .i64 0, .int .i64 0]) (by kernel_rfl) rfl ?_
     clear E H; clear a; clear w; intro p24 w a H E
     refine st_st (i := 0) E H (wn rfl) rfl (us := [.string x20.Path, .string x20.Data, .int .i64 x20.Version, .int .i64 x20.Turn, .int .i64 x20.Owner]) rfl rfl rfl rfl rfl sz35 rfl rfl ?_
     clear H; clear w; intro w H
     replace H : Sep w (Blk p24 35 [.string x20.Path, .string x20.Data, .int .i64 x20.Version, .int .i64 x20.Turn, .int .i64 x20.Owner] :: Blk p7 31 [.int .i64 0, .string (ByteArray.mk #[]), .string (ByteArray.mk #[]), .int .i64 0, .slice none 0 0] :: Blk p8 31 [.int .i64 0, .string (ByteArray.mk #[]), .string (ByteArray.mk #[]), .int .i64 0, v10] :: Row 9 kS v10 l11 :: Fo) _ := H
     refine wpList_nil ?_
     refine q_then ?_
     refine wp_seq ?_
     obtain ⟨u25, H⟩ := H.raw (.tail _ (.tail _ hr14))
     replace H : Sep w (Blk p24 35 [.string x20.Path, .string x20.Data, .int .i64 x20.Version, .int .i64 x20.Turn, .int .i64 x20.Owner] :: Blk p7 31 [.int .i64 0, .string (ByteArray.mk #[]), .string (ByteArray.mk #[]), .int .i64 0, .slice none 0 0] :: Blk p8 31 [.int .i64 0, .string (ByteArray.mk #[]), .string (ByteArray.mk #[]), .int .i64 0, v10] :: Row 9 kS v10 l11 :: Fo) (rRow k_api_Node v1 l2 u25 :: rCs k_api_Node [.string x20.Path, .string x20.Data, .int .i64 x20.Version, .int .i64 x20.Turn, .int .i64 x20.Owner] x20 :: rAt k_api_Node q22 x20 :: rs12) := H
     have hI : Still [Blk p24 35 [.string x20.Path, .string x20.Data, .int .i64 x20.Version, .int .i64 x20.Turn, .int .i64 x20.Owner]] [rRow k_api_Node v1 l2 u25] { w with drawn := w.drawn + 1 } := ⟨_, _, H.kept (Kp.drawn _ w _), (subO_cons (.head _) (subO_nil)), (sub_cons (.head _) (sub_nil))⟩
     refine wp_draw _ [(0, 0), (1, 0), (2, 0), (3, 0), (4, 0), (5, 0), (6, 1)] mixedOk (by kernel_rfl) (fun _ _ _ h => False.elim h.2) hI ?_
     replace H := H.kept (Kp.drawn _ w (w.drawn + 1))
     generalize ({ w with drawn := w.drawn + 1 } : World) = w at H hI ⊢
     replace hI : ∃ W, Still [Blk p24 35 [.string x20.Path, .string x20.Data, .int .i64 x20.Version, .int .i64 x20.Turn, .int .i64 x20.Owner]] [rRow k_api_Node v1 l2 u25] W := ⟨_, hI⟩
     obtain ⟨W0, hI⟩ := hI
     refine fr_val E rfl (wn rfl) rfl rfl (fun w hW => x_ld E rfl rfl (ib_ldN (us := [.string x20.Path, .string x20.Data, .int .i64 x20.Version, .int .i64 x20.Turn, .int .i64 x20.Owner]) (.head _) rfl Tryz.underlying35 rfl sz35 w hW)) ?_
     clear a E;intro a E
     refine fr_val E rfl (wn rfl) rfl rfl (fun w hW => (x_move E rfl rfl)) ?_
     clear a E;intro a E
     refine fr_val E rfl (wn rfl) rfl rfl (fun w hW => (x_move E rfl rfl)) ?_
     clear a E;intro a E
     obtain ⟨x26, hx27, hm⟩ := bnd hm
     obtain ⟨q28, u31, hx29, hx30⟩ := dr_ixW (P := Tryz.prog) (k := .i64) hI (dr_mem (.head _)) Tryz.underlying22 sz35 hx27
     refine fr_val E rfl (wn rfl) rfl rfl (fun w hW => x_ixA E rfl rfl rfl (hx29 w)) ?_
     clear a E;intro a E
     have hx32 := dr_fld hx30 (fun _ _ _ h => k_api_Node_aw0 h)
     refine fr_val E rfl (wn rfl) rfl rfl (fun w hW => x_fa E rfl rfl (fa35_0 _ _)) ?_
     clear a E;intro a E
     refine fr_val E rfl (wn rfl) rfl rfl (fun w hW => x_ld E rfl rfl (ir_ld (DR.ir (dr_at hx32)) Tryz.underlying9 rfl w hW)) ?_
     clear a E;intro a E
     refine fr_op rfl ?_
     obtain ⟨u33, hx34, hm⟩ := bnd hm
     refine st_call E (wn rfl) rfl rfl (x_call E rfl rfl (cf51 _)) (c_nodes_in (⟨x20.Path, x20.Data, x20.Version, x20.Turn, x20.Owner⟩ : S_api_Node) x26.Path H hx34) ?_
     clear E H; clear a; clear w; rintro _ w ⟨rfl, H⟩ a E
     refine wpList_nil ?_
     refine q_then ?_
     replace H : Sep w (Blk p24 35 [.string x20.Path, .string x20.Data, .int .i64 x20.Version, .int .i64 x20.Turn, .int .i64 x20.Owner] :: Blk p7 31 [.int .i64 0, .string (ByteArray.mk #[]), .string (ByteArray.mk #[]), .int .i64 0, .slice none 0 0] :: Blk p8 31 [.int .i64 0, .string (ByteArray.mk #[]), .string (ByteArray.mk #[]), .int .i64 0, v10] :: Row 9 kS v10 l11 :: Fo) (rRow k_api_Node v1 l2 u25 :: rCs k_api_Node [.string x20.Path, .string x20.Data, .int .i64 x20.Version, .int .i64 x20.Turn, .int .i64 x20.Owner] x20 :: rAt k_api_Node q22 x20 :: rs12) := H
     refine ⟨⟨_, _, H, (subO_cons (.head _) (subO_nil)), (sub_cons (.head _) (sub_nil))⟩, ?_⟩
     refine fr_nil ?_
     clear hI
     refine q_then ?_
     refine wp_if E rfl ?_ ?_
     ·intro hb
      rw [if_t hb] at hm
      clear hb
      replace H : Sep w (Blk p24 35 [.string x20.Path, .string x20.Data, .int .i64 x20.Version, .int .i64 x20.Turn, .int .i64 x20.Owner] :: Blk p7 31 [.int .i64 0, .string (ByteArray.mk #[]), .string (ByteArray.mk #[]), .int .i64 0, .slice none 0 0] :: Blk p8 31 [.int .i64 0, .string (ByteArray.mk #[]), .string (ByteArray.mk #[]), .int .i64 0, v10] :: Row 9 kS v10 l11 :: Fo) (rRow k_api_Node v1 l2 u25 :: rCs k_api_Node [.string x20.Path, .string x20.Data, .int .i64 x20.Version, .int .i64 x20.Turn, .int .i64 x20.Owner] x20 :: rAt k_api_Node q22 x20 :: rs12) := H
      have hI : Still [Blk p24 35 [.string x20.Path, .string x20.Data, .int .i64 x20.Version, .int .i64 x20.Turn, .int .i64 x20.Owner], Blk p8 31 [.int .i64 0, .string (ByteArray.mk #[]), .string (ByteArray.mk #[]), .int .i64 0, v10]] [] { w with drawn := w.drawn + 1 } := ⟨_, _, H.kept (Kp.drawn _ w _), (subO_cons (.head _) (subO_cons (.tail _ (.tail _ (.head _))) (subO_nil))), (sub_nil)⟩
      refine wp_draw _ [(0, 0), (1, 0), (2, 0), (3, 0), (4, 1), (5, 1), (6, 1), (7, 2), (8, 2)] mixedOk (by kernel_rfl) (fun _ _ _ h => False.elim h.2) hI ?_
      replace H := H.kept (Kp.drawn _ w (w.drawn + 1))
      generalize ({ w with drawn := w.drawn + 1 } : World) = w at H hI ⊢
      replace hI : ∃ W, Still [Blk p24 35 [.string x20.Path, .string x20.Data, .int .i64 x20.Version, .int .i64 x20.Turn, .int .i64 x20.Owner], Blk p8 31 [.int .i64 0, .string (ByteArray.mk #[]), .string (ByteArray.mk #[]), .int .i64 0, v10]] [] W := ⟨_, hI⟩
      obtain ⟨W0, hI⟩ := hI
      refine fr_val E rfl (wn rfl) rfl rfl (fun w hW => x_fa E rfl rfl (v := .pointer (some ⟨p8, 4, none⟩)) (fa31_4 _ _)) ?_
      clear a E;intro a E
      refine fr_val E rfl (wn rfl) rfl rfl (fun w hW => x_ld E rfl rfl (ib_ld (.tail _ (.head _)) rfl Tryz.underlying29 rfl w hW)) ?_
      clear a E;intro a E
      refine fr_val E rfl (wn rfl) rfl rfl (fun w hW => x_fa E rfl rfl (v := .pointer (some ⟨p24, 0, none⟩)) (fa35_0 _ _)) ?_
      clear a E;intro a E
      refine fr_val E rfl (wn rfl) rfl rfl (fun w hW => x_ld E rfl rfl (ib_ld (.head _) rfl Tryz.underlying9 rfl w hW)) ?_
      clear a E;intro a E
      refine fr_op rfl ?_
      obtain ⟨u35, hx36, hm⟩ := bnd hm
      refine st_call E (wn rfl) rfl rfl (x_call E rfl rfl (cf43 _)) (c_path_Last x20.Path H hx36) ?_
      clear E H; clear a; clear w; rintro _ w ⟨rfl, H⟩ a E
      refine wpList_nil ?_
      refine q_then ?_
      replace H : Sep w (Blk p24 35 [.string x20.Path, .string x20.Data, .int .i64 x20.Version, .int .i64 x20.Turn, .int .i64 x20.Owner] :: Blk p7 31 [.int .i64 0, .string (ByteArray.mk #[]), .string (ByteArray.mk #[]), .int .i64 0, .slice none 0 0] :: Blk p8 31 [.int .i64 0, .string (ByteArray.mk #[]), .string (ByteArray.mk #[]), .int .i64 0, v10] :: Row 9 kS v10 l11 :: Fo) (rRow k_api_Node v1 l2 u25 :: rCs k_api_Node [.string x20.Path, .string x20.Data, .int .i64 x20.Version, .int .i64 x20.Turn, .int .i64 x20.Owner] x20 :: rAt k_api_Node q22 x20 :: rs12) := H
      refine ⟨⟨_, _, H, (subO_cons (.head _) (subO_cons (.tail _ (.tail _ (.head _))) (subO_nil))), (sub_nil)⟩, ?_⟩
      refine fr_op rfl ?_
      refine st_bsR (e := 9) (d := kS) (cs := [.string u35]) (xs := [u35]) E H (wn rfl) rfl rfl (ps := [(0, .tmp 28)]) (parts := [(0, .string u35)]) rfl (by simp only [List.map]; rw [E.eval (x := .tmp 28) (v := .string u35) rfl]) (by kernel_rfl) rfl (fun ok hr => (Rows.single (d := kS) (cs := [.string u35]) (x := u35) rfl)) ?_
      clear E H; clear a; clear w; intro v37 w a H E
      refine wpList_nil ?_
      refine q_then ?_
      replace H : Sep w (Blk p24 35 [.string x20.Path, .string x20.Data, .int .i64 x20.Version, .int .i64 x20.Turn, .int .i64 x20.Owner] :: Blk p7 31 [.int .i64 0, .string (ByteArray.mk #[]), .string (ByteArray.mk #[]), .int .i64 0, .slice none 0 0] :: Blk p8 31 [.int .i64 0, .string (ByteArray.mk #[]), .string (ByteArray.mk #[]), .int .i64 0, v10] :: Row 9 kS v10 l11 :: Fo) (rSl kS v37 ([u35] : List ByteArray) :: rRow k_api_Node v1 l2 u25 :: rCs k_api_Node [.string x20.Path, .string x20.Data, .int .i64 x20.Version, .int .i64 x20.Turn, .int .i64 x20.Owner] x20 :: rAt k_api_Node q22 x20 :: rs12) := H
      refine ⟨⟨_, _, H, (subO_cons (.head _) (subO_cons (.tail _ (.tail _ (.head _))) (subO_nil))), (sub_nil)⟩, ?_⟩
      refine fr_op rfl ?_
      obtain ⟨u39, hx40, hm⟩ := bnd hm
      refine st_append (i := 3) E H (wn rfl) rfl rfl rfl rfl rfl rfl (src_rd (.head _)) Tryz.underlying29 inf9 rfl (ck_of hx40) rfl ?_
      clear E H; clear a; clear w; intro v38 w a H E
      refine wpList_nil ?_
      refine q_then ?_
      replace H : Sep w (Blk p24 35 [.string x20.Path, .string x20.Data, .int .i64 x20.Version, .int .i64 x20.Turn, .int .i64 x20.Owner] :: Blk p7 31 [.int .i64 0, .string (ByteArray.mk #[]), .string (ByteArray.mk #[]), .int .i64 0, .slice none 0 0] :: Blk p8 31 [.int .i64 0, .string (ByteArray.mk #[]), .string (ByteArray.mk #[]), .int .i64 0, v10] :: Row 9 kS v38 (l11 ++ ([u35] : List ByteArray)) :: Fo) (rSl kS v37 ([u35] : List ByteArray) :: rRow k_api_Node v1 l2 u25 :: rCs k_api_Node [.string x20.Path, .string x20.Data, .int .i64 x20.Version, .int .i64 x20.Turn, .int .i64 x20.Owner] x20 :: rAt k_api_Node q22 x20 :: rs12) := H
      refine ⟨⟨_, _, H, (subO_cons (.head _) (subO_cons (.tail _ (.tail _ (.head _))) (subO_nil))), (sub_nil)⟩, ?_⟩
      refine fr_tail rfl ?_
      refine sv E rfl rfl rfl (x_fa E rfl rfl (v := .pointer (some ⟨p8, 4, none⟩)) (fa31_4 _ _)) ?_
      clear a E;intro a E
      refine wpList_nil ?_
      refine q_then ?_
      refine fr_tail rfl ?_
      obtain ⟨q41, x42, rfl⟩ := H.rowform (i := 3) rfl
      refine st_st (i := 2) E H (wn rfl) rfl (us := [(.slice q41 (l11 ++ ([u35] : List ByteArray)).length x42)]) rfl rfl rfl rfl rfl sz29 rfl rfl ?_
      clear H; clear w; intro w H
      replace H : Sep w (Blk p24 35 [.string x20.Path, .string x20.Data, .int .i64 x20.Version, .int .i64 x20.Turn, .int .i64 x20.Owner] :: Blk p7 31 [.int .i64 0, .string (ByteArray.mk #[]), .string (ByteArray.mk #[]), .int .i64 0, .slice none 0 0] :: Blk p8 31 [.int .i64 0, .string (ByteArray.mk #[]), .string (ByteArray.mk #[]), .int .i64 0, (.slice q41 (l11 ++ ([u35] : List ByteArray)).length x42)] :: Row 9 kS (.slice q41 (l11 ++ ([u35] : List ByteArray)).length x42) (l11 ++ ([u35] : List ByteArray)) :: Fo) _ := H
      refine wpList_nil ?_
      refine q_then ?_
      refine fr_nil ?_
      clear hI
      refine q_blk ?_
      refine q_then ?_
      replace H := H.drop 0
      exact ⟨(.slice q41 (l11 ++ ([u35] : List ByteArray)).length x42), l11 ++ ([u35] : List ByteArray), _, (((((((E.nil.keep E 13 rfl).keep E 12 rfl).keep E 11 rfl).keep E 8 rfl).keep E 7 rfl).keep E 1 rfl).keep E 0 rfl), H, fun r hr => .tail _ (.tail _ (.tail _ (.tail _ (hs13 r hr)))), (.tail _ (.tail _ (.tail _ (.tail _ hr14)))), hm⟩
     ·intro hb
      rw [if_f hb] at hm
      clear hb
      refine wp_skip ?_
      refine q_blk ?_
      refine q_then ?_
      replace H := H.drop 0
      exact ⟨v10, l11, _, (((((((E.nil.keep E 13 rfl).keep E 12 rfl).keep E 11 rfl).keep E 8 rfl).keep E 7 rfl).keep E 1 rfl).keep E 0 rfl), H, fun r hr => .tail _ (.tail _ (.tail _ (hs13 r hr))), (.tail _ (.tail _ (.tail _ hr14))), hm⟩
    ·clear E H hm
     rintro a w ⟨v15, l16, rs17, E, H, hs18, hr19, hm⟩
     unfold m_nodes_list_j1 at hm
     refine wp_region_lit ?_
     refine sv E rfl rfl rfl (x_bin E rfl rfl rfl rfl) ?_
     clear a E;intro a E
     refine sv E rfl rfl rfl (x_move E rfl rfl) ?_
     clear a E;intro a E
     refine wpList_nil ?_
     refine q_then ?_
     exact ⟨k1, Nat.lt_succ_self k1, v15, IntKind.i64.wrap (x9 + 1), l16, _, (((((((E.nil.keep E 13 rfl).keep E 12 rfl).keep E 11 rfl).keep E 8 rfl).keep E 7 rfl).keep E 1 rfl).keep E 0 rfl), H, hs18, hr19, hm⟩
   ·intro hb
    rw [if_f hb] at hm
    clear hb
    refine wp_exit ?_
    refine q_thenX ?_
    refine q_thenX ?_
    refine q_hit ?_
    refine q_then ?_
    refine wp_seq ?_
    replace H : Sep w (Blk p7 31 [.int .i64 0, .string (ByteArray.mk #[]), .string (ByteArray.mk #[]), .int .i64 0, .slice none 0 0] :: Blk p8 31 [.int .i64 0, .string (ByteArray.mk #[]), .string (ByteArray.mk #[]), .int .i64 0, v10] :: Row 9 kS v10 l11 :: Fo) (rs12) := H
    have hI : Still [Blk p8 31 [.int .i64 0, .string (ByteArray.mk #[]), .string (ByteArray.mk #[]), .int .i64 0, v10]] [] { w with drawn := w.drawn + 1 } := ⟨_, _, H.kept (Kp.drawn _ w _), (subO_cons (.tail _ (.head _)) (subO_nil)), (sub_nil)⟩
    refine wp_draw _ [(0, 0), (1, 0), (2, 1), (3, 2)] mixedOk (by kernel_rfl) (fun _ _ _ h => False.elim h.2) hI ?_
    replace H := H.kept (Kp.drawn _ w (w.drawn + 1))
    generalize ({ w with drawn := w.drawn + 1 } : World) = w at H hI ⊢
    replace hI : ∃ W, Still [Blk p8 31 [.int .i64 0, .string (ByteArray.mk #[]), .string (ByteArray.mk #[]), .int .i64 0, v10]] [] W := ⟨_, hI⟩
    obtain ⟨W0, hI⟩ := hI
    refine fr_val E rfl (wn rfl) rfl rfl (fun w hW => (x_move E rfl rfl)) ?_
    clear a E;intro a E
    refine fr_val E rfl (wn rfl) rfl rfl (fun w hW => x_ld E rfl rfl (ib_ldN (us := [.int .i64 0, .string (ByteArray.mk #[]), .string (ByteArray.mk #[]), .int .i64 0, v10]) (.head _) rfl Tryz.underlying31 rfl sz31 w hW)) ?_
    clear a E;intro a E
    refine fr_op rfl ?_
    refine sv E rfl rfl rfl (x_assign E rfl rfl) ?_
    clear a E;intro a E
    refine wpList_nil ?_
    refine q_then ?_
    replace H : Sep w (Blk p7 31 [.int .i64 0, .string (ByteArray.mk #[]), .string (ByteArray.mk #[]), .int .i64 0, .slice none 0 0] :: Blk p8 31 [.int .i64 0, .string (ByteArray.mk #[]), .string (ByteArray.mk #[]), .int .i64 0, v10] :: Row 9 kS v10 l11 :: Fo) (rs12) := H
    refine ⟨⟨_, _, H, (subO_cons (.tail _ (.head _)) (subO_nil)), (sub_nil)⟩, ?_⟩
    refine fr_tail rfl ?_
    obtain ⟨q43, x44, rfl⟩ := H.rowform (i := 2) rfl
    refine st_st (i := 0) E H (wn rfl) rfl (us := [.int .i64 0, .string (ByteArray.mk #[]), .string (ByteArray.mk #[]), .int .i64 0, (.slice q43 l11.length x44)]) rfl rfl rfl rfl rfl sz31 rfl rfl ?_
    clear H; clear w; intro w H
    replace H : Sep w (Blk p7 31 [.int .i64 0, .string (ByteArray.mk #[]), .string (ByteArray.mk #[]), .int .i64 0, (.slice q43 l11.length x44)] :: Blk p8 31 [.int .i64 0, .string (ByteArray.mk #[]), .string (ByteArray.mk #[]), .int .i64 0, (.slice q43 l11.length x44)] :: Row 9 kS (.slice q43 l11.length x44) l11 :: Fo) _ := H
    refine wpList_nil ?_
    refine q_then ?_
    refine fr_nil ?_
    clear hI
    refine q_then ?_
    refine wp_ret ?_
    refine outR2 E rfl (rvT rfl) (rvBN (i := 0) (us := [.int .i64 0, .string (ByteArray.mk #[]), .string (ByteArray.mk #[]), .int .i64 0, (.slice q43 l11.length x44)]) H rfl rfl rfl Tryz.underlying31 rfl sz31) ?_
    replace H := H.thaw (i := 2) rfl
    replace H := H.drop 0
    replace H := H.drop 0
    obtain rfl := Option.some.inj hm
    exact ⟨v1, (.slice q43 l11.length x44), rfl, H.reads (sub_cons (.tail _ hr14) (sub_cons (.head _) (fun r hr => .tail _ (hs13 r hr))))⟩
end Go.Cb

set_option linter.unusedVariables false
set_option linter.unusedSimpArgs false
namespace Go.Cb
open Go.Proofs Go.RowKit
def m_nodes_remove_1 (x1 : S_api_Node) (l4 : List S_api_Node) (x6 : Int) : Option Bool :=
  (idx l4 x6).bind fun x10 => (m_nodes_in (⟨x1.Path, x1.Data, x1.Version, x1.Turn, x1.Owner⟩ : S_api_Node) x10.Path).bind fun u17 => some (u17)
set_option maxRecDepth 20000 in
set_option maxHeartbeats 1000000 in
theorem c_nodes_remove_1 {w : World} {Fo : List Ob} {rs : List Rp} (x1 : S_api_Node) (p2 : Nat) (v3 : Value) (l4 : List S_api_Node) (p5 : Nat) (x6 : Int) (H : Sep w (Blk p2 22 [v3] :: Blk p5 3 [.int .i64 x6] :: Fo) rs) (hr7 : rSl k_api_Node v3 l4 ∈ rs) {r : Bool} (hm : m_nodes_remove_1 x1 l4 x6 = some r) :
    Calls Tryz.prog 50 [.agg #[.string x1.Path, .string x1.Data, .int .i64 x1.Version, .int .i64 x1.Turn, .int .i64 x1.Owner], .pointer (some ⟨p2, 0, none⟩), .pointer (some ⟨p5, 0, none⟩)].toArray w (Ret fun v w' => .bool r = v ∧ Sep w' (Blk p2 22 [v3] :: Blk p5 3 [.int .i64 x6] :: Fo) (rs)) := by
 unfold m_nodes_remove_1 at hm
 refine enter Tryz.func50 rfl Tryz.ntmps50 rfl fun a E => ?_
 simp only [enum, Nat.reduceAdd] at E
 refine wp_seq ?_
 refine wp_region_lit ?_
 refine st_box E H (wn rfl) rfl rfl (cs := [.string x1.Path, .string x1.Data, .int .i64 x1.Version, .int .i64 x1.Turn, .int .i64 x1.Owner]) rfl rfl rfl ?_
 clear E H; clear a; clear w; intro p8 w a H E
 refine sv E rfl rfl rfl (x_assign E rfl rfl) ?_
 clear a E;intro a E
 refine wpList_nil ?_
 refine q_then ?_
 refine wp_seq ?_
 obtain ⟨u9, H⟩ := H.raw hr7
 replace H : Sep w (Blk p8 35 [.string x1.Path, .string x1.Data, .int .i64 x1.Version, .int .i64 x1.Turn, .int .i64 x1.Owner] :: Blk p2 22 [v3] :: Blk p5 3 [.int .i64 x6] :: Fo) (rRow k_api_Node v3 l4 u9 :: rs) := H
 have hI : Still [Blk p8 35 [.string x1.Path, .string x1.Data, .int .i64 x1.Version, .int .i64 x1.Turn, .int .i64 x1.Owner], Blk p2 22 [v3], Blk p5 3 [.int .i64 x6]] [rRow k_api_Node v3 l4 u9] { w with drawn := w.drawn + 1 } := ⟨_, _, H.kept (Kp.drawn _ w _), (subO_cons (.head _) (subO_cons (.tail _ (.head _)) (subO_cons (.tail _ (.tail _ (.head _))) (subO_nil)))), (sub_cons (.head _) (sub_nil))⟩
 refine wp_draw _ [(0, 0), (1, 0), (2, 0), (3, 0), (4, 0), (5, 0), (6, 1), (7, 2)] mixedOk (by kernel_rfl) (fun _ _ _ h => False.elim h.2) hI ?_
 replace H := H.kept (Kp.drawn _ w (w.drawn + 1))
 generalize ({ w with drawn := w.drawn + 1 } : World) = w at H hI ⊢
 replace hI : ∃ W, Still [Blk p8 35 [.string x1.Path, .string x1.Data, .int .i64 x1.Version, .int .i64 x1.Turn, .int .i64 x1.Owner], Blk p2 22 [v3], Blk p5 3 [.int .i64 x6]] [rRow k_api_Node v3 l4 u9] W := ⟨_, hI⟩
 obtain ⟨W0, hI⟩ := hI
 refine fr_val E rfl (wn rfl) rfl rfl (fun w hW => x_ld E rfl rfl (ib_ldN (us := [.string x1.Path, .string x1.Data, .int .i64 x1.Version, .int .i64 x1.Turn, .int .i64 x1.Owner]) (.head _) rfl Tryz.underlying35 rfl sz35 w hW)) ?_
 clear a E;intro a E
 refine fr_val E rfl (wn rfl) rfl rfl (fun w hW => x_ld E rfl rfl (ib_ld (.tail _ (.head _)) rfl Tryz.underlying22 rfl w hW)) ?_
 clear a E;intro a E
 refine fr_val E rfl (wn rfl) rfl rfl (fun w hW => x_ld E rfl rfl (ib_ld (.tail _ (.tail _ (.head _))) rfl Tryz.underlying3 rfl w hW)) ?_
 clear a E;intro a E
 obtain ⟨x10, hx11, hm⟩ := bnd hm
 obtain ⟨q12, u15, hx13, hx14⟩ := dr_ixW (P := Tryz.prog) (k := .i64) hI (dr_mem (.head _)) Tryz.underlying22 sz35 hx11
 refine fr_val E rfl (wn rfl) rfl rfl (fun w hW => x_ixA E rfl rfl rfl (hx13 w)) ?_
 clear a E;intro a E
 have hx16 := dr_fld hx14 (fun _ _ _ h => k_api_Node_aw0 h)
 refine fr_val E rfl (wn rfl) rfl rfl (fun w hW => x_fa E rfl rfl (fa35_0 _ _)) ?_
 clear a E;intro a E
 refine fr_val E rfl (wn rfl) rfl rfl (fun w hW => x_ld E rfl rfl (ir_ld (DR.ir (dr_at hx16)) Tryz.underlying9 rfl w hW)) ?_
 clear a E;intro a E
 refine fr_op rfl ?_
 obtain ⟨u17, hx18, hm⟩ := bnd hm
 refine st_call E (wn rfl) rfl rfl (x_call E rfl rfl (cf51 _)) (c_nodes_in (⟨x1.Path, x1.Data, x1.Version, x1.Turn, x1.Owner⟩ : S_api_Node) x10.Path H hx18) ?_
 clear E H; clear a; clear w; rintro _ w ⟨rfl, H⟩ a E
 refine wpList_nil ?_
 refine q_then ?_
 replace H : Sep w (Blk p8 35 [.string x1.Path, .string x1.Data, .int .i64 x1.Version, .int .i64 x1.Turn, .int .i64 x1.Owner] :: Blk p2 22 [v3] :: Blk p5 3 [.int .i64 x6] :: Fo) (rRow k_api_Node v3 l4 u9 :: rs) := H
 refine ⟨⟨_, _, H, (subO_cons (.head _) (subO_cons (.tail _ (.head _)) (subO_cons (.tail _ (.tail _ (.head _))) (subO_nil)))), (sub_cons (.head _) (sub_nil))⟩, ?_⟩
 refine fr_tail rfl ?_
 refine sv E rfl rfl rfl (x_assign E rfl rfl) ?_
 clear a E;intro a E
 refine wpList_nil ?_
 refine q_then ?_
 refine fr_nil ?_
 clear hI
 refine q_then ?_
 refine wp_ret ?_
 refine out1 E rfl rfl ?_
 replace H := H.drop 0
 obtain rfl := Option.some.inj hm
 exact ⟨rfl, H.reads (fun r hr => .tail _ (hr))⟩
end Go.Cb

set_option linter.unusedVariables false
set_option linter.unusedSimpArgs false
namespace Go.Cb
open Go.Proofs Go.RowKit
def m_slices_IndexFunc_api_Node_api_Node_1_l1 (l2 : List S_api_Node) (l5 : List S_api_Node) (x7 : Int) : Nat → Int → Option Int
  | 0, _ => none
  | k1 + 1, x10 =>
    if (decide (x10 < (l2.length : Int))) = true then ((idx l2 x10).bind fun x15 => (m_nodes_remove_1 x15 l5 x7).bind fun u19 => if u19 = true then (some (x10)) else (m_slices_IndexFunc_api_Node_api_Node_1_l1 l2 l5 x7 k1 (IntKind.i64.wrap (x10 + 1)))) else (some ((-1)))
def m_slices_IndexFunc_api_Node_api_Node_1 (l2 : List S_api_Node) (l5 : List S_api_Node) (x7 : Int) : Option Int :=
  m_slices_IndexFunc_api_Node_api_Node_1_l1 l2 l5 x7 (((l2.length : Int) - 0 : Int).toNat + 1) 0
set_option maxRecDepth 20000 in
set_option maxHeartbeats 1000000 in
theorem c_slices_IndexFunc_api_Node_api_Node_1 {w : World} {Fo : List Ob} {rs : List Rp} (v1 : Value) (l2 : List S_api_Node) (p3 : Nat) (v4 : Value) (l5 : List S_api_Node) (p6 : Nat) (x7 : Int) (H : Sep w (Blk p3 22 [v4] :: Blk p6 3 [.int .i64 x7] :: Fo) rs) (hr8 : rSl k_api_Node v1 l2 ∈ rs) (hr9 : rSl k_api_Node v4 l5 ∈ rs) {r : Int} (hm : m_slices_IndexFunc_api_Node_api_Node_1 l2 l5 x7 = some r) :
    Calls Tryz.prog 32 [v1, .func (.func 50) #[] #[.pointer (some ⟨p3, 0, none⟩), .pointer (some ⟨p6, 0, none⟩)]].toArray w (Ret fun v w' => .int .i64 r = v ∧ Sep w' (Blk p3 22 [v4] :: Blk p6 3 [.int .i64 x7] :: Fo) (rs)) := by
 unfold m_slices_IndexFunc_api_Node_api_Node_1 at hm
 refine enter Tryz.func32 rfl Tryz.ntmps32 rfl fun a E => ?_
 simp only [enum, Nat.reduceAdd] at E
 refine wp_seq ?_
 refine wp_region_lit ?_
 refine sv E rfl rfl rfl (x_assign E rfl rfl) ?_
 clear a E;intro a E
 refine wpList_nil ?_
 refine q_then ?_
 refine wp_seq ?_
 refine wp_seq ?_
 refine wp_region_lit ?_
 refine sv E rfl rfl rfl (x_move E rfl rfl) ?_
 clear a E;intro a E
 refine sv E rfl rfl rfl (x_lenS E H rfl rfl hr8 Tryz.underlying22) ?_
 clear a E;intro a E
 refine sv E rfl rfl rfl (x_move E rfl rfl) ?_
 clear a E;intro a E
 refine wpList_nil ?_
 refine q_then ?_
 refine wp_block ?_
 refine wp_loop_g (fun k1 a w => ∃ (x10 : Int) (rs11 : List Rp), Env 19 a [(0, v1), (1, .func (.func 50) #[] #[.pointer (some ⟨p3, 0, none⟩), .pointer (some ⟨p6, 0, none⟩)]), (7, .int .i64 (l2.length : Int)), (8, .int .i64 x10)] ∧ Sep w (Blk p3 22 [v4] :: Blk p6 3 [.int .i64 x7] :: Fo) rs11 ∧ (∀ r, r ∈ rs → r ∈ rs11) ∧ rSl k_api_Node v1 l2 ∈ rs11 ∧ rSl k_api_Node v4 l5 ∈ rs11 ∧ m_slices_IndexFunc_api_Node_api_Node_1_l1 l2 l5 x7 k1 x10 = some r) (((l2.length : Int) - 0 : Int).toNat + 1) ?_ ?_
 ·exact ⟨0, _, ((((E.nil.keep E 8 rfl).keep E 7 rfl).keep E 1 rfl).keep E 0 rfl), H, fun r hr => hr, hr8, hr9, hm⟩
 ·clear E H hm
  rintro k1 a w ⟨x10, rs11, E, H, hs12, hr13, hr14, hm⟩
  cases k1 with
  | zero => exact (none_some hm rfl).elim
  | succ k1 =>
   unfold m_slices_IndexFunc_api_Node_api_Node_1_l1 at hm
   refine wp_seq ?_
   refine wp_region_lit ?_
   refine sv E rfl rfl rfl (x_bin E rfl rfl rfl rfl) ?_
   clear a E;intro a E
   refine wpList_nil ?_
   refine q_then ?_
   refine wp_seq ?_
   refine wp_if E rfl ?_ ?_
   ·intro hb
    rw [if_t hb] at hm
    clear hb
    refine wp_skip ?_
    refine q_then ?_
    refine wp_seq ?_
    refine wp_block ?_
    refine wp_seq ?_
    refine wp_region_lit ?_
    refine sv E rfl rfl rfl (x_move E rfl rfl) ?_
    clear a E;intro a E
    refine sv E rfl rfl rfl (x_assign E rfl rfl) ?_
    clear a E;intro a E
    refine wpList_nil ?_
    refine q_then ?_
    refine wp_seq ?_
    refine wp_region_lit ?_
    refine sv E rfl rfl rfl (x_move E rfl rfl) ?_
    clear a E;intro a E
    refine sv E rfl rfl rfl (x_move E rfl rfl) ?_
    clear a E;intro a E
    refine sv E rfl rfl rfl (x_move E rfl rfl) ?_
    clear a E;intro a E
    obtain ⟨x15, hx16, hm⟩ := bnd hm
    refine st_ixS E H (wn rfl) rfl rfl rfl rfl rfl hr13 Tryz.underlying22 sz35 hx16 ?_
    clear E H; clear a; intro q17 a H E
    refine st_ldN E H (wn rfl) rfl rfl rfl rfl (.head _) Tryz.underlying35 rfl sz35 ?_
    clear E H; clear a; intro u18 a H E
    obtain ⟨_, hcs⟩ := H.rd (.head _)
    obtain rfl := k_api_Node_open hcs
    clear hcs
    obtain ⟨u19, hx20, hm⟩ := bnd hm
    refine st_call E (wn rfl) rfl rfl (x_callv E rfl rfl rfl (cf50 _)) (c_nodes_remove_1 x15 p3 v4 l5 p6 x7 H (.tail _ (.tail _ hr14)) hx20) ?_
    clear E H; clear a; clear w; rintro _ w ⟨rfl, H⟩ a E
    refine wpList_nil ?_
    refine q_then ?_
    refine wp_if E rfl ?_ ?_
    ·intro hb
     rw [if_t hb] at hm
     clear hb
     refine wp_seq ?_
     refine wp_region_lit ?_
     refine sv E rfl rfl rfl (x_move E rfl rfl) ?_
     clear a E;intro a E
     refine sv E rfl rfl rfl (x_assign E rfl rfl) ?_
     clear a E;intro a E
     refine wpList_nil ?_
     refine q_then ?_
     refine wp_ret ?_
     refine q_blkR ?_
     refine q_thenR ?_
     refine q_thenR ?_
     refine q_blkR ?_
     refine q_thenR ?_
     refine out1 E rfl rfl ?_
     obtain rfl := Option.some.inj hm
     exact ⟨rfl, H.reads (fun r hr => .tail _ (.tail _ (hs12 r hr)))⟩
    ·intro hb
     rw [if_f hb] at hm
     clear hb
     refine wp_skip ?_
     refine q_blk ?_
     refine q_then ?_
     refine wp_region_lit ?_
     refine sv E rfl rfl rfl (x_bin E rfl rfl rfl rfl) ?_
     clear a E;intro a E
     refine sv E rfl rfl rfl (x_move E rfl rfl) ?_
     clear a E;intro a E
     refine wpList_nil ?_
     refine q_then ?_
     exact ⟨k1, Nat.lt_succ_self k1, IntKind.i64.wrap (x10 + 1), _, ((((E.nil.keep E 8 rfl).keep E 7 rfl).keep E 1 rfl).keep E 0 rfl), H, fun r hr => .tail _ (.tail _ (hs12 r hr)), (.tail _ (.tail _ hr13)), (.tail _ (.tail _ hr14)), hm⟩
   ·intro hb
    rw [if_f hb] at hm
    clear hb
    refine wp_exit ?_
    refine q_thenX ?_
    refine q_thenX ?_
    refine q_hit ?_
    refine q_then ?_
    refine wp_seq ?_
    refine wp_region_lit ?_
    refine sv E rfl rfl rfl (x_assign E rfl rfl) ?_
    clear a E;intro a E
    refine wpList_nil ?_
    refine q_then ?_
    refine wp_ret ?_
    refine out1 E rfl rfl ?_
    obtain rfl := Option.some.inj hm
    exact ⟨rfl, H.reads (fun r hr => hs12 r hr)⟩
end Go.Cb

set_option linter.unusedVariables false
set_option linter.unusedSimpArgs false
namespace Go.Cb
open Go.Proofs Go.RowKit
def m_slices_ContainsFunc_api_Node_api_Node (l2 : List S_api_Node) (l5 : List S_api_Node) (x7 : Int) : Option Bool :=
  (m_slices_IndexFunc_api_Node_api_Node_1 l2 l5 x7).bind fun u10 => some (decide (u10 ≥ 0))
set_option maxRecDepth 20000 in
set_option maxHeartbeats 1000000 in
theorem c_slices_ContainsFunc_api_Node_api_Node {w : World} {Fo : List Ob} {rs : List Rp} (v1 : Value) (l2 : List S_api_Node) (p3 : Nat) (v4 : Value) (l5 : List S_api_Node) (p6 : Nat) (x7 : Int) (H : Sep w (Blk p3 22 [v4] :: Blk p6 3 [.int .i64 x7] :: Fo) rs) (hr8 : rSl k_api_Node v1 l2 ∈ rs) (hr9 : rSl k_api_Node v4 l5 ∈ rs) {r : Bool} (hm : m_slices_ContainsFunc_api_Node_api_Node l2 l5 x7 = some r) :
    Calls Tryz.prog 49 [v1, .func (.func 50) #[] #[.pointer (some ⟨p3, 0, none⟩), .pointer (some ⟨p6, 0, none⟩)]].toArray w (Ret fun v w' => .bool r = v ∧ Sep w' (Blk p3 22 [v4] :: Blk p6 3 [.int .i64 x7] :: Fo) (rs)) := by
 unfold m_slices_ContainsFunc_api_Node_api_Node at hm
 refine enter Tryz.func49 rfl Tryz.ntmps49 rfl fun a E => ?_
 simp only [enum, Nat.reduceAdd] at E
 refine wp_seq ?_
 refine wp_region_lit ?_
 refine sv E rfl rfl rfl (x_assign E rfl rfl) ?_
 clear a E;intro a E
 refine wpList_nil ?_
 refine q_then ?_
 refine wp_seq ?_
 refine wp_region_lit ?_
 refine sv E rfl rfl rfl (x_move E rfl rfl) ?_
 clear a E;intro a E
 refine sv E rfl rfl rfl (x_move E rfl rfl) ?_
 clear a E;intro a E
 obtain ⟨u10, hx11, hm⟩ := bnd hm
 refine st_call E (wn rfl) rfl rfl (x_call E rfl rfl (cf32 _)) (c_slices_IndexFunc_api_Node_api_Node_1 v1 l2 p3 v4 l5 p6 x7 H hr8 hr9 hx11) ?_
 clear E H; clear a; clear w; rintro _ w ⟨rfl, H⟩ a E
 refine sv E rfl rfl rfl (x_bin E rfl rfl rfl rfl) ?_
 clear a E;intro a E
 refine sv E rfl rfl rfl (x_assign E rfl rfl) ?_
 clear a E;intro a E
 refine wpList_nil ?_
 refine q_then ?_
 refine wp_ret ?_
 refine out1 E rfl rfl ?_
 obtain rfl := Option.some.inj hm
 exact ⟨rfl, H.reads (fun r hr => hr)⟩
end Go.Cb

set_option linter.unusedVariables false
set_option linter.unusedSimpArgs false
namespace Go.Cb
open Go.Proofs Go.RowKit
def m_nodes_remove (l2 : List S_api_Node) (x3 : Int) (x4 : S_api_Op) : Option ((List S_api_Node) × S_api_Result) :=
  (m_slices_ContainsFunc_api_Node_api_Node l2 l2 x3).bind fun u12 => if u12 = true then ((m_nodes_failed 64).bind fun u14 => some (l2, (⟨u14.Err, u14.Path, u14.Data, u14.Version, u14.Names⟩ : S_api_Result))) else ((ck (l2.length ≤ LIM)).bind fun u20 => (ck (0 ≤ x3 ∧ x3 < l2.length ∧ IntKind.i64.wrap (x3 + 1) = x3 + 1)).bind fun u22 => some (l2.eraseIdx x3.toNat, (⟨0, (ByteArray.mk #[]), (ByteArray.mk #[]), 0, []⟩ : S_api_Result)))
set_option maxRecDepth 20000 in
set_option maxHeartbeats 1000000 in
theorem c_nodes_remove {w : World} {Fo : List Ob} {rs : List Rp} (v1 : Value) (l2 : List S_api_Node) (x3 : Int) (x4 : S_api_Op) (H : Sep w (Fo) rs) (hr5 : rSl k_api_Node v1 l2 ∈ rs) {r : (List S_api_Node) × S_api_Result} (hm : m_nodes_remove l2 x3 x4 = some r) :
    Calls Tryz.prog 21 [v1, .int .i64 x3, .agg #[.int .i64 x4.Kind, .string x4.Path, .string x4.Data, .int .i64 x4.Version, .int .i64 x4.Owner, .bool x4.Turns]].toArray w (Ret fun v w' => ∃ (v5001 : Value) (v5004 : Value), .tuple #[v5001, .agg #[.int .i64 r.2.Err, .string r.2.Path, .string r.2.Data, .int .i64 r.2.Version, v5004]] = v ∧ Sep w' (Fo) (rSl k_api_Node v5001 r.1 :: rSl kS v5004 r.2.Names :: rs)) := by
 unfold m_nodes_remove at hm
 refine enter Tryz.func21 rfl Tryz.ntmps21 rfl fun a E => ?_
 simp only [enum, Nat.reduceAdd] at E
 refine wp_seq ?_
 refine wp_region_lit ?_
 obtain ⟨q7, x8, rfl⟩ := H.slform hr5
 refine st_box E H (wn rfl) rfl rfl (cs := [(.slice q7 l2.length x8)]) rfl rfl rfl ?_
 clear E H; clear a; clear w; intro p6 w a H E
 refine st_box E H (wn rfl) rfl rfl (cs := [.int .i64 x3]) rfl rfl rfl ?_
 clear E H; clear a; clear w; intro p9 w a H E
 refine st_box E H (wn rfl) rfl rfl (cs := [.int .i64 x4.Kind, .string x4.Path, .string x4.Data, .int .i64 x4.Version, .int .i64 x4.Owner, .bool x4.Turns]) rfl rfl rfl ?_
 clear E H; clear a; clear w; intro p10 w a H E
 refine sv E rfl rfl rfl (x_assign E rfl rfl) ?_
 clear a E;intro a E
 refine st_alloc E H (wn rfl) rfl rfl (cs := [.int .i64 0, .string (ByteArray.mk #[]), .string (ByteArray.mk #[]), .int .i64 0, .slice none 0 0]) rfl (z := .agg #[.int .i64 0, .string ⟨#[]⟩, .string ⟨#[]⟩, .int .i64 0, .slice none 0 0]) (by kernel_rfl) rfl ?_
 clear E H; clear a; clear w; intro p11 w a H E
 refine wpList_nil ?_
 refine q_then ?_
 refine wp_seq ?_
 refine wp_seq ?_
 refine wp_region_lit ?_
 refine sv E rfl rfl rfl (x_ldB (i := 3) E H rfl rfl rfl rfl Tryz.underlying22 rfl) ?_
 clear a E;intro a E
 refine sv E rfl rfl rfl (x_func E rfl rfl rfl) ?_
 clear a E;intro a E
 replace H := H.front 1 rfl
 replace H := H.front 1 rfl
 replace H := H.front 2 rfl
 replace H := H.front 3 rfl
 replace H : Sep w (Blk p6 22 [(.slice q7 l2.length x8)] :: Blk p9 3 [.int .i64 x3] :: Blk p11 31 [.int .i64 0, .string (ByteArray.mk #[]), .string (ByteArray.mk #[]), .int .i64 0, .slice none 0 0] :: Blk p10 24 [.int .i64 x4.Kind, .string x4.Path, .string x4.Data, .int .i64 x4.Version, .int .i64 x4.Owner, .bool x4.Turns] :: Fo) (rs) := H
 obtain ⟨u12, hx13, hm⟩ := bnd hm
 refine st_call E (wn rfl) rfl rfl (x_call E rfl rfl (cf49 _)) (c_slices_ContainsFunc_api_Node_api_Node (.slice q7 l2.length x8) l2 p6 (.slice q7 l2.length x8) l2 p9 x3 H hr5 hr5 hx13) ?_
 clear E H; clear a; clear w; rintro _ w ⟨rfl, H⟩ a E
 refine wpList_nil ?_
 refine q_then ?_
 refine wp_if E rfl ?_ ?_
 ·intro hb
  rw [if_t hb] at hm
  clear hb
  refine wp_seq ?_
  replace H : Sep w (Blk p6 22 [(.slice q7 l2.length x8)] :: Blk p9 3 [.int .i64 x3] :: Blk p11 31 [.int .i64 0, .string (ByteArray.mk #[]), .string (ByteArray.mk #[]), .int .i64 0, .slice none 0 0] :: Blk p10 24 [.int .i64 x4.Kind, .string x4.Path, .string x4.Data, .int .i64 x4.Version, .int .i64 x4.Owner, .bool x4.Turns] :: Fo) (rs) := H
  have hI : Still [Blk p6 22 [(.slice q7 l2.length x8)]] [] { w with drawn := w.drawn + 1 } := ⟨_, _, H.kept (Kp.drawn _ w _), (subO_cons (.head _) (subO_nil)), (sub_nil)⟩
  refine wp_draw _ [(0, 0), (1, 1), (2, 2), (3, 2)] mixedOk (by kernel_rfl) (fun _ _ _ h => False.elim h.2) hI ?_
  replace H := H.kept (Kp.drawn _ w (w.drawn + 1))
  generalize ({ w with drawn := w.drawn + 1 } : World) = w at H hI ⊢
  replace hI : ∃ W, Still [Blk p6 22 [(.slice q7 l2.length x8)]] [] W := ⟨_, hI⟩
  obtain ⟨W0, hI⟩ := hI
  refine fr_val E rfl (wn rfl) rfl rfl (fun w hW => x_ld E rfl rfl (ib_ld (.head _) rfl Tryz.underlying22 rfl w hW)) ?_
  clear a E;intro a E
  refine fr_op rfl ?_
  obtain ⟨u14, hx15, hm⟩ := bnd hm
  refine st_call E (wn rfl) rfl rfl (x_call E rfl rfl (cf18 _)) (c_nodes_failed 64 H hx15) ?_
  clear E H; clear a; clear w; rintro _ w ⟨v16, rfl, H⟩ a E
  refine wpList_nil ?_
  refine q_then ?_
  replace H : Sep w (Blk p6 22 [(.slice q7 l2.length x8)] :: Blk p9 3 [.int .i64 x3] :: Blk p11 31 [.int .i64 0, .string (ByteArray.mk #[]), .string (ByteArray.mk #[]), .int .i64 0, .slice none 0 0] :: Blk p10 24 [.int .i64 x4.Kind, .string x4.Path, .string x4.Data, .int .i64 x4.Version, .int .i64 x4.Owner, .bool x4.Turns] :: Fo) (rSl kS v16 u14.Names :: rs) := H
  refine ⟨⟨_, _, H, (subO_cons (.head _) (subO_nil)), (sub_nil)⟩, ?_⟩
  refine fr_tail rfl ?_
  refine sv E rfl rfl rfl (x_assign E rfl rfl) ?_
  clear a E;intro a E
  refine wpList_nil ?_
  refine q_then ?_
  refine fr_tail rfl ?_
  obtain ⟨q17, x18, rfl⟩ := H.slform (.head _)
  refine st_st (i := 2) E H (wn rfl) rfl (us := [.int .i64 u14.Err, .string u14.Path, .string u14.Data, .int .i64 u14.Version, (.slice q17 u14.Names.length x18)]) rfl rfl rfl rfl rfl sz31 rfl rfl ?_
  clear H; clear w; intro w H
  replace H : Sep w (Blk p6 22 [(.slice q7 l2.length x8)] :: Blk p9 3 [.int .i64 x3] :: Blk p11 31 [.int .i64 u14.Err, .string u14.Path, .string u14.Data, .int .i64 u14.Version, (.slice q17 u14.Names.length x18)] :: Blk p10 24 [.int .i64 x4.Kind, .string x4.Path, .string x4.Data, .int .i64 x4.Version, .int .i64 x4.Owner, .bool x4.Turns] :: Fo) _ := H
  refine wpList_nil ?_
  refine q_then ?_
  refine fr_nil ?_
  clear hI
  refine q_then ?_
  refine wp_ret ?_
  refine q_thenR ?_
  refine outR2 E rfl (rvT rfl) (rvBN (i := 2) (us := [.int .i64 u14.Err, .string u14.Path, .string u14.Data, .int .i64 u14.Version, (.slice q17 u14.Names.length x18)]) H rfl rfl rfl Tryz.underlying31 rfl sz31) ?_
  replace H := H.drop 0
  replace H := H.drop 0
  replace H := H.drop 0
  replace H := H.drop 0
  obtain rfl := Option.some.inj hm
  exact ⟨(.slice q7 l2.length x8), (.slice q17 u14.Names.length x18), rfl, H.reads (sub_cons (.tail _ hr5) (sub_cons (.head _) (fun r hr => .tail _ (hr))))⟩
 ·intro hb
  rw [if_f hb] at hm
  clear hb
  refine wp_skip ?_
  refine q_then ?_
  refine wp_seq ?_
  replace H : Sep w (Blk p6 22 [(.slice q7 l2.length x8)] :: Blk p9 3 [.int .i64 x3] :: Blk p11 31 [.int .i64 0, .string (ByteArray.mk #[]), .string (ByteArray.mk #[]), .int .i64 0, .slice none 0 0] :: Blk p10 24 [.int .i64 x4.Kind, .string x4.Path, .string x4.Data, .int .i64 x4.Version, .int .i64 x4.Owner, .bool x4.Turns] :: Fo) (rs) := H
  have hI : Still [Blk p6 22 [(.slice q7 l2.length x8)], Blk p9 3 [.int .i64 x3]] [] { w with drawn := w.drawn + 1 } := ⟨_, _, H.kept (Kp.drawn _ w _), (subO_cons (.head _) (subO_cons (.tail _ (.head _)) (subO_nil))), (sub_nil)⟩
  refine wp_draw _ [(0, 0), (2, 0), (3, 0), (4, 0), (6, 0), (1, 1), (5, 1), (7, 1), (8, 2)] mixedOk (by kernel_rfl) (fun _ _ _ h => False.elim h.2) hI ?_
  replace H := H.kept (Kp.drawn _ w (w.drawn + 1))
  generalize ({ w with drawn := w.drawn + 1 } : World) = w at H hI ⊢
  replace hI : ∃ W, Still [Blk p6 22 [(.slice q7 l2.length x8)], Blk p9 3 [.int .i64 x3]] [] W := ⟨_, hI⟩
  obtain ⟨W0, hI⟩ := hI
  refine fr_val E rfl (wn rfl) rfl rfl (fun w hW => x_ld E rfl rfl (ib_ld (.head _) rfl Tryz.underlying22 rfl w hW)) ?_
  clear a E;intro a E
  refine fr_val E rfl (wn rfl) rfl rfl (fun w hW => x_ld E rfl rfl (ib_ld (.tail _ (.head _)) rfl Tryz.underlying3 rfl w hW)) ?_
  clear a E;intro a E
  refine fr_val E rfl (wn rfl) rfl rfl (fun w hW => x_ld E rfl rfl (ib_ld (.tail _ (.head _)) rfl Tryz.underlying3 rfl w hW)) ?_
  clear a E;intro a E
  refine fr_val E rfl (wn rfl) rfl rfl (fun w hW => (x_bin E rfl rfl rfl rfl)) ?_
  clear a E;intro a E
  refine fr_val E rfl (wn rfl) rfl rfl (fun w hW => (x_build E (ps := []) (vs := []) rfl rfl (v := .agg #[.int .i64 0, .string (ByteArray.mk #[]), .string (ByteArray.mk #[]), .int .i64 0, .slice none 0 0]) (by kernel_rfl))) ?_
  clear a E;intro a E
  refine fr_op rfl ?_
  obtain ⟨u20, hx21, hm⟩ := bnd hm
  refine st_call E (wn rfl) rfl rfl (x_call E rfl rfl (cf45 _)) (lib_slices_Clone_api_Node_api_Node_rd H hr5 (ck_of hx21)) ?_
  clear E H; clear a; clear w; rintro v19 w H a E
  refine wpList_nil ?_
  refine q_then ?_
  replace H : Sep w (Row 35 k_api_Node v19 l2 :: Blk p6 22 [(.slice q7 l2.length x8)] :: Blk p9 3 [.int .i64 x3] :: Blk p11 31 [.int .i64 0, .string (ByteArray.mk #[]), .string (ByteArray.mk #[]), .int .i64 0, .slice none 0 0] :: Blk p10 24 [.int .i64 x4.Kind, .string x4.Path, .string x4.Data, .int .i64 x4.Version, .int .i64 x4.Owner, .bool x4.Turns] :: Fo) (rs) := H
  refine ⟨⟨_, _, H, (subO_cons (.tail _ (.head _)) (subO_cons (.tail _ (.tail _ (.head _))) (subO_nil))), (sub_nil)⟩, ?_⟩
  refine fr_op rfl ?_
  obtain ⟨u22, hx23, hm⟩ := bnd hm
  refine st_call E (wn rfl) rfl rfl (x_call E rfl rfl (cf52 _)) (delete_c (ix := 0) H rfl (ck_of hx23)) ?_
  clear E H; clear a; clear w; rintro v24 w H a E
  replace H : Sep w (Row 35 k_api_Node v24 (l2.eraseIdx x3.toNat) :: Blk p6 22 [(.slice q7 l2.length x8)] :: Blk p9 3 [.int .i64 x3] :: Blk p11 31 [.int .i64 0, .string (ByteArray.mk #[]), .string (ByteArray.mk #[]), .int .i64 0, .slice none 0 0] :: Blk p10 24 [.int .i64 x4.Kind, .string x4.Path, .string x4.Data, .int .i64 x4.Version, .int .i64 x4.Owner, .bool x4.Turns] :: Fo) (rs) := H
  refine wpList_nil ?_
  refine q_then ?_
  replace H : Sep w (Row 35 k_api_Node v24 (l2.eraseIdx x3.toNat) :: Blk p6 22 [(.slice q7 l2.length x8)] :: Blk p9 3 [.int .i64 x3] :: Blk p11 31 [.int .i64 0, .string (ByteArray.mk #[]), .string (ByteArray.mk #[]), .int .i64 0, .slice none 0 0] :: Blk p10 24 [.int .i64 x4.Kind, .string x4.Path, .string x4.Data, .int .i64 x4.Version, .int .i64 x4.Owner, .bool x4.Turns] :: Fo) (rs) := H
  refine ⟨⟨_, _, H, (subO_cons (.tail _ (.head _)) (subO_cons (.tail _ (.tail _ (.head _))) (subO_nil))), (sub_nil)⟩, ?_⟩
  refine fr_op rfl ?_
  refine sv E rfl rfl rfl (x_assign E rfl rfl) ?_
  clear a E;intro a E
  refine wpList_nil ?_
  refine q_then ?_
  replace H : Sep w (Row 35 k_api_Node v24 (l2.eraseIdx x3.toNat) :: Blk p6 22 [(.slice q7 l2.length x8)] :: Blk p9 3 [.int .i64 x3] :: Blk p11 31 [.int .i64 0, .string (ByteArray.mk #[]), .string (ByteArray.mk #[]), .int .i64 0, .slice none 0 0] :: Blk p10 24 [.int .i64 x4.Kind, .string x4.Path, .string x4.Data, .int .i64 x4.Version, .int .i64 x4.Owner, .bool x4.Turns] :: Fo) (rs) := H
  refine ⟨⟨_, _, H, (subO_cons (.tail _ (.head _)) (subO_cons (.tail _ (.tail _ (.head _))) (subO_nil))), (sub_nil)⟩, ?_⟩
  refine fr_tail rfl ?_
  refine st_st (i := 3) E H (wn rfl) rfl (us := [.int .i64 0, .string (ByteArray.mk #[]), .string (ByteArray.mk #[]), .int .i64 0, .slice none 0 0]) rfl rfl rfl rfl rfl sz31 rfl rfl ?_
  clear H; clear w; intro w H
  replace H : Sep w (Row 35 k_api_Node v24 (l2.eraseIdx x3.toNat) :: Blk p6 22 [(.slice q7 l2.length x8)] :: Blk p9 3 [.int .i64 x3] :: Blk p11 31 [.int .i64 0, .string (ByteArray.mk #[]), .string (ByteArray.mk #[]), .int .i64 0, .slice none 0 0] :: Blk p10 24 [.int .i64 x4.Kind, .string x4.Path, .string x4.Data, .int .i64 x4.Version, .int .i64 x4.Owner, .bool x4.Turns] :: Fo) _ := H
  refine wpList_nil ?_
  refine q_then ?_
  refine fr_nil ?_
  clear hI
  refine q_then ?_
  refine wp_ret ?_
  refine outR2 E rfl (rvT rfl) (rvBN (i := 3) (us := [.int .i64 0, .string (ByteArray.mk #[]), .string (ByteArray.mk #[]), .int .i64 0, .slice none 0 0]) H rfl rfl rfl Tryz.underlying31 rfl sz31) ?_
  replace H := H.thaw (i := 0) rfl
  replace H := H.nilSl kS
  replace H := H.drop 0
  replace H := H.drop 0
  replace H := H.drop 0
  replace H := H.drop 0
  obtain rfl := Option.some.inj hm
  exact ⟨v24, (.slice none 0 0), rfl, H.reads (sub_cons (.tail _ (.head _)) (sub_cons (.head _) (fun r hr => .tail _ (.tail _ (hr)))))⟩
end Go.Cb

set_option linter.unusedVariables false
set_option linter.unusedSimpArgs false
namespace Go.Cb
open Go.Proofs Go.RowKit
def m_nodes_set (l2 : List S_api_Node) (x3 : Int) (x4 : S_api_Op) : Option ((List S_api_Node) × S_api_Result) :=
  (idx l2 x3).bind fun x8 => if (x8.Version == 281474976710656) = true then ((m_nodes_failed 2).bind fun u11 => some (l2, (⟨u11.Err, u11.Path, u11.Data, u11.Version, u11.Names⟩ : S_api_Result))) else ((ck (l2.length ≤ LIM)).bind fun u17 => (idx l2 x3).bind fun x19 => (idx (l2.set x3.toNat ({ x19 with Data := x4.Data } : S_api_Node)) x3).bind fun x24 => (idx (l2.set x3.toNat ({ x19 with Data := x4.Data } : S_api_Node)) x3).bind fun x29 => (idx ((l2.set x3.toNat ({ x19 with Data := x4.Data } : S_api_Node)).set x3.toNat ({ x29 with Version := IntKind.i64.wrap (x24.Version + 1) } : S_api_Node)) x3).bind fun x35 => some ((l2.set x3.toNat ({ x19 with Data := x4.Data } : S_api_Node)).set x3.toNat ({ x29 with Version := IntKind.i64.wrap (x24.Version + 1) } : S_api_Node), (⟨0, (ByteArray.mk #[]), (ByteArray.mk #[]), x35.Version, []⟩ : S_api_Result)))
set_option maxRecDepth 20000 in
set_option maxHeartbeats 1000000 in
theorem c_nodes_set {w : World} {Fo : List Ob} {rs : List Rp} (v1 : Value) (l2 : List S_api_Node) (x3 : Int) (x4 : S_api_Op) (H : Sep w (Fo) rs) (hr5 : rSl k_api_Node v1 l2 ∈ rs) {r : (List S_api_Node) × S_api_Result} (hm : m_nodes_set l2 x3 x4 = some r) :
    Calls Tryz.prog 22 [v1, .int .i64 x3, .agg #[.int .i64 x4.Kind, .string x4.Path, .string x4.Data, .int .i64 x4.Version, .int .i64 x4.Owner, .bool x4.Turns]].toArray w (Ret fun v w' => ∃ (v5001 : Value) (v5004 : Value), .tuple #[v5001, .agg #[.int .i64 r.2.Err, .string r.2.Path, .string r.2.Data, .int .i64 r.2.Version, v5004]] = v ∧ Sep w' (Fo) (rSl k_api_Node v5001 r.1 :: rSl kS v5004 r.2.Names :: rs)) := by
 unfold m_nodes_set at hm
 refine enter Tryz.func22 rfl Tryz.ntmps22 rfl fun a E => ?_
 simp only [enum, Nat.reduceAdd] at E
 refine wp_seq ?_
 refine wp_region_lit ?_
 refine st_box E H (wn rfl) rfl rfl (cs := [.int .i64 x4.Kind, .string x4.Path, .string x4.Data, .int .i64 x4.Version, .int .i64 x4.Owner, .bool x4.Turns]) rfl rfl rfl ?_
 clear E H; clear a; clear w; intro p6 w a H E
 refine sv E rfl rfl rfl (x_assign E rfl rfl) ?_
 clear a E;intro a E
 refine st_alloc E H (wn rfl) rfl rfl (cs := [.int .i64 0, .string (ByteArray.mk #[]), .string (ByteArray.mk #[]), .int .i64 0, .slice none 0 0]) rfl (z := .agg #[.int .i64 0, .string ⟨#[]⟩, .string ⟨#[]⟩, .int .i64 0, .slice none 0 0]) (by kernel_rfl) rfl ?_
 clear E H; clear a; clear w; intro p7 w a H E
 refine wpList_nil ?_
 refine q_then ?_
 refine wp_seq ?_
 refine wp_seq ?_
 refine wp_region_lit ?_
 refine sv E rfl rfl rfl (x_move E rfl rfl) ?_
 clear a E;intro a E
 refine sv E rfl rfl rfl (x_move E rfl rfl) ?_
 clear a E;intro a E
 obtain ⟨x8, hx9, hm⟩ := bnd hm
 refine st_ixS E H (wn rfl) rfl rfl rfl rfl rfl hr5 Tryz.underlying22 sz35 hx9 ?_
 clear E H; clear a; intro q10 a H E
 replace H := H.derive1 (.head _) (rAt (kI .i64) (q10.add 2) x8.Version) (fun ok h => k_api_Node_at2 h)
 refine sv E rfl rfl rfl (x_fa E rfl rfl (fa35_2 _ _)) ?_
 clear a E;intro a E
 refine sv E rfl rfl rfl (x_ldA E H rfl rfl (.head _) Tryz.underlying2 rfl) ?_
 clear a E;intro a E
 refine sv E rfl rfl rfl (x_bin E rfl rfl rfl rfl) ?_
 clear a E;intro a E
 refine wpList_nil ?_
 refine q_then ?_
 refine wp_if E rfl ?_ ?_
 ·intro hb
  rw [if_t hb] at hm
  clear hb
  refine wp_seq ?_
  refine wp_region_lit ?_
  refine sv E rfl rfl rfl (x_move E rfl rfl) ?_
  clear a E;intro a E
  obtain ⟨u11, hx12, hm⟩ := bnd hm
  refine st_call E (wn rfl) rfl rfl (x_call E rfl rfl (cf18 _)) (c_nodes_failed 2 H hx12) ?_
  clear E H; clear a; clear w; rintro _ w ⟨v13, rfl, H⟩ a E
  refine sv E rfl rfl rfl (x_assign E rfl rfl) ?_
  clear a E;intro a E
  obtain ⟨q14, x15, rfl⟩ := H.slform (.head _)
  refine st_st (i := 0) E H (wn rfl) rfl (us := [.int .i64 u11.Err, .string u11.Path, .string u11.Data, .int .i64 u11.Version, (.slice q14 u11.Names.length x15)]) rfl rfl rfl rfl rfl sz31 rfl rfl ?_
  clear H; clear w; intro w H
  replace H : Sep w (Blk p7 31 [.int .i64 u11.Err, .string u11.Path, .string u11.Data, .int .i64 u11.Version, (.slice q14 u11.Names.length x15)] :: Blk p6 24 [.int .i64 x4.Kind, .string x4.Path, .string x4.Data, .int .i64 x4.Version, .int .i64 x4.Owner, .bool x4.Turns] :: Fo) _ := H
  refine wpList_nil ?_
  refine q_then ?_
  refine wp_ret ?_
  refine q_thenR ?_
  refine outR2 E rfl (rvT rfl) (rvBN (i := 0) (us := [.int .i64 u11.Err, .string u11.Path, .string u11.Data, .int .i64 u11.Version, (.slice q14 u11.Names.length x15)]) H rfl rfl rfl Tryz.underlying31 rfl sz31) ?_
  replace H := H.drop 0
  replace H := H.drop 0
  obtain rfl := Option.some.inj hm
  exact ⟨v1, (.slice q14 u11.Names.length x15), rfl, H.reads (sub_cons (.tail _ (.tail _ (.tail _ hr5))) (sub_cons (.head _) (fun r hr => .tail _ (.tail _ (.tail _ (hr))))))⟩
 ·intro hb
  rw [if_f hb] at hm
  clear hb
  refine wp_skip ?_
  refine q_then ?_
  refine wp_seq ?_
  refine wp_region_lit ?_
  refine sv E rfl rfl rfl (x_move E rfl rfl) ?_
  clear a E;intro a E
  obtain ⟨u17, hx18, hm⟩ := bnd hm
  refine st_call E (wn rfl) rfl rfl (x_call E rfl rfl (cf45 _)) (lib_slices_Clone_api_Node_api_Node_rd H (.tail _ (.tail _ hr5)) (ck_of hx18)) ?_
  clear E H; clear a; clear w; rintro v16 w H a E
  refine sv E rfl rfl rfl (x_assign E rfl rfl) ?_
  clear a E;intro a E
  refine wpList_nil ?_
  refine q_then ?_
  refine wp_seq ?_
  refine wp_region_lit ?_
  refine sv E rfl rfl rfl (x_move E rfl rfl) ?_
  clear a E;intro a E
  refine sv E rfl rfl rfl (x_move E rfl rfl) ?_
  clear a E;intro a E
  refine sv E rfl rfl rfl (x_fa E rfl rfl (v := .pointer (some ⟨p6, 2, none⟩)) (fa24_2 _ _)) ?_
  clear a E;intro a E
  refine sv E rfl rfl rfl (x_ldB (i := 2) E H rfl rfl rfl rfl Tryz.underlying9 rfl) ?_
  clear a E;intro a E
  obtain ⟨x19, hx20, hm⟩ := bnd hm
  obtain ⟨p21, x22, hx23⟩ := H.rowformNE (i := 0) rfl hx20
  refine sv E rfl rfl rfl (x_ixRowV (d := k_api_Node) E hx23 rfl rfl rfl rfl Tryz.underlying22 sz35 hx20) ?_
  clear a E;intro a E
  refine sv E rfl rfl rfl (x_fa E rfl rfl (v := .pointer (some ⟨p21, x3.toNat * 5 + 1, none⟩)) (fa35_1 _ _)) ?_
  clear a E;intro a E
  refine st_stRowV (d := k_api_Node) (i := 0) (k := 1) (z' := ({ x19 with Data := x4.Data } : S_api_Node)) E H k_api_Node_flat (wn rfl) rfl hx23 rfl rfl rfl rfl rfl rfl hx20 rfl rfl sz9 ?_
  clear H; clear w; intro w H
  replace H : Sep w (Row 35 k_api_Node v16 (l2.set x3.toNat ({ x19 with Data := x4.Data } : S_api_Node)) :: Blk p7 31 [.int .i64 0, .string (ByteArray.mk #[]), .string (ByteArray.mk #[]), .int .i64 0, .slice none 0 0] :: Blk p6 24 [.int .i64 x4.Kind, .string x4.Path, .string x4.Data, .int .i64 x4.Version, .int .i64 x4.Owner, .bool x4.Turns] :: Fo) _ := H
  refine wpList_nil ?_
  refine q_then ?_
  refine wp_seq ?_
  refine wp_region_lit ?_
  refine sv E rfl rfl rfl (x_move E rfl rfl) ?_
  clear a E;intro a E
  refine sv E rfl rfl rfl (x_move E rfl rfl) ?_
  clear a E;intro a E
  obtain ⟨x24, hx25, hm⟩ := bnd hm
  obtain ⟨p26, x27, hx28⟩ := H.rowformNE (i := 0) rfl hx25
  refine sv E rfl rfl rfl (x_ixRowV (d := k_api_Node) E hx28 rfl rfl rfl rfl Tryz.underlying22 sz35 hx25) ?_
  clear a E;intro a E
  refine sv E rfl rfl rfl (x_fa E rfl rfl (v := .pointer (some ⟨p26, x3.toNat * 5 + 2, none⟩)) (fa35_2 _ _)) ?_
  clear a E;intro a E
  refine sv E rfl rfl rfl (x_ldRowV (d := k_api_Node) (i := 0) (k := 2) E H k_api_Node_flat hx28 rfl rfl rfl hx25 rfl Tryz.underlying2 rfl) ?_
  clear a E;intro a E
  refine sv E rfl rfl rfl (x_bin E rfl rfl rfl rfl) ?_
  clear a E;intro a E
  obtain ⟨x29, hx30, hm⟩ := bnd hm
  obtain ⟨p31, x32, hx33⟩ := H.rowformNE (i := 0) rfl hx30
  refine sv E rfl rfl rfl (x_ixRowV (d := k_api_Node) E hx33 rfl rfl rfl rfl Tryz.underlying22 sz35 hx30) ?_
  clear a E;intro a E
  refine sv E rfl rfl rfl (x_fa E rfl rfl (v := .pointer (some ⟨p31, x3.toNat * 5 + 2, none⟩)) (fa35_2 _ _)) ?_
  clear a E;intro a E
  refine st_stRowV (d := k_api_Node) (i := 0) (k := 2) (z' := ({ x29 with Version := IntKind.i64.wrap (x24.Version + 1) } : S_api_Node)) E H k_api_Node_flat (wn rfl) rfl hx33 rfl rfl rfl rfl rfl rfl hx30 rfl rfl sz2 ?_
  clear H; clear w; intro w H
  replace H : Sep w (Row 35 k_api_Node v16 ((l2.set x3.toNat ({ x19 with Data := x4.Data } : S_api_Node)).set x3.toNat ({ x29 with Version := IntKind.i64.wrap (x24.Version + 1) } : S_api_Node)) :: Blk p7 31 [.int .i64 0, .string (ByteArray.mk #[]), .string (ByteArray.mk #[]), .int .i64 0, .slice none 0 0] :: Blk p6 24 [.int .i64 x4.Kind, .string x4.Path, .string x4.Data, .int .i64 x4.Version, .int .i64 x4.Owner, .bool x4.Turns] :: Fo) _ := H
  refine wpList_nil ?_
  refine q_then ?_
  refine wp_seq ?_
  replace H := H.thaw (i := 0) rfl
  obtain ⟨u34, H⟩ := H.raw (.head _)
  replace H : Sep w (Blk p7 31 [.int .i64 0, .string (ByteArray.mk #[]), .string (ByteArray.mk #[]), .int .i64 0, .slice none 0 0] :: Blk p6 24 [.int .i64 x4.Kind, .string x4.Path, .string x4.Data, .int .i64 x4.Version, .int .i64 x4.Owner, .bool x4.Turns] :: Fo) (rRow k_api_Node v16 ((l2.set x3.toNat ({ x19 with Data := x4.Data } : S_api_Node)).set x3.toNat ({ x29 with Version := IntKind.i64.wrap (x24.Version + 1) } : S_api_Node)) u34 :: rSl k_api_Node v16 ((l2.set x3.toNat ({ x19 with Data := x4.Data } : S_api_Node)).set x3.toNat ({ x29 with Version := IntKind.i64.wrap (x24.Version + 1) } : S_api_Node)) :: rAt (kI .i64) (q10.add 2) x8.Version :: rAt k_api_Node q10 x8 :: rs) := H
  have hI : Still [] [rRow k_api_Node v16 ((l2.set x3.toNat ({ x19 with Data := x4.Data } : S_api_Node)).set x3.toNat ({ x29 with Version := IntKind.i64.wrap (x24.Version + 1) } : S_api_Node)) u34] { w with drawn := w.drawn + 1 } := ⟨_, _, H.kept (Kp.drawn _ w _), (subO_nil), (sub_cons (.head _) (sub_nil))⟩
  refine wp_draw _ [(0, 0), (1, 0), (2, 0), (3, 0), (4, 0), (5, 0), (6, 0), (7, 1), (8, 2)] mixedOk (by kernel_rfl) (fun _ _ _ h => False.elim h.2) hI ?_
  replace H := H.kept (Kp.drawn _ w (w.drawn + 1))
  generalize ({ w with drawn := w.drawn + 1 } : World) = w at H hI ⊢
  replace hI : ∃ W, Still [] [rRow k_api_Node v16 ((l2.set x3.toNat ({ x19 with Data := x4.Data } : S_api_Node)).set x3.toNat ({ x29 with Version := IntKind.i64.wrap (x24.Version + 1) } : S_api_Node)) u34] W := ⟨_, hI⟩
  obtain ⟨W0, hI⟩ := hI
  refine fr_val E rfl (wn rfl) rfl rfl (fun w hW => (x_move E rfl rfl)) ?_
  clear a E;intro a E
  refine fr_val E rfl (wn rfl) rfl rfl (fun w hW => (x_move E rfl rfl)) ?_
  clear a E;intro a E
  refine fr_val E rfl (wn rfl) rfl rfl (fun w hW => (x_move E rfl rfl)) ?_
  clear a E;intro a E
  obtain ⟨x35, hx36, hm⟩ := bnd hm
  obtain ⟨q37, u40, hx38, hx39⟩ := dr_ixW (P := Tryz.prog) (k := .i64) hI (dr_mem (.head _)) Tryz.underlying22 sz35 hx36
  refine fr_val E rfl (wn rfl) rfl rfl (fun w hW => x_ixA E rfl rfl rfl (hx38 w)) ?_
  clear a E;intro a E
  have hx41 := dr_fld hx39 (fun _ _ _ h => k_api_Node_aw2 h)
  refine fr_val E rfl (wn rfl) rfl rfl (fun w hW => x_fa E rfl rfl (fa35_2 _ _)) ?_
  clear a E;intro a E
  refine fr_val E rfl (wn rfl) rfl rfl (fun w hW => x_ld E rfl rfl (ir_ld (DR.ir (dr_at hx41)) Tryz.underlying2 rfl w hW)) ?_
  clear a E;intro a E
  refine fr_val E rfl (wn rfl) rfl rfl (fun w hW => (x_build E (ps := [(3, .tmp 37)]) (vs := [(3, .int .i64 x35.Version)]) rfl (by simp only [List.map]; rw [E.eval (x := .tmp 37) (v := .int .i64 x35.Version) rfl]) (v := .agg #[.int .i64 0, .string (ByteArray.mk #[]), .string (ByteArray.mk #[]), .int .i64 x35.Version, .slice none 0 0]) (by kernel_rfl))) ?_
  clear a E;intro a E
  refine fr_op rfl ?_
  refine sv E rfl rfl rfl (x_assign E rfl rfl) ?_
  clear a E;intro a E
  refine wpList_nil ?_
  refine q_then ?_
  replace H : Sep w (Blk p7 31 [.int .i64 0, .string (ByteArray.mk #[]), .string (ByteArray.mk #[]), .int .i64 0, .slice none 0 0] :: Blk p6 24 [.int .i64 x4.Kind, .string x4.Path, .string x4.Data, .int .i64 x4.Version, .int .i64 x4.Owner, .bool x4.Turns] :: Fo) (rRow k_api_Node v16 ((l2.set x3.toNat ({ x19 with Data := x4.Data } : S_api_Node)).set x3.toNat ({ x29 with Version := IntKind.i64.wrap (x24.Version + 1) } : S_api_Node)) u34 :: rSl k_api_Node v16 ((l2.set x3.toNat ({ x19 with Data := x4.Data } : S_api_Node)).set x3.toNat ({ x29 with Version := IntKind.i64.wrap (x24.Version + 1) } : S_api_Node)) :: rAt (kI .i64) (q10.add 2) x8.Version :: rAt k_api_Node q10 x8 :: rs) := H
  refine ⟨⟨_, _, H, (subO_nil), (sub_cons (.head _) (sub_nil))⟩, ?_⟩
  refine fr_tail rfl ?_
  refine st_st (i := 0) E H (wn rfl) rfl (us := [.int .i64 0, .string (ByteArray.mk #[]), .string (ByteArray.mk #[]), .int .i64 x35.Version, .slice none 0 0]) rfl rfl rfl rfl rfl sz31 rfl rfl ?_
  clear H; clear w; intro w H
  replace H : Sep w (Blk p7 31 [.int .i64 0, .string (ByteArray.mk #[]), .string (ByteArray.mk #[]), .int .i64 x35.Version, .slice none 0 0] :: Blk p6 24 [.int .i64 x4.Kind, .string x4.Path, .string x4.Data, .int .i64 x4.Version, .int .i64 x4.Owner, .bool x4.Turns] :: Fo) _ := H
  refine wpList_nil ?_
  refine q_then ?_
  refine fr_nil ?_
  clear hI
  refine q_then ?_
  refine wp_ret ?_
  refine outR2 E rfl (rvT rfl) (rvBN (i := 0) (us := [.int .i64 0, .string (ByteArray.mk #[]), .string (ByteArray.mk #[]), .int .i64 x35.Version, .slice none 0 0]) H rfl rfl rfl Tryz.underlying31 rfl sz31) ?_
  replace H := H.nilSl kS
  replace H := H.drop 0
  replace H := H.drop 0
  obtain rfl := Option.some.inj hm
  exact ⟨v16, (.slice none 0 0), rfl, H.reads (sub_cons (.tail _ (.tail _ (.head _))) (sub_cons (.head _) (fun r hr => .tail _ (.tail _ (.tail _ (.tail _ (.tail _ (hr))))))))⟩
end Go.Cb

set_option linter.unusedVariables false
set_option linter.unusedSimpArgs false
namespace Go.Cb
open Go.Proofs Go.RowKit
def m_nodes_sweep_1_j2 (b19 : Bool) (l23 : (List ByteArray)) : Option (Bool × (List ByteArray)) :=
  some (b19, l23)
def m_nodes_sweep_1_j1 (x1 : S_api_Node) (l17 : List ByteArray) (b19 : Bool) : Option (Bool × (List ByteArray)) :=
  if b19 = true then ((m_path_Last x1.Path).bind fun u26 => (ck (l17.length + ([u26] : List ByteArray).length ≤ LIM)).bind fun u30 => m_nodes_sweep_1_j2 b19 (l17 ++ ([u26] : List ByteArray))) else (m_nodes_sweep_1_j2 b19 l17)
def m_nodes_sweep_1 (x1 : S_api_Node) (x3 : Int) (s4 : ByteArray) (s5 : ByteArray) (x6 : Int) (x7 : Int) (b8 : Bool) (s10 : ByteArray) (x12 : Int) (s13 : ByteArray) (s14 : ByteArray) (x15 : Int) (l17 : List ByteArray) : Option (Bool × (List ByteArray)) :=
  if (x1.Owner == x7) = true then ((m_nodes_in (⟨x1.Path, x1.Data, x1.Version, x1.Turn, x1.Owner⟩ : S_api_Node) s10).bind fun u35 => m_nodes_sweep_1_j1 x1 l17 u35) else (m_nodes_sweep_1_j1 x1 l17 false)
set_option maxRecDepth 20000 in
set_option maxHeartbeats 1000000 in
theorem c_nodes_sweep_1 {w : World} {Fo : List Ob} {rs : List Rp} (x1 : S_api_Node) (p2 : Nat) (x3 : Int) (s4 : ByteArray) (s5 : ByteArray) (x6 : Int) (x7 : Int) (b8 : Bool) (p9 : Nat) (s10 : ByteArray) (p11 : Nat) (x12 : Int) (s13 : ByteArray) (s14 : ByteArray) (x15 : Int) (v16 : Value) (l17 : List ByteArray) (H : Sep w (Blk p2 24 [.int .i64 x3, .string s4, .string s5, .int .i64 x6, .int .i64 x7, .bool b8] :: Blk p9 9 [.string s10] :: Blk p11 31 [.int .i64 x12, .string s13, .string s14, .int .i64 x15, v16] :: Row 9 kS v16 l17 :: Fo) rs) {r : Bool × (List ByteArray)} (hm : m_nodes_sweep_1 x1 x3 s4 s5 x6 x7 b8 s10 x12 s13 s14 x15 l17 = some r) :
    Calls Tryz.prog 54 [.agg #[.string x1.Path, .string x1.Data, .int .i64 x1.Version, .int .i64 x1.Turn, .int .i64 x1.Owner], .pointer (some ⟨p2, 0, none⟩), .pointer (some ⟨p9, 0, none⟩), .pointer (some ⟨p11, 0, none⟩)].toArray w (Ret fun v w' => ∃ (v5002 : Value), .bool r.1 = v ∧ Sep w' (Blk p2 24 [.int .i64 x3, .string s4, .string s5, .int .i64 x6, .int .i64 x7, .bool b8] :: Blk p9 9 [.string s10] :: Blk p11 31 [.int .i64 x12, .string s13, .string s14, .int .i64 x15, v5002] :: Row 9 kS v5002 r.2 :: Fo) (rs)) := by
 unfold m_nodes_sweep_1 at hm
 refine enter Tryz.func54 rfl Tryz.ntmps54 rfl fun a E => ?_
 simp only [enum, Nat.reduceAdd] at E
 refine wp_seq ?_
 refine wp_region_lit ?_
 refine st_box E H (wn rfl) rfl rfl (cs := [.string x1.Path, .string x1.Data, .int .i64 x1.Version, .int .i64 x1.Turn, .int .i64 x1.Owner]) rfl rfl rfl ?_
 clear E H; clear a; clear w; intro p18 w a H E
 refine sv E rfl rfl rfl (x_assign E rfl rfl) ?_
 clear a E;intro a E
 refine wpList_nil ?_
 refine q_then ?_
 refine wp_seq_cut (fun a w => ∃ (b19 : Bool) (rs20 : List Rp), Env 27 a [(3, .pointer (some ⟨p11, 0, none⟩)), (4, .pointer (some ⟨p18, 0, none⟩)), (6, .bool b19)] ∧ Sep w (Blk p11 31 [.int .i64 x12, .string s13, .string s14, .int .i64 x15, v16] :: Blk p18 35 [.string x1.Path, .string x1.Data, .int .i64 x1.Version, .int .i64 x1.Turn, .int .i64 x1.Owner] :: Blk p2 24 [.int .i64 x3, .string s4, .string s5, .int .i64 x6, .int .i64 x7, .bool b8] :: Blk p9 9 [.string s10] :: Row 9 kS v16 l17 :: Fo) rs20 ∧ (∀ r, r ∈ rs → r ∈ rs20) ∧ m_nodes_sweep_1_j1 x1 l17 b19 = some r) ?_ ?_
 ·refine wp_region_lit ?_
  refine sv E rfl rfl rfl (x_fa E rfl rfl (v := .pointer (some ⟨p18, 4, none⟩)) (fa35_4 _ _)) ?_
  clear a E;intro a E
  refine sv E rfl rfl rfl (x_ldB (i := 0) E H rfl rfl rfl rfl Tryz.underlying2 rfl) ?_
  clear a E;intro a E
  refine sv E rfl rfl rfl (x_fa E rfl rfl (v := .pointer (some ⟨p2, 4, none⟩)) (fa24_4 _ _)) ?_
  clear a E;intro a E
  refine sv E rfl rfl rfl (x_ldB (i := 1) E H rfl rfl rfl rfl Tryz.underlying2 rfl) ?_
  clear a E;intro a E
  refine sv E rfl rfl rfl (x_bin E rfl rfl rfl rfl) ?_
  clear a E;intro a E
  refine sv E rfl rfl rfl (x_move E rfl rfl) ?_
  clear a E;intro a E
  rcases Bool.eq_false_or_eq_true (x1.Owner == x7) with hb34 | hb34
  ·rw [if_t hb34] at hm
   refine st_val E (ws' E rfl rfl rfl rfl hb34) rfl rfl (x_ldBN (i := 0) (us := [.string x1.Path, .string x1.Data, .int .i64 x1.Version, .int .i64 x1.Turn, .int .i64 x1.Owner]) E H rfl rfl rfl rfl Tryz.underlying35 rfl sz35) ?_
   clear a E;intro a E
   refine st_val E (ws' E rfl rfl rfl rfl hb34) rfl rfl (x_ldB (i := 2) E H rfl rfl rfl rfl Tryz.underlying9 rfl) ?_
   clear a E;intro a E
   obtain ⟨u35, hx36, hm⟩ := bnd hm
   refine st_call E (ws' E rfl rfl rfl rfl hb34) rfl rfl (x_call E rfl rfl (cf51 _)) (c_nodes_in (⟨x1.Path, x1.Data, x1.Version, x1.Turn, x1.Owner⟩ : S_api_Node) s10 H hx36) ?_
   clear E H; clear a; clear w; rintro _ w ⟨rfl, H⟩ a E
   refine sv E rfl rfl rfl (x_pickT E rfl rfl hb34 rfl) ?_
   clear a E;intro a E
   refine sv E rfl rfl rfl (x_assign E rfl rfl) ?_
   clear a E;intro a E
   refine wpList_nil ?_
   refine q_then ?_
   replace H := H.front 4 rfl
   replace H := H.front 3 rfl
   replace H := H.front 3 rfl
   replace H := H.front 3 rfl
   replace H := H.front 4 rfl
   exact ⟨u35, _, (((E.nil.keep E 6 rfl).keep E 4 rfl).keep E 3 rfl), H, fun r hr => hr, hm⟩
  ·rw [if_f hb34] at hm
   refine st_no E (wf' E rfl rfl rfl rfl hb34 rfl) rfl rfl ?_
   clear a E;intro a E
   refine st_no E (wf' E rfl rfl rfl rfl hb34 rfl) rfl rfl ?_
   clear a E;intro a E
   refine st_no E (wf' E rfl rfl rfl rfl hb34 rfl) rfl rfl ?_
   clear a E;intro a E
   refine sv E rfl rfl rfl (x_pickF E rfl rfl hb34 rfl) ?_
   clear a E;intro a E
   refine sv E rfl rfl rfl (x_assign E rfl rfl) ?_
   clear a E;intro a E
   refine wpList_nil ?_
   refine q_then ?_
   replace H := H.front 4 rfl
   replace H := H.front 3 rfl
   replace H := H.front 3 rfl
   replace H := H.front 3 rfl
   replace H := H.front 4 rfl
   exact ⟨false, _, (((E.nil.keep E 6 rfl).keep E 4 rfl).keep E 3 rfl), H, fun r hr => hr, hm⟩
 ·clear E H hm
  rintro a w ⟨b19, rs20, E, H, hs21, hm⟩
  unfold m_nodes_sweep_1_j1 at hm
  refine wp_seq_cut (fun a w => ∃ (v22 : Value) (l23 : (List ByteArray)) (rs24 : List Rp), Env 27 a [(6, .bool b19)] ∧ Sep w (Blk p2 24 [.int .i64 x3, .string s4, .string s5, .int .i64 x6, .int .i64 x7, .bool b8] :: Blk p9 9 [.string s10] :: Blk p11 31 [.int .i64 x12, .string s13, .string s14, .int .i64 x15, v22] :: Row 9 kS v22 l23 :: Fo) rs24 ∧ (∀ r, r ∈ rs → r ∈ rs24) ∧ m_nodes_sweep_1_j2 b19 l23 = some r) ?_ ?_
  ·refine wp_seq ?_
   refine wp_region_lit ?_
   refine sv E rfl rfl rfl (x_move E rfl rfl) ?_
   clear a E;intro a E
   refine wpList_nil ?_
   refine q_then ?_
   refine wp_if E rfl ?_ ?_
   ·intro hb
    rw [if_t hb] at hm
    clear hb
    replace H : Sep w (Blk p11 31 [.int .i64 x12, .string s13, .string s14, .int .i64 x15, v16] :: Blk p18 35 [.string x1.Path, .string x1.Data, .int .i64 x1.Version, .int .i64 x1.Turn, .int .i64 x1.Owner] :: Blk p2 24 [.int .i64 x3, .string s4, .string s5, .int .i64 x6, .int .i64 x7, .bool b8] :: Blk p9 9 [.string s10] :: Row 9 kS v16 l17 :: Fo) (rs20) := H
    have hI : Still [Blk p11 31 [.int .i64 x12, .string s13, .string s14, .int .i64 x15, v16], Blk p18 35 [.string x1.Path, .string x1.Data, .int .i64 x1.Version, .int .i64 x1.Turn, .int .i64 x1.Owner]] [] { w with drawn := w.drawn + 1 } := ⟨_, _, H.kept (Kp.drawn _ w _), (subO_cons (.head _) (subO_cons (.tail _ (.head _)) (subO_nil))), (sub_nil)⟩
    refine wp_draw _ [(0, 0), (1, 0), (2, 0), (3, 0), (4, 1), (5, 1), (6, 1), (7, 2), (8, 2)] mixedOk (by kernel_rfl) (fun _ _ _ h => False.elim h.2) hI ?_
    replace H := H.kept (Kp.drawn _ w (w.drawn + 1))
    generalize ({ w with drawn := w.drawn + 1 } : World) = w at H hI ⊢
    replace hI : ∃ W, Still [Blk p11 31 [.int .i64 x12, .string s13, .string s14, .int .i64 x15, v16], Blk p18 35 [.string x1.Path, .string x1.Data, .int .i64 x1.Version, .int .i64 x1.Turn, .int .i64 x1.Owner]] [] W := ⟨_, hI⟩
    obtain ⟨W0, hI⟩ := hI
    refine fr_val E rfl (wn rfl) rfl rfl (fun w hW => x_fa E rfl rfl (v := .pointer (some ⟨p11, 4, none⟩)) (fa31_4 _ _)) ?_
    clear a E;intro a E
    refine fr_val E rfl (wn rfl) rfl rfl (fun w hW => x_ld E rfl rfl (ib_ld (.head _) rfl Tryz.underlying29 rfl w hW)) ?_
    clear a E;intro a E
    refine fr_val E rfl (wn rfl) rfl rfl (fun w hW => x_fa E rfl rfl (v := .pointer (some ⟨p18, 0, none⟩)) (fa35_0 _ _)) ?_
    clear a E;intro a E
    refine fr_val E rfl (wn rfl) rfl rfl (fun w hW => x_ld E rfl rfl (ib_ld (.tail _ (.head _)) rfl Tryz.underlying9 rfl w hW)) ?_
    clear a E;intro a E
    refine fr_op rfl ?_
    obtain ⟨u26, hx27, hm⟩ := bnd hm
    refine st_call E (wn rfl) rfl rfl (x_call E rfl rfl (cf43 _)) (c_path_Last x1.Path H hx27) ?_
    clear E H; clear a; clear w; rintro _ w ⟨rfl, H⟩ a E
    refine wpList_nil ?_
    refine q_then ?_
    replace H : Sep w (Blk p11 31 [.int .i64 x12, .string s13, .string s14, .int .i64 x15, v16] :: Blk p18 35 [.string x1.Path, .string x1.Data, .int .i64 x1.Version, .int .i64 x1.Turn, .int .i64 x1.Owner] :: Blk p2 24 [.int .i64 x3, .string s4, .string s5, .int .i64 x6, .int .i64 x7, .bool b8] :: Blk p9 9 [.string s10] :: Row 9 kS v16 l17 :: Fo) (rs20) := H
    refine ⟨⟨_, _, H, (subO_cons (.head _) (subO_cons (.tail _ (.head _)) (subO_nil))), (sub_nil)⟩, ?_⟩
    refine fr_op rfl ?_
    refine st_bsR (e := 9) (d := kS) (cs := [.string u26]) (xs := [u26]) E H (wn rfl) rfl rfl (ps := [(0, .tmp 22)]) (parts := [(0, .string u26)]) rfl (by simp only [List.map]; rw [E.eval (x := .tmp 22) (v := .string u26) rfl]) (by kernel_rfl) rfl (fun ok hr => (Rows.single (d := kS) (cs := [.string u26]) (x := u26) rfl)) ?_
    clear E H; clear a; clear w; intro v28 w a H E
    refine wpList_nil ?_
    refine q_then ?_
    replace H : Sep w (Blk p11 31 [.int .i64 x12, .string s13, .string s14, .int .i64 x15, v16] :: Blk p18 35 [.string x1.Path, .string x1.Data, .int .i64 x1.Version, .int .i64 x1.Turn, .int .i64 x1.Owner] :: Blk p2 24 [.int .i64 x3, .string s4, .string s5, .int .i64 x6, .int .i64 x7, .bool b8] :: Blk p9 9 [.string s10] :: Row 9 kS v16 l17 :: Fo) (rSl kS v28 ([u26] : List ByteArray) :: rs20) := H
    refine ⟨⟨_, _, H, (subO_cons (.head _) (subO_cons (.tail _ (.head _)) (subO_nil))), (sub_nil)⟩, ?_⟩
    refine fr_op rfl ?_
    obtain ⟨u30, hx31, hm⟩ := bnd hm
    refine st_append (i := 4) E H (wn rfl) rfl rfl rfl rfl rfl rfl (src_rd (.head _)) Tryz.underlying29 inf9 rfl (ck_of hx31) rfl ?_
    clear E H; clear a; clear w; intro v29 w a H E
    refine wpList_nil ?_
    refine q_then ?_
    replace H : Sep w (Blk p11 31 [.int .i64 x12, .string s13, .string s14, .int .i64 x15, v16] :: Blk p18 35 [.string x1.Path, .string x1.Data, .int .i64 x1.Version, .int .i64 x1.Turn, .int .i64 x1.Owner] :: Blk p2 24 [.int .i64 x3, .string s4, .string s5, .int .i64 x6, .int .i64 x7, .bool b8] :: Blk p9 9 [.string s10] :: Row 9 kS v29 (l17 ++ ([u26] : List ByteArray)) :: Fo) (rSl kS v28 ([u26] : List ByteArray) :: rs20) := H
    refine ⟨⟨_, _, H, (subO_cons (.head _) (subO_cons (.tail _ (.head _)) (subO_nil))), (sub_nil)⟩, ?_⟩
    refine fr_tail rfl ?_
    refine sv E rfl rfl rfl (x_fa E rfl rfl (v := .pointer (some ⟨p11, 4, none⟩)) (fa31_4 _ _)) ?_
    clear a E;intro a E
    refine wpList_nil ?_
    refine q_then ?_
    refine fr_tail rfl ?_
    obtain ⟨q32, x33, rfl⟩ := H.rowform (i := 4) rfl
    refine st_st (i := 0) E H (wn rfl) rfl (us := [(.slice q32 (l17 ++ ([u26] : List ByteArray)).length x33)]) rfl rfl rfl rfl rfl sz29 rfl rfl ?_
    clear H; clear w; intro w H
    replace H : Sep w (Blk p11 31 [.int .i64 x12, .string s13, .string s14, .int .i64 x15, (.slice q32 (l17 ++ ([u26] : List ByteArray)).length x33)] :: Blk p18 35 [.string x1.Path, .string x1.Data, .int .i64 x1.Version, .int .i64 x1.Turn, .int .i64 x1.Owner] :: Blk p2 24 [.int .i64 x3, .string s4, .string s5, .int .i64 x6, .int .i64 x7, .bool b8] :: Blk p9 9 [.string s10] :: Row 9 kS (.slice q32 (l17 ++ ([u26] : List ByteArray)).length x33) (l17 ++ ([u26] : List ByteArray)) :: Fo) _ := H
    refine wpList_nil ?_
    refine q_then ?_
    refine fr_nil ?_
    clear hI
    refine q_then ?_
    replace H := H.drop 1
    replace H := H.front 3 rfl
    replace H := H.front 1 rfl
    replace H := H.front 3 rfl
    replace H := H.front 3 rfl
    exact ⟨(.slice q32 (l17 ++ ([u26] : List ByteArray)).length x33), l17 ++ ([u26] : List ByteArray), _, (E.nil.keep E 6 rfl), H, fun r hr => .tail _ (hs21 r hr), hm⟩
   ·intro hb
    rw [if_f hb] at hm
    clear hb
    refine wp_skip ?_
    refine q_then ?_
    replace H := H.drop 1
    replace H := H.front 3 rfl
    replace H := H.front 1 rfl
    replace H := H.front 3 rfl
    replace H := H.front 3 rfl
    exact ⟨v16, l17, _, (E.nil.keep E 6 rfl), H, hs21, hm⟩
  ·clear E H hm
   rintro a w ⟨v22, l23, rs24, E, H, hs25, hm⟩
   unfold m_nodes_sweep_1_j2 at hm
   refine wp_seq ?_
   refine wp_region_lit ?_
   refine sv E rfl rfl rfl (x_move E rfl rfl) ?_
   clear a E;intro a E
   refine sv E rfl rfl rfl (x_assign E rfl rfl) ?_
   clear a E;intro a E
   refine wpList_nil ?_
   refine q_then ?_
   refine wp_ret ?_
   refine out1 E rfl rfl ?_
   obtain rfl := Option.some.inj hm
   exact ⟨v22, rfl, H.reads (fun r hr => hs25 r hr)⟩
end Go.Cb

set_option linter.unusedVariables false
set_option linter.unusedSimpArgs false
namespace Go.Cb
open Go.Proofs Go.RowKit
def m_slices_IndexFunc_api_Node_api_Node_l1 (l2 : List S_api_Node) (x4 : Int) (s5 : ByteArray) (s6 : ByteArray) (x7 : Int) (x8 : Int) (b9 : Bool) (s11 : ByteArray) (x13 : Int) (s14 : ByteArray) (s15 : ByteArray) (x16 : Int) : Nat → Int → (List ByteArray) → Option (Int × (List ByteArray))
  | 0, _, _ => none
  | k1 + 1, x19, l21 =>
    if (decide (x19 < (l2.length : Int))) = true then ((idx l2 x19).bind fun x24 => (m_nodes_sweep_1 x24 x4 s5 s6 x7 x8 b9 s11 x13 s14 s15 x16 l21).bind fun u29 => if u29.1 = true then (some (x19, u29.2)) else (m_slices_IndexFunc_api_Node_api_Node_l1 l2 x4 s5 s6 x7 x8 b9 s11 x13 s14 s15 x16 k1 (IntKind.i64.wrap (x19 + 1)) u29.2)) else (some ((-1), l21))
def m_slices_IndexFunc_api_Node_api_Node (l2 : List S_api_Node) (x4 : Int) (s5 : ByteArray) (s6 : ByteArray) (x7 : Int) (x8 : Int) (b9 : Bool) (s11 : ByteArray) (x13 : Int) (s14 : ByteArray) (s15 : ByteArray) (x16 : Int) (l18 : List ByteArray) : Option (Int × (List ByteArray)) :=
  m_slices_IndexFunc_api_Node_api_Node_l1 l2 x4 s5 s6 x7 x8 b9 s11 x13 s14 s15 x16 (((l2.length : Int) - 0 : Int).toNat + 1) 0 l18
set_option maxRecDepth 20000 in
set_option maxHeartbeats 1000000 in
theorem c_slices_IndexFunc_api_Node_api_Node {w : World} {Fo : List Ob} {rs : List Rp} (v1 : Value) (l2 : List S_api_Node) (p3 : Nat) (x4 : Int) (s5 : ByteArray) (s6 : ByteArray) (x7 : Int) (x8 : Int) (b9 : Bool) (p10 : Nat) (s11 : ByteArray) (p12 : Nat) (x13 : Int) (s14 : ByteArray) (s15 : ByteArray) (x16 : Int) (v17 : Value) (l18 : List ByteArray) (H : Sep w (Row 35 k_api_Node v1 l2 :: Blk p3 24 [.int .i64 x4, .string s5, .string s6, .int .i64 x7, .int .i64 x8, .bool b9] :: Blk p10 9 [.string s11] :: Blk p12 31 [.int .i64 x13, .string s14, .string s15, .int .i64 x16, v17] :: Row 9 kS v17 l18 :: Fo) rs) {r : Int × (List ByteArray)} (hm : m_slices_IndexFunc_api_Node_api_Node l2 x4 s5 s6 x7 x8 b9 s11 x13 s14 s15 x16 l18 = some r) :
    Calls Tryz.prog 32 [v1, .func (.func 54) #[] #[.pointer (some ⟨p3, 0, none⟩), .pointer (some ⟨p10, 0, none⟩), .pointer (some ⟨p12, 0, none⟩)]].toArray w (Ret fun v w' => ∃ (v5002 : Value), .int .i64 r.1 = v ∧ Sep w' (Blk p3 24 [.int .i64 x4, .string s5, .string s6, .int .i64 x7, .int .i64 x8, .bool b9] :: Blk p10 9 [.string s11] :: Blk p12 31 [.int .i64 x13, .string s14, .string s15, .int .i64 x16, v5002] :: Row 35 k_api_Node v1 l2 :: Row 9 kS v5002 r.2 :: Fo) (rs)) := by
 unfold m_slices_IndexFunc_api_Node_api_Node at hm
 refine enter Tryz.func32 rfl Tryz.ntmps32 rfl fun a E => ?_
 simp only [enum, Nat.reduceAdd] at E
 refine wp_seq ?_
 refine wp_region_lit ?_
 refine sv E rfl rfl rfl (x_assign E rfl rfl) ?_
 clear a E;intro a E
 refine wpList_nil ?_
 refine q_then ?_
 refine wp_seq ?_
 refine wp_seq ?_
 refine wp_region_lit ?_
 refine sv E rfl rfl rfl (x_move E rfl rfl) ?_
 clear a E;intro a E
 refine sv E rfl rfl rfl (x_lenR (i := 0) E H rfl rfl rfl Tryz.underlying22) ?_
 clear a E;intro a E
 refine sv E rfl rfl rfl (x_move E rfl rfl) ?_
 clear a E;intro a E
 refine wpList_nil ?_
 refine q_then ?_
 refine wp_block ?_
 refine wp_loop_g (fun k1 a w => ∃ (v20 : Value) (x19 : Int) (l21 : (List ByteArray)) (rs22 : List Rp), Env 19 a [(0, v1), (1, .func (.func 54) #[] #[.pointer (some ⟨p3, 0, none⟩), .pointer (some ⟨p10, 0, none⟩), .pointer (some ⟨p12, 0, none⟩)]), (7, .int .i64 (l2.length : Int)), (8, .int .i64 x19)] ∧ Sep w (Row 35 k_api_Node v1 l2 :: Blk p3 24 [.int .i64 x4, .string s5, .string s6, .int .i64 x7, .int .i64 x8, .bool b9] :: Blk p10 9 [.string s11] :: Blk p12 31 [.int .i64 x13, .string s14, .string s15, .int .i64 x16, v20] :: Row 9 kS v20 l21 :: Fo) rs22 ∧ (∀ r, r ∈ rs → r ∈ rs22) ∧ m_slices_IndexFunc_api_Node_api_Node_l1 l2 x4 s5 s6 x7 x8 b9 s11 x13 s14 s15 x16 k1 x19 l21 = some r) (((l2.length : Int) - 0 : Int).toNat + 1) ?_ ?_
 ·exact ⟨v17, 0, l18, _, ((((E.nil.keep E 8 rfl).keep E 7 rfl).keep E 1 rfl).keep E 0 rfl), H, fun r hr => hr, hm⟩
 ·clear E H hm
  rintro k1 a w ⟨v20, x19, l21, rs22, E, H, hs23, hm⟩
  cases k1 with
  | zero => exact (none_some hm rfl).elim
  | succ k1 =>
   unfold m_slices_IndexFunc_api_Node_api_Node_l1 at hm
   refine wp_seq ?_
   refine wp_region_lit ?_
   refine sv E rfl rfl rfl (x_bin E rfl rfl rfl rfl) ?_
   clear a E;intro a E
   refine wpList_nil ?_
   refine q_then ?_
   refine wp_seq ?_
   refine wp_if E rfl ?_ ?_
   ·intro hb
    rw [if_t hb] at hm
    clear hb
    refine wp_skip ?_
    refine q_then ?_
    refine wp_seq ?_
    refine wp_block ?_
    refine wp_seq ?_
    refine wp_region_lit ?_
    refine sv E rfl rfl rfl (x_move E rfl rfl) ?_
    clear a E;intro a E
    refine sv E rfl rfl rfl (x_assign E rfl rfl) ?_
    clear a E;intro a E
    refine wpList_nil ?_
    refine q_then ?_
    refine wp_seq ?_
    refine wp_region_lit ?_
    refine sv E rfl rfl rfl (x_move E rfl rfl) ?_
    clear a E;intro a E
    refine sv E rfl rfl rfl (x_move E rfl rfl) ?_
    clear a E;intro a E
    refine sv E rfl rfl rfl (x_move E rfl rfl) ?_
    clear a E;intro a E
    obtain ⟨x24, hx25, hm⟩ := bnd hm
    obtain ⟨p26, x27, hx28⟩ := H.rowformNE (i := 0) rfl hx25
    refine sv E rfl rfl rfl (x_ixRowV (d := k_api_Node) E hx28 rfl rfl rfl rfl Tryz.underlying22 sz35 hx25) ?_
    clear a E;intro a E
    refine sv E rfl rfl rfl (x_ldRowNV (i := 0) E H k_api_Node_flat hx28 rfl rfl rfl hx25 (us := [.string x24.Path, .string x24.Data, .int .i64 x24.Version, .int .i64 x24.Turn, .int .i64 x24.Owner]) rfl Tryz.underlying35 rfl sz35) ?_
    clear a E;intro a E
    replace H := H.front 0 rfl
    replace H := H.front 4 rfl
    replace H := H.front 4 rfl
    replace H := H.front 4 rfl
    replace H := H.front 4 rfl
    replace H : Sep w (Blk p3 24 [.int .i64 x4, .string s5, .string s6, .int .i64 x7, .int .i64 x8, .bool b9] :: Blk p10 9 [.string s11] :: Blk p12 31 [.int .i64 x13, .string s14, .string s15, .int .i64 x16, v20] :: Row 9 kS v20 l21 :: Row 35 k_api_Node v1 l2 :: Fo) (rs22) := H
    obtain ⟨u29, hx30, hm⟩ := bnd hm
    refine st_call E (wn rfl) rfl rfl (x_callv E rfl rfl rfl (cf54 _)) (c_nodes_sweep_1 x24 p3 x4 s5 s6 x7 x8 b9 p10 s11 p12 x13 s14 s15 x16 v20 l21 H hx30) ?_
    clear E H; clear a; clear w; rintro _ w ⟨v31, rfl, H⟩ a E
    refine wpList_nil ?_
    refine q_then ?_
    refine wp_if E rfl ?_ ?_
    ·intro hb
     rw [if_t hb] at hm
     clear hb
     refine wp_seq ?_
     refine wp_region_lit ?_
     refine sv E rfl rfl rfl (x_move E rfl rfl) ?_
     clear a E;intro a E
     refine sv E rfl rfl rfl (x_assign E rfl rfl) ?_
     clear a E;intro a E
     refine wpList_nil ?_
     refine q_then ?_
     refine wp_ret ?_
     refine q_blkR ?_
     refine q_thenR ?_
     refine q_thenR ?_
     refine q_blkR ?_
     refine q_thenR ?_
     refine out1 E rfl rfl ?_
     replace H := H.front 3 rfl
     replace H := H.front 4 rfl
     replace H := H.front 4 rfl
     replace H := H.front 4 rfl
     replace H := H.front 4 rfl
     obtain rfl := Option.some.inj hm
     exact ⟨v31, rfl, H.reads (fun r hr => hs23 r hr)⟩
    ·intro hb
     rw [if_f hb] at hm
     clear hb
     refine wp_skip ?_
     refine q_blk ?_
     refine q_then ?_
     refine wp_region_lit ?_
     refine sv E rfl rfl rfl (x_bin E rfl rfl rfl rfl) ?_
     clear a E;intro a E
     refine sv E rfl rfl rfl (x_move E rfl rfl) ?_
     clear a E;intro a E
     refine wpList_nil ?_
     refine q_then ?_
     replace H := H.front 3 rfl
     replace H := H.front 3 rfl
     replace H := H.front 3 rfl
     replace H := H.front 3 rfl
     replace H := H.front 4 rfl
     exact ⟨k1, Nat.lt_succ_self k1, v31, IntKind.i64.wrap (x19 + 1), u29.2, _, ((((E.nil.keep E 8 rfl).keep E 7 rfl).keep E 1 rfl).keep E 0 rfl), H, hs23, hm⟩
   ·intro hb
    rw [if_f hb] at hm
    clear hb
    refine wp_exit ?_
    refine q_thenX ?_
    refine q_thenX ?_
    refine q_hit ?_
    refine q_then ?_
    refine wp_seq ?_
    refine wp_region_lit ?_
    refine sv E rfl rfl rfl (x_assign E rfl rfl) ?_
    clear a E;intro a E
    refine wpList_nil ?_
    refine q_then ?_
    refine wp_ret ?_
    refine out1 E rfl rfl ?_
    replace H := H.front 4 rfl
    replace H := H.front 1 rfl
    replace H := H.front 4 rfl
    replace H := H.front 4 rfl
    replace H := H.front 4 rfl
    obtain rfl := Option.some.inj hm
    exact ⟨v20, rfl, H.reads (fun r hr => hs23 r hr)⟩
end Go.Cb

set_option linter.unusedVariables false
set_option linter.unusedSimpArgs false
namespace Go.Cb
open Go.Proofs Go.RowKit
def m_slices_DeleteFunc_api_Node_api_Node_j1 (rec_1 : (List S_api_Node) → Int → Int → (List ByteArray) → Option ((List S_api_Node) × (List ByteArray))) (x25 : Int) (l31 : (List S_api_Node)) (x32 : Int) (l34 : (List ByteArray)) : Option ((List S_api_Node) × (List ByteArray)) :=
  rec_1 l31 x32 (IntKind.i64.wrap (x25 + 1)) l34
def m_slices_DeleteFunc_api_Node_api_Node_l1 (x4 : Int) (s5 : ByteArray) (s6 : ByteArray) (x7 : Int) (x8 : Int) (b9 : Bool) (s11 : ByteArray) (x13 : Int) (s14 : ByteArray) (s15 : ByteArray) (x16 : Int) : Nat → (List S_api_Node) → Int → Int → (List ByteArray) → Option ((List S_api_Node) × (List ByteArray))
  | 0, _, _, _, _ => none
  | k1 + 1, l23, x24, x25, l27 =>
    if (decide (x25 < (l23.length : Int))) = true then ((idx l23 x25).bind fun x37 => (m_nodes_sweep_1 (⟨x37.Path, x37.Data, x37.Version, x37.Turn, x37.Owner⟩ : S_api_Node) x4 s5 s6 x7 x8 b9 s11 x13 s14 s15 x16 l27).bind fun u43 => if (!u43.1) = true then ((idx l23 x24).bind fun x46 => m_slices_DeleteFunc_api_Node_api_Node_j1 (m_slices_DeleteFunc_api_Node_api_Node_l1 x4 s5 s6 x7 x8 b9 s11 x13 s14 s15 x16 k1) x25 (l23.set x24.toNat (⟨x37.Path, x37.Data, x37.Version, x37.Turn, x37.Owner⟩ : S_api_Node)) (IntKind.i64.wrap (x24 + 1)) u43.2) else (m_slices_DeleteFunc_api_Node_api_Node_j1 (m_slices_DeleteFunc_api_Node_api_Node_l1 x4 s5 s6 x7 x8 b9 s11 x13 s14 s15 x16 k1) x25 l23 x24 u43.2)) else ((ck (0 ≤ x24 ∧ x24 ≤ l23.length)).bind fun u51 => (ck (0 ≤ x24 ∧ x24 ≤ (l23.take x24.toNat ++ List.replicate (l23.length - x24.toNat) (⟨⟨#[]⟩, ⟨#[]⟩, 0, 0, 0⟩ : S_api_Node)).length)).bind fun u53 => some ((l23.take x24.toNat ++ List.replicate (l23.length - x24.toNat) (⟨⟨#[]⟩, ⟨#[]⟩, 0, 0, 0⟩ : S_api_Node)).take x24.toNat, l27))
def m_slices_DeleteFunc_api_Node_api_Node (l2 : List S_api_Node) (x4 : Int) (s5 : ByteArray) (s6 : ByteArray) (x7 : Int) (x8 : Int) (b9 : Bool) (s11 : ByteArray) (x13 : Int) (s14 : ByteArray) (s15 : ByteArray) (x16 : Int) (l18 : List ByteArray) : Option ((List S_api_Node) × (List ByteArray)) :=
  (m_slices_IndexFunc_api_Node_api_Node l2 x4 s5 s6 x7 x8 b9 s11 x13 s14 s15 x16 l18).bind fun u19 => if (u19.1 == (-1)) = true then (some (l2, u19.2)) else (m_slices_DeleteFunc_api_Node_api_Node_l1 x4 s5 s6 x7 x8 b9 s11 x13 s14 s15 x16 (((l2.length : Int) - (IntKind.i64.wrap (u19.1 + 1)) : Int).toNat + 1) l2 u19.1 (IntKind.i64.wrap (u19.1 + 1)) u19.2)
set_option maxRecDepth 20000 in
set_option maxHeartbeats 1000000 in
theorem c_slices_DeleteFunc_api_Node_api_Node {w : World} {Fo : List Ob} {rs : List Rp} (v1 : Value) (l2 : List S_api_Node) (p3 : Nat) (x4 : Int) (s5 : ByteArray) (s6 : ByteArray) (x7 : Int) (x8 : Int) (b9 : Bool) (p10 : Nat) (s11 : ByteArray) (p12 : Nat) (x13 : Int) (s14 : ByteArray) (s15 : ByteArray) (x16 : Int) (v17 : Value) (l18 : List ByteArray) (H : Sep w (Row 35 k_api_Node v1 l2 :: Blk p3 24 [.int .i64 x4, .string s5, .string s6, .int .i64 x7, .int .i64 x8, .bool b9] :: Blk p10 9 [.string s11] :: Blk p12 31 [.int .i64 x13, .string s14, .string s15, .int .i64 x16, v17] :: Row 9 kS v17 l18 :: Fo) rs) {r : (List S_api_Node) × (List ByteArray)} (hm : m_slices_DeleteFunc_api_Node_api_Node l2 x4 s5 s6 x7 x8 b9 s11 x13 s14 s15 x16 l18 = some r) :
    Calls Tryz.prog 53 [v1, .func (.func 54) #[] #[.pointer (some ⟨p3, 0, none⟩), .pointer (some ⟨p10, 0, none⟩), .pointer (some ⟨p12, 0, none⟩)]].toArray w (Ret fun v w' => ∃ (v5001 : Value) (v5003 : Value), v5001 = v ∧ Sep w' (Row 35 k_api_Node v5001 r.1 :: Blk p3 24 [.int .i64 x4, .string s5, .string s6, .int .i64 x7, .int .i64 x8, .bool b9] :: Blk p10 9 [.string s11] :: Blk p12 31 [.int .i64 x13, .string s14, .string s15, .int .i64 x16, v5003] :: Row 9 kS v5003 r.2 :: Fo) (rs)) := by
 unfold m_slices_DeleteFunc_api_Node_api_Node at hm
 refine enter Tryz.func53 rfl Tryz.ntmps53 rfl fun a E => ?_
 simp only [enum, Nat.reduceAdd] at E
 refine wp_seq ?_
 refine wp_region_lit ?_
 refine sv E rfl rfl rfl (x_assign E rfl rfl) ?_
 clear a E;intro a E
 refine wpList_nil ?_
 refine q_then ?_
 refine wp_seq ?_
 refine wp_region_lit ?_
 refine sv E rfl rfl rfl (x_move E rfl rfl) ?_
 clear a E;intro a E
 refine sv E rfl rfl rfl (x_move E rfl rfl) ?_
 clear a E;intro a E
 obtain ⟨u19, hx20, hm⟩ := bnd hm
 refine st_call E (wn rfl) rfl rfl (x_call E rfl rfl (cf32 _)) (c_slices_IndexFunc_api_Node_api_Node v1 l2 p3 x4 s5 s6 x7 x8 b9 p10 s11 p12 x13 s14 s15 x16 v17 l18 H hx20) ?_
 clear E H; clear a; clear w; rintro _ w ⟨v21, rfl, H⟩ a E
 refine sv E rfl rfl rfl (x_assign E rfl rfl) ?_
 clear a E;intro a E
 refine wpList_nil ?_
 refine q_then ?_
 refine wp_seq ?_
 refine wp_seq ?_
 refine wp_region_lit ?_
 refine sv E rfl rfl rfl (x_move E rfl rfl) ?_
 clear a E;intro a E
 refine sv E rfl rfl rfl (x_bin E rfl rfl rfl rfl) ?_
 clear a E;intro a E
 refine wpList_nil ?_
 refine q_then ?_
 refine wp_if E rfl ?_ ?_
 ·intro hb
  rw [if_t hb] at hm
  clear hb
  refine wp_seq ?_
  refine wp_region_lit ?_
  refine sv E rfl rfl rfl (x_move E rfl rfl) ?_
  clear a E;intro a E
  refine sv E rfl rfl rfl (x_assign E rfl rfl) ?_
  clear a E;intro a E
  refine wpList_nil ?_
  refine q_then ?_
  refine wp_ret ?_
  refine q_thenR ?_
  refine out1 E rfl rfl ?_
  replace H := H.front 4 rfl
  replace H := H.front 3 rfl
  replace H := H.front 3 rfl
  replace H := H.front 3 rfl
  replace H := H.front 4 rfl
  obtain rfl := Option.some.inj hm
  exact ⟨v1, v21, rfl, H.reads (fun r hr => hr)⟩
 ·intro hb
  rw [if_f hb] at hm
  clear hb
  refine wp_skip ?_
  refine q_then ?_
  refine wp_seq ?_
  refine wp_seq ?_
  refine wp_region_lit ?_
  refine sv E rfl rfl rfl (x_move E rfl rfl) ?_
  clear a E;intro a E
  refine sv E rfl rfl rfl (x_bin E rfl rfl rfl rfl) ?_
  clear a E;intro a E
  refine sv E rfl rfl rfl (x_assign E rfl rfl) ?_
  clear a E;intro a E
  refine wpList_nil ?_
  refine q_then ?_
  refine wp_block ?_
  refine wp_loop_g (fun k1 a w => ∃ (v22 : Value) (v26 : Value) (l23 : (List S_api_Node)) (x24 : Int) (x25 : Int) (l27 : (List ByteArray)) (rs28 : List Rp), Env 42 a [(0, v22), (1, .func (.func 54) #[] #[.pointer (some ⟨p3, 0, none⟩), .pointer (some ⟨p10, 0, none⟩), .pointer (some ⟨p12, 0, none⟩)]), (5, .int .i64 x24), (6, .int .i64 x25)] ∧ Sep w (Row 35 k_api_Node v22 l23 :: Blk p3 24 [.int .i64 x4, .string s5, .string s6, .int .i64 x7, .int .i64 x8, .bool b9] :: Blk p10 9 [.string s11] :: Blk p12 31 [.int .i64 x13, .string s14, .string s15, .int .i64 x16, v26] :: Row 9 kS v26 l27 :: Fo) rs28 ∧ (∀ r, r ∈ rs → r ∈ rs28) ∧ m_slices_DeleteFunc_api_Node_api_Node_l1 x4 s5 s6 x7 x8 b9 s11 x13 s14 s15 x16 k1 l23 x24 x25 l27 = some r) (((l2.length : Int) - (IntKind.i64.wrap (u19.1 + 1)) : Int).toNat + 1) ?_ ?_
  ·replace H := H.front 4 rfl
   replace H := H.front 3 rfl
   replace H := H.front 3 rfl
   replace H := H.front 3 rfl
   replace H := H.front 4 rfl
   exact ⟨v1, v21, l2, u19.1, IntKind.i64.wrap (u19.1 + 1), u19.2, _, ((((E.nil.keep E 6 rfl).keep E 5 rfl).keep E 1 rfl).keep E 0 rfl), H, fun r hr => hr, hm⟩
  ·clear E H hm
   rintro k1 a w ⟨v22, v26, l23, x24, x25, l27, rs28, E, H, hs29, hm⟩
   cases k1 with
   | zero => exact (none_some hm rfl).elim
   | succ k1 =>
    unfold m_slices_DeleteFunc_api_Node_api_Node_l1 at hm
    refine wp_seq ?_
    refine wp_seq ?_
    refine wp_region_lit ?_
    refine sv E rfl rfl rfl (x_move E rfl rfl) ?_
    clear a E;intro a E
    refine sv E rfl rfl rfl (x_move E rfl rfl) ?_
    clear a E;intro a E
    refine sv E rfl rfl rfl (x_lenR (i := 0) E H rfl rfl rfl Tryz.underlying22) ?_
    clear a E;intro a E
    refine sv E rfl rfl rfl (x_bin E rfl rfl rfl rfl) ?_
    clear a E;intro a E
    refine wpList_nil ?_
    refine q_then ?_
    refine wp_if E rfl ?_ ?_
    ·intro hb
     rw [if_t hb] at hm
     clear hb
     refine wp_skip ?_
     refine q_then ?_
     refine wp_seq_cut (fun a w => ∃ (v30 : Value) (v33 : Value) (l31 : (List S_api_Node)) (x32 : Int) (l34 : (List ByteArray)) (rs35 : List Rp), Env 42 a [(0, v30), (1, .func (.func 54) #[] #[.pointer (some ⟨p3, 0, none⟩), .pointer (some ⟨p10, 0, none⟩), .pointer (some ⟨p12, 0, none⟩)]), (5, .int .i64 x32), (6, .int .i64 x25)] ∧ Sep w (Row 35 k_api_Node v30 l31 :: Blk p3 24 [.int .i64 x4, .string s5, .string s6, .int .i64 x7, .int .i64 x8, .bool b9] :: Blk p10 9 [.string s11] :: Blk p12 31 [.int .i64 x13, .string s14, .string s15, .int .i64 x16, v33] :: Row 9 kS v33 l34 :: Fo) rs35 ∧ (∀ r, r ∈ rs → r ∈ rs35) ∧ m_slices_DeleteFunc_api_Node_api_Node_j1 (m_slices_DeleteFunc_api_Node_api_Node_l1 x4 s5 s6 x7 x8 b9 s11 x13 s14 s15 x16 k1) x25 l31 x32 l34 = some r) ?_ ?_
     ·refine wp_block ?_
      refine wp_seq ?_
      refine wp_region_lit ?_
      refine sv E rfl rfl rfl (x_move E rfl rfl) ?_
      clear a E;intro a E
      refine sv E rfl rfl rfl (x_move E rfl rfl) ?_
      clear a E;intro a E
      obtain ⟨x37, hx38, hm⟩ := bnd hm
      obtain ⟨p39, x40, hx41⟩ := H.rowformNE (i := 0) rfl hx38
      refine sv E rfl rfl rfl (x_ixRowV (d := k_api_Node) E hx41 rfl rfl rfl rfl Tryz.underlying22 sz35 hx38) ?_
      clear a E;intro a E
      refine sv E rfl rfl rfl (x_ldRowNV (i := 0) E H k_api_Node_flat hx41 rfl rfl rfl hx38 (us := [.string x37.Path, .string x37.Data, .int .i64 x37.Version, .int .i64 x37.Turn, .int .i64 x37.Owner]) rfl Tryz.underlying35 rfl sz35) ?_
      clear a E;intro a E
      refine st_alloc E H (wn rfl) rfl rfl (cs := [.string (ByteArray.mk #[]), .string (ByteArray.mk #[]), .int .i64 0, .int .i64 0, .int .i64 0]) rfl (z := .agg #[.string ⟨#[]⟩, .string ⟨#[]⟩, .int .i64 0, .int .i64 0, .int .i64 0]) (by kernel_rfl) rfl ?_
      clear E H; clear a; clear w; intro p42 w a H E
      refine st_st (i := 0) E H (wn rfl) rfl (us := [.string x37.Path, .string x37.Data, .int .i64 x37.Version, .int .i64 x37.Turn, .int .i64 x37.Owner]) rfl rfl rfl rfl rfl sz35 rfl rfl ?_
      clear H; clear w; intro w H
      replace H : Sep w (Blk p42 35 [.string x37.Path, .string x37.Data, .int .i64 x37.Version, .int .i64 x37.Turn, .int .i64 x37.Owner] :: Row 35 k_api_Node v22 l23 :: Blk p3 24 [.int .i64 x4, .string s5, .string s6, .int .i64 x7, .int .i64 x8, .bool b9] :: Blk p10 9 [.string s11] :: Blk p12 31 [.int .i64 x13, .string s14, .string s15, .int .i64 x16, v26] :: Row 9 kS v26 l27 :: Fo) _ := H
      refine wpList_nil ?_
      refine q_then ?_
      refine wp_seq ?_
      refine wp_region_lit ?_
      refine sv E rfl rfl rfl (x_move E rfl rfl) ?_
      clear a E;intro a E
      refine sv E rfl rfl rfl (x_ldBN (i := 0) (us := [.string x37.Path, .string x37.Data, .int .i64 x37.Version, .int .i64 x37.Turn, .int .i64 x37.Owner]) E H rfl rfl rfl rfl Tryz.underlying35 rfl sz35) ?_
      clear a E;intro a E
      replace H := H.front 1 rfl
      replace H := H.front 1 rfl
      replace H := H.front 5 rfl
      replace H := H.front 5 rfl
      replace H := H.front 5 rfl
      replace H := H.front 5 rfl
      replace H : Sep w (Blk p3 24 [.int .i64 x4, .string s5, .string s6, .int .i64 x7, .int .i64 x8, .bool b9] :: Blk p10 9 [.string s11] :: Blk p12 31 [.int .i64 x13, .string s14, .string s15, .int .i64 x16, v26] :: Row 9 kS v26 l27 :: Blk p42 35 [.string x37.Path, .string x37.Data, .int .i64 x37.Version, .int .i64 x37.Turn, .int .i64 x37.Owner] :: Row 35 k_api_Node v22 l23 :: Fo) (rs28) := H
      obtain ⟨u43, hx44, hm⟩ := bnd hm
      refine st_call E (wn rfl) rfl rfl (x_callv E rfl rfl rfl (cf54 _)) (c_nodes_sweep_1 (⟨x37.Path, x37.Data, x37.Version, x37.Turn, x37.Owner⟩ : S_api_Node) p3 x4 s5 s6 x7 x8 b9 p10 s11 p12 x13 s14 s15 x16 v26 l27 H hx44) ?_
      clear E H; clear a; clear w; rintro _ w ⟨v45, rfl, H⟩ a E
      refine sv E rfl rfl rfl (x_not E rfl rfl) ?_
      clear a E;intro a E
      refine wpList_nil ?_
      refine q_then ?_
      refine wp_if E rfl ?_ ?_
      ·intro hb
       rw [if_t hb] at hm
       clear hb
       refine wp_seq ?_
       refine wp_region_lit ?_
       refine sv E rfl rfl rfl (x_move E rfl rfl) ?_
       clear a E;intro a E
       refine sv E rfl rfl rfl (x_move E rfl rfl) ?_
       clear a E;intro a E
       refine sv E rfl rfl rfl (x_ldBN (i := 4) (us := [.string x37.Path, .string x37.Data, .int .i64 x37.Version, .int .i64 x37.Turn, .int .i64 x37.Owner]) E H rfl rfl rfl rfl Tryz.underlying35 rfl sz35) ?_
       clear a E;intro a E
       obtain ⟨x46, hx47, hm⟩ := bnd hm
       obtain ⟨p48, x49, hx50⟩ := H.rowformNE (i := 5) rfl hx47
       refine sv E rfl rfl rfl (x_ixRowV (d := k_api_Node) E hx50 rfl rfl rfl rfl Tryz.underlying22 sz35 hx47) ?_
       clear a E;intro a E
       refine st_stRowNV (d := k_api_Node) (i := 5) (us := [.string x37.Path, .string x37.Data, .int .i64 x37.Version, .int .i64 x37.Turn, .int .i64 x37.Owner]) (z' := (⟨x37.Path, x37.Data, x37.Version, x37.Turn, x37.Owner⟩ : S_api_Node)) E H k_api_Node_flat (wn rfl) rfl hx50 rfl rfl rfl rfl rfl rfl rfl hx47 sz35 ?_
       clear H; clear w; intro w H
       replace H : Sep w (Blk p3 24 [.int .i64 x4, .string s5, .string s6, .int .i64 x7, .int .i64 x8, .bool b9] :: Blk p10 9 [.string s11] :: Blk p12 31 [.int .i64 x13, .string s14, .string s15, .int .i64 x16, v45] :: Row 9 kS v45 u43.2 :: Blk p42 35 [.string x37.Path, .string x37.Data, .int .i64 x37.Version, .int .i64 x37.Turn, .int .i64 x37.Owner] :: Row 35 k_api_Node v22 (l23.set x24.toNat (⟨x37.Path, x37.Data, x37.Version, x37.Turn, x37.Owner⟩ : S_api_Node)) :: Fo) (rs28) := H
       refine wpList_nil ?_
       refine q_then ?_
       refine wp_region_lit ?_
       refine sv E rfl rfl rfl (x_move E rfl rfl) ?_
       clear a E;intro a E
       refine sv E rfl rfl rfl (x_bin E rfl rfl rfl rfl) ?_
       clear a E;intro a E
       refine sv E rfl rfl rfl (x_assign E rfl rfl) ?_
       clear a E;intro a E
       refine wpList_nil ?_
       refine q_blk ?_
       refine q_then ?_
       replace H := H.drop 4
       replace H := H.front 3 rfl
       replace H := H.front 3 rfl
       replace H := H.front 3 rfl
       replace H := H.front 3 rfl
       replace H := H.front 4 rfl
       exact ⟨v22, v45, l23.set x24.toNat (⟨x37.Path, x37.Data, x37.Version, x37.Turn, x37.Owner⟩ : S_api_Node), IntKind.i64.wrap (x24 + 1), u43.2, _, ((((E.nil.keep E 6 rfl).keep E 5 rfl).keep E 1 rfl).keep E 0 rfl), H, hs29, hm⟩
      ·intro hb
       rw [if_f hb] at hm
       clear hb
       refine wp_skip ?_
       refine q_blk ?_
       refine q_then ?_
       replace H := H.drop 4
       replace H := H.front 3 rfl
       replace H := H.front 3 rfl
       replace H := H.front 3 rfl
       replace H := H.front 3 rfl
       replace H := H.front 4 rfl
       exact ⟨v22, v45, l23, x24, u43.2, _, ((((E.nil.keep E 6 rfl).keep E 5 rfl).keep E 1 rfl).keep E 0 rfl), H, hs29, hm⟩
     ·clear E H hm
      rintro a w ⟨v30, v33, l31, x32, l34, rs35, E, H, hs36, hm⟩
      unfold m_slices_DeleteFunc_api_Node_api_Node_j1 at hm
      refine wp_region_lit ?_
      refine sv E rfl rfl rfl (x_move E rfl rfl) ?_
      clear a E;intro a E
      refine sv E rfl rfl rfl (x_bin E rfl rfl rfl rfl) ?_
      clear a E;intro a E
      refine sv E rfl rfl rfl (x_assign E rfl rfl) ?_
      clear a E;intro a E
      refine wpList_nil ?_
      refine q_then ?_
      exact ⟨k1, Nat.lt_succ_self k1, v30, v33, l31, x32, IntKind.i64.wrap (x25 + 1), l34, _, ((((E.nil.keep E 6 rfl).keep E 5 rfl).keep E 1 rfl).keep E 0 rfl), H, hs36, hm⟩
    ·intro hb
     rw [if_f hb] at hm
     clear hb
     refine wp_exit ?_
     refine q_thenX ?_
     refine q_thenX ?_
     refine q_hit ?_
     refine q_then ?_
     refine wp_seq ?_
     refine wp_region_lit ?_
     refine sv E rfl rfl rfl (x_move E rfl rfl) ?_
     clear a E;intro a E
     refine sv E rfl rfl rfl (x_move E rfl rfl) ?_
     clear a E;intro a E
     obtain ⟨u51, hx52, hm⟩ := bnd hm
     refine sv E rfl rfl rfl (x_subRow (d := k_api_Node) (i := 0) E H rfl rfl rfl rfl Tryz.underlying22 sz35 (ck_of hx52)) ?_
     clear a E;intro a E
     refine st_clearRow (i := 0) (z0 := (⟨⟨#[]⟩, ⟨#[]⟩, 0, 0, 0⟩ : S_api_Node)) E H k_api_Node_flat (wn rfl) rfl rfl rfl Tryz.underlying22 zrw35 rfl rfl rfl (ck_of hx52) ?_
     clear H; clear w; intro w H
     replace H : Sep w (Row 35 k_api_Node v22 (l23.take x24.toNat ++ List.replicate (l23.length - x24.toNat) (⟨⟨#[]⟩, ⟨#[]⟩, 0, 0, 0⟩ : S_api_Node)) :: Blk p3 24 [.int .i64 x4, .string s5, .string s6, .int .i64 x7, .int .i64 x8, .bool b9] :: Blk p10 9 [.string s11] :: Blk p12 31 [.int .i64 x13, .string s14, .string s15, .int .i64 x16, v26] :: Row 9 kS v26 l27 :: Fo) (rs28) := H
     refine wpList_nil ?_
     refine q_then ?_
     refine wp_seq ?_
     refine wp_region_lit ?_
     refine sv E rfl rfl rfl (x_move E rfl rfl) ?_
     clear a E;intro a E
     refine sv E rfl rfl rfl (x_move E rfl rfl) ?_
     clear a E;intro a E
     obtain ⟨u53, hx54, hm⟩ := bnd hm
     refine st_cutRow (i := 0) E H k_api_Node_flat (wn rfl) rfl rfl rfl rfl rfl rfl Tryz.underlying22 sz35 (ck_of hx54) ?_
     clear E H; clear a; intro v55 a H E
     replace H : Sep w (Row 35 k_api_Node v55 ((l23.take x24.toNat ++ List.replicate (l23.length - x24.toNat) (⟨⟨#[]⟩, ⟨#[]⟩, 0, 0, 0⟩ : S_api_Node)).take x24.toNat) :: Blk p3 24 [.int .i64 x4, .string s5, .string s6, .int .i64 x7, .int .i64 x8, .bool b9] :: Blk p10 9 [.string s11] :: Blk p12 31 [.int .i64 x13, .string s14, .string s15, .int .i64 x16, v26] :: Row 9 kS v26 l27 :: Fo) (rs28) := H
     refine sv E rfl rfl rfl (x_assign E rfl rfl) ?_
     clear a E;intro a E
     refine wpList_nil ?_
     refine q_then ?_
     refine wp_ret ?_
     refine out1 E rfl rfl ?_
     obtain rfl := Option.some.inj hm
     exact ⟨v55, v26, rfl, H.reads (fun r hr => hs29 r hr)⟩
end Go.Cb

set_option linter.unusedVariables false
set_option linter.unusedSimpArgs false
namespace Go.Cb
open Go.Proofs Go.RowKit
def m_nodes_sweep (l2 : List S_api_Node) (x3 : Int) (x4 : S_api_Op) : Option ((List S_api_Node) × S_api_Result) :=
  (idx l2 x3).bind fun x9 => (ck (l2.length ≤ LIM)).bind fun u14 => (m_slices_DeleteFunc_api_Node_api_Node l2 x4.Kind x4.Path x4.Data x4.Version x4.Owner x4.Turns x9.Path 0 (ByteArray.mk #[]) (ByteArray.mk #[]) 0 []).bind fun u16 => some (u16.1, (⟨0, (ByteArray.mk #[]), (ByteArray.mk #[]), 0, u16.2⟩ : S_api_Result))
set_option maxRecDepth 20000 in
set_option maxHeartbeats 1000000 in
theorem c_nodes_sweep {w : World} {Fo : List Ob} {rs : List Rp} (v1 : Value) (l2 : List S_api_Node) (x3 : Int) (x4 : S_api_Op) (H : Sep w (Fo) rs) (hr5 : rSl k_api_Node v1 l2 ∈ rs) {r : (List S_api_Node) × S_api_Result} (hm : m_nodes_sweep l2 x3 x4 = some r) :
    Calls Tryz.prog 26 [v1, .int .i64 x3, .agg #[.int .i64 x4.Kind, .string x4.Path, .string x4.Data, .int .i64 x4.Version, .int .i64 x4.Owner, .bool x4.Turns]].toArray w (Ret fun v w' => ∃ (v5001 : Value) (v5004 : Value), .tuple #[v5001, .agg #[.int .i64 r.2.Err, .string r.2.Path, .string r.2.Data, .int .i64 r.2.Version, v5004]] = v ∧ Sep w' (Row 35 k_api_Node v5001 r.1 :: Fo) (rSl kS v5004 r.2.Names :: rs)) := by
 unfold m_nodes_sweep at hm
 refine enter Tryz.func26 rfl Tryz.ntmps26 rfl fun a E => ?_
 simp only [enum, Nat.reduceAdd] at E
 refine wp_seq ?_
 refine wp_region_lit ?_
 refine st_box E H (wn rfl) rfl rfl (cs := [.int .i64 x4.Kind, .string x4.Path, .string x4.Data, .int .i64 x4.Version, .int .i64 x4.Owner, .bool x4.Turns]) rfl rfl rfl ?_
 clear E H; clear a; clear w; intro p6 w a H E
 refine sv E rfl rfl rfl (x_assign E rfl rfl) ?_
 clear a E;intro a E
 refine st_alloc E H (wn rfl) rfl rfl (cs := [.int .i64 0, .string (ByteArray.mk #[]), .string (ByteArray.mk #[]), .int .i64 0, .slice none 0 0]) rfl (z := .agg #[.int .i64 0, .string ⟨#[]⟩, .string ⟨#[]⟩, .int .i64 0, .slice none 0 0]) (by kernel_rfl) rfl ?_
 clear E H; clear a; clear w; intro p7 w a H E
 refine wpList_nil ?_
 refine q_then ?_
 refine wp_seq ?_
 refine wp_region_lit ?_
 refine st_alloc E H (wn rfl) rfl rfl (cs := [.int .i64 0, .string (ByteArray.mk #[]), .string (ByteArray.mk #[]), .int .i64 0, .slice none 0 0]) rfl (z := .agg #[.int .i64 0, .string ⟨#[]⟩, .string ⟨#[]⟩, .int .i64 0, .slice none 0 0]) (by kernel_rfl) rfl ?_
 clear E H; clear a; clear w; intro p8 w a H E
 refine wpList_nil ?_
 refine q_then ?_
 refine wp_seq ?_
 refine wp_region_lit ?_
 refine sv E rfl rfl rfl (x_move E rfl rfl) ?_
 clear a E;intro a E
 refine sv E rfl rfl rfl (x_move E rfl rfl) ?_
 clear a E;intro a E
 obtain ⟨x9, hx10, hm⟩ := bnd hm
 refine st_ixS E H (wn rfl) rfl rfl rfl rfl rfl hr5 Tryz.underlying22 sz35 hx10 ?_
 clear E H; clear a; intro q11 a H E
 replace H := H.derive1 (.head _) (rAt kS (q11.add 0) x9.Path) (fun ok h => k_api_Node_at0 h)
 refine sv E rfl rfl rfl (x_fa E rfl rfl (fa35_0 _ _)) ?_
 clear a E;intro a E
 refine sv E rfl rfl rfl (x_ldA E H rfl rfl (.head _) Tryz.underlying9 rfl) ?_
 clear a E;intro a E
 refine st_alloc E H (wn rfl) rfl rfl (cs := [.string (ByteArray.mk #[])]) rfl (z := .string ⟨#[]⟩) (by kernel_rfl) rfl ?_
 clear E H; clear a; clear w; intro p12 w a H E
 refine st_st (i := 0) E H (wn rfl) rfl (us := [.string x9.Path]) rfl rfl rfl rfl rfl sz9 rfl rfl ?_
 clear H; clear w; intro w H
 replace H : Sep w (Blk p12 9 [.string x9.Path] :: Blk p8 31 [.int .i64 0, .string (ByteArray.mk #[]), .string (ByteArray.mk #[]), .int .i64 0, .slice none 0 0] :: Blk p7 31 [.int .i64 0, .string (ByteArray.mk #[]), .string (ByteArray.mk #[]), .int .i64 0, .slice none 0 0] :: Blk p6 24 [.int .i64 x4.Kind, .string x4.Path, .string x4.Data, .int .i64 x4.Version, .int .i64 x4.Owner, .bool x4.Turns] :: Fo) _ := H
 refine wpList_nil ?_
 refine q_then ?_
 refine wp_seq ?_
 refine wp_region_lit ?_
 refine sv E rfl rfl rfl (x_move E rfl rfl) ?_
 clear a E;intro a E
 obtain ⟨u14, hx15, hm⟩ := bnd hm
 refine st_call E (wn rfl) rfl rfl (x_call E rfl rfl (cf45 _)) (lib_slices_Clone_api_Node_api_Node_rd H (.tail _ (.tail _ hr5)) (ck_of hx15)) ?_
 clear E H; clear a; clear w; rintro v13 w H a E
 refine sv E rfl rfl rfl (x_func E rfl rfl rfl) ?_
 clear a E;intro a E
 replace H := H.nilRow 9 kS
 replace H := H.front 4 rfl
 replace H := H.front 1 rfl
 replace H := H.front 4 rfl
 replace H := H.front 4 rfl
 replace H := H.front 5 rfl
 replace H := H.front 5 rfl
 replace H : Sep w (Row 35 k_api_Node v13 l2 :: Blk p6 24 [.int .i64 x4.Kind, .string x4.Path, .string x4.Data, .int .i64 x4.Version, .int .i64 x4.Owner, .bool x4.Turns] :: Blk p12 9 [.string x9.Path] :: Blk p8 31 [.int .i64 0, .string (ByteArray.mk #[]), .string (ByteArray.mk #[]), .int .i64 0, .slice none 0 0] :: Row 9 kS (.slice none 0 0) ([] : List ByteArray) :: Blk p7 31 [.int .i64 0, .string (ByteArray.mk #[]), .string (ByteArray.mk #[]), .int .i64 0, .slice none 0 0] :: Fo) (rAt kS (q11.add 0) x9.Path :: rAt k_api_Node q11 x9 :: rs) := H
 obtain ⟨u16, hx17, hm⟩ := bnd hm
 refine st_call E (wn rfl) rfl rfl (x_call E rfl rfl (cf53 _)) (c_slices_DeleteFunc_api_Node_api_Node v13 l2 p6 x4.Kind x4.Path x4.Data x4.Version x4.Owner x4.Turns p12 x9.Path p8 0 (ByteArray.mk #[]) (ByteArray.mk #[]) 0 (.slice none 0 0) [] H hx17) ?_
 clear E H; clear a; clear w; rintro _ w ⟨v18, v19, rfl, H⟩ a E
 refine sv E rfl rfl rfl (x_assign E rfl rfl) ?_
 clear a E;intro a E
 refine wpList_nil ?_
 refine q_then ?_
 refine wp_seq ?_
 replace H : Sep w (Row 35 k_api_Node v18 u16.1 :: Blk p6 24 [.int .i64 x4.Kind, .string x4.Path, .string x4.Data, .int .i64 x4.Version, .int .i64 x4.Owner, .bool x4.Turns] :: Blk p12 9 [.string x9.Path] :: Blk p8 31 [.int .i64 0, .string (ByteArray.mk #[]), .string (ByteArray.mk #[]), .int .i64 0, v19] :: Row 9 kS v19 u16.2 :: Blk p7 31 [.int .i64 0, .string (ByteArray.mk #[]), .string (ByteArray.mk #[]), .int .i64 0, .slice none 0 0] :: Fo) (rAt kS (q11.add 0) x9.Path :: rAt k_api_Node q11 x9 :: rs) := H
 have hI : Still [Blk p8 31 [.int .i64 0, .string (ByteArray.mk #[]), .string (ByteArray.mk #[]), .int .i64 0, v19]] [] { w with drawn := w.drawn + 1 } := ⟨_, _, H.kept (Kp.drawn _ w _), (subO_cons (.tail _ (.tail _ (.tail _ (.head _)))) (subO_nil)), (sub_nil)⟩
 refine wp_draw _ [(0, 0), (1, 0), (2, 1), (3, 2)] mixedOk (by kernel_rfl) (fun _ _ _ h => False.elim h.2) hI ?_
 replace H := H.kept (Kp.drawn _ w (w.drawn + 1))
 generalize ({ w with drawn := w.drawn + 1 } : World) = w at H hI ⊢
 replace hI : ∃ W, Still [Blk p8 31 [.int .i64 0, .string (ByteArray.mk #[]), .string (ByteArray.mk #[]), .int .i64 0, v19]] [] W := ⟨_, hI⟩
 obtain ⟨W0, hI⟩ := hI
 refine fr_val E rfl (wn rfl) rfl rfl (fun w hW => (x_move E rfl rfl)) ?_
 clear a E;intro a E
 refine fr_val E rfl (wn rfl) rfl rfl (fun w hW => x_ld E rfl rfl (ib_ldN (us := [.int .i64 0, .string (ByteArray.mk #[]), .string (ByteArray.mk #[]), .int .i64 0, v19]) (.head _) rfl Tryz.underlying31 rfl sz31 w hW)) ?_
 clear a E;intro a E
 refine fr_op rfl ?_
 refine sv E rfl rfl rfl (x_assign E rfl rfl) ?_
 clear a E;intro a E
 refine wpList_nil ?_
 refine q_then ?_
 replace H : Sep w (Row 35 k_api_Node v18 u16.1 :: Blk p6 24 [.int .i64 x4.Kind, .string x4.Path, .string x4.Data, .int .i64 x4.Version, .int .i64 x4.Owner, .bool x4.Turns] :: Blk p12 9 [.string x9.Path] :: Blk p8 31 [.int .i64 0, .string (ByteArray.mk #[]), .string (ByteArray.mk #[]), .int .i64 0, v19] :: Row 9 kS v19 u16.2 :: Blk p7 31 [.int .i64 0, .string (ByteArray.mk #[]), .string (ByteArray.mk #[]), .int .i64 0, .slice none 0 0] :: Fo) (rAt kS (q11.add 0) x9.Path :: rAt k_api_Node q11 x9 :: rs) := H
 refine ⟨⟨_, _, H, (subO_cons (.tail _ (.tail _ (.tail _ (.head _)))) (subO_nil)), (sub_nil)⟩, ?_⟩
 refine fr_tail rfl ?_
 obtain ⟨q20, x21, rfl⟩ := H.rowform (i := 4) rfl
 refine st_st (i := 5) E H (wn rfl) rfl (us := [.int .i64 0, .string (ByteArray.mk #[]), .string (ByteArray.mk #[]), .int .i64 0, (.slice q20 u16.2.length x21)]) rfl rfl rfl rfl rfl sz31 rfl rfl ?_
 clear H; clear w; intro w H
 replace H : Sep w (Row 35 k_api_Node v18 u16.1 :: Blk p6 24 [.int .i64 x4.Kind, .string x4.Path, .string x4.Data, .int .i64 x4.Version, .int .i64 x4.Owner, .bool x4.Turns] :: Blk p12 9 [.string x9.Path] :: Blk p8 31 [.int .i64 0, .string (ByteArray.mk #[]), .string (ByteArray.mk #[]), .int .i64 0, (.slice q20 u16.2.length x21)] :: Row 9 kS (.slice q20 u16.2.length x21) u16.2 :: Blk p7 31 [.int .i64 0, .string (ByteArray.mk #[]), .string (ByteArray.mk #[]), .int .i64 0, (.slice q20 u16.2.length x21)] :: Fo) _ := H
 refine wpList_nil ?_
 refine q_then ?_
 refine fr_nil ?_
 clear hI
 refine q_then ?_
 refine wp_ret ?_
 refine outR2 E rfl (rvT rfl) (rvBN (i := 5) (us := [.int .i64 0, .string (ByteArray.mk #[]), .string (ByteArray.mk #[]), .int .i64 0, (.slice q20 u16.2.length x21)]) H rfl rfl rfl Tryz.underlying31 rfl sz31) ?_
 replace H := H.thaw (i := 4) rfl
 replace H := H.drop 1
 replace H := H.drop 1
 replace H := H.drop 1
 replace H := H.drop 1
 obtain rfl := Option.some.inj hm
 exact ⟨v18, (.slice q20 u16.2.length x21), rfl, H.reads (sub_cons (.head _) (fun r hr => .tail _ (.tail _ (.tail _ (hr)))))⟩
end Go.Cb
