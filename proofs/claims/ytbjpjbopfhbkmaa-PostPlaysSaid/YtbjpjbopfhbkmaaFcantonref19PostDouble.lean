/- A function of the program, walked: it comes to its plain function. -/
import Derived.Test.YtbjpjbopfhbkmaaT
import Derived.Test.YtbjpjbopfhbkmaaO8
set_option linter.unusedVariables false
set_option linter.unusedSimpArgs false
namespace Go.Cb
open Go.Proofs Go.RowKit
def m_cantonref19_Post_Double_j2 (l9 : (List S_api_Mail)) : Option (Bool × (List S_api_Mail)) :=
  some (true, l9)
def m_cantonref19_Post_Double_j1 (l3 : List S_api_Mail) (x4 : Int) (b5 : Bool) : Option (Bool × (List S_api_Mail)) :=
  if b5 = true then (some (false, l3)) else ((idx l3 x4).bind fun x12 => (ck (([] : List S_api_Mail).length + l3.length ≤ LIM)).bind fun u20 => (ck ((([] : List S_api_Mail) ++ l3).length + ([x12] : List S_api_Mail).length ≤ LIM)).bind fun u24 => m_cantonref19_Post_Double_j2 ((([] : List S_api_Mail) ++ l3) ++ ([x12] : List S_api_Mail)))
def m_cantonref19_Post_Double (l3 : List S_api_Mail) (x4 : Int) : Option (Bool × (List S_api_Mail)) :=
  if (decide (x4 < 0)) = true then (m_cantonref19_Post_Double_j1 l3 x4 true) else (if (decide (x4 ≥ (l3.length : Int))) = true then (m_cantonref19_Post_Double_j1 l3 x4 true) else (m_cantonref19_Post_Double_j1 l3 x4 (decide ((l3.length : Int) ≥ 400))))
set_option maxRecDepth 20000 in
set_option maxHeartbeats 1000000 in
theorem c_cantonref19_Post_Double {w : World} {Fo : List Ob} {rs : List Rp} (p1 : Nat) (v2 : Value) (l3 : List S_api_Mail) (x4 : Int) (H : Sep w (Blk p1 29 [v2] :: Row 32 k_api_Mail v2 l3 :: Fo) rs) {r : Bool × (List S_api_Mail)} (hm : m_cantonref19_Post_Double l3 x4 = some r) :
    Calls Try.prog 20 [.pointer (some ⟨p1, 0, none⟩), .int .i64 x4].toArray w (Ret fun v w' => ∃ (v5002 : Value), .bool r.1 = v ∧ Sep w' (Blk p1 29 [v5002] :: Row 32 k_api_Mail v5002 r.2 :: Fo) (rs)) := by
 unfold m_cantonref19_Post_Double at hm
 refine enter Try.func20 rfl Try.ntmps20 rfl fun a E => ?_
 simp only [enum, Nat.reduceAdd] at E
 refine wp_seq ?_
 refine wp_region_lit ?_
 refine sv E rfl rfl rfl (x_assign E rfl rfl) ?_
 clear a E;intro a E
 refine wpList_nil ?_
 refine q_then ?_
 refine wp_seq ?_
 refine wp_seq_cut (fun a w => ∃ (b5 : Bool) (rs6 : List Rp), Env 42 a [(0, .pointer (some ⟨p1, 0, none⟩)), (1, .int .i64 x4), (23, .bool b5)] ∧ Sep w (Blk p1 29 [v2] :: Row 32 k_api_Mail v2 l3 :: Fo) rs6 ∧ (∀ r, r ∈ rs → r ∈ rs6) ∧ m_cantonref19_Post_Double_j1 l3 x4 b5 = some r) ?_ ?_
 ·refine wp_region_lit ?_
  refine sv E rfl rfl rfl (x_move E rfl rfl) ?_
  clear a E;intro a E
  refine sv E rfl rfl rfl (x_bin E rfl rfl rfl rfl) ?_
  clear a E;intro a E
  refine sv E rfl rfl rfl (x_move E rfl rfl) ?_
  clear a E;intro a E
  rcases Bool.eq_false_or_eq_true (decide (x4 < 0)) with hb83 | hb83
  ·rw [if_t hb83] at hm
   refine st_no E (wf' E rfl rfl rfl rfl hb83 rfl) rfl rfl ?_
   clear a E;intro a E
   refine st_no E (wf' E rfl rfl rfl rfl hb83 rfl) rfl rfl ?_
   clear a E;intro a E
   refine st_no E (wf' E rfl rfl rfl rfl hb83 rfl) rfl rfl ?_
   clear a E;intro a E
   refine st_no E (wf' E rfl rfl rfl rfl hb83 rfl) rfl rfl ?_
   clear a E;intro a E
   refine st_no E (wf' E rfl rfl rfl rfl hb83 rfl) rfl rfl ?_
   clear a E;intro a E
   refine st_no E (wf' E rfl rfl rfl rfl hb83 rfl) rfl rfl ?_
   clear a E;intro a E
   refine st_no E (wf' E rfl rfl rfl rfl hb83 rfl) rfl rfl ?_
   clear a E;intro a E
   refine sv E rfl rfl rfl (x_pickT E rfl rfl hb83 rfl) ?_
   clear a E;intro a E
   refine sv E rfl rfl rfl (x_move E rfl rfl) ?_
   clear a E;intro a E
   refine st_no E (wf E rfl rfl rfl rfl rfl) rfl rfl ?_
   clear a E;intro a E
   refine st_no E (wf E rfl rfl rfl rfl rfl) rfl rfl ?_
   clear a E;intro a E
   refine st_no E (wf E rfl rfl rfl rfl rfl) rfl rfl ?_
   clear a E;intro a E
   refine st_no E (wf E rfl rfl rfl rfl rfl) rfl rfl ?_
   clear a E;intro a E
   refine st_no E (wf E rfl rfl rfl rfl rfl) rfl rfl ?_
   clear a E;intro a E
   refine st_no E (wf E rfl rfl rfl rfl rfl) rfl rfl ?_
   clear a E;intro a E
   refine sv E rfl rfl rfl (x_pickT E rfl rfl rfl rfl) ?_
   clear a E;intro a E
   refine wpList_nil ?_
   refine q_then ?_
   exact ⟨true, _, (((E.nil.keep E 23 rfl).keep E 1 rfl).keep E 0 rfl), H, fun r hr => hr, hm⟩
  ·rw [if_f hb83] at hm
   refine st_val E (ws' E rfl rfl rfl rfl hb83) rfl rfl (x_move E rfl rfl) ?_
   clear a E;intro a E
   refine st_val E (ws' E rfl rfl rfl rfl hb83) rfl rfl (x_move E rfl rfl) ?_
   clear a E;intro a E
   refine st_val E (ws' E rfl rfl rfl rfl hb83) rfl rfl (x_nil E rfl rfl) ?_
   clear a E;intro a E
   refine st_val E (ws' E rfl rfl rfl rfl hb83) rfl rfl (x_fa E rfl rfl (v := .pointer (some ⟨p1, 0, none⟩)) (fa29_0 _ _)) ?_
   clear a E;intro a E
   refine st_val E (ws' E rfl rfl rfl rfl hb83) rfl rfl (x_ldB (i := 0) E H rfl rfl rfl rfl Try.underlying27 rfl) ?_
   clear a E;intro a E
   refine st_val E (ws' E rfl rfl rfl rfl hb83) rfl rfl (x_lenR (i := 1) E H rfl rfl rfl Try.underlying27) ?_
   clear a E;intro a E
   refine st_val E (ws' E rfl rfl rfl rfl hb83) rfl rfl (x_bin E rfl rfl rfl rfl) ?_
   clear a E;intro a E
   refine sv E rfl rfl rfl (x_pickF E rfl rfl hb83 rfl) ?_
   clear a E;intro a E
   refine sv E rfl rfl rfl (x_move E rfl rfl) ?_
   clear a E;intro a E
   rcases Bool.eq_false_or_eq_true (decide (x4 ≥ (l3.length : Int))) with hb84 | hb84
   ·rw [if_t hb84] at hm
    refine st_no E (wf' E rfl rfl rfl rfl hb84 rfl) rfl rfl ?_
    clear a E;intro a E
    refine st_no E (wf' E rfl rfl rfl rfl hb84 rfl) rfl rfl ?_
    clear a E;intro a E
    refine st_no E (wf' E rfl rfl rfl rfl hb84 rfl) rfl rfl ?_
    clear a E;intro a E
    refine st_no E (wf' E rfl rfl rfl rfl hb84 rfl) rfl rfl ?_
    clear a E;intro a E
    refine st_no E (wf' E rfl rfl rfl rfl hb84 rfl) rfl rfl ?_
    clear a E;intro a E
    refine st_no E (wf' E rfl rfl rfl rfl hb84 rfl) rfl rfl ?_
    clear a E;intro a E
    refine sv E rfl rfl rfl (x_pickT E rfl rfl hb84 rfl) ?_
    clear a E;intro a E
    refine wpList_nil ?_
    refine q_then ?_
    exact ⟨true, _, (((E.nil.keep E 23 rfl).keep E 1 rfl).keep E 0 rfl), H, fun r hr => hr, hm⟩
   ·rw [if_f hb84] at hm
    refine st_val E (ws' E rfl rfl rfl rfl hb84) rfl rfl (x_move E rfl rfl) ?_
    clear a E;intro a E
    refine st_val E (ws' E rfl rfl rfl rfl hb84) rfl rfl (x_nil E rfl rfl) ?_
    clear a E;intro a E
    refine st_val E (ws' E rfl rfl rfl rfl hb84) rfl rfl (x_fa E rfl rfl (v := .pointer (some ⟨p1, 0, none⟩)) (fa29_0 _ _)) ?_
    clear a E;intro a E
    refine st_val E (ws' E rfl rfl rfl rfl hb84) rfl rfl (x_ldB (i := 0) E H rfl rfl rfl rfl Try.underlying27 rfl) ?_
    clear a E;intro a E
    refine st_val E (ws' E rfl rfl rfl rfl hb84) rfl rfl (x_lenR (i := 1) E H rfl rfl rfl Try.underlying27) ?_
    clear a E;intro a E
    refine st_val E (ws' E rfl rfl rfl rfl hb84) rfl rfl (x_bin E rfl rfl rfl rfl) ?_
    clear a E;intro a E
    refine sv E rfl rfl rfl (x_pickF E rfl rfl hb84 rfl) ?_
    clear a E;intro a E
    refine wpList_nil ?_
    refine q_then ?_
    exact ⟨decide ((l3.length : Int) ≥ 400), _, (((E.nil.keep E 23 rfl).keep E 1 rfl).keep E 0 rfl), H, fun r hr => hr, hm⟩
 ·clear E H hm
  rintro a w ⟨b5, rs6, E, H, hs7, hm⟩
  unfold m_cantonref19_Post_Double_j1 at hm
  refine wp_if E rfl ?_ ?_
  ·intro hb
   rw [if_t hb] at hm
   clear hb
   refine wp_seq ?_
   refine wp_region_lit ?_
   refine sv E rfl rfl rfl (x_assign E rfl rfl) ?_
   clear a E;intro a E
   refine wpList_nil ?_
   refine q_then ?_
   refine wp_ret ?_
   refine q_thenR ?_
   refine out1 E rfl rfl ?_
   obtain rfl := Option.some.inj hm
   exact ⟨v2, rfl, H.reads (fun r hr => hs7 r hr)⟩
  ·intro hb
   rw [if_f hb] at hm
   clear hb
   refine wp_skip ?_
   refine q_then ?_
   refine wp_seq_cut (fun a w => ∃ (v8 : Value) (l9 : (List S_api_Mail)) (rs10 : List Rp), Env 42 a [] ∧ Sep w (Blk p1 29 [v8] :: Row 32 k_api_Mail v8 l9 :: Fo) rs10 ∧ (∀ r, r ∈ rs → r ∈ rs10) ∧ m_cantonref19_Post_Double_j2 l9 = some r) ?_ ?_
   ·obtain ⟨x12, hx13, hm⟩ := bnd hm
    obtain ⟨u20, hx21, hm⟩ := bnd hm
    obtain ⟨u24, hx25, hm⟩ := bnd hm
    replace H := H.thaw (i := 1) rfl
    obtain ⟨u47, H⟩ := H.raw (.head _)
    replace H : Sep w (Blk p1 29 [v2] :: Fo) (rRow k_api_Mail v2 l3 u47 :: rSl k_api_Mail v2 l3 :: rs6) := H
    have hI : Still [Blk p1 29 [v2]] [rRow k_api_Mail v2 l3 u47] { w with drawn := w.drawn + 1 } := ⟨_, _, H.kept (Kp.drawn _ w _), (subO_cons (.head _) (subO_nil)), (sub_cons (.head _) (sub_nil))⟩
    refine wp_drawT _ (.go 0 0 (.go 2 0 (.go 3 0 (.go 4 0 (.go 5 0 (.go 7 0 (.go 8 0 (.go 9 0 (.go 10 0 (.go 11 0 (.go 12 0 (.go 13 0 (.alt 1 (.alt 6 (.go 14 1 (.go 15 1 (.go 16 2 (.go 17 2 (.go 18 2 .nil))))) 14 (.go 6 1 (.go 15 1 (.go 16 2 (.go 17 2 (.go 18 2 .nil)))))) 14 (.go 1 1 (.go 6 1 (.go 15 1 (.go 16 2 (.go 17 2 (.go 18 2 .nil))))))))))))))))))) [16, 17, 18] mixedOk (by kernel_rfl) (fun _ _ _ h => False.elim h.2) hI ?_
    replace H := H.kept (Kp.drawn _ w (w.drawn + 1))
    generalize ({ w with drawn := w.drawn + 1 } : World) = w at H hI ⊢
    replace hI : ∃ W, Still [Blk p1 29 [v2]] [rRow k_api_Mail v2 l3 u47] W := ⟨_, hI⟩
    obtain ⟨W0, hI⟩ := hI
    refine ot_val E rfl (wn rfl) rfl rfl (fun w hW => (x_move E rfl rfl)) ?_
    clear a E;intro a E
    refine ot_val E rfl (wn rfl) rfl rfl (fun w hW => (x_move E rfl rfl)) ?_
    clear a E;intro a E
    refine ot_val E rfl (wn rfl) rfl rfl (fun w hW => (x_nil E rfl rfl)) ?_
    clear a E;intro a E
    refine ot_val E rfl (wn rfl) rfl rfl (fun w hW => x_fa E rfl rfl (v := .pointer (some ⟨p1, 0, none⟩)) (fa29_0 _ _)) ?_
    clear a E;intro a E
    refine ot_val E rfl (wn rfl) rfl rfl (fun w hW => x_ld E rfl rfl (ib_ld (.head _) rfl Try.underlying27 rfl w hW)) ?_
    clear a E;intro a E
    refine ot_val E rfl (wn rfl) rfl rfl (fun w hW => (x_move E rfl rfl)) ?_
    clear a E;intro a E
    refine ot_val E rfl (wn rfl) rfl rfl (fun w hW => (x_nil E rfl rfl)) ?_
    clear a E;intro a E
    refine ot_val E rfl (wn rfl) rfl rfl (fun w hW => x_fa E rfl rfl (v := .pointer (some ⟨p1, 0, none⟩)) (fa29_0 _ _)) ?_
    clear a E;intro a E
    refine ot_val E rfl (wn rfl) rfl rfl (fun w hW => x_ld E rfl rfl (ib_ld (.head _) rfl Try.underlying27 rfl w hW)) ?_
    clear a E;intro a E
    refine ot_val E rfl (wn rfl) rfl rfl (fun w hW => (x_move E rfl rfl)) ?_
    clear a E;intro a E
    obtain ⟨q50, u53, hx51, hx52⟩ := dr_ixW (P := Try.prog) (k := .i64) hI (dr_mem (.head _)) Try.underlying27 sz32 hx13
    refine ot_val E rfl (wn rfl) rfl rfl (fun w hW => x_ixA E rfl rfl rfl (hx51 w)) ?_
    clear a E;intro a E
    refine ot_val E rfl (wn rfl) rfl rfl (fun w hW => x_ld E rfl rfl (ir_ldN (cs := [.int .i64 x12.From, .int .i64 x12.To, .string x12.Data]) (DR.ir (dr_at hx52)) (fun _ _ _ h => k_api_Mail_open h) Try.underlying32 rfl sz32 w hW)) ?_
    clear a E;intro a E
    refine ot_alt rfl rfl ?_ ?_
    ·refine st_bsO (e := 32) (d := k_api_Mail) (cs := []) (xs := []) E H (wn rfl) rfl rfl (ps := []) (parts := []) rfl rfl (by kernel_rfl) rfl rfl (fun ok hr => Rows.nil _ _ _) ?_
     clear E H; clear a; clear w; intro v54 w a H E
     refine wpList_nil ?_
     refine q_then ?_
     replace H : Sep w (Row 32 k_api_Mail v54 ([] : List S_api_Mail) :: Blk p1 29 [v2] :: Fo) (rRow k_api_Mail v2 l3 u47 :: rSl k_api_Mail v2 l3 :: rs6) := H
     refine ⟨⟨_, _, H, (subO_cons (.tail _ (.head _)) (subO_nil)), (sub_cons (.head _) (sub_nil))⟩, ?_⟩
     refine ot_alt rfl rfl ?_ ?_
     ·refine st_append (i := 0) E H (wn rfl) rfl rfl rfl rfl rfl rfl (src_rd (.tail _ (.head _))) Try.underlying27 inf32 rfl (ck_of hx21) rfl ?_
      clear E H; clear a; clear w; intro v55 w a H E
      refine wpList_nil ?_
      refine q_then ?_
      replace H : Sep w (Row 32 k_api_Mail v55 (([] : List S_api_Mail) ++ l3) :: Blk p1 29 [v2] :: Fo) (rRow k_api_Mail v2 l3 u47 :: rSl k_api_Mail v2 l3 :: rs6) := H
      refine ⟨⟨_, _, H, (subO_cons (.tail _ (.head _)) (subO_nil)), (sub_cons (.head _) (sub_nil))⟩, ?_⟩
      refine ot_op rfl ?_
      refine st_bsR (e := 32) (d := k_api_Mail) (cs := [.int .i64 x12.From, .int .i64 x12.To, .string x12.Data]) (xs := [x12]) E H (wn rfl) rfl rfl (ps := [(0, .tmp 37)]) (parts := [(0, .agg #[.int .i64 x12.From, .int .i64 x12.To, .string x12.Data])]) rfl (by simp only [List.map]; rw [E.eval (x := .tmp 37) (v := .agg #[.int .i64 x12.From, .int .i64 x12.To, .string x12.Data]) rfl]) (by kernel_rfl) rfl (fun ok hr => (Rows.single (d := k_api_Mail) (cs := [.int .i64 x12.From, .int .i64 x12.To, .string x12.Data]) (x := x12) k_api_Mail_mk)) ?_
      clear E H; clear a; clear w; intro v58 w a H E
      refine wpList_nil ?_
      refine q_then ?_
      replace H : Sep w (Row 32 k_api_Mail v55 (([] : List S_api_Mail) ++ l3) :: Blk p1 29 [v2] :: Fo) (rSl k_api_Mail v58 ([x12] : List S_api_Mail) :: rRow k_api_Mail v2 l3 u47 :: rSl k_api_Mail v2 l3 :: rs6) := H
      refine ⟨⟨_, _, H, (subO_cons (.tail _ (.head _)) (subO_nil)), (sub_cons (.tail _ (.head _)) (sub_nil))⟩, ?_⟩
      refine ot_op rfl ?_
      refine st_append (i := 0) E H (wn rfl) rfl rfl rfl rfl rfl rfl (src_rd (.head _)) Try.underlying27 inf32 rfl (ck_of hx25) rfl ?_
      clear E H; clear a; clear w; intro v59 w a H E
      refine wpList_nil ?_
      refine q_then ?_
      replace H : Sep w (Row 32 k_api_Mail v59 ((([] : List S_api_Mail) ++ l3) ++ ([x12] : List S_api_Mail)) :: Blk p1 29 [v2] :: Fo) (rSl k_api_Mail v58 ([x12] : List S_api_Mail) :: rRow k_api_Mail v2 l3 u47 :: rSl k_api_Mail v2 l3 :: rs6) := H
      refine ⟨⟨_, _, H, (subO_cons (.tail _ (.head _)) (subO_nil)), (sub_cons (.tail _ (.head _)) (sub_nil))⟩, ?_⟩
      refine ot_tail rfl ?_
      refine sv E rfl rfl rfl (x_nil E rfl rfl) ?_
      clear a E;intro a E
      refine wpList_nil ?_
      refine q_then ?_
      refine ot_tail rfl ?_
      refine sv E rfl rfl rfl (x_fa E rfl rfl (v := .pointer (some ⟨p1, 0, none⟩)) (fa29_0 _ _)) ?_
      clear a E;intro a E
      refine wpList_nil ?_
      refine q_then ?_
      refine ot_tail rfl ?_
      obtain ⟨q62, x63, rfl⟩ := H.rowform (i := 0) rfl
      refine st_st (i := 1) E H (wn rfl) rfl (us := [(.slice q62 ((([] : List S_api_Mail) ++ l3) ++ ([x12] : List S_api_Mail)).length x63)]) rfl rfl rfl rfl rfl sz27 rfl rfl ?_
      clear H; clear w; intro w H
      replace H : Sep w (Row 32 k_api_Mail (.slice q62 ((([] : List S_api_Mail) ++ l3) ++ ([x12] : List S_api_Mail)).length x63) ((([] : List S_api_Mail) ++ l3) ++ ([x12] : List S_api_Mail)) :: Blk p1 29 [(.slice q62 ((([] : List S_api_Mail) ++ l3) ++ ([x12] : List S_api_Mail)).length x63)] :: Fo) _ := H
      refine wpList_nil ?_
      refine q_then ?_
      refine ot_nil ?_
      clear hI
      refine q_then ?_
      replace H := H.front 0 rfl
      replace H := H.front 1 rfl
      exact ⟨(.slice q62 ((([] : List S_api_Mail) ++ l3) ++ ([x12] : List S_api_Mail)).length x63), (([] : List S_api_Mail) ++ l3) ++ ([x12] : List S_api_Mail), _, E.nil, H, fun r hr => .tail _ (.tail _ (.tail _ (hs7 r hr))), hm⟩
     ·refine st_bsR (e := 32) (d := k_api_Mail) (cs := [.int .i64 x12.From, .int .i64 x12.To, .string x12.Data]) (xs := [x12]) E H (wn rfl) rfl rfl (ps := [(0, .tmp 37)]) (parts := [(0, .agg #[.int .i64 x12.From, .int .i64 x12.To, .string x12.Data])]) rfl (by simp only [List.map]; rw [E.eval (x := .tmp 37) (v := .agg #[.int .i64 x12.From, .int .i64 x12.To, .string x12.Data]) rfl]) (by kernel_rfl) rfl (fun ok hr => (Rows.single (d := k_api_Mail) (cs := [.int .i64 x12.From, .int .i64 x12.To, .string x12.Data]) (x := x12) k_api_Mail_mk)) ?_
      clear E H; clear a; clear w; intro v64 w a H E
      refine wpList_nil ?_
      refine q_then ?_
      replace H : Sep w (Row 32 k_api_Mail v54 ([] : List S_api_Mail) :: Blk p1 29 [v2] :: Fo) (rSl k_api_Mail v64 ([x12] : List S_api_Mail) :: rRow k_api_Mail v2 l3 u47 :: rSl k_api_Mail v2 l3 :: rs6) := H
      refine ⟨⟨_, _, H, (subO_cons (.tail _ (.head _)) (subO_nil)), (sub_cons (.tail _ (.head _)) (sub_nil))⟩, ?_⟩
      refine ot_op rfl ?_
      refine st_append (i := 0) E H (wn rfl) rfl rfl rfl rfl rfl rfl (src_rd (.tail _ (.tail _ (.head _)))) Try.underlying27 inf32 rfl (ck_of hx21) rfl ?_
      clear E H; clear a; clear w; intro v65 w a H E
      refine wpList_nil ?_
      refine q_then ?_
      replace H : Sep w (Row 32 k_api_Mail v65 (([] : List S_api_Mail) ++ l3) :: Blk p1 29 [v2] :: Fo) (rSl k_api_Mail v64 ([x12] : List S_api_Mail) :: rRow k_api_Mail v2 l3 u47 :: rSl k_api_Mail v2 l3 :: rs6) := H
      refine ⟨⟨_, _, H, (subO_cons (.tail _ (.head _)) (subO_nil)), (sub_cons (.tail _ (.head _)) (sub_nil))⟩, ?_⟩
      refine ot_op rfl ?_
      refine st_append (i := 0) E H (wn rfl) rfl rfl rfl rfl rfl rfl (src_rd (.head _)) Try.underlying27 inf32 rfl (ck_of hx25) rfl ?_
      clear E H; clear a; clear w; intro v68 w a H E
      refine wpList_nil ?_
      refine q_then ?_
      replace H : Sep w (Row 32 k_api_Mail v68 ((([] : List S_api_Mail) ++ l3) ++ ([x12] : List S_api_Mail)) :: Blk p1 29 [v2] :: Fo) (rSl k_api_Mail v64 ([x12] : List S_api_Mail) :: rRow k_api_Mail v2 l3 u47 :: rSl k_api_Mail v2 l3 :: rs6) := H
      refine ⟨⟨_, _, H, (subO_cons (.tail _ (.head _)) (subO_nil)), (sub_cons (.tail _ (.head _)) (sub_nil))⟩, ?_⟩
      refine ot_tail rfl ?_
      refine sv E rfl rfl rfl (x_nil E rfl rfl) ?_
      clear a E;intro a E
      refine wpList_nil ?_
      refine q_then ?_
      refine ot_tail rfl ?_
      refine sv E rfl rfl rfl (x_fa E rfl rfl (v := .pointer (some ⟨p1, 0, none⟩)) (fa29_0 _ _)) ?_
      clear a E;intro a E
      refine wpList_nil ?_
      refine q_then ?_
      refine ot_tail rfl ?_
      obtain ⟨q71, x72, rfl⟩ := H.rowform (i := 0) rfl
      refine st_st (i := 1) E H (wn rfl) rfl (us := [(.slice q71 ((([] : List S_api_Mail) ++ l3) ++ ([x12] : List S_api_Mail)).length x72)]) rfl rfl rfl rfl rfl sz27 rfl rfl ?_
      clear H; clear w; intro w H
      replace H : Sep w (Row 32 k_api_Mail (.slice q71 ((([] : List S_api_Mail) ++ l3) ++ ([x12] : List S_api_Mail)).length x72) ((([] : List S_api_Mail) ++ l3) ++ ([x12] : List S_api_Mail)) :: Blk p1 29 [(.slice q71 ((([] : List S_api_Mail) ++ l3) ++ ([x12] : List S_api_Mail)).length x72)] :: Fo) _ := H
      refine wpList_nil ?_
      refine q_then ?_
      refine ot_nil ?_
      clear hI
      refine q_then ?_
      replace H := H.front 0 rfl
      replace H := H.front 1 rfl
      exact ⟨(.slice q71 ((([] : List S_api_Mail) ++ l3) ++ ([x12] : List S_api_Mail)).length x72), (([] : List S_api_Mail) ++ l3) ++ ([x12] : List S_api_Mail), _, E.nil, H, fun r hr => .tail _ (.tail _ (.tail _ (hs7 r hr))), hm⟩
    ·refine st_bsR (e := 32) (d := k_api_Mail) (cs := [.int .i64 x12.From, .int .i64 x12.To, .string x12.Data]) (xs := [x12]) E H (wn rfl) rfl rfl (ps := [(0, .tmp 37)]) (parts := [(0, .agg #[.int .i64 x12.From, .int .i64 x12.To, .string x12.Data])]) rfl (by simp only [List.map]; rw [E.eval (x := .tmp 37) (v := .agg #[.int .i64 x12.From, .int .i64 x12.To, .string x12.Data]) rfl]) (by kernel_rfl) rfl (fun ok hr => (Rows.single (d := k_api_Mail) (cs := [.int .i64 x12.From, .int .i64 x12.To, .string x12.Data]) (x := x12) k_api_Mail_mk)) ?_
     clear E H; clear a; clear w; intro v73 w a H E
     refine wpList_nil ?_
     refine q_then ?_
     replace H : Sep w (Blk p1 29 [v2] :: Fo) (rSl k_api_Mail v73 ([x12] : List S_api_Mail) :: rRow k_api_Mail v2 l3 u47 :: rSl k_api_Mail v2 l3 :: rs6) := H
     refine ⟨⟨_, _, H, (subO_cons (.head _) (subO_nil)), (sub_cons (.tail _ (.head _)) (sub_nil))⟩, ?_⟩
     refine ot_op rfl ?_
     refine st_bsO (e := 32) (d := k_api_Mail) (cs := []) (xs := []) E H (wn rfl) rfl rfl (ps := []) (parts := []) rfl rfl (by kernel_rfl) rfl rfl (fun ok hr => Rows.nil _ _ _) ?_
     clear E H; clear a; clear w; intro v74 w a H E
     refine wpList_nil ?_
     refine q_then ?_
     replace H : Sep w (Row 32 k_api_Mail v74 ([] : List S_api_Mail) :: Blk p1 29 [v2] :: Fo) (rSl k_api_Mail v73 ([x12] : List S_api_Mail) :: rRow k_api_Mail v2 l3 u47 :: rSl k_api_Mail v2 l3 :: rs6) := H
     refine ⟨⟨_, _, H, (subO_cons (.tail _ (.head _)) (subO_nil)), (sub_cons (.tail _ (.head _)) (sub_nil))⟩, ?_⟩
     refine ot_op rfl ?_
     refine st_append (i := 0) E H (wn rfl) rfl rfl rfl rfl rfl rfl (src_rd (.tail _ (.tail _ (.head _)))) Try.underlying27 inf32 rfl (ck_of hx21) rfl ?_
     clear E H; clear a; clear w; intro v75 w a H E
     refine wpList_nil ?_
     refine q_then ?_
     replace H : Sep w (Row 32 k_api_Mail v75 (([] : List S_api_Mail) ++ l3) :: Blk p1 29 [v2] :: Fo) (rSl k_api_Mail v73 ([x12] : List S_api_Mail) :: rRow k_api_Mail v2 l3 u47 :: rSl k_api_Mail v2 l3 :: rs6) := H
     refine ⟨⟨_, _, H, (subO_cons (.tail _ (.head _)) (subO_nil)), (sub_cons (.tail _ (.head _)) (sub_nil))⟩, ?_⟩
     refine ot_op rfl ?_
     refine st_append (i := 0) E H (wn rfl) rfl rfl rfl rfl rfl rfl (src_rd (.head _)) Try.underlying27 inf32 rfl (ck_of hx25) rfl ?_
     clear E H; clear a; clear w; intro v78 w a H E
     refine wpList_nil ?_
     refine q_then ?_
     replace H : Sep w (Row 32 k_api_Mail v78 ((([] : List S_api_Mail) ++ l3) ++ ([x12] : List S_api_Mail)) :: Blk p1 29 [v2] :: Fo) (rSl k_api_Mail v73 ([x12] : List S_api_Mail) :: rRow k_api_Mail v2 l3 u47 :: rSl k_api_Mail v2 l3 :: rs6) := H
     refine ⟨⟨_, _, H, (subO_cons (.tail _ (.head _)) (subO_nil)), (sub_cons (.tail _ (.head _)) (sub_nil))⟩, ?_⟩
     refine ot_tail rfl ?_
     refine sv E rfl rfl rfl (x_nil E rfl rfl) ?_
     clear a E;intro a E
     refine wpList_nil ?_
     refine q_then ?_
     refine ot_tail rfl ?_
     refine sv E rfl rfl rfl (x_fa E rfl rfl (v := .pointer (some ⟨p1, 0, none⟩)) (fa29_0 _ _)) ?_
     clear a E;intro a E
     refine wpList_nil ?_
     refine q_then ?_
     refine ot_tail rfl ?_
     obtain ⟨q81, x82, rfl⟩ := H.rowform (i := 0) rfl
     refine st_st (i := 1) E H (wn rfl) rfl (us := [(.slice q81 ((([] : List S_api_Mail) ++ l3) ++ ([x12] : List S_api_Mail)).length x82)]) rfl rfl rfl rfl rfl sz27 rfl rfl ?_
     clear H; clear w; intro w H
     replace H : Sep w (Row 32 k_api_Mail (.slice q81 ((([] : List S_api_Mail) ++ l3) ++ ([x12] : List S_api_Mail)).length x82) ((([] : List S_api_Mail) ++ l3) ++ ([x12] : List S_api_Mail)) :: Blk p1 29 [(.slice q81 ((([] : List S_api_Mail) ++ l3) ++ ([x12] : List S_api_Mail)).length x82)] :: Fo) _ := H
     refine wpList_nil ?_
     refine q_then ?_
     refine ot_nil ?_
     clear hI
     refine q_then ?_
     replace H := H.front 0 rfl
     replace H := H.front 1 rfl
     exact ⟨(.slice q81 ((([] : List S_api_Mail) ++ l3) ++ ([x12] : List S_api_Mail)).length x82), (([] : List S_api_Mail) ++ l3) ++ ([x12] : List S_api_Mail), _, E.nil, H, fun r hr => .tail _ (.tail _ (.tail _ (hs7 r hr))), hm⟩
   ·clear E H hm
    rintro a w ⟨v8, l9, rs10, E, H, hs11, hm⟩
    unfold m_cantonref19_Post_Double_j2 at hm
    refine wp_seq ?_
    refine wp_region_lit ?_
    refine sv E rfl rfl rfl (x_assign E rfl rfl) ?_
    clear a E;intro a E
    refine wpList_nil ?_
    refine q_then ?_
    refine wp_ret ?_
    refine out1 E rfl rfl ?_
    obtain rfl := Option.some.inj hm
    exact ⟨v8, rfl, H.reads (fun r hr => hs11 r hr)⟩
end Go.Cb
