/- A function of the program, walked: it comes to its plain function. -/
import Derived.Test.YtbjpjbopfhbkmaaT
import Derived.Test.YtbjpjbopfhbkmaaO8
set_option linter.unusedVariables false
set_option linter.unusedSimpArgs false
namespace Go.Cb
open Go.Proofs Go.RowKit
def m_cantonref19_Post_Take_j1 (l3 : List S_api_Mail) (x4 : Int) (b6 : Bool) : Option (S_api_Mail × Bool × (List S_api_Mail)) :=
  if b6 = true then (some ((⟨0, 0, (ByteArray.mk #[])⟩ : S_api_Mail), false, l3)) else ((idx l3 x4).bind fun x9 => (ck (0 ≤ x4 ∧ x4 ≤ l3.length)).bind fun u14 => (ck (0 ≤ (IntKind.i64.wrap (x4 + 1)) ∧ (IntKind.i64.wrap (x4 + 1)) ≤ l3.length)).bind fun u19 => (ck (([] : List S_api_Mail).length + (l3.take x4.toNat).length ≤ LIM)).bind fun u26 => (ck ((([] : List S_api_Mail) ++ (l3.take x4.toNat)).length + (l3.drop (IntKind.i64.wrap (x4 + 1)).toNat).length ≤ LIM)).bind fun u29 => some ((⟨x9.From, x9.To, x9.Data⟩ : S_api_Mail), true, (([] : List S_api_Mail) ++ (l3.take x4.toNat)) ++ (l3.drop (IntKind.i64.wrap (x4 + 1)).toNat)))
def m_cantonref19_Post_Take (l3 : List S_api_Mail) (x4 : Int) : Option (S_api_Mail × Bool × (List S_api_Mail)) :=
  if (decide (x4 < 0)) = true then (m_cantonref19_Post_Take_j1 l3 x4 true) else (m_cantonref19_Post_Take_j1 l3 x4 (decide (x4 ≥ (l3.length : Int))))
set_option maxRecDepth 20000 in
set_option maxHeartbeats 1000000 in
theorem c_cantonref19_Post_Take {w : World} {Fo : List Ob} {rs : List Rp} (p1 : Nat) (v2 : Value) (l3 : List S_api_Mail) (x4 : Int) (H : Sep w (Blk p1 29 [v2] :: Row 32 k_api_Mail v2 l3 :: Fo) rs) {r : S_api_Mail × Bool × (List S_api_Mail)} (hm : m_cantonref19_Post_Take l3 x4 = some r) :
    Calls Try.prog 18 [.pointer (some ⟨p1, 0, none⟩), .int .i64 x4].toArray w (Ret fun v w' => ∃ (v5003 : Value), .tuple #[.agg #[.int .i64 r.1.From, .int .i64 r.1.To, .string r.1.Data], .bool r.2.1] = v ∧ Sep w' (Blk p1 29 [v5003] :: Row 32 k_api_Mail v5003 r.2.2 :: Fo) (rs)) := by
 unfold m_cantonref19_Post_Take at hm
 refine enter Try.func18 rfl Try.ntmps18 rfl fun a E => ?_
 simp only [enum, Nat.reduceAdd] at E
 refine wp_seq ?_
 refine wp_region_lit ?_
 refine st_alloc E H (wn rfl) rfl rfl (cs := [.int .i64 0, .int .i64 0, .string (ByteArray.mk #[])]) rfl (z := .agg #[.int .i64 0, .int .i64 0, .string ⟨#[]⟩]) (by kernel_rfl) rfl ?_
 clear E H; clear a; clear w; intro p5 w a H E
 refine sv E rfl rfl rfl (x_assign E rfl rfl) ?_
 clear a E;intro a E
 refine wpList_nil ?_
 refine q_then ?_
 refine wp_seq ?_
 refine wp_seq_cut (fun a w => ∃ (b6 : Bool) (rs7 : List Rp), Env 46 a [(0, .pointer (some ⟨p1, 0, none⟩)), (1, .int .i64 x4), (4, .pointer (some ⟨p5, 0, none⟩)), (17, .bool b6)] ∧ Sep w (Blk p1 29 [v2] :: Blk p5 32 [.int .i64 0, .int .i64 0, .string (ByteArray.mk #[])] :: Row 32 k_api_Mail v2 l3 :: Fo) rs7 ∧ (∀ r, r ∈ rs → r ∈ rs7) ∧ m_cantonref19_Post_Take_j1 l3 x4 b6 = some r) ?_ ?_
 ·refine wp_region_lit ?_
  refine sv E rfl rfl rfl (x_move E rfl rfl) ?_
  clear a E;intro a E
  refine sv E rfl rfl rfl (x_bin E rfl rfl rfl rfl) ?_
  clear a E;intro a E
  refine sv E rfl rfl rfl (x_move E rfl rfl) ?_
  clear a E;intro a E
  rcases Bool.eq_false_or_eq_true (decide (x4 < 0)) with hb33 | hb33
  ·rw [if_t hb33] at hm
   refine st_no E (wf' E rfl rfl rfl rfl hb33 rfl) rfl rfl ?_
   clear a E;intro a E
   refine st_no E (wf' E rfl rfl rfl rfl hb33 rfl) rfl rfl ?_
   clear a E;intro a E
   refine st_no E (wf' E rfl rfl rfl rfl hb33 rfl) rfl rfl ?_
   clear a E;intro a E
   refine st_no E (wf' E rfl rfl rfl rfl hb33 rfl) rfl rfl ?_
   clear a E;intro a E
   refine st_no E (wf' E rfl rfl rfl rfl hb33 rfl) rfl rfl ?_
   clear a E;intro a E
   refine st_no E (wf' E rfl rfl rfl rfl hb33 rfl) rfl rfl ?_
   clear a E;intro a E
   refine st_no E (wf' E rfl rfl rfl rfl hb33 rfl) rfl rfl ?_
   clear a E;intro a E
   refine sv E rfl rfl rfl (x_pickT E rfl rfl hb33 rfl) ?_
   clear a E;intro a E
   refine wpList_nil ?_
   refine q_then ?_
   replace H := H.front 2 rfl
   replace H := H.front 1 rfl
   replace H := H.front 2 rfl
   exact ⟨true, _, ((((E.nil.keep E 17 rfl).keep E 4 rfl).keep E 1 rfl).keep E 0 rfl), H, fun r hr => hr, hm⟩
  ·rw [if_f hb33] at hm
   refine st_val E (ws' E rfl rfl rfl rfl hb33) rfl rfl (x_move E rfl rfl) ?_
   clear a E;intro a E
   refine st_val E (ws' E rfl rfl rfl rfl hb33) rfl rfl (x_move E rfl rfl) ?_
   clear a E;intro a E
   refine st_val E (ws' E rfl rfl rfl rfl hb33) rfl rfl (x_nil E rfl rfl) ?_
   clear a E;intro a E
   refine st_val E (ws' E rfl rfl rfl rfl hb33) rfl rfl (x_fa E rfl rfl (v := .pointer (some ⟨p1, 0, none⟩)) (fa29_0 _ _)) ?_
   clear a E;intro a E
   refine st_val E (ws' E rfl rfl rfl rfl hb33) rfl rfl (x_ldB (i := 1) E H rfl rfl rfl rfl Try.underlying27 rfl) ?_
   clear a E;intro a E
   refine st_val E (ws' E rfl rfl rfl rfl hb33) rfl rfl (x_lenR (i := 2) E H rfl rfl rfl Try.underlying27) ?_
   clear a E;intro a E
   refine st_val E (ws' E rfl rfl rfl rfl hb33) rfl rfl (x_bin E rfl rfl rfl rfl) ?_
   clear a E;intro a E
   refine sv E rfl rfl rfl (x_pickF E rfl rfl hb33 rfl) ?_
   clear a E;intro a E
   refine wpList_nil ?_
   refine q_then ?_
   replace H := H.front 2 rfl
   replace H := H.front 1 rfl
   replace H := H.front 2 rfl
   exact ⟨decide (x4 ≥ (l3.length : Int)), _, ((((E.nil.keep E 17 rfl).keep E 4 rfl).keep E 1 rfl).keep E 0 rfl), H, fun r hr => hr, hm⟩
 ·clear E H hm
  rintro a w ⟨b6, rs7, E, H, hs8, hm⟩
  unfold m_cantonref19_Post_Take_j1 at hm
  refine wp_if E rfl ?_ ?_
  ·intro hb
   rw [if_t hb] at hm
   clear hb
   refine wp_seq ?_
   refine wp_region_lit ?_
   refine sv E rfl rfl rfl (x_build E (ps := []) (vs := []) rfl rfl (v := .agg #[.int .i64 0, .int .i64 0, .string (ByteArray.mk #[])]) (by kernel_rfl)) ?_
   clear a E;intro a E
   refine st_st (i := 1) E H (wn rfl) rfl (us := [.int .i64 0, .int .i64 0, .string (ByteArray.mk #[])]) rfl rfl rfl rfl rfl sz32 rfl rfl ?_
   clear H; clear w; intro w H
   replace H : Sep w (Blk p1 29 [v2] :: Blk p5 32 [.int .i64 0, .int .i64 0, .string (ByteArray.mk #[])] :: Row 32 k_api_Mail v2 l3 :: Fo) _ := H
   refine sv E rfl rfl rfl (x_assign E rfl rfl) ?_
   clear a E;intro a E
   refine wpList_nil ?_
   refine q_then ?_
   refine wp_ret ?_
   refine q_thenR ?_
   refine outR2 E rfl (rvBN (i := 1) (us := [.int .i64 0, .int .i64 0, .string (ByteArray.mk #[])]) H rfl rfl rfl Try.underlying32 rfl sz32) (rvT rfl) ?_
   replace H := H.drop 1
   obtain rfl := Option.some.inj hm
   exact ⟨v2, rfl, H.reads (fun r hr => hs8 r hr)⟩
  ·intro hb
   rw [if_f hb] at hm
   clear hb
   refine wp_skip ?_
   refine q_then ?_
   refine wp_seq ?_
   refine wp_region_lit ?_
   refine sv E rfl rfl rfl (x_move E rfl rfl) ?_
   clear a E;intro a E
   refine sv E rfl rfl rfl (x_nil E rfl rfl) ?_
   clear a E;intro a E
   refine sv E rfl rfl rfl (x_fa E rfl rfl (v := .pointer (some ⟨p1, 0, none⟩)) (fa29_0 _ _)) ?_
   clear a E;intro a E
   refine sv E rfl rfl rfl (x_ldB (i := 0) E H rfl rfl rfl rfl Try.underlying27 rfl) ?_
   clear a E;intro a E
   refine sv E rfl rfl rfl (x_move E rfl rfl) ?_
   clear a E;intro a E
   replace H := H.thaw (i := 2) rfl
   obtain ⟨x9, hx10, hm⟩ := bnd hm
   refine st_ixS E H (wn rfl) rfl rfl rfl rfl rfl (.head _) Try.underlying27 sz32 hx10 ?_
   clear E H; clear a; intro q11 a H E
   refine st_ldN E H (wn rfl) rfl rfl rfl rfl (.head _) Try.underlying32 rfl sz32 ?_
   clear E H; clear a; intro u12 a H E
   obtain ⟨_, hcs⟩ := H.rd (.head _)
   obtain rfl := k_api_Mail_open hcs
   clear hcs
   refine st_alloc E H (wn rfl) rfl rfl (cs := [.int .i64 0, .int .i64 0, .string (ByteArray.mk #[])]) rfl (z := .agg #[.int .i64 0, .int .i64 0, .string ⟨#[]⟩]) (by kernel_rfl) rfl ?_
   clear E H; clear a; clear w; intro p13 w a H E
   refine st_st (i := 0) E H (wn rfl) rfl (us := [.int .i64 x9.From, .int .i64 x9.To, .string x9.Data]) rfl rfl rfl rfl rfl sz32 rfl rfl ?_
   clear H; clear w; intro w H
   replace H : Sep w (Blk p13 32 [.int .i64 x9.From, .int .i64 x9.To, .string x9.Data] :: Blk p1 29 [v2] :: Blk p5 32 [.int .i64 0, .int .i64 0, .string (ByteArray.mk #[])] :: Fo) _ := H
   refine wpList_nil ?_
   refine q_then ?_
   refine wp_seq ?_
   replace H : Sep w (Blk p13 32 [.int .i64 x9.From, .int .i64 x9.To, .string x9.Data] :: Blk p1 29 [v2] :: Blk p5 32 [.int .i64 0, .int .i64 0, .string (ByteArray.mk #[])] :: Fo) (rCs k_api_Mail [.int .i64 x9.From, .int .i64 x9.To, .string x9.Data] x9 :: rAt k_api_Mail q11 x9 :: rSl k_api_Mail v2 l3 :: rs7) := H
   have hI : Still [Blk p1 29 [v2]] [rSl k_api_Mail v2 l3] { w with drawn := w.drawn + 1 } := ⟨_, _, H.kept (Kp.drawn _ w _), (subO_cons (.tail _ (.head _)) (subO_nil)), (sub_cons (.tail _ (.tail _ (.head _))) (sub_nil))⟩
   refine wp_draw _ [(0, 0), (2, 0), (3, 0), (4, 0), (5, 0), (6, 0), (7, 0), (9, 0), (10, 0), (11, 0), (12, 0), (13, 0), (14, 0), (15, 0), (1, 1), (8, 1), (16, 1), (17, 2), (18, 2), (19, 2)] mixedOk (by kernel_rfl) (fun _ _ _ h => False.elim h.2) hI ?_
   replace H := H.kept (Kp.drawn _ w (w.drawn + 1))
   generalize ({ w with drawn := w.drawn + 1 } : World) = w at H hI ⊢
   replace hI : ∃ W, Still [Blk p1 29 [v2]] [rSl k_api_Mail v2 l3] W := ⟨_, hI⟩
   obtain ⟨W0, hI⟩ := hI
   refine fr_val E rfl (wn rfl) rfl rfl (fun w hW => (x_move E rfl rfl)) ?_
   clear a E;intro a E
   refine fr_val E rfl (wn rfl) rfl rfl (fun w hW => (x_move E rfl rfl)) ?_
   clear a E;intro a E
   refine fr_val E rfl (wn rfl) rfl rfl (fun w hW => (x_nil E rfl rfl)) ?_
   clear a E;intro a E
   refine fr_val E rfl (wn rfl) rfl rfl (fun w hW => x_fa E rfl rfl (v := .pointer (some ⟨p1, 0, none⟩)) (fa29_0 _ _)) ?_
   clear a E;intro a E
   refine fr_val E rfl (wn rfl) rfl rfl (fun w hW => x_ld E rfl rfl (ib_ld (.head _) rfl Try.underlying27 rfl w hW)) ?_
   clear a E;intro a E
   refine fr_val E rfl (wn rfl) rfl rfl (fun w hW => (x_move E rfl rfl)) ?_
   clear a E;intro a E
   obtain ⟨u14, hx15, hm⟩ := bnd hm
   obtain ⟨v16, hx17, hx18⟩ := dr_take (P := Try.prog) hI (dr_mem (.head _)) Try.underlying27 sz32 (ck_of hx15)
   refine fr_val E rfl (wn rfl) rfl rfl (fun w hW => hx17 E rfl rfl rfl) ?_
   clear a E;intro a E
   refine fr_val E rfl (wn rfl) rfl rfl (fun w hW => (x_move E rfl rfl)) ?_
   clear a E;intro a E
   refine fr_val E rfl (wn rfl) rfl rfl (fun w hW => (x_nil E rfl rfl)) ?_
   clear a E;intro a E
   refine fr_val E rfl (wn rfl) rfl rfl (fun w hW => x_fa E rfl rfl (v := .pointer (some ⟨p1, 0, none⟩)) (fa29_0 _ _)) ?_
   clear a E;intro a E
   refine fr_val E rfl (wn rfl) rfl rfl (fun w hW => x_ld E rfl rfl (ib_ld (.head _) rfl Try.underlying27 rfl w hW)) ?_
   clear a E;intro a E
   refine fr_val E rfl (wn rfl) rfl rfl (fun w hW => (x_move E rfl rfl)) ?_
   clear a E;intro a E
   refine fr_val E rfl (wn rfl) rfl rfl (fun w hW => (x_bin E rfl rfl rfl rfl)) ?_
   clear a E;intro a E
   obtain ⟨u19, hx20, hm⟩ := bnd hm
   obtain ⟨v21, hx22, hx23⟩ := dr_cut (P := Try.prog) hI (dr_mem (.head _)) Try.underlying27 sz32 (ck_of hx20)
   refine fr_val E rfl (wn rfl) rfl rfl (fun w hW => hx22 E rfl rfl rfl) ?_
   clear a E;intro a E
   replace H := H.dr (sub_cons (.tail _ (.tail _ (.head _))) (sub_nil)) hx18
   replace H := H.dr (sub_cons (.tail _ (.tail _ (.tail _ (.head _)))) (sub_nil)) hx23
   refine fr_op rfl ?_
   refine st_bsO (e := 32) (d := k_api_Mail) (cs := []) (xs := []) E H (wn rfl) rfl rfl (ps := []) (parts := []) rfl rfl (by kernel_rfl) rfl rfl (fun ok hr => Rows.nil _ _ _) ?_
   clear E H; clear a; clear w; intro v24 w a H E
   refine wpList_nil ?_
   refine q_then ?_
   replace H : Sep w (Row 32 k_api_Mail v24 ([] : List S_api_Mail) :: Blk p13 32 [.int .i64 x9.From, .int .i64 x9.To, .string x9.Data] :: Blk p1 29 [v2] :: Blk p5 32 [.int .i64 0, .int .i64 0, .string (ByteArray.mk #[])] :: Fo) (rSl k_api_Mail v21 (l3.drop (IntKind.i64.wrap (x4 + 1)).toNat) :: rSl k_api_Mail v16 (l3.take x4.toNat) :: rCs k_api_Mail [.int .i64 x9.From, .int .i64 x9.To, .string x9.Data] x9 :: rAt k_api_Mail q11 x9 :: rSl k_api_Mail v2 l3 :: rs7) := H
   refine ⟨⟨_, _, H, (subO_cons (.tail _ (.tail _ (.head _))) (subO_nil)), (sub_cons (.tail _ (.tail _ (.tail _ (.tail _ (.head _))))) (sub_nil))⟩, ?_⟩
   refine fr_op rfl ?_
   obtain ⟨u26, hx27, hm⟩ := bnd hm
   refine st_append (i := 0) E H (wn rfl) rfl rfl rfl rfl rfl rfl (src_rd (.tail _ (.head _))) Try.underlying27 inf32 rfl (ck_of hx27) rfl ?_
   clear E H; clear a; clear w; intro v25 w a H E
   refine wpList_nil ?_
   refine q_then ?_
   replace H : Sep w (Row 32 k_api_Mail v25 (([] : List S_api_Mail) ++ (l3.take x4.toNat)) :: Blk p13 32 [.int .i64 x9.From, .int .i64 x9.To, .string x9.Data] :: Blk p1 29 [v2] :: Blk p5 32 [.int .i64 0, .int .i64 0, .string (ByteArray.mk #[])] :: Fo) (rSl k_api_Mail v21 (l3.drop (IntKind.i64.wrap (x4 + 1)).toNat) :: rSl k_api_Mail v16 (l3.take x4.toNat) :: rCs k_api_Mail [.int .i64 x9.From, .int .i64 x9.To, .string x9.Data] x9 :: rAt k_api_Mail q11 x9 :: rSl k_api_Mail v2 l3 :: rs7) := H
   refine ⟨⟨_, _, H, (subO_cons (.tail _ (.tail _ (.head _))) (subO_nil)), (sub_cons (.tail _ (.tail _ (.tail _ (.tail _ (.head _))))) (sub_nil))⟩, ?_⟩
   refine fr_op rfl ?_
   obtain ⟨u29, hx30, hm⟩ := bnd hm
   refine st_append (i := 0) E H (wn rfl) rfl rfl rfl rfl rfl rfl (src_rd (.head _)) Try.underlying27 inf32 rfl (ck_of hx30) rfl ?_
   clear E H; clear a; clear w; intro v28 w a H E
   refine wpList_nil ?_
   refine q_then ?_
   replace H : Sep w (Row 32 k_api_Mail v28 ((([] : List S_api_Mail) ++ (l3.take x4.toNat)) ++ (l3.drop (IntKind.i64.wrap (x4 + 1)).toNat)) :: Blk p13 32 [.int .i64 x9.From, .int .i64 x9.To, .string x9.Data] :: Blk p1 29 [v2] :: Blk p5 32 [.int .i64 0, .int .i64 0, .string (ByteArray.mk #[])] :: Fo) (rSl k_api_Mail v21 (l3.drop (IntKind.i64.wrap (x4 + 1)).toNat) :: rSl k_api_Mail v16 (l3.take x4.toNat) :: rCs k_api_Mail [.int .i64 x9.From, .int .i64 x9.To, .string x9.Data] x9 :: rAt k_api_Mail q11 x9 :: rSl k_api_Mail v2 l3 :: rs7) := H
   refine ⟨⟨_, _, H, (subO_cons (.tail _ (.tail _ (.head _))) (subO_nil)), (sub_cons (.tail _ (.tail _ (.tail _ (.tail _ (.head _))))) (sub_nil))⟩, ?_⟩
   refine fr_tail rfl ?_
   refine sv E rfl rfl rfl (x_nil E rfl rfl) ?_
   clear a E;intro a E
   refine wpList_nil ?_
   refine q_then ?_
   refine fr_tail rfl ?_
   refine sv E rfl rfl rfl (x_fa E rfl rfl (v := .pointer (some ⟨p1, 0, none⟩)) (fa29_0 _ _)) ?_
   clear a E;intro a E
   refine wpList_nil ?_
   refine q_then ?_
   refine fr_tail rfl ?_
   obtain ⟨q31, x32, rfl⟩ := H.rowform (i := 0) rfl
   refine st_st (i := 2) E H (wn rfl) rfl (us := [(.slice q31 ((([] : List S_api_Mail) ++ (l3.take x4.toNat)) ++ (l3.drop (IntKind.i64.wrap (x4 + 1)).toNat)).length x32)]) rfl rfl rfl rfl rfl sz27 rfl rfl ?_
   clear H; clear w; intro w H
   replace H : Sep w (Row 32 k_api_Mail (.slice q31 ((([] : List S_api_Mail) ++ (l3.take x4.toNat)) ++ (l3.drop (IntKind.i64.wrap (x4 + 1)).toNat)).length x32) ((([] : List S_api_Mail) ++ (l3.take x4.toNat)) ++ (l3.drop (IntKind.i64.wrap (x4 + 1)).toNat)) :: Blk p13 32 [.int .i64 x9.From, .int .i64 x9.To, .string x9.Data] :: Blk p1 29 [(.slice q31 ((([] : List S_api_Mail) ++ (l3.take x4.toNat)) ++ (l3.drop (IntKind.i64.wrap (x4 + 1)).toNat)).length x32)] :: Blk p5 32 [.int .i64 0, .int .i64 0, .string (ByteArray.mk #[])] :: Fo) _ := H
   refine wpList_nil ?_
   refine q_then ?_
   refine fr_nil ?_
   clear hI
   refine q_then ?_
   refine wp_seq ?_
   refine wp_region_lit ?_
   refine sv E rfl rfl rfl (x_ldBN (i := 1) (us := [.int .i64 x9.From, .int .i64 x9.To, .string x9.Data]) E H rfl rfl rfl rfl Try.underlying32 rfl sz32) ?_
   clear a E;intro a E
   refine st_st (i := 3) E H (wn rfl) rfl (us := [.int .i64 x9.From, .int .i64 x9.To, .string x9.Data]) rfl rfl rfl rfl rfl sz32 rfl rfl ?_
   clear H; clear w; intro w H
   replace H : Sep w (Row 32 k_api_Mail (.slice q31 ((([] : List S_api_Mail) ++ (l3.take x4.toNat)) ++ (l3.drop (IntKind.i64.wrap (x4 + 1)).toNat)).length x32) ((([] : List S_api_Mail) ++ (l3.take x4.toNat)) ++ (l3.drop (IntKind.i64.wrap (x4 + 1)).toNat)) :: Blk p13 32 [.int .i64 x9.From, .int .i64 x9.To, .string x9.Data] :: Blk p1 29 [(.slice q31 ((([] : List S_api_Mail) ++ (l3.take x4.toNat)) ++ (l3.drop (IntKind.i64.wrap (x4 + 1)).toNat)).length x32)] :: Blk p5 32 [.int .i64 x9.From, .int .i64 x9.To, .string x9.Data] :: Fo) _ := H
   refine sv E rfl rfl rfl (x_assign E rfl rfl) ?_
   clear a E;intro a E
   refine wpList_nil ?_
   refine q_then ?_
   refine wp_ret ?_
   refine outR2 E rfl (rvBN (i := 3) (us := [.int .i64 x9.From, .int .i64 x9.To, .string x9.Data]) H rfl rfl rfl Try.underlying32 rfl sz32) (rvT rfl) ?_
   replace H := H.drop 1
   replace H := H.drop 2
   replace H := H.front 0 rfl
   replace H := H.front 1 rfl
   obtain rfl := Option.some.inj hm
   exact ⟨(.slice q31 ((([] : List S_api_Mail) ++ (l3.take x4.toNat)) ++ (l3.drop (IntKind.i64.wrap (x4 + 1)).toNat)).length x32), rfl, H.reads (fun r hr => .tail _ (.tail _ (.tail _ (.tail _ (.tail _ (hs8 r hr))))))⟩
end Go.Cb
