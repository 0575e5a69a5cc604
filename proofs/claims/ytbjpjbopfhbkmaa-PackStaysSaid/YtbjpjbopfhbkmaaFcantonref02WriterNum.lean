/- A function of the program, walked: it comes to its plain function. -/
import Derived.Test.YtbjpjbopfhbkmaaT
import Derived.Test.YtbjpjbopfhbkmaaFcantonref02Put
set_option linter.unusedVariables false
set_option linter.unusedSimpArgs false
namespace Go.Cb
open Go.Proofs Go.RowKit
def m_cantonref02_Writer_Num_j1 (l3 : List Int) (x5 : Int) (b4 : Bool) (b6 : Bool) : Option ((List Int) × Bool) :=
  if b6 = true then (some (l3, true)) else ((m_cantonref02_Put x5).bind fun u9 => (ck (l3.length + u9.length ≤ LIM)).bind fun u13 => some (l3 ++ u9, b4))
def m_cantonref02_Writer_Num (l3 : List Int) (b4 : Bool) (x5 : Int) : Option ((List Int) × Bool) :=
  if (decide (x5 < 0)) = true then (m_cantonref02_Writer_Num_j1 l3 x5 b4 true) else (m_cantonref02_Writer_Num_j1 l3 x5 b4 (decide (x5 > 281474976710656)))
set_option maxRecDepth 20000 in
set_option maxHeartbeats 1000000 in
theorem c_cantonref02_Writer_Num {w : World} {Fo : List Ob} {rs : List Rp} (p1 : Nat) (v2 : Value) (l3 : List Int) (b4 : Bool) (x5 : Int) (H : Sep w (Blk p1 67 [v2, .bool b4] :: Row 5 (kI .u8) v2 l3 :: Fo) rs) {r : (List Int) × Bool} (hm : m_cantonref02_Writer_Num l3 b4 x5 = some r) :
    Calls Try.prog 38 [.pointer (some ⟨p1, 0, none⟩), .int .i64 x5].toArray w (Ret fun v w' => ∃ (v5001 : Value), .tuple #[] = v ∧ Sep w' (Blk p1 67 [v5001, .bool r.2] :: Row 5 (kI .u8) v5001 r.1 :: Fo) (rs)) := by
  unfold m_cantonref02_Writer_Num at hm
  refine enter Try.func38 rfl Try.ntmps38 rfl fun a E => ?_
  simp only [enum, Nat.reduceAdd] at E
  refine wp_seq ?_
  refine wp_seq_cut (fun a w => ∃ (b6 : Bool) (rs7 : List Rp), Env 23 a [(0, .pointer (some ⟨p1, 0, none⟩)), (1, .int .i64 x5), (9, .bool b6)] ∧ Sep w (Blk p1 67 [v2, .bool b4] :: Row 5 (kI .u8) v2 l3 :: Fo) rs7 ∧ (∀ r, r ∈ rs → r ∈ rs7) ∧ m_cantonref02_Writer_Num_j1 l3 x5 b4 b6 = some r) ?_ ?_
  · refine wp_region_lit ?_
    refine st_val E (wn rfl) rfl rfl (x_move E rfl rfl) ?_
    clear E; clear a; intro a E
    refine st_val E (wn rfl) rfl rfl (x_bin E rfl rfl rfl rfl) ?_
    clear E; clear a; intro a E
    refine st_val E (wn rfl) rfl rfl (x_move E rfl rfl) ?_
    clear E; clear a; intro a E
    rcases Bool.eq_false_or_eq_true (decide (x5 < 0)) with hb17 | hb17
    · rw [if_t hb17] at hm
      refine st_no E (wf' E rfl rfl rfl rfl hb17 rfl) rfl rfl ?_
      clear E; clear a; intro a E
      refine st_no E (wf' E rfl rfl rfl rfl hb17 rfl) rfl rfl ?_
      clear E; clear a; intro a E
      refine st_val E (wn rfl) rfl rfl (x_pickT E rfl rfl hb17 rfl) ?_
      clear E; clear a; intro a E
      refine wpList_nil ?_
      refine q_then ?_
      exact ⟨true, _, (((E.nil.keep E 9 rfl).keep E 1 rfl).keep E 0 rfl), H, fun r hr => hr, hm⟩
    · rw [if_f hb17] at hm
      refine st_val E (ws' E rfl rfl rfl rfl hb17) rfl rfl (x_move E rfl rfl) ?_
      clear E; clear a; intro a E
      refine st_val E (ws' E rfl rfl rfl rfl hb17) rfl rfl (x_bin E rfl rfl rfl rfl) ?_
      clear E; clear a; intro a E
      refine st_val E (wn rfl) rfl rfl (x_pickF E rfl rfl hb17 rfl) ?_
      clear E; clear a; intro a E
      refine wpList_nil ?_
      refine q_then ?_
      exact ⟨decide (x5 > 281474976710656), _, (((E.nil.keep E 9 rfl).keep E 1 rfl).keep E 0 rfl), H, fun r hr => hr, hm⟩
  · clear E H hm
    rintro a w ⟨b6, rs7, E, H, hs8, hm⟩
    unfold m_cantonref02_Writer_Num_j1 at hm
    refine wp_if E rfl ?_ ?_
    · intro hb
      rw [if_t hb] at hm
      clear hb
      refine wp_seq ?_
      refine wp_region_lit ?_
      refine st_val E (wn rfl) rfl rfl (x_move E rfl rfl) ?_
      clear E; clear a; intro a E
      refine st_val E (wn rfl) rfl rfl (x_nil E rfl rfl) ?_
      clear E; clear a; intro a E
      refine st_val E (wn rfl) rfl rfl (x_fa E rfl rfl (v := .pointer (some ⟨p1, 1, none⟩)) (fa67_1 _ _)) ?_
      clear E; clear a; intro a E
      refine st_st (i := 0) E H (wn rfl) rfl (us := [.bool true]) rfl rfl rfl rfl rfl sz4 rfl rfl ?_
      clear H; clear w; intro w H
      replace H : Sep w (Blk p1 67 [v2, .bool true] :: Row 5 (kI .u8) v2 l3 :: Fo) _ := H
      refine wpList_nil ?_
      refine q_then ?_
      refine wp_ret ?_
      refine q_thenR ?_
      refine out0r E rfl ?_
      obtain rfl := Option.some.inj hm
      exact ⟨v2, rfl, H.reads (fun r hr => hs8 r hr)⟩
    · intro hb
      rw [if_f hb] at hm
      clear hb
      refine wp_skip ?_
      refine q_then ?_
      replace H : Sep w (Blk p1 67 [v2, .bool b4] :: Row 5 (kI .u8) v2 l3 :: Fo) (rs7) := H
      have hI : Still [Blk p1 67 [v2, .bool b4]] [] { w with drawn := w.drawn + 1 } := ⟨_, _, H.kept (Kp.drawn _ w _), (subO_cons (.head _) (subO_nil)), (sub_nil)⟩
      refine wp_draw _ [(0, 0), (1, 0), (2, 0), (3, 0), (4, 0), (5, 0), (6, 1), (7, 1), (8, 2), (9, 2), (10, 2)] mixedOk (by kernel_rfl) (fun _ _ _ h => False.elim h.2) hI ?_
      replace H := H.kept (Kp.drawn _ w (w.drawn + 1))
      generalize ({ w with drawn := w.drawn + 1 } : World) = w at H hI ⊢
      replace hI : ∃ W, Still [Blk p1 67 [v2, .bool b4]] [] W := ⟨_, hI⟩
      obtain ⟨W0, hI⟩ := hI
      refine fr_val E rfl (wn rfl) rfl rfl (fun w hW => (x_move E rfl rfl)) ?_
      clear E; clear a; intro a E
      refine fr_val E rfl (wn rfl) rfl rfl (fun w hW => (x_move E rfl rfl)) ?_
      clear E; clear a; intro a E
      refine fr_val E rfl (wn rfl) rfl rfl (fun w hW => (x_nil E rfl rfl)) ?_
      clear E; clear a; intro a E
      refine fr_val E rfl (wn rfl) rfl rfl (fun w hW => x_fa E rfl rfl (v := .pointer (some ⟨p1, 0, none⟩)) (fa67_0 _ _)) ?_
      clear E; clear a; intro a E
      refine fr_val E rfl (wn rfl) rfl rfl (fun w hW => x_ld E rfl rfl (ib_ld (.head _) rfl Try.underlying46 rfl w hW)) ?_
      clear E; clear a; intro a E
      refine fr_val E rfl (wn rfl) rfl rfl (fun w hW => (x_move E rfl rfl)) ?_
      clear E; clear a; intro a E
      refine fr_op rfl ?_
      replace H : Sep w (Blk p1 67 [v2, .bool b4] :: Row 5 (kI .u8) v2 l3 :: Fo) (rs7) := H
      obtain ⟨u9, hx10, hm⟩ := bnd hm
      refine st_call E (wn rfl) rfl rfl (x_call E rfl rfl (cf53 _)) (c_cantonref02_Put x5 H hx10) ?_
      clear E H; clear a; clear w; rintro _ w ⟨v11, rfl, H⟩ a E
      refine wpList_nil ?_
      refine q_then ?_
      replace H : Sep w (Row 5 (kI .u8) v11 u9 :: Blk p1 67 [v2, .bool b4] :: Row 5 (kI .u8) v2 l3 :: Fo) (rs7) := H
      refine ⟨⟨_, _, H, (subO_cons (.tail _ (.head _)) (subO_nil)), (sub_nil)⟩, ?_⟩
      refine fr_op rfl ?_
      obtain ⟨u13, hx14, hm⟩ := bnd hm
      refine st_append (i := 2) E H (wn rfl) rfl rfl rfl rfl rfl rfl (src_row (i := 0) rfl) Try.underlying46 inf5 rfl (ck_of hx14) rfl ?_
      clear E H; clear a; clear w; intro v12 w a H E
      refine wpList_nil ?_
      refine q_then ?_
      replace H : Sep w (Row 5 (kI .u8) v11 u9 :: Blk p1 67 [v2, .bool b4] :: Row 5 (kI .u8) v12 (l3 ++ u9) :: Fo) (rs7) := H
      refine ⟨⟨_, _, H, (subO_cons (.tail _ (.head _)) (subO_nil)), (sub_nil)⟩, ?_⟩
      refine fr_tail rfl ?_
      refine st_val E (wn rfl) rfl rfl (x_nil E rfl rfl) ?_
      clear E; clear a; intro a E
      refine wpList_nil ?_
      refine q_then ?_
      refine fr_tail rfl ?_
      refine st_val E (wn rfl) rfl rfl (x_fa E rfl rfl (v := .pointer (some ⟨p1, 0, none⟩)) (fa67_0 _ _)) ?_
      clear E; clear a; intro a E
      refine wpList_nil ?_
      refine q_then ?_
      refine fr_tail rfl ?_
      obtain ⟨q15, x16, rfl⟩ := H.rowform (i := 2) rfl
      refine st_st (i := 1) E H (wn rfl) rfl (us := [(.slice q15 (l3 ++ u9).length x16)]) rfl rfl rfl rfl rfl sz46 rfl rfl ?_
      clear H; clear w; intro w H
      replace H : Sep w (Row 5 (kI .u8) v11 u9 :: Blk p1 67 [(.slice q15 (l3 ++ u9).length x16), .bool b4] :: Row 5 (kI .u8) (.slice q15 (l3 ++ u9).length x16) (l3 ++ u9) :: Fo) _ := H
      refine wpList_nil ?_
      refine q_then ?_
      refine fr_nil ?_
      clear hI
      refine out0 E rfl ?_
      replace H := H.drop 0
      obtain rfl := Option.some.inj hm
      exact ⟨(.slice q15 (l3 ++ u9).length x16), rfl, H.reads (fun r hr => hs8 r hr)⟩
end Go.Cb
