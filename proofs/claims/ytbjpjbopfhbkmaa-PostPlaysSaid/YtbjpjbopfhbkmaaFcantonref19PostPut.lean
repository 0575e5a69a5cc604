/- A function of the program, walked: it comes to its plain function. -/
import Derived.Test.YtbjpjbopfhbkmaaT
import Derived.Test.YtbjpjbopfhbkmaaO8
set_option linter.unusedVariables false
set_option linter.unusedSimpArgs false
namespace Go.Cb
open Go.Proofs Go.RowKit
def m_cantonref19_Post_Put (l3 : List S_api_Mail) (x4 : S_api_Mail) : Option (Bool × (List S_api_Mail)) :=
  if (decide ((l3.length : Int) ≥ 400)) = true then (some (false, l3)) else ((ck (l3.length + ([(⟨x4.From, x4.To, x4.Data⟩ : S_api_Mail)] : List S_api_Mail).length ≤ LIM)).bind fun u8 => some (true, l3 ++ ([(⟨x4.From, x4.To, x4.Data⟩ : S_api_Mail)] : List S_api_Mail)))
set_option maxRecDepth 20000 in
set_option maxHeartbeats 1000000 in
theorem c_cantonref19_Post_Put {w : World} {Fo : List Ob} {rs : List Rp} (p1 : Nat) (v2 : Value) (l3 : List S_api_Mail) (x4 : S_api_Mail) (H : Sep w (Blk p1 29 [v2] :: Row 32 k_api_Mail v2 l3 :: Fo) rs) {r : Bool × (List S_api_Mail)} (hm : m_cantonref19_Post_Put l3 x4 = some r) :
    Calls Try.prog 24 [.pointer (some ⟨p1, 0, none⟩), .agg #[.int .i64 x4.From, .int .i64 x4.To, .string x4.Data]].toArray w (Ret fun v w' => ∃ (v5002 : Value), .bool r.1 = v ∧ Sep w' (Blk p1 29 [v5002] :: Row 32 k_api_Mail v5002 r.2 :: Fo) (rs)) := by
 unfold m_cantonref19_Post_Put at hm
 refine enter Try.func24 rfl Try.ntmps24 rfl fun a E => ?_
 simp only [enum, Nat.reduceAdd] at E
 refine wp_seq ?_
 refine wp_region_lit ?_
 refine st_box E H (wn rfl) rfl rfl (cs := [.int .i64 x4.From, .int .i64 x4.To, .string x4.Data]) rfl rfl rfl ?_
 clear E H; clear a; clear w; intro p5 w a H E
 refine sv E rfl rfl rfl (x_assign E rfl rfl) ?_
 clear a E;intro a E
 refine wpList_nil ?_
 refine q_then ?_
 refine wp_seq ?_
 refine wp_seq ?_
 refine wp_region_lit ?_
 refine sv E rfl rfl rfl (x_move E rfl rfl) ?_
 clear a E;intro a E
 refine sv E rfl rfl rfl (x_nil E rfl rfl) ?_
 clear a E;intro a E
 refine sv E rfl rfl rfl (x_fa E rfl rfl (v := .pointer (some ⟨p1, 0, none⟩)) (fa29_0 _ _)) ?_
 clear a E;intro a E
 refine sv E rfl rfl rfl (x_ldB (i := 1) E H rfl rfl rfl rfl Try.underlying27 rfl) ?_
 clear a E;intro a E
 refine sv E rfl rfl rfl (x_lenR (i := 2) E H rfl rfl rfl Try.underlying27) ?_
 clear a E;intro a E
 refine sv E rfl rfl rfl (x_bin E rfl rfl rfl rfl) ?_
 clear a E;intro a E
 refine wpList_nil ?_
 refine q_then ?_
 refine wp_if E rfl ?_ ?_
 ·intro hb
  rw [if_t hb] at hm
  clear hb
  refine wp_seq ?_
  refine wp_region_lit ?_
  refine sv E rfl rfl rfl (x_assign E rfl rfl) ?_
  clear a E;intro a E
  refine wpList_nil ?_
  refine q_then ?_
  refine wp_ret ?_
  refine q_thenR ?_
  refine out1 E rfl rfl ?_
  replace H := H.drop 0
  obtain rfl := Option.some.inj hm
  exact ⟨v2, rfl, H.reads (fun r hr => hr)⟩
 ·intro hb
  rw [if_f hb] at hm
  clear hb
  refine wp_skip ?_
  refine q_then ?_
  refine wp_seq ?_
  replace H : Sep w (Blk p5 32 [.int .i64 x4.From, .int .i64 x4.To, .string x4.Data] :: Blk p1 29 [v2] :: Row 32 k_api_Mail v2 l3 :: Fo) (rs) := H
  have hI : Still [Blk p5 32 [.int .i64 x4.From, .int .i64 x4.To, .string x4.Data], Blk p1 29 [v2]] [] { w with drawn := w.drawn + 1 } := ⟨_, _, H.kept (Kp.drawn _ w _), (subO_cons (.head _) (subO_cons (.tail _ (.head _)) (subO_nil))), (sub_nil)⟩
  refine wp_draw _ [(0, 0), (1, 0), (2, 0), (3, 0), (4, 0), (5, 0), (6, 1), (7, 1), (8, 2), (9, 2), (10, 2)] mixedOk (by kernel_rfl) (fun _ _ _ h => False.elim h.2) hI ?_
  replace H := H.kept (Kp.drawn _ w (w.drawn + 1))
  generalize ({ w with drawn := w.drawn + 1 } : World) = w at H hI ⊢
  replace hI : ∃ W, Still [Blk p5 32 [.int .i64 x4.From, .int .i64 x4.To, .string x4.Data], Blk p1 29 [v2]] [] W := ⟨_, hI⟩
  obtain ⟨W0, hI⟩ := hI
  refine fr_val E rfl (wn rfl) rfl rfl (fun w hW => (x_move E rfl rfl)) ?_
  clear a E;intro a E
  refine fr_val E rfl (wn rfl) rfl rfl (fun w hW => (x_move E rfl rfl)) ?_
  clear a E;intro a E
  refine fr_val E rfl (wn rfl) rfl rfl (fun w hW => (x_nil E rfl rfl)) ?_
  clear a E;intro a E
  refine fr_val E rfl (wn rfl) rfl rfl (fun w hW => x_fa E rfl rfl (v := .pointer (some ⟨p1, 0, none⟩)) (fa29_0 _ _)) ?_
  clear a E;intro a E
  refine fr_val E rfl (wn rfl) rfl rfl (fun w hW => x_ld E rfl rfl (ib_ld (.tail _ (.head _)) rfl Try.underlying27 rfl w hW)) ?_
  clear a E;intro a E
  refine fr_val E rfl (wn rfl) rfl rfl (fun w hW => x_ld E rfl rfl (ib_ldN (us := [.int .i64 x4.From, .int .i64 x4.To, .string x4.Data]) (.head _) rfl Try.underlying32 rfl sz32 w hW)) ?_
  clear a E;intro a E
  refine fr_op rfl ?_
  refine st_bsR (e := 32) (d := k_api_Mail) (cs := [.int .i64 x4.From, .int .i64 x4.To, .string x4.Data]) (xs := [(⟨x4.From, x4.To, x4.Data⟩ : S_api_Mail)]) E H (wn rfl) rfl rfl (ps := [(0, .tmp 16)]) (parts := [(0, .agg #[.int .i64 x4.From, .int .i64 x4.To, .string x4.Data])]) rfl (by simp only [List.map]; rw [E.eval (x := .tmp 16) (v := .agg #[.int .i64 x4.From, .int .i64 x4.To, .string x4.Data]) rfl]) (by kernel_rfl) rfl (fun ok hr => (Rows.single (d := k_api_Mail) (cs := [.int .i64 x4.From, .int .i64 x4.To, .string x4.Data]) (x := (⟨x4.From, x4.To, x4.Data⟩ : S_api_Mail)) k_api_Mail_mk)) ?_
  clear E H; clear a; clear w; intro v6 w a H E
  refine wpList_nil ?_
  refine q_then ?_
  replace H : Sep w (Blk p5 32 [.int .i64 x4.From, .int .i64 x4.To, .string x4.Data] :: Blk p1 29 [v2] :: Row 32 k_api_Mail v2 l3 :: Fo) (rSl k_api_Mail v6 ([(⟨x4.From, x4.To, x4.Data⟩ : S_api_Mail)] : List S_api_Mail) :: rs) := H
  refine ⟨⟨_, _, H, (subO_cons (.head _) (subO_cons (.tail _ (.head _)) (subO_nil))), (sub_nil)⟩, ?_⟩
  refine fr_op rfl ?_
  obtain ⟨u8, hx9, hm⟩ := bnd hm
  refine st_append (i := 2) E H (wn rfl) rfl rfl rfl rfl rfl rfl (src_rd (.head _)) Try.underlying27 inf32 rfl (ck_of hx9) rfl ?_
  clear E H; clear a; clear w; intro v7 w a H E
  refine wpList_nil ?_
  refine q_then ?_
  replace H : Sep w (Blk p5 32 [.int .i64 x4.From, .int .i64 x4.To, .string x4.Data] :: Blk p1 29 [v2] :: Row 32 k_api_Mail v7 (l3 ++ ([(⟨x4.From, x4.To, x4.Data⟩ : S_api_Mail)] : List S_api_Mail)) :: Fo) (rSl k_api_Mail v6 ([(⟨x4.From, x4.To, x4.Data⟩ : S_api_Mail)] : List S_api_Mail) :: rs) := H
  refine ⟨⟨_, _, H, (subO_cons (.head _) (subO_cons (.tail _ (.head _)) (subO_nil))), (sub_nil)⟩, ?_⟩
  refine fr_tail rfl ?_
  refine sv E rfl rfl rfl (x_nil E rfl rfl) ?_
  clear a E;intro a E
  refine wpList_nil ?_
  refine q_then ?_
  refine fr_tail rfl ?_
  refine sv E rfl rfl rfl (x_fa E rfl rfl (v := .pointer (some ⟨p1, 0, none⟩)) (fa29_0 _ _)) ?_
  clear a E;intro a E
  refine wpList_nil ?_
  refine q_then ?_
  refine fr_tail rfl ?_
  obtain ⟨q10, x11, rfl⟩ := H.rowform (i := 2) rfl
  refine st_st (i := 1) E H (wn rfl) rfl (us := [(.slice q10 (l3 ++ ([(⟨x4.From, x4.To, x4.Data⟩ : S_api_Mail)] : List S_api_Mail)).length x11)]) rfl rfl rfl rfl rfl sz27 rfl rfl ?_
  clear H; clear w; intro w H
  replace H : Sep w (Blk p5 32 [.int .i64 x4.From, .int .i64 x4.To, .string x4.Data] :: Blk p1 29 [(.slice q10 (l3 ++ ([(⟨x4.From, x4.To, x4.Data⟩ : S_api_Mail)] : List S_api_Mail)).length x11)] :: Row 32 k_api_Mail (.slice q10 (l3 ++ ([(⟨x4.From, x4.To, x4.Data⟩ : S_api_Mail)] : List S_api_Mail)).length x11) (l3 ++ ([(⟨x4.From, x4.To, x4.Data⟩ : S_api_Mail)] : List S_api_Mail)) :: Fo) _ := H
  refine wpList_nil ?_
  refine q_then ?_
  refine fr_nil ?_
  clear hI
  refine q_then ?_
  refine wp_seq ?_
  refine wp_region_lit ?_
  refine sv E rfl rfl rfl (x_assign E rfl rfl) ?_
  clear a E;intro a E
  refine wpList_nil ?_
  refine q_then ?_
  refine wp_ret ?_
  refine out1 E rfl rfl ?_
  replace H := H.drop 0
  obtain rfl := Option.some.inj hm
  exact ⟨(.slice q10 (l3 ++ ([(⟨x4.From, x4.To, x4.Data⟩ : S_api_Mail)] : List S_api_Mail)).length x11), rfl, H.reads (fun r hr => .tail _ (hr))⟩
end Go.Cb
