/- A function of the program, walked: it comes to its plain function. -/
import Derived.Test.YtbjpjbopfhbkmaaT
set_option linter.unusedVariables false
set_option linter.unusedSimpArgs false
namespace Go.Cb
open Go.Proofs Go.RowKit
def m_cantonref02_New (l2 : List Int) : Option (List Int) :=
  (ck (([] : List Int).length + l2.length ≤ LIM)).bind fun u6 => some (([] : List Int) ++ l2)
set_option maxRecDepth 20000 in
set_option maxHeartbeats 1000000 in
theorem c_cantonref02_New {w : World} {Fo : List Ob} {rs : List Rp} (v1 : Value) (l2 : List Int) (H : Sep w (Fo) rs) (hr3 : rSl (kI .u8) v1 l2 ∈ rs) {r : (List Int)} (hm : m_cantonref02_New l2 = some r) :
    Calls Try.prog 43 [v1].toArray w (Ret fun v w' => ∃ (p5001 : Nat) (v5002 : Value), .pointer (some ⟨p5001, 0, none⟩) = v ∧ Sep w' (Blk p5001 77 [v5002, .int .i64 0] :: Row 5 (kI .u8) v5002 r :: Fo) (rs)) := by
  unfold m_cantonref02_New at hm
  refine enter Try.func43 rfl Try.ntmps43 rfl fun a E => ?_
  simp only [enum, Nat.reduceAdd] at E
  refine wp_seq ?_
  refine wp_region_lit ?_
  refine st_val E (wn rfl) rfl rfl (x_assign E rfl rfl) ?_
  clear E; clear a; intro a E
  refine wpList_nil ?_
  refine q_then ?_
  refine wp_seq ?_
  refine wp_region_lit ?_
  refine st_bsO (e := 5) (d := (kI .u8)) (cs := []) (xs := []) E H (wn rfl) rfl rfl (ps := []) (parts := []) rfl rfl (by kernel_rfl) rfl rfl (fun ok hr => Rows.nil _ _ _) ?_
  clear E H; clear a; clear w; intro v4 w a H E
  refine st_val E (wn rfl) rfl rfl (x_move E rfl rfl) ?_
  clear E; clear a; intro a E
  obtain ⟨u6, hx7, hm⟩ := bnd hm
  refine st_append (i := 0) E H (wn rfl) rfl rfl rfl rfl rfl rfl (src_rd hr3) Try.underlying46 inf5 rfl (ck_of hx7) rfl ?_
  clear E H; clear a; clear w; intro v5 w a H E
  obtain ⟨q8, x9, rfl⟩ := H.rowform (i := 0) rfl
  refine st_val E (wn rfl) rfl rfl (x_build E (ps := [(0, .tmp 5)]) (vs := [(0, (.slice q8 (([] : List Int) ++ l2).length x9))]) rfl (by simp only [List.map]; rw [E.eval (x := .tmp 5) (v := (.slice q8 (([] : List Int) ++ l2).length x9)) rfl]) (v := .agg #[(.slice q8 (([] : List Int) ++ l2).length x9), .int .i64 0]) (by kernel_rfl)) ?_
  clear E; clear a; intro a E
  refine st_box E H (wn rfl) rfl rfl (cs := [(.slice q8 (([] : List Int) ++ l2).length x9), .int .i64 0]) rfl rfl rfl ?_
  clear E H; clear a; clear w; intro p10 w a H E
  refine st_val E (wn rfl) rfl rfl (x_assign E rfl rfl) ?_
  clear E; clear a; intro a E
  refine wpList_nil ?_
  refine q_then ?_
  refine wp_ret ?_
  refine out1 E rfl rfl ?_
  obtain rfl := Option.some.inj hm
  exact ⟨p10, (.slice q8 (([] : List Int) ++ l2).length x9), rfl, H.reads (fun r hr => hr)⟩
end Go.Cb
