/- A function of the program, walked: it comes to its plain function. -/
import Derived.Test.YtbjpjbopfhbkmaaT
set_option linter.unusedVariables false
set_option linter.unusedSimpArgs false
namespace Go.Cb
open Go.Proofs Go.RowKit
def m_pack_New (l2 : List Int) : Option (List Int) :=
  (ck (l2.length ≤ LIM)).bind fun u5 => some (l2)
set_option maxRecDepth 20000 in
set_option maxHeartbeats 1000000 in
theorem c_pack_New {w : World} {Fo : List Ob} {rs : List Rp} (v1 : Value) (l2 : List Int) (H : Sep w (Fo) rs) (hr3 : rSl (kI .u8) v1 l2 ∈ rs) {r : (List Int)} (hm : m_pack_New l2 = some r) :
    Calls Try.prog 29 [v1].toArray w (Ret fun v w' => ∃ (p5001 : Nat) (v5002 : Value), .pointer (some ⟨p5001, 0, none⟩) = v ∧ Sep w' (Blk p5001 91 [v5002, .int .i64 0] :: Row 5 (kI .u8) v5002 r :: Fo) (rs)) := by
  unfold m_pack_New at hm
  refine enter Try.func29 rfl Try.ntmps29 rfl fun a E => ?_
  simp only [enum, Nat.reduceAdd] at E
  refine wp_seq ?_
  refine wp_region_lit ?_
  refine st_val E (wn rfl) rfl rfl (x_assign E rfl rfl) ?_
  clear E; clear a; intro a E
  refine wpList_nil ?_
  refine q_then ?_
  refine wp_seq ?_
  refine wp_region_lit ?_
  refine st_val E (wn rfl) rfl rfl (x_move E rfl rfl) ?_
  clear E; clear a; intro a E
  obtain ⟨u5, hx6, hm⟩ := bnd hm
  refine st_call E (wn rfl) rfl rfl (x_call E rfl rfl (cf52 _)) (lib_bytes_Clone_rd H hr3 (ck_of hx6)) ?_
  clear E H; clear a; clear w; rintro v4 w H a E
  obtain ⟨q7, x8, rfl⟩ := H.rowform (i := 0) rfl
  refine st_val E (wn rfl) rfl rfl (x_build E (ps := [(0, .tmp 4)]) (vs := [(0, (.slice q7 l2.length x8))]) rfl (by simp only [List.map]; rw [E.eval (x := .tmp 4) (v := (.slice q7 l2.length x8)) rfl]) (v := .agg #[(.slice q7 l2.length x8), .int .i64 0]) (by kernel_rfl)) ?_
  clear E; clear a; intro a E
  refine st_box E H (wn rfl) rfl rfl (cs := [(.slice q7 l2.length x8), .int .i64 0]) rfl rfl rfl ?_
  clear E H; clear a; clear w; intro p9 w a H E
  refine st_val E (wn rfl) rfl rfl (x_assign E rfl rfl) ?_
  clear E; clear a; intro a E
  refine wpList_nil ?_
  refine q_then ?_
  refine wp_ret ?_
  refine out1 E rfl rfl ?_
  obtain rfl := Option.some.inj hm
  exact ⟨p9, (.slice q7 l2.length x8), rfl, H.reads (fun r hr => hr)⟩
end Go.Cb
