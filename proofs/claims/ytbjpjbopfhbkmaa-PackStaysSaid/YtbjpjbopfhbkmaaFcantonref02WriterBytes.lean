/- A function of the program, walked: it comes to its plain function. -/
import Derived.Test.YtbjpjbopfhbkmaaT
set_option linter.unusedVariables false
set_option linter.unusedSimpArgs false
namespace Go.Cb
open Go.Proofs Go.RowKit
def m_cantonref02_Writer_Bytes (l3 : List Int) (b4 : Bool) : Option ((List Int) × Int) :=
  if b4 = true then (some ([], 1)) else ((ck (([] : List Int).length + l3.length ≤ LIM)).bind fun u7 => some (([] : List Int) ++ l3, 0))
set_option maxRecDepth 20000 in
set_option maxHeartbeats 1000000 in
theorem c_cantonref02_Writer_Bytes {w : World} {Fo : List Ob} {rs : List Rp} (p1 : Nat) (v2 : Value) (l3 : List Int) (b4 : Bool) (H : Sep w (Blk p1 67 [v2, .bool b4] :: Row 5 (kI .u8) v2 l3 :: Fo) rs) {r : (List Int) × Int} (hm : m_cantonref02_Writer_Bytes l3 b4 = some r) :
    Calls Try.prog 42 [.pointer (some ⟨p1, 0, none⟩)].toArray w (Ret fun v w' => ∃ (v5001 : Value), .tuple #[v5001, .int .i64 r.2] = v ∧ Sep w' (Row 5 (kI .u8) v5001 r.1 :: Blk p1 67 [v2, .bool b4] :: Row 5 (kI .u8) v2 l3 :: Fo) (rs)) := by
  unfold m_cantonref02_Writer_Bytes at hm
  refine enter Try.func42 rfl Try.ntmps42 rfl fun a E => ?_
  simp only [enum, Nat.reduceAdd] at E
  refine wp_seq ?_
  refine wp_region_lit ?_
  refine st_val E (wn rfl) rfl rfl (x_assign E rfl rfl) ?_
  clear E; clear a; intro a E
  refine st_val E (wn rfl) rfl rfl (x_assign E rfl rfl) ?_
  clear E; clear a; intro a E
  refine wpList_nil ?_
  refine q_then ?_
  refine wp_seq ?_
  refine wp_seq ?_
  refine wp_region_lit ?_
  refine st_val E (wn rfl) rfl rfl (x_move E rfl rfl) ?_
  clear E; clear a; intro a E
  refine st_val E (wn rfl) rfl rfl (x_nil E rfl rfl) ?_
  clear E; clear a; intro a E
  refine st_val E (wn rfl) rfl rfl (x_fa E rfl rfl (v := .pointer (some ⟨p1, 1, none⟩)) (fa67_1 _ _)) ?_
  clear E; clear a; intro a E
  refine st_val E (wn rfl) rfl rfl (x_ldB (i := 0) E H rfl rfl rfl rfl Try.underlying4 rfl) ?_
  clear E; clear a; intro a E
  refine wpList_nil ?_
  refine q_then ?_
  refine wp_if E rfl ?_ ?_
  · intro hb
    rw [if_t hb] at hm
    clear hb
    refine wp_seq ?_
    refine wp_region_lit ?_
    refine st_val E (wn rfl) rfl rfl (x_assign E rfl rfl) ?_
    clear E; clear a; intro a E
    refine st_val E (wn rfl) rfl rfl (x_assign E rfl rfl) ?_
    clear E; clear a; intro a E
    refine wpList_nil ?_
    refine q_then ?_
    refine wp_ret ?_
    refine q_thenR ?_
    refine out2 E rfl rfl rfl ?_
    replace H := H.nilRow 5 (kI .u8)
    obtain rfl := Option.some.inj hm
    exact ⟨(.slice none 0 0), rfl, H.reads (fun r hr => hr)⟩
  · intro hb
    rw [if_f hb] at hm
    clear hb
    refine wp_skip ?_
    refine q_then ?_
    refine wp_seq ?_
    refine wp_region_lit ?_
    refine st_bsO (e := 5) (d := (kI .u8)) (cs := []) (xs := []) E H (wn rfl) rfl rfl (ps := []) (parts := []) rfl rfl (by kernel_rfl) rfl rfl (fun ok hr => Rows.nil _ _ _) ?_
    clear E H; clear a; clear w; intro v5 w a H E
    refine st_val E (wn rfl) rfl rfl (x_move E rfl rfl) ?_
    clear E; clear a; intro a E
    refine st_val E (wn rfl) rfl rfl (x_nil E rfl rfl) ?_
    clear E; clear a; intro a E
    refine st_val E (wn rfl) rfl rfl (x_fa E rfl rfl (v := .pointer (some ⟨p1, 0, none⟩)) (fa67_0 _ _)) ?_
    clear E; clear a; intro a E
    refine st_val E (wn rfl) rfl rfl (x_ldB (i := 1) E H rfl rfl rfl rfl Try.underlying46 rfl) ?_
    clear E; clear a; intro a E
    obtain ⟨u7, hx8, hm⟩ := bnd hm
    refine st_append (i := 0) E H (wn rfl) rfl rfl rfl rfl rfl rfl (src_row (i := 2) rfl) Try.underlying46 inf5 rfl (ck_of hx8) rfl ?_
    clear E H; clear a; clear w; intro v6 w a H E
    refine st_val E (wn rfl) rfl rfl (x_assign E rfl rfl) ?_
    clear E; clear a; intro a E
    refine st_val E (wn rfl) rfl rfl (x_assign E rfl rfl) ?_
    clear E; clear a; intro a E
    refine wpList_nil ?_
    refine q_then ?_
    refine wp_ret ?_
    refine out2 E rfl rfl rfl ?_
    obtain rfl := Option.some.inj hm
    exact ⟨v6, rfl, H.reads (fun r hr => hr)⟩
end Go.Cb
