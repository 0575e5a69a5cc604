/- A function of the program, walked: it comes to its plain function. -/
import Derived.Test.YtbjpjbopfhbkmaaT
set_option linter.unusedVariables false
set_option linter.unusedSimpArgs false
namespace Go.Cb
open Go.Proofs Go.RowKit
def m_pack_Writer_Bytes (l3 : List Int) (b4 : Bool) : Option ((List Int) × Int) :=
  if b4 = true then (some ([], 1)) else ((ck (l3.length ≤ LIM)).bind fun u6 => some (l3, 0))
set_option maxRecDepth 20000 in
set_option maxHeartbeats 1000000 in
theorem c_pack_Writer_Bytes {w : World} {Fo : List Ob} {rs : List Rp} (p1 : Nat) (v2 : Value) (l3 : List Int) (b4 : Bool) (H : Sep w (Blk p1 51 [v2, .bool b4] :: Row 5 (kI .u8) v2 l3 :: Fo) rs) {r : (List Int) × Int} (hm : m_pack_Writer_Bytes l3 b4 = some r) :
    Calls Try.prog 34 [.pointer (some ⟨p1, 0, none⟩)].toArray w (Ret fun v w' => ∃ (v5001 : Value), .tuple #[v5001, .int .i64 r.2] = v ∧ Sep w' (Row 5 (kI .u8) v5001 r.1 :: Blk p1 51 [v2, .bool b4] :: Row 5 (kI .u8) v2 l3 :: Fo) (rs)) := by
  unfold m_pack_Writer_Bytes at hm
  refine enter Try.func34 rfl Try.ntmps34 rfl fun a E => ?_
  simp only [enum, Nat.reduceAdd] at E
  refine wp_seq ?_
  refine wp_region_lit ?_
  refine st_val E (wn rfl) rfl rfl (x_assign E rfl rfl) ?_
  clear E; clear a; intro a E
  refine st_val E (wn rfl) rfl rfl (x_assign E rfl rfl) ?_
  clear E; clear a; intro a E
  refine wpList_nil ?_
  refine q_then ?_
  refine wp_seq ?_
  refine wp_seq ?_
  refine wp_region_lit ?_
  refine st_val E (wn rfl) rfl rfl (x_move E rfl rfl) ?_
  clear E; clear a; intro a E
  refine st_val E (wn rfl) rfl rfl (x_nil E rfl rfl) ?_
  clear E; clear a; intro a E
  refine st_val E (wn rfl) rfl rfl (x_fa E rfl rfl (v := .pointer (some ⟨p1, 1, none⟩)) (fa51_1 _ _)) ?_
  clear E; clear a; intro a E
  refine st_val E (wn rfl) rfl rfl (x_ldB (i := 0) E H rfl rfl rfl rfl Try.underlying4 rfl) ?_
  clear E; clear a; intro a E
  refine wpList_nil ?_
  refine q_then ?_
  refine wp_if E rfl ?_ ?_
  · intro hb
    rw [if_t hb] at hm
    clear hb
    refine wp_seq ?_
    refine wp_region_lit ?_
    refine st_val E (wn rfl) rfl rfl (x_assign E rfl rfl) ?_
    clear E; clear a; intro a E
    refine st_val E (wn rfl) rfl rfl (x_assign E rfl rfl) ?_
    clear E; clear a; intro a E
    refine wpList_nil ?_
    refine q_then ?_
    refine wp_ret ?_
    refine q_thenR ?_
    refine out2 E rfl rfl rfl ?_
    replace H := H.nilRow 5 (kI .u8)
    obtain rfl := Option.some.inj hm
    exact ⟨(.slice none 0 0), rfl, H.reads (fun r hr => hr)⟩
  · intro hb
    rw [if_f hb] at hm
    clear hb
    refine wp_skip ?_
    refine q_then ?_
    refine wp_seq ?_
    refine wp_region_lit ?_
    refine st_val E (wn rfl) rfl rfl (x_move E rfl rfl) ?_
    clear E; clear a; intro a E
    refine st_val E (wn rfl) rfl rfl (x_nil E rfl rfl) ?_
    clear E; clear a; intro a E
    refine st_val E (wn rfl) rfl rfl (x_fa E rfl rfl (v := .pointer (some ⟨p1, 0, none⟩)) (fa51_0 _ _)) ?_
    clear E; clear a; intro a E
    refine st_val E (wn rfl) rfl rfl (x_ldB (i := 0) E H rfl rfl rfl rfl Try.underlying46 rfl) ?_
    clear E; clear a; intro a E
    obtain ⟨u6, hx7, hm⟩ := bnd hm
    refine st_call E (wn rfl) rfl rfl (x_call E rfl rfl (cf52 _)) (lib_bytes_Clone_own (i := 1) H rfl (ck_of hx7)) ?_
    clear E H; clear a; clear w; rintro v5 w H a E
    refine st_val E (wn rfl) rfl rfl (x_assign E rfl rfl) ?_
    clear E; clear a; intro a E
    refine st_val E (wn rfl) rfl rfl (x_assign E rfl rfl) ?_
    clear E; clear a; intro a E
    refine wpList_nil ?_
    refine q_then ?_
    refine wp_ret ?_
    refine out2 E rfl rfl rfl ?_
    obtain rfl := Option.some.inj hm
    exact ⟨v5, rfl, H.reads (fun r hr => hr)⟩
end Go.Cb
