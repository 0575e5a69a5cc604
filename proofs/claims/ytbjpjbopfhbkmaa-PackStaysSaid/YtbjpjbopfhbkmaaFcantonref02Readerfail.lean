/- A function of the program, walked: it comes to its plain function. -/
import Derived.Test.YtbjpjbopfhbkmaaT
set_option linter.unusedVariables false
set_option linter.unusedSimpArgs false
namespace Go.Cb
open Go.Proofs Go.RowKit
def m_cantonref02_Reader_fail (l3 : List Int) (x4 : Int) (x5 : Int) : Option ((List Int) × Int) :=
  if (x4 == 0) = true then (some (([] : List Int), x5)) else (some (l3, x4))
set_option maxRecDepth 20000 in
set_option maxHeartbeats 1000000 in
theorem c_cantonref02_Reader_fail {w : World} {Fo : List Ob} {rs : List Rp} (p1 : Nat) (v2 : Value) (l3 : List Int) (x4 : Int) (x5 : Int) (H : Sep w (Blk p1 77 [v2, .int .i64 x4] :: Fo) rs) (hr6 : rSl (kI .u8) v2 l3 ∈ rs) {r : (List Int) × Int} (hm : m_cantonref02_Reader_fail l3 x4 x5 = some r) :
    Calls Try.prog 54 [.pointer (some ⟨p1, 0, none⟩), .int .i64 x5].toArray w (Ret fun v w' => ∃ (v5001 : Value), .tuple #[] = v ∧ Sep w' (Blk p1 77 [v5001, .int .i64 r.2] :: Fo) (rSl (kI .u8) v5001 r.1 :: rs)) := by
  unfold m_cantonref02_Reader_fail at hm
  refine enter Try.func54 rfl Try.ntmps54 rfl fun a E => ?_
  simp only [enum, Nat.reduceAdd] at E
  refine wp_seq ?_
  refine wp_region_lit ?_
  refine st_val E (wn rfl) rfl rfl (x_move E rfl rfl) ?_
  clear E; clear a; intro a E
  refine st_val E (wn rfl) rfl rfl (x_nil E rfl rfl) ?_
  clear E; clear a; intro a E
  refine st_val E (wn rfl) rfl rfl (x_fa E rfl rfl (v := .pointer (some ⟨p1, 1, none⟩)) (fa77_1 _ _)) ?_
  clear E; clear a; intro a E
  refine st_val E (wn rfl) rfl rfl (x_ldB (i := 0) E H rfl rfl rfl rfl Try.underlying52 rfl) ?_
  clear E; clear a; intro a E
  refine st_val E (wn rfl) rfl rfl (x_bin E rfl rfl rfl rfl) ?_
  clear E; clear a; intro a E
  refine wpList_nil ?_
  refine q_then ?_
  refine wp_if E rfl ?_ ?_
  · intro hb
    rw [if_t hb] at hm
    clear hb
    refine wp_seq ?_
    refine wp_region_lit ?_
    refine st_val E (wn rfl) rfl rfl (x_move E rfl rfl) ?_
    clear E; clear a; intro a E
    refine st_val E (wn rfl) rfl rfl (x_move E rfl rfl) ?_
    clear E; clear a; intro a E
    refine st_val E (wn rfl) rfl rfl (x_nil E rfl rfl) ?_
    clear E; clear a; intro a E
    refine st_val E (wn rfl) rfl rfl (x_fa E rfl rfl (v := .pointer (some ⟨p1, 1, none⟩)) (fa77_1 _ _)) ?_
    clear E; clear a; intro a E
    refine st_st (i := 0) E H (wn rfl) rfl (us := [.int .i64 x5]) rfl rfl rfl rfl rfl sz52 rfl rfl ?_
    clear H; clear w; intro w H
    replace H : Sep w (Blk p1 77 [v2, .int .i64 x5] :: Fo) _ := H
    refine wpList_nil ?_
    refine q_then ?_
    refine wp_region_lit ?_
    refine st_val E (wn rfl) rfl rfl (x_move E rfl rfl) ?_
    clear E; clear a; intro a E
    refine st_val E (wn rfl) rfl rfl (x_nil E rfl rfl) ?_
    clear E; clear a; intro a E
    refine st_val E (wn rfl) rfl rfl (x_fa E rfl rfl (v := .pointer (some ⟨p1, 0, none⟩)) (fa77_0 _ _)) ?_
    clear E; clear a; intro a E
    refine st_st (i := 0) E H (wn rfl) rfl (us := [.slice none 0 0]) rfl rfl rfl rfl rfl sz46 rfl rfl ?_
    clear H; clear w; intro w H
    replace H : Sep w (Blk p1 77 [.slice none 0 0, .int .i64 x5] :: Fo) _ := H
    refine wpList_nil ?_
    refine out0 E rfl ?_
    replace H := H.nilSl (kI .u8)
    obtain rfl := Option.some.inj hm
    exact ⟨(.slice none 0 0), rfl, H.reads (sub_cons (.head _) (fun r hr => .tail _ (hr)))⟩
  · intro hb
    rw [if_f hb] at hm
    clear hb
    refine wp_skip ?_
    refine out0 E rfl ?_
    obtain rfl := Option.some.inj hm
    exact ⟨v2, rfl, H.reads (sub_cons hr6 (fun r hr => hr))⟩
end Go.Cb
