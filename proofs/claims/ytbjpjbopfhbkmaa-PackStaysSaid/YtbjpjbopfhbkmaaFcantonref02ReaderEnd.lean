/- A function of the program, walked: it comes to its plain function. -/
import Derived.Test.YtbjpjbopfhbkmaaT
set_option linter.unusedVariables false
set_option linter.unusedSimpArgs false
namespace Go.Cb
open Go.Proofs Go.RowKit
def m_cantonref02_Reader_End (l3 : List Int) (x4 : Int) : Option Bool :=
  if (x4 == 0) = true then (some ((l3.length : Int) == 0)) else (some (false))
set_option maxRecDepth 20000 in
set_option maxHeartbeats 1000000 in
theorem c_cantonref02_Reader_End {w : World} {Fo : List Ob} {rs : List Rp} (p1 : Nat) (v2 : Value) (l3 : List Int) (x4 : Int) (H : Sep w (Blk p1 77 [v2, .int .i64 x4] :: Fo) rs) (hr5 : rSl (kI .u8) v2 l3 ∈ rs) {r : Bool} (hm : m_cantonref02_Reader_End l3 x4 = some r) :
    Calls Try.prog 49 [.pointer (some ⟨p1, 0, none⟩)].toArray w (Ret fun v w' => .bool r = v ∧ Sep w' (Blk p1 77 [v2, .int .i64 x4] :: Fo) (rs)) := by
  unfold m_cantonref02_Reader_End at hm
  refine enter Try.func49 rfl Try.ntmps49 rfl fun a E => ?_
  simp only [enum, Nat.reduceAdd] at E
  refine wp_seq ?_
  refine wp_region_lit ?_
  refine st_val E (wn rfl) rfl rfl (x_assign E rfl rfl) ?_
  clear E; clear a; intro a E
  refine wpList_nil ?_
  refine q_then ?_
  refine wp_seq ?_
  refine wp_region_lit ?_
  refine st_val E (wn rfl) rfl rfl (x_move E rfl rfl) ?_
  clear E; clear a; intro a E
  refine st_val E (wn rfl) rfl rfl (x_nil E rfl rfl) ?_
  clear E; clear a; intro a E
  refine st_val E (wn rfl) rfl rfl (x_fa E rfl rfl (v := .pointer (some ⟨p1, 1, none⟩)) (fa77_1 _ _)) ?_
  clear E; clear a; intro a E
  refine st_val E (wn rfl) rfl rfl (x_ldB (i := 0) E H rfl rfl rfl rfl Try.underlying52 rfl) ?_
  clear E; clear a; intro a E
  refine st_val E (wn rfl) rfl rfl (x_bin E rfl rfl rfl rfl) ?_
  clear E; clear a; intro a E
  refine st_val E (wn rfl) rfl rfl (x_move E rfl rfl) ?_
  clear E; clear a; intro a E
  rcases Bool.eq_false_or_eq_true (x4 == 0) with hb6 | hb6
  · rw [if_t hb6] at hm
    refine st_val E (ws' E rfl rfl rfl rfl hb6) rfl rfl (x_move E rfl rfl) ?_
    clear E; clear a; intro a E
    refine st_val E (ws' E rfl rfl rfl rfl hb6) rfl rfl (x_nil E rfl rfl) ?_
    clear E; clear a; intro a E
    refine st_val E (ws' E rfl rfl rfl rfl hb6) rfl rfl (x_fa E rfl rfl (v := .pointer (some ⟨p1, 0, none⟩)) (fa77_0 _ _)) ?_
    clear E; clear a; intro a E
    refine st_val E (ws' E rfl rfl rfl rfl hb6) rfl rfl (x_ldB (i := 0) E H rfl rfl rfl rfl Try.underlying46 rfl) ?_
    clear E; clear a; intro a E
    refine st_val E (ws' E rfl rfl rfl rfl hb6) rfl rfl (x_lenS E H rfl rfl hr5 Try.underlying46) ?_
    clear E; clear a; intro a E
    refine st_val E (ws' E rfl rfl rfl rfl hb6) rfl rfl (x_bin E rfl rfl rfl rfl) ?_
    clear E; clear a; intro a E
    refine st_val E (wn rfl) rfl rfl (x_pickT E rfl rfl hb6 rfl) ?_
    clear E; clear a; intro a E
    refine st_val E (wn rfl) rfl rfl (x_assign E rfl rfl) ?_
    clear E; clear a; intro a E
    refine wpList_nil ?_
    refine q_then ?_
    refine wp_ret ?_
    refine out1 E rfl rfl ?_
    obtain rfl := Option.some.inj hm
    exact ⟨rfl, H.reads (fun r hr => hr)⟩
  · rw [if_f hb6] at hm
    refine st_no E (wf' E rfl rfl rfl rfl hb6 rfl) rfl rfl ?_
    clear E; clear a; intro a E
    refine st_no E (wf' E rfl rfl rfl rfl hb6 rfl) rfl rfl ?_
    clear E; clear a; intro a E
    refine st_no E (wf' E rfl rfl rfl rfl hb6 rfl) rfl rfl ?_
    clear E; clear a; intro a E
    refine st_no E (wf' E rfl rfl rfl rfl hb6 rfl) rfl rfl ?_
    clear E; clear a; intro a E
    refine st_no E (wf' E rfl rfl rfl rfl hb6 rfl) rfl rfl ?_
    clear E; clear a; intro a E
    refine st_no E (wf' E rfl rfl rfl rfl hb6 rfl) rfl rfl ?_
    clear E; clear a; intro a E
    refine st_val E (wn rfl) rfl rfl (x_pickF E rfl rfl hb6 rfl) ?_
    clear E; clear a; intro a E
    refine st_val E (wn rfl) rfl rfl (x_assign E rfl rfl) ?_
    clear E; clear a; intro a E
    refine wpList_nil ?_
    refine q_then ?_
    refine wp_ret ?_
    refine out1 E rfl rfl ?_
    obtain rfl := Option.some.inj hm
    exact ⟨rfl, H.reads (fun r hr => hr)⟩
end Go.Cb
