/- Functions of the program, walked: each comes to its plain function. -/
import Derived.Test.YtlocfgonplkcoaaKc4
set_option linter.unusedVariables false
set_option linter.unusedSimpArgs false
namespace Go.Cb
open Go.Proofs Go.RowKit
def m_cantonref13_Same_l1 (x1 : S_api_Answer) (x8 : S_api_Answer) : Nat → Int → Option Bool
  | 0, _ => none
  | k1 + 1, x68 =>
    if (decide (x68 < (x1.Mounts.length : Int))) = true then ((idx x1.Mounts x68).bind fun x85 => (idx x8.Mounts x68).bind fun x91 => if (!((sEq x85.Prefix x91.Prefix) && ((x85.Group == x91.Group) && ((x85.Epoch == x91.Epoch) && (x85.To == x91.To))))) = true then (some (false)) else (m_cantonref13_Same_l1 x1 x8 k1 (IntKind.i64.wrap (x68 + 1)))) else ((m_cantonref06_SameList x1.Results x8.Results).bind fun u97 => if u97 = true then ((m_cantonref07_Same (⟨x1.Store.Nodes, x1.Store.Turns⟩ : S_api_Store) (⟨x8.Store.Nodes, x8.Store.Turns⟩ : S_api_Store)).bind fun u100 => if u100 = true then ((m_cantonref09_SameEvents x1.Events x8.Events).bind fun u103 => if u103 = true then ((m_cantonref10_SameNums x1.Wounded x8.Wounded).bind fun u106 => some (u106)) else (some (false))) else (some (false))) else (some (false)))
def m_cantonref13_Same_j1 (x1 : S_api_Answer) (x8 : S_api_Answer) (b53 : Bool) : Option Bool :=
  if b53 = true then (some (false)) else (m_cantonref13_Same_l1 x1 x8 (((x1.Mounts.length : Int) - 0 : Int).toNat + 1) 0)
def m_cantonref13_Same (x1 : S_api_Answer) (x8 : S_api_Answer) : Option Bool :=
  if (x1.Err != x8.Err) = true then (m_cantonref13_Same_j1 x1 x8 true) else (if (x1.At != x8.At) = true then (m_cantonref13_Same_j1 x1 x8 true) else (if (x1.Yes != x8.Yes) = true then (m_cantonref13_Same_j1 x1 x8 true) else (if (x1.Epoch != x8.Epoch) = true then (m_cantonref13_Same_j1 x1 x8 true) else (m_cantonref13_Same_j1 x1 x8 ((x1.Mounts.length : Int) != (x8.Mounts.length : Int))))))
set_option maxRecDepth 20000 in
set_option maxHeartbeats 1000000 in
theorem c_cantonref13_Same {w : World} {Fo : List Ob} {rs : List Rp} (x1 : S_api_Answer) (v2 : Value) (v3 : Value) (v4 : Value) (v5 : Value) (v6 : Value) (v7 : Value) (x8 : S_api_Answer) (v9 : Value) (v10 : Value) (v11 : Value) (v12 : Value) (v13 : Value) (v14 : Value) (H : Sep w (Fo) rs) (hr15 : rSl k_api_Result v2 x1.Results ∈ rs) (hr16 : rSl k_api_Node v3 x1.Store.Nodes ∈ rs) (hr17 : rSl k_api_Turn v4 x1.Store.Turns ∈ rs) (hr18 : rSl k_api_Event v5 x1.Events ∈ rs) (hr19 : rSl k_api_Mount v6 x1.Mounts ∈ rs) (hr20 : rSl (kI .i64) v7 x1.Wounded ∈ rs) (hr21 : rSl k_api_Result v9 x8.Results ∈ rs) (hr22 : rSl k_api_Node v10 x8.Store.Nodes ∈ rs) (hr23 : rSl k_api_Turn v11 x8.Store.Turns ∈ rs) (hr24 : rSl k_api_Event v12 x8.Events ∈ rs) (hr25 : rSl k_api_Mount v13 x8.Mounts ∈ rs) (hr26 : rSl (kI .i64) v14 x8.Wounded ∈ rs) {r : Bool} (hm : m_cantonref13_Same x1 x8 = some r) :
    Calls Try.prog 26 [.agg #[.int .i64 x1.Err, .int .i64 x1.At, .bool x1.Yes, .int .i64 x1.Epoch, v2, v3, v4, v5, v6, v7], .agg #[.int .i64 x8.Err, .int .i64 x8.At, .bool x8.Yes, .int .i64 x8.Epoch, v9, v10, v11, v12, v13, v14]].toArray w (Ret fun v w' => .bool r = v ∧ Sep w' (Fo) (rs)) := by
 unfold m_cantonref13_Same at hm
 refine enter Try.func26 rfl Try.ntmps26 rfl fun a E => ?_
 simp only [enum, Nat.reduceAdd] at E
 refine wp_seq ?_
 refine wp_region_lit ?_
 obtain ⟨q28, x29, rfl⟩ := H.slform hr15
 obtain ⟨q30, x31, rfl⟩ := H.slform hr16
 obtain ⟨q32, x33, rfl⟩ := H.slform hr17
 obtain ⟨q34, x35, rfl⟩ := H.slform hr18
 obtain ⟨q36, x37, rfl⟩ := H.slform hr19
 obtain ⟨q38, x39, rfl⟩ := H.slform hr20
 refine st_box E H (wn rfl) rfl rfl (cs := [.int .i64 x1.Err, .int .i64 x1.At, .bool x1.Yes, .int .i64 x1.Epoch, (.slice q28 x1.Results.length x29), (.slice q30 x1.Store.Nodes.length x31), (.slice q32 x1.Store.Turns.length x33), (.slice q34 x1.Events.length x35), (.slice q36 x1.Mounts.length x37), (.slice q38 x1.Wounded.length x39)]) rfl rfl rfl ?_
 clear E H; clear a; clear w; intro p27 w a H E
 obtain ⟨q41, x42, rfl⟩ := H.slform hr21
 obtain ⟨q43, x44, rfl⟩ := H.slform hr22
 obtain ⟨q45, x46, rfl⟩ := H.slform hr23
 obtain ⟨q47, x48, rfl⟩ := H.slform hr24
 obtain ⟨q49, x50, rfl⟩ := H.slform hr25
 obtain ⟨q51, x52, rfl⟩ := H.slform hr26
 refine st_box E H (wn rfl) rfl rfl (cs := [.int .i64 x8.Err, .int .i64 x8.At, .bool x8.Yes, .int .i64 x8.Epoch, (.slice q41 x8.Results.length x42), (.slice q43 x8.Store.Nodes.length x44), (.slice q45 x8.Store.Turns.length x46), (.slice q47 x8.Events.length x48), (.slice q49 x8.Mounts.length x50), (.slice q51 x8.Wounded.length x52)]) rfl rfl rfl ?_
 clear E H; clear a; clear w; intro p40 w a H E
 refine st_val E (wn rfl) rfl rfl (x_assign E rfl rfl) ?_
 clear a E;intro a E
 refine wpList_nil ?_
 refine q_then ?_
 refine wp_seq ?_
 refine wp_seq_cut (fun a w => ∃ (b53 : Bool) (rs54 : List Rp), Env 85 a [(2, .pointer (some ⟨p27, 0, none⟩)), (3, .pointer (some ⟨p40, 0, none⟩)), (40, .bool b53)] ∧ Sep w (Blk p27 50 [.int .i64 x1.Err, .int .i64 x1.At, .bool x1.Yes, .int .i64 x1.Epoch, (.slice q28 x1.Results.length x29), (.slice q30 x1.Store.Nodes.length x31), (.slice q32 x1.Store.Turns.length x33), (.slice q34 x1.Events.length x35), (.slice q36 x1.Mounts.length x37), (.slice q38 x1.Wounded.length x39)] :: Blk p40 50 [.int .i64 x8.Err, .int .i64 x8.At, .bool x8.Yes, .int .i64 x8.Epoch, (.slice q41 x8.Results.length x42), (.slice q43 x8.Store.Nodes.length x44), (.slice q45 x8.Store.Turns.length x46), (.slice q47 x8.Events.length x48), (.slice q49 x8.Mounts.length x50), (.slice q51 x8.Wounded.length x52)] :: Fo) rs54 ∧ (∀ r, r ∈ rs → r ∈ rs54) ∧ rSl k_api_Result (.slice q28 x1.Results.length x29) x1.Results ∈ rs54 ∧ rSl k_api_Node (.slice q30 x1.Store.Nodes.length x31) x1.Store.Nodes ∈ rs54 ∧ rSl k_api_Turn (.slice q32 x1.Store.Turns.length x33) x1.Store.Turns ∈ rs54 ∧ rSl k_api_Event (.slice q34 x1.Events.length x35) x1.Events ∈ rs54 ∧ rSl k_api_Mount (.slice q36 x1.Mounts.length x37) x1.Mounts ∈ rs54 ∧ rSl (kI .i64) (.slice q38 x1.Wounded.length x39) x1.Wounded ∈ rs54 ∧ rSl k_api_Result (.slice q41 x8.Results.length x42) x8.Results ∈ rs54 ∧ rSl k_api_Node (.slice q43 x8.Store.Nodes.length x44) x8.Store.Nodes ∈ rs54 ∧ rSl k_api_Turn (.slice q45 x8.Store.Turns.length x46) x8.Store.Turns ∈ rs54 ∧ rSl k_api_Event (.slice q47 x8.Events.length x48) x8.Events ∈ rs54 ∧ rSl k_api_Mount (.slice q49 x8.Mounts.length x50) x8.Mounts ∈ rs54 ∧ rSl (kI .i64) (.slice q51 x8.Wounded.length x52) x8.Wounded ∈ rs54 ∧ m_cantonref13_Same_j1 x1 x8 b53 = some r) ?_ ?_
 ·refine wp_region_lit ?_
  refine st_val E (wn rfl) rfl rfl (x_fa E rfl rfl (v := .pointer (some ⟨p27, 0, none⟩)) (fa50_0 _ _)) ?_
  clear a E;intro a E
  refine st_val E (wn rfl) rfl rfl (x_ldB (i := 1) E H rfl rfl rfl rfl Try.underlying30 rfl) ?_
  clear a E;intro a E
  refine st_val E (wn rfl) rfl rfl (x_fa E rfl rfl (v := .pointer (some ⟨p40, 0, none⟩)) (fa50_0 _ _)) ?_
  clear a E;intro a E
  refine st_val E (wn rfl) rfl rfl (x_ldB (i := 0) E H rfl rfl rfl rfl Try.underlying30 rfl) ?_
  clear a E;intro a E
  refine st_val E (wn rfl) rfl rfl (x_bin E rfl rfl rfl rfl) ?_
  clear a E;intro a E
  refine st_val E (wn rfl) rfl rfl (x_move E rfl rfl) ?_
  clear a E;intro a E
  rcases Bool.eq_false_or_eq_true (x1.Err != x8.Err) with hb108 | hb108
  ·rw [if_t hb108] at hm
   refine st_no E (wf' E rfl rfl rfl rfl hb108 rfl) rfl rfl ?_
   clear a E;intro a E
   refine st_no E (wf' E rfl rfl rfl rfl hb108 rfl) rfl rfl ?_
   clear a E;intro a E
   refine st_no E (wf' E rfl rfl rfl rfl hb108 rfl) rfl rfl ?_
   clear a E;intro a E
   refine st_no E (wf' E rfl rfl rfl rfl hb108 rfl) rfl rfl ?_
   clear a E;intro a E
   refine st_no E (wf' E rfl rfl rfl rfl hb108 rfl) rfl rfl ?_
   clear a E;intro a E
   refine st_val E (wn rfl) rfl rfl (x_pickT E rfl rfl hb108 rfl) ?_
   clear a E;intro a E
   refine st_val E (wn rfl) rfl rfl (x_move E rfl rfl) ?_
   clear a E;intro a E
   refine st_no E (wf E rfl rfl rfl rfl rfl) rfl rfl ?_
   clear a E;intro a E
   refine st_no E (wf E rfl rfl rfl rfl rfl) rfl rfl ?_
   clear a E;intro a E
   refine st_no E (wf E rfl rfl rfl rfl rfl) rfl rfl ?_
   clear a E;intro a E
   refine st_no E (wf E rfl rfl rfl rfl rfl) rfl rfl ?_
   clear a E;intro a E
   refine st_no E (wf E rfl rfl rfl rfl rfl) rfl rfl ?_
   clear a E;intro a E
   refine st_val E (wn rfl) rfl rfl (x_pickT E rfl rfl rfl rfl) ?_
   clear a E;intro a E
   refine st_val E (wn rfl) rfl rfl (x_move E rfl rfl) ?_
   clear a E;intro a E
   refine st_no E (wf E rfl rfl rfl rfl rfl) rfl rfl ?_
   clear a E;intro a E
   refine st_no E (wf E rfl rfl rfl rfl rfl) rfl rfl ?_
   clear a E;intro a E
   refine st_no E (wf E rfl rfl rfl rfl rfl) rfl rfl ?_
   clear a E;intro a E
   refine st_no E (wf E rfl rfl rfl rfl rfl) rfl rfl ?_
   clear a E;intro a E
   refine st_no E (wf E rfl rfl rfl rfl rfl) rfl rfl ?_
   clear a E;intro a E
   refine st_val E (wn rfl) rfl rfl (x_pickT E rfl rfl rfl rfl) ?_
   clear a E;intro a E
   refine st_val E (wn rfl) rfl rfl (x_move E rfl rfl) ?_
   clear a E;intro a E
   refine st_no E (wf E rfl rfl rfl rfl rfl) rfl rfl ?_
   clear a E;intro a E
   refine st_no E (wf E rfl rfl rfl rfl rfl) rfl rfl ?_
   clear a E;intro a E
   refine st_no E (wf E rfl rfl rfl rfl rfl) rfl rfl ?_
   clear a E;intro a E
   refine st_no E (wf E rfl rfl rfl rfl rfl) rfl rfl ?_
   clear a E;intro a E
   refine st_no E (wf E rfl rfl rfl rfl rfl) rfl rfl ?_
   clear a E;intro a E
   refine st_no E (wf E rfl rfl rfl rfl rfl) rfl rfl ?_
   clear a E;intro a E
   refine st_no E (wf E rfl rfl rfl rfl rfl) rfl rfl ?_
   clear a E;intro a E
   refine st_val E (wn rfl) rfl rfl (x_pickT E rfl rfl rfl rfl) ?_
   clear a E;intro a E
   refine wpList_nil ?_
   refine q_then ?_
   replace H := H.front 0 rfl
   replace H := H.front 1 rfl
   exact ⟨true, _, (((E.nil.keep E 40 rfl).keep E 3 rfl).keep E 2 rfl), H, fun r hr => hr, hr15, hr16, hr17, hr18, hr19, hr20, hr21, hr22, hr23, hr24, hr25, hr26, hm⟩
  ·rw [if_f hb108] at hm
   refine st_val E (ws' E rfl rfl rfl rfl hb108) rfl rfl (x_fa E rfl rfl (v := .pointer (some ⟨p27, 1, none⟩)) (fa50_1 _ _)) ?_
   clear a E;intro a E
   refine st_val E (ws' E rfl rfl rfl rfl hb108) rfl rfl (x_ldB (i := 1) E H rfl rfl rfl rfl Try.underlying3 rfl) ?_
   clear a E;intro a E
   refine st_val E (ws' E rfl rfl rfl rfl hb108) rfl rfl (x_fa E rfl rfl (v := .pointer (some ⟨p40, 1, none⟩)) (fa50_1 _ _)) ?_
   clear a E;intro a E
   refine st_val E (ws' E rfl rfl rfl rfl hb108) rfl rfl (x_ldB (i := 0) E H rfl rfl rfl rfl Try.underlying3 rfl) ?_
   clear a E;intro a E
   refine st_val E (ws' E rfl rfl rfl rfl hb108) rfl rfl (x_bin E rfl rfl rfl rfl) ?_
   clear a E;intro a E
   refine st_val E (wn rfl) rfl rfl (x_pickF E rfl rfl hb108 rfl) ?_
   clear a E;intro a E
   refine st_val E (wn rfl) rfl rfl (x_move E rfl rfl) ?_
   clear a E;intro a E
   rcases Bool.eq_false_or_eq_true (x1.At != x8.At) with hb109 | hb109
   ·rw [if_t hb109] at hm
    refine st_no E (wf' E rfl rfl rfl rfl hb109 rfl) rfl rfl ?_
    clear a E;intro a E
    refine st_no E (wf' E rfl rfl rfl rfl hb109 rfl) rfl rfl ?_
    clear a E;intro a E
    refine st_no E (wf' E rfl rfl rfl rfl hb109 rfl) rfl rfl ?_
    clear a E;intro a E
    refine st_no E (wf' E rfl rfl rfl rfl hb109 rfl) rfl rfl ?_
    clear a E;intro a E
    refine st_no E (wf' E rfl rfl rfl rfl hb109 rfl) rfl rfl ?_
    clear a E;intro a E
    refine st_val E (wn rfl) rfl rfl (x_pickT E rfl rfl hb109 rfl) ?_
    clear a E;intro a E
    refine st_val E (wn rfl) rfl rfl (x_move E rfl rfl) ?_
    clear a E;intro a E
    refine st_no E (wf E rfl rfl rfl rfl rfl) rfl rfl ?_
    clear a E;intro a E
    refine st_no E (wf E rfl rfl rfl rfl rfl) rfl rfl ?_
    clear a E;intro a E
    refine st_no E (wf E rfl rfl rfl rfl rfl) rfl rfl ?_
    clear a E;intro a E
    refine st_no E (wf E rfl rfl rfl rfl rfl) rfl rfl ?_
    clear a E;intro a E
    refine st_no E (wf E rfl rfl rfl rfl rfl) rfl rfl ?_
    clear a E;intro a E
    refine st_val E (wn rfl) rfl rfl (x_pickT E rfl rfl rfl rfl) ?_
    clear a E;intro a E
    refine st_val E (wn rfl) rfl rfl (x_move E rfl rfl) ?_
    clear a E;intro a E
    refine st_no E (wf E rfl rfl rfl rfl rfl) rfl rfl ?_
    clear a E;intro a E
    refine st_no E (wf E rfl rfl rfl rfl rfl) rfl rfl ?_
    clear a E;intro a E
    refine st_no E (wf E rfl rfl rfl rfl rfl) rfl rfl ?_
    clear a E;intro a E
    refine st_no E (wf E rfl rfl rfl rfl rfl) rfl rfl ?_
    clear a E;intro a E
    refine st_no E (wf E rfl rfl rfl rfl rfl) rfl rfl ?_
    clear a E;intro a E
    refine st_no E (wf E rfl rfl rfl rfl rfl) rfl rfl ?_
    clear a E;intro a E
    refine st_no E (wf E rfl rfl rfl rfl rfl) rfl rfl ?_
    clear a E;intro a E
    refine st_val E (wn rfl) rfl rfl (x_pickT E rfl rfl rfl rfl) ?_
    clear a E;intro a E
    refine wpList_nil ?_
    refine q_then ?_
    replace H := H.front 0 rfl
    replace H := H.front 1 rfl
    exact ⟨true, _, (((E.nil.keep E 40 rfl).keep E 3 rfl).keep E 2 rfl), H, fun r hr => hr, hr15, hr16, hr17, hr18, hr19, hr20, hr21, hr22, hr23, hr24, hr25, hr26, hm⟩
   ·rw [if_f hb109] at hm
    refine st_val E (ws' E rfl rfl rfl rfl hb109) rfl rfl (x_fa E rfl rfl (v := .pointer (some ⟨p27, 2, none⟩)) (fa50_2 _ _)) ?_
    clear a E;intro a E
    refine st_val E (ws' E rfl rfl rfl rfl hb109) rfl rfl (x_ldB (i := 1) E H rfl rfl rfl rfl Try.underlying4 rfl) ?_
    clear a E;intro a E
    refine st_val E (ws' E rfl rfl rfl rfl hb109) rfl rfl (x_fa E rfl rfl (v := .pointer (some ⟨p40, 2, none⟩)) (fa50_2 _ _)) ?_
    clear a E;intro a E
    refine st_val E (ws' E rfl rfl rfl rfl hb109) rfl rfl (x_ldB (i := 0) E H rfl rfl rfl rfl Try.underlying4 rfl) ?_
    clear a E;intro a E
    refine st_val E (ws' E rfl rfl rfl rfl hb109) rfl rfl (x_bin2 E rfl rfl rfl (v := .bool (x1.Yes != x8.Yes)) (by kernel_rfl)) ?_
    clear a E;intro a E
    refine st_val E (wn rfl) rfl rfl (x_pickF E rfl rfl hb109 rfl) ?_
    clear a E;intro a E
    refine st_val E (wn rfl) rfl rfl (x_move E rfl rfl) ?_
    clear a E;intro a E
    rcases Bool.eq_false_or_eq_true (x1.Yes != x8.Yes) with hb110 | hb110
    ·rw [if_t hb110] at hm
     refine st_no E (wf' E rfl rfl rfl rfl hb110 rfl) rfl rfl ?_
     clear a E;intro a E
     refine st_no E (wf' E rfl rfl rfl rfl hb110 rfl) rfl rfl ?_
     clear a E;intro a E
     refine st_no E (wf' E rfl rfl rfl rfl hb110 rfl) rfl rfl ?_
     clear a E;intro a E
     refine st_no E (wf' E rfl rfl rfl rfl hb110 rfl) rfl rfl ?_
     clear a E;intro a E
     refine st_no E (wf' E rfl rfl rfl rfl hb110 rfl) rfl rfl ?_
     clear a E;intro a E
     refine st_val E (wn rfl) rfl rfl (x_pickT E rfl rfl hb110 rfl) ?_
     clear a E;intro a E
     refine st_val E (wn rfl) rfl rfl (x_move E rfl rfl) ?_
     clear a E;intro a E
     refine st_no E (wf E rfl rfl rfl rfl rfl) rfl rfl ?_
     clear a E;intro a E
     refine st_no E (wf E rfl rfl rfl rfl rfl) rfl rfl ?_
     clear a E;intro a E
     refine st_no E (wf E rfl rfl rfl rfl rfl) rfl rfl ?_
     clear a E;intro a E
     refine st_no E (wf E rfl rfl rfl rfl rfl) rfl rfl ?_
     clear a E;intro a E
     refine st_no E (wf E rfl rfl rfl rfl rfl) rfl rfl ?_
     clear a E;intro a E
     refine st_no E (wf E rfl rfl rfl rfl rfl) rfl rfl ?_
     clear a E;intro a E
     refine st_no E (wf E rfl rfl rfl rfl rfl) rfl rfl ?_
     clear a E;intro a E
     refine st_val E (wn rfl) rfl rfl (x_pickT E rfl rfl rfl rfl) ?_
     clear a E;intro a E
     refine wpList_nil ?_
     refine q_then ?_
     replace H := H.front 0 rfl
     replace H := H.front 1 rfl
     exact ⟨true, _, (((E.nil.keep E 40 rfl).keep E 3 rfl).keep E 2 rfl), H, fun r hr => hr, hr15, hr16, hr17, hr18, hr19, hr20, hr21, hr22, hr23, hr24, hr25, hr26, hm⟩
    ·rw [if_f hb110] at hm
     refine st_val E (ws' E rfl rfl rfl rfl hb110) rfl rfl (x_fa E rfl rfl (v := .pointer (some ⟨p27, 3, none⟩)) (fa50_3 _ _)) ?_
     clear a E;intro a E
     refine st_val E (ws' E rfl rfl rfl rfl hb110) rfl rfl (x_ldB (i := 1) E H rfl rfl rfl rfl Try.underlying2 rfl) ?_
     clear a E;intro a E
     refine st_val E (ws' E rfl rfl rfl rfl hb110) rfl rfl (x_fa E rfl rfl (v := .pointer (some ⟨p40, 3, none⟩)) (fa50_3 _ _)) ?_
     clear a E;intro a E
     refine st_val E (ws' E rfl rfl rfl rfl hb110) rfl rfl (x_ldB (i := 0) E H rfl rfl rfl rfl Try.underlying2 rfl) ?_
     clear a E;intro a E
     refine st_val E (ws' E rfl rfl rfl rfl hb110) rfl rfl (x_bin E rfl rfl rfl rfl) ?_
     clear a E;intro a E
     refine st_val E (wn rfl) rfl rfl (x_pickF E rfl rfl hb110 rfl) ?_
     clear a E;intro a E
     refine st_val E (wn rfl) rfl rfl (x_move E rfl rfl) ?_
     clear a E;intro a E
     rcases Bool.eq_false_or_eq_true (x1.Epoch != x8.Epoch) with hb111 | hb111
     ·rw [if_t hb111] at hm
      refine st_no E (wf' E rfl rfl rfl rfl hb111 rfl) rfl rfl ?_
      clear a E;intro a E
      refine st_no E (wf' E rfl rfl rfl rfl hb111 rfl) rfl rfl ?_
      clear a E;intro a E
      refine st_no E (wf' E rfl rfl rfl rfl hb111 rfl) rfl rfl ?_
      clear a E;intro a E
      refine st_no E (wf' E rfl rfl rfl rfl hb111 rfl) rfl rfl ?_
      clear a E;intro a E
      refine st_no E (wf' E rfl rfl rfl rfl hb111 rfl) rfl rfl ?_
      clear a E;intro a E
      refine st_no E (wf' E rfl rfl rfl rfl hb111 rfl) rfl rfl ?_
      clear a E;intro a E
      refine st_no E (wf' E rfl rfl rfl rfl hb111 rfl) rfl rfl ?_
      clear a E;intro a E
      refine st_val E (wn rfl) rfl rfl (x_pickT E rfl rfl hb111 rfl) ?_
      clear a E;intro a E
      refine wpList_nil ?_
      refine q_then ?_
      replace H := H.front 0 rfl
      replace H := H.front 1 rfl
      exact ⟨true, _, (((E.nil.keep E 40 rfl).keep E 3 rfl).keep E 2 rfl), H, fun r hr => hr, hr15, hr16, hr17, hr18, hr19, hr20, hr21, hr22, hr23, hr24, hr25, hr26, hm⟩
     ·rw [if_f hb111] at hm
      refine st_val E (ws' E rfl rfl rfl rfl hb111) rfl rfl (x_fa E rfl rfl (v := .pointer (some ⟨p27, 8, none⟩)) (fa50_7 _ _)) ?_
      clear a E;intro a E
      refine st_val E (ws' E rfl rfl rfl rfl hb111) rfl rfl (x_ldB (i := 1) E H rfl rfl rfl rfl Try.underlying47 rfl) ?_
      clear a E;intro a E
      refine st_val E (ws' E rfl rfl rfl rfl hb111) rfl rfl (x_lenS E H rfl rfl hr19 Try.underlying47) ?_
      clear a E;intro a E
      refine st_val E (ws' E rfl rfl rfl rfl hb111) rfl rfl (x_fa E rfl rfl (v := .pointer (some ⟨p40, 8, none⟩)) (fa50_7 _ _)) ?_
      clear a E;intro a E
      refine st_val E (ws' E rfl rfl rfl rfl hb111) rfl rfl (x_ldB (i := 0) E H rfl rfl rfl rfl Try.underlying47 rfl) ?_
      clear a E;intro a E
      refine st_val E (ws' E rfl rfl rfl rfl hb111) rfl rfl (x_lenS E H rfl rfl hr25 Try.underlying47) ?_
      clear a E;intro a E
      refine st_val E (ws' E rfl rfl rfl rfl hb111) rfl rfl (x_bin E rfl rfl rfl rfl) ?_
      clear a E;intro a E
      refine st_val E (wn rfl) rfl rfl (x_pickF E rfl rfl hb111 rfl) ?_
      clear a E;intro a E
      refine wpList_nil ?_
      refine q_then ?_
      replace H := H.front 0 rfl
      replace H := H.front 1 rfl
      exact ⟨(x1.Mounts.length : Int) != (x8.Mounts.length : Int), _, (((E.nil.keep E 40 rfl).keep E 3 rfl).keep E 2 rfl), H, fun r hr => hr, hr15, hr16, hr17, hr18, hr19, hr20, hr21, hr22, hr23, hr24, hr25, hr26, hm⟩
 ·clear E H hm
  rintro a w ⟨b53, rs54, E, H, hs55, hr56, hr57, hr58, hr59, hr60, hr61, hr62, hr63, hr64, hr65, hr66, hr67, hm⟩
  unfold m_cantonref13_Same_j1 at hm
  refine wp_if E rfl ?_ ?_
  ·intro hb
   rw [if_t hb] at hm
   clear hb
   refine wp_seq ?_
   refine wp_region_lit ?_
   refine st_val E (wn rfl) rfl rfl (x_assign E rfl rfl) ?_
   clear a E;intro a E
   refine wpList_nil ?_
   refine q_then ?_
   refine wp_ret ?_
   refine q_thenR ?_
   refine out1 E rfl rfl ?_
   replace H := H.drop 0
   replace H := H.drop 0
   obtain rfl := Option.some.inj hm
   exact ⟨rfl, H.reads (fun r hr => hs55 r hr)⟩
  ·intro hb
   rw [if_f hb] at hm
   clear hb
   refine wp_skip ?_
   refine q_then ?_
   refine wp_seq ?_
   refine wp_seq ?_
   refine wp_region_lit ?_
   refine st_val E (wn rfl) rfl rfl (x_assign E rfl rfl) ?_
   clear a E;intro a E
   refine wpList_nil ?_
   refine q_then ?_
   refine wp_block ?_
   refine wp_loop_g (fun k1 a w => ∃ (x68 : Int) (rs69 : List Rp), Env 85 a [(2, .pointer (some ⟨p27, 0, none⟩)), (3, .pointer (some ⟨p40, 0, none⟩)), (5, .int .i64 x68)] ∧ Sep w (Blk p27 50 [.int .i64 x1.Err, .int .i64 x1.At, .bool x1.Yes, .int .i64 x1.Epoch, (.slice q28 x1.Results.length x29), (.slice q30 x1.Store.Nodes.length x31), (.slice q32 x1.Store.Turns.length x33), (.slice q34 x1.Events.length x35), (.slice q36 x1.Mounts.length x37), (.slice q38 x1.Wounded.length x39)] :: Blk p40 50 [.int .i64 x8.Err, .int .i64 x8.At, .bool x8.Yes, .int .i64 x8.Epoch, (.slice q41 x8.Results.length x42), (.slice q43 x8.Store.Nodes.length x44), (.slice q45 x8.Store.Turns.length x46), (.slice q47 x8.Events.length x48), (.slice q49 x8.Mounts.length x50), (.slice q51 x8.Wounded.length x52)] :: Fo) rs69 ∧ (∀ r, r ∈ rs → r ∈ rs69) ∧ rSl k_api_Result (.slice q28 x1.Results.length x29) x1.Results ∈ rs69 ∧ rSl k_api_Node (.slice q30 x1.Store.Nodes.length x31) x1.Store.Nodes ∈ rs69 ∧ rSl k_api_Turn (.slice q32 x1.Store.Turns.length x33) x1.Store.Turns ∈ rs69 ∧ rSl k_api_Event (.slice q34 x1.Events.length x35) x1.Events ∈ rs69 ∧ rSl k_api_Mount (.slice q36 x1.Mounts.length x37) x1.Mounts ∈ rs69 ∧ rSl (kI .i64) (.slice q38 x1.Wounded.length x39) x1.Wounded ∈ rs69 ∧ rSl k_api_Result (.slice q41 x8.Results.length x42) x8.Results ∈ rs69 ∧ rSl k_api_Node (.slice q43 x8.Store.Nodes.length x44) x8.Store.Nodes ∈ rs69 ∧ rSl k_api_Turn (.slice q45 x8.Store.Turns.length x46) x8.Store.Turns ∈ rs69 ∧ rSl k_api_Event (.slice q47 x8.Events.length x48) x8.Events ∈ rs69 ∧ rSl k_api_Mount (.slice q49 x8.Mounts.length x50) x8.Mounts ∈ rs69 ∧ rSl (kI .i64) (.slice q51 x8.Wounded.length x52) x8.Wounded ∈ rs69 ∧ m_cantonref13_Same_l1 x1 x8 k1 x68 = some r) (((x1.Mounts.length : Int) - 0 : Int).toNat + 1) ?_ ?_
   ·exact ⟨0, _, (((E.nil.keep E 5 rfl).keep E 3 rfl).keep E 2 rfl), H, hs55, hr56, hr57, hr58, hr59, hr60, hr61, hr62, hr63, hr64, hr65, hr66, hr67, hm⟩
   ·clear E H hm
    rintro k1 a w ⟨x68, rs69, E, H, hs70, hr71, hr72, hr73, hr74, hr75, hr76, hr77, hr78, hr79, hr80, hr81, hr82, hm⟩
    cases k1 with
    | zero => exact (none_some hm rfl).elim
    | succ k1 =>
     unfold m_cantonref13_Same_l1 at hm
     refine wp_seq ?_
     refine wp_seq ?_
     refine wp_region_lit ?_
     refine st_val E (wn rfl) rfl rfl (x_move E rfl rfl) ?_
     clear a E;intro a E
     refine st_val E (wn rfl) rfl rfl (x_fa E rfl rfl (v := .pointer (some ⟨p27, 8, none⟩)) (fa50_7 _ _)) ?_
     clear a E;intro a E
     refine st_val E (wn rfl) rfl rfl (x_ldB (i := 0) E H rfl rfl rfl rfl Try.underlying47 rfl) ?_
     clear a E;intro a E
     refine st_val E (wn rfl) rfl rfl (x_lenS E H rfl rfl hr75 Try.underlying47) ?_
     clear a E;intro a E
     refine st_val E (wn rfl) rfl rfl (x_bin E rfl rfl rfl rfl) ?_
     clear a E;intro a E
     refine wpList_nil ?_
     refine q_then ?_
     refine wp_if E rfl ?_ ?_
     ·intro hb
      rw [if_t hb] at hm
      clear hb
      refine wp_skip ?_
      refine q_then ?_
      refine wp_seq ?_
      refine wp_block ?_
      refine wp_seq ?_
      obtain ⟨u83, H⟩ := H.raw hr75
      obtain ⟨u84, H⟩ := H.raw (.tail _ hr81)
      replace H : Sep w (Blk p27 50 [.int .i64 x1.Err, .int .i64 x1.At, .bool x1.Yes, .int .i64 x1.Epoch, (.slice q28 x1.Results.length x29), (.slice q30 x1.Store.Nodes.length x31), (.slice q32 x1.Store.Turns.length x33), (.slice q34 x1.Events.length x35), (.slice q36 x1.Mounts.length x37), (.slice q38 x1.Wounded.length x39)] :: Blk p40 50 [.int .i64 x8.Err, .int .i64 x8.At, .bool x8.Yes, .int .i64 x8.Epoch, (.slice q41 x8.Results.length x42), (.slice q43 x8.Store.Nodes.length x44), (.slice q45 x8.Store.Turns.length x46), (.slice q47 x8.Events.length x48), (.slice q49 x8.Mounts.length x50), (.slice q51 x8.Wounded.length x52)] :: Fo) (rRow k_api_Mount (.slice q49 x8.Mounts.length x50) x8.Mounts u84 :: rRow k_api_Mount (.slice q36 x1.Mounts.length x37) x1.Mounts u83 :: rs69) := H
      have hI : Still [Blk p27 50 [.int .i64 x1.Err, .int .i64 x1.At, .bool x1.Yes, .int .i64 x1.Epoch, (.slice q28 x1.Results.length x29), (.slice q30 x1.Store.Nodes.length x31), (.slice q32 x1.Store.Turns.length x33), (.slice q34 x1.Events.length x35), (.slice q36 x1.Mounts.length x37), (.slice q38 x1.Wounded.length x39)], Blk p40 50 [.int .i64 x8.Err, .int .i64 x8.At, .bool x8.Yes, .int .i64 x8.Epoch, (.slice q41 x8.Results.length x42), (.slice q43 x8.Store.Nodes.length x44), (.slice q45 x8.Store.Turns.length x46), (.slice q47 x8.Events.length x48), (.slice q49 x8.Mounts.length x50), (.slice q51 x8.Wounded.length x52)]] [rRow k_api_Mount (.slice q36 x1.Mounts.length x37) x1.Mounts u83, rRow k_api_Mount (.slice q49 x8.Mounts.length x50) x8.Mounts u84] { w with drawn := w.drawn + 1 } := ⟨_, _, H.kept (Kp.drawn _ w _), (subO_cons (.head _) (subO_cons (.tail _ (.head _)) (subO_nil))), (sub_cons (.tail _ (.head _)) (sub_cons (.head _) (sub_nil)))⟩
      refine wp_draw _ [(0, 0), (1, 0), (2, 0), (3, 0), (4, 0), (5, 0), (6, 0), (7, 0), (8, 0), (9, 0), (10, 0)] mixedOk (by kernel_rfl) (fun _ _ _ h => False.elim h.2) hI ?_
      replace H := H.kept (Kp.drawn _ w (w.drawn + 1))
      generalize ({ w with drawn := w.drawn + 1 } : World) = w at H hI ⊢
      replace hI : ∃ W, Still [Blk p27 50 [.int .i64 x1.Err, .int .i64 x1.At, .bool x1.Yes, .int .i64 x1.Epoch, (.slice q28 x1.Results.length x29), (.slice q30 x1.Store.Nodes.length x31), (.slice q32 x1.Store.Turns.length x33), (.slice q34 x1.Events.length x35), (.slice q36 x1.Mounts.length x37), (.slice q38 x1.Wounded.length x39)], Blk p40 50 [.int .i64 x8.Err, .int .i64 x8.At, .bool x8.Yes, .int .i64 x8.Epoch, (.slice q41 x8.Results.length x42), (.slice q43 x8.Store.Nodes.length x44), (.slice q45 x8.Store.Turns.length x46), (.slice q47 x8.Events.length x48), (.slice q49 x8.Mounts.length x50), (.slice q51 x8.Wounded.length x52)]] [rRow k_api_Mount (.slice q36 x1.Mounts.length x37) x1.Mounts u83, rRow k_api_Mount (.slice q49 x8.Mounts.length x50) x8.Mounts u84] W := ⟨_, hI⟩
      obtain ⟨W0, hI⟩ := hI
      refine fr_val E rfl (wn rfl) rfl rfl (fun w hW => x_fa E rfl rfl (v := .pointer (some ⟨p27, 8, none⟩)) (fa50_7 _ _)) ?_
      clear a E;intro a E
      refine fr_val E rfl (wn rfl) rfl rfl (fun w hW => x_ld E rfl rfl (ib_ld (.head _) rfl Try.underlying47 rfl w hW)) ?_
      clear a E;intro a E
      refine fr_val E rfl (wn rfl) rfl rfl (fun w hW => (x_move E rfl rfl)) ?_
      clear a E;intro a E
      obtain ⟨x85, hx86, hm⟩ := bnd hm
      obtain ⟨q87, u90, hx88, hx89⟩ := dr_ixW (P := Try.prog) (k := .i64) hI (dr_mem (.head _)) Try.underlying47 sz70 hx86
      refine fr_val E rfl (wn rfl) rfl rfl (fun w hW => x_ixA E rfl rfl rfl (hx88 w)) ?_
      clear a E;intro a E
      refine fr_val E rfl (wn rfl) rfl rfl (fun w hW => x_ld E rfl rfl (ir_ldN (cs := [.string x85.Prefix, .int .i64 x85.Group, .int .i64 x85.Epoch, .int .i64 x85.To]) (DR.ir (dr_at hx89)) (fun _ _ _ h => k_api_Mount_open h) Try.underlying70 rfl sz70 w hW)) ?_
      clear a E;intro a E
      refine fr_val E rfl (wn rfl) rfl rfl (fun w hW => x_fa E rfl rfl (v := .pointer (some ⟨p40, 8, none⟩)) (fa50_7 _ _)) ?_
      clear a E;intro a E
      refine fr_val E rfl (wn rfl) rfl rfl (fun w hW => x_ld E rfl rfl (ib_ld (.tail _ (.head _)) rfl Try.underlying47 rfl w hW)) ?_
      clear a E;intro a E
      refine fr_val E rfl (wn rfl) rfl rfl (fun w hW => (x_move E rfl rfl)) ?_
      clear a E;intro a E
      obtain ⟨x91, hx92, hm⟩ := bnd hm
      obtain ⟨q93, u96, hx94, hx95⟩ := dr_ixW (P := Try.prog) (k := .i64) hI (dr_mem (.tail _ (.head _))) Try.underlying47 sz70 hx92
      refine fr_val E rfl (wn rfl) rfl rfl (fun w hW => x_ixA E rfl rfl rfl (hx94 w)) ?_
      clear a E;intro a E
      refine fr_val E rfl (wn rfl) rfl rfl (fun w hW => x_ld E rfl rfl (ir_ldN (cs := [.string x91.Prefix, .int .i64 x91.Group, .int .i64 x91.Epoch, .int .i64 x91.To]) (DR.ir (dr_at hx95)) (fun _ _ _ h => k_api_Mount_open h) Try.underlying70 rfl sz70 w hW)) ?_
      clear a E;intro a E
      refine fr_val E rfl (wn rfl) rfl rfl (fun w hW => (x_bin2 E rfl rfl rfl (v := .bool (!((sEq x85.Prefix x91.Prefix) && ((x85.Group == x91.Group) && ((x85.Epoch == x91.Epoch) && (x85.To == x91.To)))))) (ne_agg egt70 (eq_struct Try.underlying70 sih70 (eqf_cons (by rfl) (by kernel_rfl) (by kernel_rfl) (eq_string Try.underlying9) (eqf_cons (by rfl) (by kernel_rfl) (by kernel_rfl) (eq_int Try.underlying3) (eqf_cons (by rfl) (by kernel_rfl) (by kernel_rfl) (eq_int Try.underlying2) (eqf_last (by rfl) (by kernel_rfl) (by kernel_rfl) (eq_int Try.underlying3))))))))) ?_
      clear a E;intro a E
      refine fr_nil ?_
      clear hI
      refine q_then ?_
      refine wp_if E rfl ?_ ?_
      ·intro hb
       rw [if_t hb] at hm
       clear hb
       refine wp_seq ?_
       refine wp_region_lit ?_
       refine st_val E (wn rfl) rfl rfl (x_assign E rfl rfl) ?_
       clear a E;intro a E
       refine wpList_nil ?_
       refine q_then ?_
       refine wp_ret ?_
       refine q_blkR ?_
       refine q_thenR ?_
       refine q_thenR ?_
       refine q_blkR ?_
       refine q_thenR ?_
       refine out1 E rfl rfl ?_
       replace H := H.drop 0
       replace H := H.drop 0
       obtain rfl := Option.some.inj hm
       exact ⟨rfl, H.reads (fun r hr => .tail _ (.tail _ (hs70 r hr)))⟩
      ·intro hb
       rw [if_f hb] at hm
       clear hb
       refine wp_skip ?_
       refine q_blk ?_
       refine q_then ?_
       refine wp_region_lit ?_
       refine st_val E (wn rfl) rfl rfl (x_move E rfl rfl) ?_
       clear a E;intro a E
       refine st_val E (wn rfl) rfl rfl (x_bin E rfl rfl rfl rfl) ?_
       clear a E;intro a E
       refine st_val E (wn rfl) rfl rfl (x_assign E rfl rfl) ?_
       clear a E;intro a E
       refine wpList_nil ?_
       refine q_then ?_
       exact ⟨k1, Nat.lt_succ_self k1, IntKind.i64.wrap (x68 + 1), _, (((E.nil.keep E 5 rfl).keep E 3 rfl).keep E 2 rfl), H, fun r hr => .tail _ (.tail _ (hs70 r hr)), (.tail _ (.tail _ hr71)), (.tail _ (.tail _ hr72)), (.tail _ (.tail _ hr73)), (.tail _ (.tail _ hr74)), (.tail _ (.tail _ hr75)), (.tail _ (.tail _ hr76)), (.tail _ (.tail _ hr77)), (.tail _ (.tail _ hr78)), (.tail _ (.tail _ hr79)), (.tail _ (.tail _ hr80)), (.tail _ (.tail _ hr81)), (.tail _ (.tail _ hr82)), hm⟩
     ·intro hb
      rw [if_f hb] at hm
      clear hb
      refine wp_exit ?_
      refine q_thenX ?_
      refine q_thenX ?_
      refine q_hit ?_
      refine q_then ?_
      refine wp_seq ?_
      refine wp_region_lit ?_
      refine st_val E (wn rfl) rfl rfl (x_fa E rfl rfl (v := .pointer (some ⟨p27, 4, none⟩)) (fa50_4 _ _)) ?_
      clear a E;intro a E
      refine st_val E (wn rfl) rfl rfl (x_ldB (i := 0) E H rfl rfl rfl rfl Try.underlying41 rfl) ?_
      clear a E;intro a E
      refine st_val E (wn rfl) rfl rfl (x_fa E rfl rfl (v := .pointer (some ⟨p40, 4, none⟩)) (fa50_4 _ _)) ?_
      clear a E;intro a E
      refine st_val E (wn rfl) rfl rfl (x_ldB (i := 1) E H rfl rfl rfl rfl Try.underlying41 rfl) ?_
      clear a E;intro a E
      obtain ⟨u97, hx98, hm⟩ := bnd hm
      refine st_call E (wn rfl) rfl rfl (x_call E rfl rfl (cf79 _)) (c_cantonref06_SameList (.slice q28 x1.Results.length x29) x1.Results (.slice q41 x8.Results.length x42) x8.Results H hr71 hr77 hx98) ?_
      clear E H; clear a; clear w; rintro _ w ⟨rfl, H⟩ a E
      refine st_val E (wn rfl) rfl rfl (x_move E rfl rfl) ?_
      clear a E;intro a E
      rcases Bool.eq_false_or_eq_true u97 with hb99 | hb99
      ·rw [if_t hb99] at hm
       refine st_val E (ws' E rfl rfl rfl rfl hb99) rfl rfl (x_fa E rfl rfl (v := .pointer (some ⟨p27, 5, none⟩)) (fa50_5 _ _)) ?_
       clear a E;intro a E
       refine st_val E (ws' E rfl rfl rfl rfl hb99) rfl rfl (x_ldBN (i := 0) (us := [(.slice q30 x1.Store.Nodes.length x31), (.slice q32 x1.Store.Turns.length x33)]) E H rfl rfl rfl rfl Try.underlying45 rfl sz45) ?_
       clear a E;intro a E
       refine st_val E (ws' E rfl rfl rfl rfl hb99) rfl rfl (x_fa E rfl rfl (v := .pointer (some ⟨p40, 5, none⟩)) (fa50_5 _ _)) ?_
       clear a E;intro a E
       refine st_val E (ws' E rfl rfl rfl rfl hb99) rfl rfl (x_ldBN (i := 1) (us := [(.slice q43 x8.Store.Nodes.length x44), (.slice q45 x8.Store.Turns.length x46)]) E H rfl rfl rfl rfl Try.underlying45 rfl sz45) ?_
       clear a E;intro a E
       obtain ⟨u100, hx101, hm⟩ := bnd hm
       refine st_call E (ws' E rfl rfl rfl rfl hb99) rfl rfl (x_call E rfl rfl (cf80 _)) (c_cantonref07_Same (⟨x1.Store.Nodes, x1.Store.Turns⟩ : S_api_Store) (.slice q30 x1.Store.Nodes.length x31) (.slice q32 x1.Store.Turns.length x33) (⟨x8.Store.Nodes, x8.Store.Turns⟩ : S_api_Store) (.slice q43 x8.Store.Nodes.length x44) (.slice q45 x8.Store.Turns.length x46) H hr72 hr73 hr78 hr79 hx101) ?_
       clear E H; clear a; clear w; rintro _ w ⟨rfl, H⟩ a E
       refine st_val E (wn rfl) rfl rfl (x_pickT E rfl rfl hb99 rfl) ?_
       clear a E;intro a E
       refine st_val E (wn rfl) rfl rfl (x_move E rfl rfl) ?_
       clear a E;intro a E
       rcases Bool.eq_false_or_eq_true u100 with hb102 | hb102
       ·rw [if_t hb102] at hm
        refine st_val E (ws' E rfl rfl rfl rfl hb102) rfl rfl (x_fa E rfl rfl (v := .pointer (some ⟨p27, 7, none⟩)) (fa50_6 _ _)) ?_
        clear a E;intro a E
        refine st_val E (ws' E rfl rfl rfl rfl hb102) rfl rfl (x_ldB (i := 0) E H rfl rfl rfl rfl Try.underlying46 rfl) ?_
        clear a E;intro a E
        refine st_val E (ws' E rfl rfl rfl rfl hb102) rfl rfl (x_fa E rfl rfl (v := .pointer (some ⟨p40, 7, none⟩)) (fa50_6 _ _)) ?_
        clear a E;intro a E
        refine st_val E (ws' E rfl rfl rfl rfl hb102) rfl rfl (x_ldB (i := 1) E H rfl rfl rfl rfl Try.underlying46 rfl) ?_
        clear a E;intro a E
        obtain ⟨u103, hx104, hm⟩ := bnd hm
        refine st_call E (ws' E rfl rfl rfl rfl hb102) rfl rfl (x_call E rfl rfl (cf81 _)) (c_cantonref09_SameEvents (.slice q34 x1.Events.length x35) x1.Events (.slice q47 x8.Events.length x48) x8.Events H hr74 hr80 hx104) ?_
        clear E H; clear a; clear w; rintro _ w ⟨rfl, H⟩ a E
        refine st_val E (wn rfl) rfl rfl (x_pickT E rfl rfl hb102 rfl) ?_
        clear a E;intro a E
        refine st_val E (wn rfl) rfl rfl (x_move E rfl rfl) ?_
        clear a E;intro a E
        rcases Bool.eq_false_or_eq_true u103 with hb105 | hb105
        ·rw [if_t hb105] at hm
         refine st_val E (ws' E rfl rfl rfl rfl hb105) rfl rfl (x_fa E rfl rfl (v := .pointer (some ⟨p27, 9, none⟩)) (fa50_8 _ _)) ?_
         clear a E;intro a E
         refine st_val E (ws' E rfl rfl rfl rfl hb105) rfl rfl (x_ldB (i := 0) E H rfl rfl rfl rfl Try.underlying48 rfl) ?_
         clear a E;intro a E
         refine st_val E (ws' E rfl rfl rfl rfl hb105) rfl rfl (x_fa E rfl rfl (v := .pointer (some ⟨p40, 9, none⟩)) (fa50_8 _ _)) ?_
         clear a E;intro a E
         refine st_val E (ws' E rfl rfl rfl rfl hb105) rfl rfl (x_ldB (i := 1) E H rfl rfl rfl rfl Try.underlying48 rfl) ?_
         clear a E;intro a E
         obtain ⟨u106, hx107, hm⟩ := bnd hm
         refine st_call E (ws' E rfl rfl rfl rfl hb105) rfl rfl (x_call E rfl rfl (cf82 _)) (c_cantonref10_SameNums (.slice q38 x1.Wounded.length x39) x1.Wounded (.slice q51 x8.Wounded.length x52) x8.Wounded H hr76 hr82 hx107) ?_
         clear E H; clear a; clear w; rintro _ w ⟨rfl, H⟩ a E
         refine st_val E (wn rfl) rfl rfl (x_pickT E rfl rfl hb105 rfl) ?_
         clear a E;intro a E
         refine st_val E (wn rfl) rfl rfl (x_assign E rfl rfl) ?_
         clear a E;intro a E
         refine wpList_nil ?_
         refine q_then ?_
         refine wp_ret ?_
         refine out1 E rfl rfl ?_
         replace H := H.drop 0
         replace H := H.drop 0
         obtain rfl := Option.some.inj hm
         exact ⟨rfl, H.reads (fun r hr => hs70 r hr)⟩
        ·rw [if_f hb105] at hm
         refine st_no E (wf' E rfl rfl rfl rfl hb105 rfl) rfl rfl ?_
         clear a E;intro a E
         refine st_no E (wf' E rfl rfl rfl rfl hb105 rfl) rfl rfl ?_
         clear a E;intro a E
         refine st_no E (wf' E rfl rfl rfl rfl hb105 rfl) rfl rfl ?_
         clear a E;intro a E
         refine st_no E (wf' E rfl rfl rfl rfl hb105 rfl) rfl rfl ?_
         clear a E;intro a E
         refine st_no E (wf' E rfl rfl rfl rfl hb105 rfl) rfl rfl ?_
         clear a E;intro a E
         refine st_val E (wn rfl) rfl rfl (x_pickF E rfl rfl hb105 rfl) ?_
         clear a E;intro a E
         refine st_val E (wn rfl) rfl rfl (x_assign E rfl rfl) ?_
         clear a E;intro a E
         refine wpList_nil ?_
         refine q_then ?_
         refine wp_ret ?_
         refine out1 E rfl rfl ?_
         replace H := H.drop 0
         replace H := H.drop 0
         obtain rfl := Option.some.inj hm
         exact ⟨rfl, H.reads (fun r hr => hs70 r hr)⟩
       ·rw [if_f hb102] at hm
        refine st_no E (wf' E rfl rfl rfl rfl hb102 rfl) rfl rfl ?_
        clear a E;intro a E
        refine st_no E (wf' E rfl rfl rfl rfl hb102 rfl) rfl rfl ?_
        clear a E;intro a E
        refine st_no E (wf' E rfl rfl rfl rfl hb102 rfl) rfl rfl ?_
        clear a E;intro a E
        refine st_no E (wf' E rfl rfl rfl rfl hb102 rfl) rfl rfl ?_
        clear a E;intro a E
        refine st_no E (wf' E rfl rfl rfl rfl hb102 rfl) rfl rfl ?_
        clear a E;intro a E
        refine st_val E (wn rfl) rfl rfl (x_pickF E rfl rfl hb102 rfl) ?_
        clear a E;intro a E
        refine st_val E (wn rfl) rfl rfl (x_move E rfl rfl) ?_
        clear a E;intro a E
        refine st_no E (wf E rfl rfl rfl rfl rfl) rfl rfl ?_
        clear a E;intro a E
        refine st_no E (wf E rfl rfl rfl rfl rfl) rfl rfl ?_
        clear a E;intro a E
        refine st_no E (wf E rfl rfl rfl rfl rfl) rfl rfl ?_
        clear a E;intro a E
        refine st_no E (wf E rfl rfl rfl rfl rfl) rfl rfl ?_
        clear a E;intro a E
        refine st_no E (wf E rfl rfl rfl rfl rfl) rfl rfl ?_
        clear a E;intro a E
        refine st_val E (wn rfl) rfl rfl (x_pickF E rfl rfl rfl rfl) ?_
        clear a E;intro a E
        refine st_val E (wn rfl) rfl rfl (x_assign E rfl rfl) ?_
        clear a E;intro a E
        refine wpList_nil ?_
        refine q_then ?_
        refine wp_ret ?_
        refine out1 E rfl rfl ?_
        replace H := H.drop 0
        replace H := H.drop 0
        obtain rfl := Option.some.inj hm
        exact ⟨rfl, H.reads (fun r hr => hs70 r hr)⟩
      ·rw [if_f hb99] at hm
       refine st_no E (wf' E rfl rfl rfl rfl hb99 rfl) rfl rfl ?_
       clear a E;intro a E
       refine st_no E (wf' E rfl rfl rfl rfl hb99 rfl) rfl rfl ?_
       clear a E;intro a E
       refine st_no E (wf' E rfl rfl rfl rfl hb99 rfl) rfl rfl ?_
       clear a E;intro a E
       refine st_no E (wf' E rfl rfl rfl rfl hb99 rfl) rfl rfl ?_
       clear a E;intro a E
       refine st_no E (wf' E rfl rfl rfl rfl hb99 rfl) rfl rfl ?_
       clear a E;intro a E
       refine st_val E (wn rfl) rfl rfl (x_pickF E rfl rfl hb99 rfl) ?_
       clear a E;intro a E
       refine st_val E (wn rfl) rfl rfl (x_move E rfl rfl) ?_
       clear a E;intro a E
       refine st_no E (wf E rfl rfl rfl rfl rfl) rfl rfl ?_
       clear a E;intro a E
       refine st_no E (wf E rfl rfl rfl rfl rfl) rfl rfl ?_
       clear a E;intro a E
       refine st_no E (wf E rfl rfl rfl rfl rfl) rfl rfl ?_
       clear a E;intro a E
       refine st_no E (wf E rfl rfl rfl rfl rfl) rfl rfl ?_
       clear a E;intro a E
       refine st_no E (wf E rfl rfl rfl rfl rfl) rfl rfl ?_
       clear a E;intro a E
       refine st_val E (wn rfl) rfl rfl (x_pickF E rfl rfl rfl rfl) ?_
       clear a E;intro a E
       refine st_val E (wn rfl) rfl rfl (x_move E rfl rfl) ?_
       clear a E;intro a E
       refine st_no E (wf E rfl rfl rfl rfl rfl) rfl rfl ?_
       clear a E;intro a E
       refine st_no E (wf E rfl rfl rfl rfl rfl) rfl rfl ?_
       clear a E;intro a E
       refine st_no E (wf E rfl rfl rfl rfl rfl) rfl rfl ?_
       clear a E;intro a E
       refine st_no E (wf E rfl rfl rfl rfl rfl) rfl rfl ?_
       clear a E;intro a E
       refine st_no E (wf E rfl rfl rfl rfl rfl) rfl rfl ?_
       clear a E;intro a E
       refine st_val E (wn rfl) rfl rfl (x_pickF E rfl rfl rfl rfl) ?_
       clear a E;intro a E
       refine st_val E (wn rfl) rfl rfl (x_assign E rfl rfl) ?_
       clear a E;intro a E
       refine wpList_nil ?_
       refine q_then ?_
       refine wp_ret ?_
       refine out1 E rfl rfl ?_
       replace H := H.drop 0
       replace H := H.drop 0
       obtain rfl := Option.some.inj hm
       exact ⟨rfl, H.reads (fun r hr => hs70 r hr)⟩
end Go.Cb

set_option linter.unusedVariables false
set_option linter.unusedSimpArgs false
namespace Go.Cb
open Go.Proofs Go.RowKit
def m_cantonlaw06_Great_j1 (x4 : Int) : Option Bool :=
  some (decide (x4 ≥ 5000))
def m_cantonlaw06_Great_l1 (l2 : List S_api_Node) : Nat → Int → Int → Option Bool
  | 0, _, _ => none
  | k1 + 1, x7, x8 =>
    if (decide (x8 < (l2.length : Int))) = true then (if (decide (x7 < 5000)) = true then ((idx l2 x8).bind fun x14 => (idx l2 x8).bind fun x21 => m_cantonlaw06_Great_l1 l2 k1 (IntKind.i64.wrap ((IntKind.i64.wrap (x7 + (min (x14.Path.size : Int) 5000))) + (min (x21.Data.size : Int) 5000))) (IntKind.i64.wrap (x8 + 1))) else (m_cantonlaw06_Great_j1 x7)) else (m_cantonlaw06_Great_j1 x7)
def m_cantonlaw06_Great (l2 : List S_api_Node) : Option Bool :=
  m_cantonlaw06_Great_l1 l2 5002 (IntKind.i64.wrap (3 * (l2.length : Int))) 0
set_option maxRecDepth 20000 in
set_option maxHeartbeats 1000000 in
theorem c_cantonlaw06_Great {w : World} {Fo : List Ob} {rs : List Rp} (v1 : Value) (l2 : List S_api_Node) (H : Sep w (Fo) rs) (hr3 : rSl k_api_Node v1 l2 ∈ rs) {r : Bool} (hm : m_cantonlaw06_Great l2 = some r) :
    Calls Try.prog 87 [v1].toArray w (Ret fun v w' => .bool r = v ∧ Sep w' (Fo) (rs)) := by
 unfold m_cantonlaw06_Great at hm
 refine enter Try.func87 rfl Try.ntmps87 rfl fun a E => ?_
 simp only [enum, Nat.reduceAdd] at E
 refine wp_seq ?_
 refine wp_region_lit ?_
 refine st_val E (wn rfl) rfl rfl (x_assign E rfl rfl) ?_
 clear a E;intro a E
 refine wpList_nil ?_
 refine q_then ?_
 refine wp_seq ?_
 refine wp_region_lit ?_
 refine st_val E (wn rfl) rfl rfl (x_move E rfl rfl) ?_
 clear a E;intro a E
 refine st_val E (wn rfl) rfl rfl (x_lenS E H rfl rfl hr3 Try.underlying42) ?_
 clear a E;intro a E
 refine st_val E (wn rfl) rfl rfl (x_bin E rfl rfl rfl rfl) ?_
 clear a E;intro a E
 refine st_val E (wn rfl) rfl rfl (x_assign E rfl rfl) ?_
 clear a E;intro a E
 refine wpList_nil ?_
 refine q_then ?_
 refine wp_seq_cut (fun a w => ∃ (x4 : Int) (rs5 : List Rp), Env 37 a [(3, .int .i64 x4)] ∧ Sep w (Fo) rs5 ∧ (∀ r, r ∈ rs → r ∈ rs5) ∧ m_cantonlaw06_Great_j1 x4 = some r) ?_ ?_
 ·refine wp_seq ?_
  refine wp_region_lit ?_
  refine st_val E (wn rfl) rfl rfl (x_assign E rfl rfl) ?_
  clear a E;intro a E
  refine wpList_nil ?_
  refine q_then ?_
  refine wp_block ?_
  refine wp_loop_g (fun k1 a w => ∃ (x7 : Int) (x8 : Int) (rs9 : List Rp), Env 37 a [(0, v1), (3, .int .i64 x7), (4, .int .i64 x8)] ∧ Sep w (Fo) rs9 ∧ (∀ r, r ∈ rs → r ∈ rs9) ∧ rSl k_api_Node v1 l2 ∈ rs9 ∧ m_cantonlaw06_Great_l1 l2 k1 x7 x8 = some r) (5002) ?_ ?_
  ·exact ⟨IntKind.i64.wrap (3 * (l2.length : Int)), 0, _, (((E.nil.keep E 4 rfl).keep E 3 rfl).keep E 0 rfl), H, fun r hr => hr, hr3, hm⟩
  ·clear E H hm
   rintro k1 a w ⟨x7, x8, rs9, E, H, hs10, hr11, hm⟩
   cases k1 with
   | zero => exact (none_some hm rfl).elim
   | succ k1 =>
    unfold m_cantonlaw06_Great_l1 at hm
    refine wp_seq ?_
    refine wp_seq ?_
    refine wp_region_lit ?_
    refine st_val E (wn rfl) rfl rfl (x_move E rfl rfl) ?_
    clear a E;intro a E
    refine st_val E (wn rfl) rfl rfl (x_move E rfl rfl) ?_
    clear a E;intro a E
    refine st_val E (wn rfl) rfl rfl (x_lenS E H rfl rfl hr11 Try.underlying42) ?_
    clear a E;intro a E
    refine st_val E (wn rfl) rfl rfl (x_bin E rfl rfl rfl rfl) ?_
    clear a E;intro a E
    refine st_val E (wn rfl) rfl rfl (x_move E rfl rfl) ?_
    clear a E;intro a E
    rcases Bool.eq_false_or_eq_true (decide (x8 < (l2.length : Int))) with hb12 | hb12
    ·rw [if_t hb12] at hm
     refine st_val E (ws' E rfl rfl rfl rfl hb12) rfl rfl (x_move E rfl rfl) ?_
     clear a E;intro a E
     refine st_val E (ws' E rfl rfl rfl rfl hb12) rfl rfl (x_bin E rfl rfl rfl rfl) ?_
     clear a E;intro a E
     refine st_val E (wn rfl) rfl rfl (x_pickT E rfl rfl hb12 rfl) ?_
     clear a E;intro a E
     refine wpList_nil ?_
     refine q_then ?_
     refine wp_if E rfl ?_ ?_
     ·intro hb
      rw [if_t hb] at hm
      clear hb
      refine wp_skip ?_
      refine q_then ?_
      refine wp_seq ?_
      refine wp_block ?_
      obtain ⟨u13, H⟩ := H.raw hr11
      replace H : Sep w (Fo) (rRow k_api_Node v1 l2 u13 :: rs9) := H
      have hI : Still [] [rRow k_api_Node v1 l2 u13] { w with drawn := w.drawn + 1 } := ⟨_, _, H.kept (Kp.drawn _ w _), (subO_nil), (sub_cons (.head _) (sub_nil))⟩
      refine wp_draw _ [(0, 0), (1, 0), (2, 0), (3, 0), (4, 0), (5, 0), (6, 0), (7, 0), (8, 0), (9, 0), (10, 0), (11, 0), (12, 0), (13, 0), (14, 0), (15, 0), (16, 0), (17, 2)] mixedOk (by kernel_rfl) (fun _ _ _ h => False.elim h.2) hI ?_
      replace H := H.kept (Kp.drawn _ w (w.drawn + 1))
      generalize ({ w with drawn := w.drawn + 1 } : World) = w at H hI ⊢
      replace hI : ∃ W, Still [] [rRow k_api_Node v1 l2 u13] W := ⟨_, hI⟩
      obtain ⟨W0, hI⟩ := hI
      refine fr_val E rfl (wn rfl) rfl rfl (fun w hW => (x_move E rfl rfl)) ?_
      clear a E;intro a E
      refine fr_val E rfl (wn rfl) rfl rfl (fun w hW => (x_move E rfl rfl)) ?_
      clear a E;intro a E
      refine fr_val E rfl (wn rfl) rfl rfl (fun w hW => (x_move E rfl rfl)) ?_
      clear a E;intro a E
      obtain ⟨x14, hx15, hm⟩ := bnd hm
      obtain ⟨q16, u19, hx17, hx18⟩ := dr_ixW (P := Try.prog) (k := .i64) hI (dr_mem (.head _)) Try.underlying42 sz64 hx15
      refine fr_val E rfl (wn rfl) rfl rfl (fun w hW => x_ixA E rfl rfl rfl (hx17 w)) ?_
      clear a E;intro a E
      have hx20 := dr_fld hx18 (fun _ _ _ h => k_api_Node_aw0 h)
      refine fr_val E rfl (wn rfl) rfl rfl (fun w hW => x_fa E rfl rfl (fa64_0 _ _)) ?_
      clear a E;intro a E
      refine fr_val E rfl (wn rfl) rfl rfl (fun w hW => x_ld E rfl rfl (ir_ld (DR.ir (dr_at hx20)) Try.underlying9 rfl w hW)) ?_
      clear a E;intro a E
      refine fr_val E rfl (wn rfl) rfl rfl (fun w hW => (x_lenStr E rfl rfl Try.underlying9)) ?_
      clear a E;intro a E
      refine fr_val E rfl (wn rfl) rfl rfl (fun w hW => (x_min (t := 0) E rfl rfl rfl)) ?_
      clear a E;intro a E
      refine fr_val E rfl (wn rfl) rfl rfl (fun w hW => (x_bin E rfl rfl rfl rfl)) ?_
      clear a E;intro a E
      refine fr_val E rfl (wn rfl) rfl rfl (fun w hW => (x_move E rfl rfl)) ?_
      clear a E;intro a E
      refine fr_val E rfl (wn rfl) rfl rfl (fun w hW => (x_move E rfl rfl)) ?_
      clear a E;intro a E
      obtain ⟨x21, hx22, hm⟩ := bnd hm
      obtain ⟨q23, u26, hx24, hx25⟩ := dr_ixW (P := Try.prog) (k := .i64) hI (dr_mem (.head _)) Try.underlying42 sz64 hx22
      refine fr_val E rfl (wn rfl) rfl rfl (fun w hW => x_ixA E rfl rfl rfl (hx24 w)) ?_
      clear a E;intro a E
      have hx27 := dr_fld hx25 (fun _ _ _ h => k_api_Node_aw1 h)
      refine fr_val E rfl (wn rfl) rfl rfl (fun w hW => x_fa E rfl rfl (fa64_1 _ _)) ?_
      clear a E;intro a E
      refine fr_val E rfl (wn rfl) rfl rfl (fun w hW => x_ld E rfl rfl (ir_ld (DR.ir (dr_at hx27)) Try.underlying9 rfl w hW)) ?_
      clear a E;intro a E
      refine fr_val E rfl (wn rfl) rfl rfl (fun w hW => (x_lenStr E rfl rfl Try.underlying9)) ?_
      clear a E;intro a E
      refine fr_val E rfl (wn rfl) rfl rfl (fun w hW => (x_min (t := 0) E rfl rfl rfl)) ?_
      clear a E;intro a E
      refine fr_val E rfl (wn rfl) rfl rfl (fun w hW => (x_bin E rfl rfl rfl rfl)) ?_
      clear a E;intro a E
      refine fr_tail rfl ?_
      refine st_val E (wn rfl) rfl rfl (x_assign E rfl rfl) ?_
      clear a E;intro a E
      refine wpList_nil ?_
      refine q_then ?_
      refine fr_nil ?_
      clear hI
      refine q_blk ?_
      refine q_then ?_
      refine wp_region_lit ?_
      refine st_val E (wn rfl) rfl rfl (x_move E rfl rfl) ?_
      clear a E;intro a E
      refine st_val E (wn rfl) rfl rfl (x_bin E rfl rfl rfl rfl) ?_
      clear a E;intro a E
      refine st_val E (wn rfl) rfl rfl (x_assign E rfl rfl) ?_
      clear a E;intro a E
      refine wpList_nil ?_
      refine q_then ?_
      exact ⟨k1, Nat.lt_succ_self k1, IntKind.i64.wrap ((IntKind.i64.wrap (x7 + (min (x14.Path.size : Int) 5000))) + (min (x21.Data.size : Int) 5000)), IntKind.i64.wrap (x8 + 1), _, (((E.nil.keep E 4 rfl).keep E 3 rfl).keep E 0 rfl), H, fun r hr => .tail _ (hs10 r hr), (.tail _ hr11), hm⟩
     ·intro hb
      rw [if_f hb] at hm
      clear hb
      refine wp_exit ?_
      refine q_thenX ?_
      refine q_thenX ?_
      refine q_hit ?_
      refine q_then ?_
      exact ⟨x7, _, (E.nil.keep E 3 rfl), H, hs10, hm⟩
    ·rw [if_f hb12] at hm
     refine st_no E (wf' E rfl rfl rfl rfl hb12 rfl) rfl rfl ?_
     clear a E;intro a E
     refine st_no E (wf' E rfl rfl rfl rfl hb12 rfl) rfl rfl ?_
     clear a E;intro a E
     refine st_val E (wn rfl) rfl rfl (x_pickF E rfl rfl hb12 rfl) ?_
     clear a E;intro a E
     refine wpList_nil ?_
     refine q_then ?_
     refine wp_cond_false (E.eval rfl) ?_
     refine wp_exit ?_
     refine q_thenX ?_
     refine q_thenX ?_
     refine q_hit ?_
     refine q_then ?_
     exact ⟨x7, _, (E.nil.keep E 3 rfl), H, hs10, hm⟩
 ·clear E H hm
  rintro a w ⟨x4, rs5, E, H, hs6, hm⟩
  unfold m_cantonlaw06_Great_j1 at hm
  refine wp_seq ?_
  refine wp_region_lit ?_
  refine st_val E (wn rfl) rfl rfl (x_move E rfl rfl) ?_
  clear a E;intro a E
  refine st_val E (wn rfl) rfl rfl (x_bin E rfl rfl rfl rfl) ?_
  clear a E;intro a E
  refine st_val E (wn rfl) rfl rfl (x_assign E rfl rfl) ?_
  clear a E;intro a E
  refine wpList_nil ?_
  refine q_then ?_
  refine wp_ret ?_
  refine out1 E rfl rfl ?_
  obtain rfl := Option.some.inj hm
  exact ⟨rfl, H.reads (fun r hr => hs6 r hr)⟩
end Go.Cb

set_option linter.unusedVariables false
set_option linter.unusedSimpArgs false
namespace Go.Cb
open Go.Proofs Go.RowKit
def m_cantonlaw07_Great_j1 (x1 : S_api_Store) (x11 : Int) : Option Bool :=
  if (decide (x11 ≥ 3000)) = true then (some (true)) else ((m_cantonlaw06_Great x1.Nodes).bind fun u17 => some (u17))
def m_cantonlaw07_Great_l1 (x1 : S_api_Store) : Nat → Int → Int → Option Bool
  | 0, _, _ => none
  | k1 + 1, x19, x20 =>
    if (decide (x20 < (x1.Turns.length : Int))) = true then (if (decide (x19 < 3000)) = true then ((idx x1.Turns x20).bind fun x26 => m_cantonlaw07_Great_l1 x1 k1 (IntKind.i64.wrap (x19 + (min (x26.Dir.size : Int) 3000))) (IntKind.i64.wrap (x20 + 1))) else (m_cantonlaw07_Great_j1 x1 x19)) else (m_cantonlaw07_Great_j1 x1 x19)
def m_cantonlaw07_Great (x1 : S_api_Store) : Option Bool :=
  m_cantonlaw07_Great_l1 x1 3002 (x1.Turns.length : Int) 0
set_option maxRecDepth 20000 in
set_option maxHeartbeats 1000000 in
theorem c_cantonlaw07_Great {w : World} {Fo : List Ob} {rs : List Rp} (x1 : S_api_Store) (v2 : Value) (v3 : Value) (H : Sep w (Fo) rs) (hr4 : rSl k_api_Node v2 x1.Nodes ∈ rs) (hr5 : rSl k_api_Turn v3 x1.Turns ∈ rs) {r : Bool} (hm : m_cantonlaw07_Great x1 = some r) :
    Calls Try.prog 50 [.agg #[v2, v3]].toArray w (Ret fun v w' => .bool r = v ∧ Sep w' (Fo) (rs)) := by
 unfold m_cantonlaw07_Great at hm
 refine enter Try.func50 rfl Try.ntmps50 rfl fun a E => ?_
 simp only [enum, Nat.reduceAdd] at E
 refine wp_seq ?_
 refine wp_region_lit ?_
 obtain ⟨q7, x8, rfl⟩ := H.slform hr4
 obtain ⟨q9, x10, rfl⟩ := H.slform hr5
 refine st_box E H (wn rfl) rfl rfl (cs := [(.slice q7 x1.Nodes.length x8), (.slice q9 x1.Turns.length x10)]) rfl rfl rfl ?_
 clear E H; clear a; clear w; intro p6 w a H E
 refine st_val E (wn rfl) rfl rfl (x_assign E rfl rfl) ?_
 clear a E;intro a E
 refine wpList_nil ?_
 refine q_then ?_
 refine wp_seq ?_
 refine wp_region_lit ?_
 refine st_val E (wn rfl) rfl rfl (x_fa E rfl rfl (v := .pointer (some ⟨p6, 1, none⟩)) (fa45_1 _ _)) ?_
 clear a E;intro a E
 refine st_val E (wn rfl) rfl rfl (x_ldB (i := 0) E H rfl rfl rfl rfl Try.underlying43 rfl) ?_
 clear a E;intro a E
 refine st_val E (wn rfl) rfl rfl (x_lenS E H rfl rfl hr5 Try.underlying43) ?_
 clear a E;intro a E
 refine st_val E (wn rfl) rfl rfl (x_assign E rfl rfl) ?_
 clear a E;intro a E
 refine wpList_nil ?_
 refine q_then ?_
 refine wp_seq_cut (fun a w => ∃ (x11 : Int) (rs12 : List Rp), Env 36 a [(1, .pointer (some ⟨p6, 0, none⟩)), (3, .int .i64 x11)] ∧ Sep w (Blk p6 45 [(.slice q7 x1.Nodes.length x8), (.slice q9 x1.Turns.length x10)] :: Fo) rs12 ∧ (∀ r, r ∈ rs → r ∈ rs12) ∧ rSl k_api_Node (.slice q7 x1.Nodes.length x8) x1.Nodes ∈ rs12 ∧ rSl k_api_Turn (.slice q9 x1.Turns.length x10) x1.Turns ∈ rs12 ∧ m_cantonlaw07_Great_j1 x1 x11 = some r) ?_ ?_
 ·refine wp_seq ?_
  refine wp_region_lit ?_
  refine st_val E (wn rfl) rfl rfl (x_assign E rfl rfl) ?_
  clear a E;intro a E
  refine wpList_nil ?_
  refine q_then ?_
  refine wp_block ?_
  refine wp_loop_g (fun k1 a w => ∃ (x19 : Int) (x20 : Int) (rs21 : List Rp), Env 36 a [(1, .pointer (some ⟨p6, 0, none⟩)), (3, .int .i64 x19), (4, .int .i64 x20)] ∧ Sep w (Blk p6 45 [(.slice q7 x1.Nodes.length x8), (.slice q9 x1.Turns.length x10)] :: Fo) rs21 ∧ (∀ r, r ∈ rs → r ∈ rs21) ∧ rSl k_api_Node (.slice q7 x1.Nodes.length x8) x1.Nodes ∈ rs21 ∧ rSl k_api_Turn (.slice q9 x1.Turns.length x10) x1.Turns ∈ rs21 ∧ m_cantonlaw07_Great_l1 x1 k1 x19 x20 = some r) (3002) ?_ ?_
  ·exact ⟨(x1.Turns.length : Int), 0, _, (((E.nil.keep E 4 rfl).keep E 3 rfl).keep E 1 rfl), H, fun r hr => hr, hr4, hr5, hm⟩
  ·clear E H hm
   rintro k1 a w ⟨x19, x20, rs21, E, H, hs22, hr23, hr24, hm⟩
   cases k1 with
   | zero => exact (none_some hm rfl).elim
   | succ k1 =>
    unfold m_cantonlaw07_Great_l1 at hm
    refine wp_seq ?_
    refine wp_seq ?_
    refine wp_region_lit ?_
    refine st_val E (wn rfl) rfl rfl (x_move E rfl rfl) ?_
    clear a E;intro a E
    refine st_val E (wn rfl) rfl rfl (x_fa E rfl rfl (v := .pointer (some ⟨p6, 1, none⟩)) (fa45_1 _ _)) ?_
    clear a E;intro a E
    refine st_val E (wn rfl) rfl rfl (x_ldB (i := 0) E H rfl rfl rfl rfl Try.underlying43 rfl) ?_
    clear a E;intro a E
    refine st_val E (wn rfl) rfl rfl (x_lenS E H rfl rfl hr24 Try.underlying43) ?_
    clear a E;intro a E
    refine st_val E (wn rfl) rfl rfl (x_bin E rfl rfl rfl rfl) ?_
    clear a E;intro a E
    refine st_val E (wn rfl) rfl rfl (x_move E rfl rfl) ?_
    clear a E;intro a E
    rcases Bool.eq_false_or_eq_true (decide (x20 < (x1.Turns.length : Int))) with hb25 | hb25
    ·rw [if_t hb25] at hm
     refine st_val E (ws' E rfl rfl rfl rfl hb25) rfl rfl (x_move E rfl rfl) ?_
     clear a E;intro a E
     refine st_val E (ws' E rfl rfl rfl rfl hb25) rfl rfl (x_bin E rfl rfl rfl rfl) ?_
     clear a E;intro a E
     refine st_val E (wn rfl) rfl rfl (x_pickT E rfl rfl hb25 rfl) ?_
     clear a E;intro a E
     refine wpList_nil ?_
     refine q_then ?_
     refine wp_if E rfl ?_ ?_
     ·intro hb
      rw [if_t hb] at hm
      clear hb
      refine wp_skip ?_
      refine q_then ?_
      refine wp_seq ?_
      refine wp_block ?_
      refine wp_region_lit ?_
      refine st_val E (wn rfl) rfl rfl (x_move E rfl rfl) ?_
      clear a E;intro a E
      refine st_val E (wn rfl) rfl rfl (x_fa E rfl rfl (v := .pointer (some ⟨p6, 1, none⟩)) (fa45_1 _ _)) ?_
      clear a E;intro a E
      refine st_val E (wn rfl) rfl rfl (x_ldB (i := 0) E H rfl rfl rfl rfl Try.underlying43 rfl) ?_
      clear a E;intro a E
      refine st_val E (wn rfl) rfl rfl (x_move E rfl rfl) ?_
      clear a E;intro a E
      obtain ⟨x26, hx27, hm⟩ := bnd hm
      refine st_ixS E H (wn rfl) rfl rfl rfl rfl rfl hr24 Try.underlying43 sz66 hx27 ?_
      clear E H; clear a; intro q28 a H E
      replace H := H.derive1 (.head _) (rAt kS (q28.add 0) x26.Dir) (fun ok h => k_api_Turn_at0 h)
      refine st_val E (wn rfl) rfl rfl (x_fa E rfl rfl (fa66_0 _ _)) ?_
      clear a E;intro a E
      refine st_val E (wn rfl) rfl rfl (x_ldA E H rfl rfl (.head _) Try.underlying9 rfl) ?_
      clear a E;intro a E
      refine st_val E (wn rfl) rfl rfl (x_lenStr E rfl rfl Try.underlying9) ?_
      clear a E;intro a E
      refine st_val E (wn rfl) rfl rfl (x_min (t := 0) E rfl rfl rfl) ?_
      clear a E;intro a E
      refine st_val E (wn rfl) rfl rfl (x_bin E rfl rfl rfl rfl) ?_
      clear a E;intro a E
      refine st_val E (wn rfl) rfl rfl (x_assign E rfl rfl) ?_
      clear a E;intro a E
      refine wpList_nil ?_
      refine q_blk ?_
      refine q_then ?_
      refine wp_region_lit ?_
      refine st_val E (wn rfl) rfl rfl (x_move E rfl rfl) ?_
      clear a E;intro a E
      refine st_val E (wn rfl) rfl rfl (x_bin E rfl rfl rfl rfl) ?_
      clear a E;intro a E
      refine st_val E (wn rfl) rfl rfl (x_assign E rfl rfl) ?_
      clear a E;intro a E
      refine wpList_nil ?_
      refine q_then ?_
      exact ⟨k1, Nat.lt_succ_self k1, IntKind.i64.wrap (x19 + (min (x26.Dir.size : Int) 3000)), IntKind.i64.wrap (x20 + 1), _, (((E.nil.keep E 4 rfl).keep E 3 rfl).keep E 1 rfl), H, fun r hr => .tail _ (.tail _ (hs22 r hr)), (.tail _ (.tail _ hr23)), (.tail _ (.tail _ hr24)), hm⟩
     ·intro hb
      rw [if_f hb] at hm
      clear hb
      refine wp_exit ?_
      refine q_thenX ?_
      refine q_thenX ?_
      refine q_hit ?_
      refine q_then ?_
      exact ⟨x19, _, ((E.nil.keep E 3 rfl).keep E 1 rfl), H, hs22, hr23, hr24, hm⟩
    ·rw [if_f hb25] at hm
     refine st_no E (wf' E rfl rfl rfl rfl hb25 rfl) rfl rfl ?_
     clear a E;intro a E
     refine st_no E (wf' E rfl rfl rfl rfl hb25 rfl) rfl rfl ?_
     clear a E;intro a E
     refine st_val E (wn rfl) rfl rfl (x_pickF E rfl rfl hb25 rfl) ?_
     clear a E;intro a E
     refine wpList_nil ?_
     refine q_then ?_
     refine wp_cond_false (E.eval rfl) ?_
     refine wp_exit ?_
     refine q_thenX ?_
     refine q_thenX ?_
     refine q_hit ?_
     refine q_then ?_
     exact ⟨x19, _, ((E.nil.keep E 3 rfl).keep E 1 rfl), H, hs22, hr23, hr24, hm⟩
 ·clear E H hm
  rintro a w ⟨x11, rs12, E, H, hs13, hr14, hr15, hm⟩
  unfold m_cantonlaw07_Great_j1 at hm
  refine wp_seq ?_
  refine wp_region_lit ?_
  refine st_val E (wn rfl) rfl rfl (x_move E rfl rfl) ?_
  clear a E;intro a E
  refine st_val E (wn rfl) rfl rfl (x_bin E rfl rfl rfl rfl) ?_
  clear a E;intro a E
  refine st_val E (wn rfl) rfl rfl (x_move E rfl rfl) ?_
  clear a E;intro a E
  rcases Bool.eq_false_or_eq_true (decide (x11 ≥ 3000)) with hb16 | hb16
  ·rw [if_t hb16] at hm
   refine st_no E (wf' E rfl rfl rfl rfl hb16 rfl) rfl rfl ?_
   clear a E;intro a E
   refine st_no E (wf' E rfl rfl rfl rfl hb16 rfl) rfl rfl ?_
   clear a E;intro a E
   refine st_no E (wf' E rfl rfl rfl rfl hb16 rfl) rfl rfl ?_
   clear a E;intro a E
   refine st_val E (wn rfl) rfl rfl (x_pickT E rfl rfl hb16 rfl) ?_
   clear a E;intro a E
   refine st_val E (wn rfl) rfl rfl (x_assign E rfl rfl) ?_
   clear a E;intro a E
   refine wpList_nil ?_
   refine q_then ?_
   refine wp_ret ?_
   refine out1 E rfl rfl ?_
   replace H := H.drop 0
   obtain rfl := Option.some.inj hm
   exact ⟨rfl, H.reads (fun r hr => hs13 r hr)⟩
  ·rw [if_f hb16] at hm
   refine st_val E (ws' E rfl rfl rfl rfl hb16) rfl rfl (x_fa E rfl rfl (v := .pointer (some ⟨p6, 0, none⟩)) (fa45_0 _ _)) ?_
   clear a E;intro a E
   refine st_val E (ws' E rfl rfl rfl rfl hb16) rfl rfl (x_ldB (i := 0) E H rfl rfl rfl rfl Try.underlying42 rfl) ?_
   clear a E;intro a E
   obtain ⟨u17, hx18, hm⟩ := bnd hm
   refine st_call E (ws' E rfl rfl rfl rfl hb16) rfl rfl (x_call E rfl rfl (cf87 _)) (c_cantonlaw06_Great (.slice q7 x1.Nodes.length x8) x1.Nodes H hr14 hx18) ?_
   clear E H; clear a; clear w; rintro _ w ⟨rfl, H⟩ a E
   refine st_val E (wn rfl) rfl rfl (x_pickF E rfl rfl hb16 rfl) ?_
   clear a E;intro a E
   refine st_val E (wn rfl) rfl rfl (x_assign E rfl rfl) ?_
   clear a E;intro a E
   refine wpList_nil ?_
   refine q_then ?_
   refine wp_ret ?_
   refine out1 E rfl rfl ?_
   replace H := H.drop 0
   obtain rfl := Option.some.inj hm
   exact ⟨rfl, H.reads (fun r hr => hs13 r hr)⟩
end Go.Cb

set_option linter.unusedVariables false
set_option linter.unusedSimpArgs false
namespace Go.Cb
open Go.Proofs Go.RowKit
def m_cantonlaw17_GreatAnswer_j3 (x1 : S_api_Answer) (x45 : Int) : Option Bool :=
  if (decide (x45 ≥ 9000)) = true then (some (true)) else ((m_cantonlaw07_Great (⟨x1.Store.Nodes, x1.Store.Turns⟩ : S_api_Store)).bind fun u55 => some (u55))
def m_cantonlaw17_GreatAnswer_l1 (x1 : S_api_Answer) : Nat → Int → Int → Option Bool
  | 0, _, _ => none
  | k1 + 1, x57, x58 =>
    if (decide (x58 < (x1.Mounts.length : Int))) = true then (if (decide (x57 < 9000)) = true then ((idx x1.Mounts x58).bind fun x68 => m_cantonlaw17_GreatAnswer_l1 x1 k1 (IntKind.i64.wrap (x57 + (min (x68.Prefix.size : Int) 9000))) (IntKind.i64.wrap (x58 + 1))) else (m_cantonlaw17_GreatAnswer_j3 x1 x57)) else (m_cantonlaw17_GreatAnswer_j3 x1 x57)
def m_cantonlaw17_GreatAnswer_j2 (x1 : S_api_Answer) (x36 : Int) : Option Bool :=
  m_cantonlaw17_GreatAnswer_l1 x1 9002 x36 0
def m_cantonlaw17_GreatAnswer_l2 (x1 : S_api_Answer) : Nat → Int → Int → Option Bool
  | 0, _, _ => none
  | k2 + 1, x71, x72 =>
    if (decide (x72 < (x1.Events.length : Int))) = true then (if (decide (x71 < 9000)) = true then ((idx x1.Events x72).bind fun x82 => m_cantonlaw17_GreatAnswer_l2 x1 k2 (IntKind.i64.wrap (x71 + (min (x82.Path.size : Int) 9000))) (IntKind.i64.wrap (x72 + 1))) else (m_cantonlaw17_GreatAnswer_j2 x1 x71)) else (m_cantonlaw17_GreatAnswer_j2 x1 x71)
def m_cantonlaw17_GreatAnswer_j1 (x1 : S_api_Answer) (x27 : Int) : Option Bool :=
  m_cantonlaw17_GreatAnswer_l2 x1 9002 x27 0
def m_cantonlaw17_GreatAnswer_l3 (x1 : S_api_Answer) : Nat → Int → Int → Option Bool
  | 0, _, _ => none
  | k3 + 1, x85, x86 =>
    if (decide (x86 < (x1.Results.length : Int))) = true then (if (decide (x85 < 9000)) = true then ((idx x1.Results x86).bind fun x97 => (idx x1.Results x86).bind fun x104 => (idx x1.Results x86).bind fun x111 => (m_cantonlaw17_GreatLog x111.Names).bind fun u115 => if u115 = true then (some (true)) else (m_cantonlaw17_GreatAnswer_l3 x1 k3 (IntKind.i64.wrap ((IntKind.i64.wrap (x85 + (min (x97.Path.size : Int) 9000))) + (min (x104.Data.size : Int) 9000))) (IntKind.i64.wrap (x86 + 1)))) else (m_cantonlaw17_GreatAnswer_j1 x1 x85)) else (m_cantonlaw17_GreatAnswer_j1 x1 x85)
def m_cantonlaw17_GreatAnswer (x1 : S_api_Answer) : Option Bool :=
  m_cantonlaw17_GreatAnswer_l3 x1 9002 (IntKind.i64.wrap ((IntKind.i64.wrap ((IntKind.i64.wrap ((x1.Results.length : Int) + (x1.Events.length : Int))) + (x1.Mounts.length : Int))) + (x1.Wounded.length : Int))) 0
set_option maxRecDepth 20000 in
set_option maxHeartbeats 1000000 in
theorem c_cantonlaw17_GreatAnswer {w : World} {Fo : List Ob} {rs : List Rp} (x1 : S_api_Answer) (v2 : Value) (v3 : Value) (v4 : Value) (v5 : Value) (v6 : Value) (v7 : Value) (H : Sep w (Fo) rs) (hr8 : rSl k_api_Result v2 x1.Results ∈ rs) (hr9 : rSl k_api_Node v3 x1.Store.Nodes ∈ rs) (hr10 : rSl k_api_Turn v4 x1.Store.Turns ∈ rs) (hr11 : rSl k_api_Event v5 x1.Events ∈ rs) (hr12 : rSl k_api_Mount v6 x1.Mounts ∈ rs) (hr13 : rSl (kI .i64) v7 x1.Wounded ∈ rs) {r : Bool} (hm : m_cantonlaw17_GreatAnswer x1 = some r) :
    Calls Try.prog 21 [.agg #[.int .i64 x1.Err, .int .i64 x1.At, .bool x1.Yes, .int .i64 x1.Epoch, v2, v3, v4, v5, v6, v7]].toArray w (Ret fun v w' => .bool r = v ∧ Sep w' (Fo) (rs)) := by
 unfold m_cantonlaw17_GreatAnswer at hm
 refine enter Try.func21 rfl Try.ntmps21 rfl fun a E => ?_
 simp only [enum, Nat.reduceAdd] at E
 refine wp_seq ?_
 refine wp_region_lit ?_
 obtain ⟨q15, x16, rfl⟩ := H.slform hr8
 obtain ⟨q17, x18, rfl⟩ := H.slform hr9
 obtain ⟨q19, x20, rfl⟩ := H.slform hr10
 obtain ⟨q21, x22, rfl⟩ := H.slform hr11
 obtain ⟨q23, x24, rfl⟩ := H.slform hr12
 obtain ⟨q25, x26, rfl⟩ := H.slform hr13
 refine st_box E H (wn rfl) rfl rfl (cs := [.int .i64 x1.Err, .int .i64 x1.At, .bool x1.Yes, .int .i64 x1.Epoch, (.slice q15 x1.Results.length x16), (.slice q17 x1.Store.Nodes.length x18), (.slice q19 x1.Store.Turns.length x20), (.slice q21 x1.Events.length x22), (.slice q23 x1.Mounts.length x24), (.slice q25 x1.Wounded.length x26)]) rfl rfl rfl ?_
 clear E H; clear a; clear w; intro p14 w a H E
 refine st_val E (wn rfl) rfl rfl (x_assign E rfl rfl) ?_
 clear a E;intro a E
 refine wpList_nil ?_
 refine q_then ?_
 refine wp_seq ?_
 refine wp_region_lit ?_
 refine st_val E (wn rfl) rfl rfl (x_fa E rfl rfl (v := .pointer (some ⟨p14, 4, none⟩)) (fa50_4 _ _)) ?_
 clear a E;intro a E
 refine st_val E (wn rfl) rfl rfl (x_ldB (i := 0) E H rfl rfl rfl rfl Try.underlying41 rfl) ?_
 clear a E;intro a E
 refine st_val E (wn rfl) rfl rfl (x_lenS E H rfl rfl hr8 Try.underlying41) ?_
 clear a E;intro a E
 refine st_val E (wn rfl) rfl rfl (x_fa E rfl rfl (v := .pointer (some ⟨p14, 7, none⟩)) (fa50_6 _ _)) ?_
 clear a E;intro a E
 refine st_val E (wn rfl) rfl rfl (x_ldB (i := 0) E H rfl rfl rfl rfl Try.underlying46 rfl) ?_
 clear a E;intro a E
 refine st_val E (wn rfl) rfl rfl (x_lenS E H rfl rfl hr11 Try.underlying46) ?_
 clear a E;intro a E
 refine st_val E (wn rfl) rfl rfl (x_bin E rfl rfl rfl rfl) ?_
 clear a E;intro a E
 refine st_val E (wn rfl) rfl rfl (x_fa E rfl rfl (v := .pointer (some ⟨p14, 8, none⟩)) (fa50_7 _ _)) ?_
 clear a E;intro a E
 refine st_val E (wn rfl) rfl rfl (x_ldB (i := 0) E H rfl rfl rfl rfl Try.underlying47 rfl) ?_
 clear a E;intro a E
 refine st_val E (wn rfl) rfl rfl (x_lenS E H rfl rfl hr12 Try.underlying47) ?_
 clear a E;intro a E
 refine st_val E (wn rfl) rfl rfl (x_bin E rfl rfl rfl rfl) ?_
 clear a E;intro a E
 refine st_val E (wn rfl) rfl rfl (x_fa E rfl rfl (v := .pointer (some ⟨p14, 9, none⟩)) (fa50_8 _ _)) ?_
 clear a E;intro a E
 refine st_val E (wn rfl) rfl rfl (x_ldB (i := 0) E H rfl rfl rfl rfl Try.underlying48 rfl) ?_
 clear a E;intro a E
 refine st_val E (wn rfl) rfl rfl (x_lenS E H rfl rfl hr13 Try.underlying48) ?_
 clear a E;intro a E
 refine st_val E (wn rfl) rfl rfl (x_bin E rfl rfl rfl rfl) ?_
 clear a E;intro a E
 refine st_val E (wn rfl) rfl rfl (x_assign E rfl rfl) ?_
 clear a E;intro a E
 refine wpList_nil ?_
 refine q_then ?_
 refine wp_seq_cut (fun a w => ∃ (x27 : Int) (rs28 : List Rp), Env 108 a [(1, .pointer (some ⟨p14, 0, none⟩)), (3, .int .i64 x27)] ∧ Sep w (Blk p14 50 [.int .i64 x1.Err, .int .i64 x1.At, .bool x1.Yes, .int .i64 x1.Epoch, (.slice q15 x1.Results.length x16), (.slice q17 x1.Store.Nodes.length x18), (.slice q19 x1.Store.Turns.length x20), (.slice q21 x1.Events.length x22), (.slice q23 x1.Mounts.length x24), (.slice q25 x1.Wounded.length x26)] :: Fo) rs28 ∧ (∀ r, r ∈ rs → r ∈ rs28) ∧ rSl k_api_Result (.slice q15 x1.Results.length x16) x1.Results ∈ rs28 ∧ rSl k_api_Node (.slice q17 x1.Store.Nodes.length x18) x1.Store.Nodes ∈ rs28 ∧ rSl k_api_Turn (.slice q19 x1.Store.Turns.length x20) x1.Store.Turns ∈ rs28 ∧ rSl k_api_Event (.slice q21 x1.Events.length x22) x1.Events ∈ rs28 ∧ rSl k_api_Mount (.slice q23 x1.Mounts.length x24) x1.Mounts ∈ rs28 ∧ rSl (kI .i64) (.slice q25 x1.Wounded.length x26) x1.Wounded ∈ rs28 ∧ m_cantonlaw17_GreatAnswer_j1 x1 x27 = some r) ?_ ?_
 ·refine wp_seq ?_
  refine wp_region_lit ?_
  refine st_val E (wn rfl) rfl rfl (x_assign E rfl rfl) ?_
  clear a E;intro a E
  refine wpList_nil ?_
  refine q_then ?_
  refine wp_block ?_
  refine wp_loop_g (fun k3 a w => ∃ (x85 : Int) (x86 : Int) (rs87 : List Rp), Env 108 a [(1, .pointer (some ⟨p14, 0, none⟩)), (3, .int .i64 x85), (4, .int .i64 x86)] ∧ Sep w (Blk p14 50 [.int .i64 x1.Err, .int .i64 x1.At, .bool x1.Yes, .int .i64 x1.Epoch, (.slice q15 x1.Results.length x16), (.slice q17 x1.Store.Nodes.length x18), (.slice q19 x1.Store.Turns.length x20), (.slice q21 x1.Events.length x22), (.slice q23 x1.Mounts.length x24), (.slice q25 x1.Wounded.length x26)] :: Fo) rs87 ∧ (∀ r, r ∈ rs → r ∈ rs87) ∧ rSl k_api_Result (.slice q15 x1.Results.length x16) x1.Results ∈ rs87 ∧ rSl k_api_Node (.slice q17 x1.Store.Nodes.length x18) x1.Store.Nodes ∈ rs87 ∧ rSl k_api_Turn (.slice q19 x1.Store.Turns.length x20) x1.Store.Turns ∈ rs87 ∧ rSl k_api_Event (.slice q21 x1.Events.length x22) x1.Events ∈ rs87 ∧ rSl k_api_Mount (.slice q23 x1.Mounts.length x24) x1.Mounts ∈ rs87 ∧ rSl (kI .i64) (.slice q25 x1.Wounded.length x26) x1.Wounded ∈ rs87 ∧ m_cantonlaw17_GreatAnswer_l3 x1 k3 x85 x86 = some r) (9002) ?_ ?_
  ·exact ⟨IntKind.i64.wrap ((IntKind.i64.wrap ((IntKind.i64.wrap ((x1.Results.length : Int) + (x1.Events.length : Int))) + (x1.Mounts.length : Int))) + (x1.Wounded.length : Int)), 0, _, (((E.nil.keep E 4 rfl).keep E 3 rfl).keep E 1 rfl), H, fun r hr => hr, hr8, hr9, hr10, hr11, hr12, hr13, hm⟩
  ·clear E H hm
   rintro k3 a w ⟨x85, x86, rs87, E, H, hs88, hr89, hr90, hr91, hr92, hr93, hr94, hm⟩
   cases k3 with
   | zero => exact (none_some hm rfl).elim
   | succ k3 =>
    unfold m_cantonlaw17_GreatAnswer_l3 at hm
    refine wp_seq ?_
    refine wp_seq ?_
    refine wp_region_lit ?_
    refine st_val E (wn rfl) rfl rfl (x_move E rfl rfl) ?_
    clear a E;intro a E
    refine st_val E (wn rfl) rfl rfl (x_fa E rfl rfl (v := .pointer (some ⟨p14, 4, none⟩)) (fa50_4 _ _)) ?_
    clear a E;intro a E
    refine st_val E (wn rfl) rfl rfl (x_ldB (i := 0) E H rfl rfl rfl rfl Try.underlying41 rfl) ?_
    clear a E;intro a E
    refine st_val E (wn rfl) rfl rfl (x_lenS E H rfl rfl hr89 Try.underlying41) ?_
    clear a E;intro a E
    refine st_val E (wn rfl) rfl rfl (x_bin E rfl rfl rfl rfl) ?_
    clear a E;intro a E
    refine st_val E (wn rfl) rfl rfl (x_move E rfl rfl) ?_
    clear a E;intro a E
    rcases Bool.eq_false_or_eq_true (decide (x86 < (x1.Results.length : Int))) with hb95 | hb95
    ·rw [if_t hb95] at hm
     refine st_val E (ws' E rfl rfl rfl rfl hb95) rfl rfl (x_move E rfl rfl) ?_
     clear a E;intro a E
     refine st_val E (ws' E rfl rfl rfl rfl hb95) rfl rfl (x_bin E rfl rfl rfl rfl) ?_
     clear a E;intro a E
     refine st_val E (wn rfl) rfl rfl (x_pickT E rfl rfl hb95 rfl) ?_
     clear a E;intro a E
     refine wpList_nil ?_
     refine q_then ?_
     refine wp_if E rfl ?_ ?_
     ·intro hb
      rw [if_t hb] at hm
      clear hb
      refine wp_skip ?_
      refine q_then ?_
      refine wp_seq ?_
      refine wp_block ?_
      refine wp_seq ?_
      obtain ⟨u96, H⟩ := H.raw hr89
      replace H : Sep w (Blk p14 50 [.int .i64 x1.Err, .int .i64 x1.At, .bool x1.Yes, .int .i64 x1.Epoch, (.slice q15 x1.Results.length x16), (.slice q17 x1.Store.Nodes.length x18), (.slice q19 x1.Store.Turns.length x20), (.slice q21 x1.Events.length x22), (.slice q23 x1.Mounts.length x24), (.slice q25 x1.Wounded.length x26)] :: Fo) (rRow k_api_Result (.slice q15 x1.Results.length x16) x1.Results u96 :: rs87) := H
      have hI : Still [Blk p14 50 [.int .i64 x1.Err, .int .i64 x1.At, .bool x1.Yes, .int .i64 x1.Epoch, (.slice q15 x1.Results.length x16), (.slice q17 x1.Store.Nodes.length x18), (.slice q19 x1.Store.Turns.length x20), (.slice q21 x1.Events.length x22), (.slice q23 x1.Mounts.length x24), (.slice q25 x1.Wounded.length x26)]] [rRow k_api_Result (.slice q15 x1.Results.length x16) x1.Results u96] { w with drawn := w.drawn + 1 } := ⟨_, _, H.kept (Kp.drawn _ w _), (subO_cons (.head _) (subO_nil)), (sub_cons (.head _) (sub_nil))⟩
      refine wp_draw _ [(0, 0), (1, 0), (2, 0), (3, 0), (4, 0), (5, 0), (6, 0), (7, 0), (8, 0), (9, 0), (10, 0), (11, 0), (12, 0), (13, 0), (14, 0), (15, 0), (16, 0), (17, 0), (18, 0), (19, 2)] mixedOk (by kernel_rfl) (fun _ _ _ h => False.elim h.2) hI ?_
      replace H := H.kept (Kp.drawn _ w (w.drawn + 1))
      generalize ({ w with drawn := w.drawn + 1 } : World) = w at H hI ⊢
      replace hI : ∃ W, Still [Blk p14 50 [.int .i64 x1.Err, .int .i64 x1.At, .bool x1.Yes, .int .i64 x1.Epoch, (.slice q15 x1.Results.length x16), (.slice q17 x1.Store.Nodes.length x18), (.slice q19 x1.Store.Turns.length x20), (.slice q21 x1.Events.length x22), (.slice q23 x1.Mounts.length x24), (.slice q25 x1.Wounded.length x26)]] [rRow k_api_Result (.slice q15 x1.Results.length x16) x1.Results u96] W := ⟨_, hI⟩
      obtain ⟨W0, hI⟩ := hI
      refine fr_val E rfl (wn rfl) rfl rfl (fun w hW => (x_move E rfl rfl)) ?_
      clear a E;intro a E
      refine fr_val E rfl (wn rfl) rfl rfl (fun w hW => x_fa E rfl rfl (v := .pointer (some ⟨p14, 4, none⟩)) (fa50_4 _ _)) ?_
      clear a E;intro a E
      refine fr_val E rfl (wn rfl) rfl rfl (fun w hW => x_ld E rfl rfl (ib_ld (.head _) rfl Try.underlying41 rfl w hW)) ?_
      clear a E;intro a E
      refine fr_val E rfl (wn rfl) rfl rfl (fun w hW => (x_move E rfl rfl)) ?_
      clear a E;intro a E
      obtain ⟨x97, hx98, hm⟩ := bnd hm
      obtain ⟨q99, u102, hx100, hx101⟩ := dr_ixW (P := Try.prog) (k := .i64) hI (dr_mem (.head _)) Try.underlying41 sz62 hx98
      refine fr_val E rfl (wn rfl) rfl rfl (fun w hW => x_ixA E rfl rfl rfl (hx100 w)) ?_
      clear a E;intro a E
      have hx103 := dr_fld hx101 (fun _ _ _ h => k_api_Result_aw1 h)
      refine fr_val E rfl (wn rfl) rfl rfl (fun w hW => x_fa E rfl rfl (fa62_1 _ _)) ?_
      clear a E;intro a E
      refine fr_val E rfl (wn rfl) rfl rfl (fun w hW => x_ld E rfl rfl (ir_ld (DR.ir (dr_at hx103)) Try.underlying9 rfl w hW)) ?_
      clear a E;intro a E
      refine fr_val E rfl (wn rfl) rfl rfl (fun w hW => (x_lenStr E rfl rfl Try.underlying9)) ?_
      clear a E;intro a E
      refine fr_val E rfl (wn rfl) rfl rfl (fun w hW => (x_min (t := 0) E rfl rfl rfl)) ?_
      clear a E;intro a E
      refine fr_val E rfl (wn rfl) rfl rfl (fun w hW => (x_bin E rfl rfl rfl rfl)) ?_
      clear a E;intro a E
      refine fr_val E rfl (wn rfl) rfl rfl (fun w hW => x_fa E rfl rfl (v := .pointer (some ⟨p14, 4, none⟩)) (fa50_4 _ _)) ?_
      clear a E;intro a E
      refine fr_val E rfl (wn rfl) rfl rfl (fun w hW => x_ld E rfl rfl (ib_ld (.head _) rfl Try.underlying41 rfl w hW)) ?_
      clear a E;intro a E
      refine fr_val E rfl (wn rfl) rfl rfl (fun w hW => (x_move E rfl rfl)) ?_
      clear a E;intro a E
      obtain ⟨x104, hx105, hm⟩ := bnd hm
      obtain ⟨q106, u109, hx107, hx108⟩ := dr_ixW (P := Try.prog) (k := .i64) hI (dr_mem (.head _)) Try.underlying41 sz62 hx105
      refine fr_val E rfl (wn rfl) rfl rfl (fun w hW => x_ixA E rfl rfl rfl (hx107 w)) ?_
      clear a E;intro a E
      have hx110 := dr_fld hx108 (fun _ _ _ h => k_api_Result_aw2 h)
      refine fr_val E rfl (wn rfl) rfl rfl (fun w hW => x_fa E rfl rfl (fa62_2 _ _)) ?_
      clear a E;intro a E
      refine fr_val E rfl (wn rfl) rfl rfl (fun w hW => x_ld E rfl rfl (ir_ld (DR.ir (dr_at hx110)) Try.underlying9 rfl w hW)) ?_
      clear a E;intro a E
      refine fr_val E rfl (wn rfl) rfl rfl (fun w hW => (x_lenStr E rfl rfl Try.underlying9)) ?_
      clear a E;intro a E
      refine fr_val E rfl (wn rfl) rfl rfl (fun w hW => (x_min (t := 0) E rfl rfl rfl)) ?_
      clear a E;intro a E
      refine fr_val E rfl (wn rfl) rfl rfl (fun w hW => (x_bin E rfl rfl rfl rfl)) ?_
      clear a E;intro a E
      refine fr_tail rfl ?_
      refine st_val E (wn rfl) rfl rfl (x_assign E rfl rfl) ?_
      clear a E;intro a E
      refine wpList_nil ?_
      refine q_then ?_
      refine fr_nil ?_
      clear hI
      refine q_then ?_
      refine wp_seq ?_
      refine wp_region_lit ?_
      refine st_val E (wn rfl) rfl rfl (x_fa E rfl rfl (v := .pointer (some ⟨p14, 4, none⟩)) (fa50_4 _ _)) ?_
      clear a E;intro a E
      refine st_val E (wn rfl) rfl rfl (x_ldB (i := 0) E H rfl rfl rfl rfl Try.underlying41 rfl) ?_
      clear a E;intro a E
      refine st_val E (wn rfl) rfl rfl (x_move E rfl rfl) ?_
      clear a E;intro a E
      obtain ⟨x111, hx112, hm⟩ := bnd hm
      refine st_ixS E H (wn rfl) rfl rfl rfl rfl rfl (.tail _ hr89) Try.underlying41 sz62 hx112 ?_
      clear E H; clear a; intro q113 a H E
      replace H := H.derive1 (.head _) (rAt (kL kS) (q113.add 4) x111.Names) (fun ok h => k_api_Result_at4 h)
      refine st_val E (wn rfl) rfl rfl (x_fa E rfl rfl (fa62_4 _ _)) ?_
      clear a E;intro a E
      refine st_ldL E H (wn rfl) rfl rfl rfl rfl (.head _) Try.underlying22 rfl ?_
      clear E H; clear a; intro v114 a H E
      obtain ⟨u115, hx116, hm⟩ := bnd hm
      refine st_call E (wn rfl) rfl rfl (x_call E rfl rfl (cf10 _)) (c_cantonlaw17_GreatLog v114 x111.Names H (.head _) hx116) ?_
      clear E H; clear a; clear w; rintro _ w ⟨rfl, H⟩ a E
      refine wpList_nil ?_
      refine q_then ?_
      refine wp_if E rfl ?_ ?_
      ·intro hb
       rw [if_t hb] at hm
       clear hb
       refine wp_seq ?_
       refine wp_region_lit ?_
       refine st_val E (wn rfl) rfl rfl (x_assign E rfl rfl) ?_
       clear a E;intro a E
       refine wpList_nil ?_
       refine q_then ?_
       refine wp_ret ?_
       refine q_blkR ?_
       refine q_thenR ?_
       refine q_thenR ?_
       refine q_blkR ?_
       refine q_thenR ?_
       refine out1 E rfl rfl ?_
       replace H := H.drop 0
       obtain rfl := Option.some.inj hm
       exact ⟨rfl, H.reads (fun r hr => .tail _ (.tail _ (.tail _ (.tail _ (hs88 r hr)))))⟩
      ·intro hb
       rw [if_f hb] at hm
       clear hb
       refine wp_skip ?_
       refine q_blk ?_
       refine q_then ?_
       refine wp_region_lit ?_
       refine st_val E (wn rfl) rfl rfl (x_move E rfl rfl) ?_
       clear a E;intro a E
       refine st_val E (wn rfl) rfl rfl (x_bin E rfl rfl rfl rfl) ?_
       clear a E;intro a E
       refine st_val E (wn rfl) rfl rfl (x_assign E rfl rfl) ?_
       clear a E;intro a E
       refine wpList_nil ?_
       refine q_then ?_
       exact ⟨k3, Nat.lt_succ_self k3, IntKind.i64.wrap ((IntKind.i64.wrap (x85 + (min (x97.Path.size : Int) 9000))) + (min (x104.Data.size : Int) 9000)), IntKind.i64.wrap (x86 + 1), _, (((E.nil.keep E 4 rfl).keep E 3 rfl).keep E 1 rfl), H, fun r hr => .tail _ (.tail _ (.tail _ (.tail _ (hs88 r hr)))), (.tail _ (.tail _ (.tail _ (.tail _ hr89)))), (.tail _ (.tail _ (.tail _ (.tail _ hr90)))), (.tail _ (.tail _ (.tail _ (.tail _ hr91)))), (.tail _ (.tail _ (.tail _ (.tail _ hr92)))), (.tail _ (.tail _ (.tail _ (.tail _ hr93)))), (.tail _ (.tail _ (.tail _ (.tail _ hr94)))), hm⟩
     ·intro hb
      rw [if_f hb] at hm
      clear hb
      refine wp_exit ?_
      refine q_thenX ?_
      refine q_thenX ?_
      refine q_hit ?_
      refine q_then ?_
      exact ⟨x85, _, ((E.nil.keep E 3 rfl).keep E 1 rfl), H, hs88, hr89, hr90, hr91, hr92, hr93, hr94, hm⟩
    ·rw [if_f hb95] at hm
     refine st_no E (wf' E rfl rfl rfl rfl hb95 rfl) rfl rfl ?_
     clear a E;intro a E
     refine st_no E (wf' E rfl rfl rfl rfl hb95 rfl) rfl rfl ?_
     clear a E;intro a E
     refine st_val E (wn rfl) rfl rfl (x_pickF E rfl rfl hb95 rfl) ?_
     clear a E;intro a E
     refine wpList_nil ?_
     refine q_then ?_
     refine wp_cond_false (E.eval rfl) ?_
     refine wp_exit ?_
     refine q_thenX ?_
     refine q_thenX ?_
     refine q_hit ?_
     refine q_then ?_
     exact ⟨x85, _, ((E.nil.keep E 3 rfl).keep E 1 rfl), H, hs88, hr89, hr90, hr91, hr92, hr93, hr94, hm⟩
 ·clear E H hm
  rintro a w ⟨x27, rs28, E, H, hs29, hr30, hr31, hr32, hr33, hr34, hr35, hm⟩
  unfold m_cantonlaw17_GreatAnswer_j1 at hm
  refine wp_seq_cut (fun a w => ∃ (x36 : Int) (rs37 : List Rp), Env 108 a [(1, .pointer (some ⟨p14, 0, none⟩)), (3, .int .i64 x36)] ∧ Sep w (Blk p14 50 [.int .i64 x1.Err, .int .i64 x1.At, .bool x1.Yes, .int .i64 x1.Epoch, (.slice q15 x1.Results.length x16), (.slice q17 x1.Store.Nodes.length x18), (.slice q19 x1.Store.Turns.length x20), (.slice q21 x1.Events.length x22), (.slice q23 x1.Mounts.length x24), (.slice q25 x1.Wounded.length x26)] :: Fo) rs37 ∧ (∀ r, r ∈ rs → r ∈ rs37) ∧ rSl k_api_Result (.slice q15 x1.Results.length x16) x1.Results ∈ rs37 ∧ rSl k_api_Node (.slice q17 x1.Store.Nodes.length x18) x1.Store.Nodes ∈ rs37 ∧ rSl k_api_Turn (.slice q19 x1.Store.Turns.length x20) x1.Store.Turns ∈ rs37 ∧ rSl k_api_Event (.slice q21 x1.Events.length x22) x1.Events ∈ rs37 ∧ rSl k_api_Mount (.slice q23 x1.Mounts.length x24) x1.Mounts ∈ rs37 ∧ rSl (kI .i64) (.slice q25 x1.Wounded.length x26) x1.Wounded ∈ rs37 ∧ m_cantonlaw17_GreatAnswer_j2 x1 x36 = some r) ?_ ?_
  ·refine wp_seq ?_
   refine wp_region_lit ?_
   refine st_val E (wn rfl) rfl rfl (x_assign E rfl rfl) ?_
   clear a E;intro a E
   refine wpList_nil ?_
   refine q_then ?_
   refine wp_block ?_
   refine wp_loop_g (fun k2 a w => ∃ (x71 : Int) (x72 : Int) (rs73 : List Rp), Env 108 a [(1, .pointer (some ⟨p14, 0, none⟩)), (3, .int .i64 x71), (5, .int .i64 x72)] ∧ Sep w (Blk p14 50 [.int .i64 x1.Err, .int .i64 x1.At, .bool x1.Yes, .int .i64 x1.Epoch, (.slice q15 x1.Results.length x16), (.slice q17 x1.Store.Nodes.length x18), (.slice q19 x1.Store.Turns.length x20), (.slice q21 x1.Events.length x22), (.slice q23 x1.Mounts.length x24), (.slice q25 x1.Wounded.length x26)] :: Fo) rs73 ∧ (∀ r, r ∈ rs → r ∈ rs73) ∧ rSl k_api_Result (.slice q15 x1.Results.length x16) x1.Results ∈ rs73 ∧ rSl k_api_Node (.slice q17 x1.Store.Nodes.length x18) x1.Store.Nodes ∈ rs73 ∧ rSl k_api_Turn (.slice q19 x1.Store.Turns.length x20) x1.Store.Turns ∈ rs73 ∧ rSl k_api_Event (.slice q21 x1.Events.length x22) x1.Events ∈ rs73 ∧ rSl k_api_Mount (.slice q23 x1.Mounts.length x24) x1.Mounts ∈ rs73 ∧ rSl (kI .i64) (.slice q25 x1.Wounded.length x26) x1.Wounded ∈ rs73 ∧ m_cantonlaw17_GreatAnswer_l2 x1 k2 x71 x72 = some r) (9002) ?_ ?_
   ·exact ⟨x27, 0, _, (((E.nil.keep E 5 rfl).keep E 3 rfl).keep E 1 rfl), H, hs29, hr30, hr31, hr32, hr33, hr34, hr35, hm⟩
   ·clear E H hm
    rintro k2 a w ⟨x71, x72, rs73, E, H, hs74, hr75, hr76, hr77, hr78, hr79, hr80, hm⟩
    cases k2 with
    | zero => exact (none_some hm rfl).elim
    | succ k2 =>
     unfold m_cantonlaw17_GreatAnswer_l2 at hm
     refine wp_seq ?_
     refine wp_seq ?_
     refine wp_region_lit ?_
     refine st_val E (wn rfl) rfl rfl (x_move E rfl rfl) ?_
     clear a E;intro a E
     refine st_val E (wn rfl) rfl rfl (x_fa E rfl rfl (v := .pointer (some ⟨p14, 7, none⟩)) (fa50_6 _ _)) ?_
     clear a E;intro a E
     refine st_val E (wn rfl) rfl rfl (x_ldB (i := 0) E H rfl rfl rfl rfl Try.underlying46 rfl) ?_
     clear a E;intro a E
     refine st_val E (wn rfl) rfl rfl (x_lenS E H rfl rfl hr78 Try.underlying46) ?_
     clear a E;intro a E
     refine st_val E (wn rfl) rfl rfl (x_bin E rfl rfl rfl rfl) ?_
     clear a E;intro a E
     refine st_val E (wn rfl) rfl rfl (x_move E rfl rfl) ?_
     clear a E;intro a E
     rcases Bool.eq_false_or_eq_true (decide (x72 < (x1.Events.length : Int))) with hb81 | hb81
     ·rw [if_t hb81] at hm
      refine st_val E (ws' E rfl rfl rfl rfl hb81) rfl rfl (x_move E rfl rfl) ?_
      clear a E;intro a E
      refine st_val E (ws' E rfl rfl rfl rfl hb81) rfl rfl (x_bin E rfl rfl rfl rfl) ?_
      clear a E;intro a E
      refine st_val E (wn rfl) rfl rfl (x_pickT E rfl rfl hb81 rfl) ?_
      clear a E;intro a E
      refine wpList_nil ?_
      refine q_then ?_
      refine wp_if E rfl ?_ ?_
      ·intro hb
       rw [if_t hb] at hm
       clear hb
       refine wp_skip ?_
       refine q_then ?_
       refine wp_seq ?_
       refine wp_block ?_
       refine wp_region_lit ?_
       refine st_val E (wn rfl) rfl rfl (x_move E rfl rfl) ?_
       clear a E;intro a E
       refine st_val E (wn rfl) rfl rfl (x_fa E rfl rfl (v := .pointer (some ⟨p14, 7, none⟩)) (fa50_6 _ _)) ?_
       clear a E;intro a E
       refine st_val E (wn rfl) rfl rfl (x_ldB (i := 0) E H rfl rfl rfl rfl Try.underlying46 rfl) ?_
       clear a E;intro a E
       refine st_val E (wn rfl) rfl rfl (x_move E rfl rfl) ?_
       clear a E;intro a E
       obtain ⟨x82, hx83, hm⟩ := bnd hm
       refine st_ixS E H (wn rfl) rfl rfl rfl rfl rfl hr78 Try.underlying46 sz68 hx83 ?_
       clear E H; clear a; intro q84 a H E
       replace H := H.derive1 (.head _) (rAt kS (q84.add 2) x82.Path) (fun ok h => k_api_Event_at2 h)
       refine st_val E (wn rfl) rfl rfl (x_fa E rfl rfl (fa68_2 _ _)) ?_
       clear a E;intro a E
       refine st_val E (wn rfl) rfl rfl (x_ldA E H rfl rfl (.head _) Try.underlying9 rfl) ?_
       clear a E;intro a E
       refine st_val E (wn rfl) rfl rfl (x_lenStr E rfl rfl Try.underlying9) ?_
       clear a E;intro a E
       refine st_val E (wn rfl) rfl rfl (x_min (t := 0) E rfl rfl rfl) ?_
       clear a E;intro a E
       refine st_val E (wn rfl) rfl rfl (x_bin E rfl rfl rfl rfl) ?_
       clear a E;intro a E
       refine st_val E (wn rfl) rfl rfl (x_assign E rfl rfl) ?_
       clear a E;intro a E
       refine wpList_nil ?_
       refine q_blk ?_
       refine q_then ?_
       refine wp_region_lit ?_
       refine st_val E (wn rfl) rfl rfl (x_move E rfl rfl) ?_
       clear a E;intro a E
       refine st_val E (wn rfl) rfl rfl (x_bin E rfl rfl rfl rfl) ?_
       clear a E;intro a E
       refine st_val E (wn rfl) rfl rfl (x_assign E rfl rfl) ?_
       clear a E;intro a E
       refine wpList_nil ?_
       refine q_then ?_
       exact ⟨k2, Nat.lt_succ_self k2, IntKind.i64.wrap (x71 + (min (x82.Path.size : Int) 9000)), IntKind.i64.wrap (x72 + 1), _, (((E.nil.keep E 5 rfl).keep E 3 rfl).keep E 1 rfl), H, fun r hr => .tail _ (.tail _ (hs74 r hr)), (.tail _ (.tail _ hr75)), (.tail _ (.tail _ hr76)), (.tail _ (.tail _ hr77)), (.tail _ (.tail _ hr78)), (.tail _ (.tail _ hr79)), (.tail _ (.tail _ hr80)), hm⟩
      ·intro hb
       rw [if_f hb] at hm
       clear hb
       refine wp_exit ?_
       refine q_thenX ?_
       refine q_thenX ?_
       refine q_hit ?_
       refine q_then ?_
       exact ⟨x71, _, ((E.nil.keep E 3 rfl).keep E 1 rfl), H, hs74, hr75, hr76, hr77, hr78, hr79, hr80, hm⟩
     ·rw [if_f hb81] at hm
      refine st_no E (wf' E rfl rfl rfl rfl hb81 rfl) rfl rfl ?_
      clear a E;intro a E
      refine st_no E (wf' E rfl rfl rfl rfl hb81 rfl) rfl rfl ?_
      clear a E;intro a E
      refine st_val E (wn rfl) rfl rfl (x_pickF E rfl rfl hb81 rfl) ?_
      clear a E;intro a E
      refine wpList_nil ?_
      refine q_then ?_
      refine wp_cond_false (E.eval rfl) ?_
      refine wp_exit ?_
      refine q_thenX ?_
      refine q_thenX ?_
      refine q_hit ?_
      refine q_then ?_
      exact ⟨x71, _, ((E.nil.keep E 3 rfl).keep E 1 rfl), H, hs74, hr75, hr76, hr77, hr78, hr79, hr80, hm⟩
  ·clear E H hm
   rintro a w ⟨x36, rs37, E, H, hs38, hr39, hr40, hr41, hr42, hr43, hr44, hm⟩
   unfold m_cantonlaw17_GreatAnswer_j2 at hm
   refine wp_seq_cut (fun a w => ∃ (x45 : Int) (rs46 : List Rp), Env 108 a [(1, .pointer (some ⟨p14, 0, none⟩)), (3, .int .i64 x45)] ∧ Sep w (Blk p14 50 [.int .i64 x1.Err, .int .i64 x1.At, .bool x1.Yes, .int .i64 x1.Epoch, (.slice q15 x1.Results.length x16), (.slice q17 x1.Store.Nodes.length x18), (.slice q19 x1.Store.Turns.length x20), (.slice q21 x1.Events.length x22), (.slice q23 x1.Mounts.length x24), (.slice q25 x1.Wounded.length x26)] :: Fo) rs46 ∧ (∀ r, r ∈ rs → r ∈ rs46) ∧ rSl k_api_Result (.slice q15 x1.Results.length x16) x1.Results ∈ rs46 ∧ rSl k_api_Node (.slice q17 x1.Store.Nodes.length x18) x1.Store.Nodes ∈ rs46 ∧ rSl k_api_Turn (.slice q19 x1.Store.Turns.length x20) x1.Store.Turns ∈ rs46 ∧ rSl k_api_Event (.slice q21 x1.Events.length x22) x1.Events ∈ rs46 ∧ rSl k_api_Mount (.slice q23 x1.Mounts.length x24) x1.Mounts ∈ rs46 ∧ rSl (kI .i64) (.slice q25 x1.Wounded.length x26) x1.Wounded ∈ rs46 ∧ m_cantonlaw17_GreatAnswer_j3 x1 x45 = some r) ?_ ?_
   ·refine wp_seq ?_
    refine wp_region_lit ?_
    refine st_val E (wn rfl) rfl rfl (x_assign E rfl rfl) ?_
    clear a E;intro a E
    refine wpList_nil ?_
    refine q_then ?_
    refine wp_block ?_
    refine wp_loop_g (fun k1 a w => ∃ (x57 : Int) (x58 : Int) (rs59 : List Rp), Env 108 a [(1, .pointer (some ⟨p14, 0, none⟩)), (3, .int .i64 x57), (6, .int .i64 x58)] ∧ Sep w (Blk p14 50 [.int .i64 x1.Err, .int .i64 x1.At, .bool x1.Yes, .int .i64 x1.Epoch, (.slice q15 x1.Results.length x16), (.slice q17 x1.Store.Nodes.length x18), (.slice q19 x1.Store.Turns.length x20), (.slice q21 x1.Events.length x22), (.slice q23 x1.Mounts.length x24), (.slice q25 x1.Wounded.length x26)] :: Fo) rs59 ∧ (∀ r, r ∈ rs → r ∈ rs59) ∧ rSl k_api_Result (.slice q15 x1.Results.length x16) x1.Results ∈ rs59 ∧ rSl k_api_Node (.slice q17 x1.Store.Nodes.length x18) x1.Store.Nodes ∈ rs59 ∧ rSl k_api_Turn (.slice q19 x1.Store.Turns.length x20) x1.Store.Turns ∈ rs59 ∧ rSl k_api_Event (.slice q21 x1.Events.length x22) x1.Events ∈ rs59 ∧ rSl k_api_Mount (.slice q23 x1.Mounts.length x24) x1.Mounts ∈ rs59 ∧ rSl (kI .i64) (.slice q25 x1.Wounded.length x26) x1.Wounded ∈ rs59 ∧ m_cantonlaw17_GreatAnswer_l1 x1 k1 x57 x58 = some r) (9002) ?_ ?_
    ·exact ⟨x36, 0, _, (((E.nil.keep E 6 rfl).keep E 3 rfl).keep E 1 rfl), H, hs38, hr39, hr40, hr41, hr42, hr43, hr44, hm⟩
    ·clear E H hm
     rintro k1 a w ⟨x57, x58, rs59, E, H, hs60, hr61, hr62, hr63, hr64, hr65, hr66, hm⟩
     cases k1 with
     | zero => exact (none_some hm rfl).elim
     | succ k1 =>
      unfold m_cantonlaw17_GreatAnswer_l1 at hm
      refine wp_seq ?_
      refine wp_seq ?_
      refine wp_region_lit ?_
      refine st_val E (wn rfl) rfl rfl (x_move E rfl rfl) ?_
      clear a E;intro a E
      refine st_val E (wn rfl) rfl rfl (x_fa E rfl rfl (v := .pointer (some ⟨p14, 8, none⟩)) (fa50_7 _ _)) ?_
      clear a E;intro a E
      refine st_val E (wn rfl) rfl rfl (x_ldB (i := 0) E H rfl rfl rfl rfl Try.underlying47 rfl) ?_
      clear a E;intro a E
      refine st_val E (wn rfl) rfl rfl (x_lenS E H rfl rfl hr65 Try.underlying47) ?_
      clear a E;intro a E
      refine st_val E (wn rfl) rfl rfl (x_bin E rfl rfl rfl rfl) ?_
      clear a E;intro a E
      refine st_val E (wn rfl) rfl rfl (x_move E rfl rfl) ?_
      clear a E;intro a E
      rcases Bool.eq_false_or_eq_true (decide (x58 < (x1.Mounts.length : Int))) with hb67 | hb67
      ·rw [if_t hb67] at hm
       refine st_val E (ws' E rfl rfl rfl rfl hb67) rfl rfl (x_move E rfl rfl) ?_
       clear a E;intro a E
       refine st_val E (ws' E rfl rfl rfl rfl hb67) rfl rfl (x_bin E rfl rfl rfl rfl) ?_
       clear a E;intro a E
       refine st_val E (wn rfl) rfl rfl (x_pickT E rfl rfl hb67 rfl) ?_
       clear a E;intro a E
       refine wpList_nil ?_
       refine q_then ?_
       refine wp_if E rfl ?_ ?_
       ·intro hb
        rw [if_t hb] at hm
        clear hb
        refine wp_skip ?_
        refine q_then ?_
        refine wp_seq ?_
        refine wp_block ?_
        refine wp_region_lit ?_
        refine st_val E (wn rfl) rfl rfl (x_move E rfl rfl) ?_
        clear a E;intro a E
        refine st_val E (wn rfl) rfl rfl (x_fa E rfl rfl (v := .pointer (some ⟨p14, 8, none⟩)) (fa50_7 _ _)) ?_
        clear a E;intro a E
        refine st_val E (wn rfl) rfl rfl (x_ldB (i := 0) E H rfl rfl rfl rfl Try.underlying47 rfl) ?_
        clear a E;intro a E
        refine st_val E (wn rfl) rfl rfl (x_move E rfl rfl) ?_
        clear a E;intro a E
        obtain ⟨x68, hx69, hm⟩ := bnd hm
        refine st_ixS E H (wn rfl) rfl rfl rfl rfl rfl hr65 Try.underlying47 sz70 hx69 ?_
        clear E H; clear a; intro q70 a H E
        replace H := H.derive1 (.head _) (rAt kS (q70.add 0) x68.Prefix) (fun ok h => k_api_Mount_at0 h)
        refine st_val E (wn rfl) rfl rfl (x_fa E rfl rfl (fa70_0 _ _)) ?_
        clear a E;intro a E
        refine st_val E (wn rfl) rfl rfl (x_ldA E H rfl rfl (.head _) Try.underlying9 rfl) ?_
        clear a E;intro a E
        refine st_val E (wn rfl) rfl rfl (x_lenStr E rfl rfl Try.underlying9) ?_
        clear a E;intro a E
        refine st_val E (wn rfl) rfl rfl (x_min (t := 0) E rfl rfl rfl) ?_
        clear a E;intro a E
        refine st_val E (wn rfl) rfl rfl (x_bin E rfl rfl rfl rfl) ?_
        clear a E;intro a E
        refine st_val E (wn rfl) rfl rfl (x_assign E rfl rfl) ?_
        clear a E;intro a E
        refine wpList_nil ?_
        refine q_blk ?_
        refine q_then ?_
        refine wp_region_lit ?_
        refine st_val E (wn rfl) rfl rfl (x_move E rfl rfl) ?_
        clear a E;intro a E
        refine st_val E (wn rfl) rfl rfl (x_bin E rfl rfl rfl rfl) ?_
        clear a E;intro a E
        refine st_val E (wn rfl) rfl rfl (x_assign E rfl rfl) ?_
        clear a E;intro a E
        refine wpList_nil ?_
        refine q_then ?_
        exact ⟨k1, Nat.lt_succ_self k1, IntKind.i64.wrap (x57 + (min (x68.Prefix.size : Int) 9000)), IntKind.i64.wrap (x58 + 1), _, (((E.nil.keep E 6 rfl).keep E 3 rfl).keep E 1 rfl), H, fun r hr => .tail _ (.tail _ (hs60 r hr)), (.tail _ (.tail _ hr61)), (.tail _ (.tail _ hr62)), (.tail _ (.tail _ hr63)), (.tail _ (.tail _ hr64)), (.tail _ (.tail _ hr65)), (.tail _ (.tail _ hr66)), hm⟩
       ·intro hb
        rw [if_f hb] at hm
        clear hb
        refine wp_exit ?_
        refine q_thenX ?_
        refine q_thenX ?_
        refine q_hit ?_
        refine q_then ?_
        exact ⟨x57, _, ((E.nil.keep E 3 rfl).keep E 1 rfl), H, hs60, hr61, hr62, hr63, hr64, hr65, hr66, hm⟩
      ·rw [if_f hb67] at hm
       refine st_no E (wf' E rfl rfl rfl rfl hb67 rfl) rfl rfl ?_
       clear a E;intro a E
       refine st_no E (wf' E rfl rfl rfl rfl hb67 rfl) rfl rfl ?_
       clear a E;intro a E
       refine st_val E (wn rfl) rfl rfl (x_pickF E rfl rfl hb67 rfl) ?_
       clear a E;intro a E
       refine wpList_nil ?_
       refine q_then ?_
       refine wp_cond_false (E.eval rfl) ?_
       refine wp_exit ?_
       refine q_thenX ?_
       refine q_thenX ?_
       refine q_hit ?_
       refine q_then ?_
       exact ⟨x57, _, ((E.nil.keep E 3 rfl).keep E 1 rfl), H, hs60, hr61, hr62, hr63, hr64, hr65, hr66, hm⟩
   ·clear E H hm
    rintro a w ⟨x45, rs46, E, H, hs47, hr48, hr49, hr50, hr51, hr52, hr53, hm⟩
    unfold m_cantonlaw17_GreatAnswer_j3 at hm
    refine wp_seq ?_
    refine wp_region_lit ?_
    refine st_val E (wn rfl) rfl rfl (x_move E rfl rfl) ?_
    clear a E;intro a E
    refine st_val E (wn rfl) rfl rfl (x_bin E rfl rfl rfl rfl) ?_
    clear a E;intro a E
    refine st_val E (wn rfl) rfl rfl (x_move E rfl rfl) ?_
    clear a E;intro a E
    rcases Bool.eq_false_or_eq_true (decide (x45 ≥ 9000)) with hb54 | hb54
    ·rw [if_t hb54] at hm
     refine st_no E (wf' E rfl rfl rfl rfl hb54 rfl) rfl rfl ?_
     clear a E;intro a E
     refine st_no E (wf' E rfl rfl rfl rfl hb54 rfl) rfl rfl ?_
     clear a E;intro a E
     refine st_no E (wf' E rfl rfl rfl rfl hb54 rfl) rfl rfl ?_
     clear a E;intro a E
     refine st_val E (wn rfl) rfl rfl (x_pickT E rfl rfl hb54 rfl) ?_
     clear a E;intro a E
     refine st_val E (wn rfl) rfl rfl (x_assign E rfl rfl) ?_
     clear a E;intro a E
     refine wpList_nil ?_
     refine q_then ?_
     refine wp_ret ?_
     refine out1 E rfl rfl ?_
     replace H := H.drop 0
     obtain rfl := Option.some.inj hm
     exact ⟨rfl, H.reads (fun r hr => hs47 r hr)⟩
    ·rw [if_f hb54] at hm
     refine st_val E (ws' E rfl rfl rfl rfl hb54) rfl rfl (x_fa E rfl rfl (v := .pointer (some ⟨p14, 5, none⟩)) (fa50_5 _ _)) ?_
     clear a E;intro a E
     refine st_val E (ws' E rfl rfl rfl rfl hb54) rfl rfl (x_ldBN (i := 0) (us := [(.slice q17 x1.Store.Nodes.length x18), (.slice q19 x1.Store.Turns.length x20)]) E H rfl rfl rfl rfl Try.underlying45 rfl sz45) ?_
     clear a E;intro a E
     obtain ⟨u55, hx56, hm⟩ := bnd hm
     refine st_call E (ws' E rfl rfl rfl rfl hb54) rfl rfl (x_call E rfl rfl (cf50 _)) (c_cantonlaw07_Great (⟨x1.Store.Nodes, x1.Store.Turns⟩ : S_api_Store) (.slice q17 x1.Store.Nodes.length x18) (.slice q19 x1.Store.Turns.length x20) H hr49 hr50 hx56) ?_
     clear E H; clear a; clear w; rintro _ w ⟨rfl, H⟩ a E
     refine st_val E (wn rfl) rfl rfl (x_pickF E rfl rfl hb54 rfl) ?_
     clear a E;intro a E
     refine st_val E (wn rfl) rfl rfl (x_assign E rfl rfl) ?_
     clear a E;intro a E
     refine wpList_nil ?_
     refine q_then ?_
     refine wp_ret ?_
     refine out1 E rfl rfl ?_
     replace H := H.drop 0
     obtain rfl := Option.some.inj hm
     exact ⟨rfl, H.reads (fun r hr => hs47 r hr)⟩
end Go.Cb

set_option linter.unusedVariables false
set_option linter.unusedSimpArgs false
namespace Go.Cb
open Go.Proofs Go.RowKit
def m_cantonlaw17_LetterAnswers_j1 (u30 : Bool) (x1 : S_api_Answer) (l9 : List Int) (b32 : Bool) : Option Bool :=
  if b32 = true then (some (u30)) else ((m_letter_PutAnswer (⟨x1.Err, x1.At, x1.Yes, x1.Epoch, x1.Results, (⟨x1.Store.Nodes, x1.Store.Turns⟩ : S_api_Store), x1.Events, x1.Mounts, x1.Wounded⟩ : S_api_Answer)).bind fun u42 => (m_cantonref17_PutAnswer (⟨x1.Err, x1.At, x1.Yes, x1.Epoch, x1.Results, (⟨x1.Store.Nodes, x1.Store.Turns⟩ : S_api_Store), x1.Events, x1.Mounts, x1.Wounded⟩ : S_api_Answer)).bind fun u45 => (m_letter_GetAnswer l9).bind fun u48 => (m_cantonref17_GetAnswer l9).bind fun u69 => if u30 = true then (if (sEq (strOf u42.1) (strOf u45.1)) = true then (if (u42.2 == u45.2) = true then ((m_cantonref13_Same (⟨u48.1.Err, u48.1.At, u48.1.Yes, u48.1.Epoch, u48.1.Results, (⟨u48.1.Store.Nodes, u48.1.Store.Turns⟩ : S_api_Store), u48.1.Events, u48.1.Mounts, u48.1.Wounded⟩ : S_api_Answer) (⟨u69.1.Err, u69.1.At, u69.1.Yes, u69.1.Epoch, u69.1.Results, (⟨u69.1.Store.Nodes, u69.1.Store.Turns⟩ : S_api_Store), u69.1.Events, u69.1.Mounts, u69.1.Wounded⟩ : S_api_Answer)).bind fun u93 => if u93 = true then (some (u48.2 == u69.2)) else (some (false))) else (some (false))) else (some (false))) else (some (false)))
def m_cantonlaw17_LetterAnswers (x1 : S_api_Answer) (l9 : List Int) : Option Bool :=
  m_cantonlaw17_head.bind fun u30 => (m_cantonlaw17_GreatAnswer (⟨x1.Err, x1.At, x1.Yes, x1.Epoch, x1.Results, (⟨x1.Store.Nodes, x1.Store.Turns⟩ : S_api_Store), x1.Events, x1.Mounts, x1.Wounded⟩ : S_api_Answer)).bind fun u96 => if u96 = true then (m_cantonlaw17_LetterAnswers_j1 u30 x1 l9 true) else (m_cantonlaw17_LetterAnswers_j1 u30 x1 l9 (decide ((l9.length : Int) > 20000)))
set_option maxRecDepth 20000 in
set_option maxHeartbeats 1000000 in
theorem c_cantonlaw17_LetterAnswers {w : World} {Fo : List Ob} {rs : List Rp} (x1 : S_api_Answer) (v2 : Value) (v3 : Value) (v4 : Value) (v5 : Value) (v6 : Value) (v7 : Value) (v8 : Value) (l9 : List Int) (H : Sep w (Fo) rs) (hr10 : rSl k_api_Result v2 x1.Results ∈ rs) (hr11 : rSl k_api_Node v3 x1.Store.Nodes ∈ rs) (hr12 : rSl k_api_Turn v4 x1.Store.Turns ∈ rs) (hr13 : rSl k_api_Event v5 x1.Events ∈ rs) (hr14 : rSl k_api_Mount v6 x1.Mounts ∈ rs) (hr15 : rSl (kI .i64) v7 x1.Wounded ∈ rs) (hr16 : rSl (kI .u8) v8 l9 ∈ rs) {r : Bool} (hm : m_cantonlaw17_LetterAnswers x1 l9 = some r) :
    Calls Try.prog 4 [.agg #[.int .i64 x1.Err, .int .i64 x1.At, .bool x1.Yes, .int .i64 x1.Epoch, v2, v3, v4, v5, v6, v7], v8].toArray w (Ret fun v w' => .bool r = v ∧ Sep w' (Fo) (rs)) := by
 unfold m_cantonlaw17_LetterAnswers at hm
 refine enter Try.func4 rfl Try.ntmps4 rfl fun a E => ?_
 simp only [enum, Nat.reduceAdd] at E
 refine wp_seq ?_
 refine wp_region_lit ?_
 obtain ⟨q18, x19, rfl⟩ := H.slform hr10
 obtain ⟨q20, x21, rfl⟩ := H.slform hr11
 obtain ⟨q22, x23, rfl⟩ := H.slform hr12
 obtain ⟨q24, x25, rfl⟩ := H.slform hr13
 obtain ⟨q26, x27, rfl⟩ := H.slform hr14
 obtain ⟨q28, x29, rfl⟩ := H.slform hr15
 refine st_box E H (wn rfl) rfl rfl (cs := [.int .i64 x1.Err, .int .i64 x1.At, .bool x1.Yes, .int .i64 x1.Epoch, (.slice q18 x1.Results.length x19), (.slice q20 x1.Store.Nodes.length x21), (.slice q22 x1.Store.Turns.length x23), (.slice q24 x1.Events.length x25), (.slice q26 x1.Mounts.length x27), (.slice q28 x1.Wounded.length x29)]) rfl rfl rfl ?_
 clear E H; clear a; clear w; intro p17 w a H E
 refine st_val E (wn rfl) rfl rfl (x_assign E rfl rfl) ?_
 clear a E;intro a E
 refine wpList_nil ?_
 refine q_then ?_
 refine wp_seq ?_
 refine wp_region_lit ?_
 obtain ⟨u30, hx31, hm⟩ := bnd hm
 refine st_call E (wn rfl) rfl rfl (x_call E rfl rfl (cf9 _)) (c_cantonlaw17_head H hx31) ?_
 clear E H; clear a; clear w; rintro _ w ⟨rfl, H⟩ a E
 refine st_val E (wn rfl) rfl rfl (x_assign E rfl rfl) ?_
 clear a E;intro a E
 refine wpList_nil ?_
 refine q_then ?_
 refine wp_seq ?_
 refine wp_seq_cut (fun a w => ∃ (b32 : Bool) (rs33 : List Rp), Env 66 a [(1, v8), (2, .pointer (some ⟨p17, 0, none⟩)), (5, .bool u30), (21, .bool b32)] ∧ Sep w (Blk p17 50 [.int .i64 x1.Err, .int .i64 x1.At, .bool x1.Yes, .int .i64 x1.Epoch, (.slice q18 x1.Results.length x19), (.slice q20 x1.Store.Nodes.length x21), (.slice q22 x1.Store.Turns.length x23), (.slice q24 x1.Events.length x25), (.slice q26 x1.Mounts.length x27), (.slice q28 x1.Wounded.length x29)] :: Fo) rs33 ∧ (∀ r, r ∈ rs → r ∈ rs33) ∧ rSl (kI .u8) v8 l9 ∈ rs33 ∧ rSl k_api_Result (.slice q18 x1.Results.length x19) x1.Results ∈ rs33 ∧ rSl k_api_Node (.slice q20 x1.Store.Nodes.length x21) x1.Store.Nodes ∈ rs33 ∧ rSl k_api_Turn (.slice q22 x1.Store.Turns.length x23) x1.Store.Turns ∈ rs33 ∧ rSl k_api_Event (.slice q24 x1.Events.length x25) x1.Events ∈ rs33 ∧ rSl k_api_Mount (.slice q26 x1.Mounts.length x27) x1.Mounts ∈ rs33 ∧ rSl (kI .i64) (.slice q28 x1.Wounded.length x29) x1.Wounded ∈ rs33 ∧ m_cantonlaw17_LetterAnswers_j1 u30 x1 l9 b32 = some r) ?_ ?_
 ·refine wp_region_lit ?_
  refine st_val E (wn rfl) rfl rfl (x_ldBN (i := 0) (us := [.int .i64 x1.Err, .int .i64 x1.At, .bool x1.Yes, .int .i64 x1.Epoch, (.slice q18 x1.Results.length x19), (.slice q20 x1.Store.Nodes.length x21), (.slice q22 x1.Store.Turns.length x23), (.slice q24 x1.Events.length x25), (.slice q26 x1.Mounts.length x27), (.slice q28 x1.Wounded.length x29)]) E H rfl rfl rfl rfl Try.underlying50 rfl sz50) ?_
  clear a E;intro a E
  obtain ⟨u96, hx97, hm⟩ := bnd hm
  refine st_call E (wn rfl) rfl rfl (x_call E rfl rfl (cf21 _)) (c_cantonlaw17_GreatAnswer (⟨x1.Err, x1.At, x1.Yes, x1.Epoch, x1.Results, (⟨x1.Store.Nodes, x1.Store.Turns⟩ : S_api_Store), x1.Events, x1.Mounts, x1.Wounded⟩ : S_api_Answer) (.slice q18 x1.Results.length x19) (.slice q20 x1.Store.Nodes.length x21) (.slice q22 x1.Store.Turns.length x23) (.slice q24 x1.Events.length x25) (.slice q26 x1.Mounts.length x27) (.slice q28 x1.Wounded.length x29) H hr10 hr11 hr12 hr13 hr14 hr15 hx97) ?_
  clear E H; clear a; clear w; rintro _ w ⟨rfl, H⟩ a E
  refine st_val E (wn rfl) rfl rfl (x_move E rfl rfl) ?_
  clear a E;intro a E
  rcases Bool.eq_false_or_eq_true u96 with hb98 | hb98
  ·rw [if_t hb98] at hm
   refine st_no E (wf' E rfl rfl rfl rfl hb98 rfl) rfl rfl ?_
   clear a E;intro a E
   refine st_no E (wf' E rfl rfl rfl rfl hb98 rfl) rfl rfl ?_
   clear a E;intro a E
   refine st_no E (wf' E rfl rfl rfl rfl hb98 rfl) rfl rfl ?_
   clear a E;intro a E
   refine st_val E (wn rfl) rfl rfl (x_pickT E rfl rfl hb98 rfl) ?_
   clear a E;intro a E
   refine wpList_nil ?_
   refine q_then ?_
   exact ⟨true, _, ((((E.nil.keep E 21 rfl).keep E 5 rfl).keep E 2 rfl).keep E 1 rfl), H, fun r hr => hr, hr16, hr10, hr11, hr12, hr13, hr14, hr15, hm⟩
  ·rw [if_f hb98] at hm
   refine st_val E (ws' E rfl rfl rfl rfl hb98) rfl rfl (x_move E rfl rfl) ?_
   clear a E;intro a E
   refine st_val E (ws' E rfl rfl rfl rfl hb98) rfl rfl (x_lenS E H rfl rfl hr16 Try.underlying27) ?_
   clear a E;intro a E
   refine st_val E (ws' E rfl rfl rfl rfl hb98) rfl rfl (x_bin E rfl rfl rfl rfl) ?_
   clear a E;intro a E
   refine st_val E (wn rfl) rfl rfl (x_pickF E rfl rfl hb98 rfl) ?_
   clear a E;intro a E
   refine wpList_nil ?_
   refine q_then ?_
   exact ⟨decide ((l9.length : Int) > 20000), _, ((((E.nil.keep E 21 rfl).keep E 5 rfl).keep E 2 rfl).keep E 1 rfl), H, fun r hr => hr, hr16, hr10, hr11, hr12, hr13, hr14, hr15, hm⟩
 ·clear E H hm
  rintro a w ⟨b32, rs33, E, H, hs34, hr35, hr36, hr37, hr38, hr39, hr40, hr41, hm⟩
  unfold m_cantonlaw17_LetterAnswers_j1 at hm
  refine wp_if E rfl ?_ ?_
  ·intro hb
   rw [if_t hb] at hm
   clear hb
   refine wp_seq ?_
   refine wp_region_lit ?_
   refine st_val E (wn rfl) rfl rfl (x_move E rfl rfl) ?_
   clear a E;intro a E
   refine st_val E (wn rfl) rfl rfl (x_assign E rfl rfl) ?_
   clear a E;intro a E
   refine wpList_nil ?_
   refine q_then ?_
   refine wp_ret ?_
   refine q_thenR ?_
   refine out1 E rfl rfl ?_
   replace H := H.drop 0
   obtain rfl := Option.some.inj hm
   exact ⟨rfl, H.reads (fun r hr => hs34 r hr)⟩
  ·intro hb
   rw [if_f hb] at hm
   clear hb
   refine wp_skip ?_
   refine q_then ?_
   refine wp_seq ?_
   refine wp_region_lit ?_
   refine st_val E (wn rfl) rfl rfl (x_ldBN (i := 0) (us := [.int .i64 x1.Err, .int .i64 x1.At, .bool x1.Yes, .int .i64 x1.Epoch, (.slice q18 x1.Results.length x19), (.slice q20 x1.Store.Nodes.length x21), (.slice q22 x1.Store.Turns.length x23), (.slice q24 x1.Events.length x25), (.slice q26 x1.Mounts.length x27), (.slice q28 x1.Wounded.length x29)]) E H rfl rfl rfl rfl Try.underlying50 rfl sz50) ?_
   clear a E;intro a E
   obtain ⟨u42, hx43, hm⟩ := bnd hm
   refine st_call E (wn rfl) rfl rfl (x_call E rfl rfl (cf22 _)) (c_letter_PutAnswer (⟨x1.Err, x1.At, x1.Yes, x1.Epoch, x1.Results, (⟨x1.Store.Nodes, x1.Store.Turns⟩ : S_api_Store), x1.Events, x1.Mounts, x1.Wounded⟩ : S_api_Answer) (.slice q18 x1.Results.length x19) (.slice q20 x1.Store.Nodes.length x21) (.slice q22 x1.Store.Turns.length x23) (.slice q24 x1.Events.length x25) (.slice q26 x1.Mounts.length x27) (.slice q28 x1.Wounded.length x29) H hr36 hr37 hr38 hr39 hr40 hr41 hx43) ?_
   clear E H; clear a; clear w; rintro _ w ⟨v44, rfl, H⟩ a E
   refine st_val E (wn rfl) rfl rfl (x_move E rfl rfl) ?_
   clear a E;intro a E
   refine st_val E (wn rfl) rfl rfl (x_ext E rfl rfl rfl) ?_
   clear a E;intro a E
   refine st_val E (wn rfl) rfl rfl (x_ext E rfl rfl rfl) ?_
   clear a E;intro a E
   refine st_val E (wn rfl) rfl rfl (x_assign E rfl rfl) ?_
   clear a E;intro a E
   refine st_val E (wn rfl) rfl rfl (x_assign E rfl rfl) ?_
   clear a E;intro a E
   refine wpList_nil ?_
   refine q_then ?_
   refine wp_seq ?_
   refine wp_region_lit ?_
   refine st_val E (wn rfl) rfl rfl (x_ldBN (i := 1) (us := [.int .i64 x1.Err, .int .i64 x1.At, .bool x1.Yes, .int .i64 x1.Epoch, (.slice q18 x1.Results.length x19), (.slice q20 x1.Store.Nodes.length x21), (.slice q22 x1.Store.Turns.length x23), (.slice q24 x1.Events.length x25), (.slice q26 x1.Mounts.length x27), (.slice q28 x1.Wounded.length x29)]) E H rfl rfl rfl rfl Try.underlying50 rfl sz50) ?_
   clear a E;intro a E
   obtain ⟨u45, hx46, hm⟩ := bnd hm
   refine st_call E (wn rfl) rfl rfl (x_call E rfl rfl (cf23 _)) (c_cantonref17_PutAnswer (⟨x1.Err, x1.At, x1.Yes, x1.Epoch, x1.Results, (⟨x1.Store.Nodes, x1.Store.Turns⟩ : S_api_Store), x1.Events, x1.Mounts, x1.Wounded⟩ : S_api_Answer) (.slice q18 x1.Results.length x19) (.slice q20 x1.Store.Nodes.length x21) (.slice q22 x1.Store.Turns.length x23) (.slice q24 x1.Events.length x25) (.slice q26 x1.Mounts.length x27) (.slice q28 x1.Wounded.length x29) H hr36 hr37 hr38 hr39 hr40 hr41 hx46) ?_
   clear E H; clear a; clear w; rintro _ w ⟨v47, rfl, H⟩ a E
   refine st_val E (wn rfl) rfl rfl (x_move E rfl rfl) ?_
   clear a E;intro a E
   refine st_val E (wn rfl) rfl rfl (x_ext E rfl rfl rfl) ?_
   clear a E;intro a E
   refine st_val E (wn rfl) rfl rfl (x_ext E rfl rfl rfl) ?_
   clear a E;intro a E
   refine st_val E (wn rfl) rfl rfl (x_assign E rfl rfl) ?_
   clear a E;intro a E
   refine st_val E (wn rfl) rfl rfl (x_assign E rfl rfl) ?_
   clear a E;intro a E
   refine wpList_nil ?_
   refine q_then ?_
   refine wp_seq ?_
   refine wp_region_lit ?_
   refine st_val E (wn rfl) rfl rfl (x_move E rfl rfl) ?_
   clear a E;intro a E
   obtain ⟨u48, hx49, hm⟩ := bnd hm
   refine st_call E (wn rfl) rfl rfl (x_call E rfl rfl (cf24 _)) (c_letter_GetAnswer v8 l9 H hr35 hx49) ?_
   clear E H; clear a; clear w; rintro _ w ⟨v50, v51, v52, v53, v54, v55, rfl, H⟩ a E
   refine st_val E (wn rfl) rfl rfl (x_move E rfl rfl) ?_
   clear a E;intro a E
   refine st_val E (wn rfl) rfl rfl (x_ext E rfl rfl rfl) ?_
   clear a E;intro a E
   refine st_val E (wn rfl) rfl rfl (x_ext E rfl rfl rfl) ?_
   clear a E;intro a E
   refine st_alloc E H (wn rfl) rfl rfl (cs := [.int .i64 0, .int .i64 0, .bool false, .int .i64 0, .slice none 0 0, .slice none 0 0, .slice none 0 0, .slice none 0 0, .slice none 0 0, .slice none 0 0]) rfl (z := .agg #[.int .i64 0, .int .i64 0, .bool false, .int .i64 0, .slice none 0 0, .slice none 0 0, .slice none 0 0, .slice none 0 0, .slice none 0 0, .slice none 0 0]) (by kernel_rfl) rfl ?_
   clear E H; clear a; clear w; intro p56 w a H E
   obtain ⟨q57, x58, rfl⟩ := H.slform (.head _)
   obtain ⟨q59, x60, rfl⟩ := H.slform (.tail _ (.head _))
   obtain ⟨q61, x62, rfl⟩ := H.slform (.tail _ (.tail _ (.head _)))
   obtain ⟨q63, x64, rfl⟩ := H.slform (.tail _ (.tail _ (.tail _ (.head _))))
   obtain ⟨q65, x66, rfl⟩ := H.slform (.tail _ (.tail _ (.tail _ (.tail _ (.head _)))))
   obtain ⟨q67, x68, rfl⟩ := H.slform (.tail _ (.tail _ (.tail _ (.tail _ (.tail _ (.head _))))))
   refine st_st (i := 0) E H (wn rfl) rfl (us := [.int .i64 u48.1.Err, .int .i64 u48.1.At, .bool u48.1.Yes, .int .i64 u48.1.Epoch, (.slice q57 u48.1.Results.length x58), (.slice q59 u48.1.Store.Nodes.length x60), (.slice q61 u48.1.Store.Turns.length x62), (.slice q63 u48.1.Events.length x64), (.slice q65 u48.1.Mounts.length x66), (.slice q67 u48.1.Wounded.length x68)]) rfl rfl rfl rfl rfl sz50 rfl rfl ?_
   clear H; clear w; intro w H
   replace H : Sep w (Blk p56 50 [.int .i64 u48.1.Err, .int .i64 u48.1.At, .bool u48.1.Yes, .int .i64 u48.1.Epoch, (.slice q57 u48.1.Results.length x58), (.slice q59 u48.1.Store.Nodes.length x60), (.slice q61 u48.1.Store.Turns.length x62), (.slice q63 u48.1.Events.length x64), (.slice q65 u48.1.Mounts.length x66), (.slice q67 u48.1.Wounded.length x68)] :: Row 5 (kI .u8) v47 u45.1 :: Row 5 (kI .u8) v44 u42.1 :: Blk p17 50 [.int .i64 x1.Err, .int .i64 x1.At, .bool x1.Yes, .int .i64 x1.Epoch, (.slice q18 x1.Results.length x19), (.slice q20 x1.Store.Nodes.length x21), (.slice q22 x1.Store.Turns.length x23), (.slice q24 x1.Events.length x25), (.slice q26 x1.Mounts.length x27), (.slice q28 x1.Wounded.length x29)] :: Fo) _ := H
   refine st_val E (wn rfl) rfl rfl (x_assign E rfl rfl) ?_
   clear a E;intro a E
   refine wpList_nil ?_
   refine q_then ?_
   refine wp_seq ?_
   refine wp_region_lit ?_
   refine st_val E (wn rfl) rfl rfl (x_move E rfl rfl) ?_
   clear a E;intro a E
   obtain ⟨u69, hx70, hm⟩ := bnd hm
   refine st_call E (wn rfl) rfl rfl (x_call E rfl rfl (cf25 _)) (c_cantonref17_GetAnswer v8 l9 H (.tail _ (.tail _ (.tail _ (.tail _ (.tail _ (.tail _ hr35)))))) hx70) ?_
   clear E H; clear a; clear w; rintro _ w ⟨v71, v72, v73, v74, v75, v76, rfl, H⟩ a E
   refine st_val E (wn rfl) rfl rfl (x_move E rfl rfl) ?_
   clear a E;intro a E
   refine st_val E (wn rfl) rfl rfl (x_ext E rfl rfl rfl) ?_
   clear a E;intro a E
   refine st_val E (wn rfl) rfl rfl (x_ext E rfl rfl rfl) ?_
   clear a E;intro a E
   refine st_alloc E H (wn rfl) rfl rfl (cs := [.int .i64 0, .int .i64 0, .bool false, .int .i64 0, .slice none 0 0, .slice none 0 0, .slice none 0 0, .slice none 0 0, .slice none 0 0, .slice none 0 0]) rfl (z := .agg #[.int .i64 0, .int .i64 0, .bool false, .int .i64 0, .slice none 0 0, .slice none 0 0, .slice none 0 0, .slice none 0 0, .slice none 0 0, .slice none 0 0]) (by kernel_rfl) rfl ?_
   clear E H; clear a; clear w; intro p77 w a H E
   obtain ⟨q78, x79, rfl⟩ := H.slform (.head _)
   obtain ⟨q80, x81, rfl⟩ := H.slform (.tail _ (.head _))
   obtain ⟨q82, x83, rfl⟩ := H.slform (.tail _ (.tail _ (.head _)))
   obtain ⟨q84, x85, rfl⟩ := H.slform (.tail _ (.tail _ (.tail _ (.head _))))
   obtain ⟨q86, x87, rfl⟩ := H.slform (.tail _ (.tail _ (.tail _ (.tail _ (.head _)))))
   obtain ⟨q88, x89, rfl⟩ := H.slform (.tail _ (.tail _ (.tail _ (.tail _ (.tail _ (.head _))))))
   refine st_st (i := 0) E H (wn rfl) rfl (us := [.int .i64 u69.1.Err, .int .i64 u69.1.At, .bool u69.1.Yes, .int .i64 u69.1.Epoch, (.slice q78 u69.1.Results.length x79), (.slice q80 u69.1.Store.Nodes.length x81), (.slice q82 u69.1.Store.Turns.length x83), (.slice q84 u69.1.Events.length x85), (.slice q86 u69.1.Mounts.length x87), (.slice q88 u69.1.Wounded.length x89)]) rfl rfl rfl rfl rfl sz50 rfl rfl ?_
   clear H; clear w; intro w H
   replace H : Sep w (Blk p77 50 [.int .i64 u69.1.Err, .int .i64 u69.1.At, .bool u69.1.Yes, .int .i64 u69.1.Epoch, (.slice q78 u69.1.Results.length x79), (.slice q80 u69.1.Store.Nodes.length x81), (.slice q82 u69.1.Store.Turns.length x83), (.slice q84 u69.1.Events.length x85), (.slice q86 u69.1.Mounts.length x87), (.slice q88 u69.1.Wounded.length x89)] :: Blk p56 50 [.int .i64 u48.1.Err, .int .i64 u48.1.At, .bool u48.1.Yes, .int .i64 u48.1.Epoch, (.slice q57 u48.1.Results.length x58), (.slice q59 u48.1.Store.Nodes.length x60), (.slice q61 u48.1.Store.Turns.length x62), (.slice q63 u48.1.Events.length x64), (.slice q65 u48.1.Mounts.length x66), (.slice q67 u48.1.Wounded.length x68)] :: Row 5 (kI .u8) v47 u45.1 :: Row 5 (kI .u8) v44 u42.1 :: Blk p17 50 [.int .i64 x1.Err, .int .i64 x1.At, .bool x1.Yes, .int .i64 x1.Epoch, (.slice q18 x1.Results.length x19), (.slice q20 x1.Store.Nodes.length x21), (.slice q22 x1.Store.Turns.length x23), (.slice q24 x1.Events.length x25), (.slice q26 x1.Mounts.length x27), (.slice q28 x1.Wounded.length x29)] :: Fo) _ := H
   refine st_val E (wn rfl) rfl rfl (x_assign E rfl rfl) ?_
   clear a E;intro a E
   refine wpList_nil ?_
   refine q_then ?_
   refine wp_seq ?_
   refine wp_region_lit ?_
   refine st_val E (wn rfl) rfl rfl (x_move E rfl rfl) ?_
   clear a E;intro a E
   refine st_val E (wn rfl) rfl rfl (x_move E rfl rfl) ?_
   clear a E;intro a E
   rcases Bool.eq_false_or_eq_true u30 with hb90 | hb90
   ·rw [if_t hb90] at hm
    refine st_val E (ws' E rfl rfl rfl rfl hb90) rfl rfl (x_move E rfl rfl) ?_
    clear a E;intro a E
    replace H := H.thaw (i := 3) rfl
    refine st_val E (ws' E rfl rfl rfl rfl hb90) rfl rfl (x_b2s E H rfl rfl (.head _) Try.underlying27 Try.underlying5 Try.underlying9) ?_
    clear a E;intro a E
    refine st_val E (ws' E rfl rfl rfl rfl hb90) rfl rfl (x_move E rfl rfl) ?_
    clear a E;intro a E
    replace H := H.thaw (i := 2) rfl
    refine st_val E (ws' E rfl rfl rfl rfl hb90) rfl rfl (x_b2s E H rfl rfl (.head _) Try.underlying27 Try.underlying5 Try.underlying9) ?_
    clear a E;intro a E
    refine st_val E (ws' E rfl rfl rfl rfl hb90) rfl rfl (x_str E rfl rfl rfl rfl) ?_
    clear a E;intro a E
    refine st_val E (wn rfl) rfl rfl (x_pickT E rfl rfl hb90 rfl) ?_
    clear a E;intro a E
    refine st_val E (wn rfl) rfl rfl (x_move E rfl rfl) ?_
    clear a E;intro a E
    rcases Bool.eq_false_or_eq_true (sEq (strOf u42.1) (strOf u45.1)) with hb91 | hb91
    ·rw [if_t hb91] at hm
     refine st_val E (ws' E rfl rfl rfl rfl hb91) rfl rfl (x_move E rfl rfl) ?_
     clear a E;intro a E
     refine st_val E (ws' E rfl rfl rfl rfl hb91) rfl rfl (x_move E rfl rfl) ?_
     clear a E;intro a E
     refine st_val E (ws' E rfl rfl rfl rfl hb91) rfl rfl (x_bin E rfl rfl rfl rfl) ?_
     clear a E;intro a E
     refine st_val E (wn rfl) rfl rfl (x_pickT E rfl rfl hb91 rfl) ?_
     clear a E;intro a E
     refine st_val E (wn rfl) rfl rfl (x_move E rfl rfl) ?_
     clear a E;intro a E
     rcases Bool.eq_false_or_eq_true (u42.2 == u45.2) with hb92 | hb92
     ·rw [if_t hb92] at hm
      refine st_val E (ws' E rfl rfl rfl rfl hb92) rfl rfl (x_ldBN (i := 1) (us := [.int .i64 u48.1.Err, .int .i64 u48.1.At, .bool u48.1.Yes, .int .i64 u48.1.Epoch, (.slice q57 u48.1.Results.length x58), (.slice q59 u48.1.Store.Nodes.length x60), (.slice q61 u48.1.Store.Turns.length x62), (.slice q63 u48.1.Events.length x64), (.slice q65 u48.1.Mounts.length x66), (.slice q67 u48.1.Wounded.length x68)]) E H rfl rfl rfl rfl Try.underlying50 rfl sz50) ?_
      clear a E;intro a E
      refine st_val E (ws' E rfl rfl rfl rfl hb92) rfl rfl (x_ldBN (i := 0) (us := [.int .i64 u69.1.Err, .int .i64 u69.1.At, .bool u69.1.Yes, .int .i64 u69.1.Epoch, (.slice q78 u69.1.Results.length x79), (.slice q80 u69.1.Store.Nodes.length x81), (.slice q82 u69.1.Store.Turns.length x83), (.slice q84 u69.1.Events.length x85), (.slice q86 u69.1.Mounts.length x87), (.slice q88 u69.1.Wounded.length x89)]) E H rfl rfl rfl rfl Try.underlying50 rfl sz50) ?_
      clear a E;intro a E
      obtain ⟨u93, hx94, hm⟩ := bnd hm
      refine st_call E (ws' E rfl rfl rfl rfl hb92) rfl rfl (x_call E rfl rfl (cf26 _)) (c_cantonref13_Same (⟨u48.1.Err, u48.1.At, u48.1.Yes, u48.1.Epoch, u48.1.Results, (⟨u48.1.Store.Nodes, u48.1.Store.Turns⟩ : S_api_Store), u48.1.Events, u48.1.Mounts, u48.1.Wounded⟩ : S_api_Answer) (.slice q57 u48.1.Results.length x58) (.slice q59 u48.1.Store.Nodes.length x60) (.slice q61 u48.1.Store.Turns.length x62) (.slice q63 u48.1.Events.length x64) (.slice q65 u48.1.Mounts.length x66) (.slice q67 u48.1.Wounded.length x68) (⟨u69.1.Err, u69.1.At, u69.1.Yes, u69.1.Epoch, u69.1.Results, (⟨u69.1.Store.Nodes, u69.1.Store.Turns⟩ : S_api_Store), u69.1.Events, u69.1.Mounts, u69.1.Wounded⟩ : S_api_Answer) (.slice q78 u69.1.Results.length x79) (.slice q80 u69.1.Store.Nodes.length x81) (.slice q82 u69.1.Store.Turns.length x83) (.slice q84 u69.1.Events.length x85) (.slice q86 u69.1.Mounts.length x87) (.slice q88 u69.1.Wounded.length x89) H (.tail _ (.tail _ (.tail _ (.tail _ (.tail _ (.tail _ (.tail _ (.tail _ (.head _))))))))) (.tail _ (.tail _ (.tail _ (.tail _ (.tail _ (.tail _ (.tail _ (.tail _ (.tail _ (.head _)))))))))) (.tail _ (.tail _ (.tail _ (.tail _ (.tail _ (.tail _ (.tail _ (.tail _ (.tail _ (.tail _ (.head _))))))))))) (.tail _ (.tail _ (.tail _ (.tail _ (.tail _ (.tail _ (.tail _ (.tail _ (.tail _ (.tail _ (.tail _ (.head _)))))))))))) (.tail _ (.tail _ (.tail _ (.tail _ (.tail _ (.tail _ (.tail _ (.tail _ (.tail _ (.tail _ (.tail _ (.tail _ (.head _))))))))))))) (.tail _ (.tail _ (.tail _ (.tail _ (.tail _ (.tail _ (.tail _ (.tail _ (.tail _ (.tail _ (.tail _ (.tail _ (.tail _ (.head _)))))))))))))) (.tail _ (.tail _ (.head _))) (.tail _ (.tail _ (.tail _ (.head _)))) (.tail _ (.tail _ (.tail _ (.tail _ (.head _))))) (.tail _ (.tail _ (.tail _ (.tail _ (.tail _ (.head _)))))) (.tail _ (.tail _ (.tail _ (.tail _ (.tail _ (.tail _ (.head _))))))) (.tail _ (.tail _ (.tail _ (.tail _ (.tail _ (.tail _ (.tail _ (.head _)))))))) hx94) ?_
      clear E H; clear a; clear w; rintro _ w ⟨rfl, H⟩ a E
      refine st_val E (wn rfl) rfl rfl (x_pickT E rfl rfl hb92 rfl) ?_
      clear a E;intro a E
      refine st_val E (wn rfl) rfl rfl (x_move E rfl rfl) ?_
      clear a E;intro a E
      rcases Bool.eq_false_or_eq_true u93 with hb95 | hb95
      ·rw [if_t hb95] at hm
       refine st_val E (ws' E rfl rfl rfl rfl hb95) rfl rfl (x_move E rfl rfl) ?_
       clear a E;intro a E
       refine st_val E (ws' E rfl rfl rfl rfl hb95) rfl rfl (x_move E rfl rfl) ?_
       clear a E;intro a E
       refine st_val E (ws' E rfl rfl rfl rfl hb95) rfl rfl (x_bin E rfl rfl rfl rfl) ?_
       clear a E;intro a E
       refine st_val E (wn rfl) rfl rfl (x_pickT E rfl rfl hb95 rfl) ?_
       clear a E;intro a E
       refine st_val E (wn rfl) rfl rfl (x_assign E rfl rfl) ?_
       clear a E;intro a E
       refine wpList_nil ?_
       refine q_then ?_
       refine wp_ret ?_
       refine out1 E rfl rfl ?_
       replace H := H.drop 0
       replace H := H.drop 0
       replace H := H.drop 0
       obtain rfl := Option.some.inj hm
       exact ⟨rfl, H.reads (fun r hr => .tail _ (.tail _ (.tail _ (.tail _ (.tail _ (.tail _ (.tail _ (.tail _ (.tail _ (.tail _ (.tail _ (.tail _ (.tail _ (.tail _ (hs34 r hr)))))))))))))))⟩
      ·rw [if_f hb95] at hm
       refine st_no E (wf' E rfl rfl rfl rfl hb95 rfl) rfl rfl ?_
       clear a E;intro a E
       refine st_no E (wf' E rfl rfl rfl rfl hb95 rfl) rfl rfl ?_
       clear a E;intro a E
       refine st_no E (wf' E rfl rfl rfl rfl hb95 rfl) rfl rfl ?_
       clear a E;intro a E
       refine st_val E (wn rfl) rfl rfl (x_pickF E rfl rfl hb95 rfl) ?_
       clear a E;intro a E
       refine st_val E (wn rfl) rfl rfl (x_assign E rfl rfl) ?_
       clear a E;intro a E
       refine wpList_nil ?_
       refine q_then ?_
       refine wp_ret ?_
       refine out1 E rfl rfl ?_
       replace H := H.drop 0
       replace H := H.drop 0
       replace H := H.drop 0
       obtain rfl := Option.some.inj hm
       exact ⟨rfl, H.reads (fun r hr => .tail _ (.tail _ (.tail _ (.tail _ (.tail _ (.tail _ (.tail _ (.tail _ (.tail _ (.tail _ (.tail _ (.tail _ (.tail _ (.tail _ (hs34 r hr)))))))))))))))⟩
     ·rw [if_f hb92] at hm
      refine st_no E (wf' E rfl rfl rfl rfl hb92 rfl) rfl rfl ?_
      clear a E;intro a E
      refine st_no E (wf' E rfl rfl rfl rfl hb92 rfl) rfl rfl ?_
      clear a E;intro a E
      refine st_no E (wf' E rfl rfl rfl rfl hb92 rfl) rfl rfl ?_
      clear a E;intro a E
      refine st_val E (wn rfl) rfl rfl (x_pickF E rfl rfl hb92 rfl) ?_
      clear a E;intro a E
      refine st_val E (wn rfl) rfl rfl (x_move E rfl rfl) ?_
      clear a E;intro a E
      refine st_no E (wf E rfl rfl rfl rfl rfl) rfl rfl ?_
      clear a E;intro a E
      refine st_no E (wf E rfl rfl rfl rfl rfl) rfl rfl ?_
      clear a E;intro a E
      refine st_no E (wf E rfl rfl rfl rfl rfl) rfl rfl ?_
      clear a E;intro a E
      refine st_val E (wn rfl) rfl rfl (x_pickF E rfl rfl rfl rfl) ?_
      clear a E;intro a E
      refine st_val E (wn rfl) rfl rfl (x_assign E rfl rfl) ?_
      clear a E;intro a E
      refine wpList_nil ?_
      refine q_then ?_
      refine wp_ret ?_
      refine out1 E rfl rfl ?_
      replace H := H.drop 0
      replace H := H.drop 0
      replace H := H.drop 0
      obtain rfl := Option.some.inj hm
      exact ⟨rfl, H.reads (fun r hr => .tail _ (.tail _ (.tail _ (.tail _ (.tail _ (.tail _ (.tail _ (.tail _ (.tail _ (.tail _ (.tail _ (.tail _ (.tail _ (.tail _ (hs34 r hr)))))))))))))))⟩
    ·rw [if_f hb91] at hm
     refine st_no E (wf' E rfl rfl rfl rfl hb91 rfl) rfl rfl ?_
     clear a E;intro a E
     refine st_no E (wf' E rfl rfl rfl rfl hb91 rfl) rfl rfl ?_
     clear a E;intro a E
     refine st_no E (wf' E rfl rfl rfl rfl hb91 rfl) rfl rfl ?_
     clear a E;intro a E
     refine st_val E (wn rfl) rfl rfl (x_pickF E rfl rfl hb91 rfl) ?_
     clear a E;intro a E
     refine st_val E (wn rfl) rfl rfl (x_move E rfl rfl) ?_
     clear a E;intro a E
     refine st_no E (wf E rfl rfl rfl rfl rfl) rfl rfl ?_
     clear a E;intro a E
     refine st_no E (wf E rfl rfl rfl rfl rfl) rfl rfl ?_
     clear a E;intro a E
     refine st_no E (wf E rfl rfl rfl rfl rfl) rfl rfl ?_
     clear a E;intro a E
     refine st_val E (wn rfl) rfl rfl (x_pickF E rfl rfl rfl rfl) ?_
     clear a E;intro a E
     refine st_val E (wn rfl) rfl rfl (x_move E rfl rfl) ?_
     clear a E;intro a E
     refine st_no E (wf E rfl rfl rfl rfl rfl) rfl rfl ?_
     clear a E;intro a E
     refine st_no E (wf E rfl rfl rfl rfl rfl) rfl rfl ?_
     clear a E;intro a E
     refine st_no E (wf E rfl rfl rfl rfl rfl) rfl rfl ?_
     clear a E;intro a E
     refine st_val E (wn rfl) rfl rfl (x_pickF E rfl rfl rfl rfl) ?_
     clear a E;intro a E
     refine st_val E (wn rfl) rfl rfl (x_assign E rfl rfl) ?_
     clear a E;intro a E
     refine wpList_nil ?_
     refine q_then ?_
     refine wp_ret ?_
     refine out1 E rfl rfl ?_
     replace H := H.drop 0
     replace H := H.drop 0
     replace H := H.drop 0
     obtain rfl := Option.some.inj hm
     exact ⟨rfl, H.reads (fun r hr => .tail _ (.tail _ (.tail _ (.tail _ (.tail _ (.tail _ (.tail _ (.tail _ (.tail _ (.tail _ (.tail _ (.tail _ (.tail _ (.tail _ (hs34 r hr)))))))))))))))⟩
   ·rw [if_f hb90] at hm
    refine st_no E (wf' E rfl rfl rfl rfl hb90 rfl) rfl rfl ?_
    clear a E;intro a E
    refine st_no E (wf' E rfl rfl rfl rfl hb90 rfl) rfl rfl ?_
    clear a E;intro a E
    refine st_no E (wf' E rfl rfl rfl rfl hb90 rfl) rfl rfl ?_
    clear a E;intro a E
    refine st_no E (wf' E rfl rfl rfl rfl hb90 rfl) rfl rfl ?_
    clear a E;intro a E
    refine st_no E (wf' E rfl rfl rfl rfl hb90 rfl) rfl rfl ?_
    clear a E;intro a E
    refine st_val E (wn rfl) rfl rfl (x_pickF E rfl rfl hb90 rfl) ?_
    clear a E;intro a E
    refine st_val E (wn rfl) rfl rfl (x_move E rfl rfl) ?_
    clear a E;intro a E
    refine st_no E (wf E rfl rfl rfl rfl rfl) rfl rfl ?_
    clear a E;intro a E
    refine st_no E (wf E rfl rfl rfl rfl rfl) rfl rfl ?_
    clear a E;intro a E
    refine st_no E (wf E rfl rfl rfl rfl rfl) rfl rfl ?_
    clear a E;intro a E
    refine st_val E (wn rfl) rfl rfl (x_pickF E rfl rfl rfl rfl) ?_
    clear a E;intro a E
    refine st_val E (wn rfl) rfl rfl (x_move E rfl rfl) ?_
    clear a E;intro a E
    refine st_no E (wf E rfl rfl rfl rfl rfl) rfl rfl ?_
    clear a E;intro a E
    refine st_no E (wf E rfl rfl rfl rfl rfl) rfl rfl ?_
    clear a E;intro a E
    refine st_no E (wf E rfl rfl rfl rfl rfl) rfl rfl ?_
    clear a E;intro a E
    refine st_val E (wn rfl) rfl rfl (x_pickF E rfl rfl rfl rfl) ?_
    clear a E;intro a E
    refine st_val E (wn rfl) rfl rfl (x_move E rfl rfl) ?_
    clear a E;intro a E
    refine st_no E (wf E rfl rfl rfl rfl rfl) rfl rfl ?_
    clear a E;intro a E
    refine st_no E (wf E rfl rfl rfl rfl rfl) rfl rfl ?_
    clear a E;intro a E
    refine st_no E (wf E rfl rfl rfl rfl rfl) rfl rfl ?_
    clear a E;intro a E
    refine st_val E (wn rfl) rfl rfl (x_pickF E rfl rfl rfl rfl) ?_
    clear a E;intro a E
    refine st_val E (wn rfl) rfl rfl (x_assign E rfl rfl) ?_
    clear a E;intro a E
    refine wpList_nil ?_
    refine q_then ?_
    refine wp_ret ?_
    refine out1 E rfl rfl ?_
    replace H := H.drop 0
    replace H := H.drop 0
    replace H := H.drop 0
    replace H := H.drop 0
    replace H := H.drop 0
    obtain rfl := Option.some.inj hm
    exact ⟨rfl, H.reads (fun r hr => .tail _ (.tail _ (.tail _ (.tail _ (.tail _ (.tail _ (.tail _ (.tail _ (.tail _ (.tail _ (.tail _ (.tail _ (hs34 r hr)))))))))))))⟩
end Go.Cb

set_option linter.unusedVariables false
set_option linter.unusedSimpArgs false
namespace Go.Cb
open Go.Proofs Go.RowKit
def m_cantonlaw17_LetterWhole_j2 (l9 : List Int) (u32 : Bool) : Option Bool :=
  (m_letter_GetAnswer l9).bind fun u50 => if (u50.2 != 0) = true then (if u32 = true then ((m_cantonref13_Same (⟨u50.1.Err, u50.1.At, u50.1.Yes, u50.1.Epoch, u50.1.Results, (⟨u50.1.Store.Nodes, u50.1.Store.Turns⟩ : S_api_Store), u50.1.Events, u50.1.Mounts, u50.1.Wounded⟩ : S_api_Answer) (⟨0, 0, false, 0, [], (⟨[], []⟩ : S_api_Store), [], [], []⟩ : S_api_Answer)).bind fun u72 => some (u72)) else (some (false))) else ((m_letter_PutAnswer (⟨u50.1.Err, u50.1.At, u50.1.Yes, u50.1.Epoch, u50.1.Results, (⟨u50.1.Store.Nodes, u50.1.Store.Turns⟩ : S_api_Store), u50.1.Events, u50.1.Mounts, u50.1.Wounded⟩ : S_api_Answer)).bind fun u74 => if u32 = true then (if (u74.2 == 0) = true then (some (sEq (strOf u74.1) (strOf l9))) else (some (false))) else (some (false)))
def m_cantonlaw17_LetterWhole_j4 (l9 : List Int) (u32 : Bool) (b160 : Bool) : Option Bool :=
  if b160 = true then (some (false)) else (m_cantonlaw17_LetterWhole_j2 l9 u32)
def m_cantonlaw17_LetterWhole_j3 (l9 : List Int) (u32 : Bool) (u44 : (List Int) × Int) (x10 : Int) (x11 : Int) (b100 : Bool) : Option Bool :=
  if b100 = true then (some (false)) else ((ck ((u44.1.length : Int) ≠ 0)).bind fun u106 => (ck (0 ≤ ((IntKind.i64.wrap x10).tmod (u44.1.length : Int)) ∧ ((IntKind.i64.wrap x10).tmod (u44.1.length : Int)) ≤ u44.1.length)).bind fun u107 => (m_letter_GetAnswer (u44.1.take ((IntKind.i64.wrap x10).tmod (u44.1.length : Int)).toNat)).bind fun u110 => (ck (([] : List Int).length + u44.1.length ≤ LIM)).bind fun u133 => (ck ((([] : List Int) ++ u44.1).length + ([x11] : List Int).length ≤ LIM)).bind fun u137 => (m_letter_GetAnswer ((([] : List Int) ++ u44.1) ++ ([x11] : List Int))).bind fun u139 => if (u110.2 != 3) = true then (m_cantonlaw17_LetterWhole_j4 l9 u32 true) else (m_cantonlaw17_LetterWhole_j4 l9 u32 (u139.2 != 3)))
def m_cantonlaw17_LetterWhole_j1 (l9 : List Int) (u32 : Bool) (x10 : Int) (x11 : Int) (x1 : S_api_Answer) (b34 : Bool) : Option Bool :=
  if b34 = true then (some (u32)) else ((m_letter_PutAnswer (⟨x1.Err, x1.At, x1.Yes, x1.Epoch, x1.Results, (⟨x1.Store.Nodes, x1.Store.Turns⟩ : S_api_Store), x1.Events, x1.Mounts, x1.Wounded⟩ : S_api_Answer)).bind fun u44 => if (u44.2 == 0) = true then ((m_letter_GetAnswer u44.1).bind fun u79 => if (u79.2 != 0) = true then (m_cantonlaw17_LetterWhole_j3 l9 u32 u44 x10 x11 true) else ((m_cantonref13_Same (⟨x1.Err, x1.At, x1.Yes, x1.Epoch, x1.Results, (⟨x1.Store.Nodes, x1.Store.Turns⟩ : S_api_Store), x1.Events, x1.Mounts, x1.Wounded⟩ : S_api_Answer) (⟨u79.1.Err, u79.1.At, u79.1.Yes, u79.1.Epoch, u79.1.Results, (⟨u79.1.Store.Nodes, u79.1.Store.Turns⟩ : S_api_Store), u79.1.Events, u79.1.Mounts, u79.1.Wounded⟩ : S_api_Answer)).bind fun u166 => if (!u166) = true then (m_cantonlaw17_LetterWhole_j3 l9 u32 u44 x10 x11 true) else (m_cantonlaw17_LetterWhole_j3 l9 u32 u44 x10 x11 ((u44.1.length : Int) == 0)))) else (m_cantonlaw17_LetterWhole_j2 l9 u32))
def m_cantonlaw17_LetterWhole (x1 : S_api_Answer) (l9 : List Int) (x10 : Int) (x11 : Int) : Option Bool :=
  m_cantonlaw17_head.bind fun u32 => (m_cantonlaw17_GreatAnswer (⟨x1.Err, x1.At, x1.Yes, x1.Epoch, x1.Results, (⟨x1.Store.Nodes, x1.Store.Turns⟩ : S_api_Store), x1.Events, x1.Mounts, x1.Wounded⟩ : S_api_Answer)).bind fun u169 => if u169 = true then (m_cantonlaw17_LetterWhole_j1 l9 u32 x10 x11 x1 true) else (m_cantonlaw17_LetterWhole_j1 l9 u32 x10 x11 x1 (decide ((l9.length : Int) > 20000)))
set_option maxRecDepth 20000 in
set_option maxHeartbeats 1000000 in
theorem c_cantonlaw17_LetterWhole {w : World} {Fo : List Ob} {rs : List Rp} (x1 : S_api_Answer) (v2 : Value) (v3 : Value) (v4 : Value) (v5 : Value) (v6 : Value) (v7 : Value) (v8 : Value) (l9 : List Int) (x10 : Int) (x11 : Int) (H : Sep w (Fo) rs) (hr12 : rSl k_api_Result v2 x1.Results ∈ rs) (hr13 : rSl k_api_Node v3 x1.Store.Nodes ∈ rs) (hr14 : rSl k_api_Turn v4 x1.Store.Turns ∈ rs) (hr15 : rSl k_api_Event v5 x1.Events ∈ rs) (hr16 : rSl k_api_Mount v6 x1.Mounts ∈ rs) (hr17 : rSl (kI .i64) v7 x1.Wounded ∈ rs) (hr18 : rSl (kI .u8) v8 l9 ∈ rs) {r : Bool} (hm : m_cantonlaw17_LetterWhole x1 l9 x10 x11 = some r) :
    Calls Try.prog 6 [.agg #[.int .i64 x1.Err, .int .i64 x1.At, .bool x1.Yes, .int .i64 x1.Epoch, v2, v3, v4, v5, v6, v7], v8, .int .u16 x10, .int .u8 x11].toArray w (Ret fun v w' => .bool r = v ∧ Sep w' (Fo) (rs)) := by
 unfold m_cantonlaw17_LetterWhole at hm
 refine enter Try.func6 rfl Try.ntmps6 rfl fun a E => ?_
 simp only [enum, Nat.reduceAdd] at E
 refine wp_seq ?_
 refine wp_region_lit ?_
 obtain ⟨q20, x21, rfl⟩ := H.slform hr12
 obtain ⟨q22, x23, rfl⟩ := H.slform hr13
 obtain ⟨q24, x25, rfl⟩ := H.slform hr14
 obtain ⟨q26, x27, rfl⟩ := H.slform hr15
 obtain ⟨q28, x29, rfl⟩ := H.slform hr16
 obtain ⟨q30, x31, rfl⟩ := H.slform hr17
 refine st_box E H (wn rfl) rfl rfl (cs := [.int .i64 x1.Err, .int .i64 x1.At, .bool x1.Yes, .int .i64 x1.Epoch, (.slice q20 x1.Results.length x21), (.slice q22 x1.Store.Nodes.length x23), (.slice q24 x1.Store.Turns.length x25), (.slice q26 x1.Events.length x27), (.slice q28 x1.Mounts.length x29), (.slice q30 x1.Wounded.length x31)]) rfl rfl rfl ?_
 clear E H; clear a; clear w; intro p19 w a H E
 refine st_val E (wn rfl) rfl rfl (x_assign E rfl rfl) ?_
 clear a E;intro a E
 refine wpList_nil ?_
 refine q_then ?_
 refine wp_seq ?_
 refine wp_region_lit ?_
 obtain ⟨u32, hx33, hm⟩ := bnd hm
 refine st_call E (wn rfl) rfl rfl (x_call E rfl rfl (cf9 _)) (c_cantonlaw17_head H hx33) ?_
 clear E H; clear a; clear w; rintro _ w ⟨rfl, H⟩ a E
 refine st_val E (wn rfl) rfl rfl (x_assign E rfl rfl) ?_
 clear a E;intro a E
 refine wpList_nil ?_
 refine q_then ?_
 refine wp_seq ?_
 refine wp_seq_cut (fun a w => ∃ (b34 : Bool) (rs35 : List Rp), Env 113 a [(1, v8), (2, .int .u16 x10), (3, .int .u8 x11), (4, .pointer (some ⟨p19, 0, none⟩)), (9, .bool u32), (29, .bool b34)] ∧ Sep w (Blk p19 50 [.int .i64 x1.Err, .int .i64 x1.At, .bool x1.Yes, .int .i64 x1.Epoch, (.slice q20 x1.Results.length x21), (.slice q22 x1.Store.Nodes.length x23), (.slice q24 x1.Store.Turns.length x25), (.slice q26 x1.Events.length x27), (.slice q28 x1.Mounts.length x29), (.slice q30 x1.Wounded.length x31)] :: Fo) rs35 ∧ (∀ r, r ∈ rs → r ∈ rs35) ∧ rSl (kI .u8) v8 l9 ∈ rs35 ∧ rSl k_api_Result (.slice q20 x1.Results.length x21) x1.Results ∈ rs35 ∧ rSl k_api_Node (.slice q22 x1.Store.Nodes.length x23) x1.Store.Nodes ∈ rs35 ∧ rSl k_api_Turn (.slice q24 x1.Store.Turns.length x25) x1.Store.Turns ∈ rs35 ∧ rSl k_api_Event (.slice q26 x1.Events.length x27) x1.Events ∈ rs35 ∧ rSl k_api_Mount (.slice q28 x1.Mounts.length x29) x1.Mounts ∈ rs35 ∧ rSl (kI .i64) (.slice q30 x1.Wounded.length x31) x1.Wounded ∈ rs35 ∧ m_cantonlaw17_LetterWhole_j1 l9 u32 x10 x11 x1 b34 = some r) ?_ ?_
 ·refine wp_region_lit ?_
  refine st_val E (wn rfl) rfl rfl (x_ldBN (i := 0) (us := [.int .i64 x1.Err, .int .i64 x1.At, .bool x1.Yes, .int .i64 x1.Epoch, (.slice q20 x1.Results.length x21), (.slice q22 x1.Store.Nodes.length x23), (.slice q24 x1.Store.Turns.length x25), (.slice q26 x1.Events.length x27), (.slice q28 x1.Mounts.length x29), (.slice q30 x1.Wounded.length x31)]) E H rfl rfl rfl rfl Try.underlying50 rfl sz50) ?_
  clear a E;intro a E
  obtain ⟨u169, hx170, hm⟩ := bnd hm
  refine st_call E (wn rfl) rfl rfl (x_call E rfl rfl (cf21 _)) (c_cantonlaw17_GreatAnswer (⟨x1.Err, x1.At, x1.Yes, x1.Epoch, x1.Results, (⟨x1.Store.Nodes, x1.Store.Turns⟩ : S_api_Store), x1.Events, x1.Mounts, x1.Wounded⟩ : S_api_Answer) (.slice q20 x1.Results.length x21) (.slice q22 x1.Store.Nodes.length x23) (.slice q24 x1.Store.Turns.length x25) (.slice q26 x1.Events.length x27) (.slice q28 x1.Mounts.length x29) (.slice q30 x1.Wounded.length x31) H hr12 hr13 hr14 hr15 hr16 hr17 hx170) ?_
  clear E H; clear a; clear w; rintro _ w ⟨rfl, H⟩ a E
  refine st_val E (wn rfl) rfl rfl (x_move E rfl rfl) ?_
  clear a E;intro a E
  rcases Bool.eq_false_or_eq_true u169 with hb171 | hb171
  ·rw [if_t hb171] at hm
   refine st_no E (wf' E rfl rfl rfl rfl hb171 rfl) rfl rfl ?_
   clear a E;intro a E
   refine st_no E (wf' E rfl rfl rfl rfl hb171 rfl) rfl rfl ?_
   clear a E;intro a E
   refine st_no E (wf' E rfl rfl rfl rfl hb171 rfl) rfl rfl ?_
   clear a E;intro a E
   refine st_val E (wn rfl) rfl rfl (x_pickT E rfl rfl hb171 rfl) ?_
   clear a E;intro a E
   refine wpList_nil ?_
   refine q_then ?_
   exact ⟨true, _, ((((((E.nil.keep E 29 rfl).keep E 9 rfl).keep E 4 rfl).keep E 3 rfl).keep E 2 rfl).keep E 1 rfl), H, fun r hr => hr, hr18, hr12, hr13, hr14, hr15, hr16, hr17, hm⟩
  ·rw [if_f hb171] at hm
   refine st_val E (ws' E rfl rfl rfl rfl hb171) rfl rfl (x_move E rfl rfl) ?_
   clear a E;intro a E
   refine st_val E (ws' E rfl rfl rfl rfl hb171) rfl rfl (x_lenS E H rfl rfl hr18 Try.underlying27) ?_
   clear a E;intro a E
   refine st_val E (ws' E rfl rfl rfl rfl hb171) rfl rfl (x_bin E rfl rfl rfl rfl) ?_
   clear a E;intro a E
   refine st_val E (wn rfl) rfl rfl (x_pickF E rfl rfl hb171 rfl) ?_
   clear a E;intro a E
   refine wpList_nil ?_
   refine q_then ?_
   exact ⟨decide ((l9.length : Int) > 20000), _, ((((((E.nil.keep E 29 rfl).keep E 9 rfl).keep E 4 rfl).keep E 3 rfl).keep E 2 rfl).keep E 1 rfl), H, fun r hr => hr, hr18, hr12, hr13, hr14, hr15, hr16, hr17, hm⟩
 ·clear E H hm
  rintro a w ⟨b34, rs35, E, H, hs36, hr37, hr38, hr39, hr40, hr41, hr42, hr43, hm⟩
  unfold m_cantonlaw17_LetterWhole_j1 at hm
  refine wp_if E rfl ?_ ?_
  ·intro hb
   rw [if_t hb] at hm
   clear hb
   refine wp_seq ?_
   refine wp_region_lit ?_
   refine st_val E (wn rfl) rfl rfl (x_move E rfl rfl) ?_
   clear a E;intro a E
   refine st_val E (wn rfl) rfl rfl (x_assign E rfl rfl) ?_
   clear a E;intro a E
   refine wpList_nil ?_
   refine q_then ?_
   refine wp_ret ?_
   refine q_thenR ?_
   refine out1 E rfl rfl ?_
   replace H := H.drop 0
   obtain rfl := Option.some.inj hm
   exact ⟨rfl, H.reads (fun r hr => hs36 r hr)⟩
  ·intro hb
   rw [if_f hb] at hm
   clear hb
   refine wp_skip ?_
   refine q_then ?_
   refine wp_seq ?_
   refine wp_region_lit ?_
   refine st_val E (wn rfl) rfl rfl (x_ldBN (i := 0) (us := [.int .i64 x1.Err, .int .i64 x1.At, .bool x1.Yes, .int .i64 x1.Epoch, (.slice q20 x1.Results.length x21), (.slice q22 x1.Store.Nodes.length x23), (.slice q24 x1.Store.Turns.length x25), (.slice q26 x1.Events.length x27), (.slice q28 x1.Mounts.length x29), (.slice q30 x1.Wounded.length x31)]) E H rfl rfl rfl rfl Try.underlying50 rfl sz50) ?_
   clear a E;intro a E
   obtain ⟨u44, hx45, hm⟩ := bnd hm
   refine st_call E (wn rfl) rfl rfl (x_call E rfl rfl (cf22 _)) (c_letter_PutAnswer (⟨x1.Err, x1.At, x1.Yes, x1.Epoch, x1.Results, (⟨x1.Store.Nodes, x1.Store.Turns⟩ : S_api_Store), x1.Events, x1.Mounts, x1.Wounded⟩ : S_api_Answer) (.slice q20 x1.Results.length x21) (.slice q22 x1.Store.Nodes.length x23) (.slice q24 x1.Store.Turns.length x25) (.slice q26 x1.Events.length x27) (.slice q28 x1.Mounts.length x29) (.slice q30 x1.Wounded.length x31) H hr38 hr39 hr40 hr41 hr42 hr43 hx45) ?_
   clear E H; clear a; clear w; rintro _ w ⟨v46, rfl, H⟩ a E
   refine st_val E (wn rfl) rfl rfl (x_move E rfl rfl) ?_
   clear a E;intro a E
   refine st_val E (wn rfl) rfl rfl (x_ext E rfl rfl rfl) ?_
   clear a E;intro a E
   refine st_val E (wn rfl) rfl rfl (x_ext E rfl rfl rfl) ?_
   clear a E;intro a E
   refine st_val E (wn rfl) rfl rfl (x_assign E rfl rfl) ?_
   clear a E;intro a E
   refine st_val E (wn rfl) rfl rfl (x_assign E rfl rfl) ?_
   clear a E;intro a E
   refine wpList_nil ?_
   refine q_then ?_
   refine wp_seq_cut (fun a w => ∃ (rs47 : List Rp), Env 113 a [(1, v8), (9, .bool u32)] ∧ Sep w (Fo) rs47 ∧ (∀ r, r ∈ rs → r ∈ rs47) ∧ rSl (kI .u8) v8 l9 ∈ rs47 ∧ m_cantonlaw17_LetterWhole_j2 l9 u32 = some r) ?_ ?_
   ·refine wp_seq ?_
    refine wp_region_lit ?_
    refine st_val E (wn rfl) rfl rfl (x_move E rfl rfl) ?_
    clear a E;intro a E
    refine st_val E (wn rfl) rfl rfl (x_bin E rfl rfl rfl rfl) ?_
    clear a E;intro a E
    refine wpList_nil ?_
    refine q_then ?_
    refine wp_if E rfl ?_ ?_
    ·intro hb
     rw [if_t hb] at hm
     clear hb
     refine wp_seq ?_
     refine wp_region_lit ?_
     refine st_val E (wn rfl) rfl rfl (x_move E rfl rfl) ?_
     clear a E;intro a E
     replace H := H.thaw (i := 0) rfl
     replace H : Sep w (Blk p19 50 [.int .i64 x1.Err, .int .i64 x1.At, .bool x1.Yes, .int .i64 x1.Epoch, (.slice q20 x1.Results.length x21), (.slice q22 x1.Store.Nodes.length x23), (.slice q24 x1.Store.Turns.length x25), (.slice q26 x1.Events.length x27), (.slice q28 x1.Mounts.length x29), (.slice q30 x1.Wounded.length x31)] :: Fo) (rSl (kI .u8) v46 u44.1 :: rs35) := H
     obtain ⟨u79, hx80, hm⟩ := bnd hm
     refine st_call E (wn rfl) rfl rfl (x_call E rfl rfl (cf24 _)) (c_letter_GetAnswer v46 u44.1 H (.head _) hx80) ?_
     clear E H; clear a; clear w; rintro _ w ⟨v81, v82, v83, v84, v85, v86, rfl, H⟩ a E
     refine st_val E (wn rfl) rfl rfl (x_move E rfl rfl) ?_
     clear a E;intro a E
     refine st_val E (wn rfl) rfl rfl (x_ext E rfl rfl rfl) ?_
     clear a E;intro a E
     refine st_val E (wn rfl) rfl rfl (x_ext E rfl rfl rfl) ?_
     clear a E;intro a E
     refine st_alloc E H (wn rfl) rfl rfl (cs := [.int .i64 0, .int .i64 0, .bool false, .int .i64 0, .slice none 0 0, .slice none 0 0, .slice none 0 0, .slice none 0 0, .slice none 0 0, .slice none 0 0]) rfl (z := .agg #[.int .i64 0, .int .i64 0, .bool false, .int .i64 0, .slice none 0 0, .slice none 0 0, .slice none 0 0, .slice none 0 0, .slice none 0 0, .slice none 0 0]) (by kernel_rfl) rfl ?_
     clear E H; clear a; clear w; intro p87 w a H E
     obtain ⟨q88, x89, rfl⟩ := H.slform (.head _)
     obtain ⟨q90, x91, rfl⟩ := H.slform (.tail _ (.head _))
     obtain ⟨q92, x93, rfl⟩ := H.slform (.tail _ (.tail _ (.head _)))
     obtain ⟨q94, x95, rfl⟩ := H.slform (.tail _ (.tail _ (.tail _ (.head _))))
     obtain ⟨q96, x97, rfl⟩ := H.slform (.tail _ (.tail _ (.tail _ (.tail _ (.head _)))))
     obtain ⟨q98, x99, rfl⟩ := H.slform (.tail _ (.tail _ (.tail _ (.tail _ (.tail _ (.head _))))))
     refine st_st (i := 0) E H (wn rfl) rfl (us := [.int .i64 u79.1.Err, .int .i64 u79.1.At, .bool u79.1.Yes, .int .i64 u79.1.Epoch, (.slice q88 u79.1.Results.length x89), (.slice q90 u79.1.Store.Nodes.length x91), (.slice q92 u79.1.Store.Turns.length x93), (.slice q94 u79.1.Events.length x95), (.slice q96 u79.1.Mounts.length x97), (.slice q98 u79.1.Wounded.length x99)]) rfl rfl rfl rfl rfl sz50 rfl rfl ?_
     clear H; clear w; intro w H
     replace H : Sep w (Blk p87 50 [.int .i64 u79.1.Err, .int .i64 u79.1.At, .bool u79.1.Yes, .int .i64 u79.1.Epoch, (.slice q88 u79.1.Results.length x89), (.slice q90 u79.1.Store.Nodes.length x91), (.slice q92 u79.1.Store.Turns.length x93), (.slice q94 u79.1.Events.length x95), (.slice q96 u79.1.Mounts.length x97), (.slice q98 u79.1.Wounded.length x99)] :: Blk p19 50 [.int .i64 x1.Err, .int .i64 x1.At, .bool x1.Yes, .int .i64 x1.Epoch, (.slice q20 x1.Results.length x21), (.slice q22 x1.Store.Nodes.length x23), (.slice q24 x1.Store.Turns.length x25), (.slice q26 x1.Events.length x27), (.slice q28 x1.Mounts.length x29), (.slice q30 x1.Wounded.length x31)] :: Fo) _ := H
     refine st_val E (wn rfl) rfl rfl (x_assign E rfl rfl) ?_
     clear a E;intro a E
     refine wpList_nil ?_
     refine q_then ?_
     refine wp_seq ?_
     refine wp_seq_cut (fun a w => ∃ (b100 : Bool) (rs101 : List Rp), Env 113 a [(1, v8), (2, .int .u16 x10), (3, .int .u8 x11), (9, .bool u32), (10, v46), (55, .bool b100)] ∧ Sep w (Fo) rs101 ∧ (∀ r, r ∈ rs → r ∈ rs101) ∧ rSl (kI .u8) v8 l9 ∈ rs101 ∧ rSl (kI .u8) v46 u44.1 ∈ rs101 ∧ m_cantonlaw17_LetterWhole_j3 l9 u32 u44 x10 x11 b100 = some r) ?_ ?_
     ·refine wp_region_lit ?_
      refine st_val E (wn rfl) rfl rfl (x_move E rfl rfl) ?_
      clear a E;intro a E
      refine st_val E (wn rfl) rfl rfl (x_bin E rfl rfl rfl rfl) ?_
      clear a E;intro a E
      refine st_val E (wn rfl) rfl rfl (x_move E rfl rfl) ?_
      clear a E;intro a E
      rcases Bool.eq_false_or_eq_true (u79.2 != 0) with hb165 | hb165
      ·rw [if_t hb165] at hm
       refine st_no E (wf' E rfl rfl rfl rfl hb165 rfl) rfl rfl ?_
       clear a E;intro a E
       refine st_no E (wf' E rfl rfl rfl rfl hb165 rfl) rfl rfl ?_
       clear a E;intro a E
       refine st_no E (wf' E rfl rfl rfl rfl hb165 rfl) rfl rfl ?_
       clear a E;intro a E
       refine st_no E (wf' E rfl rfl rfl rfl hb165 rfl) rfl rfl ?_
       clear a E;intro a E
       refine st_val E (wn rfl) rfl rfl (x_pickT E rfl rfl hb165 rfl) ?_
       clear a E;intro a E
       refine st_val E (wn rfl) rfl rfl (x_move E rfl rfl) ?_
       clear a E;intro a E
       refine st_no E (wf E rfl rfl rfl rfl rfl) rfl rfl ?_
       clear a E;intro a E
       refine st_no E (wf E rfl rfl rfl rfl rfl) rfl rfl ?_
       clear a E;intro a E
       refine st_no E (wf E rfl rfl rfl rfl rfl) rfl rfl ?_
       clear a E;intro a E
       refine st_val E (wn rfl) rfl rfl (x_pickT E rfl rfl rfl rfl) ?_
       clear a E;intro a E
       refine wpList_nil ?_
       refine q_then ?_
       replace H := H.drop 0
       replace H := H.drop 0
       exact ⟨true, _, ((((((E.nil.keep E 55 rfl).keep E 10 rfl).keep E 9 rfl).keep E 3 rfl).keep E 2 rfl).keep E 1 rfl), H, fun r hr => .tail _ (.tail _ (.tail _ (.tail _ (.tail _ (.tail _ (.tail _ (hs36 r hr))))))), (.tail _ (.tail _ (.tail _ (.tail _ (.tail _ (.tail _ (.tail _ hr37))))))), (.tail _ (.tail _ (.tail _ (.tail _ (.tail _ (.tail _ (.head _))))))), hm⟩
      ·rw [if_f hb165] at hm
       refine st_val E (ws' E rfl rfl rfl rfl hb165) rfl rfl (x_ldBN (i := 1) (us := [.int .i64 x1.Err, .int .i64 x1.At, .bool x1.Yes, .int .i64 x1.Epoch, (.slice q20 x1.Results.length x21), (.slice q22 x1.Store.Nodes.length x23), (.slice q24 x1.Store.Turns.length x25), (.slice q26 x1.Events.length x27), (.slice q28 x1.Mounts.length x29), (.slice q30 x1.Wounded.length x31)]) E H rfl rfl rfl rfl Try.underlying50 rfl sz50) ?_
       clear a E;intro a E
       refine st_val E (ws' E rfl rfl rfl rfl hb165) rfl rfl (x_ldBN (i := 0) (us := [.int .i64 u79.1.Err, .int .i64 u79.1.At, .bool u79.1.Yes, .int .i64 u79.1.Epoch, (.slice q88 u79.1.Results.length x89), (.slice q90 u79.1.Store.Nodes.length x91), (.slice q92 u79.1.Store.Turns.length x93), (.slice q94 u79.1.Events.length x95), (.slice q96 u79.1.Mounts.length x97), (.slice q98 u79.1.Wounded.length x99)]) E H rfl rfl rfl rfl Try.underlying50 rfl sz50) ?_
       clear a E;intro a E
       obtain ⟨u166, hx167, hm⟩ := bnd hm
       refine st_call E (ws' E rfl rfl rfl rfl hb165) rfl rfl (x_call E rfl rfl (cf26 _)) (c_cantonref13_Same (⟨x1.Err, x1.At, x1.Yes, x1.Epoch, x1.Results, (⟨x1.Store.Nodes, x1.Store.Turns⟩ : S_api_Store), x1.Events, x1.Mounts, x1.Wounded⟩ : S_api_Answer) (.slice q20 x1.Results.length x21) (.slice q22 x1.Store.Nodes.length x23) (.slice q24 x1.Store.Turns.length x25) (.slice q26 x1.Events.length x27) (.slice q28 x1.Mounts.length x29) (.slice q30 x1.Wounded.length x31) (⟨u79.1.Err, u79.1.At, u79.1.Yes, u79.1.Epoch, u79.1.Results, (⟨u79.1.Store.Nodes, u79.1.Store.Turns⟩ : S_api_Store), u79.1.Events, u79.1.Mounts, u79.1.Wounded⟩ : S_api_Answer) (.slice q88 u79.1.Results.length x89) (.slice q90 u79.1.Store.Nodes.length x91) (.slice q92 u79.1.Store.Turns.length x93) (.slice q94 u79.1.Events.length x95) (.slice q96 u79.1.Mounts.length x97) (.slice q98 u79.1.Wounded.length x99) H (.tail _ (.tail _ (.tail _ (.tail _ (.tail _ (.tail _ (.tail _ hr38))))))) (.tail _ (.tail _ (.tail _ (.tail _ (.tail _ (.tail _ (.tail _ hr39))))))) (.tail _ (.tail _ (.tail _ (.tail _ (.tail _ (.tail _ (.tail _ hr40))))))) (.tail _ (.tail _ (.tail _ (.tail _ (.tail _ (.tail _ (.tail _ hr41))))))) (.tail _ (.tail _ (.tail _ (.tail _ (.tail _ (.tail _ (.tail _ hr42))))))) (.tail _ (.tail _ (.tail _ (.tail _ (.tail _ (.tail _ (.tail _ hr43))))))) (.head _) (.tail _ (.head _)) (.tail _ (.tail _ (.head _))) (.tail _ (.tail _ (.tail _ (.head _)))) (.tail _ (.tail _ (.tail _ (.tail _ (.head _))))) (.tail _ (.tail _ (.tail _ (.tail _ (.tail _ (.head _)))))) hx167) ?_
       clear E H; clear a; clear w; rintro _ w ⟨rfl, H⟩ a E
       refine st_val E (ws' E rfl rfl rfl rfl hb165) rfl rfl (x_not E rfl rfl) ?_
       clear a E;intro a E
       refine st_val E (wn rfl) rfl rfl (x_pickF E rfl rfl hb165 rfl) ?_
       clear a E;intro a E
       refine st_val E (wn rfl) rfl rfl (x_move E rfl rfl) ?_
       clear a E;intro a E
       rcases Bool.eq_false_or_eq_true (!u166) with hb168 | hb168
       ·rw [if_t hb168] at hm
        refine st_no E (wf' E rfl rfl rfl rfl hb168 rfl) rfl rfl ?_
        clear a E;intro a E
        refine st_no E (wf' E rfl rfl rfl rfl hb168 rfl) rfl rfl ?_
        clear a E;intro a E
        refine st_no E (wf' E rfl rfl rfl rfl hb168 rfl) rfl rfl ?_
        clear a E;intro a E
        refine st_val E (wn rfl) rfl rfl (x_pickT E rfl rfl hb168 rfl) ?_
        clear a E;intro a E
        refine wpList_nil ?_
        refine q_then ?_
        replace H := H.drop 0
        replace H := H.drop 0
        exact ⟨true, _, ((((((E.nil.keep E 55 rfl).keep E 10 rfl).keep E 9 rfl).keep E 3 rfl).keep E 2 rfl).keep E 1 rfl), H, fun r hr => .tail _ (.tail _ (.tail _ (.tail _ (.tail _ (.tail _ (.tail _ (hs36 r hr))))))), (.tail _ (.tail _ (.tail _ (.tail _ (.tail _ (.tail _ (.tail _ hr37))))))), (.tail _ (.tail _ (.tail _ (.tail _ (.tail _ (.tail _ (.head _))))))), hm⟩
       ·rw [if_f hb168] at hm
        refine st_val E (ws' E rfl rfl rfl rfl hb168) rfl rfl (x_move E rfl rfl) ?_
        clear a E;intro a E
        refine st_val E (ws' E rfl rfl rfl rfl hb168) rfl rfl (x_lenS E H rfl rfl (.tail _ (.tail _ (.tail _ (.tail _ (.tail _ (.tail _ (.head _))))))) Try.underlying27) ?_
        clear a E;intro a E
        refine st_val E (ws' E rfl rfl rfl rfl hb168) rfl rfl (x_bin E rfl rfl rfl rfl) ?_
        clear a E;intro a E
        refine st_val E (wn rfl) rfl rfl (x_pickF E rfl rfl hb168 rfl) ?_
        clear a E;intro a E
        refine wpList_nil ?_
        refine q_then ?_
        replace H := H.drop 0
        replace H := H.drop 0
        exact ⟨(u44.1.length : Int) == 0, _, ((((((E.nil.keep E 55 rfl).keep E 10 rfl).keep E 9 rfl).keep E 3 rfl).keep E 2 rfl).keep E 1 rfl), H, fun r hr => .tail _ (.tail _ (.tail _ (.tail _ (.tail _ (.tail _ (.tail _ (hs36 r hr))))))), (.tail _ (.tail _ (.tail _ (.tail _ (.tail _ (.tail _ (.tail _ hr37))))))), (.tail _ (.tail _ (.tail _ (.tail _ (.tail _ (.tail _ (.head _))))))), hm⟩
     ·clear E H hm
      rintro a w ⟨b100, rs101, E, H, hs102, hr103, hr104, hm⟩
      unfold m_cantonlaw17_LetterWhole_j3 at hm
      refine wp_if E rfl ?_ ?_
      ·intro hb
       rw [if_t hb] at hm
       clear hb
       refine wp_seq ?_
       refine wp_region_lit ?_
       refine st_val E (wn rfl) rfl rfl (x_assign E rfl rfl) ?_
       clear a E;intro a E
       refine wpList_nil ?_
       refine q_then ?_
       refine wp_ret ?_
       refine q_thenR ?_
       refine q_thenR ?_
       refine out1 E rfl rfl ?_
       obtain rfl := Option.some.inj hm
       exact ⟨rfl, H.reads (fun r hr => hs102 r hr)⟩
      ·intro hb
       rw [if_f hb] at hm
       clear hb
       refine wp_skip ?_
       refine q_then ?_
       refine wp_seq ?_
       refine wp_region_lit ?_
       refine st_val E (wn rfl) rfl rfl (x_move E rfl rfl) ?_
       clear a E;intro a E
       refine st_val E (wn rfl) rfl rfl (x_move E rfl rfl) ?_
       clear a E;intro a E
       refine st_val E (wn rfl) rfl rfl (x_conv E rfl rfl (v := .int .i64 (IntKind.i64.wrap x10)) (by kernel_rfl)) ?_
       clear a E;intro a E
       refine st_val E (wn rfl) rfl rfl (x_move E rfl rfl) ?_
       clear a E;intro a E
       refine st_val E (wn rfl) rfl rfl (x_lenS E H rfl rfl hr104 Try.underlying27) ?_
       clear a E;intro a E
       obtain ⟨u106, hx105, hm⟩ := bnd hm
       refine st_val E (wn rfl) rfl rfl (x_rem E rfl rfl rfl (ck_of hx105)) ?_
       clear a E;intro a E
       obtain ⟨u107, hx108, hm⟩ := bnd hm
       refine st_take E H (wn rfl) rfl rfl rfl rfl rfl hr104 Try.underlying27 sz5 (ck_of hx108) ?_
       clear E H; clear a; intro v109 a H E
       obtain ⟨u110, hx111, hm⟩ := bnd hm
       refine st_call E (wn rfl) rfl rfl (x_call E rfl rfl (cf24 _)) (c_letter_GetAnswer v109 (u44.1.take ((IntKind.i64.wrap x10).tmod (u44.1.length : Int)).toNat) H (.head _) hx111) ?_
       clear E H; clear a; clear w; rintro _ w ⟨v112, v113, v114, v115, v116, v117, rfl, H⟩ a E
       refine st_val E (wn rfl) rfl rfl (x_move E rfl rfl) ?_
       clear a E;intro a E
       refine st_val E (wn rfl) rfl rfl (x_ext E rfl rfl rfl) ?_
       clear a E;intro a E
       refine st_val E (wn rfl) rfl rfl (x_ext E rfl rfl rfl) ?_
       clear a E;intro a E
       refine st_alloc E H (wn rfl) rfl rfl (cs := [.int .i64 0, .int .i64 0, .bool false, .int .i64 0, .slice none 0 0, .slice none 0 0, .slice none 0 0, .slice none 0 0, .slice none 0 0, .slice none 0 0]) rfl (z := .agg #[.int .i64 0, .int .i64 0, .bool false, .int .i64 0, .slice none 0 0, .slice none 0 0, .slice none 0 0, .slice none 0 0, .slice none 0 0, .slice none 0 0]) (by kernel_rfl) rfl ?_
       clear E H; clear a; clear w; intro p118 w a H E
       obtain ⟨q119, x120, rfl⟩ := H.slform (.head _)
       obtain ⟨q121, x122, rfl⟩ := H.slform (.tail _ (.head _))
       obtain ⟨q123, x124, rfl⟩ := H.slform (.tail _ (.tail _ (.head _)))
       obtain ⟨q125, x126, rfl⟩ := H.slform (.tail _ (.tail _ (.tail _ (.head _))))
       obtain ⟨q127, x128, rfl⟩ := H.slform (.tail _ (.tail _ (.tail _ (.tail _ (.head _)))))
       obtain ⟨q129, x130, rfl⟩ := H.slform (.tail _ (.tail _ (.tail _ (.tail _ (.tail _ (.head _))))))
       refine st_st (i := 0) E H (wn rfl) rfl (us := [.int .i64 u110.1.Err, .int .i64 u110.1.At, .bool u110.1.Yes, .int .i64 u110.1.Epoch, (.slice q119 u110.1.Results.length x120), (.slice q121 u110.1.Store.Nodes.length x122), (.slice q123 u110.1.Store.Turns.length x124), (.slice q125 u110.1.Events.length x126), (.slice q127 u110.1.Mounts.length x128), (.slice q129 u110.1.Wounded.length x130)]) rfl rfl rfl rfl rfl sz50 rfl rfl ?_
       clear H; clear w; intro w H
       replace H : Sep w (Blk p118 50 [.int .i64 u110.1.Err, .int .i64 u110.1.At, .bool u110.1.Yes, .int .i64 u110.1.Epoch, (.slice q119 u110.1.Results.length x120), (.slice q121 u110.1.Store.Nodes.length x122), (.slice q123 u110.1.Store.Turns.length x124), (.slice q125 u110.1.Events.length x126), (.slice q127 u110.1.Mounts.length x128), (.slice q129 u110.1.Wounded.length x130)] :: Fo) _ := H
       refine st_val E (wn rfl) rfl rfl (x_assign E rfl rfl) ?_
       clear a E;intro a E
       refine wpList_nil ?_
       refine q_then ?_
       refine wp_seq ?_
       refine wp_region_lit ?_
       refine st_bsO (e := 5) (d := (kI .u8)) (cs := []) (xs := []) E H (wn rfl) rfl rfl (ps := []) (parts := []) rfl rfl (by kernel_rfl) rfl rfl (fun ok hr => Rows.nil _ _ _) ?_
       clear E H; clear a; clear w; intro v131 w a H E
       refine st_val E (wn rfl) rfl rfl (x_move E rfl rfl) ?_
       clear a E;intro a E
       obtain ⟨u133, hx134, hm⟩ := bnd hm
       refine st_append (i := 0) E H (wn rfl) rfl rfl rfl rfl rfl rfl (src_rd (.tail _ (.tail _ (.tail _ (.tail _ (.tail _ (.tail _ (.tail _ hr104)))))))) Try.underlying27 inf5 rfl (ck_of hx134) rfl ?_
       clear E H; clear a; clear w; intro v132 w a H E
       refine st_val E (wn rfl) rfl rfl (x_move E rfl rfl) ?_
       clear a E;intro a E
       refine st_bsR (e := 5) (d := (kI .u8)) (cs := [.int .u8 x11]) (xs := [x11]) E H (wn rfl) rfl rfl (ps := [(0, .tmp 71)]) (parts := [(0, .int .u8 x11)]) rfl (by simp only [List.map]; rw [E.eval (x := .tmp 71) (v := .int .u8 x11) rfl]) (by kernel_rfl) rfl (fun ok hr => (Rows.single (d := (kI .u8)) (cs := [.int .u8 x11]) (x := x11) rfl)) ?_
       clear E H; clear a; clear w; intro v135 w a H E
       obtain ⟨u137, hx138, hm⟩ := bnd hm
       refine st_append (i := 0) E H (wn rfl) rfl rfl rfl rfl rfl rfl (src_rd (.head _)) Try.underlying27 inf5 rfl (ck_of hx138) rfl ?_
       clear E H; clear a; clear w; intro v136 w a H E
       replace H := H.thaw (i := 0) rfl
       replace H : Sep w (Blk p118 50 [.int .i64 u110.1.Err, .int .i64 u110.1.At, .bool u110.1.Yes, .int .i64 u110.1.Epoch, (.slice q119 u110.1.Results.length x120), (.slice q121 u110.1.Store.Nodes.length x122), (.slice q123 u110.1.Store.Turns.length x124), (.slice q125 u110.1.Events.length x126), (.slice q127 u110.1.Mounts.length x128), (.slice q129 u110.1.Wounded.length x130)] :: Fo) (rSl (kI .u8) v136 ((([] : List Int) ++ u44.1) ++ ([x11] : List Int)) :: rSl (kI .u8) v135 ([x11] : List Int) :: rSl k_api_Result (.slice q119 u110.1.Results.length x120) u110.1.Results :: rSl k_api_Node (.slice q121 u110.1.Store.Nodes.length x122) u110.1.Store.Nodes :: rSl k_api_Turn (.slice q123 u110.1.Store.Turns.length x124) u110.1.Store.Turns :: rSl k_api_Event (.slice q125 u110.1.Events.length x126) u110.1.Events :: rSl k_api_Mount (.slice q127 u110.1.Mounts.length x128) u110.1.Mounts :: rSl (kI .i64) (.slice q129 u110.1.Wounded.length x130) u110.1.Wounded :: rSl (kI .u8) v109 (u44.1.take ((IntKind.i64.wrap x10).tmod (u44.1.length : Int)).toNat) :: rs101) := H
       obtain ⟨u139, hx140, hm⟩ := bnd hm
       refine st_call E (wn rfl) rfl rfl (x_call E rfl rfl (cf24 _)) (c_letter_GetAnswer v136 ((([] : List Int) ++ u44.1) ++ ([x11] : List Int)) H (.head _) hx140) ?_
       clear E H; clear a; clear w; rintro _ w ⟨v141, v142, v143, v144, v145, v146, rfl, H⟩ a E
       refine st_val E (wn rfl) rfl rfl (x_move E rfl rfl) ?_
       clear a E;intro a E
       refine st_val E (wn rfl) rfl rfl (x_ext E rfl rfl rfl) ?_
       clear a E;intro a E
       refine st_val E (wn rfl) rfl rfl (x_ext E rfl rfl rfl) ?_
       clear a E;intro a E
       refine st_alloc E H (wn rfl) rfl rfl (cs := [.int .i64 0, .int .i64 0, .bool false, .int .i64 0, .slice none 0 0, .slice none 0 0, .slice none 0 0, .slice none 0 0, .slice none 0 0, .slice none 0 0]) rfl (z := .agg #[.int .i64 0, .int .i64 0, .bool false, .int .i64 0, .slice none 0 0, .slice none 0 0, .slice none 0 0, .slice none 0 0, .slice none 0 0, .slice none 0 0]) (by kernel_rfl) rfl ?_
       clear E H; clear a; clear w; intro p147 w a H E
       obtain ⟨q148, x149, rfl⟩ := H.slform (.head _)
       obtain ⟨q150, x151, rfl⟩ := H.slform (.tail _ (.head _))
       obtain ⟨q152, x153, rfl⟩ := H.slform (.tail _ (.tail _ (.head _)))
       obtain ⟨q154, x155, rfl⟩ := H.slform (.tail _ (.tail _ (.tail _ (.head _))))
       obtain ⟨q156, x157, rfl⟩ := H.slform (.tail _ (.tail _ (.tail _ (.tail _ (.head _)))))
       obtain ⟨q158, x159, rfl⟩ := H.slform (.tail _ (.tail _ (.tail _ (.tail _ (.tail _ (.head _))))))
       refine st_st (i := 0) E H (wn rfl) rfl (us := [.int .i64 u139.1.Err, .int .i64 u139.1.At, .bool u139.1.Yes, .int .i64 u139.1.Epoch, (.slice q148 u139.1.Results.length x149), (.slice q150 u139.1.Store.Nodes.length x151), (.slice q152 u139.1.Store.Turns.length x153), (.slice q154 u139.1.Events.length x155), (.slice q156 u139.1.Mounts.length x157), (.slice q158 u139.1.Wounded.length x159)]) rfl rfl rfl rfl rfl sz50 rfl rfl ?_
       clear H; clear w; intro w H
       replace H : Sep w (Blk p147 50 [.int .i64 u139.1.Err, .int .i64 u139.1.At, .bool u139.1.Yes, .int .i64 u139.1.Epoch, (.slice q148 u139.1.Results.length x149), (.slice q150 u139.1.Store.Nodes.length x151), (.slice q152 u139.1.Store.Turns.length x153), (.slice q154 u139.1.Events.length x155), (.slice q156 u139.1.Mounts.length x157), (.slice q158 u139.1.Wounded.length x159)] :: Blk p118 50 [.int .i64 u110.1.Err, .int .i64 u110.1.At, .bool u110.1.Yes, .int .i64 u110.1.Epoch, (.slice q119 u110.1.Results.length x120), (.slice q121 u110.1.Store.Nodes.length x122), (.slice q123 u110.1.Store.Turns.length x124), (.slice q125 u110.1.Events.length x126), (.slice q127 u110.1.Mounts.length x128), (.slice q129 u110.1.Wounded.length x130)] :: Fo) _ := H
       refine st_val E (wn rfl) rfl rfl (x_assign E rfl rfl) ?_
       clear a E;intro a E
       refine wpList_nil ?_
       refine q_then ?_
       refine wp_seq_cut (fun a w => ∃ (b160 : Bool) (rs161 : List Rp), Env 113 a [(1, v8), (9, .bool u32), (82, .bool b160)] ∧ Sep w (Fo) rs161 ∧ (∀ r, r ∈ rs → r ∈ rs161) ∧ rSl (kI .u8) v8 l9 ∈ rs161 ∧ m_cantonlaw17_LetterWhole_j4 l9 u32 b160 = some r) ?_ ?_
       ·refine wp_region_lit ?_
        refine st_val E (wn rfl) rfl rfl (x_move E rfl rfl) ?_
        clear a E;intro a E
        refine st_val E (wn rfl) rfl rfl (x_bin E rfl rfl rfl rfl) ?_
        clear a E;intro a E
        refine st_val E (wn rfl) rfl rfl (x_move E rfl rfl) ?_
        clear a E;intro a E
        rcases Bool.eq_false_or_eq_true (u110.2 != 3) with hb164 | hb164
        ·rw [if_t hb164] at hm
         refine st_no E (wf' E rfl rfl rfl rfl hb164 rfl) rfl rfl ?_
         clear a E;intro a E
         refine st_no E (wf' E rfl rfl rfl rfl hb164 rfl) rfl rfl ?_
         clear a E;intro a E
         refine st_val E (wn rfl) rfl rfl (x_pickT E rfl rfl hb164 rfl) ?_
         clear a E;intro a E
         refine wpList_nil ?_
         refine q_then ?_
         replace H := H.drop 0
         replace H := H.drop 0
         exact ⟨true, _, (((E.nil.keep E 82 rfl).keep E 9 rfl).keep E 1 rfl), H, fun r hr => .tail _ (.tail _ (.tail _ (.tail _ (.tail _ (.tail _ (.tail _ (.tail _ (.tail _ (.tail _ (.tail _ (.tail _ (.tail _ (.tail _ (.tail _ (hs102 r hr))))))))))))))), (.tail _ (.tail _ (.tail _ (.tail _ (.tail _ (.tail _ (.tail _ (.tail _ (.tail _ (.tail _ (.tail _ (.tail _ (.tail _ (.tail _ (.tail _ hr103))))))))))))))), hm⟩
        ·rw [if_f hb164] at hm
         refine st_val E (ws' E rfl rfl rfl rfl hb164) rfl rfl (x_move E rfl rfl) ?_
         clear a E;intro a E
         refine st_val E (ws' E rfl rfl rfl rfl hb164) rfl rfl (x_bin E rfl rfl rfl rfl) ?_
         clear a E;intro a E
         refine st_val E (wn rfl) rfl rfl (x_pickF E rfl rfl hb164 rfl) ?_
         clear a E;intro a E
         refine wpList_nil ?_
         refine q_then ?_
         replace H := H.drop 0
         replace H := H.drop 0
         exact ⟨u139.2 != 3, _, (((E.nil.keep E 82 rfl).keep E 9 rfl).keep E 1 rfl), H, fun r hr => .tail _ (.tail _ (.tail _ (.tail _ (.tail _ (.tail _ (.tail _ (.tail _ (.tail _ (.tail _ (.tail _ (.tail _ (.tail _ (.tail _ (.tail _ (hs102 r hr))))))))))))))), (.tail _ (.tail _ (.tail _ (.tail _ (.tail _ (.tail _ (.tail _ (.tail _ (.tail _ (.tail _ (.tail _ (.tail _ (.tail _ (.tail _ (.tail _ hr103))))))))))))))), hm⟩
       ·clear E H hm
        rintro a w ⟨b160, rs161, E, H, hs162, hr163, hm⟩
        unfold m_cantonlaw17_LetterWhole_j4 at hm
        refine wp_if E rfl ?_ ?_
        ·intro hb
         rw [if_t hb] at hm
         clear hb
         refine wp_seq ?_
         refine wp_region_lit ?_
         refine st_val E (wn rfl) rfl rfl (x_assign E rfl rfl) ?_
         clear a E;intro a E
         refine wpList_nil ?_
         refine q_then ?_
         refine wp_ret ?_
         refine q_thenR ?_
         refine out1 E rfl rfl ?_
         obtain rfl := Option.some.inj hm
         exact ⟨rfl, H.reads (fun r hr => hs162 r hr)⟩
        ·intro hb
         rw [if_f hb] at hm
         clear hb
         refine wp_skip ?_
         refine q_then ?_
         exact ⟨_, ((E.nil.keep E 9 rfl).keep E 1 rfl), H, hs162, hr163, hm⟩
    ·intro hb
     rw [if_f hb] at hm
     clear hb
     refine wp_skip ?_
     refine q_then ?_
     replace H := H.drop 0
     replace H := H.drop 0
     exact ⟨_, ((E.nil.keep E 9 rfl).keep E 1 rfl), H, hs36, hr37, hm⟩
   ·clear E H hm
    rintro a w ⟨rs47, E, H, hs48, hr49, hm⟩
    unfold m_cantonlaw17_LetterWhole_j2 at hm
    refine wp_seq ?_
    refine wp_region_lit ?_
    refine st_val E (wn rfl) rfl rfl (x_move E rfl rfl) ?_
    clear a E;intro a E
    obtain ⟨u50, hx51, hm⟩ := bnd hm
    refine st_call E (wn rfl) rfl rfl (x_call E rfl rfl (cf24 _)) (c_letter_GetAnswer v8 l9 H hr49 hx51) ?_
    clear E H; clear a; clear w; rintro _ w ⟨v52, v53, v54, v55, v56, v57, rfl, H⟩ a E
    refine st_val E (wn rfl) rfl rfl (x_move E rfl rfl) ?_
    clear a E;intro a E
    refine st_val E (wn rfl) rfl rfl (x_ext E rfl rfl rfl) ?_
    clear a E;intro a E
    refine st_val E (wn rfl) rfl rfl (x_ext E rfl rfl rfl) ?_
    clear a E;intro a E
    refine st_alloc E H (wn rfl) rfl rfl (cs := [.int .i64 0, .int .i64 0, .bool false, .int .i64 0, .slice none 0 0, .slice none 0 0, .slice none 0 0, .slice none 0 0, .slice none 0 0, .slice none 0 0]) rfl (z := .agg #[.int .i64 0, .int .i64 0, .bool false, .int .i64 0, .slice none 0 0, .slice none 0 0, .slice none 0 0, .slice none 0 0, .slice none 0 0, .slice none 0 0]) (by kernel_rfl) rfl ?_
    clear E H; clear a; clear w; intro p58 w a H E
    obtain ⟨q59, x60, rfl⟩ := H.slform (.head _)
    obtain ⟨q61, x62, rfl⟩ := H.slform (.tail _ (.head _))
    obtain ⟨q63, x64, rfl⟩ := H.slform (.tail _ (.tail _ (.head _)))
    obtain ⟨q65, x66, rfl⟩ := H.slform (.tail _ (.tail _ (.tail _ (.head _))))
    obtain ⟨q67, x68, rfl⟩ := H.slform (.tail _ (.tail _ (.tail _ (.tail _ (.head _)))))
    obtain ⟨q69, x70, rfl⟩ := H.slform (.tail _ (.tail _ (.tail _ (.tail _ (.tail _ (.head _))))))
    refine st_st (i := 0) E H (wn rfl) rfl (us := [.int .i64 u50.1.Err, .int .i64 u50.1.At, .bool u50.1.Yes, .int .i64 u50.1.Epoch, (.slice q59 u50.1.Results.length x60), (.slice q61 u50.1.Store.Nodes.length x62), (.slice q63 u50.1.Store.Turns.length x64), (.slice q65 u50.1.Events.length x66), (.slice q67 u50.1.Mounts.length x68), (.slice q69 u50.1.Wounded.length x70)]) rfl rfl rfl rfl rfl sz50 rfl rfl ?_
    clear H; clear w; intro w H
    replace H : Sep w (Blk p58 50 [.int .i64 u50.1.Err, .int .i64 u50.1.At, .bool u50.1.Yes, .int .i64 u50.1.Epoch, (.slice q59 u50.1.Results.length x60), (.slice q61 u50.1.Store.Nodes.length x62), (.slice q63 u50.1.Store.Turns.length x64), (.slice q65 u50.1.Events.length x66), (.slice q67 u50.1.Mounts.length x68), (.slice q69 u50.1.Wounded.length x70)] :: Fo) _ := H
    refine st_val E (wn rfl) rfl rfl (x_assign E rfl rfl) ?_
    clear a E;intro a E
    refine wpList_nil ?_
    refine q_then ?_
    refine wp_seq ?_
    refine wp_seq ?_
    refine wp_region_lit ?_
    refine st_val E (wn rfl) rfl rfl (x_move E rfl rfl) ?_
    clear a E;intro a E
    refine st_val E (wn rfl) rfl rfl (x_bin E rfl rfl rfl rfl) ?_
    clear a E;intro a E
    refine wpList_nil ?_
    refine q_then ?_
    refine wp_if E rfl ?_ ?_
    ·intro hb
     rw [if_t hb] at hm
     clear hb
     refine wp_seq ?_
     refine wp_region_lit ?_
     refine st_val E (wn rfl) rfl rfl (x_move E rfl rfl) ?_
     clear a E;intro a E
     refine st_val E (wn rfl) rfl rfl (x_move E rfl rfl) ?_
     clear a E;intro a E
     rcases Bool.eq_false_or_eq_true u32 with hb71 | hb71
     ·rw [if_t hb71] at hm
      refine st_val E (ws' E rfl rfl rfl rfl hb71) rfl rfl (x_ldBN (i := 0) (us := [.int .i64 u50.1.Err, .int .i64 u50.1.At, .bool u50.1.Yes, .int .i64 u50.1.Epoch, (.slice q59 u50.1.Results.length x60), (.slice q61 u50.1.Store.Nodes.length x62), (.slice q63 u50.1.Store.Turns.length x64), (.slice q65 u50.1.Events.length x66), (.slice q67 u50.1.Mounts.length x68), (.slice q69 u50.1.Wounded.length x70)]) E H rfl rfl rfl rfl Try.underlying50 rfl sz50) ?_
      clear a E;intro a E
      refine st_val E (ws' E rfl rfl rfl rfl hb71) rfl rfl (x_build E (ps := []) (vs := []) rfl rfl (v := .agg #[.int .i64 0, .int .i64 0, .bool false, .int .i64 0, .slice none 0 0, .slice none 0 0, .slice none 0 0, .slice none 0 0, .slice none 0 0, .slice none 0 0]) (by kernel_rfl)) ?_
      clear a E;intro a E
      replace H := H.nilSl k_api_Result
      replace H := H.nilSl k_api_Node
      replace H := H.nilSl k_api_Turn
      replace H := H.nilSl k_api_Event
      replace H := H.nilSl k_api_Mount
      replace H := H.nilSl (kI .i64)
      replace H : Sep w (Blk p58 50 [.int .i64 u50.1.Err, .int .i64 u50.1.At, .bool u50.1.Yes, .int .i64 u50.1.Epoch, (.slice q59 u50.1.Results.length x60), (.slice q61 u50.1.Store.Nodes.length x62), (.slice q63 u50.1.Store.Turns.length x64), (.slice q65 u50.1.Events.length x66), (.slice q67 u50.1.Mounts.length x68), (.slice q69 u50.1.Wounded.length x70)] :: Fo) (rSl (kI .i64) (.slice none 0 0) ([] : List Int) :: rSl k_api_Mount (.slice none 0 0) ([] : List S_api_Mount) :: rSl k_api_Event (.slice none 0 0) ([] : List S_api_Event) :: rSl k_api_Turn (.slice none 0 0) ([] : List S_api_Turn) :: rSl k_api_Node (.slice none 0 0) ([] : List S_api_Node) :: rSl k_api_Result (.slice none 0 0) ([] : List S_api_Result) :: rSl k_api_Result (.slice q59 u50.1.Results.length x60) u50.1.Results :: rSl k_api_Node (.slice q61 u50.1.Store.Nodes.length x62) u50.1.Store.Nodes :: rSl k_api_Turn (.slice q63 u50.1.Store.Turns.length x64) u50.1.Store.Turns :: rSl k_api_Event (.slice q65 u50.1.Events.length x66) u50.1.Events :: rSl k_api_Mount (.slice q67 u50.1.Mounts.length x68) u50.1.Mounts :: rSl (kI .i64) (.slice q69 u50.1.Wounded.length x70) u50.1.Wounded :: rs47) := H
      obtain ⟨u72, hx73, hm⟩ := bnd hm
      refine st_call E (ws' E rfl rfl rfl rfl hb71) rfl rfl (x_call E rfl rfl (cf26 _)) (c_cantonref13_Same (⟨u50.1.Err, u50.1.At, u50.1.Yes, u50.1.Epoch, u50.1.Results, (⟨u50.1.Store.Nodes, u50.1.Store.Turns⟩ : S_api_Store), u50.1.Events, u50.1.Mounts, u50.1.Wounded⟩ : S_api_Answer) (.slice q59 u50.1.Results.length x60) (.slice q61 u50.1.Store.Nodes.length x62) (.slice q63 u50.1.Store.Turns.length x64) (.slice q65 u50.1.Events.length x66) (.slice q67 u50.1.Mounts.length x68) (.slice q69 u50.1.Wounded.length x70) (⟨0, 0, false, 0, [], (⟨[], []⟩ : S_api_Store), [], [], []⟩ : S_api_Answer) (.slice none 0 0) (.slice none 0 0) (.slice none 0 0) (.slice none 0 0) (.slice none 0 0) (.slice none 0 0) H (.tail _ (.tail _ (.tail _ (.tail _ (.tail _ (.tail _ (.head _))))))) (.tail _ (.tail _ (.tail _ (.tail _ (.tail _ (.tail _ (.tail _ (.head _)))))))) (.tail _ (.tail _ (.tail _ (.tail _ (.tail _ (.tail _ (.tail _ (.tail _ (.head _))))))))) (.tail _ (.tail _ (.tail _ (.tail _ (.tail _ (.tail _ (.tail _ (.tail _ (.tail _ (.head _)))))))))) (.tail _ (.tail _ (.tail _ (.tail _ (.tail _ (.tail _ (.tail _ (.tail _ (.tail _ (.tail _ (.head _))))))))))) (.tail _ (.tail _ (.tail _ (.tail _ (.tail _ (.tail _ (.tail _ (.tail _ (.tail _ (.tail _ (.tail _ (.head _)))))))))))) (.tail _ (.tail _ (.tail _ (.tail _ (.tail _ (.head _)))))) (.tail _ (.tail _ (.tail _ (.tail _ (.head _))))) (.tail _ (.tail _ (.tail _ (.head _)))) (.tail _ (.tail _ (.head _))) (.tail _ (.head _)) (.head _) hx73) ?_
      clear E H; clear a; clear w; rintro _ w ⟨rfl, H⟩ a E
      refine st_val E (wn rfl) rfl rfl (x_pickT E rfl rfl hb71 rfl) ?_
      clear a E;intro a E
      refine st_val E (wn rfl) rfl rfl (x_assign E rfl rfl) ?_
      clear a E;intro a E
      refine wpList_nil ?_
      refine q_then ?_
      refine wp_ret ?_
      refine q_thenR ?_
      refine out1 E rfl rfl ?_
      replace H := H.drop 0
      obtain rfl := Option.some.inj hm
      exact ⟨rfl, H.reads (fun r hr => .tail _ (.tail _ (.tail _ (.tail _ (.tail _ (.tail _ (.tail _ (.tail _ (.tail _ (.tail _ (.tail _ (.tail _ (hs48 r hr)))))))))))))⟩
     ·rw [if_f hb71] at hm
      refine st_no E (wf' E rfl rfl rfl rfl hb71 rfl) rfl rfl ?_
      clear a E;intro a E
      refine st_no E (wf' E rfl rfl rfl rfl hb71 rfl) rfl rfl ?_
      clear a E;intro a E
      refine st_no E (wf' E rfl rfl rfl rfl hb71 rfl) rfl rfl ?_
      clear a E;intro a E
      refine st_val E (wn rfl) rfl rfl (x_pickF E rfl rfl hb71 rfl) ?_
      clear a E;intro a E
      refine st_val E (wn rfl) rfl rfl (x_assign E rfl rfl) ?_
      clear a E;intro a E
      refine wpList_nil ?_
      refine q_then ?_
      refine wp_ret ?_
      refine q_thenR ?_
      refine out1 E rfl rfl ?_
      replace H := H.drop 0
      obtain rfl := Option.some.inj hm
      exact ⟨rfl, H.reads (fun r hr => .tail _ (.tail _ (.tail _ (.tail _ (.tail _ (.tail _ (hs48 r hr)))))))⟩
    ·intro hb
     rw [if_f hb] at hm
     clear hb
     refine wp_skip ?_
     refine q_then ?_
     refine wp_seq ?_
     refine wp_region_lit ?_
     refine st_val E (wn rfl) rfl rfl (x_ldBN (i := 0) (us := [.int .i64 u50.1.Err, .int .i64 u50.1.At, .bool u50.1.Yes, .int .i64 u50.1.Epoch, (.slice q59 u50.1.Results.length x60), (.slice q61 u50.1.Store.Nodes.length x62), (.slice q63 u50.1.Store.Turns.length x64), (.slice q65 u50.1.Events.length x66), (.slice q67 u50.1.Mounts.length x68), (.slice q69 u50.1.Wounded.length x70)]) E H rfl rfl rfl rfl Try.underlying50 rfl sz50) ?_
     clear a E;intro a E
     obtain ⟨u74, hx75, hm⟩ := bnd hm
     refine st_call E (wn rfl) rfl rfl (x_call E rfl rfl (cf22 _)) (c_letter_PutAnswer (⟨u50.1.Err, u50.1.At, u50.1.Yes, u50.1.Epoch, u50.1.Results, (⟨u50.1.Store.Nodes, u50.1.Store.Turns⟩ : S_api_Store), u50.1.Events, u50.1.Mounts, u50.1.Wounded⟩ : S_api_Answer) (.slice q59 u50.1.Results.length x60) (.slice q61 u50.1.Store.Nodes.length x62) (.slice q63 u50.1.Store.Turns.length x64) (.slice q65 u50.1.Events.length x66) (.slice q67 u50.1.Mounts.length x68) (.slice q69 u50.1.Wounded.length x70) H (.head _) (.tail _ (.head _)) (.tail _ (.tail _ (.head _))) (.tail _ (.tail _ (.tail _ (.head _)))) (.tail _ (.tail _ (.tail _ (.tail _ (.head _))))) (.tail _ (.tail _ (.tail _ (.tail _ (.tail _ (.head _)))))) hx75) ?_
     clear E H; clear a; clear w; rintro _ w ⟨v76, rfl, H⟩ a E
     refine st_val E (wn rfl) rfl rfl (x_move E rfl rfl) ?_
     clear a E;intro a E
     refine st_val E (wn rfl) rfl rfl (x_ext E rfl rfl rfl) ?_
     clear a E;intro a E
     refine st_val E (wn rfl) rfl rfl (x_ext E rfl rfl rfl) ?_
     clear a E;intro a E
     refine st_val E (wn rfl) rfl rfl (x_assign E rfl rfl) ?_
     clear a E;intro a E
     refine st_val E (wn rfl) rfl rfl (x_assign E rfl rfl) ?_
     clear a E;intro a E
     refine wpList_nil ?_
     refine q_then ?_
     refine wp_seq ?_
     refine wp_region_lit ?_
     refine st_val E (wn rfl) rfl rfl (x_move E rfl rfl) ?_
     clear a E;intro a E
     refine st_val E (wn rfl) rfl rfl (x_move E rfl rfl) ?_
     clear a E;intro a E
     rcases Bool.eq_false_or_eq_true u32 with hb77 | hb77
     ·rw [if_t hb77] at hm
      refine st_val E (ws' E rfl rfl rfl rfl hb77) rfl rfl (x_move E rfl rfl) ?_
      clear a E;intro a E
      refine st_val E (ws' E rfl rfl rfl rfl hb77) rfl rfl (x_bin E rfl rfl rfl rfl) ?_
      clear a E;intro a E
      refine st_val E (wn rfl) rfl rfl (x_pickT E rfl rfl hb77 rfl) ?_
      clear a E;intro a E
      refine st_val E (wn rfl) rfl rfl (x_move E rfl rfl) ?_
      clear a E;intro a E
      rcases Bool.eq_false_or_eq_true (u74.2 == 0) with hb78 | hb78
      ·rw [if_t hb78] at hm
       refine st_val E (ws' E rfl rfl rfl rfl hb78) rfl rfl (x_move E rfl rfl) ?_
       clear a E;intro a E
       replace H := H.thaw (i := 0) rfl
       refine st_val E (ws' E rfl rfl rfl rfl hb78) rfl rfl (x_b2s E H rfl rfl (.head _) Try.underlying27 Try.underlying5 Try.underlying9) ?_
       clear a E;intro a E
       refine st_val E (ws' E rfl rfl rfl rfl hb78) rfl rfl (x_move E rfl rfl) ?_
       clear a E;intro a E
       refine st_val E (ws' E rfl rfl rfl rfl hb78) rfl rfl (x_b2s E H rfl rfl (.tail _ (.tail _ (.tail _ (.tail _ (.tail _ (.tail _ (.tail _ hr49))))))) Try.underlying27 Try.underlying5 Try.underlying9) ?_
       clear a E;intro a E
       refine st_val E (ws' E rfl rfl rfl rfl hb78) rfl rfl (x_str E rfl rfl rfl rfl) ?_
       clear a E;intro a E
       refine st_val E (wn rfl) rfl rfl (x_pickT E rfl rfl hb78 rfl) ?_
       clear a E;intro a E
       refine st_val E (wn rfl) rfl rfl (x_assign E rfl rfl) ?_
       clear a E;intro a E
       refine wpList_nil ?_
       refine q_then ?_
       refine wp_ret ?_
       refine out1 E rfl rfl ?_
       replace H := H.drop 0
       obtain rfl := Option.some.inj hm
       exact ⟨rfl, H.reads (fun r hr => .tail _ (.tail _ (.tail _ (.tail _ (.tail _ (.tail _ (.tail _ (hs48 r hr))))))))⟩
      ·rw [if_f hb78] at hm
       refine st_no E (wf' E rfl rfl rfl rfl hb78 rfl) rfl rfl ?_
       clear a E;intro a E
       refine st_no E (wf' E rfl rfl rfl rfl hb78 rfl) rfl rfl ?_
       clear a E;intro a E
       refine st_no E (wf' E rfl rfl rfl rfl hb78 rfl) rfl rfl ?_
       clear a E;intro a E
       refine st_no E (wf' E rfl rfl rfl rfl hb78 rfl) rfl rfl ?_
       clear a E;intro a E
       refine st_no E (wf' E rfl rfl rfl rfl hb78 rfl) rfl rfl ?_
       clear a E;intro a E
       refine st_val E (wn rfl) rfl rfl (x_pickF E rfl rfl hb78 rfl) ?_
       clear a E;intro a E
       refine st_val E (wn rfl) rfl rfl (x_assign E rfl rfl) ?_
       clear a E;intro a E
       refine wpList_nil ?_
       refine q_then ?_
       refine wp_ret ?_
       refine out1 E rfl rfl ?_
       replace H := H.drop 0
       replace H := H.drop 0
       obtain rfl := Option.some.inj hm
       exact ⟨rfl, H.reads (fun r hr => .tail _ (.tail _ (.tail _ (.tail _ (.tail _ (.tail _ (hs48 r hr)))))))⟩
     ·rw [if_f hb77] at hm
      refine st_no E (wf' E rfl rfl rfl rfl hb77 rfl) rfl rfl ?_
      clear a E;intro a E
      refine st_no E (wf' E rfl rfl rfl rfl hb77 rfl) rfl rfl ?_
      clear a E;intro a E
      refine st_val E (wn rfl) rfl rfl (x_pickF E rfl rfl hb77 rfl) ?_
      clear a E;intro a E
      refine st_val E (wn rfl) rfl rfl (x_move E rfl rfl) ?_
      clear a E;intro a E
      refine st_no E (wf E rfl rfl rfl rfl rfl) rfl rfl ?_
      clear a E;intro a E
      refine st_no E (wf E rfl rfl rfl rfl rfl) rfl rfl ?_
      clear a E;intro a E
      refine st_no E (wf E rfl rfl rfl rfl rfl) rfl rfl ?_
      clear a E;intro a E
      refine st_no E (wf E rfl rfl rfl rfl rfl) rfl rfl ?_
      clear a E;intro a E
      refine st_no E (wf E rfl rfl rfl rfl rfl) rfl rfl ?_
      clear a E;intro a E
      refine st_val E (wn rfl) rfl rfl (x_pickF E rfl rfl rfl rfl) ?_
      clear a E;intro a E
      refine st_val E (wn rfl) rfl rfl (x_assign E rfl rfl) ?_
      clear a E;intro a E
      refine wpList_nil ?_
      refine q_then ?_
      refine wp_ret ?_
      refine out1 E rfl rfl ?_
      replace H := H.drop 0
      replace H := H.drop 0
      obtain rfl := Option.some.inj hm
      exact ⟨rfl, H.reads (fun r hr => .tail _ (.tail _ (.tail _ (.tail _ (.tail _ (.tail _ (hs48 r hr)))))))⟩
end Go.Cb
