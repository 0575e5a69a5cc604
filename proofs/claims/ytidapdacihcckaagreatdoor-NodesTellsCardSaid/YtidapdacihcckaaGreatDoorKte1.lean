/- Functions of the program, walked: each comes to its plain function. -/
import Derived.Test.YtidapdacihcckaaGreatDoorTte
import Derived.Test.YtidapdacihcckaaGreatDoorN4te
set_option linter.unusedVariables false
set_option linter.unusedSimpArgs false
namespace Go.Cb
open Go.Proofs Go.RowKit
def m_internal_stringslite_IndexByte (s1 : ByteArray) (x2 : Int) : Option Int :=
  some (ixB s1 x2)
set_option maxRecDepth 20000 in
set_option maxHeartbeats 1000000 in
theorem c_internal_stringslite_IndexByte {w : World} {Fo : List Ob} {rs : List Rp} (s1 : ByteArray) (x2 : Int) (H : Sep w (Fo) rs) {r : Int} (hm : m_internal_stringslite_IndexByte s1 x2 = some r) :
    Calls Tryz.prog 81 [.string s1, .int .u8 x2].toArray w (Ret fun v w' => .int .i64 r = v ∧ Sep w' (Fo) (rs)) := by
 unfold m_internal_stringslite_IndexByte at hm
 refine enter Tryz.func81 rfl Tryz.ntmps81 rfl fun a E => ?_
 simp only [enum, Nat.reduceAdd] at E
 refine wp_seq ?_
 refine wp_region_lit ?_
 refine sv E rfl rfl rfl (x_assign E rfl rfl) ?_
 clear a E;intro a E
 refine wpList_nil ?_
 refine q_then ?_
 refine wp_seq ?_
 refine wp_region_lit ?_
 refine sv E rfl rfl rfl (x_move E rfl rfl) ?_
 clear a E;intro a E
 refine sv E rfl rfl rfl (x_move E rfl rfl) ?_
 clear a E;intro a E
 refine sv E rfl rfl rfl (x_callX E rfl rfl (ext89 _ _ _)) ?_
 clear a E;intro a E
 refine sv E rfl rfl rfl (x_assign E rfl rfl) ?_
 clear a E;intro a E
 refine wpList_nil ?_
 refine q_then ?_
 refine wp_ret ?_
 refine out1 E rfl rfl ?_
 obtain rfl := Option.some.inj hm
 exact ⟨rfl, H.reads (fun r hr => hr)⟩
end Go.Cb

set_option linter.unusedVariables false
set_option linter.unusedSimpArgs false
namespace Go.Cb
open Go.Proofs Go.RowKit
def m_strings_IndexByte (s1 : ByteArray) (x2 : Int) : Option Int :=
  (m_internal_stringslite_IndexByte s1 x2).bind fun u3 => some (u3)
set_option maxRecDepth 20000 in
set_option maxHeartbeats 1000000 in
theorem c_strings_IndexByte {w : World} {Fo : List Ob} {rs : List Rp} (s1 : ByteArray) (x2 : Int) (H : Sep w (Fo) rs) {r : Int} (hm : m_strings_IndexByte s1 x2 = some r) :
    Calls Tryz.prog 71 [.string s1, .int .u8 x2].toArray w (Ret fun v w' => .int .i64 r = v ∧ Sep w' (Fo) (rs)) := by
 unfold m_strings_IndexByte at hm
 refine enter Tryz.func71 rfl Tryz.ntmps71 rfl fun a E => ?_
 simp only [enum, Nat.reduceAdd] at E
 refine wp_seq ?_
 refine wp_region_lit ?_
 refine sv E rfl rfl rfl (x_assign E rfl rfl) ?_
 clear a E;intro a E
 refine wpList_nil ?_
 refine q_then ?_
 refine wp_seq ?_
 refine wp_region_lit ?_
 refine sv E rfl rfl rfl (x_move E rfl rfl) ?_
 clear a E;intro a E
 refine sv E rfl rfl rfl (x_move E rfl rfl) ?_
 clear a E;intro a E
 obtain ⟨u3, hx4, hm⟩ := bnd hm
 refine st_call E (wn rfl) rfl rfl (x_call E rfl rfl (cf81 _)) (c_internal_stringslite_IndexByte s1 x2 H hx4) ?_
 clear E H; clear a; clear w; rintro _ w ⟨rfl, H⟩ a E
 refine sv E rfl rfl rfl (x_assign E rfl rfl) ?_
 clear a E;intro a E
 refine wpList_nil ?_
 refine q_then ?_
 refine wp_ret ?_
 refine out1 E rfl rfl ?_
 obtain rfl := Option.some.inj hm
 exact ⟨rfl, H.reads (fun r hr => hr)⟩
end Go.Cb

set_option linter.unusedVariables false
set_option linter.unusedSimpArgs false
namespace Go.Cb
open Go.Proofs Go.RowKit
def m_unicode_utf8_ValidRune_j2 (b5 : Bool) : Option Bool :=
  if b5 = true then (some (true)) else (some (false))
def m_unicode_utf8_ValidRune_j1 (x1 : Int) (b2 : Bool) : Option Bool :=
  if b2 = true then (some (true)) else (if (decide (57343 < x1)) = true then (m_unicode_utf8_ValidRune_j2 (decide (x1 ≤ 1114111))) else (m_unicode_utf8_ValidRune_j2 false))
def m_unicode_utf8_ValidRune (x1 : Int) : Option Bool :=
  if (decide (0 ≤ x1)) = true then (m_unicode_utf8_ValidRune_j1 x1 (decide (x1 < 55296))) else (m_unicode_utf8_ValidRune_j1 x1 false)
set_option maxRecDepth 20000 in
set_option maxHeartbeats 1000000 in
theorem c_unicode_utf8_ValidRune {w : World} {Fo : List Ob} {rs : List Rp} (x1 : Int) (H : Sep w (Fo) rs) {r : Bool} (hm : m_unicode_utf8_ValidRune x1 = some r) :
    Calls Tryz.prog 95 [.int .i32 x1].toArray w (Ret fun v w' => .bool r = v ∧ Sep w' (Fo) (rs)) := by
 unfold m_unicode_utf8_ValidRune at hm
 refine enter Tryz.func95 rfl Tryz.ntmps95 rfl fun a E => ?_
 simp only [enum, Nat.reduceAdd] at E
 refine wp_seq ?_
 refine wp_region_lit ?_
 refine sv E rfl rfl rfl (x_assign E rfl rfl) ?_
 clear a E;intro a E
 refine wpList_nil ?_
 refine q_then ?_
 refine wp_seq ?_
 refine wp_block ?_
 refine wp_seq_cut (fun a w => ∃ (b2 : Bool) (rs3 : List Rp), Env 17 a [(0, .int .i32 x1), (3, .bool b2)] ∧ Sep w (Fo) rs3 ∧ (∀ r, r ∈ rs → r ∈ rs3) ∧ m_unicode_utf8_ValidRune_j1 x1 b2 = some r) ?_ ?_
 ·refine wp_region_lit ?_
  refine sv E rfl rfl rfl (x_move E rfl rfl) ?_
  clear a E;intro a E
  refine sv E rfl rfl rfl (x_bin E rfl rfl rfl rfl) ?_
  clear a E;intro a E
  refine sv E rfl rfl rfl (x_move E rfl rfl) ?_
  clear a E;intro a E
  rcases Bool.eq_false_or_eq_true (decide (0 ≤ x1)) with hb9 | hb9
  ·rw [if_t hb9] at hm
   refine st_val E (ws' E rfl rfl rfl rfl hb9) rfl rfl (x_move E rfl rfl) ?_
   clear a E;intro a E
   refine st_val E (ws' E rfl rfl rfl rfl hb9) rfl rfl (x_bin E rfl rfl rfl rfl) ?_
   clear a E;intro a E
   refine sv E rfl rfl rfl (x_pickT E rfl rfl hb9 rfl) ?_
   clear a E;intro a E
   refine sv E rfl rfl rfl (x_assign E rfl rfl) ?_
   clear a E;intro a E
   refine wpList_nil ?_
   refine q_then ?_
   exact ⟨decide (x1 < 55296), _, ((E.nil.keep E 3 rfl).keep E 0 rfl), H, fun r hr => hr, hm⟩
  ·rw [if_f hb9] at hm
   refine st_no E (wf' E rfl rfl rfl rfl hb9 rfl) rfl rfl ?_
   clear a E;intro a E
   refine st_no E (wf' E rfl rfl rfl rfl hb9 rfl) rfl rfl ?_
   clear a E;intro a E
   refine sv E rfl rfl rfl (x_pickF E rfl rfl hb9 rfl) ?_
   clear a E;intro a E
   refine sv E rfl rfl rfl (x_assign E rfl rfl) ?_
   clear a E;intro a E
   refine wpList_nil ?_
   refine q_then ?_
   exact ⟨false, _, ((E.nil.keep E 3 rfl).keep E 0 rfl), H, fun r hr => hr, hm⟩
 ·clear E H hm
  rintro a w ⟨b2, rs3, E, H, hs4, hm⟩
  unfold m_unicode_utf8_ValidRune_j1 at hm
  refine wp_if E rfl ?_ ?_
  ·intro hb
   rw [if_t hb] at hm
   clear hb
   refine wp_seq ?_
   refine wp_region_lit ?_
   refine sv E rfl rfl rfl (x_assign E rfl rfl) ?_
   clear a E;intro a E
   refine wpList_nil ?_
   refine q_then ?_
   refine wp_ret ?_
   refine q_blkR ?_
   refine q_thenR ?_
   refine out1 E rfl rfl ?_
   obtain rfl := Option.some.inj hm
   exact ⟨rfl, H.reads (fun r hr => hs4 r hr)⟩
  ·intro hb
   rw [if_f hb] at hm
   clear hb
   refine wp_seq_cut (fun a w => ∃ (b5 : Bool) (rs6 : List Rp), Env 17 a [(10, .bool b5)] ∧ Sep w (Fo) rs6 ∧ (∀ r, r ∈ rs → r ∈ rs6) ∧ m_unicode_utf8_ValidRune_j2 b5 = some r) ?_ ?_
   ·refine wp_region_lit ?_
    refine sv E rfl rfl rfl (x_move E rfl rfl) ?_
    clear a E;intro a E
    refine sv E rfl rfl rfl (x_bin E rfl rfl rfl rfl) ?_
    clear a E;intro a E
    refine sv E rfl rfl rfl (x_move E rfl rfl) ?_
    clear a E;intro a E
    rcases Bool.eq_false_or_eq_true (decide (57343 < x1)) with hb8 | hb8
    ·rw [if_t hb8] at hm
     refine st_val E (ws' E rfl rfl rfl rfl hb8) rfl rfl (x_move E rfl rfl) ?_
     clear a E;intro a E
     refine st_val E (ws' E rfl rfl rfl rfl hb8) rfl rfl (x_bin E rfl rfl rfl rfl) ?_
     clear a E;intro a E
     refine sv E rfl rfl rfl (x_pickT E rfl rfl hb8 rfl) ?_
     clear a E;intro a E
     refine sv E rfl rfl rfl (x_assign E rfl rfl) ?_
     clear a E;intro a E
     refine wpList_nil ?_
     refine q_then ?_
     exact ⟨decide (x1 ≤ 1114111), _, (E.nil.keep E 10 rfl), H, hs4, hm⟩
    ·rw [if_f hb8] at hm
     refine st_no E (wf' E rfl rfl rfl rfl hb8 rfl) rfl rfl ?_
     clear a E;intro a E
     refine st_no E (wf' E rfl rfl rfl rfl hb8 rfl) rfl rfl ?_
     clear a E;intro a E
     refine sv E rfl rfl rfl (x_pickF E rfl rfl hb8 rfl) ?_
     clear a E;intro a E
     refine sv E rfl rfl rfl (x_assign E rfl rfl) ?_
     clear a E;intro a E
     refine wpList_nil ?_
     refine q_then ?_
     exact ⟨false, _, (E.nil.keep E 10 rfl), H, hs4, hm⟩
   ·clear E H hm
    rintro a w ⟨b5, rs6, E, H, hs7, hm⟩
    unfold m_unicode_utf8_ValidRune_j2 at hm
    refine wp_if E rfl ?_ ?_
    ·intro hb
     rw [if_t hb] at hm
     clear hb
     refine wp_seq ?_
     refine wp_region_lit ?_
     refine sv E rfl rfl rfl (x_assign E rfl rfl) ?_
     clear a E;intro a E
     refine wpList_nil ?_
     refine q_then ?_
     refine wp_ret ?_
     refine q_blkR ?_
     refine q_thenR ?_
     refine out1 E rfl rfl ?_
     obtain rfl := Option.some.inj hm
     exact ⟨rfl, H.reads (fun r hr => hs7 r hr)⟩
    ·intro hb
     rw [if_f hb] at hm
     clear hb
     refine wp_skip ?_
     refine q_blk ?_
     refine q_then ?_
     refine wp_seq ?_
     refine wp_region_lit ?_
     refine sv E rfl rfl rfl (x_assign E rfl rfl) ?_
     clear a E;intro a E
     refine wpList_nil ?_
     refine q_then ?_
     refine wp_ret ?_
     refine out1 E rfl rfl ?_
     obtain rfl := Option.some.inj hm
     exact ⟨rfl, H.reads (fun r hr => hs7 r hr)⟩
end Go.Cb

set_option linter.unusedVariables false
set_option linter.unusedSimpArgs false
namespace Go.Cb
open Go.Proofs Go.RowKit
def m_strings_IndexRune_l1 (s1 : ByteArray) : Nat → (Nat) → Option Int
  | 0, _ => none
  | k1 + 1, x9 =>
    if decide (x9 < s1.size) = true then (if (((Utf8.decode s1 x9).1 : Int) == 65533) = true then (some ((x9 : Int))) else (m_strings_IndexRune_l1 s1 k1 (x9 + (Utf8.decode s1 x9).2))) else (some ((-1)))
def m_strings_IndexRune_l2 (x2 : Int) (s1 : ByteArray) : Nat → Option Int
  | 0 => none
  | k2 + 1 =>
    if (decide ((IntKind.i64.wrap (((Utf8.encode x2).size : Int) - 1)) < (s1.size : Int))) = true then ((idx s1.data.toList (IntKind.i64.wrap (((Utf8.encode x2).size : Int) - 1))).bind fun x17 => (idx (Utf8.encode x2).data.toList (IntKind.i64.wrap (((Utf8.encode x2).size : Int) - 1))).bind fun x19 => if ((x17.toNat : Int) != (x19.toNat : Int)) = true then ((ck (0 ≤ (IntKind.i64.wrap ((IntKind.i64.wrap (((Utf8.encode x2).size : Int) - 1)) + 1)) ∧ (IntKind.i64.wrap ((IntKind.i64.wrap (((Utf8.encode x2).size : Int) - 1)) + 1)) ≤ s1.size)).bind fun u21 => (idx (Utf8.encode x2).data.toList (IntKind.i64.wrap (((Utf8.encode x2).size : Int) - 1))).bind fun x23 => (m_strings_IndexByte (s1.extract (IntKind.i64.wrap ((IntKind.i64.wrap (((Utf8.encode x2).size : Int) - 1)) + 1)).toNat s1.size) (x23.toNat : Int)).bind fun u25 => if (decide (u25 < 0)) = true then (some ((-1))) else none) else none) else (some ((-1)))
def m_strings_IndexRune_j1 (s1 : ByteArray) (x2 : Int) (b3 : Bool) : Option Int :=
  if b3 = true then ((m_strings_IndexByte s1 (IntKind.u8.wrap x2)).bind fun u6 => some (u6)) else (if (x2 == 65533) = true then (m_strings_IndexRune_l1 s1 (s1.size + 2) 0) else ((m_unicode_utf8_ValidRune x2).bind fun u13 => if (!u13) = true then (some ((-1))) else (m_strings_IndexRune_l2 x2 s1 (((s1.size : Int) - (IntKind.i64.wrap (((Utf8.encode x2).size : Int) - 1)) : Int).toNat + 1))))
def m_strings_IndexRune (s1 : ByteArray) (x2 : Int) : Option Int :=
  if (decide (0 ≤ x2)) = true then (m_strings_IndexRune_j1 s1 x2 (decide (x2 < 128))) else (m_strings_IndexRune_j1 s1 x2 false)
set_option maxRecDepth 20000 in
set_option maxHeartbeats 1000000 in
theorem c_strings_IndexRune {w : World} {Fo : List Ob} {rs : List Rp} (s1 : ByteArray) (x2 : Int) (H : Sep w (Fo) rs) {r : Int} (hm : m_strings_IndexRune s1 x2 = some r) :
    Calls Tryz.prog 84 [.string s1, .int .i32 x2].toArray w (Ret fun v w' => .int .i64 r = v ∧ Sep w' (Fo) (rs)) := by
 unfold m_strings_IndexRune at hm
 refine enter Tryz.func84 rfl Tryz.ntmps84 rfl fun a E => ?_
 simp only [enum, Nat.reduceAdd] at E
 refine wp_seq ?_
 refine wp_region_lit ?_
 refine sv E rfl rfl rfl (x_assign E rfl rfl) ?_
 clear a E;intro a E
 refine wpList_nil ?_
 refine q_then ?_
 refine wp_block ?_
 refine wp_seq_cut (fun a w => ∃ (b3 : Bool) (rs4 : List Rp), Env 187 a [(0, .string s1), (1, .int .i32 x2), (160, .bool b3)] ∧ Sep w (Fo) rs4 ∧ (∀ r, r ∈ rs → r ∈ rs4) ∧ m_strings_IndexRune_j1 s1 x2 b3 = some r) ?_ ?_
 ·refine wp_region_lit ?_
  refine sv E rfl rfl rfl (x_move E rfl rfl) ?_
  clear a E;intro a E
  refine sv E rfl rfl rfl (x_bin E rfl rfl rfl rfl) ?_
  clear a E;intro a E
  refine sv E rfl rfl rfl (x_move E rfl rfl) ?_
  clear a E;intro a E
  rcases Bool.eq_false_or_eq_true (decide (0 ≤ x2)) with hb27 | hb27
  ·rw [if_t hb27] at hm
   refine st_val E (ws' E rfl rfl rfl rfl hb27) rfl rfl (x_move E rfl rfl) ?_
   clear a E;intro a E
   refine st_val E (ws' E rfl rfl rfl rfl hb27) rfl rfl (x_bin E rfl rfl rfl rfl) ?_
   clear a E;intro a E
   refine sv E rfl rfl rfl (x_pickT E rfl rfl hb27 rfl) ?_
   clear a E;intro a E
   refine sv E rfl rfl rfl (x_assign E rfl rfl) ?_
   clear a E;intro a E
   refine wpList_nil ?_
   refine q_then ?_
   exact ⟨decide (x2 < 128), _, (((E.nil.keep E 160 rfl).keep E 1 rfl).keep E 0 rfl), H, fun r hr => hr, hm⟩
  ·rw [if_f hb27] at hm
   refine st_no E (wf' E rfl rfl rfl rfl hb27 rfl) rfl rfl ?_
   clear a E;intro a E
   refine st_no E (wf' E rfl rfl rfl rfl hb27 rfl) rfl rfl ?_
   clear a E;intro a E
   refine sv E rfl rfl rfl (x_pickF E rfl rfl hb27 rfl) ?_
   clear a E;intro a E
   refine sv E rfl rfl rfl (x_assign E rfl rfl) ?_
   clear a E;intro a E
   refine wpList_nil ?_
   refine q_then ?_
   exact ⟨false, _, (((E.nil.keep E 160 rfl).keep E 1 rfl).keep E 0 rfl), H, fun r hr => hr, hm⟩
 ·clear E H hm
  rintro a w ⟨b3, rs4, E, H, hs5, hm⟩
  unfold m_strings_IndexRune_j1 at hm
  refine wp_if E rfl ?_ ?_
  ·intro hb
   rw [if_t hb] at hm
   clear hb
   refine wp_seq ?_
   refine wp_region_lit ?_
   refine sv E rfl rfl rfl (x_move E rfl rfl) ?_
   clear a E;intro a E
   refine sv E rfl rfl rfl (x_move E rfl rfl) ?_
   clear a E;intro a E
   refine sv E rfl rfl rfl (x_conv E rfl rfl (v := .int .u8 (IntKind.u8.wrap x2)) (by kernel_rfl)) ?_
   clear a E;intro a E
   obtain ⟨u6, hx7, hm⟩ := bnd hm
   refine st_call E (wn rfl) rfl rfl (x_call E rfl rfl (cf71 _)) (c_strings_IndexByte s1 (IntKind.u8.wrap x2) H hx7) ?_
   clear E H; clear a; clear w; rintro _ w ⟨rfl, H⟩ a E
   refine sv E rfl rfl rfl (x_assign E rfl rfl) ?_
   clear a E;intro a E
   refine wpList_nil ?_
   refine q_then ?_
   refine wp_ret ?_
   refine q_blkR ?_
   refine out1 E rfl rfl ?_
   obtain rfl := Option.some.inj hm
   exact ⟨rfl, H.reads (fun r hr => hs5 r hr)⟩
  ·intro hb
   rw [if_f hb] at hm
   clear hb
   refine wp_seq ?_
   refine wp_region_lit ?_
   refine sv E rfl rfl rfl (x_move E rfl rfl) ?_
   clear a E;intro a E
   refine sv E rfl rfl rfl (x_bin E rfl rfl rfl rfl) ?_
   clear a E;intro a E
   refine sv E rfl rfl rfl (x_assign E rfl rfl) ?_
   clear a E;intro a E
   refine wpList_nil ?_
   refine q_then ?_
   refine wp_if E rfl ?_ ?_
   ·intro hb
    rw [if_t hb] at hm
    clear hb
    refine wp_seq ?_
    refine wp_seq ?_
    refine wp_region_lit ?_
    refine sv E rfl rfl rfl (x_move E rfl rfl) ?_
    clear a E;intro a E
    refine st_rangeS E H (wn rfl) rfl rfl rfl rfl Tryz.underlying9 ?_
    clear E H; clear a; clear w; intro p8 w a H E
    refine wpList_nil ?_
    refine q_then ?_
    refine wp_block ?_
    refine wp_loop_g (fun k1 a w => ∃ (x9 : (Nat)) (rs10 : List Rp), Env 187 a [(175, .pointer (some ⟨p8, 0, none⟩))] ∧ Sep w (ObjO p8 (.stringIter s1 x9) :: Fo) rs10 ∧ (∀ r, r ∈ rs → r ∈ rs10) ∧ m_strings_IndexRune_l1 s1 k1 x9 = some r) (s1.size + 2) ?_ ?_
    ·exact ⟨0, _, (E.nil.keep E 175 rfl), H, hs5, hm⟩
    ·clear E H hm
     rintro k1 a w ⟨x9, rs10, E, H, hs11, hm⟩
     cases k1 with
     | zero => exact (none_some hm rfl).elim
     | succ k1 =>
      unfold m_strings_IndexRune_l1 at hm
      refine wp_seq ?_
      refine wp_region_lit ?_
      rcases Bool.eq_false_or_eq_true (decide (x9 < s1.size)) with hb12 | hb12
      ·rw [if_t hb12] at hm
       refine st_nextS1 (i := 0) E H (wn rfl) rfl rfl rfl rfl rfl hb12 ?_
       clear E H; clear a; clear w; intro w a H E
       replace H : Sep w (ObjO p8 (.stringIter s1 (x9 + (Utf8.decode s1 x9).2)) :: Fo) _ := H
       refine sv E rfl rfl rfl (x_ext E rfl rfl rfl) ?_
       clear a E;intro a E
       refine wpList_nil ?_
       refine q_then ?_
       refine wp_seq ?_
       refine wp_cond_true (E.eval rfl) ?_
       refine wp_skip ?_
       refine q_then ?_
       refine wp_block ?_
       refine wp_seq ?_
       refine wp_region_lit ?_
       refine sv E rfl rfl rfl (x_ext E rfl rfl rfl) ?_
       clear a E;intro a E
       refine sv E rfl rfl rfl (x_ext E rfl rfl rfl) ?_
       clear a E;intro a E
       refine sv E rfl rfl rfl (x_assign E rfl rfl) ?_
       clear a E;intro a E
       refine sv E rfl rfl rfl (x_assign E rfl rfl) ?_
       clear a E;intro a E
       refine wpList_nil ?_
       refine q_then ?_
       refine wp_seq ?_
       refine wp_region_lit ?_
       refine sv E rfl rfl rfl (x_move E rfl rfl) ?_
       clear a E;intro a E
       refine sv E rfl rfl rfl (x_bin E rfl rfl rfl rfl) ?_
       clear a E;intro a E
       refine wpList_nil ?_
       refine q_then ?_
       refine wp_if E rfl ?_ ?_
       ·intro hb
        rw [if_t hb] at hm
        clear hb
        refine wp_seq ?_
        refine wp_region_lit ?_
        refine sv E rfl rfl rfl (x_move E rfl rfl) ?_
        clear a E;intro a E
        refine sv E rfl rfl rfl (x_assign E rfl rfl) ?_
        clear a E;intro a E
        refine wpList_nil ?_
        refine q_then ?_
        refine wp_ret ?_
        refine q_blkR ?_
        refine q_thenR ?_
        refine q_blkR ?_
        refine q_thenR ?_
        refine q_blkR ?_
        refine out1 E rfl rfl ?_
        replace H := H.drop 0
        obtain rfl := Option.some.inj hm
        exact ⟨rfl, H.reads (fun r hr => hs11 r hr)⟩
       ·intro hb
        rw [if_f hb] at hm
        clear hb
        refine wp_skip ?_
        refine q_blk ?_
        refine q_then ?_
        exact ⟨k1, Nat.lt_succ_self k1, x9 + (Utf8.decode s1 x9).2, _, (E.nil.keep E 175 rfl), H, hs11, hm⟩
      ·rw [if_f hb12] at hm
       refine st_nextS0 (i := 0) E H (wn rfl) rfl rfl rfl rfl rfl hb12 ?_
       clear a E;intro a E
       refine sv E rfl rfl rfl (x_ext E rfl rfl rfl) ?_
       clear a E;intro a E
       refine wpList_nil ?_
       refine q_then ?_
       refine wp_seq ?_
       refine wp_cond_false (E.eval rfl) ?_
       refine wp_exit ?_
       refine q_thenX ?_
       refine q_thenX ?_
       refine q_hit ?_
       refine q_then ?_
       refine wp_seq ?_
       refine wp_region_lit ?_
       refine sv E rfl rfl rfl (x_assign E rfl rfl) ?_
       clear a E;intro a E
       refine wpList_nil ?_
       refine q_then ?_
       refine wp_ret ?_
       refine q_blkR ?_
       refine out1 E rfl rfl ?_
       replace H := H.drop 0
       obtain rfl := Option.some.inj hm
       exact ⟨rfl, H.reads (fun r hr => hs11 r hr)⟩
   ·intro hb
    rw [if_f hb] at hm
    clear hb
    refine wp_seq ?_
    refine wp_region_lit ?_
    refine sv E rfl rfl rfl (x_move E rfl rfl) ?_
    clear a E;intro a E
    obtain ⟨u13, hx14, hm⟩ := bnd hm
    refine st_call E (wn rfl) rfl rfl (x_call E rfl rfl (cf95 _)) (c_unicode_utf8_ValidRune x2 H hx14) ?_
    clear E H; clear a; clear w; rintro _ w ⟨rfl, H⟩ a E
    refine sv E rfl rfl rfl (x_not E rfl rfl) ?_
    clear a E;intro a E
    refine sv E rfl rfl rfl (x_assign E rfl rfl) ?_
    clear a E;intro a E
    refine wpList_nil ?_
    refine q_then ?_
    refine wp_if E rfl ?_ ?_
    ·intro hb
     rw [if_t hb] at hm
     clear hb
     refine wp_seq ?_
     refine wp_region_lit ?_
     refine sv E rfl rfl rfl (x_assign E rfl rfl) ?_
     clear a E;intro a E
     refine wpList_nil ?_
     refine q_then ?_
     refine wp_ret ?_
     refine q_blkR ?_
     refine out1 E rfl rfl ?_
     obtain rfl := Option.some.inj hm
     exact ⟨rfl, H.reads (fun r hr => hs5 r hr)⟩
    ·intro hb
     rw [if_f hb] at hm
     clear hb
     refine wp_scope_straight ?_
     refine wp_seq ?_
     refine wp_region_lit ?_
     refine sv E rfl rfl rfl (x_move E rfl rfl) ?_
     clear a E;intro a E
     refine sv E rfl rfl rfl (x_conv E rfl rfl (v := .string (Utf8.encode x2)) (by kernel_rfl)) ?_
     clear a E;intro a E
     refine sv E rfl rfl rfl (x_assign E rfl rfl) ?_
     clear a E;intro a E
     refine wpList_nil ?_
     refine q_then ?_
     refine wp_seq ?_
     refine wp_region_lit ?_
     refine sv E rfl rfl rfl (x_move E rfl rfl) ?_
     clear a E;intro a E
     refine sv E rfl rfl rfl (x_lenStr E rfl rfl Tryz.underlying9) ?_
     clear a E;intro a E
     refine sv E rfl rfl rfl (x_bin E rfl rfl rfl rfl) ?_
     clear a E;intro a E
     refine sv E rfl rfl rfl (x_assign E rfl rfl) ?_
     clear a E;intro a E
     refine wpList_nil ?_
     refine q_then ?_
     refine wp_seq ?_
     refine wp_region_lit ?_
     refine sv E rfl rfl rfl (x_move E rfl rfl) ?_
     clear a E;intro a E
     refine sv E rfl rfl rfl (x_assign E rfl rfl) ?_
     clear a E;intro a E
     refine wpList_nil ?_
     refine q_then ?_
     refine wp_seq ?_
     refine wp_region_lit ?_
     refine sv E rfl rfl rfl (x_assign E rfl rfl) ?_
     clear a E;intro a E
     refine wpList_nil ?_
     refine q_then ?_
     refine wp_seq ?_
     refine wp_block ?_
     refine wp_loop_g (fun k2 a w => ∃ (rs15 : List Rp), Env 187 a [(0, .string s1), (7, .string (Utf8.encode x2)), (8, .int .i64 (IntKind.i64.wrap (((Utf8.encode x2).size : Int) - 1))), (9, .int .i64 (IntKind.i64.wrap (((Utf8.encode x2).size : Int) - 1))), (10, .int .i64 0)] ∧ Sep w (Fo) rs15 ∧ (∀ r, r ∈ rs → r ∈ rs15) ∧ m_strings_IndexRune_l2 x2 s1 k2 = some r) (((s1.size : Int) - (IntKind.i64.wrap (((Utf8.encode x2).size : Int) - 1)) : Int).toNat + 1) ?_ ?_
     ·exact ⟨_, (((((E.nil.keep E 10 rfl).keep E 9 rfl).keep E 8 rfl).keep E 7 rfl).keep E 0 rfl), H, hs5, hm⟩
     ·clear E H hm
      rintro k2 a w ⟨rs15, E, H, hs16, hm⟩
      cases k2 with
      | zero => exact (none_some hm rfl).elim
      | succ k2 =>
       unfold m_strings_IndexRune_l2 at hm
       refine wp_seq ?_
       refine wp_seq ?_
       refine wp_region_lit ?_
       refine sv E rfl rfl rfl (x_move E rfl rfl) ?_
       clear a E;intro a E
       refine sv E rfl rfl rfl (x_move E rfl rfl) ?_
       clear a E;intro a E
       refine sv E rfl rfl rfl (x_lenStr E rfl rfl Tryz.underlying9) ?_
       clear a E;intro a E
       refine sv E rfl rfl rfl (x_bin E rfl rfl rfl rfl) ?_
       clear a E;intro a E
       refine wpList_nil ?_
       refine q_then ?_
       refine wp_if E rfl ?_ ?_
       ·intro hb
        rw [if_t hb] at hm
        clear hb
        refine wp_skip ?_
        refine q_then ?_
        refine wp_block ?_
        refine wp_scope_straight ?_
        refine wp_seq ?_
        refine wp_seq ?_
        replace H : Sep w (Fo) (rs15) := H
        have hI : Still [] [] { w with drawn := w.drawn + 1 } := ⟨_, _, H.kept (Kp.drawn _ w _), (subO_nil), (sub_nil)⟩
        refine wp_draw _ [(0, 0), (1, 0), (2, 0), (3, 0), (4, 0), (5, 0), (6, 0)] mixedOk (by kernel_rfl) (fun _ _ _ h => False.elim h.2) hI ?_
        replace H := H.kept (Kp.drawn _ w (w.drawn + 1))
        generalize ({ w with drawn := w.drawn + 1 } : World) = w at H hI ⊢
        replace hI : ∃ W, Still [] [] W := ⟨_, hI⟩
        obtain ⟨W0, hI⟩ := hI
        refine fr_val E rfl (wn rfl) rfl rfl (fun w hW => (x_move E rfl rfl)) ?_
        clear a E;intro a E
        refine fr_val E rfl (wn rfl) rfl rfl (fun w hW => (x_move E rfl rfl)) ?_
        clear a E;intro a E
        obtain ⟨x17, hx18, hm⟩ := bnd hm
        refine fr_val E rfl (wn rfl) rfl rfl (fun w hW => (x_ix E rfl rfl rfl Tryz.underlying9 hx18)) ?_
        clear a E;intro a E
        refine fr_val E rfl (wn rfl) rfl rfl (fun w hW => (x_move E rfl rfl)) ?_
        clear a E;intro a E
        refine fr_val E rfl (wn rfl) rfl rfl (fun w hW => (x_move E rfl rfl)) ?_
        clear a E;intro a E
        obtain ⟨x19, hx20, hm⟩ := bnd hm
        refine fr_val E rfl (wn rfl) rfl rfl (fun w hW => (x_ix E rfl rfl rfl Tryz.underlying9 hx20)) ?_
        clear a E;intro a E
        refine fr_val E rfl (wn rfl) rfl rfl (fun w hW => (x_bin E rfl rfl rfl rfl)) ?_
        clear a E;intro a E
        refine fr_nil ?_
        clear hI
        refine q_then ?_
        refine wp_if E rfl ?_ ?_
        ·intro hb
         rw [if_t hb] at hm
         clear hb
         refine wp_seq ?_
         replace H : Sep w (Fo) (rs15) := H
         have hI : Still [] [] { w with drawn := w.drawn + 1 } := ⟨_, _, H.kept (Kp.drawn _ w _), (subO_nil), (sub_nil)⟩
         refine wp_draw _ [(0, 0), (1, 0), (2, 0), (3, 0), (4, 0), (5, 0), (6, 0), (7, 1), (8, 2)] mixedOk (by kernel_rfl) (fun _ _ _ h => False.elim h.2) hI ?_
         replace H := H.kept (Kp.drawn _ w (w.drawn + 1))
         generalize ({ w with drawn := w.drawn + 1 } : World) = w at H hI ⊢
         replace hI : ∃ W, Still [] [] W := ⟨_, hI⟩
         obtain ⟨W0, hI⟩ := hI
         refine fr_val E rfl (wn rfl) rfl rfl (fun w hW => (x_move E rfl rfl)) ?_
         clear a E;intro a E
         refine fr_val E rfl (wn rfl) rfl rfl (fun w hW => (x_move E rfl rfl)) ?_
         clear a E;intro a E
         refine fr_val E rfl (wn rfl) rfl rfl (fun w hW => (x_bin E rfl rfl rfl rfl)) ?_
         clear a E;intro a E
         obtain ⟨u21, hx22, hm⟩ := bnd hm
         refine fr_val E rfl (wn rfl) rfl rfl (fun w hW => (x_subL E rfl rfl rfl Tryz.underlying9 (ck_of hx22))) ?_
         clear a E;intro a E
         refine fr_val E rfl (wn rfl) rfl rfl (fun w hW => (x_move E rfl rfl)) ?_
         clear a E;intro a E
         refine fr_val E rfl (wn rfl) rfl rfl (fun w hW => (x_move E rfl rfl)) ?_
         clear a E;intro a E
         obtain ⟨x23, hx24, hm⟩ := bnd hm
         refine fr_val E rfl (wn rfl) rfl rfl (fun w hW => (x_ix E rfl rfl rfl Tryz.underlying9 hx24)) ?_
         clear a E;intro a E
         refine fr_op rfl ?_
         obtain ⟨u25, hx26, hm⟩ := bnd hm
         refine st_call E (wn rfl) rfl rfl (x_call E rfl rfl (cf71 _)) (c_strings_IndexByte (s1.extract (IntKind.i64.wrap ((IntKind.i64.wrap (((Utf8.encode x2).size : Int) - 1)) + 1)).toNat s1.size) (x23.toNat : Int) H hx26) ?_
         clear E H; clear a; clear w; rintro _ w ⟨rfl, H⟩ a E
         refine wpList_nil ?_
         refine q_then ?_
         replace H : Sep w (Fo) (rs15) := H
         refine ⟨⟨_, _, H, (subO_nil), (sub_nil)⟩, ?_⟩
         refine fr_tail rfl ?_
         refine sv E rfl rfl rfl (x_assign E rfl rfl) ?_
         clear a E;intro a E
         refine wpList_nil ?_
         refine q_then ?_
         refine fr_nil ?_
         clear hI
         refine q_then ?_
         refine wp_seq ?_
         refine wp_seq ?_
         refine wp_region_lit ?_
         refine sv E rfl rfl rfl (x_move E rfl rfl) ?_
         clear a E;intro a E
         refine sv E rfl rfl rfl (x_bin E rfl rfl rfl rfl) ?_
         clear a E;intro a E
         refine wpList_nil ?_
         refine q_then ?_
         refine wp_if E rfl ?_ ?_
         ·intro hb
          rw [if_t hb] at hm
          clear hb
          refine wp_seq ?_
          refine wp_region_lit ?_
          refine sv E rfl rfl rfl (x_assign E rfl rfl) ?_
          clear a E;intro a E
          refine wpList_nil ?_
          refine q_then ?_
          refine wp_ret ?_
          refine q_thenR ?_
          refine q_thenR ?_
          refine ng_R ?_
          refine q_blkR ?_
          refine q_thenR ?_
          refine q_blkR ?_
          refine q_thenR ?_
          refine ng_R ?_
          refine q_blkR ?_
          refine out1 E rfl rfl ?_
          obtain rfl := Option.some.inj hm
          exact ⟨rfl, H.reads (fun r hr => hs16 r hr)⟩
         ·intro hb
          rw [if_f hb] at hm
          clear hb
          exact (none_some hm rfl).elim
        ·intro hb
         rw [if_f hb] at hm
         clear hb
         exact (none_some hm rfl).elim
       ·intro hb
        rw [if_f hb] at hm
        clear hb
        refine wp_exit ?_
        refine q_thenX ?_
        refine q_thenX ?_
        refine q_hit ?_
        refine q_then ?_
        refine wp_seq ?_
        refine wp_seq ?_
        refine wp_region_lit ?_
        refine sv E rfl rfl rfl (x_assign E rfl rfl) ?_
        clear a E;intro a E
        refine wpList_nil ?_
        refine q_then ?_
        refine wp_ret ?_
        refine q_thenR ?_
        refine ng_R ?_
        refine q_blkR ?_
        refine out1 E rfl rfl ?_
        obtain rfl := Option.some.inj hm
        exact ⟨rfl, H.reads (fun r hr => hs16 r hr)⟩
end Go.Cb

set_option linter.unusedVariables false
set_option linter.unusedSimpArgs false
namespace Go.Cb
open Go.Proofs Go.RowKit
def m_strings_ContainsRune (s1 : ByteArray) (x2 : Int) : Option Bool :=
  (m_strings_IndexRune s1 x2).bind fun u3 => some (decide (u3 ≥ 0))
set_option maxRecDepth 20000 in
set_option maxHeartbeats 1000000 in
theorem c_strings_ContainsRune {w : World} {Fo : List Ob} {rs : List Rp} (s1 : ByteArray) (x2 : Int) (H : Sep w (Fo) rs) {r : Bool} (hm : m_strings_ContainsRune s1 x2 = some r) :
    Calls Tryz.prog 75 [.string s1, .int .i32 x2].toArray w (Ret fun v w' => .bool r = v ∧ Sep w' (Fo) (rs)) := by
 unfold m_strings_ContainsRune at hm
 refine enter Tryz.func75 rfl Tryz.ntmps75 rfl fun a E => ?_
 simp only [enum, Nat.reduceAdd] at E
 refine wp_seq ?_
 refine wp_region_lit ?_
 refine sv E rfl rfl rfl (x_assign E rfl rfl) ?_
 clear a E;intro a E
 refine wpList_nil ?_
 refine q_then ?_
 refine wp_seq ?_
 refine wp_region_lit ?_
 refine sv E rfl rfl rfl (x_move E rfl rfl) ?_
 clear a E;intro a E
 refine sv E rfl rfl rfl (x_move E rfl rfl) ?_
 clear a E;intro a E
 obtain ⟨u3, hx4, hm⟩ := bnd hm
 refine st_call E (wn rfl) rfl rfl (x_call E rfl rfl (cf84 _)) (c_strings_IndexRune s1 x2 H hx4) ?_
 clear E H; clear a; clear w; rintro _ w ⟨rfl, H⟩ a E
 refine sv E rfl rfl rfl (x_bin E rfl rfl rfl rfl) ?_
 clear a E;intro a E
 refine sv E rfl rfl rfl (x_assign E rfl rfl) ?_
 clear a E;intro a E
 refine wpList_nil ?_
 refine q_then ?_
 refine wp_ret ?_
 refine out1 E rfl rfl ?_
 obtain rfl := Option.some.inj hm
 exact ⟨rfl, H.reads (fun r hr => hr)⟩
end Go.Cb

set_option linter.unusedVariables false
set_option linter.unusedSimpArgs false
namespace Go.Cb
open Go.Proofs Go.RowKit
def m_path_part_1 (x1 : Int) : Option Bool :=
  (m_strings_ContainsRune (ByteArray.mk #[97, 98, 99, 100, 101, 102, 103, 104, 105, 106, 107, 108, 109, 110, 111, 112, 113, 114, 115, 116, 117, 118, 119, 120, 121, 122, 48, 49, 50, 51, 52, 53, 54, 55, 56, 57, 45]) x1).bind fun u2 => some (!u2)
set_option maxRecDepth 20000 in
set_option maxHeartbeats 1000000 in
theorem c_path_part_1 {w : World} {Fo : List Ob} {rs : List Rp} (x1 : Int) (H : Sep w (Fo) rs) {r : Bool} (hm : m_path_part_1 x1 = some r) :
    Calls Tryz.prog 74 [.int .i32 x1].toArray w (Ret fun v w' => .bool r = v ∧ Sep w' (Fo) (rs)) := by
 unfold m_path_part_1 at hm
 refine enter Tryz.func74 rfl Tryz.ntmps74 rfl fun a E => ?_
 simp only [enum, Nat.reduceAdd] at E
 refine wp_seq ?_
 refine wp_region_lit ?_
 refine sv E rfl rfl rfl (x_assign E rfl rfl) ?_
 clear a E;intro a E
 refine wpList_nil ?_
 refine q_then ?_
 refine wp_seq ?_
 refine wp_region_lit ?_
 refine sv E rfl rfl rfl (x_move E rfl rfl) ?_
 clear a E;intro a E
 obtain ⟨u2, hx3, hm⟩ := bnd hm
 refine st_call E (wn rfl) rfl rfl (x_call E rfl rfl (cf75 _)) (c_strings_ContainsRune (ByteArray.mk #[97, 98, 99, 100, 101, 102, 103, 104, 105, 106, 107, 108, 109, 110, 111, 112, 113, 114, 115, 116, 117, 118, 119, 120, 121, 122, 48, 49, 50, 51, 52, 53, 54, 55, 56, 57, 45]) x1 H hx3) ?_
 clear E H; clear a; clear w; rintro _ w ⟨rfl, H⟩ a E
 refine sv E rfl rfl rfl (x_not E rfl rfl) ?_
 clear a E;intro a E
 refine sv E rfl rfl rfl (x_assign E rfl rfl) ?_
 clear a E;intro a E
 refine wpList_nil ?_
 refine q_then ?_
 refine wp_ret ?_
 refine out1 E rfl rfl ?_
 obtain rfl := Option.some.inj hm
 exact ⟨rfl, H.reads (fun r hr => hr)⟩
end Go.Cb

set_option linter.unusedVariables false
set_option linter.unusedSimpArgs false
namespace Go.Cb
open Go.Proofs Go.RowKit
def m_strings_indexFunc_l1 (s1 : ByteArray) (b2 : Bool) : Nat → (Nat) → Option Int
  | 0, _ => none
  | k1 + 1, x4 =>
    if decide (x4 < s1.size) = true then ((m_path_part_1 ((Utf8.decode s1 x4).1 : Int)).bind fun u8 => if (u8 == b2) = true then (some ((x4 : Int))) else (m_strings_indexFunc_l1 s1 b2 k1 (x4 + (Utf8.decode s1 x4).2))) else (some ((-1)))
def m_strings_indexFunc (s1 : ByteArray) (b2 : Bool) : Option Int :=
  m_strings_indexFunc_l1 s1 b2 (s1.size + 2) 0
set_option maxRecDepth 20000 in
set_option maxHeartbeats 1000000 in
theorem c_strings_indexFunc {w : World} {Fo : List Ob} {rs : List Rp} (s1 : ByteArray) (b2 : Bool) (H : Sep w (Fo) rs) {r : Int} (hm : m_strings_indexFunc s1 b2 = some r) :
    Calls Tryz.prog 94 [.string s1, .func (.func 74) #[] #[], .bool b2].toArray w (Ret fun v w' => .int .i64 r = v ∧ Sep w' (Fo) (rs)) := by
 unfold m_strings_indexFunc at hm
 refine enter Tryz.func94 rfl Tryz.ntmps94 rfl fun a E => ?_
 simp only [enum, Nat.reduceAdd] at E
 refine wp_seq ?_
 refine wp_region_lit ?_
 refine sv E rfl rfl rfl (x_assign E rfl rfl) ?_
 clear a E;intro a E
 refine wpList_nil ?_
 refine q_then ?_
 refine wp_seq ?_
 refine wp_seq ?_
 refine wp_region_lit ?_
 refine sv E rfl rfl rfl (x_move E rfl rfl) ?_
 clear a E;intro a E
 refine st_rangeS E H (wn rfl) rfl rfl rfl rfl Tryz.underlying9 ?_
 clear E H; clear a; clear w; intro p3 w a H E
 refine wpList_nil ?_
 refine q_then ?_
 refine wp_block ?_
 refine wp_loop_g (fun k1 a w => ∃ (x4 : (Nat)) (rs5 : List Rp), Env 21 a [(1, .func (.func 74) #[] #[]), (2, .bool b2), (10, .pointer (some ⟨p3, 0, none⟩))] ∧ Sep w (ObjO p3 (.stringIter s1 x4) :: Fo) rs5 ∧ (∀ r, r ∈ rs → r ∈ rs5) ∧ m_strings_indexFunc_l1 s1 b2 k1 x4 = some r) (s1.size + 2) ?_ ?_
 ·exact ⟨0, _, (((E.nil.keep E 10 rfl).keep E 2 rfl).keep E 1 rfl), H, fun r hr => hr, hm⟩
 ·clear E H hm
  rintro k1 a w ⟨x4, rs5, E, H, hs6, hm⟩
  cases k1 with
  | zero => exact (none_some hm rfl).elim
  | succ k1 =>
   unfold m_strings_indexFunc_l1 at hm
   refine wp_seq ?_
   refine wp_region_lit ?_
   rcases Bool.eq_false_or_eq_true (decide (x4 < s1.size)) with hb7 | hb7
   ·rw [if_t hb7] at hm
    refine st_nextS1 (i := 0) E H (wn rfl) rfl rfl rfl rfl rfl hb7 ?_
    clear E H; clear a; clear w; intro w a H E
    replace H : Sep w (ObjO p3 (.stringIter s1 (x4 + (Utf8.decode s1 x4).2)) :: Fo) _ := H
    refine sv E rfl rfl rfl (x_ext E rfl rfl rfl) ?_
    clear a E;intro a E
    refine wpList_nil ?_
    refine q_then ?_
    refine wp_seq ?_
    refine wp_cond_true (E.eval rfl) ?_
    refine wp_skip ?_
    refine q_then ?_
    refine wp_block ?_
    refine wp_seq ?_
    refine wp_region_lit ?_
    refine sv E rfl rfl rfl (x_ext E rfl rfl rfl) ?_
    clear a E;intro a E
    refine sv E rfl rfl rfl (x_ext E rfl rfl rfl) ?_
    clear a E;intro a E
    refine sv E rfl rfl rfl (x_assign E rfl rfl) ?_
    clear a E;intro a E
    refine sv E rfl rfl rfl (x_assign E rfl rfl) ?_
    clear a E;intro a E
    refine wpList_nil ?_
    refine q_then ?_
    refine wp_seq ?_
    refine wp_region_lit ?_
    refine sv E rfl rfl rfl (x_move E rfl rfl) ?_
    clear a E;intro a E
    refine sv E rfl rfl rfl (x_move E rfl rfl) ?_
    clear a E;intro a E
    obtain ⟨u8, hx9, hm⟩ := bnd hm
    refine st_call E (wn rfl) rfl rfl (x_callv E rfl rfl rfl (cf74 _)) (c_path_part_1 ((Utf8.decode s1 x4).1 : Int) H hx9) ?_
    clear E H; clear a; clear w; rintro _ w ⟨rfl, H⟩ a E
    refine sv E rfl rfl rfl (x_move E rfl rfl) ?_
    clear a E;intro a E
    refine sv E rfl rfl rfl (x_bin2 E rfl rfl rfl (v := .bool (u8 == b2)) (by kernel_rfl)) ?_
    clear a E;intro a E
    refine wpList_nil ?_
    refine q_then ?_
    refine wp_if E rfl ?_ ?_
    ·intro hb
     rw [if_t hb] at hm
     clear hb
     refine wp_seq ?_
     refine wp_region_lit ?_
     refine sv E rfl rfl rfl (x_move E rfl rfl) ?_
     clear a E;intro a E
     refine sv E rfl rfl rfl (x_assign E rfl rfl) ?_
     clear a E;intro a E
     refine wpList_nil ?_
     refine q_then ?_
     refine wp_ret ?_
     refine q_blkR ?_
     refine q_thenR ?_
     refine q_blkR ?_
     refine q_thenR ?_
     refine out1 E rfl rfl ?_
     replace H := H.drop 0
     obtain rfl := Option.some.inj hm
     exact ⟨rfl, H.reads (fun r hr => hs6 r hr)⟩
    ·intro hb
     rw [if_f hb] at hm
     clear hb
     refine wp_skip ?_
     refine q_blk ?_
     refine q_then ?_
     exact ⟨k1, Nat.lt_succ_self k1, x4 + (Utf8.decode s1 x4).2, _, (((E.nil.keep E 10 rfl).keep E 2 rfl).keep E 1 rfl), H, hs6, hm⟩
   ·rw [if_f hb7] at hm
    refine st_nextS0 (i := 0) E H (wn rfl) rfl rfl rfl rfl rfl hb7 ?_
    clear a E;intro a E
    refine sv E rfl rfl rfl (x_ext E rfl rfl rfl) ?_
    clear a E;intro a E
    refine wpList_nil ?_
    refine q_then ?_
    refine wp_seq ?_
    refine wp_cond_false (E.eval rfl) ?_
    refine wp_exit ?_
    refine q_thenX ?_
    refine q_thenX ?_
    refine q_hit ?_
    refine q_then ?_
    refine wp_seq ?_
    refine wp_region_lit ?_
    refine sv E rfl rfl rfl (x_assign E rfl rfl) ?_
    clear a E;intro a E
    refine wpList_nil ?_
    refine q_then ?_
    refine wp_ret ?_
    refine out1 E rfl rfl ?_
    replace H := H.drop 0
    obtain rfl := Option.some.inj hm
    exact ⟨rfl, H.reads (fun r hr => hs6 r hr)⟩
end Go.Cb

set_option linter.unusedVariables false
set_option linter.unusedSimpArgs false
namespace Go.Cb
open Go.Proofs Go.RowKit
def m_strings_IndexFunc (s1 : ByteArray) : Option Int :=
  (m_strings_indexFunc s1 true).bind fun u2 => some (u2)
set_option maxRecDepth 20000 in
set_option maxHeartbeats 1000000 in
theorem c_strings_IndexFunc {w : World} {Fo : List Ob} {rs : List Rp} (s1 : ByteArray) (H : Sep w (Fo) rs) {r : Int} (hm : m_strings_IndexFunc s1 = some r) :
    Calls Tryz.prog 83 [.string s1, .func (.func 74) #[] #[]].toArray w (Ret fun v w' => .int .i64 r = v ∧ Sep w' (Fo) (rs)) := by
 unfold m_strings_IndexFunc at hm
 refine enter Tryz.func83 rfl Tryz.ntmps83 rfl fun a E => ?_
 simp only [enum, Nat.reduceAdd] at E
 refine wp_seq ?_
 refine wp_region_lit ?_
 refine sv E rfl rfl rfl (x_assign E rfl rfl) ?_
 clear a E;intro a E
 refine wpList_nil ?_
 refine q_then ?_
 refine wp_seq ?_
 refine wp_region_lit ?_
 refine sv E rfl rfl rfl (x_move E rfl rfl) ?_
 clear a E;intro a E
 refine sv E rfl rfl rfl (x_move E rfl rfl) ?_
 clear a E;intro a E
 obtain ⟨u2, hx3, hm⟩ := bnd hm
 refine st_call E (wn rfl) rfl rfl (x_call E rfl rfl (cf94 _)) (c_strings_indexFunc s1 true H hx3) ?_
 clear E H; clear a; clear w; rintro _ w ⟨rfl, H⟩ a E
 refine sv E rfl rfl rfl (x_assign E rfl rfl) ?_
 clear a E;intro a E
 refine wpList_nil ?_
 refine q_then ?_
 refine wp_ret ?_
 refine out1 E rfl rfl ?_
 obtain rfl := Option.some.inj hm
 exact ⟨rfl, H.reads (fun r hr => hr)⟩
end Go.Cb

set_option linter.unusedVariables false
set_option linter.unusedSimpArgs false
namespace Go.Cb
open Go.Proofs Go.RowKit
def m_strings_ContainsFunc (s1 : ByteArray) : Option Bool :=
  (m_strings_IndexFunc s1).bind fun u2 => some (decide (u2 ≥ 0))
set_option maxRecDepth 20000 in
set_option maxHeartbeats 1000000 in
theorem c_strings_ContainsFunc {w : World} {Fo : List Ob} {rs : List Rp} (s1 : ByteArray) (H : Sep w (Fo) rs) {r : Bool} (hm : m_strings_ContainsFunc s1 = some r) :
    Calls Tryz.prog 73 [.string s1, .func (.func 74) #[] #[]].toArray w (Ret fun v w' => .bool r = v ∧ Sep w' (Fo) (rs)) := by
 unfold m_strings_ContainsFunc at hm
 refine enter Tryz.func73 rfl Tryz.ntmps73 rfl fun a E => ?_
 simp only [enum, Nat.reduceAdd] at E
 refine wp_seq ?_
 refine wp_region_lit ?_
 refine sv E rfl rfl rfl (x_assign E rfl rfl) ?_
 clear a E;intro a E
 refine wpList_nil ?_
 refine q_then ?_
 refine wp_seq ?_
 refine wp_region_lit ?_
 refine sv E rfl rfl rfl (x_move E rfl rfl) ?_
 clear a E;intro a E
 refine sv E rfl rfl rfl (x_move E rfl rfl) ?_
 clear a E;intro a E
 obtain ⟨u2, hx3, hm⟩ := bnd hm
 refine st_call E (wn rfl) rfl rfl (x_call E rfl rfl (cf83 _)) (c_strings_IndexFunc s1 H hx3) ?_
 clear E H; clear a; clear w; rintro _ w ⟨rfl, H⟩ a E
 refine sv E rfl rfl rfl (x_bin E rfl rfl rfl rfl) ?_
 clear a E;intro a E
 refine sv E rfl rfl rfl (x_assign E rfl rfl) ?_
 clear a E;intro a E
 refine wpList_nil ?_
 refine q_then ?_
 refine wp_ret ?_
 refine out1 E rfl rfl ?_
 obtain rfl := Option.some.inj hm
 exact ⟨rfl, H.reads (fun r hr => hr)⟩
end Go.Cb

set_option linter.unusedVariables false
set_option linter.unusedSimpArgs false
namespace Go.Cb
open Go.Proofs Go.RowKit
def m_path_part (s1 : ByteArray) : Option Bool :=
  (m_strings_ContainsFunc s1).bind fun u2 => if (!(sEq s1 (ByteArray.mk #[]))) = true then (if (decide ((s1.size : Int) ≤ 12)) = true then (some (!u2)) else (some (false))) else (some (false))
set_option maxRecDepth 20000 in
set_option maxHeartbeats 1000000 in
theorem c_path_part {w : World} {Fo : List Ob} {rs : List Rp} (s1 : ByteArray) (H : Sep w (Fo) rs) {r : Bool} (hm : m_path_part s1 = some r) :
    Calls Tryz.prog 61 [.string s1].toArray w (Ret fun v w' => .bool r = v ∧ Sep w' (Fo) (rs)) := by
 unfold m_path_part at hm
 refine enter Tryz.func61 rfl Tryz.ntmps61 rfl fun a E => ?_
 simp only [enum, Nat.reduceAdd] at E
 refine wp_seq ?_
 refine wp_region_lit ?_
 refine sv E rfl rfl rfl (x_assign E rfl rfl) ?_
 clear a E;intro a E
 refine wpList_nil ?_
 refine q_then ?_
 refine wp_seq ?_
 refine wp_region_lit ?_
 refine sv E rfl rfl rfl (x_move E rfl rfl) ?_
 clear a E;intro a E
 obtain ⟨u2, hx3, hm⟩ := bnd hm
 refine st_call E (wn rfl) rfl rfl (x_call E rfl rfl (cf73 _)) (c_strings_ContainsFunc s1 H hx3) ?_
 clear E H; clear a; clear w; rintro _ w ⟨rfl, H⟩ a E
 refine sv E rfl rfl rfl (x_assign E rfl rfl) ?_
 clear a E;intro a E
 refine wpList_nil ?_
 refine q_then ?_
 refine wp_seq ?_
 refine wp_region_lit ?_
 refine sv E rfl rfl rfl (x_move E rfl rfl) ?_
 clear a E;intro a E
 refine sv E rfl rfl rfl (x_str E rfl rfl rfl rfl) ?_
 clear a E;intro a E
 refine sv E rfl rfl rfl (x_move E rfl rfl) ?_
 clear a E;intro a E
 rcases Bool.eq_false_or_eq_true (!(sEq s1 (ByteArray.mk #[]))) with hb4 | hb4
 ·rw [if_t hb4] at hm
  refine st_val E (ws' E rfl rfl rfl rfl hb4) rfl rfl (x_move E rfl rfl) ?_
  clear a E;intro a E
  refine st_val E (ws' E rfl rfl rfl rfl hb4) rfl rfl (x_lenStr E rfl rfl Tryz.underlying9) ?_
  clear a E;intro a E
  refine st_val E (ws' E rfl rfl rfl rfl hb4) rfl rfl (x_bin E rfl rfl rfl rfl) ?_
  clear a E;intro a E
  refine sv E rfl rfl rfl (x_pickT E rfl rfl hb4 rfl) ?_
  clear a E;intro a E
  refine sv E rfl rfl rfl (x_move E rfl rfl) ?_
  clear a E;intro a E
  rcases Bool.eq_false_or_eq_true (decide ((s1.size : Int) ≤ 12)) with hb5 | hb5
  ·rw [if_t hb5] at hm
   refine st_val E (ws' E rfl rfl rfl rfl hb5) rfl rfl (x_move E rfl rfl) ?_
   clear a E;intro a E
   refine st_val E (ws' E rfl rfl rfl rfl hb5) rfl rfl (x_not E rfl rfl) ?_
   clear a E;intro a E
   refine sv E rfl rfl rfl (x_pickT E rfl rfl hb5 rfl) ?_
   clear a E;intro a E
   refine sv E rfl rfl rfl (x_assign E rfl rfl) ?_
   clear a E;intro a E
   refine wpList_nil ?_
   refine q_then ?_
   refine wp_ret ?_
   refine out1 E rfl rfl ?_
   obtain rfl := Option.some.inj hm
   exact ⟨rfl, H.reads (fun r hr => hr)⟩
  ·rw [if_f hb5] at hm
   refine st_no E (wf' E rfl rfl rfl rfl hb5 rfl) rfl rfl ?_
   clear a E;intro a E
   refine st_no E (wf' E rfl rfl rfl rfl hb5 rfl) rfl rfl ?_
   clear a E;intro a E
   refine sv E rfl rfl rfl (x_pickF E rfl rfl hb5 rfl) ?_
   clear a E;intro a E
   refine sv E rfl rfl rfl (x_assign E rfl rfl) ?_
   clear a E;intro a E
   refine wpList_nil ?_
   refine q_then ?_
   refine wp_ret ?_
   refine out1 E rfl rfl ?_
   obtain rfl := Option.some.inj hm
   exact ⟨rfl, H.reads (fun r hr => hr)⟩
 ·rw [if_f hb4] at hm
  refine st_no E (wf' E rfl rfl rfl rfl hb4 rfl) rfl rfl ?_
  clear a E;intro a E
  refine st_no E (wf' E rfl rfl rfl rfl hb4 rfl) rfl rfl ?_
  clear a E;intro a E
  refine st_no E (wf' E rfl rfl rfl rfl hb4 rfl) rfl rfl ?_
  clear a E;intro a E
  refine sv E rfl rfl rfl (x_pickF E rfl rfl hb4 rfl) ?_
  clear a E;intro a E
  refine sv E rfl rfl rfl (x_move E rfl rfl) ?_
  clear a E;intro a E
  refine st_no E (wf E rfl rfl rfl rfl rfl) rfl rfl ?_
  clear a E;intro a E
  refine st_no E (wf E rfl rfl rfl rfl rfl) rfl rfl ?_
  clear a E;intro a E
  refine sv E rfl rfl rfl (x_pickF E rfl rfl rfl rfl) ?_
  clear a E;intro a E
  refine sv E rfl rfl rfl (x_assign E rfl rfl) ?_
  clear a E;intro a E
  refine wpList_nil ?_
  refine q_then ?_
  refine wp_ret ?_
  refine out1 E rfl rfl ?_
  obtain rfl := Option.some.inj hm
  exact ⟨rfl, H.reads (fun r hr => hr)⟩
end Go.Cb

set_option linter.unusedVariables false
set_option linter.unusedSimpArgs false
namespace Go.Cb
open Go.Proofs Go.RowKit
def m_cantonref01_Part_j1 (rec_1 : Int → Option Bool) (x2 : Int) (b7 : Bool) : Option Bool :=
  if b7 = true then (some (false)) else (rec_1 (IntKind.i64.wrap (x2 + 1)))
def m_cantonref01_Part_l1 (s1 : ByteArray) : Nat → Int → Option Bool
  | 0, _ => none
  | k1 + 1, x2 =>
    if (decide (x2 < (s1.size : Int))) = true then ((idx s1.data.toList x2).bind fun x5 => if ((x5.toNat : Int) != 45) = true then (if (decide ((x5.toNat : Int) < 97)) = true then (if (decide ((x5.toNat : Int) < 48)) = true then (m_cantonref01_Part_j1 (m_cantonref01_Part_l1 s1 k1) x2 true) else (m_cantonref01_Part_j1 (m_cantonref01_Part_l1 s1 k1) x2 (decide ((x5.toNat : Int) > 57)))) else (if (decide ((x5.toNat : Int) > 122)) = true then (if (decide ((x5.toNat : Int) < 48)) = true then (m_cantonref01_Part_j1 (m_cantonref01_Part_l1 s1 k1) x2 true) else (m_cantonref01_Part_j1 (m_cantonref01_Part_l1 s1 k1) x2 (decide ((x5.toNat : Int) > 57)))) else (m_cantonref01_Part_j1 (m_cantonref01_Part_l1 s1 k1) x2 false))) else (m_cantonref01_Part_j1 (m_cantonref01_Part_l1 s1 k1) x2 false)) else (if (decide ((s1.size : Int) ≥ 1)) = true then (some (decide ((s1.size : Int) ≤ 12))) else (some (false)))
def m_cantonref01_Part (s1 : ByteArray) : Option Bool :=
  m_cantonref01_Part_l1 s1 (((s1.size : Int) - 0 : Int).toNat + 1) 0
set_option maxRecDepth 20000 in
set_option maxHeartbeats 1000000 in
theorem c_cantonref01_Part {w : World} {Fo : List Ob} {rs : List Rp} (s1 : ByteArray) (H : Sep w (Fo) rs) {r : Bool} (hm : m_cantonref01_Part s1 = some r) :
    Calls Tryz.prog 68 [.string s1].toArray w (Ret fun v w' => .bool r = v ∧ Sep w' (Fo) (rs)) := by
 unfold m_cantonref01_Part at hm
 refine enter Tryz.func68 rfl Tryz.ntmps68 rfl fun a E => ?_
 simp only [enum, Nat.reduceAdd] at E
 refine wp_seq ?_
 refine wp_region_lit ?_
 refine sv E rfl rfl rfl (x_assign E rfl rfl) ?_
 clear a E;intro a E
 refine wpList_nil ?_
 refine q_then ?_
 refine wp_seq ?_
 refine wp_seq ?_
 refine wp_region_lit ?_
 refine sv E rfl rfl rfl (x_assign E rfl rfl) ?_
 clear a E;intro a E
 refine wpList_nil ?_
 refine q_then ?_
 refine wp_block ?_
 refine wp_loop_g (fun k1 a w => ∃ (x2 : Int) (rs3 : List Rp), Env 40 a [(0, .string s1), (3, .int .i64 x2)] ∧ Sep w (Fo) rs3 ∧ (∀ r, r ∈ rs → r ∈ rs3) ∧ m_cantonref01_Part_l1 s1 k1 x2 = some r) (((s1.size : Int) - 0 : Int).toNat + 1) ?_ ?_
 ·exact ⟨0, _, ((E.nil.keep E 3 rfl).keep E 0 rfl), H, fun r hr => hr, hm⟩
 ·clear E H hm
  rintro k1 a w ⟨x2, rs3, E, H, hs4, hm⟩
  cases k1 with
  | zero => exact (none_some hm rfl).elim
  | succ k1 =>
   unfold m_cantonref01_Part_l1 at hm
   refine wp_seq ?_
   refine wp_seq ?_
   refine wp_region_lit ?_
   refine sv E rfl rfl rfl (x_move E rfl rfl) ?_
   clear a E;intro a E
   refine sv E rfl rfl rfl (x_move E rfl rfl) ?_
   clear a E;intro a E
   refine sv E rfl rfl rfl (x_lenStr E rfl rfl Tryz.underlying9) ?_
   clear a E;intro a E
   refine sv E rfl rfl rfl (x_bin E rfl rfl rfl rfl) ?_
   clear a E;intro a E
   refine wpList_nil ?_
   refine q_then ?_
   refine wp_if E rfl ?_ ?_
   ·intro hb
    rw [if_t hb] at hm
    clear hb
    refine wp_skip ?_
    refine q_then ?_
    refine wp_seq ?_
    refine wp_block ?_
    refine wp_seq ?_
    refine wp_region_lit ?_
    refine sv E rfl rfl rfl (x_move E rfl rfl) ?_
    clear a E;intro a E
    refine sv E rfl rfl rfl (x_move E rfl rfl) ?_
    clear a E;intro a E
    obtain ⟨x5, hx6, hm⟩ := bnd hm
    refine sv E rfl rfl rfl (x_ix E rfl rfl rfl Tryz.underlying9 hx6) ?_
    clear a E;intro a E
    refine sv E rfl rfl rfl (x_assign E rfl rfl) ?_
    clear a E;intro a E
    refine wpList_nil ?_
    refine q_then ?_
    refine wp_seq_cut (fun a w => ∃ (b7 : Bool) (rs8 : List Rp), Env 40 a [(0, .string s1), (3, .int .i64 x2), (31, .bool b7)] ∧ Sep w (Fo) rs8 ∧ (∀ r, r ∈ rs → r ∈ rs8) ∧ m_cantonref01_Part_j1 (m_cantonref01_Part_l1 s1 k1) x2 b7 = some r) ?_ ?_
    ·refine wp_region_lit ?_
     refine sv E rfl rfl rfl (x_move E rfl rfl) ?_
     clear a E;intro a E
     refine sv E rfl rfl rfl (x_bin E rfl rfl rfl rfl) ?_
     clear a E;intro a E
     refine sv E rfl rfl rfl (x_move E rfl rfl) ?_
     clear a E;intro a E
     rcases Bool.eq_false_or_eq_true ((x5.toNat : Int) != 45) with hb10 | hb10
     ·rw [if_t hb10] at hm
      refine st_val E (ws' E rfl rfl rfl rfl hb10) rfl rfl (x_move E rfl rfl) ?_
      clear a E;intro a E
      refine st_val E (ws' E rfl rfl rfl rfl hb10) rfl rfl (x_bin E rfl rfl rfl rfl) ?_
      clear a E;intro a E
      refine st_val E (ws' E rfl rfl rfl rfl hb10) rfl rfl (x_move E rfl rfl) ?_
      clear a E;intro a E
      rcases Bool.eq_false_or_eq_true (decide ((x5.toNat : Int) < 97)) with hb11 | hb11
      ·rw [if_t hb11] at hm
       refine st_no E (wf' E rfl rfl rfl rfl hb11 rfl) rfl rfl ?_
       clear a E;intro a E
       refine st_no E (wf' E rfl rfl rfl rfl hb11 rfl) rfl rfl ?_
       clear a E;intro a E
       refine st_val E (ws' E rfl rfl rfl rfl hb10) rfl rfl (x_pickT E rfl rfl hb11 rfl) ?_
       clear a E;intro a E
       refine sv E rfl rfl rfl (x_pickT E rfl rfl hb10 rfl) ?_
       clear a E;intro a E
       refine sv E rfl rfl rfl (x_move E rfl rfl) ?_
       clear a E;intro a E
       refine st_val E (ws E rfl rfl rfl rfl) rfl rfl (x_move E rfl rfl) ?_
       clear a E;intro a E
       refine st_val E (ws E rfl rfl rfl rfl) rfl rfl (x_bin E rfl rfl rfl rfl) ?_
       clear a E;intro a E
       refine st_val E (ws E rfl rfl rfl rfl) rfl rfl (x_move E rfl rfl) ?_
       clear a E;intro a E
       rcases Bool.eq_false_or_eq_true (decide ((x5.toNat : Int) < 48)) with hb12 | hb12
       ·rw [if_t hb12] at hm
        refine st_no E (wf' E rfl rfl rfl rfl hb12 rfl) rfl rfl ?_
        clear a E;intro a E
        refine st_no E (wf' E rfl rfl rfl rfl hb12 rfl) rfl rfl ?_
        clear a E;intro a E
        refine st_val E (ws E rfl rfl rfl rfl) rfl rfl (x_pickT E rfl rfl hb12 rfl) ?_
        clear a E;intro a E
        refine sv E rfl rfl rfl (x_pickT E rfl rfl rfl rfl) ?_
        clear a E;intro a E
        refine wpList_nil ?_
        refine q_then ?_
        exact ⟨true, _, (((E.nil.keep E 31 rfl).keep E 3 rfl).keep E 0 rfl), H, hs4, hm⟩
       ·rw [if_f hb12] at hm
        refine st_val E (ws' E rfl rfl rfl rfl hb12) rfl rfl (x_move E rfl rfl) ?_
        clear a E;intro a E
        refine st_val E (ws' E rfl rfl rfl rfl hb12) rfl rfl (x_bin E rfl rfl rfl rfl) ?_
        clear a E;intro a E
        refine st_val E (ws E rfl rfl rfl rfl) rfl rfl (x_pickF E rfl rfl hb12 rfl) ?_
        clear a E;intro a E
        refine sv E rfl rfl rfl (x_pickT E rfl rfl rfl rfl) ?_
        clear a E;intro a E
        refine wpList_nil ?_
        refine q_then ?_
        exact ⟨decide ((x5.toNat : Int) > 57), _, (((E.nil.keep E 31 rfl).keep E 3 rfl).keep E 0 rfl), H, hs4, hm⟩
      ·rw [if_f hb11] at hm
       refine st_val E (ws' E rfl rfl rfl rfl hb11) rfl rfl (x_move E rfl rfl) ?_
       clear a E;intro a E
       refine st_val E (ws' E rfl rfl rfl rfl hb11) rfl rfl (x_bin E rfl rfl rfl rfl) ?_
       clear a E;intro a E
       refine st_val E (ws' E rfl rfl rfl rfl hb10) rfl rfl (x_pickF E rfl rfl hb11 rfl) ?_
       clear a E;intro a E
       refine sv E rfl rfl rfl (x_pickT E rfl rfl hb10 rfl) ?_
       clear a E;intro a E
       refine sv E rfl rfl rfl (x_move E rfl rfl) ?_
       clear a E;intro a E
       rcases Bool.eq_false_or_eq_true (decide ((x5.toNat : Int) > 122)) with hb13 | hb13
       ·rw [if_t hb13] at hm
        refine st_val E (ws' E rfl rfl rfl rfl hb13) rfl rfl (x_move E rfl rfl) ?_
        clear a E;intro a E
        refine st_val E (ws' E rfl rfl rfl rfl hb13) rfl rfl (x_bin E rfl rfl rfl rfl) ?_
        clear a E;intro a E
        refine st_val E (ws' E rfl rfl rfl rfl hb13) rfl rfl (x_move E rfl rfl) ?_
        clear a E;intro a E
        rcases Bool.eq_false_or_eq_true (decide ((x5.toNat : Int) < 48)) with hb14 | hb14
        ·rw [if_t hb14] at hm
         refine st_no E (wf' E rfl rfl rfl rfl hb14 rfl) rfl rfl ?_
         clear a E;intro a E
         refine st_no E (wf' E rfl rfl rfl rfl hb14 rfl) rfl rfl ?_
         clear a E;intro a E
         refine st_val E (ws' E rfl rfl rfl rfl hb13) rfl rfl (x_pickT E rfl rfl hb14 rfl) ?_
         clear a E;intro a E
         refine sv E rfl rfl rfl (x_pickT E rfl rfl hb13 rfl) ?_
         clear a E;intro a E
         refine wpList_nil ?_
         refine q_then ?_
         exact ⟨true, _, (((E.nil.keep E 31 rfl).keep E 3 rfl).keep E 0 rfl), H, hs4, hm⟩
        ·rw [if_f hb14] at hm
         refine st_val E (ws' E rfl rfl rfl rfl hb14) rfl rfl (x_move E rfl rfl) ?_
         clear a E;intro a E
         refine st_val E (ws' E rfl rfl rfl rfl hb14) rfl rfl (x_bin E rfl rfl rfl rfl) ?_
         clear a E;intro a E
         refine st_val E (ws' E rfl rfl rfl rfl hb13) rfl rfl (x_pickF E rfl rfl hb14 rfl) ?_
         clear a E;intro a E
         refine sv E rfl rfl rfl (x_pickT E rfl rfl hb13 rfl) ?_
         clear a E;intro a E
         refine wpList_nil ?_
         refine q_then ?_
         exact ⟨decide ((x5.toNat : Int) > 57), _, (((E.nil.keep E 31 rfl).keep E 3 rfl).keep E 0 rfl), H, hs4, hm⟩
       ·rw [if_f hb13] at hm
        refine st_no E (wf' E rfl rfl rfl rfl hb13 rfl) rfl rfl ?_
        clear a E;intro a E
        refine st_no E (wf' E rfl rfl rfl rfl hb13 rfl) rfl rfl ?_
        clear a E;intro a E
        refine st_no E (wf' E rfl rfl rfl rfl hb13 rfl) rfl rfl ?_
        clear a E;intro a E
        refine st_no E (wu E rfl rfl rfl rfl) rfl rfl ?_
        clear a E;intro a E
        refine st_no E (wu E rfl rfl rfl rfl) rfl rfl ?_
        clear a E;intro a E
        refine st_no E (wf' E rfl rfl rfl rfl hb13 rfl) rfl rfl ?_
        clear a E;intro a E
        refine sv E rfl rfl rfl (x_pickF E rfl rfl hb13 rfl) ?_
        clear a E;intro a E
        refine wpList_nil ?_
        refine q_then ?_
        exact ⟨false, _, (((E.nil.keep E 31 rfl).keep E 3 rfl).keep E 0 rfl), H, hs4, hm⟩
     ·rw [if_f hb10] at hm
      refine st_no E (wf' E rfl rfl rfl rfl hb10 rfl) rfl rfl ?_
      clear a E;intro a E
      refine st_no E (wf' E rfl rfl rfl rfl hb10 rfl) rfl rfl ?_
      clear a E;intro a E
      refine st_no E (wf' E rfl rfl rfl rfl hb10 rfl) rfl rfl ?_
      clear a E;intro a E
      refine st_no E (wu E rfl rfl rfl rfl) rfl rfl ?_
      clear a E;intro a E
      refine st_no E (wu E rfl rfl rfl rfl) rfl rfl ?_
      clear a E;intro a E
      refine st_no E (wf' E rfl rfl rfl rfl hb10 rfl) rfl rfl ?_
      clear a E;intro a E
      refine sv E rfl rfl rfl (x_pickF E rfl rfl hb10 rfl) ?_
      clear a E;intro a E
      refine sv E rfl rfl rfl (x_move E rfl rfl) ?_
      clear a E;intro a E
      refine st_no E (wf E rfl rfl rfl rfl rfl) rfl rfl ?_
      clear a E;intro a E
      refine st_no E (wf E rfl rfl rfl rfl rfl) rfl rfl ?_
      clear a E;intro a E
      refine st_no E (wf E rfl rfl rfl rfl rfl) rfl rfl ?_
      clear a E;intro a E
      refine st_no E (wu E rfl rfl rfl rfl) rfl rfl ?_
      clear a E;intro a E
      refine st_no E (wu E rfl rfl rfl rfl) rfl rfl ?_
      clear a E;intro a E
      refine st_no E (wf E rfl rfl rfl rfl rfl) rfl rfl ?_
      clear a E;intro a E
      refine sv E rfl rfl rfl (x_pickF E rfl rfl rfl rfl) ?_
      clear a E;intro a E
      refine wpList_nil ?_
      refine q_then ?_
      exact ⟨false, _, (((E.nil.keep E 31 rfl).keep E 3 rfl).keep E 0 rfl), H, hs4, hm⟩
    ·clear E H hm
     rintro a w ⟨b7, rs8, E, H, hs9, hm⟩
     unfold m_cantonref01_Part_j1 at hm
     refine wp_if E rfl ?_ ?_
     ·intro hb
      rw [if_t hb] at hm
      clear hb
      refine wp_seq ?_
      refine wp_region_lit ?_
      refine sv E rfl rfl rfl (x_assign E rfl rfl) ?_
      clear a E;intro a E
      refine wpList_nil ?_
      refine q_then ?_
      refine wp_ret ?_
      refine q_blkR ?_
      refine q_thenR ?_
      refine q_thenR ?_
      refine q_blkR ?_
      refine q_thenR ?_
      refine out1 E rfl rfl ?_
      obtain rfl := Option.some.inj hm
      exact ⟨rfl, H.reads (fun r hr => hs9 r hr)⟩
     ·intro hb
      rw [if_f hb] at hm
      clear hb
      refine wp_skip ?_
      refine q_blk ?_
      refine q_then ?_
      refine wp_region_lit ?_
      refine sv E rfl rfl rfl (x_move E rfl rfl) ?_
      clear a E;intro a E
      refine sv E rfl rfl rfl (x_bin E rfl rfl rfl rfl) ?_
      clear a E;intro a E
      refine sv E rfl rfl rfl (x_assign E rfl rfl) ?_
      clear a E;intro a E
      refine wpList_nil ?_
      refine q_then ?_
      exact ⟨k1, Nat.lt_succ_self k1, IntKind.i64.wrap (x2 + 1), _, ((E.nil.keep E 3 rfl).keep E 0 rfl), H, hs9, hm⟩
   ·intro hb
    rw [if_f hb] at hm
    clear hb
    refine wp_exit ?_
    refine q_thenX ?_
    refine q_thenX ?_
    refine q_hit ?_
    refine q_then ?_
    refine wp_seq ?_
    refine wp_region_lit ?_
    refine sv E rfl rfl rfl (x_move E rfl rfl) ?_
    clear a E;intro a E
    refine sv E rfl rfl rfl (x_lenStr E rfl rfl Tryz.underlying9) ?_
    clear a E;intro a E
    refine sv E rfl rfl rfl (x_bin E rfl rfl rfl rfl) ?_
    clear a E;intro a E
    refine sv E rfl rfl rfl (x_move E rfl rfl) ?_
    clear a E;intro a E
    rcases Bool.eq_false_or_eq_true (decide ((s1.size : Int) ≥ 1)) with hb15 | hb15
    ·rw [if_t hb15] at hm
     refine st_val E (ws' E rfl rfl rfl rfl hb15) rfl rfl (x_move E rfl rfl) ?_
     clear a E;intro a E
     refine st_val E (ws' E rfl rfl rfl rfl hb15) rfl rfl (x_lenStr E rfl rfl Tryz.underlying9) ?_
     clear a E;intro a E
     refine st_val E (ws' E rfl rfl rfl rfl hb15) rfl rfl (x_bin E rfl rfl rfl rfl) ?_
     clear a E;intro a E
     refine sv E rfl rfl rfl (x_pickT E rfl rfl hb15 rfl) ?_
     clear a E;intro a E
     refine sv E rfl rfl rfl (x_assign E rfl rfl) ?_
     clear a E;intro a E
     refine wpList_nil ?_
     refine q_then ?_
     refine wp_ret ?_
     refine out1 E rfl rfl ?_
     obtain rfl := Option.some.inj hm
     exact ⟨rfl, H.reads (fun r hr => hs4 r hr)⟩
    ·rw [if_f hb15] at hm
     refine st_no E (wf' E rfl rfl rfl rfl hb15 rfl) rfl rfl ?_
     clear a E;intro a E
     refine st_no E (wf' E rfl rfl rfl rfl hb15 rfl) rfl rfl ?_
     clear a E;intro a E
     refine st_no E (wf' E rfl rfl rfl rfl hb15 rfl) rfl rfl ?_
     clear a E;intro a E
     refine sv E rfl rfl rfl (x_pickF E rfl rfl hb15 rfl) ?_
     clear a E;intro a E
     refine sv E rfl rfl rfl (x_assign E rfl rfl) ?_
     clear a E;intro a E
     refine wpList_nil ?_
     refine q_then ?_
     refine wp_ret ?_
     refine out1 E rfl rfl ?_
     obtain rfl := Option.some.inj hm
     exact ⟨rfl, H.reads (fun r hr => hs4 r hr)⟩
end Go.Cb

set_option linter.unusedVariables false
set_option linter.unusedSimpArgs false
namespace Go.Cb
open Go.Proofs Go.RowKit
def m_internal_stringslite_HasPrefix (s1 : ByteArray) (s2 : ByteArray) : Option Bool :=
  if (decide ((s1.size : Int) ≥ (s2.size : Int))) = true then ((ck (0 ≤ (s2.size : Int) ∧ (s2.size : Int) ≤ s1.size)).bind fun u4 => some (sEq (s1.extract 0 (s2.size : Int).toNat) s2)) else (some (false))
set_option maxRecDepth 20000 in
set_option maxHeartbeats 1000000 in
theorem c_internal_stringslite_HasPrefix {w : World} {Fo : List Ob} {rs : List Rp} (s1 : ByteArray) (s2 : ByteArray) (H : Sep w (Fo) rs) {r : Bool} (hm : m_internal_stringslite_HasPrefix s1 s2 = some r) :
    Calls Tryz.prog 88 [.string s1, .string s2].toArray w (Ret fun v w' => .bool r = v ∧ Sep w' (Fo) (rs)) := by
 unfold m_internal_stringslite_HasPrefix at hm
 refine enter Tryz.func88 rfl Tryz.ntmps88 rfl fun a E => ?_
 simp only [enum, Nat.reduceAdd] at E
 refine wp_seq ?_
 refine wp_region_lit ?_
 refine sv E rfl rfl rfl (x_assign E rfl rfl) ?_
 clear a E;intro a E
 refine wpList_nil ?_
 refine q_then ?_
 refine wp_seq ?_
 refine wp_region_lit ?_
 refine sv E rfl rfl rfl (x_move E rfl rfl) ?_
 clear a E;intro a E
 refine sv E rfl rfl rfl (x_lenStr E rfl rfl Tryz.underlying9) ?_
 clear a E;intro a E
 refine sv E rfl rfl rfl (x_move E rfl rfl) ?_
 clear a E;intro a E
 refine sv E rfl rfl rfl (x_lenStr E rfl rfl Tryz.underlying9) ?_
 clear a E;intro a E
 refine sv E rfl rfl rfl (x_bin E rfl rfl rfl rfl) ?_
 clear a E;intro a E
 refine sv E rfl rfl rfl (x_move E rfl rfl) ?_
 clear a E;intro a E
 rcases Bool.eq_false_or_eq_true (decide ((s1.size : Int) ≥ (s2.size : Int))) with hb3 | hb3
 ·rw [if_t hb3] at hm
  refine st_val E (ws' E rfl rfl rfl rfl hb3) rfl rfl (x_move E rfl rfl) ?_
  clear a E;intro a E
  refine st_val E (ws' E rfl rfl rfl rfl hb3) rfl rfl (x_move E rfl rfl) ?_
  clear a E;intro a E
  refine st_val E (ws' E rfl rfl rfl rfl hb3) rfl rfl (x_lenStr E rfl rfl Tryz.underlying9) ?_
  clear a E;intro a E
  obtain ⟨u4, hx5, hm⟩ := bnd hm
  refine st_val E (ws' E rfl rfl rfl rfl hb3) rfl rfl (x_subH E rfl rfl rfl Tryz.underlying9 (ck_of hx5)) ?_
  clear a E;intro a E
  refine st_val E (ws' E rfl rfl rfl rfl hb3) rfl rfl (x_move E rfl rfl) ?_
  clear a E;intro a E
  refine st_val E (ws' E rfl rfl rfl rfl hb3) rfl rfl (x_str E rfl rfl rfl rfl) ?_
  clear a E;intro a E
  refine sv E rfl rfl rfl (x_pickT E rfl rfl hb3 rfl) ?_
  clear a E;intro a E
  refine sv E rfl rfl rfl (x_assign E rfl rfl) ?_
  clear a E;intro a E
  refine wpList_nil ?_
  refine q_then ?_
  refine wp_ret ?_
  refine out1 E rfl rfl ?_
  obtain rfl := Option.some.inj hm
  exact ⟨rfl, H.reads (fun r hr => hr)⟩
 ·rw [if_f hb3] at hm
  refine st_no E (wf' E rfl rfl rfl rfl hb3 rfl) rfl rfl ?_
  clear a E;intro a E
  refine st_no E (wf' E rfl rfl rfl rfl hb3 rfl) rfl rfl ?_
  clear a E;intro a E
  refine st_no E (wf' E rfl rfl rfl rfl hb3 rfl) rfl rfl ?_
  clear a E;intro a E
  refine st_no E (wf' E rfl rfl rfl rfl hb3 rfl) rfl rfl ?_
  clear a E;intro a E
  refine st_no E (wf' E rfl rfl rfl rfl hb3 rfl) rfl rfl ?_
  clear a E;intro a E
  refine st_no E (wf' E rfl rfl rfl rfl hb3 rfl) rfl rfl ?_
  clear a E;intro a E
  refine sv E rfl rfl rfl (x_pickF E rfl rfl hb3 rfl) ?_
  clear a E;intro a E
  refine sv E rfl rfl rfl (x_assign E rfl rfl) ?_
  clear a E;intro a E
  refine wpList_nil ?_
  refine q_then ?_
  refine wp_ret ?_
  refine out1 E rfl rfl ?_
  obtain rfl := Option.some.inj hm
  exact ⟨rfl, H.reads (fun r hr => hr)⟩
end Go.Cb

set_option linter.unusedVariables false
set_option linter.unusedSimpArgs false
namespace Go.Cb
open Go.Proofs Go.RowKit
def m_internal_stringslite_CutPrefix (s1 : ByteArray) (s2 : ByteArray) : Option (ByteArray × Bool) :=
  (m_internal_stringslite_HasPrefix s1 s2).bind fun u3 => if (!u3) = true then (some (s1, false)) else ((ck (0 ≤ (s2.size : Int) ∧ (s2.size : Int) ≤ s1.size)).bind fun u5 => some (s1.extract (s2.size : Int).toNat s1.size, true))
set_option maxRecDepth 20000 in
set_option maxHeartbeats 1000000 in
theorem c_internal_stringslite_CutPrefix {w : World} {Fo : List Ob} {rs : List Rp} (s1 : ByteArray) (s2 : ByteArray) (H : Sep w (Fo) rs) {r : ByteArray × Bool} (hm : m_internal_stringslite_CutPrefix s1 s2 = some r) :
    Calls Tryz.prog 80 [.string s1, .string s2].toArray w (Ret fun v w' => .tuple #[.string r.1, .bool r.2] = v ∧ Sep w' (Fo) (rs)) := by
 unfold m_internal_stringslite_CutPrefix at hm
 refine enter Tryz.func80 rfl Tryz.ntmps80 rfl fun a E => ?_
 simp only [enum, Nat.reduceAdd] at E
 refine wp_seq ?_
 refine wp_region_lit ?_
 refine sv E rfl rfl rfl (x_assign E rfl rfl) ?_
 clear a E;intro a E
 refine sv E rfl rfl rfl (x_assign E rfl rfl) ?_
 clear a E;intro a E
 refine wpList_nil ?_
 refine q_then ?_
 refine wp_seq ?_
 refine wp_seq ?_
 refine wp_region_lit ?_
 refine sv E rfl rfl rfl (x_move E rfl rfl) ?_
 clear a E;intro a E
 refine sv E rfl rfl rfl (x_move E rfl rfl) ?_
 clear a E;intro a E
 obtain ⟨u3, hx4, hm⟩ := bnd hm
 refine st_call E (wn rfl) rfl rfl (x_call E rfl rfl (cf88 _)) (c_internal_stringslite_HasPrefix s1 s2 H hx4) ?_
 clear E H; clear a; clear w; rintro _ w ⟨rfl, H⟩ a E
 refine sv E rfl rfl rfl (x_not E rfl rfl) ?_
 clear a E;intro a E
 refine wpList_nil ?_
 refine q_then ?_
 refine wp_if E rfl ?_ ?_
 ·intro hb
  rw [if_t hb] at hm
  clear hb
  refine wp_seq ?_
  refine wp_region_lit ?_
  refine sv E rfl rfl rfl (x_move E rfl rfl) ?_
  clear a E;intro a E
  refine sv E rfl rfl rfl (x_assign E rfl rfl) ?_
  clear a E;intro a E
  refine sv E rfl rfl rfl (x_assign E rfl rfl) ?_
  clear a E;intro a E
  refine wpList_nil ?_
  refine q_then ?_
  refine wp_ret ?_
  refine q_thenR ?_
  refine out2 E rfl rfl rfl ?_
  obtain rfl := Option.some.inj hm
  exact ⟨rfl, H.reads (fun r hr => hr)⟩
 ·intro hb
  rw [if_f hb] at hm
  clear hb
  refine wp_skip ?_
  refine q_then ?_
  refine wp_seq ?_
  refine wp_region_lit ?_
  refine sv E rfl rfl rfl (x_move E rfl rfl) ?_
  clear a E;intro a E
  refine sv E rfl rfl rfl (x_move E rfl rfl) ?_
  clear a E;intro a E
  refine sv E rfl rfl rfl (x_lenStr E rfl rfl Tryz.underlying9) ?_
  clear a E;intro a E
  obtain ⟨u5, hx6, hm⟩ := bnd hm
  refine sv E rfl rfl rfl (x_subL E rfl rfl rfl Tryz.underlying9 (ck_of hx6)) ?_
  clear a E;intro a E
  refine sv E rfl rfl rfl (x_assign E rfl rfl) ?_
  clear a E;intro a E
  refine sv E rfl rfl rfl (x_assign E rfl rfl) ?_
  clear a E;intro a E
  refine wpList_nil ?_
  refine q_then ?_
  refine wp_ret ?_
  refine out2 E rfl rfl rfl ?_
  obtain rfl := Option.some.inj hm
  exact ⟨rfl, H.reads (fun r hr => hr)⟩
end Go.Cb

set_option linter.unusedVariables false
set_option linter.unusedSimpArgs false
namespace Go.Cb
open Go.Proofs Go.RowKit
def m_strings_CutPrefix (s1 : ByteArray) (s2 : ByteArray) : Option (ByteArray × Bool) :=
  (m_internal_stringslite_CutPrefix s1 s2).bind fun u3 => some (u3.1, u3.2)
set_option maxRecDepth 20000 in
set_option maxHeartbeats 1000000 in
theorem c_strings_CutPrefix {w : World} {Fo : List Ob} {rs : List Rp} (s1 : ByteArray) (s2 : ByteArray) (H : Sep w (Fo) rs) {r : ByteArray × Bool} (hm : m_strings_CutPrefix s1 s2 = some r) :
    Calls Tryz.prog 70 [.string s1, .string s2].toArray w (Ret fun v w' => .tuple #[.string r.1, .bool r.2] = v ∧ Sep w' (Fo) (rs)) := by
 unfold m_strings_CutPrefix at hm
 refine enter Tryz.func70 rfl Tryz.ntmps70 rfl fun a E => ?_
 simp only [enum, Nat.reduceAdd] at E
 refine wp_seq ?_
 refine wp_region_lit ?_
 refine sv E rfl rfl rfl (x_assign E rfl rfl) ?_
 clear a E;intro a E
 refine sv E rfl rfl rfl (x_assign E rfl rfl) ?_
 clear a E;intro a E
 refine wpList_nil ?_
 refine q_then ?_
 refine wp_seq ?_
 refine wp_region_lit ?_
 refine sv E rfl rfl rfl (x_move E rfl rfl) ?_
 clear a E;intro a E
 refine sv E rfl rfl rfl (x_move E rfl rfl) ?_
 clear a E;intro a E
 obtain ⟨u3, hx4, hm⟩ := bnd hm
 refine st_call E (wn rfl) rfl rfl (x_call E rfl rfl (cf80 _)) (c_internal_stringslite_CutPrefix s1 s2 H hx4) ?_
 clear E H; clear a; clear w; rintro _ w ⟨rfl, H⟩ a E
 refine sv E rfl rfl rfl (x_ext E rfl rfl rfl) ?_
 clear a E;intro a E
 refine sv E rfl rfl rfl (x_ext E rfl rfl rfl) ?_
 clear a E;intro a E
 refine sv E rfl rfl rfl (x_assign E rfl rfl) ?_
 clear a E;intro a E
 refine sv E rfl rfl rfl (x_assign E rfl rfl) ?_
 clear a E;intro a E
 refine wpList_nil ?_
 refine q_then ?_
 refine wp_ret ?_
 refine out2 E rfl rfl rfl ?_
 obtain rfl := Option.some.inj hm
 exact ⟨rfl, H.reads (fun r hr => hr)⟩
end Go.Cb

set_option linter.unusedVariables false
set_option linter.unusedSimpArgs false
namespace Go.Cb
open Go.Proofs Go.RowKit
def m_path_Split_j1 : Option ((List ByteArray) × Bool) :=
  some ([], false)
def m_path_Split_j2 (rec_1 : ByteArray → (List ByteArray) → Option ((List ByteArray) × Bool)) (u9 : ByteArray × Bool) (l6 : (List ByteArray)) (x14 : Int) : Option ((List ByteArray) × Bool) :=
  (ck (0 ≤ x14 ∧ x14 ≤ u9.1.size)).bind fun u17 => (m_path_part (u9.1.extract 0 x14.toNat)).bind fun u19 => if (!u19) = true then (m_path_Split_j1) else ((ck (0 ≤ x14 ∧ x14 ≤ u9.1.size)).bind fun u21 => (ck (l6.length + ([u9.1.extract 0 x14.toNat] : List ByteArray).length ≤ LIM)).bind fun u25 => (ck (0 ≤ x14 ∧ x14 ≤ u9.1.size)).bind fun u27 => rec_1 (u9.1.extract x14.toNat u9.1.size) (l6 ++ ([u9.1.extract 0 x14.toNat] : List ByteArray)))
def m_path_Split_l1 : Nat → ByteArray → (List ByteArray) → Option ((List ByteArray) × Bool)
  | 0, _, _ => none
  | k1 + 1, s4, l6 =>
    if (!(sEq s4 (ByteArray.mk #[]))) = true then ((m_strings_CutPrefix s4 (ByteArray.mk #[47])).bind fun u9 => if (!u9.2) = true then (m_path_Split_j1) else (if ((l6.length : Int) == 6) = true then (m_path_Split_j1) else ((m_strings_IndexByte u9.1 47).bind fun u12 => if (decide (u12 < 0)) = true then (m_path_Split_j2 (m_path_Split_l1 k1) u9 l6 (u9.1.size : Int)) else (m_path_Split_j2 (m_path_Split_l1 k1) u9 l6 u12)))) else (if (decide ((l6.length : Int) > 0)) = true then (some (l6, true)) else (some ([], false)))
def m_path_Split (s1 : ByteArray) : Option ((List ByteArray) × Bool) :=
  if (sEq s1 (ByteArray.mk #[47])) = true then (some ([], true)) else (m_path_Split_l1 (s1.size + 2) s1 [])
set_option maxRecDepth 20000 in
set_option maxHeartbeats 1000000 in
theorem c_path_Split {w : World} {Fo : List Ob} {rs : List Rp} (s1 : ByteArray) (H : Sep w (Fo) rs) {r : (List ByteArray) × Bool} (hm : m_path_Split s1 = some r) :
    Calls Tryz.prog 59 [.string s1].toArray w (Ret fun v w' => ∃ (v5001 : Value), .tuple #[v5001, .bool r.2] = v ∧ Sep w' (Row 9 kS v5001 r.1 :: Fo) (rs)) := by
 unfold m_path_Split at hm
 refine enter Tryz.func59 rfl Tryz.ntmps59 rfl fun a E => ?_
 simp only [enum, Nat.reduceAdd] at E
 refine wp_seq ?_
 refine wp_region_lit ?_
 refine sv E rfl rfl rfl (x_assign E rfl rfl) ?_
 clear a E;intro a E
 refine sv E rfl rfl rfl (x_assign E rfl rfl) ?_
 clear a E;intro a E
 refine wpList_nil ?_
 refine q_then ?_
 refine wp_scope_jumps 0 (fun a w => ∃ (rs2 : List Rp), Env 48 a [] ∧ Sep w (Fo) rs2 ∧ (∀ r, r ∈ rs → r ∈ rs2) ∧ m_path_Split_j1 = some r) (fun _ _ => 0) rfl ?_ ?_
 ·refine wp_seq ?_
  refine wp_region_lit ?_
  refine sv E rfl rfl rfl (x_assign E rfl rfl) ?_
  clear a E;intro a E
  refine wpList_nil ?_
  refine q_then ?_
  refine wp_seq ?_
  refine wp_seq ?_
  refine wp_region_lit ?_
  refine sv E rfl rfl rfl (x_move E rfl rfl) ?_
  clear a E;intro a E
  refine sv E rfl rfl rfl (x_str E rfl rfl rfl rfl) ?_
  clear a E;intro a E
  refine wpList_nil ?_
  refine q_then ?_
  refine wp_if E rfl ?_ ?_
  ·intro hb
   rw [if_t hb] at hm
   clear hb
   refine wp_seq ?_
   refine wp_region_lit ?_
   refine sv E rfl rfl rfl (x_assign E rfl rfl) ?_
   clear a E;intro a E
   refine sv E rfl rfl rfl (x_assign E rfl rfl) ?_
   clear a E;intro a E
   refine wpList_nil ?_
   refine q_then ?_
   refine wp_ret ?_
   refine q_thenR ?_
   refine q_jumpR ?_
   refine out2 E rfl rfl rfl ?_
   replace H := H.nilRow 9 kS
   obtain rfl := Option.some.inj hm
   exact ⟨(.slice none 0 0), rfl, H.reads (fun r hr => hr)⟩
  ·intro hb
   rw [if_f hb] at hm
   clear hb
   refine wp_skip ?_
   refine q_then ?_
   refine wp_seq ?_
   refine wp_block ?_
   refine wp_loop_g (fun k1 a w => ∃ (v5 : Value) (s4 : ByteArray) (l6 : (List ByteArray)) (rs7 : List Rp), Env 48 a [(0, .string s4), (4, v5)] ∧ Sep w (Row 9 kS v5 l6 :: Fo) rs7 ∧ (∀ r, r ∈ rs → r ∈ rs7) ∧ m_path_Split_l1 k1 s4 l6 = some r) (s1.size + 2) ?_ ?_
   ·replace H := H.nilRow 9 kS
    exact ⟨(.slice none 0 0), s1, [], _, ((E.nil.keep E 4 rfl).keep E 0 rfl), H, fun r hr => hr, hm⟩
   ·clear E H hm
    rintro k1 a w ⟨v5, s4, l6, rs7, E, H, hs8, hm⟩
    cases k1 with
    | zero => exact (none_some hm rfl).elim
    | succ k1 =>
     unfold m_path_Split_l1 at hm
     refine wp_seq ?_
     refine wp_seq ?_
     refine wp_region_lit ?_
     refine sv E rfl rfl rfl (x_move E rfl rfl) ?_
     clear a E;intro a E
     refine sv E rfl rfl rfl (x_str E rfl rfl rfl rfl) ?_
     clear a E;intro a E
     refine wpList_nil ?_
     refine q_then ?_
     refine wp_if E rfl ?_ ?_
     ·intro hb
      rw [if_t hb] at hm
      clear hb
      refine wp_skip ?_
      refine q_then ?_
      refine wp_block ?_
      refine wp_seq ?_
      refine wp_region_lit ?_
      refine sv E rfl rfl rfl (x_move E rfl rfl) ?_
      clear a E;intro a E
      obtain ⟨u9, hx10, hm⟩ := bnd hm
      refine st_call E (wn rfl) rfl rfl (x_call E rfl rfl (cf70 _)) (c_strings_CutPrefix s4 (ByteArray.mk #[47]) H hx10) ?_
      clear E H; clear a; clear w; rintro _ w ⟨rfl, H⟩ a E
      refine sv E rfl rfl rfl (x_move E rfl rfl) ?_
      clear a E;intro a E
      refine sv E rfl rfl rfl (x_ext E rfl rfl rfl) ?_
      clear a E;intro a E
      refine sv E rfl rfl rfl (x_ext E rfl rfl rfl) ?_
      clear a E;intro a E
      refine sv E rfl rfl rfl (x_assign E rfl rfl) ?_
      clear a E;intro a E
      refine sv E rfl rfl rfl (x_assign E rfl rfl) ?_
      clear a E;intro a E
      refine wpList_nil ?_
      refine q_then ?_
      refine wp_seq ?_
      refine wp_seq ?_
      refine wp_region_lit ?_
      refine sv E rfl rfl rfl (x_move E rfl rfl) ?_
      clear a E;intro a E
      refine sv E rfl rfl rfl (x_not E rfl rfl) ?_
      clear a E;intro a E
      refine sv E rfl rfl rfl (x_move E rfl rfl) ?_
      clear a E;intro a E
      rcases Bool.eq_false_or_eq_true (!u9.2) with hb11 | hb11
      ·rw [if_t hb11] at hm
       refine st_no E (wf' E rfl rfl rfl rfl hb11 rfl) rfl rfl ?_
       clear a E;intro a E
       refine st_no E (wf' E rfl rfl rfl rfl hb11 rfl) rfl rfl ?_
       clear a E;intro a E
       refine st_no E (wf' E rfl rfl rfl rfl hb11 rfl) rfl rfl ?_
       clear a E;intro a E
       refine sv E rfl rfl rfl (x_pickT E rfl rfl hb11 rfl) ?_
       clear a E;intro a E
       refine wpList_nil ?_
       refine q_then ?_
       refine wp_cond_true (E.eval rfl) ?_
       refine wp_goto ?_
       refine q_thenG ?_
       refine q_blkG ?_
       refine q_thenG ?_
       refine q_blkG ?_
       refine q_thenG ?_
       refine q_jump ?_
       replace H := H.drop 0
       exact ⟨_, E.nil, H, hs8, hm⟩
      ·rw [if_f hb11] at hm
       refine st_val E (ws' E rfl rfl rfl rfl hb11) rfl rfl (x_move E rfl rfl) ?_
       clear a E;intro a E
       refine st_val E (ws' E rfl rfl rfl rfl hb11) rfl rfl (x_lenR (i := 0) E H rfl rfl rfl Tryz.underlying29) ?_
       clear a E;intro a E
       refine st_val E (ws' E rfl rfl rfl rfl hb11) rfl rfl (x_bin E rfl rfl rfl rfl) ?_
       clear a E;intro a E
       refine sv E rfl rfl rfl (x_pickF E rfl rfl hb11 rfl) ?_
       clear a E;intro a E
       refine wpList_nil ?_
       refine q_then ?_
       refine wp_if E rfl ?_ ?_
       ·intro hb
        rw [if_t hb] at hm
        clear hb
        refine wp_goto ?_
        refine q_thenG ?_
        refine q_blkG ?_
        refine q_thenG ?_
        refine q_blkG ?_
        refine q_thenG ?_
        refine q_jump ?_
        replace H := H.drop 0
        exact ⟨_, E.nil, H, hs8, hm⟩
       ·intro hb
        rw [if_f hb] at hm
        clear hb
        refine wp_skip ?_
        refine q_then ?_
        refine wp_seq ?_
        refine wp_region_lit ?_
        refine sv E rfl rfl rfl (x_move E rfl rfl) ?_
        clear a E;intro a E
        obtain ⟨u12, hx13, hm⟩ := bnd hm
        refine st_call E (wn rfl) rfl rfl (x_call E rfl rfl (cf71 _)) (c_strings_IndexByte u9.1 47 H hx13) ?_
        clear E H; clear a; clear w; rintro _ w ⟨rfl, H⟩ a E
        refine sv E rfl rfl rfl (x_assign E rfl rfl) ?_
        clear a E;intro a E
        refine wpList_nil ?_
        refine q_then ?_
        refine wp_seq_cut (fun a w => ∃ (x14 : Int) (rs15 : List Rp), Env 48 a [(4, v5), (5, .string u9.1), (7, .int .i64 x14)] ∧ Sep w (Row 9 kS v5 l6 :: Fo) rs15 ∧ (∀ r, r ∈ rs → r ∈ rs15) ∧ m_path_Split_j2 (m_path_Split_l1 k1) u9 l6 x14 = some r) ?_ ?_
        ·refine wp_seq ?_
         refine wp_region_lit ?_
         refine sv E rfl rfl rfl (x_move E rfl rfl) ?_
         clear a E;intro a E
         refine sv E rfl rfl rfl (x_bin E rfl rfl rfl rfl) ?_
         clear a E;intro a E
         refine wpList_nil ?_
         refine q_then ?_
         refine wp_if E rfl ?_ ?_
         ·intro hb
          rw [if_t hb] at hm
          clear hb
          refine wp_region_lit ?_
          refine sv E rfl rfl rfl (x_move E rfl rfl) ?_
          clear a E;intro a E
          refine sv E rfl rfl rfl (x_lenStr E rfl rfl Tryz.underlying9) ?_
          clear a E;intro a E
          refine sv E rfl rfl rfl (x_assign E rfl rfl) ?_
          clear a E;intro a E
          refine wpList_nil ?_
          refine q_then ?_
          exact ⟨(u9.1.size : Int), _, (((E.nil.keep E 7 rfl).keep E 5 rfl).keep E 4 rfl), H, hs8, hm⟩
         ·intro hb
          rw [if_f hb] at hm
          clear hb
          refine wp_skip ?_
          refine q_then ?_
          exact ⟨u12, _, (((E.nil.keep E 7 rfl).keep E 5 rfl).keep E 4 rfl), H, hs8, hm⟩
        ·clear E H hm
         rintro a w ⟨x14, rs15, E, H, hs16, hm⟩
         unfold m_path_Split_j2 at hm
         refine wp_seq ?_
         refine wp_seq ?_
         refine wp_region_lit ?_
         refine sv E rfl rfl rfl (x_move E rfl rfl) ?_
         clear a E;intro a E
         refine sv E rfl rfl rfl (x_move E rfl rfl) ?_
         clear a E;intro a E
         obtain ⟨u17, hx18, hm⟩ := bnd hm
         refine sv E rfl rfl rfl (x_subH E rfl rfl rfl Tryz.underlying9 (ck_of hx18)) ?_
         clear a E;intro a E
         obtain ⟨u19, hx20, hm⟩ := bnd hm
         refine st_call E (wn rfl) rfl rfl (x_call E rfl rfl (cf61 _)) (c_path_part (u9.1.extract 0 x14.toNat) H hx20) ?_
         clear E H; clear a; clear w; rintro _ w ⟨rfl, H⟩ a E
         refine sv E rfl rfl rfl (x_not E rfl rfl) ?_
         clear a E;intro a E
         refine wpList_nil ?_
         refine q_then ?_
         refine wp_if E rfl ?_ ?_
         ·intro hb
          rw [if_t hb] at hm
          clear hb
          refine wp_goto ?_
          refine q_thenG ?_
          refine q_blkG ?_
          refine q_thenG ?_
          refine q_blkG ?_
          refine q_thenG ?_
          refine q_jump ?_
          replace H := H.drop 0
          exact ⟨_, E.nil, H, hs16, hm⟩
         ·intro hb
          rw [if_f hb] at hm
          clear hb
          refine wp_skip ?_
          refine q_then ?_
          refine wp_seq ?_
          refine wp_region_lit ?_
          refine sv E rfl rfl rfl (x_move E rfl rfl) ?_
          clear a E;intro a E
          refine sv E rfl rfl rfl (x_move E rfl rfl) ?_
          clear a E;intro a E
          refine sv E rfl rfl rfl (x_move E rfl rfl) ?_
          clear a E;intro a E
          obtain ⟨u21, hx22, hm⟩ := bnd hm
          refine sv E rfl rfl rfl (x_subH E rfl rfl rfl Tryz.underlying9 (ck_of hx22)) ?_
          clear a E;intro a E
          refine st_bsR (e := 9) (d := kS) (cs := [.string (u9.1.extract 0 x14.toNat)]) (xs := [u9.1.extract 0 x14.toNat]) E H (wn rfl) rfl rfl (ps := [(0, .tmp 38)]) (parts := [(0, .string (u9.1.extract 0 x14.toNat))]) rfl (by simp only [List.map]; rw [E.eval (x := .tmp 38) (v := .string (u9.1.extract 0 x14.toNat)) rfl]) (by kernel_rfl) rfl (fun ok hr => (Rows.single (d := kS) (cs := [.string (u9.1.extract 0 x14.toNat)]) (x := u9.1.extract 0 x14.toNat) rfl)) ?_
          clear E H; clear a; clear w; intro v23 w a H E
          obtain ⟨u25, hx26, hm⟩ := bnd hm
          refine st_append (i := 0) E H (wn rfl) rfl rfl rfl rfl rfl rfl (src_rd (.head _)) Tryz.underlying29 inf9 rfl (ck_of hx26) rfl ?_
          clear E H; clear a; clear w; intro v24 w a H E
          refine sv E rfl rfl rfl (x_assign E rfl rfl) ?_
          clear a E;intro a E
          refine wpList_nil ?_
          refine q_then ?_
          refine wp_region_lit ?_
          refine sv E rfl rfl rfl (x_move E rfl rfl) ?_
          clear a E;intro a E
          refine sv E rfl rfl rfl (x_move E rfl rfl) ?_
          clear a E;intro a E
          obtain ⟨u27, hx28, hm⟩ := bnd hm
          refine sv E rfl rfl rfl (x_subL E rfl rfl rfl Tryz.underlying9 (ck_of hx28)) ?_
          clear a E;intro a E
          refine sv E rfl rfl rfl (x_assign E rfl rfl) ?_
          clear a E;intro a E
          refine wpList_nil ?_
          refine q_blk ?_
          refine q_then ?_
          exact ⟨k1, Nat.lt_succ_self k1, v24, u9.1.extract x14.toNat u9.1.size, l6 ++ ([u9.1.extract 0 x14.toNat] : List ByteArray), _, ((E.nil.keep E 4 rfl).keep E 0 rfl), H, fun r hr => .tail _ (hs16 r hr), hm⟩
     ·intro hb
      rw [if_f hb] at hm
      clear hb
      refine wp_exit ?_
      refine q_thenX ?_
      refine q_thenX ?_
      refine q_hit ?_
      refine q_then ?_
      refine wp_seq ?_
      refine wp_seq ?_
      refine wp_region_lit ?_
      refine sv E rfl rfl rfl (x_move E rfl rfl) ?_
      clear a E;intro a E
      refine sv E rfl rfl rfl (x_lenR (i := 0) E H rfl rfl rfl Tryz.underlying29) ?_
      clear a E;intro a E
      refine sv E rfl rfl rfl (x_bin E rfl rfl rfl rfl) ?_
      clear a E;intro a E
      refine wpList_nil ?_
      refine q_then ?_
      refine wp_if E rfl ?_ ?_
      ·intro hb
       rw [if_t hb] at hm
       clear hb
       refine wp_seq ?_
       refine wp_region_lit ?_
       refine sv E rfl rfl rfl (x_move E rfl rfl) ?_
       clear a E;intro a E
       refine sv E rfl rfl rfl (x_assign E rfl rfl) ?_
       clear a E;intro a E
       refine sv E rfl rfl rfl (x_assign E rfl rfl) ?_
       clear a E;intro a E
       refine wpList_nil ?_
       refine q_then ?_
       refine wp_ret ?_
       refine q_thenR ?_
       refine q_jumpR ?_
       refine out2 E rfl rfl rfl ?_
       obtain rfl := Option.some.inj hm
       exact ⟨v5, rfl, H.reads (fun r hr => hs8 r hr)⟩
      ·intro hb
       rw [if_f hb] at hm
       clear hb
       refine wp_skip ?_
       refine q_then ?_
       refine wp_seq ?_
       refine wp_label ?_
       refine q_then ?_
       refine wp_seq ?_
       refine wp_region_lit ?_
       refine sv E rfl rfl rfl (x_assign E rfl rfl) ?_
       clear a E;intro a E
       refine sv E rfl rfl rfl (x_assign E rfl rfl) ?_
       clear a E;intro a E
       refine wpList_nil ?_
       refine q_then ?_
       refine wp_ret ?_
       refine q_jumpR ?_
       refine out2 E rfl rfl rfl ?_
       replace H := H.nilRow 9 kS
       replace H := H.drop 1
       obtain rfl := Option.some.inj hm
       exact ⟨(.slice none 0 0), rfl, H.reads (fun r hr => hs8 r hr)⟩
 ·clear E H hm
  rintro a w ⟨rs2, E, H, hs3, hm⟩
  unfold m_path_Split_j1 at hm
  refine wp_seq ?_
  refine wp_skip ?_
  refine q_then ?_
  refine wp_seq ?_
  refine wp_region_lit ?_
  refine sv E rfl rfl rfl (x_assign E rfl rfl) ?_
  clear a E;intro a E
  refine sv E rfl rfl rfl (x_assign E rfl rfl) ?_
  clear a E;intro a E
  refine wpList_nil ?_
  refine q_then ?_
  refine wp_ret ?_
  refine q_jumpR ?_
  refine out2 E rfl rfl rfl ?_
  replace H := H.nilRow 9 kS
  obtain rfl := Option.some.inj hm
  exact ⟨(.slice none 0 0), rfl, H.reads (fun r hr => hs3 r hr)⟩
end Go.Cb

set_option linter.unusedVariables false
set_option linter.unusedSimpArgs false
namespace Go.Cb
open Go.Proofs Go.RowKit
def m_path_Right (s1 : ByteArray) : Option Bool :=
  (m_path_Split s1).bind fun u2 => some (u2.2)
set_option maxRecDepth 20000 in
set_option maxHeartbeats 1000000 in
theorem c_path_Right {w : World} {Fo : List Ob} {rs : List Rp} (s1 : ByteArray) (H : Sep w (Fo) rs) {r : Bool} (hm : m_path_Right s1 = some r) :
    Calls Tryz.prog 37 [.string s1].toArray w (Ret fun v w' => .bool r = v ∧ Sep w' (Fo) (rs)) := by
 unfold m_path_Right at hm
 refine enter Tryz.func37 rfl Tryz.ntmps37 rfl fun a E => ?_
 simp only [enum, Nat.reduceAdd] at E
 refine wp_seq ?_
 refine wp_region_lit ?_
 refine sv E rfl rfl rfl (x_assign E rfl rfl) ?_
 clear a E;intro a E
 refine wpList_nil ?_
 refine q_then ?_
 refine wp_seq ?_
 refine wp_region_lit ?_
 refine sv E rfl rfl rfl (x_move E rfl rfl) ?_
 clear a E;intro a E
 obtain ⟨u2, hx3, hm⟩ := bnd hm
 refine st_call E (wn rfl) rfl rfl (x_call E rfl rfl (cf59 _)) (c_path_Split s1 H hx3) ?_
 clear E H; clear a; clear w; rintro _ w ⟨v4, rfl, H⟩ a E
 refine sv E rfl rfl rfl (x_move E rfl rfl) ?_
 clear a E;intro a E
 refine sv E rfl rfl rfl (x_ext E rfl rfl rfl) ?_
 clear a E;intro a E
 refine sv E rfl rfl rfl (x_ext E rfl rfl rfl) ?_
 clear a E;intro a E
 refine sv E rfl rfl rfl (x_assign E rfl rfl) ?_
 clear a E;intro a E
 refine sv E rfl rfl rfl (x_assign E rfl rfl) ?_
 clear a E;intro a E
 refine wpList_nil ?_
 refine q_then ?_
 refine wp_seq ?_
 refine wp_region_lit ?_
 refine sv E rfl rfl rfl (x_move E rfl rfl) ?_
 clear a E;intro a E
 refine sv E rfl rfl rfl (x_assign E rfl rfl) ?_
 clear a E;intro a E
 refine wpList_nil ?_
 refine q_then ?_
 refine wp_ret ?_
 refine out1 E rfl rfl ?_
 replace H := H.drop 0
 obtain rfl := Option.some.inj hm
 exact ⟨rfl, H.reads (fun r hr => hr)⟩
end Go.Cb

set_option linter.unusedVariables false
set_option linter.unusedSimpArgs false
namespace Go.Cb
open Go.Proofs Go.RowKit
def m_cantonref01_Split_j2 (rec_1 : (List ByteArray) → Int → Int → Option ((List ByteArray) × Bool)) (x8 : Int) (l12 : (List ByteArray)) (x13 : Int) : Option ((List ByteArray) × Bool) :=
  rec_1 l12 x13 (IntKind.i64.wrap (x8 + 1))
def m_cantonref01_Split_j4 (rec_1 : (List ByteArray) → Int → Int → Option ((List ByteArray) × Bool)) (x8 : Int) (x7 : Int) (s1 : ByteArray) (l6 : (List ByteArray)) (b18 : Bool) : Option ((List ByteArray) × Bool) :=
  if b18 = true then (some ([], false)) else ((ck (0 ≤ x7 ∧ x7 ≤ x8 ∧ x8 ≤ s1.size)).bind fun u21 => (ck (l6.length + ([s1.extract x7.toNat x8.toNat] : List ByteArray).length ≤ LIM)).bind fun u25 => m_cantonref01_Split_j2 rec_1 x8 (l6 ++ ([s1.extract x7.toNat x8.toNat] : List ByteArray)) (IntKind.i64.wrap (x8 + 1)))
def m_cantonref01_Split_j3 (rec_1 : (List ByteArray) → Int → Int → Option ((List ByteArray) × Bool)) (x8 : Int) (x7 : Int) (s1 : ByteArray) (l6 : (List ByteArray)) : Option ((List ByteArray) × Bool) :=
  (ck (0 ≤ x7 ∧ x7 ≤ x8 ∧ x8 ≤ s1.size)).bind fun u27 => (m_cantonref01_Part (s1.extract x7.toNat x8.toNat)).bind fun u29 => if (!u29) = true then (m_cantonref01_Split_j4 rec_1 x8 x7 s1 l6 true) else (m_cantonref01_Split_j4 rec_1 x8 x7 s1 l6 (decide ((l6.length : Int) ≥ 6)))
def m_cantonref01_Split_l1 (s1 : ByteArray) : Nat → (List ByteArray) → Int → Int → Option ((List ByteArray) × Bool)
  | 0, _, _, _ => none
  | k1 + 1, l6, x7, x8 =>
    if (decide (x8 ≤ (s1.size : Int))) = true then (if (decide (x8 < (s1.size : Int))) = true then ((idx s1.data.toList x8).bind fun x33 => if ((x33.toNat : Int) != 47) = true then (m_cantonref01_Split_j2 (m_cantonref01_Split_l1 s1 k1) x8 l6 x7) else (m_cantonref01_Split_j3 (m_cantonref01_Split_l1 s1 k1) x8 x7 s1 l6)) else (m_cantonref01_Split_j3 (m_cantonref01_Split_l1 s1 k1) x8 x7 s1 l6)) else (some (l6, true))
def m_cantonref01_Split_j1 (s1 : ByteArray) (b2 : Bool) : Option ((List ByteArray) × Bool) :=
  if b2 = true then (some ([], false)) else (m_cantonref01_Split_l1 s1 (((s1.size : Int) - 1 : Int).toNat + 2) [] 1 1)
def m_cantonref01_Split (s1 : ByteArray) : Option ((List ByteArray) × Bool) :=
  if (sEq s1 (ByteArray.mk #[47])) = true then (some ([], true)) else (if (sEq s1 (ByteArray.mk #[])) = true then (m_cantonref01_Split_j1 s1 true) else ((idx s1.data.toList 0).bind fun x36 => m_cantonref01_Split_j1 s1 ((x36.toNat : Int) != 47)))
set_option maxRecDepth 20000 in
set_option maxHeartbeats 1000000 in
theorem c_cantonref01_Split {w : World} {Fo : List Ob} {rs : List Rp} (s1 : ByteArray) (H : Sep w (Fo) rs) {r : (List ByteArray) × Bool} (hm : m_cantonref01_Split s1 = some r) :
    Calls Tryz.prog 56 [.string s1].toArray w (Ret fun v w' => ∃ (v5001 : Value), .tuple #[v5001, .bool r.2] = v ∧ Sep w' (Row 9 kS v5001 r.1 :: Fo) (rs)) := by
 unfold m_cantonref01_Split at hm
 refine enter Tryz.func56 rfl Tryz.ntmps56 rfl fun a E => ?_
 simp only [enum, Nat.reduceAdd] at E
 refine wp_seq ?_
 refine wp_region_lit ?_
 refine sv E rfl rfl rfl (x_assign E rfl rfl) ?_
 clear a E;intro a E
 refine sv E rfl rfl rfl (x_assign E rfl rfl) ?_
 clear a E;intro a E
 refine wpList_nil ?_
 refine q_then ?_
 refine wp_seq ?_
 refine wp_seq ?_
 refine wp_region_lit ?_
 refine sv E rfl rfl rfl (x_move E rfl rfl) ?_
 clear a E;intro a E
 refine sv E rfl rfl rfl (x_str E rfl rfl rfl rfl) ?_
 clear a E;intro a E
 refine wpList_nil ?_
 refine q_then ?_
 refine wp_if E rfl ?_ ?_
 ·intro hb
  rw [if_t hb] at hm
  clear hb
  refine wp_seq ?_
  refine wp_region_lit ?_
  refine sv E rfl rfl rfl (x_assign E rfl rfl) ?_
  clear a E;intro a E
  refine sv E rfl rfl rfl (x_assign E rfl rfl) ?_
  clear a E;intro a E
  refine wpList_nil ?_
  refine q_then ?_
  refine wp_ret ?_
  refine q_thenR ?_
  refine out2 E rfl rfl rfl ?_
  replace H := H.nilRow 9 kS
  obtain rfl := Option.some.inj hm
  exact ⟨(.slice none 0 0), rfl, H.reads (fun r hr => hr)⟩
 ·intro hb
  rw [if_f hb] at hm
  clear hb
  refine wp_skip ?_
  refine q_then ?_
  refine wp_seq ?_
  refine wp_seq_cut (fun a w => ∃ (b2 : Bool) (rs3 : List Rp), Env 53 a [(0, .string s1), (15, .bool b2)] ∧ Sep w (Fo) rs3 ∧ (∀ r, r ∈ rs → r ∈ rs3) ∧ m_cantonref01_Split_j1 s1 b2 = some r) ?_ ?_
  ·refine wp_region_lit ?_
   refine sv E rfl rfl rfl (x_move E rfl rfl) ?_
   clear a E;intro a E
   refine sv E rfl rfl rfl (x_str E rfl rfl rfl rfl) ?_
   clear a E;intro a E
   refine sv E rfl rfl rfl (x_move E rfl rfl) ?_
   clear a E;intro a E
   rcases Bool.eq_false_or_eq_true (sEq s1 (ByteArray.mk #[])) with hb35 | hb35
   ·rw [if_t hb35] at hm
    refine st_no E (wf' E rfl rfl rfl rfl hb35 rfl) rfl rfl ?_
    clear a E;intro a E
    refine st_no E (wf' E rfl rfl rfl rfl hb35 rfl) rfl rfl ?_
    clear a E;intro a E
    refine st_no E (wf' E rfl rfl rfl rfl hb35 rfl) rfl rfl ?_
    clear a E;intro a E
    refine sv E rfl rfl rfl (x_pickT E rfl rfl hb35 rfl) ?_
    clear a E;intro a E
    refine wpList_nil ?_
    refine q_then ?_
    exact ⟨true, _, ((E.nil.keep E 15 rfl).keep E 0 rfl), H, fun r hr => hr, hm⟩
   ·rw [if_f hb35] at hm
    refine st_val E (ws' E rfl rfl rfl rfl hb35) rfl rfl (x_move E rfl rfl) ?_
    clear a E;intro a E
    obtain ⟨x36, hx37, hm⟩ := bnd hm
    refine st_val E (ws' E rfl rfl rfl rfl hb35) rfl rfl (x_ix E rfl rfl rfl Tryz.underlying9 hx37) ?_
    clear a E;intro a E
    refine st_val E (ws' E rfl rfl rfl rfl hb35) rfl rfl (x_bin E rfl rfl rfl rfl) ?_
    clear a E;intro a E
    refine sv E rfl rfl rfl (x_pickF E rfl rfl hb35 rfl) ?_
    clear a E;intro a E
    refine wpList_nil ?_
    refine q_then ?_
    exact ⟨(x36.toNat : Int) != 47, _, ((E.nil.keep E 15 rfl).keep E 0 rfl), H, fun r hr => hr, hm⟩
  ·clear E H hm
   rintro a w ⟨b2, rs3, E, H, hs4, hm⟩
   unfold m_cantonref01_Split_j1 at hm
   refine wp_if E rfl ?_ ?_
   ·intro hb
    rw [if_t hb] at hm
    clear hb
    refine wp_seq ?_
    refine wp_region_lit ?_
    refine sv E rfl rfl rfl (x_assign E rfl rfl) ?_
    clear a E;intro a E
    refine sv E rfl rfl rfl (x_assign E rfl rfl) ?_
    clear a E;intro a E
    refine wpList_nil ?_
    refine q_then ?_
    refine wp_ret ?_
    refine q_thenR ?_
    refine out2 E rfl rfl rfl ?_
    replace H := H.nilRow 9 kS
    obtain rfl := Option.some.inj hm
    exact ⟨(.slice none 0 0), rfl, H.reads (fun r hr => hs4 r hr)⟩
   ·intro hb
    rw [if_f hb] at hm
    clear hb
    refine wp_skip ?_
    refine q_then ?_
    refine wp_seq ?_
    refine wp_region_lit ?_
    refine sv E rfl rfl rfl (x_assign E rfl rfl) ?_
    clear a E;intro a E
    refine wpList_nil ?_
    refine q_then ?_
    refine wp_seq ?_
    refine wp_region_lit ?_
    refine sv E rfl rfl rfl (x_assign E rfl rfl) ?_
    clear a E;intro a E
    refine wpList_nil ?_
    refine q_then ?_
    refine wp_seq ?_
    refine wp_seq ?_
    refine wp_region_lit ?_
    refine sv E rfl rfl rfl (x_assign E rfl rfl) ?_
    clear a E;intro a E
    refine wpList_nil ?_
    refine q_then ?_
    refine wp_block ?_
    refine wp_loop_g (fun k1 a w => ∃ (v5 : Value) (l6 : (List ByteArray)) (x7 : Int) (x8 : Int) (rs9 : List Rp), Env 53 a [(0, .string s1), (4, v5), (5, .int .i64 x7), (6, .int .i64 x8)] ∧ Sep w (Row 9 kS v5 l6 :: Fo) rs9 ∧ (∀ r, r ∈ rs → r ∈ rs9) ∧ m_cantonref01_Split_l1 s1 k1 l6 x7 x8 = some r) (((s1.size : Int) - 1 : Int).toNat + 2) ?_ ?_
    ·replace H := H.nilRow 9 kS
     exact ⟨(.slice none 0 0), [], 1, 1, _, ((((E.nil.keep E 6 rfl).keep E 5 rfl).keep E 4 rfl).keep E 0 rfl), H, hs4, hm⟩
    ·clear E H hm
     rintro k1 a w ⟨v5, l6, x7, x8, rs9, E, H, hs10, hm⟩
     cases k1 with
     | zero => exact (none_some hm rfl).elim
     | succ k1 =>
      unfold m_cantonref01_Split_l1 at hm
      refine wp_seq ?_
      refine wp_seq ?_
      refine wp_region_lit ?_
      refine sv E rfl rfl rfl (x_move E rfl rfl) ?_
      clear a E;intro a E
      refine sv E rfl rfl rfl (x_move E rfl rfl) ?_
      clear a E;intro a E
      refine sv E rfl rfl rfl (x_lenStr E rfl rfl Tryz.underlying9) ?_
      clear a E;intro a E
      refine sv E rfl rfl rfl (x_bin E rfl rfl rfl rfl) ?_
      clear a E;intro a E
      refine wpList_nil ?_
      refine q_then ?_
      refine wp_if E rfl ?_ ?_
      ·intro hb
       rw [if_t hb] at hm
       clear hb
       refine wp_skip ?_
       refine q_then ?_
       refine wp_seq_cut (fun a w => ∃ (v11 : Value) (l12 : (List ByteArray)) (x13 : Int) (rs14 : List Rp), Env 53 a [(0, .string s1), (4, v11), (5, .int .i64 x13), (6, .int .i64 x8)] ∧ Sep w (Row 9 kS v11 l12 :: Fo) rs14 ∧ (∀ r, r ∈ rs → r ∈ rs14) ∧ m_cantonref01_Split_j2 (m_cantonref01_Split_l1 s1 k1) x8 l12 x13 = some r) ?_ ?_
       ·refine wp_block ?_
        refine wp_seq_cut (fun a w => ∃ (rs16 : List Rp), Env 53 a [(0, .string s1), (4, v5), (5, .int .i64 x7), (6, .int .i64 x8)] ∧ Sep w (Row 9 kS v5 l6 :: Fo) rs16 ∧ (∀ r, r ∈ rs → r ∈ rs16) ∧ m_cantonref01_Split_j3 (m_cantonref01_Split_l1 s1 k1) x8 x7 s1 l6 = some r) ?_ ?_
        ·refine wp_seq ?_
         refine wp_region_lit ?_
         refine sv E rfl rfl rfl (x_move E rfl rfl) ?_
         clear a E;intro a E
         refine sv E rfl rfl rfl (x_move E rfl rfl) ?_
         clear a E;intro a E
         refine sv E rfl rfl rfl (x_lenStr E rfl rfl Tryz.underlying9) ?_
         clear a E;intro a E
         refine sv E rfl rfl rfl (x_bin E rfl rfl rfl rfl) ?_
         clear a E;intro a E
         refine sv E rfl rfl rfl (x_move E rfl rfl) ?_
         clear a E;intro a E
         rcases Bool.eq_false_or_eq_true (decide (x8 < (s1.size : Int))) with hb32 | hb32
         ·rw [if_t hb32] at hm
          refine st_val E (ws' E rfl rfl rfl rfl hb32) rfl rfl (x_move E rfl rfl) ?_
          clear a E;intro a E
          refine st_val E (ws' E rfl rfl rfl rfl hb32) rfl rfl (x_move E rfl rfl) ?_
          clear a E;intro a E
          obtain ⟨x33, hx34, hm⟩ := bnd hm
          refine st_val E (ws' E rfl rfl rfl rfl hb32) rfl rfl (x_ix E rfl rfl rfl Tryz.underlying9 hx34) ?_
          clear a E;intro a E
          refine st_val E (ws' E rfl rfl rfl rfl hb32) rfl rfl (x_bin E rfl rfl rfl rfl) ?_
          clear a E;intro a E
          refine sv E rfl rfl rfl (x_pickT E rfl rfl hb32 rfl) ?_
          clear a E;intro a E
          refine wpList_nil ?_
          refine q_then ?_
          refine wp_if E rfl ?_ ?_
          ·intro hb
           rw [if_t hb] at hm
           clear hb
           refine wp_exit ?_
           refine q_thenX ?_
           refine q_hit ?_
           refine q_then ?_
           exact ⟨v5, l6, x7, _, ((((E.nil.keep E 6 rfl).keep E 5 rfl).keep E 4 rfl).keep E 0 rfl), H, hs10, hm⟩
          ·intro hb
           rw [if_f hb] at hm
           clear hb
           refine wp_skip ?_
           refine q_then ?_
           exact ⟨_, ((((E.nil.keep E 6 rfl).keep E 5 rfl).keep E 4 rfl).keep E 0 rfl), H, hs10, hm⟩
         ·rw [if_f hb32] at hm
          refine st_no E (wf' E rfl rfl rfl rfl hb32 rfl) rfl rfl ?_
          clear a E;intro a E
          refine st_no E (wf' E rfl rfl rfl rfl hb32 rfl) rfl rfl ?_
          clear a E;intro a E
          refine st_no E (wf' E rfl rfl rfl rfl hb32 rfl) rfl rfl ?_
          clear a E;intro a E
          refine st_no E (wf' E rfl rfl rfl rfl hb32 rfl) rfl rfl ?_
          clear a E;intro a E
          refine sv E rfl rfl rfl (x_pickF E rfl rfl hb32 rfl) ?_
          clear a E;intro a E
          refine wpList_nil ?_
          refine q_then ?_
          refine wp_cond_false (E.eval rfl) ?_
          refine wp_skip ?_
          refine q_then ?_
          exact ⟨_, ((((E.nil.keep E 6 rfl).keep E 5 rfl).keep E 4 rfl).keep E 0 rfl), H, hs10, hm⟩
        ·clear E H hm
         rintro a w ⟨rs16, E, H, hs17, hm⟩
         unfold m_cantonref01_Split_j3 at hm
         refine wp_seq ?_
         refine wp_seq_cut (fun a w => ∃ (b18 : Bool) (rs19 : List Rp), Env 53 a [(0, .string s1), (4, v5), (5, .int .i64 x7), (6, .int .i64 x8), (42, .bool b18)] ∧ Sep w (Row 9 kS v5 l6 :: Fo) rs19 ∧ (∀ r, r ∈ rs → r ∈ rs19) ∧ m_cantonref01_Split_j4 (m_cantonref01_Split_l1 s1 k1) x8 x7 s1 l6 b18 = some r) ?_ ?_
         ·refine wp_region_lit ?_
          refine sv E rfl rfl rfl (x_move E rfl rfl) ?_
          clear a E;intro a E
          refine sv E rfl rfl rfl (x_move E rfl rfl) ?_
          clear a E;intro a E
          refine sv E rfl rfl rfl (x_move E rfl rfl) ?_
          clear a E;intro a E
          obtain ⟨u27, hx28, hm⟩ := bnd hm
          refine sv E rfl rfl rfl (x_sub E rfl rfl rfl rfl Tryz.underlying9 (ck_of hx28)) ?_
          clear a E;intro a E
          obtain ⟨u29, hx30, hm⟩ := bnd hm
          refine st_call E (wn rfl) rfl rfl (x_call E rfl rfl (cf68 _)) (c_cantonref01_Part (s1.extract x7.toNat x8.toNat) H hx30) ?_
          clear E H; clear a; clear w; rintro _ w ⟨rfl, H⟩ a E
          refine sv E rfl rfl rfl (x_not E rfl rfl) ?_
          clear a E;intro a E
          refine sv E rfl rfl rfl (x_move E rfl rfl) ?_
          clear a E;intro a E
          rcases Bool.eq_false_or_eq_true (!u29) with hb31 | hb31
          ·rw [if_t hb31] at hm
           refine st_no E (wf' E rfl rfl rfl rfl hb31 rfl) rfl rfl ?_
           clear a E;intro a E
           refine st_no E (wf' E rfl rfl rfl rfl hb31 rfl) rfl rfl ?_
           clear a E;intro a E
           refine st_no E (wf' E rfl rfl rfl rfl hb31 rfl) rfl rfl ?_
           clear a E;intro a E
           refine sv E rfl rfl rfl (x_pickT E rfl rfl hb31 rfl) ?_
           clear a E;intro a E
           refine wpList_nil ?_
           refine q_then ?_
           exact ⟨true, _, (((((E.nil.keep E 42 rfl).keep E 6 rfl).keep E 5 rfl).keep E 4 rfl).keep E 0 rfl), H, hs17, hm⟩
          ·rw [if_f hb31] at hm
           refine st_val E (ws' E rfl rfl rfl rfl hb31) rfl rfl (x_move E rfl rfl) ?_
           clear a E;intro a E
           refine st_val E (ws' E rfl rfl rfl rfl hb31) rfl rfl (x_lenR (i := 0) E H rfl rfl rfl Tryz.underlying29) ?_
           clear a E;intro a E
           refine st_val E (ws' E rfl rfl rfl rfl hb31) rfl rfl (x_bin E rfl rfl rfl rfl) ?_
           clear a E;intro a E
           refine sv E rfl rfl rfl (x_pickF E rfl rfl hb31 rfl) ?_
           clear a E;intro a E
           refine wpList_nil ?_
           refine q_then ?_
           exact ⟨decide ((l6.length : Int) ≥ 6), _, (((((E.nil.keep E 42 rfl).keep E 6 rfl).keep E 5 rfl).keep E 4 rfl).keep E 0 rfl), H, hs17, hm⟩
         ·clear E H hm
          rintro a w ⟨b18, rs19, E, H, hs20, hm⟩
          unfold m_cantonref01_Split_j4 at hm
          refine wp_if E rfl ?_ ?_
          ·intro hb
           rw [if_t hb] at hm
           clear hb
           refine wp_seq ?_
           refine wp_region_lit ?_
           refine sv E rfl rfl rfl (x_assign E rfl rfl) ?_
           clear a E;intro a E
           refine sv E rfl rfl rfl (x_assign E rfl rfl) ?_
           clear a E;intro a E
           refine wpList_nil ?_
           refine q_then ?_
           refine wp_ret ?_
           refine q_thenR ?_
           refine q_blkR ?_
           refine q_thenR ?_
           refine q_thenR ?_
           refine q_blkR ?_
           refine q_thenR ?_
           refine out2 E rfl rfl rfl ?_
           replace H := H.nilRow 9 kS
           replace H := H.drop 1
           obtain rfl := Option.some.inj hm
           exact ⟨(.slice none 0 0), rfl, H.reads (fun r hr => hs20 r hr)⟩
          ·intro hb
           rw [if_f hb] at hm
           clear hb
           refine wp_skip ?_
           refine q_then ?_
           refine wp_seq ?_
           refine wp_region_lit ?_
           refine sv E rfl rfl rfl (x_move E rfl rfl) ?_
           clear a E;intro a E
           refine sv E rfl rfl rfl (x_move E rfl rfl) ?_
           clear a E;intro a E
           refine sv E rfl rfl rfl (x_move E rfl rfl) ?_
           clear a E;intro a E
           refine sv E rfl rfl rfl (x_move E rfl rfl) ?_
           clear a E;intro a E
           obtain ⟨u21, hx22, hm⟩ := bnd hm
           refine sv E rfl rfl rfl (x_sub E rfl rfl rfl rfl Tryz.underlying9 (ck_of hx22)) ?_
           clear a E;intro a E
           refine st_bsR (e := 9) (d := kS) (cs := [.string (s1.extract x7.toNat x8.toNat)]) (xs := [s1.extract x7.toNat x8.toNat]) E H (wn rfl) rfl rfl (ps := [(0, .tmp 47)]) (parts := [(0, .string (s1.extract x7.toNat x8.toNat))]) rfl (by simp only [List.map]; rw [E.eval (x := .tmp 47) (v := .string (s1.extract x7.toNat x8.toNat)) rfl]) (by kernel_rfl) rfl (fun ok hr => (Rows.single (d := kS) (cs := [.string (s1.extract x7.toNat x8.toNat)]) (x := s1.extract x7.toNat x8.toNat) rfl)) ?_
           clear E H; clear a; clear w; intro v23 w a H E
           obtain ⟨u25, hx26, hm⟩ := bnd hm
           refine st_append (i := 0) E H (wn rfl) rfl rfl rfl rfl rfl rfl (src_rd (.head _)) Tryz.underlying29 inf9 rfl (ck_of hx26) rfl ?_
           clear E H; clear a; clear w; intro v24 w a H E
           refine sv E rfl rfl rfl (x_assign E rfl rfl) ?_
           clear a E;intro a E
           refine wpList_nil ?_
           refine q_then ?_
           refine wp_region_lit ?_
           refine sv E rfl rfl rfl (x_move E rfl rfl) ?_
           clear a E;intro a E
           refine sv E rfl rfl rfl (x_bin E rfl rfl rfl rfl) ?_
           clear a E;intro a E
           refine sv E rfl rfl rfl (x_assign E rfl rfl) ?_
           clear a E;intro a E
           refine wpList_nil ?_
           refine q_blk ?_
           refine q_then ?_
           exact ⟨v24, l6 ++ ([s1.extract x7.toNat x8.toNat] : List ByteArray), IntKind.i64.wrap (x8 + 1), _, ((((E.nil.keep E 6 rfl).keep E 5 rfl).keep E 4 rfl).keep E 0 rfl), H, fun r hr => .tail _ (hs20 r hr), hm⟩
       ·clear E H hm
        rintro a w ⟨v11, l12, x13, rs14, E, H, hs15, hm⟩
        unfold m_cantonref01_Split_j2 at hm
        refine wp_region_lit ?_
        refine sv E rfl rfl rfl (x_move E rfl rfl) ?_
        clear a E;intro a E
        refine sv E rfl rfl rfl (x_bin E rfl rfl rfl rfl) ?_
        clear a E;intro a E
        refine sv E rfl rfl rfl (x_assign E rfl rfl) ?_
        clear a E;intro a E
        refine wpList_nil ?_
        refine q_then ?_
        exact ⟨k1, Nat.lt_succ_self k1, v11, l12, x13, IntKind.i64.wrap (x8 + 1), _, ((((E.nil.keep E 6 rfl).keep E 5 rfl).keep E 4 rfl).keep E 0 rfl), H, hs15, hm⟩
      ·intro hb
       rw [if_f hb] at hm
       clear hb
       refine wp_exit ?_
       refine q_thenX ?_
       refine q_thenX ?_
       refine q_hit ?_
       refine q_then ?_
       refine wp_seq ?_
       refine wp_region_lit ?_
       refine sv E rfl rfl rfl (x_move E rfl rfl) ?_
       clear a E;intro a E
       refine sv E rfl rfl rfl (x_assign E rfl rfl) ?_
       clear a E;intro a E
       refine sv E rfl rfl rfl (x_assign E rfl rfl) ?_
       clear a E;intro a E
       refine wpList_nil ?_
       refine q_then ?_
       refine wp_ret ?_
       refine out2 E rfl rfl rfl ?_
       obtain rfl := Option.some.inj hm
       exact ⟨v5, rfl, H.reads (fun r hr => hs10 r hr)⟩
end Go.Cb

set_option linter.unusedVariables false
set_option linter.unusedSimpArgs false
namespace Go.Cb
open Go.Proofs Go.RowKit
def m_cantonref01_Right (s1 : ByteArray) : Option Bool :=
  (m_cantonref01_Split s1).bind fun u2 => some (u2.2)
set_option maxRecDepth 20000 in
set_option maxHeartbeats 1000000 in
theorem c_cantonref01_Right {w : World} {Fo : List Ob} {rs : List Rp} (s1 : ByteArray) (H : Sep w (Fo) rs) {r : Bool} (hm : m_cantonref01_Right s1 = some r) :
    Calls Tryz.prog 40 [.string s1].toArray w (Ret fun v w' => .bool r = v ∧ Sep w' (Fo) (rs)) := by
 unfold m_cantonref01_Right at hm
 refine enter Tryz.func40 rfl Tryz.ntmps40 rfl fun a E => ?_
 simp only [enum, Nat.reduceAdd] at E
 refine wp_seq ?_
 refine wp_region_lit ?_
 refine sv E rfl rfl rfl (x_assign E rfl rfl) ?_
 clear a E;intro a E
 refine wpList_nil ?_
 refine q_then ?_
 refine wp_seq ?_
 refine wp_region_lit ?_
 refine sv E rfl rfl rfl (x_move E rfl rfl) ?_
 clear a E;intro a E
 obtain ⟨u2, hx3, hm⟩ := bnd hm
 refine st_call E (wn rfl) rfl rfl (x_call E rfl rfl (cf56 _)) (c_cantonref01_Split s1 H hx3) ?_
 clear E H; clear a; clear w; rintro _ w ⟨v4, rfl, H⟩ a E
 refine sv E rfl rfl rfl (x_move E rfl rfl) ?_
 clear a E;intro a E
 refine sv E rfl rfl rfl (x_ext E rfl rfl rfl) ?_
 clear a E;intro a E
 refine sv E rfl rfl rfl (x_ext E rfl rfl rfl) ?_
 clear a E;intro a E
 refine sv E rfl rfl rfl (x_assign E rfl rfl) ?_
 clear a E;intro a E
 refine sv E rfl rfl rfl (x_assign E rfl rfl) ?_
 clear a E;intro a E
 refine wpList_nil ?_
 refine q_then ?_
 refine wp_seq ?_
 refine wp_region_lit ?_
 refine sv E rfl rfl rfl (x_move E rfl rfl) ?_
 clear a E;intro a E
 refine sv E rfl rfl rfl (x_assign E rfl rfl) ?_
 clear a E;intro a E
 refine wpList_nil ?_
 refine q_then ?_
 refine wp_ret ?_
 refine out1 E rfl rfl ?_
 replace H := H.drop 0
 obtain rfl := Option.some.inj hm
 exact ⟨rfl, H.reads (fun r hr => hr)⟩
end Go.Cb

set_option linter.unusedVariables false
set_option linter.unusedSimpArgs false
namespace Go.Cb
open Go.Proofs Go.RowKit
def m_internal_bytealg_LastIndexByteString_l1 (s1 : ByteArray) : Nat → Int → Int → Option Int
  | 0, _, _ => none
  | k1 + 1, x3, x4 =>
    if (decide (x4 ≥ 0)) = true then ((idx s1.data.toList x4).bind fun x7 => if ((x7.toNat : Int) == x3) = true then (some (x4)) else (m_internal_bytealg_LastIndexByteString_l1 s1 k1 x3 (IntKind.i64.wrap (x4 - 1)))) else (some ((-1)))
def m_internal_bytealg_LastIndexByteString (s1 : ByteArray) (x2 : Int) : Option Int :=
  m_internal_bytealg_LastIndexByteString_l1 s1 (((IntKind.i64.wrap ((s1.size : Int) - 1)) - 0 : Int).toNat + 2) x2 (IntKind.i64.wrap ((s1.size : Int) - 1))
set_option maxRecDepth 20000 in
set_option maxHeartbeats 1000000 in
theorem c_internal_bytealg_LastIndexByteString {w : World} {Fo : List Ob} {rs : List Rp} (s1 : ByteArray) (x2 : Int) (H : Sep w (Fo) rs) {r : Int} (hm : m_internal_bytealg_LastIndexByteString s1 x2 = some r) :
    Calls Tryz.prog 79 [.string s1, .int .u8 x2].toArray w (Ret fun v w' => .int .i64 r = v ∧ Sep w' (Fo) (rs)) := by
 unfold m_internal_bytealg_LastIndexByteString at hm
 refine enter Tryz.func79 rfl Tryz.ntmps79 rfl fun a E => ?_
 simp only [enum, Nat.reduceAdd] at E
 refine wp_seq ?_
 refine wp_region_lit ?_
 refine sv E rfl rfl rfl (x_assign E rfl rfl) ?_
 clear a E;intro a E
 refine wpList_nil ?_
 refine q_then ?_
 refine wp_seq ?_
 refine wp_seq ?_
 refine wp_region_lit ?_
 refine sv E rfl rfl rfl (x_move E rfl rfl) ?_
 clear a E;intro a E
 refine sv E rfl rfl rfl (x_lenStr E rfl rfl Tryz.underlying9) ?_
 clear a E;intro a E
 refine sv E rfl rfl rfl (x_bin E rfl rfl rfl rfl) ?_
 clear a E;intro a E
 refine sv E rfl rfl rfl (x_assign E rfl rfl) ?_
 clear a E;intro a E
 refine wpList_nil ?_
 refine q_then ?_
 refine wp_block ?_
 refine wp_loop_g (fun k1 a w => ∃ (x3 : Int) (x4 : Int) (rs5 : List Rp), Env 19 a [(0, .string s1), (1, .int .u8 x3), (5, .int .i64 x4)] ∧ Sep w (Fo) rs5 ∧ (∀ r, r ∈ rs → r ∈ rs5) ∧ m_internal_bytealg_LastIndexByteString_l1 s1 k1 x3 x4 = some r) (((IntKind.i64.wrap ((s1.size : Int) - 1)) - 0 : Int).toNat + 2) ?_ ?_
 ·exact ⟨x2, IntKind.i64.wrap ((s1.size : Int) - 1), _, (((E.nil.keep E 5 rfl).keep E 1 rfl).keep E 0 rfl), H, fun r hr => hr, hm⟩
 ·clear E H hm
  rintro k1 a w ⟨x3, x4, rs5, E, H, hs6, hm⟩
  cases k1 with
  | zero => exact (none_some hm rfl).elim
  | succ k1 =>
   unfold m_internal_bytealg_LastIndexByteString_l1 at hm
   refine wp_seq ?_
   refine wp_seq ?_
   refine wp_region_lit ?_
   refine sv E rfl rfl rfl (x_move E rfl rfl) ?_
   clear a E;intro a E
   refine sv E rfl rfl rfl (x_bin E rfl rfl rfl rfl) ?_
   clear a E;intro a E
   refine wpList_nil ?_
   refine q_then ?_
   refine wp_if E rfl ?_ ?_
   ·intro hb
    rw [if_t hb] at hm
    clear hb
    refine wp_skip ?_
    refine q_then ?_
    refine wp_seq ?_
    refine wp_block ?_
    refine wp_seq ?_
    refine wp_region_lit ?_
    refine sv E rfl rfl rfl (x_move E rfl rfl) ?_
    clear a E;intro a E
    refine sv E rfl rfl rfl (x_move E rfl rfl) ?_
    clear a E;intro a E
    obtain ⟨x7, hx8, hm⟩ := bnd hm
    refine sv E rfl rfl rfl (x_ix E rfl rfl rfl Tryz.underlying9 hx8) ?_
    clear a E;intro a E
    refine sv E rfl rfl rfl (x_move E rfl rfl) ?_
    clear a E;intro a E
    refine sv E rfl rfl rfl (x_bin E rfl rfl rfl rfl) ?_
    clear a E;intro a E
    refine wpList_nil ?_
    refine q_then ?_
    refine wp_if E rfl ?_ ?_
    ·intro hb
     rw [if_t hb] at hm
     clear hb
     refine wp_seq ?_
     refine wp_region_lit ?_
     refine sv E rfl rfl rfl (x_move E rfl rfl) ?_
     clear a E;intro a E
     refine sv E rfl rfl rfl (x_assign E rfl rfl) ?_
     clear a E;intro a E
     refine wpList_nil ?_
     refine q_then ?_
     refine wp_ret ?_
     refine q_blkR ?_
     refine q_thenR ?_
     refine q_thenR ?_
     refine q_blkR ?_
     refine q_thenR ?_
     refine out1 E rfl rfl ?_
     obtain rfl := Option.some.inj hm
     exact ⟨rfl, H.reads (fun r hr => hs6 r hr)⟩
    ·intro hb
     rw [if_f hb] at hm
     clear hb
     refine wp_skip ?_
     refine q_blk ?_
     refine q_then ?_
     refine wp_region_lit ?_
     refine sv E rfl rfl rfl (x_move E rfl rfl) ?_
     clear a E;intro a E
     refine sv E rfl rfl rfl (x_bin E rfl rfl rfl rfl) ?_
     clear a E;intro a E
     refine sv E rfl rfl rfl (x_assign E rfl rfl) ?_
     clear a E;intro a E
     refine wpList_nil ?_
     refine q_then ?_
     exact ⟨k1, Nat.lt_succ_self k1, x3, IntKind.i64.wrap (x4 - 1), _, (((E.nil.keep E 5 rfl).keep E 1 rfl).keep E 0 rfl), H, hs6, hm⟩
   ·intro hb
    rw [if_f hb] at hm
    clear hb
    refine wp_exit ?_
    refine q_thenX ?_
    refine q_thenX ?_
    refine q_hit ?_
    refine q_then ?_
    refine wp_seq ?_
    refine wp_region_lit ?_
    refine sv E rfl rfl rfl (x_assign E rfl rfl) ?_
    clear a E;intro a E
    refine wpList_nil ?_
    refine q_then ?_
    refine wp_ret ?_
    refine out1 E rfl rfl ?_
    obtain rfl := Option.some.inj hm
    exact ⟨rfl, H.reads (fun r hr => hs6 r hr)⟩
end Go.Cb

set_option linter.unusedVariables false
set_option linter.unusedSimpArgs false
namespace Go.Cb
open Go.Proofs Go.RowKit
def m_strings_LastIndexByte (s1 : ByteArray) (x2 : Int) : Option Int :=
  (m_internal_bytealg_LastIndexByteString s1 x2).bind fun u3 => some (u3)
set_option maxRecDepth 20000 in
set_option maxHeartbeats 1000000 in
theorem c_strings_LastIndexByte {w : World} {Fo : List Ob} {rs : List Rp} (s1 : ByteArray) (x2 : Int) (H : Sep w (Fo) rs) {r : Int} (hm : m_strings_LastIndexByte s1 x2 = some r) :
    Calls Tryz.prog 69 [.string s1, .int .u8 x2].toArray w (Ret fun v w' => .int .i64 r = v ∧ Sep w' (Fo) (rs)) := by
 unfold m_strings_LastIndexByte at hm
 refine enter Tryz.func69 rfl Tryz.ntmps69 rfl fun a E => ?_
 simp only [enum, Nat.reduceAdd] at E
 refine wp_seq ?_
 refine wp_region_lit ?_
 refine sv E rfl rfl rfl (x_assign E rfl rfl) ?_
 clear a E;intro a E
 refine wpList_nil ?_
 refine q_then ?_
 refine wp_seq ?_
 refine wp_region_lit ?_
 refine sv E rfl rfl rfl (x_move E rfl rfl) ?_
 clear a E;intro a E
 refine sv E rfl rfl rfl (x_move E rfl rfl) ?_
 clear a E;intro a E
 obtain ⟨u3, hx4, hm⟩ := bnd hm
 refine st_call E (wn rfl) rfl rfl (x_call E rfl rfl (cf79 _)) (c_internal_bytealg_LastIndexByteString s1 x2 H hx4) ?_
 clear E H; clear a; clear w; rintro _ w ⟨rfl, H⟩ a E
 refine sv E rfl rfl rfl (x_assign E rfl rfl) ?_
 clear a E;intro a E
 refine wpList_nil ?_
 refine q_then ?_
 refine wp_ret ?_
 refine out1 E rfl rfl ?_
 obtain rfl := Option.some.inj hm
 exact ⟨rfl, H.reads (fun r hr => hr)⟩
end Go.Cb

set_option linter.unusedVariables false
set_option linter.unusedSimpArgs false
namespace Go.Cb
open Go.Proofs Go.RowKit
def m_path_cut_j1 (s1 : ByteArray) (b2 : Bool) : Option (ByteArray × ByteArray × Bool) :=
  if b2 = true then (some ((ByteArray.mk #[]), (ByteArray.mk #[]), false)) else ((m_strings_LastIndexByte s1 47).bind fun u5 => (ck (0 ≤ (max u5 1) ∧ (max u5 1) ≤ s1.size)).bind fun u7 => (ck (0 ≤ (IntKind.i64.wrap (u5 + 1)) ∧ (IntKind.i64.wrap (u5 + 1)) ≤ s1.size)).bind fun u9 => some (s1.extract 0 (max u5 1).toNat, s1.extract (IntKind.i64.wrap (u5 + 1)).toNat s1.size, true))
def m_path_cut (s1 : ByteArray) : Option (ByteArray × ByteArray × Bool) :=
  (m_path_Right s1).bind fun u11 => if (!u11) = true then (m_path_cut_j1 s1 true) else (m_path_cut_j1 s1 (sEq s1 (ByteArray.mk #[47])))
set_option maxRecDepth 20000 in
set_option maxHeartbeats 1000000 in
theorem c_path_cut {w : World} {Fo : List Ob} {rs : List Rp} (s1 : ByteArray) (H : Sep w (Fo) rs) {r : ByteArray × ByteArray × Bool} (hm : m_path_cut s1 = some r) :
    Calls Tryz.prog 57 [.string s1].toArray w (Ret fun v w' => .tuple #[.string r.1, .string r.2.1, .bool r.2.2] = v ∧ Sep w' (Fo) (rs)) := by
 unfold m_path_cut at hm
 refine enter Tryz.func57 rfl Tryz.ntmps57 rfl fun a E => ?_
 simp only [enum, Nat.reduceAdd] at E
 refine wp_seq ?_
 refine wp_region_lit ?_
 refine sv E rfl rfl rfl (x_assign E rfl rfl) ?_
 clear a E;intro a E
 refine sv E rfl rfl rfl (x_assign E rfl rfl) ?_
 clear a E;intro a E
 refine sv E rfl rfl rfl (x_assign E rfl rfl) ?_
 clear a E;intro a E
 refine wpList_nil ?_
 refine q_then ?_
 refine wp_seq ?_
 refine wp_seq_cut (fun a w => ∃ (b2 : Bool) (rs3 : List Rp), Env 23 a [(0, .string s1), (12, .bool b2)] ∧ Sep w (Fo) rs3 ∧ (∀ r, r ∈ rs → r ∈ rs3) ∧ m_path_cut_j1 s1 b2 = some r) ?_ ?_
 ·refine wp_region_lit ?_
  refine sv E rfl rfl rfl (x_move E rfl rfl) ?_
  clear a E;intro a E
  obtain ⟨u11, hx12, hm⟩ := bnd hm
  refine st_call E (wn rfl) rfl rfl (x_call E rfl rfl (cf37 _)) (c_path_Right s1 H hx12) ?_
  clear E H; clear a; clear w; rintro _ w ⟨rfl, H⟩ a E
  refine sv E rfl rfl rfl (x_not E rfl rfl) ?_
  clear a E;intro a E
  refine sv E rfl rfl rfl (x_move E rfl rfl) ?_
  clear a E;intro a E
  rcases Bool.eq_false_or_eq_true (!u11) with hb13 | hb13
  ·rw [if_t hb13] at hm
   refine st_no E (wf' E rfl rfl rfl rfl hb13 rfl) rfl rfl ?_
   clear a E;intro a E
   refine st_no E (wf' E rfl rfl rfl rfl hb13 rfl) rfl rfl ?_
   clear a E;intro a E
   refine sv E rfl rfl rfl (x_pickT E rfl rfl hb13 rfl) ?_
   clear a E;intro a E
   refine wpList_nil ?_
   refine q_then ?_
   exact ⟨true, _, ((E.nil.keep E 12 rfl).keep E 0 rfl), H, fun r hr => hr, hm⟩
  ·rw [if_f hb13] at hm
   refine st_val E (ws' E rfl rfl rfl rfl hb13) rfl rfl (x_move E rfl rfl) ?_
   clear a E;intro a E
   refine st_val E (ws' E rfl rfl rfl rfl hb13) rfl rfl (x_str E rfl rfl rfl rfl) ?_
   clear a E;intro a E
   refine sv E rfl rfl rfl (x_pickF E rfl rfl hb13 rfl) ?_
   clear a E;intro a E
   refine wpList_nil ?_
   refine q_then ?_
   exact ⟨sEq s1 (ByteArray.mk #[47]), _, ((E.nil.keep E 12 rfl).keep E 0 rfl), H, fun r hr => hr, hm⟩
 ·clear E H hm
  rintro a w ⟨b2, rs3, E, H, hs4, hm⟩
  unfold m_path_cut_j1 at hm
  refine wp_if E rfl ?_ ?_
  ·intro hb
   rw [if_t hb] at hm
   clear hb
   refine wp_seq ?_
   refine wp_region_lit ?_
   refine sv E rfl rfl rfl (x_assign E rfl rfl) ?_
   clear a E;intro a E
   refine sv E rfl rfl rfl (x_assign E rfl rfl) ?_
   clear a E;intro a E
   refine sv E rfl rfl rfl (x_assign E rfl rfl) ?_
   clear a E;intro a E
   refine wpList_nil ?_
   refine q_then ?_
   refine wp_ret ?_
   refine q_thenR ?_
   refine out3 E rfl rfl rfl rfl ?_
   obtain rfl := Option.some.inj hm
   exact ⟨rfl, H.reads (fun r hr => hs4 r hr)⟩
  ·intro hb
   rw [if_f hb] at hm
   clear hb
   refine wp_skip ?_
   refine q_then ?_
   refine wp_seq ?_
   refine wp_region_lit ?_
   refine sv E rfl rfl rfl (x_move E rfl rfl) ?_
   clear a E;intro a E
   obtain ⟨u5, hx6, hm⟩ := bnd hm
   refine st_call E (wn rfl) rfl rfl (x_call E rfl rfl (cf69 _)) (c_strings_LastIndexByte s1 47 H hx6) ?_
   clear E H; clear a; clear w; rintro _ w ⟨rfl, H⟩ a E
   refine sv E rfl rfl rfl (x_assign E rfl rfl) ?_
   clear a E;intro a E
   refine wpList_nil ?_
   refine q_then ?_
   refine wp_seq ?_
   replace H : Sep w (Fo) (rs3) := H
   have hI : Still [] [] { w with drawn := w.drawn + 1 } := ⟨_, _, H.kept (Kp.drawn _ w _), (subO_nil), (sub_nil)⟩
   refine wp_draw _ [(0, 0), (1, 0), (2, 0), (3, 0), (4, 0), (5, 0), (6, 0), (7, 0), (8, 1), (9, 2), (10, 2)] mixedOk (by kernel_rfl) (fun _ _ _ h => False.elim h.2) hI ?_
   replace H := H.kept (Kp.drawn _ w (w.drawn + 1))
   generalize ({ w with drawn := w.drawn + 1 } : World) = w at H hI ⊢
   replace hI : ∃ W, Still [] [] W := ⟨_, hI⟩
   obtain ⟨W0, hI⟩ := hI
   refine fr_val E rfl (wn rfl) rfl rfl (fun w hW => (x_move E rfl rfl)) ?_
   clear a E;intro a E
   refine fr_val E rfl (wn rfl) rfl rfl (fun w hW => (x_move E rfl rfl)) ?_
   clear a E;intro a E
   refine fr_val E rfl (wn rfl) rfl rfl (fun w hW => (x_max (t := 0) E rfl rfl rfl)) ?_
   clear a E;intro a E
   obtain ⟨u7, hx8, hm⟩ := bnd hm
   refine fr_val E rfl (wn rfl) rfl rfl (fun w hW => (x_subH E rfl rfl rfl Tryz.underlying9 (ck_of hx8))) ?_
   clear a E;intro a E
   refine fr_val E rfl (wn rfl) rfl rfl (fun w hW => (x_move E rfl rfl)) ?_
   clear a E;intro a E
   refine fr_val E rfl (wn rfl) rfl rfl (fun w hW => (x_move E rfl rfl)) ?_
   clear a E;intro a E
   refine fr_val E rfl (wn rfl) rfl rfl (fun w hW => (x_bin E rfl rfl rfl rfl)) ?_
   clear a E;intro a E
   obtain ⟨u9, hx10, hm⟩ := bnd hm
   refine fr_val E rfl (wn rfl) rfl rfl (fun w hW => (x_subL E rfl rfl rfl Tryz.underlying9 (ck_of hx10))) ?_
   clear a E;intro a E
   refine fr_op rfl ?_
   refine sv E rfl rfl rfl (x_assign E rfl rfl) ?_
   clear a E;intro a E
   refine wpList_nil ?_
   refine q_then ?_
   replace H : Sep w (Fo) (rs3) := H
   refine ⟨⟨_, _, H, (subO_nil), (sub_nil)⟩, ?_⟩
   refine fr_tail rfl ?_
   refine sv E rfl rfl rfl (x_assign E rfl rfl) ?_
   clear a E;intro a E
   refine wpList_nil ?_
   refine q_then ?_
   refine fr_tail rfl ?_
   refine sv E rfl rfl rfl (x_assign E rfl rfl) ?_
   clear a E;intro a E
   refine wpList_nil ?_
   refine q_then ?_
   refine fr_nil ?_
   clear hI
   refine q_then ?_
   refine wp_ret ?_
   refine out3 E rfl rfl rfl rfl ?_
   obtain rfl := Option.some.inj hm
   exact ⟨rfl, H.reads (fun r hr => hs4 r hr)⟩
end Go.Cb

set_option linter.unusedVariables false
set_option linter.unusedSimpArgs false
namespace Go.Cb
open Go.Proofs Go.RowKit
def m_path_Parent (s1 : ByteArray) : Option (ByteArray × Bool) :=
  (m_path_cut s1).bind fun u2 => some (u2.1, u2.2.2)
set_option maxRecDepth 20000 in
set_option maxHeartbeats 1000000 in
theorem c_path_Parent {w : World} {Fo : List Ob} {rs : List Rp} (s1 : ByteArray) (H : Sep w (Fo) rs) {r : ByteArray × Bool} (hm : m_path_Parent s1 = some r) :
    Calls Tryz.prog 34 [.string s1].toArray w (Ret fun v w' => .tuple #[.string r.1, .bool r.2] = v ∧ Sep w' (Fo) (rs)) := by
 unfold m_path_Parent at hm
 refine enter Tryz.func34 rfl Tryz.ntmps34 rfl fun a E => ?_
 simp only [enum, Nat.reduceAdd] at E
 refine wp_seq ?_
 refine wp_region_lit ?_
 refine sv E rfl rfl rfl (x_assign E rfl rfl) ?_
 clear a E;intro a E
 refine sv E rfl rfl rfl (x_assign E rfl rfl) ?_
 clear a E;intro a E
 refine wpList_nil ?_
 refine q_then ?_
 refine wp_seq ?_
 refine wp_region_lit ?_
 refine sv E rfl rfl rfl (x_move E rfl rfl) ?_
 clear a E;intro a E
 obtain ⟨u2, hx3, hm⟩ := bnd hm
 refine st_call E (wn rfl) rfl rfl (x_call E rfl rfl (cf57 _)) (c_path_cut s1 H hx3) ?_
 clear E H; clear a; clear w; rintro _ w ⟨rfl, H⟩ a E
 refine sv E rfl rfl rfl (x_move E rfl rfl) ?_
 clear a E;intro a E
 refine sv E rfl rfl rfl (x_ext E rfl rfl rfl) ?_
 clear a E;intro a E
 refine sv E rfl rfl rfl (x_ext E rfl rfl rfl) ?_
 clear a E;intro a E
 refine sv E rfl rfl rfl (x_ext E rfl rfl rfl) ?_
 clear a E;intro a E
 refine sv E rfl rfl rfl (x_assign E rfl rfl) ?_
 clear a E;intro a E
 refine sv E rfl rfl rfl (x_assign E rfl rfl) ?_
 clear a E;intro a E
 refine sv E rfl rfl rfl (x_assign E rfl rfl) ?_
 clear a E;intro a E
 refine wpList_nil ?_
 refine q_then ?_
 refine wp_seq ?_
 refine wp_region_lit ?_
 refine sv E rfl rfl rfl (x_move E rfl rfl) ?_
 clear a E;intro a E
 refine sv E rfl rfl rfl (x_move E rfl rfl) ?_
 clear a E;intro a E
 refine sv E rfl rfl rfl (x_assign E rfl rfl) ?_
 clear a E;intro a E
 refine sv E rfl rfl rfl (x_assign E rfl rfl) ?_
 clear a E;intro a E
 refine wpList_nil ?_
 refine q_then ?_
 refine wp_ret ?_
 refine out2 E rfl rfl rfl ?_
 obtain rfl := Option.some.inj hm
 exact ⟨rfl, H.reads (fun r hr => hr)⟩
end Go.Cb

set_option linter.unusedVariables false
set_option linter.unusedSimpArgs false
namespace Go.Cb
open Go.Proofs Go.RowKit
def m_path_Last (s1 : ByteArray) : Option ByteArray :=
  (m_path_cut s1).bind fun u2 => some (u2.2.1)
set_option maxRecDepth 20000 in
set_option maxHeartbeats 1000000 in
theorem c_path_Last {w : World} {Fo : List Ob} {rs : List Rp} (s1 : ByteArray) (H : Sep w (Fo) rs) {r : ByteArray} (hm : m_path_Last s1 = some r) :
    Calls Tryz.prog 43 [.string s1].toArray w (Ret fun v w' => .string r = v ∧ Sep w' (Fo) (rs)) := by
 unfold m_path_Last at hm
 refine enter Tryz.func43 rfl Tryz.ntmps43 rfl fun a E => ?_
 simp only [enum, Nat.reduceAdd] at E
 refine wp_seq ?_
 refine wp_region_lit ?_
 refine sv E rfl rfl rfl (x_assign E rfl rfl) ?_
 clear a E;intro a E
 refine wpList_nil ?_
 refine q_then ?_
 refine wp_seq ?_
 refine wp_region_lit ?_
 refine sv E rfl rfl rfl (x_move E rfl rfl) ?_
 clear a E;intro a E
 obtain ⟨u2, hx3, hm⟩ := bnd hm
 refine st_call E (wn rfl) rfl rfl (x_call E rfl rfl (cf57 _)) (c_path_cut s1 H hx3) ?_
 clear E H; clear a; clear w; rintro _ w ⟨rfl, H⟩ a E
 refine sv E rfl rfl rfl (x_move E rfl rfl) ?_
 clear a E;intro a E
 refine sv E rfl rfl rfl (x_ext E rfl rfl rfl) ?_
 clear a E;intro a E
 refine sv E rfl rfl rfl (x_ext E rfl rfl rfl) ?_
 clear a E;intro a E
 refine sv E rfl rfl rfl (x_ext E rfl rfl rfl) ?_
 clear a E;intro a E
 refine sv E rfl rfl rfl (x_assign E rfl rfl) ?_
 clear a E;intro a E
 refine sv E rfl rfl rfl (x_assign E rfl rfl) ?_
 clear a E;intro a E
 refine sv E rfl rfl rfl (x_assign E rfl rfl) ?_
 clear a E;intro a E
 refine wpList_nil ?_
 refine q_then ?_
 refine wp_seq ?_
 refine wp_region_lit ?_
 refine sv E rfl rfl rfl (x_move E rfl rfl) ?_
 clear a E;intro a E
 refine sv E rfl rfl rfl (x_assign E rfl rfl) ?_
 clear a E;intro a E
 refine wpList_nil ?_
 refine q_then ?_
 refine wp_ret ?_
 refine out1 E rfl rfl ?_
 obtain rfl := Option.some.inj hm
 exact ⟨rfl, H.reads (fun r hr => hr)⟩
end Go.Cb

set_option linter.unusedVariables false
set_option linter.unusedSimpArgs false
namespace Go.Cb
open Go.Proofs Go.RowKit
def m_internal_stringslite_HasSuffix (s1 : ByteArray) (s2 : ByteArray) : Option Bool :=
  if (decide ((s1.size : Int) ≥ (s2.size : Int))) = true then ((ck (0 ≤ (IntKind.i64.wrap ((s1.size : Int) - (s2.size : Int))) ∧ (IntKind.i64.wrap ((s1.size : Int) - (s2.size : Int))) ≤ s1.size)).bind fun u4 => some (sEq (s1.extract (IntKind.i64.wrap ((s1.size : Int) - (s2.size : Int))).toNat s1.size) s2)) else (some (false))
set_option maxRecDepth 20000 in
set_option maxHeartbeats 1000000 in
theorem c_internal_stringslite_HasSuffix {w : World} {Fo : List Ob} {rs : List Rp} (s1 : ByteArray) (s2 : ByteArray) (H : Sep w (Fo) rs) {r : Bool} (hm : m_internal_stringslite_HasSuffix s1 s2 = some r) :
    Calls Tryz.prog 85 [.string s1, .string s2].toArray w (Ret fun v w' => .bool r = v ∧ Sep w' (Fo) (rs)) := by
 unfold m_internal_stringslite_HasSuffix at hm
 refine enter Tryz.func85 rfl Tryz.ntmps85 rfl fun a E => ?_
 simp only [enum, Nat.reduceAdd] at E
 refine wp_seq ?_
 refine wp_region_lit ?_
 refine sv E rfl rfl rfl (x_assign E rfl rfl) ?_
 clear a E;intro a E
 refine wpList_nil ?_
 refine q_then ?_
 refine wp_seq ?_
 refine wp_region_lit ?_
 refine sv E rfl rfl rfl (x_move E rfl rfl) ?_
 clear a E;intro a E
 refine sv E rfl rfl rfl (x_lenStr E rfl rfl Tryz.underlying9) ?_
 clear a E;intro a E
 refine sv E rfl rfl rfl (x_move E rfl rfl) ?_
 clear a E;intro a E
 refine sv E rfl rfl rfl (x_lenStr E rfl rfl Tryz.underlying9) ?_
 clear a E;intro a E
 refine sv E rfl rfl rfl (x_bin E rfl rfl rfl rfl) ?_
 clear a E;intro a E
 refine sv E rfl rfl rfl (x_move E rfl rfl) ?_
 clear a E;intro a E
 rcases Bool.eq_false_or_eq_true (decide ((s1.size : Int) ≥ (s2.size : Int))) with hb3 | hb3
 ·rw [if_t hb3] at hm
  refine st_val E (ws' E rfl rfl rfl rfl hb3) rfl rfl (x_move E rfl rfl) ?_
  clear a E;intro a E
  refine st_val E (ws' E rfl rfl rfl rfl hb3) rfl rfl (x_move E rfl rfl) ?_
  clear a E;intro a E
  refine st_val E (ws' E rfl rfl rfl rfl hb3) rfl rfl (x_lenStr E rfl rfl Tryz.underlying9) ?_
  clear a E;intro a E
  refine st_val E (ws' E rfl rfl rfl rfl hb3) rfl rfl (x_move E rfl rfl) ?_
  clear a E;intro a E
  refine st_val E (ws' E rfl rfl rfl rfl hb3) rfl rfl (x_lenStr E rfl rfl Tryz.underlying9) ?_
  clear a E;intro a E
  refine st_val E (ws' E rfl rfl rfl rfl hb3) rfl rfl (x_bin E rfl rfl rfl rfl) ?_
  clear a E;intro a E
  obtain ⟨u4, hx5, hm⟩ := bnd hm
  refine st_val E (ws' E rfl rfl rfl rfl hb3) rfl rfl (x_subL E rfl rfl rfl Tryz.underlying9 (ck_of hx5)) ?_
  clear a E;intro a E
  refine st_val E (ws' E rfl rfl rfl rfl hb3) rfl rfl (x_move E rfl rfl) ?_
  clear a E;intro a E
  refine st_val E (ws' E rfl rfl rfl rfl hb3) rfl rfl (x_str E rfl rfl rfl rfl) ?_
  clear a E;intro a E
  refine sv E rfl rfl rfl (x_pickT E rfl rfl hb3 rfl) ?_
  clear a E;intro a E
  refine sv E rfl rfl rfl (x_assign E rfl rfl) ?_
  clear a E;intro a E
  refine wpList_nil ?_
  refine q_then ?_
  refine wp_ret ?_
  refine out1 E rfl rfl ?_
  obtain rfl := Option.some.inj hm
  exact ⟨rfl, H.reads (fun r hr => hr)⟩
 ·rw [if_f hb3] at hm
  refine st_no E (wf' E rfl rfl rfl rfl hb3 rfl) rfl rfl ?_
  clear a E;intro a E
  refine st_no E (wf' E rfl rfl rfl rfl hb3 rfl) rfl rfl ?_
  clear a E;intro a E
  refine st_no E (wf' E rfl rfl rfl rfl hb3 rfl) rfl rfl ?_
  clear a E;intro a E
  refine st_no E (wf' E rfl rfl rfl rfl hb3 rfl) rfl rfl ?_
  clear a E;intro a E
  refine st_no E (wf' E rfl rfl rfl rfl hb3 rfl) rfl rfl ?_
  clear a E;intro a E
  refine st_no E (wf' E rfl rfl rfl rfl hb3 rfl) rfl rfl ?_
  clear a E;intro a E
  refine st_no E (wf' E rfl rfl rfl rfl hb3 rfl) rfl rfl ?_
  clear a E;intro a E
  refine st_no E (wf' E rfl rfl rfl rfl hb3 rfl) rfl rfl ?_
  clear a E;intro a E
  refine st_no E (wf' E rfl rfl rfl rfl hb3 rfl) rfl rfl ?_
  clear a E;intro a E
  refine sv E rfl rfl rfl (x_pickF E rfl rfl hb3 rfl) ?_
  clear a E;intro a E
  refine sv E rfl rfl rfl (x_assign E rfl rfl) ?_
  clear a E;intro a E
  refine wpList_nil ?_
  refine q_then ?_
  refine wp_ret ?_
  refine out1 E rfl rfl ?_
  obtain rfl := Option.some.inj hm
  exact ⟨rfl, H.reads (fun r hr => hr)⟩
end Go.Cb

set_option linter.unusedVariables false
set_option linter.unusedSimpArgs false
namespace Go.Cb
open Go.Proofs Go.RowKit
def m_internal_stringslite_TrimSuffix (s1 : ByteArray) (s2 : ByteArray) : Option ByteArray :=
  (m_internal_stringslite_HasSuffix s1 s2).bind fun u3 => if u3 = true then ((ck (0 ≤ (IntKind.i64.wrap ((s1.size : Int) - (s2.size : Int))) ∧ (IntKind.i64.wrap ((s1.size : Int) - (s2.size : Int))) ≤ s1.size)).bind fun u5 => some (s1.extract 0 (IntKind.i64.wrap ((s1.size : Int) - (s2.size : Int))).toNat)) else (some (s1))
set_option maxRecDepth 20000 in
set_option maxHeartbeats 1000000 in
theorem c_internal_stringslite_TrimSuffix {w : World} {Fo : List Ob} {rs : List Rp} (s1 : ByteArray) (s2 : ByteArray) (H : Sep w (Fo) rs) {r : ByteArray} (hm : m_internal_stringslite_TrimSuffix s1 s2 = some r) :
    Calls Tryz.prog 76 [.string s1, .string s2].toArray w (Ret fun v w' => .string r = v ∧ Sep w' (Fo) (rs)) := by
 unfold m_internal_stringslite_TrimSuffix at hm
 refine enter Tryz.func76 rfl Tryz.ntmps76 rfl fun a E => ?_
 simp only [enum, Nat.reduceAdd] at E
 refine wp_seq ?_
 refine wp_region_lit ?_
 refine sv E rfl rfl rfl (x_assign E rfl rfl) ?_
 clear a E;intro a E
 refine wpList_nil ?_
 refine q_then ?_
 refine wp_seq ?_
 refine wp_seq ?_
 refine wp_region_lit ?_
 refine sv E rfl rfl rfl (x_move E rfl rfl) ?_
 clear a E;intro a E
 refine sv E rfl rfl rfl (x_move E rfl rfl) ?_
 clear a E;intro a E
 obtain ⟨u3, hx4, hm⟩ := bnd hm
 refine st_call E (wn rfl) rfl rfl (x_call E rfl rfl (cf85 _)) (c_internal_stringslite_HasSuffix s1 s2 H hx4) ?_
 clear E H; clear a; clear w; rintro _ w ⟨rfl, H⟩ a E
 refine wpList_nil ?_
 refine q_then ?_
 refine wp_if E rfl ?_ ?_
 ·intro hb
  rw [if_t hb] at hm
  clear hb
  refine wp_seq ?_
  refine wp_region_lit ?_
  refine sv E rfl rfl rfl (x_move E rfl rfl) ?_
  clear a E;intro a E
  refine sv E rfl rfl rfl (x_move E rfl rfl) ?_
  clear a E;intro a E
  refine sv E rfl rfl rfl (x_lenStr E rfl rfl Tryz.underlying9) ?_
  clear a E;intro a E
  refine sv E rfl rfl rfl (x_move E rfl rfl) ?_
  clear a E;intro a E
  refine sv E rfl rfl rfl (x_lenStr E rfl rfl Tryz.underlying9) ?_
  clear a E;intro a E
  refine sv E rfl rfl rfl (x_bin E rfl rfl rfl rfl) ?_
  clear a E;intro a E
  obtain ⟨u5, hx6, hm⟩ := bnd hm
  refine sv E rfl rfl rfl (x_subH E rfl rfl rfl Tryz.underlying9 (ck_of hx6)) ?_
  clear a E;intro a E
  refine sv E rfl rfl rfl (x_assign E rfl rfl) ?_
  clear a E;intro a E
  refine wpList_nil ?_
  refine q_then ?_
  refine wp_ret ?_
  refine q_thenR ?_
  refine out1 E rfl rfl ?_
  obtain rfl := Option.some.inj hm
  exact ⟨rfl, H.reads (fun r hr => hr)⟩
 ·intro hb
  rw [if_f hb] at hm
  clear hb
  refine wp_skip ?_
  refine q_then ?_
  refine wp_seq ?_
  refine wp_region_lit ?_
  refine sv E rfl rfl rfl (x_move E rfl rfl) ?_
  clear a E;intro a E
  refine sv E rfl rfl rfl (x_assign E rfl rfl) ?_
  clear a E;intro a E
  refine wpList_nil ?_
  refine q_then ?_
  refine wp_ret ?_
  refine out1 E rfl rfl ?_
  obtain rfl := Option.some.inj hm
  exact ⟨rfl, H.reads (fun r hr => hr)⟩
end Go.Cb

set_option linter.unusedVariables false
set_option linter.unusedSimpArgs false
namespace Go.Cb
open Go.Proofs Go.RowKit
def m_strings_TrimSuffix (s1 : ByteArray) (s2 : ByteArray) : Option ByteArray :=
  (m_internal_stringslite_TrimSuffix s1 s2).bind fun u3 => some (u3)
set_option maxRecDepth 20000 in
set_option maxHeartbeats 1000000 in
theorem c_strings_TrimSuffix {w : World} {Fo : List Ob} {rs : List Rp} (s1 : ByteArray) (s2 : ByteArray) (H : Sep w (Fo) rs) {r : ByteArray} (hm : m_strings_TrimSuffix s1 s2 = some r) :
    Calls Tryz.prog 62 [.string s1, .string s2].toArray w (Ret fun v w' => .string r = v ∧ Sep w' (Fo) (rs)) := by
 unfold m_strings_TrimSuffix at hm
 refine enter Tryz.func62 rfl Tryz.ntmps62 rfl fun a E => ?_
 simp only [enum, Nat.reduceAdd] at E
 refine wp_seq ?_
 refine wp_region_lit ?_
 refine sv E rfl rfl rfl (x_assign E rfl rfl) ?_
 clear a E;intro a E
 refine wpList_nil ?_
 refine q_then ?_
 refine wp_seq ?_
 refine wp_region_lit ?_
 refine sv E rfl rfl rfl (x_move E rfl rfl) ?_
 clear a E;intro a E
 refine sv E rfl rfl rfl (x_move E rfl rfl) ?_
 clear a E;intro a E
 obtain ⟨u3, hx4, hm⟩ := bnd hm
 refine st_call E (wn rfl) rfl rfl (x_call E rfl rfl (cf76 _)) (c_internal_stringslite_TrimSuffix s1 s2 H hx4) ?_
 clear E H; clear a; clear w; rintro _ w ⟨rfl, H⟩ a E
 refine sv E rfl rfl rfl (x_assign E rfl rfl) ?_
 clear a E;intro a E
 refine wpList_nil ?_
 refine q_then ?_
 refine wp_ret ?_
 refine out1 E rfl rfl ?_
 obtain rfl := Option.some.inj hm
 exact ⟨rfl, H.reads (fun r hr => hr)⟩
end Go.Cb

set_option linter.unusedVariables false
set_option linter.unusedSimpArgs false
namespace Go.Cb
open Go.Proofs Go.RowKit
def m_path_Join_j1 (s1 : ByteArray) (s2 : ByteArray) (b6 : Bool) : Option (ByteArray × Bool) :=
  if b6 = true then (some ((ByteArray.mk #[]), false)) else ((m_strings_TrimSuffix s1 (ByteArray.mk #[47])).bind fun u9 => (ck (u9.size + (ByteArray.mk #[47]).size ≤ 4611686018427387904)).bind fun u12 => (ck ((u9 ++ (ByteArray.mk #[47])).size + s2.size ≤ 4611686018427387904)).bind fun u14 => some ((u9 ++ (ByteArray.mk #[47])) ++ s2, true))
def m_path_Join (s1 : ByteArray) (s2 : ByteArray) : Option (ByteArray × Bool) :=
  (m_path_Split s1).bind fun u3 => if (!u3.2) = true then (m_path_Join_j1 s1 s2 true) else ((m_path_part s2).bind fun u16 => if (!u16) = true then (m_path_Join_j1 s1 s2 true) else (m_path_Join_j1 s1 s2 ((u3.1.length : Int) == 6)))
set_option maxRecDepth 20000 in
set_option maxHeartbeats 1000000 in
theorem c_path_Join {w : World} {Fo : List Ob} {rs : List Rp} (s1 : ByteArray) (s2 : ByteArray) (H : Sep w (Fo) rs) {r : ByteArray × Bool} (hm : m_path_Join s1 s2 = some r) :
    Calls Tryz.prog 44 [.string s1, .string s2].toArray w (Ret fun v w' => .tuple #[.string r.1, .bool r.2] = v ∧ Sep w' (Fo) (rs)) := by
 unfold m_path_Join at hm
 refine enter Tryz.func44 rfl Tryz.ntmps44 rfl fun a E => ?_
 simp only [enum, Nat.reduceAdd] at E
 refine wp_seq ?_
 refine wp_region_lit ?_
 refine sv E rfl rfl rfl (x_assign E rfl rfl) ?_
 clear a E;intro a E
 refine sv E rfl rfl rfl (x_assign E rfl rfl) ?_
 clear a E;intro a E
 refine wpList_nil ?_
 refine q_then ?_
 refine wp_seq ?_
 refine wp_region_lit ?_
 refine sv E rfl rfl rfl (x_move E rfl rfl) ?_
 clear a E;intro a E
 obtain ⟨u3, hx4, hm⟩ := bnd hm
 refine st_call E (wn rfl) rfl rfl (x_call E rfl rfl (cf59 _)) (c_path_Split s1 H hx4) ?_
 clear E H; clear a; clear w; rintro _ w ⟨v5, rfl, H⟩ a E
 refine sv E rfl rfl rfl (x_move E rfl rfl) ?_
 clear a E;intro a E
 refine sv E rfl rfl rfl (x_ext E rfl rfl rfl) ?_
 clear a E;intro a E
 refine sv E rfl rfl rfl (x_ext E rfl rfl rfl) ?_
 clear a E;intro a E
 refine sv E rfl rfl rfl (x_assign E rfl rfl) ?_
 clear a E;intro a E
 refine sv E rfl rfl rfl (x_assign E rfl rfl) ?_
 clear a E;intro a E
 refine wpList_nil ?_
 refine q_then ?_
 refine wp_seq ?_
 refine wp_seq_cut (fun a w => ∃ (b6 : Bool) (rs7 : List Rp), Env 30 a [(0, .string s1), (1, .string s2), (24, .bool b6)] ∧ Sep w (Fo) rs7 ∧ (∀ r, r ∈ rs → r ∈ rs7) ∧ m_path_Join_j1 s1 s2 b6 = some r) ?_ ?_
 ·refine wp_region_lit ?_
  refine sv E rfl rfl rfl (x_move E rfl rfl) ?_
  clear a E;intro a E
  refine sv E rfl rfl rfl (x_not E rfl rfl) ?_
  clear a E;intro a E
  refine sv E rfl rfl rfl (x_move E rfl rfl) ?_
  clear a E;intro a E
  rcases Bool.eq_false_or_eq_true (!u3.2) with hb15 | hb15
  ·rw [if_t hb15] at hm
   refine st_no E (wf' E rfl rfl rfl rfl hb15 rfl) rfl rfl ?_
   clear a E;intro a E
   refine st_no E (wf' E rfl rfl rfl rfl hb15 rfl) rfl rfl ?_
   clear a E;intro a E
   refine st_no E (wf' E rfl rfl rfl rfl hb15 rfl) rfl rfl ?_
   clear a E;intro a E
   refine sv E rfl rfl rfl (x_pickT E rfl rfl hb15 rfl) ?_
   clear a E;intro a E
   refine sv E rfl rfl rfl (x_move E rfl rfl) ?_
   clear a E;intro a E
   refine st_no E (wf E rfl rfl rfl rfl rfl) rfl rfl ?_
   clear a E;intro a E
   refine st_no E (wf E rfl rfl rfl rfl rfl) rfl rfl ?_
   clear a E;intro a E
   refine st_no E (wf E rfl rfl rfl rfl rfl) rfl rfl ?_
   clear a E;intro a E
   refine sv E rfl rfl rfl (x_pickT E rfl rfl rfl rfl) ?_
   clear a E;intro a E
   refine wpList_nil ?_
   refine q_then ?_
   replace H := H.drop 0
   exact ⟨true, _, (((E.nil.keep E 24 rfl).keep E 1 rfl).keep E 0 rfl), H, fun r hr => hr, hm⟩
  ·rw [if_f hb15] at hm
   refine st_val E (ws' E rfl rfl rfl rfl hb15) rfl rfl (x_move E rfl rfl) ?_
   clear a E;intro a E
   obtain ⟨u16, hx17, hm⟩ := bnd hm
   refine st_call E (ws' E rfl rfl rfl rfl hb15) rfl rfl (x_call E rfl rfl (cf61 _)) (c_path_part s2 H hx17) ?_
   clear E H; clear a; clear w; rintro _ w ⟨rfl, H⟩ a E
   refine st_val E (ws' E rfl rfl rfl rfl hb15) rfl rfl (x_not E rfl rfl) ?_
   clear a E;intro a E
   refine sv E rfl rfl rfl (x_pickF E rfl rfl hb15 rfl) ?_
   clear a E;intro a E
   refine sv E rfl rfl rfl (x_move E rfl rfl) ?_
   clear a E;intro a E
   rcases Bool.eq_false_or_eq_true (!u16) with hb18 | hb18
   ·rw [if_t hb18] at hm
    refine st_no E (wf' E rfl rfl rfl rfl hb18 rfl) rfl rfl ?_
    clear a E;intro a E
    refine st_no E (wf' E rfl rfl rfl rfl hb18 rfl) rfl rfl ?_
    clear a E;intro a E
    refine st_no E (wf' E rfl rfl rfl rfl hb18 rfl) rfl rfl ?_
    clear a E;intro a E
    refine sv E rfl rfl rfl (x_pickT E rfl rfl hb18 rfl) ?_
    clear a E;intro a E
    refine wpList_nil ?_
    refine q_then ?_
    replace H := H.drop 0
    exact ⟨true, _, (((E.nil.keep E 24 rfl).keep E 1 rfl).keep E 0 rfl), H, fun r hr => hr, hm⟩
   ·rw [if_f hb18] at hm
    refine st_val E (ws' E rfl rfl rfl rfl hb18) rfl rfl (x_move E rfl rfl) ?_
    clear a E;intro a E
    refine st_val E (ws' E rfl rfl rfl rfl hb18) rfl rfl (x_lenR (i := 0) E H rfl rfl rfl Tryz.underlying29) ?_
    clear a E;intro a E
    refine st_val E (ws' E rfl rfl rfl rfl hb18) rfl rfl (x_bin E rfl rfl rfl rfl) ?_
    clear a E;intro a E
    refine sv E rfl rfl rfl (x_pickF E rfl rfl hb18 rfl) ?_
    clear a E;intro a E
    refine wpList_nil ?_
    refine q_then ?_
    replace H := H.drop 0
    exact ⟨(u3.1.length : Int) == 6, _, (((E.nil.keep E 24 rfl).keep E 1 rfl).keep E 0 rfl), H, fun r hr => hr, hm⟩
 ·clear E H hm
  rintro a w ⟨b6, rs7, E, H, hs8, hm⟩
  unfold m_path_Join_j1 at hm
  refine wp_if E rfl ?_ ?_
  ·intro hb
   rw [if_t hb] at hm
   clear hb
   refine wp_seq ?_
   refine wp_region_lit ?_
   refine sv E rfl rfl rfl (x_assign E rfl rfl) ?_
   clear a E;intro a E
   refine sv E rfl rfl rfl (x_assign E rfl rfl) ?_
   clear a E;intro a E
   refine wpList_nil ?_
   refine q_then ?_
   refine wp_ret ?_
   refine q_thenR ?_
   refine out2 E rfl rfl rfl ?_
   obtain rfl := Option.some.inj hm
   exact ⟨rfl, H.reads (fun r hr => hs8 r hr)⟩
  ·intro hb
   rw [if_f hb] at hm
   clear hb
   refine wp_skip ?_
   refine q_then ?_
   refine wp_seq ?_
   refine wp_region_lit ?_
   refine sv E rfl rfl rfl (x_move E rfl rfl) ?_
   clear a E;intro a E
   obtain ⟨u9, hx10, hm⟩ := bnd hm
   refine st_call E (wn rfl) rfl rfl (x_call E rfl rfl (cf62 _)) (c_strings_TrimSuffix s1 (ByteArray.mk #[47]) H hx10) ?_
   clear E H; clear a; clear w; rintro _ w ⟨rfl, H⟩ a E
   obtain ⟨u12, hx11, hm⟩ := bnd hm
   refine sv E rfl rfl rfl (x_cat E rfl rfl rfl (ck_of hx11)) ?_
   clear a E;intro a E
   refine sv E rfl rfl rfl (x_move E rfl rfl) ?_
   clear a E;intro a E
   obtain ⟨u14, hx13, hm⟩ := bnd hm
   refine sv E rfl rfl rfl (x_cat E rfl rfl rfl (ck_of hx13)) ?_
   clear a E;intro a E
   refine sv E rfl rfl rfl (x_assign E rfl rfl) ?_
   clear a E;intro a E
   refine sv E rfl rfl rfl (x_assign E rfl rfl) ?_
   clear a E;intro a E
   refine wpList_nil ?_
   refine q_then ?_
   refine wp_ret ?_
   refine out2 E rfl rfl rfl ?_
   obtain rfl := Option.some.inj hm
   exact ⟨rfl, H.reads (fun r hr => hs8 r hr)⟩
end Go.Cb

set_option linter.unusedVariables false
set_option linter.unusedSimpArgs false
namespace Go.Cb
open Go.Proofs Go.RowKit
def m_path_Numbered_j1 (x2 : Int) (s1 : ByteArray) (b4 : Bool) : Option (ByteArray × Bool) :=
  if b4 = true then (some ((ByteArray.mk #[]), false)) else ((ck (-9223372036854775808 ≤ IntKind.i64.wrap (10000 + x2) ∧ IntKind.i64.wrap (10000 + x2) ≤ 9223372036854775807)).bind fun u8 => (ck (0 ≤ (1 : Int) ∧ (1 : Int) ≤ (ByteArray.mk (Lib.itoa (IntKind.i64.wrap (10000 + x2))).toArray).size)).bind fun u10 => (ck (s1.size + ((ByteArray.mk (Lib.itoa (IntKind.i64.wrap (10000 + x2))).toArray).extract (1 : Int).toNat (ByteArray.mk (Lib.itoa (IntKind.i64.wrap (10000 + x2))).toArray).size).size ≤ 4611686018427387904)).bind fun u13 => (m_path_part (s1 ++ ((ByteArray.mk (Lib.itoa (IntKind.i64.wrap (10000 + x2))).toArray).extract (1 : Int).toNat (ByteArray.mk (Lib.itoa (IntKind.i64.wrap (10000 + x2))).toArray).size))).bind fun u14 => if (!u14) = true then (some ((ByteArray.mk #[]), false)) else (some (s1 ++ ((ByteArray.mk (Lib.itoa (IntKind.i64.wrap (10000 + x2))).toArray).extract (1 : Int).toNat (ByteArray.mk (Lib.itoa (IntKind.i64.wrap (10000 + x2))).toArray).size), true)))
def m_path_Numbered (s1 : ByteArray) (x2 : Int) : Option (ByteArray × Bool) :=
  if (decide (x2 < 0)) = true then (m_path_Numbered_j1 x2 s1 true) else (m_path_Numbered_j1 x2 s1 (decide (x2 > 9999)))
set_option maxRecDepth 20000 in
set_option maxHeartbeats 1000000 in
theorem c_path_Numbered {w : World} {Fo : List Ob} {rs : List Rp} (s1 : ByteArray) (x2 : Int) (H : Sep w (Fo) rs) (hr3 : rTab Tryz.prog ∈ rs) {r : ByteArray × Bool} (hm : m_path_Numbered s1 x2 = some r) :
    Calls Tryz.prog 42 [.string s1, .int .i64 x2].toArray w (Ret fun v w' => .tuple #[.string r.1, .bool r.2] = v ∧ Sep w' (Fo) (rs)) := by
 unfold m_path_Numbered at hm
 refine enter Tryz.func42 rfl Tryz.ntmps42 rfl fun a E => ?_
 simp only [enum, Nat.reduceAdd] at E
 refine wp_seq ?_
 refine wp_region_lit ?_
 refine sv E rfl rfl rfl (x_assign E rfl rfl) ?_
 clear a E;intro a E
 refine sv E rfl rfl rfl (x_assign E rfl rfl) ?_
 clear a E;intro a E
 refine wpList_nil ?_
 refine q_then ?_
 refine wp_seq ?_
 refine wp_seq_cut (fun a w => ∃ (b4 : Bool) (rs5 : List Rp), Env 23 a [(0, .string s1), (1, .int .i64 x2), (12, .bool b4)] ∧ Sep w (Fo) rs5 ∧ (∀ r, r ∈ rs → r ∈ rs5) ∧ rTab Tryz.prog ∈ rs5 ∧ m_path_Numbered_j1 x2 s1 b4 = some r) ?_ ?_
 ·refine wp_region_lit ?_
  refine sv E rfl rfl rfl (x_move E rfl rfl) ?_
  clear a E;intro a E
  refine sv E rfl rfl rfl (x_bin E rfl rfl rfl rfl) ?_
  clear a E;intro a E
  refine sv E rfl rfl rfl (x_move E rfl rfl) ?_
  clear a E;intro a E
  rcases Bool.eq_false_or_eq_true (decide (x2 < 0)) with hb16 | hb16
  ·rw [if_t hb16] at hm
   refine st_no E (wf' E rfl rfl rfl rfl hb16 rfl) rfl rfl ?_
   clear a E;intro a E
   refine st_no E (wf' E rfl rfl rfl rfl hb16 rfl) rfl rfl ?_
   clear a E;intro a E
   refine sv E rfl rfl rfl (x_pickT E rfl rfl hb16 rfl) ?_
   clear a E;intro a E
   refine wpList_nil ?_
   refine q_then ?_
   exact ⟨true, _, (((E.nil.keep E 12 rfl).keep E 1 rfl).keep E 0 rfl), H, fun r hr => hr, hr3, hm⟩
  ·rw [if_f hb16] at hm
   refine st_val E (ws' E rfl rfl rfl rfl hb16) rfl rfl (x_move E rfl rfl) ?_
   clear a E;intro a E
   refine st_val E (ws' E rfl rfl rfl rfl hb16) rfl rfl (x_bin E rfl rfl rfl rfl) ?_
   clear a E;intro a E
   refine sv E rfl rfl rfl (x_pickF E rfl rfl hb16 rfl) ?_
   clear a E;intro a E
   refine wpList_nil ?_
   refine q_then ?_
   exact ⟨decide (x2 > 9999), _, (((E.nil.keep E 12 rfl).keep E 1 rfl).keep E 0 rfl), H, fun r hr => hr, hr3, hm⟩
 ·clear E H hm
  rintro a w ⟨b4, rs5, E, H, hs6, hr7, hm⟩
  unfold m_path_Numbered_j1 at hm
  refine wp_if E rfl ?_ ?_
  ·intro hb
   rw [if_t hb] at hm
   clear hb
   refine wp_seq ?_
   refine wp_region_lit ?_
   refine sv E rfl rfl rfl (x_assign E rfl rfl) ?_
   clear a E;intro a E
   refine sv E rfl rfl rfl (x_assign E rfl rfl) ?_
   clear a E;intro a E
   refine wpList_nil ?_
   refine q_then ?_
   refine wp_ret ?_
   refine q_thenR ?_
   refine out2 E rfl rfl rfl ?_
   obtain rfl := Option.some.inj hm
   exact ⟨rfl, H.reads (fun r hr => hs6 r hr)⟩
  ·intro hb
   rw [if_f hb] at hm
   clear hb
   refine wp_skip ?_
   refine q_then ?_
   refine wp_seq ?_
   refine wp_region_lit ?_
   refine sv E rfl rfl rfl (x_move E rfl rfl) ?_
   clear a E;intro a E
   refine sv E rfl rfl rfl (x_move E rfl rfl) ?_
   clear a E;intro a E
   refine sv E rfl rfl rfl (x_bin E rfl rfl rfl rfl) ?_
   clear a E;intro a E
   obtain ⟨u8, hx9, hm⟩ := bnd hm
   refine st_call E (wn rfl) rfl rfl (x_call E rfl rfl (cf60 _)) (itoa_c H hr7 (IntKind.i64.wrap (10000 + x2)) (ck_of hx9)) ?_
   clear E H; clear a; clear w; rintro _ w ⟨rfl, H⟩ a E
   obtain ⟨u10, hx11, hm⟩ := bnd hm
   refine sv E rfl rfl rfl (x_subL E rfl rfl rfl Tryz.underlying9 (ck_of hx11)) ?_
   clear a E;intro a E
   obtain ⟨u13, hx12, hm⟩ := bnd hm
   refine sv E rfl rfl rfl (x_cat E rfl rfl rfl (ck_of hx12)) ?_
   clear a E;intro a E
   refine sv E rfl rfl rfl (x_assign E rfl rfl) ?_
   clear a E;intro a E
   refine wpList_nil ?_
   refine q_then ?_
   refine wp_seq ?_
   refine wp_seq ?_
   refine wp_region_lit ?_
   refine sv E rfl rfl rfl (x_move E rfl rfl) ?_
   clear a E;intro a E
   obtain ⟨u14, hx15, hm⟩ := bnd hm
   refine st_call E (wn rfl) rfl rfl (x_call E rfl rfl (cf61 _)) (c_path_part (s1 ++ ((ByteArray.mk (Lib.itoa (IntKind.i64.wrap (10000 + x2))).toArray).extract (1 : Int).toNat (ByteArray.mk (Lib.itoa (IntKind.i64.wrap (10000 + x2))).toArray).size)) H hx15) ?_
   clear E H; clear a; clear w; rintro _ w ⟨rfl, H⟩ a E
   refine sv E rfl rfl rfl (x_not E rfl rfl) ?_
   clear a E;intro a E
   refine wpList_nil ?_
   refine q_then ?_
   refine wp_if E rfl ?_ ?_
   ·intro hb
    rw [if_t hb] at hm
    clear hb
    refine wp_seq ?_
    refine wp_region_lit ?_
    refine sv E rfl rfl rfl (x_assign E rfl rfl) ?_
    clear a E;intro a E
    refine sv E rfl rfl rfl (x_assign E rfl rfl) ?_
    clear a E;intro a E
    refine wpList_nil ?_
    refine q_then ?_
    refine wp_ret ?_
    refine q_thenR ?_
    refine out2 E rfl rfl rfl ?_
    obtain rfl := Option.some.inj hm
    exact ⟨rfl, H.reads (fun r hr => hs6 r hr)⟩
   ·intro hb
    rw [if_f hb] at hm
    clear hb
    refine wp_skip ?_
    refine q_then ?_
    refine wp_seq ?_
    refine wp_region_lit ?_
    refine sv E rfl rfl rfl (x_move E rfl rfl) ?_
    clear a E;intro a E
    refine sv E rfl rfl rfl (x_assign E rfl rfl) ?_
    clear a E;intro a E
    refine sv E rfl rfl rfl (x_assign E rfl rfl) ?_
    clear a E;intro a E
    refine wpList_nil ?_
    refine q_then ?_
    refine wp_ret ?_
    refine out2 E rfl rfl rfl ?_
    obtain rfl := Option.some.inj hm
    exact ⟨rfl, H.reads (fun r hr => hs6 r hr)⟩
end Go.Cb

set_option linter.unusedVariables false
set_option linter.unusedSimpArgs false
namespace Go.Cb
open Go.Proofs Go.RowKit
def m_cantonref01_path_l1 (l2 : List ByteArray) : Nat → ByteArray → Int → Option ByteArray
  | 0, _, _ => none
  | k1 + 1, s4, x5 =>
    if (decide (x5 < (l2.length : Int))) = true then ((ck (s4.size + (ByteArray.mk #[47]).size ≤ 4611686018427387904)).bind fun u10 => (idx l2 x5).bind fun x11 => (ck ((s4 ++ (ByteArray.mk #[47])).size + x11.size ≤ 4611686018427387904)).bind fun u15 => m_cantonref01_path_l1 l2 k1 ((s4 ++ (ByteArray.mk #[47])) ++ x11) (IntKind.i64.wrap (x5 + 1))) else (some (s4))
def m_cantonref01_path (l2 : List ByteArray) : Option ByteArray :=
  if ((l2.length : Int) == 0) = true then (some ((ByteArray.mk #[47]))) else (m_cantonref01_path_l1 l2 (((l2.length : Int) - 0 : Int).toNat + 1) (ByteArray.mk #[]) 0)
set_option maxRecDepth 20000 in
set_option maxHeartbeats 1000000 in
theorem c_cantonref01_path {w : World} {Fo : List Ob} {rs : List Rp} (v1 : Value) (l2 : List ByteArray) (H : Sep w (Fo) rs) (hr3 : rSl kS v1 l2 ∈ rs) {r : ByteArray} (hm : m_cantonref01_path l2 = some r) :
    Calls Tryz.prog 58 [v1].toArray w (Ret fun v w' => .string r = v ∧ Sep w' (Fo) (rs)) := by
 unfold m_cantonref01_path at hm
 refine enter Tryz.func58 rfl Tryz.ntmps58 rfl fun a E => ?_
 simp only [enum, Nat.reduceAdd] at E
 refine wp_seq ?_
 refine wp_region_lit ?_
 refine sv E rfl rfl rfl (x_assign E rfl rfl) ?_
 clear a E;intro a E
 refine wpList_nil ?_
 refine q_then ?_
 refine wp_seq ?_
 refine wp_seq ?_
 refine wp_region_lit ?_
 refine sv E rfl rfl rfl (x_move E rfl rfl) ?_
 clear a E;intro a E
 refine sv E rfl rfl rfl (x_lenS E H rfl rfl hr3 Tryz.underlying29) ?_
 clear a E;intro a E
 refine sv E rfl rfl rfl (x_bin E rfl rfl rfl rfl) ?_
 clear a E;intro a E
 refine wpList_nil ?_
 refine q_then ?_
 refine wp_if E rfl ?_ ?_
 ·intro hb
  rw [if_t hb] at hm
  clear hb
  refine wp_seq ?_
  refine wp_region_lit ?_
  refine sv E rfl rfl rfl (x_assign E rfl rfl) ?_
  clear a E;intro a E
  refine wpList_nil ?_
  refine q_then ?_
  refine wp_ret ?_
  refine q_thenR ?_
  refine out1 E rfl rfl ?_
  obtain rfl := Option.some.inj hm
  exact ⟨rfl, H.reads (fun r hr => hr)⟩
 ·intro hb
  rw [if_f hb] at hm
  clear hb
  refine wp_skip ?_
  refine q_then ?_
  refine wp_seq ?_
  refine wp_region_lit ?_
  refine sv E rfl rfl rfl (x_assign E rfl rfl) ?_
  clear a E;intro a E
  refine wpList_nil ?_
  refine q_then ?_
  refine wp_seq ?_
  refine wp_seq ?_
  refine wp_region_lit ?_
  refine sv E rfl rfl rfl (x_assign E rfl rfl) ?_
  clear a E;intro a E
  refine wpList_nil ?_
  refine q_then ?_
  refine wp_block ?_
  refine wp_loop_g (fun k1 a w => ∃ (s4 : ByteArray) (x5 : Int) (rs6 : List Rp), Env 22 a [(0, v1), (3, .string s4), (4, .int .i64 x5)] ∧ Sep w (Fo) rs6 ∧ (∀ r, r ∈ rs → r ∈ rs6) ∧ rSl kS v1 l2 ∈ rs6 ∧ m_cantonref01_path_l1 l2 k1 s4 x5 = some r) (((l2.length : Int) - 0 : Int).toNat + 1) ?_ ?_
  ·exact ⟨(ByteArray.mk #[]), 0, _, (((E.nil.keep E 4 rfl).keep E 3 rfl).keep E 0 rfl), H, fun r hr => hr, hr3, hm⟩
  ·clear E H hm
   rintro k1 a w ⟨s4, x5, rs6, E, H, hs7, hr8, hm⟩
   cases k1 with
   | zero => exact (none_some hm rfl).elim
   | succ k1 =>
    unfold m_cantonref01_path_l1 at hm
    refine wp_seq ?_
    refine wp_seq ?_
    refine wp_region_lit ?_
    refine sv E rfl rfl rfl (x_move E rfl rfl) ?_
    clear a E;intro a E
    refine sv E rfl rfl rfl (x_move E rfl rfl) ?_
    clear a E;intro a E
    refine sv E rfl rfl rfl (x_lenS E H rfl rfl hr8 Tryz.underlying29) ?_
    clear a E;intro a E
    refine sv E rfl rfl rfl (x_bin E rfl rfl rfl rfl) ?_
    clear a E;intro a E
    refine wpList_nil ?_
    refine q_then ?_
    refine wp_if E rfl ?_ ?_
    ·intro hb
     rw [if_t hb] at hm
     clear hb
     refine wp_skip ?_
     refine q_then ?_
     refine wp_seq ?_
     refine wp_block ?_
     refine wp_region_lit ?_
     refine sv E rfl rfl rfl (x_move E rfl rfl) ?_
     clear a E;intro a E
     obtain ⟨u10, hx9, hm⟩ := bnd hm
     refine sv E rfl rfl rfl (x_cat E rfl rfl rfl (ck_of hx9)) ?_
     clear a E;intro a E
     refine sv E rfl rfl rfl (x_move E rfl rfl) ?_
     clear a E;intro a E
     refine sv E rfl rfl rfl (x_move E rfl rfl) ?_
     clear a E;intro a E
     obtain ⟨x11, hx12, hm⟩ := bnd hm
     refine st_ixS E H (wn rfl) rfl rfl rfl rfl rfl hr8 Tryz.underlying29 sz9 hx12 ?_
     clear E H; clear a; intro q13 a H E
     refine sv E rfl rfl rfl (x_ldA E H rfl rfl (.head _) Tryz.underlying9 rfl) ?_
     clear a E;intro a E
     obtain ⟨u15, hx14, hm⟩ := bnd hm
     refine sv E rfl rfl rfl (x_cat E rfl rfl rfl (ck_of hx14)) ?_
     clear a E;intro a E
     refine sv E rfl rfl rfl (x_assign E rfl rfl) ?_
     clear a E;intro a E
     refine wpList_nil ?_
     refine q_blk ?_
     refine q_then ?_
     refine wp_region_lit ?_
     refine sv E rfl rfl rfl (x_move E rfl rfl) ?_
     clear a E;intro a E
     refine sv E rfl rfl rfl (x_bin E rfl rfl rfl rfl) ?_
     clear a E;intro a E
     refine sv E rfl rfl rfl (x_assign E rfl rfl) ?_
     clear a E;intro a E
     refine wpList_nil ?_
     refine q_then ?_
     exact ⟨k1, Nat.lt_succ_self k1, (s4 ++ (ByteArray.mk #[47])) ++ x11, IntKind.i64.wrap (x5 + 1), _, (((E.nil.keep E 4 rfl).keep E 3 rfl).keep E 0 rfl), H, fun r hr => .tail _ (hs7 r hr), (.tail _ hr8), hm⟩
    ·intro hb
     rw [if_f hb] at hm
     clear hb
     refine wp_exit ?_
     refine q_thenX ?_
     refine q_thenX ?_
     refine q_hit ?_
     refine q_then ?_
     refine wp_seq ?_
     refine wp_region_lit ?_
     refine sv E rfl rfl rfl (x_move E rfl rfl) ?_
     clear a E;intro a E
     refine sv E rfl rfl rfl (x_assign E rfl rfl) ?_
     clear a E;intro a E
     refine wpList_nil ?_
     refine q_then ?_
     refine wp_ret ?_
     refine out1 E rfl rfl ?_
     obtain rfl := Option.some.inj hm
     exact ⟨rfl, H.reads (fun r hr => hs7 r hr)⟩
end Go.Cb

set_option linter.unusedVariables false
set_option linter.unusedSimpArgs false
namespace Go.Cb
open Go.Proofs Go.RowKit
def m_cantonref01_Parent_j1 (u2 : (List ByteArray) × Bool) (b5 : Bool) : Option (ByteArray × Bool) :=
  if b5 = true then (some ((ByteArray.mk #[]), false)) else ((ck (0 ≤ (IntKind.i64.wrap ((u2.1.length : Int) - 1)) ∧ (IntKind.i64.wrap ((u2.1.length : Int) - 1)) ≤ u2.1.length)).bind fun u8 => (m_cantonref01_path (u2.1.take (IntKind.i64.wrap ((u2.1.length : Int) - 1)).toNat)).bind fun u11 => some (u11, true))
def m_cantonref01_Parent (s1 : ByteArray) : Option (ByteArray × Bool) :=
  (m_cantonref01_Split s1).bind fun u2 => if (!u2.2) = true then (m_cantonref01_Parent_j1 u2 true) else (m_cantonref01_Parent_j1 u2 ((u2.1.length : Int) == 0))
set_option maxRecDepth 20000 in
set_option maxHeartbeats 1000000 in
theorem c_cantonref01_Parent {w : World} {Fo : List Ob} {rs : List Rp} (s1 : ByteArray) (H : Sep w (Fo) rs) {r : ByteArray × Bool} (hm : m_cantonref01_Parent s1 = some r) :
    Calls Tryz.prog 36 [.string s1].toArray w (Ret fun v w' => .tuple #[.string r.1, .bool r.2] = v ∧ Sep w' (Fo) (rs)) := by
 unfold m_cantonref01_Parent at hm
 refine enter Tryz.func36 rfl Tryz.ntmps36 rfl fun a E => ?_
 simp only [enum, Nat.reduceAdd] at E
 refine wp_seq ?_
 refine wp_region_lit ?_
 refine sv E rfl rfl rfl (x_assign E rfl rfl) ?_
 clear a E;intro a E
 refine sv E rfl rfl rfl (x_assign E rfl rfl) ?_
 clear a E;intro a E
 refine wpList_nil ?_
 refine q_then ?_
 refine wp_seq ?_
 refine wp_region_lit ?_
 refine sv E rfl rfl rfl (x_move E rfl rfl) ?_
 clear a E;intro a E
 obtain ⟨u2, hx3, hm⟩ := bnd hm
 refine st_call E (wn rfl) rfl rfl (x_call E rfl rfl (cf56 _)) (c_cantonref01_Split s1 H hx3) ?_
 clear E H; clear a; clear w; rintro _ w ⟨v4, rfl, H⟩ a E
 refine sv E rfl rfl rfl (x_move E rfl rfl) ?_
 clear a E;intro a E
 refine sv E rfl rfl rfl (x_ext E rfl rfl rfl) ?_
 clear a E;intro a E
 refine sv E rfl rfl rfl (x_ext E rfl rfl rfl) ?_
 clear a E;intro a E
 refine sv E rfl rfl rfl (x_assign E rfl rfl) ?_
 clear a E;intro a E
 refine sv E rfl rfl rfl (x_assign E rfl rfl) ?_
 clear a E;intro a E
 refine wpList_nil ?_
 refine q_then ?_
 refine wp_seq ?_
 refine wp_seq_cut (fun a w => ∃ (b5 : Bool) (rs6 : List Rp), Env 24 a [(4, v4), (17, .bool b5)] ∧ Sep w (Row 9 kS v4 u2.1 :: Fo) rs6 ∧ (∀ r, r ∈ rs → r ∈ rs6) ∧ m_cantonref01_Parent_j1 u2 b5 = some r) ?_ ?_
 ·refine wp_region_lit ?_
  refine sv E rfl rfl rfl (x_move E rfl rfl) ?_
  clear a E;intro a E
  refine sv E rfl rfl rfl (x_not E rfl rfl) ?_
  clear a E;intro a E
  refine sv E rfl rfl rfl (x_move E rfl rfl) ?_
  clear a E;intro a E
  rcases Bool.eq_false_or_eq_true (!u2.2) with hb13 | hb13
  ·rw [if_t hb13] at hm
   refine st_no E (wf' E rfl rfl rfl rfl hb13 rfl) rfl rfl ?_
   clear a E;intro a E
   refine st_no E (wf' E rfl rfl rfl rfl hb13 rfl) rfl rfl ?_
   clear a E;intro a E
   refine st_no E (wf' E rfl rfl rfl rfl hb13 rfl) rfl rfl ?_
   clear a E;intro a E
   refine sv E rfl rfl rfl (x_pickT E rfl rfl hb13 rfl) ?_
   clear a E;intro a E
   refine wpList_nil ?_
   refine q_then ?_
   exact ⟨true, _, ((E.nil.keep E 17 rfl).keep E 4 rfl), H, fun r hr => hr, hm⟩
  ·rw [if_f hb13] at hm
   refine st_val E (ws' E rfl rfl rfl rfl hb13) rfl rfl (x_move E rfl rfl) ?_
   clear a E;intro a E
   refine st_val E (ws' E rfl rfl rfl rfl hb13) rfl rfl (x_lenR (i := 0) E H rfl rfl rfl Tryz.underlying29) ?_
   clear a E;intro a E
   refine st_val E (ws' E rfl rfl rfl rfl hb13) rfl rfl (x_bin E rfl rfl rfl rfl) ?_
   clear a E;intro a E
   refine sv E rfl rfl rfl (x_pickF E rfl rfl hb13 rfl) ?_
   clear a E;intro a E
   refine wpList_nil ?_
   refine q_then ?_
   exact ⟨(u2.1.length : Int) == 0, _, ((E.nil.keep E 17 rfl).keep E 4 rfl), H, fun r hr => hr, hm⟩
 ·clear E H hm
  rintro a w ⟨b5, rs6, E, H, hs7, hm⟩
  unfold m_cantonref01_Parent_j1 at hm
  refine wp_if E rfl ?_ ?_
  ·intro hb
   rw [if_t hb] at hm
   clear hb
   refine wp_seq ?_
   refine wp_region_lit ?_
   refine sv E rfl rfl rfl (x_assign E rfl rfl) ?_
   clear a E;intro a E
   refine sv E rfl rfl rfl (x_assign E rfl rfl) ?_
   clear a E;intro a E
   refine wpList_nil ?_
   refine q_then ?_
   refine wp_ret ?_
   refine q_thenR ?_
   refine out2 E rfl rfl rfl ?_
   replace H := H.drop 0
   obtain rfl := Option.some.inj hm
   exact ⟨rfl, H.reads (fun r hr => hs7 r hr)⟩
  ·intro hb
   rw [if_f hb] at hm
   clear hb
   refine wp_skip ?_
   refine q_then ?_
   refine wp_seq ?_
   refine wp_region_lit ?_
   refine sv E rfl rfl rfl (x_move E rfl rfl) ?_
   clear a E;intro a E
   refine sv E rfl rfl rfl (x_move E rfl rfl) ?_
   clear a E;intro a E
   refine sv E rfl rfl rfl (x_lenR (i := 0) E H rfl rfl rfl Tryz.underlying29) ?_
   clear a E;intro a E
   refine sv E rfl rfl rfl (x_bin E rfl rfl rfl rfl) ?_
   clear a E;intro a E
   replace H := H.thaw (i := 0) rfl
   obtain ⟨u8, hx9, hm⟩ := bnd hm
   refine st_take E H (wn rfl) rfl rfl rfl rfl rfl (.head _) Tryz.underlying29 sz9 (ck_of hx9) ?_
   clear E H; clear a; intro v10 a H E
   obtain ⟨u11, hx12, hm⟩ := bnd hm
   refine st_call E (wn rfl) rfl rfl (x_call E rfl rfl (cf58 _)) (c_cantonref01_path v10 (u2.1.take (IntKind.i64.wrap ((u2.1.length : Int) - 1)).toNat) H (.head _) hx12) ?_
   clear E H; clear a; clear w; rintro _ w ⟨rfl, H⟩ a E
   refine sv E rfl rfl rfl (x_assign E rfl rfl) ?_
   clear a E;intro a E
   refine sv E rfl rfl rfl (x_assign E rfl rfl) ?_
   clear a E;intro a E
   refine wpList_nil ?_
   refine q_then ?_
   refine wp_ret ?_
   refine out2 E rfl rfl rfl ?_
   obtain rfl := Option.some.inj hm
   exact ⟨rfl, H.reads (fun r hr => .tail _ (.tail _ (hs7 r hr)))⟩
end Go.Cb

set_option linter.unusedVariables false
set_option linter.unusedSimpArgs false
namespace Go.Cb
open Go.Proofs Go.RowKit
def m_cantonref01_Join_j1 (u3 : (List ByteArray) × Bool) (s2 : ByteArray) (b6 : Bool) : Option (ByteArray × Bool) :=
  if b6 = true then (some ((ByteArray.mk #[]), false)) else ((ck (([] : List ByteArray).length + u3.1.length ≤ LIM)).bind fun u11 => (ck ((([] : List ByteArray) ++ u3.1).length + ([s2] : List ByteArray).length ≤ LIM)).bind fun u15 => (m_cantonref01_path ((([] : List ByteArray) ++ u3.1) ++ ([s2] : List ByteArray))).bind fun u17 => some (u17, true))
def m_cantonref01_Join (s1 : ByteArray) (s2 : ByteArray) : Option (ByteArray × Bool) :=
  (m_cantonref01_Split s1).bind fun u3 => if (!u3.2) = true then (m_cantonref01_Join_j1 u3 s2 true) else ((m_cantonref01_Part s2).bind fun u20 => if (!u20) = true then (m_cantonref01_Join_j1 u3 s2 true) else (m_cantonref01_Join_j1 u3 s2 (decide ((u3.1.length : Int) ≥ 6))))
set_option maxRecDepth 20000 in
set_option maxHeartbeats 1000000 in
theorem c_cantonref01_Join {w : World} {Fo : List Ob} {rs : List Rp} (s1 : ByteArray) (s2 : ByteArray) (H : Sep w (Fo) rs) {r : ByteArray × Bool} (hm : m_cantonref01_Join s1 s2 = some r) :
    Calls Tryz.prog 67 [.string s1, .string s2].toArray w (Ret fun v w' => .tuple #[.string r.1, .bool r.2] = v ∧ Sep w' (Fo) (rs)) := by
 unfold m_cantonref01_Join at hm
 refine enter Tryz.func67 rfl Tryz.ntmps67 rfl fun a E => ?_
 simp only [enum, Nat.reduceAdd] at E
 refine wp_seq ?_
 refine wp_region_lit ?_
 refine sv E rfl rfl rfl (x_assign E rfl rfl) ?_
 clear a E;intro a E
 refine sv E rfl rfl rfl (x_assign E rfl rfl) ?_
 clear a E;intro a E
 refine wpList_nil ?_
 refine q_then ?_
 refine wp_seq ?_
 refine wp_region_lit ?_
 refine sv E rfl rfl rfl (x_move E rfl rfl) ?_
 clear a E;intro a E
 obtain ⟨u3, hx4, hm⟩ := bnd hm
 refine st_call E (wn rfl) rfl rfl (x_call E rfl rfl (cf56 _)) (c_cantonref01_Split s1 H hx4) ?_
 clear E H; clear a; clear w; rintro _ w ⟨v5, rfl, H⟩ a E
 refine sv E rfl rfl rfl (x_move E rfl rfl) ?_
 clear a E;intro a E
 refine sv E rfl rfl rfl (x_ext E rfl rfl rfl) ?_
 clear a E;intro a E
 refine sv E rfl rfl rfl (x_ext E rfl rfl rfl) ?_
 clear a E;intro a E
 refine sv E rfl rfl rfl (x_assign E rfl rfl) ?_
 clear a E;intro a E
 refine sv E rfl rfl rfl (x_assign E rfl rfl) ?_
 clear a E;intro a E
 refine wpList_nil ?_
 refine q_then ?_
 refine wp_seq ?_
 refine wp_seq_cut (fun a w => ∃ (b6 : Bool) (rs7 : List Rp), Env 32 a [(1, .string s2), (6, v5), (24, .bool b6)] ∧ Sep w (Row 9 kS v5 u3.1 :: Fo) rs7 ∧ (∀ r, r ∈ rs → r ∈ rs7) ∧ m_cantonref01_Join_j1 u3 s2 b6 = some r) ?_ ?_
 ·refine wp_region_lit ?_
  refine sv E rfl rfl rfl (x_move E rfl rfl) ?_
  clear a E;intro a E
  refine sv E rfl rfl rfl (x_not E rfl rfl) ?_
  clear a E;intro a E
  refine sv E rfl rfl rfl (x_move E rfl rfl) ?_
  clear a E;intro a E
  rcases Bool.eq_false_or_eq_true (!u3.2) with hb19 | hb19
  ·rw [if_t hb19] at hm
   refine st_no E (wf' E rfl rfl rfl rfl hb19 rfl) rfl rfl ?_
   clear a E;intro a E
   refine st_no E (wf' E rfl rfl rfl rfl hb19 rfl) rfl rfl ?_
   clear a E;intro a E
   refine st_no E (wf' E rfl rfl rfl rfl hb19 rfl) rfl rfl ?_
   clear a E;intro a E
   refine sv E rfl rfl rfl (x_pickT E rfl rfl hb19 rfl) ?_
   clear a E;intro a E
   refine sv E rfl rfl rfl (x_move E rfl rfl) ?_
   clear a E;intro a E
   refine st_no E (wf E rfl rfl rfl rfl rfl) rfl rfl ?_
   clear a E;intro a E
   refine st_no E (wf E rfl rfl rfl rfl rfl) rfl rfl ?_
   clear a E;intro a E
   refine st_no E (wf E rfl rfl rfl rfl rfl) rfl rfl ?_
   clear a E;intro a E
   refine sv E rfl rfl rfl (x_pickT E rfl rfl rfl rfl) ?_
   clear a E;intro a E
   refine wpList_nil ?_
   refine q_then ?_
   exact ⟨true, _, (((E.nil.keep E 24 rfl).keep E 6 rfl).keep E 1 rfl), H, fun r hr => hr, hm⟩
  ·rw [if_f hb19] at hm
   refine st_val E (ws' E rfl rfl rfl rfl hb19) rfl rfl (x_move E rfl rfl) ?_
   clear a E;intro a E
   obtain ⟨u20, hx21, hm⟩ := bnd hm
   refine st_call E (ws' E rfl rfl rfl rfl hb19) rfl rfl (x_call E rfl rfl (cf68 _)) (c_cantonref01_Part s2 H hx21) ?_
   clear E H; clear a; clear w; rintro _ w ⟨rfl, H⟩ a E
   refine st_val E (ws' E rfl rfl rfl rfl hb19) rfl rfl (x_not E rfl rfl) ?_
   clear a E;intro a E
   refine sv E rfl rfl rfl (x_pickF E rfl rfl hb19 rfl) ?_
   clear a E;intro a E
   refine sv E rfl rfl rfl (x_move E rfl rfl) ?_
   clear a E;intro a E
   rcases Bool.eq_false_or_eq_true (!u20) with hb22 | hb22
   ·rw [if_t hb22] at hm
    refine st_no E (wf' E rfl rfl rfl rfl hb22 rfl) rfl rfl ?_
    clear a E;intro a E
    refine st_no E (wf' E rfl rfl rfl rfl hb22 rfl) rfl rfl ?_
    clear a E;intro a E
    refine st_no E (wf' E rfl rfl rfl rfl hb22 rfl) rfl rfl ?_
    clear a E;intro a E
    refine sv E rfl rfl rfl (x_pickT E rfl rfl hb22 rfl) ?_
    clear a E;intro a E
    refine wpList_nil ?_
    refine q_then ?_
    exact ⟨true, _, (((E.nil.keep E 24 rfl).keep E 6 rfl).keep E 1 rfl), H, fun r hr => hr, hm⟩
   ·rw [if_f hb22] at hm
    refine st_val E (ws' E rfl rfl rfl rfl hb22) rfl rfl (x_move E rfl rfl) ?_
    clear a E;intro a E
    refine st_val E (ws' E rfl rfl rfl rfl hb22) rfl rfl (x_lenR (i := 0) E H rfl rfl rfl Tryz.underlying29) ?_
    clear a E;intro a E
    refine st_val E (ws' E rfl rfl rfl rfl hb22) rfl rfl (x_bin E rfl rfl rfl rfl) ?_
    clear a E;intro a E
    refine sv E rfl rfl rfl (x_pickF E rfl rfl hb22 rfl) ?_
    clear a E;intro a E
    refine wpList_nil ?_
    refine q_then ?_
    exact ⟨decide ((u3.1.length : Int) ≥ 6), _, (((E.nil.keep E 24 rfl).keep E 6 rfl).keep E 1 rfl), H, fun r hr => hr, hm⟩
 ·clear E H hm
  rintro a w ⟨b6, rs7, E, H, hs8, hm⟩
  unfold m_cantonref01_Join_j1 at hm
  refine wp_if E rfl ?_ ?_
  ·intro hb
   rw [if_t hb] at hm
   clear hb
   refine wp_seq ?_
   refine wp_region_lit ?_
   refine sv E rfl rfl rfl (x_assign E rfl rfl) ?_
   clear a E;intro a E
   refine sv E rfl rfl rfl (x_assign E rfl rfl) ?_
   clear a E;intro a E
   refine wpList_nil ?_
   refine q_then ?_
   refine wp_ret ?_
   refine q_thenR ?_
   refine out2 E rfl rfl rfl ?_
   replace H := H.drop 0
   obtain rfl := Option.some.inj hm
   exact ⟨rfl, H.reads (fun r hr => hs8 r hr)⟩
  ·intro hb
   rw [if_f hb] at hm
   clear hb
   refine wp_skip ?_
   refine q_then ?_
   refine wp_seq ?_
   refine wp_region_lit ?_
   refine st_bsO (e := 9) (d := kS) (cs := []) (xs := []) E H (wn rfl) rfl rfl (ps := []) (parts := []) rfl rfl (by kernel_rfl) rfl rfl (fun ok hr => Rows.nil _ _ _) ?_
   clear E H; clear a; clear w; intro v9 w a H E
   refine sv E rfl rfl rfl (x_move E rfl rfl) ?_
   clear a E;intro a E
   obtain ⟨u11, hx12, hm⟩ := bnd hm
   refine st_append (i := 0) E H (wn rfl) rfl rfl rfl rfl rfl rfl (src_row (i := 1) rfl) Tryz.underlying29 inf9 rfl (ck_of hx12) rfl ?_
   clear E H; clear a; clear w; intro v10 w a H E
   refine sv E rfl rfl rfl (x_move E rfl rfl) ?_
   clear a E;intro a E
   refine st_bsR (e := 9) (d := kS) (cs := [.string s2]) (xs := [s2]) E H (wn rfl) rfl rfl (ps := [(0, .tmp 28)]) (parts := [(0, .string s2)]) rfl (by simp only [List.map]; rw [E.eval (x := .tmp 28) (v := .string s2) rfl]) (by kernel_rfl) rfl (fun ok hr => (Rows.single (d := kS) (cs := [.string s2]) (x := s2) rfl)) ?_
   clear E H; clear a; clear w; intro v13 w a H E
   obtain ⟨u15, hx16, hm⟩ := bnd hm
   refine st_append (i := 0) E H (wn rfl) rfl rfl rfl rfl rfl rfl (src_rd (.head _)) Tryz.underlying29 inf9 rfl (ck_of hx16) rfl ?_
   clear E H; clear a; clear w; intro v14 w a H E
   replace H := H.thaw (i := 0) rfl
   replace H : Sep w (Row 9 kS v5 u3.1 :: Fo) (rSl kS v14 ((([] : List ByteArray) ++ u3.1) ++ ([s2] : List ByteArray)) :: rSl kS v13 ([s2] : List ByteArray) :: rs7) := H
   obtain ⟨u17, hx18, hm⟩ := bnd hm
   refine st_call E (wn rfl) rfl rfl (x_call E rfl rfl (cf58 _)) (c_cantonref01_path v14 ((([] : List ByteArray) ++ u3.1) ++ ([s2] : List ByteArray)) H (.head _) hx18) ?_
   clear E H; clear a; clear w; rintro _ w ⟨rfl, H⟩ a E
   refine sv E rfl rfl rfl (x_assign E rfl rfl) ?_
   clear a E;intro a E
   refine sv E rfl rfl rfl (x_assign E rfl rfl) ?_
   clear a E;intro a E
   refine wpList_nil ?_
   refine q_then ?_
   refine wp_ret ?_
   refine out2 E rfl rfl rfl ?_
   replace H := H.drop 0
   obtain rfl := Option.some.inj hm
   exact ⟨rfl, H.reads (fun r hr => .tail _ (.tail _ (hs8 r hr)))⟩
end Go.Cb

set_option linter.unusedVariables false
set_option linter.unusedSimpArgs false
namespace Go.Cb
open Go.Proofs Go.RowKit
def m_internal_bytealg_CompareString (s1 : ByteArray) (s2 : ByteArray) : Option Int :=
  some (Extern.BytealgCompare.cmp s1 s2)
set_option maxRecDepth 20000 in
set_option maxHeartbeats 1000000 in
theorem c_internal_bytealg_CompareString {w : World} {Fo : List Ob} {rs : List Rp} (s1 : ByteArray) (s2 : ByteArray) (H : Sep w (Fo) rs) {r : Int} (hm : m_internal_bytealg_CompareString s1 s2 = some r) :
    Calls Tryz.prog 78 [.string s1, .string s2].toArray w (Ret fun v w' => .int .i64 r = v ∧ Sep w' (Fo) (rs)) := by
 unfold m_internal_bytealg_CompareString at hm
 refine enter Tryz.func78 rfl Tryz.ntmps78 rfl fun a E => ?_
 simp only [enum, Nat.reduceAdd] at E
 refine wp_seq ?_
 refine wp_region_lit ?_
 refine sv E rfl rfl rfl (x_assign E rfl rfl) ?_
 clear a E;intro a E
 refine wpList_nil ?_
 refine q_then ?_
 refine wp_seq ?_
 refine wp_region_lit ?_
 refine sv E rfl rfl rfl (x_move E rfl rfl) ?_
 clear a E;intro a E
 refine sv E rfl rfl rfl (x_move E rfl rfl) ?_
 clear a E;intro a E
 refine sv E rfl rfl rfl (x_callX E rfl rfl (ext87 _ _ _)) ?_
 clear a E;intro a E
 refine sv E rfl rfl rfl (x_assign E rfl rfl) ?_
 clear a E;intro a E
 refine wpList_nil ?_
 refine q_then ?_
 refine wp_ret ?_
 refine out1 E rfl rfl ?_
 obtain rfl := Option.some.inj hm
 exact ⟨rfl, H.reads (fun r hr => hr)⟩
end Go.Cb

set_option linter.unusedVariables false
set_option linter.unusedSimpArgs false
namespace Go.Cb
open Go.Proofs Go.RowKit
def m_strings_Compare (s1 : ByteArray) (s2 : ByteArray) : Option Int :=
  (m_internal_bytealg_CompareString s1 s2).bind fun u3 => some (u3)
set_option maxRecDepth 20000 in
set_option maxHeartbeats 1000000 in
theorem c_strings_Compare {w : World} {Fo : List Ob} {rs : List Rp} (s1 : ByteArray) (s2 : ByteArray) (H : Sep w (Fo) rs) {r : Int} (hm : m_strings_Compare s1 s2 = some r) :
    Calls Tryz.prog 65 [.string s1, .string s2].toArray w (Ret fun v w' => .int .i64 r = v ∧ Sep w' (Fo) (rs)) := by
 unfold m_strings_Compare at hm
 refine enter Tryz.func65 rfl Tryz.ntmps65 rfl fun a E => ?_
 simp only [enum, Nat.reduceAdd] at E
 refine wp_seq ?_
 refine wp_region_lit ?_
 refine sv E rfl rfl rfl (x_assign E rfl rfl) ?_
 clear a E;intro a E
 refine wpList_nil ?_
 refine q_then ?_
 refine wp_seq ?_
 refine wp_region_lit ?_
 refine sv E rfl rfl rfl (x_move E rfl rfl) ?_
 clear a E;intro a E
 refine sv E rfl rfl rfl (x_move E rfl rfl) ?_
 clear a E;intro a E
 obtain ⟨u3, hx4, hm⟩ := bnd hm
 refine st_call E (wn rfl) rfl rfl (x_call E rfl rfl (cf78 _)) (c_internal_bytealg_CompareString s1 s2 H hx4) ?_
 clear E H; clear a; clear w; rintro _ w ⟨rfl, H⟩ a E
 refine sv E rfl rfl rfl (x_assign E rfl rfl) ?_
 clear a E;intro a E
 refine wpList_nil ?_
 refine q_then ?_
 refine wp_ret ?_
 refine out1 E rfl rfl ?_
 obtain rfl := Option.some.inj hm
 exact ⟨rfl, H.reads (fun r hr => hr)⟩
end Go.Cb

set_option linter.unusedVariables false
set_option linter.unusedSimpArgs false
namespace Go.Cb
open Go.Proofs Go.RowKit
def m_nodes_order (x1 : S_api_Node) (x2 : S_api_Node) : Option Int :=
  (m_strings_Compare x1.Path x2.Path).bind fun u5 => some (u5)
set_option maxRecDepth 20000 in
set_option maxHeartbeats 1000000 in
theorem c_nodes_order {w : World} {Fo : List Ob} {rs : List Rp} (x1 : S_api_Node) (x2 : S_api_Node) (H : Sep w (Fo) rs) {r : Int} (hm : m_nodes_order x1 x2 = some r) :
    Calls Tryz.prog 48 [.agg #[.string x1.Path, .string x1.Data, .int .i64 x1.Version, .int .i64 x1.Turn, .int .i64 x1.Owner], .agg #[.string x2.Path, .string x2.Data, .int .i64 x2.Version, .int .i64 x2.Turn, .int .i64 x2.Owner]].toArray w (Ret fun v w' => .int .i64 r = v ∧ Sep w' (Fo) (rs)) := by
 unfold m_nodes_order at hm
 refine enter Tryz.func48 rfl Tryz.ntmps48 rfl fun a E => ?_
 simp only [enum, Nat.reduceAdd] at E
 refine wp_seq ?_
 refine wp_region_lit ?_
 refine st_box E H (wn rfl) rfl rfl (cs := [.string x1.Path, .string x1.Data, .int .i64 x1.Version, .int .i64 x1.Turn, .int .i64 x1.Owner]) rfl rfl rfl ?_
 clear E H; clear a; clear w; intro p3 w a H E
 refine st_box E H (wn rfl) rfl rfl (cs := [.string x2.Path, .string x2.Data, .int .i64 x2.Version, .int .i64 x2.Turn, .int .i64 x2.Owner]) rfl rfl rfl ?_
 clear E H; clear a; clear w; intro p4 w a H E
 refine sv E rfl rfl rfl (x_assign E rfl rfl) ?_
 clear a E;intro a E
 refine wpList_nil ?_
 refine q_then ?_
 refine wp_seq ?_
 refine wp_region_lit ?_
 refine sv E rfl rfl rfl (x_fa E rfl rfl (v := .pointer (some ⟨p3, 0, none⟩)) (fa35_0 _ _)) ?_
 clear a E;intro a E
 refine sv E rfl rfl rfl (x_ldB (i := 1) E H rfl rfl rfl rfl Tryz.underlying9 rfl) ?_
 clear a E;intro a E
 refine sv E rfl rfl rfl (x_fa E rfl rfl (v := .pointer (some ⟨p4, 0, none⟩)) (fa35_0 _ _)) ?_
 clear a E;intro a E
 refine sv E rfl rfl rfl (x_ldB (i := 0) E H rfl rfl rfl rfl Tryz.underlying9 rfl) ?_
 clear a E;intro a E
 obtain ⟨u5, hx6, hm⟩ := bnd hm
 refine st_call E (wn rfl) rfl rfl (x_call E rfl rfl (cf65 _)) (c_strings_Compare x1.Path x2.Path H hx6) ?_
 clear E H; clear a; clear w; rintro _ w ⟨rfl, H⟩ a E
 refine sv E rfl rfl rfl (x_assign E rfl rfl) ?_
 clear a E;intro a E
 refine wpList_nil ?_
 refine q_then ?_
 refine wp_ret ?_
 refine out1 E rfl rfl ?_
 replace H := H.drop 0
 replace H := H.drop 0
 obtain rfl := Option.some.inj hm
 exact ⟨rfl, H.reads (fun r hr => hr)⟩
end Go.Cb

set_option linter.unusedVariables false
set_option linter.unusedSimpArgs false
namespace Go.Cb
open Go.Proofs Go.RowKit
def m_slices_BinarySearchFunc_api_Node_api_Node_api_Node_l1 (l2 : List S_api_Node) (x3 : S_api_Node) : Nat → Int → Int → Option (Int × Bool)
  | 0, _, _ => none
  | k1 + 1, x6, x7 =>
    if (decide (x6 < x7)) = true then ((idx l2 (IntKind.i64.wrap (ishr .u64 (IntKind.u64.wrap (IntKind.i64.wrap (x6 + x7))) 1))).bind fun x12 => (m_nodes_order x12 (⟨x3.Path, x3.Data, x3.Version, x3.Turn, x3.Owner⟩ : S_api_Node)).bind fun u18 => if (decide (u18 < 0)) = true then (m_slices_BinarySearchFunc_api_Node_api_Node_api_Node_l1 l2 x3 k1 (IntKind.i64.wrap ((IntKind.i64.wrap (ishr .u64 (IntKind.u64.wrap (IntKind.i64.wrap (x6 + x7))) 1)) + 1)) x7) else (m_slices_BinarySearchFunc_api_Node_api_Node_api_Node_l1 l2 x3 k1 x6 (IntKind.i64.wrap (ishr .u64 (IntKind.u64.wrap (IntKind.i64.wrap (x6 + x7))) 1)))) else (if (decide (x6 < (l2.length : Int))) = true then ((idx l2 x6).bind fun x22 => (m_nodes_order x22 (⟨x3.Path, x3.Data, x3.Version, x3.Turn, x3.Owner⟩ : S_api_Node)).bind fun u28 => some (x6, u28 == 0)) else (some (x6, false)))
def m_slices_BinarySearchFunc_api_Node_api_Node_api_Node (l2 : List S_api_Node) (x3 : S_api_Node) : Option (Int × Bool) :=
  m_slices_BinarySearchFunc_api_Node_api_Node_api_Node_l1 l2 x3 (((l2.length : Int) - 0 : Int).toNat + 1) 0 (l2.length : Int)
set_option maxRecDepth 20000 in
set_option maxHeartbeats 1000000 in
theorem c_slices_BinarySearchFunc_api_Node_api_Node_api_Node {w : World} {Fo : List Ob} {rs : List Rp} (v1 : Value) (l2 : List S_api_Node) (x3 : S_api_Node) (H : Sep w (Fo) rs) (hr4 : rSl k_api_Node v1 l2 ∈ rs) {r : Int × Bool} (hm : m_slices_BinarySearchFunc_api_Node_api_Node_api_Node l2 x3 = some r) :
    Calls Tryz.prog 47 [v1, .agg #[.string x3.Path, .string x3.Data, .int .i64 x3.Version, .int .i64 x3.Turn, .int .i64 x3.Owner], .func (.func 48) #[] #[]].toArray w (Ret fun v w' => .tuple #[.int .i64 r.1, .bool r.2] = v ∧ Sep w' (Fo) (rs)) := by
 unfold m_slices_BinarySearchFunc_api_Node_api_Node_api_Node at hm
 refine enter Tryz.func47 rfl Tryz.ntmps47 rfl fun a E => ?_
 simp only [enum, Nat.reduceAdd] at E
 refine wp_seq ?_
 refine wp_region_lit ?_
 refine st_box E H (wn rfl) rfl rfl (cs := [.string x3.Path, .string x3.Data, .int .i64 x3.Version, .int .i64 x3.Turn, .int .i64 x3.Owner]) rfl rfl rfl ?_
 clear E H; clear a; clear w; intro p5 w a H E
 refine sv E rfl rfl rfl (x_assign E rfl rfl) ?_
 clear a E;intro a E
 refine sv E rfl rfl rfl (x_assign E rfl rfl) ?_
 clear a E;intro a E
 refine wpList_nil ?_
 refine q_then ?_
 refine wp_seq ?_
 refine wp_region_lit ?_
 refine sv E rfl rfl rfl (x_move E rfl rfl) ?_
 clear a E;intro a E
 refine sv E rfl rfl rfl (x_lenS E H rfl rfl hr4 Tryz.underlying22) ?_
 clear a E;intro a E
 refine sv E rfl rfl rfl (x_assign E rfl rfl) ?_
 clear a E;intro a E
 refine wpList_nil ?_
 refine q_then ?_
 refine wp_seq ?_
 refine wp_region_lit ?_
 refine sv E rfl rfl rfl (x_move E rfl rfl) ?_
 clear a E;intro a E
 refine sv E rfl rfl rfl (x_assign E rfl rfl) ?_
 clear a E;intro a E
 refine sv E rfl rfl rfl (x_assign E rfl rfl) ?_
 clear a E;intro a E
 refine wpList_nil ?_
 refine q_then ?_
 refine wp_seq ?_
 refine wp_block ?_
 refine wp_loop_g (fun k1 a w => ∃ (x6 : Int) (x7 : Int) (rs8 : List Rp), Env 49 a [(0, v1), (2, .func (.func 48) #[] #[]), (4, .pointer (some ⟨p5, 0, none⟩)), (8, .int .i64 (l2.length : Int)), (9, .int .i64 x6), (10, .int .i64 x7)] ∧ Sep w (Blk p5 35 [.string x3.Path, .string x3.Data, .int .i64 x3.Version, .int .i64 x3.Turn, .int .i64 x3.Owner] :: Fo) rs8 ∧ (∀ r, r ∈ rs → r ∈ rs8) ∧ rSl k_api_Node v1 l2 ∈ rs8 ∧ m_slices_BinarySearchFunc_api_Node_api_Node_api_Node_l1 l2 x3 k1 x6 x7 = some r) (((l2.length : Int) - 0 : Int).toNat + 1) ?_ ?_
 ·exact ⟨0, (l2.length : Int), _, ((((((E.nil.keep E 10 rfl).keep E 9 rfl).keep E 8 rfl).keep E 4 rfl).keep E 2 rfl).keep E 0 rfl), H, fun r hr => hr, hr4, hm⟩
 ·clear E H hm
  rintro k1 a w ⟨x6, x7, rs8, E, H, hs9, hr10, hm⟩
  cases k1 with
  | zero => exact (none_some hm rfl).elim
  | succ k1 =>
   unfold m_slices_BinarySearchFunc_api_Node_api_Node_api_Node_l1 at hm
   refine wp_seq ?_
   refine wp_seq ?_
   refine wp_region_lit ?_
   refine sv E rfl rfl rfl (x_move E rfl rfl) ?_
   clear a E;intro a E
   refine sv E rfl rfl rfl (x_move E rfl rfl) ?_
   clear a E;intro a E
   refine sv E rfl rfl rfl (x_bin E rfl rfl rfl rfl) ?_
   clear a E;intro a E
   refine wpList_nil ?_
   refine q_then ?_
   refine wp_if E rfl ?_ ?_
   ·intro hb
    rw [if_t hb] at hm
    clear hb
    refine wp_skip ?_
    refine q_then ?_
    refine wp_block ?_
    refine wp_seq ?_
    refine wp_region_lit ?_
    refine sv E rfl rfl rfl (x_move E rfl rfl) ?_
    clear a E;intro a E
    refine sv E rfl rfl rfl (x_move E rfl rfl) ?_
    clear a E;intro a E
    refine sv E rfl rfl rfl (x_bin E rfl rfl rfl rfl) ?_
    clear a E;intro a E
    refine sv E rfl rfl rfl (x_conv E rfl rfl (v := .int .u64 (IntKind.u64.wrap (IntKind.i64.wrap (x6 + x7)))) (by kernel_rfl)) ?_
    clear a E;intro a E
    refine sv E rfl rfl rfl (x_shr E rfl rfl rfl (by decide)) ?_
    clear a E;intro a E
    refine sv E rfl rfl rfl (x_conv E rfl rfl (v := .int .i64 (IntKind.i64.wrap (ishr .u64 (IntKind.u64.wrap (IntKind.i64.wrap (x6 + x7))) 1))) (by kernel_rfl)) ?_
    clear a E;intro a E
    refine sv E rfl rfl rfl (x_assign E rfl rfl) ?_
    clear a E;intro a E
    refine wpList_nil ?_
    refine q_then ?_
    refine wp_seq ?_
    obtain ⟨u11, H⟩ := H.raw hr10
    replace H : Sep w (Blk p5 35 [.string x3.Path, .string x3.Data, .int .i64 x3.Version, .int .i64 x3.Turn, .int .i64 x3.Owner] :: Fo) (rRow k_api_Node v1 l2 u11 :: rs8) := H
    have hI : Still [Blk p5 35 [.string x3.Path, .string x3.Data, .int .i64 x3.Version, .int .i64 x3.Turn, .int .i64 x3.Owner]] [rRow k_api_Node v1 l2 u11] { w with drawn := w.drawn + 1 } := ⟨_, _, H.kept (Kp.drawn _ w _), (subO_cons (.head _) (subO_nil)), (sub_cons (.head _) (sub_nil))⟩
    refine wp_draw _ [(0, 0), (1, 0), (2, 0), (3, 0), (4, 0), (5, 0), (6, 1), (7, 0)] mixedOk (by kernel_rfl) (fun _ _ _ h => False.elim h.2) hI ?_
    replace H := H.kept (Kp.drawn _ w (w.drawn + 1))
    generalize ({ w with drawn := w.drawn + 1 } : World) = w at H hI ⊢
    replace hI : ∃ W, Still [Blk p5 35 [.string x3.Path, .string x3.Data, .int .i64 x3.Version, .int .i64 x3.Turn, .int .i64 x3.Owner]] [rRow k_api_Node v1 l2 u11] W := ⟨_, hI⟩
    obtain ⟨W0, hI⟩ := hI
    refine fr_val E rfl (wn rfl) rfl rfl (fun w hW => (x_move E rfl rfl)) ?_
    clear a E;intro a E
    refine fr_val E rfl (wn rfl) rfl rfl (fun w hW => (x_move E rfl rfl)) ?_
    clear a E;intro a E
    refine fr_val E rfl (wn rfl) rfl rfl (fun w hW => (x_move E rfl rfl)) ?_
    clear a E;intro a E
    obtain ⟨x12, hx13, hm⟩ := bnd hm
    obtain ⟨q14, u17, hx15, hx16⟩ := dr_ixW (P := Tryz.prog) (k := .i64) hI (dr_mem (.head _)) Tryz.underlying22 sz35 hx13
    refine fr_val E rfl (wn rfl) rfl rfl (fun w hW => x_ixA E rfl rfl rfl (hx15 w)) ?_
    clear a E;intro a E
    refine fr_val E rfl (wn rfl) rfl rfl (fun w hW => x_ld E rfl rfl (ir_ldN (cs := [.string x12.Path, .string x12.Data, .int .i64 x12.Version, .int .i64 x12.Turn, .int .i64 x12.Owner]) (DR.ir (dr_at hx16)) (fun _ _ _ h => k_api_Node_open h) Tryz.underlying35 rfl sz35 w hW)) ?_
    clear a E;intro a E
    refine fr_val E rfl (wn rfl) rfl rfl (fun w hW => x_ld E rfl rfl (ib_ldN (us := [.string x3.Path, .string x3.Data, .int .i64 x3.Version, .int .i64 x3.Turn, .int .i64 x3.Owner]) (.head _) rfl Tryz.underlying35 rfl sz35 w hW)) ?_
    clear a E;intro a E
    refine fr_op rfl ?_
    obtain ⟨u18, hx19, hm⟩ := bnd hm
    refine st_call E (wn rfl) rfl rfl (x_callv E rfl rfl rfl (cf48 _)) (c_nodes_order x12 (⟨x3.Path, x3.Data, x3.Version, x3.Turn, x3.Owner⟩ : S_api_Node) H hx19) ?_
    clear E H; clear a; clear w; rintro _ w ⟨rfl, H⟩ a E
    refine wpList_nil ?_
    refine q_then ?_
    replace H : Sep w (Blk p5 35 [.string x3.Path, .string x3.Data, .int .i64 x3.Version, .int .i64 x3.Turn, .int .i64 x3.Owner] :: Fo) (rRow k_api_Node v1 l2 u11 :: rs8) := H
    refine ⟨⟨_, _, H, (subO_cons (.head _) (subO_nil)), (sub_cons (.head _) (sub_nil))⟩, ?_⟩
    refine fr_val E rfl (wn rfl) rfl rfl (fun w hW => (x_bin E rfl rfl rfl rfl)) ?_
    clear a E;intro a E
    refine fr_nil ?_
    clear hI
    refine q_then ?_
    refine wp_if E rfl ?_ ?_
    ·intro hb
     rw [if_t hb] at hm
     clear hb
     refine wp_region_lit ?_
     refine sv E rfl rfl rfl (x_move E rfl rfl) ?_
     clear a E;intro a E
     refine sv E rfl rfl rfl (x_bin E rfl rfl rfl rfl) ?_
     clear a E;intro a E
     refine sv E rfl rfl rfl (x_assign E rfl rfl) ?_
     clear a E;intro a E
     refine wpList_nil ?_
     refine q_blk ?_
     refine q_then ?_
     exact ⟨k1, Nat.lt_succ_self k1, IntKind.i64.wrap ((IntKind.i64.wrap (ishr .u64 (IntKind.u64.wrap (IntKind.i64.wrap (x6 + x7))) 1)) + 1), x7, _, ((((((E.nil.keep E 10 rfl).keep E 9 rfl).keep E 8 rfl).keep E 4 rfl).keep E 2 rfl).keep E 0 rfl), H, fun r hr => .tail _ (hs9 r hr), (.tail _ hr10), hm⟩
    ·intro hb
     rw [if_f hb] at hm
     clear hb
     refine wp_region_lit ?_
     refine sv E rfl rfl rfl (x_move E rfl rfl) ?_
     clear a E;intro a E
     refine sv E rfl rfl rfl (x_assign E rfl rfl) ?_
     clear a E;intro a E
     refine wpList_nil ?_
     refine q_blk ?_
     refine q_then ?_
     exact ⟨k1, Nat.lt_succ_self k1, x6, IntKind.i64.wrap (ishr .u64 (IntKind.u64.wrap (IntKind.i64.wrap (x6 + x7))) 1), _, ((((((E.nil.keep E 10 rfl).keep E 9 rfl).keep E 8 rfl).keep E 4 rfl).keep E 2 rfl).keep E 0 rfl), H, fun r hr => .tail _ (hs9 r hr), (.tail _ hr10), hm⟩
   ·intro hb
    rw [if_f hb] at hm
    clear hb
    refine wp_exit ?_
    refine q_thenX ?_
    refine q_thenX ?_
    refine q_hit ?_
    refine q_then ?_
    refine wp_seq ?_
    obtain ⟨u20, H⟩ := H.raw hr10
    replace H : Sep w (Blk p5 35 [.string x3.Path, .string x3.Data, .int .i64 x3.Version, .int .i64 x3.Turn, .int .i64 x3.Owner] :: Fo) (rRow k_api_Node v1 l2 u20 :: rs8) := H
    have hI : Still [Blk p5 35 [.string x3.Path, .string x3.Data, .int .i64 x3.Version, .int .i64 x3.Turn, .int .i64 x3.Owner]] [rRow k_api_Node v1 l2 u20] { w with drawn := w.drawn + 1 } := ⟨_, _, H.kept (Kp.drawn _ w _), (subO_cons (.head _) (subO_nil)), (sub_cons (.head _) (sub_nil))⟩
    refine wp_draw _ [(0, 0), (1, 0), (2, 0), (3, 0), (4, 0), (5, 0), (6, 0), (7, 0), (8, 0), (9, 0), (10, 0), (11, 1), (12, 0), (13, 0), (14, 1), (15, 2)] mixedOk (by kernel_rfl) (fun _ _ _ h => False.elim h.2) hI ?_
    replace H := H.kept (Kp.drawn _ w (w.drawn + 1))
    generalize ({ w with drawn := w.drawn + 1 } : World) = w at H hI ⊢
    replace hI : ∃ W, Still [Blk p5 35 [.string x3.Path, .string x3.Data, .int .i64 x3.Version, .int .i64 x3.Turn, .int .i64 x3.Owner]] [rRow k_api_Node v1 l2 u20] W := ⟨_, hI⟩
    obtain ⟨W0, hI⟩ := hI
    refine fr_val E rfl (wn rfl) rfl rfl (fun w hW => (x_move E rfl rfl)) ?_
    clear a E;intro a E
    refine fr_val E rfl (wn rfl) rfl rfl (fun w hW => (x_move E rfl rfl)) ?_
    clear a E;intro a E
    refine fr_val E rfl (wn rfl) rfl rfl (fun w hW => (x_move E rfl rfl)) ?_
    clear a E;intro a E
    refine fr_val E rfl (wn rfl) rfl rfl (fun w hW => (x_bin E rfl rfl rfl rfl)) ?_
    clear a E;intro a E
    refine fr_val E rfl (wn rfl) rfl rfl (fun w hW => (x_move E rfl rfl)) ?_
    clear a E;intro a E
    rcases Bool.eq_false_or_eq_true (decide (x6 < (l2.length : Int))) with hb21 | hb21
    ·rw [if_t hb21] at hm
     refine fr_val E rfl (ws' E rfl rfl rfl rfl hb21) rfl rfl (fun w hW => (x_move E rfl rfl)) ?_
     clear a E;intro a E
     refine fr_val E rfl (ws' E rfl rfl rfl rfl hb21) rfl rfl (fun w hW => (x_move E rfl rfl)) ?_
     clear a E;intro a E
     refine fr_val E rfl (ws' E rfl rfl rfl rfl hb21) rfl rfl (fun w hW => (x_move E rfl rfl)) ?_
     clear a E;intro a E
     obtain ⟨x22, hx23, hm⟩ := bnd hm
     obtain ⟨q24, u27, hx25, hx26⟩ := dr_ixW (P := Tryz.prog) (k := .i64) hI (dr_mem (.head _)) Tryz.underlying22 sz35 hx23
     refine fr_val E rfl (ws' E rfl rfl rfl rfl hb21) rfl rfl (fun w hW => x_ixA E rfl rfl rfl (hx25 w)) ?_
     clear a E;intro a E
     refine fr_val E rfl (ws' E rfl rfl rfl rfl hb21) rfl rfl (fun w hW => x_ld E rfl rfl (ir_ldN (cs := [.string x22.Path, .string x22.Data, .int .i64 x22.Version, .int .i64 x22.Turn, .int .i64 x22.Owner]) (DR.ir (dr_at hx26)) (fun _ _ _ h => k_api_Node_open h) Tryz.underlying35 rfl sz35 w hW)) ?_
     clear a E;intro a E
     refine fr_val E rfl (ws' E rfl rfl rfl rfl hb21) rfl rfl (fun w hW => x_ld E rfl rfl (ib_ldN (us := [.string x3.Path, .string x3.Data, .int .i64 x3.Version, .int .i64 x3.Turn, .int .i64 x3.Owner]) (.head _) rfl Tryz.underlying35 rfl sz35 w hW)) ?_
     clear a E;intro a E
     refine fr_op rfl ?_
     obtain ⟨u28, hx29, hm⟩ := bnd hm
     refine st_call E (ws' E rfl rfl rfl rfl hb21) rfl rfl (x_callv E rfl rfl rfl (cf48 _)) (c_nodes_order x22 (⟨x3.Path, x3.Data, x3.Version, x3.Turn, x3.Owner⟩ : S_api_Node) H hx29) ?_
     clear E H; clear a; clear w; rintro _ w ⟨rfl, H⟩ a E
     refine wpList_nil ?_
     refine q_then ?_
     replace H : Sep w (Blk p5 35 [.string x3.Path, .string x3.Data, .int .i64 x3.Version, .int .i64 x3.Turn, .int .i64 x3.Owner] :: Fo) (rRow k_api_Node v1 l2 u20 :: rs8) := H
     refine ⟨⟨_, _, H, (subO_cons (.head _) (subO_nil)), (sub_cons (.head _) (sub_nil))⟩, ?_⟩
     refine fr_val E rfl (ws' E rfl rfl rfl rfl hb21) rfl rfl (fun w hW => (x_bin E rfl rfl rfl rfl)) ?_
     clear a E;intro a E
     refine fr_val E rfl (wn rfl) rfl rfl (fun w hW => (x_pickT E rfl rfl hb21 rfl)) ?_
     clear a E;intro a E
     refine fr_op rfl ?_
     refine sv E rfl rfl rfl (x_assign E rfl rfl) ?_
     clear a E;intro a E
     refine wpList_nil ?_
     refine q_then ?_
     replace H : Sep w (Blk p5 35 [.string x3.Path, .string x3.Data, .int .i64 x3.Version, .int .i64 x3.Turn, .int .i64 x3.Owner] :: Fo) (rRow k_api_Node v1 l2 u20 :: rs8) := H
     refine ⟨⟨_, _, H, (subO_cons (.head _) (subO_nil)), (sub_cons (.head _) (sub_nil))⟩, ?_⟩
     refine fr_tail rfl ?_
     refine sv E rfl rfl rfl (x_assign E rfl rfl) ?_
     clear a E;intro a E
     refine wpList_nil ?_
     refine q_then ?_
     refine fr_nil ?_
     clear hI
     refine q_then ?_
     refine wp_ret ?_
     refine out2 E rfl rfl rfl ?_
     replace H := H.drop 0
     obtain rfl := Option.some.inj hm
     exact ⟨rfl, H.reads (fun r hr => .tail _ (hs9 r hr))⟩
    ·rw [if_f hb21] at hm
     refine fr_no E rfl (wf' E rfl rfl rfl rfl hb21 rfl) rfl rfl ?_
     clear a E;intro a E
     refine fr_no E rfl (wf' E rfl rfl rfl rfl hb21 rfl) rfl rfl ?_
     clear a E;intro a E
     refine fr_no E rfl (wf' E rfl rfl rfl rfl hb21 rfl) rfl rfl ?_
     clear a E;intro a E
     refine fr_no E rfl (wf' E rfl rfl rfl rfl hb21 rfl) rfl rfl ?_
     clear a E;intro a E
     refine fr_no E rfl (wf' E rfl rfl rfl rfl hb21 rfl) rfl rfl ?_
     clear a E;intro a E
     refine fr_no E rfl (wf' E rfl rfl rfl rfl hb21 rfl) rfl rfl ?_
     clear a E;intro a E
     refine fr_op rfl ?_
     refine st_no E (wf' E rfl rfl rfl rfl hb21 rfl) rfl rfl ?_
     clear a E;intro a E
     refine wpList_nil ?_
     refine q_then ?_
     replace H : Sep w (Blk p5 35 [.string x3.Path, .string x3.Data, .int .i64 x3.Version, .int .i64 x3.Turn, .int .i64 x3.Owner] :: Fo) (rRow k_api_Node v1 l2 u20 :: rs8) := H
     refine ⟨⟨_, _, H, (subO_cons (.head _) (subO_nil)), (sub_cons (.head _) (sub_nil))⟩, ?_⟩
     refine fr_no E rfl (wf' E rfl rfl rfl rfl hb21 rfl) rfl rfl ?_
     clear a E;intro a E
     refine fr_val E rfl (wn rfl) rfl rfl (fun w hW => (x_pickF E rfl rfl hb21 rfl)) ?_
     clear a E;intro a E
     refine fr_op rfl ?_
     refine sv E rfl rfl rfl (x_assign E rfl rfl) ?_
     clear a E;intro a E
     refine wpList_nil ?_
     refine q_then ?_
     replace H : Sep w (Blk p5 35 [.string x3.Path, .string x3.Data, .int .i64 x3.Version, .int .i64 x3.Turn, .int .i64 x3.Owner] :: Fo) (rRow k_api_Node v1 l2 u20 :: rs8) := H
     refine ⟨⟨_, _, H, (subO_cons (.head _) (subO_nil)), (sub_cons (.head _) (sub_nil))⟩, ?_⟩
     refine fr_tail rfl ?_
     refine sv E rfl rfl rfl (x_assign E rfl rfl) ?_
     clear a E;intro a E
     refine wpList_nil ?_
     refine q_then ?_
     refine fr_nil ?_
     clear hI
     refine q_then ?_
     refine wp_ret ?_
     refine out2 E rfl rfl rfl ?_
     replace H := H.drop 0
     obtain rfl := Option.some.inj hm
     exact ⟨rfl, H.reads (fun r hr => .tail _ (hs9 r hr))⟩
end Go.Cb

set_option linter.unusedVariables false
set_option linter.unusedSimpArgs false
namespace Go.Cb
open Go.Proofs Go.RowKit
def m_nodes_where (l2 : List S_api_Node) (s3 : ByteArray) : Option (Int × Bool) :=
  (m_slices_BinarySearchFunc_api_Node_api_Node_api_Node l2 (⟨s3, (ByteArray.mk #[]), 0, 0, 0⟩ : S_api_Node)).bind fun u5 => some (u5.1, u5.2)
set_option maxRecDepth 20000 in
set_option maxHeartbeats 1000000 in
theorem c_nodes_where {w : World} {Fo : List Ob} {rs : List Rp} (v1 : Value) (l2 : List S_api_Node) (s3 : ByteArray) (H : Sep w (Fo) rs) (hr4 : rSl k_api_Node v1 l2 ∈ rs) {r : Int × Bool} (hm : m_nodes_where l2 s3 = some r) :
    Calls Tryz.prog 20 [v1, .string s3].toArray w (Ret fun v w' => .tuple #[.int .i64 r.1, .bool r.2] = v ∧ Sep w' (Fo) (rs)) := by
 unfold m_nodes_where at hm
 refine enter Tryz.func20 rfl Tryz.ntmps20 rfl fun a E => ?_
 simp only [enum, Nat.reduceAdd] at E
 refine wp_seq ?_
 refine wp_region_lit ?_
 refine sv E rfl rfl rfl (x_assign E rfl rfl) ?_
 clear a E;intro a E
 refine sv E rfl rfl rfl (x_assign E rfl rfl) ?_
 clear a E;intro a E
 refine wpList_nil ?_
 refine q_then ?_
 refine wp_seq ?_
 refine wp_region_lit ?_
 refine sv E rfl rfl rfl (x_move E rfl rfl) ?_
 clear a E;intro a E
 refine sv E rfl rfl rfl (x_move E rfl rfl) ?_
 clear a E;intro a E
 refine sv E rfl rfl rfl (x_build E (ps := [(0, .tmp 7)]) (vs := [(0, .string s3)]) rfl (by simp only [List.map]; rw [E.eval (x := .tmp 7) (v := .string s3) rfl]) (v := .agg #[.string s3, .string (ByteArray.mk #[]), .int .i64 0, .int .i64 0, .int .i64 0]) (by kernel_rfl)) ?_
 clear a E;intro a E
 obtain ⟨u5, hx6, hm⟩ := bnd hm
 refine st_call E (wn rfl) rfl rfl (x_call E rfl rfl (cf47 _)) (c_slices_BinarySearchFunc_api_Node_api_Node_api_Node v1 l2 (⟨s3, (ByteArray.mk #[]), 0, 0, 0⟩ : S_api_Node) H hr4 hx6) ?_
 clear E H; clear a; clear w; rintro _ w ⟨rfl, H⟩ a E
 refine sv E rfl rfl rfl (x_ext E rfl rfl rfl) ?_
 clear a E;intro a E
 refine sv E rfl rfl rfl (x_ext E rfl rfl rfl) ?_
 clear a E;intro a E
 refine sv E rfl rfl rfl (x_assign E rfl rfl) ?_
 clear a E;intro a E
 refine sv E rfl rfl rfl (x_assign E rfl rfl) ?_
 clear a E;intro a E
 refine wpList_nil ?_
 refine q_then ?_
 refine wp_ret ?_
 refine out2 E rfl rfl rfl ?_
 obtain rfl := Option.some.inj hm
 exact ⟨rfl, H.reads (fun r hr => hr)⟩
end Go.Cb

set_option linter.unusedVariables false
set_option linter.unusedSimpArgs false
namespace Go.Cb
open Go.Proofs Go.RowKit
def m_nodes_within (x1 : Int) (x2 : Int) : Option Bool :=
  if (decide (x1 ≥ 0)) = true then (some (decide (x1 ≤ x2))) else (some (false))
set_option maxRecDepth 20000 in
set_option maxHeartbeats 1000000 in
theorem c_nodes_within {w : World} {Fo : List Ob} {rs : List Rp} (x1 : Int) (x2 : Int) (H : Sep w (Fo) rs) {r : Bool} (hm : m_nodes_within x1 x2 = some r) :
    Calls Tryz.prog 38 [.int .i64 x1, .int .i64 x2].toArray w (Ret fun v w' => .bool r = v ∧ Sep w' (Fo) (rs)) := by
 unfold m_nodes_within at hm
 refine enter Tryz.func38 rfl Tryz.ntmps38 rfl fun a E => ?_
 simp only [enum, Nat.reduceAdd] at E
 refine wp_seq ?_
 refine wp_region_lit ?_
 refine sv E rfl rfl rfl (x_assign E rfl rfl) ?_
 clear a E;intro a E
 refine wpList_nil ?_
 refine q_then ?_
 refine wp_seq ?_
 refine wp_region_lit ?_
 refine sv E rfl rfl rfl (x_move E rfl rfl) ?_
 clear a E;intro a E
 refine sv E rfl rfl rfl (x_bin E rfl rfl rfl rfl) ?_
 clear a E;intro a E
 refine sv E rfl rfl rfl (x_move E rfl rfl) ?_
 clear a E;intro a E
 rcases Bool.eq_false_or_eq_true (decide (x1 ≥ 0)) with hb3 | hb3
 ·rw [if_t hb3] at hm
  refine st_val E (ws' E rfl rfl rfl rfl hb3) rfl rfl (x_move E rfl rfl) ?_
  clear a E;intro a E
  refine st_val E (ws' E rfl rfl rfl rfl hb3) rfl rfl (x_move E rfl rfl) ?_
  clear a E;intro a E
  refine st_val E (ws' E rfl rfl rfl rfl hb3) rfl rfl (x_bin E rfl rfl rfl rfl) ?_
  clear a E;intro a E
  refine sv E rfl rfl rfl (x_pickT E rfl rfl hb3 rfl) ?_
  clear a E;intro a E
  refine sv E rfl rfl rfl (x_assign E rfl rfl) ?_
  clear a E;intro a E
  refine wpList_nil ?_
  refine q_then ?_
  refine wp_ret ?_
  refine out1 E rfl rfl ?_
  obtain rfl := Option.some.inj hm
  exact ⟨rfl, H.reads (fun r hr => hr)⟩
 ·rw [if_f hb3] at hm
  refine st_no E (wf' E rfl rfl rfl rfl hb3 rfl) rfl rfl ?_
  clear a E;intro a E
  refine st_no E (wf' E rfl rfl rfl rfl hb3 rfl) rfl rfl ?_
  clear a E;intro a E
  refine st_no E (wf' E rfl rfl rfl rfl hb3 rfl) rfl rfl ?_
  clear a E;intro a E
  refine sv E rfl rfl rfl (x_pickF E rfl rfl hb3 rfl) ?_
  clear a E;intro a E
  refine sv E rfl rfl rfl (x_assign E rfl rfl) ?_
  clear a E;intro a E
  refine wpList_nil ?_
  refine q_then ?_
  refine wp_ret ?_
  refine out1 E rfl rfl ?_
  obtain rfl := Option.some.inj hm
  exact ⟨rfl, H.reads (fun r hr => hr)⟩
end Go.Cb

set_option linter.unusedVariables false
set_option linter.unusedSimpArgs false
namespace Go.Cb
open Go.Proofs Go.RowKit
def m_nodes_node (x1 : S_api_Node) : Option Bool :=
  if (decide ((x1.Data.size : Int) ≤ 256)) = true then ((m_nodes_within x1.Version 281474976710656).bind fun u4 => if u4 = true then ((m_nodes_within x1.Turn 10000).bind fun u7 => if u7 = true then ((m_nodes_within x1.Owner 1099511627776).bind fun u10 => if u10 = true then (if (x1.Owner == 0) = true then (some (true)) else (some (x1.Turn == 0))) else (some (false))) else (some (false))) else (some (false))) else (some (false))
set_option maxRecDepth 20000 in
set_option maxHeartbeats 1000000 in
theorem c_nodes_node {w : World} {Fo : List Ob} {rs : List Rp} (x1 : S_api_Node) (H : Sep w (Fo) rs) {r : Bool} (hm : m_nodes_node x1 = some r) :
    Calls Tryz.prog 35 [.agg #[.string x1.Path, .string x1.Data, .int .i64 x1.Version, .int .i64 x1.Turn, .int .i64 x1.Owner]].toArray w (Ret fun v w' => .bool r = v ∧ Sep w' (Fo) (rs)) := by
 unfold m_nodes_node at hm
 refine enter Tryz.func35 rfl Tryz.ntmps35 rfl fun a E => ?_
 simp only [enum, Nat.reduceAdd] at E
 refine wp_seq ?_
 refine wp_region_lit ?_
 refine st_box E H (wn rfl) rfl rfl (cs := [.string x1.Path, .string x1.Data, .int .i64 x1.Version, .int .i64 x1.Turn, .int .i64 x1.Owner]) rfl rfl rfl ?_
 clear E H; clear a; clear w; intro p2 w a H E
 refine sv E rfl rfl rfl (x_assign E rfl rfl) ?_
 clear a E;intro a E
 refine wpList_nil ?_
 refine q_then ?_
 refine wp_seq ?_
 refine wp_region_lit ?_
 refine sv E rfl rfl rfl (x_fa E rfl rfl (v := .pointer (some ⟨p2, 1, none⟩)) (fa35_1 _ _)) ?_
 clear a E;intro a E
 refine sv E rfl rfl rfl (x_ldB (i := 0) E H rfl rfl rfl rfl Tryz.underlying9 rfl) ?_
 clear a E;intro a E
 refine sv E rfl rfl rfl (x_lenStr E rfl rfl Tryz.underlying9) ?_
 clear a E;intro a E
 refine sv E rfl rfl rfl (x_bin E rfl rfl rfl rfl) ?_
 clear a E;intro a E
 refine sv E rfl rfl rfl (x_move E rfl rfl) ?_
 clear a E;intro a E
 rcases Bool.eq_false_or_eq_true (decide ((x1.Data.size : Int) ≤ 256)) with hb3 | hb3
 ·rw [if_t hb3] at hm
  refine st_val E (ws' E rfl rfl rfl rfl hb3) rfl rfl (x_fa E rfl rfl (v := .pointer (some ⟨p2, 2, none⟩)) (fa35_2 _ _)) ?_
  clear a E;intro a E
  refine st_val E (ws' E rfl rfl rfl rfl hb3) rfl rfl (x_ldB (i := 0) E H rfl rfl rfl rfl Tryz.underlying2 rfl) ?_
  clear a E;intro a E
  obtain ⟨u4, hx5, hm⟩ := bnd hm
  refine st_call E (ws' E rfl rfl rfl rfl hb3) rfl rfl (x_call E rfl rfl (cf38 _)) (c_nodes_within x1.Version 281474976710656 H hx5) ?_
  clear E H; clear a; clear w; rintro _ w ⟨rfl, H⟩ a E
  refine sv E rfl rfl rfl (x_pickT E rfl rfl hb3 rfl) ?_
  clear a E;intro a E
  refine sv E rfl rfl rfl (x_move E rfl rfl) ?_
  clear a E;intro a E
  rcases Bool.eq_false_or_eq_true u4 with hb6 | hb6
  ·rw [if_t hb6] at hm
   refine st_val E (ws' E rfl rfl rfl rfl hb6) rfl rfl (x_fa E rfl rfl (v := .pointer (some ⟨p2, 3, none⟩)) (fa35_3 _ _)) ?_
   clear a E;intro a E
   refine st_val E (ws' E rfl rfl rfl rfl hb6) rfl rfl (x_ldB (i := 0) E H rfl rfl rfl rfl Tryz.underlying2 rfl) ?_
   clear a E;intro a E
   obtain ⟨u7, hx8, hm⟩ := bnd hm
   refine st_call E (ws' E rfl rfl rfl rfl hb6) rfl rfl (x_call E rfl rfl (cf38 _)) (c_nodes_within x1.Turn 10000 H hx8) ?_
   clear E H; clear a; clear w; rintro _ w ⟨rfl, H⟩ a E
   refine sv E rfl rfl rfl (x_pickT E rfl rfl hb6 rfl) ?_
   clear a E;intro a E
   refine sv E rfl rfl rfl (x_move E rfl rfl) ?_
   clear a E;intro a E
   rcases Bool.eq_false_or_eq_true u7 with hb9 | hb9
   ·rw [if_t hb9] at hm
    refine st_val E (ws' E rfl rfl rfl rfl hb9) rfl rfl (x_fa E rfl rfl (v := .pointer (some ⟨p2, 4, none⟩)) (fa35_4 _ _)) ?_
    clear a E;intro a E
    refine st_val E (ws' E rfl rfl rfl rfl hb9) rfl rfl (x_ldB (i := 0) E H rfl rfl rfl rfl Tryz.underlying2 rfl) ?_
    clear a E;intro a E
    obtain ⟨u10, hx11, hm⟩ := bnd hm
    refine st_call E (ws' E rfl rfl rfl rfl hb9) rfl rfl (x_call E rfl rfl (cf38 _)) (c_nodes_within x1.Owner 1099511627776 H hx11) ?_
    clear E H; clear a; clear w; rintro _ w ⟨rfl, H⟩ a E
    refine sv E rfl rfl rfl (x_pickT E rfl rfl hb9 rfl) ?_
    clear a E;intro a E
    refine sv E rfl rfl rfl (x_move E rfl rfl) ?_
    clear a E;intro a E
    rcases Bool.eq_false_or_eq_true u10 with hb12 | hb12
    ·rw [if_t hb12] at hm
     refine st_val E (ws' E rfl rfl rfl rfl hb12) rfl rfl (x_fa E rfl rfl (v := .pointer (some ⟨p2, 4, none⟩)) (fa35_4 _ _)) ?_
     clear a E;intro a E
     refine st_val E (ws' E rfl rfl rfl rfl hb12) rfl rfl (x_ldB (i := 0) E H rfl rfl rfl rfl Tryz.underlying2 rfl) ?_
     clear a E;intro a E
     refine st_val E (ws' E rfl rfl rfl rfl hb12) rfl rfl (x_bin E rfl rfl rfl rfl) ?_
     clear a E;intro a E
     refine st_val E (ws' E rfl rfl rfl rfl hb12) rfl rfl (x_move E rfl rfl) ?_
     clear a E;intro a E
     rcases Bool.eq_false_or_eq_true (x1.Owner == 0) with hb13 | hb13
     ·rw [if_t hb13] at hm
      refine st_no E (wf' E rfl rfl rfl rfl hb13 rfl) rfl rfl ?_
      clear a E;intro a E
      refine st_no E (wf' E rfl rfl rfl rfl hb13 rfl) rfl rfl ?_
      clear a E;intro a E
      refine st_no E (wf' E rfl rfl rfl rfl hb13 rfl) rfl rfl ?_
      clear a E;intro a E
      refine st_val E (ws' E rfl rfl rfl rfl hb12) rfl rfl (x_pickT E rfl rfl hb13 rfl) ?_
      clear a E;intro a E
      refine sv E rfl rfl rfl (x_pickT E rfl rfl hb12 rfl) ?_
      clear a E;intro a E
      refine sv E rfl rfl rfl (x_assign E rfl rfl) ?_
      clear a E;intro a E
      refine wpList_nil ?_
      refine q_then ?_
      refine wp_ret ?_
      refine out1 E rfl rfl ?_
      replace H := H.drop 0
      obtain rfl := Option.some.inj hm
      exact ⟨rfl, H.reads (fun r hr => hr)⟩
     ·rw [if_f hb13] at hm
      refine st_val E (ws' E rfl rfl rfl rfl hb13) rfl rfl (x_fa E rfl rfl (v := .pointer (some ⟨p2, 3, none⟩)) (fa35_3 _ _)) ?_
      clear a E;intro a E
      refine st_val E (ws' E rfl rfl rfl rfl hb13) rfl rfl (x_ldB (i := 0) E H rfl rfl rfl rfl Tryz.underlying2 rfl) ?_
      clear a E;intro a E
      refine st_val E (ws' E rfl rfl rfl rfl hb13) rfl rfl (x_bin E rfl rfl rfl rfl) ?_
      clear a E;intro a E
      refine st_val E (ws' E rfl rfl rfl rfl hb12) rfl rfl (x_pickF E rfl rfl hb13 rfl) ?_
      clear a E;intro a E
      refine sv E rfl rfl rfl (x_pickT E rfl rfl hb12 rfl) ?_
      clear a E;intro a E
      refine sv E rfl rfl rfl (x_assign E rfl rfl) ?_
      clear a E;intro a E
      refine wpList_nil ?_
      refine q_then ?_
      refine wp_ret ?_
      refine out1 E rfl rfl ?_
      replace H := H.drop 0
      obtain rfl := Option.some.inj hm
      exact ⟨rfl, H.reads (fun r hr => hr)⟩
    ·rw [if_f hb12] at hm
     refine st_no E (wf' E rfl rfl rfl rfl hb12 rfl) rfl rfl ?_
     clear a E;intro a E
     refine st_no E (wf' E rfl rfl rfl rfl hb12 rfl) rfl rfl ?_
     clear a E;intro a E
     refine st_no E (wf' E rfl rfl rfl rfl hb12 rfl) rfl rfl ?_
     clear a E;intro a E
     refine st_no E (wf' E rfl rfl rfl rfl hb12 rfl) rfl rfl ?_
     clear a E;intro a E
     refine st_no E (wu E rfl rfl rfl rfl) rfl rfl ?_
     clear a E;intro a E
     refine st_no E (wu E rfl rfl rfl rfl) rfl rfl ?_
     clear a E;intro a E
     refine st_no E (wu E rfl rfl rfl rfl) rfl rfl ?_
     clear a E;intro a E
     refine st_no E (wf' E rfl rfl rfl rfl hb12 rfl) rfl rfl ?_
     clear a E;intro a E
     refine sv E rfl rfl rfl (x_pickF E rfl rfl hb12 rfl) ?_
     clear a E;intro a E
     refine sv E rfl rfl rfl (x_assign E rfl rfl) ?_
     clear a E;intro a E
     refine wpList_nil ?_
     refine q_then ?_
     refine wp_ret ?_
     refine out1 E rfl rfl ?_
     replace H := H.drop 0
     obtain rfl := Option.some.inj hm
     exact ⟨rfl, H.reads (fun r hr => hr)⟩
   ·rw [if_f hb9] at hm
    refine st_no E (wf' E rfl rfl rfl rfl hb9 rfl) rfl rfl ?_
    clear a E;intro a E
    refine st_no E (wf' E rfl rfl rfl rfl hb9 rfl) rfl rfl ?_
    clear a E;intro a E
    refine st_no E (wf' E rfl rfl rfl rfl hb9 rfl) rfl rfl ?_
    clear a E;intro a E
    refine sv E rfl rfl rfl (x_pickF E rfl rfl hb9 rfl) ?_
    clear a E;intro a E
    refine sv E rfl rfl rfl (x_move E rfl rfl) ?_
    clear a E;intro a E
    refine st_no E (wf E rfl rfl rfl rfl rfl) rfl rfl ?_
    clear a E;intro a E
    refine st_no E (wf E rfl rfl rfl rfl rfl) rfl rfl ?_
    clear a E;intro a E
    refine st_no E (wf E rfl rfl rfl rfl rfl) rfl rfl ?_
    clear a E;intro a E
    refine st_no E (wf E rfl rfl rfl rfl rfl) rfl rfl ?_
    clear a E;intro a E
    refine st_no E (wu E rfl rfl rfl rfl) rfl rfl ?_
    clear a E;intro a E
    refine st_no E (wu E rfl rfl rfl rfl) rfl rfl ?_
    clear a E;intro a E
    refine st_no E (wu E rfl rfl rfl rfl) rfl rfl ?_
    clear a E;intro a E
    refine st_no E (wf E rfl rfl rfl rfl rfl) rfl rfl ?_
    clear a E;intro a E
    refine sv E rfl rfl rfl (x_pickF E rfl rfl rfl rfl) ?_
    clear a E;intro a E
    refine sv E rfl rfl rfl (x_assign E rfl rfl) ?_
    clear a E;intro a E
    refine wpList_nil ?_
    refine q_then ?_
    refine wp_ret ?_
    refine out1 E rfl rfl ?_
    replace H := H.drop 0
    obtain rfl := Option.some.inj hm
    exact ⟨rfl, H.reads (fun r hr => hr)⟩
  ·rw [if_f hb6] at hm
   refine st_no E (wf' E rfl rfl rfl rfl hb6 rfl) rfl rfl ?_
   clear a E;intro a E
   refine st_no E (wf' E rfl rfl rfl rfl hb6 rfl) rfl rfl ?_
   clear a E;intro a E
   refine st_no E (wf' E rfl rfl rfl rfl hb6 rfl) rfl rfl ?_
   clear a E;intro a E
   refine sv E rfl rfl rfl (x_pickF E rfl rfl hb6 rfl) ?_
   clear a E;intro a E
   refine sv E rfl rfl rfl (x_move E rfl rfl) ?_
   clear a E;intro a E
   refine st_no E (wf E rfl rfl rfl rfl rfl) rfl rfl ?_
   clear a E;intro a E
   refine st_no E (wf E rfl rfl rfl rfl rfl) rfl rfl ?_
   clear a E;intro a E
   refine st_no E (wf E rfl rfl rfl rfl rfl) rfl rfl ?_
   clear a E;intro a E
   refine sv E rfl rfl rfl (x_pickF E rfl rfl rfl rfl) ?_
   clear a E;intro a E
   refine sv E rfl rfl rfl (x_move E rfl rfl) ?_
   clear a E;intro a E
   refine st_no E (wf E rfl rfl rfl rfl rfl) rfl rfl ?_
   clear a E;intro a E
   refine st_no E (wf E rfl rfl rfl rfl rfl) rfl rfl ?_
   clear a E;intro a E
   refine st_no E (wf E rfl rfl rfl rfl rfl) rfl rfl ?_
   clear a E;intro a E
   refine st_no E (wf E rfl rfl rfl rfl rfl) rfl rfl ?_
   clear a E;intro a E
   refine st_no E (wu E rfl rfl rfl rfl) rfl rfl ?_
   clear a E;intro a E
   refine st_no E (wu E rfl rfl rfl rfl) rfl rfl ?_
   clear a E;intro a E
   refine st_no E (wu E rfl rfl rfl rfl) rfl rfl ?_
   clear a E;intro a E
   refine st_no E (wf E rfl rfl rfl rfl rfl) rfl rfl ?_
   clear a E;intro a E
   refine sv E rfl rfl rfl (x_pickF E rfl rfl rfl rfl) ?_
   clear a E;intro a E
   refine sv E rfl rfl rfl (x_assign E rfl rfl) ?_
   clear a E;intro a E
   refine wpList_nil ?_
   refine q_then ?_
   refine wp_ret ?_
   refine out1 E rfl rfl ?_
   replace H := H.drop 0
   obtain rfl := Option.some.inj hm
   exact ⟨rfl, H.reads (fun r hr => hr)⟩
 ·rw [if_f hb3] at hm
  refine st_no E (wf' E rfl rfl rfl rfl hb3 rfl) rfl rfl ?_
  clear a E;intro a E
  refine st_no E (wf' E rfl rfl rfl rfl hb3 rfl) rfl rfl ?_
  clear a E;intro a E
  refine st_no E (wf' E rfl rfl rfl rfl hb3 rfl) rfl rfl ?_
  clear a E;intro a E
  refine sv E rfl rfl rfl (x_pickF E rfl rfl hb3 rfl) ?_
  clear a E;intro a E
  refine sv E rfl rfl rfl (x_move E rfl rfl) ?_
  clear a E;intro a E
  refine st_no E (wf E rfl rfl rfl rfl rfl) rfl rfl ?_
  clear a E;intro a E
  refine st_no E (wf E rfl rfl rfl rfl rfl) rfl rfl ?_
  clear a E;intro a E
  refine st_no E (wf E rfl rfl rfl rfl rfl) rfl rfl ?_
  clear a E;intro a E
  refine sv E rfl rfl rfl (x_pickF E rfl rfl rfl rfl) ?_
  clear a E;intro a E
  refine sv E rfl rfl rfl (x_move E rfl rfl) ?_
  clear a E;intro a E
  refine st_no E (wf E rfl rfl rfl rfl rfl) rfl rfl ?_
  clear a E;intro a E
  refine st_no E (wf E rfl rfl rfl rfl rfl) rfl rfl ?_
  clear a E;intro a E
  refine st_no E (wf E rfl rfl rfl rfl rfl) rfl rfl ?_
  clear a E;intro a E
  refine sv E rfl rfl rfl (x_pickF E rfl rfl rfl rfl) ?_
  clear a E;intro a E
  refine sv E rfl rfl rfl (x_move E rfl rfl) ?_
  clear a E;intro a E
  refine st_no E (wf E rfl rfl rfl rfl rfl) rfl rfl ?_
  clear a E;intro a E
  refine st_no E (wf E rfl rfl rfl rfl rfl) rfl rfl ?_
  clear a E;intro a E
  refine st_no E (wf E rfl rfl rfl rfl rfl) rfl rfl ?_
  clear a E;intro a E
  refine st_no E (wf E rfl rfl rfl rfl rfl) rfl rfl ?_
  clear a E;intro a E
  refine st_no E (wu E rfl rfl rfl rfl) rfl rfl ?_
  clear a E;intro a E
  refine st_no E (wu E rfl rfl rfl rfl) rfl rfl ?_
  clear a E;intro a E
  refine st_no E (wu E rfl rfl rfl rfl) rfl rfl ?_
  clear a E;intro a E
  refine st_no E (wf E rfl rfl rfl rfl rfl) rfl rfl ?_
  clear a E;intro a E
  refine sv E rfl rfl rfl (x_pickF E rfl rfl rfl rfl) ?_
  clear a E;intro a E
  refine sv E rfl rfl rfl (x_assign E rfl rfl) ?_
  clear a E;intro a E
  refine wpList_nil ?_
  refine q_then ?_
  refine wp_ret ?_
  refine out1 E rfl rfl ?_
  replace H := H.drop 0
  obtain rfl := Option.some.inj hm
  exact ⟨rfl, H.reads (fun r hr => hr)⟩
end Go.Cb

set_option linter.unusedVariables false
set_option linter.unusedSimpArgs false
namespace Go.Cb
open Go.Proofs Go.RowKit
def m_nodes_Right_j2 (rec_1 : Int → (Nat) → (List UInt8 → Int) → Option Bool) (x9 : Int) (x15 : (Nat)) (x16 : (List UInt8 → Int)) : Option Bool :=
  rec_1 (IntKind.i64.wrap (x9 + 1)) x15 x16
def m_nodes_Right_j3 (rec_1 : Int → (Nat) → (List UInt8 → Int) → Option Bool) (x9 : Int) (x20 : S_api_Node) (x11 : (List UInt8 → Int)) (x10 : (Nat)) (b27 : Bool) : Option Bool :=
  if b27 = true then (some (false)) else (if (x20.Owner == 0) = true then ((ck (x20.Path.size ≤ maxLen)).bind fun u31 => (ck (x20.Path.size ≤ maxLen ∧ (Lit.int .i64 (IntKind.i64.wrap ((x11 x20.Path.data.toList) + 1))).wf = true ∧ x10 < maxLen)).bind fun u33 => m_nodes_Right_j2 rec_1 x9 (x10 + 1) (mput x11 x20.Path.data.toList (IntKind.i64.wrap ((x11 x20.Path.data.toList) + 1)))) else (m_nodes_Right_j2 rec_1 x9 x10 x11))
def m_nodes_Right_l1 (l2 : List S_api_Node) : Nat → Int → (Nat) → (List UInt8 → Int) → Option Bool
  | 0, _, _, _ => none
  | k1 + 1, x9, x10, x11 =>
    if (decide (x9 < (l2.length : Int))) = true then ((idx l2 x9).bind fun x20 => (m_path_Parent x20.Path).bind fun u25 => (m_nodes_node (⟨x20.Path, x20.Data, x20.Version, x20.Turn, x20.Owner⟩ : S_api_Node)).bind fun u36 => if (!u36) = true then (m_nodes_Right_j3 (m_nodes_Right_l1 l2 k1) x9 x20 x11 x10 true) else (if (decide (x9 > 0)) = true then (if (!u25.2) = true then (m_nodes_Right_j3 (m_nodes_Right_l1 l2 k1) x9 x20 x11 x10 true) else ((ck (u25.1.size ≤ maxLen)).bind fun u41 => if ((x11 u25.1.data.toList) == 0) = true then (m_nodes_Right_j3 (m_nodes_Right_l1 l2 k1) x9 x20 x11 x10 true) else ((idx l2 (IntKind.i64.wrap (x9 - 1))).bind fun x44 => m_nodes_Right_j3 (m_nodes_Right_l1 l2 k1) x9 x20 x11 x10 (!(sLt x44.Path x20.Path))))) else (m_nodes_Right_j3 (m_nodes_Right_l1 l2 k1) x9 x20 x11 x10 false))) else (some (true))
def m_nodes_Right_j1 (l2 : List S_api_Node) (b4 : Bool) : Option Bool :=
  if b4 = true then (some (false)) else (m_nodes_Right_l1 l2 (((l2.length : Int) - 0 : Int).toNat + 1) 0 0 (fun _ => 0))
def m_nodes_Right (l2 : List S_api_Node) : Option Bool :=
  if ((l2.length : Int) == 0) = true then (m_nodes_Right_j1 l2 true) else (if (decide ((l2.length : Int) > 512)) = true then (m_nodes_Right_j1 l2 true) else ((idx l2 0).bind fun x53 => if (!(sEq x53.Path (ByteArray.mk #[47]))) = true then (m_nodes_Right_j1 l2 true) else ((idx l2 0).bind fun x57 => m_nodes_Right_j1 l2 (x57.Owner != 0))))
set_option maxRecDepth 20000 in
set_option maxHeartbeats 1000000 in
theorem c_nodes_Right {w : World} {Fo : List Ob} {rs : List Rp} (v1 : Value) (l2 : List S_api_Node) (H : Sep w (Fo) rs) (hr3 : rSl k_api_Node v1 l2 ∈ rs) {r : Bool} (hm : m_nodes_Right l2 = some r) :
    Calls Tryz.prog 11 [v1].toArray w (Ret fun v w' => .bool r = v ∧ Sep w' (Fo) (rs)) := by
 unfold m_nodes_Right at hm
 refine enter Tryz.func11 rfl Tryz.ntmps11 rfl fun a E => ?_
 simp only [enum, Nat.reduceAdd] at E
 refine wp_seq ?_
 refine wp_region_lit ?_
 refine sv E rfl rfl rfl (x_assign E rfl rfl) ?_
 clear a E;intro a E
 refine wpList_nil ?_
 refine q_then ?_
 refine wp_seq ?_
 refine wp_seq_cut (fun a w => ∃ (b4 : Bool) (rs5 : List Rp), Env 81 a [(0, v1), (29, .bool b4)] ∧ Sep w (Fo) rs5 ∧ (∀ r, r ∈ rs → r ∈ rs5) ∧ rSl k_api_Node v1 l2 ∈ rs5 ∧ m_nodes_Right_j1 l2 b4 = some r) ?_ ?_
 ·refine wp_region_lit ?_
  refine sv E rfl rfl rfl (x_move E rfl rfl) ?_
  clear a E;intro a E
  refine sv E rfl rfl rfl (x_lenS E H rfl rfl hr3 Tryz.underlying22) ?_
  clear a E;intro a E
  refine sv E rfl rfl rfl (x_bin E rfl rfl rfl rfl) ?_
  clear a E;intro a E
  refine sv E rfl rfl rfl (x_move E rfl rfl) ?_
  clear a E;intro a E
  rcases Bool.eq_false_or_eq_true ((l2.length : Int) == 0) with hb51 | hb51
  ·rw [if_t hb51] at hm
   refine st_no E (wf' E rfl rfl rfl rfl hb51 rfl) rfl rfl ?_
   clear a E;intro a E
   refine st_no E (wf' E rfl rfl rfl rfl hb51 rfl) rfl rfl ?_
   clear a E;intro a E
   refine st_no E (wf' E rfl rfl rfl rfl hb51 rfl) rfl rfl ?_
   clear a E;intro a E
   refine sv E rfl rfl rfl (x_pickT E rfl rfl hb51 rfl) ?_
   clear a E;intro a E
   refine sv E rfl rfl rfl (x_move E rfl rfl) ?_
   clear a E;intro a E
   refine st_no E (wf E rfl rfl rfl rfl rfl) rfl rfl ?_
   clear a E;intro a E
   refine st_no E (wf E rfl rfl rfl rfl rfl) rfl rfl ?_
   clear a E;intro a E
   refine st_no E (wf E rfl rfl rfl rfl rfl) rfl rfl ?_
   clear a E;intro a E
   refine st_no E (wf E rfl rfl rfl rfl rfl) rfl rfl ?_
   clear a E;intro a E
   refine st_no E (wf E rfl rfl rfl rfl rfl) rfl rfl ?_
   clear a E;intro a E
   refine sv E rfl rfl rfl (x_pickT E rfl rfl rfl rfl) ?_
   clear a E;intro a E
   refine sv E rfl rfl rfl (x_move E rfl rfl) ?_
   clear a E;intro a E
   refine st_no E (wf E rfl rfl rfl rfl rfl) rfl rfl ?_
   clear a E;intro a E
   refine st_no E (wf E rfl rfl rfl rfl rfl) rfl rfl ?_
   clear a E;intro a E
   refine st_no E (wf E rfl rfl rfl rfl rfl) rfl rfl ?_
   clear a E;intro a E
   refine st_no E (wf E rfl rfl rfl rfl rfl) rfl rfl ?_
   clear a E;intro a E
   refine st_no E (wf E rfl rfl rfl rfl rfl) rfl rfl ?_
   clear a E;intro a E
   refine sv E rfl rfl rfl (x_pickT E rfl rfl rfl rfl) ?_
   clear a E;intro a E
   refine wpList_nil ?_
   refine q_then ?_
   exact ⟨true, _, ((E.nil.keep E 29 rfl).keep E 0 rfl), H, fun r hr => hr, hr3, hm⟩
  ·rw [if_f hb51] at hm
   refine st_val E (ws' E rfl rfl rfl rfl hb51) rfl rfl (x_move E rfl rfl) ?_
   clear a E;intro a E
   refine st_val E (ws' E rfl rfl rfl rfl hb51) rfl rfl (x_lenS E H rfl rfl hr3 Tryz.underlying22) ?_
   clear a E;intro a E
   refine st_val E (ws' E rfl rfl rfl rfl hb51) rfl rfl (x_bin E rfl rfl rfl rfl) ?_
   clear a E;intro a E
   refine sv E rfl rfl rfl (x_pickF E rfl rfl hb51 rfl) ?_
   clear a E;intro a E
   refine sv E rfl rfl rfl (x_move E rfl rfl) ?_
   clear a E;intro a E
   rcases Bool.eq_false_or_eq_true (decide ((l2.length : Int) > 512)) with hb52 | hb52
   ·rw [if_t hb52] at hm
    refine st_no E (wf' E rfl rfl rfl rfl hb52 rfl) rfl rfl ?_
    clear a E;intro a E
    refine st_no E (wf' E rfl rfl rfl rfl hb52 rfl) rfl rfl ?_
    clear a E;intro a E
    refine st_no E (wf' E rfl rfl rfl rfl hb52 rfl) rfl rfl ?_
    clear a E;intro a E
    refine st_no E (wf' E rfl rfl rfl rfl hb52 rfl) rfl rfl ?_
    clear a E;intro a E
    refine st_no E (wf' E rfl rfl rfl rfl hb52 rfl) rfl rfl ?_
    clear a E;intro a E
    refine sv E rfl rfl rfl (x_pickT E rfl rfl hb52 rfl) ?_
    clear a E;intro a E
    refine sv E rfl rfl rfl (x_move E rfl rfl) ?_
    clear a E;intro a E
    refine st_no E (wf E rfl rfl rfl rfl rfl) rfl rfl ?_
    clear a E;intro a E
    refine st_no E (wf E rfl rfl rfl rfl rfl) rfl rfl ?_
    clear a E;intro a E
    refine st_no E (wf E rfl rfl rfl rfl rfl) rfl rfl ?_
    clear a E;intro a E
    refine st_no E (wf E rfl rfl rfl rfl rfl) rfl rfl ?_
    clear a E;intro a E
    refine st_no E (wf E rfl rfl rfl rfl rfl) rfl rfl ?_
    clear a E;intro a E
    refine sv E rfl rfl rfl (x_pickT E rfl rfl rfl rfl) ?_
    clear a E;intro a E
    refine wpList_nil ?_
    refine q_then ?_
    exact ⟨true, _, ((E.nil.keep E 29 rfl).keep E 0 rfl), H, fun r hr => hr, hr3, hm⟩
   ·rw [if_f hb52] at hm
    refine st_val E (ws' E rfl rfl rfl rfl hb52) rfl rfl (x_move E rfl rfl) ?_
    clear a E;intro a E
    obtain ⟨x53, hx54, hm⟩ := bnd hm
    refine st_ixS E H (ws' E rfl rfl rfl rfl hb52) rfl rfl rfl rfl rfl hr3 Tryz.underlying22 sz35 hx54 ?_
    clear E H; clear a; intro q55 a H E
    replace H := H.derive1 (.head _) (rAt kS (q55.add 0) x53.Path) (fun ok h => k_api_Node_at0 h)
    refine st_val E (ws' E rfl rfl rfl rfl hb52) rfl rfl (x_fa E rfl rfl (fa35_0 _ _)) ?_
    clear a E;intro a E
    refine st_val E (ws' E rfl rfl rfl rfl hb52) rfl rfl (x_ldA E H rfl rfl (.head _) Tryz.underlying9 rfl) ?_
    clear a E;intro a E
    refine st_val E (ws' E rfl rfl rfl rfl hb52) rfl rfl (x_str E rfl rfl rfl rfl) ?_
    clear a E;intro a E
    refine sv E rfl rfl rfl (x_pickF E rfl rfl hb52 rfl) ?_
    clear a E;intro a E
    refine sv E rfl rfl rfl (x_move E rfl rfl) ?_
    clear a E;intro a E
    rcases Bool.eq_false_or_eq_true (!(sEq x53.Path (ByteArray.mk #[47]))) with hb56 | hb56
    ·rw [if_t hb56] at hm
     refine st_no E (wf' E rfl rfl rfl rfl hb56 rfl) rfl rfl ?_
     clear a E;intro a E
     refine st_no E (wf' E rfl rfl rfl rfl hb56 rfl) rfl rfl ?_
     clear a E;intro a E
     refine st_no E (wf' E rfl rfl rfl rfl hb56 rfl) rfl rfl ?_
     clear a E;intro a E
     refine st_no E (wf' E rfl rfl rfl rfl hb56 rfl) rfl rfl ?_
     clear a E;intro a E
     refine st_no E (wf' E rfl rfl rfl rfl hb56 rfl) rfl rfl ?_
     clear a E;intro a E
     refine sv E rfl rfl rfl (x_pickT E rfl rfl hb56 rfl) ?_
     clear a E;intro a E
     refine wpList_nil ?_
     refine q_then ?_
     exact ⟨true, _, ((E.nil.keep E 29 rfl).keep E 0 rfl), H, fun r hr => .tail _ (.tail _ (hr)), (.tail _ (.tail _ hr3)), hm⟩
    ·rw [if_f hb56] at hm
     refine st_val E (ws' E rfl rfl rfl rfl hb56) rfl rfl (x_move E rfl rfl) ?_
     clear a E;intro a E
     obtain ⟨x57, hx58, hm⟩ := bnd hm
     refine st_ixS E H (ws' E rfl rfl rfl rfl hb56) rfl rfl rfl rfl rfl (.tail _ (.tail _ hr3)) Tryz.underlying22 sz35 hx58 ?_
     clear E H; clear a; intro q59 a H E
     replace H := H.derive1 (.head _) (rAt (kI .i64) (q59.add 4) x57.Owner) (fun ok h => k_api_Node_at4 h)
     refine st_val E (ws' E rfl rfl rfl rfl hb56) rfl rfl (x_fa E rfl rfl (fa35_4 _ _)) ?_
     clear a E;intro a E
     refine st_val E (ws' E rfl rfl rfl rfl hb56) rfl rfl (x_ldA E H rfl rfl (.head _) Tryz.underlying2 rfl) ?_
     clear a E;intro a E
     refine st_val E (ws' E rfl rfl rfl rfl hb56) rfl rfl (x_bin E rfl rfl rfl rfl) ?_
     clear a E;intro a E
     refine sv E rfl rfl rfl (x_pickF E rfl rfl hb56 rfl) ?_
     clear a E;intro a E
     refine wpList_nil ?_
     refine q_then ?_
     exact ⟨x57.Owner != 0, _, ((E.nil.keep E 29 rfl).keep E 0 rfl), H, fun r hr => .tail _ (.tail _ (.tail _ (.tail _ (hr)))), (.tail _ (.tail _ (.tail _ (.tail _ hr3)))), hm⟩
 ·clear E H hm
  rintro a w ⟨b4, rs5, E, H, hs6, hr7, hm⟩
  unfold m_nodes_Right_j1 at hm
  refine wp_if E rfl ?_ ?_
  ·intro hb
   rw [if_t hb] at hm
   clear hb
   refine wp_seq ?_
   refine wp_region_lit ?_
   refine sv E rfl rfl rfl (x_assign E rfl rfl) ?_
   clear a E;intro a E
   refine wpList_nil ?_
   refine q_then ?_
   refine wp_ret ?_
   refine q_thenR ?_
   refine out1 E rfl rfl ?_
   obtain rfl := Option.some.inj hm
   exact ⟨rfl, H.reads (fun r hr => hs6 r hr)⟩
  ·intro hb
   rw [if_f hb] at hm
   clear hb
   refine wp_skip ?_
   refine q_then ?_
   refine wp_seq ?_
   refine wp_region_lit ?_
   refine st_makeMap (k := 9) (e := 3) E H (wn rfl) rfl rfl rfl ?_
   clear E H; clear a; clear w; intro p8 w a H E
   refine sv E rfl rfl rfl (x_assign E rfl rfl) ?_
   clear a E;intro a E
   refine wpList_nil ?_
   refine q_then ?_
   refine wp_seq ?_
   refine wp_seq ?_
   refine wp_region_lit ?_
   refine sv E rfl rfl rfl (x_move E rfl rfl) ?_
   clear a E;intro a E
   refine sv E rfl rfl rfl (x_lenS E H rfl rfl hr7 Tryz.underlying22) ?_
   clear a E;intro a E
   refine sv E rfl rfl rfl (x_move E rfl rfl) ?_
   clear a E;intro a E
   refine wpList_nil ?_
   refine q_then ?_
   refine wp_block ?_
   refine wp_loop_g (fun k1 a w => ∃ (x9 : Int) (x10 : (Nat)) (x11 : (List UInt8 → Int)) (rs12 : List Rp), Env 81 a [(0, v1), (3, .map (some p8)), (31, v1), (32, .int .i64 (l2.length : Int)), (33, .int .i64 x9)] ∧ Sep w (MapSI Tryz.prog 9 3 p8 x10 x11 :: Fo) rs12 ∧ (∀ r, r ∈ rs → r ∈ rs12) ∧ rSl k_api_Node v1 l2 ∈ rs12 ∧ m_nodes_Right_l1 l2 k1 x9 x10 x11 = some r) (((l2.length : Int) - 0 : Int).toNat + 1) ?_ ?_
   ·exact ⟨0, 0, (fun _ => 0), _, (((((E.nil.keep E 33 rfl).keep E 32 rfl).keep E 31 rfl).keep E 3 rfl).keep E 0 rfl), H, hs6, hr7, hm⟩
   ·clear E H hm
    rintro k1 a w ⟨x9, x10, x11, rs12, E, H, hs13, hr14, hm⟩
    cases k1 with
    | zero => exact (none_some hm rfl).elim
    | succ k1 =>
     unfold m_nodes_Right_l1 at hm
     refine wp_seq ?_
     refine wp_region_lit ?_
     refine sv E rfl rfl rfl (x_bin E rfl rfl rfl rfl) ?_
     clear a E;intro a E
     refine wpList_nil ?_
     refine q_then ?_
     refine wp_seq ?_
     refine wp_if E rfl ?_ ?_
     ·intro hb
      rw [if_t hb] at hm
      clear hb
      refine wp_skip ?_
      refine q_then ?_
      refine wp_seq_cut (fun a w => ∃ (x15 : (Nat)) (x16 : (List UInt8 → Int)) (rs17 : List Rp), Env 81 a [(0, v1), (3, .map (some p8)), (31, v1), (32, .int .i64 (l2.length : Int)), (33, .int .i64 x9)] ∧ Sep w (MapSI Tryz.prog 9 3 p8 x15 x16 :: Fo) rs17 ∧ (∀ r, r ∈ rs → r ∈ rs17) ∧ rSl k_api_Node v1 l2 ∈ rs17 ∧ m_nodes_Right_j2 (m_nodes_Right_l1 l2 k1) x9 x15 x16 = some r) ?_ ?_
      ·refine wp_block ?_
       refine wp_seq ?_
       refine wp_region_lit ?_
       refine sv E rfl rfl rfl (x_move E rfl rfl) ?_
       clear a E;intro a E
       obtain ⟨x20, hx21, hm⟩ := bnd hm
       refine st_ixS E H (wn rfl) rfl rfl rfl rfl rfl hr14 Tryz.underlying22 sz35 hx21 ?_
       clear E H; clear a; intro q22 a H E
       refine st_ldN E H (wn rfl) rfl rfl rfl rfl (.head _) Tryz.underlying35 rfl sz35 ?_
       clear E H; clear a; intro u23 a H E
       obtain ⟨_, hcs⟩ := H.rd (.head _)
       obtain rfl := k_api_Node_open hcs
       clear hcs
       refine st_alloc E H (wn rfl) rfl rfl (cs := [.string (ByteArray.mk #[]), .string (ByteArray.mk #[]), .int .i64 0, .int .i64 0, .int .i64 0]) rfl (z := .agg #[.string ⟨#[]⟩, .string ⟨#[]⟩, .int .i64 0, .int .i64 0, .int .i64 0]) (by kernel_rfl) rfl ?_
       clear E H; clear a; clear w; intro p24 w a H E
       refine sv E rfl rfl rfl (x_assign E rfl rfl) ?_
       clear a E;intro a E
       refine st_st (i := 0) E H (wn rfl) rfl (us := [.string x20.Path, .string x20.Data, .int .i64 x20.Version, .int .i64 x20.Turn, .int .i64 x20.Owner]) rfl rfl rfl rfl rfl sz35 rfl rfl ?_
       clear H; clear w; intro w H
       replace H : Sep w (Blk p24 35 [.string x20.Path, .string x20.Data, .int .i64 x20.Version, .int .i64 x20.Turn, .int .i64 x20.Owner] :: MapSI Tryz.prog 9 3 p8 x10 x11 :: Fo) _ := H
       refine wpList_nil ?_
       refine q_then ?_
       refine wp_seq ?_
       refine wp_region_lit ?_
       refine sv E rfl rfl rfl (x_fa E rfl rfl (v := .pointer (some ⟨p24, 0, none⟩)) (fa35_0 _ _)) ?_
       clear a E;intro a E
       refine sv E rfl rfl rfl (x_ldB (i := 0) E H rfl rfl rfl rfl Tryz.underlying9 rfl) ?_
       clear a E;intro a E
       obtain ⟨u25, hx26, hm⟩ := bnd hm
       refine st_call E (wn rfl) rfl rfl (x_call E rfl rfl (cf34 _)) (c_path_Parent x20.Path H hx26) ?_
       clear E H; clear a; clear w; rintro _ w ⟨rfl, H⟩ a E
       refine sv E rfl rfl rfl (x_move E rfl rfl) ?_
       clear a E;intro a E
       refine sv E rfl rfl rfl (x_ext E rfl rfl rfl) ?_
       clear a E;intro a E
       refine sv E rfl rfl rfl (x_ext E rfl rfl rfl) ?_
       clear a E;intro a E
       refine sv E rfl rfl rfl (x_assign E rfl rfl) ?_
       clear a E;intro a E
       refine sv E rfl rfl rfl (x_assign E rfl rfl) ?_
       clear a E;intro a E
       refine wpList_nil ?_
       refine q_then ?_
       refine wp_seq ?_
       refine wp_seq_cut (fun a w => ∃ (b27 : Bool) (rs28 : List Rp), Env 81 a [(0, v1), (3, .map (some p8)), (5, .pointer (some ⟨p24, 0, none⟩)), (31, v1), (32, .int .i64 (l2.length : Int)), (33, .int .i64 x9), (71, .bool b27)] ∧ Sep w (MapSI Tryz.prog 9 3 p8 x10 x11 :: Blk p24 35 [.string x20.Path, .string x20.Data, .int .i64 x20.Version, .int .i64 x20.Turn, .int .i64 x20.Owner] :: Fo) rs28 ∧ (∀ r, r ∈ rs → r ∈ rs28) ∧ rSl k_api_Node v1 l2 ∈ rs28 ∧ m_nodes_Right_j3 (m_nodes_Right_l1 l2 k1) x9 x20 x11 x10 b27 = some r) ?_ ?_
       ·obtain ⟨u35, H⟩ := H.raw (.tail _ (.tail _ hr14))
        replace H : Sep w (Blk p24 35 [.string x20.Path, .string x20.Data, .int .i64 x20.Version, .int .i64 x20.Turn, .int .i64 x20.Owner] :: MapSI Tryz.prog 9 3 p8 x10 x11 :: Fo) (rRow k_api_Node v1 l2 u35 :: rCs k_api_Node [.string x20.Path, .string x20.Data, .int .i64 x20.Version, .int .i64 x20.Turn, .int .i64 x20.Owner] x20 :: rAt k_api_Node q22 x20 :: rs12) := H
        have hI : Still [Blk p24 35 [.string x20.Path, .string x20.Data, .int .i64 x20.Version, .int .i64 x20.Turn, .int .i64 x20.Owner], MapSI Tryz.prog 9 3 p8 x10 x11] [rRow k_api_Node v1 l2 u35] { w with drawn := w.drawn + 1 } := ⟨_, _, H.kept (Kp.drawn _ w _), (subO_cons (.head _) (subO_cons (.tail _ (.head _)) (subO_nil))), (sub_cons (.head _) (sub_nil))⟩
        refine wp_draw _ [(0, 0), (1, 1), (2, 0), (3, 0), (4, 0), (5, 0), (6, 0), (7, 0), (8, 0), (9, 0), (10, 0), (11, 0), (12, 0), (13, 0), (14, 0), (15, 0), (16, 0), (17, 0), (18, 0), (19, 0), (20, 0), (21, 0), (22, 0), (23, 0), (24, 0), (25, 0), (26, 0), (27, 0)] mixedOk (by kernel_rfl) (fun _ _ _ h => False.elim h.2) hI ?_
        replace H := H.kept (Kp.drawn _ w (w.drawn + 1))
        generalize ({ w with drawn := w.drawn + 1 } : World) = w at H hI ⊢
        replace hI : ∃ W, Still [Blk p24 35 [.string x20.Path, .string x20.Data, .int .i64 x20.Version, .int .i64 x20.Turn, .int .i64 x20.Owner], MapSI Tryz.prog 9 3 p8 x10 x11] [rRow k_api_Node v1 l2 u35] W := ⟨_, hI⟩
        obtain ⟨W0, hI⟩ := hI
        refine fr_val E rfl (wn rfl) rfl rfl (fun w hW => x_ld E rfl rfl (ib_ldN (us := [.string x20.Path, .string x20.Data, .int .i64 x20.Version, .int .i64 x20.Turn, .int .i64 x20.Owner]) (.head _) rfl Tryz.underlying35 rfl sz35 w hW)) ?_
        clear a E;intro a E
        refine fr_op rfl ?_
        obtain ⟨u36, hx37, hm⟩ := bnd hm
        refine st_call E (wn rfl) rfl rfl (x_call E rfl rfl (cf35 _)) (c_nodes_node (⟨x20.Path, x20.Data, x20.Version, x20.Turn, x20.Owner⟩ : S_api_Node) H hx37) ?_
        clear E H; clear a; clear w; rintro _ w ⟨rfl, H⟩ a E
        refine wpList_nil ?_
        refine q_then ?_
        replace H : Sep w (Blk p24 35 [.string x20.Path, .string x20.Data, .int .i64 x20.Version, .int .i64 x20.Turn, .int .i64 x20.Owner] :: MapSI Tryz.prog 9 3 p8 x10 x11 :: Fo) (rRow k_api_Node v1 l2 u35 :: rCs k_api_Node [.string x20.Path, .string x20.Data, .int .i64 x20.Version, .int .i64 x20.Turn, .int .i64 x20.Owner] x20 :: rAt k_api_Node q22 x20 :: rs12) := H
        refine ⟨⟨_, _, H, (subO_cons (.head _) (subO_cons (.tail _ (.head _)) (subO_nil))), (sub_cons (.head _) (sub_nil))⟩, ?_⟩
        refine fr_val E rfl (wn rfl) rfl rfl (fun w hW => (x_not E rfl rfl)) ?_
        clear a E;intro a E
        refine fr_val E rfl (wn rfl) rfl rfl (fun w hW => (x_move E rfl rfl)) ?_
        clear a E;intro a E
        rcases Bool.eq_false_or_eq_true (!u36) with hb38 | hb38
        ·rw [if_t hb38] at hm
         refine fr_no E rfl (wf' E rfl rfl rfl rfl hb38 rfl) rfl rfl ?_
         clear a E;intro a E
         refine fr_no E rfl (wf' E rfl rfl rfl rfl hb38 rfl) rfl rfl ?_
         clear a E;intro a E
         refine fr_no E rfl (wf' E rfl rfl rfl rfl hb38 rfl) rfl rfl ?_
         clear a E;intro a E
         refine fr_no E rfl (wu E rfl rfl rfl rfl) rfl rfl ?_
         clear a E;intro a E
         refine fr_no E rfl (wu E rfl rfl rfl rfl) rfl rfl ?_
         clear a E;intro a E
         refine fr_no E rfl (wu E rfl rfl rfl rfl) rfl rfl ?_
         clear a E;intro a E
         refine fr_no E rfl (wu E rfl rfl rfl rfl) rfl rfl ?_
         clear a E;intro a E
         refine fr_no E rfl (wu E rfl rfl rfl rfl) rfl rfl ?_
         clear a E;intro a E
         refine fr_no E rfl (wu E rfl rfl rfl rfl) rfl rfl ?_
         clear a E;intro a E
         refine fr_no E rfl (wu E rfl rfl rfl rfl) rfl rfl ?_
         clear a E;intro a E
         refine fr_no E rfl (wu E rfl rfl rfl rfl) rfl rfl ?_
         clear a E;intro a E
         refine fr_no E rfl (wu E rfl rfl rfl rfl) rfl rfl ?_
         clear a E;intro a E
         refine fr_no E rfl (wu E rfl rfl rfl rfl) rfl rfl ?_
         clear a E;intro a E
         refine fr_no E rfl (wu E rfl rfl rfl rfl) rfl rfl ?_
         clear a E;intro a E
         refine fr_no E rfl (wu E rfl rfl rfl rfl) rfl rfl ?_
         clear a E;intro a E
         refine fr_no E rfl (wu E rfl rfl rfl rfl) rfl rfl ?_
         clear a E;intro a E
         refine fr_no E rfl (wu E rfl rfl rfl rfl) rfl rfl ?_
         clear a E;intro a E
         refine fr_no E rfl (wu E rfl rfl rfl rfl) rfl rfl ?_
         clear a E;intro a E
         refine fr_no E rfl (wu E rfl rfl rfl rfl) rfl rfl ?_
         clear a E;intro a E
         refine fr_no E rfl (wu E rfl rfl rfl rfl) rfl rfl ?_
         clear a E;intro a E
         refine fr_no E rfl (wu E rfl rfl rfl rfl) rfl rfl ?_
         clear a E;intro a E
         refine fr_no E rfl (wu E rfl rfl rfl rfl) rfl rfl ?_
         clear a E;intro a E
         refine fr_no E rfl (wf' E rfl rfl rfl rfl hb38 rfl) rfl rfl ?_
         clear a E;intro a E
         refine fr_val E rfl (wn rfl) rfl rfl (fun w hW => (x_pickT E rfl rfl hb38 rfl)) ?_
         clear a E;intro a E
         refine fr_nil ?_
         clear hI
         refine q_then ?_
         replace H := H.front 0 rfl
         replace H := H.front 1 rfl
         exact ⟨true, _, (((((((E.nil.keep E 71 rfl).keep E 33 rfl).keep E 32 rfl).keep E 31 rfl).keep E 5 rfl).keep E 3 rfl).keep E 0 rfl), H, fun r hr => .tail _ (.tail _ (.tail _ (hs13 r hr))), (.tail _ (.tail _ (.tail _ hr14))), hm⟩
        ·rw [if_f hb38] at hm
         refine fr_val E rfl (ws' E rfl rfl rfl rfl hb38) rfl rfl (fun w hW => (x_move E rfl rfl)) ?_
         clear a E;intro a E
         refine fr_val E rfl (ws' E rfl rfl rfl rfl hb38) rfl rfl (fun w hW => (x_bin E rfl rfl rfl rfl)) ?_
         clear a E;intro a E
         refine fr_val E rfl (ws' E rfl rfl rfl rfl hb38) rfl rfl (fun w hW => (x_move E rfl rfl)) ?_
         clear a E;intro a E
         rcases Bool.eq_false_or_eq_true (decide (x9 > 0)) with hb39 | hb39
         ·rw [if_t hb39] at hm
          refine fr_val E rfl (ws' E rfl rfl rfl rfl hb39) rfl rfl (fun w hW => (x_move E rfl rfl)) ?_
          clear a E;intro a E
          refine fr_val E rfl (ws' E rfl rfl rfl rfl hb39) rfl rfl (fun w hW => (x_not E rfl rfl)) ?_
          clear a E;intro a E
          refine fr_val E rfl (ws' E rfl rfl rfl rfl hb39) rfl rfl (fun w hW => (x_move E rfl rfl)) ?_
          clear a E;intro a E
          rcases Bool.eq_false_or_eq_true (!u25.2) with hb40 | hb40
          ·rw [if_t hb40] at hm
           refine fr_no E rfl (wf' E rfl rfl rfl rfl hb40 rfl) rfl rfl ?_
           clear a E;intro a E
           refine fr_no E rfl (wf' E rfl rfl rfl rfl hb40 rfl) rfl rfl ?_
           clear a E;intro a E
           refine fr_no E rfl (wf' E rfl rfl rfl rfl hb40 rfl) rfl rfl ?_
           clear a E;intro a E
           refine fr_no E rfl (wf' E rfl rfl rfl rfl hb40 rfl) rfl rfl ?_
           clear a E;intro a E
           refine fr_val E rfl (ws' E rfl rfl rfl rfl hb39) rfl rfl (fun w hW => (x_pickT E rfl rfl hb40 rfl)) ?_
           clear a E;intro a E
           refine fr_val E rfl (ws' E rfl rfl rfl rfl hb39) rfl rfl (fun w hW => (x_move E rfl rfl)) ?_
           clear a E;intro a E
           refine fr_no E rfl (wf E rfl rfl rfl rfl rfl) rfl rfl ?_
           clear a E;intro a E
           refine fr_no E rfl (wf E rfl rfl rfl rfl rfl) rfl rfl ?_
           clear a E;intro a E
           refine fr_no E rfl (wf E rfl rfl rfl rfl rfl) rfl rfl ?_
           clear a E;intro a E
           refine fr_no E rfl (wf E rfl rfl rfl rfl rfl) rfl rfl ?_
           clear a E;intro a E
           refine fr_no E rfl (wf E rfl rfl rfl rfl rfl) rfl rfl ?_
           clear a E;intro a E
           refine fr_no E rfl (wf E rfl rfl rfl rfl rfl) rfl rfl ?_
           clear a E;intro a E
           refine fr_no E rfl (wf E rfl rfl rfl rfl rfl) rfl rfl ?_
           clear a E;intro a E
           refine fr_no E rfl (wf E rfl rfl rfl rfl rfl) rfl rfl ?_
           clear a E;intro a E
           refine fr_no E rfl (wf E rfl rfl rfl rfl rfl) rfl rfl ?_
           clear a E;intro a E
           refine fr_val E rfl (ws' E rfl rfl rfl rfl hb39) rfl rfl (fun w hW => (x_pickT E rfl rfl rfl rfl)) ?_
           clear a E;intro a E
           refine fr_val E rfl (ws' E rfl rfl rfl rfl hb38) rfl rfl (fun w hW => (x_pickT E rfl rfl hb39 rfl)) ?_
           clear a E;intro a E
           refine fr_val E rfl (wn rfl) rfl rfl (fun w hW => (x_pickF E rfl rfl hb38 rfl)) ?_
           clear a E;intro a E
           refine fr_nil ?_
           clear hI
           refine q_then ?_
           replace H := H.front 0 rfl
           replace H := H.front 1 rfl
           exact ⟨true, _, (((((((E.nil.keep E 71 rfl).keep E 33 rfl).keep E 32 rfl).keep E 31 rfl).keep E 5 rfl).keep E 3 rfl).keep E 0 rfl), H, fun r hr => .tail _ (.tail _ (.tail _ (hs13 r hr))), (.tail _ (.tail _ (.tail _ hr14))), hm⟩
          ·rw [if_f hb40] at hm
           refine fr_val E rfl (ws' E rfl rfl rfl rfl hb40) rfl rfl (fun w hW => (x_move E rfl rfl)) ?_
           clear a E;intro a E
           refine fr_val E rfl (ws' E rfl rfl rfl rfl hb40) rfl rfl (fun w hW => (x_move E rfl rfl)) ?_
           clear a E;intro a E
           obtain ⟨u41, hx42, hm⟩ := bnd hm
           refine fr_val E rfl (ws' E rfl rfl rfl rfl hb40) rfl rfl (fun w hW => x_lookI E rfl rfl rfl (.tail _ (.head _)) Tryz.underlying9 Tryz.underlying52 Tryz.underlying3 zer3 (ck_of hx42) hW) ?_
           clear a E;intro a E
           refine fr_val E rfl (ws' E rfl rfl rfl rfl hb40) rfl rfl (fun w hW => (x_bin E rfl rfl rfl rfl)) ?_
           clear a E;intro a E
           refine fr_val E rfl (ws' E rfl rfl rfl rfl hb39) rfl rfl (fun w hW => (x_pickF E rfl rfl hb40 rfl)) ?_
           clear a E;intro a E
           refine fr_val E rfl (ws' E rfl rfl rfl rfl hb39) rfl rfl (fun w hW => (x_move E rfl rfl)) ?_
           clear a E;intro a E
           rcases Bool.eq_false_or_eq_true ((x11 u25.1.data.toList) == 0) with hb43 | hb43
           ·rw [if_t hb43] at hm
            refine fr_no E rfl (wf' E rfl rfl rfl rfl hb43 rfl) rfl rfl ?_
            clear a E;intro a E
            refine fr_no E rfl (wf' E rfl rfl rfl rfl hb43 rfl) rfl rfl ?_
            clear a E;intro a E
            refine fr_no E rfl (wf' E rfl rfl rfl rfl hb43 rfl) rfl rfl ?_
            clear a E;intro a E
            refine fr_no E rfl (wf' E rfl rfl rfl rfl hb43 rfl) rfl rfl ?_
            clear a E;intro a E
            refine fr_no E rfl (wf' E rfl rfl rfl rfl hb43 rfl) rfl rfl ?_
            clear a E;intro a E
            refine fr_no E rfl (wf' E rfl rfl rfl rfl hb43 rfl) rfl rfl ?_
            clear a E;intro a E
            refine fr_no E rfl (wf' E rfl rfl rfl rfl hb43 rfl) rfl rfl ?_
            clear a E;intro a E
            refine fr_no E rfl (wf' E rfl rfl rfl rfl hb43 rfl) rfl rfl ?_
            clear a E;intro a E
            refine fr_no E rfl (wf' E rfl rfl rfl rfl hb43 rfl) rfl rfl ?_
            clear a E;intro a E
            refine fr_val E rfl (ws' E rfl rfl rfl rfl hb39) rfl rfl (fun w hW => (x_pickT E rfl rfl hb43 rfl)) ?_
            clear a E;intro a E
            refine fr_val E rfl (ws' E rfl rfl rfl rfl hb38) rfl rfl (fun w hW => (x_pickT E rfl rfl hb39 rfl)) ?_
            clear a E;intro a E
            refine fr_val E rfl (wn rfl) rfl rfl (fun w hW => (x_pickF E rfl rfl hb38 rfl)) ?_
            clear a E;intro a E
            refine fr_nil ?_
            clear hI
            refine q_then ?_
            replace H := H.front 0 rfl
            replace H := H.front 1 rfl
            exact ⟨true, _, (((((((E.nil.keep E 71 rfl).keep E 33 rfl).keep E 32 rfl).keep E 31 rfl).keep E 5 rfl).keep E 3 rfl).keep E 0 rfl), H, fun r hr => .tail _ (.tail _ (.tail _ (hs13 r hr))), (.tail _ (.tail _ (.tail _ hr14))), hm⟩
           ·rw [if_f hb43] at hm
            refine fr_val E rfl (ws' E rfl rfl rfl rfl hb43) rfl rfl (fun w hW => (x_move E rfl rfl)) ?_
            clear a E;intro a E
            refine fr_val E rfl (ws' E rfl rfl rfl rfl hb43) rfl rfl (fun w hW => (x_move E rfl rfl)) ?_
            clear a E;intro a E
            refine fr_val E rfl (ws' E rfl rfl rfl rfl hb43) rfl rfl (fun w hW => (x_bin E rfl rfl rfl rfl)) ?_
            clear a E;intro a E
            obtain ⟨x44, hx45, hm⟩ := bnd hm
            obtain ⟨q46, u49, hx47, hx48⟩ := dr_ixW (P := Tryz.prog) (k := .i64) hI (dr_mem (.head _)) Tryz.underlying22 sz35 hx45
            refine fr_val E rfl (ws' E rfl rfl rfl rfl hb43) rfl rfl (fun w hW => x_ixA E rfl rfl rfl (hx47 w)) ?_
            clear a E;intro a E
            have hx50 := dr_fld hx48 (fun _ _ _ h => k_api_Node_aw0 h)
            refine fr_val E rfl (ws' E rfl rfl rfl rfl hb43) rfl rfl (fun w hW => x_fa E rfl rfl (fa35_0 _ _)) ?_
            clear a E;intro a E
            refine fr_val E rfl (ws' E rfl rfl rfl rfl hb43) rfl rfl (fun w hW => x_ld E rfl rfl (ir_ld (DR.ir (dr_at hx50)) Tryz.underlying9 rfl w hW)) ?_
            clear a E;intro a E
            refine fr_val E rfl (ws' E rfl rfl rfl rfl hb43) rfl rfl (fun w hW => x_fa E rfl rfl (v := .pointer (some ⟨p24, 0, none⟩)) (fa35_0 _ _)) ?_
            clear a E;intro a E
            refine fr_val E rfl (ws' E rfl rfl rfl rfl hb43) rfl rfl (fun w hW => x_ld E rfl rfl (ib_ld (.head _) rfl Tryz.underlying9 rfl w hW)) ?_
            clear a E;intro a E
            refine fr_val E rfl (ws' E rfl rfl rfl rfl hb43) rfl rfl (fun w hW => (x_str E rfl rfl rfl rfl)) ?_
            clear a E;intro a E
            refine fr_val E rfl (ws' E rfl rfl rfl rfl hb39) rfl rfl (fun w hW => (x_pickF E rfl rfl hb43 rfl)) ?_
            clear a E;intro a E
            refine fr_val E rfl (ws' E rfl rfl rfl rfl hb38) rfl rfl (fun w hW => (x_pickT E rfl rfl hb39 rfl)) ?_
            clear a E;intro a E
            refine fr_val E rfl (wn rfl) rfl rfl (fun w hW => (x_pickF E rfl rfl hb38 rfl)) ?_
            clear a E;intro a E
            refine fr_nil ?_
            clear hI
            refine q_then ?_
            replace H := H.front 0 rfl
            replace H := H.front 1 rfl
            exact ⟨!(sLt x44.Path x20.Path), _, (((((((E.nil.keep E 71 rfl).keep E 33 rfl).keep E 32 rfl).keep E 31 rfl).keep E 5 rfl).keep E 3 rfl).keep E 0 rfl), H, fun r hr => .tail _ (.tail _ (.tail _ (hs13 r hr))), (.tail _ (.tail _ (.tail _ hr14))), hm⟩
         ·rw [if_f hb39] at hm
          refine fr_no E rfl (wf' E rfl rfl rfl rfl hb39 rfl) rfl rfl ?_
          clear a E;intro a E
          refine fr_no E rfl (wf' E rfl rfl rfl rfl hb39 rfl) rfl rfl ?_
          clear a E;intro a E
          refine fr_no E rfl (wf' E rfl rfl rfl rfl hb39 rfl) rfl rfl ?_
          clear a E;intro a E
          refine fr_no E rfl (wu E rfl rfl rfl rfl) rfl rfl ?_
          clear a E;intro a E
          refine fr_no E rfl (wu E rfl rfl rfl rfl) rfl rfl ?_
          clear a E;intro a E
          refine fr_no E rfl (wu E rfl rfl rfl rfl) rfl rfl ?_
          clear a E;intro a E
          refine fr_no E rfl (wu E rfl rfl rfl rfl) rfl rfl ?_
          clear a E;intro a E
          refine fr_no E rfl (wf' E rfl rfl rfl rfl hb39 rfl) rfl rfl ?_
          clear a E;intro a E
          refine fr_no E rfl (wf' E rfl rfl rfl rfl hb39 rfl) rfl rfl ?_
          clear a E;intro a E
          refine fr_no E rfl (wu E rfl rfl rfl rfl) rfl rfl ?_
          clear a E;intro a E
          refine fr_no E rfl (wu E rfl rfl rfl rfl) rfl rfl ?_
          clear a E;intro a E
          refine fr_no E rfl (wu E rfl rfl rfl rfl) rfl rfl ?_
          clear a E;intro a E
          refine fr_no E rfl (wu E rfl rfl rfl rfl) rfl rfl ?_
          clear a E;intro a E
          refine fr_no E rfl (wu E rfl rfl rfl rfl) rfl rfl ?_
          clear a E;intro a E
          refine fr_no E rfl (wu E rfl rfl rfl rfl) rfl rfl ?_
          clear a E;intro a E
          refine fr_no E rfl (wu E rfl rfl rfl rfl) rfl rfl ?_
          clear a E;intro a E
          refine fr_no E rfl (wu E rfl rfl rfl rfl) rfl rfl ?_
          clear a E;intro a E
          refine fr_no E rfl (wu E rfl rfl rfl rfl) rfl rfl ?_
          clear a E;intro a E
          refine fr_no E rfl (wf' E rfl rfl rfl rfl hb39 rfl) rfl rfl ?_
          clear a E;intro a E
          refine fr_val E rfl (ws' E rfl rfl rfl rfl hb38) rfl rfl (fun w hW => (x_pickF E rfl rfl hb39 rfl)) ?_
          clear a E;intro a E
          refine fr_val E rfl (wn rfl) rfl rfl (fun w hW => (x_pickF E rfl rfl hb38 rfl)) ?_
          clear a E;intro a E
          refine fr_nil ?_
          clear hI
          refine q_then ?_
          replace H := H.front 0 rfl
          replace H := H.front 1 rfl
          exact ⟨false, _, (((((((E.nil.keep E 71 rfl).keep E 33 rfl).keep E 32 rfl).keep E 31 rfl).keep E 5 rfl).keep E 3 rfl).keep E 0 rfl), H, fun r hr => .tail _ (.tail _ (.tail _ (hs13 r hr))), (.tail _ (.tail _ (.tail _ hr14))), hm⟩
       ·clear E H hm
        rintro a w ⟨b27, rs28, E, H, hs29, hr30, hm⟩
        unfold m_nodes_Right_j3 at hm
        refine wp_if E rfl ?_ ?_
        ·intro hb
         rw [if_t hb] at hm
         clear hb
         refine wp_seq ?_
         refine wp_region_lit ?_
         refine sv E rfl rfl rfl (x_assign E rfl rfl) ?_
         clear a E;intro a E
         refine wpList_nil ?_
         refine q_then ?_
         refine wp_ret ?_
         refine q_thenR ?_
         refine q_blkR ?_
         refine q_thenR ?_
         refine q_thenR ?_
         refine q_blkR ?_
         refine q_thenR ?_
         refine out1 E rfl rfl ?_
         replace H := H.drop 0
         replace H := H.drop 0
         obtain rfl := Option.some.inj hm
         exact ⟨rfl, H.reads (fun r hr => hs29 r hr)⟩
        ·intro hb
         rw [if_f hb] at hm
         clear hb
         refine wp_skip ?_
         refine q_then ?_
         refine wp_seq ?_
         refine wp_region_lit ?_
         refine sv E rfl rfl rfl (x_fa E rfl rfl (v := .pointer (some ⟨p24, 4, none⟩)) (fa35_4 _ _)) ?_
         clear a E;intro a E
         refine sv E rfl rfl rfl (x_ldB (i := 1) E H rfl rfl rfl rfl Tryz.underlying2 rfl) ?_
         clear a E;intro a E
         refine sv E rfl rfl rfl (x_bin E rfl rfl rfl rfl) ?_
         clear a E;intro a E
         refine wpList_nil ?_
         refine q_then ?_
         refine wp_if E rfl ?_ ?_
         ·intro hb
          rw [if_t hb] at hm
          clear hb
          refine wp_region_lit ?_
          refine sv E rfl rfl rfl (x_move E rfl rfl) ?_
          clear a E;intro a E
          refine sv E rfl rfl rfl (x_fa E rfl rfl (v := .pointer (some ⟨p24, 0, none⟩)) (fa35_0 _ _)) ?_
          clear a E;intro a E
          refine sv E rfl rfl rfl (x_ldB (i := 1) E H rfl rfl rfl rfl Tryz.underlying9 rfl) ?_
          clear a E;intro a E
          obtain ⟨u31, hx32, hm⟩ := bnd hm
          refine sv E rfl rfl rfl (x_look (i := 0) E H rfl rfl rfl rfl Tryz.underlying9 Tryz.underlying52 Tryz.underlying3 zer3 (ck_of hx32)) ?_
          clear a E;intro a E
          refine sv E rfl rfl rfl (x_bin E rfl rfl rfl rfl) ?_
          clear a E;intro a E
          obtain ⟨u33, hx34, hm⟩ := bnd hm
          refine st_mapPut (i := 0) E H (wn rfl) rfl rfl rfl rfl rfl rfl Tryz.underlying9 Tryz.underlying52 Tryz.underlying3 (ck_of hx34).1 (ck_of hx34).2.1 (ck_of hx34).2.2 ?_
          clear H; clear w; intro w H
          replace H : Sep w (MapSI Tryz.prog 9 3 p8 (x10 + 1) (mput x11 x20.Path.data.toList (IntKind.i64.wrap ((x11 x20.Path.data.toList) + 1))) :: Blk p24 35 [.string x20.Path, .string x20.Data, .int .i64 x20.Version, .int .i64 x20.Turn, .int .i64 x20.Owner] :: Fo) _ := H
          refine wpList_nil ?_
          refine q_blk ?_
          refine q_then ?_
          replace H := H.drop 1
          exact ⟨x10 + 1, mput x11 x20.Path.data.toList (IntKind.i64.wrap ((x11 x20.Path.data.toList) + 1)), _, (((((E.nil.keep E 33 rfl).keep E 32 rfl).keep E 31 rfl).keep E 3 rfl).keep E 0 rfl), H, hs29, hr30, hm⟩
         ·intro hb
          rw [if_f hb] at hm
          clear hb
          refine wp_skip ?_
          refine q_blk ?_
          refine q_then ?_
          replace H := H.drop 1
          exact ⟨x10, x11, _, (((((E.nil.keep E 33 rfl).keep E 32 rfl).keep E 31 rfl).keep E 3 rfl).keep E 0 rfl), H, hs29, hr30, hm⟩
      ·clear E H hm
       rintro a w ⟨x15, x16, rs17, E, H, hs18, hr19, hm⟩
       unfold m_nodes_Right_j2 at hm
       refine wp_region_lit ?_
       refine sv E rfl rfl rfl (x_bin E rfl rfl rfl rfl) ?_
       clear a E;intro a E
       refine sv E rfl rfl rfl (x_move E rfl rfl) ?_
       clear a E;intro a E
       refine wpList_nil ?_
       refine q_then ?_
       exact ⟨k1, Nat.lt_succ_self k1, IntKind.i64.wrap (x9 + 1), x15, x16, _, (((((E.nil.keep E 33 rfl).keep E 32 rfl).keep E 31 rfl).keep E 3 rfl).keep E 0 rfl), H, hs18, hr19, hm⟩
     ·intro hb
      rw [if_f hb] at hm
      clear hb
      refine wp_exit ?_
      refine q_thenX ?_
      refine q_thenX ?_
      refine q_hit ?_
      refine q_then ?_
      refine wp_seq ?_
      refine wp_region_lit ?_
      refine sv E rfl rfl rfl (x_assign E rfl rfl) ?_
      clear a E;intro a E
      refine wpList_nil ?_
      refine q_then ?_
      refine wp_ret ?_
      refine out1 E rfl rfl ?_
      replace H := H.drop 0
      obtain rfl := Option.some.inj hm
      exact ⟨rfl, H.reads (fun r hr => hs13 r hr)⟩
end Go.Cb

set_option linter.unusedVariables false
set_option linter.unusedSimpArgs false
namespace Go.Cb
open Go.Proofs Go.RowKit
def m_nodes_Find_1 (x1 : S_api_Node) (s3 : ByteArray) : Option Bool :=
  some (sEq x1.Path s3)
set_option maxRecDepth 20000 in
set_option maxHeartbeats 1000000 in
theorem c_nodes_Find_1 {w : World} {Fo : List Ob} {rs : List Rp} (x1 : S_api_Node) (p2 : Nat) (s3 : ByteArray) (H : Sep w (Blk p2 9 [.string s3] :: Fo) rs) {r : Bool} (hm : m_nodes_Find_1 x1 s3 = some r) :
    Calls Tryz.prog 33 [.agg #[.string x1.Path, .string x1.Data, .int .i64 x1.Version, .int .i64 x1.Turn, .int .i64 x1.Owner], .pointer (some ⟨p2, 0, none⟩)].toArray w (Ret fun v w' => .bool r = v ∧ Sep w' (Blk p2 9 [.string s3] :: Fo) (rs)) := by
 unfold m_nodes_Find_1 at hm
 refine enter Tryz.func33 rfl Tryz.ntmps33 rfl fun a E => ?_
 simp only [enum, Nat.reduceAdd] at E
 refine wp_seq ?_
 refine wp_region_lit ?_
 refine st_box E H (wn rfl) rfl rfl (cs := [.string x1.Path, .string x1.Data, .int .i64 x1.Version, .int .i64 x1.Turn, .int .i64 x1.Owner]) rfl rfl rfl ?_
 clear E H; clear a; clear w; intro p4 w a H E
 refine sv E rfl rfl rfl (x_assign E rfl rfl) ?_
 clear a E;intro a E
 refine wpList_nil ?_
 refine q_then ?_
 refine wp_seq ?_
 refine wp_region_lit ?_
 refine sv E rfl rfl rfl (x_fa E rfl rfl (v := .pointer (some ⟨p4, 0, none⟩)) (fa35_0 _ _)) ?_
 clear a E;intro a E
 refine sv E rfl rfl rfl (x_ldB (i := 0) E H rfl rfl rfl rfl Tryz.underlying9 rfl) ?_
 clear a E;intro a E
 refine sv E rfl rfl rfl (x_ldB (i := 1) E H rfl rfl rfl rfl Tryz.underlying9 rfl) ?_
 clear a E;intro a E
 refine sv E rfl rfl rfl (x_str E rfl rfl rfl rfl) ?_
 clear a E;intro a E
 refine sv E rfl rfl rfl (x_assign E rfl rfl) ?_
 clear a E;intro a E
 refine wpList_nil ?_
 refine q_then ?_
 refine wp_ret ?_
 refine out1 E rfl rfl ?_
 replace H := H.drop 0
 obtain rfl := Option.some.inj hm
 exact ⟨rfl, H.reads (fun r hr => hr)⟩
end Go.Cb

set_option linter.unusedVariables false
set_option linter.unusedSimpArgs false
namespace Go.Cb
open Go.Proofs Go.RowKit
def m_slices_IndexFunc_api_Node_api_Node_2_l1 (l2 : List S_api_Node) (s4 : ByteArray) : Nat → Int → Option Int
  | 0, _ => none
  | k1 + 1, x6 =>
    if (decide (x6 < (l2.length : Int))) = true then ((idx l2 x6).bind fun x10 => (m_nodes_Find_1 x10 s4).bind fun u14 => if u14 = true then (some (x6)) else (m_slices_IndexFunc_api_Node_api_Node_2_l1 l2 s4 k1 (IntKind.i64.wrap (x6 + 1)))) else (some ((-1)))
def m_slices_IndexFunc_api_Node_api_Node_2 (l2 : List S_api_Node) (s4 : ByteArray) : Option Int :=
  m_slices_IndexFunc_api_Node_api_Node_2_l1 l2 s4 (((l2.length : Int) - 0 : Int).toNat + 1) 0
set_option maxRecDepth 20000 in
set_option maxHeartbeats 1000000 in
theorem c_slices_IndexFunc_api_Node_api_Node_2 {w : World} {Fo : List Ob} {rs : List Rp} (v1 : Value) (l2 : List S_api_Node) (p3 : Nat) (s4 : ByteArray) (H : Sep w (Blk p3 9 [.string s4] :: Fo) rs) (hr5 : rSl k_api_Node v1 l2 ∈ rs) {r : Int} (hm : m_slices_IndexFunc_api_Node_api_Node_2 l2 s4 = some r) :
    Calls Tryz.prog 32 [v1, .func (.func 33) #[] #[.pointer (some ⟨p3, 0, none⟩)]].toArray w (Ret fun v w' => .int .i64 r = v ∧ Sep w' (Blk p3 9 [.string s4] :: Fo) (rs)) := by
 unfold m_slices_IndexFunc_api_Node_api_Node_2 at hm
 refine enter Tryz.func32 rfl Tryz.ntmps32 rfl fun a E => ?_
 simp only [enum, Nat.reduceAdd] at E
 refine wp_seq ?_
 refine wp_region_lit ?_
 refine sv E rfl rfl rfl (x_assign E rfl rfl) ?_
 clear a E;intro a E
 refine wpList_nil ?_
 refine q_then ?_
 refine wp_seq ?_
 refine wp_seq ?_
 refine wp_region_lit ?_
 refine sv E rfl rfl rfl (x_move E rfl rfl) ?_
 clear a E;intro a E
 refine sv E rfl rfl rfl (x_lenS E H rfl rfl hr5 Tryz.underlying22) ?_
 clear a E;intro a E
 refine sv E rfl rfl rfl (x_move E rfl rfl) ?_
 clear a E;intro a E
 refine wpList_nil ?_
 refine q_then ?_
 refine wp_block ?_
 refine wp_loop_g (fun k1 a w => ∃ (x6 : Int) (rs7 : List Rp), Env 19 a [(0, v1), (1, .func (.func 33) #[] #[.pointer (some ⟨p3, 0, none⟩)]), (7, .int .i64 (l2.length : Int)), (8, .int .i64 x6)] ∧ Sep w (Blk p3 9 [.string s4] :: Fo) rs7 ∧ (∀ r, r ∈ rs → r ∈ rs7) ∧ rSl k_api_Node v1 l2 ∈ rs7 ∧ m_slices_IndexFunc_api_Node_api_Node_2_l1 l2 s4 k1 x6 = some r) (((l2.length : Int) - 0 : Int).toNat + 1) ?_ ?_
 ·exact ⟨0, _, ((((E.nil.keep E 8 rfl).keep E 7 rfl).keep E 1 rfl).keep E 0 rfl), H, fun r hr => hr, hr5, hm⟩
 ·clear E H hm
  rintro k1 a w ⟨x6, rs7, E, H, hs8, hr9, hm⟩
  cases k1 with
  | zero => exact (none_some hm rfl).elim
  | succ k1 =>
   unfold m_slices_IndexFunc_api_Node_api_Node_2_l1 at hm
   refine wp_seq ?_
   refine wp_region_lit ?_
   refine sv E rfl rfl rfl (x_bin E rfl rfl rfl rfl) ?_
   clear a E;intro a E
   refine wpList_nil ?_
   refine q_then ?_
   refine wp_seq ?_
   refine wp_if E rfl ?_ ?_
   ·intro hb
    rw [if_t hb] at hm
    clear hb
    refine wp_skip ?_
    refine q_then ?_
    refine wp_seq ?_
    refine wp_block ?_
    refine wp_seq ?_
    refine wp_region_lit ?_
    refine sv E rfl rfl rfl (x_move E rfl rfl) ?_
    clear a E;intro a E
    refine sv E rfl rfl rfl (x_assign E rfl rfl) ?_
    clear a E;intro a E
    refine wpList_nil ?_
    refine q_then ?_
    refine wp_seq ?_
    refine wp_region_lit ?_
    refine sv E rfl rfl rfl (x_move E rfl rfl) ?_
    clear a E;intro a E
    refine sv E rfl rfl rfl (x_move E rfl rfl) ?_
    clear a E;intro a E
    refine sv E rfl rfl rfl (x_move E rfl rfl) ?_
    clear a E;intro a E
    obtain ⟨x10, hx11, hm⟩ := bnd hm
    refine st_ixS E H (wn rfl) rfl rfl rfl rfl rfl hr9 Tryz.underlying22 sz35 hx11 ?_
    clear E H; clear a; intro q12 a H E
    refine st_ldN E H (wn rfl) rfl rfl rfl rfl (.head _) Tryz.underlying35 rfl sz35 ?_
    clear E H; clear a; intro u13 a H E
    obtain ⟨_, hcs⟩ := H.rd (.head _)
    obtain rfl := k_api_Node_open hcs
    clear hcs
    obtain ⟨u14, hx15, hm⟩ := bnd hm
    refine st_call E (wn rfl) rfl rfl (x_callv E rfl rfl rfl (cf33 _)) (c_nodes_Find_1 x10 p3 s4 H hx15) ?_
    clear E H; clear a; clear w; rintro _ w ⟨rfl, H⟩ a E
    refine wpList_nil ?_
    refine q_then ?_
    refine wp_if E rfl ?_ ?_
    ·intro hb
     rw [if_t hb] at hm
     clear hb
     refine wp_seq ?_
     refine wp_region_lit ?_
     refine sv E rfl rfl rfl (x_move E rfl rfl) ?_
     clear a E;intro a E
     refine sv E rfl rfl rfl (x_assign E rfl rfl) ?_
     clear a E;intro a E
     refine wpList_nil ?_
     refine q_then ?_
     refine wp_ret ?_
     refine q_blkR ?_
     refine q_thenR ?_
     refine q_thenR ?_
     refine q_blkR ?_
     refine q_thenR ?_
     refine out1 E rfl rfl ?_
     obtain rfl := Option.some.inj hm
     exact ⟨rfl, H.reads (fun r hr => .tail _ (.tail _ (hs8 r hr)))⟩
    ·intro hb
     rw [if_f hb] at hm
     clear hb
     refine wp_skip ?_
     refine q_blk ?_
     refine q_then ?_
     refine wp_region_lit ?_
     refine sv E rfl rfl rfl (x_bin E rfl rfl rfl rfl) ?_
     clear a E;intro a E
     refine sv E rfl rfl rfl (x_move E rfl rfl) ?_
     clear a E;intro a E
     refine wpList_nil ?_
     refine q_then ?_
     exact ⟨k1, Nat.lt_succ_self k1, IntKind.i64.wrap (x6 + 1), _, ((((E.nil.keep E 8 rfl).keep E 7 rfl).keep E 1 rfl).keep E 0 rfl), H, fun r hr => .tail _ (.tail _ (hs8 r hr)), (.tail _ (.tail _ hr9)), hm⟩
   ·intro hb
    rw [if_f hb] at hm
    clear hb
    refine wp_exit ?_
    refine q_thenX ?_
    refine q_thenX ?_
    refine q_hit ?_
    refine q_then ?_
    refine wp_seq ?_
    refine wp_region_lit ?_
    refine sv E rfl rfl rfl (x_assign E rfl rfl) ?_
    clear a E;intro a E
    refine wpList_nil ?_
    refine q_then ?_
    refine wp_ret ?_
    refine out1 E rfl rfl ?_
    obtain rfl := Option.some.inj hm
    exact ⟨rfl, H.reads (fun r hr => hs8 r hr)⟩
end Go.Cb

set_option linter.unusedVariables false
set_option linter.unusedSimpArgs false
namespace Go.Cb
open Go.Proofs Go.RowKit
def m_nodes_Find (l2 : List S_api_Node) (s3 : ByteArray) : Option (S_api_Node × Bool) :=
  (m_slices_IndexFunc_api_Node_api_Node_2 l2 s3).bind fun u7 => if (decide (u7 < 0)) = true then (some ((⟨(ByteArray.mk #[]), (ByteArray.mk #[]), 0, 0, 0⟩ : S_api_Node), false)) else ((idx l2 u7).bind fun x9 => some ((⟨x9.Path, x9.Data, x9.Version, x9.Turn, x9.Owner⟩ : S_api_Node), true))
set_option maxRecDepth 20000 in
set_option maxHeartbeats 1000000 in
theorem c_nodes_Find {w : World} {Fo : List Ob} {rs : List Rp} (v1 : Value) (l2 : List S_api_Node) (s3 : ByteArray) (H : Sep w (Fo) rs) (hr4 : rSl k_api_Node v1 l2 ∈ rs) {r : S_api_Node × Bool} (hm : m_nodes_Find l2 s3 = some r) :
    Calls Tryz.prog 9 [v1, .string s3].toArray w (Ret fun v w' => .tuple #[.agg #[.string r.1.Path, .string r.1.Data, .int .i64 r.1.Version, .int .i64 r.1.Turn, .int .i64 r.1.Owner], .bool r.2] = v ∧ Sep w' (Fo) (rs)) := by
 unfold m_nodes_Find at hm
 refine enter Tryz.func9 rfl Tryz.ntmps9 rfl fun a E => ?_
 simp only [enum, Nat.reduceAdd] at E
 refine wp_seq ?_
 refine wp_region_lit ?_
 refine st_box E H (wn rfl) rfl rfl (cs := [.string s3]) rfl rfl rfl ?_
 clear E H; clear a; clear w; intro p5 w a H E
 refine st_alloc E H (wn rfl) rfl rfl (cs := [.string (ByteArray.mk #[]), .string (ByteArray.mk #[]), .int .i64 0, .int .i64 0, .int .i64 0]) rfl (z := .agg #[.string ⟨#[]⟩, .string ⟨#[]⟩, .int .i64 0, .int .i64 0, .int .i64 0]) (by kernel_rfl) rfl ?_
 clear E H; clear a; clear w; intro p6 w a H E
 refine sv E rfl rfl rfl (x_assign E rfl rfl) ?_
 clear a E;intro a E
 refine wpList_nil ?_
 refine q_then ?_
 refine wp_seq ?_
 refine wp_region_lit ?_
 refine sv E rfl rfl rfl (x_move E rfl rfl) ?_
 clear a E;intro a E
 refine sv E rfl rfl rfl (x_func E rfl rfl rfl) ?_
 clear a E;intro a E
 replace H := H.front 0 rfl
 replace H := H.front 1 rfl
 replace H : Sep w (Blk p5 9 [.string s3] :: Blk p6 35 [.string (ByteArray.mk #[]), .string (ByteArray.mk #[]), .int .i64 0, .int .i64 0, .int .i64 0] :: Fo) (rs) := H
 obtain ⟨u7, hx8, hm⟩ := bnd hm
 refine st_call E (wn rfl) rfl rfl (x_call E rfl rfl (cf32 _)) (c_slices_IndexFunc_api_Node_api_Node_2 v1 l2 p5 s3 H hr4 hx8) ?_
 clear E H; clear a; clear w; rintro _ w ⟨rfl, H⟩ a E
 refine sv E rfl rfl rfl (x_assign E rfl rfl) ?_
 clear a E;intro a E
 refine wpList_nil ?_
 refine q_then ?_
 refine wp_seq ?_
 refine wp_seq ?_
 refine wp_region_lit ?_
 refine sv E rfl rfl rfl (x_move E rfl rfl) ?_
 clear a E;intro a E
 refine sv E rfl rfl rfl (x_bin E rfl rfl rfl rfl) ?_
 clear a E;intro a E
 refine wpList_nil ?_
 refine q_then ?_
 refine wp_if E rfl ?_ ?_
 ·intro hb
  rw [if_t hb] at hm
  clear hb
  refine wp_seq ?_
  refine wp_region_lit ?_
  refine sv E rfl rfl rfl (x_build E (ps := []) (vs := []) rfl rfl (v := .agg #[.string (ByteArray.mk #[]), .string (ByteArray.mk #[]), .int .i64 0, .int .i64 0, .int .i64 0]) (by kernel_rfl)) ?_
  clear a E;intro a E
  refine st_st (i := 1) E H (wn rfl) rfl (us := [.string (ByteArray.mk #[]), .string (ByteArray.mk #[]), .int .i64 0, .int .i64 0, .int .i64 0]) rfl rfl rfl rfl rfl sz35 rfl rfl ?_
  clear H; clear w; intro w H
  replace H : Sep w (Blk p5 9 [.string s3] :: Blk p6 35 [.string (ByteArray.mk #[]), .string (ByteArray.mk #[]), .int .i64 0, .int .i64 0, .int .i64 0] :: Fo) _ := H
  refine sv E rfl rfl rfl (x_assign E rfl rfl) ?_
  clear a E;intro a E
  refine wpList_nil ?_
  refine q_then ?_
  refine wp_ret ?_
  refine q_thenR ?_
  refine outR2 E rfl (rvBN (i := 1) (us := [.string (ByteArray.mk #[]), .string (ByteArray.mk #[]), .int .i64 0, .int .i64 0, .int .i64 0]) H rfl rfl rfl Tryz.underlying35 rfl sz35) (rvT rfl) ?_
  replace H := H.drop 0
  replace H := H.drop 0
  obtain rfl := Option.some.inj hm
  exact ⟨rfl, H.reads (fun r hr => hr)⟩
 ·intro hb
  rw [if_f hb] at hm
  clear hb
  refine wp_skip ?_
  refine q_then ?_
  refine wp_seq ?_
  refine wp_region_lit ?_
  refine sv E rfl rfl rfl (x_move E rfl rfl) ?_
  clear a E;intro a E
  refine sv E rfl rfl rfl (x_move E rfl rfl) ?_
  clear a E;intro a E
  obtain ⟨x9, hx10, hm⟩ := bnd hm
  refine st_ixS E H (wn rfl) rfl rfl rfl rfl rfl hr4 Tryz.underlying22 sz35 hx10 ?_
  clear E H; clear a; intro q11 a H E
  refine st_ldN E H (wn rfl) rfl rfl rfl rfl (.head _) Tryz.underlying35 rfl sz35 ?_
  clear E H; clear a; intro u12 a H E
  obtain ⟨_, hcs⟩ := H.rd (.head _)
  obtain rfl := k_api_Node_open hcs
  clear hcs
  refine st_st (i := 1) E H (wn rfl) rfl (us := [.string x9.Path, .string x9.Data, .int .i64 x9.Version, .int .i64 x9.Turn, .int .i64 x9.Owner]) rfl rfl rfl rfl rfl sz35 rfl rfl ?_
  clear H; clear w; intro w H
  replace H : Sep w (Blk p5 9 [.string s3] :: Blk p6 35 [.string x9.Path, .string x9.Data, .int .i64 x9.Version, .int .i64 x9.Turn, .int .i64 x9.Owner] :: Fo) _ := H
  refine sv E rfl rfl rfl (x_assign E rfl rfl) ?_
  clear a E;intro a E
  refine wpList_nil ?_
  refine q_then ?_
  refine wp_ret ?_
  refine outR2 E rfl (rvBN (i := 1) (us := [.string x9.Path, .string x9.Data, .int .i64 x9.Version, .int .i64 x9.Turn, .int .i64 x9.Owner]) H rfl rfl rfl Tryz.underlying35 rfl sz35) (rvT rfl) ?_
  replace H := H.drop 0
  replace H := H.drop 0
  obtain rfl := Option.some.inj hm
  exact ⟨rfl, H.reads (fun r hr => .tail _ (.tail _ (hr)))⟩
end Go.Cb

set_option linter.unusedVariables false
set_option linter.unusedSimpArgs false
namespace Go.Cb
open Go.Proofs Go.RowKit
def m_cantonref06_Find_l1 (l2 : List S_api_Node) (s3 : ByteArray) : Nat → Int → Option (S_api_Node × Bool)
  | 0, _ => none
  | k1 + 1, x6 =>
    if (decide (x6 < (l2.length : Int))) = true then ((idx l2 x6).bind fun x10 => if (sEq x10.Path s3) = true then ((idx l2 x6).bind fun x13 => some ((⟨x13.Path, x13.Data, x13.Version, x13.Turn, x13.Owner⟩ : S_api_Node), true)) else (m_cantonref06_Find_l1 l2 s3 k1 (IntKind.i64.wrap (x6 + 1)))) else (some ((⟨(ByteArray.mk #[]), (ByteArray.mk #[]), 0, 0, 0⟩ : S_api_Node), false))
def m_cantonref06_Find (l2 : List S_api_Node) (s3 : ByteArray) : Option (S_api_Node × Bool) :=
  m_cantonref06_Find_l1 l2 s3 (((l2.length : Int) - 0 : Int).toNat + 1) 0
set_option maxRecDepth 20000 in
set_option maxHeartbeats 1000000 in
theorem c_cantonref06_Find {w : World} {Fo : List Ob} {rs : List Rp} (v1 : Value) (l2 : List S_api_Node) (s3 : ByteArray) (H : Sep w (Fo) rs) (hr4 : rSl k_api_Node v1 l2 ∈ rs) {r : S_api_Node × Bool} (hm : m_cantonref06_Find l2 s3 = some r) :
    Calls Tryz.prog 10 [v1, .string s3].toArray w (Ret fun v w' => .tuple #[.agg #[.string r.1.Path, .string r.1.Data, .int .i64 r.1.Version, .int .i64 r.1.Turn, .int .i64 r.1.Owner], .bool r.2] = v ∧ Sep w' (Fo) (rs)) := by
 unfold m_cantonref06_Find at hm
 refine enter Tryz.func10 rfl Tryz.ntmps10 rfl fun a E => ?_
 simp only [enum, Nat.reduceAdd] at E
 refine wp_seq ?_
 refine wp_region_lit ?_
 refine st_alloc E H (wn rfl) rfl rfl (cs := [.string (ByteArray.mk #[]), .string (ByteArray.mk #[]), .int .i64 0, .int .i64 0, .int .i64 0]) rfl (z := .agg #[.string ⟨#[]⟩, .string ⟨#[]⟩, .int .i64 0, .int .i64 0, .int .i64 0]) (by kernel_rfl) rfl ?_
 clear E H; clear a; clear w; intro p5 w a H E
 refine sv E rfl rfl rfl (x_assign E rfl rfl) ?_
 clear a E;intro a E
 refine wpList_nil ?_
 refine q_then ?_
 refine wp_seq ?_
 refine wp_seq ?_
 refine wp_region_lit ?_
 refine sv E rfl rfl rfl (x_assign E rfl rfl) ?_
 clear a E;intro a E
 refine wpList_nil ?_
 refine q_then ?_
 refine wp_block ?_
 refine wp_loop_g (fun k1 a w => ∃ (x6 : Int) (rs7 : List Rp), Env 25 a [(0, v1), (1, .string s3), (4, .pointer (some ⟨p5, 0, none⟩)), (6, .int .i64 x6)] ∧ Sep w (Blk p5 35 [.string (ByteArray.mk #[]), .string (ByteArray.mk #[]), .int .i64 0, .int .i64 0, .int .i64 0] :: Fo) rs7 ∧ (∀ r, r ∈ rs → r ∈ rs7) ∧ rSl k_api_Node v1 l2 ∈ rs7 ∧ m_cantonref06_Find_l1 l2 s3 k1 x6 = some r) (((l2.length : Int) - 0 : Int).toNat + 1) ?_ ?_
 ·exact ⟨0, _, ((((E.nil.keep E 6 rfl).keep E 4 rfl).keep E 1 rfl).keep E 0 rfl), H, fun r hr => hr, hr4, hm⟩
 ·clear E H hm
  rintro k1 a w ⟨x6, rs7, E, H, hs8, hr9, hm⟩
  cases k1 with
  | zero => exact (none_some hm rfl).elim
  | succ k1 =>
   unfold m_cantonref06_Find_l1 at hm
   refine wp_seq ?_
   refine wp_seq ?_
   refine wp_region_lit ?_
   refine sv E rfl rfl rfl (x_move E rfl rfl) ?_
   clear a E;intro a E
   refine sv E rfl rfl rfl (x_move E rfl rfl) ?_
   clear a E;intro a E
   refine sv E rfl rfl rfl (x_lenS E H rfl rfl hr9 Tryz.underlying22) ?_
   clear a E;intro a E
   refine sv E rfl rfl rfl (x_bin E rfl rfl rfl rfl) ?_
   clear a E;intro a E
   refine wpList_nil ?_
   refine q_then ?_
   refine wp_if E rfl ?_ ?_
   ·intro hb
    rw [if_t hb] at hm
    clear hb
    refine wp_skip ?_
    refine q_then ?_
    refine wp_seq ?_
    refine wp_block ?_
    refine wp_seq ?_
    refine wp_region_lit ?_
    refine sv E rfl rfl rfl (x_move E rfl rfl) ?_
    clear a E;intro a E
    refine sv E rfl rfl rfl (x_move E rfl rfl) ?_
    clear a E;intro a E
    obtain ⟨x10, hx11, hm⟩ := bnd hm
    refine st_ixS E H (wn rfl) rfl rfl rfl rfl rfl hr9 Tryz.underlying22 sz35 hx11 ?_
    clear E H; clear a; intro q12 a H E
    replace H := H.derive1 (.head _) (rAt kS (q12.add 0) x10.Path) (fun ok h => k_api_Node_at0 h)
    refine sv E rfl rfl rfl (x_fa E rfl rfl (fa35_0 _ _)) ?_
    clear a E;intro a E
    refine sv E rfl rfl rfl (x_ldA E H rfl rfl (.head _) Tryz.underlying9 rfl) ?_
    clear a E;intro a E
    refine sv E rfl rfl rfl (x_move E rfl rfl) ?_
    clear a E;intro a E
    refine sv E rfl rfl rfl (x_str E rfl rfl rfl rfl) ?_
    clear a E;intro a E
    refine wpList_nil ?_
    refine q_then ?_
    refine wp_if E rfl ?_ ?_
    ·intro hb
     rw [if_t hb] at hm
     clear hb
     refine wp_seq ?_
     refine wp_region_lit ?_
     refine sv E rfl rfl rfl (x_move E rfl rfl) ?_
     clear a E;intro a E
     refine sv E rfl rfl rfl (x_move E rfl rfl) ?_
     clear a E;intro a E
     obtain ⟨x13, hx14, hm⟩ := bnd hm
     refine st_ixS E H (wn rfl) rfl rfl rfl rfl rfl (.tail _ (.tail _ hr9)) Tryz.underlying22 sz35 hx14 ?_
     clear E H; clear a; intro q15 a H E
     refine st_ldN E H (wn rfl) rfl rfl rfl rfl (.head _) Tryz.underlying35 rfl sz35 ?_
     clear E H; clear a; intro u16 a H E
     obtain ⟨_, hcs⟩ := H.rd (.head _)
     obtain rfl := k_api_Node_open hcs
     clear hcs
     refine st_st (i := 0) E H (wn rfl) rfl (us := [.string x13.Path, .string x13.Data, .int .i64 x13.Version, .int .i64 x13.Turn, .int .i64 x13.Owner]) rfl rfl rfl rfl rfl sz35 rfl rfl ?_
     clear H; clear w; intro w H
     replace H : Sep w (Blk p5 35 [.string x13.Path, .string x13.Data, .int .i64 x13.Version, .int .i64 x13.Turn, .int .i64 x13.Owner] :: Fo) _ := H
     refine sv E rfl rfl rfl (x_assign E rfl rfl) ?_
     clear a E;intro a E
     refine wpList_nil ?_
     refine q_then ?_
     refine wp_ret ?_
     refine q_blkR ?_
     refine q_thenR ?_
     refine q_thenR ?_
     refine q_blkR ?_
     refine q_thenR ?_
     refine outR2 E rfl (rvBN (i := 0) (us := [.string x13.Path, .string x13.Data, .int .i64 x13.Version, .int .i64 x13.Turn, .int .i64 x13.Owner]) H rfl rfl rfl Tryz.underlying35 rfl sz35) (rvT rfl) ?_
     replace H := H.drop 0
     obtain rfl := Option.some.inj hm
     exact ⟨rfl, H.reads (fun r hr => .tail _ (.tail _ (.tail _ (.tail _ (hs8 r hr)))))⟩
    ·intro hb
     rw [if_f hb] at hm
     clear hb
     refine wp_skip ?_
     refine q_blk ?_
     refine q_then ?_
     refine wp_region_lit ?_
     refine sv E rfl rfl rfl (x_move E rfl rfl) ?_
     clear a E;intro a E
     refine sv E rfl rfl rfl (x_bin E rfl rfl rfl rfl) ?_
     clear a E;intro a E
     refine sv E rfl rfl rfl (x_assign E rfl rfl) ?_
     clear a E;intro a E
     refine wpList_nil ?_
     refine q_then ?_
     exact ⟨k1, Nat.lt_succ_self k1, IntKind.i64.wrap (x6 + 1), _, ((((E.nil.keep E 6 rfl).keep E 4 rfl).keep E 1 rfl).keep E 0 rfl), H, fun r hr => .tail _ (.tail _ (hs8 r hr)), (.tail _ (.tail _ hr9)), hm⟩
   ·intro hb
    rw [if_f hb] at hm
    clear hb
    refine wp_exit ?_
    refine q_thenX ?_
    refine q_thenX ?_
    refine q_hit ?_
    refine q_then ?_
    refine wp_seq ?_
    refine wp_region_lit ?_
    refine sv E rfl rfl rfl (x_build E (ps := []) (vs := []) rfl rfl (v := .agg #[.string (ByteArray.mk #[]), .string (ByteArray.mk #[]), .int .i64 0, .int .i64 0, .int .i64 0]) (by kernel_rfl)) ?_
    clear a E;intro a E
    refine st_st (i := 0) E H (wn rfl) rfl (us := [.string (ByteArray.mk #[]), .string (ByteArray.mk #[]), .int .i64 0, .int .i64 0, .int .i64 0]) rfl rfl rfl rfl rfl sz35 rfl rfl ?_
    clear H; clear w; intro w H
    replace H : Sep w (Blk p5 35 [.string (ByteArray.mk #[]), .string (ByteArray.mk #[]), .int .i64 0, .int .i64 0, .int .i64 0] :: Fo) _ := H
    refine sv E rfl rfl rfl (x_assign E rfl rfl) ?_
    clear a E;intro a E
    refine wpList_nil ?_
    refine q_then ?_
    refine wp_ret ?_
    refine outR2 E rfl (rvBN (i := 0) (us := [.string (ByteArray.mk #[]), .string (ByteArray.mk #[]), .int .i64 0, .int .i64 0, .int .i64 0]) H rfl rfl rfl Tryz.underlying35 rfl sz35) (rvT rfl) ?_
    replace H := H.drop 0
    obtain rfl := Option.some.inj hm
    exact ⟨rfl, H.reads (fun r hr => hs8 r hr)⟩
end Go.Cb
