/- Functions of the program, walked: each comes to its plain function. -/
import Derived.Test.YtgdfoajophpblaaGreatDoorTmp
import Derived.Test.YtgdfoajophpblaaGreatDoorN1mp
import Derived.Test.YtgdfoajophpblaaGreatDoorN3emp
import Derived.Test.YtgdfoajophpblaaGreatDoorN4mp
set_option linter.unusedVariables false
set_option linter.unusedSimpArgs false
set_option maxRecDepth 20000
set_option maxHeartbeats 1000000
namespace Go.Cb
open Go.Proofs Go.RowKit

def m_internal_stringslite_IndexByte (s1 : ByteArray) (x2 : Int) : Option Int :=
  some (ixB s1 x2)
theorem c_internal_stringslite_IndexByte {w : World} {Fo : List Ob} {rs : List Rp} (s1 : ByteArray) (x2 : Int) (H : Sep w (Fo) rs) {r : Int} (hm : m_internal_stringslite_IndexByte s1 x2 = some r) :
    Calls Tryz.prog 188 [.string s1, .int .u8 x2].toArray w (Ret fun v w' => .int .i64 r = v ∧ Sep w' (Fo) (rs)) := by
 unfold m_internal_stringslite_IndexByte at hm
 refine enter Tryz.func188 rfl Tryz.ntmps188 rfl fun a E =>?_
 simp only [enum, Nat.reduceAdd] at E
 refine sq<|pr 1 E rfl fun a E=>nx<|pr 2 E rfl fun a E=>sv E rfl rfl rfl (x_callX E rfl rfl (ext202 _ _ _)) fun a E=>pr 1 E rfl fun a E=>nt<|wp_ret<|out1 E rfl rfl<|?_
 cases hm
 exact ⟨rfl, H.reads (fun r hr => hr)⟩

def m_strings_IndexByte (s1 : ByteArray) (x2 : Int) : Option Int :=
  (m_internal_stringslite_IndexByte s1 x2).bind fun u3 => some (u3)
theorem c_strings_IndexByte {w : World} {Fo : List Ob} {rs : List Rp} (s1 : ByteArray) (x2 : Int) (H : Sep w (Fo) rs) {r : Int} (hm : m_strings_IndexByte s1 x2 = some r) :
    Calls Tryz.prog 166 [.string s1, .int .u8 x2].toArray w (Ret fun v w' => .int .i64 r = v ∧ Sep w' (Fo) (rs)) := by
 unfold m_strings_IndexByte at hm
 refine enter Tryz.func166 rfl Tryz.ntmps166 rfl fun a E =>?_
 simp only [enum, Nat.reduceAdd] at E
 refine sq<|pr 1 E rfl fun a E=>nx<|pr 2 E rfl fun a E=>bd hm fun u3 hx4 hm=>x_cl E rfl rfl rfl rfl rfl cf188 (c_internal_stringslite_IndexByte s1 x2 H hx4)<|?_
 rintro _ w ⟨rfl, H⟩ a E
 refine pr 1 E rfl fun a E=>nt<|wp_ret<|out1 E rfl rfl<|?_
 cases hm
 exact ⟨rfl, H.reads (fun r hr => hr)⟩

def m_unicode_utf8_ValidRune_j2 (b5 : Bool) : Option Bool :=
  if b5 = true then (some (true)) else (some (false))
def m_unicode_utf8_ValidRune_j1 (x1 : Int) (b2 : Bool) : Option Bool :=
  if b2 = true then (some (true)) else (if (decide (57343 < x1)) = true then (m_unicode_utf8_ValidRune_j2 (decide (x1 ≤ 1114111))) else (m_unicode_utf8_ValidRune_j2 false))
def m_unicode_utf8_ValidRune (x1 : Int) : Option Bool :=
  if (decide (0 ≤ x1)) = true then (m_unicode_utf8_ValidRune_j1 x1 (decide (x1 < 55296))) else (m_unicode_utf8_ValidRune_j1 x1 false)
theorem c_unicode_utf8_ValidRune {w : World} {Fo : List Ob} {rs : List Rp} (x1 : Int) (H : Sep w (Fo) rs) {r : Bool} (hm : m_unicode_utf8_ValidRune x1 = some r) :
    Calls Tryz.prog 209 [.int .i32 x1].toArray w (Ret fun v w' => .bool r = v ∧ Sep w' (Fo) (rs)) := by
 unfold m_unicode_utf8_ValidRune at hm
 refine enter Tryz.func209 rfl Tryz.ntmps209 rfl fun a E =>?_
 simp only [enum, Nat.reduceAdd] at E
 refine sq<|pr 1 E rfl fun a E=>nt<|wp_seq<|wp_block<|wp_seq_cut (fun a w => ∃ (b2 : Bool) (rs3 : List Rp), Env 17 a [(0, .int .i32 x1), (3, .bool b2)] ∧ Sep w (Fo) rs3 ∧ (∀ r, r ∈ rs → r ∈ rs3) ∧ m_unicode_utf8_ValidRune_j1 x1 b2 = some r) ?_ ?_
 ·refine wp_region_lit<|pr 3 E rfl fun a E=>cs hm (fun hb9 hm=>?_) fun hb9 hm=>?_
  ·exact pk 4 E (kc 6 rfl hb9) rfl fun a E=>nt<|⟨decide (x1 < 55296), _, E.sel [0, 3] rfl, H, fun r hr => hr, hm⟩
  ·exact pk 4 E (kc 6 rfl hb9) rfl fun a E=>nt<|⟨false, _, E.sel [0, 3] rfl, H, fun r hr => hr, hm⟩
 ·clear E H hm
  rintro a w ⟨b2, rs3, E, H, hs4, hm⟩
  unfold m_unicode_utf8_ValidRune_j1 at hm
  refine wif E hm rfl (fun hm=>?_) fun hm=>?_
  ·refine sq<|pr 1 E rfl fun a E=>nt<|wp_ret<|q_blkR<|q_thenR<|out1 E rfl rfl<|?_
   cases hm
   exact ⟨rfl, H.reads (hs4)⟩
  ·refine wp_seq_cut (fun a w => ∃ (b5 : Bool) (rs6 : List Rp), Env 17 a [(10, .bool b5)] ∧ Sep w (Fo) rs6 ∧ (∀ r, r ∈ rs → r ∈ rs6) ∧ m_unicode_utf8_ValidRune_j2 b5 = some r) ?_ ?_
   ·refine wp_region_lit<|pr 3 E rfl fun a E=>cs hm (fun hb8 hm=>?_) fun hb8 hm=>?_
    ·exact pk 4 E (kc 13 rfl hb8) rfl fun a E=>nt<|⟨decide (x1 ≤ 1114111), _, E.sel [10] rfl, H, hs4, hm⟩
    ·exact pk 4 E (kc 13 rfl hb8) rfl fun a E=>nt<|⟨false, _, E.sel [10] rfl, H, hs4, hm⟩
   ·clear E H hm
    rintro a w ⟨b5, rs6, E, H, hs7, hm⟩
    unfold m_unicode_utf8_ValidRune_j2 at hm
    refine wif E hm rfl (fun hm=>?_) fun hm=>?_
    ·refine sq<|pr 1 E rfl fun a E=>nt<|wp_ret<|q_blkR<|q_thenR<|out1 E rfl rfl<|?_
     cases hm
     exact ⟨rfl, H.reads (hs7)⟩
    ·refine wp_skip<|q_blk<|q_then<|sq<|pr 1 E rfl fun a E=>nt<|wp_ret<|out1 E rfl rfl<|?_
     cases hm
     exact ⟨rfl, H.reads (hs7)⟩

def m_strings_IndexRune_l1 (s1 : ByteArray) : Nat → (Nat) → Option Int
  | 0, _ => none
  | k1 + 1, x9 =>
    if decide (x9 < s1.size) = true then (if (((Utf8.decode s1 x9).1 : Int) == 65533) = true then (some ((x9 : Int))) else (m_strings_IndexRune_l1 s1 k1 (x9 + (Utf8.decode s1 x9).2))) else (some ((-1)))
def m_strings_IndexRune_l2 (x2 : Int) (s1 : ByteArray) : Nat → Option Int
  | 0 => none
  | k2 + 1 =>
    if (decide ((IntKind.i64.wrap (((Utf8.encode x2).size : Int) - 1)) < (s1.size : Int))) = true then ((idx s1.data.toList (IntKind.i64.wrap (((Utf8.encode x2).size : Int) - 1))).bind fun x17 => (idx (Utf8.encode x2).data.toList (IntKind.i64.wrap (((Utf8.encode x2).size : Int) - 1))).bind fun x19 => if ((x17.toNat : Int) != (x19.toNat : Int)) = true then ((ck (0 ≤ (IntKind.i64.wrap ((IntKind.i64.wrap (((Utf8.encode x2).size : Int) - 1)) + 1)) ∧ (IntKind.i64.wrap ((IntKind.i64.wrap (((Utf8.encode x2).size : Int) - 1)) + 1)) ≤ s1.size)).bind fun u21 => (idx (Utf8.encode x2).data.toList (IntKind.i64.wrap (((Utf8.encode x2).size : Int) - 1))).bind fun x23 => (m_strings_IndexByte (s1.extract (IntKind.i64.wrap ((IntKind.i64.wrap (((Utf8.encode x2).size : Int) - 1)) + 1)).toNat s1.size) (x23.toNat : Int)).bind fun u25 => if (decide (u25 < 0)) = true then (some ((-1))) else none) else none) else (some ((-1)))
def m_strings_IndexRune_j1 (s1 : ByteArray) (x2 : Int) (b3 : Bool) : Option Int :=
  if b3 = true then ((m_strings_IndexByte s1 (IntKind.u8.wrap x2)).bind fun u6 => some (u6)) else (if (x2 == 65533) = true then (m_strings_IndexRune_l1 s1 (s1.size + 2) 0) else ((m_unicode_utf8_ValidRune x2).bind fun u13 => if (!u13) = true then (some ((-1))) else (m_strings_IndexRune_l2 x2 s1 (((s1.size : Int) - (IntKind.i64.wrap (((Utf8.encode x2).size : Int) - 1)) : Int).toNat + 1))))
def m_strings_IndexRune (s1 : ByteArray) (x2 : Int) : Option Int :=
  if (decide (0 ≤ x2)) = true then (m_strings_IndexRune_j1 s1 x2 (decide (x2 < 128))) else (m_strings_IndexRune_j1 s1 x2 false)
theorem c_strings_IndexRune {w : World} {Fo : List Ob} {rs : List Rp} (s1 : ByteArray) (x2 : Int) (H : Sep w (Fo) rs) {r : Int} (hm : m_strings_IndexRune s1 x2 = some r) :
    Calls Tryz.prog 197 [.string s1, .int .i32 x2].toArray w (Ret fun v w' => .int .i64 r = v ∧ Sep w' (Fo) (rs)) := by
 unfold m_strings_IndexRune at hm
 refine enter Tryz.func197 rfl Tryz.ntmps197 rfl fun a E =>?_
 simp only [enum, Nat.reduceAdd] at E
 refine sq<|pr 1 E rfl fun a E=>nt<|wp_block<|wp_seq_cut (fun a w => ∃ (b3 : Bool) (rs4 : List Rp), Env 187 a [(0, .string s1), (1, .int .i32 x2), (160, .bool b3)] ∧ Sep w (Fo) rs4 ∧ (∀ r, r ∈ rs → r ∈ rs4) ∧ m_strings_IndexRune_j1 s1 x2 b3 = some r) ?_ ?_
 ·refine wp_region_lit<|pr 3 E rfl fun a E=>cs hm (fun hb27 hm=>?_) fun hb27 hm=>?_
  ·exact pk 4 E (kc 163 rfl hb27) rfl fun a E=>nt<|⟨decide (x2 < 128), _, E.sel [0, 1, 160] rfl, H, fun r hr => hr, hm⟩
  ·exact pk 4 E (kc 163 rfl hb27) rfl fun a E=>nt<|⟨false, _, E.sel [0, 1, 160] rfl, H, fun r hr => hr, hm⟩
 ·clear E H hm
  rintro a w ⟨b3, rs4, E, H, hs5, hm⟩
  unfold m_strings_IndexRune_j1 at hm
  refine wif E hm rfl (fun hm=>?_) fun hm=>?_
  ·refine sq<|pr 3 E rfl fun a E=>bd hm fun u6 hx7 hm=>x_cl E rfl rfl rfl rfl rfl cf166 (c_strings_IndexByte s1 (IntKind.u8.wrap x2) H hx7)<|?_
   rintro _ w ⟨rfl, H⟩ a E
   refine pr 1 E rfl fun a E=>nt<|wp_ret<|q_blkR<|out1 E rfl rfl<|?_
   cases hm
   exact ⟨rfl, H.reads (hs5)⟩
  ·refine sq<|pr 3 E rfl fun a E=>nt<|wif E hm rfl (fun hm=>?_) fun hm=>?_
   ·refine wp_seq<|sq<|pr 1 E rfl fun a E=>st_rangeS E H (wn rfl) rfl rfl rfl rfl Tryz.underlying9 fun p8 w a H E=>nt<|wp_block<|wp_loop_g (fun k1 a w => ∃ (x9 : (Nat)) (rs10 : List Rp), Env 187 a [(175, pt p8 0)] ∧ Sep w (ObjO p8 (.stringIter s1 x9) :: Fo) rs10 ∧ (∀ r, r ∈ rs → r ∈ rs10) ∧ m_strings_IndexRune_l1 s1 k1 x9 = some r) (s1.size + 2) ?_ ?_
    ·exact ⟨0, _, E.sel [175] rfl, H, hs5, hm⟩
    ·clear E H hm
     rintro k1 a w ⟨x9, rs10, E, H, hs11, hm⟩
     cases k1 with
     | zero => exact (none_some hm rfl).elim
     | succ k1 =>
      unfold m_strings_IndexRune_l1 at hm
      refine sq<|cs hm (fun hb12 hm=>?_) fun hb12 hm=>?_
      ·refine st_nextS1 (i := 0) E H (wn rfl) rfl rfl rfl rfl rfl hb12 fun w a H E=>pr 1 E rfl fun a E=>nt<|wp_seq<|wp_cond_true (E.eval rfl)<|wp_skip<|q_then<|wp_block<|sq<|?_
       refine pr 4 E rfl fun a E=>nx<|pr 2 E rfl fun a E=>nt<|wif E hm rfl (fun hm=>?_) fun hm=>?_
       ·refine sq<|pr 2 E rfl fun a E=>nt<|wp_ret<|q_blkR<|q_thenR<|q_blkR<|q_thenR<|q_blkR<|?_
        refine out1 E rfl rfl<|have H:=H.drop 0;?_
        cases hm
        exact ⟨rfl, H.reads (hs11)⟩
       ·exact wp_skip<|q_blk<|q_then<|⟨k1, Nat.lt_succ_self k1, x9 + (Utf8.decode s1 x9).2, _, E.sel [175] rfl, H, hs11, hm⟩
      ·refine st_nextS0 (i := 0) E H (wn rfl) rfl rfl rfl rfl rfl hb12 fun a E=>pr 1 E rfl fun a E=>nt<|wp_seq<|wp_cond_false (E.eval rfl)<|wp_exit<|q_thenX<|q_thenX<|q_hit<|?_
       refine q_then<|sq<|pr 1 E rfl fun a E=>nt<|wp_ret<|q_blkR<|out1 E rfl rfl<|have H:=H.drop 0;?_
       cases hm
       exact ⟨rfl, H.reads (hs11)⟩
   ·refine sq<|pr 1 E rfl fun a E=>bd hm fun u13 hx14 hm=>x_cl E rfl rfl rfl rfl rfl cf209 (c_unicode_utf8_ValidRune x2 H hx14)<|?_
    rintro _ w ⟨rfl, H⟩ a E
    refine pr 2 E rfl fun a E=>nt<|wif E hm rfl (fun hm=>?_) fun hm=>?_
    ·refine sq<|pr 1 E rfl fun a E=>nt<|wp_ret<|q_blkR<|out1 E rfl rfl<|?_
     cases hm
     exact ⟨rfl, H.reads (hs5)⟩
    ·refine wp_scope_straight<|sq<|pr 1 E rfl fun a E=>sv E rfl rfl rfl (x_conv E rfl rfl (v := .string (Utf8.encode x2)) (by kernel_rfl)) fun a E=>pr 1 E rfl fun a E=>nx<|pr 4 E rfl fun a E=>nx<|pr 2 E rfl fun a E=>?_
     refine nx<|pr 1 E rfl fun a E=>nt<|wp_seq<|wp_block<|wp_loop_g (fun k2 a w => ∃ (rs15 : List Rp), Env 187 a [(0, .string s1), (7, .string (Utf8.encode x2)), (8, .int .i64 (IntKind.i64.wrap (((Utf8.encode x2).size : Int) - 1))), (9, .int .i64 (IntKind.i64.wrap (((Utf8.encode x2).size : Int) - 1))), (10, .int .i64 0)] ∧ Sep w (Fo) rs15 ∧ (∀ r, r ∈ rs → r ∈ rs15) ∧ m_strings_IndexRune_l2 x2 s1 k2 = some r) (((s1.size : Int) - (IntKind.i64.wrap (((Utf8.encode x2).size : Int) - 1)) : Int).toNat + 1) ?_ ?_
     ·exact ⟨_, E.sel [0, 7, 8, 9, 10] rfl, H, hs5, hm⟩
     ·clear E H hm
      rintro k2 a w ⟨rs15, E, H, hs16, hm⟩
      cases k2 with
      | zero => exact (none_some hm rfl).elim
      | succ k2 =>
       unfold m_strings_IndexRune_l2 at hm
       refine wp_seq<|sq<|pr 4 E rfl fun a E=>nt<|wif E hm rfl (fun hm=>?_) fun hm=>?_
       ·refine wp_skip<|q_then<|wp_block<|wp_scope_straight<|wp_seq<|wp_seq<|dw [(0, 0), (1, 0), (2, 0), (3, 0), (4, 0), (5, 0), (6, 0)] [] [] H (by kernel_rfl) (fun _ _ _ h => False.elim h.2) fun w W0 hI H=>fn 2 E rfl fun a E=>bd hm fun x17 hx18 hm=>?_
        refine fr_val E rfl (wn rfl) rfl rfl (fun w hW=>(x_ix E rfl rfl rfl Tryz.underlying9 hx18)) fun a E=>?_
        refine fn 2 E rfl fun a E=>bd hm fun x19 hx20 hm=>fr_val E rfl (wn rfl) rfl rfl (fun w hW=>(x_ix E rfl rfl rfl Tryz.underlying9 hx20)) fun a E=>?_
        refine fn 1 E rfl fun a E=>fr_nil<|?_
        clear hI
        refine q_then<|wif E hm rfl (fun hm=>?_) fun hm=>?_
        ·refine wp_seq<|dw [(0, 0), (1, 0), (2, 0), (3, 0), (4, 0), (5, 0), (6, 0), (7, 1), (8, 2)] [] [] H (by kernel_rfl) (fun _ _ _ h => False.elim h.2) fun w W0 hI H=>fn 3 E rfl fun a E=>bk hm fun hx22 hm=>fr_val E rfl (wn rfl) rfl rfl (fun w hW=>(x_subL E rfl rfl rfl Tryz.underlying9 hx22)) fun a E=>?_
         refine fn 2 E rfl fun a E=>bd hm fun x23 hx24 hm=>fr_val E rfl (wn rfl) rfl rfl (fun w hW=>(x_ix E rfl rfl rfl Tryz.underlying9 hx24)) fun a E=>?_
         refine fr_op rfl<|bd hm fun u25 hx26 hm=>x_cl E rfl rfl rfl rfl rfl cf166 (c_strings_IndexByte (s1.extract (IntKind.i64.wrap ((IntKind.i64.wrap (((Utf8.encode x2).size : Int) - 1)) + 1)).toNat s1.size) (x23.toNat : Int) H hx26)<|?_
         rintro _ w ⟨rfl, H⟩ a E
         refine nt<|?_
         refine ⟨⟨_, _, H, (subO_nil), (sub_nil)⟩, ?_⟩
         refine fr_tail rfl<|pr 1 E rfl fun a E=>nt<|fr_nil<|?_
         clear hI
         refine q_then<|wp_seq<|sq<|pr 2 E rfl fun a E=>nt<|wif E hm rfl (fun hm=>?_) fun hm=>?_
         ·refine sq<|pr 1 E rfl fun a E=>nt<|wp_ret<|q_thenR<|q_thenR<|ng_R<|q_blkR<|q_thenR<|?_
          refine q_blkR<|q_thenR<|ng_R<|q_blkR<|out1 E rfl rfl<|?_
          cases hm
          exact ⟨rfl, H.reads (hs16)⟩
         ·exact (none_some hm rfl).elim
        ·exact (none_some hm rfl).elim
       ·refine wp_exit<|q_thenX<|q_thenX<|q_hit<|q_then<|wp_seq<|sq<|pr 1 E rfl fun a E=>nt<|?_
        refine wp_ret<|q_thenR<|ng_R<|q_blkR<|out1 E rfl rfl<|?_
        cases hm
        exact ⟨rfl, H.reads (hs16)⟩

def m_strings_ContainsRune (s1 : ByteArray) (x2 : Int) : Option Bool :=
  (m_strings_IndexRune s1 x2).bind fun u3 => some (decide (u3 ≥ 0))
theorem c_strings_ContainsRune {w : World} {Fo : List Ob} {rs : List Rp} (s1 : ByteArray) (x2 : Int) (H : Sep w (Fo) rs) {r : Bool} (hm : m_strings_ContainsRune s1 x2 = some r) :
    Calls Tryz.prog 182 [.string s1, .int .i32 x2].toArray w (Ret fun v w' => .bool r = v ∧ Sep w' (Fo) (rs)) := by
 unfold m_strings_ContainsRune at hm
 refine enter Tryz.func182 rfl Tryz.ntmps182 rfl fun a E =>?_
 simp only [enum, Nat.reduceAdd] at E
 refine sq<|pr 1 E rfl fun a E=>nx<|pr 2 E rfl fun a E=>bd hm fun u3 hx4 hm=>x_cl E rfl rfl rfl rfl rfl cf197 (c_strings_IndexRune s1 x2 H hx4)<|?_
 rintro _ w ⟨rfl, H⟩ a E
 refine pr 2 E rfl fun a E=>nt<|wp_ret<|out1 E rfl rfl<|?_
 cases hm
 exact ⟨rfl, H.reads (fun r hr => hr)⟩

def m_path_part_1 (x1 : Int) : Option Bool :=
  (m_strings_ContainsRune (ByteArray.mk #[97, 98, 99, 100, 101, 102, 103, 104, 105, 106, 107, 108, 109, 110, 111, 112, 113, 114, 115, 116, 117, 118, 119, 120, 121, 122, 48, 49, 50, 51, 52, 53, 54, 55, 56, 57, 45]) x1).bind fun u2 => some (!u2)
theorem c_path_part_1 {w : World} {Fo : List Ob} {rs : List Rp} (x1 : Int) (H : Sep w (Fo) rs) {r : Bool} (hm : m_path_part_1 x1 = some r) :
    Calls Tryz.prog 181 [.int .i32 x1].toArray w (Ret fun v w' => .bool r = v ∧ Sep w' (Fo) (rs)) := by
 unfold m_path_part_1 at hm
 refine enter Tryz.func181 rfl Tryz.ntmps181 rfl fun a E =>?_
 simp only [enum, Nat.reduceAdd] at E
 refine sq<|pr 1 E rfl fun a E=>nx<|pr 1 E rfl fun a E=>bd hm fun u2 hx3 hm=>x_cl E rfl rfl rfl rfl rfl cf182 (c_strings_ContainsRune (ByteArray.mk #[97, 98, 99, 100, 101, 102, 103, 104, 105, 106, 107, 108, 109, 110, 111, 112, 113, 114, 115, 116, 117, 118, 119, 120, 121, 122, 48, 49, 50, 51, 52, 53, 54, 55, 56, 57, 45]) x1 H hx3)<|?_
 rintro _ w ⟨rfl, H⟩ a E
 refine pr 2 E rfl fun a E=>nt<|wp_ret<|out1 E rfl rfl<|?_
 cases hm
 exact ⟨rfl, H.reads (fun r hr => hr)⟩

def m_strings_indexFunc_l1 (s1 : ByteArray) (b2 : Bool) : Nat → (Nat) → Option Int
  | 0, _ => none
  | k1 + 1, x4 =>
    if decide (x4 < s1.size) = true then ((m_path_part_1 ((Utf8.decode s1 x4).1 : Int)).bind fun u8 => if (u8 == b2) = true then (some ((x4 : Int))) else (m_strings_indexFunc_l1 s1 b2 k1 (x4 + (Utf8.decode s1 x4).2))) else (some ((-1)))
def m_strings_indexFunc (s1 : ByteArray) (b2 : Bool) : Option Int :=
  m_strings_indexFunc_l1 s1 b2 (s1.size + 2) 0
theorem c_strings_indexFunc {w : World} {Fo : List Ob} {rs : List Rp} (s1 : ByteArray) (b2 : Bool) (H : Sep w (Fo) rs) {r : Int} (hm : m_strings_indexFunc s1 b2 = some r) :
    Calls Tryz.prog 208 [.string s1, .func (.func 181) #[] #[], .bool b2].toArray w (Ret fun v w' => .int .i64 r = v ∧ Sep w' (Fo) (rs)) := by
 unfold m_strings_indexFunc at hm
 refine enter Tryz.func208 rfl Tryz.ntmps208 rfl fun a E =>?_
 simp only [enum, Nat.reduceAdd] at E
 refine sq<|pr 1 E rfl fun a E=>nt<|wp_seq<|sq<|pr 1 E rfl fun a E=>st_rangeS E H (wn rfl) rfl rfl rfl rfl Tryz.underlying9 fun p3 w a H E=>nt<|wp_block<|wp_loop_g (fun k1 a w => ∃ (x4 : (Nat)) (rs5 : List Rp), Env 21 a [(1, .func (.func 181) #[] #[]), (2, .bool b2), (10, pt p3 0)] ∧ Sep w (ObjO p3 (.stringIter s1 x4) :: Fo) rs5 ∧ (∀ r, r ∈ rs → r ∈ rs5) ∧ m_strings_indexFunc_l1 s1 b2 k1 x4 = some r) (s1.size + 2) ?_ ?_
 ·exact ⟨0, _, E.sel [1, 2, 10] rfl, H, fun r hr => hr, hm⟩
 ·clear E H hm
  rintro k1 a w ⟨x4, rs5, E, H, hs6, hm⟩
  cases k1 with
  | zero => exact (none_some hm rfl).elim
  | succ k1 =>
   unfold m_strings_indexFunc_l1 at hm
   refine sq<|cs hm (fun hb7 hm=>?_) fun hb7 hm=>?_
   ·refine st_nextS1 (i := 0) E H (wn rfl) rfl rfl rfl rfl rfl hb7 fun w a H E=>pr 1 E rfl fun a E=>nt<|wp_seq<|wp_cond_true (E.eval rfl)<|wp_skip<|q_then<|wp_block<|sq<|?_
    refine pr 4 E rfl fun a E=>nx<|pr 2 E rfl fun a E=>bd hm fun u8 hx9 hm=>st_call E (wn rfl) rfl rfl (x_callv E rfl rfl rfl (cf181 _)) (c_path_part_1 ((Utf8.decode s1 x4).1 : Int) H hx9)<|?_
    rintro _ w ⟨rfl, H⟩ a E
    refine pr 1 E rfl fun a E=>sv E rfl rfl rfl (x_bin2 E rfl rfl rfl (v := .bool (u8 == b2)) (by kernel_rfl)) fun a E=>nt<|wif E hm rfl (fun hm=>?_) fun hm=>?_
    ·refine sq<|pr 2 E rfl fun a E=>nt<|wp_ret<|q_blkR<|q_thenR<|q_blkR<|q_thenR<|out1 E rfl rfl<|?_
     refine have H:=H.drop 0;?_
     cases hm
     exact ⟨rfl, H.reads (hs6)⟩
    ·exact wp_skip<|q_blk<|q_then<|⟨k1, Nat.lt_succ_self k1, x4 + (Utf8.decode s1 x4).2, _, E.sel [1, 2, 10] rfl, H, hs6, hm⟩
   ·refine st_nextS0 (i := 0) E H (wn rfl) rfl rfl rfl rfl rfl hb7 fun a E=>pr 1 E rfl fun a E=>nt<|wp_seq<|wp_cond_false (E.eval rfl)<|wp_exit<|q_thenX<|q_thenX<|q_hit<|?_
    refine q_then<|sq<|pr 1 E rfl fun a E=>nt<|wp_ret<|out1 E rfl rfl<|have H:=H.drop 0;?_
    cases hm
    exact ⟨rfl, H.reads (hs6)⟩

def m_strings_IndexFunc (s1 : ByteArray) : Option Int :=
  (m_strings_indexFunc s1 true).bind fun u2 => some (u2)
theorem c_strings_IndexFunc {w : World} {Fo : List Ob} {rs : List Rp} (s1 : ByteArray) (H : Sep w (Fo) rs) {r : Int} (hm : m_strings_IndexFunc s1 = some r) :
    Calls Tryz.prog 196 [.string s1, .func (.func 181) #[] #[]].toArray w (Ret fun v w' => .int .i64 r = v ∧ Sep w' (Fo) (rs)) := by
 unfold m_strings_IndexFunc at hm
 refine enter Tryz.func196 rfl Tryz.ntmps196 rfl fun a E =>?_
 simp only [enum, Nat.reduceAdd] at E
 refine sq<|pr 1 E rfl fun a E=>nx<|pr 2 E rfl fun a E=>bd hm fun u2 hx3 hm=>x_cl E rfl rfl rfl rfl rfl cf208 (c_strings_indexFunc s1 true H hx3)<|?_
 rintro _ w ⟨rfl, H⟩ a E
 refine pr 1 E rfl fun a E=>nt<|wp_ret<|out1 E rfl rfl<|?_
 cases hm
 exact ⟨rfl, H.reads (fun r hr => hr)⟩

def m_strings_ContainsFunc (s1 : ByteArray) : Option Bool :=
  (m_strings_IndexFunc s1).bind fun u2 => some (decide (u2 ≥ 0))
theorem c_strings_ContainsFunc {w : World} {Fo : List Ob} {rs : List Rp} (s1 : ByteArray) (H : Sep w (Fo) rs) {r : Bool} (hm : m_strings_ContainsFunc s1 = some r) :
    Calls Tryz.prog 180 [.string s1, .func (.func 181) #[] #[]].toArray w (Ret fun v w' => .bool r = v ∧ Sep w' (Fo) (rs)) := by
 unfold m_strings_ContainsFunc at hm
 refine enter Tryz.func180 rfl Tryz.ntmps180 rfl fun a E =>?_
 simp only [enum, Nat.reduceAdd] at E
 refine sq<|pr 1 E rfl fun a E=>nx<|pr 2 E rfl fun a E=>bd hm fun u2 hx3 hm=>x_cl E rfl rfl rfl rfl rfl cf196 (c_strings_IndexFunc s1 H hx3)<|?_
 rintro _ w ⟨rfl, H⟩ a E
 refine pr 2 E rfl fun a E=>nt<|wp_ret<|out1 E rfl rfl<|?_
 cases hm
 exact ⟨rfl, H.reads (fun r hr => hr)⟩

def m_path_part (s1 : ByteArray) : Option Bool :=
  (m_strings_ContainsFunc s1).bind fun u2 => if (!(sEq s1 (ByteArray.mk #[]))) = true then (if (decide ((s1.size : Int) ≤ 12)) = true then (some (!u2)) else (some (false))) else (some (false))
theorem c_path_part {w : World} {Fo : List Ob} {rs : List Rp} (s1 : ByteArray) (H : Sep w (Fo) rs) {r : Bool} (hm : m_path_part s1 = some r) :
    Calls Tryz.prog 151 [.string s1].toArray w (Ret fun v w' => .bool r = v ∧ Sep w' (Fo) (rs)) := by
 unfold m_path_part at hm
 refine enter Tryz.func151 rfl Tryz.ntmps151 rfl fun a E =>?_
 simp only [enum, Nat.reduceAdd] at E
 refine sq<|pr 1 E rfl fun a E=>nx<|pr 1 E rfl fun a E=>bd hm fun u2 hx3 hm=>x_cl E rfl rfl rfl rfl rfl cf180 (c_strings_ContainsFunc s1 H hx3)<|?_
 rintro _ w ⟨rfl, H⟩ a E
 refine pr 1 E rfl fun a E=>nx<|pr 3 E rfl fun a E=>cs hm (fun hb4 hm=>?_) fun hb4 hm=>?_
 ·refine pk 5 E (kc 8 rfl hb4) rfl fun a E=>cs hm (fun hb5 hm=>?_) fun hb5 hm=>?_
  ·refine pk 4 E (kc 13 rfl hb5) rfl fun a E=>nt<|wp_ret<|out1 E rfl rfl<|?_
   cases hm
   exact ⟨rfl, H.reads (fun r hr => hr)⟩
  ·refine pk 4 E (kc 13 rfl hb5) rfl fun a E=>nt<|wp_ret<|out1 E rfl rfl<|?_
   cases hm
   exact ⟨rfl, H.reads (fun r hr => hr)⟩
 ·refine pk 9 E (kc 8 rfl hb4) rfl fun a E=>nt<|wp_ret<|out1 E rfl rfl<|?_
  cases hm
  exact ⟨rfl, H.reads (fun r hr => hr)⟩

def m_cantonref01_Part_j1 (rec_1 : Int → Option Bool) (x2 : Int) (b7 : Bool) : Option Bool :=
  if b7 = true then (some (false)) else (rec_1 (IntKind.i64.wrap (x2 + 1)))
def m_cantonref01_Part_l1 (s1 : ByteArray) : Nat → Int → Option Bool
  | 0, _ => none
  | k1 + 1, x2 =>
    if (decide (x2 < (s1.size : Int))) = true then ((idx s1.data.toList x2).bind fun x5 => if ((x5.toNat : Int) != 45) = true then (if (decide ((x5.toNat : Int) < 97)) = true then (if (decide ((x5.toNat : Int) < 48)) = true then (m_cantonref01_Part_j1 (m_cantonref01_Part_l1 s1 k1) x2 true) else (m_cantonref01_Part_j1 (m_cantonref01_Part_l1 s1 k1) x2 (decide ((x5.toNat : Int) > 57)))) else (if (decide ((x5.toNat : Int) > 122)) = true then (if (decide ((x5.toNat : Int) < 48)) = true then (m_cantonref01_Part_j1 (m_cantonref01_Part_l1 s1 k1) x2 true) else (m_cantonref01_Part_j1 (m_cantonref01_Part_l1 s1 k1) x2 (decide ((x5.toNat : Int) > 57)))) else (m_cantonref01_Part_j1 (m_cantonref01_Part_l1 s1 k1) x2 false))) else (m_cantonref01_Part_j1 (m_cantonref01_Part_l1 s1 k1) x2 false)) else (if (decide ((s1.size : Int) ≥ 1)) = true then (some (decide ((s1.size : Int) ≤ 12))) else (some (false)))
def m_cantonref01_Part (s1 : ByteArray) : Option Bool :=
  m_cantonref01_Part_l1 s1 (((s1.size : Int) - 0 : Int).toNat + 1) 0
theorem c_cantonref01_Part {w : World} {Fo : List Ob} {rs : List Rp} (s1 : ByteArray) (H : Sep w (Fo) rs) {r : Bool} (hm : m_cantonref01_Part s1 = some r) :
    Calls Tryz.prog 155 [.string s1].toArray w (Ret fun v w' => .bool r = v ∧ Sep w' (Fo) (rs)) := by
 unfold m_cantonref01_Part at hm
 refine enter Tryz.func155 rfl Tryz.ntmps155 rfl fun a E =>?_
 simp only [enum, Nat.reduceAdd] at E
 refine sq<|pr 1 E rfl fun a E=>nt<|wp_seq<|sq<|pr 1 E rfl fun a E=>nt<|wp_block<|wp_loop_g (fun k1 a w => ∃ (x2 : Int) (rs3 : List Rp), Env 40 a [(0, .string s1), (3, .int .i64 x2)] ∧ Sep w (Fo) rs3 ∧ (∀ r, r ∈ rs → r ∈ rs3) ∧ m_cantonref01_Part_l1 s1 k1 x2 = some r) (((s1.size : Int) - 0 : Int).toNat + 1) ?_ ?_
 ·exact ⟨0, _, E.sel [0, 3] rfl, H, fun r hr => hr, hm⟩
 ·clear E H hm
  rintro k1 a w ⟨x2, rs3, E, H, hs4, hm⟩
  cases k1 with
  | zero => exact (none_some hm rfl).elim
  | succ k1 =>
   unfold m_cantonref01_Part_l1 at hm
   refine wp_seq<|sq<|pr 4 E rfl fun a E=>nt<|wif E hm rfl (fun hm=>?_) fun hm=>?_
   ·refine wp_skip<|q_then<|wp_seq<|wp_block<|sq<|pr 2 E rfl fun a E=>bd hm fun x5 hx6 hm=>sv E rfl rfl rfl (x_ix E rfl rfl rfl Tryz.underlying9 hx6) fun a E=>pr 1 E rfl fun a E=>?_
    refine nt<|wp_seq_cut (fun a w => ∃ (b7 : Bool) (rs8 : List Rp), Env 40 a [(0, .string s1), (3, .int .i64 x2), (31, .bool b7)] ∧ Sep w (Fo) rs8 ∧ (∀ r, r ∈ rs → r ∈ rs8) ∧ m_cantonref01_Part_j1 (m_cantonref01_Part_l1 s1 k1) x2 b7 = some r) ?_ ?_
    ·refine wp_region_lit<|pr 3 E rfl fun a E=>cs hm (fun hb10 hm=>?_) fun hb10 hm=>?_
     ·refine pk 3 E (kc 16 rfl hb10) rfl fun a E=>cs hm (fun hb11 hm=>?_) fun hb11 hm=>?_
      ·refine pk 8 E (kc' (kc 19 rfl hb11) 16 rfl hb10) rfl fun a E=>cs hm (fun hb12 hm=>?_) fun hb12 hm=>?_
       ·exact pk 4 E (kc 27 rfl hb12) rfl fun a E=>nt<|⟨true, _, E.sel [0, 3, 31] rfl, H, hs4, hm⟩
       ·exact pk 4 E (kc 27 rfl hb12) rfl fun a E=>nt<|⟨decide ((x5.toNat : Int) > 57), _, E.sel [0, 3, 31] rfl, H, hs4, hm⟩
      ·refine pk 5 E (kc' (kc 19 rfl hb11) 16 rfl hb10) rfl fun a E=>cs hm (fun hb13 hm=>?_) fun hb13 hm=>?_
       ·refine pk 3 E (kc 24 rfl hb13) rfl fun a E=>cs hm (fun hb14 hm=>?_) fun hb14 hm=>?_
        ·exact pk 4 E (kc' (kc 27 rfl hb14) 24 rfl hb13) rfl fun a E=>nt<|⟨true, _, E.sel [0, 3, 31] rfl, H, hs4, hm⟩
        ·exact pk 4 E (kc' (kc 27 rfl hb14) 24 rfl hb13) rfl fun a E=>nt<|⟨decide ((x5.toNat : Int) > 57), _, E.sel [0, 3, 31] rfl, H, hs4, hm⟩
       ·exact pk 7 E (kc 24 rfl hb13) rfl fun a E=>nt<|⟨false, _, E.sel [0, 3, 31] rfl, H, hs4, hm⟩
     ·exact pk 15 E (kc 16 rfl hb10) rfl fun a E=>nt<|⟨false, _, E.sel [0, 3, 31] rfl, H, hs4, hm⟩
    ·clear E H hm
     rintro a w ⟨b7, rs8, E, H, hs9, hm⟩
     unfold m_cantonref01_Part_j1 at hm
     refine wif E hm rfl (fun hm=>?_) fun hm=>?_
     ·refine sq<|pr 1 E rfl fun a E=>nt<|wp_ret<|q_blkR<|q_thenR<|q_thenR<|q_blkR<|q_thenR<|?_
      refine out1 E rfl rfl<|?_
      cases hm
      exact ⟨rfl, H.reads (hs9)⟩
     ·exact wp_skip<|q_blk<|q_then<|wp_region_lit<|pr 3 E rfl fun a E=>nt<|⟨k1, Nat.lt_succ_self k1, IntKind.i64.wrap (x2 + 1), _, E.sel [0, 3] rfl, H, hs9, hm⟩
   ·refine wp_exit<|q_thenX<|q_thenX<|q_hit<|q_then<|sq<|pr 4 E rfl fun a E=>cs hm (fun hb15 hm=>?_) fun hb15 hm=>?_
    ·refine pk 5 E (kc 35 rfl hb15) rfl fun a E=>nt<|wp_ret<|out1 E rfl rfl<|?_
     cases hm
     exact ⟨rfl, H.reads (hs4)⟩
    ·refine pk 5 E (kc 35 rfl hb15) rfl fun a E=>nt<|wp_ret<|out1 E rfl rfl<|?_
     cases hm
     exact ⟨rfl, H.reads (hs4)⟩

def m_internal_stringslite_HasPrefix (s1 : ByteArray) (s2 : ByteArray) : Option Bool :=
  if (decide ((s1.size : Int) ≥ (s2.size : Int))) = true then ((ck (0 ≤ (s2.size : Int) ∧ (s2.size : Int) ≤ s1.size)).bind fun u4 => some (sEq (s1.extract 0 (s2.size : Int).toNat) s2)) else (some (false))
theorem c_internal_stringslite_HasPrefix {w : World} {Fo : List Ob} {rs : List Rp} (s1 : ByteArray) (s2 : ByteArray) (H : Sep w (Fo) rs) {r : Bool} (hm : m_internal_stringslite_HasPrefix s1 s2 = some r) :
    Calls Tryz.prog 201 [.string s1, .string s2].toArray w (Ret fun v w' => .bool r = v ∧ Sep w' (Fo) (rs)) := by
 unfold m_internal_stringslite_HasPrefix at hm
 refine enter Tryz.func201 rfl Tryz.ntmps201 rfl fun a E =>?_
 simp only [enum, Nat.reduceAdd] at E
 refine sq<|pr 1 E rfl fun a E=>nx<|pr 6 E rfl fun a E=>cs hm (fun hb3 hm=>?_) fun hb3 hm=>?_
 ·refine pk 3 E (kc 10 rfl hb3) rfl fun a E=>bk hm fun hx5 hm=>st_val E (ws' (d := 10) E rfl rfl rfl rfl hb3) rfl rfl (x_subH E rfl rfl rfl Tryz.underlying9 hx5) fun a E=>pk 4 E (kc 10 rfl hb3) rfl fun a E=>nt<|wp_ret<|out1 E rfl rfl<|?_
  cases hm
  exact ⟨rfl, H.reads (fun r hr => hr)⟩
 ·refine pk 8 E (kc 10 rfl hb3) rfl fun a E=>nt<|wp_ret<|out1 E rfl rfl<|?_
  cases hm
  exact ⟨rfl, H.reads (fun r hr => hr)⟩

def m_internal_stringslite_CutPrefix (s1 : ByteArray) (s2 : ByteArray) : Option (ByteArray × Bool) :=
  (m_internal_stringslite_HasPrefix s1 s2).bind fun u3 => if (!u3) = true then (some (s1, false)) else ((ck (0 ≤ (s2.size : Int) ∧ (s2.size : Int) ≤ s1.size)).bind fun u5 => some (s1.extract (s2.size : Int).toNat s1.size, true))
theorem c_internal_stringslite_CutPrefix {w : World} {Fo : List Ob} {rs : List Rp} (s1 : ByteArray) (s2 : ByteArray) (H : Sep w (Fo) rs) {r : ByteArray × Bool} (hm : m_internal_stringslite_CutPrefix s1 s2 = some r) :
    Calls Tryz.prog 187 [.string s1, .string s2].toArray w (Ret fun v w' => .tuple #[.string r.1, .bool r.2] = v ∧ Sep w' (Fo) (rs)) := by
 unfold m_internal_stringslite_CutPrefix at hm
 refine enter Tryz.func187 rfl Tryz.ntmps187 rfl fun a E =>?_
 simp only [enum, Nat.reduceAdd] at E
 refine sq<|pr 2 E rfl fun a E=>nt<|wp_seq<|sq<|pr 2 E rfl fun a E=>bd hm fun u3 hx4 hm=>x_cl E rfl rfl rfl rfl rfl cf201 (c_internal_stringslite_HasPrefix s1 s2 H hx4)<|?_
 rintro _ w ⟨rfl, H⟩ a E
 refine pr 1 E rfl fun a E=>nt<|wif E hm rfl (fun hm=>?_) fun hm=>?_
 ·refine sq<|pr 3 E rfl fun a E=>nt<|wp_ret<|q_thenR<|out2 E rfl rfl rfl<|?_
  cases hm
  exact ⟨rfl, H.reads (fun r hr => hr)⟩
 ·refine wp_skip<|q_then<|sq<|pr 3 E rfl fun a E=>bk hm fun hx6 hm=>sv E rfl rfl rfl (x_subL E rfl rfl rfl Tryz.underlying9 hx6) fun a E=>pr 2 E rfl fun a E=>nt<|wp_ret<|?_
  refine out2 E rfl rfl rfl<|?_
  cases hm
  exact ⟨rfl, H.reads (fun r hr => hr)⟩

def m_strings_CutPrefix (s1 : ByteArray) (s2 : ByteArray) : Option (ByteArray × Bool) :=
  (m_internal_stringslite_CutPrefix s1 s2).bind fun u3 => some (u3.1, u3.2)
theorem c_strings_CutPrefix {w : World} {Fo : List Ob} {rs : List Rp} (s1 : ByteArray) (s2 : ByteArray) (H : Sep w (Fo) rs) {r : ByteArray × Bool} (hm : m_strings_CutPrefix s1 s2 = some r) :
    Calls Tryz.prog 165 [.string s1, .string s2].toArray w (Ret fun v w' => .tuple #[.string r.1, .bool r.2] = v ∧ Sep w' (Fo) (rs)) := by
 unfold m_strings_CutPrefix at hm
 refine enter Tryz.func165 rfl Tryz.ntmps165 rfl fun a E =>?_
 simp only [enum, Nat.reduceAdd] at E
 refine sq<|pr 2 E rfl fun a E=>nx<|pr 2 E rfl fun a E=>bd hm fun u3 hx4 hm=>x_cl E rfl rfl rfl rfl rfl cf187 (c_internal_stringslite_CutPrefix s1 s2 H hx4)<|?_
 rintro _ w ⟨rfl, H⟩ a E
 refine pr 4 E rfl fun a E=>nt<|wp_ret<|out2 E rfl rfl rfl<|?_
 cases hm
 exact ⟨rfl, H.reads (fun r hr => hr)⟩

def m_path_Split_j1 : Option ((List ByteArray) × Bool) :=
  some ([], false)
def m_path_Split_j2 (rec_1 : ByteArray → (List ByteArray) → Option ((List ByteArray) × Bool)) (u9 : ByteArray × Bool) (l6 : (List ByteArray)) (x14 : Int) : Option ((List ByteArray) × Bool) :=
  (ck (0 ≤ x14 ∧ x14 ≤ u9.1.size)).bind fun u17 => (m_path_part (u9.1.extract 0 x14.toNat)).bind fun u19 => if (!u19) = true then (m_path_Split_j1) else ((ck (0 ≤ x14 ∧ x14 ≤ u9.1.size)).bind fun u21 => (ck (l6.length + ([u9.1.extract 0 x14.toNat] : List ByteArray).length ≤ LIM)).bind fun u25 => (ck (0 ≤ x14 ∧ x14 ≤ u9.1.size)).bind fun u27 => rec_1 (u9.1.extract x14.toNat u9.1.size) (l6 ++ ([u9.1.extract 0 x14.toNat] : List ByteArray)))
def m_path_Split_l1 : Nat → ByteArray → (List ByteArray) → Option ((List ByteArray) × Bool)
  | 0, _, _ => none
  | k1 + 1, s4, l6 =>
    if (!(sEq s4 (ByteArray.mk #[]))) = true then ((m_strings_CutPrefix s4 (ByteArray.mk #[47])).bind fun u9 => if (!u9.2) = true then (m_path_Split_j1) else (if ((l6.length : Int) == 6) = true then (m_path_Split_j1) else ((m_strings_IndexByte u9.1 47).bind fun u12 => if (decide (u12 < 0)) = true then (m_path_Split_j2 (m_path_Split_l1 k1) u9 l6 (u9.1.size : Int)) else (m_path_Split_j2 (m_path_Split_l1 k1) u9 l6 u12)))) else (if (decide ((l6.length : Int) > 0)) = true then (some (l6, true)) else (some ([], false)))
def m_path_Split (s1 : ByteArray) : Option ((List ByteArray) × Bool) :=
  if (sEq s1 (ByteArray.mk #[47])) = true then (some ([], true)) else (m_path_Split_l1 (s1.size + 2) s1 [])
theorem c_path_Split {w : World} {Fo : List Ob} {rs : List Rp} (s1 : ByteArray) (H : Sep w (Fo) rs) {r : (List ByteArray) × Bool} (hm : m_path_Split s1 = some r) :
    Calls Tryz.prog 145 [.string s1].toArray w (Ret fun v w' => ∃ (v5001 : Value), .tuple #[v5001, .bool r.2] = v ∧ Sep w' (Row 9 kS v5001 r.1 :: Fo) (rs)) := by
 unfold m_path_Split at hm
 refine enter Tryz.func145 rfl Tryz.ntmps145 rfl fun a E =>?_
 simp only [enum, Nat.reduceAdd] at E
 refine sq<|pr 2 E rfl fun a E=>nt<|?_
 refine wp_scope_jumps 0 (fun a w => ∃ (rs2 : List Rp), Env 48 a [] ∧ Sep w (Fo) rs2 ∧ (∀ r, r ∈ rs → r ∈ rs2) ∧ m_path_Split_j1 = some r) (fun _ _ => 0) rfl ?_ ?_
 ·refine sq<|pr 1 E rfl fun a E=>nt<|wp_seq<|sq<|pr 2 E rfl fun a E=>nt<|wif E hm rfl (fun hm=>?_) fun hm=>?_
  ·refine sq<|pr 2 E rfl fun a E=>nt<|wp_ret<|q_thenR<|q_jumpR<|out2 E rfl rfl rfl<|have H:=H.nilRow 9 kS;?_
   cases hm
   exact ⟨(.slice none 0 0), rfl, H.reads (fun r hr => hr)⟩
  ·refine wp_skip<|q_then<|wp_seq<|wp_block<|wp_loop_g (fun k1 a w => ∃ (v5 : Value) (s4 : ByteArray) (l6 : (List ByteArray)) (rs7 : List Rp), Env 48 a [(0, .string s4), (4, v5)] ∧ Sep w (Row 9 kS v5 l6 :: Fo) rs7 ∧ (∀ r, r ∈ rs → r ∈ rs7) ∧ m_path_Split_l1 k1 s4 l6 = some r) (s1.size + 2) ?_ ?_
   ·exact have H:=H.nilRow 9 kS;⟨(.slice none 0 0), s1, [], _, E.sel [0, 4] rfl, H, fun r hr => hr, hm⟩
   ·clear E H hm
    rintro k1 a w ⟨v5, s4, l6, rs7, E, H, hs8, hm⟩
    cases k1 with
    | zero => exact (none_some hm rfl).elim
    | succ k1 =>
     unfold m_path_Split_l1 at hm
     refine wp_seq<|sq<|pr 2 E rfl fun a E=>nt<|wif E hm rfl (fun hm=>?_) fun hm=>?_
     ·refine wp_skip<|q_then<|wp_block<|sq<|pr 1 E rfl fun a E=>bd hm fun u9 hx10 hm=>x_cl E rfl rfl rfl rfl rfl cf165 (c_strings_CutPrefix s4 (ByteArray.mk #[47]) H hx10)<|?_
      rintro _ w ⟨rfl, H⟩ a E
      refine pr 5 E rfl fun a E=>nt<|wp_seq<|sq<|pr 3 E rfl fun a E=>cs hm (fun hb11 hm=>?_) fun hb11 hm=>?_
      ·refine pk 4 E (kc 19 rfl hb11) rfl fun a E=>nt<|wp_cond_true (E.eval rfl)<|wp_goto<|q_thenG<|q_blkG<|q_thenG<|q_blkG<|q_thenG<|?_
       exact q_jump<|have H:=H.drop 0;⟨_, E.nil, H, hs8, hm⟩
      ·refine pk 1 E (kc 19 rfl hb11) rfl fun a E=>st_val E (ws' (d := 19) E rfl rfl rfl rfl hb11) rfl rfl (x_lenR (i := 0) E H rfl rfl rfl Tryz.underlying49) fun a E=>pk 2 E (kc 19 rfl hb11) rfl fun a E=>nt<|wif E hm rfl (fun hm=>?_) fun hm=>?_
       ·exact wp_goto<|q_thenG<|q_blkG<|q_thenG<|q_blkG<|q_thenG<|q_jump<|have H:=H.drop 0;⟨_, E.nil, H, hs8, hm⟩
       ·refine wp_skip<|q_then<|sq<|pr 1 E rfl fun a E=>bd hm fun u12 hx13 hm=>x_cl E rfl rfl rfl rfl rfl cf166 (c_strings_IndexByte u9.1 47 H hx13)<|?_
        rintro _ w ⟨rfl, H⟩ a E
        refine pr 1 E rfl fun a E=>nt<|wp_seq_cut (fun a w => ∃ (x14 : Int) (rs15 : List Rp), Env 48 a [(4, v5), (5, .string u9.1), (7, .int .i64 x14)] ∧ Sep w (Row 9 kS v5 l6 :: Fo) rs15 ∧ (∀ r, r ∈ rs → r ∈ rs15) ∧ m_path_Split_j2 (m_path_Split_l1 k1) u9 l6 x14 = some r) ?_ ?_
        ·refine sq<|pr 2 E rfl fun a E=>nt<|wif E hm rfl (fun hm=>?_) fun hm=>?_
         ·exact wp_region_lit<|pr 3 E rfl fun a E=>nt<|⟨(u9.1.size : Int), _, E.sel [4, 5, 7] rfl, H, hs8, hm⟩
         ·exact wp_skip<|q_then<|⟨u12, _, E.sel [4, 5, 7] rfl, H, hs8, hm⟩
        ·clear E H hm
         rintro a w ⟨x14, rs15, E, H, hs16, hm⟩
         unfold m_path_Split_j2 at hm
         refine wp_seq<|sq<|pr 2 E rfl fun a E=>bk hm fun hx18 hm=>sv E rfl rfl rfl (x_subH E rfl rfl rfl Tryz.underlying9 hx18) fun a E=>bd hm fun u19 hx20 hm=>x_cl E rfl rfl rfl rfl rfl cf151 (c_path_part (u9.1.extract 0 x14.toNat) H hx20)<|?_
         rintro _ w ⟨rfl, H⟩ a E
         refine pr 1 E rfl fun a E=>nt<|wif E hm rfl (fun hm=>?_) fun hm=>?_
         ·exact wp_goto<|q_thenG<|q_blkG<|q_thenG<|q_blkG<|q_thenG<|q_jump<|have H:=H.drop 0;⟨_, E.nil, H, hs16, hm⟩
         ·refine wp_skip<|q_then<|sq<|pr 3 E rfl fun a E=>bk hm fun hx22 hm=>sv E rfl rfl rfl (x_subH E rfl rfl rfl Tryz.underlying9 hx22) fun a E=>st_bsR (e := 9) (d := kS) (cs := [.string (u9.1.extract 0 x14.toNat)]) (xs := [u9.1.extract 0 x14.toNat]) E H (wn rfl) rfl rfl rfl (E.evs rfl) (by kernel_rfl) rfl (fun ok hr => (Rows.single (d := kS) (cs := [.string (u9.1.extract 0 x14.toNat)]) (x := u9.1.extract 0 x14.toNat) rfl)) fun v23 w a H E=>bk hm fun hx26 hm=>st_append (i := 0) E H (wn rfl) rfl rfl rfl rfl rfl rfl (src_rd m0) Tryz.underlying49 inf9 rfl hx26 rfl fun v24 w a H E=>?_
          refine pr 1 E rfl fun a E=>nt<|wp_region_lit<|pr 2 E rfl fun a E=>bk hm fun hx28 hm=>sv E rfl rfl rfl (x_subL E rfl rfl rfl Tryz.underlying9 hx28) fun a E=>pr 1 E rfl fun a E=>wpList_nil<|q_blk<|?_
          exact q_then<|⟨k1, Nat.lt_succ_self k1, v24, u9.1.extract x14.toNat u9.1.size, l6 ++ ([u9.1.extract 0 x14.toNat] : List ByteArray), _, E.sel [0, 4] rfl, H, fun r hr => (t1 (hs16 r hr)), hm⟩
     ·refine wp_exit<|q_thenX<|q_thenX<|q_hit<|q_then<|wp_seq<|sq<|pr 1 E rfl fun a E=>sv E rfl rfl rfl (x_lenR (i := 0) E H rfl rfl rfl Tryz.underlying49) fun a E=>?_
      refine pr 1 E rfl fun a E=>nt<|wif E hm rfl (fun hm=>?_) fun hm=>?_
      ·refine sq<|pr 3 E rfl fun a E=>nt<|wp_ret<|q_thenR<|q_jumpR<|out2 E rfl rfl rfl<|?_
       cases hm
       exact ⟨v5, rfl, H.reads (hs8)⟩
      ·refine wp_skip<|q_then<|wp_seq<|wp_label<|q_then<|sq<|pr 2 E rfl fun a E=>nt<|wp_ret<|?_
       refine q_jumpR<|out2 E rfl rfl rfl<|have H:=H.nilRow 9 kS;have H:=H.drop 1;?_
       cases hm
       exact ⟨(.slice none 0 0), rfl, H.reads (hs8)⟩
 ·clear E H hm
  rintro a w ⟨rs2, E, H, hs3, hm⟩
  unfold m_path_Split_j1 at hm
  refine wp_seq<|wp_skip<|q_then<|sq<|pr 2 E rfl fun a E=>nt<|wp_ret<|q_jumpR<|out2 E rfl rfl rfl<|?_
  refine have H:=H.nilRow 9 kS;?_
  cases hm
  exact ⟨(.slice none 0 0), rfl, H.reads (hs3)⟩

def m_path_Right (s1 : ByteArray) : Option Bool :=
  (m_path_Split s1).bind fun u2 => some (u2.2)
theorem c_path_Right {w : World} {Fo : List Ob} {rs : List Rp} (s1 : ByteArray) (H : Sep w (Fo) rs) {r : Bool} (hm : m_path_Right s1 = some r) :
    Calls Tryz.prog 98 [.string s1].toArray w (Ret fun v w' => .bool r = v ∧ Sep w' (Fo) (rs)) := by
 unfold m_path_Right at hm
 refine enter Tryz.func98 rfl Tryz.ntmps98 rfl fun a E =>?_
 simp only [enum, Nat.reduceAdd] at E
 refine sq<|pr 1 E rfl fun a E=>nx<|pr 1 E rfl fun a E=>bd hm fun u2 hx3 hm=>x_cl E rfl rfl rfl rfl rfl cf145 (c_path_Split s1 H hx3)<|?_
 rintro _ w ⟨v4, rfl, H⟩ a E
 refine pr 5 E rfl fun a E=>nx<|pr 2 E rfl fun a E=>nt<|wp_ret<|out1 E rfl rfl<|have H:=H.drop 0;?_
 cases hm
 exact ⟨rfl, H.reads (fun r hr => hr)⟩

def m_cantonref01_Split_j2 (rec_1 : (List ByteArray) → Int → Int → Option ((List ByteArray) × Bool)) (x8 : Int) (l12 : (List ByteArray)) (x13 : Int) : Option ((List ByteArray) × Bool) :=
  rec_1 l12 x13 (IntKind.i64.wrap (x8 + 1))
def m_cantonref01_Split_j4 (rec_1 : (List ByteArray) → Int → Int → Option ((List ByteArray) × Bool)) (x8 : Int) (x7 : Int) (s1 : ByteArray) (l6 : (List ByteArray)) (b18 : Bool) : Option ((List ByteArray) × Bool) :=
  if b18 = true then (some ([], false)) else ((ck (0 ≤ x7 ∧ x7 ≤ x8 ∧ x8 ≤ s1.size)).bind fun u21 => (ck (l6.length + ([s1.extract x7.toNat x8.toNat] : List ByteArray).length ≤ LIM)).bind fun u25 => m_cantonref01_Split_j2 rec_1 x8 (l6 ++ ([s1.extract x7.toNat x8.toNat] : List ByteArray)) (IntKind.i64.wrap (x8 + 1)))
def m_cantonref01_Split_j3 (rec_1 : (List ByteArray) → Int → Int → Option ((List ByteArray) × Bool)) (x8 : Int) (x7 : Int) (s1 : ByteArray) (l6 : (List ByteArray)) : Option ((List ByteArray) × Bool) :=
  (ck (0 ≤ x7 ∧ x7 ≤ x8 ∧ x8 ≤ s1.size)).bind fun u27 => (m_cantonref01_Part (s1.extract x7.toNat x8.toNat)).bind fun u29 => if (!u29) = true then (m_cantonref01_Split_j4 rec_1 x8 x7 s1 l6 true) else (m_cantonref01_Split_j4 rec_1 x8 x7 s1 l6 (decide ((l6.length : Int) ≥ 6)))
def m_cantonref01_Split_l1 (s1 : ByteArray) : Nat → (List ByteArray) → Int → Int → Option ((List ByteArray) × Bool)
  | 0, _, _, _ => none
  | k1 + 1, l6, x7, x8 =>
    if (decide (x8 ≤ (s1.size : Int))) = true then (if (decide (x8 < (s1.size : Int))) = true then ((idx s1.data.toList x8).bind fun x33 => if ((x33.toNat : Int) != 47) = true then (m_cantonref01_Split_j2 (m_cantonref01_Split_l1 s1 k1) x8 l6 x7) else (m_cantonref01_Split_j3 (m_cantonref01_Split_l1 s1 k1) x8 x7 s1 l6)) else (m_cantonref01_Split_j3 (m_cantonref01_Split_l1 s1 k1) x8 x7 s1 l6)) else (some (l6, true))
def m_cantonref01_Split_j1 (s1 : ByteArray) (b2 : Bool) : Option ((List ByteArray) × Bool) :=
  if b2 = true then (some ([], false)) else (m_cantonref01_Split_l1 s1 (((s1.size : Int) - 1 : Int).toNat + 2) [] 1 1)
def m_cantonref01_Split (s1 : ByteArray) : Option ((List ByteArray) × Bool) :=
  if (sEq s1 (ByteArray.mk #[47])) = true then (some ([], true)) else (if (sEq s1 (ByteArray.mk #[])) = true then (m_cantonref01_Split_j1 s1 true) else ((idx s1.data.toList 0).bind fun x36 => m_cantonref01_Split_j1 s1 ((x36.toNat : Int) != 47)))
theorem c_cantonref01_Split {w : World} {Fo : List Ob} {rs : List Rp} (s1 : ByteArray) (H : Sep w (Fo) rs) {r : (List ByteArray) × Bool} (hm : m_cantonref01_Split s1 = some r) :
    Calls Tryz.prog 129 [.string s1].toArray w (Ret fun v w' => ∃ (v5001 : Value), .tuple #[v5001, .bool r.2] = v ∧ Sep w' (Row 9 kS v5001 r.1 :: Fo) (rs)) := by
 unfold m_cantonref01_Split at hm
 refine enter Tryz.func129 rfl Tryz.ntmps129 rfl fun a E =>?_
 simp only [enum, Nat.reduceAdd] at E
 refine sq<|pr 2 E rfl fun a E=>nt<|wp_seq<|sq<|pr 2 E rfl fun a E=>nt<|wif E hm rfl (fun hm=>?_) fun hm=>?_
 ·refine sq<|pr 2 E rfl fun a E=>nt<|wp_ret<|q_thenR<|out2 E rfl rfl rfl<|have H:=H.nilRow 9 kS;?_
  cases hm
  exact ⟨(.slice none 0 0), rfl, H.reads (fun r hr => hr)⟩
 ·refine wp_skip<|q_then<|wp_seq<|wp_seq_cut (fun a w => ∃ (b2 : Bool) (rs3 : List Rp), Env 53 a [(0, .string s1), (15, .bool b2)] ∧ Sep w (Fo) rs3 ∧ (∀ r, r ∈ rs → r ∈ rs3) ∧ m_cantonref01_Split_j1 s1 b2 = some r) ?_ ?_
  ·refine wp_region_lit<|pr 3 E rfl fun a E=>cs hm (fun hb35 hm=>?_) fun hb35 hm=>?_
   ·exact pk 4 E (kc 11 rfl hb35) rfl fun a E=>nt<|⟨true, _, E.sel [0, 15] rfl, H, fun r hr => hr, hm⟩
   ·exact pk 1 E (kc 11 rfl hb35) rfl fun a E=>bd hm fun x36 hx37 hm=>st_val E (ws' (d := 11) E rfl rfl rfl rfl hb35) rfl rfl (x_ix E rfl rfl rfl Tryz.underlying9 hx37) fun a E=>pk 2 E (kc 11 rfl hb35) rfl fun a E=>nt<|⟨(x36.toNat : Int) != 47, _, E.sel [0, 15] rfl, H, fun r hr => hr, hm⟩
  ·clear E H hm
   rintro a w ⟨b2, rs3, E, H, hs4, hm⟩
   unfold m_cantonref01_Split_j1 at hm
   refine wif E hm rfl (fun hm=>?_) fun hm=>?_
   ·refine sq<|pr 2 E rfl fun a E=>nt<|wp_ret<|q_thenR<|out2 E rfl rfl rfl<|have H:=H.nilRow 9 kS;?_
    cases hm
    exact ⟨(.slice none 0 0), rfl, H.reads (hs4)⟩
   ·refine wp_skip<|q_then<|sq<|pr 1 E rfl fun a E=>nx<|pr 1 E rfl fun a E=>nt<|wp_seq<|sq<|?_
    refine pr 1 E rfl fun a E=>nt<|wp_block<|wp_loop_g (fun k1 a w => ∃ (v5 : Value) (l6 : (List ByteArray)) (x7 : Int) (x8 : Int) (rs9 : List Rp), Env 53 a [(0, .string s1), (4, v5), (5, .int .i64 x7), (6, .int .i64 x8)] ∧ Sep w (Row 9 kS v5 l6 :: Fo) rs9 ∧ (∀ r, r ∈ rs → r ∈ rs9) ∧ m_cantonref01_Split_l1 s1 k1 l6 x7 x8 = some r) (((s1.size : Int) - 1 : Int).toNat + 2) ?_ ?_
    ·exact have H:=H.nilRow 9 kS;⟨(.slice none 0 0), [], 1, 1, _, E.sel [0, 4, 5, 6] rfl, H, hs4, hm⟩
    ·clear E H hm
     rintro k1 a w ⟨v5, l6, x7, x8, rs9, E, H, hs10, hm⟩
     cases k1 with
     | zero => exact (none_some hm rfl).elim
     | succ k1 =>
      unfold m_cantonref01_Split_l1 at hm
      refine wp_seq<|sq<|pr 4 E rfl fun a E=>nt<|wif E hm rfl (fun hm=>?_) fun hm=>?_
      ·refine wp_skip<|q_then<|wp_seq_cut (fun a w => ∃ (v11 : Value) (l12 : (List ByteArray)) (x13 : Int) (rs14 : List Rp), Env 53 a [(0, .string s1), (4, v11), (5, .int .i64 x13), (6, .int .i64 x8)] ∧ Sep w (Row 9 kS v11 l12 :: Fo) rs14 ∧ (∀ r, r ∈ rs → r ∈ rs14) ∧ m_cantonref01_Split_j2 (m_cantonref01_Split_l1 s1 k1) x8 l12 x13 = some r) ?_ ?_
       ·refine wp_block<|wp_seq_cut (fun a w => ∃ (rs16 : List Rp), Env 53 a [(0, .string s1), (4, v5), (5, .int .i64 x7), (6, .int .i64 x8)] ∧ Sep w (Row 9 kS v5 l6 :: Fo) rs16 ∧ (∀ r, r ∈ rs → r ∈ rs16) ∧ m_cantonref01_Split_j3 (m_cantonref01_Split_l1 s1 k1) x8 x7 s1 l6 = some r) ?_ ?_
        ·refine sq<|pr 5 E rfl fun a E=>cs hm (fun hb32 hm=>?_) fun hb32 hm=>?_
         ·refine pk 2 E (kc 26 rfl hb32) rfl fun a E=>bd hm fun x33 hx34 hm=>st_val E (ws' (d := 26) E rfl rfl rfl rfl hb32) rfl rfl (x_ix E rfl rfl rfl Tryz.underlying9 hx34) fun a E=>pk 2 E (kc 26 rfl hb32) rfl fun a E=>nt<|wif E hm rfl (fun hm=>?_) fun hm=>?_
          ·exact wp_exit<|q_thenX<|q_hit<|q_then<|⟨v5, l6, x7, _, E.sel [0, 4, 5, 6] rfl, H, hs10, hm⟩
          ·exact wp_skip<|q_then<|⟨_, E.sel [0, 4, 5, 6] rfl, H, hs10, hm⟩
         ·exact pk 5 E (kc 26 rfl hb32) rfl fun a E=>nt<|wp_cond_false (E.eval rfl)<|wp_skip<|q_then<|⟨_, E.sel [0, 4, 5, 6] rfl, H, hs10, hm⟩
        ·clear E H hm
         rintro a w ⟨rs16, E, H, hs17, hm⟩
         unfold m_cantonref01_Split_j3 at hm
         refine wp_seq<|wp_seq_cut (fun a w => ∃ (b18 : Bool) (rs19 : List Rp), Env 53 a [(0, .string s1), (4, v5), (5, .int .i64 x7), (6, .int .i64 x8), (42, .bool b18)] ∧ Sep w (Row 9 kS v5 l6 :: Fo) rs19 ∧ (∀ r, r ∈ rs → r ∈ rs19) ∧ m_cantonref01_Split_j4 (m_cantonref01_Split_l1 s1 k1) x8 x7 s1 l6 b18 = some r) ?_ ?_
         ·refine wp_region_lit<|pr 3 E rfl fun a E=>bk hm fun hx28 hm=>sv E rfl rfl rfl (x_sub E rfl rfl rfl rfl Tryz.underlying9 hx28) fun a E=>bd hm fun u29 hx30 hm=>x_cl E rfl rfl rfl rfl rfl cf155 (c_cantonref01_Part (s1.extract x7.toNat x8.toNat) H hx30)<|?_
          rintro _ w ⟨rfl, H⟩ a E
          refine pr 2 E rfl fun a E=>cs hm (fun hb31 hm=>?_) fun hb31 hm=>?_
          ·exact pk 4 E (kc 38 rfl hb31) rfl fun a E=>nt<|⟨true, _, E.sel [0, 4, 5, 6, 42] rfl, H, hs17, hm⟩
          ·exact pk 1 E (kc 38 rfl hb31) rfl fun a E=>st_val E (ws' (d := 38) E rfl rfl rfl rfl hb31) rfl rfl (x_lenR (i := 0) E H rfl rfl rfl Tryz.underlying49) fun a E=>pk 2 E (kc 38 rfl hb31) rfl fun a E=>nt<|⟨decide ((l6.length : Int) ≥ 6), _, E.sel [0, 4, 5, 6, 42] rfl, H, hs17, hm⟩
         ·clear E H hm
          rintro a w ⟨b18, rs19, E, H, hs20, hm⟩
          unfold m_cantonref01_Split_j4 at hm
          refine wif E hm rfl (fun hm=>?_) fun hm=>?_
          ·refine sq<|pr 2 E rfl fun a E=>nt<|wp_ret<|q_thenR<|q_blkR<|q_thenR<|q_thenR<|q_blkR<|?_
           refine q_thenR<|out2 E rfl rfl rfl<|have H:=H.nilRow 9 kS;have H:=H.drop 1;?_
           cases hm
           exact ⟨(.slice none 0 0), rfl, H.reads (hs20)⟩
          ·refine wp_skip<|q_then<|sq<|pr 4 E rfl fun a E=>bk hm fun hx22 hm=>sv E rfl rfl rfl (x_sub E rfl rfl rfl rfl Tryz.underlying9 hx22) fun a E=>st_bsR (e := 9) (d := kS) (cs := [.string (s1.extract x7.toNat x8.toNat)]) (xs := [s1.extract x7.toNat x8.toNat]) E H (wn rfl) rfl rfl rfl (E.evs rfl) (by kernel_rfl) rfl (fun ok hr => (Rows.single (d := kS) (cs := [.string (s1.extract x7.toNat x8.toNat)]) (x := s1.extract x7.toNat x8.toNat) rfl)) fun v23 w a H E=>bk hm fun hx26 hm=>st_append (i := 0) E H (wn rfl) rfl rfl rfl rfl rfl rfl (src_rd m0) Tryz.underlying49 inf9 rfl hx26 rfl fun v24 w a H E=>?_
           exact pr 1 E rfl fun a E=>nt<|wp_region_lit<|pr 3 E rfl fun a E=>wpList_nil<|q_blk<|q_then<|⟨v24, l6 ++ ([s1.extract x7.toNat x8.toNat] : List ByteArray), IntKind.i64.wrap (x8 + 1), _, E.sel [0, 4, 5, 6] rfl, H, fun r hr => (t1 (hs20 r hr)), hm⟩
       ·clear E H hm
        rintro a w ⟨v11, l12, x13, rs14, E, H, hs15, hm⟩
        unfold m_cantonref01_Split_j2 at hm
        exact wp_region_lit<|pr 3 E rfl fun a E=>nt<|⟨k1, Nat.lt_succ_self k1, v11, l12, x13, IntKind.i64.wrap (x8 + 1), _, E.sel [0, 4, 5, 6] rfl, H, hs15, hm⟩
      ·refine wp_exit<|q_thenX<|q_thenX<|q_hit<|q_then<|sq<|pr 3 E rfl fun a E=>nt<|wp_ret<|?_
       refine out2 E rfl rfl rfl<|?_
       cases hm
       exact ⟨v5, rfl, H.reads (hs10)⟩

def m_cantonref01_Right (s1 : ByteArray) : Option Bool :=
  (m_cantonref01_Split s1).bind fun u2 => some (u2.2)
theorem c_cantonref01_Right {w : World} {Fo : List Ob} {rs : List Rp} (s1 : ByteArray) (H : Sep w (Fo) rs) {r : Bool} (hm : m_cantonref01_Right s1 = some r) :
    Calls Tryz.prog 71 [.string s1].toArray w (Ret fun v w' => .bool r = v ∧ Sep w' (Fo) (rs)) := by
 unfold m_cantonref01_Right at hm
 refine enter Tryz.func71 rfl Tryz.ntmps71 rfl fun a E =>?_
 simp only [enum, Nat.reduceAdd] at E
 refine sq<|pr 1 E rfl fun a E=>nx<|pr 1 E rfl fun a E=>bd hm fun u2 hx3 hm=>x_cl E rfl rfl rfl rfl rfl cf129 (c_cantonref01_Split s1 H hx3)<|?_
 rintro _ w ⟨v4, rfl, H⟩ a E
 refine pr 5 E rfl fun a E=>nx<|pr 2 E rfl fun a E=>nt<|wp_ret<|out1 E rfl rfl<|have H:=H.drop 0;?_
 cases hm
 exact ⟨rfl, H.reads (fun r hr => hr)⟩

def m_internal_bytealg_LastIndexByteString_l1 (s1 : ByteArray) : Nat → Int → Int → Option Int
  | 0, _, _ => none
  | k1 + 1, x3, x4 =>
    if (decide (x4 ≥ 0)) = true then ((idx s1.data.toList x4).bind fun x7 => if ((x7.toNat : Int) == x3) = true then (some (x4)) else (m_internal_bytealg_LastIndexByteString_l1 s1 k1 x3 (IntKind.i64.wrap (x4 - 1)))) else (some ((-1)))
def m_internal_bytealg_LastIndexByteString (s1 : ByteArray) (x2 : Int) : Option Int :=
  m_internal_bytealg_LastIndexByteString_l1 s1 (((IntKind.i64.wrap ((s1.size : Int) - 1)) - 0 : Int).toNat + 2) x2 (IntKind.i64.wrap ((s1.size : Int) - 1))
theorem c_internal_bytealg_LastIndexByteString {w : World} {Fo : List Ob} {rs : List Rp} (s1 : ByteArray) (x2 : Int) (H : Sep w (Fo) rs) {r : Int} (hm : m_internal_bytealg_LastIndexByteString s1 x2 = some r) :
    Calls Tryz.prog 194 [.string s1, .int .u8 x2].toArray w (Ret fun v w' => .int .i64 r = v ∧ Sep w' (Fo) (rs)) := by
 unfold m_internal_bytealg_LastIndexByteString at hm
 refine enter Tryz.func194 rfl Tryz.ntmps194 rfl fun a E =>?_
 simp only [enum, Nat.reduceAdd] at E
 refine sq<|pr 1 E rfl fun a E=>nt<|wp_seq<|sq<|pr 4 E rfl fun a E=>nt<|wp_block<|wp_loop_g (fun k1 a w => ∃ (x3 : Int) (x4 : Int) (rs5 : List Rp), Env 19 a [(0, .string s1), (1, .int .u8 x3), (5, .int .i64 x4)] ∧ Sep w (Fo) rs5 ∧ (∀ r, r ∈ rs → r ∈ rs5) ∧ m_internal_bytealg_LastIndexByteString_l1 s1 k1 x3 x4 = some r) (((IntKind.i64.wrap ((s1.size : Int) - 1)) - 0 : Int).toNat + 2) ?_ ?_
 ·exact ⟨x2, IntKind.i64.wrap ((s1.size : Int) - 1), _, E.sel [0, 1, 5] rfl, H, fun r hr => hr, hm⟩
 ·clear E H hm
  rintro k1 a w ⟨x3, x4, rs5, E, H, hs6, hm⟩
  cases k1 with
  | zero => exact (none_some hm rfl).elim
  | succ k1 =>
   unfold m_internal_bytealg_LastIndexByteString_l1 at hm
   refine wp_seq<|sq<|pr 2 E rfl fun a E=>nt<|wif E hm rfl (fun hm=>?_) fun hm=>?_
   ·refine wp_skip<|q_then<|wp_seq<|wp_block<|sq<|pr 2 E rfl fun a E=>bd hm fun x7 hx8 hm=>sv E rfl rfl rfl (x_ix E rfl rfl rfl Tryz.underlying9 hx8) fun a E=>pr 2 E rfl fun a E=>?_
    refine nt<|wif E hm rfl (fun hm=>?_) fun hm=>?_
    ·refine sq<|pr 2 E rfl fun a E=>nt<|wp_ret<|q_blkR<|q_thenR<|q_thenR<|q_blkR<|q_thenR<|?_
     refine out1 E rfl rfl<|?_
     cases hm
     exact ⟨rfl, H.reads (hs6)⟩
    ·exact wp_skip<|q_blk<|q_then<|wp_region_lit<|pr 3 E rfl fun a E=>nt<|⟨k1, Nat.lt_succ_self k1, x3, IntKind.i64.wrap (x4 - 1), _, E.sel [0, 1, 5] rfl, H, hs6, hm⟩
   ·refine wp_exit<|q_thenX<|q_thenX<|q_hit<|q_then<|sq<|pr 1 E rfl fun a E=>nt<|wp_ret<|?_
    refine out1 E rfl rfl<|?_
    cases hm
    exact ⟨rfl, H.reads (hs6)⟩

def m_strings_LastIndexByte (s1 : ByteArray) (x2 : Int) : Option Int :=
  (m_internal_bytealg_LastIndexByteString s1 x2).bind fun u3 => some (u3)
theorem c_strings_LastIndexByte {w : World} {Fo : List Ob} {rs : List Rp} (s1 : ByteArray) (x2 : Int) (H : Sep w (Fo) rs) {r : Int} (hm : m_strings_LastIndexByte s1 x2 = some r) :
    Calls Tryz.prog 178 [.string s1, .int .u8 x2].toArray w (Ret fun v w' => .int .i64 r = v ∧ Sep w' (Fo) (rs)) := by
 unfold m_strings_LastIndexByte at hm
 refine enter Tryz.func178 rfl Tryz.ntmps178 rfl fun a E =>?_
 simp only [enum, Nat.reduceAdd] at E
 refine sq<|pr 1 E rfl fun a E=>nx<|pr 2 E rfl fun a E=>bd hm fun u3 hx4 hm=>x_cl E rfl rfl rfl rfl rfl cf194 (c_internal_bytealg_LastIndexByteString s1 x2 H hx4)<|?_
 rintro _ w ⟨rfl, H⟩ a E
 refine pr 1 E rfl fun a E=>nt<|wp_ret<|out1 E rfl rfl<|?_
 cases hm
 exact ⟨rfl, H.reads (fun r hr => hr)⟩

def m_path_cut_j1 (s1 : ByteArray) (b2 : Bool) : Option (ByteArray × ByteArray × Bool) :=
  if b2 = true then (some ((ByteArray.mk #[]), (ByteArray.mk #[]), false)) else ((m_strings_LastIndexByte s1 47).bind fun u5 => (ck (0 ≤ (max u5 1) ∧ (max u5 1) ≤ s1.size)).bind fun u7 => (ck (0 ≤ (IntKind.i64.wrap (u5 + 1)) ∧ (IntKind.i64.wrap (u5 + 1)) ≤ s1.size)).bind fun u9 => some (s1.extract 0 (max u5 1).toNat, s1.extract (IntKind.i64.wrap (u5 + 1)).toNat s1.size, true))
def m_path_cut (s1 : ByteArray) : Option (ByteArray × ByteArray × Bool) :=
  (m_path_Right s1).bind fun u11 => if (!u11) = true then (m_path_cut_j1 s1 true) else (m_path_cut_j1 s1 (sEq s1 (ByteArray.mk #[47])))
theorem c_path_cut {w : World} {Fo : List Ob} {rs : List Rp} (s1 : ByteArray) (H : Sep w (Fo) rs) {r : ByteArray × ByteArray × Bool} (hm : m_path_cut s1 = some r) :
    Calls Tryz.prog 149 [.string s1].toArray w (Ret fun v w' => .tuple #[.string r.1, .string r.2.1, .bool r.2.2] = v ∧ Sep w' (Fo) (rs)) := by
 unfold m_path_cut at hm
 refine enter Tryz.func149 rfl Tryz.ntmps149 rfl fun a E =>?_
 simp only [enum, Nat.reduceAdd] at E
 refine sq<|pr 3 E rfl fun a E=>nt<|wp_seq<|wp_seq_cut (fun a w => ∃ (b2 : Bool) (rs3 : List Rp), Env 23 a [(0, .string s1), (12, .bool b2)] ∧ Sep w (Fo) rs3 ∧ (∀ r, r ∈ rs → r ∈ rs3) ∧ m_path_cut_j1 s1 b2 = some r) ?_ ?_
 ·refine wp_region_lit<|pr 1 E rfl fun a E=>bd hm fun u11 hx12 hm=>x_cl E rfl rfl rfl rfl rfl cf98 (c_path_Right s1 H hx12)<|?_
  rintro _ w ⟨rfl, H⟩ a E
  refine pr 2 E rfl fun a E=>cs hm (fun hb13 hm=>?_) fun hb13 hm=>?_
  ·exact pk 3 E (kc 9 rfl hb13) rfl fun a E=>nt<|⟨true, _, E.sel [0, 12] rfl, H, fun r hr => hr, hm⟩
  ·exact pk 3 E (kc 9 rfl hb13) rfl fun a E=>nt<|⟨sEq s1 (ByteArray.mk #[47]), _, E.sel [0, 12] rfl, H, fun r hr => hr, hm⟩
 ·clear E H hm
  rintro a w ⟨b2, rs3, E, H, hs4, hm⟩
  unfold m_path_cut_j1 at hm
  refine wif E hm rfl (fun hm=>?_) fun hm=>?_
  ·refine sq<|pr 3 E rfl fun a E=>nt<|wp_ret<|q_thenR<|out3 E rfl rfl rfl rfl<|?_
   cases hm
   exact ⟨rfl, H.reads (hs4)⟩
  ·refine wp_skip<|q_then<|sq<|pr 1 E rfl fun a E=>bd hm fun u5 hx6 hm=>x_cl E rfl rfl rfl rfl rfl cf178 (c_strings_LastIndexByte s1 47 H hx6)<|?_
   rintro _ w ⟨rfl, H⟩ a E
   refine pr 1 E rfl fun a E=>nt<|wp_seq<|dw [(0, 0), (1, 0), (2, 0), (3, 0), (4, 0), (5, 0), (6, 0), (7, 0), (8, 1), (9, 2), (10, 2)] [] [] H (by kernel_rfl) (fun _ _ _ h => False.elim h.2) fun w W0 hI H=>fn 2 E rfl fun a E=>fr_val E rfl (wn rfl) rfl rfl (fun w hW=>(x_max (t := 0) E rfl rfl rfl)) fun a E=>?_
   refine bk hm fun hx8 hm=>fr_val E rfl (wn rfl) rfl rfl (fun w hW=>(x_subH E rfl rfl rfl Tryz.underlying9 hx8)) fun a E=>?_
   refine fn 3 E rfl fun a E=>bk hm fun hx10 hm=>fr_val E rfl (wn rfl) rfl rfl (fun w hW=>(x_subL E rfl rfl rfl Tryz.underlying9 hx10)) fun a E=>?_
   refine fr_op rfl<|pr 1 E rfl fun a E=>nt<|?_
   refine ⟨⟨_, _, H, (subO_nil), (sub_nil)⟩, ?_⟩
   refine fr_tail rfl<|pr 1 E rfl fun a E=>nt<|fr_tail rfl<|pr 1 E rfl fun a E=>nt<|fr_nil<|?_
   clear hI
   refine q_then<|wp_ret<|out3 E rfl rfl rfl rfl<|?_
   cases hm
   exact ⟨rfl, H.reads (hs4)⟩

def m_path_Parent (s1 : ByteArray) : Option (ByteArray × Bool) :=
  (m_path_cut s1).bind fun u2 => some (u2.1, u2.2.2)
theorem c_path_Parent {w : World} {Fo : List Ob} {rs : List Rp} (s1 : ByteArray) (H : Sep w (Fo) rs) {r : ByteArray × Bool} (hm : m_path_Parent s1 = some r) :
    Calls Tryz.prog 111 [.string s1].toArray w (Ret fun v w' => .tuple #[.string r.1, .bool r.2] = v ∧ Sep w' (Fo) (rs)) := by
 unfold m_path_Parent at hm
 refine enter Tryz.func111 rfl Tryz.ntmps111 rfl fun a E =>?_
 simp only [enum, Nat.reduceAdd] at E
 refine sq<|pr 2 E rfl fun a E=>nx<|pr 1 E rfl fun a E=>bd hm fun u2 hx3 hm=>x_cl E rfl rfl rfl rfl rfl cf149 (c_path_cut s1 H hx3)<|?_
 rintro _ w ⟨rfl, H⟩ a E
 refine pr 7 E rfl fun a E=>nx<|pr 4 E rfl fun a E=>nt<|wp_ret<|out2 E rfl rfl rfl<|?_
 cases hm
 exact ⟨rfl, H.reads (fun r hr => hr)⟩

def m_path_Last (s1 : ByteArray) : Option ByteArray :=
  (m_path_cut s1).bind fun u2 => some (u2.2.1)
theorem c_path_Last {w : World} {Fo : List Ob} {rs : List Rp} (s1 : ByteArray) (H : Sep w (Fo) rs) {r : ByteArray} (hm : m_path_Last s1 = some r) :
    Calls Tryz.prog 119 [.string s1].toArray w (Ret fun v w' => .string r = v ∧ Sep w' (Fo) (rs)) := by
 unfold m_path_Last at hm
 refine enter Tryz.func119 rfl Tryz.ntmps119 rfl fun a E =>?_
 simp only [enum, Nat.reduceAdd] at E
 refine sq<|pr 1 E rfl fun a E=>nx<|pr 1 E rfl fun a E=>bd hm fun u2 hx3 hm=>x_cl E rfl rfl rfl rfl rfl cf149 (c_path_cut s1 H hx3)<|?_
 rintro _ w ⟨rfl, H⟩ a E
 refine pr 7 E rfl fun a E=>nx<|pr 2 E rfl fun a E=>nt<|wp_ret<|out1 E rfl rfl<|?_
 cases hm
 exact ⟨rfl, H.reads (fun r hr => hr)⟩

def m_internal_stringslite_HasSuffix (s1 : ByteArray) (s2 : ByteArray) : Option Bool :=
  if (decide ((s1.size : Int) ≥ (s2.size : Int))) = true then ((ck (0 ≤ (IntKind.i64.wrap ((s1.size : Int) - (s2.size : Int))) ∧ (IntKind.i64.wrap ((s1.size : Int) - (s2.size : Int))) ≤ s1.size)).bind fun u4 => some (sEq (s1.extract (IntKind.i64.wrap ((s1.size : Int) - (s2.size : Int))).toNat s1.size) s2)) else (some (false))
theorem c_internal_stringslite_HasSuffix {w : World} {Fo : List Ob} {rs : List Rp} (s1 : ByteArray) (s2 : ByteArray) (H : Sep w (Fo) rs) {r : Bool} (hm : m_internal_stringslite_HasSuffix s1 s2 = some r) :
    Calls Tryz.prog 198 [.string s1, .string s2].toArray w (Ret fun v w' => .bool r = v ∧ Sep w' (Fo) (rs)) := by
 unfold m_internal_stringslite_HasSuffix at hm
 refine enter Tryz.func198 rfl Tryz.ntmps198 rfl fun a E =>?_
 simp only [enum, Nat.reduceAdd] at E
 refine sq<|pr 1 E rfl fun a E=>nx<|pr 6 E rfl fun a E=>cs hm (fun hb3 hm=>?_) fun hb3 hm=>?_
 ·refine pk 6 E (kc 10 rfl hb3) rfl fun a E=>bk hm fun hx5 hm=>st_val E (ws' (d := 10) E rfl rfl rfl rfl hb3) rfl rfl (x_subL E rfl rfl rfl Tryz.underlying9 hx5) fun a E=>pk 4 E (kc 10 rfl hb3) rfl fun a E=>nt<|wp_ret<|out1 E rfl rfl<|?_
  cases hm
  exact ⟨rfl, H.reads (fun r hr => hr)⟩
 ·refine pk 11 E (kc 10 rfl hb3) rfl fun a E=>nt<|wp_ret<|out1 E rfl rfl<|?_
  cases hm
  exact ⟨rfl, H.reads (fun r hr => hr)⟩

def m_internal_stringslite_TrimSuffix (s1 : ByteArray) (s2 : ByteArray) : Option ByteArray :=
  (m_internal_stringslite_HasSuffix s1 s2).bind fun u3 => if u3 = true then ((ck (0 ≤ (IntKind.i64.wrap ((s1.size : Int) - (s2.size : Int))) ∧ (IntKind.i64.wrap ((s1.size : Int) - (s2.size : Int))) ≤ s1.size)).bind fun u5 => some (s1.extract 0 (IntKind.i64.wrap ((s1.size : Int) - (s2.size : Int))).toNat)) else (some (s1))
theorem c_internal_stringslite_TrimSuffix {w : World} {Fo : List Ob} {rs : List Rp} (s1 : ByteArray) (s2 : ByteArray) (H : Sep w (Fo) rs) {r : ByteArray} (hm : m_internal_stringslite_TrimSuffix s1 s2 = some r) :
    Calls Tryz.prog 183 [.string s1, .string s2].toArray w (Ret fun v w' => .string r = v ∧ Sep w' (Fo) (rs)) := by
 unfold m_internal_stringslite_TrimSuffix at hm
 refine enter Tryz.func183 rfl Tryz.ntmps183 rfl fun a E =>?_
 simp only [enum, Nat.reduceAdd] at E
 refine sq<|pr 1 E rfl fun a E=>nt<|wp_seq<|sq<|pr 2 E rfl fun a E=>bd hm fun u3 hx4 hm=>x_cl E rfl rfl rfl rfl rfl cf198 (c_internal_stringslite_HasSuffix s1 s2 H hx4)<|?_
 rintro _ w ⟨rfl, H⟩ a E
 refine nt<|wif E hm rfl (fun hm=>?_) fun hm=>?_
 ·refine sq<|pr 6 E rfl fun a E=>bk hm fun hx6 hm=>sv E rfl rfl rfl (x_subH E rfl rfl rfl Tryz.underlying9 hx6) fun a E=>pr 1 E rfl fun a E=>nt<|wp_ret<|q_thenR<|out1 E rfl rfl<|?_
  cases hm
  exact ⟨rfl, H.reads (fun r hr => hr)⟩
 ·refine wp_skip<|q_then<|sq<|pr 2 E rfl fun a E=>nt<|wp_ret<|out1 E rfl rfl<|?_
  cases hm
  exact ⟨rfl, H.reads (fun r hr => hr)⟩

def m_strings_TrimSuffix (s1 : ByteArray) (s2 : ByteArray) : Option ByteArray :=
  (m_internal_stringslite_TrimSuffix s1 s2).bind fun u3 => some (u3)
theorem c_strings_TrimSuffix {w : World} {Fo : List Ob} {rs : List Rp} (s1 : ByteArray) (s2 : ByteArray) (H : Sep w (Fo) rs) {r : ByteArray} (hm : m_strings_TrimSuffix s1 s2 = some r) :
    Calls Tryz.prog 152 [.string s1, .string s2].toArray w (Ret fun v w' => .string r = v ∧ Sep w' (Fo) (rs)) := by
 unfold m_strings_TrimSuffix at hm
 refine enter Tryz.func152 rfl Tryz.ntmps152 rfl fun a E =>?_
 simp only [enum, Nat.reduceAdd] at E
 refine sq<|pr 1 E rfl fun a E=>nx<|pr 2 E rfl fun a E=>bd hm fun u3 hx4 hm=>x_cl E rfl rfl rfl rfl rfl cf183 (c_internal_stringslite_TrimSuffix s1 s2 H hx4)<|?_
 rintro _ w ⟨rfl, H⟩ a E
 refine pr 1 E rfl fun a E=>nt<|wp_ret<|out1 E rfl rfl<|?_
 cases hm
 exact ⟨rfl, H.reads (fun r hr => hr)⟩

def m_path_Join_j1 (s1 : ByteArray) (s2 : ByteArray) (b6 : Bool) : Option (ByteArray × Bool) :=
  if b6 = true then (some ((ByteArray.mk #[]), false)) else ((m_strings_TrimSuffix s1 (ByteArray.mk #[47])).bind fun u9 => (ck (u9.size + (ByteArray.mk #[47]).size ≤ 4611686018427387904)).bind fun u12 => (ck ((u9 ++ (ByteArray.mk #[47])).size + s2.size ≤ 4611686018427387904)).bind fun u14 => some ((u9 ++ (ByteArray.mk #[47])) ++ s2, true))
def m_path_Join (s1 : ByteArray) (s2 : ByteArray) : Option (ByteArray × Bool) :=
  (m_path_Split s1).bind fun u3 => if (!u3.2) = true then (m_path_Join_j1 s1 s2 true) else ((m_path_part s2).bind fun u16 => if (!u16) = true then (m_path_Join_j1 s1 s2 true) else (m_path_Join_j1 s1 s2 ((u3.1.length : Int) == 6)))
theorem c_path_Join {w : World} {Fo : List Ob} {rs : List Rp} (s1 : ByteArray) (s2 : ByteArray) (H : Sep w (Fo) rs) {r : ByteArray × Bool} (hm : m_path_Join s1 s2 = some r) :
    Calls Tryz.prog 120 [.string s1, .string s2].toArray w (Ret fun v w' => .tuple #[.string r.1, .bool r.2] = v ∧ Sep w' (Fo) (rs)) := by
 unfold m_path_Join at hm
 refine enter Tryz.func120 rfl Tryz.ntmps120 rfl fun a E =>?_
 simp only [enum, Nat.reduceAdd] at E
 refine sq<|pr 2 E rfl fun a E=>nx<|pr 1 E rfl fun a E=>bd hm fun u3 hx4 hm=>x_cl E rfl rfl rfl rfl rfl cf145 (c_path_Split s1 H hx4)<|?_
 rintro _ w ⟨v5, rfl, H⟩ a E
 refine pr 5 E rfl fun a E=>nt<|wp_seq<|wp_seq_cut (fun a w => ∃ (b6 : Bool) (rs7 : List Rp), Env 30 a [(0, .string s1), (1, .string s2), (24, .bool b6)] ∧ Sep w (Fo) rs7 ∧ (∀ r, r ∈ rs → r ∈ rs7) ∧ m_path_Join_j1 s1 s2 b6 = some r) ?_ ?_
 ·refine wp_region_lit<|pr 3 E rfl fun a E=>cs hm (fun hb15 hm=>?_) fun hb15 hm=>?_
  ·exact pk 9 E (kc 15 rfl hb15) rfl fun a E=>nt<|have H:=H.drop 0;⟨true, _, E.sel [0, 1, 24] rfl, H, fun r hr => hr, hm⟩
  ·refine pk 1 E (kc 15 rfl hb15) rfl fun a E=>bd hm fun u16 hx17 hm=>st_call E (ws' (d := 15) E rfl rfl rfl rfl hb15) rfl rfl (x_call E rfl rfl (cf151 _)) (c_path_part s2 H hx17)<|?_
   rintro _ w ⟨rfl, H⟩ a E
   refine pk 3 E (kc 15 rfl hb15) rfl fun a E=>cs hm (fun hb18 hm=>?_) fun hb18 hm=>?_
   ·exact pk 4 E (kc 20 rfl hb18) rfl fun a E=>nt<|have H:=H.drop 0;⟨true, _, E.sel [0, 1, 24] rfl, H, fun r hr => hr, hm⟩
   ·exact pk 1 E (kc 20 rfl hb18) rfl fun a E=>st_val E (ws' (d := 20) E rfl rfl rfl rfl hb18) rfl rfl (x_lenR (i := 0) E H rfl rfl rfl Tryz.underlying49) fun a E=>pk 2 E (kc 20 rfl hb18) rfl fun a E=>nt<|have H:=H.drop 0;⟨(u3.1.length : Int) == 6, _, E.sel [0, 1, 24] rfl, H, fun r hr => hr, hm⟩
 ·clear E H hm
  rintro a w ⟨b6, rs7, E, H, hs8, hm⟩
  unfold m_path_Join_j1 at hm
  refine wif E hm rfl (fun hm=>?_) fun hm=>?_
  ·refine sq<|pr 2 E rfl fun a E=>nt<|wp_ret<|q_thenR<|out2 E rfl rfl rfl<|?_
   cases hm
   exact ⟨rfl, H.reads (hs8)⟩
  ·refine wp_skip<|q_then<|sq<|pr 1 E rfl fun a E=>bd hm fun u9 hx10 hm=>x_cl E rfl rfl rfl rfl rfl cf152 (c_strings_TrimSuffix s1 (ByteArray.mk #[47]) H hx10)<|?_
   rintro _ w ⟨rfl, H⟩ a E
   refine bk hm fun hx11 hm=>sv E rfl rfl rfl (x_cat E rfl rfl rfl hx11) fun a E=>pr 1 E rfl fun a E=>bk hm fun hx13 hm=>sv E rfl rfl rfl (x_cat E rfl rfl rfl hx13) fun a E=>pr 2 E rfl fun a E=>nt<|wp_ret<|out2 E rfl rfl rfl<|?_
   cases hm
   exact ⟨rfl, H.reads (hs8)⟩

def m_path_Numbered_j1 (x2 : Int) (s1 : ByteArray) (b4 : Bool) : Option (ByteArray × Bool) :=
  if b4 = true then (some ((ByteArray.mk #[]), false)) else ((ck (-9223372036854775808 ≤ IntKind.i64.wrap (10000 + x2) ∧ IntKind.i64.wrap (10000 + x2) ≤ 9223372036854775807)).bind fun u8 => (ck (0 ≤ (1 : Int) ∧ (1 : Int) ≤ (ByteArray.mk (Lib.itoa (IntKind.i64.wrap (10000 + x2))).toArray).size)).bind fun u10 => (ck (s1.size + ((ByteArray.mk (Lib.itoa (IntKind.i64.wrap (10000 + x2))).toArray).extract (1 : Int).toNat (ByteArray.mk (Lib.itoa (IntKind.i64.wrap (10000 + x2))).toArray).size).size ≤ 4611686018427387904)).bind fun u13 => (m_path_part (s1 ++ ((ByteArray.mk (Lib.itoa (IntKind.i64.wrap (10000 + x2))).toArray).extract (1 : Int).toNat (ByteArray.mk (Lib.itoa (IntKind.i64.wrap (10000 + x2))).toArray).size))).bind fun u14 => if (!u14) = true then (some ((ByteArray.mk #[]), false)) else (some (s1 ++ ((ByteArray.mk (Lib.itoa (IntKind.i64.wrap (10000 + x2))).toArray).extract (1 : Int).toNat (ByteArray.mk (Lib.itoa (IntKind.i64.wrap (10000 + x2))).toArray).size), true)))
def m_path_Numbered (s1 : ByteArray) (x2 : Int) : Option (ByteArray × Bool) :=
  if (decide (x2 < 0)) = true then (m_path_Numbered_j1 x2 s1 true) else (m_path_Numbered_j1 x2 s1 (decide (x2 > 9999)))
theorem c_path_Numbered {w : World} {Fo : List Ob} {rs : List Rp} (s1 : ByteArray) (x2 : Int) (H : Sep w (Fo) rs) (hr3 : rTab Tryz.prog ∈ rs) {r : ByteArray × Bool} (hm : m_path_Numbered s1 x2 = some r) :
    Calls Tryz.prog 118 [.string s1, .int .i64 x2].toArray w (Ret fun v w' => .tuple #[.string r.1, .bool r.2] = v ∧ Sep w' (Fo) (rs)) := by
 unfold m_path_Numbered at hm
 refine enter Tryz.func118 rfl Tryz.ntmps118 rfl fun a E =>?_
 simp only [enum, Nat.reduceAdd] at E
 refine sq<|pr 2 E rfl fun a E=>nt<|wp_seq<|wp_seq_cut (fun a w => ∃ (b4 : Bool) (rs5 : List Rp), Env 23 a [(0, .string s1), (1, .int .i64 x2), (12, .bool b4)] ∧ Sep w (Fo) rs5 ∧ (∀ r, r ∈ rs → r ∈ rs5) ∧ rTab Tryz.prog ∈ rs5 ∧ m_path_Numbered_j1 x2 s1 b4 = some r) ?_ ?_
 ·refine wp_region_lit<|pr 3 E rfl fun a E=>cs hm (fun hb16 hm=>?_) fun hb16 hm=>?_
  ·exact pk 3 E (kc 9 rfl hb16) rfl fun a E=>nt<|⟨true, _, E.sel [0, 1, 12] rfl, H, fun r hr => hr, hr3, hm⟩
  ·exact pk 3 E (kc 9 rfl hb16) rfl fun a E=>nt<|⟨decide (x2 > 9999), _, E.sel [0, 1, 12] rfl, H, fun r hr => hr, hr3, hm⟩
 ·clear E H hm
  rintro a w ⟨b4, rs5, E, H, hs6, hr7, hm⟩
  unfold m_path_Numbered_j1 at hm
  refine wif E hm rfl (fun hm=>?_) fun hm=>?_
  ·refine sq<|pr 2 E rfl fun a E=>nt<|wp_ret<|q_thenR<|out2 E rfl rfl rfl<|?_
   cases hm
   exact ⟨rfl, H.reads (hs6)⟩
  ·refine wp_skip<|q_then<|sq<|pr 3 E rfl fun a E=>bk hm fun hx9 hm=>x_cl E rfl rfl rfl rfl rfl cf150 (itoa_c H hr7 (IntKind.i64.wrap (10000 + x2)) hx9)<|?_
   rintro _ w ⟨rfl, H⟩ a E
   refine bk hm fun hx11 hm=>sv E rfl rfl rfl (x_subL E rfl rfl rfl Tryz.underlying9 hx11) fun a E=>bk hm fun hx12 hm=>sv E rfl rfl rfl (x_cat E rfl rfl rfl hx12) fun a E=>pr 1 E rfl fun a E=>nt<|wp_seq<|sq<|pr 1 E rfl fun a E=>?_
   refine bd hm fun u14 hx15 hm=>x_cl E rfl rfl rfl rfl rfl cf151 (c_path_part (s1 ++ ((ByteArray.mk (Lib.itoa (IntKind.i64.wrap (10000 + x2))).toArray).extract (1 : Int).toNat (ByteArray.mk (Lib.itoa (IntKind.i64.wrap (10000 + x2))).toArray).size)) H hx15)<|?_
   rintro _ w ⟨rfl, H⟩ a E
   refine pr 1 E rfl fun a E=>nt<|wif E hm rfl (fun hm=>?_) fun hm=>?_
   ·refine sq<|pr 2 E rfl fun a E=>nt<|wp_ret<|q_thenR<|out2 E rfl rfl rfl<|?_
    cases hm
    exact ⟨rfl, H.reads (hs6)⟩
   ·refine wp_skip<|q_then<|sq<|pr 3 E rfl fun a E=>nt<|wp_ret<|out2 E rfl rfl rfl<|?_
    cases hm
    exact ⟨rfl, H.reads (hs6)⟩

def m_cantonref01_path_l1 (l2 : List ByteArray) : Nat → ByteArray → Int → Option ByteArray
  | 0, _, _ => none
  | k1 + 1, s4, x5 =>
    if (decide (x5 < (l2.length : Int))) = true then ((ck (s4.size + (ByteArray.mk #[47]).size ≤ 4611686018427387904)).bind fun u10 => (idx l2 x5).bind fun x11 => (ck ((s4 ++ (ByteArray.mk #[47])).size + x11.size ≤ 4611686018427387904)).bind fun u15 => m_cantonref01_path_l1 l2 k1 ((s4 ++ (ByteArray.mk #[47])) ++ x11) (IntKind.i64.wrap (x5 + 1))) else (some (s4))
def m_cantonref01_path (l2 : List ByteArray) : Option ByteArray :=
  if ((l2.length : Int) == 0) = true then (some ((ByteArray.mk #[47]))) else (m_cantonref01_path_l1 l2 (((l2.length : Int) - 0 : Int).toNat + 1) (ByteArray.mk #[]) 0)
theorem c_cantonref01_path {w : World} {Fo : List Ob} {rs : List Rp} (v1 : Value) (l2 : List ByteArray) (H : Sep w (Fo) rs) (hr3 : rSl kS v1 l2 ∈ rs) {r : ByteArray} (hm : m_cantonref01_path l2 = some r) :
    Calls Tryz.prog 130 [v1].toArray w (Ret fun v w' => .string r = v ∧ Sep w' (Fo) (rs)) := by
 unfold m_cantonref01_path at hm
 refine enter Tryz.func130 rfl Tryz.ntmps130 rfl fun a E =>?_
 simp only [enum, Nat.reduceAdd] at E
 refine sq<|pr 1 E rfl fun a E=>nt<|wp_seq<|sq<|pr 1 E rfl fun a E=>sv E rfl rfl rfl (x_lenS E H rfl rfl hr3 Tryz.underlying49) fun a E=>pr 1 E rfl fun a E=>nt<|wif E hm rfl (fun hm=>?_) fun hm=>?_
 ·refine sq<|pr 1 E rfl fun a E=>nt<|wp_ret<|q_thenR<|out1 E rfl rfl<|?_
  cases hm
  exact ⟨rfl, H.reads (fun r hr => hr)⟩
 ·refine wp_skip<|q_then<|sq<|pr 1 E rfl fun a E=>nt<|wp_seq<|sq<|pr 1 E rfl fun a E=>nt<|?_
  refine wp_block<|wp_loop_g (fun k1 a w => ∃ (s4 : ByteArray) (x5 : Int) (rs6 : List Rp), Env 22 a [(0, v1), (3, .string s4), (4, .int .i64 x5)] ∧ Sep w (Fo) rs6 ∧ (∀ r, r ∈ rs → r ∈ rs6) ∧ rSl kS v1 l2 ∈ rs6 ∧ m_cantonref01_path_l1 l2 k1 s4 x5 = some r) (((l2.length : Int) - 0 : Int).toNat + 1) ?_ ?_
  ·exact ⟨(ByteArray.mk #[]), 0, _, E.sel [0, 3, 4] rfl, H, fun r hr => hr, hr3, hm⟩
  ·clear E H hm
   rintro k1 a w ⟨s4, x5, rs6, E, H, hs7, hr8, hm⟩
   cases k1 with
   | zero => exact (none_some hm rfl).elim
   | succ k1 =>
    unfold m_cantonref01_path_l1 at hm
    refine wp_seq<|sq<|pr 2 E rfl fun a E=>sv E rfl rfl rfl (x_lenS E H rfl rfl hr8 Tryz.underlying49) fun a E=>pr 1 E rfl fun a E=>nt<|wif E hm rfl (fun hm=>?_) fun hm=>?_
    ·refine wp_skip<|q_then<|wp_seq<|wp_block<|wp_region_lit<|pr 1 E rfl fun a E=>bk hm fun hx9 hm=>sv E rfl rfl rfl (x_cat E rfl rfl rfl hx9) fun a E=>pr 2 E rfl fun a E=>?_
     refine bd hm fun x11 hx12 hm=>st_ixS E H (wn rfl) rfl rfl rfl rfl rfl hr8 Tryz.underlying49 sz9 hx12 fun q13 a H E=>sv E rfl rfl rfl (x_ldA E H rfl rfl m0 Tryz.underlying9 rfl) fun a E=>bk hm fun hx14 hm=>sv E rfl rfl rfl (x_cat E rfl rfl rfl hx14) fun a E=>pr 1 E rfl fun a E=>wpList_nil<|q_blk<|q_then<|?_
     exact wp_region_lit<|pr 3 E rfl fun a E=>nt<|⟨k1, Nat.lt_succ_self k1, (s4 ++ (ByteArray.mk #[47])) ++ x11, IntKind.i64.wrap (x5 + 1), _, E.sel [0, 3, 4] rfl, H, fun r hr => (t1 (hs7 r hr)), (t1 hr8), hm⟩
    ·refine wp_exit<|q_thenX<|q_thenX<|q_hit<|q_then<|sq<|pr 2 E rfl fun a E=>nt<|wp_ret<|?_
     refine out1 E rfl rfl<|?_
     cases hm
     exact ⟨rfl, H.reads (hs7)⟩

def m_cantonref01_Parent_j1 (u2 : (List ByteArray) × Bool) (b5 : Bool) : Option (ByteArray × Bool) :=
  if b5 = true then (some ((ByteArray.mk #[]), false)) else ((ck (0 ≤ (IntKind.i64.wrap ((u2.1.length : Int) - 1)) ∧ (IntKind.i64.wrap ((u2.1.length : Int) - 1)) ≤ u2.1.length)).bind fun u8 => (m_cantonref01_path (u2.1.take (IntKind.i64.wrap ((u2.1.length : Int) - 1)).toNat)).bind fun u11 => some (u11, true))
def m_cantonref01_Parent (s1 : ByteArray) : Option (ByteArray × Bool) :=
  (m_cantonref01_Split s1).bind fun u2 => if (!u2.2) = true then (m_cantonref01_Parent_j1 u2 true) else (m_cantonref01_Parent_j1 u2 ((u2.1.length : Int) == 0))
theorem c_cantonref01_Parent {w : World} {Fo : List Ob} {rs : List Rp} (s1 : ByteArray) (H : Sep w (Fo) rs) {r : ByteArray × Bool} (hm : m_cantonref01_Parent s1 = some r) :
    Calls Tryz.prog 69 [.string s1].toArray w (Ret fun v w' => .tuple #[.string r.1, .bool r.2] = v ∧ Sep w' (Fo) (rs)) := by
 unfold m_cantonref01_Parent at hm
 refine enter Tryz.func69 rfl Tryz.ntmps69 rfl fun a E =>?_
 simp only [enum, Nat.reduceAdd] at E
 refine sq<|pr 2 E rfl fun a E=>nx<|pr 1 E rfl fun a E=>bd hm fun u2 hx3 hm=>x_cl E rfl rfl rfl rfl rfl cf129 (c_cantonref01_Split s1 H hx3)<|?_
 rintro _ w ⟨v4, rfl, H⟩ a E
 refine pr 5 E rfl fun a E=>nt<|wp_seq<|wp_seq_cut (fun a w => ∃ (b5 : Bool) (rs6 : List Rp), Env 24 a [(4, v4), (17, .bool b5)] ∧ Sep w (Row 9 kS v4 u2.1 :: Fo) rs6 ∧ (∀ r, r ∈ rs → r ∈ rs6) ∧ m_cantonref01_Parent_j1 u2 b5 = some r) ?_ ?_
 ·refine wp_region_lit<|pr 3 E rfl fun a E=>cs hm (fun hb13 hm=>?_) fun hb13 hm=>?_
  ·exact pk 4 E (kc 13 rfl hb13) rfl fun a E=>nt<|⟨true, _, E.sel [4, 17] rfl, H, fun r hr => hr, hm⟩
  ·exact pk 1 E (kc 13 rfl hb13) rfl fun a E=>st_val E (ws' (d := 13) E rfl rfl rfl rfl hb13) rfl rfl (x_lenR (i := 0) E H rfl rfl rfl Tryz.underlying49) fun a E=>pk 2 E (kc 13 rfl hb13) rfl fun a E=>nt<|⟨(u2.1.length : Int) == 0, _, E.sel [4, 17] rfl, H, fun r hr => hr, hm⟩
 ·clear E H hm
  rintro a w ⟨b5, rs6, E, H, hs7, hm⟩
  unfold m_cantonref01_Parent_j1 at hm
  refine wif E hm rfl (fun hm=>?_) fun hm=>?_
  ·refine sq<|pr 2 E rfl fun a E=>nt<|wp_ret<|q_thenR<|out2 E rfl rfl rfl<|have H:=H.drop 0;?_
   cases hm
   exact ⟨rfl, H.reads (hs7)⟩
  ·refine wp_skip<|q_then<|sq<|pr 2 E rfl fun a E=>sv E rfl rfl rfl (x_lenR (i := 0) E H rfl rfl rfl Tryz.underlying49) fun a E=>pr 1 E rfl fun a E=>have H:=H.thaw (i := 0) rfl;bk hm fun hx9 hm=>st_take E H (wn rfl) rfl rfl rfl rfl rfl m0 Tryz.underlying49 sz9 hx9 fun v10 a H E=>?_
   refine bd hm fun u11 hx12 hm=>x_cl E rfl rfl rfl rfl rfl cf130 (c_cantonref01_path v10 (u2.1.take (IntKind.i64.wrap ((u2.1.length : Int) - 1)).toNat) H m0 hx12)<|?_
   rintro _ w ⟨rfl, H⟩ a E
   refine pr 2 E rfl fun a E=>nt<|wp_ret<|out2 E rfl rfl rfl<|?_
   cases hm
   exact ⟨rfl, H.reads (fun r hr => (t2 (hs7 r hr)))⟩

def m_internal_bytealg_CompareString (s1 : ByteArray) (s2 : ByteArray) : Option Int :=
  some (Extern.BytealgCompare.cmp s1 s2)
theorem c_internal_bytealg_CompareString {w : World} {Fo : List Ob} {rs : List Rp} (s1 : ByteArray) (s2 : ByteArray) (H : Sep w (Fo) rs) {r : Int} (hm : m_internal_bytealg_CompareString s1 s2 = some r) :
    Calls Tryz.prog 148 [.string s1, .string s2].toArray w (Ret fun v w' => .int .i64 r = v ∧ Sep w' (Fo) (rs)) := by
 unfold m_internal_bytealg_CompareString at hm
 refine enter Tryz.func148 rfl Tryz.ntmps148 rfl fun a E =>?_
 simp only [enum, Nat.reduceAdd] at E
 refine sq<|pr 1 E rfl fun a E=>nx<|pr 2 E rfl fun a E=>sv E rfl rfl rfl (x_callX E rfl rfl (ext177 _ _ _)) fun a E=>pr 1 E rfl fun a E=>nt<|wp_ret<|out1 E rfl rfl<|?_
 cases hm
 exact ⟨rfl, H.reads (fun r hr => hr)⟩

def m_strings_Compare (s1 : ByteArray) (s2 : ByteArray) : Option Int :=
  (m_internal_bytealg_CompareString s1 s2).bind fun u3 => some (u3)
theorem c_strings_Compare {w : World} {Fo : List Ob} {rs : List Rp} (s1 : ByteArray) (s2 : ByteArray) (H : Sep w (Fo) rs) {r : Int} (hm : m_strings_Compare s1 s2 = some r) :
    Calls Tryz.prog 108 [.string s1, .string s2].toArray w (Ret fun v w' => .int .i64 r = v ∧ Sep w' (Fo) (rs)) := by
 unfold m_strings_Compare at hm
 refine enter Tryz.func108 rfl Tryz.ntmps108 rfl fun a E =>?_
 simp only [enum, Nat.reduceAdd] at E
 refine sq<|pr 1 E rfl fun a E=>nx<|pr 2 E rfl fun a E=>bd hm fun u3 hx4 hm=>x_cl E rfl rfl rfl rfl rfl cf148 (c_internal_bytealg_CompareString s1 s2 H hx4)<|?_
 rintro _ w ⟨rfl, H⟩ a E
 refine pr 1 E rfl fun a E=>nt<|wp_ret<|out1 E rfl rfl<|?_
 cases hm
 exact ⟨rfl, H.reads (fun r hr => hr)⟩

def m_nodes_order (x1 : S_api_Node) (x2 : S_api_Node) : Option Int :=
  (m_strings_Compare x1.Path x2.Path).bind fun u5 => some (u5)
theorem c_nodes_order {w : World} {Fo : List Ob} {rs : List Rp} (x1 : S_api_Node) (x2 : S_api_Node) (H : Sep w (Fo) rs) {r : Int} (hm : m_nodes_order x1 x2 = some r) :
    Calls Tryz.prog 123 [.agg (l_api_Node x1).toArray, .agg (l_api_Node x2).toArray].toArray w (Ret fun v w' => .int .i64 r = v ∧ Sep w' (Fo) (rs)) := by
 unfold m_nodes_order at hm
 refine enter Tryz.func123 rfl Tryz.ntmps123 rfl fun a E =>?_
 simp only [enum, Nat.reduceAdd] at E
 refine sq<|st_box E H (wn rfl) rfl rfl (cs := (l_api_Node x1)) rfl rfl rfl fun p3 w a H E=>st_box E H (wn rfl) rfl rfl (cs := (l_api_Node x2)) rfl rfl rfl fun p4 w a H E=>pr 1 E rfl fun a E=>nx<|pr 1 E rfl fun a E=>lb E H 1 rfl rfl rfl rfl rfl rfl rfl Tryz.underlying9 rfl fun a E=>pr 1 E rfl fun a E=>lb E H 0 rfl rfl rfl rfl rfl rfl rfl Tryz.underlying9 rfl fun a E=>?_
 refine bd hm fun u5 hx6 hm=>x_cl E rfl rfl rfl rfl rfl cf108 (c_strings_Compare x1.Path x2.Path H hx6)<|?_
 rintro _ w ⟨rfl, H⟩ a E
 refine pr 1 E rfl fun a E=>nt<|wp_ret<|out1 E rfl rfl<|have H:=H.drop 0;have H:=H.drop 0;?_
 cases hm
 exact ⟨rfl, H.reads (fun r hr => hr)⟩

def m_slices_BinarySearchFunc_api_Node_api_Node_api_Node_l1 (l2 : List S_api_Node) (x3 : S_api_Node) : Nat → Int → Int → Option (Int × Bool)
  | 0, _, _ => none
  | k1 + 1, x6, x7 =>
    if (decide (x6 < x7)) = true then ((idx l2 (IntKind.i64.wrap (ishr .u64 (IntKind.u64.wrap (IntKind.i64.wrap (x6 + x7))) 1))).bind fun x12 => (m_nodes_order x12 x3).bind fun u18 => if (decide (u18 < 0)) = true then (m_slices_BinarySearchFunc_api_Node_api_Node_api_Node_l1 l2 x3 k1 (IntKind.i64.wrap ((IntKind.i64.wrap (ishr .u64 (IntKind.u64.wrap (IntKind.i64.wrap (x6 + x7))) 1)) + 1)) x7) else (m_slices_BinarySearchFunc_api_Node_api_Node_api_Node_l1 l2 x3 k1 x6 (IntKind.i64.wrap (ishr .u64 (IntKind.u64.wrap (IntKind.i64.wrap (x6 + x7))) 1)))) else (if (decide (x6 < (l2.length : Int))) = true then ((idx l2 x6).bind fun x22 => (m_nodes_order x22 x3).bind fun u28 => some (x6, u28 == 0)) else (some (x6, false)))
def m_slices_BinarySearchFunc_api_Node_api_Node_api_Node (l2 : List S_api_Node) (x3 : S_api_Node) : Option (Int × Bool) :=
  m_slices_BinarySearchFunc_api_Node_api_Node_api_Node_l1 l2 x3 (((l2.length : Int) - 0 : Int).toNat + 1) 0 (l2.length : Int)
theorem c_slices_BinarySearchFunc_api_Node_api_Node_api_Node {w : World} {Fo : List Ob} {rs : List Rp} (v1 : Value) (l2 : List S_api_Node) (x3 : S_api_Node) (H : Sep w (Fo) rs) (hr4 : rSl k_api_Node v1 l2 ∈ rs) {r : Int × Bool} (hm : m_slices_BinarySearchFunc_api_Node_api_Node_api_Node l2 x3 = some r) :
    Calls Tryz.prog 122 [v1, .agg (l_api_Node x3).toArray, .func (.func 123) #[] #[]].toArray w (Ret fun v w' => .tuple #[.int .i64 r.1, .bool r.2] = v ∧ Sep w' (Fo) (rs)) := by
 unfold m_slices_BinarySearchFunc_api_Node_api_Node_api_Node at hm
 refine enter Tryz.func122 rfl Tryz.ntmps122 rfl fun a E =>?_
 simp only [enum, Nat.reduceAdd] at E
 refine sq<|st_box E H (wn rfl) rfl rfl (cs := (l_api_Node x3)) rfl rfl rfl fun p5 w a H E=>pr 2 E rfl fun a E=>nx<|pr 1 E rfl fun a E=>sv E rfl rfl rfl (x_lenS E H rfl rfl hr4 Tryz.underlying22) fun a E=>pr 1 E rfl fun a E=>nx<|pr 3 E rfl fun a E=>?_
 refine nt<|wp_seq<|wp_block<|wp_loop_g (fun k1 a w => ∃ (x6 : Int) (x7 : Int) (rs8 : List Rp), Env 49 a [(0, v1), (2, .func (.func 123) #[] #[]), (4, pt p5 0), (8, .int .i64 (l2.length : Int)), (9, .int .i64 x6), (10, .int .i64 x7)] ∧ Sep w (Blk p5 80 (l_api_Node x3) :: Fo) rs8 ∧ (∀ r, r ∈ rs → r ∈ rs8) ∧ rSl k_api_Node v1 l2 ∈ rs8 ∧ m_slices_BinarySearchFunc_api_Node_api_Node_api_Node_l1 l2 x3 k1 x6 x7 = some r) (((l2.length : Int) - 0 : Int).toNat + 1) ?_ ?_
 ·exact ⟨0, (l2.length : Int), _, E.sel [0, 2, 4, 8, 9, 10] rfl, H, fun r hr => hr, hr4, hm⟩
 ·clear E H hm
  rintro k1 a w ⟨x6, x7, rs8, E, H, hs9, hr10, hm⟩
  cases k1 with
  | zero => exact (none_some hm rfl).elim
  | succ k1 =>
   unfold m_slices_BinarySearchFunc_api_Node_api_Node_api_Node_l1 at hm
   refine wp_seq<|sq<|pr 3 E rfl fun a E=>nt<|wif E hm rfl (fun hm=>?_) fun hm=>?_
   ·refine wp_skip<|q_then<|wp_block<|sq<|pr 4 E rfl fun a E=>sv E rfl rfl rfl (x_shr E rfl rfl rfl (by decide)) fun a E=>pr 2 E rfl fun a E=>nt<|wp_seq<|?_
    obtain ⟨u11, H⟩ := H.raw hr10
    refine dw [(0, 0), (1, 0), (2, 0), (3, 0), (4, 0), (5, 0), (6, 1), (7, 0)] [0] [0] H (by kernel_rfl) (fun _ _ _ h => False.elim h.2) fun w W0 hI H=>fn 3 E rfl fun a E=>bd hm fun x12 hx13 hm=>?_
    obtain ⟨q14, u17, hx15, hx16⟩ := dr_ixW (P := Tryz.prog) (k := .i64) hI (dr_mem (.head _)) Tryz.underlying22 sz80 hx13
    refine fr_val E rfl (wn rfl) rfl rfl (fun w hW=>x_ixA E rfl rfl rfl (hx15 w)) fun a E=>?_
    refine fr_val E rfl (wn rfl) rfl rfl (fun w hW=>x_ld E rfl rfl (ir_ldN (cs := [.string x12.Path, .string x12.Data, .int .i64 x12.Version, .int .i64 x12.Turn, .int .i64 x12.Owner]) (DR.ir (dr_at hx16)) (fun _ _ _ h => k_api_Node_open h) Tryz.underlying80 rfl sz80 w hW)) fun a E=>?_
    refine fbn E (l_api_Node x3) rfl (wn rfl) rfl rfl rfl rfl m0 rfl Tryz.underlying80 rfl sz80 fun a E=>fr_op rfl<|bd hm fun u18 hx19 hm=>st_call E (wn rfl) rfl rfl (x_callv E rfl rfl rfl (cf123 _)) (c_nodes_order x12 x3 H hx19)<|?_
    rintro _ w ⟨rfl, H⟩ a E
    refine nt<|?_
    refine ⟨⟨_, _, H, (subO_cons m0 (subO_nil)), (sub_cons m0 (sub_nil))⟩, ?_⟩
    refine fn 1 E rfl fun a E=>fr_nil<|?_
    clear hI
    refine q_then<|wif E hm rfl (fun hm=>?_) fun hm=>?_
    ·exact wp_region_lit<|pr 3 E rfl fun a E=>wpList_nil<|q_blk<|q_then<|⟨k1, Nat.lt_succ_self k1, IntKind.i64.wrap ((IntKind.i64.wrap (ishr .u64 (IntKind.u64.wrap (IntKind.i64.wrap (x6 + x7))) 1)) + 1), x7, _, E.sel [0, 2, 4, 8, 9, 10] rfl, H, fun r hr => (t1 (hs9 r hr)), (t1 hr10), hm⟩
    ·exact wp_region_lit<|pr 2 E rfl fun a E=>wpList_nil<|q_blk<|q_then<|⟨k1, Nat.lt_succ_self k1, x6, IntKind.i64.wrap (ishr .u64 (IntKind.u64.wrap (IntKind.i64.wrap (x6 + x7))) 1), _, E.sel [0, 2, 4, 8, 9, 10] rfl, H, fun r hr => (t1 (hs9 r hr)), (t1 hr10), hm⟩
   ·refine wp_exit<|q_thenX<|q_thenX<|q_hit<|q_then<|wp_seq<|?_
    obtain ⟨u20, H⟩ := H.raw hr10
    refine dw [(0, 0), (1, 0), (2, 0), (3, 0), (4, 0), (5, 0), (6, 0), (7, 0), (8, 0), (9, 0), (10, 0), (11, 1), (12, 0), (13, 0), (14, 1), (15, 2)] [0] [0] H (by kernel_rfl) (fun _ _ _ h => False.elim h.2) fun w W0 hI H=>fn 5 E rfl fun a E=>cs hm (fun hb21 hm=>?_) fun hb21 hm=>?_
    ·refine fk 3 E (kc 39 rfl hb21) rfl fun a E=>bd hm fun x22 hx23 hm=>?_
     obtain ⟨q24, u27, hx25, hx26⟩ := dr_ixW (P := Tryz.prog) (k := .i64) hI (dr_mem (.head _)) Tryz.underlying22 sz80 hx23
     refine fr_val E rfl (ws' (d := 39) E rfl rfl rfl rfl hb21) rfl rfl (fun w hW=>x_ixA E rfl rfl rfl (hx25 w)) fun a E=>?_
     refine fr_val E rfl (ws' (d := 39) E rfl rfl rfl rfl hb21) rfl rfl (fun w hW=>x_ld E rfl rfl (ir_ldN (cs := [.string x22.Path, .string x22.Data, .int .i64 x22.Version, .int .i64 x22.Turn, .int .i64 x22.Owner]) (DR.ir (dr_at hx26)) (fun _ _ _ h => k_api_Node_open h) Tryz.underlying80 rfl sz80 w hW)) fun a E=>?_
     refine fbn E (l_api_Node x3) rfl (ws' (d := 39) E rfl rfl rfl rfl hb21) rfl rfl rfl rfl m0 rfl Tryz.underlying80 rfl sz80 fun a E=>fr_op rfl<|bd hm fun u28 hx29 hm=>st_call E (ws' (d := 39) E rfl rfl rfl rfl hb21) rfl rfl (x_callv E rfl rfl rfl (cf123 _)) (c_nodes_order x22 x3 H hx29)<|?_
     rintro _ w ⟨rfl, H⟩ a E
     refine nt<|?_
     refine ⟨⟨_, _, H, (subO_cons m0 (subO_nil)), (sub_cons m0 (sub_nil))⟩, ?_⟩
     refine fk 2 E (kc 39 rfl hb21) rfl fun a E=>fr_op rfl<|pr 1 E rfl fun a E=>nt<|?_
     refine ⟨⟨_, _, H, (subO_cons m0 (subO_nil)), (sub_cons m0 (sub_nil))⟩, ?_⟩
     refine fr_tail rfl<|pr 1 E rfl fun a E=>nt<|fr_nil<|?_
     clear hI
     refine q_then<|wp_ret<|out2 E rfl rfl rfl<|have H:=H.drop 0;?_
     cases hm
     exact ⟨rfl, H.reads (fun r hr => (t1 (hs9 r hr)))⟩
    ·refine fk 6 E (kc 39 rfl hb21) rfl fun a E=>fr_op rfl<|pk 1 E (kc 39 rfl hb21) rfl fun a E=>nt<|?_
     refine ⟨⟨_, _, H, (subO_cons m0 (subO_nil)), (sub_cons m0 (sub_nil))⟩, ?_⟩
     refine fk 2 E (kc 39 rfl hb21) rfl fun a E=>fr_op rfl<|pr 1 E rfl fun a E=>nt<|?_
     refine ⟨⟨_, _, H, (subO_cons m0 (subO_nil)), (sub_cons m0 (sub_nil))⟩, ?_⟩
     refine fr_tail rfl<|pr 1 E rfl fun a E=>nt<|fr_nil<|?_
     clear hI
     refine q_then<|wp_ret<|out2 E rfl rfl rfl<|have H:=H.drop 0;?_
     cases hm
     exact ⟨rfl, H.reads (fun r hr => (t1 (hs9 r hr)))⟩

def m_nodes_where (l2 : List S_api_Node) (s3 : ByteArray) : Option (Int × Bool) :=
  (m_slices_BinarySearchFunc_api_Node_api_Node_api_Node l2 (⟨s3, (ByteArray.mk #[]), 0, 0, 0⟩ : S_api_Node)).bind fun u5 => some (u5.1, u5.2)
theorem c_nodes_where {w : World} {Fo : List Ob} {rs : List Rp} (v1 : Value) (l2 : List S_api_Node) (s3 : ByteArray) (H : Sep w (Fo) rs) (hr4 : rSl k_api_Node v1 l2 ∈ rs) {r : Int × Bool} (hm : m_nodes_where l2 s3 = some r) :
    Calls Tryz.prog 61 [v1, .string s3].toArray w (Ret fun v w' => .tuple #[.int .i64 r.1, .bool r.2] = v ∧ Sep w' (Fo) (rs)) := by
 unfold m_nodes_where at hm
 refine enter Tryz.func61 rfl Tryz.ntmps61 rfl fun a E =>?_
 simp only [enum, Nat.reduceAdd] at E
 refine sq<|pr 2 E rfl fun a E=>nx<|pr 2 E rfl fun a E=>sv E rfl rfl rfl (x_build E rfl (E.evs rfl) (v := .agg #[.string s3, .string (ByteArray.mk #[]), .int .i64 0, .int .i64 0, .int .i64 0]) (by kernel_rfl)) fun a E=>bd hm fun u5 hx6 hm=>x_cl E rfl rfl rfl rfl rfl cf122 (c_slices_BinarySearchFunc_api_Node_api_Node_api_Node v1 l2 (⟨s3, (ByteArray.mk #[]), 0, 0, 0⟩ : S_api_Node) H hr4 hx6)<|?_
 rintro _ w ⟨rfl, H⟩ a E
 refine pr 4 E rfl fun a E=>nt<|wp_ret<|out2 E rfl rfl rfl<|?_
 cases hm
 exact ⟨rfl, H.reads (fun r hr => hr)⟩

def m_nodes_within (x1 : Int) (x2 : Int) : Option Bool :=
  if (decide (x1 ≥ 0)) = true then (some (decide (x1 ≤ x2))) else (some (false))
theorem c_nodes_within {w : World} {Fo : List Ob} {rs : List Rp} (x1 : Int) (x2 : Int) (H : Sep w (Fo) rs) {r : Bool} (hm : m_nodes_within x1 x2 = some r) :
    Calls Tryz.prog 109 [.int .i64 x1, .int .i64 x2].toArray w (Ret fun v w' => .bool r = v ∧ Sep w' (Fo) (rs)) := by
 unfold m_nodes_within at hm
 refine enter Tryz.func109 rfl Tryz.ntmps109 rfl fun a E =>?_
 simp only [enum, Nat.reduceAdd] at E
 refine sq<|pr 1 E rfl fun a E=>nx<|pr 3 E rfl fun a E=>cs hm (fun hb3 hm=>?_) fun hb3 hm=>?_
 ·refine pk 5 E (kc 7 rfl hb3) rfl fun a E=>nt<|wp_ret<|out1 E rfl rfl<|?_
  cases hm
  exact ⟨rfl, H.reads (fun r hr => hr)⟩
 ·refine pk 5 E (kc 7 rfl hb3) rfl fun a E=>nt<|wp_ret<|out1 E rfl rfl<|?_
  cases hm
  exact ⟨rfl, H.reads (fun r hr => hr)⟩

def m_nodes_node (x1 : S_api_Node) : Option Bool :=
  if (decide ((x1.Data.size : Int) ≤ 256)) = true then ((m_nodes_within x1.Version 281474976710656).bind fun u4 => if u4 = true then ((m_nodes_within x1.Turn 10000).bind fun u7 => if u7 = true then ((m_nodes_within x1.Owner 1099511627776).bind fun u10 => if u10 = true then (if (x1.Owner == 0) = true then (some (true)) else (some (x1.Turn == 0))) else (some (false))) else (some (false))) else (some (false))) else (some (false))
theorem c_nodes_node {w : World} {Fo : List Ob} {rs : List Rp} (x1 : S_api_Node) (H : Sep w (Fo) rs) {r : Bool} (hm : m_nodes_node x1 = some r) :
    Calls Tryz.prog 112 [.agg (l_api_Node x1).toArray].toArray w (Ret fun v w' => .bool r = v ∧ Sep w' (Fo) (rs)) := by
 unfold m_nodes_node at hm
 refine enter Tryz.func112 rfl Tryz.ntmps112 rfl fun a E =>?_
 simp only [enum, Nat.reduceAdd] at E
 refine sq<|st_box E H (wn rfl) rfl rfl (cs := (l_api_Node x1)) rfl rfl rfl fun p2 w a H E=>pr 1 E rfl fun a E=>nx<|pr 1 E rfl fun a E=>lb E H 0 rfl rfl rfl rfl rfl rfl rfl Tryz.underlying9 rfl fun a E=>pr 3 E rfl fun a E=>cs hm (fun hb3 hm=>?_) fun hb3 hm=>?_
 ·refine pk 1 E (kc 7 rfl hb3) rfl fun a E=>st_val E (ws' (d := 7) E rfl rfl rfl rfl hb3) rfl rfl (x_ldB (i := 0) E H rfl rfl rfl rfl Tryz.underlying2 rfl) fun a E=>bd hm fun u4 hx5 hm=>st_call E (ws' (d := 7) E rfl rfl rfl rfl hb3) rfl rfl (x_call E rfl rfl (cf109 _)) (c_nodes_within x1.Version 281474976710656 H hx5)<|?_
  rintro _ w ⟨rfl, H⟩ a E
  refine pk 2 E (kc 7 rfl hb3) rfl fun a E=>cs hm (fun hb6 hm=>?_) fun hb6 hm=>?_
  ·refine pk 1 E (kc 12 rfl hb6) rfl fun a E=>st_val E (ws' (d := 12) E rfl rfl rfl rfl hb6) rfl rfl (x_ldB (i := 0) E H rfl rfl rfl rfl Tryz.underlying2 rfl) fun a E=>bd hm fun u7 hx8 hm=>st_call E (ws' (d := 12) E rfl rfl rfl rfl hb6) rfl rfl (x_call E rfl rfl (cf109 _)) (c_nodes_within x1.Turn 10000 H hx8)<|?_
   rintro _ w ⟨rfl, H⟩ a E
   refine pk 2 E (kc 12 rfl hb6) rfl fun a E=>cs hm (fun hb9 hm=>?_) fun hb9 hm=>?_
   ·refine pk 1 E (kc 17 rfl hb9) rfl fun a E=>st_val E (ws' (d := 17) E rfl rfl rfl rfl hb9) rfl rfl (x_ldB (i := 0) E H rfl rfl rfl rfl Tryz.underlying2 rfl) fun a E=>bd hm fun u10 hx11 hm=>st_call E (ws' (d := 17) E rfl rfl rfl rfl hb9) rfl rfl (x_call E rfl rfl (cf109 _)) (c_nodes_within x1.Owner 1099511627776 H hx11)<|?_
    rintro _ w ⟨rfl, H⟩ a E
    refine pk 2 E (kc 17 rfl hb9) rfl fun a E=>cs hm (fun hb12 hm=>?_) fun hb12 hm=>?_
    ·refine pk 1 E (kc 22 rfl hb12) rfl fun a E=>st_val E (ws' (d := 22) E rfl rfl rfl rfl hb12) rfl rfl (x_ldB (i := 0) E H rfl rfl rfl rfl Tryz.underlying2 rfl) fun a E=>pk 2 E (kc 22 rfl hb12) rfl fun a E=>cs hm (fun hb13 hm=>?_) fun hb13 hm=>?_
     ·refine pk 6 E (kc' (kc 26 rfl hb13) 22 rfl hb12) rfl fun a E=>nt<|wp_ret<|out1 E rfl rfl<|have H:=H.drop 0;?_
      cases hm
      exact ⟨rfl, H.reads (fun r hr => hr)⟩
     ·refine pk 1 E (kc 26 rfl hb13) rfl fun a E=>st_val E (ws' (d := 26) E rfl rfl rfl rfl hb13) rfl rfl (x_ldB (i := 0) E H rfl rfl rfl rfl Tryz.underlying2 rfl) fun a E=>pk 4 E (kc' (kc 26 rfl hb13) 22 rfl hb12) rfl fun a E=>nt<|wp_ret<|out1 E rfl rfl<|have H:=H.drop 0;?_
      cases hm
      exact ⟨rfl, H.reads (fun r hr => hr)⟩
    ·refine pk 10 E (kc 22 rfl hb12) rfl fun a E=>nt<|wp_ret<|out1 E rfl rfl<|have H:=H.drop 0;?_
     cases hm
     exact ⟨rfl, H.reads (fun r hr => hr)⟩
   ·refine pk 15 E (kc 17 rfl hb9) rfl fun a E=>nt<|wp_ret<|out1 E rfl rfl<|have H:=H.drop 0;?_
    cases hm
    exact ⟨rfl, H.reads (fun r hr => hr)⟩
  ·refine pk 20 E (kc 12 rfl hb6) rfl fun a E=>nt<|wp_ret<|out1 E rfl rfl<|have H:=H.drop 0;?_
   cases hm
   exact ⟨rfl, H.reads (fun r hr => hr)⟩
 ·refine pk 25 E (kc 7 rfl hb3) rfl fun a E=>nt<|wp_ret<|out1 E rfl rfl<|have H:=H.drop 0;?_
  cases hm
  exact ⟨rfl, H.reads (fun r hr => hr)⟩

def m_nodes_Right_j2 (rec_1 : Int → (Nat) → (List UInt8 → Int) → Option Bool) (x9 : Int) (x15 : (Nat)) (x16 : (List UInt8 → Int)) : Option Bool :=
  rec_1 (IntKind.i64.wrap (x9 + 1)) x15 x16
def m_nodes_Right_j3 (rec_1 : Int → (Nat) → (List UInt8 → Int) → Option Bool) (x9 : Int) (x20 : S_api_Node) (x11 : (List UInt8 → Int)) (x10 : (Nat)) (b26 : Bool) : Option Bool :=
  if b26 = true then (some (false)) else (if (x20.Owner == 0) = true then ((ck (x20.Path.size ≤ maxLen)).bind fun u30 => (ck (x20.Path.size ≤ maxLen ∧ (Lit.int .i64 (IntKind.i64.wrap ((x11 x20.Path.data.toList) + 1))).wf = true ∧ x10 < maxLen)).bind fun u32 => m_nodes_Right_j2 rec_1 x9 (x10 + 1) (mput x11 x20.Path.data.toList (IntKind.i64.wrap ((x11 x20.Path.data.toList) + 1)))) else (m_nodes_Right_j2 rec_1 x9 x10 x11))
def m_nodes_Right_l1 (l2 : List S_api_Node) : Nat → Int → (Nat) → (List UInt8 → Int) → Option Bool
  | 0, _, _, _ => none
  | k1 + 1, x9, x10, x11 =>
    if (decide (x9 < (l2.length : Int))) = true then ((idx l2 x9).bind fun x20 => (m_path_Parent x20.Path).bind fun u24 => (m_nodes_node x20).bind fun u35 => if (!u35) = true then (m_nodes_Right_j3 (m_nodes_Right_l1 l2 k1) x9 x20 x11 x10 true) else (if (decide (x9 > 0)) = true then (if (!u24.2) = true then (m_nodes_Right_j3 (m_nodes_Right_l1 l2 k1) x9 x20 x11 x10 true) else ((ck (u24.1.size ≤ maxLen)).bind fun u40 => if ((x11 u24.1.data.toList) == 0) = true then (m_nodes_Right_j3 (m_nodes_Right_l1 l2 k1) x9 x20 x11 x10 true) else ((idx l2 (IntKind.i64.wrap (x9 - 1))).bind fun x43 => m_nodes_Right_j3 (m_nodes_Right_l1 l2 k1) x9 x20 x11 x10 (!(sLt x43.Path x20.Path))))) else (m_nodes_Right_j3 (m_nodes_Right_l1 l2 k1) x9 x20 x11 x10 false))) else (some (true))
def m_nodes_Right_j1 (l2 : List S_api_Node) (b4 : Bool) : Option Bool :=
  if b4 = true then (some (false)) else (m_nodes_Right_l1 l2 (((l2.length : Int) - 0 : Int).toNat + 1) 0 0 (fun _ => 0))
def m_nodes_Right (l2 : List S_api_Node) : Option Bool :=
  if ((l2.length : Int) == 0) = true then (m_nodes_Right_j1 l2 true) else (if (decide ((l2.length : Int) > 512)) = true then (m_nodes_Right_j1 l2 true) else ((idx l2 0).bind fun x52 => if (!(sEq x52.Path (ByteArray.mk #[47]))) = true then (m_nodes_Right_j1 l2 true) else ((idx l2 0).bind fun x56 => m_nodes_Right_j1 l2 (x56.Owner != 0))))
theorem c_nodes_Right {w : World} {Fo : List Ob} {rs : List Rp} (v1 : Value) (l2 : List S_api_Node) (H : Sep w (Fo) rs) (hr3 : rSl k_api_Node v1 l2 ∈ rs) {r : Bool} (hm : m_nodes_Right l2 = some r) :
    Calls Tryz.prog 55 [v1].toArray w (Ret fun v w' => .bool r = v ∧ Sep w' (Fo) (rs)) := by
 unfold m_nodes_Right at hm
 refine enter Tryz.func55 rfl Tryz.ntmps55 rfl fun a E =>?_
 simp only [enum, Nat.reduceAdd] at E
 refine sq<|pr 1 E rfl fun a E=>nt<|wp_seq<|wp_seq_cut (fun a w => ∃ (b4 : Bool) (rs5 : List Rp), Env 81 a [(0, v1), (29, .bool b4)] ∧ Sep w (Fo) rs5 ∧ (∀ r, r ∈ rs → r ∈ rs5) ∧ rSl k_api_Node v1 l2 ∈ rs5 ∧ m_nodes_Right_j1 l2 b4 = some r) ?_ ?_
 ·refine wp_region_lit<|pr 1 E rfl fun a E=>sv E rfl rfl rfl (x_lenS E H rfl rfl hr3 Tryz.underlying22) fun a E=>pr 2 E rfl fun a E=>cs hm (fun hb50 hm=>?_) fun hb50 hm=>?_
  ·exact pk 18 E (kc 11 rfl hb50) rfl fun a E=>nt<|⟨true, _, E.sel [0, 29] rfl, H, fun r hr => hr, hr3, hm⟩
  ·refine pk 1 E (kc 11 rfl hb50) rfl fun a E=>st_val E (ws' (d := 11) E rfl rfl rfl rfl hb50) rfl rfl (x_lenS E H rfl rfl hr3 Tryz.underlying22) fun a E=>pk 3 E (kc 11 rfl hb50) rfl fun a E=>cs hm (fun hb51 hm=>?_) fun hb51 hm=>?_
   ·exact pk 13 E (kc 16 rfl hb51) rfl fun a E=>nt<|⟨true, _, E.sel [0, 29] rfl, H, fun r hr => hr, hr3, hm⟩
   ·refine pk 1 E (kc 16 rfl hb51) rfl fun a E=>bd hm fun x52 hx53 hm=>st_ixS E H (ws' (d := 16) E rfl rfl rfl rfl hb51) rfl rfl rfl rfl rfl hr3 Tryz.underlying22 sz80 hx53 fun q54 a H E=>have H:=H.derive1 m0 (rAt kS (q54.add 0) x52.Path) (fun ok h => k_api_Node_at0 h);pk 1 E (kc 16 rfl hb51) rfl fun a E=>st_val E (ws' (d := 16) E rfl rfl rfl rfl hb51) rfl rfl (x_ldA E H rfl rfl m0 Tryz.underlying9 rfl) fun a E=>pk 3 E (kc 16 rfl hb51) rfl fun a E=>cs hm (fun hb55 hm=>?_) fun hb55 hm=>?_
    ·exact pk 6 E (kc 23 rfl hb55) rfl fun a E=>nt<|⟨true, _, E.sel [0, 29] rfl, H, fun r hr => (t2 hr), (t2 hr3), hm⟩
    ·exact pk 1 E (kc 23 rfl hb55) rfl fun a E=>bd hm fun x56 hx57 hm=>st_ixS E H (ws' (d := 23) E rfl rfl rfl rfl hb55) rfl rfl rfl rfl rfl (t2 hr3) Tryz.underlying22 sz80 hx57 fun q58 a H E=>have H:=H.derive1 m0 (rAt (kI .i64) (q58.add 4) x56.Owner) (fun ok h => k_api_Node_at4 h);pk 1 E (kc 23 rfl hb55) rfl fun a E=>st_val E (ws' (d := 23) E rfl rfl rfl rfl hb55) rfl rfl (x_ldA E H rfl rfl m0 Tryz.underlying2 rfl) fun a E=>pk 2 E (kc 23 rfl hb55) rfl fun a E=>nt<|⟨x56.Owner != 0, _, E.sel [0, 29] rfl, H, fun r hr => (t4 hr), (t4 hr3), hm⟩
 ·clear E H hm
  rintro a w ⟨b4, rs5, E, H, hs6, hr7, hm⟩
  unfold m_nodes_Right_j1 at hm
  refine wif E hm rfl (fun hm=>?_) fun hm=>?_
  ·refine sq<|pr 1 E rfl fun a E=>nt<|wp_ret<|q_thenR<|out1 E rfl rfl<|?_
   cases hm
   exact ⟨rfl, H.reads (hs6)⟩
  ·refine wp_skip<|q_then<|sq<|st_makeMap (k := 9) (e := 3) E H (wn rfl) rfl rfl rfl fun p8 w a H E=>pr 1 E rfl fun a E=>nt<|wp_seq<|sq<|pr 1 E rfl fun a E=>?_
   refine sv E rfl rfl rfl (x_lenS E H rfl rfl hr7 Tryz.underlying22) fun a E=>pr 1 E rfl fun a E=>nt<|wp_block<|wp_loop_g (fun k1 a w => ∃ (x9 : Int) (x10 : (Nat)) (x11 : (List UInt8 → Int)) (rs12 : List Rp), Env 81 a [(0, v1), (3, .map (some p8)), (31, v1), (32, .int .i64 (l2.length : Int)), (33, .int .i64 x9)] ∧ Sep w (MapSI Tryz.prog 9 3 p8 x10 x11 :: Fo) rs12 ∧ (∀ r, r ∈ rs → r ∈ rs12) ∧ rSl k_api_Node v1 l2 ∈ rs12 ∧ m_nodes_Right_l1 l2 k1 x9 x10 x11 = some r) (((l2.length : Int) - 0 : Int).toNat + 1) ?_ ?_
   ·exact ⟨0, 0, (fun _ => 0), _, E.sel [0, 3, 31, 32, 33] rfl, H, hs6, hr7, hm⟩
   ·clear E H hm
    rintro k1 a w ⟨x9, x10, x11, rs12, E, H, hs13, hr14, hm⟩
    cases k1 with
    | zero => exact (none_some hm rfl).elim
    | succ k1 =>
     unfold m_nodes_Right_l1 at hm
     refine sq<|pr 1 E rfl fun a E=>nt<|wp_seq<|wif E hm rfl (fun hm=>?_) fun hm=>?_
     ·refine wp_skip<|q_then<|wp_seq_cut (fun a w => ∃ (x15 : (Nat)) (x16 : (List UInt8 → Int)) (rs17 : List Rp), Env 81 a [(0, v1), (3, .map (some p8)), (31, v1), (32, .int .i64 (l2.length : Int)), (33, .int .i64 x9)] ∧ Sep w (MapSI Tryz.prog 9 3 p8 x15 x16 :: Fo) rs17 ∧ (∀ r, r ∈ rs → r ∈ rs17) ∧ rSl k_api_Node v1 l2 ∈ rs17 ∧ m_nodes_Right_j2 (m_nodes_Right_l1 l2 k1) x9 x15 x16 = some r) ?_ ?_
      ·refine wp_block<|sq<|pr 1 E rfl fun a E=>bd hm fun x20 hx21 hm=>st_ixS E H (wn rfl) rfl rfl rfl rfl rfl hr14 Tryz.underlying22 sz80 hx21 fun q22 a H E=>ldf k_api_Node_flat E H rfl rfl rfl rfl rfl m0 Tryz.underlying80 rfl sz80 fun a E=>al E H rfl rfl rfl rfl zr80 fun p23 w a H E=>pr 1 E rfl fun a E=>st_st (i := 0) E H (wn rfl) rfl (us := (l_api_Node x20)) rfl rfl rfl rfl rfl sz80 rfl rfl fun w H=>?_
       refine nx<|pr 1 E rfl fun a E=>lb E H 0 rfl rfl rfl rfl rfl rfl rfl Tryz.underlying9 rfl fun a E=>bd hm fun u24 hx25 hm=>x_cl E rfl rfl rfl rfl rfl cf111 (c_path_Parent x20.Path H hx25)<|?_
       rintro _ w ⟨rfl, H⟩ a E
       refine pr 5 E rfl fun a E=>nt<|wp_seq<|wp_seq_cut (fun a w => ∃ (b26 : Bool) (rs27 : List Rp), Env 81 a [(0, v1), (3, .map (some p8)), (5, pt p23 0), (31, v1), (32, .int .i64 (l2.length : Int)), (33, .int .i64 x9), (71, .bool b26)] ∧ Sep w (MapSI Tryz.prog 9 3 p8 x10 x11 :: Blk p23 80 (l_api_Node x20) :: Fo) rs27 ∧ (∀ r, r ∈ rs → r ∈ rs27) ∧ rSl k_api_Node v1 l2 ∈ rs27 ∧ m_nodes_Right_j3 (m_nodes_Right_l1 l2 k1) x9 x20 x11 x10 b26 = some r) ?_ ?_
       ·obtain ⟨u34, H⟩ := H.raw (t1 hr14)
        refine dw [(0, 0), (1, 1), (2, 0), (3, 0), (4, 0), (5, 0), (6, 0), (7, 0), (8, 0), (9, 0), (10, 0), (11, 0), (12, 0), (13, 0), (14, 0), (15, 0), (16, 0), (17, 0), (18, 0), (19, 0), (20, 0), (21, 0), (22, 0), (23, 0), (24, 0), (25, 0), (26, 0), (27, 0)] [0, 1] [0] H (by kernel_rfl) (fun _ _ _ h => False.elim h.2) fun w W0 hI H=>fbn E (l_api_Node x20) rfl (wn rfl) rfl rfl rfl rfl m0 rfl Tryz.underlying80 rfl sz80 fun a E=>fr_op rfl<|bd hm fun u35 hx36 hm=>x_cl E rfl rfl rfl rfl rfl cf112 (c_nodes_node x20 H hx36)<|?_
        rintro _ w ⟨rfl, H⟩ a E
        refine nt<|?_
        refine ⟨⟨_, _, H, (subO_cons m0 (subO_cons mm1 (subO_nil))), (sub_cons m0 (sub_nil))⟩, ?_⟩
        refine fn 2 E rfl fun a E=>cs hm (fun hb37 hm=>?_) fun hb37 hm=>?_
        ·refine fk 24 E (kc 47 rfl hb37) rfl fun a E=>fr_nil<|?_
         clear hI
         exact q_then<|have H:=H.front 0 rfl;have H:=H.front 1 rfl;⟨true, _, E.sel [0, 3, 5, 31, 32, 33, 71] rfl, H, fun r hr => (t2 (hs13 r hr)), (t2 hr14), hm⟩
        ·refine fk 3 E (kc 47 rfl hb37) rfl fun a E=>cs hm (fun hb38 hm=>?_) fun hb38 hm=>?_
         ·refine fk 3 E (kc 50 rfl hb38) rfl fun a E=>cs hm (fun hb39 hm=>?_) fun hb39 hm=>?_
          ·refine fk 18 E (kc' (kc' (kc 53 rfl hb39) 50 rfl hb38) 47 rfl hb37) rfl fun a E=>fr_nil<|?_
           clear hI
           exact q_then<|have H:=H.front 0 rfl;have H:=H.front 1 rfl;⟨true, _, E.sel [0, 3, 5, 31, 32, 33, 71] rfl, H, fun r hr => (t2 (hs13 r hr)), (t2 hr14), hm⟩
          ·refine fk 2 E (kc 53 rfl hb39) rfl fun a E=>bk hm fun hx41 hm=>fr_val E rfl (ws' (d := 53) E rfl rfl rfl rfl hb39) rfl rfl (fun w hW=>x_lookI E rfl rfl rfl mm1 Tryz.underlying9 Tryz.underlying125 Tryz.underlying3 zer3 hx41 hW) fun a E=>?_
           refine fk 3 E (kc' (kc 53 rfl hb39) 50 rfl hb38) rfl fun a E=>cs hm (fun hb42 hm=>?_) fun hb42 hm=>?_
           ·refine fk 12 E (kc' (kc' (kc 59 rfl hb42) 50 rfl hb38) 47 rfl hb37) rfl fun a E=>fr_nil<|?_
            clear hI
            exact q_then<|have H:=H.front 0 rfl;have H:=H.front 1 rfl;⟨true, _, E.sel [0, 3, 5, 31, 32, 33, 71] rfl, H, fun r hr => (t2 (hs13 r hr)), (t2 hr14), hm⟩
           ·refine fk 3 E (kc 59 rfl hb42) rfl fun a E=>bd hm fun x43 hx44 hm=>?_
            obtain ⟨q45, u48, hx46, hx47⟩ := dr_ixW (P := Tryz.prog) (k := .i64) hI (dr_mem (.head _)) Tryz.underlying22 sz80 hx44
            refine fr_val E rfl (ws' (d := 59) E rfl rfl rfl rfl hb42) rfl rfl (fun w hW=>x_ixA E rfl rfl rfl (hx46 w)) fun a E=>?_
            have hx49 := dr_fld hx47 (fun _ _ _ h => k_api_Node_aw0 h)
            refine fk 1 E (kc 59 rfl hb42) rfl fun a E=>fa E rfl (ws' (d := 59) E rfl rfl rfl rfl hb42) rfl rfl rfl rfl hx49 Tryz.underlying9 rfl fun a E=>fk 1 E (kc 59 rfl hb42) rfl fun a E=>fb E rfl (ws' (d := 59) E rfl rfl rfl rfl hb42) rfl rfl rfl rfl m0 rfl Tryz.underlying9 rfl fun a E=>fk 4 E (kc' (kc' (kc 59 rfl hb42) 50 rfl hb38) 47 rfl hb37) rfl fun a E=>fr_nil<|?_
            clear hI
            exact q_then<|have H:=H.front 0 rfl;have H:=H.front 1 rfl;⟨!(sLt x43.Path x20.Path), _, E.sel [0, 3, 5, 31, 32, 33, 71] rfl, H, fun r hr => (t2 (hs13 r hr)), (t2 hr14), hm⟩
         ·refine fk 21 E (kc' (kc 50 rfl hb38) 47 rfl hb37) rfl fun a E=>fr_nil<|?_
          clear hI
          exact q_then<|have H:=H.front 0 rfl;have H:=H.front 1 rfl;⟨false, _, E.sel [0, 3, 5, 31, 32, 33, 71] rfl, H, fun r hr => (t2 (hs13 r hr)), (t2 hr14), hm⟩
       ·clear E H hm
        rintro a w ⟨b26, rs27, E, H, hs28, hr29, hm⟩
        unfold m_nodes_Right_j3 at hm
        refine wif E hm rfl (fun hm=>?_) fun hm=>?_
        ·refine sq<|pr 1 E rfl fun a E=>nt<|wp_ret<|q_thenR<|q_blkR<|q_thenR<|q_thenR<|q_blkR<|?_
         refine q_thenR<|out1 E rfl rfl<|have H:=H.drop 0;have H:=H.drop 0;?_
         cases hm
         exact ⟨rfl, H.reads (hs28)⟩
        ·refine wp_skip<|q_then<|sq<|pr 1 E rfl fun a E=>lb E H 1 rfl rfl rfl rfl rfl rfl rfl Tryz.underlying2 rfl fun a E=>pr 1 E rfl fun a E=>nt<|wif E hm rfl (fun hm=>?_) fun hm=>?_
         ·refine wp_region_lit<|pr 2 E rfl fun a E=>lb E H 1 rfl rfl rfl rfl rfl rfl rfl Tryz.underlying9 rfl fun a E=>bk hm fun hx31 hm=>sv E rfl rfl rfl (x_look (i := 0) E H rfl rfl rfl rfl Tryz.underlying9 Tryz.underlying125 Tryz.underlying3 zer3 hx31) fun a E=>pr 1 E rfl fun a E=>bk hm fun hx33 hm=>st_mapPut (i := 0) E H (wn rfl) rfl rfl rfl rfl rfl rfl Tryz.underlying9 Tryz.underlying125 Tryz.underlying3 hx33.1 hx33.2.1 hx33.2.2 fun w H=>wpList_nil<|?_
          exact q_blk<|q_then<|have H:=H.drop 1;⟨x10 + 1, mput x11 x20.Path.data.toList (IntKind.i64.wrap ((x11 x20.Path.data.toList) + 1)), _, E.sel [0, 3, 31, 32, 33] rfl, H, hs28, hr29, hm⟩
         ·exact wp_skip<|q_blk<|q_then<|have H:=H.drop 1;⟨x10, x11, _, E.sel [0, 3, 31, 32, 33] rfl, H, hs28, hr29, hm⟩
      ·clear E H hm
       rintro a w ⟨x15, x16, rs17, E, H, hs18, hr19, hm⟩
       unfold m_nodes_Right_j2 at hm
       exact wp_region_lit<|pr 2 E rfl fun a E=>nt<|⟨k1, Nat.lt_succ_self k1, IntKind.i64.wrap (x9 + 1), x15, x16, _, E.sel [0, 3, 31, 32, 33] rfl, H, hs18, hr19, hm⟩
     ·refine wp_exit<|q_thenX<|q_thenX<|q_hit<|q_then<|sq<|pr 1 E rfl fun a E=>nt<|wp_ret<|?_
      refine out1 E rfl rfl<|have H:=H.drop 0;?_
      cases hm
      exact ⟨rfl, H.reads (hs13)⟩

def m_cantonref06_Find_l1 (l2 : List S_api_Node) (s3 : ByteArray) : Nat → Int → Option (S_api_Node × Bool)
  | 0, _ => none
  | k1 + 1, x6 =>
    if (decide (x6 < (l2.length : Int))) = true then ((idx l2 x6).bind fun x10 => if (sEq x10.Path s3) = true then ((idx l2 x6).bind fun x13 => some (x13, true)) else (m_cantonref06_Find_l1 l2 s3 k1 (IntKind.i64.wrap (x6 + 1)))) else (some ((⟨(ByteArray.mk #[]), (ByteArray.mk #[]), 0, 0, 0⟩ : S_api_Node), false))
def m_cantonref06_Find (l2 : List S_api_Node) (s3 : ByteArray) : Option (S_api_Node × Bool) :=
  m_cantonref06_Find_l1 l2 s3 (((l2.length : Int) - 0 : Int).toNat + 1) 0
theorem c_cantonref06_Find {w : World} {Fo : List Ob} {rs : List Rp} (v1 : Value) (l2 : List S_api_Node) (s3 : ByteArray) (H : Sep w (Fo) rs) (hr4 : rSl k_api_Node v1 l2 ∈ rs) {r : S_api_Node × Bool} (hm : m_cantonref06_Find l2 s3 = some r) :
    Calls Tryz.prog 70 [v1, .string s3].toArray w (Ret fun v w' => .tuple #[.agg (l_api_Node r.1).toArray, .bool r.2] = v ∧ Sep w' (Fo) (rs)) := by
 unfold m_cantonref06_Find at hm
 refine enter Tryz.func70 rfl Tryz.ntmps70 rfl fun a E =>?_
 simp only [enum, Nat.reduceAdd] at E
 refine sq<|al E H rfl rfl rfl rfl zr80 fun p5 w a H E=>pr 1 E rfl fun a E=>nt<|wp_seq<|sq<|pr 1 E rfl fun a E=>nt<|wp_block<|wp_loop_g (fun k1 a w => ∃ (x6 : Int) (rs7 : List Rp), Env 25 a [(0, v1), (1, .string s3), (4, pt p5 0), (6, .int .i64 x6)] ∧ Sep w (Blk p5 80 z_api_Node :: Fo) rs7 ∧ (∀ r, r ∈ rs → r ∈ rs7) ∧ rSl k_api_Node v1 l2 ∈ rs7 ∧ m_cantonref06_Find_l1 l2 s3 k1 x6 = some r) (((l2.length : Int) - 0 : Int).toNat + 1) ?_ ?_
 ·exact ⟨0, _, E.sel [0, 1, 4, 6] rfl, H, fun r hr => hr, hr4, hm⟩
 ·clear E H hm
  rintro k1 a w ⟨x6, rs7, E, H, hs8, hr9, hm⟩
  cases k1 with
  | zero => exact (none_some hm rfl).elim
  | succ k1 =>
   unfold m_cantonref06_Find_l1 at hm
   refine wp_seq<|sq<|pr 2 E rfl fun a E=>sv E rfl rfl rfl (x_lenS E H rfl rfl hr9 Tryz.underlying22) fun a E=>pr 1 E rfl fun a E=>nt<|wif E hm rfl (fun hm=>?_) fun hm=>?_
   ·refine wp_skip<|q_then<|wp_seq<|wp_block<|sq<|pr 2 E rfl fun a E=>bd hm fun x10 hx11 hm=>st_ixS E H (wn rfl) rfl rfl rfl rfl rfl hr9 Tryz.underlying22 sz80 hx11 fun q12 a H E=>have H:=H.derive1 m0 (rAt kS (q12.add 0) x10.Path) (fun ok h => k_api_Node_at0 h);?_
    refine pr 1 E rfl fun a E=>sv E rfl rfl rfl (x_ldA E H rfl rfl m0 Tryz.underlying9 rfl) fun a E=>pr 2 E rfl fun a E=>nt<|wif E hm rfl (fun hm=>?_) fun hm=>?_
    ·refine sq<|pr 2 E rfl fun a E=>bd hm fun x13 hx14 hm=>st_ixS E H (wn rfl) rfl rfl rfl rfl rfl (t2 hr9) Tryz.underlying22 sz80 hx14 fun q15 a H E=>ldf k_api_Node_flat E H rfl rfl rfl rfl rfl m0 Tryz.underlying80 rfl sz80 fun a E=>st_st (i := 0) E H (wn rfl) rfl (us := (l_api_Node x13)) rfl rfl rfl rfl rfl sz80 rfl rfl fun w H=>pr 1 E rfl fun a E=>nt<|wp_ret<|?_
     refine q_blkR<|q_thenR<|q_thenR<|q_blkR<|q_thenR<|outR2 E rfl (rvBN (i := 0) (us := (l_api_Node x13)) H rfl rfl rfl Tryz.underlying80 rfl sz80) (rvT rfl)<|have H:=H.drop 0;?_
     cases hm
     exact ⟨rfl, H.reads (fun r hr => (t3 (hs8 r hr)))⟩
    ·exact wp_skip<|q_blk<|q_then<|wp_region_lit<|pr 3 E rfl fun a E=>nt<|⟨k1, Nat.lt_succ_self k1, IntKind.i64.wrap (x6 + 1), _, E.sel [0, 1, 4, 6] rfl, H, fun r hr => (t2 (hs8 r hr)), (t2 hr9), hm⟩
   ·refine wp_exit<|q_thenX<|q_thenX<|q_hit<|q_then<|sq<|sv E rfl rfl rfl (x_build E rfl (E.evs rfl) (v := .agg z_api_Node.toArray) (by kernel_rfl)) fun a E=>st_st (i := 0) E H (wn rfl) rfl (us := z_api_Node) rfl rfl rfl rfl rfl sz80 rfl rfl fun w H=>pr 1 E rfl fun a E=>?_
    refine nt<|wp_ret<|outR2 E rfl (rvBN (i := 0) (us := z_api_Node) H rfl rfl rfl Tryz.underlying80 rfl sz80) (rvT rfl)<|have H:=H.drop 0;?_
    cases hm
    exact ⟨rfl, H.reads (hs8)⟩

def m_cantonref06_Right_j2 (rec_1 : Int → Option Bool) (x8 : Int) : Option Bool :=
  rec_1 (IntKind.i64.wrap (x8 + 1))
def m_cantonref06_Right_j4 (rec_1 : Int → Option Bool) (x8 : Int) (b28 : Bool) : Option Bool :=
  if b28 = true then (some (false)) else (m_cantonref06_Right_j2 rec_1 x8)
def m_cantonref06_Right_j3 (rec_1 : Int → Option Bool) (x8 : Int) (x15 : S_api_Node) (l2 : List S_api_Node) (b19 : Bool) : Option Bool :=
  if b19 = true then (some (false)) else (if (x8 == 0) = true then (m_cantonref06_Right_j2 rec_1 x8) else ((m_cantonref01_Parent x15.Path).bind fun u23 => (m_cantonref06_Find l2 u23.1).bind fun u25 => (idx l2 (IntKind.i64.wrap (x8 - 1))).bind fun x33 => if (!(sLt x33.Path x15.Path)) = true then (m_cantonref06_Right_j4 rec_1 x8 true) else (if (!u23.2) = true then (m_cantonref06_Right_j4 rec_1 x8 true) else (if (!u25.2) = true then (m_cantonref06_Right_j4 rec_1 x8 true) else (m_cantonref06_Right_j4 rec_1 x8 (u25.1.Owner != 0))))))
def m_cantonref06_Right_l1 (l2 : List S_api_Node) : Nat → Int → Option Bool
  | 0, _ => none
  | k1 + 1, x8 =>
    if (decide (x8 < (l2.length : Int))) = true then ((idx l2 x8).bind fun x15 => if (decide ((x15.Data.size : Int) > 256)) = true then (m_cantonref06_Right_j3 (m_cantonref06_Right_l1 l2 k1) x8 x15 l2 true) else (if (decide (x15.Version < 0)) = true then (m_cantonref06_Right_j3 (m_cantonref06_Right_l1 l2 k1) x8 x15 l2 true) else (if (decide (x15.Version > 281474976710656)) = true then (m_cantonref06_Right_j3 (m_cantonref06_Right_l1 l2 k1) x8 x15 l2 true) else (if (decide (x15.Turn < 0)) = true then (m_cantonref06_Right_j3 (m_cantonref06_Right_l1 l2 k1) x8 x15 l2 true) else (if (decide (x15.Turn > 10000)) = true then (m_cantonref06_Right_j3 (m_cantonref06_Right_l1 l2 k1) x8 x15 l2 true) else (if (decide (x15.Owner < 0)) = true then (m_cantonref06_Right_j3 (m_cantonref06_Right_l1 l2 k1) x8 x15 l2 true) else (if (decide (x15.Owner > 1099511627776)) = true then (m_cantonref06_Right_j3 (m_cantonref06_Right_l1 l2 k1) x8 x15 l2 true) else (if (x15.Owner != 0) = true then (m_cantonref06_Right_j3 (m_cantonref06_Right_l1 l2 k1) x8 x15 l2 (x15.Turn != 0)) else (m_cantonref06_Right_j3 (m_cantonref06_Right_l1 l2 k1) x8 x15 l2 false))))))))) else (some (true))
def m_cantonref06_Right_j1 (l2 : List S_api_Node) (b4 : Bool) : Option Bool :=
  if b4 = true then (some (false)) else (m_cantonref06_Right_l1 l2 (((l2.length : Int) - 0 : Int).toNat + 1) 0)
def m_cantonref06_Right (l2 : List S_api_Node) : Option Bool :=
  if ((l2.length : Int) == 0) = true then (m_cantonref06_Right_j1 l2 true) else (if (decide ((l2.length : Int) > 512)) = true then (m_cantonref06_Right_j1 l2 true) else ((idx l2 0).bind fun x53 => if (!(sEq x53.Path (ByteArray.mk #[47]))) = true then (m_cantonref06_Right_j1 l2 true) else ((idx l2 0).bind fun x57 => m_cantonref06_Right_j1 l2 (x57.Owner != 0))))
theorem c_cantonref06_Right {w : World} {Fo : List Ob} {rs : List Rp} (v1 : Value) (l2 : List S_api_Node) (H : Sep w (Fo) rs) (hr3 : rSl k_api_Node v1 l2 ∈ rs) {r : Bool} (hm : m_cantonref06_Right l2 = some r) :
    Calls Tryz.prog 35 [v1].toArray w (Ret fun v w' => .bool r = v ∧ Sep w' (Fo) (rs)) := by
 unfold m_cantonref06_Right at hm
 refine enter Tryz.func35 rfl Tryz.ntmps35 rfl fun a E =>?_
 simp only [enum, Nat.reduceAdd] at E
 refine sq<|pr 1 E rfl fun a E=>nt<|wp_seq<|wp_seq_cut (fun a w => ∃ (b4 : Bool) (rs5 : List Rp), Env 121 a [(0, v1), (30, .bool b4)] ∧ Sep w (Fo) rs5 ∧ (∀ r, r ∈ rs → r ∈ rs5) ∧ rSl k_api_Node v1 l2 ∈ rs5 ∧ m_cantonref06_Right_j1 l2 b4 = some r) ?_ ?_
 ·refine wp_region_lit<|pr 1 E rfl fun a E=>sv E rfl rfl rfl (x_lenS E H rfl rfl hr3 Tryz.underlying22) fun a E=>pr 2 E rfl fun a E=>cs hm (fun hb51 hm=>?_) fun hb51 hm=>?_
  ·exact pk 18 E (kc 12 rfl hb51) rfl fun a E=>nt<|⟨true, _, E.sel [0, 30] rfl, H, fun r hr => hr, hr3, hm⟩
  ·refine pk 1 E (kc 12 rfl hb51) rfl fun a E=>st_val E (ws' (d := 12) E rfl rfl rfl rfl hb51) rfl rfl (x_lenS E H rfl rfl hr3 Tryz.underlying22) fun a E=>pk 3 E (kc 12 rfl hb51) rfl fun a E=>cs hm (fun hb52 hm=>?_) fun hb52 hm=>?_
   ·exact pk 13 E (kc 17 rfl hb52) rfl fun a E=>nt<|⟨true, _, E.sel [0, 30] rfl, H, fun r hr => hr, hr3, hm⟩
   ·refine pk 1 E (kc 17 rfl hb52) rfl fun a E=>bd hm fun x53 hx54 hm=>st_ixS E H (ws' (d := 17) E rfl rfl rfl rfl hb52) rfl rfl rfl rfl rfl hr3 Tryz.underlying22 sz80 hx54 fun q55 a H E=>have H:=H.derive1 m0 (rAt kS (q55.add 0) x53.Path) (fun ok h => k_api_Node_at0 h);pk 1 E (kc 17 rfl hb52) rfl fun a E=>st_val E (ws' (d := 17) E rfl rfl rfl rfl hb52) rfl rfl (x_ldA E H rfl rfl m0 Tryz.underlying9 rfl) fun a E=>pk 3 E (kc 17 rfl hb52) rfl fun a E=>cs hm (fun hb56 hm=>?_) fun hb56 hm=>?_
    ·exact pk 6 E (kc 24 rfl hb56) rfl fun a E=>nt<|⟨true, _, E.sel [0, 30] rfl, H, fun r hr => (t2 hr), (t2 hr3), hm⟩
    ·exact pk 1 E (kc 24 rfl hb56) rfl fun a E=>bd hm fun x57 hx58 hm=>st_ixS E H (ws' (d := 24) E rfl rfl rfl rfl hb56) rfl rfl rfl rfl rfl (t2 hr3) Tryz.underlying22 sz80 hx58 fun q59 a H E=>have H:=H.derive1 m0 (rAt (kI .i64) (q59.add 4) x57.Owner) (fun ok h => k_api_Node_at4 h);pk 1 E (kc 24 rfl hb56) rfl fun a E=>st_val E (ws' (d := 24) E rfl rfl rfl rfl hb56) rfl rfl (x_ldA E H rfl rfl m0 Tryz.underlying2 rfl) fun a E=>pk 2 E (kc 24 rfl hb56) rfl fun a E=>nt<|⟨x57.Owner != 0, _, E.sel [0, 30] rfl, H, fun r hr => (t4 hr), (t4 hr3), hm⟩
 ·clear E H hm
  rintro a w ⟨b4, rs5, E, H, hs6, hr7, hm⟩
  unfold m_cantonref06_Right_j1 at hm
  refine wif E hm rfl (fun hm=>?_) fun hm=>?_
  ·refine sq<|pr 1 E rfl fun a E=>nt<|wp_ret<|q_thenR<|out1 E rfl rfl<|?_
   cases hm
   exact ⟨rfl, H.reads (hs6)⟩
  ·refine wp_skip<|q_then<|wp_seq<|sq<|pr 1 E rfl fun a E=>nt<|wp_block<|wp_loop_g (fun k1 a w => ∃ (x8 : Int) (rs9 : List Rp), Env 121 a [(0, v1), (3, .int .i64 x8)] ∧ Sep w (Fo) rs9 ∧ (∀ r, r ∈ rs → r ∈ rs9) ∧ rSl k_api_Node v1 l2 ∈ rs9 ∧ m_cantonref06_Right_l1 l2 k1 x8 = some r) (((l2.length : Int) - 0 : Int).toNat + 1) ?_ ?_
   ·exact ⟨0, _, E.sel [0, 3] rfl, H, hs6, hr7, hm⟩
   ·clear E H hm
    rintro k1 a w ⟨x8, rs9, E, H, hs10, hr11, hm⟩
    cases k1 with
    | zero => exact (none_some hm rfl).elim
    | succ k1 =>
     unfold m_cantonref06_Right_l1 at hm
     refine wp_seq<|sq<|pr 2 E rfl fun a E=>sv E rfl rfl rfl (x_lenS E H rfl rfl hr11 Tryz.underlying22) fun a E=>pr 1 E rfl fun a E=>nt<|wif E hm rfl (fun hm=>?_) fun hm=>?_
     ·refine wp_skip<|q_then<|wp_seq_cut (fun a w => ∃ (rs12 : List Rp), Env 121 a [(0, v1), (3, .int .i64 x8)] ∧ Sep w (Fo) rs12 ∧ (∀ r, r ∈ rs → r ∈ rs12) ∧ rSl k_api_Node v1 l2 ∈ rs12 ∧ m_cantonref06_Right_j2 (m_cantonref06_Right_l1 l2 k1) x8 = some r) ?_ ?_
      ·refine wp_block<|sq<|pr 2 E rfl fun a E=>bd hm fun x15 hx16 hm=>st_ixS E H (wn rfl) rfl rfl rfl rfl rfl hr11 Tryz.underlying22 sz80 hx16 fun q17 a H E=>ldf k_api_Node_flat E H rfl rfl rfl rfl rfl m0 Tryz.underlying80 rfl sz80 fun a E=>al E H rfl rfl rfl rfl zr80 fun p18 w a H E=>st_st (i := 0) E H (wn rfl) rfl (us := (l_api_Node x15)) rfl rfl rfl rfl rfl sz80 rfl rfl fun w H=>nt<|?_
       refine wp_seq<|wp_seq_cut (fun a w => ∃ (b19 : Bool) (rs20 : List Rp), Env 121 a [(0, v1), (3, .int .i64 x8), (4, pt p18 0), (84, .bool b19)] ∧ Sep w (Blk p18 80 (l_api_Node x15) :: Fo) rs20 ∧ (∀ r, r ∈ rs → r ∈ rs20) ∧ rSl k_api_Node v1 l2 ∈ rs20 ∧ m_cantonref06_Right_j3 (m_cantonref06_Right_l1 l2 k1) x8 x15 l2 b19 = some r) ?_ ?_
       ·refine wp_region_lit<|pr 1 E rfl fun a E=>lb E H 0 rfl rfl rfl rfl rfl rfl rfl Tryz.underlying9 rfl fun a E=>pr 3 E rfl fun a E=>cs hm (fun hb43 hm=>?_) fun hb43 hm=>?_
        ·exact pk 39 E (kc 45 rfl hb43) rfl fun a E=>nt<|⟨true, _, E.sel [0, 3, 4, 84] rfl, H, fun r hr => (t1 (hs10 r hr)), (t1 hr11), hm⟩
        ·refine pk 1 E (kc 45 rfl hb43) rfl fun a E=>st_val E (ws' (d := 45) E rfl rfl rfl rfl hb43) rfl rfl (x_ldB (i := 0) E H rfl rfl rfl rfl Tryz.underlying2 rfl) fun a E=>pk 3 E (kc 45 rfl hb43) rfl fun a E=>cs hm (fun hb44 hm=>?_) fun hb44 hm=>?_
         ·exact pk 34 E (kc 50 rfl hb44) rfl fun a E=>nt<|⟨true, _, E.sel [0, 3, 4, 84] rfl, H, fun r hr => (t1 (hs10 r hr)), (t1 hr11), hm⟩
         ·refine pk 1 E (kc 50 rfl hb44) rfl fun a E=>st_val E (ws' (d := 50) E rfl rfl rfl rfl hb44) rfl rfl (x_ldB (i := 0) E H rfl rfl rfl rfl Tryz.underlying2 rfl) fun a E=>pk 3 E (kc 50 rfl hb44) rfl fun a E=>cs hm (fun hb45 hm=>?_) fun hb45 hm=>?_
          ·exact pk 29 E (kc 55 rfl hb45) rfl fun a E=>nt<|⟨true, _, E.sel [0, 3, 4, 84] rfl, H, fun r hr => (t1 (hs10 r hr)), (t1 hr11), hm⟩
          ·refine pk 1 E (kc 55 rfl hb45) rfl fun a E=>st_val E (ws' (d := 55) E rfl rfl rfl rfl hb45) rfl rfl (x_ldB (i := 0) E H rfl rfl rfl rfl Tryz.underlying2 rfl) fun a E=>pk 3 E (kc 55 rfl hb45) rfl fun a E=>cs hm (fun hb46 hm=>?_) fun hb46 hm=>?_
           ·exact pk 24 E (kc 60 rfl hb46) rfl fun a E=>nt<|⟨true, _, E.sel [0, 3, 4, 84] rfl, H, fun r hr => (t1 (hs10 r hr)), (t1 hr11), hm⟩
           ·refine pk 1 E (kc 60 rfl hb46) rfl fun a E=>st_val E (ws' (d := 60) E rfl rfl rfl rfl hb46) rfl rfl (x_ldB (i := 0) E H rfl rfl rfl rfl Tryz.underlying2 rfl) fun a E=>pk 3 E (kc 60 rfl hb46) rfl fun a E=>cs hm (fun hb47 hm=>?_) fun hb47 hm=>?_
            ·exact pk 19 E (kc 65 rfl hb47) rfl fun a E=>nt<|⟨true, _, E.sel [0, 3, 4, 84] rfl, H, fun r hr => (t1 (hs10 r hr)), (t1 hr11), hm⟩
            ·refine pk 1 E (kc 65 rfl hb47) rfl fun a E=>st_val E (ws' (d := 65) E rfl rfl rfl rfl hb47) rfl rfl (x_ldB (i := 0) E H rfl rfl rfl rfl Tryz.underlying2 rfl) fun a E=>pk 3 E (kc 65 rfl hb47) rfl fun a E=>cs hm (fun hb48 hm=>?_) fun hb48 hm=>?_
             ·exact pk 14 E (kc 70 rfl hb48) rfl fun a E=>nt<|⟨true, _, E.sel [0, 3, 4, 84] rfl, H, fun r hr => (t1 (hs10 r hr)), (t1 hr11), hm⟩
             ·refine pk 1 E (kc 70 rfl hb48) rfl fun a E=>st_val E (ws' (d := 70) E rfl rfl rfl rfl hb48) rfl rfl (x_ldB (i := 0) E H rfl rfl rfl rfl Tryz.underlying2 rfl) fun a E=>pk 3 E (kc 70 rfl hb48) rfl fun a E=>cs hm (fun hb49 hm=>?_) fun hb49 hm=>?_
              ·exact pk 9 E (kc 75 rfl hb49) rfl fun a E=>nt<|⟨true, _, E.sel [0, 3, 4, 84] rfl, H, fun r hr => (t1 (hs10 r hr)), (t1 hr11), hm⟩
              ·refine pk 1 E (kc 75 rfl hb49) rfl fun a E=>st_val E (ws' (d := 75) E rfl rfl rfl rfl hb49) rfl rfl (x_ldB (i := 0) E H rfl rfl rfl rfl Tryz.underlying2 rfl) fun a E=>pk 2 E (kc 75 rfl hb49) rfl fun a E=>cs hm (fun hb50 hm=>?_) fun hb50 hm=>?_
               ·exact pk 1 E (kc 79 rfl hb50) rfl fun a E=>st_val E (ws' (d := 79) E rfl rfl rfl rfl hb50) rfl rfl (x_ldB (i := 0) E H rfl rfl rfl rfl Tryz.underlying2 rfl) fun a E=>pk 3 E (kc' (kc 79 rfl hb50) 75 rfl hb49) rfl fun a E=>nt<|⟨x15.Turn != 0, _, E.sel [0, 3, 4, 84] rfl, H, fun r hr => (t1 (hs10 r hr)), (t1 hr11), hm⟩
               ·exact pk 5 E (kc' (kc 79 rfl hb50) 75 rfl hb49) rfl fun a E=>nt<|⟨false, _, E.sel [0, 3, 4, 84] rfl, H, fun r hr => (t1 (hs10 r hr)), (t1 hr11), hm⟩
       ·clear E H hm
        rintro a w ⟨b19, rs20, E, H, hs21, hr22, hm⟩
        unfold m_cantonref06_Right_j3 at hm
        refine wif E hm rfl (fun hm=>?_) fun hm=>?_
        ·refine sq<|pr 1 E rfl fun a E=>nt<|wp_ret<|q_thenR<|q_blkR<|q_thenR<|q_thenR<|q_blkR<|?_
         refine q_thenR<|out1 E rfl rfl<|have H:=H.drop 0;?_
         cases hm
         exact ⟨rfl, H.reads (hs21)⟩
        ·refine wp_skip<|q_then<|wp_seq<|sq<|pr 2 E rfl fun a E=>nt<|wif E hm rfl (fun hm=>?_) fun hm=>?_
         ·exact wp_exit<|q_thenX<|q_hit<|q_then<|have H:=H.drop 0;⟨_, E.sel [0, 3] rfl, H, hs21, hr22, hm⟩
         ·refine wp_skip<|q_then<|sq<|pr 1 E rfl fun a E=>lb E H 0 rfl rfl rfl rfl rfl rfl rfl Tryz.underlying9 rfl fun a E=>bd hm fun u23 hx24 hm=>x_cl E rfl rfl rfl rfl rfl cf69 (c_cantonref01_Parent x15.Path H hx24)<|?_
          rintro _ w ⟨rfl, H⟩ a E
          refine pr 5 E rfl fun a E=>nx<|pr 2 E rfl fun a E=>bd hm fun u25 hx26 hm=>x_cl E rfl rfl rfl rfl rfl cf70 (c_cantonref06_Find v1 l2 u23.1 H hr22 hx26)<|?_
          rintro _ w ⟨rfl, H⟩ a E
          refine pr 3 E rfl fun a E=>al E H rfl rfl rfl rfl zr80 fun p27 w a H E=>st_st (i := 0) E H (wn rfl) rfl (us := (l_api_Node u25.1)) rfl rfl rfl rfl rfl sz80 rfl rfl fun w H=>pr 1 E rfl fun a E=>nt<|wp_seq_cut (fun a w => ∃ (b28 : Bool) (rs29 : List Rp), Env 121 a [(0, v1), (3, .int .i64 x8), (120, .bool b28)] ∧ Sep w (Fo) rs29 ∧ (∀ r, r ∈ rs → r ∈ rs29) ∧ rSl k_api_Node v1 l2 ∈ rs29 ∧ m_cantonref06_Right_j4 (m_cantonref06_Right_l1 l2 k1) x8 b28 = some r) ?_ ?_
          ·obtain ⟨u32, H⟩ := H.raw hr22
           refine dw [(0, 0), (1, 0), (2, 0), (3, 0), (4, 0), (5, 0), (6, 0), (7, 0), (8, 0), (9, 0), (10, 0), (11, 0), (12, 0), (13, 0), (14, 0), (15, 0), (16, 0), (17, 0), (18, 0), (19, 0), (20, 0), (21, 0)] [0, 1] [0] H (by kernel_rfl) (fun _ _ _ h => False.elim h.2) fun w W0 hI H=>fn 3 E rfl fun a E=>bd hm fun x33 hx34 hm=>?_
           obtain ⟨q35, u38, hx36, hx37⟩ := dr_ixW (P := Tryz.prog) (k := .i64) hI (dr_mem (.head _)) Tryz.underlying22 sz80 hx34
           refine fr_val E rfl (wn rfl) rfl rfl (fun w hW=>x_ixA E rfl rfl rfl (hx36 w)) fun a E=>?_
           have hx39 := dr_fld hx37 (fun _ _ _ h => k_api_Node_aw0 h)
           refine fn 1 E rfl fun a E=>fa E rfl (wn rfl) rfl rfl rfl rfl hx39 Tryz.underlying9 rfl fun a E=>fn 1 E rfl fun a E=>fb E rfl (wn rfl) rfl rfl rfl rfl mm1 rfl Tryz.underlying9 rfl fun a E=>fn 2 E rfl fun a E=>cs hm (fun hb40 hm=>?_) fun hb40 hm=>?_
           ·refine fk 12 E (kc 108 rfl hb40) rfl fun a E=>fr_nil<|?_
            clear hI
            exact q_then<|have H:=H.drop 0;have H:=H.drop 0;⟨true, _, E.sel [0, 3, 120] rfl, H, fun r hr => (t1 (hs21 r hr)), (t1 hr22), hm⟩
           ·refine fk 4 E (kc 108 rfl hb40) rfl fun a E=>cs hm (fun hb41 hm=>?_) fun hb41 hm=>?_
            ·refine fk 8 E (kc 112 rfl hb41) rfl fun a E=>fr_nil<|?_
             clear hI
             exact q_then<|have H:=H.drop 0;have H:=H.drop 0;⟨true, _, E.sel [0, 3, 120] rfl, H, fun r hr => (t1 (hs21 r hr)), (t1 hr22), hm⟩
            ·refine fk 4 E (kc 112 rfl hb41) rfl fun a E=>cs hm (fun hb42 hm=>?_) fun hb42 hm=>?_
             ·refine fk 4 E (kc 116 rfl hb42) rfl fun a E=>fr_nil<|?_
              clear hI
              exact q_then<|have H:=H.drop 0;have H:=H.drop 0;⟨true, _, E.sel [0, 3, 120] rfl, H, fun r hr => (t1 (hs21 r hr)), (t1 hr22), hm⟩
             ·refine fk 1 E (kc 116 rfl hb42) rfl fun a E=>fb E rfl (ws' (d := 116) E rfl rfl rfl rfl hb42) rfl rfl rfl rfl m0 rfl Tryz.underlying2 rfl fun a E=>fk 2 E (kc 116 rfl hb42) rfl fun a E=>fr_nil<|?_
              clear hI
              exact q_then<|have H:=H.drop 0;have H:=H.drop 0;⟨u25.1.Owner != 0, _, E.sel [0, 3, 120] rfl, H, fun r hr => (t1 (hs21 r hr)), (t1 hr22), hm⟩
          ·clear E H hm
           rintro a w ⟨b28, rs29, E, H, hs30, hr31, hm⟩
           unfold m_cantonref06_Right_j4 at hm
           refine wif E hm rfl (fun hm=>?_) fun hm=>?_
           ·refine sq<|pr 1 E rfl fun a E=>nt<|wp_ret<|q_blkR<|q_thenR<|q_thenR<|q_blkR<|q_thenR<|?_
            refine out1 E rfl rfl<|?_
            cases hm
            exact ⟨rfl, H.reads (hs30)⟩
           ·exact wp_skip<|q_blk<|q_then<|⟨_, E.sel [0, 3] rfl, H, hs30, hr31, hm⟩
      ·clear E H hm
       rintro a w ⟨rs12, E, H, hs13, hr14, hm⟩
       unfold m_cantonref06_Right_j2 at hm
       exact wp_region_lit<|pr 3 E rfl fun a E=>nt<|⟨k1, Nat.lt_succ_self k1, IntKind.i64.wrap (x8 + 1), _, E.sel [0, 3] rfl, H, hs13, hr14, hm⟩
     ·refine wp_exit<|q_thenX<|q_thenX<|q_hit<|q_then<|sq<|pr 1 E rfl fun a E=>nt<|wp_ret<|?_
      refine out1 E rfl rfl<|?_
      cases hm
      exact ⟨rfl, H.reads (hs10)⟩

def m_nodes_named : Option Unit :=
  some ()
theorem c_nodes_named {w : World} {Fo : List Ob} {rs : List Rp} (H : Sep w (Fo) rs) {r : Unit} (hm : m_nodes_named = some r) :
    Calls Tryz.prog 110 [].toArray w (Ret fun v w' => .agg #[.int .i64 0, .int .i64 13, .int .i64 2, .int .i64 19, .int .i64 18, .int .i64 16, .int .i64 16, .int .i64 20] = v ∧ Sep w' (Fo) (rs)) := by
 unfold m_nodes_named at hm
 refine enter Tryz.func110 rfl Tryz.ntmps110 rfl fun a E =>?_
 simp only [enum, Nat.reduceAdd] at E
 refine sq<|al E H rfl rfl rfl rfl zr123 fun p1 w a H E=>nx<|sv E rfl rfl rfl (x_build E rfl (E.evs rfl) (v := .agg #[.int .i64 0, .int .i64 13, .int .i64 2, .int .i64 19, .int .i64 18, .int .i64 16, .int .i64 16, .int .i64 20]) (by kernel_rfl)) fun a E=>st_st (i := 0) E H (wn rfl) rfl (us := [.int .i64 0, .int .i64 13, .int .i64 2, .int .i64 19, .int .i64 18, .int .i64 16, .int .i64 16, .int .i64 20]) rfl rfl rfl rfl rfl sz123 rfl rfl fun w H=>nt<|wp_ret<|outR1 E rfl (rvBN (i := 0) (us := [.int .i64 0, .int .i64 13, .int .i64 2, .int .i64 19, .int .i64 18, .int .i64 16, .int .i64 16, .int .i64 20]) H rfl rfl rfl Tryz.underlying123 rfl sz123)<|have H:=H.drop 0;?_
 cases hm
 exact ⟨rfl, H.reads (fun r hr => hr)⟩

def m_nodes_May_j7 (x1 : S_api_Op) (x18 : Int) (b21 : Bool) : Option Bool :=
  if b21 = true then (m_nodes_named.bind fun u25 => (idx ([0, 13, 2, 19, 18, 16, 16, 20] : List Int) x1.Kind).bind fun x27 => if ((iandNot .i64 x18 x27) == 0) = true then (if (x1.Kind != 7) = true then (some (true)) else (some (decide (x1.Owner > 0)))) else (some (false))) else (some (false))
def m_nodes_May_j6 (x1 : S_api_Op) (x18 : Int) : Option Bool :=
  if (decide (x1.Version ≥ (-1))) = true then (m_nodes_May_j7 x1 x18 (decide (x1.Version ≤ 281474976710656))) else (m_nodes_May_j7 x1 x18 false)
def m_nodes_May_j5 (x1 : S_api_Op) (x15 : Int) : Option Bool :=
  if (sEq x1.Path (ByteArray.mk #[47])) = true then (m_nodes_May_j6 x1 (ior .i64 x15 16)) else (m_nodes_May_j6 x1 x15)
def m_nodes_May_j4 (x1 : S_api_Op) (x12 : Int) : Option Bool :=
  if x1.Turns = true then (m_nodes_May_j5 x1 (ior .i64 x12 8)) else (m_nodes_May_j5 x1 x12)
def m_nodes_May_j3 (x1 : S_api_Op) (x9 : Int) : Option Bool :=
  if (x1.Owner != 0) = true then (m_nodes_May_j4 x1 (ior .i64 x9 4)) else (m_nodes_May_j4 x1 x9)
def m_nodes_May_j2 (x1 : S_api_Op) (x6 : Int) : Option Bool :=
  if (x1.Version != 0) = true then (m_nodes_May_j3 x1 (ior .i64 x6 2)) else (m_nodes_May_j3 x1 x6)
def m_nodes_May_j1 (x1 : S_api_Op) (b3 : Bool) : Option Bool :=
  if b3 = true then (some (false)) else (if (!(sEq x1.Data (ByteArray.mk #[]))) = true then (m_nodes_May_j2 x1 (ior .i64 0 1)) else (m_nodes_May_j2 x1 0))
def m_nodes_May (x1 : S_api_Op) : Option Bool :=
  if (decide (x1.Kind < 1)) = true then (m_nodes_May_j1 x1 true) else (if (decide (x1.Kind > 7)) = true then (m_nodes_May_j1 x1 true) else ((m_path_Right x1.Path).bind fun u34 => if (!u34) = true then (m_nodes_May_j1 x1 true) else (if (decide ((x1.Data.size : Int) > 256)) = true then (m_nodes_May_j1 x1 true) else ((m_nodes_within x1.Owner 1099511627776).bind fun u38 => m_nodes_May_j1 x1 (!u38)))))
theorem c_nodes_May {w : World} {Fo : List Ob} {rs : List Rp} (x1 : S_api_Op) (H : Sep w (Fo) rs) {r : Bool} (hm : m_nodes_May x1 = some r) :
    Calls Tryz.prog 53 [.agg (l_api_Op x1).toArray].toArray w (Ret fun v w' => .bool r = v ∧ Sep w' (Fo) (rs)) := by
 unfold m_nodes_May at hm
 refine enter Tryz.func53 rfl Tryz.ntmps53 rfl fun a E =>?_
 simp only [enum, Nat.reduceAdd] at E
 refine sq<|st_box E H (wn rfl) rfl rfl (cs := (l_api_Op x1)) rfl rfl rfl fun p2 w a H E=>pr 1 E rfl fun a E=>nt<|wp_seq<|wp_seq_cut (fun a w => ∃ (b3 : Bool) (rs4 : List Rp), Env 83 a [(1, pt p2 0), (30, .bool b3)] ∧ Sep w (Blk p2 55 (l_api_Op x1) :: Fo) rs4 ∧ (∀ r, r ∈ rs → r ∈ rs4) ∧ m_nodes_May_j1 x1 b3 = some r) ?_ ?_
 ·refine wp_region_lit<|pr 1 E rfl fun a E=>lb E H 0 rfl rfl rfl rfl rfl rfl rfl Tryz.underlying3 rfl fun a E=>pr 2 E rfl fun a E=>cs hm (fun hb32 hm=>?_) fun hb32 hm=>?_
  ·exact pk 22 E (kc 8 rfl hb32) rfl fun a E=>nt<|⟨true, _, E.sel [1, 30] rfl, H, fun r hr => hr, hm⟩
  ·refine pk 1 E (kc 8 rfl hb32) rfl fun a E=>st_val E (ws' (d := 8) E rfl rfl rfl rfl hb32) rfl rfl (x_ldB (i := 0) E H rfl rfl rfl rfl Tryz.underlying3 rfl) fun a E=>pk 3 E (kc 8 rfl hb32) rfl fun a E=>cs hm (fun hb33 hm=>?_) fun hb33 hm=>?_
   ·exact pk 17 E (kc 13 rfl hb33) rfl fun a E=>nt<|⟨true, _, E.sel [1, 30] rfl, H, fun r hr => hr, hm⟩
   ·refine pk 1 E (kc 13 rfl hb33) rfl fun a E=>st_val E (ws' (d := 13) E rfl rfl rfl rfl hb33) rfl rfl (x_ldB (i := 0) E H rfl rfl rfl rfl Tryz.underlying9 rfl) fun a E=>bd hm fun u34 hx35 hm=>st_call E (ws' (d := 13) E rfl rfl rfl rfl hb33) rfl rfl (x_call E rfl rfl (cf98 _)) (c_path_Right x1.Path H hx35)<|?_
    rintro _ w ⟨rfl, H⟩ a E
    refine pk 3 E (kc 13 rfl hb33) rfl fun a E=>cs hm (fun hb36 hm=>?_) fun hb36 hm=>?_
    ·exact pk 11 E (kc 19 rfl hb36) rfl fun a E=>nt<|⟨true, _, E.sel [1, 30] rfl, H, fun r hr => hr, hm⟩
    ·refine pk 1 E (kc 19 rfl hb36) rfl fun a E=>st_val E (ws' (d := 19) E rfl rfl rfl rfl hb36) rfl rfl (x_ldB (i := 0) E H rfl rfl rfl rfl Tryz.underlying9 rfl) fun a E=>pk 4 E (kc 19 rfl hb36) rfl fun a E=>cs hm (fun hb37 hm=>?_) fun hb37 hm=>?_
     ·exact pk 5 E (kc 25 rfl hb37) rfl fun a E=>nt<|⟨true, _, E.sel [1, 30] rfl, H, fun r hr => hr, hm⟩
     ·refine pk 1 E (kc 25 rfl hb37) rfl fun a E=>st_val E (ws' (d := 25) E rfl rfl rfl rfl hb37) rfl rfl (x_ldB (i := 0) E H rfl rfl rfl rfl Tryz.underlying2 rfl) fun a E=>bd hm fun u38 hx39 hm=>st_call E (ws' (d := 25) E rfl rfl rfl rfl hb37) rfl rfl (x_call E rfl rfl (cf109 _)) (c_nodes_within x1.Owner 1099511627776 H hx39)<|?_
      rintro _ w ⟨rfl, H⟩ a E
      exact pk 2 E (kc 25 rfl hb37) rfl fun a E=>nt<|⟨!u38, _, E.sel [1, 30] rfl, H, fun r hr => hr, hm⟩
 ·clear E H hm
  rintro a w ⟨b3, rs4, E, H, hs5, hm⟩
  unfold m_nodes_May_j1 at hm
  refine wif E hm rfl (fun hm=>?_) fun hm=>?_
  ·refine sq<|pr 1 E rfl fun a E=>nt<|wp_ret<|q_thenR<|out1 E rfl rfl<|have H:=H.drop 0;?_
   cases hm
   exact ⟨rfl, H.reads (hs5)⟩
  ·refine wp_skip<|q_then<|sq<|pr 1 E rfl fun a E=>nt<|wp_seq_cut (fun a w => ∃ (x6 : Int) (rs7 : List Rp), Env 83 a [(1, pt p2 0), (3, .int .i64 x6)] ∧ Sep w (Blk p2 55 (l_api_Op x1) :: Fo) rs7 ∧ (∀ r, r ∈ rs → r ∈ rs7) ∧ m_nodes_May_j2 x1 x6 = some r) ?_ ?_
   ·refine sq<|pr 1 E rfl fun a E=>lb E H 0 rfl rfl rfl rfl rfl rfl rfl Tryz.underlying9 rfl fun a E=>pr 1 E rfl fun a E=>nt<|wif E hm rfl (fun hm=>?_) fun hm=>?_
    ·exact wp_region_lit<|pr 3 E rfl fun a E=>nt<|⟨ior .i64 0 1, _, E.sel [1, 3] rfl, H, hs5, hm⟩
    ·exact wp_skip<|q_then<|⟨0, _, E.sel [1, 3] rfl, H, hs5, hm⟩
   ·clear E H hm
    rintro a w ⟨x6, rs7, E, H, hs8, hm⟩
    unfold m_nodes_May_j2 at hm
    refine wp_seq_cut (fun a w => ∃ (x9 : Int) (rs10 : List Rp), Env 83 a [(1, pt p2 0), (3, .int .i64 x9)] ∧ Sep w (Blk p2 55 (l_api_Op x1) :: Fo) rs10 ∧ (∀ r, r ∈ rs → r ∈ rs10) ∧ m_nodes_May_j3 x1 x9 = some r) ?_ ?_
    ·refine sq<|pr 1 E rfl fun a E=>lb E H 0 rfl rfl rfl rfl rfl rfl rfl Tryz.underlying2 rfl fun a E=>pr 1 E rfl fun a E=>nt<|wif E hm rfl (fun hm=>?_) fun hm=>?_
     ·exact wp_region_lit<|pr 3 E rfl fun a E=>nt<|⟨ior .i64 x6 2, _, E.sel [1, 3] rfl, H, hs8, hm⟩
     ·exact wp_skip<|q_then<|⟨x6, _, E.sel [1, 3] rfl, H, hs8, hm⟩
    ·clear E H hm
     rintro a w ⟨x9, rs10, E, H, hs11, hm⟩
     unfold m_nodes_May_j3 at hm
     refine wp_seq_cut (fun a w => ∃ (x12 : Int) (rs13 : List Rp), Env 83 a [(1, pt p2 0), (3, .int .i64 x12)] ∧ Sep w (Blk p2 55 (l_api_Op x1) :: Fo) rs13 ∧ (∀ r, r ∈ rs → r ∈ rs13) ∧ m_nodes_May_j4 x1 x12 = some r) ?_ ?_
     ·refine sq<|pr 1 E rfl fun a E=>lb E H 0 rfl rfl rfl rfl rfl rfl rfl Tryz.underlying2 rfl fun a E=>pr 1 E rfl fun a E=>nt<|wif E hm rfl (fun hm=>?_) fun hm=>?_
      ·exact wp_region_lit<|pr 3 E rfl fun a E=>nt<|⟨ior .i64 x9 4, _, E.sel [1, 3] rfl, H, hs11, hm⟩
      ·exact wp_skip<|q_then<|⟨x9, _, E.sel [1, 3] rfl, H, hs11, hm⟩
     ·clear E H hm
      rintro a w ⟨x12, rs13, E, H, hs14, hm⟩
      unfold m_nodes_May_j4 at hm
      refine wp_seq_cut (fun a w => ∃ (x15 : Int) (rs16 : List Rp), Env 83 a [(1, pt p2 0), (3, .int .i64 x15)] ∧ Sep w (Blk p2 55 (l_api_Op x1) :: Fo) rs16 ∧ (∀ r, r ∈ rs → r ∈ rs16) ∧ m_nodes_May_j5 x1 x15 = some r) ?_ ?_
      ·refine sq<|pr 1 E rfl fun a E=>lb E H 0 rfl rfl rfl rfl rfl rfl rfl Tryz.underlying4 rfl fun a E=>nt<|wif E hm rfl (fun hm=>?_) fun hm=>?_
       ·exact wp_region_lit<|pr 3 E rfl fun a E=>nt<|⟨ior .i64 x12 8, _, E.sel [1, 3] rfl, H, hs14, hm⟩
       ·exact wp_skip<|q_then<|⟨x12, _, E.sel [1, 3] rfl, H, hs14, hm⟩
      ·clear E H hm
       rintro a w ⟨x15, rs16, E, H, hs17, hm⟩
       unfold m_nodes_May_j5 at hm
       refine wp_seq_cut (fun a w => ∃ (x18 : Int) (rs19 : List Rp), Env 83 a [(1, pt p2 0), (3, .int .i64 x18)] ∧ Sep w (Blk p2 55 (l_api_Op x1) :: Fo) rs19 ∧ (∀ r, r ∈ rs → r ∈ rs19) ∧ m_nodes_May_j6 x1 x18 = some r) ?_ ?_
       ·refine sq<|pr 1 E rfl fun a E=>lb E H 0 rfl rfl rfl rfl rfl rfl rfl Tryz.underlying9 rfl fun a E=>pr 1 E rfl fun a E=>nt<|wif E hm rfl (fun hm=>?_) fun hm=>?_
        ·exact wp_region_lit<|pr 3 E rfl fun a E=>nt<|⟨ior .i64 x15 16, _, E.sel [1, 3] rfl, H, hs17, hm⟩
        ·exact wp_skip<|q_then<|⟨x15, _, E.sel [1, 3] rfl, H, hs17, hm⟩
       ·clear E H hm
        rintro a w ⟨x18, rs19, E, H, hs20, hm⟩
        unfold m_nodes_May_j6 at hm
        refine wp_seq_cut (fun a w => ∃ (b21 : Bool) (rs22 : List Rp), Env 83 a [(1, pt p2 0), (3, .int .i64 x18), (4, .bool b21)] ∧ Sep w (Blk p2 55 (l_api_Op x1) :: Fo) rs22 ∧ (∀ r, r ∈ rs → r ∈ rs22) ∧ m_nodes_May_j7 x1 x18 b21 = some r) ?_ ?_
        ·refine wp_region_lit<|pr 1 E rfl fun a E=>lb E H 0 rfl rfl rfl rfl rfl rfl rfl Tryz.underlying2 rfl fun a E=>pr 2 E rfl fun a E=>cs hm (fun hb31 hm=>?_) fun hb31 hm=>?_
         ·exact pk 1 E (kc 58 rfl hb31) rfl fun a E=>st_val E (ws' (d := 58) E rfl rfl rfl rfl hb31) rfl rfl (x_ldB (i := 0) E H rfl rfl rfl rfl Tryz.underlying2 rfl) fun a E=>pk 3 E (kc 58 rfl hb31) rfl fun a E=>nt<|⟨decide (x1.Version ≤ 281474976710656), _, E.sel [1, 3, 4] rfl, H, hs20, hm⟩
         ·exact pk 5 E (kc 58 rfl hb31) rfl fun a E=>nt<|⟨false, _, E.sel [1, 3, 4] rfl, H, hs20, hm⟩
        ·clear E H hm
         rintro a w ⟨b21, rs22, E, H, hs23, hm⟩
         unfold m_nodes_May_j7 at hm
         refine wp_seq<|dw [(0, 0), (1, 0), (2, 0), (4, 0), (5, 0), (3, 1), (6, 0), (7, 0), (8, 0), (9, 0), (10, 0), (11, 0), (12, 0), (13, 0), (14, 0), (15, 0), (16, 0), (17, 0), (18, 0), (19, 0), (20, 2)] [0] [] H (by kernel_rfl) (fun _ _ _ h => False.elim h.2) fun w W0 hI H=>fn 2 E rfl fun a E=>cs hm (fun hb24 hm=>?_) fun hb24 hm=>?_
         ·refine fk 2 E (kc 64 rfl hb24) rfl fun a E=>fb E rfl (ws' (d := 64) E rfl rfl rfl rfl hb24) rfl rfl rfl rfl m0 rfl Tryz.underlying3 rfl fun a E=>fr_op rfl<|bd hm fun u25 hx26 hm=>st_call E (ws' (d := 64) E rfl rfl rfl rfl hb24) rfl rfl (x_call E rfl rfl (cf110 _)) (c_nodes_named H hx26)<|?_
          rintro _ w ⟨rfl, H⟩ a E
          refine nt<|?_
          refine ⟨⟨_, _, H, (subO_cons m0 (subO_nil)), (sub_nil)⟩, ?_⟩
          refine bd hm fun x27 hx28 hm=>fr_val E rfl (ws' (d := 64) E rfl rfl rfl rfl hb24) rfl rfl (fun w hW=>(x_ixArr (vs := [.int .i64 0, .int .i64 13, .int .i64 2, .int .i64 19, .int .i64 18, .int .i64 16, .int .i64 16, .int .i64 20]) E rfl rfl rfl Tryz.underlying123 rfl sz3 Tryz.underlying3 rfl (idx_map (Value.int .i64) (xs := ([0, 13, 2, 19, 18, 16, 16, 20] : List Int)) hx28))) fun a E=>?_
          refine fk 4 E (kc 64 rfl hb24) rfl fun a E=>cs hm (fun hb29 hm=>?_) fun hb29 hm=>?_
          ·refine fk 1 E (kc 73 rfl hb29) rfl fun a E=>fb E rfl (ws' (d := 73) E rfl rfl rfl rfl hb29) rfl rfl rfl rfl m0 rfl Tryz.underlying3 rfl fun a E=>fk 2 E (kc 73 rfl hb29) rfl fun a E=>cs hm (fun hb30 hm=>?_) fun hb30 hm=>?_
           ·refine fk 5 E (kc' (kc 77 rfl hb30) 73 rfl hb29) rfl fun a E=>fr_tail rfl<|pr 1 E rfl fun a E=>nt<|fr_nil<|?_
            clear hI
            refine q_then<|wp_ret<|out1 E rfl rfl<|have H:=H.drop 0;?_
            cases hm
            exact ⟨rfl, H.reads (hs23)⟩
           ·refine fk 1 E (kc 77 rfl hb30) rfl fun a E=>fb E rfl (ws' (d := 77) E rfl rfl rfl rfl hb30) rfl rfl rfl rfl m0 rfl Tryz.underlying2 rfl fun a E=>fk 3 E (kc' (kc 77 rfl hb30) 73 rfl hb29) rfl fun a E=>fr_tail rfl<|pr 1 E rfl fun a E=>nt<|fr_nil<|?_
            clear hI
            refine q_then<|wp_ret<|out1 E rfl rfl<|have H:=H.drop 0;?_
            cases hm
            exact ⟨rfl, H.reads (hs23)⟩
          ·refine fk 9 E (kc 73 rfl hb29) rfl fun a E=>fr_tail rfl<|pr 1 E rfl fun a E=>nt<|fr_nil<|?_
           clear hI
           refine q_then<|wp_ret<|out1 E rfl rfl<|have H:=H.drop 0;?_
           cases hm
           exact ⟨rfl, H.reads (hs23)⟩
         ·refine fk 3 E (kc 64 rfl hb24) rfl fun a E=>fr_op rfl<|pk 1 E (kc 64 rfl hb24) rfl fun a E=>nt<|?_
          refine ⟨⟨_, _, H, (subO_cons m0 (subO_nil)), (sub_nil)⟩, ?_⟩
          refine fk 14 E (kc 64 rfl hb24) rfl fun a E=>fr_tail rfl<|pr 1 E rfl fun a E=>nt<|fr_nil<|?_
          clear hI
          refine q_then<|wp_ret<|out1 E rfl rfl<|have H:=H.drop 0;?_
          cases hm
          exact ⟨rfl, H.reads (hs23)⟩

def m_nodes_check (l2 : List S_api_Node) (x3 : Int) (x4 : S_api_Op) : Option ((List S_api_Node) × S_api_Result) :=
  (idx l2 x3).bind fun x9 => some (l2, (⟨0, (ByteArray.mk #[]), (ByteArray.mk #[]), x9.Version, []⟩ : S_api_Result))
theorem c_nodes_check {w : World} {Fo : List Ob} {rs : List Rp} (v1 : Value) (l2 : List S_api_Node) (x3 : Int) (x4 : S_api_Op) (H : Sep w (Fo) rs) (hr5 : rSl k_api_Node v1 l2 ∈ rs) {r : (List S_api_Node) × S_api_Result} (hm : m_nodes_check l2 x3 x4 = some r) :
    Calls Tryz.prog 64 [v1, .int .i64 x3, .agg (l_api_Op x4).toArray].toArray w (Ret fun v w' => ∃ (v5001 : Value) (v5004 : Value), .tuple #[v5001, .agg (l_api_Result r.2 v5004).toArray] = v ∧ Sep w' (Fo) (rSl k_api_Node v5001 r.1 :: rSl kS v5004 r.2.Names :: rs)) := by
 unfold m_nodes_check at hm
 refine enter Tryz.func64 rfl Tryz.ntmps64 rfl fun a E =>?_
 simp only [enum, Nat.reduceAdd] at E
 refine sq<|st_box E H (wn rfl) rfl rfl (cs := (l_api_Op x4)) rfl rfl rfl fun p6 w a H E=>pr 1 E rfl fun a E=>al E H rfl rfl rfl rfl zr51 fun p7 w a H E=>nt<|wp_seq<|?_
 obtain ⟨u8, H⟩ := H.raw hr5
 refine dw [(0, 0), (1, 0), (2, 0), (3, 0), (4, 0), (5, 0), (6, 0), (7, 1), (8, 2)] [] [0] H (by kernel_rfl) (fun _ _ _ h => False.elim h.2) fun w W0 hI H=>fn 3 E rfl fun a E=>bd hm fun x9 hx10 hm=>?_
 obtain ⟨q11, u14, hx12, hx13⟩ := dr_ixW (P := Tryz.prog) (k := .i64) hI (dr_mem (.head _)) Tryz.underlying22 sz80 hx10
 refine fr_val E rfl (wn rfl) rfl rfl (fun w hW=>x_ixA E rfl rfl rfl (hx12 w)) fun a E=>?_
 have hx15 := dr_fld hx13 (fun _ _ _ h => k_api_Node_aw2 h)
 refine fn 1 E rfl fun a E=>fa E rfl (wn rfl) rfl rfl rfl rfl hx15 Tryz.underlying2 rfl fun a E=>fr_val E rfl (wn rfl) rfl rfl (fun w hW=>(x_build E rfl (E.evs rfl) (v := .agg #[.int .i64 0, .string (ByteArray.mk #[]), .string (ByteArray.mk #[]), .int .i64 x9.Version, .slice none 0 0]) (by kernel_rfl))) fun a E=>?_
 refine fr_op rfl<|pr 1 E rfl fun a E=>nt<|?_
 refine ⟨⟨_, _, H, (subO_nil), (sub_cons m0 (sub_nil))⟩, ?_⟩
 refine fr_tail rfl<|st_st (i := 0) E H (wn rfl) rfl (us := [.int .i64 0, .string (ByteArray.mk #[]), .string (ByteArray.mk #[]), .int .i64 x9.Version, .slice none 0 0]) rfl rfl rfl rfl rfl sz51 rfl rfl fun w H=>nt<|fr_nil<|?_
 clear hI
 refine q_then<|wp_ret<|outR2 E rfl (rvT rfl) (rvBN (i := 0) (us := [.int .i64 0, .string (ByteArray.mk #[]), .string (ByteArray.mk #[]), .int .i64 x9.Version, .slice none 0 0]) H rfl rfl rfl Tryz.underlying51 rfl sz51)<|have H:=H.nilSl kS;have H:=H.drop 0;have H:=H.drop 0;?_
 cases hm
 exact ⟨v1, (.slice none 0 0), rfl, H.reads (sub_cons (t2 hr5) (sub_cons m0 (fun r hr => (t2 hr))))⟩

def m_nodes_failed (x1 : Int) : Option S_api_Result :=
  some ((⟨x1, (ByteArray.mk #[]), (ByteArray.mk #[]), 0, []⟩ : S_api_Result))
theorem c_nodes_failed {w : World} {Fo : List Ob} {rs : List Rp} (x1 : Int) (H : Sep w (Fo) rs) {r : S_api_Result} (hm : m_nodes_failed x1 = some r) :
    Calls Tryz.prog 59 [.int .i64 x1].toArray w (Ret fun v w' => ∃ (v5002 : Value), .agg (l_api_Result r v5002).toArray = v ∧ Sep w' (Fo) (rSl kS v5002 r.Names :: rs)) := by
 unfold m_nodes_failed at hm
 refine enter Tryz.func59 rfl Tryz.ntmps59 rfl fun a E =>?_
 simp only [enum, Nat.reduceAdd] at E
 refine sq<|al E H rfl rfl rfl rfl zr51 fun p2 w a H E=>nx<|pr 1 E rfl fun a E=>sv E rfl rfl rfl (x_build E rfl (E.evs rfl) (v := .agg #[.int .i64 x1, .string (ByteArray.mk #[]), .string (ByteArray.mk #[]), .int .i64 0, .slice none 0 0]) (by kernel_rfl)) fun a E=>st_st (i := 0) E H (wn rfl) rfl (us := [.int .i64 x1, .string (ByteArray.mk #[]), .string (ByteArray.mk #[]), .int .i64 0, .slice none 0 0]) rfl rfl rfl rfl rfl sz51 rfl rfl fun w H=>nt<|wp_ret<|outR1 E rfl (rvBN (i := 0) (us := [.int .i64 x1, .string (ByteArray.mk #[]), .string (ByteArray.mk #[]), .int .i64 0, .slice none 0 0]) H rfl rfl rfl Tryz.underlying51 rfl sz51)<|?_
 refine have H:=H.nilSl kS;have H:=H.drop 0;?_
 cases hm
 exact ⟨(.slice none 0 0), rfl, H.reads (sub_cons m0 (fun r hr => (t1 hr)))⟩

def m_nodes_create_j2 (u30 : Int × Bool) (s25 : ByteArray) (x3 : S_api_Op) (l45 : (List S_api_Node)) : Option ((List S_api_Node) × S_api_Result) :=
  (ck (0 ≤ u30.1 ∧ u30.1 ≤ l45.length ∧ l45.length ≤ 1000000)).bind fun u50 => some (l45.take u30.1.toNat ++ (⟨s25, x3.Data, 0, 0, x3.Owner⟩ : S_api_Node) :: l45.drop u30.1.toNat, (⟨0, s25, (ByteArray.mk #[]), 0, []⟩ : S_api_Result))
def m_nodes_create_j1 (x3 : S_api_Op) (l2 : List S_api_Node) (u10 : Int × Bool) (s25 : ByteArray) : Option ((List S_api_Node) × S_api_Result) :=
  (m_nodes_where l2 s25).bind fun u30 => if u30.2 = true then ((m_nodes_failed 61).bind fun u32 => some (l2, u32)) else (if ((l2.length : Int) == 512) = true then ((m_nodes_failed 2).bind fun u37 => some (l2, u37)) else ((ck (l2.length ≤ LIM)).bind fun u43 => if x3.Turns = true then ((idx l2 u10.1).bind fun x53 => (idx l2 u10.1).bind fun x58 => m_nodes_create_j2 u30 s25 x3 (l2.set u10.1.toNat ({ x58 with Turn := IntKind.i64.wrap (x53.Turn + 1) } : S_api_Node))) else (m_nodes_create_j2 u30 s25 x3 l2)))
def m_nodes_create (l2 : List S_api_Node) (x3 : S_api_Op) : Option ((List S_api_Node) × S_api_Result) :=
  (m_path_Parent x3.Path).bind fun u8 => (m_nodes_where l2 u8.1).bind fun u10 => if (!u10.2) = true then ((m_nodes_failed 62).bind fun u12 => some (l2, u12)) else ((idx l2 u10.1).bind fun x17 => if (x17.Owner != 0) = true then ((m_nodes_failed 65).bind fun u20 => some (l2, u20)) else (if x3.Turns = true then ((idx l2 u10.1).bind fun x64 => (m_path_Last x3.Path).bind fun u71 => (m_path_Numbered u71 x64.Turn).bind fun u73 => if (!u73.2) = true then ((m_nodes_failed 66).bind fun u75 => some (l2, u75)) else ((m_path_Join u8.1 u73.1).bind fun u80 => m_nodes_create_j1 x3 l2 u10 u80.1)) else (m_nodes_create_j1 x3 l2 u10 x3.Path)))
theorem c_nodes_create {w : World} {Fo : List Ob} {rs : List Rp} (v1 : Value) (l2 : List S_api_Node) (x3 : S_api_Op) (H : Sep w (Fo) rs) (hr4 : rSl k_api_Node v1 l2 ∈ rs) (hr5 : rTab Tryz.prog ∈ rs) {r : (List S_api_Node) × S_api_Result} (hm : m_nodes_create l2 x3 = some r) :
    Calls Tryz.prog 60 [v1, .agg (l_api_Op x3).toArray].toArray w (Ret fun v w' => ∃ (v5001 : Value) (v5004 : Value), .tuple #[v5001, .agg (l_api_Result r.2 v5004).toArray] = v ∧ Sep w' (Fo) (rSl k_api_Node v5001 r.1 :: rSl kS v5004 r.2.Names :: rs)) := by
 unfold m_nodes_create at hm
 refine enter Tryz.func60 rfl Tryz.ntmps60 rfl fun a E =>?_
 simp only [enum, Nat.reduceAdd] at E
 refine sq<|st_box E H (wn rfl) rfl rfl (cs := (l_api_Op x3)) rfl rfl rfl fun p6 w a H E=>pr 1 E rfl fun a E=>al E H rfl rfl rfl rfl zr51 fun p7 w a H E=>nx<|pr 1 E rfl fun a E=>lb E H 1 rfl rfl rfl rfl rfl rfl rfl Tryz.underlying9 rfl fun a E=>bd hm fun u8 hx9 hm=>x_cl E rfl rfl rfl rfl rfl cf111 (c_path_Parent x3.Path H hx9)<|?_
 rintro _ w ⟨rfl, H⟩ a E
 refine pr 5 E rfl fun a E=>nx<|pr 2 E rfl fun a E=>bd hm fun u10 hx11 hm=>x_cl E rfl rfl rfl rfl rfl cf61 (c_nodes_where v1 l2 u8.1 H hr4 hx11)<|?_
 rintro _ w ⟨rfl, H⟩ a E
 refine pr 5 E rfl fun a E=>nt<|wp_seq<|wp_block<|sq<|pr 3 E rfl fun a E=>nt<|wif E hm rfl (fun hm=>?_) fun hm=>?_
 ·refine sq<|pr 1 E rfl fun a E=>bd hm fun u12 hx13 hm=>x_cl E rfl rfl rfl rfl rfl cf59 (c_nodes_failed 62 H hx13)<|?_
  rintro _ w ⟨v14, rfl, H⟩ a E
  refine pr 1 E rfl fun a E=>?_
  obtain ⟨q15, x16, rfl⟩ := H.slform m0
  refine st_st (i := 0) E H (wn rfl) rfl (us := (l_api_Result u12 (.slice q15 u12.Names.length x16))) rfl rfl rfl rfl rfl sz51 rfl rfl fun w H=>nt<|wp_ret<|q_blkR<|q_thenR<|outR2 E rfl (rvT rfl) (rvBN (i := 0) (us := (l_api_Result u12 (.slice q15 u12.Names.length x16))) H rfl rfl rfl Tryz.underlying51 rfl sz51)<|have H:=H.drop 0;have H:=H.drop 0;?_
  cases hm
  exact ⟨v1, (.slice q15 u12.Names.length x16), rfl, H.reads (sub_cons (t1 hr4) (sub_cons m0 (fun r hr => (t1 hr))))⟩
 ·refine sq<|pr 2 E rfl fun a E=>bd hm fun x17 hx18 hm=>st_ixS E H (wn rfl) rfl rfl rfl rfl rfl hr4 Tryz.underlying22 sz80 hx18 fun q19 a H E=>have H:=H.derive1 m0 (rAt (kI .i64) (q19.add 4) x17.Owner) (fun ok h => k_api_Node_at4 h);pr 1 E rfl fun a E=>sv E rfl rfl rfl (x_ldA E H rfl rfl m0 Tryz.underlying2 rfl) fun a E=>pr 2 E rfl fun a E=>nt<|wif E hm rfl (fun hm=>?_) fun hm=>?_
  ·refine sq<|pr 1 E rfl fun a E=>bd hm fun u20 hx21 hm=>x_cl E rfl rfl rfl rfl rfl cf59 (c_nodes_failed 65 H hx21)<|?_
   rintro _ w ⟨v22, rfl, H⟩ a E
   refine pr 1 E rfl fun a E=>?_
   obtain ⟨q23, x24, rfl⟩ := H.slform m0
   refine st_st (i := 0) E H (wn rfl) rfl (us := (l_api_Result u20 (.slice q23 u20.Names.length x24))) rfl rfl rfl rfl rfl sz51 rfl rfl fun w H=>nt<|wp_ret<|q_blkR<|q_thenR<|outR2 E rfl (rvT rfl) (rvBN (i := 0) (us := (l_api_Result u20 (.slice q23 u20.Names.length x24))) H rfl rfl rfl Tryz.underlying51 rfl sz51)<|have H:=H.drop 0;have H:=H.drop 0;?_
   cases hm
   exact ⟨v1, (.slice q23 u20.Names.length x24), rfl, H.reads (sub_cons (t3 hr4) (sub_cons m0 (fun r hr => (t3 hr))))⟩
  ·refine wp_skip<|q_blk<|q_then<|sq<|pr 1 E rfl fun a E=>lb E H 1 rfl rfl rfl rfl rfl rfl rfl Tryz.underlying9 rfl fun a E=>pr 1 E rfl fun a E=>nt<|wp_seq_cut (fun a w => ∃ (s25 : ByteArray) (rs26 : List Rp), Env 106 a [(0, v1), (3, pt p6 0), (5, pt p7 0), (8, .int .i64 u10.1), (10, .string s25)] ∧ Sep w (Blk p6 55 (l_api_Op x3) :: Blk p7 51 z_api_Result :: Fo) rs26 ∧ (∀ r, r ∈ rs → r ∈ rs26) ∧ rSl k_api_Node v1 l2 ∈ rs26 ∧ rTab Tryz.prog ∈ rs26 ∧ m_nodes_create_j1 x3 l2 u10 s25 = some r) ?_ ?_
   ·refine sq<|pr 1 E rfl fun a E=>lb E H 1 rfl rfl rfl rfl rfl rfl rfl Tryz.underlying4 rfl fun a E=>nt<|wif E hm rfl (fun hm=>?_) fun hm=>?_
    ·refine wp_seq<|?_
     obtain ⟨u63, H⟩ := H.raw (t2 hr4)
     refine dw [(0, 0), (2, 0), (3, 0), (4, 0), (5, 0), (6, 0), (1, 1), (7, 1), (8, 0), (9, 0), (10, 0), (11, 1), (12, 2)] [] [0] H (by kernel_rfl) (fun _ _ _ h => False.elim h.2) fun w W0 hI H=>fn 3 E rfl fun a E=>bd hm fun x64 hx65 hm=>?_
     obtain ⟨q66, u69, hx67, hx68⟩ := dr_ixW (P := Tryz.prog) (k := .i64) hI (dr_mem (.head _)) Tryz.underlying22 sz80 hx65
     refine fr_val E rfl (wn rfl) rfl rfl (fun w hW=>x_ixA E rfl rfl rfl (hx67 w)) fun a E=>?_
     have hx70 := dr_fld hx68 (fun _ _ _ h => k_api_Node_aw3 h)
     refine fn 1 E rfl fun a E=>fa E rfl (wn rfl) rfl rfl rfl rfl hx70 Tryz.underlying2 rfl fun a E=>fr_op rfl<|bd hm fun u71 hx72 hm=>x_cl E rfl rfl rfl rfl rfl cf119 (c_path_Last x3.Path H hx72)<|?_
     rintro _ w ⟨rfl, H⟩ a E
     refine nt<|?_
     refine ⟨⟨_, _, H, (subO_nil), (sub_cons m0 (sub_nil))⟩, ?_⟩
     refine fr_op rfl<|bd hm fun u73 hx74 hm=>x_cl E rfl rfl rfl rfl rfl cf118 (c_path_Numbered u71 x64.Turn H (t3 hr5) hx74)<|?_
     rintro _ w ⟨rfl, H⟩ a E
     refine nt<|?_
     refine ⟨⟨_, _, H, (subO_nil), (sub_cons m0 (sub_nil))⟩, ?_⟩
     refine fn 3 E rfl fun a E=>fr_op rfl<|pr 1 E rfl fun a E=>nt<|?_
     refine ⟨⟨_, _, H, (subO_nil), (sub_cons m0 (sub_nil))⟩, ?_⟩
     refine fr_tail rfl<|pr 1 E rfl fun a E=>nt<|fr_nil<|?_
     clear hI
     refine q_then<|wp_seq<|sq<|pr 2 E rfl fun a E=>nt<|wif E hm rfl (fun hm=>?_) fun hm=>?_
     ·refine sq<|pr 1 E rfl fun a E=>bd hm fun u75 hx76 hm=>x_cl E rfl rfl rfl rfl rfl cf59 (c_nodes_failed 66 H hx76)<|?_
      rintro _ w ⟨v77, rfl, H⟩ a E
      refine pr 1 E rfl fun a E=>?_
      obtain ⟨q78, x79, rfl⟩ := H.slform m0
      refine st_st (i := 0) E H (wn rfl) rfl (us := (l_api_Result u75 (.slice q78 u75.Names.length x79))) rfl rfl rfl rfl rfl sz51 rfl rfl fun w H=>nt<|wp_ret<|q_thenR<|q_thenR<|outR2 E rfl (rvT rfl) (rvBN (i := 0) (us := (l_api_Result u75 (.slice q78 u75.Names.length x79))) H rfl rfl rfl Tryz.underlying51 rfl sz51)<|have H:=H.drop 0;have H:=H.drop 0;?_
      cases hm
      exact ⟨v1, (.slice q78 u75.Names.length x79), rfl, H.reads (sub_cons (t4 hr4) (sub_cons m0 (fun r hr => (t4 hr))))⟩
     ·refine wp_skip<|q_then<|wp_region_lit<|pr 2 E rfl fun a E=>bd hm fun u80 hx81 hm=>x_cl E rfl rfl rfl rfl rfl cf120 (c_path_Join u8.1 u73.1 H hx81)<|?_
      rintro _ w ⟨rfl, H⟩ a E
      exact pr 4 E rfl fun a E=>nt<|have H:=H.front 0 rfl;have H:=H.front 1 rfl;⟨u80.1, _, E.sel [0, 3, 5, 8, 10] rfl, H, fun r hr => (t3 hr), (t3 hr4), (t3 hr5), hm⟩
    ·exact wp_skip<|q_then<|have H:=H.front 0 rfl;have H:=H.front 1 rfl;⟨x3.Path, _, E.sel [0, 3, 5, 8, 10] rfl, H, fun r hr => (t2 hr), (t2 hr4), (t2 hr5), hm⟩
   ·clear E H hm
    rintro a w ⟨s25, rs26, E, H, hs27, hr28, hr29, hm⟩
    unfold m_nodes_create_j1 at hm
    refine sq<|pr 2 E rfl fun a E=>bd hm fun u30 hx31 hm=>x_cl E rfl rfl rfl rfl rfl cf61 (c_nodes_where v1 l2 s25 H hr28 hx31)<|?_
    rintro _ w ⟨rfl, H⟩ a E
    refine pr 5 E rfl fun a E=>nt<|wp_seq<|wp_block<|sq<|pr 2 E rfl fun a E=>nt<|wif E hm rfl (fun hm=>?_) fun hm=>?_
    ·refine sq<|pr 1 E rfl fun a E=>bd hm fun u32 hx33 hm=>x_cl E rfl rfl rfl rfl rfl cf59 (c_nodes_failed 61 H hx33)<|?_
     rintro _ w ⟨v34, rfl, H⟩ a E
     refine pr 1 E rfl fun a E=>?_
     obtain ⟨q35, x36, rfl⟩ := H.slform m0
     refine st_st (i := 1) E H (wn rfl) rfl (us := (l_api_Result u32 (.slice q35 u32.Names.length x36))) rfl rfl rfl rfl rfl sz51 rfl rfl fun w H=>nt<|wp_ret<|q_blkR<|q_thenR<|outR2 E rfl (rvT rfl) (rvBN (i := 1) (us := (l_api_Result u32 (.slice q35 u32.Names.length x36))) H rfl rfl rfl Tryz.underlying51 rfl sz51)<|have H:=H.drop 0;have H:=H.drop 0;?_
     cases hm
     exact ⟨v1, (.slice q35 u32.Names.length x36), rfl, H.reads (sub_cons (t1 hr28) (sub_cons m0 (fun r hr => (t1 (hs27 r hr)))))⟩
    ·refine sq<|pr 1 E rfl fun a E=>sv E rfl rfl rfl (x_lenS E H rfl rfl hr28 Tryz.underlying22) fun a E=>pr 2 E rfl fun a E=>nt<|wif E hm rfl (fun hm=>?_) fun hm=>?_
     ·refine sq<|pr 1 E rfl fun a E=>bd hm fun u37 hx38 hm=>x_cl E rfl rfl rfl rfl rfl cf59 (c_nodes_failed 2 H hx38)<|?_
      rintro _ w ⟨v39, rfl, H⟩ a E
      refine pr 1 E rfl fun a E=>?_
      obtain ⟨q40, x41, rfl⟩ := H.slform m0
      refine st_st (i := 1) E H (wn rfl) rfl (us := (l_api_Result u37 (.slice q40 u37.Names.length x41))) rfl rfl rfl rfl rfl sz51 rfl rfl fun w H=>nt<|wp_ret<|q_blkR<|q_thenR<|outR2 E rfl (rvT rfl) (rvBN (i := 1) (us := (l_api_Result u37 (.slice q40 u37.Names.length x41))) H rfl rfl rfl Tryz.underlying51 rfl sz51)<|have H:=H.drop 0;have H:=H.drop 0;?_
      cases hm
      exact ⟨v1, (.slice q40 u37.Names.length x41), rfl, H.reads (sub_cons (t1 hr28) (sub_cons m0 (fun r hr => (t1 (hs27 r hr)))))⟩
     ·refine wp_skip<|q_blk<|q_then<|sq<|pr 1 E rfl fun a E=>bk hm fun hx44 hm=>st_call E (wn rfl) rfl rfl (x_call E rfl rfl (cf88 _)) (lib_slices_Clone_api_Node_api_Node_rd H hr28 hx44) fun v42 w H a E=>pr 1 E rfl fun a E=>nt<|wp_seq_cut (fun a w => ∃ (l45 : (List S_api_Node)) (rs46 : List Rp), Env 106 a [(0, v42), (3, pt p6 0), (5, pt p7 0), (10, .string s25), (13, .int .i64 u30.1)] ∧ Sep w (Row 80 k_api_Node v42 l45 :: Blk p6 55 (l_api_Op x3) :: Blk p7 51 z_api_Result :: Fo) rs46 ∧ (∀ r, r ∈ rs → r ∈ rs46) ∧ rTab Tryz.prog ∈ rs46 ∧ m_nodes_create_j2 u30 s25 x3 l45 = some r) ?_ ?_
      ·refine sq<|pr 1 E rfl fun a E=>lb E H 1 rfl rfl rfl rfl rfl rfl rfl Tryz.underlying4 rfl fun a E=>nt<|wif E hm rfl (fun hm=>?_) fun hm=>?_
       ·refine wp_region_lit<|pr 2 E rfl fun a E=>bd hm fun x53 hx54 hm=>?_
        obtain ⟨p55, x56, hx57⟩ := H.rowformNE (i := 0) rfl hx54
        refine sv E rfl rfl rfl (x_ixRowV (d := k_api_Node) E hx57 rfl rfl rfl rfl Tryz.underlying22 sz80 hx54) fun a E=>pr 1 E rfl fun a E=>sv E rfl rfl rfl (x_ldRowV (d := k_api_Node) (i := 0) (k := 3) E H k_api_Node_flat hx57 rfl rfl rfl hx54 rfl Tryz.underlying2 rfl) fun a E=>pr 1 E rfl fun a E=>bd hm fun x58 hx59 hm=>?_
        obtain ⟨p60, x61, hx62⟩ := H.rowformNE (i := 0) rfl hx59
        exact sv E rfl rfl rfl (x_ixRowV (d := k_api_Node) E hx62 rfl rfl rfl rfl Tryz.underlying22 sz80 hx59) fun a E=>pr 1 E rfl fun a E=>st_stRowV (d := k_api_Node) (i := 0) (k := 3) (z' := ({ x58 with Turn := IntKind.i64.wrap (x53.Turn + 1) } : S_api_Node)) E H k_api_Node_flat (wn rfl) rfl hx62 rfl rfl rfl rfl rfl rfl hx59 rfl rfl sz2 fun w H=>nt<|⟨l2.set u10.1.toNat ({ x58 with Turn := IntKind.i64.wrap (x53.Turn + 1) } : S_api_Node), _, E.sel [0, 3, 5, 10, 13] rfl, H, hs27, hr29, hm⟩
       ·exact wp_skip<|q_then<|⟨l2, _, E.sel [0, 3, 5, 10, 13] rfl, H, hs27, hr29, hm⟩
      ·clear E H hm
       rintro a w ⟨l45, rs46, E, H, hs47, hr48, hm⟩
       unfold m_nodes_create_j2 at hm
       refine sq<|pr 4 E rfl fun a E=>lb E H 1 rfl rfl rfl rfl rfl rfl rfl Tryz.underlying9 rfl fun a E=>pr 1 E rfl fun a E=>lb E H 1 rfl rfl rfl rfl rfl rfl rfl Tryz.underlying2 rfl fun a E=>sv E rfl rfl rfl (x_build E rfl (E.evs rfl) (v := .agg #[.string s25, .string x3.Data, .int .i64 0, .int .i64 0, .int .i64 x3.Owner]) (by kernel_rfl)) fun a E=>st_bsO (e := 80) (d := k_api_Node) (cs := [.string s25, .string x3.Data, .int .i64 0, .int .i64 0, .int .i64 x3.Owner]) (xs := [(⟨s25, x3.Data, 0, 0, x3.Owner⟩ : S_api_Node)]) E H (wn rfl) rfl rfl rfl (E.evs rfl) (by kernel_rfl) rfl rfl (fun ok hr => (Rows.single (d := k_api_Node) (cs := [.string s25, .string x3.Data, .int .i64 0, .int .i64 0, .int .i64 x3.Owner]) (x := (⟨s25, x3.Data, 0, 0, x3.Owner⟩ : S_api_Node)) k_api_Node_mk)) fun v49 w a H E=>bk hm fun hx51 hm=>st_call E (wn rfl) rfl rfl (x_call E rfl rfl (cf121 _)) (insert_a (ix := 1) (iu := 0) H rfl rfl (by decide) hx51) fun v52 w H a E=>?_
       refine pr 1 E rfl fun a E=>sv E rfl rfl rfl (x_build E rfl (E.evs rfl) (v := .agg #[.int .i64 0, .string s25, .string (ByteArray.mk #[]), .int .i64 0, .slice none 0 0]) (by kernel_rfl)) fun a E=>pr 1 E rfl fun a E=>st_st (i := 3) E H (wn rfl) rfl (us := [.int .i64 0, .string s25, .string (ByteArray.mk #[]), .int .i64 0, .slice none 0 0]) rfl rfl rfl rfl rfl sz51 rfl rfl fun w H=>nt<|wp_ret<|outR2 E rfl (rvT rfl) (rvBN (i := 3) (us := [.int .i64 0, .string s25, .string (ByteArray.mk #[]), .int .i64 0, .slice none 0 0]) H rfl rfl rfl Tryz.underlying51 rfl sz51)<|have H:=H.thaw (i := 1) rfl;have H:=H.nilSl kS;?_
       refine have H:=H.drop 0;have H:=H.drop 0;have H:=H.drop 0;?_
       cases hm
       exact ⟨v52, (.slice none 0 0), rfl, H.reads (sub_cons mm1 (sub_cons m0 (fun r hr => (t2 (hs47 r hr)))))⟩

def m_nodes_get (l2 : List S_api_Node) (x3 : Int) (x4 : S_api_Op) : Option ((List S_api_Node) × S_api_Result) :=
  (idx l2 x3).bind fun x9 => (idx l2 x3).bind fun x16 => some (l2, (⟨0, (ByteArray.mk #[]), x9.Data, x16.Version, []⟩ : S_api_Result))
theorem c_nodes_get {w : World} {Fo : List Ob} {rs : List Rp} (v1 : Value) (l2 : List S_api_Node) (x3 : Int) (x4 : S_api_Op) (H : Sep w (Fo) rs) (hr5 : rSl k_api_Node v1 l2 ∈ rs) {r : (List S_api_Node) × S_api_Result} (hm : m_nodes_get l2 x3 x4 = some r) :
    Calls Tryz.prog 65 [v1, .int .i64 x3, .agg (l_api_Op x4).toArray].toArray w (Ret fun v w' => ∃ (v5001 : Value) (v5004 : Value), .tuple #[v5001, .agg (l_api_Result r.2 v5004).toArray] = v ∧ Sep w' (Fo) (rSl k_api_Node v5001 r.1 :: rSl kS v5004 r.2.Names :: rs)) := by
 unfold m_nodes_get at hm
 refine enter Tryz.func65 rfl Tryz.ntmps65 rfl fun a E =>?_
 simp only [enum, Nat.reduceAdd] at E
 refine sq<|st_box E H (wn rfl) rfl rfl (cs := (l_api_Op x4)) rfl rfl rfl fun p6 w a H E=>pr 1 E rfl fun a E=>al E H rfl rfl rfl rfl zr51 fun p7 w a H E=>nt<|wp_seq<|?_
 obtain ⟨u8, H⟩ := H.raw hr5
 refine dw [(0, 0), (1, 0), (2, 0), (3, 0), (4, 0), (5, 0), (6, 0), (7, 0), (8, 0), (9, 0), (10, 0), (11, 0), (12, 1), (13, 2)] [] [0] H (by kernel_rfl) (fun _ _ _ h => False.elim h.2) fun w W0 hI H=>fn 3 E rfl fun a E=>bd hm fun x9 hx10 hm=>?_
 obtain ⟨q11, u14, hx12, hx13⟩ := dr_ixW (P := Tryz.prog) (k := .i64) hI (dr_mem (.head _)) Tryz.underlying22 sz80 hx10
 refine fr_val E rfl (wn rfl) rfl rfl (fun w hW=>x_ixA E rfl rfl rfl (hx12 w)) fun a E=>?_
 have hx15 := dr_fld hx13 (fun _ _ _ h => k_api_Node_aw1 h)
 refine fn 1 E rfl fun a E=>fa E rfl (wn rfl) rfl rfl rfl rfl hx15 Tryz.underlying9 rfl fun a E=>fn 2 E rfl fun a E=>bd hm fun x16 hx17 hm=>?_
 obtain ⟨q18, u21, hx19, hx20⟩ := dr_ixW (P := Tryz.prog) (k := .i64) hI (dr_mem (.head _)) Tryz.underlying22 sz80 hx17
 refine fr_val E rfl (wn rfl) rfl rfl (fun w hW=>x_ixA E rfl rfl rfl (hx19 w)) fun a E=>?_
 have hx22 := dr_fld hx20 (fun _ _ _ h => k_api_Node_aw2 h)
 refine fn 1 E rfl fun a E=>fa E rfl (wn rfl) rfl rfl rfl rfl hx22 Tryz.underlying2 rfl fun a E=>fr_val E rfl (wn rfl) rfl rfl (fun w hW=>(x_build E rfl (E.evs rfl) (v := .agg #[.int .i64 0, .string (ByteArray.mk #[]), .string x9.Data, .int .i64 x16.Version, .slice none 0 0]) (by kernel_rfl))) fun a E=>?_
 refine fr_op rfl<|pr 1 E rfl fun a E=>nt<|?_
 refine ⟨⟨_, _, H, (subO_nil), (sub_cons m0 (sub_nil))⟩, ?_⟩
 refine fr_tail rfl<|st_st (i := 0) E H (wn rfl) rfl (us := [.int .i64 0, .string (ByteArray.mk #[]), .string x9.Data, .int .i64 x16.Version, .slice none 0 0]) rfl rfl rfl rfl rfl sz51 rfl rfl fun w H=>nt<|fr_nil<|?_
 clear hI
 refine q_then<|wp_ret<|outR2 E rfl (rvT rfl) (rvBN (i := 0) (us := [.int .i64 0, .string (ByteArray.mk #[]), .string x9.Data, .int .i64 x16.Version, .slice none 0 0]) H rfl rfl rfl Tryz.underlying51 rfl sz51)<|have H:=H.nilSl kS;have H:=H.drop 0;have H:=H.drop 0;?_
 cases hm
 exact ⟨v1, (.slice none 0 0), rfl, H.reads (sub_cons (t2 hr5) (sub_cons m0 (fun r hr => (t2 hr))))⟩

def m_nodes_in (x1 : S_api_Node) (s2 : ByteArray) : Option Bool :=
  (m_path_Parent x1.Path).bind fun u4 => if u4.2 = true then (some (sEq u4.1 s2)) else (some (false))
theorem c_nodes_in {w : World} {Fo : List Ob} {rs : List Rp} (x1 : S_api_Node) (s2 : ByteArray) (H : Sep w (Fo) rs) {r : Bool} (hm : m_nodes_in x1 s2 = some r) :
    Calls Tryz.prog 125 [.agg (l_api_Node x1).toArray, .string s2].toArray w (Ret fun v w' => .bool r = v ∧ Sep w' (Fo) (rs)) := by
 unfold m_nodes_in at hm
 refine enter Tryz.func125 rfl Tryz.ntmps125 rfl fun a E =>?_
 simp only [enum, Nat.reduceAdd] at E
 refine sq<|st_box E H (wn rfl) rfl rfl (cs := (l_api_Node x1)) rfl rfl rfl fun p3 w a H E=>pr 1 E rfl fun a E=>nx<|pr 1 E rfl fun a E=>lb E H 0 rfl rfl rfl rfl rfl rfl rfl Tryz.underlying9 rfl fun a E=>bd hm fun u4 hx5 hm=>x_cl E rfl rfl rfl rfl rfl cf111 (c_path_Parent x1.Path H hx5)<|?_
 rintro _ w ⟨rfl, H⟩ a E
 refine pr 5 E rfl fun a E=>nx<|pr 2 E rfl fun a E=>cs hm (fun hb6 hm=>?_) fun hb6 hm=>?_
 ·refine pk 5 E (kc 14 rfl hb6) rfl fun a E=>nt<|wp_ret<|out1 E rfl rfl<|have H:=H.drop 0;?_
  cases hm
  exact ⟨rfl, H.reads (fun r hr => hr)⟩
 ·refine pk 5 E (kc 14 rfl hb6) rfl fun a E=>nt<|wp_ret<|out1 E rfl rfl<|have H:=H.drop 0;?_
  cases hm
  exact ⟨rfl, H.reads (fun r hr => hr)⟩

def m_nodes_list_j1 (rec_1 : Int → (List ByteArray) → Option ((List S_api_Node) × S_api_Result)) (x9 : Int) (l16 : (List ByteArray)) : Option ((List S_api_Node) × S_api_Result) :=
  rec_1 (IntKind.i64.wrap (x9 + 1)) l16
def m_nodes_list_l1 (l2 : List S_api_Node) (x3 : Int) : Nat → Int → (List ByteArray) → Option ((List S_api_Node) × S_api_Result)
  | 0, _, _ => none
  | k1 + 1, x9, l11 =>
    if (decide (x9 < (l2.length : Int))) = true then ((idx l2 x9).bind fun x20 => (idx l2 x3).bind fun x25 => (m_nodes_in x20 x25.Path).bind fun u32 => if u32 = true then ((m_path_Last x20.Path).bind fun u34 => (ck (l11.length + ([u34] : List ByteArray).length ≤ LIM)).bind fun u38 => m_nodes_list_j1 (m_nodes_list_l1 l2 x3 k1) x9 (l11 ++ ([u34] : List ByteArray))) else (m_nodes_list_j1 (m_nodes_list_l1 l2 x3 k1) x9 l11)) else (some (l2, (⟨0, (ByteArray.mk #[]), (ByteArray.mk #[]), 0, l11⟩ : S_api_Result)))
def m_nodes_list (l2 : List S_api_Node) (x3 : Int) (x4 : S_api_Op) : Option ((List S_api_Node) × S_api_Result) :=
  m_nodes_list_l1 l2 x3 (((l2.length : Int) - 0 : Int).toNat + 1) 0 []
theorem c_nodes_list {w : World} {Fo : List Ob} {rs : List Rp} (v1 : Value) (l2 : List S_api_Node) (x3 : Int) (x4 : S_api_Op) (H : Sep w (Fo) rs) (hr5 : rSl k_api_Node v1 l2 ∈ rs) {r : (List S_api_Node) × S_api_Result} (hm : m_nodes_list l2 x3 x4 = some r) :
    Calls Tryz.prog 66 [v1, .int .i64 x3, .agg (l_api_Op x4).toArray].toArray w (Ret fun v w' => ∃ (v5001 : Value) (v5004 : Value), .tuple #[v5001, .agg (l_api_Result r.2 v5004).toArray] = v ∧ Sep w' (Fo) (rSl k_api_Node v5001 r.1 :: rSl kS v5004 r.2.Names :: rs)) := by
 unfold m_nodes_list at hm
 refine enter Tryz.func66 rfl Tryz.ntmps66 rfl fun a E =>?_
 simp only [enum, Nat.reduceAdd] at E
 refine sq<|st_box E H (wn rfl) rfl rfl (cs := (l_api_Op x4)) rfl rfl rfl fun p6 w a H E=>pr 1 E rfl fun a E=>al E H rfl rfl rfl rfl zr51 fun p7 w a H E=>nx<|al E H rfl rfl rfl rfl zr51 fun p8 w a H E=>nt<|wp_seq<|sq<|?_
 refine pr 1 E rfl fun a E=>sv E rfl rfl rfl (x_lenS E H rfl rfl hr5 Tryz.underlying22) fun a E=>pr 1 E rfl fun a E=>nt<|wp_block<|wp_loop_g (fun k1 a w => ∃ (v10 : Value) (x9 : Int) (l11 : (List ByteArray)) (rs12 : List Rp), Env 35 a [(0, v1), (1, .int .i64 x3), (7, pt p7 0), (8, pt p8 0), (11, v1), (12, .int .i64 (l2.length : Int)), (13, .int .i64 x9)] ∧ Sep w (Blk p7 51 z_api_Result :: Blk p8 51 [.int .i64 0, .string (ByteArray.mk #[]), .string (ByteArray.mk #[]), .int .i64 0, v10] :: Row 9 kS v10 l11 :: Fo) rs12 ∧ (∀ r, r ∈ rs → r ∈ rs12) ∧ rSl k_api_Node v1 l2 ∈ rs12 ∧ m_nodes_list_l1 l2 x3 k1 x9 l11 = some r) (((l2.length : Int) - 0 : Int).toNat + 1) ?_ ?_
 ·exact have H:=H.nilRow 9 kS;have H:=H.drop 3;have H:=H.front 0 rfl;have H:=H.front 1 rfl;have H:=H.front 2 rfl;⟨(.slice none 0 0), 0, [], _, E.sel [0, 1, 7, 8, 11, 12, 13] rfl, H, fun r hr => hr, hr5, hm⟩
 ·clear E H hm
  rintro k1 a w ⟨v10, x9, l11, rs12, E, H, hs13, hr14, hm⟩
  cases k1 with
  | zero => exact (none_some hm rfl).elim
  | succ k1 =>
   unfold m_nodes_list_l1 at hm
   refine sq<|pr 1 E rfl fun a E=>nt<|wp_seq<|wif E hm rfl (fun hm=>?_) fun hm=>?_
   ·refine wp_skip<|q_then<|wp_seq_cut (fun a w => ∃ (v15 : Value) (l16 : (List ByteArray)) (rs17 : List Rp), Env 35 a [(0, v1), (1, .int .i64 x3), (7, pt p7 0), (8, pt p8 0), (11, v1), (12, .int .i64 (l2.length : Int)), (13, .int .i64 x9)] ∧ Sep w (Blk p7 51 z_api_Result :: Blk p8 51 [.int .i64 0, .string (ByteArray.mk #[]), .string (ByteArray.mk #[]), .int .i64 0, v15] :: Row 9 kS v15 l16 :: Fo) rs17 ∧ (∀ r, r ∈ rs → r ∈ rs17) ∧ rSl k_api_Node v1 l2 ∈ rs17 ∧ m_nodes_list_j1 (m_nodes_list_l1 l2 x3 k1) x9 l16 = some r) ?_ ?_
    ·refine wp_block<|sq<|bd hm fun x20 hx21 hm=>st_ixS E H (wn rfl) rfl rfl rfl rfl rfl hr14 Tryz.underlying22 sz80 hx21 fun q22 a H E=>ldf k_api_Node_flat E H rfl rfl rfl rfl rfl m0 Tryz.underlying80 rfl sz80 fun a E=>al E H rfl rfl rfl rfl zr80 fun p23 w a H E=>st_st (i := 0) E H (wn rfl) rfl (us := (l_api_Node x20)) rfl rfl rfl rfl rfl sz80 rfl rfl fun w H=>nt<|wp_seq<|?_
     obtain ⟨u24, H⟩ := H.raw (t1 hr14)
     refine dw [(0, 0), (1, 0), (2, 0), (3, 0), (4, 0), (5, 0), (6, 1)] [0] [0] H (by kernel_rfl) (fun _ _ _ h => False.elim h.2) fun w W0 hI H=>fbn E (l_api_Node x20) rfl (wn rfl) rfl rfl rfl rfl m0 rfl Tryz.underlying80 rfl sz80 fun a E=>fn 2 E rfl fun a E=>bd hm fun x25 hx26 hm=>?_
     obtain ⟨q27, u30, hx28, hx29⟩ := dr_ixW (P := Tryz.prog) (k := .i64) hI (dr_mem (.head _)) Tryz.underlying22 sz80 hx26
     refine fr_val E rfl (wn rfl) rfl rfl (fun w hW=>x_ixA E rfl rfl rfl (hx28 w)) fun a E=>?_
     have hx31 := dr_fld hx29 (fun _ _ _ h => k_api_Node_aw0 h)
     refine fn 1 E rfl fun a E=>fa E rfl (wn rfl) rfl rfl rfl rfl hx31 Tryz.underlying9 rfl fun a E=>fr_op rfl<|bd hm fun u32 hx33 hm=>x_cl E rfl rfl rfl rfl rfl cf125 (c_nodes_in x20 x25.Path H hx33)<|?_
     rintro _ w ⟨rfl, H⟩ a E
     refine nt<|?_
     refine ⟨⟨_, _, H, (subO_cons m0 (subO_nil)), (sub_cons m0 (sub_nil))⟩, ?_⟩
     refine fr_nil<|?_
     clear hI
     refine q_then<|wif E hm rfl (fun hm=>?_) fun hm=>?_
     ·refine dw [(0, 0), (1, 0), (2, 0), (3, 0), (4, 1), (5, 1), (6, 1), (7, 2), (8, 2)] [0, 2] [] H (by kernel_rfl) (fun _ _ _ h => False.elim h.2) fun w W0 hI H=>fn 1 E rfl fun a E=>fb E rfl (wn rfl) rfl rfl rfl rfl mm1 rfl Tryz.underlying49 rfl fun a E=>fn 1 E rfl fun a E=>fb E rfl (wn rfl) rfl rfl rfl rfl m0 rfl Tryz.underlying9 rfl fun a E=>fr_op rfl<|bd hm fun u34 hx35 hm=>x_cl E rfl rfl rfl rfl rfl cf119 (c_path_Last x20.Path H hx35)<|?_
      rintro _ w ⟨rfl, H⟩ a E
      refine nt<|?_
      refine ⟨⟨_, _, H, (subO_cons m0 (subO_cons mm2 (subO_nil))), (sub_nil)⟩, ?_⟩
      refine fr_op rfl<|st_bsR (e := 9) (d := kS) (cs := [.string u34]) (xs := [u34]) E H (wn rfl) rfl rfl rfl (E.evs rfl) (by kernel_rfl) rfl (fun ok hr => (Rows.single (d := kS) (cs := [.string u34]) (x := u34) rfl)) fun v36 w a H E=>nt<|?_
      refine ⟨⟨_, _, H, (subO_cons m0 (subO_cons mm2 (subO_nil))), (sub_nil)⟩, ?_⟩
      refine fr_op rfl<|bk hm fun hx39 hm=>st_append (i := 3) E H (wn rfl) rfl rfl rfl rfl rfl rfl (src_rd m0) Tryz.underlying49 inf9 rfl hx39 rfl fun v37 w a H E=>nt<|?_
      refine ⟨⟨_, _, H, (subO_cons m0 (subO_cons mm2 (subO_nil))), (sub_nil)⟩, ?_⟩
      refine fr_tail rfl<|pr 1 E rfl fun a E=>nt<|fr_tail rfl<|?_
      obtain ⟨q40, x41, rfl⟩ := H.rowform (i := 3) rfl
      refine st_st (i := 2) E H (wn rfl) rfl (us := [(.slice q40 (l11 ++ ([u34] : List ByteArray)).length x41)]) rfl rfl rfl rfl rfl sz49 rfl rfl fun w H=>nt<|fr_nil<|?_
      clear hI
      exact q_blk<|q_then<|have H:=H.drop 0;⟨(.slice q40 (l11 ++ ([u34] : List ByteArray)).length x41), l11 ++ ([u34] : List ByteArray), _, E.sel [0, 1, 7, 8, 11, 12, 13] rfl, H, fun r hr => (t3 (hs13 r hr)), (t3 hr14), hm⟩
     ·exact wp_skip<|q_blk<|q_then<|have H:=H.drop 0;⟨v10, l11, _, E.sel [0, 1, 7, 8, 11, 12, 13] rfl, H, fun r hr => (t2 (hs13 r hr)), (t2 hr14), hm⟩
    ·clear E H hm
     rintro a w ⟨v15, l16, rs17, E, H, hs18, hr19, hm⟩
     unfold m_nodes_list_j1 at hm
     exact wp_region_lit<|pr 2 E rfl fun a E=>nt<|⟨k1, Nat.lt_succ_self k1, v15, IntKind.i64.wrap (x9 + 1), l16, _, E.sel [0, 1, 7, 8, 11, 12, 13] rfl, H, hs18, hr19, hm⟩
   ·refine wp_exit<|q_thenX<|q_thenX<|q_hit<|q_then<|wp_seq<|dw [(0, 0), (1, 0), (2, 1), (3, 2)] [1] [] H (by kernel_rfl) (fun _ _ _ h => False.elim h.2) fun w W0 hI H=>fn 1 E rfl fun a E=>fbn E [.int .i64 0, .string (ByteArray.mk #[]), .string (ByteArray.mk #[]), .int .i64 0, v10] rfl (wn rfl) rfl rfl rfl rfl m0 rfl Tryz.underlying51 rfl sz51 fun a E=>?_
    refine fr_op rfl<|pr 1 E rfl fun a E=>nt<|?_
    refine ⟨⟨_, _, H, (subO_cons mm1 (subO_nil)), (sub_nil)⟩, ?_⟩
    refine fr_tail rfl<|?_
    obtain ⟨q42, x43, rfl⟩ := H.rowform (i := 2) rfl
    refine st_st (i := 0) E H (wn rfl) rfl (us := [.int .i64 0, .string (ByteArray.mk #[]), .string (ByteArray.mk #[]), .int .i64 0, (.slice q42 l11.length x43)]) rfl rfl rfl rfl rfl sz51 rfl rfl fun w H=>nt<|fr_nil<|?_
    clear hI
    refine q_then<|wp_ret<|outR2 E rfl (rvT rfl) (rvBN (i := 0) (us := [.int .i64 0, .string (ByteArray.mk #[]), .string (ByteArray.mk #[]), .int .i64 0, (.slice q42 l11.length x43)]) H rfl rfl rfl Tryz.underlying51 rfl sz51)<|have H:=H.thaw (i := 2) rfl;have H:=H.drop 0;have H:=H.drop 0;?_
    cases hm
    exact ⟨v1, (.slice q42 l11.length x43), rfl, H.reads (sub_cons (t1 hr14) (sub_cons m0 (fun r hr => (t1 (hs13 r hr)))))⟩

def m_nodes_remove_1 (x1 : S_api_Node) (l4 : List S_api_Node) (x6 : Int) : Option Bool :=
  (idx l4 x6).bind fun x10 => (m_nodes_in x1 x10.Path).bind fun u17 => some (u17)
theorem c_nodes_remove_1 {w : World} {Fo : List Ob} {rs : List Rp} (x1 : S_api_Node) (p2 : Nat) (v3 : Value) (l4 : List S_api_Node) (p5 : Nat) (x6 : Int) (H : Sep w (Blk p2 22 [v3] :: Blk p5 3 [.int .i64 x6] :: Fo) rs) (hr7 : rSl k_api_Node v3 l4 ∈ rs) {r : Bool} (hm : m_nodes_remove_1 x1 l4 x6 = some r) :
    Calls Tryz.prog 124 [.agg (l_api_Node x1).toArray, pt p2 0, pt p5 0].toArray w (Ret fun v w' => .bool r = v ∧ Sep w' (Blk p2 22 [v3] :: Blk p5 3 [.int .i64 x6] :: Fo) (rs)) := by
 unfold m_nodes_remove_1 at hm
 refine enter Tryz.func124 rfl Tryz.ntmps124 rfl fun a E =>?_
 simp only [enum, Nat.reduceAdd] at E
 refine sq<|st_box E H (wn rfl) rfl rfl (cs := (l_api_Node x1)) rfl rfl rfl fun p8 w a H E=>pr 1 E rfl fun a E=>nt<|wp_seq<|?_
 obtain ⟨u9, H⟩ := H.raw hr7
 refine dw [(0, 0), (1, 0), (2, 0), (3, 0), (4, 0), (5, 0), (6, 1), (7, 2)] [0, 1, 2] [0] H (by kernel_rfl) (fun _ _ _ h => False.elim h.2) fun w W0 hI H=>fbn E (l_api_Node x1) rfl (wn rfl) rfl rfl rfl rfl m0 rfl Tryz.underlying80 rfl sz80 fun a E=>fb E rfl (wn rfl) rfl rfl rfl rfl mm1 rfl Tryz.underlying22 rfl fun a E=>fb E rfl (wn rfl) rfl rfl rfl rfl mm2 rfl Tryz.underlying3 rfl fun a E=>bd hm fun x10 hx11 hm=>?_
 obtain ⟨q12, u15, hx13, hx14⟩ := dr_ixW (P := Tryz.prog) (k := .i64) hI (dr_mem (.head _)) Tryz.underlying22 sz80 hx11
 refine fr_val E rfl (wn rfl) rfl rfl (fun w hW=>x_ixA E rfl rfl rfl (hx13 w)) fun a E=>?_
 have hx16 := dr_fld hx14 (fun _ _ _ h => k_api_Node_aw0 h)
 refine fn 1 E rfl fun a E=>fa E rfl (wn rfl) rfl rfl rfl rfl hx16 Tryz.underlying9 rfl fun a E=>fr_op rfl<|bd hm fun u17 hx18 hm=>x_cl E rfl rfl rfl rfl rfl cf125 (c_nodes_in x1 x10.Path H hx18)<|?_
 rintro _ w ⟨rfl, H⟩ a E
 refine nt<|?_
 refine ⟨⟨_, _, H, (subO_cons m0 (subO_cons mm1 (subO_cons mm2 (subO_nil)))), (sub_cons m0 (sub_nil))⟩, ?_⟩
 refine fr_tail rfl<|pr 1 E rfl fun a E=>nt<|fr_nil<|?_
 clear hI
 refine q_then<|wp_ret<|out1 E rfl rfl<|have H:=H.drop 0;?_
 cases hm
 exact ⟨rfl, H.reads (fun r hr => (t1 hr))⟩

def m_slices_IndexFunc_api_Node_api_Node_1_l1 (l2 : List S_api_Node) (l5 : List S_api_Node) (x7 : Int) : Nat → Int → Option Int
  | 0, _ => none
  | k1 + 1, x10 =>
    if (decide (x10 < (l2.length : Int))) = true then ((idx l2 x10).bind fun x15 => (m_nodes_remove_1 x15 l5 x7).bind fun u18 => if u18 = true then (some (x10)) else (m_slices_IndexFunc_api_Node_api_Node_1_l1 l2 l5 x7 k1 (IntKind.i64.wrap (x10 + 1)))) else (some ((-1)))
def m_slices_IndexFunc_api_Node_api_Node_1 (l2 : List S_api_Node) (l5 : List S_api_Node) (x7 : Int) : Option Int :=
  m_slices_IndexFunc_api_Node_api_Node_1_l1 l2 l5 x7 (((l2.length : Int) - 0 : Int).toNat + 1) 0
theorem c_slices_IndexFunc_api_Node_api_Node_1 {w : World} {Fo : List Ob} {rs : List Rp} (v1 : Value) (l2 : List S_api_Node) (p3 : Nat) (v4 : Value) (l5 : List S_api_Node) (p6 : Nat) (x7 : Int) (H : Sep w (Blk p3 22 [v4] :: Blk p6 3 [.int .i64 x7] :: Fo) rs) (hr8 : rSl k_api_Node v1 l2 ∈ rs) (hr9 : rSl k_api_Node v4 l5 ∈ rs) {r : Int} (hm : m_slices_IndexFunc_api_Node_api_Node_1 l2 l5 x7 = some r) :
    Calls Tryz.prog 143 [v1, .func (.func 124) #[] #[pt p3 0, pt p6 0]].toArray w (Ret fun v w' => .int .i64 r = v ∧ Sep w' (Blk p3 22 [v4] :: Blk p6 3 [.int .i64 x7] :: Fo) (rs)) := by
 unfold m_slices_IndexFunc_api_Node_api_Node_1 at hm
 refine enter Tryz.func143 rfl Tryz.ntmps143 rfl fun a E =>?_
 simp only [enum, Nat.reduceAdd] at E
 refine sq<|pr 1 E rfl fun a E=>nt<|wp_seq<|sq<|pr 1 E rfl fun a E=>sv E rfl rfl rfl (x_lenS E H rfl rfl hr8 Tryz.underlying22) fun a E=>pr 1 E rfl fun a E=>nt<|?_
 refine wp_block<|wp_loop_g (fun k1 a w => ∃ (x10 : Int) (rs11 : List Rp), Env 19 a [(0, v1), (1, .func (.func 124) #[] #[pt p3 0, pt p6 0]), (7, .int .i64 (l2.length : Int)), (8, .int .i64 x10)] ∧ Sep w (Blk p3 22 [v4] :: Blk p6 3 [.int .i64 x7] :: Fo) rs11 ∧ (∀ r, r ∈ rs → r ∈ rs11) ∧ rSl k_api_Node v1 l2 ∈ rs11 ∧ rSl k_api_Node v4 l5 ∈ rs11 ∧ m_slices_IndexFunc_api_Node_api_Node_1_l1 l2 l5 x7 k1 x10 = some r) (((l2.length : Int) - 0 : Int).toNat + 1) ?_ ?_
 ·exact ⟨0, _, E.sel [0, 1, 7, 8] rfl, H, fun r hr => hr, hr8, hr9, hm⟩
 ·clear E H hm
  rintro k1 a w ⟨x10, rs11, E, H, hs12, hr13, hr14, hm⟩
  cases k1 with
  | zero => exact (none_some hm rfl).elim
  | succ k1 =>
   unfold m_slices_IndexFunc_api_Node_api_Node_1_l1 at hm
   refine sq<|pr 1 E rfl fun a E=>nt<|wp_seq<|wif E hm rfl (fun hm=>?_) fun hm=>?_
   ·refine wp_skip<|q_then<|wp_seq<|wp_block<|sq<|pr 2 E rfl fun a E=>nx<|pr 3 E rfl fun a E=>bd hm fun x15 hx16 hm=>?_
    refine st_ixS E H (wn rfl) rfl rfl rfl rfl rfl hr13 Tryz.underlying22 sz80 hx16 fun q17 a H E=>ldf k_api_Node_flat E H rfl rfl rfl rfl rfl m0 Tryz.underlying80 rfl sz80 fun a E=>bd hm fun u18 hx19 hm=>st_call E (wn rfl) rfl rfl (x_callv E rfl rfl rfl (cf124 _)) (c_nodes_remove_1 x15 p3 v4 l5 p6 x7 H (t1 hr14) hx19)<|?_
    rintro _ w ⟨rfl, H⟩ a E
    refine nt<|wif E hm rfl (fun hm=>?_) fun hm=>?_
    ·refine sq<|pr 2 E rfl fun a E=>nt<|wp_ret<|q_blkR<|q_thenR<|q_thenR<|q_blkR<|q_thenR<|?_
     refine out1 E rfl rfl<|?_
     cases hm
     exact ⟨rfl, H.reads (fun r hr => (t1 (hs12 r hr)))⟩
    ·exact wp_skip<|q_blk<|q_then<|wp_region_lit<|pr 2 E rfl fun a E=>nt<|⟨k1, Nat.lt_succ_self k1, IntKind.i64.wrap (x10 + 1), _, E.sel [0, 1, 7, 8] rfl, H, fun r hr => (t1 (hs12 r hr)), (t1 hr13), (t1 hr14), hm⟩
   ·refine wp_exit<|q_thenX<|q_thenX<|q_hit<|q_then<|sq<|pr 1 E rfl fun a E=>nt<|wp_ret<|?_
    refine out1 E rfl rfl<|?_
    cases hm
    exact ⟨rfl, H.reads (hs12)⟩

def m_slices_ContainsFunc_api_Node_api_Node (l2 : List S_api_Node) (l5 : List S_api_Node) (x7 : Int) : Option Bool :=
  (m_slices_IndexFunc_api_Node_api_Node_1 l2 l5 x7).bind fun u10 => some (decide (u10 ≥ 0))
theorem c_slices_ContainsFunc_api_Node_api_Node {w : World} {Fo : List Ob} {rs : List Rp} (v1 : Value) (l2 : List S_api_Node) (p3 : Nat) (v4 : Value) (l5 : List S_api_Node) (p6 : Nat) (x7 : Int) (H : Sep w (Blk p3 22 [v4] :: Blk p6 3 [.int .i64 x7] :: Fo) rs) (hr8 : rSl k_api_Node v1 l2 ∈ rs) (hr9 : rSl k_api_Node v4 l5 ∈ rs) {r : Bool} (hm : m_slices_ContainsFunc_api_Node_api_Node l2 l5 x7 = some r) :
    Calls Tryz.prog 94 [v1, .func (.func 124) #[] #[pt p3 0, pt p6 0]].toArray w (Ret fun v w' => .bool r = v ∧ Sep w' (Blk p3 22 [v4] :: Blk p6 3 [.int .i64 x7] :: Fo) (rs)) := by
 unfold m_slices_ContainsFunc_api_Node_api_Node at hm
 refine enter Tryz.func94 rfl Tryz.ntmps94 rfl fun a E =>?_
 simp only [enum, Nat.reduceAdd] at E
 refine sq<|pr 1 E rfl fun a E=>nx<|pr 2 E rfl fun a E=>bd hm fun u10 hx11 hm=>x_cl E rfl rfl rfl rfl rfl cf143 (c_slices_IndexFunc_api_Node_api_Node_1 v1 l2 p3 v4 l5 p6 x7 H hr8 hr9 hx11)<|?_
 rintro _ w ⟨rfl, H⟩ a E
 refine pr 2 E rfl fun a E=>nt<|wp_ret<|out1 E rfl rfl<|?_
 cases hm
 exact ⟨rfl, H.reads (fun r hr => hr)⟩

def m_nodes_remove (l2 : List S_api_Node) (x3 : Int) (x4 : S_api_Op) : Option ((List S_api_Node) × S_api_Result) :=
  (m_slices_ContainsFunc_api_Node_api_Node l2 l2 x3).bind fun u12 => if u12 = true then ((m_nodes_failed 64).bind fun u14 => some (l2, u14)) else ((ck (l2.length ≤ LIM)).bind fun u20 => (ck (0 ≤ x3 ∧ x3 < l2.length ∧ IntKind.i64.wrap (x3 + 1) = x3 + 1)).bind fun u22 => some (l2.eraseIdx x3.toNat, (⟨0, (ByteArray.mk #[]), (ByteArray.mk #[]), 0, []⟩ : S_api_Result)))
theorem c_nodes_remove {w : World} {Fo : List Ob} {rs : List Rp} (v1 : Value) (l2 : List S_api_Node) (x3 : Int) (x4 : S_api_Op) (H : Sep w (Fo) rs) (hr5 : rSl k_api_Node v1 l2 ∈ rs) {r : (List S_api_Node) × S_api_Result} (hm : m_nodes_remove l2 x3 x4 = some r) :
    Calls Tryz.prog 62 [v1, .int .i64 x3, .agg (l_api_Op x4).toArray].toArray w (Ret fun v w' => ∃ (v5001 : Value) (v5004 : Value), .tuple #[v5001, .agg (l_api_Result r.2 v5004).toArray] = v ∧ Sep w' (Fo) (rSl k_api_Node v5001 r.1 :: rSl kS v5004 r.2.Names :: rs)) := by
 unfold m_nodes_remove at hm
 refine enter Tryz.func62 rfl Tryz.ntmps62 rfl fun a E =>?_
 simp only [enum, Nat.reduceAdd] at E
 refine sq<|?_
 obtain ⟨q7, x8, rfl⟩ := H.slform hr5
 refine st_box E H (wn rfl) rfl rfl (cs := [(.slice q7 l2.length x8)]) rfl rfl rfl fun p6 w a H E=>st_box E H (wn rfl) rfl rfl (cs := [.int .i64 x3]) rfl rfl rfl fun p9 w a H E=>st_box E H (wn rfl) rfl rfl (cs := (l_api_Op x4)) rfl rfl rfl fun p10 w a H E=>pr 1 E rfl fun a E=>al E H rfl rfl rfl rfl zr51 fun p11 w a H E=>nt<|wp_seq<|sq<|lb E H 3 rfl rfl rfl rfl rfl rfl rfl Tryz.underlying22 rfl fun a E=>?_
 refine sv E rfl rfl rfl (x_func E rfl rfl rfl) fun a E=>have H:=H.front 1 rfl;have H:=H.front 1 rfl;have H:=H.front 2 rfl;have H:=H.front 3 rfl;bd hm fun u12 hx13 hm=>x_cl E rfl rfl rfl rfl rfl cf94 (c_slices_ContainsFunc_api_Node_api_Node (.slice q7 l2.length x8) l2 p6 (.slice q7 l2.length x8) l2 p9 x3 H hr5 hr5 hx13)<|?_
 rintro _ w ⟨rfl, H⟩ a E
 refine nt<|wif E hm rfl (fun hm=>?_) fun hm=>?_
 ·refine wp_seq<|dw [(0, 0), (1, 1), (2, 2), (3, 2)] [0] [] H (by kernel_rfl) (fun _ _ _ h => False.elim h.2) fun w W0 hI H=>fb E rfl (wn rfl) rfl rfl rfl rfl m0 rfl Tryz.underlying22 rfl fun a E=>fr_op rfl<|bd hm fun u14 hx15 hm=>x_cl E rfl rfl rfl rfl rfl cf59 (c_nodes_failed 64 H hx15)<|?_
  rintro _ w ⟨v16, rfl, H⟩ a E
  refine nt<|?_
  refine ⟨⟨_, _, H, (subO_cons m0 (subO_nil)), (sub_nil)⟩, ?_⟩
  refine fr_tail rfl<|pr 1 E rfl fun a E=>nt<|fr_tail rfl<|?_
  obtain ⟨q17, x18, rfl⟩ := H.slform m0
  refine st_st (i := 2) E H (wn rfl) rfl (us := (l_api_Result u14 (.slice q17 u14.Names.length x18))) rfl rfl rfl rfl rfl sz51 rfl rfl fun w H=>nt<|fr_nil<|?_
  clear hI
  refine q_then<|wp_ret<|q_thenR<|outR2 E rfl (rvT rfl) (rvBN (i := 2) (us := (l_api_Result u14 (.slice q17 u14.Names.length x18))) H rfl rfl rfl Tryz.underlying51 rfl sz51)<|have H:=H.drop 0;have H:=H.drop 0;have H:=H.drop 0;have H:=H.drop 0;?_
  cases hm
  exact ⟨(.slice q7 l2.length x8), (.slice q17 u14.Names.length x18), rfl, H.reads (sub_cons (t1 hr5) (sub_cons m0 (fun r hr => (t1 hr))))⟩
 ·refine wp_skip<|q_then<|wp_seq<|dw [(0, 0), (2, 0), (3, 0), (4, 0), (6, 0), (1, 1), (5, 1), (7, 1), (8, 2)] [0, 1] [] H (by kernel_rfl) (fun _ _ _ h => False.elim h.2) fun w W0 hI H=>fb E rfl (wn rfl) rfl rfl rfl rfl m0 rfl Tryz.underlying22 rfl fun a E=>fb E rfl (wn rfl) rfl rfl rfl rfl mm1 rfl Tryz.underlying3 rfl fun a E=>fb E rfl (wn rfl) rfl rfl rfl rfl mm1 rfl Tryz.underlying3 rfl fun a E=>fn 1 E rfl fun a E=>fr_val E rfl (wn rfl) rfl rfl (fun w hW=>(x_build E rfl (E.evs rfl) (v := .agg z_api_Result.toArray) (by kernel_rfl))) fun a E=>?_
  refine fr_op rfl<|bk hm fun hx21 hm=>st_call E (wn rfl) rfl rfl (x_call E rfl rfl (cf88 _)) (lib_slices_Clone_api_Node_api_Node_rd H hr5 hx21) fun v19 w H a E=>nt<|?_
  refine ⟨⟨_, _, H, (subO_cons mm1 (subO_cons mm2 (subO_nil))), (sub_nil)⟩, ?_⟩
  refine fr_op rfl<|bk hm fun hx23 hm=>st_call E (wn rfl) rfl rfl (x_call E rfl rfl (cf126 _)) (delete_c (ix := 0) H rfl hx23) fun v24 w H a E=>nt<|?_
  refine ⟨⟨_, _, H, (subO_cons mm1 (subO_cons mm2 (subO_nil))), (sub_nil)⟩, ?_⟩
  refine fr_op rfl<|pr 1 E rfl fun a E=>nt<|?_
  refine ⟨⟨_, _, H, (subO_cons mm1 (subO_cons mm2 (subO_nil))), (sub_nil)⟩, ?_⟩
  refine fr_tail rfl<|st_st (i := 3) E H (wn rfl) rfl (us := z_api_Result) rfl rfl rfl rfl rfl sz51 rfl rfl fun w H=>nt<|fr_nil<|?_
  clear hI
  refine q_then<|wp_ret<|outR2 E rfl (rvT rfl) (rvBN (i := 3) (us := z_api_Result) H rfl rfl rfl Tryz.underlying51 rfl sz51)<|have H:=H.thaw (i := 0) rfl;have H:=H.nilSl kS;have H:=H.drop 0;have H:=H.drop 0;have H:=H.drop 0;have H:=H.drop 0;?_
  cases hm
  exact ⟨v24, (.slice none 0 0), rfl, H.reads (sub_cons mm1 (sub_cons m0 (fun r hr => (t2 hr))))⟩

def m_nodes_set (l2 : List S_api_Node) (x3 : Int) (x4 : S_api_Op) : Option ((List S_api_Node) × S_api_Result) :=
  (idx l2 x3).bind fun x8 => if (x8.Version == 281474976710656) = true then ((m_nodes_failed 2).bind fun u11 => some (l2, u11)) else ((ck (l2.length ≤ LIM)).bind fun u17 => (idx l2 x3).bind fun x19 => (idx (l2.set x3.toNat ({ x19 with Data := x4.Data } : S_api_Node)) x3).bind fun x24 => (idx (l2.set x3.toNat ({ x19 with Data := x4.Data } : S_api_Node)) x3).bind fun x29 => (idx ((l2.set x3.toNat ({ x19 with Data := x4.Data } : S_api_Node)).set x3.toNat ({ x29 with Version := IntKind.i64.wrap (x24.Version + 1) } : S_api_Node)) x3).bind fun x34 => some ((l2.set x3.toNat ({ x19 with Data := x4.Data } : S_api_Node)).set x3.toNat ({ x29 with Version := IntKind.i64.wrap (x24.Version + 1) } : S_api_Node), (⟨0, (ByteArray.mk #[]), (ByteArray.mk #[]), x34.Version, []⟩ : S_api_Result)))
theorem c_nodes_set {w : World} {Fo : List Ob} {rs : List Rp} (v1 : Value) (l2 : List S_api_Node) (x3 : Int) (x4 : S_api_Op) (H : Sep w (Fo) rs) (hr5 : rSl k_api_Node v1 l2 ∈ rs) {r : (List S_api_Node) × S_api_Result} (hm : m_nodes_set l2 x3 x4 = some r) :
    Calls Tryz.prog 63 [v1, .int .i64 x3, .agg (l_api_Op x4).toArray].toArray w (Ret fun v w' => ∃ (v5001 : Value) (v5004 : Value), .tuple #[v5001, .agg (l_api_Result r.2 v5004).toArray] = v ∧ Sep w' (Fo) (rSl k_api_Node v5001 r.1 :: rSl kS v5004 r.2.Names :: rs)) := by
 unfold m_nodes_set at hm
 refine enter Tryz.func63 rfl Tryz.ntmps63 rfl fun a E =>?_
 simp only [enum, Nat.reduceAdd] at E
 refine sq<|st_box E H (wn rfl) rfl rfl (cs := (l_api_Op x4)) rfl rfl rfl fun p6 w a H E=>pr 1 E rfl fun a E=>al E H rfl rfl rfl rfl zr51 fun p7 w a H E=>nt<|wp_seq<|sq<|pr 2 E rfl fun a E=>bd hm fun x8 hx9 hm=>?_
 refine st_ixS E H (wn rfl) rfl rfl rfl rfl rfl hr5 Tryz.underlying22 sz80 hx9 fun q10 a H E=>have H:=H.derive1 m0 (rAt (kI .i64) (q10.add 2) x8.Version) (fun ok h => k_api_Node_at2 h);pr 1 E rfl fun a E=>sv E rfl rfl rfl (x_ldA E H rfl rfl m0 Tryz.underlying2 rfl) fun a E=>pr 1 E rfl fun a E=>nt<|wif E hm rfl (fun hm=>?_) fun hm=>?_
 ·refine sq<|pr 1 E rfl fun a E=>bd hm fun u11 hx12 hm=>x_cl E rfl rfl rfl rfl rfl cf59 (c_nodes_failed 2 H hx12)<|?_
  rintro _ w ⟨v13, rfl, H⟩ a E
  refine pr 1 E rfl fun a E=>?_
  obtain ⟨q14, x15, rfl⟩ := H.slform m0
  refine st_st (i := 0) E H (wn rfl) rfl (us := (l_api_Result u11 (.slice q14 u11.Names.length x15))) rfl rfl rfl rfl rfl sz51 rfl rfl fun w H=>nt<|wp_ret<|q_thenR<|outR2 E rfl (rvT rfl) (rvBN (i := 0) (us := (l_api_Result u11 (.slice q14 u11.Names.length x15))) H rfl rfl rfl Tryz.underlying51 rfl sz51)<|have H:=H.drop 0;have H:=H.drop 0;?_
  cases hm
  exact ⟨v1, (.slice q14 u11.Names.length x15), rfl, H.reads (sub_cons (t3 hr5) (sub_cons m0 (fun r hr => (t3 hr))))⟩
 ·refine wp_skip<|q_then<|sq<|pr 1 E rfl fun a E=>bk hm fun hx18 hm=>st_call E (wn rfl) rfl rfl (x_call E rfl rfl (cf88 _)) (lib_slices_Clone_api_Node_api_Node_rd H (t2 hr5) hx18) fun v16 w H a E=>pr 1 E rfl fun a E=>nx<|pr 3 E rfl fun a E=>?_
  refine lb E H 2 rfl rfl rfl rfl rfl rfl rfl Tryz.underlying9 rfl fun a E=>bd hm fun x19 hx20 hm=>?_
  obtain ⟨p21, x22, hx23⟩ := H.rowformNE (i := 0) rfl hx20
  refine sv E rfl rfl rfl (x_ixRowV (d := k_api_Node) E hx23 rfl rfl rfl rfl Tryz.underlying22 sz80 hx20) fun a E=>pr 1 E rfl fun a E=>st_stRowV (d := k_api_Node) (i := 0) (k := 1) (z' := ({ x19 with Data := x4.Data } : S_api_Node)) E H k_api_Node_flat (wn rfl) rfl hx23 rfl rfl rfl rfl rfl rfl hx20 rfl rfl sz9 fun w H=>nx<|pr 2 E rfl fun a E=>bd hm fun x24 hx25 hm=>?_
  obtain ⟨p26, x27, hx28⟩ := H.rowformNE (i := 0) rfl hx25
  refine sv E rfl rfl rfl (x_ixRowV (d := k_api_Node) E hx28 rfl rfl rfl rfl Tryz.underlying22 sz80 hx25) fun a E=>pr 1 E rfl fun a E=>sv E rfl rfl rfl (x_ldRowV (d := k_api_Node) (i := 0) (k := 2) E H k_api_Node_flat hx28 rfl rfl rfl hx25 rfl Tryz.underlying2 rfl) fun a E=>pr 1 E rfl fun a E=>bd hm fun x29 hx30 hm=>?_
  obtain ⟨p31, x32, hx33⟩ := H.rowformNE (i := 0) rfl hx30
  refine sv E rfl rfl rfl (x_ixRowV (d := k_api_Node) E hx33 rfl rfl rfl rfl Tryz.underlying22 sz80 hx30) fun a E=>pr 1 E rfl fun a E=>st_stRowV (d := k_api_Node) (i := 0) (k := 2) (z' := ({ x29 with Version := IntKind.i64.wrap (x24.Version + 1) } : S_api_Node)) E H k_api_Node_flat (wn rfl) rfl hx33 rfl rfl rfl rfl rfl rfl hx30 rfl rfl sz2 fun w H=>nt<|wp_seq<|dw [(0, 0), (1, 0), (2, 0), (3, 0), (4, 0), (5, 0), (6, 0), (7, 1), (8, 2)] [0] [] H (by kernel_rfl) (fun _ _ _ h => False.elim h.2) fun w W0 hI H=>fn 3 E rfl fun a E=>bd hm fun x34 hx35 hm=>?_
  obtain ⟨p36, x37, hx38⟩ := H.rowformNE (i := 0) rfl hx35
  refine fr_val E rfl (wn rfl) rfl rfl (fun w hW=>x_ixRowV (d := k_api_Node) E hx38 rfl rfl rfl rfl Tryz.underlying22 sz80 hx35) fun a E=>?_
  refine fn 1 E rfl fun a E=>fr_val E rfl (wn rfl) rfl rfl (fun w hW=>x_ldRowI (d := k_api_Node) (k := 2) E k_api_Node_flat hx38 hx35 m0 rfl rfl rfl Tryz.underlying2 rfl hW) fun a E=>?_
  refine fr_val E rfl (wn rfl) rfl rfl (fun w hW=>(x_build E rfl (E.evs rfl) (v := .agg #[.int .i64 0, .string (ByteArray.mk #[]), .string (ByteArray.mk #[]), .int .i64 x34.Version, .slice none 0 0]) (by kernel_rfl))) fun a E=>?_
  refine fr_op rfl<|pr 1 E rfl fun a E=>nt<|?_
  refine ⟨⟨_, _, H, (subO_cons m0 (subO_nil)), (sub_nil)⟩, ?_⟩
  refine fr_tail rfl<|st_st (i := 1) E H (wn rfl) rfl (us := [.int .i64 0, .string (ByteArray.mk #[]), .string (ByteArray.mk #[]), .int .i64 x34.Version, .slice none 0 0]) rfl rfl rfl rfl rfl sz51 rfl rfl fun w H=>nt<|fr_nil<|?_
  clear hI
  refine q_then<|wp_ret<|outR2 E rfl (rvT rfl) (rvBN (i := 1) (us := [.int .i64 0, .string (ByteArray.mk #[]), .string (ByteArray.mk #[]), .int .i64 x34.Version, .slice none 0 0]) H rfl rfl rfl Tryz.underlying51 rfl sz51)<|have H:=H.thaw (i := 0) rfl;have H:=H.nilSl kS;have H:=H.drop 0;have H:=H.drop 0;?_
  cases hm
  exact ⟨v16, (.slice none 0 0), rfl, H.reads (sub_cons mm1 (sub_cons m0 (fun r hr => (t4 hr))))⟩

def m_nodes_sweep_1_j2 (b19 : Bool) (l23 : (List ByteArray)) : Option (Bool × (List ByteArray)) :=
  some (b19, l23)
def m_nodes_sweep_1_j1 (x1 : S_api_Node) (l17 : List ByteArray) (b19 : Bool) : Option (Bool × (List ByteArray)) :=
  if b19 = true then ((m_path_Last x1.Path).bind fun u26 => (ck (l17.length + ([u26] : List ByteArray).length ≤ LIM)).bind fun u30 => m_nodes_sweep_1_j2 b19 (l17 ++ ([u26] : List ByteArray))) else (m_nodes_sweep_1_j2 b19 l17)
def m_nodes_sweep_1 (x1 : S_api_Node) (x3 : Int) (s4 : ByteArray) (s5 : ByteArray) (x6 : Int) (x7 : Int) (b8 : Bool) (s10 : ByteArray) (x12 : Int) (s13 : ByteArray) (s14 : ByteArray) (x15 : Int) (l17 : List ByteArray) : Option (Bool × (List ByteArray)) :=
  if (x1.Owner == x7) = true then ((m_nodes_in x1 s10).bind fun u35 => m_nodes_sweep_1_j1 x1 l17 u35) else (m_nodes_sweep_1_j1 x1 l17 false)
theorem c_nodes_sweep_1 {w : World} {Fo : List Ob} {rs : List Rp} (x1 : S_api_Node) (p2 : Nat) (x3 : Int) (s4 : ByteArray) (s5 : ByteArray) (x6 : Int) (x7 : Int) (b8 : Bool) (p9 : Nat) (s10 : ByteArray) (p11 : Nat) (x12 : Int) (s13 : ByteArray) (s14 : ByteArray) (x15 : Int) (v16 : Value) (l17 : List ByteArray) (H : Sep w (Blk p2 55 [.int .i64 x3, .string s4, .string s5, .int .i64 x6, .int .i64 x7, .bool b8] :: Blk p9 9 [.string s10] :: Blk p11 51 [.int .i64 x12, .string s13, .string s14, .int .i64 x15, v16] :: Row 9 kS v16 l17 :: Fo) rs) {r : Bool × (List ByteArray)} (hm : m_nodes_sweep_1 x1 x3 s4 s5 x6 x7 b8 s10 x12 s13 s14 x15 l17 = some r) :
    Calls Tryz.prog 128 [.agg (l_api_Node x1).toArray, pt p2 0, pt p9 0, pt p11 0].toArray w (Ret fun v w' => ∃ (v5002 : Value), .bool r.1 = v ∧ Sep w' (Blk p2 55 [.int .i64 x3, .string s4, .string s5, .int .i64 x6, .int .i64 x7, .bool b8] :: Blk p9 9 [.string s10] :: Blk p11 51 [.int .i64 x12, .string s13, .string s14, .int .i64 x15, v5002] :: Row 9 kS v5002 r.2 :: Fo) (rs)) := by
 unfold m_nodes_sweep_1 at hm
 refine enter Tryz.func128 rfl Tryz.ntmps128 rfl fun a E =>?_
 simp only [enum, Nat.reduceAdd] at E
 refine sq<|st_box E H (wn rfl) rfl rfl (cs := (l_api_Node x1)) rfl rfl rfl fun p18 w a H E=>pr 1 E rfl fun a E=>nt<|wp_seq_cut (fun a w => ∃ (b19 : Bool) (rs20 : List Rp), Env 27 a [(3, pt p11 0), (4, pt p18 0), (6, .bool b19)] ∧ Sep w (Blk p11 51 [.int .i64 x12, .string s13, .string s14, .int .i64 x15, v16] :: Blk p18 80 (l_api_Node x1) :: Blk p2 55 [.int .i64 x3, .string s4, .string s5, .int .i64 x6, .int .i64 x7, .bool b8] :: Blk p9 9 [.string s10] :: Row 9 kS v16 l17 :: Fo) rs20 ∧ (∀ r, r ∈ rs → r ∈ rs20) ∧ m_nodes_sweep_1_j1 x1 l17 b19 = some r) ?_ ?_
 ·refine wp_region_lit<|pr 1 E rfl fun a E=>lb E H 0 rfl rfl rfl rfl rfl rfl rfl Tryz.underlying2 rfl fun a E=>pr 1 E rfl fun a E=>lb E H 1 rfl rfl rfl rfl rfl rfl rfl Tryz.underlying2 rfl fun a E=>pr 2 E rfl fun a E=>cs hm (fun hb34 hm=>?_) fun hb34 hm=>?_
  ·refine st_val E (ws' (d := 12) E rfl rfl rfl rfl hb34) rfl rfl (x_ldBN (i := 0) (us := (l_api_Node x1)) E H rfl rfl rfl rfl Tryz.underlying80 rfl sz80) fun a E=>st_val E (ws' (d := 12) E rfl rfl rfl rfl hb34) rfl rfl (x_ldB (i := 2) E H rfl rfl rfl rfl Tryz.underlying9 rfl) fun a E=>bd hm fun u35 hx36 hm=>st_call E (ws' (d := 12) E rfl rfl rfl rfl hb34) rfl rfl (x_call E rfl rfl (cf125 _)) (c_nodes_in x1 s10 H hx36)<|?_
   rintro _ w ⟨rfl, H⟩ a E
   exact pk 2 E (kc 12 rfl hb34) rfl fun a E=>nt<|have H:=H.front 4 rfl;have H:=H.front 3 rfl;have H:=H.front 3 rfl;have H:=H.front 3 rfl;have H:=H.front 4 rfl;⟨u35, _, E.sel [3, 4, 6] rfl, H, fun r hr => hr, hm⟩
  ·exact pk 5 E (kc 12 rfl hb34) rfl fun a E=>nt<|have H:=H.front 4 rfl;have H:=H.front 3 rfl;have H:=H.front 3 rfl;have H:=H.front 3 rfl;have H:=H.front 4 rfl;⟨false, _, E.sel [3, 4, 6] rfl, H, fun r hr => hr, hm⟩
 ·clear E H hm
  rintro a w ⟨b19, rs20, E, H, hs21, hm⟩
  unfold m_nodes_sweep_1_j1 at hm
  refine wp_seq_cut (fun a w => ∃ (v22 : Value) (l23 : (List ByteArray)) (rs24 : List Rp), Env 27 a [(6, .bool b19)] ∧ Sep w (Blk p2 55 [.int .i64 x3, .string s4, .string s5, .int .i64 x6, .int .i64 x7, .bool b8] :: Blk p9 9 [.string s10] :: Blk p11 51 [.int .i64 x12, .string s13, .string s14, .int .i64 x15, v22] :: Row 9 kS v22 l23 :: Fo) rs24 ∧ (∀ r, r ∈ rs → r ∈ rs24) ∧ m_nodes_sweep_1_j2 b19 l23 = some r) ?_ ?_
  ·refine sq<|pr 1 E rfl fun a E=>nt<|wif E hm rfl (fun hm=>?_) fun hm=>?_
   ·refine dw [(0, 0), (1, 0), (2, 0), (3, 0), (4, 1), (5, 1), (6, 1), (7, 2), (8, 2)] [0, 1] [] H (by kernel_rfl) (fun _ _ _ h => False.elim h.2) fun w W0 hI H=>fn 1 E rfl fun a E=>fb E rfl (wn rfl) rfl rfl rfl rfl m0 rfl Tryz.underlying49 rfl fun a E=>fn 1 E rfl fun a E=>fb E rfl (wn rfl) rfl rfl rfl rfl mm1 rfl Tryz.underlying9 rfl fun a E=>fr_op rfl<|bd hm fun u26 hx27 hm=>x_cl E rfl rfl rfl rfl rfl cf119 (c_path_Last x1.Path H hx27)<|?_
    rintro _ w ⟨rfl, H⟩ a E
    refine nt<|?_
    refine ⟨⟨_, _, H, (subO_cons m0 (subO_cons mm1 (subO_nil))), (sub_nil)⟩, ?_⟩
    refine fr_op rfl<|st_bsR (e := 9) (d := kS) (cs := [.string u26]) (xs := [u26]) E H (wn rfl) rfl rfl rfl (E.evs rfl) (by kernel_rfl) rfl (fun ok hr => (Rows.single (d := kS) (cs := [.string u26]) (x := u26) rfl)) fun v28 w a H E=>nt<|?_
    refine ⟨⟨_, _, H, (subO_cons m0 (subO_cons mm1 (subO_nil))), (sub_nil)⟩, ?_⟩
    refine fr_op rfl<|bk hm fun hx31 hm=>st_append (i := 4) E H (wn rfl) rfl rfl rfl rfl rfl rfl (src_rd m0) Tryz.underlying49 inf9 rfl hx31 rfl fun v29 w a H E=>nt<|?_
    refine ⟨⟨_, _, H, (subO_cons m0 (subO_cons mm1 (subO_nil))), (sub_nil)⟩, ?_⟩
    refine fr_tail rfl<|pr 1 E rfl fun a E=>nt<|fr_tail rfl<|?_
    obtain ⟨q32, x33, rfl⟩ := H.rowform (i := 4) rfl
    refine st_st (i := 0) E H (wn rfl) rfl (us := [(.slice q32 (l17 ++ ([u26] : List ByteArray)).length x33)]) rfl rfl rfl rfl rfl sz49 rfl rfl fun w H=>nt<|fr_nil<|?_
    clear hI
    exact q_then<|have H:=H.drop 1;have H:=H.front 3 rfl;have H:=H.front 1 rfl;have H:=H.front 3 rfl;have H:=H.front 3 rfl;⟨(.slice q32 (l17 ++ ([u26] : List ByteArray)).length x33), l17 ++ ([u26] : List ByteArray), _, E.sel [6] rfl, H, fun r hr => (t1 (hs21 r hr)), hm⟩
   ·exact wp_skip<|q_then<|have H:=H.drop 1;have H:=H.front 3 rfl;have H:=H.front 1 rfl;have H:=H.front 3 rfl;have H:=H.front 3 rfl;⟨v16, l17, _, E.sel [6] rfl, H, hs21, hm⟩
  ·clear E H hm
   rintro a w ⟨v22, l23, rs24, E, H, hs25, hm⟩
   unfold m_nodes_sweep_1_j2 at hm
   refine sq<|pr 2 E rfl fun a E=>nt<|wp_ret<|out1 E rfl rfl<|?_
   cases hm
   exact ⟨v22, rfl, H.reads (hs25)⟩

def m_slices_IndexFunc_api_Node_api_Node_l1 (l2 : List S_api_Node) (x4 : Int) (s5 : ByteArray) (s6 : ByteArray) (x7 : Int) (x8 : Int) (b9 : Bool) (s11 : ByteArray) (x13 : Int) (s14 : ByteArray) (s15 : ByteArray) (x16 : Int) : Nat → Int → (List ByteArray) → Option (Int × (List ByteArray))
  | 0, _, _ => none
  | k1 + 1, x19, l21 =>
    if (decide (x19 < (l2.length : Int))) = true then ((idx l2 x19).bind fun x24 => (m_nodes_sweep_1 x24 x4 s5 s6 x7 x8 b9 s11 x13 s14 s15 x16 l21).bind fun u29 => if u29.1 = true then (some (x19, u29.2)) else (m_slices_IndexFunc_api_Node_api_Node_l1 l2 x4 s5 s6 x7 x8 b9 s11 x13 s14 s15 x16 k1 (IntKind.i64.wrap (x19 + 1)) u29.2)) else (some ((-1), l21))
def m_slices_IndexFunc_api_Node_api_Node (l2 : List S_api_Node) (x4 : Int) (s5 : ByteArray) (s6 : ByteArray) (x7 : Int) (x8 : Int) (b9 : Bool) (s11 : ByteArray) (x13 : Int) (s14 : ByteArray) (s15 : ByteArray) (x16 : Int) (l18 : List ByteArray) : Option (Int × (List ByteArray)) :=
  m_slices_IndexFunc_api_Node_api_Node_l1 l2 x4 s5 s6 x7 x8 b9 s11 x13 s14 s15 x16 (((l2.length : Int) - 0 : Int).toNat + 1) 0 l18
theorem c_slices_IndexFunc_api_Node_api_Node {w : World} {Fo : List Ob} {rs : List Rp} (v1 : Value) (l2 : List S_api_Node) (p3 : Nat) (x4 : Int) (s5 : ByteArray) (s6 : ByteArray) (x7 : Int) (x8 : Int) (b9 : Bool) (p10 : Nat) (s11 : ByteArray) (p12 : Nat) (x13 : Int) (s14 : ByteArray) (s15 : ByteArray) (x16 : Int) (v17 : Value) (l18 : List ByteArray) (H : Sep w (Row 80 k_api_Node v1 l2 :: Blk p3 55 [.int .i64 x4, .string s5, .string s6, .int .i64 x7, .int .i64 x8, .bool b9] :: Blk p10 9 [.string s11] :: Blk p12 51 [.int .i64 x13, .string s14, .string s15, .int .i64 x16, v17] :: Row 9 kS v17 l18 :: Fo) rs) {r : Int × (List ByteArray)} (hm : m_slices_IndexFunc_api_Node_api_Node l2 x4 s5 s6 x7 x8 b9 s11 x13 s14 s15 x16 l18 = some r) :
    Calls Tryz.prog 143 [v1, .func (.func 128) #[] #[pt p3 0, pt p10 0, pt p12 0]].toArray w (Ret fun v w' => ∃ (v5002 : Value), .int .i64 r.1 = v ∧ Sep w' (Blk p3 55 [.int .i64 x4, .string s5, .string s6, .int .i64 x7, .int .i64 x8, .bool b9] :: Blk p10 9 [.string s11] :: Blk p12 51 [.int .i64 x13, .string s14, .string s15, .int .i64 x16, v5002] :: Row 80 k_api_Node v1 l2 :: Row 9 kS v5002 r.2 :: Fo) (rs)) := by
 unfold m_slices_IndexFunc_api_Node_api_Node at hm
 refine enter Tryz.func143 rfl Tryz.ntmps143 rfl fun a E =>?_
 simp only [enum, Nat.reduceAdd] at E
 refine sq<|pr 1 E rfl fun a E=>nt<|wp_seq<|sq<|pr 1 E rfl fun a E=>sv E rfl rfl rfl (x_lenR (i := 0) E H rfl rfl rfl Tryz.underlying22) fun a E=>pr 1 E rfl fun a E=>nt<|?_
 refine wp_block<|wp_loop_g (fun k1 a w => ∃ (v20 : Value) (x19 : Int) (l21 : (List ByteArray)) (rs22 : List Rp), Env 19 a [(0, v1), (1, .func (.func 128) #[] #[pt p3 0, pt p10 0, pt p12 0]), (7, .int .i64 (l2.length : Int)), (8, .int .i64 x19)] ∧ Sep w (Row 80 k_api_Node v1 l2 :: Blk p3 55 [.int .i64 x4, .string s5, .string s6, .int .i64 x7, .int .i64 x8, .bool b9] :: Blk p10 9 [.string s11] :: Blk p12 51 [.int .i64 x13, .string s14, .string s15, .int .i64 x16, v20] :: Row 9 kS v20 l21 :: Fo) rs22 ∧ (∀ r, r ∈ rs → r ∈ rs22) ∧ m_slices_IndexFunc_api_Node_api_Node_l1 l2 x4 s5 s6 x7 x8 b9 s11 x13 s14 s15 x16 k1 x19 l21 = some r) (((l2.length : Int) - 0 : Int).toNat + 1) ?_ ?_
 ·exact ⟨v17, 0, l18, _, E.sel [0, 1, 7, 8] rfl, H, fun r hr => hr, hm⟩
 ·clear E H hm
  rintro k1 a w ⟨v20, x19, l21, rs22, E, H, hs23, hm⟩
  cases k1 with
  | zero => exact (none_some hm rfl).elim
  | succ k1 =>
   unfold m_slices_IndexFunc_api_Node_api_Node_l1 at hm
   refine sq<|pr 1 E rfl fun a E=>nt<|wp_seq<|wif E hm rfl (fun hm=>?_) fun hm=>?_
   ·refine wp_skip<|q_then<|wp_seq<|wp_block<|sq<|pr 2 E rfl fun a E=>nx<|pr 3 E rfl fun a E=>bd hm fun x24 hx25 hm=>?_
    obtain ⟨p26, x27, hx28⟩ := H.rowformNE (i := 0) rfl hx25
    refine sv E rfl rfl rfl (x_ixRowV (d := k_api_Node) E hx28 rfl rfl rfl rfl Tryz.underlying22 sz80 hx25) fun a E=>sv E rfl rfl rfl (x_ldRowNV (i := 0) E H k_api_Node_flat hx28 rfl rfl rfl hx25 (us := [.string x24.Path, .string x24.Data, .int .i64 x24.Version, .int .i64 x24.Turn, .int .i64 x24.Owner]) rfl Tryz.underlying80 rfl sz80) fun a E=>have H:=H.front 0 rfl;have H:=H.front 4 rfl;have H:=H.front 4 rfl;have H:=H.front 4 rfl;have H:=H.front 4 rfl;bd hm fun u29 hx30 hm=>st_call E (wn rfl) rfl rfl (x_callv E rfl rfl rfl (cf128 _)) (c_nodes_sweep_1 x24 p3 x4 s5 s6 x7 x8 b9 p10 s11 p12 x13 s14 s15 x16 v20 l21 H hx30)<|?_
    rintro _ w ⟨v31, rfl, H⟩ a E
    refine nt<|wif E hm rfl (fun hm=>?_) fun hm=>?_
    ·refine sq<|pr 2 E rfl fun a E=>nt<|wp_ret<|q_blkR<|q_thenR<|q_thenR<|q_blkR<|q_thenR<|?_
     refine out1 E rfl rfl<|have H:=H.front 3 rfl;have H:=H.front 4 rfl;have H:=H.front 4 rfl;have H:=H.front 4 rfl;have H:=H.front 4 rfl;?_
     cases hm
     exact ⟨v31, rfl, H.reads (hs23)⟩
    ·refine wp_skip<|q_blk<|q_then<|wp_region_lit<|pr 2 E rfl fun a E=>nt<|have H:=H.front 3 rfl;have H:=H.front 3 rfl;have H:=H.front 3 rfl;?_
     exact have H:=H.front 3 rfl;have H:=H.front 4 rfl;⟨k1, Nat.lt_succ_self k1, v31, IntKind.i64.wrap (x19 + 1), u29.2, _, E.sel [0, 1, 7, 8] rfl, H, hs23, hm⟩
   ·refine wp_exit<|q_thenX<|q_thenX<|q_hit<|q_then<|sq<|pr 1 E rfl fun a E=>nt<|wp_ret<|?_
    refine out1 E rfl rfl<|have H:=H.front 4 rfl;have H:=H.front 1 rfl;have H:=H.front 4 rfl;have H:=H.front 4 rfl;have H:=H.front 4 rfl;?_
    cases hm
    exact ⟨v20, rfl, H.reads (hs23)⟩

def m_slices_DeleteFunc_api_Node_api_Node_j1 (rec_1 : (List S_api_Node) → Int → Int → (List ByteArray) → Option ((List S_api_Node) × (List ByteArray))) (x24 : Int) (l29 : (List S_api_Node)) (x30 : Int) (l32 : (List ByteArray)) : Option ((List S_api_Node) × (List ByteArray)) :=
  rec_1 l29 x30 (IntKind.i64.wrap (x24 + 1)) l32
def m_slices_DeleteFunc_api_Node_api_Node_l1 (x4 : Int) (s5 : ByteArray) (s6 : ByteArray) (x7 : Int) (x8 : Int) (b9 : Bool) (s11 : ByteArray) (x13 : Int) (s14 : ByteArray) (s15 : ByteArray) (x16 : Int) : Nat → (List S_api_Node) → Int → Int → (List ByteArray) → Option ((List S_api_Node) × (List ByteArray))
  | 0, _, _, _, _ => none
  | k1 + 1, l22, x23, x24, l26 =>
    if (decide (x24 < (l22.length : Int))) = true then ((idx l22 x24).bind fun x35 => (m_nodes_sweep_1 x35 x4 s5 s6 x7 x8 b9 s11 x13 s14 s15 x16 l26).bind fun u41 => if (!u41.1) = true then ((idx l22 x23).bind fun x44 => m_slices_DeleteFunc_api_Node_api_Node_j1 (m_slices_DeleteFunc_api_Node_api_Node_l1 x4 s5 s6 x7 x8 b9 s11 x13 s14 s15 x16 k1) x24 (l22.set x23.toNat x35) (IntKind.i64.wrap (x23 + 1)) u41.2) else (m_slices_DeleteFunc_api_Node_api_Node_j1 (m_slices_DeleteFunc_api_Node_api_Node_l1 x4 s5 s6 x7 x8 b9 s11 x13 s14 s15 x16 k1) x24 l22 x23 u41.2)) else ((ck (0 ≤ x23 ∧ x23 ≤ l22.length)).bind fun u49 => (ck (0 ≤ x23 ∧ x23 ≤ (l22.take x23.toNat ++ List.replicate (l22.length - x23.toNat) (⟨⟨#[]⟩, ⟨#[]⟩, 0, 0, 0⟩ : S_api_Node)).length)).bind fun u51 => some ((l22.take x23.toNat ++ List.replicate (l22.length - x23.toNat) (⟨⟨#[]⟩, ⟨#[]⟩, 0, 0, 0⟩ : S_api_Node)).take x23.toNat, l26))
def m_slices_DeleteFunc_api_Node_api_Node (l2 : List S_api_Node) (x4 : Int) (s5 : ByteArray) (s6 : ByteArray) (x7 : Int) (x8 : Int) (b9 : Bool) (s11 : ByteArray) (x13 : Int) (s14 : ByteArray) (s15 : ByteArray) (x16 : Int) (l18 : List ByteArray) : Option ((List S_api_Node) × (List ByteArray)) :=
  (m_slices_IndexFunc_api_Node_api_Node l2 x4 s5 s6 x7 x8 b9 s11 x13 s14 s15 x16 l18).bind fun u19 => if (u19.1 == (-1)) = true then (some (l2, u19.2)) else (m_slices_DeleteFunc_api_Node_api_Node_l1 x4 s5 s6 x7 x8 b9 s11 x13 s14 s15 x16 (((l2.length : Int) - (IntKind.i64.wrap (u19.1 + 1)) : Int).toNat + 1) l2 u19.1 (IntKind.i64.wrap (u19.1 + 1)) u19.2)
theorem c_slices_DeleteFunc_api_Node_api_Node {w : World} {Fo : List Ob} {rs : List Rp} (v1 : Value) (l2 : List S_api_Node) (p3 : Nat) (x4 : Int) (s5 : ByteArray) (s6 : ByteArray) (x7 : Int) (x8 : Int) (b9 : Bool) (p10 : Nat) (s11 : ByteArray) (p12 : Nat) (x13 : Int) (s14 : ByteArray) (s15 : ByteArray) (x16 : Int) (v17 : Value) (l18 : List ByteArray) (H : Sep w (Row 80 k_api_Node v1 l2 :: Blk p3 55 [.int .i64 x4, .string s5, .string s6, .int .i64 x7, .int .i64 x8, .bool b9] :: Blk p10 9 [.string s11] :: Blk p12 51 [.int .i64 x13, .string s14, .string s15, .int .i64 x16, v17] :: Row 9 kS v17 l18 :: Fo) rs) {r : (List S_api_Node) × (List ByteArray)} (hm : m_slices_DeleteFunc_api_Node_api_Node l2 x4 s5 s6 x7 x8 b9 s11 x13 s14 s15 x16 l18 = some r) :
    Calls Tryz.prog 127 [v1, .func (.func 128) #[] #[pt p3 0, pt p10 0, pt p12 0]].toArray w (Ret fun v w' => ∃ (v5001 : Value) (v5003 : Value), v5001 = v ∧ Sep w' (Row 80 k_api_Node v5001 r.1 :: Blk p3 55 [.int .i64 x4, .string s5, .string s6, .int .i64 x7, .int .i64 x8, .bool b9] :: Blk p10 9 [.string s11] :: Blk p12 51 [.int .i64 x13, .string s14, .string s15, .int .i64 x16, v5003] :: Row 9 kS v5003 r.2 :: Fo) (rs)) := by
 unfold m_slices_DeleteFunc_api_Node_api_Node at hm
 refine enter Tryz.func127 rfl Tryz.ntmps127 rfl fun a E =>?_
 simp only [enum, Nat.reduceAdd] at E
 refine sq<|pr 1 E rfl fun a E=>nx<|pr 2 E rfl fun a E=>bd hm fun u19 hx20 hm=>x_cl E rfl rfl rfl rfl rfl cf143 (c_slices_IndexFunc_api_Node_api_Node v1 l2 p3 x4 s5 s6 x7 x8 b9 p10 s11 p12 x13 s14 s15 x16 v17 l18 H hx20)<|?_
 rintro _ w ⟨v21, rfl, H⟩ a E
 refine pr 1 E rfl fun a E=>nt<|wp_seq<|sq<|pr 2 E rfl fun a E=>nt<|wif E hm rfl (fun hm=>?_) fun hm=>?_
 ·refine sq<|pr 2 E rfl fun a E=>nt<|wp_ret<|q_thenR<|out1 E rfl rfl<|have H:=H.front 4 rfl;have H:=H.front 3 rfl;have H:=H.front 3 rfl;?_
  refine have H:=H.front 3 rfl;have H:=H.front 4 rfl;?_
  cases hm
  exact ⟨v1, v21, rfl, H.reads (fun r hr => hr)⟩
 ·refine wp_skip<|q_then<|wp_seq<|sq<|pr 3 E rfl fun a E=>nt<|wp_block<|wp_loop_g (fun k1 a w => ∃ (v25 : Value) (l22 : (List S_api_Node)) (x23 : Int) (x24 : Int) (l26 : (List ByteArray)) (rs27 : List Rp), Env 42 a [(0, v1), (1, .func (.func 128) #[] #[pt p3 0, pt p10 0, pt p12 0]), (5, .int .i64 x23), (6, .int .i64 x24)] ∧ Sep w (Row 80 k_api_Node v1 l22 :: Blk p3 55 [.int .i64 x4, .string s5, .string s6, .int .i64 x7, .int .i64 x8, .bool b9] :: Blk p10 9 [.string s11] :: Blk p12 51 [.int .i64 x13, .string s14, .string s15, .int .i64 x16, v25] :: Row 9 kS v25 l26 :: Fo) rs27 ∧ (∀ r, r ∈ rs → r ∈ rs27) ∧ m_slices_DeleteFunc_api_Node_api_Node_l1 x4 s5 s6 x7 x8 b9 s11 x13 s14 s15 x16 k1 l22 x23 x24 l26 = some r) (((l2.length : Int) - (IntKind.i64.wrap (u19.1 + 1)) : Int).toNat + 1) ?_ ?_
  ·exact have H:=H.front 4 rfl;have H:=H.front 3 rfl;have H:=H.front 3 rfl;have H:=H.front 3 rfl;have H:=H.front 4 rfl;⟨v21, l2, u19.1, IntKind.i64.wrap (u19.1 + 1), u19.2, _, E.sel [0, 1, 5, 6] rfl, H, fun r hr => hr, hm⟩
  ·clear E H hm
   rintro k1 a w ⟨v25, l22, x23, x24, l26, rs27, E, H, hs28, hm⟩
   cases k1 with
   | zero => exact (none_some hm rfl).elim
   | succ k1 =>
    unfold m_slices_DeleteFunc_api_Node_api_Node_l1 at hm
    refine wp_seq<|sq<|pr 2 E rfl fun a E=>sv E rfl rfl rfl (x_lenR (i := 0) E H rfl rfl rfl Tryz.underlying22) fun a E=>pr 1 E rfl fun a E=>nt<|wif E hm rfl (fun hm=>?_) fun hm=>?_
    ·refine wp_skip<|q_then<|wp_seq_cut (fun a w => ∃ (v31 : Value) (l29 : (List S_api_Node)) (x30 : Int) (l32 : (List ByteArray)) (rs33 : List Rp), Env 42 a [(0, v1), (1, .func (.func 128) #[] #[pt p3 0, pt p10 0, pt p12 0]), (5, .int .i64 x30), (6, .int .i64 x24)] ∧ Sep w (Row 80 k_api_Node v1 l29 :: Blk p3 55 [.int .i64 x4, .string s5, .string s6, .int .i64 x7, .int .i64 x8, .bool b9] :: Blk p10 9 [.string s11] :: Blk p12 51 [.int .i64 x13, .string s14, .string s15, .int .i64 x16, v31] :: Row 9 kS v31 l32 :: Fo) rs33 ∧ (∀ r, r ∈ rs → r ∈ rs33) ∧ m_slices_DeleteFunc_api_Node_api_Node_j1 (m_slices_DeleteFunc_api_Node_api_Node_l1 x4 s5 s6 x7 x8 b9 s11 x13 s14 s15 x16 k1) x24 l29 x30 l32 = some r) ?_ ?_
     ·refine wp_block<|sq<|pr 2 E rfl fun a E=>bd hm fun x35 hx36 hm=>?_
      obtain ⟨p37, x38, hx39⟩ := H.rowformNE (i := 0) rfl hx36
      refine sv E rfl rfl rfl (x_ixRowV (d := k_api_Node) E hx39 rfl rfl rfl rfl Tryz.underlying22 sz80 hx36) fun a E=>sv E rfl rfl rfl (x_ldRowNV (i := 0) E H k_api_Node_flat hx39 rfl rfl rfl hx36 (us := [.string x35.Path, .string x35.Data, .int .i64 x35.Version, .int .i64 x35.Turn, .int .i64 x35.Owner]) rfl Tryz.underlying80 rfl sz80) fun a E=>al E H rfl rfl rfl rfl zr80 fun p40 w a H E=>st_st (i := 0) E H (wn rfl) rfl (us := (l_api_Node x35)) rfl rfl rfl rfl rfl sz80 rfl rfl fun w H=>nx<|pr 1 E rfl fun a E=>sv E rfl rfl rfl (x_ldBN (i := 0) (us := (l_api_Node x35)) E H rfl rfl rfl rfl Tryz.underlying80 rfl sz80) fun a E=>have H:=H.front 1 rfl;have H:=H.front 1 rfl;?_
      refine have H:=H.front 5 rfl;have H:=H.front 5 rfl;have H:=H.front 5 rfl;have H:=H.front 5 rfl;bd hm fun u41 hx42 hm=>st_call E (wn rfl) rfl rfl (x_callv E rfl rfl rfl (cf128 _)) (c_nodes_sweep_1 x35 p3 x4 s5 s6 x7 x8 b9 p10 s11 p12 x13 s14 s15 x16 v25 l26 H hx42)<|?_
      rintro _ w ⟨v43, rfl, H⟩ a E
      refine pr 1 E rfl fun a E=>nt<|wif E hm rfl (fun hm=>?_) fun hm=>?_
      ·refine sq<|pr 2 E rfl fun a E=>sv E rfl rfl rfl (x_ldBN (i := 4) (us := (l_api_Node x35)) E H rfl rfl rfl rfl Tryz.underlying80 rfl sz80) fun a E=>bd hm fun x44 hx45 hm=>?_
       obtain ⟨p46, x47, hx48⟩ := H.rowformNE (i := 5) rfl hx45
       refine sv E rfl rfl rfl (x_ixRowV (d := k_api_Node) E hx48 rfl rfl rfl rfl Tryz.underlying22 sz80 hx45) fun a E=>st_stRowNV (d := k_api_Node) (i := 5) (us := [.string x35.Path, .string x35.Data, .int .i64 x35.Version, .int .i64 x35.Turn, .int .i64 x35.Owner]) (z' := x35) E H k_api_Node_flat (wn rfl) rfl hx48 rfl rfl rfl rfl rfl rfl rfl hx45 sz80 fun w H=>nt<|wp_region_lit<|pr 3 E rfl fun a E=>wpList_nil<|q_blk<|q_then<|have H:=H.drop 4;?_
       exact have H:=H.front 3 rfl;have H:=H.front 3 rfl;have H:=H.front 3 rfl;have H:=H.front 3 rfl;have H:=H.front 4 rfl;⟨v43, l22.set x23.toNat x35, IntKind.i64.wrap (x23 + 1), u41.2, _, E.sel [0, 1, 5, 6] rfl, H, hs28, hm⟩
      ·exact wp_skip<|q_blk<|q_then<|have H:=H.drop 4;have H:=H.front 3 rfl;have H:=H.front 3 rfl;have H:=H.front 3 rfl;have H:=H.front 3 rfl;have H:=H.front 4 rfl;⟨v43, l22, x23, u41.2, _, E.sel [0, 1, 5, 6] rfl, H, hs28, hm⟩
     ·clear E H hm
      rintro a w ⟨v31, l29, x30, l32, rs33, E, H, hs34, hm⟩
      unfold m_slices_DeleteFunc_api_Node_api_Node_j1 at hm
      exact wp_region_lit<|pr 3 E rfl fun a E=>nt<|⟨k1, Nat.lt_succ_self k1, v31, l29, x30, IntKind.i64.wrap (x24 + 1), l32, _, E.sel [0, 1, 5, 6] rfl, H, hs34, hm⟩
    ·refine wp_exit<|q_thenX<|q_thenX<|q_hit<|q_then<|sq<|pr 2 E rfl fun a E=>bk hm fun hx50 hm=>sv E rfl rfl rfl (x_subRow (d := k_api_Node) (i := 0) E H rfl rfl rfl rfl Tryz.underlying22 sz80 hx50) fun a E=>?_
     refine st_clearRow (i := 0) (z0 := (⟨⟨#[]⟩, ⟨#[]⟩, 0, 0, 0⟩ : S_api_Node)) E H k_api_Node_flat (wn rfl) rfl rfl rfl Tryz.underlying22 zrw80 rfl rfl rfl hx50 fun w H=>nx<|pr 2 E rfl fun a E=>bk hm fun hx52 hm=>st_cutRow (i := 0) E H k_api_Node_flat (wn rfl) rfl rfl rfl rfl rfl rfl Tryz.underlying22 sz80 hx52 fun v53 a H E=>pr 1 E rfl fun a E=>nt<|wp_ret<|out1 E rfl rfl<|?_
     cases hm
     exact ⟨v53, v25, rfl, H.reads (hs28)⟩

def m_nodes_sweep (l2 : List S_api_Node) (x3 : Int) (x4 : S_api_Op) : Option ((List S_api_Node) × S_api_Result) :=
  (idx l2 x3).bind fun x9 => (ck (l2.length ≤ LIM)).bind fun u14 => (m_slices_DeleteFunc_api_Node_api_Node l2 x4.Kind x4.Path x4.Data x4.Version x4.Owner x4.Turns x9.Path 0 (ByteArray.mk #[]) (ByteArray.mk #[]) 0 []).bind fun u16 => some (u16.1, (⟨0, (ByteArray.mk #[]), (ByteArray.mk #[]), 0, u16.2⟩ : S_api_Result))
theorem c_nodes_sweep {w : World} {Fo : List Ob} {rs : List Rp} (v1 : Value) (l2 : List S_api_Node) (x3 : Int) (x4 : S_api_Op) (H : Sep w (Fo) rs) (hr5 : rSl k_api_Node v1 l2 ∈ rs) {r : (List S_api_Node) × S_api_Result} (hm : m_nodes_sweep l2 x3 x4 = some r) :
    Calls Tryz.prog 67 [v1, .int .i64 x3, .agg (l_api_Op x4).toArray].toArray w (Ret fun v w' => ∃ (v5001 : Value) (v5004 : Value), .tuple #[v5001, .agg (l_api_Result r.2 v5004).toArray] = v ∧ Sep w' (Row 80 k_api_Node v5001 r.1 :: Fo) (rSl kS v5004 r.2.Names :: rs)) := by
 unfold m_nodes_sweep at hm
 refine enter Tryz.func67 rfl Tryz.ntmps67 rfl fun a E =>?_
 simp only [enum, Nat.reduceAdd] at E
 refine sq<|st_box E H (wn rfl) rfl rfl (cs := (l_api_Op x4)) rfl rfl rfl fun p6 w a H E=>pr 1 E rfl fun a E=>al E H rfl rfl rfl rfl zr51 fun p7 w a H E=>nx<|al E H rfl rfl rfl rfl zr51 fun p8 w a H E=>nx<|pr 2 E rfl fun a E=>bd hm fun x9 hx10 hm=>?_
 refine st_ixS E H (wn rfl) rfl rfl rfl rfl rfl hr5 Tryz.underlying22 sz80 hx10 fun q11 a H E=>have H:=H.derive1 m0 (rAt kS (q11.add 0) x9.Path) (fun ok h => k_api_Node_at0 h);pr 1 E rfl fun a E=>sv E rfl rfl rfl (x_ldA E H rfl rfl m0 Tryz.underlying9 rfl) fun a E=>al1 E H rfl rfl rfl rfl zr9 rfl fun p12 w a H E=>st_st (i := 0) E H (wn rfl) rfl (us := [.string x9.Path]) rfl rfl rfl rfl rfl sz9 rfl rfl fun w H=>nx<|pr 1 E rfl fun a E=>bk hm fun hx15 hm=>?_
 refine st_call E (wn rfl) rfl rfl (x_call E rfl rfl (cf88 _)) (lib_slices_Clone_api_Node_api_Node_rd H (t2 hr5) hx15) fun v13 w H a E=>sv E rfl rfl rfl (x_func E rfl rfl rfl) fun a E=>have H:=H.nilRow 9 kS;have H:=H.front 4 rfl;have H:=H.front 1 rfl;have H:=H.front 4 rfl;have H:=H.front 4 rfl;have H:=H.front 5 rfl;have H:=H.front 5 rfl;?_
 refine bd hm fun u16 hx17 hm=>x_cl E rfl rfl rfl rfl rfl cf127 (c_slices_DeleteFunc_api_Node_api_Node v13 l2 p6 x4.Kind x4.Path x4.Data x4.Version x4.Owner x4.Turns p12 x9.Path p8 0 (ByteArray.mk #[]) (ByteArray.mk #[]) 0 (.slice none 0 0) [] H hx17)<|?_
 rintro _ w ⟨v18, v19, rfl, H⟩ a E
 refine pr 1 E rfl fun a E=>nt<|wp_seq<|dw [(0, 0), (1, 0), (2, 1), (3, 2)] [3] [] H (by kernel_rfl) (fun _ _ _ h => False.elim h.2) fun w W0 hI H=>fn 1 E rfl fun a E=>fbn E [.int .i64 0, .string (ByteArray.mk #[]), .string (ByteArray.mk #[]), .int .i64 0, v19] rfl (wn rfl) rfl rfl rfl rfl m0 rfl Tryz.underlying51 rfl sz51 fun a E=>fr_op rfl<|pr 1 E rfl fun a E=>nt<|?_
 refine ⟨⟨_, _, H, (subO_cons mm3 (subO_nil)), (sub_nil)⟩, ?_⟩
 refine fr_tail rfl<|?_
 obtain ⟨q20, x21, rfl⟩ := H.rowform (i := 4) rfl
 refine st_st (i := 5) E H (wn rfl) rfl (us := [.int .i64 0, .string (ByteArray.mk #[]), .string (ByteArray.mk #[]), .int .i64 0, (.slice q20 u16.2.length x21)]) rfl rfl rfl rfl rfl sz51 rfl rfl fun w H=>nt<|fr_nil<|?_
 clear hI
 refine q_then<|wp_ret<|outR2 E rfl (rvT rfl) (rvBN (i := 5) (us := [.int .i64 0, .string (ByteArray.mk #[]), .string (ByteArray.mk #[]), .int .i64 0, (.slice q20 u16.2.length x21)]) H rfl rfl rfl Tryz.underlying51 rfl sz51)<|have H:=H.thaw (i := 4) rfl;have H:=H.drop 1;have H:=H.drop 1;have H:=H.drop 1;have H:=H.drop 1;?_
 cases hm
 exact ⟨v18, (.slice q20 u16.2.length x21), rfl, H.reads (sub_cons m0 (fun r hr => (t3 hr)))⟩

def m_nodes_Apply_j2 (l2 : List S_api_Node) (x3 : S_api_Op) (u24 : Int × Bool) (b31 : Bool) : Option ((List S_api_Node) × S_api_Result) :=
  if b31 = true then ((m_nodes_failed 63).bind fun u36 => some (l2, u36)) else (if (x3.Kind == 2) = true then ((m_nodes_remove l2 u24.1 x3).bind fun u78 => some (u78.1, u78.2)) else (if (x3.Kind == 3) = true then ((m_nodes_set l2 u24.1 x3).bind fun u71 => some (u71.1, u71.2)) else (if (x3.Kind == 4) = true then ((m_nodes_check l2 u24.1 x3).bind fun u64 => some (u64.1, u64.2)) else (if (x3.Kind == 5) = true then ((m_nodes_get l2 u24.1 x3).bind fun u57 => some (u57.1, u57.2)) else (if (x3.Kind == 6) = true then ((m_nodes_list l2 u24.1 x3).bind fun u50 => some (u50.1, u50.2)) else (if (x3.Kind == 7) = true then ((m_nodes_sweep l2 u24.1 x3).bind fun u43 => some (u43.1, u43.2)) else none))))))
def m_nodes_Apply_j1 (l2 : List S_api_Node) (x3 : S_api_Op) (b8 : Bool) : Option ((List S_api_Node) × S_api_Result) :=
  if b8 = true then ((m_nodes_failed 1).bind fun u13 => some (([] : List S_api_Node), u13)) else (if (x3.Kind == 1) = true then ((m_nodes_create l2 x3).bind fun u18 => some (u18.1, u18.2)) else ((m_nodes_where l2 x3.Path).bind fun u24 => if (!u24.2) = true then ((m_nodes_failed 62).bind fun u26 => some (l2, u26)) else (if (decide (x3.Kind ≤ 4)) = true then (if (decide (x3.Version ≥ 0)) = true then ((idx l2 u24.1).bind fun x87 => m_nodes_Apply_j2 l2 x3 u24 (x3.Version != x87.Version)) else (m_nodes_Apply_j2 l2 x3 u24 false)) else (m_nodes_Apply_j2 l2 x3 u24 false))))
def m_nodes_Apply (l2 : List S_api_Node) (x3 : S_api_Op) : Option ((List S_api_Node) × S_api_Result) :=
  (m_nodes_Right l2).bind fun u94 => if (!u94) = true then (m_nodes_Apply_j1 l2 x3 true) else ((m_nodes_May x3).bind fun u97 => m_nodes_Apply_j1 l2 x3 (!u97))
theorem c_nodes_Apply {w : World} {Fo : List Ob} {rs : List Rp} (v1 : Value) (l2 : List S_api_Node) (x3 : S_api_Op) (H : Sep w (Fo) rs) (hr4 : rSl k_api_Node v1 l2 ∈ rs) (hr5 : rTab Tryz.prog ∈ rs) {r : (List S_api_Node) × S_api_Result} (hm : m_nodes_Apply l2 x3 = some r) :
    Calls Tryz.prog 32 [v1, .agg (l_api_Op x3).toArray].toArray w (Ret fun v w' => ∃ (v5001 : Value) (v5004 : Value), .tuple #[v5001, .agg (l_api_Result r.2 v5004).toArray] = v ∧ Sep w' (Fo) (rSl k_api_Node v5001 r.1 :: rSl kS v5004 r.2.Names :: rs)) := by
 unfold m_nodes_Apply at hm
 refine enter Tryz.func32 rfl Tryz.ntmps32 rfl fun a E =>?_
 simp only [enum, Nat.reduceAdd] at E
 refine sq<|st_box E H (wn rfl) rfl rfl (cs := (l_api_Op x3)) rfl rfl rfl fun p6 w a H E=>pr 1 E rfl fun a E=>al E H rfl rfl rfl rfl zr51 fun p7 w a H E=>nt<|wp_seq<|wp_seq_cut (fun a w => ∃ (b8 : Bool) (rs9 : List Rp), Env 68 a [(0, v1), (3, pt p6 0), (5, pt p7 0), (16, .bool b8)] ∧ Sep w (Blk p6 55 (l_api_Op x3) :: Blk p7 51 z_api_Result :: Fo) rs9 ∧ (∀ r, r ∈ rs → r ∈ rs9) ∧ rSl k_api_Node v1 l2 ∈ rs9 ∧ rTab Tryz.prog ∈ rs9 ∧ m_nodes_Apply_j1 l2 x3 b8 = some r) ?_ ?_
 ·refine wp_region_lit<|pr 1 E rfl fun a E=>bd hm fun u94 hx95 hm=>x_cl E rfl rfl rfl rfl rfl cf55 (c_nodes_Right v1 l2 H hr4 hx95)<|?_
  rintro _ w ⟨rfl, H⟩ a E
  refine pr 2 E rfl fun a E=>cs hm (fun hb96 hm=>?_) fun hb96 hm=>?_
  ·exact pk 4 E (kc 12 rfl hb96) rfl fun a E=>nt<|have H:=H.front 0 rfl;have H:=H.front 1 rfl;⟨true, _, E.sel [0, 3, 5, 16] rfl, H, fun r hr => hr, hr4, hr5, hm⟩
  ·refine st_val E (ws' (d := 12) E rfl rfl rfl rfl hb96) rfl rfl (x_ldBN (i := 1) (us := (l_api_Op x3)) E H rfl rfl rfl rfl Tryz.underlying55 rfl sz55) fun a E=>bd hm fun u97 hx98 hm=>st_call E (ws' (d := 12) E rfl rfl rfl rfl hb96) rfl rfl (x_call E rfl rfl (cf53 _)) (c_nodes_May x3 H hx98)<|?_
   rintro _ w ⟨rfl, H⟩ a E
   exact pk 2 E (kc 12 rfl hb96) rfl fun a E=>nt<|have H:=H.front 0 rfl;have H:=H.front 1 rfl;⟨!u97, _, E.sel [0, 3, 5, 16] rfl, H, fun r hr => hr, hr4, hr5, hm⟩
 ·clear E H hm
  rintro a w ⟨b8, rs9, E, H, hs10, hr11, hr12, hm⟩
  unfold m_nodes_Apply_j1 at hm
  refine wif E hm rfl (fun hm=>?_) fun hm=>?_
  ·refine sq<|bd hm fun u13 hx14 hm=>x_cl E rfl rfl rfl rfl rfl cf59 (c_nodes_failed 1 H hx14)<|?_
   rintro _ w ⟨v15, rfl, H⟩ a E
   refine pr 1 E rfl fun a E=>?_
   obtain ⟨q16, x17, rfl⟩ := H.slform m0
   refine st_st (i := 1) E H (wn rfl) rfl (us := (l_api_Result u13 (.slice q16 u13.Names.length x17))) rfl rfl rfl rfl rfl sz51 rfl rfl fun w H=>nt<|wp_ret<|q_thenR<|outR2 E rfl (rvT rfl) (rvBN (i := 1) (us := (l_api_Result u13 (.slice q16 u13.Names.length x17))) H rfl rfl rfl Tryz.underlying51 rfl sz51)<|have H:=H.nilSl k_api_Node;have H:=H.drop 0;have H:=H.drop 0;?_
   cases hm
   exact ⟨(.slice none 0 0), (.slice q16 u13.Names.length x17), rfl, H.reads (sub_cons m0 (sub_cons mm1 (fun r hr => (t2 (hs10 r hr)))))⟩
  ·refine wp_skip<|q_then<|wp_seq<|sq<|pr 1 E rfl fun a E=>lb E H 0 rfl rfl rfl rfl rfl rfl rfl Tryz.underlying3 rfl fun a E=>pr 1 E rfl fun a E=>nt<|wif E hm rfl (fun hm=>?_) fun hm=>?_
   ·refine sq<|pr 1 E rfl fun a E=>sv E rfl rfl rfl (x_ldBN (i := 0) (us := (l_api_Op x3)) E H rfl rfl rfl rfl Tryz.underlying55 rfl sz55) fun a E=>bd hm fun u18 hx19 hm=>x_cl E rfl rfl rfl rfl rfl cf60 (c_nodes_create v1 l2 x3 H hr11 hr12 hx19)<|?_
    rintro _ w ⟨v20, v21, rfl, H⟩ a E
    refine pr 3 E rfl fun a E=>?_
    obtain ⟨q22, x23, rfl⟩ := H.slform mm1
    refine st_st (i := 1) E H (wn rfl) rfl (us := (l_api_Result u18.2 (.slice q22 u18.2.Names.length x23))) rfl rfl rfl rfl rfl sz51 rfl rfl fun w H=>nt<|wp_ret<|q_thenR<|outR2 E rfl (rvT rfl) (rvBN (i := 1) (us := (l_api_Result u18.2 (.slice q22 u18.2.Names.length x23))) H rfl rfl rfl Tryz.underlying51 rfl sz51)<|have H:=H.drop 0;have H:=H.drop 0;?_
    cases hm
    exact ⟨v20, (.slice q22 u18.2.Names.length x23), rfl, H.reads (sub_cons m0 (sub_cons mm1 (fun r hr => (t2 (hs10 r hr)))))⟩
   ·refine wp_skip<|q_then<|sq<|pr 2 E rfl fun a E=>lb E H 0 rfl rfl rfl rfl rfl rfl rfl Tryz.underlying9 rfl fun a E=>bd hm fun u24 hx25 hm=>x_cl E rfl rfl rfl rfl rfl cf61 (c_nodes_where v1 l2 x3.Path H hr11 hx25)<|?_
    rintro _ w ⟨rfl, H⟩ a E
    refine pr 5 E rfl fun a E=>nt<|wp_seq<|sq<|pr 2 E rfl fun a E=>nt<|wif E hm rfl (fun hm=>?_) fun hm=>?_
    ·refine sq<|pr 1 E rfl fun a E=>bd hm fun u26 hx27 hm=>x_cl E rfl rfl rfl rfl rfl cf59 (c_nodes_failed 62 H hx27)<|?_
     rintro _ w ⟨v28, rfl, H⟩ a E
     refine pr 1 E rfl fun a E=>?_
     obtain ⟨q29, x30, rfl⟩ := H.slform m0
     refine st_st (i := 1) E H (wn rfl) rfl (us := (l_api_Result u26 (.slice q29 u26.Names.length x30))) rfl rfl rfl rfl rfl sz51 rfl rfl fun w H=>nt<|wp_ret<|q_thenR<|outR2 E rfl (rvT rfl) (rvBN (i := 1) (us := (l_api_Result u26 (.slice q29 u26.Names.length x30))) H rfl rfl rfl Tryz.underlying51 rfl sz51)<|have H:=H.drop 0;have H:=H.drop 0;?_
     cases hm
     exact ⟨v1, (.slice q29 u26.Names.length x30), rfl, H.reads (sub_cons (t1 hr11) (sub_cons m0 (fun r hr => (t1 (hs10 r hr)))))⟩
    ·refine wp_skip<|q_then<|wp_seq<|wp_seq_cut (fun a w => ∃ (b31 : Bool) (rs32 : List Rp), Env 68 a [(0, v1), (3, pt p6 0), (5, pt p7 0), (6, .int .i64 u24.1), (54, .bool b31)] ∧ Sep w (Blk p6 55 (l_api_Op x3) :: Blk p7 51 z_api_Result :: Fo) rs32 ∧ (∀ r, r ∈ rs → r ∈ rs32) ∧ rSl k_api_Node v1 l2 ∈ rs32 ∧ rTab Tryz.prog ∈ rs32 ∧ m_nodes_Apply_j2 l2 x3 u24 b31 = some r) ?_ ?_
     ·obtain ⟨u84, H⟩ := H.raw hr11
      refine dw [(0, 0), (1, 0), (2, 0), (3, 0), (4, 0), (5, 0), (6, 0), (7, 0), (8, 0), (9, 0), (10, 0), (11, 0), (12, 0), (13, 0), (14, 0), (15, 0), (16, 0), (17, 0)] [0] [0] H (by kernel_rfl) (fun _ _ _ h => False.elim h.2) fun w W0 hI H=>fn 1 E rfl fun a E=>fb E rfl (wn rfl) rfl rfl rfl rfl m0 rfl Tryz.underlying3 rfl fun a E=>fn 2 E rfl fun a E=>cs hm (fun hb85 hm=>?_) fun hb85 hm=>?_
      ·refine fk 1 E (kc 40 rfl hb85) rfl fun a E=>fb E rfl (ws' (d := 40) E rfl rfl rfl rfl hb85) rfl rfl rfl rfl m0 rfl Tryz.underlying2 rfl fun a E=>fk 3 E (kc 40 rfl hb85) rfl fun a E=>cs hm (fun hb86 hm=>?_) fun hb86 hm=>?_
       ·refine fk 1 E (kc 45 rfl hb86) rfl fun a E=>fb E rfl (ws' (d := 45) E rfl rfl rfl rfl hb86) rfl rfl rfl rfl m0 rfl Tryz.underlying2 rfl fun a E=>fk 2 E (kc 45 rfl hb86) rfl fun a E=>bd hm fun x87 hx88 hm=>?_
        obtain ⟨q89, u92, hx90, hx91⟩ := dr_ixW (P := Tryz.prog) (k := .i64) hI (dr_mem (.head _)) Tryz.underlying22 sz80 hx88
        refine fr_val E rfl (ws' (d := 45) E rfl rfl rfl rfl hb86) rfl rfl (fun w hW=>x_ixA E rfl rfl rfl (hx90 w)) fun a E=>?_
        have hx93 := dr_fld hx91 (fun _ _ _ h => k_api_Node_aw2 h)
        refine fk 1 E (kc 45 rfl hb86) rfl fun a E=>fa E rfl (ws' (d := 45) E rfl rfl rfl rfl hb86) rfl rfl rfl rfl hx93 Tryz.underlying2 rfl fun a E=>fk 2 E (kc 45 rfl hb86) rfl fun a E=>fr_nil<|?_
        clear hI
        exact q_then<|⟨x3.Version != x87.Version, _, E.sel [0, 3, 5, 6, 54] rfl, H, fun r hr => (t1 (hs10 r hr)), (t1 hr11), (t1 hr12), hm⟩
       ·refine fk 9 E (kc 45 rfl hb86) rfl fun a E=>fr_nil<|?_
        clear hI
        exact q_then<|⟨false, _, E.sel [0, 3, 5, 6, 54] rfl, H, fun r hr => (t1 (hs10 r hr)), (t1 hr11), (t1 hr12), hm⟩
      ·refine fk 14 E (kc 40 rfl hb85) rfl fun a E=>fr_nil<|?_
       clear hI
       exact q_then<|⟨false, _, E.sel [0, 3, 5, 6, 54] rfl, H, fun r hr => (t1 (hs10 r hr)), (t1 hr11), (t1 hr12), hm⟩
     ·clear E H hm
      rintro a w ⟨b31, rs32, E, H, hs33, hr34, hr35, hm⟩
      unfold m_nodes_Apply_j2 at hm
      refine wif E hm rfl (fun hm=>?_) fun hm=>?_
      ·refine sq<|pr 1 E rfl fun a E=>bd hm fun u36 hx37 hm=>x_cl E rfl rfl rfl rfl rfl cf59 (c_nodes_failed 63 H hx37)<|?_
       rintro _ w ⟨v38, rfl, H⟩ a E
       refine pr 1 E rfl fun a E=>?_
       obtain ⟨q39, x40, rfl⟩ := H.slform m0
       refine st_st (i := 1) E H (wn rfl) rfl (us := (l_api_Result u36 (.slice q39 u36.Names.length x40))) rfl rfl rfl rfl rfl sz51 rfl rfl fun w H=>nt<|wp_ret<|q_thenR<|outR2 E rfl (rvT rfl) (rvBN (i := 1) (us := (l_api_Result u36 (.slice q39 u36.Names.length x40))) H rfl rfl rfl Tryz.underlying51 rfl sz51)<|have H:=H.drop 0;have H:=H.drop 0;?_
       cases hm
       exact ⟨v1, (.slice q39 u36.Names.length x40), rfl, H.reads (sub_cons (t1 hr34) (sub_cons m0 (fun r hr => (t1 (hs33 r hr)))))⟩
      ·refine wp_skip<|q_then<|sq<|sv E rfl rfl rfl (x_build E rfl (E.evs rfl) (v := .agg #[.nilFunc, .nilFunc, .func (.func 62) #[] #[], .func (.func 63) #[] #[], .func (.func 64) #[] #[], .func (.func 65) #[] #[], .func (.func 66) #[] #[], .func (.func 67) #[] #[]]) (by kernel_rfl)) fun a E=>al E H rfl rfl rfl rfl zr88 fun p41 w a H E=>st_st (i := 0) E H (wn rfl) rfl (us := [.nilFunc, .nilFunc, .func (.func 62) #[] #[], .func (.func 63) #[] #[], .func (.func 64) #[] #[], .func (.func 65) #[] #[], .func (.func 66) #[] #[], .func (.func 67) #[] #[]]) rfl rfl rfl rfl rfl sz88 rfl rfl fun w H=>nt<|wp_seq<|dw [(0, 0), (1, 0), (2, 0), (3, 0), (4, 0), (5, 0), (6, 0), (7, 1), (8, 0), (9, 0), (10, 2), (11, 2)] [0, 1] [] H (by kernel_rfl) (fun _ _ _ h => False.elim h.2) fun w W0 hI H=>?_
       refine fn 1 E rfl fun a E=>fb E rfl (wn rfl) rfl rfl rfl rfl mm1 rfl Tryz.underlying3 rfl fun a E=>cs hm (fun hb77 hm=>?_) fun hb77 hm=>?_
       ·refine fr_val E rfl (wn rfl) rfl rfl (fun w hW=>x_ixP (j := 2) E rfl rfl rfl hb77 rfl Tryz.underlying88 sz87) fun a E=>?_
        refine fb E rfl (wn rfl) rfl rfl rfl rfl m0 rfl Tryz.underlying87 rfl fun a E=>fn 2 E rfl fun a E=>fbn E (l_api_Op x3) rfl (wn rfl) rfl rfl rfl rfl mm1 rfl Tryz.underlying55 rfl sz55 fun a E=>fr_op rfl<|bd hm fun u78 hx79 hm=>st_call E (wn rfl) rfl rfl (x_callv E rfl rfl rfl (cf62 _)) (c_nodes_remove v1 l2 u24.1 x3 H hr34 hx79)<|?_
        rintro _ w ⟨v80, v81, rfl, H⟩ a E
        refine nt<|?_
        refine ⟨⟨_, _, H, (subO_cons m0 (subO_cons mm1 (subO_nil))), (sub_nil)⟩, ?_⟩
        refine fn 2 E rfl fun a E=>fr_tail rfl<|pr 1 E rfl fun a E=>nt<|fr_tail rfl<|?_
        obtain ⟨q82, x83, rfl⟩ := H.slform mm1
        refine st_st (i := 2) E H (wn rfl) rfl (us := (l_api_Result u78.2 (.slice q82 u78.2.Names.length x83))) rfl rfl rfl rfl rfl sz51 rfl rfl fun w H=>nt<|fr_nil<|?_
        clear hI
        refine q_then<|wp_ret<|outR2 E rfl (rvT rfl) (rvBN (i := 2) (us := (l_api_Result u78.2 (.slice q82 u78.2.Names.length x83))) H rfl rfl rfl Tryz.underlying51 rfl sz51)<|have H:=H.drop 0;have H:=H.drop 0;have H:=H.drop 0;?_
        cases hm
        exact ⟨v80, (.slice q82 u78.2.Names.length x83), rfl, H.reads (sub_cons m0 (sub_cons mm1 (fun r hr => (t2 (hs33 r hr)))))⟩
       ·refine cs hm (fun hb70 hm=>?_) fun hb70 hm=>?_
        ·refine fr_val E rfl (wn rfl) rfl rfl (fun w hW=>x_ixP (j := 3) E rfl rfl rfl hb70 rfl Tryz.underlying88 sz87) fun a E=>?_
         refine fb E rfl (wn rfl) rfl rfl rfl rfl m0 rfl Tryz.underlying87 rfl fun a E=>fn 2 E rfl fun a E=>fbn E (l_api_Op x3) rfl (wn rfl) rfl rfl rfl rfl mm1 rfl Tryz.underlying55 rfl sz55 fun a E=>fr_op rfl<|bd hm fun u71 hx72 hm=>st_call E (wn rfl) rfl rfl (x_callv E rfl rfl rfl (cf63 _)) (c_nodes_set v1 l2 u24.1 x3 H hr34 hx72)<|?_
         rintro _ w ⟨v73, v74, rfl, H⟩ a E
         refine nt<|?_
         refine ⟨⟨_, _, H, (subO_cons m0 (subO_cons mm1 (subO_nil))), (sub_nil)⟩, ?_⟩
         refine fn 2 E rfl fun a E=>fr_tail rfl<|pr 1 E rfl fun a E=>nt<|fr_tail rfl<|?_
         obtain ⟨q75, x76, rfl⟩ := H.slform mm1
         refine st_st (i := 2) E H (wn rfl) rfl (us := (l_api_Result u71.2 (.slice q75 u71.2.Names.length x76))) rfl rfl rfl rfl rfl sz51 rfl rfl fun w H=>nt<|fr_nil<|?_
         clear hI
         refine q_then<|wp_ret<|outR2 E rfl (rvT rfl) (rvBN (i := 2) (us := (l_api_Result u71.2 (.slice q75 u71.2.Names.length x76))) H rfl rfl rfl Tryz.underlying51 rfl sz51)<|have H:=H.drop 0;have H:=H.drop 0;have H:=H.drop 0;?_
         cases hm
         exact ⟨v73, (.slice q75 u71.2.Names.length x76), rfl, H.reads (sub_cons m0 (sub_cons mm1 (fun r hr => (t2 (hs33 r hr)))))⟩
        ·refine cs hm (fun hb63 hm=>?_) fun hb63 hm=>?_
         ·refine fr_val E rfl (wn rfl) rfl rfl (fun w hW=>x_ixP (j := 4) E rfl rfl rfl hb63 rfl Tryz.underlying88 sz87) fun a E=>?_
          refine fb E rfl (wn rfl) rfl rfl rfl rfl m0 rfl Tryz.underlying87 rfl fun a E=>fn 2 E rfl fun a E=>fbn E (l_api_Op x3) rfl (wn rfl) rfl rfl rfl rfl mm1 rfl Tryz.underlying55 rfl sz55 fun a E=>fr_op rfl<|bd hm fun u64 hx65 hm=>st_call E (wn rfl) rfl rfl (x_callv E rfl rfl rfl (cf64 _)) (c_nodes_check v1 l2 u24.1 x3 H hr34 hx65)<|?_
          rintro _ w ⟨v66, v67, rfl, H⟩ a E
          refine nt<|?_
          refine ⟨⟨_, _, H, (subO_cons m0 (subO_cons mm1 (subO_nil))), (sub_nil)⟩, ?_⟩
          refine fn 2 E rfl fun a E=>fr_tail rfl<|pr 1 E rfl fun a E=>nt<|fr_tail rfl<|?_
          obtain ⟨q68, x69, rfl⟩ := H.slform mm1
          refine st_st (i := 2) E H (wn rfl) rfl (us := (l_api_Result u64.2 (.slice q68 u64.2.Names.length x69))) rfl rfl rfl rfl rfl sz51 rfl rfl fun w H=>nt<|fr_nil<|?_
          clear hI
          refine q_then<|wp_ret<|outR2 E rfl (rvT rfl) (rvBN (i := 2) (us := (l_api_Result u64.2 (.slice q68 u64.2.Names.length x69))) H rfl rfl rfl Tryz.underlying51 rfl sz51)<|have H:=H.drop 0;have H:=H.drop 0;have H:=H.drop 0;?_
          cases hm
          exact ⟨v66, (.slice q68 u64.2.Names.length x69), rfl, H.reads (sub_cons m0 (sub_cons mm1 (fun r hr => (t2 (hs33 r hr)))))⟩
         ·refine cs hm (fun hb56 hm=>?_) fun hb56 hm=>?_
          ·refine fr_val E rfl (wn rfl) rfl rfl (fun w hW=>x_ixP (j := 5) E rfl rfl rfl hb56 rfl Tryz.underlying88 sz87) fun a E=>?_
           refine fb E rfl (wn rfl) rfl rfl rfl rfl m0 rfl Tryz.underlying87 rfl fun a E=>fn 2 E rfl fun a E=>fbn E (l_api_Op x3) rfl (wn rfl) rfl rfl rfl rfl mm1 rfl Tryz.underlying55 rfl sz55 fun a E=>fr_op rfl<|bd hm fun u57 hx58 hm=>st_call E (wn rfl) rfl rfl (x_callv E rfl rfl rfl (cf65 _)) (c_nodes_get v1 l2 u24.1 x3 H hr34 hx58)<|?_
           rintro _ w ⟨v59, v60, rfl, H⟩ a E
           refine nt<|?_
           refine ⟨⟨_, _, H, (subO_cons m0 (subO_cons mm1 (subO_nil))), (sub_nil)⟩, ?_⟩
           refine fn 2 E rfl fun a E=>fr_tail rfl<|pr 1 E rfl fun a E=>nt<|fr_tail rfl<|?_
           obtain ⟨q61, x62, rfl⟩ := H.slform mm1
           refine st_st (i := 2) E H (wn rfl) rfl (us := (l_api_Result u57.2 (.slice q61 u57.2.Names.length x62))) rfl rfl rfl rfl rfl sz51 rfl rfl fun w H=>nt<|fr_nil<|?_
           clear hI
           refine q_then<|wp_ret<|outR2 E rfl (rvT rfl) (rvBN (i := 2) (us := (l_api_Result u57.2 (.slice q61 u57.2.Names.length x62))) H rfl rfl rfl Tryz.underlying51 rfl sz51)<|have H:=H.drop 0;have H:=H.drop 0;have H:=H.drop 0;?_
           cases hm
           exact ⟨v59, (.slice q61 u57.2.Names.length x62), rfl, H.reads (sub_cons m0 (sub_cons mm1 (fun r hr => (t2 (hs33 r hr)))))⟩
          ·refine cs hm (fun hb49 hm=>?_) fun hb49 hm=>?_
           ·refine fr_val E rfl (wn rfl) rfl rfl (fun w hW=>x_ixP (j := 6) E rfl rfl rfl hb49 rfl Tryz.underlying88 sz87) fun a E=>?_
            refine fb E rfl (wn rfl) rfl rfl rfl rfl m0 rfl Tryz.underlying87 rfl fun a E=>fn 2 E rfl fun a E=>fbn E (l_api_Op x3) rfl (wn rfl) rfl rfl rfl rfl mm1 rfl Tryz.underlying55 rfl sz55 fun a E=>fr_op rfl<|bd hm fun u50 hx51 hm=>st_call E (wn rfl) rfl rfl (x_callv E rfl rfl rfl (cf66 _)) (c_nodes_list v1 l2 u24.1 x3 H hr34 hx51)<|?_
            rintro _ w ⟨v52, v53, rfl, H⟩ a E
            refine nt<|?_
            refine ⟨⟨_, _, H, (subO_cons m0 (subO_cons mm1 (subO_nil))), (sub_nil)⟩, ?_⟩
            refine fn 2 E rfl fun a E=>fr_tail rfl<|pr 1 E rfl fun a E=>nt<|fr_tail rfl<|?_
            obtain ⟨q54, x55, rfl⟩ := H.slform mm1
            refine st_st (i := 2) E H (wn rfl) rfl (us := (l_api_Result u50.2 (.slice q54 u50.2.Names.length x55))) rfl rfl rfl rfl rfl sz51 rfl rfl fun w H=>nt<|fr_nil<|?_
            clear hI
            refine q_then<|wp_ret<|outR2 E rfl (rvT rfl) (rvBN (i := 2) (us := (l_api_Result u50.2 (.slice q54 u50.2.Names.length x55))) H rfl rfl rfl Tryz.underlying51 rfl sz51)<|have H:=H.drop 0;have H:=H.drop 0;have H:=H.drop 0;?_
            cases hm
            exact ⟨v52, (.slice q54 u50.2.Names.length x55), rfl, H.reads (sub_cons m0 (sub_cons mm1 (fun r hr => (t2 (hs33 r hr)))))⟩
           ·refine cs hm (fun hb42 hm=>?_) fun hb42 hm=>?_
            ·refine fr_val E rfl (wn rfl) rfl rfl (fun w hW=>x_ixP (j := 7) E rfl rfl rfl hb42 rfl Tryz.underlying88 sz87) fun a E=>?_
             refine fb E rfl (wn rfl) rfl rfl rfl rfl m0 rfl Tryz.underlying87 rfl fun a E=>fn 2 E rfl fun a E=>fbn E (l_api_Op x3) rfl (wn rfl) rfl rfl rfl rfl mm1 rfl Tryz.underlying55 rfl sz55 fun a E=>fr_op rfl<|bd hm fun u43 hx44 hm=>st_call E (wn rfl) rfl rfl (x_callv E rfl rfl rfl (cf67 _)) (c_nodes_sweep v1 l2 u24.1 x3 H hr34 hx44)<|?_
             rintro _ w ⟨v45, v46, rfl, H⟩ a E
             refine nt<|?_
             refine ⟨⟨_, _, H, (subO_cons mm1 (subO_cons mm2 (subO_nil))), (sub_nil)⟩, ?_⟩
             refine fn 2 E rfl fun a E=>fr_tail rfl<|pr 1 E rfl fun a E=>nt<|fr_tail rfl<|?_
             obtain ⟨q47, x48, rfl⟩ := H.slform m0
             refine st_st (i := 3) E H (wn rfl) rfl (us := (l_api_Result u43.2 (.slice q47 u43.2.Names.length x48))) rfl rfl rfl rfl rfl sz51 rfl rfl fun w H=>nt<|fr_nil<|?_
             clear hI
             refine q_then<|wp_ret<|outR2 E rfl (rvT rfl) (rvBN (i := 3) (us := (l_api_Result u43.2 (.slice q47 u43.2.Names.length x48))) H rfl rfl rfl Tryz.underlying51 rfl sz51)<|have H:=H.thaw (i := 0) rfl;have H:=H.drop 0;have H:=H.drop 0;have H:=H.drop 0;?_
             cases hm
             exact ⟨v45, (.slice q47 u43.2.Names.length x48), rfl, H.reads (sub_cons m0 (sub_cons mm1 (fun r hr => (t2 (hs33 r hr)))))⟩
            ·exact (none_some hm rfl).elim

def m_cantonref06_May_j3 (x1 : S_api_Op) (b19 : Bool) : Option Bool :=
  if b19 = true then (if (x1.Version == 0) = true then (if (sEq x1.Data (ByteArray.mk #[])) = true then (if (x1.Owner == 0) = true then (some (!x1.Turns)) else (some (false))) else (some (false))) else (some (false))) else (if (x1.Kind == 7) = true then (if (x1.Version == 0) = true then (if (sEq x1.Data (ByteArray.mk #[])) = true then (if (decide (x1.Owner > 0)) = true then (some (!x1.Turns)) else (some (false))) else (some (false))) else (some (false))) else (some (false)))
def m_cantonref06_May_j2 (x1 : S_api_Op) (b3 : Bool) (b6 : Bool) : Option Bool :=
  if b6 = true then (some (false)) else (if (x1.Kind == 1) = true then (if (!(sEq x1.Path (ByteArray.mk #[47]))) = true then (some (x1.Version == 0)) else (some (false))) else (if (x1.Kind == 2) = true then (if (!(sEq x1.Path (ByteArray.mk #[47]))) = true then (if b3 = true then (if (sEq x1.Data (ByteArray.mk #[])) = true then (if (x1.Owner == 0) = true then (some (!x1.Turns)) else (some (false))) else (some (false))) else (some (false))) else (some (false))) else (if (x1.Kind == 3) = true then (if b3 = true then (if (x1.Owner == 0) = true then (some (!x1.Turns)) else (some (false))) else (some (false))) else (if (x1.Kind == 4) = true then (if b3 = true then (if (sEq x1.Data (ByteArray.mk #[])) = true then (if (x1.Owner == 0) = true then (some (!x1.Turns)) else (some (false))) else (some (false))) else (some (false))) else (if (x1.Kind == 5) = true then (m_cantonref06_May_j3 x1 (x1.Kind == 5)) else (m_cantonref06_May_j3 x1 (x1.Kind == 6)))))))
def m_cantonref06_May_j1 (x1 : S_api_Op) (b3 : Bool) : Option Bool :=
  (m_cantonref01_Right x1.Path).bind fun u28 => if (!u28) = true then (m_cantonref06_May_j2 x1 b3 true) else (if (decide ((x1.Data.size : Int) > 256)) = true then (m_cantonref06_May_j2 x1 b3 true) else (if (decide (x1.Owner < 0)) = true then (m_cantonref06_May_j2 x1 b3 true) else (m_cantonref06_May_j2 x1 b3 (decide (x1.Owner > 1099511627776)))))
def m_cantonref06_May (x1 : S_api_Op) : Option Bool :=
  if (decide (x1.Version ≥ (-1))) = true then (m_cantonref06_May_j1 x1 (decide (x1.Version ≤ 281474976710656))) else (m_cantonref06_May_j1 x1 false)
theorem c_cantonref06_May {w : World} {Fo : List Ob} {rs : List Rp} (x1 : S_api_Op) (H : Sep w (Fo) rs) {r : Bool} (hm : m_cantonref06_May x1 = some r) :
    Calls Tryz.prog 36 [.agg (l_api_Op x1).toArray].toArray w (Ret fun v w' => .bool r = v ∧ Sep w' (Fo) (rs)) := by
 unfold m_cantonref06_May at hm
 refine enter Tryz.func36 rfl Tryz.ntmps36 rfl fun a E =>?_
 simp only [enum, Nat.reduceAdd] at E
 refine sq<|st_box E H (wn rfl) rfl rfl (cs := (l_api_Op x1)) rfl rfl rfl fun p2 w a H E=>pr 1 E rfl fun a E=>nx<|pr 1 E rfl fun a E=>lb E H 0 rfl rfl rfl rfl rfl rfl rfl Tryz.underlying9 rfl fun a E=>pr 2 E rfl fun a E=>nt<|wp_seq_cut (fun a w => ∃ (b3 : Bool) (rs4 : List Rp), Env 141 a [(1, pt p2 0), (3, .bool (sEq x1.Path (ByteArray.mk #[47]))), (4, .bool b3)] ∧ Sep w (Blk p2 55 (l_api_Op x1) :: Fo) rs4 ∧ (∀ r, r ∈ rs → r ∈ rs4) ∧ m_cantonref06_May_j1 x1 b3 = some r) ?_ ?_
 ·refine wp_region_lit<|pr 1 E rfl fun a E=>lb E H 0 rfl rfl rfl rfl rfl rfl rfl Tryz.underlying2 rfl fun a E=>pr 2 E rfl fun a E=>cs hm (fun hb33 hm=>?_) fun hb33 hm=>?_
  ·exact pk 1 E (kc 11 rfl hb33) rfl fun a E=>st_val E (ws' (d := 11) E rfl rfl rfl rfl hb33) rfl rfl (x_ldB (i := 0) E H rfl rfl rfl rfl Tryz.underlying2 rfl) fun a E=>pk 3 E (kc 11 rfl hb33) rfl fun a E=>nt<|⟨decide (x1.Version ≤ 281474976710656), _, E.sel [1, 3, 4] rfl, H, fun r hr => hr, hm⟩
  ·exact pk 5 E (kc 11 rfl hb33) rfl fun a E=>nt<|⟨false, _, E.sel [1, 3, 4] rfl, H, fun r hr => hr, hm⟩
 ·clear E H hm
  rintro a w ⟨b3, rs4, E, H, hs5, hm⟩
  unfold m_cantonref06_May_j1 at hm
  refine wp_seq<|wp_seq_cut (fun a w => ∃ (b6 : Bool) (rs7 : List Rp), Env 141 a [(1, pt p2 0), (3, .bool (sEq x1.Path (ByteArray.mk #[47]))), (4, .bool b3), (35, .bool b6)] ∧ Sep w (Blk p2 55 (l_api_Op x1) :: Fo) rs7 ∧ (∀ r, r ∈ rs → r ∈ rs7) ∧ m_cantonref06_May_j2 x1 b3 b6 = some r) ?_ ?_
  ·refine wp_region_lit<|pr 1 E rfl fun a E=>lb E H 0 rfl rfl rfl rfl rfl rfl rfl Tryz.underlying9 rfl fun a E=>bd hm fun u28 hx29 hm=>x_cl E rfl rfl rfl rfl rfl cf71 (c_cantonref01_Right x1.Path H hx29)<|?_
   rintro _ w ⟨rfl, H⟩ a E
   refine pr 2 E rfl fun a E=>cs hm (fun hb30 hm=>?_) fun hb30 hm=>?_
   ·exact pk 15 E (kc 20 rfl hb30) rfl fun a E=>nt<|⟨true, _, E.sel [1, 3, 4, 35] rfl, H, hs5, hm⟩
   ·refine pk 1 E (kc 20 rfl hb30) rfl fun a E=>st_val E (ws' (d := 20) E rfl rfl rfl rfl hb30) rfl rfl (x_ldB (i := 0) E H rfl rfl rfl rfl Tryz.underlying9 rfl) fun a E=>pk 4 E (kc 20 rfl hb30) rfl fun a E=>cs hm (fun hb31 hm=>?_) fun hb31 hm=>?_
    ·exact pk 9 E (kc 26 rfl hb31) rfl fun a E=>nt<|⟨true, _, E.sel [1, 3, 4, 35] rfl, H, hs5, hm⟩
    ·refine pk 1 E (kc 26 rfl hb31) rfl fun a E=>st_val E (ws' (d := 26) E rfl rfl rfl rfl hb31) rfl rfl (x_ldB (i := 0) E H rfl rfl rfl rfl Tryz.underlying2 rfl) fun a E=>pk 3 E (kc 26 rfl hb31) rfl fun a E=>cs hm (fun hb32 hm=>?_) fun hb32 hm=>?_
     ·exact pk 4 E (kc 31 rfl hb32) rfl fun a E=>nt<|⟨true, _, E.sel [1, 3, 4, 35] rfl, H, hs5, hm⟩
     ·exact pk 1 E (kc 31 rfl hb32) rfl fun a E=>st_val E (ws' (d := 31) E rfl rfl rfl rfl hb32) rfl rfl (x_ldB (i := 0) E H rfl rfl rfl rfl Tryz.underlying2 rfl) fun a E=>pk 2 E (kc 31 rfl hb32) rfl fun a E=>nt<|⟨decide (x1.Owner > 1099511627776), _, E.sel [1, 3, 4, 35] rfl, H, hs5, hm⟩
  ·clear E H hm
   rintro a w ⟨b6, rs7, E, H, hs8, hm⟩
   unfold m_cantonref06_May_j2 at hm
   refine wif E hm rfl (fun hm=>?_) fun hm=>?_
   ·refine sq<|pr 1 E rfl fun a E=>nt<|wp_ret<|q_thenR<|out1 E rfl rfl<|have H:=H.drop 0;?_
    cases hm
    exact ⟨rfl, H.reads (hs8)⟩
   ·refine wp_skip<|q_then<|wp_seq<|sq<|pr 1 E rfl fun a E=>lb E H 0 rfl rfl rfl rfl rfl rfl rfl Tryz.underlying3 rfl fun a E=>nt<|wp_block<|sq<|?_
    refine pr 2 E rfl fun a E=>nt<|wif E hm rfl (fun hm=>?_) fun hm=>?_
    ·refine sq<|pr 3 E rfl fun a E=>cs hm (fun hb9 hm=>?_) fun hb9 hm=>?_
     ·refine pk 1 E (kc 42 rfl hb9) rfl fun a E=>st_val E (ws' (d := 42) E rfl rfl rfl rfl hb9) rfl rfl (x_ldB (i := 0) E H rfl rfl rfl rfl Tryz.underlying2 rfl) fun a E=>pk 3 E (kc 42 rfl hb9) rfl fun a E=>nt<|wp_ret<|q_blkR<|q_thenR<|out1 E rfl rfl<|have H:=H.drop 0;?_
      cases hm
      exact ⟨rfl, H.reads (hs8)⟩
     ·refine pk 5 E (kc 42 rfl hb9) rfl fun a E=>nt<|wp_ret<|q_blkR<|q_thenR<|out1 E rfl rfl<|have H:=H.drop 0;?_
      cases hm
      exact ⟨rfl, H.reads (hs8)⟩
    ·refine sq<|pr 2 E rfl fun a E=>nt<|wif E hm rfl (fun hm=>?_) fun hm=>?_
     ·refine sq<|pr 3 E rfl fun a E=>cs hm (fun hb10 hm=>?_) fun hb10 hm=>?_
      ·refine pk 3 E (kc 51 rfl hb10) rfl fun a E=>cs hm (fun hb11 hm=>?_) fun hb11 hm=>?_
       ·refine pk 1 E (kc 54 rfl hb11) rfl fun a E=>st_val E (ws' (d := 54) E rfl rfl rfl rfl hb11) rfl rfl (x_ldB (i := 0) E H rfl rfl rfl rfl Tryz.underlying9 rfl) fun a E=>pk 3 E (kc 54 rfl hb11) rfl fun a E=>cs hm (fun hb12 hm=>?_) fun hb12 hm=>?_
        ·refine pk 1 E (kc 59 rfl hb12) rfl fun a E=>st_val E (ws' (d := 59) E rfl rfl rfl rfl hb12) rfl rfl (x_ldB (i := 0) E H rfl rfl rfl rfl Tryz.underlying2 rfl) fun a E=>pk 3 E (kc 59 rfl hb12) rfl fun a E=>cs hm (fun hb13 hm=>?_) fun hb13 hm=>?_
         ·refine pk 1 E (kc 64 rfl hb13) rfl fun a E=>st_val E (ws' (d := 64) E rfl rfl rfl rfl hb13) rfl rfl (x_ldB (i := 0) E H rfl rfl rfl rfl Tryz.underlying4 rfl) fun a E=>pk 3 E (kc 64 rfl hb13) rfl fun a E=>nt<|wp_ret<|q_blkR<|q_thenR<|out1 E rfl rfl<|have H:=H.drop 0;?_
          cases hm
          exact ⟨rfl, H.reads (hs8)⟩
         ·refine pk 5 E (kc 64 rfl hb13) rfl fun a E=>nt<|wp_ret<|q_blkR<|q_thenR<|out1 E rfl rfl<|have H:=H.drop 0;?_
          cases hm
          exact ⟨rfl, H.reads (hs8)⟩
        ·refine pk 10 E (kc 59 rfl hb12) rfl fun a E=>nt<|wp_ret<|q_blkR<|q_thenR<|out1 E rfl rfl<|have H:=H.drop 0;?_
         cases hm
         exact ⟨rfl, H.reads (hs8)⟩
       ·refine pk 15 E (kc 54 rfl hb11) rfl fun a E=>nt<|wp_ret<|q_blkR<|q_thenR<|out1 E rfl rfl<|have H:=H.drop 0;?_
        cases hm
        exact ⟨rfl, H.reads (hs8)⟩
      ·refine pk 18 E (kc 51 rfl hb10) rfl fun a E=>nt<|wp_ret<|q_blkR<|q_thenR<|out1 E rfl rfl<|have H:=H.drop 0;?_
       cases hm
       exact ⟨rfl, H.reads (hs8)⟩
     ·refine sq<|pr 2 E rfl fun a E=>nt<|wif E hm rfl (fun hm=>?_) fun hm=>?_
      ·refine sq<|pr 2 E rfl fun a E=>cs hm (fun hb14 hm=>?_) fun hb14 hm=>?_
       ·refine pk 1 E (kc 72 rfl hb14) rfl fun a E=>st_val E (ws' (d := 72) E rfl rfl rfl rfl hb14) rfl rfl (x_ldB (i := 0) E H rfl rfl rfl rfl Tryz.underlying2 rfl) fun a E=>pk 3 E (kc 72 rfl hb14) rfl fun a E=>cs hm (fun hb15 hm=>?_) fun hb15 hm=>?_
        ·refine pk 1 E (kc 77 rfl hb15) rfl fun a E=>st_val E (ws' (d := 77) E rfl rfl rfl rfl hb15) rfl rfl (x_ldB (i := 0) E H rfl rfl rfl rfl Tryz.underlying4 rfl) fun a E=>pk 3 E (kc 77 rfl hb15) rfl fun a E=>nt<|wp_ret<|q_blkR<|q_thenR<|out1 E rfl rfl<|have H:=H.drop 0;?_
         cases hm
         exact ⟨rfl, H.reads (hs8)⟩
        ·refine pk 5 E (kc 77 rfl hb15) rfl fun a E=>nt<|wp_ret<|q_blkR<|q_thenR<|out1 E rfl rfl<|have H:=H.drop 0;?_
         cases hm
         exact ⟨rfl, H.reads (hs8)⟩
       ·refine pk 10 E (kc 72 rfl hb14) rfl fun a E=>nt<|wp_ret<|q_blkR<|q_thenR<|out1 E rfl rfl<|have H:=H.drop 0;?_
        cases hm
        exact ⟨rfl, H.reads (hs8)⟩
      ·refine sq<|pr 2 E rfl fun a E=>nt<|wif E hm rfl (fun hm=>?_) fun hm=>?_
       ·refine sq<|pr 2 E rfl fun a E=>cs hm (fun hb16 hm=>?_) fun hb16 hm=>?_
        ·refine pk 1 E (kc 85 rfl hb16) rfl fun a E=>st_val E (ws' (d := 85) E rfl rfl rfl rfl hb16) rfl rfl (x_ldB (i := 0) E H rfl rfl rfl rfl Tryz.underlying9 rfl) fun a E=>pk 3 E (kc 85 rfl hb16) rfl fun a E=>cs hm (fun hb17 hm=>?_) fun hb17 hm=>?_
         ·refine pk 1 E (kc 90 rfl hb17) rfl fun a E=>st_val E (ws' (d := 90) E rfl rfl rfl rfl hb17) rfl rfl (x_ldB (i := 0) E H rfl rfl rfl rfl Tryz.underlying2 rfl) fun a E=>pk 3 E (kc 90 rfl hb17) rfl fun a E=>cs hm (fun hb18 hm=>?_) fun hb18 hm=>?_
          ·refine pk 1 E (kc 95 rfl hb18) rfl fun a E=>st_val E (ws' (d := 95) E rfl rfl rfl rfl hb18) rfl rfl (x_ldB (i := 0) E H rfl rfl rfl rfl Tryz.underlying4 rfl) fun a E=>pk 3 E (kc 95 rfl hb18) rfl fun a E=>nt<|wp_ret<|q_blkR<|q_thenR<|out1 E rfl rfl<|have H:=H.drop 0;?_
           cases hm
           exact ⟨rfl, H.reads (hs8)⟩
          ·refine pk 5 E (kc 95 rfl hb18) rfl fun a E=>nt<|wp_ret<|q_blkR<|q_thenR<|out1 E rfl rfl<|have H:=H.drop 0;?_
           cases hm
           exact ⟨rfl, H.reads (hs8)⟩
         ·refine pk 10 E (kc 90 rfl hb17) rfl fun a E=>nt<|wp_ret<|q_blkR<|q_thenR<|out1 E rfl rfl<|have H:=H.drop 0;?_
          cases hm
          exact ⟨rfl, H.reads (hs8)⟩
        ·refine pk 15 E (kc 85 rfl hb16) rfl fun a E=>nt<|wp_ret<|q_blkR<|q_thenR<|out1 E rfl rfl<|have H:=H.drop 0;?_
         cases hm
         exact ⟨rfl, H.reads (hs8)⟩
       ·refine wp_seq_cut (fun a w => ∃ (b19 : Bool) (rs20 : List Rp), Env 141 a [(1, pt p2 0), (37, .int .i64 x1.Kind), (100, .bool b19)] ∧ Sep w (Blk p2 55 (l_api_Op x1) :: Fo) rs20 ∧ (∀ r, r ∈ rs → r ∈ rs20) ∧ m_cantonref06_May_j3 x1 b19 = some r) ?_ ?_
        ·refine sq<|pr 2 E rfl fun a E=>nt<|wif E hm rfl (fun hm=>?_) fun hm=>?_
         ·exact wp_skip<|q_then<|⟨x1.Kind == 5, _, E.sel [1, 37, 100] rfl, H, hs8, hm⟩
         ·exact wp_region_lit<|pr 2 E rfl fun a E=>nt<|⟨x1.Kind == 6, _, E.sel [1, 37, 100] rfl, H, hs8, hm⟩
        ·clear E H hm
         rintro a w ⟨b19, rs20, E, H, hs21, hm⟩
         unfold m_cantonref06_May_j3 at hm
         refine wif E hm rfl (fun hm=>?_) fun hm=>?_
         ·refine sq<|pr 1 E rfl fun a E=>lb E H 0 rfl rfl rfl rfl rfl rfl rfl Tryz.underlying2 rfl fun a E=>pr 2 E rfl fun a E=>cs hm (fun hb22 hm=>?_) fun hb22 hm=>?_
          ·refine pk 1 E (kc 106 rfl hb22) rfl fun a E=>st_val E (ws' (d := 106) E rfl rfl rfl rfl hb22) rfl rfl (x_ldB (i := 0) E H rfl rfl rfl rfl Tryz.underlying9 rfl) fun a E=>pk 3 E (kc 106 rfl hb22) rfl fun a E=>cs hm (fun hb23 hm=>?_) fun hb23 hm=>?_
           ·refine pk 1 E (kc 111 rfl hb23) rfl fun a E=>st_val E (ws' (d := 111) E rfl rfl rfl rfl hb23) rfl rfl (x_ldB (i := 0) E H rfl rfl rfl rfl Tryz.underlying2 rfl) fun a E=>pk 3 E (kc 111 rfl hb23) rfl fun a E=>cs hm (fun hb24 hm=>?_) fun hb24 hm=>?_
            ·refine pk 1 E (kc 116 rfl hb24) rfl fun a E=>st_val E (ws' (d := 116) E rfl rfl rfl rfl hb24) rfl rfl (x_ldB (i := 0) E H rfl rfl rfl rfl Tryz.underlying4 rfl) fun a E=>pk 3 E (kc 116 rfl hb24) rfl fun a E=>nt<|wp_ret<|q_blkR<|q_thenR<|out1 E rfl rfl<|have H:=H.drop 0;?_
             cases hm
             exact ⟨rfl, H.reads (hs21)⟩
            ·refine pk 5 E (kc 116 rfl hb24) rfl fun a E=>nt<|wp_ret<|q_blkR<|q_thenR<|out1 E rfl rfl<|have H:=H.drop 0;?_
             cases hm
             exact ⟨rfl, H.reads (hs21)⟩
           ·refine pk 10 E (kc 111 rfl hb23) rfl fun a E=>nt<|wp_ret<|q_blkR<|q_thenR<|out1 E rfl rfl<|have H:=H.drop 0;?_
            cases hm
            exact ⟨rfl, H.reads (hs21)⟩
          ·refine pk 15 E (kc 106 rfl hb22) rfl fun a E=>nt<|wp_ret<|q_blkR<|q_thenR<|out1 E rfl rfl<|have H:=H.drop 0;?_
           cases hm
           exact ⟨rfl, H.reads (hs21)⟩
         ·refine sq<|pr 2 E rfl fun a E=>nt<|wif E hm rfl (fun hm=>?_) fun hm=>?_
          ·refine sq<|pr 1 E rfl fun a E=>lb E H 0 rfl rfl rfl rfl rfl rfl rfl Tryz.underlying2 rfl fun a E=>pr 2 E rfl fun a E=>cs hm (fun hb25 hm=>?_) fun hb25 hm=>?_
           ·refine pk 1 E (kc 126 rfl hb25) rfl fun a E=>st_val E (ws' (d := 126) E rfl rfl rfl rfl hb25) rfl rfl (x_ldB (i := 0) E H rfl rfl rfl rfl Tryz.underlying9 rfl) fun a E=>pk 3 E (kc 126 rfl hb25) rfl fun a E=>cs hm (fun hb26 hm=>?_) fun hb26 hm=>?_
            ·refine pk 1 E (kc 131 rfl hb26) rfl fun a E=>st_val E (ws' (d := 131) E rfl rfl rfl rfl hb26) rfl rfl (x_ldB (i := 0) E H rfl rfl rfl rfl Tryz.underlying2 rfl) fun a E=>pk 3 E (kc 131 rfl hb26) rfl fun a E=>cs hm (fun hb27 hm=>?_) fun hb27 hm=>?_
             ·refine pk 1 E (kc 136 rfl hb27) rfl fun a E=>st_val E (ws' (d := 136) E rfl rfl rfl rfl hb27) rfl rfl (x_ldB (i := 0) E H rfl rfl rfl rfl Tryz.underlying4 rfl) fun a E=>pk 3 E (kc 136 rfl hb27) rfl fun a E=>nt<|wp_ret<|q_blkR<|q_thenR<|out1 E rfl rfl<|have H:=H.drop 0;?_
              cases hm
              exact ⟨rfl, H.reads (hs21)⟩
             ·refine pk 5 E (kc 136 rfl hb27) rfl fun a E=>nt<|wp_ret<|q_blkR<|q_thenR<|out1 E rfl rfl<|have H:=H.drop 0;?_
              cases hm
              exact ⟨rfl, H.reads (hs21)⟩
            ·refine pk 10 E (kc 131 rfl hb26) rfl fun a E=>nt<|wp_ret<|q_blkR<|q_thenR<|out1 E rfl rfl<|have H:=H.drop 0;?_
             cases hm
             exact ⟨rfl, H.reads (hs21)⟩
           ·refine pk 15 E (kc 126 rfl hb25) rfl fun a E=>nt<|wp_ret<|q_blkR<|q_thenR<|out1 E rfl rfl<|have H:=H.drop 0;?_
            cases hm
            exact ⟨rfl, H.reads (hs21)⟩
          ·refine wp_skip<|q_blk<|q_then<|sq<|pr 1 E rfl fun a E=>nt<|wp_ret<|out1 E rfl rfl<|have H:=H.drop 0;?_
           cases hm
           exact ⟨rfl, H.reads (hs21)⟩

def m_cantonlaw06_Great_j1 (x4 : Int) : Option Bool :=
  some (decide (x4 ≥ 5000))
def m_cantonlaw06_Great_l1 (l2 : List S_api_Node) : Nat → Int → Int → Option Bool
  | 0, _, _ => none
  | k1 + 1, x7, x8 =>
    if (decide (x8 < (l2.length : Int))) = true then (if (decide (x7 < 5000)) = true then ((idx l2 x8).bind fun x14 => (idx l2 x8).bind fun x21 => m_cantonlaw06_Great_l1 l2 k1 (IntKind.i64.wrap ((IntKind.i64.wrap (x7 + (min (x14.Path.size : Int) 5000))) + (min (x21.Data.size : Int) 5000))) (IntKind.i64.wrap (x8 + 1))) else (m_cantonlaw06_Great_j1 x7)) else (m_cantonlaw06_Great_j1 x7)
def m_cantonlaw06_Great (l2 : List S_api_Node) : Option Bool :=
  m_cantonlaw06_Great_l1 l2 5002 (IntKind.i64.wrap (3 * (l2.length : Int))) 0
theorem c_cantonlaw06_Great {w : World} {Fo : List Ob} {rs : List Rp} (v1 : Value) (l2 : List S_api_Node) (H : Sep w (Fo) rs) (hr3 : rSl k_api_Node v1 l2 ∈ rs) {r : Bool} (hm : m_cantonlaw06_Great l2 = some r) :
    Calls Tryz.prog 15 [v1].toArray w (Ret fun v w' => .bool r = v ∧ Sep w' (Fo) (rs)) := by
 unfold m_cantonlaw06_Great at hm
 refine enter Tryz.func15 rfl Tryz.ntmps15 rfl fun a E =>?_
 simp only [enum, Nat.reduceAdd] at E
 refine sq<|pr 1 E rfl fun a E=>nx<|pr 1 E rfl fun a E=>sv E rfl rfl rfl (x_lenS E H rfl rfl hr3 Tryz.underlying22) fun a E=>pr 2 E rfl fun a E=>nt<|wp_seq_cut (fun a w => ∃ (x4 : Int) (rs5 : List Rp), Env 37 a [(3, .int .i64 x4)] ∧ Sep w (Fo) rs5 ∧ (∀ r, r ∈ rs → r ∈ rs5) ∧ m_cantonlaw06_Great_j1 x4 = some r) ?_ ?_
 ·refine sq<|pr 1 E rfl fun a E=>nt<|wp_block<|wp_loop_g (fun k1 a w => ∃ (x7 : Int) (x8 : Int) (rs9 : List Rp), Env 37 a [(0, v1), (3, .int .i64 x7), (4, .int .i64 x8)] ∧ Sep w (Fo) rs9 ∧ (∀ r, r ∈ rs → r ∈ rs9) ∧ rSl k_api_Node v1 l2 ∈ rs9 ∧ m_cantonlaw06_Great_l1 l2 k1 x7 x8 = some r) (5002) ?_ ?_
  ·exact ⟨IntKind.i64.wrap (3 * (l2.length : Int)), 0, _, E.sel [0, 3, 4] rfl, H, fun r hr => hr, hr3, hm⟩
  ·clear E H hm
   rintro k1 a w ⟨x7, x8, rs9, E, H, hs10, hr11, hm⟩
   cases k1 with
   | zero => exact (none_some hm rfl).elim
   | succ k1 =>
    unfold m_cantonlaw06_Great_l1 at hm
    refine wp_seq<|sq<|pr 2 E rfl fun a E=>sv E rfl rfl rfl (x_lenS E H rfl rfl hr11 Tryz.underlying22) fun a E=>pr 2 E rfl fun a E=>cs hm (fun hb12 hm=>?_) fun hb12 hm=>?_
    ·refine pk 3 E (kc 12 rfl hb12) rfl fun a E=>nt<|wif E hm rfl (fun hm=>?_) fun hm=>?_
     ·refine wp_skip<|q_then<|wp_seq<|wp_block<|?_
      obtain ⟨u13, H⟩ := H.raw hr11
      refine dw [(0, 0), (1, 0), (2, 0), (3, 0), (4, 0), (5, 0), (6, 0), (7, 0), (8, 0), (9, 0), (10, 0), (11, 0), (12, 0), (13, 0), (14, 0), (15, 0), (16, 0), (17, 2)] [] [0] H (by kernel_rfl) (fun _ _ _ h => False.elim h.2) fun w W0 hI H=>fn 3 E rfl fun a E=>bd hm fun x14 hx15 hm=>?_
      obtain ⟨q16, u19, hx17, hx18⟩ := dr_ixW (P := Tryz.prog) (k := .i64) hI (dr_mem (.head _)) Tryz.underlying22 sz80 hx15
      refine fr_val E rfl (wn rfl) rfl rfl (fun w hW=>x_ixA E rfl rfl rfl (hx17 w)) fun a E=>?_
      have hx20 := dr_fld hx18 (fun _ _ _ h => k_api_Node_aw0 h)
      refine fn 1 E rfl fun a E=>fa E rfl (wn rfl) rfl rfl rfl rfl hx20 Tryz.underlying9 rfl fun a E=>fn 1 E rfl fun a E=>fr_val E rfl (wn rfl) rfl rfl (fun w hW=>(x_min (t := 0) E rfl rfl rfl)) fun a E=>?_
      refine fn 3 E rfl fun a E=>bd hm fun x21 hx22 hm=>?_
      obtain ⟨q23, u26, hx24, hx25⟩ := dr_ixW (P := Tryz.prog) (k := .i64) hI (dr_mem (.head _)) Tryz.underlying22 sz80 hx22
      refine fr_val E rfl (wn rfl) rfl rfl (fun w hW=>x_ixA E rfl rfl rfl (hx24 w)) fun a E=>?_
      have hx27 := dr_fld hx25 (fun _ _ _ h => k_api_Node_aw1 h)
      refine fn 1 E rfl fun a E=>fa E rfl (wn rfl) rfl rfl rfl rfl hx27 Tryz.underlying9 rfl fun a E=>fn 1 E rfl fun a E=>fr_val E rfl (wn rfl) rfl rfl (fun w hW=>(x_min (t := 0) E rfl rfl rfl)) fun a E=>?_
      refine fn 1 E rfl fun a E=>fr_tail rfl<|pr 1 E rfl fun a E=>nt<|fr_nil<|?_
      clear hI
      exact q_blk<|q_then<|wp_region_lit<|pr 3 E rfl fun a E=>nt<|⟨k1, Nat.lt_succ_self k1, IntKind.i64.wrap ((IntKind.i64.wrap (x7 + (min (x14.Path.size : Int) 5000))) + (min (x21.Data.size : Int) 5000)), IntKind.i64.wrap (x8 + 1), _, E.sel [0, 3, 4] rfl, H, fun r hr => (t1 (hs10 r hr)), (t1 hr11), hm⟩
     ·exact wp_exit<|q_thenX<|q_thenX<|q_hit<|q_then<|⟨x7, _, E.sel [3] rfl, H, hs10, hm⟩
    ·exact pk 3 E (kc 12 rfl hb12) rfl fun a E=>nt<|wp_cond_false (E.eval rfl)<|wp_exit<|q_thenX<|q_thenX<|q_hit<|q_then<|⟨x7, _, E.sel [3] rfl, H, hs10, hm⟩
 ·clear E H hm
  rintro a w ⟨x4, rs5, E, H, hs6, hm⟩
  unfold m_cantonlaw06_Great_j1 at hm
  refine sq<|pr 3 E rfl fun a E=>nt<|wp_ret<|out1 E rfl rfl<|?_
  cases hm
  exact ⟨rfl, H.reads (hs6)⟩

def m_cantonlaw06_GreatOp (x1 : S_api_Op) : Option Bool :=
  if (decide ((x1.Path.size : Int) > 3000)) = true then (some (true)) else (some (decide ((x1.Data.size : Int) > 3000)))
theorem c_cantonlaw06_GreatOp {w : World} {Fo : List Ob} {rs : List Rp} (x1 : S_api_Op) (H : Sep w (Fo) rs) {r : Bool} (hm : m_cantonlaw06_GreatOp x1 = some r) :
    Calls Tryz.prog 34 [.agg (l_api_Op x1).toArray].toArray w (Ret fun v w' => .bool r = v ∧ Sep w' (Fo) (rs)) := by
 unfold m_cantonlaw06_GreatOp at hm
 refine enter Tryz.func34 rfl Tryz.ntmps34 rfl fun a E =>?_
 simp only [enum, Nat.reduceAdd] at E
 refine sq<|st_box E H (wn rfl) rfl rfl (cs := (l_api_Op x1)) rfl rfl rfl fun p2 w a H E=>pr 1 E rfl fun a E=>nx<|pr 1 E rfl fun a E=>lb E H 0 rfl rfl rfl rfl rfl rfl rfl Tryz.underlying9 rfl fun a E=>pr 3 E rfl fun a E=>cs hm (fun hb3 hm=>?_) fun hb3 hm=>?_
 ·refine pk 6 E (kc 7 rfl hb3) rfl fun a E=>nt<|wp_ret<|out1 E rfl rfl<|have H:=H.drop 0;?_
  cases hm
  exact ⟨rfl, H.reads (fun r hr => hr)⟩
 ·refine pk 1 E (kc 7 rfl hb3) rfl fun a E=>st_val E (ws' (d := 7) E rfl rfl rfl rfl hb3) rfl rfl (x_ldB (i := 0) E H rfl rfl rfl rfl Tryz.underlying9 rfl) fun a E=>pk 4 E (kc 7 rfl hb3) rfl fun a E=>nt<|wp_ret<|out1 E rfl rfl<|have H:=H.drop 0;?_
  cases hm
  exact ⟨rfl, H.reads (fun r hr => hr)⟩

end Go.Cb
