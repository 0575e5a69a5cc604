/- Functions of the program, walked: each comes to its plain function. -/
import Derived.Test.YtgdfoajophpblaaGreatDoorTpx
import Derived.Test.YtgdfoajophpblaaGreatDoorN4px
set_option linter.unusedVariables false
set_option linter.unusedSimpArgs false
set_option maxRecDepth 20000
set_option maxHeartbeats 1000000
namespace Go.Cb
open Go.Proofs Go.RowKit

def m_internal_stringslite_IndexByte (s1 : ByteArray) (x2 : Int) : Option Int :=
  some (ixB s1 x2)
theorem c_internal_stringslite_IndexByte {w : World} {Fo : List Ob} {rs : List Rp} (s1 : ByteArray) (x2 : Int) (H : Sep w (Fo) rs) {r : Int} (hm : m_internal_stringslite_IndexByte s1 x2 = some r) :
    Calls Tryz.prog 188 [.string s1, .int .u8 x2].toArray w (Ret fun v w' => .int .i64 r = v ∧ Sep w' (Fo) (rs)) := by
 unfold m_internal_stringslite_IndexByte at hm
 refine enter Tryz.func188 rfl Tryz.ntmps188 rfl fun a E =>?_
 simp only [enum, Nat.reduceAdd] at E
 refine sq<|pr 1 E rfl fun a E=>nx<|pr 2 E rfl fun a E=>sv E rfl rfl rfl (x_callX E rfl rfl (ext202 _ _ _)) fun a E=>pr 1 E rfl fun a E=>nt<|wp_ret<|out1 E rfl rfl<|?_
 cases hm
 exact ⟨rfl, H.reads (fun r hr => hr)⟩

def m_strings_IndexByte (s1 : ByteArray) (x2 : Int) : Option Int :=
  (m_internal_stringslite_IndexByte s1 x2).bind fun u3 => some (u3)
theorem c_strings_IndexByte {w : World} {Fo : List Ob} {rs : List Rp} (s1 : ByteArray) (x2 : Int) (H : Sep w (Fo) rs) {r : Int} (hm : m_strings_IndexByte s1 x2 = some r) :
    Calls Tryz.prog 166 [.string s1, .int .u8 x2].toArray w (Ret fun v w' => .int .i64 r = v ∧ Sep w' (Fo) (rs)) := by
 unfold m_strings_IndexByte at hm
 refine enter Tryz.func166 rfl Tryz.ntmps166 rfl fun a E =>?_
 simp only [enum, Nat.reduceAdd] at E
 refine sq<|pr 1 E rfl fun a E=>nx<|pr 2 E rfl fun a E=>bd hm fun u3 hx4 hm=>x_cl E rfl rfl rfl rfl rfl cf188 (c_internal_stringslite_IndexByte s1 x2 H hx4)<|?_
 rintro _ w ⟨rfl, H⟩ a E
 refine pr 1 E rfl fun a E=>nt<|wp_ret<|out1 E rfl rfl<|?_
 cases hm
 exact ⟨rfl, H.reads (fun r hr => hr)⟩

def m_unicode_utf8_ValidRune_j2 (b5 : Bool) : Option Bool :=
  if b5 = true then (some (true)) else (some (false))
def m_unicode_utf8_ValidRune_j1 (x1 : Int) (b2 : Bool) : Option Bool :=
  if b2 = true then (some (true)) else (if (decide (57343 < x1)) = true then (m_unicode_utf8_ValidRune_j2 (decide (x1 ≤ 1114111))) else (m_unicode_utf8_ValidRune_j2 false))
def m_unicode_utf8_ValidRune (x1 : Int) : Option Bool :=
  if (decide (0 ≤ x1)) = true then (m_unicode_utf8_ValidRune_j1 x1 (decide (x1 < 55296))) else (m_unicode_utf8_ValidRune_j1 x1 false)
theorem c_unicode_utf8_ValidRune {w : World} {Fo : List Ob} {rs : List Rp} (x1 : Int) (H : Sep w (Fo) rs) {r : Bool} (hm : m_unicode_utf8_ValidRune x1 = some r) :
    Calls Tryz.prog 209 [.int .i32 x1].toArray w (Ret fun v w' => .bool r = v ∧ Sep w' (Fo) (rs)) := by
 unfold m_unicode_utf8_ValidRune at hm
 refine enter Tryz.func209 rfl Tryz.ntmps209 rfl fun a E =>?_
 simp only [enum, Nat.reduceAdd] at E
 refine sq<|pr 1 E rfl fun a E=>nt<|wp_seq<|wp_block<|wp_seq_cut (fun a w => ∃ (b2 : Bool) (rs3 : List Rp), Env 17 a [(0, .int .i32 x1), (3, .bool b2)] ∧ Sep w (Fo) rs3 ∧ (∀ r, r ∈ rs → r ∈ rs3) ∧ m_unicode_utf8_ValidRune_j1 x1 b2 = some r) ?_ ?_
 ·refine wp_region_lit<|pr 3 E rfl fun a E=>cs hm (fun hb9 hm=>?_) fun hb9 hm=>?_
  ·exact pk 4 E (kc 6 rfl hb9) rfl fun a E=>nt<|⟨decide (x1 < 55296), _, E.sel [0, 3] rfl, H, fun r hr => hr, hm⟩
  ·exact pk 4 E (kc 6 rfl hb9) rfl fun a E=>nt<|⟨false, _, E.sel [0, 3] rfl, H, fun r hr => hr, hm⟩
 ·clear E H hm
  rintro a w ⟨b2, rs3, E, H, hs4, hm⟩
  unfold m_unicode_utf8_ValidRune_j1 at hm
  refine wif E hm rfl (fun hm=>?_) fun hm=>?_
  ·refine sq<|pr 1 E rfl fun a E=>nt<|wp_ret<|q_blkR<|q_thenR<|out1 E rfl rfl<|?_
   cases hm
   exact ⟨rfl, H.reads (hs4)⟩
  ·refine wp_seq_cut (fun a w => ∃ (b5 : Bool) (rs6 : List Rp), Env 17 a [(10, .bool b5)] ∧ Sep w (Fo) rs6 ∧ (∀ r, r ∈ rs → r ∈ rs6) ∧ m_unicode_utf8_ValidRune_j2 b5 = some r) ?_ ?_
   ·refine wp_region_lit<|pr 3 E rfl fun a E=>cs hm (fun hb8 hm=>?_) fun hb8 hm=>?_
    ·exact pk 4 E (kc 13 rfl hb8) rfl fun a E=>nt<|⟨decide (x1 ≤ 1114111), _, E.sel [10] rfl, H, hs4, hm⟩
    ·exact pk 4 E (kc 13 rfl hb8) rfl fun a E=>nt<|⟨false, _, E.sel [10] rfl, H, hs4, hm⟩
   ·clear E H hm
    rintro a w ⟨b5, rs6, E, H, hs7, hm⟩
    unfold m_unicode_utf8_ValidRune_j2 at hm
    refine wif E hm rfl (fun hm=>?_) fun hm=>?_
    ·refine sq<|pr 1 E rfl fun a E=>nt<|wp_ret<|q_blkR<|q_thenR<|out1 E rfl rfl<|?_
     cases hm
     exact ⟨rfl, H.reads (hs7)⟩
    ·refine wp_skip<|q_blk<|q_then<|sq<|pr 1 E rfl fun a E=>nt<|wp_ret<|out1 E rfl rfl<|?_
     cases hm
     exact ⟨rfl, H.reads (hs7)⟩

def m_strings_IndexRune_l1 (s1 : ByteArray) : Nat → (Nat) → Option Int
  | 0, _ => none
  | k1 + 1, x9 =>
    if decide (x9 < s1.size) = true then (if (((Utf8.decode s1 x9).1 : Int) == 65533) = true then (some ((x9 : Int))) else (m_strings_IndexRune_l1 s1 k1 (x9 + (Utf8.decode s1 x9).2))) else (some ((-1)))
def m_strings_IndexRune_l2 (x2 : Int) (s1 : ByteArray) : Nat → Option Int
  | 0 => none
  | k2 + 1 =>
    if (decide ((IntKind.i64.wrap (((Utf8.encode x2).size : Int) - 1)) < (s1.size : Int))) = true then ((idx s1.data.toList (IntKind.i64.wrap (((Utf8.encode x2).size : Int) - 1))).bind fun x17 => (idx (Utf8.encode x2).data.toList (IntKind.i64.wrap (((Utf8.encode x2).size : Int) - 1))).bind fun x19 => if ((x17.toNat : Int) != (x19.toNat : Int)) = true then ((ck (0 ≤ (IntKind.i64.wrap ((IntKind.i64.wrap (((Utf8.encode x2).size : Int) - 1)) + 1)) ∧ (IntKind.i64.wrap ((IntKind.i64.wrap (((Utf8.encode x2).size : Int) - 1)) + 1)) ≤ s1.size)).bind fun u21 => (idx (Utf8.encode x2).data.toList (IntKind.i64.wrap (((Utf8.encode x2).size : Int) - 1))).bind fun x23 => (m_strings_IndexByte (s1.extract (IntKind.i64.wrap ((IntKind.i64.wrap (((Utf8.encode x2).size : Int) - 1)) + 1)).toNat s1.size) (x23.toNat : Int)).bind fun u25 => if (decide (u25 < 0)) = true then (some ((-1))) else none) else none) else (some ((-1)))
def m_strings_IndexRune_j1 (s1 : ByteArray) (x2 : Int) (b3 : Bool) : Option Int :=
  if b3 = true then ((m_strings_IndexByte s1 (IntKind.u8.wrap x2)).bind fun u6 => some (u6)) else (if (x2 == 65533) = true then (m_strings_IndexRune_l1 s1 (s1.size + 2) 0) else ((m_unicode_utf8_ValidRune x2).bind fun u13 => if (!u13) = true then (some ((-1))) else (m_strings_IndexRune_l2 x2 s1 (((s1.size : Int) - (IntKind.i64.wrap (((Utf8.encode x2).size : Int) - 1)) : Int).toNat + 1))))
def m_strings_IndexRune (s1 : ByteArray) (x2 : Int) : Option Int :=
  if (decide (0 ≤ x2)) = true then (m_strings_IndexRune_j1 s1 x2 (decide (x2 < 128))) else (m_strings_IndexRune_j1 s1 x2 false)
theorem c_strings_IndexRune {w : World} {Fo : List Ob} {rs : List Rp} (s1 : ByteArray) (x2 : Int) (H : Sep w (Fo) rs) {r : Int} (hm : m_strings_IndexRune s1 x2 = some r) :
    Calls Tryz.prog 197 [.string s1, .int .i32 x2].toArray w (Ret fun v w' => .int .i64 r = v ∧ Sep w' (Fo) (rs)) := by
 unfold m_strings_IndexRune at hm
 refine enter Tryz.func197 rfl Tryz.ntmps197 rfl fun a E =>?_
 simp only [enum, Nat.reduceAdd] at E
 refine sq<|pr 1 E rfl fun a E=>nt<|wp_block<|wp_seq_cut (fun a w => ∃ (b3 : Bool) (rs4 : List Rp), Env 187 a [(0, .string s1), (1, .int .i32 x2), (160, .bool b3)] ∧ Sep w (Fo) rs4 ∧ (∀ r, r ∈ rs → r ∈ rs4) ∧ m_strings_IndexRune_j1 s1 x2 b3 = some r) ?_ ?_
 ·refine wp_region_lit<|pr 3 E rfl fun a E=>cs hm (fun hb27 hm=>?_) fun hb27 hm=>?_
  ·exact pk 4 E (kc 163 rfl hb27) rfl fun a E=>nt<|⟨decide (x2 < 128), _, E.sel [0, 1, 160] rfl, H, fun r hr => hr, hm⟩
  ·exact pk 4 E (kc 163 rfl hb27) rfl fun a E=>nt<|⟨false, _, E.sel [0, 1, 160] rfl, H, fun r hr => hr, hm⟩
 ·clear E H hm
  rintro a w ⟨b3, rs4, E, H, hs5, hm⟩
  unfold m_strings_IndexRune_j1 at hm
  refine wif E hm rfl (fun hm=>?_) fun hm=>?_
  ·refine sq<|pr 3 E rfl fun a E=>bd hm fun u6 hx7 hm=>x_cl E rfl rfl rfl rfl rfl cf166 (c_strings_IndexByte s1 (IntKind.u8.wrap x2) H hx7)<|?_
   rintro _ w ⟨rfl, H⟩ a E
   refine pr 1 E rfl fun a E=>nt<|wp_ret<|q_blkR<|out1 E rfl rfl<|?_
   cases hm
   exact ⟨rfl, H.reads (hs5)⟩
  ·refine sq<|pr 3 E rfl fun a E=>nt<|wif E hm rfl (fun hm=>?_) fun hm=>?_
   ·refine wp_seq<|sq<|pr 1 E rfl fun a E=>st_rangeS E H (wn rfl) rfl rfl rfl rfl Tryz.underlying9 fun p8 w a H E=>nt<|wp_block<|wp_loop_g (fun k1 a w => ∃ (x9 : (Nat)) (rs10 : List Rp), Env 187 a [(175, pt p8 0)] ∧ Sep w (ObjO p8 (.stringIter s1 x9) :: Fo) rs10 ∧ (∀ r, r ∈ rs → r ∈ rs10) ∧ m_strings_IndexRune_l1 s1 k1 x9 = some r) (s1.size + 2) ?_ ?_
    ·exact ⟨0, _, E.sel [175] rfl, H, hs5, hm⟩
    ·clear E H hm
     rintro k1 a w ⟨x9, rs10, E, H, hs11, hm⟩
     cases k1 with
     | zero => exact (none_some hm rfl).elim
     | succ k1 =>
      unfold m_strings_IndexRune_l1 at hm
      refine sq<|cs hm (fun hb12 hm=>?_) fun hb12 hm=>?_
      ·refine st_nextS1 (i := 0) E H (wn rfl) rfl rfl rfl rfl rfl hb12 fun w a H E=>pr 1 E rfl fun a E=>nt<|wp_seq<|wp_cond_true (E.eval rfl)<|wp_skip<|q_then<|wp_block<|sq<|?_
       refine pr 4 E rfl fun a E=>nx<|pr 2 E rfl fun a E=>nt<|wif E hm rfl (fun hm=>?_) fun hm=>?_
       ·refine sq<|pr 2 E rfl fun a E=>nt<|wp_ret<|q_blkR<|q_thenR<|q_blkR<|q_thenR<|q_blkR<|?_
        refine out1 E rfl rfl<|have H:=H.drop 0;?_
        cases hm
        exact ⟨rfl, H.reads (hs11)⟩
       ·exact wp_skip<|q_blk<|q_then<|⟨k1, Nat.lt_succ_self k1, x9 + (Utf8.decode s1 x9).2, _, E.sel [175] rfl, H, hs11, hm⟩
      ·refine st_nextS0 (i := 0) E H (wn rfl) rfl rfl rfl rfl rfl hb12 fun a E=>pr 1 E rfl fun a E=>nt<|wp_seq<|wp_cond_false (E.eval rfl)<|wp_exit<|q_thenX<|q_thenX<|q_hit<|?_
       refine q_then<|sq<|pr 1 E rfl fun a E=>nt<|wp_ret<|q_blkR<|out1 E rfl rfl<|have H:=H.drop 0;?_
       cases hm
       exact ⟨rfl, H.reads (hs11)⟩
   ·refine sq<|pr 1 E rfl fun a E=>bd hm fun u13 hx14 hm=>x_cl E rfl rfl rfl rfl rfl cf209 (c_unicode_utf8_ValidRune x2 H hx14)<|?_
    rintro _ w ⟨rfl, H⟩ a E
    refine pr 2 E rfl fun a E=>nt<|wif E hm rfl (fun hm=>?_) fun hm=>?_
    ·refine sq<|pr 1 E rfl fun a E=>nt<|wp_ret<|q_blkR<|out1 E rfl rfl<|?_
     cases hm
     exact ⟨rfl, H.reads (hs5)⟩
    ·refine wp_scope_straight<|sq<|pr 1 E rfl fun a E=>sv E rfl rfl rfl (x_conv E rfl rfl (v := .string (Utf8.encode x2)) (by kernel_rfl)) fun a E=>pr 1 E rfl fun a E=>nx<|pr 4 E rfl fun a E=>nx<|pr 2 E rfl fun a E=>?_
     refine nx<|pr 1 E rfl fun a E=>nt<|wp_seq<|wp_block<|wp_loop_g (fun k2 a w => ∃ (rs15 : List Rp), Env 187 a [(0, .string s1), (7, .string (Utf8.encode x2)), (8, .int .i64 (IntKind.i64.wrap (((Utf8.encode x2).size : Int) - 1))), (9, .int .i64 (IntKind.i64.wrap (((Utf8.encode x2).size : Int) - 1))), (10, .int .i64 0)] ∧ Sep w (Fo) rs15 ∧ (∀ r, r ∈ rs → r ∈ rs15) ∧ m_strings_IndexRune_l2 x2 s1 k2 = some r) (((s1.size : Int) - (IntKind.i64.wrap (((Utf8.encode x2).size : Int) - 1)) : Int).toNat + 1) ?_ ?_
     ·exact ⟨_, E.sel [0, 7, 8, 9, 10] rfl, H, hs5, hm⟩
     ·clear E H hm
      rintro k2 a w ⟨rs15, E, H, hs16, hm⟩
      cases k2 with
      | zero => exact (none_some hm rfl).elim
      | succ k2 =>
       unfold m_strings_IndexRune_l2 at hm
       refine wp_seq<|sq<|pr 4 E rfl fun a E=>nt<|wif E hm rfl (fun hm=>?_) fun hm=>?_
       ·refine wp_skip<|q_then<|wp_block<|wp_scope_straight<|wp_seq<|wp_seq<|dw [(0, 0), (1, 0), (2, 0), (3, 0), (4, 0), (5, 0), (6, 0)] [] [] H (by kernel_rfl) (fun _ _ _ h => False.elim h.2) fun w W0 hI H=>fn 2 E rfl fun a E=>bd hm fun x17 hx18 hm=>?_
        refine fr_val E rfl (wn rfl) rfl rfl (fun w hW=>(x_ix E rfl rfl rfl Tryz.underlying9 hx18)) fun a E=>?_
        refine fn 2 E rfl fun a E=>bd hm fun x19 hx20 hm=>fr_val E rfl (wn rfl) rfl rfl (fun w hW=>(x_ix E rfl rfl rfl Tryz.underlying9 hx20)) fun a E=>?_
        refine fn 1 E rfl fun a E=>fr_nil<|?_
        clear hI
        refine q_then<|wif E hm rfl (fun hm=>?_) fun hm=>?_
        ·refine wp_seq<|dw [(0, 0), (1, 0), (2, 0), (3, 0), (4, 0), (5, 0), (6, 0), (7, 1), (8, 2)] [] [] H (by kernel_rfl) (fun _ _ _ h => False.elim h.2) fun w W0 hI H=>fn 3 E rfl fun a E=>bk hm fun hx22 hm=>fr_val E rfl (wn rfl) rfl rfl (fun w hW=>(x_subL E rfl rfl rfl Tryz.underlying9 hx22)) fun a E=>?_
         refine fn 2 E rfl fun a E=>bd hm fun x23 hx24 hm=>fr_val E rfl (wn rfl) rfl rfl (fun w hW=>(x_ix E rfl rfl rfl Tryz.underlying9 hx24)) fun a E=>?_
         refine fr_op rfl<|bd hm fun u25 hx26 hm=>x_cl E rfl rfl rfl rfl rfl cf166 (c_strings_IndexByte (s1.extract (IntKind.i64.wrap ((IntKind.i64.wrap (((Utf8.encode x2).size : Int) - 1)) + 1)).toNat s1.size) (x23.toNat : Int) H hx26)<|?_
         rintro _ w ⟨rfl, H⟩ a E
         refine nt<|?_
         refine ⟨⟨_, _, H, (subO_nil), (sub_nil)⟩, ?_⟩
         refine fr_tail rfl<|pr 1 E rfl fun a E=>nt<|fr_nil<|?_
         clear hI
         refine q_then<|wp_seq<|sq<|pr 2 E rfl fun a E=>nt<|wif E hm rfl (fun hm=>?_) fun hm=>?_
         ·refine sq<|pr 1 E rfl fun a E=>nt<|wp_ret<|q_thenR<|q_thenR<|ng_R<|q_blkR<|q_thenR<|?_
          refine q_blkR<|q_thenR<|ng_R<|q_blkR<|out1 E rfl rfl<|?_
          cases hm
          exact ⟨rfl, H.reads (hs16)⟩
         ·exact (none_some hm rfl).elim
        ·exact (none_some hm rfl).elim
       ·refine wp_exit<|q_thenX<|q_thenX<|q_hit<|q_then<|wp_seq<|sq<|pr 1 E rfl fun a E=>nt<|?_
        refine wp_ret<|q_thenR<|ng_R<|q_blkR<|out1 E rfl rfl<|?_
        cases hm
        exact ⟨rfl, H.reads (hs16)⟩

def m_strings_ContainsRune (s1 : ByteArray) (x2 : Int) : Option Bool :=
  (m_strings_IndexRune s1 x2).bind fun u3 => some (decide (u3 ≥ 0))
theorem c_strings_ContainsRune {w : World} {Fo : List Ob} {rs : List Rp} (s1 : ByteArray) (x2 : Int) (H : Sep w (Fo) rs) {r : Bool} (hm : m_strings_ContainsRune s1 x2 = some r) :
    Calls Tryz.prog 182 [.string s1, .int .i32 x2].toArray w (Ret fun v w' => .bool r = v ∧ Sep w' (Fo) (rs)) := by
 unfold m_strings_ContainsRune at hm
 refine enter Tryz.func182 rfl Tryz.ntmps182 rfl fun a E =>?_
 simp only [enum, Nat.reduceAdd] at E
 refine sq<|pr 1 E rfl fun a E=>nx<|pr 2 E rfl fun a E=>bd hm fun u3 hx4 hm=>x_cl E rfl rfl rfl rfl rfl cf197 (c_strings_IndexRune s1 x2 H hx4)<|?_
 rintro _ w ⟨rfl, H⟩ a E
 refine pr 2 E rfl fun a E=>nt<|wp_ret<|out1 E rfl rfl<|?_
 cases hm
 exact ⟨rfl, H.reads (fun r hr => hr)⟩

def m_path_part_1 (x1 : Int) : Option Bool :=
  (m_strings_ContainsRune (ByteArray.mk #[97, 98, 99, 100, 101, 102, 103, 104, 105, 106, 107, 108, 109, 110, 111, 112, 113, 114, 115, 116, 117, 118, 119, 120, 121, 122, 48, 49, 50, 51, 52, 53, 54, 55, 56, 57, 45]) x1).bind fun u2 => some (!u2)
theorem c_path_part_1 {w : World} {Fo : List Ob} {rs : List Rp} (x1 : Int) (H : Sep w (Fo) rs) {r : Bool} (hm : m_path_part_1 x1 = some r) :
    Calls Tryz.prog 181 [.int .i32 x1].toArray w (Ret fun v w' => .bool r = v ∧ Sep w' (Fo) (rs)) := by
 unfold m_path_part_1 at hm
 refine enter Tryz.func181 rfl Tryz.ntmps181 rfl fun a E =>?_
 simp only [enum, Nat.reduceAdd] at E
 refine sq<|pr 1 E rfl fun a E=>nx<|pr 1 E rfl fun a E=>bd hm fun u2 hx3 hm=>x_cl E rfl rfl rfl rfl rfl cf182 (c_strings_ContainsRune (ByteArray.mk #[97, 98, 99, 100, 101, 102, 103, 104, 105, 106, 107, 108, 109, 110, 111, 112, 113, 114, 115, 116, 117, 118, 119, 120, 121, 122, 48, 49, 50, 51, 52, 53, 54, 55, 56, 57, 45]) x1 H hx3)<|?_
 rintro _ w ⟨rfl, H⟩ a E
 refine pr 2 E rfl fun a E=>nt<|wp_ret<|out1 E rfl rfl<|?_
 cases hm
 exact ⟨rfl, H.reads (fun r hr => hr)⟩

def m_strings_indexFunc_l1 (s1 : ByteArray) (b2 : Bool) : Nat → (Nat) → Option Int
  | 0, _ => none
  | k1 + 1, x4 =>
    if decide (x4 < s1.size) = true then ((m_path_part_1 ((Utf8.decode s1 x4).1 : Int)).bind fun u8 => if (u8 == b2) = true then (some ((x4 : Int))) else (m_strings_indexFunc_l1 s1 b2 k1 (x4 + (Utf8.decode s1 x4).2))) else (some ((-1)))
def m_strings_indexFunc (s1 : ByteArray) (b2 : Bool) : Option Int :=
  m_strings_indexFunc_l1 s1 b2 (s1.size + 2) 0
theorem c_strings_indexFunc {w : World} {Fo : List Ob} {rs : List Rp} (s1 : ByteArray) (b2 : Bool) (H : Sep w (Fo) rs) {r : Int} (hm : m_strings_indexFunc s1 b2 = some r) :
    Calls Tryz.prog 208 [.string s1, .func (.func 181) #[] #[], .bool b2].toArray w (Ret fun v w' => .int .i64 r = v ∧ Sep w' (Fo) (rs)) := by
 unfold m_strings_indexFunc at hm
 refine enter Tryz.func208 rfl Tryz.ntmps208 rfl fun a E =>?_
 simp only [enum, Nat.reduceAdd] at E
 refine sq<|pr 1 E rfl fun a E=>nt<|wp_seq<|sq<|pr 1 E rfl fun a E=>st_rangeS E H (wn rfl) rfl rfl rfl rfl Tryz.underlying9 fun p3 w a H E=>nt<|wp_block<|wp_loop_g (fun k1 a w => ∃ (x4 : (Nat)) (rs5 : List Rp), Env 21 a [(1, .func (.func 181) #[] #[]), (2, .bool b2), (10, pt p3 0)] ∧ Sep w (ObjO p3 (.stringIter s1 x4) :: Fo) rs5 ∧ (∀ r, r ∈ rs → r ∈ rs5) ∧ m_strings_indexFunc_l1 s1 b2 k1 x4 = some r) (s1.size + 2) ?_ ?_
 ·exact ⟨0, _, E.sel [1, 2, 10] rfl, H, fun r hr => hr, hm⟩
 ·clear E H hm
  rintro k1 a w ⟨x4, rs5, E, H, hs6, hm⟩
  cases k1 with
  | zero => exact (none_some hm rfl).elim
  | succ k1 =>
   unfold m_strings_indexFunc_l1 at hm
   refine sq<|cs hm (fun hb7 hm=>?_) fun hb7 hm=>?_
   ·refine st_nextS1 (i := 0) E H (wn rfl) rfl rfl rfl rfl rfl hb7 fun w a H E=>pr 1 E rfl fun a E=>nt<|wp_seq<|wp_cond_true (E.eval rfl)<|wp_skip<|q_then<|wp_block<|sq<|?_
    refine pr 4 E rfl fun a E=>nx<|pr 2 E rfl fun a E=>bd hm fun u8 hx9 hm=>st_call E (wn rfl) rfl rfl (x_callv E rfl rfl rfl (cf181 _)) (c_path_part_1 ((Utf8.decode s1 x4).1 : Int) H hx9)<|?_
    rintro _ w ⟨rfl, H⟩ a E
    refine pr 1 E rfl fun a E=>sv E rfl rfl rfl (x_bin2 E rfl rfl rfl (v := .bool (u8 == b2)) (by kernel_rfl)) fun a E=>nt<|wif E hm rfl (fun hm=>?_) fun hm=>?_
    ·refine sq<|pr 2 E rfl fun a E=>nt<|wp_ret<|q_blkR<|q_thenR<|q_blkR<|q_thenR<|out1 E rfl rfl<|?_
     refine have H:=H.drop 0;?_
     cases hm
     exact ⟨rfl, H.reads (hs6)⟩
    ·exact wp_skip<|q_blk<|q_then<|⟨k1, Nat.lt_succ_self k1, x4 + (Utf8.decode s1 x4).2, _, E.sel [1, 2, 10] rfl, H, hs6, hm⟩
   ·refine st_nextS0 (i := 0) E H (wn rfl) rfl rfl rfl rfl rfl hb7 fun a E=>pr 1 E rfl fun a E=>nt<|wp_seq<|wp_cond_false (E.eval rfl)<|wp_exit<|q_thenX<|q_thenX<|q_hit<|?_
    refine q_then<|sq<|pr 1 E rfl fun a E=>nt<|wp_ret<|out1 E rfl rfl<|have H:=H.drop 0;?_
    cases hm
    exact ⟨rfl, H.reads (hs6)⟩

def m_strings_IndexFunc (s1 : ByteArray) : Option Int :=
  (m_strings_indexFunc s1 true).bind fun u2 => some (u2)
theorem c_strings_IndexFunc {w : World} {Fo : List Ob} {rs : List Rp} (s1 : ByteArray) (H : Sep w (Fo) rs) {r : Int} (hm : m_strings_IndexFunc s1 = some r) :
    Calls Tryz.prog 196 [.string s1, .func (.func 181) #[] #[]].toArray w (Ret fun v w' => .int .i64 r = v ∧ Sep w' (Fo) (rs)) := by
 unfold m_strings_IndexFunc at hm
 refine enter Tryz.func196 rfl Tryz.ntmps196 rfl fun a E =>?_
 simp only [enum, Nat.reduceAdd] at E
 refine sq<|pr 1 E rfl fun a E=>nx<|pr 2 E rfl fun a E=>bd hm fun u2 hx3 hm=>x_cl E rfl rfl rfl rfl rfl cf208 (c_strings_indexFunc s1 true H hx3)<|?_
 rintro _ w ⟨rfl, H⟩ a E
 refine pr 1 E rfl fun a E=>nt<|wp_ret<|out1 E rfl rfl<|?_
 cases hm
 exact ⟨rfl, H.reads (fun r hr => hr)⟩

def m_strings_ContainsFunc (s1 : ByteArray) : Option Bool :=
  (m_strings_IndexFunc s1).bind fun u2 => some (decide (u2 ≥ 0))
theorem c_strings_ContainsFunc {w : World} {Fo : List Ob} {rs : List Rp} (s1 : ByteArray) (H : Sep w (Fo) rs) {r : Bool} (hm : m_strings_ContainsFunc s1 = some r) :
    Calls Tryz.prog 180 [.string s1, .func (.func 181) #[] #[]].toArray w (Ret fun v w' => .bool r = v ∧ Sep w' (Fo) (rs)) := by
 unfold m_strings_ContainsFunc at hm
 refine enter Tryz.func180 rfl Tryz.ntmps180 rfl fun a E =>?_
 simp only [enum, Nat.reduceAdd] at E
 refine sq<|pr 1 E rfl fun a E=>nx<|pr 2 E rfl fun a E=>bd hm fun u2 hx3 hm=>x_cl E rfl rfl rfl rfl rfl cf196 (c_strings_IndexFunc s1 H hx3)<|?_
 rintro _ w ⟨rfl, H⟩ a E
 refine pr 2 E rfl fun a E=>nt<|wp_ret<|out1 E rfl rfl<|?_
 cases hm
 exact ⟨rfl, H.reads (fun r hr => hr)⟩

def m_path_part (s1 : ByteArray) : Option Bool :=
  (m_strings_ContainsFunc s1).bind fun u2 => if (!(sEq s1 (ByteArray.mk #[]))) = true then (if (decide ((s1.size : Int) ≤ 12)) = true then (some (!u2)) else (some (false))) else (some (false))
theorem c_path_part {w : World} {Fo : List Ob} {rs : List Rp} (s1 : ByteArray) (H : Sep w (Fo) rs) {r : Bool} (hm : m_path_part s1 = some r) :
    Calls Tryz.prog 151 [.string s1].toArray w (Ret fun v w' => .bool r = v ∧ Sep w' (Fo) (rs)) := by
 unfold m_path_part at hm
 refine enter Tryz.func151 rfl Tryz.ntmps151 rfl fun a E =>?_
 simp only [enum, Nat.reduceAdd] at E
 refine sq<|pr 1 E rfl fun a E=>nx<|pr 1 E rfl fun a E=>bd hm fun u2 hx3 hm=>x_cl E rfl rfl rfl rfl rfl cf180 (c_strings_ContainsFunc s1 H hx3)<|?_
 rintro _ w ⟨rfl, H⟩ a E
 refine pr 1 E rfl fun a E=>nx<|pr 3 E rfl fun a E=>cs hm (fun hb4 hm=>?_) fun hb4 hm=>?_
 ·refine pk 5 E (kc 8 rfl hb4) rfl fun a E=>cs hm (fun hb5 hm=>?_) fun hb5 hm=>?_
  ·refine pk 4 E (kc 13 rfl hb5) rfl fun a E=>nt<|wp_ret<|out1 E rfl rfl<|?_
   cases hm
   exact ⟨rfl, H.reads (fun r hr => hr)⟩
  ·refine pk 4 E (kc 13 rfl hb5) rfl fun a E=>nt<|wp_ret<|out1 E rfl rfl<|?_
   cases hm
   exact ⟨rfl, H.reads (fun r hr => hr)⟩
 ·refine pk 9 E (kc 8 rfl hb4) rfl fun a E=>nt<|wp_ret<|out1 E rfl rfl<|?_
  cases hm
  exact ⟨rfl, H.reads (fun r hr => hr)⟩

def m_cantonref01_Part_j1 (rec_1 : Int → Option Bool) (x2 : Int) (b7 : Bool) : Option Bool :=
  if b7 = true then (some (false)) else (rec_1 (IntKind.i64.wrap (x2 + 1)))
def m_cantonref01_Part_l1 (s1 : ByteArray) : Nat → Int → Option Bool
  | 0, _ => none
  | k1 + 1, x2 =>
    if (decide (x2 < (s1.size : Int))) = true then ((idx s1.data.toList x2).bind fun x5 => if ((x5.toNat : Int) != 45) = true then (if (decide ((x5.toNat : Int) < 97)) = true then (if (decide ((x5.toNat : Int) < 48)) = true then (m_cantonref01_Part_j1 (m_cantonref01_Part_l1 s1 k1) x2 true) else (m_cantonref01_Part_j1 (m_cantonref01_Part_l1 s1 k1) x2 (decide ((x5.toNat : Int) > 57)))) else (if (decide ((x5.toNat : Int) > 122)) = true then (if (decide ((x5.toNat : Int) < 48)) = true then (m_cantonref01_Part_j1 (m_cantonref01_Part_l1 s1 k1) x2 true) else (m_cantonref01_Part_j1 (m_cantonref01_Part_l1 s1 k1) x2 (decide ((x5.toNat : Int) > 57)))) else (m_cantonref01_Part_j1 (m_cantonref01_Part_l1 s1 k1) x2 false))) else (m_cantonref01_Part_j1 (m_cantonref01_Part_l1 s1 k1) x2 false)) else (if (decide ((s1.size : Int) ≥ 1)) = true then (some (decide ((s1.size : Int) ≤ 12))) else (some (false)))
def m_cantonref01_Part (s1 : ByteArray) : Option Bool :=
  m_cantonref01_Part_l1 s1 (((s1.size : Int) - 0 : Int).toNat + 1) 0
theorem c_cantonref01_Part {w : World} {Fo : List Ob} {rs : List Rp} (s1 : ByteArray) (H : Sep w (Fo) rs) {r : Bool} (hm : m_cantonref01_Part s1 = some r) :
    Calls Tryz.prog 155 [.string s1].toArray w (Ret fun v w' => .bool r = v ∧ Sep w' (Fo) (rs)) := by
 unfold m_cantonref01_Part at hm
 refine enter Tryz.func155 rfl Tryz.ntmps155 rfl fun a E =>?_
 simp only [enum, Nat.reduceAdd] at E
 refine sq<|pr 1 E rfl fun a E=>nt<|wp_seq<|sq<|pr 1 E rfl fun a E=>nt<|wp_block<|wp_loop_g (fun k1 a w => ∃ (x2 : Int) (rs3 : List Rp), Env 40 a [(0, .string s1), (3, .int .i64 x2)] ∧ Sep w (Fo) rs3 ∧ (∀ r, r ∈ rs → r ∈ rs3) ∧ m_cantonref01_Part_l1 s1 k1 x2 = some r) (((s1.size : Int) - 0 : Int).toNat + 1) ?_ ?_
 ·exact ⟨0, _, E.sel [0, 3] rfl, H, fun r hr => hr, hm⟩
 ·clear E H hm
  rintro k1 a w ⟨x2, rs3, E, H, hs4, hm⟩
  cases k1 with
  | zero => exact (none_some hm rfl).elim
  | succ k1 =>
   unfold m_cantonref01_Part_l1 at hm
   refine wp_seq<|sq<|pr 4 E rfl fun a E=>nt<|wif E hm rfl (fun hm=>?_) fun hm=>?_
   ·refine wp_skip<|q_then<|wp_seq<|wp_block<|sq<|pr 2 E rfl fun a E=>bd hm fun x5 hx6 hm=>sv E rfl rfl rfl (x_ix E rfl rfl rfl Tryz.underlying9 hx6) fun a E=>pr 1 E rfl fun a E=>?_
    refine nt<|wp_seq_cut (fun a w => ∃ (b7 : Bool) (rs8 : List Rp), Env 40 a [(0, .string s1), (3, .int .i64 x2), (31, .bool b7)] ∧ Sep w (Fo) rs8 ∧ (∀ r, r ∈ rs → r ∈ rs8) ∧ m_cantonref01_Part_j1 (m_cantonref01_Part_l1 s1 k1) x2 b7 = some r) ?_ ?_
    ·refine wp_region_lit<|pr 3 E rfl fun a E=>cs hm (fun hb10 hm=>?_) fun hb10 hm=>?_
     ·refine pk 3 E (kc 16 rfl hb10) rfl fun a E=>cs hm (fun hb11 hm=>?_) fun hb11 hm=>?_
      ·refine pk 8 E (kc' (kc 19 rfl hb11) 16 rfl hb10) rfl fun a E=>cs hm (fun hb12 hm=>?_) fun hb12 hm=>?_
       ·exact pk 4 E (kc 27 rfl hb12) rfl fun a E=>nt<|⟨true, _, E.sel [0, 3, 31] rfl, H, hs4, hm⟩
       ·exact pk 4 E (kc 27 rfl hb12) rfl fun a E=>nt<|⟨decide ((x5.toNat : Int) > 57), _, E.sel [0, 3, 31] rfl, H, hs4, hm⟩
      ·refine pk 5 E (kc' (kc 19 rfl hb11) 16 rfl hb10) rfl fun a E=>cs hm (fun hb13 hm=>?_) fun hb13 hm=>?_
       ·refine pk 3 E (kc 24 rfl hb13) rfl fun a E=>cs hm (fun hb14 hm=>?_) fun hb14 hm=>?_
        ·exact pk 4 E (kc' (kc 27 rfl hb14) 24 rfl hb13) rfl fun a E=>nt<|⟨true, _, E.sel [0, 3, 31] rfl, H, hs4, hm⟩
        ·exact pk 4 E (kc' (kc 27 rfl hb14) 24 rfl hb13) rfl fun a E=>nt<|⟨decide ((x5.toNat : Int) > 57), _, E.sel [0, 3, 31] rfl, H, hs4, hm⟩
       ·exact pk 7 E (kc 24 rfl hb13) rfl fun a E=>nt<|⟨false, _, E.sel [0, 3, 31] rfl, H, hs4, hm⟩
     ·exact pk 15 E (kc 16 rfl hb10) rfl fun a E=>nt<|⟨false, _, E.sel [0, 3, 31] rfl, H, hs4, hm⟩
    ·clear E H hm
     rintro a w ⟨b7, rs8, E, H, hs9, hm⟩
     unfold m_cantonref01_Part_j1 at hm
     refine wif E hm rfl (fun hm=>?_) fun hm=>?_
     ·refine sq<|pr 1 E rfl fun a E=>nt<|wp_ret<|q_blkR<|q_thenR<|q_thenR<|q_blkR<|q_thenR<|?_
      refine out1 E rfl rfl<|?_
      cases hm
      exact ⟨rfl, H.reads (hs9)⟩
     ·exact wp_skip<|q_blk<|q_then<|wp_region_lit<|pr 3 E rfl fun a E=>nt<|⟨k1, Nat.lt_succ_self k1, IntKind.i64.wrap (x2 + 1), _, E.sel [0, 3] rfl, H, hs9, hm⟩
   ·refine wp_exit<|q_thenX<|q_thenX<|q_hit<|q_then<|sq<|pr 4 E rfl fun a E=>cs hm (fun hb15 hm=>?_) fun hb15 hm=>?_
    ·refine pk 5 E (kc 35 rfl hb15) rfl fun a E=>nt<|wp_ret<|out1 E rfl rfl<|?_
     cases hm
     exact ⟨rfl, H.reads (hs4)⟩
    ·refine pk 5 E (kc 35 rfl hb15) rfl fun a E=>nt<|wp_ret<|out1 E rfl rfl<|?_
     cases hm
     exact ⟨rfl, H.reads (hs4)⟩

def m_internal_stringslite_HasPrefix (s1 : ByteArray) (s2 : ByteArray) : Option Bool :=
  if (decide ((s1.size : Int) ≥ (s2.size : Int))) = true then ((ck (0 ≤ (s2.size : Int) ∧ (s2.size : Int) ≤ s1.size)).bind fun u4 => some (sEq (s1.extract 0 (s2.size : Int).toNat) s2)) else (some (false))
theorem c_internal_stringslite_HasPrefix {w : World} {Fo : List Ob} {rs : List Rp} (s1 : ByteArray) (s2 : ByteArray) (H : Sep w (Fo) rs) {r : Bool} (hm : m_internal_stringslite_HasPrefix s1 s2 = some r) :
    Calls Tryz.prog 201 [.string s1, .string s2].toArray w (Ret fun v w' => .bool r = v ∧ Sep w' (Fo) (rs)) := by
 unfold m_internal_stringslite_HasPrefix at hm
 refine enter Tryz.func201 rfl Tryz.ntmps201 rfl fun a E =>?_
 simp only [enum, Nat.reduceAdd] at E
 refine sq<|pr 1 E rfl fun a E=>nx<|pr 6 E rfl fun a E=>cs hm (fun hb3 hm=>?_) fun hb3 hm=>?_
 ·refine pk 3 E (kc 10 rfl hb3) rfl fun a E=>bk hm fun hx5 hm=>st_val E (ws' (d := 10) E rfl rfl rfl rfl hb3) rfl rfl (x_subH E rfl rfl rfl Tryz.underlying9 hx5) fun a E=>pk 4 E (kc 10 rfl hb3) rfl fun a E=>nt<|wp_ret<|out1 E rfl rfl<|?_
  cases hm
  exact ⟨rfl, H.reads (fun r hr => hr)⟩
 ·refine pk 8 E (kc 10 rfl hb3) rfl fun a E=>nt<|wp_ret<|out1 E rfl rfl<|?_
  cases hm
  exact ⟨rfl, H.reads (fun r hr => hr)⟩

def m_internal_stringslite_CutPrefix (s1 : ByteArray) (s2 : ByteArray) : Option (ByteArray × Bool) :=
  (m_internal_stringslite_HasPrefix s1 s2).bind fun u3 => if (!u3) = true then (some (s1, false)) else ((ck (0 ≤ (s2.size : Int) ∧ (s2.size : Int) ≤ s1.size)).bind fun u5 => some (s1.extract (s2.size : Int).toNat s1.size, true))
theorem c_internal_stringslite_CutPrefix {w : World} {Fo : List Ob} {rs : List Rp} (s1 : ByteArray) (s2 : ByteArray) (H : Sep w (Fo) rs) {r : ByteArray × Bool} (hm : m_internal_stringslite_CutPrefix s1 s2 = some r) :
    Calls Tryz.prog 187 [.string s1, .string s2].toArray w (Ret fun v w' => .tuple #[.string r.1, .bool r.2] = v ∧ Sep w' (Fo) (rs)) := by
 unfold m_internal_stringslite_CutPrefix at hm
 refine enter Tryz.func187 rfl Tryz.ntmps187 rfl fun a E =>?_
 simp only [enum, Nat.reduceAdd] at E
 refine sq<|pr 2 E rfl fun a E=>nt<|wp_seq<|sq<|pr 2 E rfl fun a E=>bd hm fun u3 hx4 hm=>x_cl E rfl rfl rfl rfl rfl cf201 (c_internal_stringslite_HasPrefix s1 s2 H hx4)<|?_
 rintro _ w ⟨rfl, H⟩ a E
 refine pr 1 E rfl fun a E=>nt<|wif E hm rfl (fun hm=>?_) fun hm=>?_
 ·refine sq<|pr 3 E rfl fun a E=>nt<|wp_ret<|q_thenR<|out2 E rfl rfl rfl<|?_
  cases hm
  exact ⟨rfl, H.reads (fun r hr => hr)⟩
 ·refine wp_skip<|q_then<|sq<|pr 3 E rfl fun a E=>bk hm fun hx6 hm=>sv E rfl rfl rfl (x_subL E rfl rfl rfl Tryz.underlying9 hx6) fun a E=>pr 2 E rfl fun a E=>nt<|wp_ret<|?_
  refine out2 E rfl rfl rfl<|?_
  cases hm
  exact ⟨rfl, H.reads (fun r hr => hr)⟩

def m_strings_CutPrefix (s1 : ByteArray) (s2 : ByteArray) : Option (ByteArray × Bool) :=
  (m_internal_stringslite_CutPrefix s1 s2).bind fun u3 => some (u3.1, u3.2)
theorem c_strings_CutPrefix {w : World} {Fo : List Ob} {rs : List Rp} (s1 : ByteArray) (s2 : ByteArray) (H : Sep w (Fo) rs) {r : ByteArray × Bool} (hm : m_strings_CutPrefix s1 s2 = some r) :
    Calls Tryz.prog 165 [.string s1, .string s2].toArray w (Ret fun v w' => .tuple #[.string r.1, .bool r.2] = v ∧ Sep w' (Fo) (rs)) := by
 unfold m_strings_CutPrefix at hm
 refine enter Tryz.func165 rfl Tryz.ntmps165 rfl fun a E =>?_
 simp only [enum, Nat.reduceAdd] at E
 refine sq<|pr 2 E rfl fun a E=>nx<|pr 2 E rfl fun a E=>bd hm fun u3 hx4 hm=>x_cl E rfl rfl rfl rfl rfl cf187 (c_internal_stringslite_CutPrefix s1 s2 H hx4)<|?_
 rintro _ w ⟨rfl, H⟩ a E
 refine pr 4 E rfl fun a E=>nt<|wp_ret<|out2 E rfl rfl rfl<|?_
 cases hm
 exact ⟨rfl, H.reads (fun r hr => hr)⟩

def m_path_Split_j1 : Option ((List ByteArray) × Bool) :=
  some ([], false)
def m_path_Split_j2 (rec_1 : ByteArray → (List ByteArray) → Option ((List ByteArray) × Bool)) (u9 : ByteArray × Bool) (l6 : (List ByteArray)) (x14 : Int) : Option ((List ByteArray) × Bool) :=
  (ck (0 ≤ x14 ∧ x14 ≤ u9.1.size)).bind fun u17 => (m_path_part (u9.1.extract 0 x14.toNat)).bind fun u19 => if (!u19) = true then (m_path_Split_j1) else ((ck (0 ≤ x14 ∧ x14 ≤ u9.1.size)).bind fun u21 => (ck (l6.length + ([u9.1.extract 0 x14.toNat] : List ByteArray).length ≤ LIM)).bind fun u25 => (ck (0 ≤ x14 ∧ x14 ≤ u9.1.size)).bind fun u27 => rec_1 (u9.1.extract x14.toNat u9.1.size) (l6 ++ ([u9.1.extract 0 x14.toNat] : List ByteArray)))
def m_path_Split_l1 : Nat → ByteArray → (List ByteArray) → Option ((List ByteArray) × Bool)
  | 0, _, _ => none
  | k1 + 1, s4, l6 =>
    if (!(sEq s4 (ByteArray.mk #[]))) = true then ((m_strings_CutPrefix s4 (ByteArray.mk #[47])).bind fun u9 => if (!u9.2) = true then (m_path_Split_j1) else (if ((l6.length : Int) == 6) = true then (m_path_Split_j1) else ((m_strings_IndexByte u9.1 47).bind fun u12 => if (decide (u12 < 0)) = true then (m_path_Split_j2 (m_path_Split_l1 k1) u9 l6 (u9.1.size : Int)) else (m_path_Split_j2 (m_path_Split_l1 k1) u9 l6 u12)))) else (if (decide ((l6.length : Int) > 0)) = true then (some (l6, true)) else (some ([], false)))
def m_path_Split (s1 : ByteArray) : Option ((List ByteArray) × Bool) :=
  if (sEq s1 (ByteArray.mk #[47])) = true then (some ([], true)) else (m_path_Split_l1 (s1.size + 2) s1 [])
theorem c_path_Split {w : World} {Fo : List Ob} {rs : List Rp} (s1 : ByteArray) (H : Sep w (Fo) rs) {r : (List ByteArray) × Bool} (hm : m_path_Split s1 = some r) :
    Calls Tryz.prog 145 [.string s1].toArray w (Ret fun v w' => ∃ (v5001 : Value), .tuple #[v5001, .bool r.2] = v ∧ Sep w' (Row 9 kS v5001 r.1 :: Fo) (rs)) := by
 unfold m_path_Split at hm
 refine enter Tryz.func145 rfl Tryz.ntmps145 rfl fun a E =>?_
 simp only [enum, Nat.reduceAdd] at E
 refine sq<|pr 2 E rfl fun a E=>nt<|?_
 refine wp_scope_jumps 0 (fun a w => ∃ (rs2 : List Rp), Env 48 a [] ∧ Sep w (Fo) rs2 ∧ (∀ r, r ∈ rs → r ∈ rs2) ∧ m_path_Split_j1 = some r) (fun _ _ => 0) rfl ?_ ?_
 ·refine sq<|pr 1 E rfl fun a E=>nt<|wp_seq<|sq<|pr 2 E rfl fun a E=>nt<|wif E hm rfl (fun hm=>?_) fun hm=>?_
  ·refine sq<|pr 2 E rfl fun a E=>nt<|wp_ret<|q_thenR<|q_jumpR<|out2 E rfl rfl rfl<|have H:=H.nilRow 9 kS;?_
   cases hm
   exact ⟨(.slice none 0 0), rfl, H.reads (fun r hr => hr)⟩
  ·refine wp_skip<|q_then<|wp_seq<|wp_block<|wp_loop_g (fun k1 a w => ∃ (v5 : Value) (s4 : ByteArray) (l6 : (List ByteArray)) (rs7 : List Rp), Env 48 a [(0, .string s4), (4, v5)] ∧ Sep w (Row 9 kS v5 l6 :: Fo) rs7 ∧ (∀ r, r ∈ rs → r ∈ rs7) ∧ m_path_Split_l1 k1 s4 l6 = some r) (s1.size + 2) ?_ ?_
   ·exact have H:=H.nilRow 9 kS;⟨(.slice none 0 0), s1, [], _, E.sel [0, 4] rfl, H, fun r hr => hr, hm⟩
   ·clear E H hm
    rintro k1 a w ⟨v5, s4, l6, rs7, E, H, hs8, hm⟩
    cases k1 with
    | zero => exact (none_some hm rfl).elim
    | succ k1 =>
     unfold m_path_Split_l1 at hm
     refine wp_seq<|sq<|pr 2 E rfl fun a E=>nt<|wif E hm rfl (fun hm=>?_) fun hm=>?_
     ·refine wp_skip<|q_then<|wp_block<|sq<|pr 1 E rfl fun a E=>bd hm fun u9 hx10 hm=>x_cl E rfl rfl rfl rfl rfl cf165 (c_strings_CutPrefix s4 (ByteArray.mk #[47]) H hx10)<|?_
      rintro _ w ⟨rfl, H⟩ a E
      refine pr 5 E rfl fun a E=>nt<|wp_seq<|sq<|pr 3 E rfl fun a E=>cs hm (fun hb11 hm=>?_) fun hb11 hm=>?_
      ·refine pk 4 E (kc 19 rfl hb11) rfl fun a E=>nt<|wp_cond_true (E.eval rfl)<|wp_goto<|q_thenG<|q_blkG<|q_thenG<|q_blkG<|q_thenG<|?_
       exact q_jump<|have H:=H.drop 0;⟨_, E.nil, H, hs8, hm⟩
      ·refine pk 1 E (kc 19 rfl hb11) rfl fun a E=>st_val E (ws' (d := 19) E rfl rfl rfl rfl hb11) rfl rfl (x_lenR (i := 0) E H rfl rfl rfl Tryz.underlying49) fun a E=>pk 2 E (kc 19 rfl hb11) rfl fun a E=>nt<|wif E hm rfl (fun hm=>?_) fun hm=>?_
       ·exact wp_goto<|q_thenG<|q_blkG<|q_thenG<|q_blkG<|q_thenG<|q_jump<|have H:=H.drop 0;⟨_, E.nil, H, hs8, hm⟩
       ·refine wp_skip<|q_then<|sq<|pr 1 E rfl fun a E=>bd hm fun u12 hx13 hm=>x_cl E rfl rfl rfl rfl rfl cf166 (c_strings_IndexByte u9.1 47 H hx13)<|?_
        rintro _ w ⟨rfl, H⟩ a E
        refine pr 1 E rfl fun a E=>nt<|wp_seq_cut (fun a w => ∃ (x14 : Int) (rs15 : List Rp), Env 48 a [(4, v5), (5, .string u9.1), (7, .int .i64 x14)] ∧ Sep w (Row 9 kS v5 l6 :: Fo) rs15 ∧ (∀ r, r ∈ rs → r ∈ rs15) ∧ m_path_Split_j2 (m_path_Split_l1 k1) u9 l6 x14 = some r) ?_ ?_
        ·refine sq<|pr 2 E rfl fun a E=>nt<|wif E hm rfl (fun hm=>?_) fun hm=>?_
         ·exact wp_region_lit<|pr 3 E rfl fun a E=>nt<|⟨(u9.1.size : Int), _, E.sel [4, 5, 7] rfl, H, hs8, hm⟩
         ·exact wp_skip<|q_then<|⟨u12, _, E.sel [4, 5, 7] rfl, H, hs8, hm⟩
        ·clear E H hm
         rintro a w ⟨x14, rs15, E, H, hs16, hm⟩
         unfold m_path_Split_j2 at hm
         refine wp_seq<|sq<|pr 2 E rfl fun a E=>bk hm fun hx18 hm=>sv E rfl rfl rfl (x_subH E rfl rfl rfl Tryz.underlying9 hx18) fun a E=>bd hm fun u19 hx20 hm=>x_cl E rfl rfl rfl rfl rfl cf151 (c_path_part (u9.1.extract 0 x14.toNat) H hx20)<|?_
         rintro _ w ⟨rfl, H⟩ a E
         refine pr 1 E rfl fun a E=>nt<|wif E hm rfl (fun hm=>?_) fun hm=>?_
         ·exact wp_goto<|q_thenG<|q_blkG<|q_thenG<|q_blkG<|q_thenG<|q_jump<|have H:=H.drop 0;⟨_, E.nil, H, hs16, hm⟩
         ·refine wp_skip<|q_then<|sq<|pr 3 E rfl fun a E=>bk hm fun hx22 hm=>sv E rfl rfl rfl (x_subH E rfl rfl rfl Tryz.underlying9 hx22) fun a E=>st_bsR (e := 9) (d := kS) (cs := [.string (u9.1.extract 0 x14.toNat)]) (xs := [u9.1.extract 0 x14.toNat]) E H (wn rfl) rfl rfl rfl (E.evs rfl) (by kernel_rfl) rfl (fun ok hr => (Rows.single (d := kS) (cs := [.string (u9.1.extract 0 x14.toNat)]) (x := u9.1.extract 0 x14.toNat) rfl)) fun v23 w a H E=>bk hm fun hx26 hm=>st_append (i := 0) E H (wn rfl) rfl rfl rfl rfl rfl rfl (src_rd m0) Tryz.underlying49 inf9 rfl hx26 rfl fun v24 w a H E=>?_
          refine pr 1 E rfl fun a E=>nt<|wp_region_lit<|pr 2 E rfl fun a E=>bk hm fun hx28 hm=>sv E rfl rfl rfl (x_subL E rfl rfl rfl Tryz.underlying9 hx28) fun a E=>pr 1 E rfl fun a E=>wpList_nil<|q_blk<|?_
          exact q_then<|⟨k1, Nat.lt_succ_self k1, v24, u9.1.extract x14.toNat u9.1.size, l6 ++ ([u9.1.extract 0 x14.toNat] : List ByteArray), _, E.sel [0, 4] rfl, H, fun r hr => (t1 (hs16 r hr)), hm⟩
     ·refine wp_exit<|q_thenX<|q_thenX<|q_hit<|q_then<|wp_seq<|sq<|pr 1 E rfl fun a E=>sv E rfl rfl rfl (x_lenR (i := 0) E H rfl rfl rfl Tryz.underlying49) fun a E=>?_
      refine pr 1 E rfl fun a E=>nt<|wif E hm rfl (fun hm=>?_) fun hm=>?_
      ·refine sq<|pr 3 E rfl fun a E=>nt<|wp_ret<|q_thenR<|q_jumpR<|out2 E rfl rfl rfl<|?_
       cases hm
       exact ⟨v5, rfl, H.reads (hs8)⟩
      ·refine wp_skip<|q_then<|wp_seq<|wp_label<|q_then<|sq<|pr 2 E rfl fun a E=>nt<|wp_ret<|?_
       refine q_jumpR<|out2 E rfl rfl rfl<|have H:=H.nilRow 9 kS;have H:=H.drop 1;?_
       cases hm
       exact ⟨(.slice none 0 0), rfl, H.reads (hs8)⟩
 ·clear E H hm
  rintro a w ⟨rs2, E, H, hs3, hm⟩
  unfold m_path_Split_j1 at hm
  refine wp_seq<|wp_skip<|q_then<|sq<|pr 2 E rfl fun a E=>nt<|wp_ret<|q_jumpR<|out2 E rfl rfl rfl<|?_
  refine have H:=H.nilRow 9 kS;?_
  cases hm
  exact ⟨(.slice none 0 0), rfl, H.reads (hs3)⟩

def m_path_Right (s1 : ByteArray) : Option Bool :=
  (m_path_Split s1).bind fun u2 => some (u2.2)
theorem c_path_Right {w : World} {Fo : List Ob} {rs : List Rp} (s1 : ByteArray) (H : Sep w (Fo) rs) {r : Bool} (hm : m_path_Right s1 = some r) :
    Calls Tryz.prog 98 [.string s1].toArray w (Ret fun v w' => .bool r = v ∧ Sep w' (Fo) (rs)) := by
 unfold m_path_Right at hm
 refine enter Tryz.func98 rfl Tryz.ntmps98 rfl fun a E =>?_
 simp only [enum, Nat.reduceAdd] at E
 refine sq<|pr 1 E rfl fun a E=>nx<|pr 1 E rfl fun a E=>bd hm fun u2 hx3 hm=>x_cl E rfl rfl rfl rfl rfl cf145 (c_path_Split s1 H hx3)<|?_
 rintro _ w ⟨v4, rfl, H⟩ a E
 refine pr 5 E rfl fun a E=>nx<|pr 2 E rfl fun a E=>nt<|wp_ret<|out1 E rfl rfl<|have H:=H.drop 0;?_
 cases hm
 exact ⟨rfl, H.reads (fun r hr => hr)⟩

def m_cantonref01_Split_j2 (rec_1 : (List ByteArray) → Int → Int → Option ((List ByteArray) × Bool)) (x8 : Int) (l12 : (List ByteArray)) (x13 : Int) : Option ((List ByteArray) × Bool) :=
  rec_1 l12 x13 (IntKind.i64.wrap (x8 + 1))
def m_cantonref01_Split_j4 (rec_1 : (List ByteArray) → Int → Int → Option ((List ByteArray) × Bool)) (x8 : Int) (x7 : Int) (s1 : ByteArray) (l6 : (List ByteArray)) (b18 : Bool) : Option ((List ByteArray) × Bool) :=
  if b18 = true then (some ([], false)) else ((ck (0 ≤ x7 ∧ x7 ≤ x8 ∧ x8 ≤ s1.size)).bind fun u21 => (ck (l6.length + ([s1.extract x7.toNat x8.toNat] : List ByteArray).length ≤ LIM)).bind fun u25 => m_cantonref01_Split_j2 rec_1 x8 (l6 ++ ([s1.extract x7.toNat x8.toNat] : List ByteArray)) (IntKind.i64.wrap (x8 + 1)))
def m_cantonref01_Split_j3 (rec_1 : (List ByteArray) → Int → Int → Option ((List ByteArray) × Bool)) (x8 : Int) (x7 : Int) (s1 : ByteArray) (l6 : (List ByteArray)) : Option ((List ByteArray) × Bool) :=
  (ck (0 ≤ x7 ∧ x7 ≤ x8 ∧ x8 ≤ s1.size)).bind fun u27 => (m_cantonref01_Part (s1.extract x7.toNat x8.toNat)).bind fun u29 => if (!u29) = true then (m_cantonref01_Split_j4 rec_1 x8 x7 s1 l6 true) else (m_cantonref01_Split_j4 rec_1 x8 x7 s1 l6 (decide ((l6.length : Int) ≥ 6)))
def m_cantonref01_Split_l1 (s1 : ByteArray) : Nat → (List ByteArray) → Int → Int → Option ((List ByteArray) × Bool)
  | 0, _, _, _ => none
  | k1 + 1, l6, x7, x8 =>
    if (decide (x8 ≤ (s1.size : Int))) = true then (if (decide (x8 < (s1.size : Int))) = true then ((idx s1.data.toList x8).bind fun x33 => if ((x33.toNat : Int) != 47) = true then (m_cantonref01_Split_j2 (m_cantonref01_Split_l1 s1 k1) x8 l6 x7) else (m_cantonref01_Split_j3 (m_cantonref01_Split_l1 s1 k1) x8 x7 s1 l6)) else (m_cantonref01_Split_j3 (m_cantonref01_Split_l1 s1 k1) x8 x7 s1 l6)) else (some (l6, true))
def m_cantonref01_Split_j1 (s1 : ByteArray) (b2 : Bool) : Option ((List ByteArray) × Bool) :=
  if b2 = true then (some ([], false)) else (m_cantonref01_Split_l1 s1 (((s1.size : Int) - 1 : Int).toNat + 2) [] 1 1)
def m_cantonref01_Split (s1 : ByteArray) : Option ((List ByteArray) × Bool) :=
  if (sEq s1 (ByteArray.mk #[47])) = true then (some ([], true)) else (if (sEq s1 (ByteArray.mk #[])) = true then (m_cantonref01_Split_j1 s1 true) else ((idx s1.data.toList 0).bind fun x36 => m_cantonref01_Split_j1 s1 ((x36.toNat : Int) != 47)))
theorem c_cantonref01_Split {w : World} {Fo : List Ob} {rs : List Rp} (s1 : ByteArray) (H : Sep w (Fo) rs) {r : (List ByteArray) × Bool} (hm : m_cantonref01_Split s1 = some r) :
    Calls Tryz.prog 129 [.string s1].toArray w (Ret fun v w' => ∃ (v5001 : Value), .tuple #[v5001, .bool r.2] = v ∧ Sep w' (Row 9 kS v5001 r.1 :: Fo) (rs)) := by
 unfold m_cantonref01_Split at hm
 refine enter Tryz.func129 rfl Tryz.ntmps129 rfl fun a E =>?_
 simp only [enum, Nat.reduceAdd] at E
 refine sq<|pr 2 E rfl fun a E=>nt<|wp_seq<|sq<|pr 2 E rfl fun a E=>nt<|wif E hm rfl (fun hm=>?_) fun hm=>?_
 ·refine sq<|pr 2 E rfl fun a E=>nt<|wp_ret<|q_thenR<|out2 E rfl rfl rfl<|have H:=H.nilRow 9 kS;?_
  cases hm
  exact ⟨(.slice none 0 0), rfl, H.reads (fun r hr => hr)⟩
 ·refine wp_skip<|q_then<|wp_seq<|wp_seq_cut (fun a w => ∃ (b2 : Bool) (rs3 : List Rp), Env 53 a [(0, .string s1), (15, .bool b2)] ∧ Sep w (Fo) rs3 ∧ (∀ r, r ∈ rs → r ∈ rs3) ∧ m_cantonref01_Split_j1 s1 b2 = some r) ?_ ?_
  ·refine wp_region_lit<|pr 3 E rfl fun a E=>cs hm (fun hb35 hm=>?_) fun hb35 hm=>?_
   ·exact pk 4 E (kc 11 rfl hb35) rfl fun a E=>nt<|⟨true, _, E.sel [0, 15] rfl, H, fun r hr => hr, hm⟩
   ·exact pk 1 E (kc 11 rfl hb35) rfl fun a E=>bd hm fun x36 hx37 hm=>st_val E (ws' (d := 11) E rfl rfl rfl rfl hb35) rfl rfl (x_ix E rfl rfl rfl Tryz.underlying9 hx37) fun a E=>pk 2 E (kc 11 rfl hb35) rfl fun a E=>nt<|⟨(x36.toNat : Int) != 47, _, E.sel [0, 15] rfl, H, fun r hr => hr, hm⟩
  ·clear E H hm
   rintro a w ⟨b2, rs3, E, H, hs4, hm⟩
   unfold m_cantonref01_Split_j1 at hm
   refine wif E hm rfl (fun hm=>?_) fun hm=>?_
   ·refine sq<|pr 2 E rfl fun a E=>nt<|wp_ret<|q_thenR<|out2 E rfl rfl rfl<|have H:=H.nilRow 9 kS;?_
    cases hm
    exact ⟨(.slice none 0 0), rfl, H.reads (hs4)⟩
   ·refine wp_skip<|q_then<|sq<|pr 1 E rfl fun a E=>nx<|pr 1 E rfl fun a E=>nt<|wp_seq<|sq<|?_
    refine pr 1 E rfl fun a E=>nt<|wp_block<|wp_loop_g (fun k1 a w => ∃ (v5 : Value) (l6 : (List ByteArray)) (x7 : Int) (x8 : Int) (rs9 : List Rp), Env 53 a [(0, .string s1), (4, v5), (5, .int .i64 x7), (6, .int .i64 x8)] ∧ Sep w (Row 9 kS v5 l6 :: Fo) rs9 ∧ (∀ r, r ∈ rs → r ∈ rs9) ∧ m_cantonref01_Split_l1 s1 k1 l6 x7 x8 = some r) (((s1.size : Int) - 1 : Int).toNat + 2) ?_ ?_
    ·exact have H:=H.nilRow 9 kS;⟨(.slice none 0 0), [], 1, 1, _, E.sel [0, 4, 5, 6] rfl, H, hs4, hm⟩
    ·clear E H hm
     rintro k1 a w ⟨v5, l6, x7, x8, rs9, E, H, hs10, hm⟩
     cases k1 with
     | zero => exact (none_some hm rfl).elim
     | succ k1 =>
      unfold m_cantonref01_Split_l1 at hm
      refine wp_seq<|sq<|pr 4 E rfl fun a E=>nt<|wif E hm rfl (fun hm=>?_) fun hm=>?_
      ·refine wp_skip<|q_then<|wp_seq_cut (fun a w => ∃ (v11 : Value) (l12 : (List ByteArray)) (x13 : Int) (rs14 : List Rp), Env 53 a [(0, .string s1), (4, v11), (5, .int .i64 x13), (6, .int .i64 x8)] ∧ Sep w (Row 9 kS v11 l12 :: Fo) rs14 ∧ (∀ r, r ∈ rs → r ∈ rs14) ∧ m_cantonref01_Split_j2 (m_cantonref01_Split_l1 s1 k1) x8 l12 x13 = some r) ?_ ?_
       ·refine wp_block<|wp_seq_cut (fun a w => ∃ (rs16 : List Rp), Env 53 a [(0, .string s1), (4, v5), (5, .int .i64 x7), (6, .int .i64 x8)] ∧ Sep w (Row 9 kS v5 l6 :: Fo) rs16 ∧ (∀ r, r ∈ rs → r ∈ rs16) ∧ m_cantonref01_Split_j3 (m_cantonref01_Split_l1 s1 k1) x8 x7 s1 l6 = some r) ?_ ?_
        ·refine sq<|pr 5 E rfl fun a E=>cs hm (fun hb32 hm=>?_) fun hb32 hm=>?_
         ·refine pk 2 E (kc 26 rfl hb32) rfl fun a E=>bd hm fun x33 hx34 hm=>st_val E (ws' (d := 26) E rfl rfl rfl rfl hb32) rfl rfl (x_ix E rfl rfl rfl Tryz.underlying9 hx34) fun a E=>pk 2 E (kc 26 rfl hb32) rfl fun a E=>nt<|wif E hm rfl (fun hm=>?_) fun hm=>?_
          ·exact wp_exit<|q_thenX<|q_hit<|q_then<|⟨v5, l6, x7, _, E.sel [0, 4, 5, 6] rfl, H, hs10, hm⟩
          ·exact wp_skip<|q_then<|⟨_, E.sel [0, 4, 5, 6] rfl, H, hs10, hm⟩
         ·exact pk 5 E (kc 26 rfl hb32) rfl fun a E=>nt<|wp_cond_false (E.eval rfl)<|wp_skip<|q_then<|⟨_, E.sel [0, 4, 5, 6] rfl, H, hs10, hm⟩
        ·clear E H hm
         rintro a w ⟨rs16, E, H, hs17, hm⟩
         unfold m_cantonref01_Split_j3 at hm
         refine wp_seq<|wp_seq_cut (fun a w => ∃ (b18 : Bool) (rs19 : List Rp), Env 53 a [(0, .string s1), (4, v5), (5, .int .i64 x7), (6, .int .i64 x8), (42, .bool b18)] ∧ Sep w (Row 9 kS v5 l6 :: Fo) rs19 ∧ (∀ r, r ∈ rs → r ∈ rs19) ∧ m_cantonref01_Split_j4 (m_cantonref01_Split_l1 s1 k1) x8 x7 s1 l6 b18 = some r) ?_ ?_
         ·refine wp_region_lit<|pr 3 E rfl fun a E=>bk hm fun hx28 hm=>sv E rfl rfl rfl (x_sub E rfl rfl rfl rfl Tryz.underlying9 hx28) fun a E=>bd hm fun u29 hx30 hm=>x_cl E rfl rfl rfl rfl rfl cf155 (c_cantonref01_Part (s1.extract x7.toNat x8.toNat) H hx30)<|?_
          rintro _ w ⟨rfl, H⟩ a E
          refine pr 2 E rfl fun a E=>cs hm (fun hb31 hm=>?_) fun hb31 hm=>?_
          ·exact pk 4 E (kc 38 rfl hb31) rfl fun a E=>nt<|⟨true, _, E.sel [0, 4, 5, 6, 42] rfl, H, hs17, hm⟩
          ·exact pk 1 E (kc 38 rfl hb31) rfl fun a E=>st_val E (ws' (d := 38) E rfl rfl rfl rfl hb31) rfl rfl (x_lenR (i := 0) E H rfl rfl rfl Tryz.underlying49) fun a E=>pk 2 E (kc 38 rfl hb31) rfl fun a E=>nt<|⟨decide ((l6.length : Int) ≥ 6), _, E.sel [0, 4, 5, 6, 42] rfl, H, hs17, hm⟩
         ·clear E H hm
          rintro a w ⟨b18, rs19, E, H, hs20, hm⟩
          unfold m_cantonref01_Split_j4 at hm
          refine wif E hm rfl (fun hm=>?_) fun hm=>?_
          ·refine sq<|pr 2 E rfl fun a E=>nt<|wp_ret<|q_thenR<|q_blkR<|q_thenR<|q_thenR<|q_blkR<|?_
           refine q_thenR<|out2 E rfl rfl rfl<|have H:=H.nilRow 9 kS;have H:=H.drop 1;?_
           cases hm
           exact ⟨(.slice none 0 0), rfl, H.reads (hs20)⟩
          ·refine wp_skip<|q_then<|sq<|pr 4 E rfl fun a E=>bk hm fun hx22 hm=>sv E rfl rfl rfl (x_sub E rfl rfl rfl rfl Tryz.underlying9 hx22) fun a E=>st_bsR (e := 9) (d := kS) (cs := [.string (s1.extract x7.toNat x8.toNat)]) (xs := [s1.extract x7.toNat x8.toNat]) E H (wn rfl) rfl rfl rfl (E.evs rfl) (by kernel_rfl) rfl (fun ok hr => (Rows.single (d := kS) (cs := [.string (s1.extract x7.toNat x8.toNat)]) (x := s1.extract x7.toNat x8.toNat) rfl)) fun v23 w a H E=>bk hm fun hx26 hm=>st_append (i := 0) E H (wn rfl) rfl rfl rfl rfl rfl rfl (src_rd m0) Tryz.underlying49 inf9 rfl hx26 rfl fun v24 w a H E=>?_
           exact pr 1 E rfl fun a E=>nt<|wp_region_lit<|pr 3 E rfl fun a E=>wpList_nil<|q_blk<|q_then<|⟨v24, l6 ++ ([s1.extract x7.toNat x8.toNat] : List ByteArray), IntKind.i64.wrap (x8 + 1), _, E.sel [0, 4, 5, 6] rfl, H, fun r hr => (t1 (hs20 r hr)), hm⟩
       ·clear E H hm
        rintro a w ⟨v11, l12, x13, rs14, E, H, hs15, hm⟩
        unfold m_cantonref01_Split_j2 at hm
        exact wp_region_lit<|pr 3 E rfl fun a E=>nt<|⟨k1, Nat.lt_succ_self k1, v11, l12, x13, IntKind.i64.wrap (x8 + 1), _, E.sel [0, 4, 5, 6] rfl, H, hs15, hm⟩
      ·refine wp_exit<|q_thenX<|q_thenX<|q_hit<|q_then<|sq<|pr 3 E rfl fun a E=>nt<|wp_ret<|?_
       refine out2 E rfl rfl rfl<|?_
       cases hm
       exact ⟨v5, rfl, H.reads (hs10)⟩

def m_cantonref01_Right (s1 : ByteArray) : Option Bool :=
  (m_cantonref01_Split s1).bind fun u2 => some (u2.2)
theorem c_cantonref01_Right {w : World} {Fo : List Ob} {rs : List Rp} (s1 : ByteArray) (H : Sep w (Fo) rs) {r : Bool} (hm : m_cantonref01_Right s1 = some r) :
    Calls Tryz.prog 71 [.string s1].toArray w (Ret fun v w' => .bool r = v ∧ Sep w' (Fo) (rs)) := by
 unfold m_cantonref01_Right at hm
 refine enter Tryz.func71 rfl Tryz.ntmps71 rfl fun a E =>?_
 simp only [enum, Nat.reduceAdd] at E
 refine sq<|pr 1 E rfl fun a E=>nx<|pr 1 E rfl fun a E=>bd hm fun u2 hx3 hm=>x_cl E rfl rfl rfl rfl rfl cf129 (c_cantonref01_Split s1 H hx3)<|?_
 rintro _ w ⟨v4, rfl, H⟩ a E
 refine pr 5 E rfl fun a E=>nx<|pr 2 E rfl fun a E=>nt<|wp_ret<|out1 E rfl rfl<|have H:=H.drop 0;?_
 cases hm
 exact ⟨rfl, H.reads (fun r hr => hr)⟩

def m_internal_bytealg_LastIndexByteString_l1 (s1 : ByteArray) : Nat → Int → Int → Option Int
  | 0, _, _ => none
  | k1 + 1, x3, x4 =>
    if (decide (x4 ≥ 0)) = true then ((idx s1.data.toList x4).bind fun x7 => if ((x7.toNat : Int) == x3) = true then (some (x4)) else (m_internal_bytealg_LastIndexByteString_l1 s1 k1 x3 (IntKind.i64.wrap (x4 - 1)))) else (some ((-1)))
def m_internal_bytealg_LastIndexByteString (s1 : ByteArray) (x2 : Int) : Option Int :=
  m_internal_bytealg_LastIndexByteString_l1 s1 (((IntKind.i64.wrap ((s1.size : Int) - 1)) - 0 : Int).toNat + 2) x2 (IntKind.i64.wrap ((s1.size : Int) - 1))
theorem c_internal_bytealg_LastIndexByteString {w : World} {Fo : List Ob} {rs : List Rp} (s1 : ByteArray) (x2 : Int) (H : Sep w (Fo) rs) {r : Int} (hm : m_internal_bytealg_LastIndexByteString s1 x2 = some r) :
    Calls Tryz.prog 194 [.string s1, .int .u8 x2].toArray w (Ret fun v w' => .int .i64 r = v ∧ Sep w' (Fo) (rs)) := by
 unfold m_internal_bytealg_LastIndexByteString at hm
 refine enter Tryz.func194 rfl Tryz.ntmps194 rfl fun a E =>?_
 simp only [enum, Nat.reduceAdd] at E
 refine sq<|pr 1 E rfl fun a E=>nt<|wp_seq<|sq<|pr 4 E rfl fun a E=>nt<|wp_block<|wp_loop_g (fun k1 a w => ∃ (x3 : Int) (x4 : Int) (rs5 : List Rp), Env 19 a [(0, .string s1), (1, .int .u8 x3), (5, .int .i64 x4)] ∧ Sep w (Fo) rs5 ∧ (∀ r, r ∈ rs → r ∈ rs5) ∧ m_internal_bytealg_LastIndexByteString_l1 s1 k1 x3 x4 = some r) (((IntKind.i64.wrap ((s1.size : Int) - 1)) - 0 : Int).toNat + 2) ?_ ?_
 ·exact ⟨x2, IntKind.i64.wrap ((s1.size : Int) - 1), _, E.sel [0, 1, 5] rfl, H, fun r hr => hr, hm⟩
 ·clear E H hm
  rintro k1 a w ⟨x3, x4, rs5, E, H, hs6, hm⟩
  cases k1 with
  | zero => exact (none_some hm rfl).elim
  | succ k1 =>
   unfold m_internal_bytealg_LastIndexByteString_l1 at hm
   refine wp_seq<|sq<|pr 2 E rfl fun a E=>nt<|wif E hm rfl (fun hm=>?_) fun hm=>?_
   ·refine wp_skip<|q_then<|wp_seq<|wp_block<|sq<|pr 2 E rfl fun a E=>bd hm fun x7 hx8 hm=>sv E rfl rfl rfl (x_ix E rfl rfl rfl Tryz.underlying9 hx8) fun a E=>pr 2 E rfl fun a E=>?_
    refine nt<|wif E hm rfl (fun hm=>?_) fun hm=>?_
    ·refine sq<|pr 2 E rfl fun a E=>nt<|wp_ret<|q_blkR<|q_thenR<|q_thenR<|q_blkR<|q_thenR<|?_
     refine out1 E rfl rfl<|?_
     cases hm
     exact ⟨rfl, H.reads (hs6)⟩
    ·exact wp_skip<|q_blk<|q_then<|wp_region_lit<|pr 3 E rfl fun a E=>nt<|⟨k1, Nat.lt_succ_self k1, x3, IntKind.i64.wrap (x4 - 1), _, E.sel [0, 1, 5] rfl, H, hs6, hm⟩
   ·refine wp_exit<|q_thenX<|q_thenX<|q_hit<|q_then<|sq<|pr 1 E rfl fun a E=>nt<|wp_ret<|?_
    refine out1 E rfl rfl<|?_
    cases hm
    exact ⟨rfl, H.reads (hs6)⟩

def m_strings_LastIndexByte (s1 : ByteArray) (x2 : Int) : Option Int :=
  (m_internal_bytealg_LastIndexByteString s1 x2).bind fun u3 => some (u3)
theorem c_strings_LastIndexByte {w : World} {Fo : List Ob} {rs : List Rp} (s1 : ByteArray) (x2 : Int) (H : Sep w (Fo) rs) {r : Int} (hm : m_strings_LastIndexByte s1 x2 = some r) :
    Calls Tryz.prog 178 [.string s1, .int .u8 x2].toArray w (Ret fun v w' => .int .i64 r = v ∧ Sep w' (Fo) (rs)) := by
 unfold m_strings_LastIndexByte at hm
 refine enter Tryz.func178 rfl Tryz.ntmps178 rfl fun a E =>?_
 simp only [enum, Nat.reduceAdd] at E
 refine sq<|pr 1 E rfl fun a E=>nx<|pr 2 E rfl fun a E=>bd hm fun u3 hx4 hm=>x_cl E rfl rfl rfl rfl rfl cf194 (c_internal_bytealg_LastIndexByteString s1 x2 H hx4)<|?_
 rintro _ w ⟨rfl, H⟩ a E
 refine pr 1 E rfl fun a E=>nt<|wp_ret<|out1 E rfl rfl<|?_
 cases hm
 exact ⟨rfl, H.reads (fun r hr => hr)⟩

def m_path_cut_j1 (s1 : ByteArray) (b2 : Bool) : Option (ByteArray × ByteArray × Bool) :=
  if b2 = true then (some ((ByteArray.mk #[]), (ByteArray.mk #[]), false)) else ((m_strings_LastIndexByte s1 47).bind fun u5 => (ck (0 ≤ (max u5 1) ∧ (max u5 1) ≤ s1.size)).bind fun u7 => (ck (0 ≤ (IntKind.i64.wrap (u5 + 1)) ∧ (IntKind.i64.wrap (u5 + 1)) ≤ s1.size)).bind fun u9 => some (s1.extract 0 (max u5 1).toNat, s1.extract (IntKind.i64.wrap (u5 + 1)).toNat s1.size, true))
def m_path_cut (s1 : ByteArray) : Option (ByteArray × ByteArray × Bool) :=
  (m_path_Right s1).bind fun u11 => if (!u11) = true then (m_path_cut_j1 s1 true) else (m_path_cut_j1 s1 (sEq s1 (ByteArray.mk #[47])))
theorem c_path_cut {w : World} {Fo : List Ob} {rs : List Rp} (s1 : ByteArray) (H : Sep w (Fo) rs) {r : ByteArray × ByteArray × Bool} (hm : m_path_cut s1 = some r) :
    Calls Tryz.prog 149 [.string s1].toArray w (Ret fun v w' => .tuple #[.string r.1, .string r.2.1, .bool r.2.2] = v ∧ Sep w' (Fo) (rs)) := by
 unfold m_path_cut at hm
 refine enter Tryz.func149 rfl Tryz.ntmps149 rfl fun a E =>?_
 simp only [enum, Nat.reduceAdd] at E
 refine sq<|pr 3 E rfl fun a E=>nt<|wp_seq<|wp_seq_cut (fun a w => ∃ (b2 : Bool) (rs3 : List Rp), Env 23 a [(0, .string s1), (12, .bool b2)] ∧ Sep w (Fo) rs3 ∧ (∀ r, r ∈ rs → r ∈ rs3) ∧ m_path_cut_j1 s1 b2 = some r) ?_ ?_
 ·refine wp_region_lit<|pr 1 E rfl fun a E=>bd hm fun u11 hx12 hm=>x_cl E rfl rfl rfl rfl rfl cf98 (c_path_Right s1 H hx12)<|?_
  rintro _ w ⟨rfl, H⟩ a E
  refine pr 2 E rfl fun a E=>cs hm (fun hb13 hm=>?_) fun hb13 hm=>?_
  ·exact pk 3 E (kc 9 rfl hb13) rfl fun a E=>nt<|⟨true, _, E.sel [0, 12] rfl, H, fun r hr => hr, hm⟩
  ·exact pk 3 E (kc 9 rfl hb13) rfl fun a E=>nt<|⟨sEq s1 (ByteArray.mk #[47]), _, E.sel [0, 12] rfl, H, fun r hr => hr, hm⟩
 ·clear E H hm
  rintro a w ⟨b2, rs3, E, H, hs4, hm⟩
  unfold m_path_cut_j1 at hm
  refine wif E hm rfl (fun hm=>?_) fun hm=>?_
  ·refine sq<|pr 3 E rfl fun a E=>nt<|wp_ret<|q_thenR<|out3 E rfl rfl rfl rfl<|?_
   cases hm
   exact ⟨rfl, H.reads (hs4)⟩
  ·refine wp_skip<|q_then<|sq<|pr 1 E rfl fun a E=>bd hm fun u5 hx6 hm=>x_cl E rfl rfl rfl rfl rfl cf178 (c_strings_LastIndexByte s1 47 H hx6)<|?_
   rintro _ w ⟨rfl, H⟩ a E
   refine pr 1 E rfl fun a E=>nt<|wp_seq<|dw [(0, 0), (1, 0), (2, 0), (3, 0), (4, 0), (5, 0), (6, 0), (7, 0), (8, 1), (9, 2), (10, 2)] [] [] H (by kernel_rfl) (fun _ _ _ h => False.elim h.2) fun w W0 hI H=>fn 2 E rfl fun a E=>fr_val E rfl (wn rfl) rfl rfl (fun w hW=>(x_max (t := 0) E rfl rfl rfl)) fun a E=>?_
   refine bk hm fun hx8 hm=>fr_val E rfl (wn rfl) rfl rfl (fun w hW=>(x_subH E rfl rfl rfl Tryz.underlying9 hx8)) fun a E=>?_
   refine fn 3 E rfl fun a E=>bk hm fun hx10 hm=>fr_val E rfl (wn rfl) rfl rfl (fun w hW=>(x_subL E rfl rfl rfl Tryz.underlying9 hx10)) fun a E=>?_
   refine fr_op rfl<|pr 1 E rfl fun a E=>nt<|?_
   refine ⟨⟨_, _, H, (subO_nil), (sub_nil)⟩, ?_⟩
   refine fr_tail rfl<|pr 1 E rfl fun a E=>nt<|fr_tail rfl<|pr 1 E rfl fun a E=>nt<|fr_nil<|?_
   clear hI
   refine q_then<|wp_ret<|out3 E rfl rfl rfl rfl<|?_
   cases hm
   exact ⟨rfl, H.reads (hs4)⟩

def m_path_Parent (s1 : ByteArray) : Option (ByteArray × Bool) :=
  (m_path_cut s1).bind fun u2 => some (u2.1, u2.2.2)
theorem c_path_Parent {w : World} {Fo : List Ob} {rs : List Rp} (s1 : ByteArray) (H : Sep w (Fo) rs) {r : ByteArray × Bool} (hm : m_path_Parent s1 = some r) :
    Calls Tryz.prog 111 [.string s1].toArray w (Ret fun v w' => .tuple #[.string r.1, .bool r.2] = v ∧ Sep w' (Fo) (rs)) := by
 unfold m_path_Parent at hm
 refine enter Tryz.func111 rfl Tryz.ntmps111 rfl fun a E =>?_
 simp only [enum, Nat.reduceAdd] at E
 refine sq<|pr 2 E rfl fun a E=>nx<|pr 1 E rfl fun a E=>bd hm fun u2 hx3 hm=>x_cl E rfl rfl rfl rfl rfl cf149 (c_path_cut s1 H hx3)<|?_
 rintro _ w ⟨rfl, H⟩ a E
 refine pr 7 E rfl fun a E=>nx<|pr 4 E rfl fun a E=>nt<|wp_ret<|out2 E rfl rfl rfl<|?_
 cases hm
 exact ⟨rfl, H.reads (fun r hr => hr)⟩

def m_path_Last (s1 : ByteArray) : Option ByteArray :=
  (m_path_cut s1).bind fun u2 => some (u2.2.1)
theorem c_path_Last {w : World} {Fo : List Ob} {rs : List Rp} (s1 : ByteArray) (H : Sep w (Fo) rs) {r : ByteArray} (hm : m_path_Last s1 = some r) :
    Calls Tryz.prog 119 [.string s1].toArray w (Ret fun v w' => .string r = v ∧ Sep w' (Fo) (rs)) := by
 unfold m_path_Last at hm
 refine enter Tryz.func119 rfl Tryz.ntmps119 rfl fun a E =>?_
 simp only [enum, Nat.reduceAdd] at E
 refine sq<|pr 1 E rfl fun a E=>nx<|pr 1 E rfl fun a E=>bd hm fun u2 hx3 hm=>x_cl E rfl rfl rfl rfl rfl cf149 (c_path_cut s1 H hx3)<|?_
 rintro _ w ⟨rfl, H⟩ a E
 refine pr 7 E rfl fun a E=>nx<|pr 2 E rfl fun a E=>nt<|wp_ret<|out1 E rfl rfl<|?_
 cases hm
 exact ⟨rfl, H.reads (fun r hr => hr)⟩

def m_internal_stringslite_HasSuffix (s1 : ByteArray) (s2 : ByteArray) : Option Bool :=
  if (decide ((s1.size : Int) ≥ (s2.size : Int))) = true then ((ck (0 ≤ (IntKind.i64.wrap ((s1.size : Int) - (s2.size : Int))) ∧ (IntKind.i64.wrap ((s1.size : Int) - (s2.size : Int))) ≤ s1.size)).bind fun u4 => some (sEq (s1.extract (IntKind.i64.wrap ((s1.size : Int) - (s2.size : Int))).toNat s1.size) s2)) else (some (false))
theorem c_internal_stringslite_HasSuffix {w : World} {Fo : List Ob} {rs : List Rp} (s1 : ByteArray) (s2 : ByteArray) (H : Sep w (Fo) rs) {r : Bool} (hm : m_internal_stringslite_HasSuffix s1 s2 = some r) :
    Calls Tryz.prog 198 [.string s1, .string s2].toArray w (Ret fun v w' => .bool r = v ∧ Sep w' (Fo) (rs)) := by
 unfold m_internal_stringslite_HasSuffix at hm
 refine enter Tryz.func198 rfl Tryz.ntmps198 rfl fun a E =>?_
 simp only [enum, Nat.reduceAdd] at E
 refine sq<|pr 1 E rfl fun a E=>nx<|pr 6 E rfl fun a E=>cs hm (fun hb3 hm=>?_) fun hb3 hm=>?_
 ·refine pk 6 E (kc 10 rfl hb3) rfl fun a E=>bk hm fun hx5 hm=>st_val E (ws' (d := 10) E rfl rfl rfl rfl hb3) rfl rfl (x_subL E rfl rfl rfl Tryz.underlying9 hx5) fun a E=>pk 4 E (kc 10 rfl hb3) rfl fun a E=>nt<|wp_ret<|out1 E rfl rfl<|?_
  cases hm
  exact ⟨rfl, H.reads (fun r hr => hr)⟩
 ·refine pk 11 E (kc 10 rfl hb3) rfl fun a E=>nt<|wp_ret<|out1 E rfl rfl<|?_
  cases hm
  exact ⟨rfl, H.reads (fun r hr => hr)⟩

def m_internal_stringslite_TrimSuffix (s1 : ByteArray) (s2 : ByteArray) : Option ByteArray :=
  (m_internal_stringslite_HasSuffix s1 s2).bind fun u3 => if u3 = true then ((ck (0 ≤ (IntKind.i64.wrap ((s1.size : Int) - (s2.size : Int))) ∧ (IntKind.i64.wrap ((s1.size : Int) - (s2.size : Int))) ≤ s1.size)).bind fun u5 => some (s1.extract 0 (IntKind.i64.wrap ((s1.size : Int) - (s2.size : Int))).toNat)) else (some (s1))
theorem c_internal_stringslite_TrimSuffix {w : World} {Fo : List Ob} {rs : List Rp} (s1 : ByteArray) (s2 : ByteArray) (H : Sep w (Fo) rs) {r : ByteArray} (hm : m_internal_stringslite_TrimSuffix s1 s2 = some r) :
    Calls Tryz.prog 183 [.string s1, .string s2].toArray w (Ret fun v w' => .string r = v ∧ Sep w' (Fo) (rs)) := by
 unfold m_internal_stringslite_TrimSuffix at hm
 refine enter Tryz.func183 rfl Tryz.ntmps183 rfl fun a E =>?_
 simp only [enum, Nat.reduceAdd] at E
 refine sq<|pr 1 E rfl fun a E=>nt<|wp_seq<|sq<|pr 2 E rfl fun a E=>bd hm fun u3 hx4 hm=>x_cl E rfl rfl rfl rfl rfl cf198 (c_internal_stringslite_HasSuffix s1 s2 H hx4)<|?_
 rintro _ w ⟨rfl, H⟩ a E
 refine nt<|wif E hm rfl (fun hm=>?_) fun hm=>?_
 ·refine sq<|pr 6 E rfl fun a E=>bk hm fun hx6 hm=>sv E rfl rfl rfl (x_subH E rfl rfl rfl Tryz.underlying9 hx6) fun a E=>pr 1 E rfl fun a E=>nt<|wp_ret<|q_thenR<|out1 E rfl rfl<|?_
  cases hm
  exact ⟨rfl, H.reads (fun r hr => hr)⟩
 ·refine wp_skip<|q_then<|sq<|pr 2 E rfl fun a E=>nt<|wp_ret<|out1 E rfl rfl<|?_
  cases hm
  exact ⟨rfl, H.reads (fun r hr => hr)⟩

def m_strings_TrimSuffix (s1 : ByteArray) (s2 : ByteArray) : Option ByteArray :=
  (m_internal_stringslite_TrimSuffix s1 s2).bind fun u3 => some (u3)
theorem c_strings_TrimSuffix {w : World} {Fo : List Ob} {rs : List Rp} (s1 : ByteArray) (s2 : ByteArray) (H : Sep w (Fo) rs) {r : ByteArray} (hm : m_strings_TrimSuffix s1 s2 = some r) :
    Calls Tryz.prog 152 [.string s1, .string s2].toArray w (Ret fun v w' => .string r = v ∧ Sep w' (Fo) (rs)) := by
 unfold m_strings_TrimSuffix at hm
 refine enter Tryz.func152 rfl Tryz.ntmps152 rfl fun a E =>?_
 simp only [enum, Nat.reduceAdd] at E
 refine sq<|pr 1 E rfl fun a E=>nx<|pr 2 E rfl fun a E=>bd hm fun u3 hx4 hm=>x_cl E rfl rfl rfl rfl rfl cf183 (c_internal_stringslite_TrimSuffix s1 s2 H hx4)<|?_
 rintro _ w ⟨rfl, H⟩ a E
 refine pr 1 E rfl fun a E=>nt<|wp_ret<|out1 E rfl rfl<|?_
 cases hm
 exact ⟨rfl, H.reads (fun r hr => hr)⟩

def m_path_Join_j1 (s1 : ByteArray) (s2 : ByteArray) (b6 : Bool) : Option (ByteArray × Bool) :=
  if b6 = true then (some ((ByteArray.mk #[]), false)) else ((m_strings_TrimSuffix s1 (ByteArray.mk #[47])).bind fun u9 => (ck (u9.size + (ByteArray.mk #[47]).size ≤ 4611686018427387904)).bind fun u12 => (ck ((u9 ++ (ByteArray.mk #[47])).size + s2.size ≤ 4611686018427387904)).bind fun u14 => some ((u9 ++ (ByteArray.mk #[47])) ++ s2, true))
def m_path_Join (s1 : ByteArray) (s2 : ByteArray) : Option (ByteArray × Bool) :=
  (m_path_Split s1).bind fun u3 => if (!u3.2) = true then (m_path_Join_j1 s1 s2 true) else ((m_path_part s2).bind fun u16 => if (!u16) = true then (m_path_Join_j1 s1 s2 true) else (m_path_Join_j1 s1 s2 ((u3.1.length : Int) == 6)))
theorem c_path_Join {w : World} {Fo : List Ob} {rs : List Rp} (s1 : ByteArray) (s2 : ByteArray) (H : Sep w (Fo) rs) {r : ByteArray × Bool} (hm : m_path_Join s1 s2 = some r) :
    Calls Tryz.prog 120 [.string s1, .string s2].toArray w (Ret fun v w' => .tuple #[.string r.1, .bool r.2] = v ∧ Sep w' (Fo) (rs)) := by
 unfold m_path_Join at hm
 refine enter Tryz.func120 rfl Tryz.ntmps120 rfl fun a E =>?_
 simp only [enum, Nat.reduceAdd] at E
 refine sq<|pr 2 E rfl fun a E=>nx<|pr 1 E rfl fun a E=>bd hm fun u3 hx4 hm=>x_cl E rfl rfl rfl rfl rfl cf145 (c_path_Split s1 H hx4)<|?_
 rintro _ w ⟨v5, rfl, H⟩ a E
 refine pr 5 E rfl fun a E=>nt<|wp_seq<|wp_seq_cut (fun a w => ∃ (b6 : Bool) (rs7 : List Rp), Env 30 a [(0, .string s1), (1, .string s2), (24, .bool b6)] ∧ Sep w (Fo) rs7 ∧ (∀ r, r ∈ rs → r ∈ rs7) ∧ m_path_Join_j1 s1 s2 b6 = some r) ?_ ?_
 ·refine wp_region_lit<|pr 3 E rfl fun a E=>cs hm (fun hb15 hm=>?_) fun hb15 hm=>?_
  ·exact pk 9 E (kc 15 rfl hb15) rfl fun a E=>nt<|have H:=H.drop 0;⟨true, _, E.sel [0, 1, 24] rfl, H, fun r hr => hr, hm⟩
  ·refine pk 1 E (kc 15 rfl hb15) rfl fun a E=>bd hm fun u16 hx17 hm=>st_call E (ws' (d := 15) E rfl rfl rfl rfl hb15) rfl rfl (x_call E rfl rfl (cf151 _)) (c_path_part s2 H hx17)<|?_
   rintro _ w ⟨rfl, H⟩ a E
   refine pk 3 E (kc 15 rfl hb15) rfl fun a E=>cs hm (fun hb18 hm=>?_) fun hb18 hm=>?_
   ·exact pk 4 E (kc 20 rfl hb18) rfl fun a E=>nt<|have H:=H.drop 0;⟨true, _, E.sel [0, 1, 24] rfl, H, fun r hr => hr, hm⟩
   ·exact pk 1 E (kc 20 rfl hb18) rfl fun a E=>st_val E (ws' (d := 20) E rfl rfl rfl rfl hb18) rfl rfl (x_lenR (i := 0) E H rfl rfl rfl Tryz.underlying49) fun a E=>pk 2 E (kc 20 rfl hb18) rfl fun a E=>nt<|have H:=H.drop 0;⟨(u3.1.length : Int) == 6, _, E.sel [0, 1, 24] rfl, H, fun r hr => hr, hm⟩
 ·clear E H hm
  rintro a w ⟨b6, rs7, E, H, hs8, hm⟩
  unfold m_path_Join_j1 at hm
  refine wif E hm rfl (fun hm=>?_) fun hm=>?_
  ·refine sq<|pr 2 E rfl fun a E=>nt<|wp_ret<|q_thenR<|out2 E rfl rfl rfl<|?_
   cases hm
   exact ⟨rfl, H.reads (hs8)⟩
  ·refine wp_skip<|q_then<|sq<|pr 1 E rfl fun a E=>bd hm fun u9 hx10 hm=>x_cl E rfl rfl rfl rfl rfl cf152 (c_strings_TrimSuffix s1 (ByteArray.mk #[47]) H hx10)<|?_
   rintro _ w ⟨rfl, H⟩ a E
   refine bk hm fun hx11 hm=>sv E rfl rfl rfl (x_cat E rfl rfl rfl hx11) fun a E=>pr 1 E rfl fun a E=>bk hm fun hx13 hm=>sv E rfl rfl rfl (x_cat E rfl rfl rfl hx13) fun a E=>pr 2 E rfl fun a E=>nt<|wp_ret<|out2 E rfl rfl rfl<|?_
   cases hm
   exact ⟨rfl, H.reads (hs8)⟩

def m_path_Numbered_j1 (x2 : Int) (s1 : ByteArray) (b4 : Bool) : Option (ByteArray × Bool) :=
  if b4 = true then (some ((ByteArray.mk #[]), false)) else ((ck (-9223372036854775808 ≤ IntKind.i64.wrap (10000 + x2) ∧ IntKind.i64.wrap (10000 + x2) ≤ 9223372036854775807)).bind fun u8 => (ck (0 ≤ (1 : Int) ∧ (1 : Int) ≤ (ByteArray.mk (Lib.itoa (IntKind.i64.wrap (10000 + x2))).toArray).size)).bind fun u10 => (ck (s1.size + ((ByteArray.mk (Lib.itoa (IntKind.i64.wrap (10000 + x2))).toArray).extract (1 : Int).toNat (ByteArray.mk (Lib.itoa (IntKind.i64.wrap (10000 + x2))).toArray).size).size ≤ 4611686018427387904)).bind fun u13 => (m_path_part (s1 ++ ((ByteArray.mk (Lib.itoa (IntKind.i64.wrap (10000 + x2))).toArray).extract (1 : Int).toNat (ByteArray.mk (Lib.itoa (IntKind.i64.wrap (10000 + x2))).toArray).size))).bind fun u14 => if (!u14) = true then (some ((ByteArray.mk #[]), false)) else (some (s1 ++ ((ByteArray.mk (Lib.itoa (IntKind.i64.wrap (10000 + x2))).toArray).extract (1 : Int).toNat (ByteArray.mk (Lib.itoa (IntKind.i64.wrap (10000 + x2))).toArray).size), true)))
def m_path_Numbered (s1 : ByteArray) (x2 : Int) : Option (ByteArray × Bool) :=
  if (decide (x2 < 0)) = true then (m_path_Numbered_j1 x2 s1 true) else (m_path_Numbered_j1 x2 s1 (decide (x2 > 9999)))
theorem c_path_Numbered {w : World} {Fo : List Ob} {rs : List Rp} (s1 : ByteArray) (x2 : Int) (H : Sep w (Fo) rs) (hr3 : rTab Tryz.prog ∈ rs) {r : ByteArray × Bool} (hm : m_path_Numbered s1 x2 = some r) :
    Calls Tryz.prog 118 [.string s1, .int .i64 x2].toArray w (Ret fun v w' => .tuple #[.string r.1, .bool r.2] = v ∧ Sep w' (Fo) (rs)) := by
 unfold m_path_Numbered at hm
 refine enter Tryz.func118 rfl Tryz.ntmps118 rfl fun a E =>?_
 simp only [enum, Nat.reduceAdd] at E
 refine sq<|pr 2 E rfl fun a E=>nt<|wp_seq<|wp_seq_cut (fun a w => ∃ (b4 : Bool) (rs5 : List Rp), Env 23 a [(0, .string s1), (1, .int .i64 x2), (12, .bool b4)] ∧ Sep w (Fo) rs5 ∧ (∀ r, r ∈ rs → r ∈ rs5) ∧ rTab Tryz.prog ∈ rs5 ∧ m_path_Numbered_j1 x2 s1 b4 = some r) ?_ ?_
 ·refine wp_region_lit<|pr 3 E rfl fun a E=>cs hm (fun hb16 hm=>?_) fun hb16 hm=>?_
  ·exact pk 3 E (kc 9 rfl hb16) rfl fun a E=>nt<|⟨true, _, E.sel [0, 1, 12] rfl, H, fun r hr => hr, hr3, hm⟩
  ·exact pk 3 E (kc 9 rfl hb16) rfl fun a E=>nt<|⟨decide (x2 > 9999), _, E.sel [0, 1, 12] rfl, H, fun r hr => hr, hr3, hm⟩
 ·clear E H hm
  rintro a w ⟨b4, rs5, E, H, hs6, hr7, hm⟩
  unfold m_path_Numbered_j1 at hm
  refine wif E hm rfl (fun hm=>?_) fun hm=>?_
  ·refine sq<|pr 2 E rfl fun a E=>nt<|wp_ret<|q_thenR<|out2 E rfl rfl rfl<|?_
   cases hm
   exact ⟨rfl, H.reads (hs6)⟩
  ·refine wp_skip<|q_then<|sq<|pr 3 E rfl fun a E=>bk hm fun hx9 hm=>x_cl E rfl rfl rfl rfl rfl cf150 (itoa_c H hr7 (IntKind.i64.wrap (10000 + x2)) hx9)<|?_
   rintro _ w ⟨rfl, H⟩ a E
   refine bk hm fun hx11 hm=>sv E rfl rfl rfl (x_subL E rfl rfl rfl Tryz.underlying9 hx11) fun a E=>bk hm fun hx12 hm=>sv E rfl rfl rfl (x_cat E rfl rfl rfl hx12) fun a E=>pr 1 E rfl fun a E=>nt<|wp_seq<|sq<|pr 1 E rfl fun a E=>?_
   refine bd hm fun u14 hx15 hm=>x_cl E rfl rfl rfl rfl rfl cf151 (c_path_part (s1 ++ ((ByteArray.mk (Lib.itoa (IntKind.i64.wrap (10000 + x2))).toArray).extract (1 : Int).toNat (ByteArray.mk (Lib.itoa (IntKind.i64.wrap (10000 + x2))).toArray).size)) H hx15)<|?_
   rintro _ w ⟨rfl, H⟩ a E
   refine pr 1 E rfl fun a E=>nt<|wif E hm rfl (fun hm=>?_) fun hm=>?_
   ·refine sq<|pr 2 E rfl fun a E=>nt<|wp_ret<|q_thenR<|out2 E rfl rfl rfl<|?_
    cases hm
    exact ⟨rfl, H.reads (hs6)⟩
   ·refine wp_skip<|q_then<|sq<|pr 3 E rfl fun a E=>nt<|wp_ret<|out2 E rfl rfl rfl<|?_
    cases hm
    exact ⟨rfl, H.reads (hs6)⟩

def m_cantonref01_path_l1 (l2 : List ByteArray) : Nat → ByteArray → Int → Option ByteArray
  | 0, _, _ => none
  | k1 + 1, s4, x5 =>
    if (decide (x5 < (l2.length : Int))) = true then ((ck (s4.size + (ByteArray.mk #[47]).size ≤ 4611686018427387904)).bind fun u10 => (idx l2 x5).bind fun x11 => (ck ((s4 ++ (ByteArray.mk #[47])).size + x11.size ≤ 4611686018427387904)).bind fun u15 => m_cantonref01_path_l1 l2 k1 ((s4 ++ (ByteArray.mk #[47])) ++ x11) (IntKind.i64.wrap (x5 + 1))) else (some (s4))
def m_cantonref01_path (l2 : List ByteArray) : Option ByteArray :=
  if ((l2.length : Int) == 0) = true then (some ((ByteArray.mk #[47]))) else (m_cantonref01_path_l1 l2 (((l2.length : Int) - 0 : Int).toNat + 1) (ByteArray.mk #[]) 0)
theorem c_cantonref01_path {w : World} {Fo : List Ob} {rs : List Rp} (v1 : Value) (l2 : List ByteArray) (H : Sep w (Fo) rs) (hr3 : rSl kS v1 l2 ∈ rs) {r : ByteArray} (hm : m_cantonref01_path l2 = some r) :
    Calls Tryz.prog 130 [v1].toArray w (Ret fun v w' => .string r = v ∧ Sep w' (Fo) (rs)) := by
 unfold m_cantonref01_path at hm
 refine enter Tryz.func130 rfl Tryz.ntmps130 rfl fun a E =>?_
 simp only [enum, Nat.reduceAdd] at E
 refine sq<|pr 1 E rfl fun a E=>nt<|wp_seq<|sq<|pr 1 E rfl fun a E=>sv E rfl rfl rfl (x_lenS E H rfl rfl hr3 Tryz.underlying49) fun a E=>pr 1 E rfl fun a E=>nt<|wif E hm rfl (fun hm=>?_) fun hm=>?_
 ·refine sq<|pr 1 E rfl fun a E=>nt<|wp_ret<|q_thenR<|out1 E rfl rfl<|?_
  cases hm
  exact ⟨rfl, H.reads (fun r hr => hr)⟩
 ·refine wp_skip<|q_then<|sq<|pr 1 E rfl fun a E=>nt<|wp_seq<|sq<|pr 1 E rfl fun a E=>nt<|?_
  refine wp_block<|wp_loop_g (fun k1 a w => ∃ (s4 : ByteArray) (x5 : Int) (rs6 : List Rp), Env 22 a [(0, v1), (3, .string s4), (4, .int .i64 x5)] ∧ Sep w (Fo) rs6 ∧ (∀ r, r ∈ rs → r ∈ rs6) ∧ rSl kS v1 l2 ∈ rs6 ∧ m_cantonref01_path_l1 l2 k1 s4 x5 = some r) (((l2.length : Int) - 0 : Int).toNat + 1) ?_ ?_
  ·exact ⟨(ByteArray.mk #[]), 0, _, E.sel [0, 3, 4] rfl, H, fun r hr => hr, hr3, hm⟩
  ·clear E H hm
   rintro k1 a w ⟨s4, x5, rs6, E, H, hs7, hr8, hm⟩
   cases k1 with
   | zero => exact (none_some hm rfl).elim
   | succ k1 =>
    unfold m_cantonref01_path_l1 at hm
    refine wp_seq<|sq<|pr 2 E rfl fun a E=>sv E rfl rfl rfl (x_lenS E H rfl rfl hr8 Tryz.underlying49) fun a E=>pr 1 E rfl fun a E=>nt<|wif E hm rfl (fun hm=>?_) fun hm=>?_
    ·refine wp_skip<|q_then<|wp_seq<|wp_block<|wp_region_lit<|pr 1 E rfl fun a E=>bk hm fun hx9 hm=>sv E rfl rfl rfl (x_cat E rfl rfl rfl hx9) fun a E=>pr 2 E rfl fun a E=>?_
     refine bd hm fun x11 hx12 hm=>st_ixS E H (wn rfl) rfl rfl rfl rfl rfl hr8 Tryz.underlying49 sz9 hx12 fun q13 a H E=>sv E rfl rfl rfl (x_ldA E H rfl rfl m0 Tryz.underlying9 rfl) fun a E=>bk hm fun hx14 hm=>sv E rfl rfl rfl (x_cat E rfl rfl rfl hx14) fun a E=>pr 1 E rfl fun a E=>wpList_nil<|q_blk<|q_then<|?_
     exact wp_region_lit<|pr 3 E rfl fun a E=>nt<|⟨k1, Nat.lt_succ_self k1, (s4 ++ (ByteArray.mk #[47])) ++ x11, IntKind.i64.wrap (x5 + 1), _, E.sel [0, 3, 4] rfl, H, fun r hr => (t1 (hs7 r hr)), (t1 hr8), hm⟩
    ·refine wp_exit<|q_thenX<|q_thenX<|q_hit<|q_then<|sq<|pr 2 E rfl fun a E=>nt<|wp_ret<|?_
     refine out1 E rfl rfl<|?_
     cases hm
     exact ⟨rfl, H.reads (hs7)⟩

def m_cantonref01_Parent_j1 (u2 : (List ByteArray) × Bool) (b5 : Bool) : Option (ByteArray × Bool) :=
  if b5 = true then (some ((ByteArray.mk #[]), false)) else ((ck (0 ≤ (IntKind.i64.wrap ((u2.1.length : Int) - 1)) ∧ (IntKind.i64.wrap ((u2.1.length : Int) - 1)) ≤ u2.1.length)).bind fun u8 => (m_cantonref01_path (u2.1.take (IntKind.i64.wrap ((u2.1.length : Int) - 1)).toNat)).bind fun u11 => some (u11, true))
def m_cantonref01_Parent (s1 : ByteArray) : Option (ByteArray × Bool) :=
  (m_cantonref01_Split s1).bind fun u2 => if (!u2.2) = true then (m_cantonref01_Parent_j1 u2 true) else (m_cantonref01_Parent_j1 u2 ((u2.1.length : Int) == 0))
theorem c_cantonref01_Parent {w : World} {Fo : List Ob} {rs : List Rp} (s1 : ByteArray) (H : Sep w (Fo) rs) {r : ByteArray × Bool} (hm : m_cantonref01_Parent s1 = some r) :
    Calls Tryz.prog 69 [.string s1].toArray w (Ret fun v w' => .tuple #[.string r.1, .bool r.2] = v ∧ Sep w' (Fo) (rs)) := by
 unfold m_cantonref01_Parent at hm
 refine enter Tryz.func69 rfl Tryz.ntmps69 rfl fun a E =>?_
 simp only [enum, Nat.reduceAdd] at E
 refine sq<|pr 2 E rfl fun a E=>nx<|pr 1 E rfl fun a E=>bd hm fun u2 hx3 hm=>x_cl E rfl rfl rfl rfl rfl cf129 (c_cantonref01_Split s1 H hx3)<|?_
 rintro _ w ⟨v4, rfl, H⟩ a E
 refine pr 5 E rfl fun a E=>nt<|wp_seq<|wp_seq_cut (fun a w => ∃ (b5 : Bool) (rs6 : List Rp), Env 24 a [(4, v4), (17, .bool b5)] ∧ Sep w (Row 9 kS v4 u2.1 :: Fo) rs6 ∧ (∀ r, r ∈ rs → r ∈ rs6) ∧ m_cantonref01_Parent_j1 u2 b5 = some r) ?_ ?_
 ·refine wp_region_lit<|pr 3 E rfl fun a E=>cs hm (fun hb13 hm=>?_) fun hb13 hm=>?_
  ·exact pk 4 E (kc 13 rfl hb13) rfl fun a E=>nt<|⟨true, _, E.sel [4, 17] rfl, H, fun r hr => hr, hm⟩
  ·exact pk 1 E (kc 13 rfl hb13) rfl fun a E=>st_val E (ws' (d := 13) E rfl rfl rfl rfl hb13) rfl rfl (x_lenR (i := 0) E H rfl rfl rfl Tryz.underlying49) fun a E=>pk 2 E (kc 13 rfl hb13) rfl fun a E=>nt<|⟨(u2.1.length : Int) == 0, _, E.sel [4, 17] rfl, H, fun r hr => hr, hm⟩
 ·clear E H hm
  rintro a w ⟨b5, rs6, E, H, hs7, hm⟩
  unfold m_cantonref01_Parent_j1 at hm
  refine wif E hm rfl (fun hm=>?_) fun hm=>?_
  ·refine sq<|pr 2 E rfl fun a E=>nt<|wp_ret<|q_thenR<|out2 E rfl rfl rfl<|have H:=H.drop 0;?_
   cases hm
   exact ⟨rfl, H.reads (hs7)⟩
  ·refine wp_skip<|q_then<|sq<|pr 2 E rfl fun a E=>sv E rfl rfl rfl (x_lenR (i := 0) E H rfl rfl rfl Tryz.underlying49) fun a E=>pr 1 E rfl fun a E=>have H:=H.thaw (i := 0) rfl;bk hm fun hx9 hm=>st_take E H (wn rfl) rfl rfl rfl rfl rfl m0 Tryz.underlying49 sz9 hx9 fun v10 a H E=>?_
   refine bd hm fun u11 hx12 hm=>x_cl E rfl rfl rfl rfl rfl cf130 (c_cantonref01_path v10 (u2.1.take (IntKind.i64.wrap ((u2.1.length : Int) - 1)).toNat) H m0 hx12)<|?_
   rintro _ w ⟨rfl, H⟩ a E
   refine pr 2 E rfl fun a E=>nt<|wp_ret<|out2 E rfl rfl rfl<|?_
   cases hm
   exact ⟨rfl, H.reads (fun r hr => (t2 (hs7 r hr)))⟩

def m_internal_bytealg_CompareString (s1 : ByteArray) (s2 : ByteArray) : Option Int :=
  some (Extern.BytealgCompare.cmp s1 s2)
theorem c_internal_bytealg_CompareString {w : World} {Fo : List Ob} {rs : List Rp} (s1 : ByteArray) (s2 : ByteArray) (H : Sep w (Fo) rs) {r : Int} (hm : m_internal_bytealg_CompareString s1 s2 = some r) :
    Calls Tryz.prog 148 [.string s1, .string s2].toArray w (Ret fun v w' => .int .i64 r = v ∧ Sep w' (Fo) (rs)) := by
 unfold m_internal_bytealg_CompareString at hm
 refine enter Tryz.func148 rfl Tryz.ntmps148 rfl fun a E =>?_
 simp only [enum, Nat.reduceAdd] at E
 refine sq<|pr 1 E rfl fun a E=>nx<|pr 2 E rfl fun a E=>sv E rfl rfl rfl (x_callX E rfl rfl (ext177 _ _ _)) fun a E=>pr 1 E rfl fun a E=>nt<|wp_ret<|out1 E rfl rfl<|?_
 cases hm
 exact ⟨rfl, H.reads (fun r hr => hr)⟩

def m_strings_Compare (s1 : ByteArray) (s2 : ByteArray) : Option Int :=
  (m_internal_bytealg_CompareString s1 s2).bind fun u3 => some (u3)
theorem c_strings_Compare {w : World} {Fo : List Ob} {rs : List Rp} (s1 : ByteArray) (s2 : ByteArray) (H : Sep w (Fo) rs) {r : Int} (hm : m_strings_Compare s1 s2 = some r) :
    Calls Tryz.prog 108 [.string s1, .string s2].toArray w (Ret fun v w' => .int .i64 r = v ∧ Sep w' (Fo) (rs)) := by
 unfold m_strings_Compare at hm
 refine enter Tryz.func108 rfl Tryz.ntmps108 rfl fun a E =>?_
 simp only [enum, Nat.reduceAdd] at E
 refine sq<|pr 1 E rfl fun a E=>nx<|pr 2 E rfl fun a E=>bd hm fun u3 hx4 hm=>x_cl E rfl rfl rfl rfl rfl cf148 (c_internal_bytealg_CompareString s1 s2 H hx4)<|?_
 rintro _ w ⟨rfl, H⟩ a E
 refine pr 1 E rfl fun a E=>nt<|wp_ret<|out1 E rfl rfl<|?_
 cases hm
 exact ⟨rfl, H.reads (fun r hr => hr)⟩

def m_nodes_within (x1 : Int) (x2 : Int) : Option Bool :=
  if (decide (x1 ≥ 0)) = true then (some (decide (x1 ≤ x2))) else (some (false))
theorem c_nodes_within {w : World} {Fo : List Ob} {rs : List Rp} (x1 : Int) (x2 : Int) (H : Sep w (Fo) rs) {r : Bool} (hm : m_nodes_within x1 x2 = some r) :
    Calls Tryz.prog 109 [.int .i64 x1, .int .i64 x2].toArray w (Ret fun v w' => .bool r = v ∧ Sep w' (Fo) (rs)) := by
 unfold m_nodes_within at hm
 refine enter Tryz.func109 rfl Tryz.ntmps109 rfl fun a E =>?_
 simp only [enum, Nat.reduceAdd] at E
 refine sq<|pr 1 E rfl fun a E=>nx<|pr 3 E rfl fun a E=>cs hm (fun hb3 hm=>?_) fun hb3 hm=>?_
 ·refine pk 5 E (kc 7 rfl hb3) rfl fun a E=>nt<|wp_ret<|out1 E rfl rfl<|?_
  cases hm
  exact ⟨rfl, H.reads (fun r hr => hr)⟩
 ·refine pk 5 E (kc 7 rfl hb3) rfl fun a E=>nt<|wp_ret<|out1 E rfl rfl<|?_
  cases hm
  exact ⟨rfl, H.reads (fun r hr => hr)⟩

def m_nodes_node (x1 : S_api_Node) : Option Bool :=
  if (decide ((x1.Data.size : Int) ≤ 256)) = true then ((m_nodes_within x1.Version 281474976710656).bind fun u4 => if u4 = true then ((m_nodes_within x1.Turn 10000).bind fun u7 => if u7 = true then ((m_nodes_within x1.Owner 1099511627776).bind fun u10 => if u10 = true then (if (x1.Owner == 0) = true then (some (true)) else (some (x1.Turn == 0))) else (some (false))) else (some (false))) else (some (false))) else (some (false))
theorem c_nodes_node {w : World} {Fo : List Ob} {rs : List Rp} (x1 : S_api_Node) (H : Sep w (Fo) rs) {r : Bool} (hm : m_nodes_node x1 = some r) :
    Calls Tryz.prog 112 [.agg (l_api_Node x1).toArray].toArray w (Ret fun v w' => .bool r = v ∧ Sep w' (Fo) (rs)) := by
 unfold m_nodes_node at hm
 refine enter Tryz.func112 rfl Tryz.ntmps112 rfl fun a E =>?_
 simp only [enum, Nat.reduceAdd] at E
 refine sq<|st_box E H (wn rfl) rfl rfl (cs := (l_api_Node x1)) rfl rfl rfl fun p2 w a H E=>pr 1 E rfl fun a E=>nx<|pr 1 E rfl fun a E=>lb E H 0 rfl rfl rfl rfl rfl rfl rfl Tryz.underlying9 rfl fun a E=>pr 3 E rfl fun a E=>cs hm (fun hb3 hm=>?_) fun hb3 hm=>?_
 ·refine pk 1 E (kc 7 rfl hb3) rfl fun a E=>st_val E (ws' (d := 7) E rfl rfl rfl rfl hb3) rfl rfl (x_ldB (i := 0) E H rfl rfl rfl rfl Tryz.underlying2 rfl) fun a E=>bd hm fun u4 hx5 hm=>st_call E (ws' (d := 7) E rfl rfl rfl rfl hb3) rfl rfl (x_call E rfl rfl (cf109 _)) (c_nodes_within x1.Version 281474976710656 H hx5)<|?_
  rintro _ w ⟨rfl, H⟩ a E
  refine pk 2 E (kc 7 rfl hb3) rfl fun a E=>cs hm (fun hb6 hm=>?_) fun hb6 hm=>?_
  ·refine pk 1 E (kc 12 rfl hb6) rfl fun a E=>st_val E (ws' (d := 12) E rfl rfl rfl rfl hb6) rfl rfl (x_ldB (i := 0) E H rfl rfl rfl rfl Tryz.underlying2 rfl) fun a E=>bd hm fun u7 hx8 hm=>st_call E (ws' (d := 12) E rfl rfl rfl rfl hb6) rfl rfl (x_call E rfl rfl (cf109 _)) (c_nodes_within x1.Turn 10000 H hx8)<|?_
   rintro _ w ⟨rfl, H⟩ a E
   refine pk 2 E (kc 12 rfl hb6) rfl fun a E=>cs hm (fun hb9 hm=>?_) fun hb9 hm=>?_
   ·refine pk 1 E (kc 17 rfl hb9) rfl fun a E=>st_val E (ws' (d := 17) E rfl rfl rfl rfl hb9) rfl rfl (x_ldB (i := 0) E H rfl rfl rfl rfl Tryz.underlying2 rfl) fun a E=>bd hm fun u10 hx11 hm=>st_call E (ws' (d := 17) E rfl rfl rfl rfl hb9) rfl rfl (x_call E rfl rfl (cf109 _)) (c_nodes_within x1.Owner 1099511627776 H hx11)<|?_
    rintro _ w ⟨rfl, H⟩ a E
    refine pk 2 E (kc 17 rfl hb9) rfl fun a E=>cs hm (fun hb12 hm=>?_) fun hb12 hm=>?_
    ·refine pk 1 E (kc 22 rfl hb12) rfl fun a E=>st_val E (ws' (d := 22) E rfl rfl rfl rfl hb12) rfl rfl (x_ldB (i := 0) E H rfl rfl rfl rfl Tryz.underlying2 rfl) fun a E=>pk 2 E (kc 22 rfl hb12) rfl fun a E=>cs hm (fun hb13 hm=>?_) fun hb13 hm=>?_
     ·refine pk 6 E (kc' (kc 26 rfl hb13) 22 rfl hb12) rfl fun a E=>nt<|wp_ret<|out1 E rfl rfl<|have H:=H.drop 0;?_
      cases hm
      exact ⟨rfl, H.reads (fun r hr => hr)⟩
     ·refine pk 1 E (kc 26 rfl hb13) rfl fun a E=>st_val E (ws' (d := 26) E rfl rfl rfl rfl hb13) rfl rfl (x_ldB (i := 0) E H rfl rfl rfl rfl Tryz.underlying2 rfl) fun a E=>pk 4 E (kc' (kc 26 rfl hb13) 22 rfl hb12) rfl fun a E=>nt<|wp_ret<|out1 E rfl rfl<|have H:=H.drop 0;?_
      cases hm
      exact ⟨rfl, H.reads (fun r hr => hr)⟩
    ·refine pk 10 E (kc 22 rfl hb12) rfl fun a E=>nt<|wp_ret<|out1 E rfl rfl<|have H:=H.drop 0;?_
     cases hm
     exact ⟨rfl, H.reads (fun r hr => hr)⟩
   ·refine pk 15 E (kc 17 rfl hb9) rfl fun a E=>nt<|wp_ret<|out1 E rfl rfl<|have H:=H.drop 0;?_
    cases hm
    exact ⟨rfl, H.reads (fun r hr => hr)⟩
  ·refine pk 20 E (kc 12 rfl hb6) rfl fun a E=>nt<|wp_ret<|out1 E rfl rfl<|have H:=H.drop 0;?_
   cases hm
   exact ⟨rfl, H.reads (fun r hr => hr)⟩
 ·refine pk 25 E (kc 7 rfl hb3) rfl fun a E=>nt<|wp_ret<|out1 E rfl rfl<|have H:=H.drop 0;?_
  cases hm
  exact ⟨rfl, H.reads (fun r hr => hr)⟩

def m_nodes_Right_j2 (rec_1 : Int → (Nat) → (List UInt8 → Int) → Option Bool) (x9 : Int) (x15 : (Nat)) (x16 : (List UInt8 → Int)) : Option Bool :=
  rec_1 (IntKind.i64.wrap (x9 + 1)) x15 x16
def m_nodes_Right_j3 (rec_1 : Int → (Nat) → (List UInt8 → Int) → Option Bool) (x9 : Int) (x20 : S_api_Node) (x11 : (List UInt8 → Int)) (x10 : (Nat)) (b26 : Bool) : Option Bool :=
  if b26 = true then (some (false)) else (if (x20.Owner == 0) = true then ((ck (x20.Path.size ≤ maxLen)).bind fun u30 => (ck (x20.Path.size ≤ maxLen ∧ (Lit.int .i64 (IntKind.i64.wrap ((x11 x20.Path.data.toList) + 1))).wf = true ∧ x10 < maxLen)).bind fun u32 => m_nodes_Right_j2 rec_1 x9 (x10 + 1) (mput x11 x20.Path.data.toList (IntKind.i64.wrap ((x11 x20.Path.data.toList) + 1)))) else (m_nodes_Right_j2 rec_1 x9 x10 x11))
def m_nodes_Right_l1 (l2 : List S_api_Node) : Nat → Int → (Nat) → (List UInt8 → Int) → Option Bool
  | 0, _, _, _ => none
  | k1 + 1, x9, x10, x11 =>
    if (decide (x9 < (l2.length : Int))) = true then ((idx l2 x9).bind fun x20 => (m_path_Parent x20.Path).bind fun u24 => (m_nodes_node x20).bind fun u35 => if (!u35) = true then (m_nodes_Right_j3 (m_nodes_Right_l1 l2 k1) x9 x20 x11 x10 true) else (if (decide (x9 > 0)) = true then (if (!u24.2) = true then (m_nodes_Right_j3 (m_nodes_Right_l1 l2 k1) x9 x20 x11 x10 true) else ((ck (u24.1.size ≤ maxLen)).bind fun u40 => if ((x11 u24.1.data.toList) == 0) = true then (m_nodes_Right_j3 (m_nodes_Right_l1 l2 k1) x9 x20 x11 x10 true) else ((idx l2 (IntKind.i64.wrap (x9 - 1))).bind fun x43 => m_nodes_Right_j3 (m_nodes_Right_l1 l2 k1) x9 x20 x11 x10 (!(sLt x43.Path x20.Path))))) else (m_nodes_Right_j3 (m_nodes_Right_l1 l2 k1) x9 x20 x11 x10 false))) else (some (true))
def m_nodes_Right_j1 (l2 : List S_api_Node) (b4 : Bool) : Option Bool :=
  if b4 = true then (some (false)) else (m_nodes_Right_l1 l2 (((l2.length : Int) - 0 : Int).toNat + 1) 0 0 (fun _ => 0))
def m_nodes_Right (l2 : List S_api_Node) : Option Bool :=
  if ((l2.length : Int) == 0) = true then (m_nodes_Right_j1 l2 true) else (if (decide ((l2.length : Int) > 512)) = true then (m_nodes_Right_j1 l2 true) else ((idx l2 0).bind fun x52 => if (!(sEq x52.Path (ByteArray.mk #[47]))) = true then (m_nodes_Right_j1 l2 true) else ((idx l2 0).bind fun x56 => m_nodes_Right_j1 l2 (x56.Owner != 0))))
theorem c_nodes_Right {w : World} {Fo : List Ob} {rs : List Rp} (v1 : Value) (l2 : List S_api_Node) (H : Sep w (Fo) rs) (hr3 : rSl k_api_Node v1 l2 ∈ rs) {r : Bool} (hm : m_nodes_Right l2 = some r) :
    Calls Tryz.prog 55 [v1].toArray w (Ret fun v w' => .bool r = v ∧ Sep w' (Fo) (rs)) := by
 unfold m_nodes_Right at hm
 refine enter Tryz.func55 rfl Tryz.ntmps55 rfl fun a E =>?_
 simp only [enum, Nat.reduceAdd] at E
 refine sq<|pr 1 E rfl fun a E=>nt<|wp_seq<|wp_seq_cut (fun a w => ∃ (b4 : Bool) (rs5 : List Rp), Env 81 a [(0, v1), (29, .bool b4)] ∧ Sep w (Fo) rs5 ∧ (∀ r, r ∈ rs → r ∈ rs5) ∧ rSl k_api_Node v1 l2 ∈ rs5 ∧ m_nodes_Right_j1 l2 b4 = some r) ?_ ?_
 ·refine wp_region_lit<|pr 1 E rfl fun a E=>sv E rfl rfl rfl (x_lenS E H rfl rfl hr3 Tryz.underlying22) fun a E=>pr 2 E rfl fun a E=>cs hm (fun hb50 hm=>?_) fun hb50 hm=>?_
  ·exact pk 18 E (kc 11 rfl hb50) rfl fun a E=>nt<|⟨true, _, E.sel [0, 29] rfl, H, fun r hr => hr, hr3, hm⟩
  ·refine pk 1 E (kc 11 rfl hb50) rfl fun a E=>st_val E (ws' (d := 11) E rfl rfl rfl rfl hb50) rfl rfl (x_lenS E H rfl rfl hr3 Tryz.underlying22) fun a E=>pk 3 E (kc 11 rfl hb50) rfl fun a E=>cs hm (fun hb51 hm=>?_) fun hb51 hm=>?_
   ·exact pk 13 E (kc 16 rfl hb51) rfl fun a E=>nt<|⟨true, _, E.sel [0, 29] rfl, H, fun r hr => hr, hr3, hm⟩
   ·refine pk 1 E (kc 16 rfl hb51) rfl fun a E=>bd hm fun x52 hx53 hm=>st_ixS E H (ws' (d := 16) E rfl rfl rfl rfl hb51) rfl rfl rfl rfl rfl hr3 Tryz.underlying22 sz80 hx53 fun q54 a H E=>have H:=H.derive1 m0 (rAt kS (q54.add 0) x52.Path) (fun ok h => k_api_Node_at0 h);pk 1 E (kc 16 rfl hb51) rfl fun a E=>st_val E (ws' (d := 16) E rfl rfl rfl rfl hb51) rfl rfl (x_ldA E H rfl rfl m0 Tryz.underlying9 rfl) fun a E=>pk 3 E (kc 16 rfl hb51) rfl fun a E=>cs hm (fun hb55 hm=>?_) fun hb55 hm=>?_
    ·exact pk 6 E (kc 23 rfl hb55) rfl fun a E=>nt<|⟨true, _, E.sel [0, 29] rfl, H, fun r hr => (t2 hr), (t2 hr3), hm⟩
    ·exact pk 1 E (kc 23 rfl hb55) rfl fun a E=>bd hm fun x56 hx57 hm=>st_ixS E H (ws' (d := 23) E rfl rfl rfl rfl hb55) rfl rfl rfl rfl rfl (t2 hr3) Tryz.underlying22 sz80 hx57 fun q58 a H E=>have H:=H.derive1 m0 (rAt (kI .i64) (q58.add 4) x56.Owner) (fun ok h => k_api_Node_at4 h);pk 1 E (kc 23 rfl hb55) rfl fun a E=>st_val E (ws' (d := 23) E rfl rfl rfl rfl hb55) rfl rfl (x_ldA E H rfl rfl m0 Tryz.underlying2 rfl) fun a E=>pk 2 E (kc 23 rfl hb55) rfl fun a E=>nt<|⟨x56.Owner != 0, _, E.sel [0, 29] rfl, H, fun r hr => (t4 hr), (t4 hr3), hm⟩
 ·clear E H hm
  rintro a w ⟨b4, rs5, E, H, hs6, hr7, hm⟩
  unfold m_nodes_Right_j1 at hm
  refine wif E hm rfl (fun hm=>?_) fun hm=>?_
  ·refine sq<|pr 1 E rfl fun a E=>nt<|wp_ret<|q_thenR<|out1 E rfl rfl<|?_
   cases hm
   exact ⟨rfl, H.reads (hs6)⟩
  ·refine wp_skip<|q_then<|sq<|st_makeMap (k := 9) (e := 3) E H (wn rfl) rfl rfl rfl fun p8 w a H E=>pr 1 E rfl fun a E=>nt<|wp_seq<|sq<|pr 1 E rfl fun a E=>?_
   refine sv E rfl rfl rfl (x_lenS E H rfl rfl hr7 Tryz.underlying22) fun a E=>pr 1 E rfl fun a E=>nt<|wp_block<|wp_loop_g (fun k1 a w => ∃ (x9 : Int) (x10 : (Nat)) (x11 : (List UInt8 → Int)) (rs12 : List Rp), Env 81 a [(0, v1), (3, .map (some p8)), (31, v1), (32, .int .i64 (l2.length : Int)), (33, .int .i64 x9)] ∧ Sep w (MapSI Tryz.prog 9 3 p8 x10 x11 :: Fo) rs12 ∧ (∀ r, r ∈ rs → r ∈ rs12) ∧ rSl k_api_Node v1 l2 ∈ rs12 ∧ m_nodes_Right_l1 l2 k1 x9 x10 x11 = some r) (((l2.length : Int) - 0 : Int).toNat + 1) ?_ ?_
   ·exact ⟨0, 0, (fun _ => 0), _, E.sel [0, 3, 31, 32, 33] rfl, H, hs6, hr7, hm⟩
   ·clear E H hm
    rintro k1 a w ⟨x9, x10, x11, rs12, E, H, hs13, hr14, hm⟩
    cases k1 with
    | zero => exact (none_some hm rfl).elim
    | succ k1 =>
     unfold m_nodes_Right_l1 at hm
     refine sq<|pr 1 E rfl fun a E=>nt<|wp_seq<|wif E hm rfl (fun hm=>?_) fun hm=>?_
     ·refine wp_skip<|q_then<|wp_seq_cut (fun a w => ∃ (x15 : (Nat)) (x16 : (List UInt8 → Int)) (rs17 : List Rp), Env 81 a [(0, v1), (3, .map (some p8)), (31, v1), (32, .int .i64 (l2.length : Int)), (33, .int .i64 x9)] ∧ Sep w (MapSI Tryz.prog 9 3 p8 x15 x16 :: Fo) rs17 ∧ (∀ r, r ∈ rs → r ∈ rs17) ∧ rSl k_api_Node v1 l2 ∈ rs17 ∧ m_nodes_Right_j2 (m_nodes_Right_l1 l2 k1) x9 x15 x16 = some r) ?_ ?_
      ·refine wp_block<|sq<|pr 1 E rfl fun a E=>bd hm fun x20 hx21 hm=>st_ixS E H (wn rfl) rfl rfl rfl rfl rfl hr14 Tryz.underlying22 sz80 hx21 fun q22 a H E=>ldf k_api_Node_flat E H rfl rfl rfl rfl rfl m0 Tryz.underlying80 rfl sz80 fun a E=>al E H rfl rfl rfl rfl zr80 fun p23 w a H E=>pr 1 E rfl fun a E=>st_st (i := 0) E H (wn rfl) rfl (us := (l_api_Node x20)) rfl rfl rfl rfl rfl sz80 rfl rfl fun w H=>?_
       refine nx<|pr 1 E rfl fun a E=>lb E H 0 rfl rfl rfl rfl rfl rfl rfl Tryz.underlying9 rfl fun a E=>bd hm fun u24 hx25 hm=>x_cl E rfl rfl rfl rfl rfl cf111 (c_path_Parent x20.Path H hx25)<|?_
       rintro _ w ⟨rfl, H⟩ a E
       refine pr 5 E rfl fun a E=>nt<|wp_seq<|wp_seq_cut (fun a w => ∃ (b26 : Bool) (rs27 : List Rp), Env 81 a [(0, v1), (3, .map (some p8)), (5, pt p23 0), (31, v1), (32, .int .i64 (l2.length : Int)), (33, .int .i64 x9), (71, .bool b26)] ∧ Sep w (MapSI Tryz.prog 9 3 p8 x10 x11 :: Blk p23 80 (l_api_Node x20) :: Fo) rs27 ∧ (∀ r, r ∈ rs → r ∈ rs27) ∧ rSl k_api_Node v1 l2 ∈ rs27 ∧ m_nodes_Right_j3 (m_nodes_Right_l1 l2 k1) x9 x20 x11 x10 b26 = some r) ?_ ?_
       ·obtain ⟨u34, H⟩ := H.raw (t1 hr14)
        refine dw [(0, 0), (1, 1), (2, 0), (3, 0), (4, 0), (5, 0), (6, 0), (7, 0), (8, 0), (9, 0), (10, 0), (11, 0), (12, 0), (13, 0), (14, 0), (15, 0), (16, 0), (17, 0), (18, 0), (19, 0), (20, 0), (21, 0), (22, 0), (23, 0), (24, 0), (25, 0), (26, 0), (27, 0)] [0, 1] [0] H (by kernel_rfl) (fun _ _ _ h => False.elim h.2) fun w W0 hI H=>fbn E (l_api_Node x20) rfl (wn rfl) rfl rfl rfl rfl m0 rfl Tryz.underlying80 rfl sz80 fun a E=>fr_op rfl<|bd hm fun u35 hx36 hm=>x_cl E rfl rfl rfl rfl rfl cf112 (c_nodes_node x20 H hx36)<|?_
        rintro _ w ⟨rfl, H⟩ a E
        refine nt<|?_
        refine ⟨⟨_, _, H, (subO_cons m0 (subO_cons mm1 (subO_nil))), (sub_cons m0 (sub_nil))⟩, ?_⟩
        refine fn 2 E rfl fun a E=>cs hm (fun hb37 hm=>?_) fun hb37 hm=>?_
        ·refine fk 24 E (kc 47 rfl hb37) rfl fun a E=>fr_nil<|?_
         clear hI
         exact q_then<|have H:=H.front 0 rfl;have H:=H.front 1 rfl;⟨true, _, E.sel [0, 3, 5, 31, 32, 33, 71] rfl, H, fun r hr => (t2 (hs13 r hr)), (t2 hr14), hm⟩
        ·refine fk 3 E (kc 47 rfl hb37) rfl fun a E=>cs hm (fun hb38 hm=>?_) fun hb38 hm=>?_
         ·refine fk 3 E (kc 50 rfl hb38) rfl fun a E=>cs hm (fun hb39 hm=>?_) fun hb39 hm=>?_
          ·refine fk 18 E (kc' (kc' (kc 53 rfl hb39) 50 rfl hb38) 47 rfl hb37) rfl fun a E=>fr_nil<|?_
           clear hI
           exact q_then<|have H:=H.front 0 rfl;have H:=H.front 1 rfl;⟨true, _, E.sel [0, 3, 5, 31, 32, 33, 71] rfl, H, fun r hr => (t2 (hs13 r hr)), (t2 hr14), hm⟩
          ·refine fk 2 E (kc 53 rfl hb39) rfl fun a E=>bk hm fun hx41 hm=>fr_val E rfl (ws' (d := 53) E rfl rfl rfl rfl hb39) rfl rfl (fun w hW=>x_lookI E rfl rfl rfl mm1 Tryz.underlying9 Tryz.underlying125 Tryz.underlying3 zer3 hx41 hW) fun a E=>?_
           refine fk 3 E (kc' (kc 53 rfl hb39) 50 rfl hb38) rfl fun a E=>cs hm (fun hb42 hm=>?_) fun hb42 hm=>?_
           ·refine fk 12 E (kc' (kc' (kc 59 rfl hb42) 50 rfl hb38) 47 rfl hb37) rfl fun a E=>fr_nil<|?_
            clear hI
            exact q_then<|have H:=H.front 0 rfl;have H:=H.front 1 rfl;⟨true, _, E.sel [0, 3, 5, 31, 32, 33, 71] rfl, H, fun r hr => (t2 (hs13 r hr)), (t2 hr14), hm⟩
           ·refine fk 3 E (kc 59 rfl hb42) rfl fun a E=>bd hm fun x43 hx44 hm=>?_
            obtain ⟨q45, u48, hx46, hx47⟩ := dr_ixW (P := Tryz.prog) (k := .i64) hI (dr_mem (.head _)) Tryz.underlying22 sz80 hx44
            refine fr_val E rfl (ws' (d := 59) E rfl rfl rfl rfl hb42) rfl rfl (fun w hW=>x_ixA E rfl rfl rfl (hx46 w)) fun a E=>?_
            have hx49 := dr_fld hx47 (fun _ _ _ h => k_api_Node_aw0 h)
            refine fk 1 E (kc 59 rfl hb42) rfl fun a E=>fa E rfl (ws' (d := 59) E rfl rfl rfl rfl hb42) rfl rfl rfl rfl hx49 Tryz.underlying9 rfl fun a E=>fk 1 E (kc 59 rfl hb42) rfl fun a E=>fb E rfl (ws' (d := 59) E rfl rfl rfl rfl hb42) rfl rfl rfl rfl m0 rfl Tryz.underlying9 rfl fun a E=>fk 4 E (kc' (kc' (kc 59 rfl hb42) 50 rfl hb38) 47 rfl hb37) rfl fun a E=>fr_nil<|?_
            clear hI
            exact q_then<|have H:=H.front 0 rfl;have H:=H.front 1 rfl;⟨!(sLt x43.Path x20.Path), _, E.sel [0, 3, 5, 31, 32, 33, 71] rfl, H, fun r hr => (t2 (hs13 r hr)), (t2 hr14), hm⟩
         ·refine fk 21 E (kc' (kc 50 rfl hb38) 47 rfl hb37) rfl fun a E=>fr_nil<|?_
          clear hI
          exact q_then<|have H:=H.front 0 rfl;have H:=H.front 1 rfl;⟨false, _, E.sel [0, 3, 5, 31, 32, 33, 71] rfl, H, fun r hr => (t2 (hs13 r hr)), (t2 hr14), hm⟩
       ·clear E H hm
        rintro a w ⟨b26, rs27, E, H, hs28, hr29, hm⟩
        unfold m_nodes_Right_j3 at hm
        refine wif E hm rfl (fun hm=>?_) fun hm=>?_
        ·refine sq<|pr 1 E rfl fun a E=>nt<|wp_ret<|q_thenR<|q_blkR<|q_thenR<|q_thenR<|q_blkR<|?_
         refine q_thenR<|out1 E rfl rfl<|have H:=H.drop 0;have H:=H.drop 0;?_
         cases hm
         exact ⟨rfl, H.reads (hs28)⟩
        ·refine wp_skip<|q_then<|sq<|pr 1 E rfl fun a E=>lb E H 1 rfl rfl rfl rfl rfl rfl rfl Tryz.underlying2 rfl fun a E=>pr 1 E rfl fun a E=>nt<|wif E hm rfl (fun hm=>?_) fun hm=>?_
         ·refine wp_region_lit<|pr 2 E rfl fun a E=>lb E H 1 rfl rfl rfl rfl rfl rfl rfl Tryz.underlying9 rfl fun a E=>bk hm fun hx31 hm=>sv E rfl rfl rfl (x_look (i := 0) E H rfl rfl rfl rfl Tryz.underlying9 Tryz.underlying125 Tryz.underlying3 zer3 hx31) fun a E=>pr 1 E rfl fun a E=>bk hm fun hx33 hm=>st_mapPut (i := 0) E H (wn rfl) rfl rfl rfl rfl rfl rfl Tryz.underlying9 Tryz.underlying125 Tryz.underlying3 hx33.1 hx33.2.1 hx33.2.2 fun w H=>wpList_nil<|?_
          exact q_blk<|q_then<|have H:=H.drop 1;⟨x10 + 1, mput x11 x20.Path.data.toList (IntKind.i64.wrap ((x11 x20.Path.data.toList) + 1)), _, E.sel [0, 3, 31, 32, 33] rfl, H, hs28, hr29, hm⟩
         ·exact wp_skip<|q_blk<|q_then<|have H:=H.drop 1;⟨x10, x11, _, E.sel [0, 3, 31, 32, 33] rfl, H, hs28, hr29, hm⟩
      ·clear E H hm
       rintro a w ⟨x15, x16, rs17, E, H, hs18, hr19, hm⟩
       unfold m_nodes_Right_j2 at hm
       exact wp_region_lit<|pr 2 E rfl fun a E=>nt<|⟨k1, Nat.lt_succ_self k1, IntKind.i64.wrap (x9 + 1), x15, x16, _, E.sel [0, 3, 31, 32, 33] rfl, H, hs18, hr19, hm⟩
     ·refine wp_exit<|q_thenX<|q_thenX<|q_hit<|q_then<|sq<|pr 1 E rfl fun a E=>nt<|wp_ret<|?_
      refine out1 E rfl rfl<|have H:=H.drop 0;?_
      cases hm
      exact ⟨rfl, H.reads (hs13)⟩

def m_cantonref06_Find_l1 (l2 : List S_api_Node) (s3 : ByteArray) : Nat → Int → Option (S_api_Node × Bool)
  | 0, _ => none
  | k1 + 1, x6 =>
    if (decide (x6 < (l2.length : Int))) = true then ((idx l2 x6).bind fun x10 => if (sEq x10.Path s3) = true then ((idx l2 x6).bind fun x13 => some (x13, true)) else (m_cantonref06_Find_l1 l2 s3 k1 (IntKind.i64.wrap (x6 + 1)))) else (some ((⟨(ByteArray.mk #[]), (ByteArray.mk #[]), 0, 0, 0⟩ : S_api_Node), false))
def m_cantonref06_Find (l2 : List S_api_Node) (s3 : ByteArray) : Option (S_api_Node × Bool) :=
  m_cantonref06_Find_l1 l2 s3 (((l2.length : Int) - 0 : Int).toNat + 1) 0
theorem c_cantonref06_Find {w : World} {Fo : List Ob} {rs : List Rp} (v1 : Value) (l2 : List S_api_Node) (s3 : ByteArray) (H : Sep w (Fo) rs) (hr4 : rSl k_api_Node v1 l2 ∈ rs) {r : S_api_Node × Bool} (hm : m_cantonref06_Find l2 s3 = some r) :
    Calls Tryz.prog 70 [v1, .string s3].toArray w (Ret fun v w' => .tuple #[.agg (l_api_Node r.1).toArray, .bool r.2] = v ∧ Sep w' (Fo) (rs)) := by
 unfold m_cantonref06_Find at hm
 refine enter Tryz.func70 rfl Tryz.ntmps70 rfl fun a E =>?_
 simp only [enum, Nat.reduceAdd] at E
 refine sq<|al E H rfl rfl rfl rfl zr80 fun p5 w a H E=>pr 1 E rfl fun a E=>nt<|wp_seq<|sq<|pr 1 E rfl fun a E=>nt<|wp_block<|wp_loop_g (fun k1 a w => ∃ (x6 : Int) (rs7 : List Rp), Env 25 a [(0, v1), (1, .string s3), (4, pt p5 0), (6, .int .i64 x6)] ∧ Sep w (Blk p5 80 z_api_Node :: Fo) rs7 ∧ (∀ r, r ∈ rs → r ∈ rs7) ∧ rSl k_api_Node v1 l2 ∈ rs7 ∧ m_cantonref06_Find_l1 l2 s3 k1 x6 = some r) (((l2.length : Int) - 0 : Int).toNat + 1) ?_ ?_
 ·exact ⟨0, _, E.sel [0, 1, 4, 6] rfl, H, fun r hr => hr, hr4, hm⟩
 ·clear E H hm
  rintro k1 a w ⟨x6, rs7, E, H, hs8, hr9, hm⟩
  cases k1 with
  | zero => exact (none_some hm rfl).elim
  | succ k1 =>
   unfold m_cantonref06_Find_l1 at hm
   refine wp_seq<|sq<|pr 2 E rfl fun a E=>sv E rfl rfl rfl (x_lenS E H rfl rfl hr9 Tryz.underlying22) fun a E=>pr 1 E rfl fun a E=>nt<|wif E hm rfl (fun hm=>?_) fun hm=>?_
   ·refine wp_skip<|q_then<|wp_seq<|wp_block<|sq<|pr 2 E rfl fun a E=>bd hm fun x10 hx11 hm=>st_ixS E H (wn rfl) rfl rfl rfl rfl rfl hr9 Tryz.underlying22 sz80 hx11 fun q12 a H E=>have H:=H.derive1 m0 (rAt kS (q12.add 0) x10.Path) (fun ok h => k_api_Node_at0 h);?_
    refine pr 1 E rfl fun a E=>sv E rfl rfl rfl (x_ldA E H rfl rfl m0 Tryz.underlying9 rfl) fun a E=>pr 2 E rfl fun a E=>nt<|wif E hm rfl (fun hm=>?_) fun hm=>?_
    ·refine sq<|pr 2 E rfl fun a E=>bd hm fun x13 hx14 hm=>st_ixS E H (wn rfl) rfl rfl rfl rfl rfl (t2 hr9) Tryz.underlying22 sz80 hx14 fun q15 a H E=>ldf k_api_Node_flat E H rfl rfl rfl rfl rfl m0 Tryz.underlying80 rfl sz80 fun a E=>st_st (i := 0) E H (wn rfl) rfl (us := (l_api_Node x13)) rfl rfl rfl rfl rfl sz80 rfl rfl fun w H=>pr 1 E rfl fun a E=>nt<|wp_ret<|?_
     refine q_blkR<|q_thenR<|q_thenR<|q_blkR<|q_thenR<|outR2 E rfl (rvBN (i := 0) (us := (l_api_Node x13)) H rfl rfl rfl Tryz.underlying80 rfl sz80) (rvT rfl)<|have H:=H.drop 0;?_
     cases hm
     exact ⟨rfl, H.reads (fun r hr => (t3 (hs8 r hr)))⟩
    ·exact wp_skip<|q_blk<|q_then<|wp_region_lit<|pr 3 E rfl fun a E=>nt<|⟨k1, Nat.lt_succ_self k1, IntKind.i64.wrap (x6 + 1), _, E.sel [0, 1, 4, 6] rfl, H, fun r hr => (t2 (hs8 r hr)), (t2 hr9), hm⟩
   ·refine wp_exit<|q_thenX<|q_thenX<|q_hit<|q_then<|sq<|sv E rfl rfl rfl (x_build E rfl (E.evs rfl) (v := .agg z_api_Node.toArray) (by kernel_rfl)) fun a E=>st_st (i := 0) E H (wn rfl) rfl (us := z_api_Node) rfl rfl rfl rfl rfl sz80 rfl rfl fun w H=>pr 1 E rfl fun a E=>?_
    refine nt<|wp_ret<|outR2 E rfl (rvBN (i := 0) (us := z_api_Node) H rfl rfl rfl Tryz.underlying80 rfl sz80) (rvT rfl)<|have H:=H.drop 0;?_
    cases hm
    exact ⟨rfl, H.reads (hs8)⟩

def m_cantonref06_Right_j2 (rec_1 : Int → Option Bool) (x8 : Int) : Option Bool :=
  rec_1 (IntKind.i64.wrap (x8 + 1))
def m_cantonref06_Right_j4 (rec_1 : Int → Option Bool) (x8 : Int) (b28 : Bool) : Option Bool :=
  if b28 = true then (some (false)) else (m_cantonref06_Right_j2 rec_1 x8)
def m_cantonref06_Right_j3 (rec_1 : Int → Option Bool) (x8 : Int) (x15 : S_api_Node) (l2 : List S_api_Node) (b19 : Bool) : Option Bool :=
  if b19 = true then (some (false)) else (if (x8 == 0) = true then (m_cantonref06_Right_j2 rec_1 x8) else ((m_cantonref01_Parent x15.Path).bind fun u23 => (m_cantonref06_Find l2 u23.1).bind fun u25 => (idx l2 (IntKind.i64.wrap (x8 - 1))).bind fun x33 => if (!(sLt x33.Path x15.Path)) = true then (m_cantonref06_Right_j4 rec_1 x8 true) else (if (!u23.2) = true then (m_cantonref06_Right_j4 rec_1 x8 true) else (if (!u25.2) = true then (m_cantonref06_Right_j4 rec_1 x8 true) else (m_cantonref06_Right_j4 rec_1 x8 (u25.1.Owner != 0))))))
def m_cantonref06_Right_l1 (l2 : List S_api_Node) : Nat → Int → Option Bool
  | 0, _ => none
  | k1 + 1, x8 =>
    if (decide (x8 < (l2.length : Int))) = true then ((idx l2 x8).bind fun x15 => if (decide ((x15.Data.size : Int) > 256)) = true then (m_cantonref06_Right_j3 (m_cantonref06_Right_l1 l2 k1) x8 x15 l2 true) else (if (decide (x15.Version < 0)) = true then (m_cantonref06_Right_j3 (m_cantonref06_Right_l1 l2 k1) x8 x15 l2 true) else (if (decide (x15.Version > 281474976710656)) = true then (m_cantonref06_Right_j3 (m_cantonref06_Right_l1 l2 k1) x8 x15 l2 true) else (if (decide (x15.Turn < 0)) = true then (m_cantonref06_Right_j3 (m_cantonref06_Right_l1 l2 k1) x8 x15 l2 true) else (if (decide (x15.Turn > 10000)) = true then (m_cantonref06_Right_j3 (m_cantonref06_Right_l1 l2 k1) x8 x15 l2 true) else (if (decide (x15.Owner < 0)) = true then (m_cantonref06_Right_j3 (m_cantonref06_Right_l1 l2 k1) x8 x15 l2 true) else (if (decide (x15.Owner > 1099511627776)) = true then (m_cantonref06_Right_j3 (m_cantonref06_Right_l1 l2 k1) x8 x15 l2 true) else (if (x15.Owner != 0) = true then (m_cantonref06_Right_j3 (m_cantonref06_Right_l1 l2 k1) x8 x15 l2 (x15.Turn != 0)) else (m_cantonref06_Right_j3 (m_cantonref06_Right_l1 l2 k1) x8 x15 l2 false))))))))) else (some (true))
def m_cantonref06_Right_j1 (l2 : List S_api_Node) (b4 : Bool) : Option Bool :=
  if b4 = true then (some (false)) else (m_cantonref06_Right_l1 l2 (((l2.length : Int) - 0 : Int).toNat + 1) 0)
def m_cantonref06_Right (l2 : List S_api_Node) : Option Bool :=
  if ((l2.length : Int) == 0) = true then (m_cantonref06_Right_j1 l2 true) else (if (decide ((l2.length : Int) > 512)) = true then (m_cantonref06_Right_j1 l2 true) else ((idx l2 0).bind fun x53 => if (!(sEq x53.Path (ByteArray.mk #[47]))) = true then (m_cantonref06_Right_j1 l2 true) else ((idx l2 0).bind fun x57 => m_cantonref06_Right_j1 l2 (x57.Owner != 0))))
theorem c_cantonref06_Right {w : World} {Fo : List Ob} {rs : List Rp} (v1 : Value) (l2 : List S_api_Node) (H : Sep w (Fo) rs) (hr3 : rSl k_api_Node v1 l2 ∈ rs) {r : Bool} (hm : m_cantonref06_Right l2 = some r) :
    Calls Tryz.prog 35 [v1].toArray w (Ret fun v w' => .bool r = v ∧ Sep w' (Fo) (rs)) := by
 unfold m_cantonref06_Right at hm
 refine enter Tryz.func35 rfl Tryz.ntmps35 rfl fun a E =>?_
 simp only [enum, Nat.reduceAdd] at E
 refine sq<|pr 1 E rfl fun a E=>nt<|wp_seq<|wp_seq_cut (fun a w => ∃ (b4 : Bool) (rs5 : List Rp), Env 121 a [(0, v1), (30, .bool b4)] ∧ Sep w (Fo) rs5 ∧ (∀ r, r ∈ rs → r ∈ rs5) ∧ rSl k_api_Node v1 l2 ∈ rs5 ∧ m_cantonref06_Right_j1 l2 b4 = some r) ?_ ?_
 ·refine wp_region_lit<|pr 1 E rfl fun a E=>sv E rfl rfl rfl (x_lenS E H rfl rfl hr3 Tryz.underlying22) fun a E=>pr 2 E rfl fun a E=>cs hm (fun hb51 hm=>?_) fun hb51 hm=>?_
  ·exact pk 18 E (kc 12 rfl hb51) rfl fun a E=>nt<|⟨true, _, E.sel [0, 30] rfl, H, fun r hr => hr, hr3, hm⟩
  ·refine pk 1 E (kc 12 rfl hb51) rfl fun a E=>st_val E (ws' (d := 12) E rfl rfl rfl rfl hb51) rfl rfl (x_lenS E H rfl rfl hr3 Tryz.underlying22) fun a E=>pk 3 E (kc 12 rfl hb51) rfl fun a E=>cs hm (fun hb52 hm=>?_) fun hb52 hm=>?_
   ·exact pk 13 E (kc 17 rfl hb52) rfl fun a E=>nt<|⟨true, _, E.sel [0, 30] rfl, H, fun r hr => hr, hr3, hm⟩
   ·refine pk 1 E (kc 17 rfl hb52) rfl fun a E=>bd hm fun x53 hx54 hm=>st_ixS E H (ws' (d := 17) E rfl rfl rfl rfl hb52) rfl rfl rfl rfl rfl hr3 Tryz.underlying22 sz80 hx54 fun q55 a H E=>have H:=H.derive1 m0 (rAt kS (q55.add 0) x53.Path) (fun ok h => k_api_Node_at0 h);pk 1 E (kc 17 rfl hb52) rfl fun a E=>st_val E (ws' (d := 17) E rfl rfl rfl rfl hb52) rfl rfl (x_ldA E H rfl rfl m0 Tryz.underlying9 rfl) fun a E=>pk 3 E (kc 17 rfl hb52) rfl fun a E=>cs hm (fun hb56 hm=>?_) fun hb56 hm=>?_
    ·exact pk 6 E (kc 24 rfl hb56) rfl fun a E=>nt<|⟨true, _, E.sel [0, 30] rfl, H, fun r hr => (t2 hr), (t2 hr3), hm⟩
    ·exact pk 1 E (kc 24 rfl hb56) rfl fun a E=>bd hm fun x57 hx58 hm=>st_ixS E H (ws' (d := 24) E rfl rfl rfl rfl hb56) rfl rfl rfl rfl rfl (t2 hr3) Tryz.underlying22 sz80 hx58 fun q59 a H E=>have H:=H.derive1 m0 (rAt (kI .i64) (q59.add 4) x57.Owner) (fun ok h => k_api_Node_at4 h);pk 1 E (kc 24 rfl hb56) rfl fun a E=>st_val E (ws' (d := 24) E rfl rfl rfl rfl hb56) rfl rfl (x_ldA E H rfl rfl m0 Tryz.underlying2 rfl) fun a E=>pk 2 E (kc 24 rfl hb56) rfl fun a E=>nt<|⟨x57.Owner != 0, _, E.sel [0, 30] rfl, H, fun r hr => (t4 hr), (t4 hr3), hm⟩
 ·clear E H hm
  rintro a w ⟨b4, rs5, E, H, hs6, hr7, hm⟩
  unfold m_cantonref06_Right_j1 at hm
  refine wif E hm rfl (fun hm=>?_) fun hm=>?_
  ·refine sq<|pr 1 E rfl fun a E=>nt<|wp_ret<|q_thenR<|out1 E rfl rfl<|?_
   cases hm
   exact ⟨rfl, H.reads (hs6)⟩
  ·refine wp_skip<|q_then<|wp_seq<|sq<|pr 1 E rfl fun a E=>nt<|wp_block<|wp_loop_g (fun k1 a w => ∃ (x8 : Int) (rs9 : List Rp), Env 121 a [(0, v1), (3, .int .i64 x8)] ∧ Sep w (Fo) rs9 ∧ (∀ r, r ∈ rs → r ∈ rs9) ∧ rSl k_api_Node v1 l2 ∈ rs9 ∧ m_cantonref06_Right_l1 l2 k1 x8 = some r) (((l2.length : Int) - 0 : Int).toNat + 1) ?_ ?_
   ·exact ⟨0, _, E.sel [0, 3] rfl, H, hs6, hr7, hm⟩
   ·clear E H hm
    rintro k1 a w ⟨x8, rs9, E, H, hs10, hr11, hm⟩
    cases k1 with
    | zero => exact (none_some hm rfl).elim
    | succ k1 =>
     unfold m_cantonref06_Right_l1 at hm
     refine wp_seq<|sq<|pr 2 E rfl fun a E=>sv E rfl rfl rfl (x_lenS E H rfl rfl hr11 Tryz.underlying22) fun a E=>pr 1 E rfl fun a E=>nt<|wif E hm rfl (fun hm=>?_) fun hm=>?_
     ·refine wp_skip<|q_then<|wp_seq_cut (fun a w => ∃ (rs12 : List Rp), Env 121 a [(0, v1), (3, .int .i64 x8)] ∧ Sep w (Fo) rs12 ∧ (∀ r, r ∈ rs → r ∈ rs12) ∧ rSl k_api_Node v1 l2 ∈ rs12 ∧ m_cantonref06_Right_j2 (m_cantonref06_Right_l1 l2 k1) x8 = some r) ?_ ?_
      ·refine wp_block<|sq<|pr 2 E rfl fun a E=>bd hm fun x15 hx16 hm=>st_ixS E H (wn rfl) rfl rfl rfl rfl rfl hr11 Tryz.underlying22 sz80 hx16 fun q17 a H E=>ldf k_api_Node_flat E H rfl rfl rfl rfl rfl m0 Tryz.underlying80 rfl sz80 fun a E=>al E H rfl rfl rfl rfl zr80 fun p18 w a H E=>st_st (i := 0) E H (wn rfl) rfl (us := (l_api_Node x15)) rfl rfl rfl rfl rfl sz80 rfl rfl fun w H=>nt<|?_
       refine wp_seq<|wp_seq_cut (fun a w => ∃ (b19 : Bool) (rs20 : List Rp), Env 121 a [(0, v1), (3, .int .i64 x8), (4, pt p18 0), (84, .bool b19)] ∧ Sep w (Blk p18 80 (l_api_Node x15) :: Fo) rs20 ∧ (∀ r, r ∈ rs → r ∈ rs20) ∧ rSl k_api_Node v1 l2 ∈ rs20 ∧ m_cantonref06_Right_j3 (m_cantonref06_Right_l1 l2 k1) x8 x15 l2 b19 = some r) ?_ ?_
       ·refine wp_region_lit<|pr 1 E rfl fun a E=>lb E H 0 rfl rfl rfl rfl rfl rfl rfl Tryz.underlying9 rfl fun a E=>pr 3 E rfl fun a E=>cs hm (fun hb43 hm=>?_) fun hb43 hm=>?_
        ·exact pk 39 E (kc 45 rfl hb43) rfl fun a E=>nt<|⟨true, _, E.sel [0, 3, 4, 84] rfl, H, fun r hr => (t1 (hs10 r hr)), (t1 hr11), hm⟩
        ·refine pk 1 E (kc 45 rfl hb43) rfl fun a E=>st_val E (ws' (d := 45) E rfl rfl rfl rfl hb43) rfl rfl (x_ldB (i := 0) E H rfl rfl rfl rfl Tryz.underlying2 rfl) fun a E=>pk 3 E (kc 45 rfl hb43) rfl fun a E=>cs hm (fun hb44 hm=>?_) fun hb44 hm=>?_
         ·exact pk 34 E (kc 50 rfl hb44) rfl fun a E=>nt<|⟨true, _, E.sel [0, 3, 4, 84] rfl, H, fun r hr => (t1 (hs10 r hr)), (t1 hr11), hm⟩
         ·refine pk 1 E (kc 50 rfl hb44) rfl fun a E=>st_val E (ws' (d := 50) E rfl rfl rfl rfl hb44) rfl rfl (x_ldB (i := 0) E H rfl rfl rfl rfl Tryz.underlying2 rfl) fun a E=>pk 3 E (kc 50 rfl hb44) rfl fun a E=>cs hm (fun hb45 hm=>?_) fun hb45 hm=>?_
          ·exact pk 29 E (kc 55 rfl hb45) rfl fun a E=>nt<|⟨true, _, E.sel [0, 3, 4, 84] rfl, H, fun r hr => (t1 (hs10 r hr)), (t1 hr11), hm⟩
          ·refine pk 1 E (kc 55 rfl hb45) rfl fun a E=>st_val E (ws' (d := 55) E rfl rfl rfl rfl hb45) rfl rfl (x_ldB (i := 0) E H rfl rfl rfl rfl Tryz.underlying2 rfl) fun a E=>pk 3 E (kc 55 rfl hb45) rfl fun a E=>cs hm (fun hb46 hm=>?_) fun hb46 hm=>?_
           ·exact pk 24 E (kc 60 rfl hb46) rfl fun a E=>nt<|⟨true, _, E.sel [0, 3, 4, 84] rfl, H, fun r hr => (t1 (hs10 r hr)), (t1 hr11), hm⟩
           ·refine pk 1 E (kc 60 rfl hb46) rfl fun a E=>st_val E (ws' (d := 60) E rfl rfl rfl rfl hb46) rfl rfl (x_ldB (i := 0) E H rfl rfl rfl rfl Tryz.underlying2 rfl) fun a E=>pk 3 E (kc 60 rfl hb46) rfl fun a E=>cs hm (fun hb47 hm=>?_) fun hb47 hm=>?_
            ·exact pk 19 E (kc 65 rfl hb47) rfl fun a E=>nt<|⟨true, _, E.sel [0, 3, 4, 84] rfl, H, fun r hr => (t1 (hs10 r hr)), (t1 hr11), hm⟩
            ·refine pk 1 E (kc 65 rfl hb47) rfl fun a E=>st_val E (ws' (d := 65) E rfl rfl rfl rfl hb47) rfl rfl (x_ldB (i := 0) E H rfl rfl rfl rfl Tryz.underlying2 rfl) fun a E=>pk 3 E (kc 65 rfl hb47) rfl fun a E=>cs hm (fun hb48 hm=>?_) fun hb48 hm=>?_
             ·exact pk 14 E (kc 70 rfl hb48) rfl fun a E=>nt<|⟨true, _, E.sel [0, 3, 4, 84] rfl, H, fun r hr => (t1 (hs10 r hr)), (t1 hr11), hm⟩
             ·refine pk 1 E (kc 70 rfl hb48) rfl fun a E=>st_val E (ws' (d := 70) E rfl rfl rfl rfl hb48) rfl rfl (x_ldB (i := 0) E H rfl rfl rfl rfl Tryz.underlying2 rfl) fun a E=>pk 3 E (kc 70 rfl hb48) rfl fun a E=>cs hm (fun hb49 hm=>?_) fun hb49 hm=>?_
              ·exact pk 9 E (kc 75 rfl hb49) rfl fun a E=>nt<|⟨true, _, E.sel [0, 3, 4, 84] rfl, H, fun r hr => (t1 (hs10 r hr)), (t1 hr11), hm⟩
              ·refine pk 1 E (kc 75 rfl hb49) rfl fun a E=>st_val E (ws' (d := 75) E rfl rfl rfl rfl hb49) rfl rfl (x_ldB (i := 0) E H rfl rfl rfl rfl Tryz.underlying2 rfl) fun a E=>pk 2 E (kc 75 rfl hb49) rfl fun a E=>cs hm (fun hb50 hm=>?_) fun hb50 hm=>?_
               ·exact pk 1 E (kc 79 rfl hb50) rfl fun a E=>st_val E (ws' (d := 79) E rfl rfl rfl rfl hb50) rfl rfl (x_ldB (i := 0) E H rfl rfl rfl rfl Tryz.underlying2 rfl) fun a E=>pk 3 E (kc' (kc 79 rfl hb50) 75 rfl hb49) rfl fun a E=>nt<|⟨x15.Turn != 0, _, E.sel [0, 3, 4, 84] rfl, H, fun r hr => (t1 (hs10 r hr)), (t1 hr11), hm⟩
               ·exact pk 5 E (kc' (kc 79 rfl hb50) 75 rfl hb49) rfl fun a E=>nt<|⟨false, _, E.sel [0, 3, 4, 84] rfl, H, fun r hr => (t1 (hs10 r hr)), (t1 hr11), hm⟩
       ·clear E H hm
        rintro a w ⟨b19, rs20, E, H, hs21, hr22, hm⟩
        unfold m_cantonref06_Right_j3 at hm
        refine wif E hm rfl (fun hm=>?_) fun hm=>?_
        ·refine sq<|pr 1 E rfl fun a E=>nt<|wp_ret<|q_thenR<|q_blkR<|q_thenR<|q_thenR<|q_blkR<|?_
         refine q_thenR<|out1 E rfl rfl<|have H:=H.drop 0;?_
         cases hm
         exact ⟨rfl, H.reads (hs21)⟩
        ·refine wp_skip<|q_then<|wp_seq<|sq<|pr 2 E rfl fun a E=>nt<|wif E hm rfl (fun hm=>?_) fun hm=>?_
         ·exact wp_exit<|q_thenX<|q_hit<|q_then<|have H:=H.drop 0;⟨_, E.sel [0, 3] rfl, H, hs21, hr22, hm⟩
         ·refine wp_skip<|q_then<|sq<|pr 1 E rfl fun a E=>lb E H 0 rfl rfl rfl rfl rfl rfl rfl Tryz.underlying9 rfl fun a E=>bd hm fun u23 hx24 hm=>x_cl E rfl rfl rfl rfl rfl cf69 (c_cantonref01_Parent x15.Path H hx24)<|?_
          rintro _ w ⟨rfl, H⟩ a E
          refine pr 5 E rfl fun a E=>nx<|pr 2 E rfl fun a E=>bd hm fun u25 hx26 hm=>x_cl E rfl rfl rfl rfl rfl cf70 (c_cantonref06_Find v1 l2 u23.1 H hr22 hx26)<|?_
          rintro _ w ⟨rfl, H⟩ a E
          refine pr 3 E rfl fun a E=>al E H rfl rfl rfl rfl zr80 fun p27 w a H E=>st_st (i := 0) E H (wn rfl) rfl (us := (l_api_Node u25.1)) rfl rfl rfl rfl rfl sz80 rfl rfl fun w H=>pr 1 E rfl fun a E=>nt<|wp_seq_cut (fun a w => ∃ (b28 : Bool) (rs29 : List Rp), Env 121 a [(0, v1), (3, .int .i64 x8), (120, .bool b28)] ∧ Sep w (Fo) rs29 ∧ (∀ r, r ∈ rs → r ∈ rs29) ∧ rSl k_api_Node v1 l2 ∈ rs29 ∧ m_cantonref06_Right_j4 (m_cantonref06_Right_l1 l2 k1) x8 b28 = some r) ?_ ?_
          ·obtain ⟨u32, H⟩ := H.raw hr22
           refine dw [(0, 0), (1, 0), (2, 0), (3, 0), (4, 0), (5, 0), (6, 0), (7, 0), (8, 0), (9, 0), (10, 0), (11, 0), (12, 0), (13, 0), (14, 0), (15, 0), (16, 0), (17, 0), (18, 0), (19, 0), (20, 0), (21, 0)] [0, 1] [0] H (by kernel_rfl) (fun _ _ _ h => False.elim h.2) fun w W0 hI H=>fn 3 E rfl fun a E=>bd hm fun x33 hx34 hm=>?_
           obtain ⟨q35, u38, hx36, hx37⟩ := dr_ixW (P := Tryz.prog) (k := .i64) hI (dr_mem (.head _)) Tryz.underlying22 sz80 hx34
           refine fr_val E rfl (wn rfl) rfl rfl (fun w hW=>x_ixA E rfl rfl rfl (hx36 w)) fun a E=>?_
           have hx39 := dr_fld hx37 (fun _ _ _ h => k_api_Node_aw0 h)
           refine fn 1 E rfl fun a E=>fa E rfl (wn rfl) rfl rfl rfl rfl hx39 Tryz.underlying9 rfl fun a E=>fn 1 E rfl fun a E=>fb E rfl (wn rfl) rfl rfl rfl rfl mm1 rfl Tryz.underlying9 rfl fun a E=>fn 2 E rfl fun a E=>cs hm (fun hb40 hm=>?_) fun hb40 hm=>?_
           ·refine fk 12 E (kc 108 rfl hb40) rfl fun a E=>fr_nil<|?_
            clear hI
            exact q_then<|have H:=H.drop 0;have H:=H.drop 0;⟨true, _, E.sel [0, 3, 120] rfl, H, fun r hr => (t1 (hs21 r hr)), (t1 hr22), hm⟩
           ·refine fk 4 E (kc 108 rfl hb40) rfl fun a E=>cs hm (fun hb41 hm=>?_) fun hb41 hm=>?_
            ·refine fk 8 E (kc 112 rfl hb41) rfl fun a E=>fr_nil<|?_
             clear hI
             exact q_then<|have H:=H.drop 0;have H:=H.drop 0;⟨true, _, E.sel [0, 3, 120] rfl, H, fun r hr => (t1 (hs21 r hr)), (t1 hr22), hm⟩
            ·refine fk 4 E (kc 112 rfl hb41) rfl fun a E=>cs hm (fun hb42 hm=>?_) fun hb42 hm=>?_
             ·refine fk 4 E (kc 116 rfl hb42) rfl fun a E=>fr_nil<|?_
              clear hI
              exact q_then<|have H:=H.drop 0;have H:=H.drop 0;⟨true, _, E.sel [0, 3, 120] rfl, H, fun r hr => (t1 (hs21 r hr)), (t1 hr22), hm⟩
             ·refine fk 1 E (kc 116 rfl hb42) rfl fun a E=>fb E rfl (ws' (d := 116) E rfl rfl rfl rfl hb42) rfl rfl rfl rfl m0 rfl Tryz.underlying2 rfl fun a E=>fk 2 E (kc 116 rfl hb42) rfl fun a E=>fr_nil<|?_
              clear hI
              exact q_then<|have H:=H.drop 0;have H:=H.drop 0;⟨u25.1.Owner != 0, _, E.sel [0, 3, 120] rfl, H, fun r hr => (t1 (hs21 r hr)), (t1 hr22), hm⟩
          ·clear E H hm
           rintro a w ⟨b28, rs29, E, H, hs30, hr31, hm⟩
           unfold m_cantonref06_Right_j4 at hm
           refine wif E hm rfl (fun hm=>?_) fun hm=>?_
           ·refine sq<|pr 1 E rfl fun a E=>nt<|wp_ret<|q_blkR<|q_thenR<|q_thenR<|q_blkR<|q_thenR<|?_
            refine out1 E rfl rfl<|?_
            cases hm
            exact ⟨rfl, H.reads (hs30)⟩
           ·exact wp_skip<|q_blk<|q_then<|⟨_, E.sel [0, 3] rfl, H, hs30, hr31, hm⟩
      ·clear E H hm
       rintro a w ⟨rs12, E, H, hs13, hr14, hm⟩
       unfold m_cantonref06_Right_j2 at hm
       exact wp_region_lit<|pr 3 E rfl fun a E=>nt<|⟨k1, Nat.lt_succ_self k1, IntKind.i64.wrap (x8 + 1), _, E.sel [0, 3] rfl, H, hs13, hr14, hm⟩
     ·refine wp_exit<|q_thenX<|q_thenX<|q_hit<|q_then<|sq<|pr 1 E rfl fun a E=>nt<|wp_ret<|?_
      refine out1 E rfl rfl<|?_
      cases hm
      exact ⟨rfl, H.reads (hs10)⟩

def m_nodes_named : Option Unit :=
  some ()
theorem c_nodes_named {w : World} {Fo : List Ob} {rs : List Rp} (H : Sep w (Fo) rs) {r : Unit} (hm : m_nodes_named = some r) :
    Calls Tryz.prog 110 [].toArray w (Ret fun v w' => .agg #[.int .i64 0, .int .i64 13, .int .i64 2, .int .i64 19, .int .i64 18, .int .i64 16, .int .i64 16, .int .i64 20] = v ∧ Sep w' (Fo) (rs)) := by
 unfold m_nodes_named at hm
 refine enter Tryz.func110 rfl Tryz.ntmps110 rfl fun a E =>?_
 simp only [enum, Nat.reduceAdd] at E
 refine sq<|al E H rfl rfl rfl rfl zr123 fun p1 w a H E=>nx<|sv E rfl rfl rfl (x_build E rfl (E.evs rfl) (v := .agg #[.int .i64 0, .int .i64 13, .int .i64 2, .int .i64 19, .int .i64 18, .int .i64 16, .int .i64 16, .int .i64 20]) (by kernel_rfl)) fun a E=>st_st (i := 0) E H (wn rfl) rfl (us := [.int .i64 0, .int .i64 13, .int .i64 2, .int .i64 19, .int .i64 18, .int .i64 16, .int .i64 16, .int .i64 20]) rfl rfl rfl rfl rfl sz123 rfl rfl fun w H=>nt<|wp_ret<|outR1 E rfl (rvBN (i := 0) (us := [.int .i64 0, .int .i64 13, .int .i64 2, .int .i64 19, .int .i64 18, .int .i64 16, .int .i64 16, .int .i64 20]) H rfl rfl rfl Tryz.underlying123 rfl sz123)<|have H:=H.drop 0;?_
 cases hm
 exact ⟨rfl, H.reads (fun r hr => hr)⟩

def m_nodes_May_j7 (x1 : S_api_Op) (x18 : Int) (b21 : Bool) : Option Bool :=
  if b21 = true then (m_nodes_named.bind fun u25 => (idx ([0, 13, 2, 19, 18, 16, 16, 20] : List Int) x1.Kind).bind fun x27 => if ((iandNot .i64 x18 x27) == 0) = true then (if (x1.Kind != 7) = true then (some (true)) else (some (decide (x1.Owner > 0)))) else (some (false))) else (some (false))
def m_nodes_May_j6 (x1 : S_api_Op) (x18 : Int) : Option Bool :=
  if (decide (x1.Version ≥ (-1))) = true then (m_nodes_May_j7 x1 x18 (decide (x1.Version ≤ 281474976710656))) else (m_nodes_May_j7 x1 x18 false)
def m_nodes_May_j5 (x1 : S_api_Op) (x15 : Int) : Option Bool :=
  if (sEq x1.Path (ByteArray.mk #[47])) = true then (m_nodes_May_j6 x1 (ior .i64 x15 16)) else (m_nodes_May_j6 x1 x15)
def m_nodes_May_j4 (x1 : S_api_Op) (x12 : Int) : Option Bool :=
  if x1.Turns = true then (m_nodes_May_j5 x1 (ior .i64 x12 8)) else (m_nodes_May_j5 x1 x12)
def m_nodes_May_j3 (x1 : S_api_Op) (x9 : Int) : Option Bool :=
  if (x1.Owner != 0) = true then (m_nodes_May_j4 x1 (ior .i64 x9 4)) else (m_nodes_May_j4 x1 x9)
def m_nodes_May_j2 (x1 : S_api_Op) (x6 : Int) : Option Bool :=
  if (x1.Version != 0) = true then (m_nodes_May_j3 x1 (ior .i64 x6 2)) else (m_nodes_May_j3 x1 x6)
def m_nodes_May_j1 (x1 : S_api_Op) (b3 : Bool) : Option Bool :=
  if b3 = true then (some (false)) else (if (!(sEq x1.Data (ByteArray.mk #[]))) = true then (m_nodes_May_j2 x1 (ior .i64 0 1)) else (m_nodes_May_j2 x1 0))
def m_nodes_May (x1 : S_api_Op) : Option Bool :=
  if (decide (x1.Kind < 1)) = true then (m_nodes_May_j1 x1 true) else (if (decide (x1.Kind > 7)) = true then (m_nodes_May_j1 x1 true) else ((m_path_Right x1.Path).bind fun u34 => if (!u34) = true then (m_nodes_May_j1 x1 true) else (if (decide ((x1.Data.size : Int) > 256)) = true then (m_nodes_May_j1 x1 true) else ((m_nodes_within x1.Owner 1099511627776).bind fun u38 => m_nodes_May_j1 x1 (!u38)))))
theorem c_nodes_May {w : World} {Fo : List Ob} {rs : List Rp} (x1 : S_api_Op) (H : Sep w (Fo) rs) {r : Bool} (hm : m_nodes_May x1 = some r) :
    Calls Tryz.prog 53 [.agg (l_api_Op x1).toArray].toArray w (Ret fun v w' => .bool r = v ∧ Sep w' (Fo) (rs)) := by
 unfold m_nodes_May at hm
 refine enter Tryz.func53 rfl Tryz.ntmps53 rfl fun a E =>?_
 simp only [enum, Nat.reduceAdd] at E
 refine sq<|st_box E H (wn rfl) rfl rfl (cs := (l_api_Op x1)) rfl rfl rfl fun p2 w a H E=>pr 1 E rfl fun a E=>nt<|wp_seq<|wp_seq_cut (fun a w => ∃ (b3 : Bool) (rs4 : List Rp), Env 83 a [(1, pt p2 0), (30, .bool b3)] ∧ Sep w (Blk p2 55 (l_api_Op x1) :: Fo) rs4 ∧ (∀ r, r ∈ rs → r ∈ rs4) ∧ m_nodes_May_j1 x1 b3 = some r) ?_ ?_
 ·refine wp_region_lit<|pr 1 E rfl fun a E=>lb E H 0 rfl rfl rfl rfl rfl rfl rfl Tryz.underlying3 rfl fun a E=>pr 2 E rfl fun a E=>cs hm (fun hb32 hm=>?_) fun hb32 hm=>?_
  ·exact pk 22 E (kc 8 rfl hb32) rfl fun a E=>nt<|⟨true, _, E.sel [1, 30] rfl, H, fun r hr => hr, hm⟩
  ·refine pk 1 E (kc 8 rfl hb32) rfl fun a E=>st_val E (ws' (d := 8) E rfl rfl rfl rfl hb32) rfl rfl (x_ldB (i := 0) E H rfl rfl rfl rfl Tryz.underlying3 rfl) fun a E=>pk 3 E (kc 8 rfl hb32) rfl fun a E=>cs hm (fun hb33 hm=>?_) fun hb33 hm=>?_
   ·exact pk 17 E (kc 13 rfl hb33) rfl fun a E=>nt<|⟨true, _, E.sel [1, 30] rfl, H, fun r hr => hr, hm⟩
   ·refine pk 1 E (kc 13 rfl hb33) rfl fun a E=>st_val E (ws' (d := 13) E rfl rfl rfl rfl hb33) rfl rfl (x_ldB (i := 0) E H rfl rfl rfl rfl Tryz.underlying9 rfl) fun a E=>bd hm fun u34 hx35 hm=>st_call E (ws' (d := 13) E rfl rfl rfl rfl hb33) rfl rfl (x_call E rfl rfl (cf98 _)) (c_path_Right x1.Path H hx35)<|?_
    rintro _ w ⟨rfl, H⟩ a E
    refine pk 3 E (kc 13 rfl hb33) rfl fun a E=>cs hm (fun hb36 hm=>?_) fun hb36 hm=>?_
    ·exact pk 11 E (kc 19 rfl hb36) rfl fun a E=>nt<|⟨true, _, E.sel [1, 30] rfl, H, fun r hr => hr, hm⟩
    ·refine pk 1 E (kc 19 rfl hb36) rfl fun a E=>st_val E (ws' (d := 19) E rfl rfl rfl rfl hb36) rfl rfl (x_ldB (i := 0) E H rfl rfl rfl rfl Tryz.underlying9 rfl) fun a E=>pk 4 E (kc 19 rfl hb36) rfl fun a E=>cs hm (fun hb37 hm=>?_) fun hb37 hm=>?_
     ·exact pk 5 E (kc 25 rfl hb37) rfl fun a E=>nt<|⟨true, _, E.sel [1, 30] rfl, H, fun r hr => hr, hm⟩
     ·refine pk 1 E (kc 25 rfl hb37) rfl fun a E=>st_val E (ws' (d := 25) E rfl rfl rfl rfl hb37) rfl rfl (x_ldB (i := 0) E H rfl rfl rfl rfl Tryz.underlying2 rfl) fun a E=>bd hm fun u38 hx39 hm=>st_call E (ws' (d := 25) E rfl rfl rfl rfl hb37) rfl rfl (x_call E rfl rfl (cf109 _)) (c_nodes_within x1.Owner 1099511627776 H hx39)<|?_
      rintro _ w ⟨rfl, H⟩ a E
      exact pk 2 E (kc 25 rfl hb37) rfl fun a E=>nt<|⟨!u38, _, E.sel [1, 30] rfl, H, fun r hr => hr, hm⟩
 ·clear E H hm
  rintro a w ⟨b3, rs4, E, H, hs5, hm⟩
  unfold m_nodes_May_j1 at hm
  refine wif E hm rfl (fun hm=>?_) fun hm=>?_
  ·refine sq<|pr 1 E rfl fun a E=>nt<|wp_ret<|q_thenR<|out1 E rfl rfl<|have H:=H.drop 0;?_
   cases hm
   exact ⟨rfl, H.reads (hs5)⟩
  ·refine wp_skip<|q_then<|sq<|pr 1 E rfl fun a E=>nt<|wp_seq_cut (fun a w => ∃ (x6 : Int) (rs7 : List Rp), Env 83 a [(1, pt p2 0), (3, .int .i64 x6)] ∧ Sep w (Blk p2 55 (l_api_Op x1) :: Fo) rs7 ∧ (∀ r, r ∈ rs → r ∈ rs7) ∧ m_nodes_May_j2 x1 x6 = some r) ?_ ?_
   ·refine sq<|pr 1 E rfl fun a E=>lb E H 0 rfl rfl rfl rfl rfl rfl rfl Tryz.underlying9 rfl fun a E=>pr 1 E rfl fun a E=>nt<|wif E hm rfl (fun hm=>?_) fun hm=>?_
    ·exact wp_region_lit<|pr 3 E rfl fun a E=>nt<|⟨ior .i64 0 1, _, E.sel [1, 3] rfl, H, hs5, hm⟩
    ·exact wp_skip<|q_then<|⟨0, _, E.sel [1, 3] rfl, H, hs5, hm⟩
   ·clear E H hm
    rintro a w ⟨x6, rs7, E, H, hs8, hm⟩
    unfold m_nodes_May_j2 at hm
    refine wp_seq_cut (fun a w => ∃ (x9 : Int) (rs10 : List Rp), Env 83 a [(1, pt p2 0), (3, .int .i64 x9)] ∧ Sep w (Blk p2 55 (l_api_Op x1) :: Fo) rs10 ∧ (∀ r, r ∈ rs → r ∈ rs10) ∧ m_nodes_May_j3 x1 x9 = some r) ?_ ?_
    ·refine sq<|pr 1 E rfl fun a E=>lb E H 0 rfl rfl rfl rfl rfl rfl rfl Tryz.underlying2 rfl fun a E=>pr 1 E rfl fun a E=>nt<|wif E hm rfl (fun hm=>?_) fun hm=>?_
     ·exact wp_region_lit<|pr 3 E rfl fun a E=>nt<|⟨ior .i64 x6 2, _, E.sel [1, 3] rfl, H, hs8, hm⟩
     ·exact wp_skip<|q_then<|⟨x6, _, E.sel [1, 3] rfl, H, hs8, hm⟩
    ·clear E H hm
     rintro a w ⟨x9, rs10, E, H, hs11, hm⟩
     unfold m_nodes_May_j3 at hm
     refine wp_seq_cut (fun a w => ∃ (x12 : Int) (rs13 : List Rp), Env 83 a [(1, pt p2 0), (3, .int .i64 x12)] ∧ Sep w (Blk p2 55 (l_api_Op x1) :: Fo) rs13 ∧ (∀ r, r ∈ rs → r ∈ rs13) ∧ m_nodes_May_j4 x1 x12 = some r) ?_ ?_
     ·refine sq<|pr 1 E rfl fun a E=>lb E H 0 rfl rfl rfl rfl rfl rfl rfl Tryz.underlying2 rfl fun a E=>pr 1 E rfl fun a E=>nt<|wif E hm rfl (fun hm=>?_) fun hm=>?_
      ·exact wp_region_lit<|pr 3 E rfl fun a E=>nt<|⟨ior .i64 x9 4, _, E.sel [1, 3] rfl, H, hs11, hm⟩
      ·exact wp_skip<|q_then<|⟨x9, _, E.sel [1, 3] rfl, H, hs11, hm⟩
     ·clear E H hm
      rintro a w ⟨x12, rs13, E, H, hs14, hm⟩
      unfold m_nodes_May_j4 at hm
      refine wp_seq_cut (fun a w => ∃ (x15 : Int) (rs16 : List Rp), Env 83 a [(1, pt p2 0), (3, .int .i64 x15)] ∧ Sep w (Blk p2 55 (l_api_Op x1) :: Fo) rs16 ∧ (∀ r, r ∈ rs → r ∈ rs16) ∧ m_nodes_May_j5 x1 x15 = some r) ?_ ?_
      ·refine sq<|pr 1 E rfl fun a E=>lb E H 0 rfl rfl rfl rfl rfl rfl rfl Tryz.underlying4 rfl fun a E=>nt<|wif E hm rfl (fun hm=>?_) fun hm=>?_
       ·exact wp_region_lit<|pr 3 E rfl fun a E=>nt<|⟨ior .i64 x12 8, _, E.sel [1, 3] rfl, H, hs14, hm⟩
       ·exact wp_skip<|q_then<|⟨x12, _, E.sel [1, 3] rfl, H, hs14, hm⟩
      ·clear E H hm
       rintro a w ⟨x15, rs16, E, H, hs17, hm⟩
       unfold m_nodes_May_j5 at hm
       refine wp_seq_cut (fun a w => ∃ (x18 : Int) (rs19 : List Rp), Env 83 a [(1, pt p2 0), (3, .int .i64 x18)] ∧ Sep w (Blk p2 55 (l_api_Op x1) :: Fo) rs19 ∧ (∀ r, r ∈ rs → r ∈ rs19) ∧ m_nodes_May_j6 x1 x18 = some r) ?_ ?_
       ·refine sq<|pr 1 E rfl fun a E=>lb E H 0 rfl rfl rfl rfl rfl rfl rfl Tryz.underlying9 rfl fun a E=>pr 1 E rfl fun a E=>nt<|wif E hm rfl (fun hm=>?_) fun hm=>?_
        ·exact wp_region_lit<|pr 3 E rfl fun a E=>nt<|⟨ior .i64 x15 16, _, E.sel [1, 3] rfl, H, hs17, hm⟩
        ·exact wp_skip<|q_then<|⟨x15, _, E.sel [1, 3] rfl, H, hs17, hm⟩
       ·clear E H hm
        rintro a w ⟨x18, rs19, E, H, hs20, hm⟩
        unfold m_nodes_May_j6 at hm
        refine wp_seq_cut (fun a w => ∃ (b21 : Bool) (rs22 : List Rp), Env 83 a [(1, pt p2 0), (3, .int .i64 x18), (4, .bool b21)] ∧ Sep w (Blk p2 55 (l_api_Op x1) :: Fo) rs22 ∧ (∀ r, r ∈ rs → r ∈ rs22) ∧ m_nodes_May_j7 x1 x18 b21 = some r) ?_ ?_
        ·refine wp_region_lit<|pr 1 E rfl fun a E=>lb E H 0 rfl rfl rfl rfl rfl rfl rfl Tryz.underlying2 rfl fun a E=>pr 2 E rfl fun a E=>cs hm (fun hb31 hm=>?_) fun hb31 hm=>?_
         ·exact pk 1 E (kc 58 rfl hb31) rfl fun a E=>st_val E (ws' (d := 58) E rfl rfl rfl rfl hb31) rfl rfl (x_ldB (i := 0) E H rfl rfl rfl rfl Tryz.underlying2 rfl) fun a E=>pk 3 E (kc 58 rfl hb31) rfl fun a E=>nt<|⟨decide (x1.Version ≤ 281474976710656), _, E.sel [1, 3, 4] rfl, H, hs20, hm⟩
         ·exact pk 5 E (kc 58 rfl hb31) rfl fun a E=>nt<|⟨false, _, E.sel [1, 3, 4] rfl, H, hs20, hm⟩
        ·clear E H hm
         rintro a w ⟨b21, rs22, E, H, hs23, hm⟩
         unfold m_nodes_May_j7 at hm
         refine wp_seq<|dw [(0, 0), (1, 0), (2, 0), (4, 0), (5, 0), (3, 1), (6, 0), (7, 0), (8, 0), (9, 0), (10, 0), (11, 0), (12, 0), (13, 0), (14, 0), (15, 0), (16, 0), (17, 0), (18, 0), (19, 0), (20, 2)] [0] [] H (by kernel_rfl) (fun _ _ _ h => False.elim h.2) fun w W0 hI H=>fn 2 E rfl fun a E=>cs hm (fun hb24 hm=>?_) fun hb24 hm=>?_
         ·refine fk 2 E (kc 64 rfl hb24) rfl fun a E=>fb E rfl (ws' (d := 64) E rfl rfl rfl rfl hb24) rfl rfl rfl rfl m0 rfl Tryz.underlying3 rfl fun a E=>fr_op rfl<|bd hm fun u25 hx26 hm=>st_call E (ws' (d := 64) E rfl rfl rfl rfl hb24) rfl rfl (x_call E rfl rfl (cf110 _)) (c_nodes_named H hx26)<|?_
          rintro _ w ⟨rfl, H⟩ a E
          refine nt<|?_
          refine ⟨⟨_, _, H, (subO_cons m0 (subO_nil)), (sub_nil)⟩, ?_⟩
          refine bd hm fun x27 hx28 hm=>fr_val E rfl (ws' (d := 64) E rfl rfl rfl rfl hb24) rfl rfl (fun w hW=>(x_ixArr (vs := [.int .i64 0, .int .i64 13, .int .i64 2, .int .i64 19, .int .i64 18, .int .i64 16, .int .i64 16, .int .i64 20]) E rfl rfl rfl Tryz.underlying123 rfl sz3 Tryz.underlying3 rfl (idx_map (Value.int .i64) (xs := ([0, 13, 2, 19, 18, 16, 16, 20] : List Int)) hx28))) fun a E=>?_
          refine fk 4 E (kc 64 rfl hb24) rfl fun a E=>cs hm (fun hb29 hm=>?_) fun hb29 hm=>?_
          ·refine fk 1 E (kc 73 rfl hb29) rfl fun a E=>fb E rfl (ws' (d := 73) E rfl rfl rfl rfl hb29) rfl rfl rfl rfl m0 rfl Tryz.underlying3 rfl fun a E=>fk 2 E (kc 73 rfl hb29) rfl fun a E=>cs hm (fun hb30 hm=>?_) fun hb30 hm=>?_
           ·refine fk 5 E (kc' (kc 77 rfl hb30) 73 rfl hb29) rfl fun a E=>fr_tail rfl<|pr 1 E rfl fun a E=>nt<|fr_nil<|?_
            clear hI
            refine q_then<|wp_ret<|out1 E rfl rfl<|have H:=H.drop 0;?_
            cases hm
            exact ⟨rfl, H.reads (hs23)⟩
           ·refine fk 1 E (kc 77 rfl hb30) rfl fun a E=>fb E rfl (ws' (d := 77) E rfl rfl rfl rfl hb30) rfl rfl rfl rfl m0 rfl Tryz.underlying2 rfl fun a E=>fk 3 E (kc' (kc 77 rfl hb30) 73 rfl hb29) rfl fun a E=>fr_tail rfl<|pr 1 E rfl fun a E=>nt<|fr_nil<|?_
            clear hI
            refine q_then<|wp_ret<|out1 E rfl rfl<|have H:=H.drop 0;?_
            cases hm
            exact ⟨rfl, H.reads (hs23)⟩
          ·refine fk 9 E (kc 73 rfl hb29) rfl fun a E=>fr_tail rfl<|pr 1 E rfl fun a E=>nt<|fr_nil<|?_
           clear hI
           refine q_then<|wp_ret<|out1 E rfl rfl<|have H:=H.drop 0;?_
           cases hm
           exact ⟨rfl, H.reads (hs23)⟩
         ·refine fk 3 E (kc 64 rfl hb24) rfl fun a E=>fr_op rfl<|pk 1 E (kc 64 rfl hb24) rfl fun a E=>nt<|?_
          refine ⟨⟨_, _, H, (subO_cons m0 (subO_nil)), (sub_nil)⟩, ?_⟩
          refine fk 14 E (kc 64 rfl hb24) rfl fun a E=>fr_tail rfl<|pr 1 E rfl fun a E=>nt<|fr_nil<|?_
          clear hI
          refine q_then<|wp_ret<|out1 E rfl rfl<|have H:=H.drop 0;?_
          cases hm
          exact ⟨rfl, H.reads (hs23)⟩

def m_cantonref06_May_j3 (x1 : S_api_Op) (b19 : Bool) : Option Bool :=
  if b19 = true then (if (x1.Version == 0) = true then (if (sEq x1.Data (ByteArray.mk #[])) = true then (if (x1.Owner == 0) = true then (some (!x1.Turns)) else (some (false))) else (some (false))) else (some (false))) else (if (x1.Kind == 7) = true then (if (x1.Version == 0) = true then (if (sEq x1.Data (ByteArray.mk #[])) = true then (if (decide (x1.Owner > 0)) = true then (some (!x1.Turns)) else (some (false))) else (some (false))) else (some (false))) else (some (false)))
def m_cantonref06_May_j2 (x1 : S_api_Op) (b3 : Bool) (b6 : Bool) : Option Bool :=
  if b6 = true then (some (false)) else (if (x1.Kind == 1) = true then (if (!(sEq x1.Path (ByteArray.mk #[47]))) = true then (some (x1.Version == 0)) else (some (false))) else (if (x1.Kind == 2) = true then (if (!(sEq x1.Path (ByteArray.mk #[47]))) = true then (if b3 = true then (if (sEq x1.Data (ByteArray.mk #[])) = true then (if (x1.Owner == 0) = true then (some (!x1.Turns)) else (some (false))) else (some (false))) else (some (false))) else (some (false))) else (if (x1.Kind == 3) = true then (if b3 = true then (if (x1.Owner == 0) = true then (some (!x1.Turns)) else (some (false))) else (some (false))) else (if (x1.Kind == 4) = true then (if b3 = true then (if (sEq x1.Data (ByteArray.mk #[])) = true then (if (x1.Owner == 0) = true then (some (!x1.Turns)) else (some (false))) else (some (false))) else (some (false))) else (if (x1.Kind == 5) = true then (m_cantonref06_May_j3 x1 (x1.Kind == 5)) else (m_cantonref06_May_j3 x1 (x1.Kind == 6)))))))
def m_cantonref06_May_j1 (x1 : S_api_Op) (b3 : Bool) : Option Bool :=
  (m_cantonref01_Right x1.Path).bind fun u28 => if (!u28) = true then (m_cantonref06_May_j2 x1 b3 true) else (if (decide ((x1.Data.size : Int) > 256)) = true then (m_cantonref06_May_j2 x1 b3 true) else (if (decide (x1.Owner < 0)) = true then (m_cantonref06_May_j2 x1 b3 true) else (m_cantonref06_May_j2 x1 b3 (decide (x1.Owner > 1099511627776)))))
def m_cantonref06_May (x1 : S_api_Op) : Option Bool :=
  if (decide (x1.Version ≥ (-1))) = true then (m_cantonref06_May_j1 x1 (decide (x1.Version ≤ 281474976710656))) else (m_cantonref06_May_j1 x1 false)
theorem c_cantonref06_May {w : World} {Fo : List Ob} {rs : List Rp} (x1 : S_api_Op) (H : Sep w (Fo) rs) {r : Bool} (hm : m_cantonref06_May x1 = some r) :
    Calls Tryz.prog 36 [.agg (l_api_Op x1).toArray].toArray w (Ret fun v w' => .bool r = v ∧ Sep w' (Fo) (rs)) := by
 unfold m_cantonref06_May at hm
 refine enter Tryz.func36 rfl Tryz.ntmps36 rfl fun a E =>?_
 simp only [enum, Nat.reduceAdd] at E
 refine sq<|st_box E H (wn rfl) rfl rfl (cs := (l_api_Op x1)) rfl rfl rfl fun p2 w a H E=>pr 1 E rfl fun a E=>nx<|pr 1 E rfl fun a E=>lb E H 0 rfl rfl rfl rfl rfl rfl rfl Tryz.underlying9 rfl fun a E=>pr 2 E rfl fun a E=>nt<|wp_seq_cut (fun a w => ∃ (b3 : Bool) (rs4 : List Rp), Env 141 a [(1, pt p2 0), (3, .bool (sEq x1.Path (ByteArray.mk #[47]))), (4, .bool b3)] ∧ Sep w (Blk p2 55 (l_api_Op x1) :: Fo) rs4 ∧ (∀ r, r ∈ rs → r ∈ rs4) ∧ m_cantonref06_May_j1 x1 b3 = some r) ?_ ?_
 ·refine wp_region_lit<|pr 1 E rfl fun a E=>lb E H 0 rfl rfl rfl rfl rfl rfl rfl Tryz.underlying2 rfl fun a E=>pr 2 E rfl fun a E=>cs hm (fun hb33 hm=>?_) fun hb33 hm=>?_
  ·exact pk 1 E (kc 11 rfl hb33) rfl fun a E=>st_val E (ws' (d := 11) E rfl rfl rfl rfl hb33) rfl rfl (x_ldB (i := 0) E H rfl rfl rfl rfl Tryz.underlying2 rfl) fun a E=>pk 3 E (kc 11 rfl hb33) rfl fun a E=>nt<|⟨decide (x1.Version ≤ 281474976710656), _, E.sel [1, 3, 4] rfl, H, fun r hr => hr, hm⟩
  ·exact pk 5 E (kc 11 rfl hb33) rfl fun a E=>nt<|⟨false, _, E.sel [1, 3, 4] rfl, H, fun r hr => hr, hm⟩
 ·clear E H hm
  rintro a w ⟨b3, rs4, E, H, hs5, hm⟩
  unfold m_cantonref06_May_j1 at hm
  refine wp_seq<|wp_seq_cut (fun a w => ∃ (b6 : Bool) (rs7 : List Rp), Env 141 a [(1, pt p2 0), (3, .bool (sEq x1.Path (ByteArray.mk #[47]))), (4, .bool b3), (35, .bool b6)] ∧ Sep w (Blk p2 55 (l_api_Op x1) :: Fo) rs7 ∧ (∀ r, r ∈ rs → r ∈ rs7) ∧ m_cantonref06_May_j2 x1 b3 b6 = some r) ?_ ?_
  ·refine wp_region_lit<|pr 1 E rfl fun a E=>lb E H 0 rfl rfl rfl rfl rfl rfl rfl Tryz.underlying9 rfl fun a E=>bd hm fun u28 hx29 hm=>x_cl E rfl rfl rfl rfl rfl cf71 (c_cantonref01_Right x1.Path H hx29)<|?_
   rintro _ w ⟨rfl, H⟩ a E
   refine pr 2 E rfl fun a E=>cs hm (fun hb30 hm=>?_) fun hb30 hm=>?_
   ·exact pk 15 E (kc 20 rfl hb30) rfl fun a E=>nt<|⟨true, _, E.sel [1, 3, 4, 35] rfl, H, hs5, hm⟩
   ·refine pk 1 E (kc 20 rfl hb30) rfl fun a E=>st_val E (ws' (d := 20) E rfl rfl rfl rfl hb30) rfl rfl (x_ldB (i := 0) E H rfl rfl rfl rfl Tryz.underlying9 rfl) fun a E=>pk 4 E (kc 20 rfl hb30) rfl fun a E=>cs hm (fun hb31 hm=>?_) fun hb31 hm=>?_
    ·exact pk 9 E (kc 26 rfl hb31) rfl fun a E=>nt<|⟨true, _, E.sel [1, 3, 4, 35] rfl, H, hs5, hm⟩
    ·refine pk 1 E (kc 26 rfl hb31) rfl fun a E=>st_val E (ws' (d := 26) E rfl rfl rfl rfl hb31) rfl rfl (x_ldB (i := 0) E H rfl rfl rfl rfl Tryz.underlying2 rfl) fun a E=>pk 3 E (kc 26 rfl hb31) rfl fun a E=>cs hm (fun hb32 hm=>?_) fun hb32 hm=>?_
     ·exact pk 4 E (kc 31 rfl hb32) rfl fun a E=>nt<|⟨true, _, E.sel [1, 3, 4, 35] rfl, H, hs5, hm⟩
     ·exact pk 1 E (kc 31 rfl hb32) rfl fun a E=>st_val E (ws' (d := 31) E rfl rfl rfl rfl hb32) rfl rfl (x_ldB (i := 0) E H rfl rfl rfl rfl Tryz.underlying2 rfl) fun a E=>pk 2 E (kc 31 rfl hb32) rfl fun a E=>nt<|⟨decide (x1.Owner > 1099511627776), _, E.sel [1, 3, 4, 35] rfl, H, hs5, hm⟩
  ·clear E H hm
   rintro a w ⟨b6, rs7, E, H, hs8, hm⟩
   unfold m_cantonref06_May_j2 at hm
   refine wif E hm rfl (fun hm=>?_) fun hm=>?_
   ·refine sq<|pr 1 E rfl fun a E=>nt<|wp_ret<|q_thenR<|out1 E rfl rfl<|have H:=H.drop 0;?_
    cases hm
    exact ⟨rfl, H.reads (hs8)⟩
   ·refine wp_skip<|q_then<|wp_seq<|sq<|pr 1 E rfl fun a E=>lb E H 0 rfl rfl rfl rfl rfl rfl rfl Tryz.underlying3 rfl fun a E=>nt<|wp_block<|sq<|?_
    refine pr 2 E rfl fun a E=>nt<|wif E hm rfl (fun hm=>?_) fun hm=>?_
    ·refine sq<|pr 3 E rfl fun a E=>cs hm (fun hb9 hm=>?_) fun hb9 hm=>?_
     ·refine pk 1 E (kc 42 rfl hb9) rfl fun a E=>st_val E (ws' (d := 42) E rfl rfl rfl rfl hb9) rfl rfl (x_ldB (i := 0) E H rfl rfl rfl rfl Tryz.underlying2 rfl) fun a E=>pk 3 E (kc 42 rfl hb9) rfl fun a E=>nt<|wp_ret<|q_blkR<|q_thenR<|out1 E rfl rfl<|have H:=H.drop 0;?_
      cases hm
      exact ⟨rfl, H.reads (hs8)⟩
     ·refine pk 5 E (kc 42 rfl hb9) rfl fun a E=>nt<|wp_ret<|q_blkR<|q_thenR<|out1 E rfl rfl<|have H:=H.drop 0;?_
      cases hm
      exact ⟨rfl, H.reads (hs8)⟩
    ·refine sq<|pr 2 E rfl fun a E=>nt<|wif E hm rfl (fun hm=>?_) fun hm=>?_
     ·refine sq<|pr 3 E rfl fun a E=>cs hm (fun hb10 hm=>?_) fun hb10 hm=>?_
      ·refine pk 3 E (kc 51 rfl hb10) rfl fun a E=>cs hm (fun hb11 hm=>?_) fun hb11 hm=>?_
       ·refine pk 1 E (kc 54 rfl hb11) rfl fun a E=>st_val E (ws' (d := 54) E rfl rfl rfl rfl hb11) rfl rfl (x_ldB (i := 0) E H rfl rfl rfl rfl Tryz.underlying9 rfl) fun a E=>pk 3 E (kc 54 rfl hb11) rfl fun a E=>cs hm (fun hb12 hm=>?_) fun hb12 hm=>?_
        ·refine pk 1 E (kc 59 rfl hb12) rfl fun a E=>st_val E (ws' (d := 59) E rfl rfl rfl rfl hb12) rfl rfl (x_ldB (i := 0) E H rfl rfl rfl rfl Tryz.underlying2 rfl) fun a E=>pk 3 E (kc 59 rfl hb12) rfl fun a E=>cs hm (fun hb13 hm=>?_) fun hb13 hm=>?_
         ·refine pk 1 E (kc 64 rfl hb13) rfl fun a E=>st_val E (ws' (d := 64) E rfl rfl rfl rfl hb13) rfl rfl (x_ldB (i := 0) E H rfl rfl rfl rfl Tryz.underlying4 rfl) fun a E=>pk 3 E (kc 64 rfl hb13) rfl fun a E=>nt<|wp_ret<|q_blkR<|q_thenR<|out1 E rfl rfl<|have H:=H.drop 0;?_
          cases hm
          exact ⟨rfl, H.reads (hs8)⟩
         ·refine pk 5 E (kc 64 rfl hb13) rfl fun a E=>nt<|wp_ret<|q_blkR<|q_thenR<|out1 E rfl rfl<|have H:=H.drop 0;?_
          cases hm
          exact ⟨rfl, H.reads (hs8)⟩
        ·refine pk 10 E (kc 59 rfl hb12) rfl fun a E=>nt<|wp_ret<|q_blkR<|q_thenR<|out1 E rfl rfl<|have H:=H.drop 0;?_
         cases hm
         exact ⟨rfl, H.reads (hs8)⟩
       ·refine pk 15 E (kc 54 rfl hb11) rfl fun a E=>nt<|wp_ret<|q_blkR<|q_thenR<|out1 E rfl rfl<|have H:=H.drop 0;?_
        cases hm
        exact ⟨rfl, H.reads (hs8)⟩
      ·refine pk 18 E (kc 51 rfl hb10) rfl fun a E=>nt<|wp_ret<|q_blkR<|q_thenR<|out1 E rfl rfl<|have H:=H.drop 0;?_
       cases hm
       exact ⟨rfl, H.reads (hs8)⟩
     ·refine sq<|pr 2 E rfl fun a E=>nt<|wif E hm rfl (fun hm=>?_) fun hm=>?_
      ·refine sq<|pr 2 E rfl fun a E=>cs hm (fun hb14 hm=>?_) fun hb14 hm=>?_
       ·refine pk 1 E (kc 72 rfl hb14) rfl fun a E=>st_val E (ws' (d := 72) E rfl rfl rfl rfl hb14) rfl rfl (x_ldB (i := 0) E H rfl rfl rfl rfl Tryz.underlying2 rfl) fun a E=>pk 3 E (kc 72 rfl hb14) rfl fun a E=>cs hm (fun hb15 hm=>?_) fun hb15 hm=>?_
        ·refine pk 1 E (kc 77 rfl hb15) rfl fun a E=>st_val E (ws' (d := 77) E rfl rfl rfl rfl hb15) rfl rfl (x_ldB (i := 0) E H rfl rfl rfl rfl Tryz.underlying4 rfl) fun a E=>pk 3 E (kc 77 rfl hb15) rfl fun a E=>nt<|wp_ret<|q_blkR<|q_thenR<|out1 E rfl rfl<|have H:=H.drop 0;?_
         cases hm
         exact ⟨rfl, H.reads (hs8)⟩
        ·refine pk 5 E (kc 77 rfl hb15) rfl fun a E=>nt<|wp_ret<|q_blkR<|q_thenR<|out1 E rfl rfl<|have H:=H.drop 0;?_
         cases hm
         exact ⟨rfl, H.reads (hs8)⟩
       ·refine pk 10 E (kc 72 rfl hb14) rfl fun a E=>nt<|wp_ret<|q_blkR<|q_thenR<|out1 E rfl rfl<|have H:=H.drop 0;?_
        cases hm
        exact ⟨rfl, H.reads (hs8)⟩
      ·refine sq<|pr 2 E rfl fun a E=>nt<|wif E hm rfl (fun hm=>?_) fun hm=>?_
       ·refine sq<|pr 2 E rfl fun a E=>cs hm (fun hb16 hm=>?_) fun hb16 hm=>?_
        ·refine pk 1 E (kc 85 rfl hb16) rfl fun a E=>st_val E (ws' (d := 85) E rfl rfl rfl rfl hb16) rfl rfl (x_ldB (i := 0) E H rfl rfl rfl rfl Tryz.underlying9 rfl) fun a E=>pk 3 E (kc 85 rfl hb16) rfl fun a E=>cs hm (fun hb17 hm=>?_) fun hb17 hm=>?_
         ·refine pk 1 E (kc 90 rfl hb17) rfl fun a E=>st_val E (ws' (d := 90) E rfl rfl rfl rfl hb17) rfl rfl (x_ldB (i := 0) E H rfl rfl rfl rfl Tryz.underlying2 rfl) fun a E=>pk 3 E (kc 90 rfl hb17) rfl fun a E=>cs hm (fun hb18 hm=>?_) fun hb18 hm=>?_
          ·refine pk 1 E (kc 95 rfl hb18) rfl fun a E=>st_val E (ws' (d := 95) E rfl rfl rfl rfl hb18) rfl rfl (x_ldB (i := 0) E H rfl rfl rfl rfl Tryz.underlying4 rfl) fun a E=>pk 3 E (kc 95 rfl hb18) rfl fun a E=>nt<|wp_ret<|q_blkR<|q_thenR<|out1 E rfl rfl<|have H:=H.drop 0;?_
           cases hm
           exact ⟨rfl, H.reads (hs8)⟩
          ·refine pk 5 E (kc 95 rfl hb18) rfl fun a E=>nt<|wp_ret<|q_blkR<|q_thenR<|out1 E rfl rfl<|have H:=H.drop 0;?_
           cases hm
           exact ⟨rfl, H.reads (hs8)⟩
         ·refine pk 10 E (kc 90 rfl hb17) rfl fun a E=>nt<|wp_ret<|q_blkR<|q_thenR<|out1 E rfl rfl<|have H:=H.drop 0;?_
          cases hm
          exact ⟨rfl, H.reads (hs8)⟩
        ·refine pk 15 E (kc 85 rfl hb16) rfl fun a E=>nt<|wp_ret<|q_blkR<|q_thenR<|out1 E rfl rfl<|have H:=H.drop 0;?_
         cases hm
         exact ⟨rfl, H.reads (hs8)⟩
       ·refine wp_seq_cut (fun a w => ∃ (b19 : Bool) (rs20 : List Rp), Env 141 a [(1, pt p2 0), (37, .int .i64 x1.Kind), (100, .bool b19)] ∧ Sep w (Blk p2 55 (l_api_Op x1) :: Fo) rs20 ∧ (∀ r, r ∈ rs → r ∈ rs20) ∧ m_cantonref06_May_j3 x1 b19 = some r) ?_ ?_
        ·refine sq<|pr 2 E rfl fun a E=>nt<|wif E hm rfl (fun hm=>?_) fun hm=>?_
         ·exact wp_skip<|q_then<|⟨x1.Kind == 5, _, E.sel [1, 37, 100] rfl, H, hs8, hm⟩
         ·exact wp_region_lit<|pr 2 E rfl fun a E=>nt<|⟨x1.Kind == 6, _, E.sel [1, 37, 100] rfl, H, hs8, hm⟩
        ·clear E H hm
         rintro a w ⟨b19, rs20, E, H, hs21, hm⟩
         unfold m_cantonref06_May_j3 at hm
         refine wif E hm rfl (fun hm=>?_) fun hm=>?_
         ·refine sq<|pr 1 E rfl fun a E=>lb E H 0 rfl rfl rfl rfl rfl rfl rfl Tryz.underlying2 rfl fun a E=>pr 2 E rfl fun a E=>cs hm (fun hb22 hm=>?_) fun hb22 hm=>?_
          ·refine pk 1 E (kc 106 rfl hb22) rfl fun a E=>st_val E (ws' (d := 106) E rfl rfl rfl rfl hb22) rfl rfl (x_ldB (i := 0) E H rfl rfl rfl rfl Tryz.underlying9 rfl) fun a E=>pk 3 E (kc 106 rfl hb22) rfl fun a E=>cs hm (fun hb23 hm=>?_) fun hb23 hm=>?_
           ·refine pk 1 E (kc 111 rfl hb23) rfl fun a E=>st_val E (ws' (d := 111) E rfl rfl rfl rfl hb23) rfl rfl (x_ldB (i := 0) E H rfl rfl rfl rfl Tryz.underlying2 rfl) fun a E=>pk 3 E (kc 111 rfl hb23) rfl fun a E=>cs hm (fun hb24 hm=>?_) fun hb24 hm=>?_
            ·refine pk 1 E (kc 116 rfl hb24) rfl fun a E=>st_val E (ws' (d := 116) E rfl rfl rfl rfl hb24) rfl rfl (x_ldB (i := 0) E H rfl rfl rfl rfl Tryz.underlying4 rfl) fun a E=>pk 3 E (kc 116 rfl hb24) rfl fun a E=>nt<|wp_ret<|q_blkR<|q_thenR<|out1 E rfl rfl<|have H:=H.drop 0;?_
             cases hm
             exact ⟨rfl, H.reads (hs21)⟩
            ·refine pk 5 E (kc 116 rfl hb24) rfl fun a E=>nt<|wp_ret<|q_blkR<|q_thenR<|out1 E rfl rfl<|have H:=H.drop 0;?_
             cases hm
             exact ⟨rfl, H.reads (hs21)⟩
           ·refine pk 10 E (kc 111 rfl hb23) rfl fun a E=>nt<|wp_ret<|q_blkR<|q_thenR<|out1 E rfl rfl<|have H:=H.drop 0;?_
            cases hm
            exact ⟨rfl, H.reads (hs21)⟩
          ·refine pk 15 E (kc 106 rfl hb22) rfl fun a E=>nt<|wp_ret<|q_blkR<|q_thenR<|out1 E rfl rfl<|have H:=H.drop 0;?_
           cases hm
           exact ⟨rfl, H.reads (hs21)⟩
         ·refine sq<|pr 2 E rfl fun a E=>nt<|wif E hm rfl (fun hm=>?_) fun hm=>?_
          ·refine sq<|pr 1 E rfl fun a E=>lb E H 0 rfl rfl rfl rfl rfl rfl rfl Tryz.underlying2 rfl fun a E=>pr 2 E rfl fun a E=>cs hm (fun hb25 hm=>?_) fun hb25 hm=>?_
           ·refine pk 1 E (kc 126 rfl hb25) rfl fun a E=>st_val E (ws' (d := 126) E rfl rfl rfl rfl hb25) rfl rfl (x_ldB (i := 0) E H rfl rfl rfl rfl Tryz.underlying9 rfl) fun a E=>pk 3 E (kc 126 rfl hb25) rfl fun a E=>cs hm (fun hb26 hm=>?_) fun hb26 hm=>?_
            ·refine pk 1 E (kc 131 rfl hb26) rfl fun a E=>st_val E (ws' (d := 131) E rfl rfl rfl rfl hb26) rfl rfl (x_ldB (i := 0) E H rfl rfl rfl rfl Tryz.underlying2 rfl) fun a E=>pk 3 E (kc 131 rfl hb26) rfl fun a E=>cs hm (fun hb27 hm=>?_) fun hb27 hm=>?_
             ·refine pk 1 E (kc 136 rfl hb27) rfl fun a E=>st_val E (ws' (d := 136) E rfl rfl rfl rfl hb27) rfl rfl (x_ldB (i := 0) E H rfl rfl rfl rfl Tryz.underlying4 rfl) fun a E=>pk 3 E (kc 136 rfl hb27) rfl fun a E=>nt<|wp_ret<|q_blkR<|q_thenR<|out1 E rfl rfl<|have H:=H.drop 0;?_
              cases hm
              exact ⟨rfl, H.reads (hs21)⟩
             ·refine pk 5 E (kc 136 rfl hb27) rfl fun a E=>nt<|wp_ret<|q_blkR<|q_thenR<|out1 E rfl rfl<|have H:=H.drop 0;?_
              cases hm
              exact ⟨rfl, H.reads (hs21)⟩
            ·refine pk 10 E (kc 131 rfl hb26) rfl fun a E=>nt<|wp_ret<|q_blkR<|q_thenR<|out1 E rfl rfl<|have H:=H.drop 0;?_
             cases hm
             exact ⟨rfl, H.reads (hs21)⟩
           ·refine pk 15 E (kc 126 rfl hb25) rfl fun a E=>nt<|wp_ret<|q_blkR<|q_thenR<|out1 E rfl rfl<|have H:=H.drop 0;?_
            cases hm
            exact ⟨rfl, H.reads (hs21)⟩
          ·refine wp_skip<|q_blk<|q_then<|sq<|pr 1 E rfl fun a E=>nt<|wp_ret<|out1 E rfl rfl<|have H:=H.drop 0;?_
           cases hm
           exact ⟨rfl, H.reads (hs21)⟩

def m_cantonref06_Put_j1 (rec_1 : (List S_api_Node) → Bool → Int → Option (List S_api_Node)) (x9 : Int) (l14 : (List S_api_Node)) (b15 : Bool) : Option (List S_api_Node) :=
  rec_1 l14 b15 (IntKind.i64.wrap (x9 + 1))
def m_cantonref06_Put_j2 (rec_1 : (List S_api_Node) → Bool → Int → Option (List S_api_Node)) (x9 : Int) (l2 : List S_api_Node) (x3 : S_api_Node) (l20 : (List S_api_Node)) (b21 : Bool) : Option (List S_api_Node) :=
  (idx l2 x9).bind fun x26 => if (!(sEq x26.Path x3.Path)) = true then ((idx l2 x9).bind fun x33 => (ck (l20.length + ([x33] : List S_api_Node).length ≤ LIM)).bind fun u38 => m_cantonref06_Put_j1 rec_1 x9 (l20 ++ ([x33] : List S_api_Node)) b21) else (m_cantonref06_Put_j1 rec_1 x9 l20 b21)
def m_cantonref06_Put_j3 (rec_1 : (List S_api_Node) → Bool → Int → Option (List S_api_Node)) (x9 : Int) (l2 : List S_api_Node) (x3 : S_api_Node) (l7 : (List S_api_Node)) (b8 : Bool) (b40 : Bool) : Option (List S_api_Node) :=
  if b40 = true then ((ck (l7.length + ([x3] : List S_api_Node).length ≤ LIM)).bind fun u46 => m_cantonref06_Put_j2 rec_1 x9 l2 x3 (l7 ++ ([x3] : List S_api_Node)) true) else (m_cantonref06_Put_j2 rec_1 x9 l2 x3 l7 b8)
def m_cantonref06_Put_j4 (l58 : (List S_api_Node)) : Option (List S_api_Node) :=
  some (l58)
def m_cantonref06_Put_l1 (l2 : List S_api_Node) (x3 : S_api_Node) : Nat → (List S_api_Node) → Bool → Int → Option (List S_api_Node)
  | 0, _, _, _ => none
  | k1 + 1, l7, b8, x9 =>
    if (decide (x9 < (l2.length : Int))) = true then (if (!b8) = true then ((idx l2 x9).bind fun x50 => m_cantonref06_Put_j3 (m_cantonref06_Put_l1 l2 x3 k1) x9 l2 x3 l7 b8 (!(sLt x50.Path x3.Path))) else (m_cantonref06_Put_j3 (m_cantonref06_Put_l1 l2 x3 k1) x9 l2 x3 l7 b8 false)) else (if (!b8) = true then ((ck (l7.length + ([x3] : List S_api_Node).length ≤ LIM)).bind fun u63 => m_cantonref06_Put_j4 (l7 ++ ([x3] : List S_api_Node))) else (m_cantonref06_Put_j4 l7))
def m_cantonref06_Put (l2 : List S_api_Node) (x3 : S_api_Node) : Option (List S_api_Node) :=
  m_cantonref06_Put_l1 l2 x3 (((l2.length : Int) - 0 : Int).toNat + 1) [] false 0
theorem c_cantonref06_Put {w : World} {Fo : List Ob} {rs : List Rp} (v1 : Value) (l2 : List S_api_Node) (x3 : S_api_Node) (H : Sep w (Fo) rs) (hr4 : rSl k_api_Node v1 l2 ∈ rs) {r : (List S_api_Node)} (hm : m_cantonref06_Put l2 x3 = some r) :
    Calls Tryz.prog 93 [v1, .agg (l_api_Node x3).toArray].toArray w (Ret fun v w' => ∃ (v5001 : Value), v5001 = v ∧ Sep w' (Row 80 k_api_Node v5001 r :: Fo) (rs)) := by
 unfold m_cantonref06_Put at hm
 refine enter Tryz.func93 rfl Tryz.ntmps93 rfl fun a E =>?_
 simp only [enum, Nat.reduceAdd] at E
 refine sq<|st_box E H (wn rfl) rfl rfl (cs := (l_api_Node x3)) rfl rfl rfl fun p5 w a H E=>pr 1 E rfl fun a E=>nx<|pr 1 E rfl fun a E=>nx<|pr 1 E rfl fun a E=>nt<|wp_seq<|?_
 refine sq<|pr 1 E rfl fun a E=>nt<|wp_block<|wp_loop_g (fun k1 a w => ∃ (v6 : Value) (l7 : (List S_api_Node)) (b8 : Bool) (x9 : Int) (rs10 : List Rp), Env 52 a [(0, v1), (3, pt p5 0), (5, v6), (6, .bool b8), (7, .int .i64 x9)] ∧ Sep w (Blk p5 80 (l_api_Node x3) :: Row 80 k_api_Node v6 l7 :: Fo) rs10 ∧ (∀ r, r ∈ rs → r ∈ rs10) ∧ rSl k_api_Node v1 l2 ∈ rs10 ∧ m_cantonref06_Put_l1 l2 x3 k1 l7 b8 x9 = some r) (((l2.length : Int) - 0 : Int).toNat + 1) ?_ ?_
 ·exact have H:=H.nilRow 80 k_api_Node;have H:=H.front 0 rfl;have H:=H.front 1 rfl;⟨(.slice none 0 0), [], false, 0, _, E.sel [0, 3, 5, 6, 7] rfl, H, fun r hr => hr, hr4, hm⟩
 ·clear E H hm
  rintro k1 a w ⟨v6, l7, b8, x9, rs10, E, H, hs11, hr12, hm⟩
  cases k1 with
  | zero => exact (none_some hm rfl).elim
  | succ k1 =>
   unfold m_cantonref06_Put_l1 at hm
   refine wp_seq<|sq<|pr 2 E rfl fun a E=>sv E rfl rfl rfl (x_lenS E H rfl rfl hr12 Tryz.underlying22) fun a E=>pr 1 E rfl fun a E=>nt<|wif E hm rfl (fun hm=>?_) fun hm=>?_
   ·refine wp_skip<|q_then<|wp_seq_cut (fun a w => ∃ (v13 : Value) (l14 : (List S_api_Node)) (b15 : Bool) (rs16 : List Rp), Env 52 a [(0, v1), (3, pt p5 0), (5, v13), (6, .bool b15), (7, .int .i64 x9)] ∧ Sep w (Blk p5 80 (l_api_Node x3) :: Row 80 k_api_Node v13 l14 :: Fo) rs16 ∧ (∀ r, r ∈ rs → r ∈ rs16) ∧ rSl k_api_Node v1 l2 ∈ rs16 ∧ m_cantonref06_Put_j1 (m_cantonref06_Put_l1 l2 x3 k1) x9 l14 b15 = some r) ?_ ?_
    ·refine wp_block<|wp_seq_cut (fun a w => ∃ (v19 : Value) (l20 : (List S_api_Node)) (b21 : Bool) (rs22 : List Rp), Env 52 a [(0, v1), (3, pt p5 0), (5, v19), (6, .bool b21), (7, .int .i64 x9)] ∧ Sep w (Blk p5 80 (l_api_Node x3) :: Row 80 k_api_Node v19 l20 :: Fo) rs22 ∧ (∀ r, r ∈ rs → r ∈ rs22) ∧ rSl k_api_Node v1 l2 ∈ rs22 ∧ m_cantonref06_Put_j2 (m_cantonref06_Put_l1 l2 x3 k1) x9 l2 x3 l20 b21 = some r) ?_ ?_
     ·refine wp_seq_cut (fun a w => ∃ (b40 : Bool) (rs41 : List Rp), Env 52 a [(0, v1), (3, pt p5 0), (5, v6), (6, .bool b8), (7, .int .i64 x9), (25, .bool b40)] ∧ Sep w (Blk p5 80 (l_api_Node x3) :: Row 80 k_api_Node v6 l7 :: Fo) rs41 ∧ (∀ r, r ∈ rs → r ∈ rs41) ∧ rSl k_api_Node v1 l2 ∈ rs41 ∧ m_cantonref06_Put_j3 (m_cantonref06_Put_l1 l2 x3 k1) x9 l2 x3 l7 b8 b40 = some r) ?_ ?_
      ·obtain ⟨u48, H⟩ := H.raw hr12
       refine dw [(0, 0), (1, 0), (2, 0), (3, 0), (4, 0), (5, 0), (6, 0), (7, 0), (8, 0), (9, 0), (10, 0), (11, 0)] [0] [0] H (by kernel_rfl) (fun _ _ _ h => False.elim h.2) fun w W0 hI H=>fn 3 E rfl fun a E=>cs hm (fun hb49 hm=>?_) fun hb49 hm=>?_
       ·refine fk 2 E (kc 16 rfl hb49) rfl fun a E=>bd hm fun x50 hx51 hm=>?_
        obtain ⟨q52, u55, hx53, hx54⟩ := dr_ixW (P := Tryz.prog) (k := .i64) hI (dr_mem (.head _)) Tryz.underlying22 sz80 hx51
        refine fr_val E rfl (ws' (d := 16) E rfl rfl rfl rfl hb49) rfl rfl (fun w hW=>x_ixA E rfl rfl rfl (hx53 w)) fun a E=>?_
        have hx56 := dr_fld hx54 (fun _ _ _ h => k_api_Node_aw0 h)
        refine fk 1 E (kc 16 rfl hb49) rfl fun a E=>fa E rfl (ws' (d := 16) E rfl rfl rfl rfl hb49) rfl rfl rfl rfl hx56 Tryz.underlying9 rfl fun a E=>fk 1 E (kc 16 rfl hb49) rfl fun a E=>fb E rfl (ws' (d := 16) E rfl rfl rfl rfl hb49) rfl rfl rfl rfl m0 rfl Tryz.underlying9 rfl fun a E=>fk 2 E (kc 16 rfl hb49) rfl fun a E=>fr_nil<|?_
        clear hI
        exact q_then<|⟨!(sLt x50.Path x3.Path), _, E.sel [0, 3, 5, 6, 7, 25] rfl, H, fun r hr => (t1 (hs11 r hr)), (t1 hr12), hm⟩
       ·refine fk 9 E (kc 16 rfl hb49) rfl fun a E=>fr_nil<|?_
        clear hI
        exact q_then<|⟨false, _, E.sel [0, 3, 5, 6, 7, 25] rfl, H, fun r hr => (t1 (hs11 r hr)), (t1 hr12), hm⟩
      ·clear E H hm
       rintro a w ⟨b40, rs41, E, H, hs42, hr43, hm⟩
       unfold m_cantonref06_Put_j3 at hm
       refine wif E hm rfl (fun hm=>?_) fun hm=>?_
       ·refine sq<|pr 1 E rfl fun a E=>sv E rfl rfl rfl (x_ldBN (i := 0) (us := (l_api_Node x3)) E H rfl rfl rfl rfl Tryz.underlying80 rfl sz80) fun a E=>st_bsR (e := 80) (d := k_api_Node) (cs := [.string x3.Path, .string x3.Data, .int .i64 x3.Version, .int .i64 x3.Turn, .int .i64 x3.Owner]) (xs := [x3]) E H (wn rfl) rfl rfl rfl (E.evs rfl) (by kernel_rfl) rfl (fun ok hr => (Rows.single (d := k_api_Node) (cs := [.string x3.Path, .string x3.Data, .int .i64 x3.Version, .int .i64 x3.Turn, .int .i64 x3.Owner]) (x := x3) k_api_Node_mk)) fun v44 w a H E=>bk hm fun hx47 hm=>st_append (i := 1) E H (wn rfl) rfl rfl rfl rfl rfl rfl (src_rd m0) Tryz.underlying22 inf80 rfl hx47 rfl fun v45 w a H E=>pr 1 E rfl fun a E=>nt<|wp_region_lit<|?_
        exact pr 1 E rfl fun a E=>nt<|⟨v45, l7 ++ ([x3] : List S_api_Node), true, _, E.sel [0, 3, 5, 6, 7] rfl, H, fun r hr => (t1 (hs42 r hr)), (t1 hr43), hm⟩
       ·exact wp_skip<|q_then<|⟨v6, l7, b8, _, E.sel [0, 3, 5, 6, 7] rfl, H, hs42, hr43, hm⟩
     ·clear E H hm
      rintro a w ⟨v19, l20, b21, rs22, E, H, hs23, hr24, hm⟩
      unfold m_cantonref06_Put_j2 at hm
      refine wp_seq<|?_
      obtain ⟨u25, H⟩ := H.raw hr24
      refine dw [(0, 0), (1, 0), (2, 0), (3, 0), (4, 0), (5, 0), (6, 0), (7, 0)] [0] [0] H (by kernel_rfl) (fun _ _ _ h => False.elim h.2) fun w W0 hI H=>fn 2 E rfl fun a E=>bd hm fun x26 hx27 hm=>?_
      obtain ⟨q28, u31, hx29, hx30⟩ := dr_ixW (P := Tryz.prog) (k := .i64) hI (dr_mem (.head _)) Tryz.underlying22 sz80 hx27
      refine fr_val E rfl (wn rfl) rfl rfl (fun w hW=>x_ixA E rfl rfl rfl (hx29 w)) fun a E=>?_
      have hx32 := dr_fld hx30 (fun _ _ _ h => k_api_Node_aw0 h)
      refine fn 1 E rfl fun a E=>fa E rfl (wn rfl) rfl rfl rfl rfl hx32 Tryz.underlying9 rfl fun a E=>fn 1 E rfl fun a E=>fb E rfl (wn rfl) rfl rfl rfl rfl m0 rfl Tryz.underlying9 rfl fun a E=>fn 1 E rfl fun a E=>fr_nil<|?_
      clear hI
      refine q_then<|wif E hm rfl (fun hm=>?_) fun hm=>?_
      ·refine wp_region_lit<|pr 3 E rfl fun a E=>bd hm fun x33 hx34 hm=>st_ixS E H (wn rfl) rfl rfl rfl rfl rfl (t1 hr24) Tryz.underlying22 sz80 hx34 fun q35 a H E=>ldf k_api_Node_flat E H rfl rfl rfl rfl rfl m0 Tryz.underlying80 rfl sz80 fun a E=>st_bsR (e := 80) (d := k_api_Node) (cs := [.string x33.Path, .string x33.Data, .int .i64 x33.Version, .int .i64 x33.Turn, .int .i64 x33.Owner]) (xs := [x33]) E H (wn rfl) rfl rfl rfl (E.evs rfl) (by kernel_rfl) rfl (fun ok hr => (Rows.single (d := k_api_Node) (cs := [.string x33.Path, .string x33.Data, .int .i64 x33.Version, .int .i64 x33.Turn, .int .i64 x33.Owner]) (x := x33) k_api_Node_mk)) fun v36 w a H E=>bk hm fun hx39 hm=>st_append (i := 1) E H (wn rfl) rfl rfl rfl rfl rfl rfl (src_rd m0) Tryz.underlying22 inf80 rfl hx39 rfl fun v37 w a H E=>pr 1 E rfl fun a E=>?_
       exact wpList_nil<|q_blk<|q_then<|⟨v37, l20 ++ ([x33] : List S_api_Node), b21, _, E.sel [0, 3, 5, 6, 7] rfl, H, fun r hr => (t3 (hs23 r hr)), (t3 hr24), hm⟩
      ·exact wp_skip<|q_blk<|q_then<|⟨v19, l20, b21, _, E.sel [0, 3, 5, 6, 7] rfl, H, fun r hr => (t1 (hs23 r hr)), (t1 hr24), hm⟩
    ·clear E H hm
     rintro a w ⟨v13, l14, b15, rs16, E, H, hs17, hr18, hm⟩
     unfold m_cantonref06_Put_j1 at hm
     exact wp_region_lit<|pr 3 E rfl fun a E=>nt<|⟨k1, Nat.lt_succ_self k1, v13, l14, b15, IntKind.i64.wrap (x9 + 1), _, E.sel [0, 3, 5, 6, 7] rfl, H, hs17, hr18, hm⟩
   ·refine wp_exit<|q_thenX<|q_thenX<|q_hit<|q_then<|wp_seq_cut (fun a w => ∃ (v57 : Value) (l58 : (List S_api_Node)) (rs59 : List Rp), Env 52 a [(5, v57)] ∧ Sep w (Row 80 k_api_Node v57 l58 :: Fo) rs59 ∧ (∀ r, r ∈ rs → r ∈ rs59) ∧ m_cantonref06_Put_j4 l58 = some r) ?_ ?_
    ·refine sq<|pr 2 E rfl fun a E=>nt<|wif E hm rfl (fun hm=>?_) fun hm=>?_
     ·exact wp_region_lit<|pr 1 E rfl fun a E=>sv E rfl rfl rfl (x_ldBN (i := 0) (us := (l_api_Node x3)) E H rfl rfl rfl rfl Tryz.underlying80 rfl sz80) fun a E=>st_bsR (e := 80) (d := k_api_Node) (cs := [.string x3.Path, .string x3.Data, .int .i64 x3.Version, .int .i64 x3.Turn, .int .i64 x3.Owner]) (xs := [x3]) E H (wn rfl) rfl rfl rfl (E.evs rfl) (by kernel_rfl) rfl (fun ok hr => (Rows.single (d := k_api_Node) (cs := [.string x3.Path, .string x3.Data, .int .i64 x3.Version, .int .i64 x3.Turn, .int .i64 x3.Owner]) (x := x3) k_api_Node_mk)) fun v61 w a H E=>bk hm fun hx64 hm=>st_append (i := 1) E H (wn rfl) rfl rfl rfl rfl rfl rfl (src_rd m0) Tryz.underlying22 inf80 rfl hx64 rfl fun v62 w a H E=>pr 1 E rfl fun a E=>nt<|have H:=H.drop 0;⟨v62, l7 ++ ([x3] : List S_api_Node), _, E.sel [5] rfl, H, fun r hr => (t1 (hs11 r hr)), hm⟩
     ·exact wp_skip<|q_then<|have H:=H.drop 0;⟨v6, l7, _, E.sel [5] rfl, H, hs11, hm⟩
    ·clear E H hm
     rintro a w ⟨v57, l58, rs59, E, H, hs60, hm⟩
     unfold m_cantonref06_Put_j4 at hm
     refine sq<|pr 2 E rfl fun a E=>nt<|wp_ret<|out1 E rfl rfl<|?_
     cases hm
     exact ⟨v57, rfl, H.reads (hs60)⟩

def m_cantonlaw06_Great_j1 (x4 : Int) : Option Bool :=
  some (decide (x4 ≥ 5000))
def m_cantonlaw06_Great_l1 (l2 : List S_api_Node) : Nat → Int → Int → Option Bool
  | 0, _, _ => none
  | k1 + 1, x7, x8 =>
    if (decide (x8 < (l2.length : Int))) = true then (if (decide (x7 < 5000)) = true then ((idx l2 x8).bind fun x14 => (idx l2 x8).bind fun x21 => m_cantonlaw06_Great_l1 l2 k1 (IntKind.i64.wrap ((IntKind.i64.wrap (x7 + (min (x14.Path.size : Int) 5000))) + (min (x21.Data.size : Int) 5000))) (IntKind.i64.wrap (x8 + 1))) else (m_cantonlaw06_Great_j1 x7)) else (m_cantonlaw06_Great_j1 x7)
def m_cantonlaw06_Great (l2 : List S_api_Node) : Option Bool :=
  m_cantonlaw06_Great_l1 l2 5002 (IntKind.i64.wrap (3 * (l2.length : Int))) 0
theorem c_cantonlaw06_Great {w : World} {Fo : List Ob} {rs : List Rp} (v1 : Value) (l2 : List S_api_Node) (H : Sep w (Fo) rs) (hr3 : rSl k_api_Node v1 l2 ∈ rs) {r : Bool} (hm : m_cantonlaw06_Great l2 = some r) :
    Calls Tryz.prog 15 [v1].toArray w (Ret fun v w' => .bool r = v ∧ Sep w' (Fo) (rs)) := by
 unfold m_cantonlaw06_Great at hm
 refine enter Tryz.func15 rfl Tryz.ntmps15 rfl fun a E =>?_
 simp only [enum, Nat.reduceAdd] at E
 refine sq<|pr 1 E rfl fun a E=>nx<|pr 1 E rfl fun a E=>sv E rfl rfl rfl (x_lenS E H rfl rfl hr3 Tryz.underlying22) fun a E=>pr 2 E rfl fun a E=>nt<|wp_seq_cut (fun a w => ∃ (x4 : Int) (rs5 : List Rp), Env 37 a [(3, .int .i64 x4)] ∧ Sep w (Fo) rs5 ∧ (∀ r, r ∈ rs → r ∈ rs5) ∧ m_cantonlaw06_Great_j1 x4 = some r) ?_ ?_
 ·refine sq<|pr 1 E rfl fun a E=>nt<|wp_block<|wp_loop_g (fun k1 a w => ∃ (x7 : Int) (x8 : Int) (rs9 : List Rp), Env 37 a [(0, v1), (3, .int .i64 x7), (4, .int .i64 x8)] ∧ Sep w (Fo) rs9 ∧ (∀ r, r ∈ rs → r ∈ rs9) ∧ rSl k_api_Node v1 l2 ∈ rs9 ∧ m_cantonlaw06_Great_l1 l2 k1 x7 x8 = some r) (5002) ?_ ?_
  ·exact ⟨IntKind.i64.wrap (3 * (l2.length : Int)), 0, _, E.sel [0, 3, 4] rfl, H, fun r hr => hr, hr3, hm⟩
  ·clear E H hm
   rintro k1 a w ⟨x7, x8, rs9, E, H, hs10, hr11, hm⟩
   cases k1 with
   | zero => exact (none_some hm rfl).elim
   | succ k1 =>
    unfold m_cantonlaw06_Great_l1 at hm
    refine wp_seq<|sq<|pr 2 E rfl fun a E=>sv E rfl rfl rfl (x_lenS E H rfl rfl hr11 Tryz.underlying22) fun a E=>pr 2 E rfl fun a E=>cs hm (fun hb12 hm=>?_) fun hb12 hm=>?_
    ·refine pk 3 E (kc 12 rfl hb12) rfl fun a E=>nt<|wif E hm rfl (fun hm=>?_) fun hm=>?_
     ·refine wp_skip<|q_then<|wp_seq<|wp_block<|?_
      obtain ⟨u13, H⟩ := H.raw hr11
      refine dw [(0, 0), (1, 0), (2, 0), (3, 0), (4, 0), (5, 0), (6, 0), (7, 0), (8, 0), (9, 0), (10, 0), (11, 0), (12, 0), (13, 0), (14, 0), (15, 0), (16, 0), (17, 2)] [] [0] H (by kernel_rfl) (fun _ _ _ h => False.elim h.2) fun w W0 hI H=>fn 3 E rfl fun a E=>bd hm fun x14 hx15 hm=>?_
      obtain ⟨q16, u19, hx17, hx18⟩ := dr_ixW (P := Tryz.prog) (k := .i64) hI (dr_mem (.head _)) Tryz.underlying22 sz80 hx15
      refine fr_val E rfl (wn rfl) rfl rfl (fun w hW=>x_ixA E rfl rfl rfl (hx17 w)) fun a E=>?_
      have hx20 := dr_fld hx18 (fun _ _ _ h => k_api_Node_aw0 h)
      refine fn 1 E rfl fun a E=>fa E rfl (wn rfl) rfl rfl rfl rfl hx20 Tryz.underlying9 rfl fun a E=>fn 1 E rfl fun a E=>fr_val E rfl (wn rfl) rfl rfl (fun w hW=>(x_min (t := 0) E rfl rfl rfl)) fun a E=>?_
      refine fn 3 E rfl fun a E=>bd hm fun x21 hx22 hm=>?_
      obtain ⟨q23, u26, hx24, hx25⟩ := dr_ixW (P := Tryz.prog) (k := .i64) hI (dr_mem (.head _)) Tryz.underlying22 sz80 hx22
      refine fr_val E rfl (wn rfl) rfl rfl (fun w hW=>x_ixA E rfl rfl rfl (hx24 w)) fun a E=>?_
      have hx27 := dr_fld hx25 (fun _ _ _ h => k_api_Node_aw1 h)
      refine fn 1 E rfl fun a E=>fa E rfl (wn rfl) rfl rfl rfl rfl hx27 Tryz.underlying9 rfl fun a E=>fn 1 E rfl fun a E=>fr_val E rfl (wn rfl) rfl rfl (fun w hW=>(x_min (t := 0) E rfl rfl rfl)) fun a E=>?_
      refine fn 1 E rfl fun a E=>fr_tail rfl<|pr 1 E rfl fun a E=>nt<|fr_nil<|?_
      clear hI
      exact q_blk<|q_then<|wp_region_lit<|pr 3 E rfl fun a E=>nt<|⟨k1, Nat.lt_succ_self k1, IntKind.i64.wrap ((IntKind.i64.wrap (x7 + (min (x14.Path.size : Int) 5000))) + (min (x21.Data.size : Int) 5000)), IntKind.i64.wrap (x8 + 1), _, E.sel [0, 3, 4] rfl, H, fun r hr => (t1 (hs10 r hr)), (t1 hr11), hm⟩
     ·exact wp_exit<|q_thenX<|q_thenX<|q_hit<|q_then<|⟨x7, _, E.sel [3] rfl, H, hs10, hm⟩
    ·exact pk 3 E (kc 12 rfl hb12) rfl fun a E=>nt<|wp_cond_false (E.eval rfl)<|wp_exit<|q_thenX<|q_thenX<|q_hit<|q_then<|⟨x7, _, E.sel [3] rfl, H, hs10, hm⟩
 ·clear E H hm
  rintro a w ⟨x4, rs5, E, H, hs6, hm⟩
  unfold m_cantonlaw06_Great_j1 at hm
  refine sq<|pr 3 E rfl fun a E=>nt<|wp_ret<|out1 E rfl rfl<|?_
  cases hm
  exact ⟨rfl, H.reads (hs6)⟩

def m_cantonlaw06_GreatOp (x1 : S_api_Op) : Option Bool :=
  if (decide ((x1.Path.size : Int) > 3000)) = true then (some (true)) else (some (decide ((x1.Data.size : Int) > 3000)))
theorem c_cantonlaw06_GreatOp {w : World} {Fo : List Ob} {rs : List Rp} (x1 : S_api_Op) (H : Sep w (Fo) rs) {r : Bool} (hm : m_cantonlaw06_GreatOp x1 = some r) :
    Calls Tryz.prog 34 [.agg (l_api_Op x1).toArray].toArray w (Ret fun v w' => .bool r = v ∧ Sep w' (Fo) (rs)) := by
 unfold m_cantonlaw06_GreatOp at hm
 refine enter Tryz.func34 rfl Tryz.ntmps34 rfl fun a E =>?_
 simp only [enum, Nat.reduceAdd] at E
 refine sq<|st_box E H (wn rfl) rfl rfl (cs := (l_api_Op x1)) rfl rfl rfl fun p2 w a H E=>pr 1 E rfl fun a E=>nx<|pr 1 E rfl fun a E=>lb E H 0 rfl rfl rfl rfl rfl rfl rfl Tryz.underlying9 rfl fun a E=>pr 3 E rfl fun a E=>cs hm (fun hb3 hm=>?_) fun hb3 hm=>?_
 ·refine pk 6 E (kc 7 rfl hb3) rfl fun a E=>nt<|wp_ret<|out1 E rfl rfl<|have H:=H.drop 0;?_
  cases hm
  exact ⟨rfl, H.reads (fun r hr => hr)⟩
 ·refine pk 1 E (kc 7 rfl hb3) rfl fun a E=>st_val E (ws' (d := 7) E rfl rfl rfl rfl hb3) rfl rfl (x_ldB (i := 0) E H rfl rfl rfl rfl Tryz.underlying9 rfl) fun a E=>pk 4 E (kc 7 rfl hb3) rfl fun a E=>nt<|wp_ret<|out1 E rfl rfl<|have H:=H.drop 0;?_
  cases hm
  exact ⟨rfl, H.reads (fun r hr => hr)⟩

def m_cantonref06_Same_l1 (l2 : List S_api_Node) (l4 : List S_api_Node) : Nat → Int → Option Bool
  | 0, _ => none
  | k1 + 1, x7 =>
    if (decide (x7 < (l2.length : Int))) = true then ((idx l2 x7).bind fun x14 => (idx l4 x7).bind fun x20 => if (!((sEq x14.Path x20.Path) && ((sEq x14.Data x20.Data) && ((x14.Version == x20.Version) && ((x14.Turn == x20.Turn) && (x14.Owner == x20.Owner)))))) = true then (some (false)) else (m_cantonref06_Same_l1 l2 l4 k1 (IntKind.i64.wrap (x7 + 1)))) else (some (true))
def m_cantonref06_Same (l2 : List S_api_Node) (l4 : List S_api_Node) : Option Bool :=
  if ((l2.length : Int) != (l4.length : Int)) = true then (some (false)) else (m_cantonref06_Same_l1 l2 l4 (((l2.length : Int) - 0 : Int).toNat + 1) 0)
theorem c_cantonref06_Same {w : World} {Fo : List Ob} {rs : List Rp} (v1 : Value) (l2 : List S_api_Node) (v3 : Value) (l4 : List S_api_Node) (H : Sep w (Fo) rs) (hr5 : rSl k_api_Node v1 l2 ∈ rs) (hr6 : rSl k_api_Node v3 l4 ∈ rs) {r : Bool} (hm : m_cantonref06_Same l2 l4 = some r) :
    Calls Tryz.prog 21 [v1, v3].toArray w (Ret fun v w' => .bool r = v ∧ Sep w' (Fo) (rs)) := by
 unfold m_cantonref06_Same at hm
 refine enter Tryz.func21 rfl Tryz.ntmps21 rfl fun a E =>?_
 simp only [enum, Nat.reduceAdd] at E
 refine sq<|pr 1 E rfl fun a E=>nt<|wp_seq<|sq<|pr 1 E rfl fun a E=>sv E rfl rfl rfl (x_lenS E H rfl rfl hr5 Tryz.underlying22) fun a E=>pr 1 E rfl fun a E=>sv E rfl rfl rfl (x_lenS E H rfl rfl hr6 Tryz.underlying22) fun a E=>?_
 refine pr 1 E rfl fun a E=>nt<|wif E hm rfl (fun hm=>?_) fun hm=>?_
 ·refine sq<|pr 1 E rfl fun a E=>nt<|wp_ret<|q_thenR<|out1 E rfl rfl<|?_
  cases hm
  exact ⟨rfl, H.reads (fun r hr => hr)⟩
 ·refine wp_skip<|q_then<|wp_seq<|sq<|pr 1 E rfl fun a E=>nt<|wp_block<|wp_loop_g (fun k1 a w => ∃ (x7 : Int) (rs8 : List Rp), Env 26 a [(0, v1), (1, v3), (5, .int .i64 x7)] ∧ Sep w (Fo) rs8 ∧ (∀ r, r ∈ rs → r ∈ rs8) ∧ rSl k_api_Node v1 l2 ∈ rs8 ∧ rSl k_api_Node v3 l4 ∈ rs8 ∧ m_cantonref06_Same_l1 l2 l4 k1 x7 = some r) (((l2.length : Int) - 0 : Int).toNat + 1) ?_ ?_
  ·exact ⟨0, _, E.sel [0, 1, 5] rfl, H, fun r hr => hr, hr5, hr6, hm⟩
  ·clear E H hm
   rintro k1 a w ⟨x7, rs8, E, H, hs9, hr10, hr11, hm⟩
   cases k1 with
   | zero => exact (none_some hm rfl).elim
   | succ k1 =>
    unfold m_cantonref06_Same_l1 at hm
    refine wp_seq<|sq<|pr 2 E rfl fun a E=>sv E rfl rfl rfl (x_lenS E H rfl rfl hr10 Tryz.underlying22) fun a E=>pr 1 E rfl fun a E=>nt<|wif E hm rfl (fun hm=>?_) fun hm=>?_
    ·refine wp_skip<|q_then<|wp_seq<|wp_block<|wp_seq<|?_
     obtain ⟨u12, H⟩ := H.raw hr10
     obtain ⟨u13, H⟩ := H.raw (t1 hr11)
     refine dw [(0, 0), (1, 0), (2, 0), (3, 0), (4, 0), (5, 0), (6, 0), (7, 0), (8, 0)] [] [1, 0] H (by kernel_rfl) (fun _ _ _ h => False.elim h.2) fun w W0 hI H=>fn 2 E rfl fun a E=>bd hm fun x14 hx15 hm=>?_
     obtain ⟨q16, u19, hx17, hx18⟩ := dr_ixW (P := Tryz.prog) (k := .i64) hI (dr_mem (.head _)) Tryz.underlying22 sz80 hx15
     refine fr_val E rfl (wn rfl) rfl rfl (fun w hW=>x_ixA E rfl rfl rfl (hx17 w)) fun a E=>?_
     refine fr_val E rfl (wn rfl) rfl rfl (fun w hW=>x_ld E rfl rfl (ir_ldN (cs := [.string x14.Path, .string x14.Data, .int .i64 x14.Version, .int .i64 x14.Turn, .int .i64 x14.Owner]) (DR.ir (dr_at hx18)) (fun _ _ _ h => k_api_Node_open h) Tryz.underlying80 rfl sz80 w hW)) fun a E=>?_
     refine fn 2 E rfl fun a E=>bd hm fun x20 hx21 hm=>?_
     obtain ⟨q22, u25, hx23, hx24⟩ := dr_ixW (P := Tryz.prog) (k := .i64) hI (dr_mem (.tail _ (.head _))) Tryz.underlying22 sz80 hx21
     refine fr_val E rfl (wn rfl) rfl rfl (fun w hW=>x_ixA E rfl rfl rfl (hx23 w)) fun a E=>?_
     refine fr_val E rfl (wn rfl) rfl rfl (fun w hW=>x_ld E rfl rfl (ir_ldN (cs := [.string x20.Path, .string x20.Data, .int .i64 x20.Version, .int .i64 x20.Turn, .int .i64 x20.Owner]) (DR.ir (dr_at hx24)) (fun _ _ _ h => k_api_Node_open h) Tryz.underlying80 rfl sz80 w hW)) fun a E=>?_
     refine fr_val E rfl (wn rfl) rfl rfl (fun w hW=>(x_bin2 E rfl rfl rfl (v := .bool (!((sEq x14.Path x20.Path) && ((sEq x14.Data x20.Data) && ((x14.Version == x20.Version) && ((x14.Turn == x20.Turn) && (x14.Owner == x20.Owner))))))) (ne_agg egt80 (eq_struct Tryz.underlying80 sih80 (eqf_cons (by rfl) (by kernel_rfl) (by kernel_rfl) (eq_string Tryz.underlying9) (eqf_cons (by rfl) (by kernel_rfl) (by kernel_rfl) (eq_string Tryz.underlying9) (eqf_cons (by rfl) (by kernel_rfl) (by kernel_rfl) (eq_int Tryz.underlying2) (eqf_cons (by rfl) (by kernel_rfl) (by kernel_rfl) (eq_int Tryz.underlying2) (eqf_last (by rfl) (by kernel_rfl) (by kernel_rfl) (eq_int Tryz.underlying2)))))))))) fun a E=>?_
     refine fr_nil<|?_
     clear hI
     refine q_then<|wif E hm rfl (fun hm=>?_) fun hm=>?_
     ·refine sq<|pr 1 E rfl fun a E=>nt<|wp_ret<|q_blkR<|q_thenR<|q_thenR<|q_blkR<|q_thenR<|?_
      refine out1 E rfl rfl<|?_
      cases hm
      exact ⟨rfl, H.reads (fun r hr => (t2 (hs9 r hr)))⟩
     ·exact wp_skip<|q_blk<|q_then<|wp_region_lit<|pr 3 E rfl fun a E=>nt<|⟨k1, Nat.lt_succ_self k1, IntKind.i64.wrap (x7 + 1), _, E.sel [0, 1, 5] rfl, H, fun r hr => (t2 (hs9 r hr)), (t2 hr10), (t2 hr11), hm⟩
    ·refine wp_exit<|q_thenX<|q_thenX<|q_hit<|q_then<|sq<|pr 1 E rfl fun a E=>nt<|wp_ret<|?_
     refine out1 E rfl rfl<|?_
     cases hm
     exact ⟨rfl, H.reads (hs9)⟩

def m_part_within (x1 : Int) (x2 : Int) (x3 : Int) : Option Bool :=
  if (decide (x1 ≥ x2)) = true then (some (decide (x1 ≤ x3))) else (some (false))
theorem c_part_within {w : World} {Fo : List Ob} {rs : List Rp} (x1 : Int) (x2 : Int) (x3 : Int) (H : Sep w (Fo) rs) {r : Bool} (hm : m_part_within x1 x2 x3 = some r) :
    Calls Tryz.prog 99 [.int .i64 x1, .int .i64 x2, .int .i64 x3].toArray w (Ret fun v w' => .bool r = v ∧ Sep w' (Fo) (rs)) := by
 unfold m_part_within at hm
 refine enter Tryz.func99 rfl Tryz.ntmps99 rfl fun a E =>?_
 simp only [enum, Nat.reduceAdd] at E
 refine sq<|pr 1 E rfl fun a E=>nx<|pr 4 E rfl fun a E=>cs hm (fun hb4 hm=>?_) fun hb4 hm=>?_
 ·refine pk 5 E (kc 10 rfl hb4) rfl fun a E=>nt<|wp_ret<|out1 E rfl rfl<|?_
  cases hm
  exact ⟨rfl, H.reads (fun r hr => hr)⟩
 ·refine pk 5 E (kc 10 rfl hb4) rfl fun a E=>nt<|wp_ret<|out1 E rfl rfl<|?_
  cases hm
  exact ⟨rfl, H.reads (fun r hr => hr)⟩

def m_part_fields (s1 : ByteArray) (s2 : ByteArray) (x3 : Int) (x4 : Int) (x5 : Int) : Option Bool :=
  (m_path_Right s1).bind fun u6 => if u6 = true then (if (decide ((s2.size : Int) ≤ 256)) = true then ((m_part_within x3 x4 281474976710656).bind fun u10 => if u10 = true then ((m_part_within x5 0 1099511627776).bind fun u13 => some (u13)) else (some (false))) else (some (false))) else (some (false))
theorem c_part_fields {w : World} {Fo : List Ob} {rs : List Rp} (s1 : ByteArray) (s2 : ByteArray) (x3 : Int) (x4 : Int) (x5 : Int) (H : Sep w (Fo) rs) {r : Bool} (hm : m_part_fields s1 s2 x3 x4 x5 = some r) :
    Calls Tryz.prog 77 [.string s1, .string s2, .int .i64 x3, .int .i64 x4, .int .i64 x5].toArray w (Ret fun v w' => .bool r = v ∧ Sep w' (Fo) (rs)) := by
 unfold m_part_fields at hm
 refine enter Tryz.func77 rfl Tryz.ntmps77 rfl fun a E =>?_
 simp only [enum, Nat.reduceAdd] at E
 refine sq<|pr 1 E rfl fun a E=>nx<|pr 1 E rfl fun a E=>bd hm fun u6 hx7 hm=>x_cl E rfl rfl rfl rfl rfl cf98 (c_path_Right s1 H hx7)<|?_
 rintro _ w ⟨rfl, H⟩ a E
 refine pr 1 E rfl fun a E=>cs hm (fun hb8 hm=>?_) fun hb8 hm=>?_
 ·refine pk 5 E (kc 13 rfl hb8) rfl fun a E=>cs hm (fun hb9 hm=>?_) fun hb9 hm=>?_
  ·refine pk 2 E (kc 18 rfl hb9) rfl fun a E=>bd hm fun u10 hx11 hm=>st_call E (ws' (d := 18) E rfl rfl rfl rfl hb9) rfl rfl (x_call E rfl rfl (cf99 _)) (c_part_within x3 x4 281474976710656 H hx11)<|?_
   rintro _ w ⟨rfl, H⟩ a E
   refine pk 2 E (kc 18 rfl hb9) rfl fun a E=>cs hm (fun hb12 hm=>?_) fun hb12 hm=>?_
   ·refine pk 1 E (kc 23 rfl hb12) rfl fun a E=>bd hm fun u13 hx14 hm=>st_call E (ws' (d := 23) E rfl rfl rfl rfl hb12) rfl rfl (x_call E rfl rfl (cf99 _)) (c_part_within x5 0 1099511627776 H hx14)<|?_
    rintro _ w ⟨rfl, H⟩ a E
    refine pk 2 E (kc 23 rfl hb12) rfl fun a E=>nt<|wp_ret<|out1 E rfl rfl<|?_
    cases hm
    exact ⟨rfl, H.reads (fun r hr => hr)⟩
   ·refine pk 4 E (kc 23 rfl hb12) rfl fun a E=>nt<|wp_ret<|out1 E rfl rfl<|?_
    cases hm
    exact ⟨rfl, H.reads (fun r hr => hr)⟩
  ·refine pk 9 E (kc 18 rfl hb9) rfl fun a E=>nt<|wp_ret<|out1 E rfl rfl<|?_
   cases hm
   exact ⟨rfl, H.reads (fun r hr => hr)⟩
 ·refine pk 14 E (kc 13 rfl hb8) rfl fun a E=>nt<|wp_ret<|out1 E rfl rfl<|?_
  cases hm
  exact ⟨rfl, H.reads (fun r hr => hr)⟩

def m_part_up (s1 : ByteArray) : Option ByteArray :=
  (m_path_Parent s1).bind fun u2 => if u2.2 = true then (some (u2.1)) else (some ((ByteArray.mk #[47])))
theorem c_part_up {w : World} {Fo : List Ob} {rs : List Rp} (s1 : ByteArray) (H : Sep w (Fo) rs) {r : ByteArray} (hm : m_part_up s1 = some r) :
    Calls Tryz.prog 73 [.string s1].toArray w (Ret fun v w' => .string r = v ∧ Sep w' (Fo) (rs)) := by
 unfold m_part_up at hm
 refine enter Tryz.func73 rfl Tryz.ntmps73 rfl fun a E =>?_
 simp only [enum, Nat.reduceAdd] at E
 refine sq<|pr 1 E rfl fun a E=>nt<|wp_seq<|sq<|pr 1 E rfl fun a E=>bd hm fun u2 hx3 hm=>x_cl E rfl rfl rfl rfl rfl cf111 (c_path_Parent s1 H hx3)<|?_
 rintro _ w ⟨rfl, H⟩ a E
 refine pr 5 E rfl fun a E=>nx<|pr 1 E rfl fun a E=>nt<|wif E hm rfl (fun hm=>?_) fun hm=>?_
 ·refine sq<|pr 2 E rfl fun a E=>nt<|wp_ret<|q_thenR<|out1 E rfl rfl<|?_
  cases hm
  exact ⟨rfl, H.reads (fun r hr => hr)⟩
 ·refine wp_skip<|q_then<|sq<|pr 1 E rfl fun a E=>nt<|wp_ret<|out1 E rfl rfl<|?_
  cases hm
  exact ⟨rfl, H.reads (fun r hr => hr)⟩

def m_part_May_j1 (x1 : S_api_Part) (s5 : ByteArray) : Option Bool :=
  (m_part_fields x1.Path x1.Data x1.Version (-1) x1.Owner).bind fun u8 => if u8 = true then (if (sEq x1.Dir s5) = true then (if (decide (x1.Kind ≥ 1)) = true then (if (decide (x1.Kind ≤ 10)) = true then (if (x1.Kind != 2) = true then (some (true)) else (some (!(sEq x1.Path (ByteArray.mk #[47]))))) else (some (false))) else (some (false))) else (some (false))) else (some (false))
def m_part_May_j2 (x1 : S_api_Part) (u3 : ByteArray) (b15 : Bool) : Option Bool :=
  if b15 = true then (m_part_May_j1 x1 x1.Path) else (m_part_May_j1 x1 u3)
def m_part_May (x1 : S_api_Part) : Option Bool :=
  (m_part_up x1.Path).bind fun u3 => if (x1.Kind == 4) = true then (m_part_May_j2 x1 u3 true) else (if (x1.Kind == 9) = true then (m_part_May_j2 x1 u3 true) else (m_part_May_j2 x1 u3 (x1.Kind == 10)))
theorem c_part_May {w : World} {Fo : List Ob} {rs : List Rp} (x1 : S_api_Part) (H : Sep w (Fo) rs) {r : Bool} (hm : m_part_May x1 = some r) :
    Calls Tryz.prog 38 [.agg (l_api_Part x1).toArray].toArray w (Ret fun v w' => .bool r = v ∧ Sep w' (Fo) (rs)) := by
 unfold m_part_May at hm
 refine enter Tryz.func38 rfl Tryz.ntmps38 rfl fun a E =>?_
 simp only [enum, Nat.reduceAdd] at E
 refine sq<|st_box E H (wn rfl) rfl rfl (cs := (l_api_Part x1)) rfl rfl rfl fun p2 w a H E=>pr 1 E rfl fun a E=>nx<|pr 1 E rfl fun a E=>lb E H 0 rfl rfl rfl rfl rfl rfl rfl Tryz.underlying9 rfl fun a E=>bd hm fun u3 hx4 hm=>x_cl E rfl rfl rfl rfl rfl cf73 (c_part_up x1.Path H hx4)<|?_
 rintro _ w ⟨rfl, H⟩ a E
 refine pr 1 E rfl fun a E=>nt<|wp_seq_cut (fun a w => ∃ (s5 : ByteArray) (rs6 : List Rp), Env 57 a [(1, pt p2 0), (3, .string s5)] ∧ Sep w (Blk p2 62 (l_api_Part x1) :: Fo) rs6 ∧ (∀ r, r ∈ rs → r ∈ rs6) ∧ m_part_May_j1 x1 s5 = some r) ?_ ?_
 ·refine wp_seq_cut (fun a w => ∃ (b15 : Bool) (rs16 : List Rp), Env 57 a [(1, pt p2 0), (3, .string u3), (19, .bool b15)] ∧ Sep w (Blk p2 62 (l_api_Part x1) :: Fo) rs16 ∧ (∀ r, r ∈ rs → r ∈ rs16) ∧ m_part_May_j2 x1 u3 b15 = some r) ?_ ?_
  ·refine wp_region_lit<|pr 1 E rfl fun a E=>lb E H 0 rfl rfl rfl rfl rfl rfl rfl Tryz.underlying3 rfl fun a E=>pr 2 E rfl fun a E=>cs hm (fun hb18 hm=>?_) fun hb18 hm=>?_
   ·exact pk 9 E (kc 10 rfl hb18) rfl fun a E=>nt<|⟨true, _, E.sel [1, 3, 19] rfl, H, fun r hr => hr, hm⟩
   ·refine pk 1 E (kc 10 rfl hb18) rfl fun a E=>st_val E (ws' (d := 10) E rfl rfl rfl rfl hb18) rfl rfl (x_ldB (i := 0) E H rfl rfl rfl rfl Tryz.underlying3 rfl) fun a E=>pk 3 E (kc 10 rfl hb18) rfl fun a E=>cs hm (fun hb19 hm=>?_) fun hb19 hm=>?_
    ·exact pk 4 E (kc 15 rfl hb19) rfl fun a E=>nt<|⟨true, _, E.sel [1, 3, 19] rfl, H, fun r hr => hr, hm⟩
    ·exact pk 1 E (kc 15 rfl hb19) rfl fun a E=>st_val E (ws' (d := 15) E rfl rfl rfl rfl hb19) rfl rfl (x_ldB (i := 0) E H rfl rfl rfl rfl Tryz.underlying3 rfl) fun a E=>pk 2 E (kc 15 rfl hb19) rfl fun a E=>nt<|⟨x1.Kind == 10, _, E.sel [1, 3, 19] rfl, H, fun r hr => hr, hm⟩
  ·clear E H hm
   rintro a w ⟨b15, rs16, E, H, hs17, hm⟩
   unfold m_part_May_j2 at hm
   refine wif E hm rfl (fun hm=>?_) fun hm=>?_
   ·exact wp_region_lit<|pr 1 E rfl fun a E=>lb E H 0 rfl rfl rfl rfl rfl rfl rfl Tryz.underlying9 rfl fun a E=>pr 1 E rfl fun a E=>nt<|⟨x1.Path, _, E.sel [1, 3] rfl, H, hs17, hm⟩
   ·exact wp_skip<|q_then<|⟨u3, _, E.sel [1, 3] rfl, H, hs17, hm⟩
 ·clear E H hm
  rintro a w ⟨s5, rs6, E, H, hs7, hm⟩
  unfold m_part_May_j1 at hm
  refine sq<|pr 1 E rfl fun a E=>lb E H 0 rfl rfl rfl rfl rfl rfl rfl Tryz.underlying9 rfl fun a E=>pr 1 E rfl fun a E=>lb E H 0 rfl rfl rfl rfl rfl rfl rfl Tryz.underlying9 rfl fun a E=>pr 1 E rfl fun a E=>lb E H 0 rfl rfl rfl rfl rfl rfl rfl Tryz.underlying2 rfl fun a E=>pr 1 E rfl fun a E=>lb E H 0 rfl rfl rfl rfl rfl rfl rfl Tryz.underlying2 rfl fun a E=>?_
  refine bd hm fun u8 hx9 hm=>x_cl E rfl rfl rfl rfl rfl cf77 (c_part_fields x1.Path x1.Data x1.Version (-1) x1.Owner H hx9)<|?_
  rintro _ w ⟨rfl, H⟩ a E
  refine pr 1 E rfl fun a E=>cs hm (fun hb10 hm=>?_) fun hb10 hm=>?_
  ·refine pk 1 E (kc 31 rfl hb10) rfl fun a E=>st_val E (ws' (d := 31) E rfl rfl rfl rfl hb10) rfl rfl (x_ldB (i := 0) E H rfl rfl rfl rfl Tryz.underlying9 rfl) fun a E=>pk 4 E (kc 31 rfl hb10) rfl fun a E=>cs hm (fun hb11 hm=>?_) fun hb11 hm=>?_
   ·refine pk 1 E (kc 37 rfl hb11) rfl fun a E=>st_val E (ws' (d := 37) E rfl rfl rfl rfl hb11) rfl rfl (x_ldB (i := 0) E H rfl rfl rfl rfl Tryz.underlying3 rfl) fun a E=>pk 3 E (kc 37 rfl hb11) rfl fun a E=>cs hm (fun hb12 hm=>?_) fun hb12 hm=>?_
    ·refine pk 1 E (kc 42 rfl hb12) rfl fun a E=>st_val E (ws' (d := 42) E rfl rfl rfl rfl hb12) rfl rfl (x_ldB (i := 0) E H rfl rfl rfl rfl Tryz.underlying3 rfl) fun a E=>pk 3 E (kc 42 rfl hb12) rfl fun a E=>cs hm (fun hb13 hm=>?_) fun hb13 hm=>?_
     ·refine pk 1 E (kc 47 rfl hb13) rfl fun a E=>st_val E (ws' (d := 47) E rfl rfl rfl rfl hb13) rfl rfl (x_ldB (i := 0) E H rfl rfl rfl rfl Tryz.underlying3 rfl) fun a E=>pk 2 E (kc 47 rfl hb13) rfl fun a E=>cs hm (fun hb14 hm=>?_) fun hb14 hm=>?_
      ·refine pk 6 E (kc' (kc 51 rfl hb14) 47 rfl hb13) rfl fun a E=>nt<|wp_ret<|out1 E rfl rfl<|have H:=H.drop 0;?_
       cases hm
       exact ⟨rfl, H.reads (hs7)⟩
      ·refine pk 1 E (kc 51 rfl hb14) rfl fun a E=>st_val E (ws' (d := 51) E rfl rfl rfl rfl hb14) rfl rfl (x_ldB (i := 0) E H rfl rfl rfl rfl Tryz.underlying9 rfl) fun a E=>pk 4 E (kc' (kc 51 rfl hb14) 47 rfl hb13) rfl fun a E=>nt<|wp_ret<|out1 E rfl rfl<|have H:=H.drop 0;?_
       cases hm
       exact ⟨rfl, H.reads (hs7)⟩
     ·refine pk 10 E (kc 47 rfl hb13) rfl fun a E=>nt<|wp_ret<|out1 E rfl rfl<|have H:=H.drop 0;?_
      cases hm
      exact ⟨rfl, H.reads (hs7)⟩
    ·refine pk 15 E (kc 42 rfl hb12) rfl fun a E=>nt<|wp_ret<|out1 E rfl rfl<|have H:=H.drop 0;?_
     cases hm
     exact ⟨rfl, H.reads (hs7)⟩
   ·refine pk 20 E (kc 37 rfl hb11) rfl fun a E=>nt<|wp_ret<|out1 E rfl rfl<|have H:=H.drop 0;?_
    cases hm
    exact ⟨rfl, H.reads (hs7)⟩
  ·refine pk 26 E (kc 31 rfl hb10) rfl fun a E=>nt<|wp_ret<|out1 E rfl rfl<|have H:=H.drop 0;?_
   cases hm
   exact ⟨rfl, H.reads (hs7)⟩

def m_part_Right_3 (x1 : S_api_Node) : Option ByteArray :=
  some (x1.Path)
theorem c_part_Right_3 {w : World} {Fo : List Ob} {rs : List Rp} (x1 : S_api_Node) (H : Sep w (Fo) rs) {r : ByteArray} (hm : m_part_Right_3 x1 = some r) :
    Calls Tryz.prog 101 [.agg (l_api_Node x1).toArray].toArray w (Ret fun v w' => .string r = v ∧ Sep w' (Fo) (rs)) := by
 unfold m_part_Right_3 at hm
 refine enter Tryz.func101 rfl Tryz.ntmps101 rfl fun a E =>?_
 simp only [enum, Nat.reduceAdd] at E
 refine sq<|st_box E H (wn rfl) rfl rfl (cs := (l_api_Node x1)) rfl rfl rfl fun p2 w a H E=>pr 1 E rfl fun a E=>nx<|pr 1 E rfl fun a E=>lb E H 0 rfl rfl rfl rfl rfl rfl rfl Tryz.underlying9 rfl fun a E=>pr 1 E rfl fun a E=>nt<|wp_ret<|?_
 refine out1 E rfl rfl<|have H:=H.drop 0;?_
 cases hm
 exact ⟨rfl, H.reads (fun r hr => hr)⟩

def m_part_rising_api_Node_j1 (rec_1 : Int → Option Bool) (x4 : Int) (b8 : Bool) : Option Bool :=
  if b8 = true then (some (false)) else (rec_1 (IntKind.i64.wrap (x4 + 1)))
def m_part_rising_api_Node_l1 (l2 : List S_api_Node) : Nat → Int → Option Bool
  | 0, _ => none
  | k1 + 1, x4 =>
    if (decide (x4 < (l2.length : Int))) = true then (if (decide (x4 > 0)) = true then ((idx l2 (IntKind.i64.wrap (x4 - 1))).bind fun x14 => (idx l2 x4).bind fun x20 => (m_part_Right_3 x14).bind fun u26 => (m_part_Right_3 x20).bind fun u28 => m_part_rising_api_Node_j1 (m_part_rising_api_Node_l1 l2 k1) x4 (!(sLt u26 u28))) else (m_part_rising_api_Node_j1 (m_part_rising_api_Node_l1 l2 k1) x4 false)) else (some (true))
def m_part_rising_api_Node (l2 : List S_api_Node) : Option Bool :=
  m_part_rising_api_Node_l1 l2 (((l2.length : Int) - 0 : Int).toNat + 1) 0
theorem c_part_rising_api_Node {w : World} {Fo : List Ob} {rs : List Rp} (v1 : Value) (l2 : List S_api_Node) (H : Sep w (Fo) rs) (hr3 : rSl k_api_Node v1 l2 ∈ rs) {r : Bool} (hm : m_part_rising_api_Node l2 = some r) :
    Calls Tryz.prog 100 [v1, .func (.func 101) #[] #[]].toArray w (Ret fun v w' => .bool r = v ∧ Sep w' (Fo) (rs)) := by
 unfold m_part_rising_api_Node at hm
 refine enter Tryz.func100 rfl Tryz.ntmps100 rfl fun a E =>?_
 simp only [enum, Nat.reduceAdd] at E
 refine sq<|pr 1 E rfl fun a E=>nt<|wp_seq<|sq<|pr 1 E rfl fun a E=>sv E rfl rfl rfl (x_lenS E H rfl rfl hr3 Tryz.underlying22) fun a E=>pr 1 E rfl fun a E=>nt<|?_
 refine wp_block<|wp_loop_g (fun k1 a w => ∃ (x4 : Int) (rs5 : List Rp), Env 30 a [(0, v1), (1, .func (.func 101) #[] #[]), (7, .int .i64 (l2.length : Int)), (8, .int .i64 x4)] ∧ Sep w (Fo) rs5 ∧ (∀ r, r ∈ rs → r ∈ rs5) ∧ rSl k_api_Node v1 l2 ∈ rs5 ∧ m_part_rising_api_Node_l1 l2 k1 x4 = some r) (((l2.length : Int) - 0 : Int).toNat + 1) ?_ ?_
 ·exact ⟨0, _, E.sel [0, 1, 7, 8] rfl, H, fun r hr => hr, hr3, hm⟩
 ·clear E H hm
  rintro k1 a w ⟨x4, rs5, E, H, hs6, hr7, hm⟩
  cases k1 with
  | zero => exact (none_some hm rfl).elim
  | succ k1 =>
   unfold m_part_rising_api_Node_l1 at hm
   refine sq<|pr 1 E rfl fun a E=>nt<|wp_seq<|wif E hm rfl (fun hm=>?_) fun hm=>?_
   ·refine wp_skip<|q_then<|wp_seq<|wp_block<|sq<|pr 2 E rfl fun a E=>nt<|wp_seq_cut (fun a w => ∃ (b8 : Bool) (rs9 : List Rp), Env 30 a [(0, v1), (1, .func (.func 101) #[] #[]), (7, .int .i64 (l2.length : Int)), (8, .int .i64 x4), (28, .bool b8)] ∧ Sep w (Fo) rs9 ∧ (∀ r, r ∈ rs → r ∈ rs9) ∧ rSl k_api_Node v1 l2 ∈ rs9 ∧ m_part_rising_api_Node_j1 (m_part_rising_api_Node_l1 l2 k1) x4 b8 = some r) ?_ ?_
    ·obtain ⟨u12, H⟩ := H.raw hr7
     refine dw [(0, 0), (1, 0), (2, 0), (3, 0), (4, 0), (5, 0), (6, 0), (7, 0), (8, 0), (10, 0), (11, 0), (12, 0), (13, 0), (14, 0), (9, 1), (15, 1), (16, 0), (17, 0)] [] [0] H (by kernel_rfl) (fun _ _ _ h => False.elim h.2) fun w W0 hI H=>fn 3 E rfl fun a E=>cs hm (fun hb13 hm=>?_) fun hb13 hm=>?_
     ·refine fk 4 E (kc 13 rfl hb13) rfl fun a E=>bd hm fun x14 hx15 hm=>?_
      obtain ⟨q16, u19, hx17, hx18⟩ := dr_ixW (P := Tryz.prog) (k := .i64) hI (dr_mem (.head _)) Tryz.underlying22 sz80 hx15
      refine fr_val E rfl (ws' (d := 13) E rfl rfl rfl rfl hb13) rfl rfl (fun w hW=>x_ixA E rfl rfl rfl (hx17 w)) fun a E=>?_
      refine fr_val E rfl (ws' (d := 13) E rfl rfl rfl rfl hb13) rfl rfl (fun w hW=>x_ld E rfl rfl (ir_ldN (cs := [.string x14.Path, .string x14.Data, .int .i64 x14.Version, .int .i64 x14.Turn, .int .i64 x14.Owner]) (DR.ir (dr_at hx18)) (fun _ _ _ h => k_api_Node_open h) Tryz.underlying80 rfl sz80 w hW)) fun a E=>?_
      refine fk 3 E (kc 13 rfl hb13) rfl fun a E=>bd hm fun x20 hx21 hm=>?_
      obtain ⟨q22, u25, hx23, hx24⟩ := dr_ixW (P := Tryz.prog) (k := .i64) hI (dr_mem (.head _)) Tryz.underlying22 sz80 hx21
      refine fr_val E rfl (ws' (d := 13) E rfl rfl rfl rfl hb13) rfl rfl (fun w hW=>x_ixA E rfl rfl rfl (hx23 w)) fun a E=>?_
      refine fr_val E rfl (ws' (d := 13) E rfl rfl rfl rfl hb13) rfl rfl (fun w hW=>x_ld E rfl rfl (ir_ldN (cs := [.string x20.Path, .string x20.Data, .int .i64 x20.Version, .int .i64 x20.Turn, .int .i64 x20.Owner]) (DR.ir (dr_at hx24)) (fun _ _ _ h => k_api_Node_open h) Tryz.underlying80 rfl sz80 w hW)) fun a E=>?_
      refine fr_op rfl<|bd hm fun u26 hx27 hm=>st_call E (ws' (d := 13) E rfl rfl rfl rfl hb13) rfl rfl (x_callv E rfl rfl rfl (cf101 _)) (c_part_Right_3 x14 H hx27)<|?_
      rintro _ w ⟨rfl, H⟩ a E
      refine nt<|?_
      refine ⟨⟨_, _, H, (subO_nil), (sub_cons m0 (sub_nil))⟩, ?_⟩
      refine fr_op rfl<|bd hm fun u28 hx29 hm=>st_call E (ws' (d := 13) E rfl rfl rfl rfl hb13) rfl rfl (x_callv E rfl rfl rfl (cf101 _)) (c_part_Right_3 x20 H hx29)<|?_
      rintro _ w ⟨rfl, H⟩ a E
      refine nt<|?_
      refine ⟨⟨_, _, H, (subO_nil), (sub_cons m0 (sub_nil))⟩, ?_⟩
      refine fk 2 E (kc 13 rfl hb13) rfl fun a E=>fr_nil<|?_
      clear hI
      exact q_then<|⟨!(sLt u26 u28), _, E.sel [0, 1, 7, 8, 28] rfl, H, fun r hr => (t1 (hs6 r hr)), (t1 hr7), hm⟩
     ·refine fk 11 E (kc 13 rfl hb13) rfl fun a E=>fr_op rfl<|pk 1 E (kc 13 rfl hb13) rfl fun a E=>nt<|?_
      refine ⟨⟨_, _, H, (subO_nil), (sub_cons m0 (sub_nil))⟩, ?_⟩
      refine fr_op rfl<|pk 1 E (kc 13 rfl hb13) rfl fun a E=>nt<|?_
      refine ⟨⟨_, _, H, (subO_nil), (sub_cons m0 (sub_nil))⟩, ?_⟩
      refine fk 2 E (kc 13 rfl hb13) rfl fun a E=>fr_nil<|?_
      clear hI
      exact q_then<|⟨false, _, E.sel [0, 1, 7, 8, 28] rfl, H, fun r hr => (t1 (hs6 r hr)), (t1 hr7), hm⟩
    ·clear E H hm
     rintro a w ⟨b8, rs9, E, H, hs10, hr11, hm⟩
     unfold m_part_rising_api_Node_j1 at hm
     refine wif E hm rfl (fun hm=>?_) fun hm=>?_
     ·refine sq<|pr 1 E rfl fun a E=>nt<|wp_ret<|q_blkR<|q_thenR<|q_thenR<|q_blkR<|q_thenR<|?_
      refine out1 E rfl rfl<|?_
      cases hm
      exact ⟨rfl, H.reads (hs10)⟩
     ·exact wp_skip<|q_blk<|q_then<|wp_region_lit<|pr 2 E rfl fun a E=>nt<|⟨k1, Nat.lt_succ_self k1, IntKind.i64.wrap (x4 + 1), _, E.sel [0, 1, 7, 8] rfl, H, hs10, hr11, hm⟩
   ·refine wp_exit<|q_thenX<|q_thenX<|q_hit<|q_then<|sq<|pr 1 E rfl fun a E=>nt<|wp_ret<|?_
    refine out1 E rfl rfl<|?_
    cases hm
    exact ⟨rfl, H.reads (hs6)⟩

def m_part_Right_4 (x1 : S_api_Turn) : Option ByteArray :=
  some (x1.Dir)
theorem c_part_Right_4 {w : World} {Fo : List Ob} {rs : List Rp} (x1 : S_api_Turn) (H : Sep w (Fo) rs) {r : ByteArray} (hm : m_part_Right_4 x1 = some r) :
    Calls Tryz.prog 103 [.agg #[.string x1.Dir, .int .i64 x1.Next]].toArray w (Ret fun v w' => .string r = v ∧ Sep w' (Fo) (rs)) := by
 unfold m_part_Right_4 at hm
 refine enter Tryz.func103 rfl Tryz.ntmps103 rfl fun a E =>?_
 simp only [enum, Nat.reduceAdd] at E
 refine sq<|st_box E H (wn rfl) rfl rfl (cs := [.string x1.Dir, .int .i64 x1.Next]) rfl rfl rfl fun p2 w a H E=>pr 1 E rfl fun a E=>nx<|pr 1 E rfl fun a E=>lb E H 0 rfl rfl rfl rfl rfl rfl rfl Tryz.underlying9 rfl fun a E=>pr 1 E rfl fun a E=>nt<|wp_ret<|?_
 refine out1 E rfl rfl<|have H:=H.drop 0;?_
 cases hm
 exact ⟨rfl, H.reads (fun r hr => hr)⟩

def m_part_rising_api_Turn_j1 (rec_1 : Int → Option Bool) (x4 : Int) (b8 : Bool) : Option Bool :=
  if b8 = true then (some (false)) else (rec_1 (IntKind.i64.wrap (x4 + 1)))
def m_part_rising_api_Turn_l1 (l2 : List S_api_Turn) : Nat → Int → Option Bool
  | 0, _ => none
  | k1 + 1, x4 =>
    if (decide (x4 < (l2.length : Int))) = true then (if (decide (x4 > 0)) = true then ((idx l2 (IntKind.i64.wrap (x4 - 1))).bind fun x14 => (idx l2 x4).bind fun x20 => (m_part_Right_4 x14).bind fun u26 => (m_part_Right_4 x20).bind fun u28 => m_part_rising_api_Turn_j1 (m_part_rising_api_Turn_l1 l2 k1) x4 (!(sLt u26 u28))) else (m_part_rising_api_Turn_j1 (m_part_rising_api_Turn_l1 l2 k1) x4 false)) else (some (true))
def m_part_rising_api_Turn (l2 : List S_api_Turn) : Option Bool :=
  m_part_rising_api_Turn_l1 l2 (((l2.length : Int) - 0 : Int).toNat + 1) 0
theorem c_part_rising_api_Turn {w : World} {Fo : List Ob} {rs : List Rp} (v1 : Value) (l2 : List S_api_Turn) (H : Sep w (Fo) rs) (hr3 : rSl k_api_Turn v1 l2 ∈ rs) {r : Bool} (hm : m_part_rising_api_Turn l2 = some r) :
    Calls Tryz.prog 102 [v1, .func (.func 103) #[] #[]].toArray w (Ret fun v w' => .bool r = v ∧ Sep w' (Fo) (rs)) := by
 unfold m_part_rising_api_Turn at hm
 refine enter Tryz.func102 rfl Tryz.ntmps102 rfl fun a E =>?_
 simp only [enum, Nat.reduceAdd] at E
 refine sq<|pr 1 E rfl fun a E=>nt<|wp_seq<|sq<|pr 1 E rfl fun a E=>sv E rfl rfl rfl (x_lenS E H rfl rfl hr3 Tryz.underlying39) fun a E=>pr 1 E rfl fun a E=>nt<|?_
 refine wp_block<|wp_loop_g (fun k1 a w => ∃ (x4 : Int) (rs5 : List Rp), Env 30 a [(0, v1), (1, .func (.func 103) #[] #[]), (7, .int .i64 (l2.length : Int)), (8, .int .i64 x4)] ∧ Sep w (Fo) rs5 ∧ (∀ r, r ∈ rs → r ∈ rs5) ∧ rSl k_api_Turn v1 l2 ∈ rs5 ∧ m_part_rising_api_Turn_l1 l2 k1 x4 = some r) (((l2.length : Int) - 0 : Int).toNat + 1) ?_ ?_
 ·exact ⟨0, _, E.sel [0, 1, 7, 8] rfl, H, fun r hr => hr, hr3, hm⟩
 ·clear E H hm
  rintro k1 a w ⟨x4, rs5, E, H, hs6, hr7, hm⟩
  cases k1 with
  | zero => exact (none_some hm rfl).elim
  | succ k1 =>
   unfold m_part_rising_api_Turn_l1 at hm
   refine sq<|pr 1 E rfl fun a E=>nt<|wp_seq<|wif E hm rfl (fun hm=>?_) fun hm=>?_
   ·refine wp_skip<|q_then<|wp_seq<|wp_block<|sq<|pr 2 E rfl fun a E=>nt<|wp_seq_cut (fun a w => ∃ (b8 : Bool) (rs9 : List Rp), Env 30 a [(0, v1), (1, .func (.func 103) #[] #[]), (7, .int .i64 (l2.length : Int)), (8, .int .i64 x4), (28, .bool b8)] ∧ Sep w (Fo) rs9 ∧ (∀ r, r ∈ rs → r ∈ rs9) ∧ rSl k_api_Turn v1 l2 ∈ rs9 ∧ m_part_rising_api_Turn_j1 (m_part_rising_api_Turn_l1 l2 k1) x4 b8 = some r) ?_ ?_
    ·obtain ⟨u12, H⟩ := H.raw hr7
     refine dw [(0, 0), (1, 0), (2, 0), (3, 0), (4, 0), (5, 0), (6, 0), (7, 0), (8, 0), (10, 0), (11, 0), (12, 0), (13, 0), (14, 0), (9, 1), (15, 1), (16, 0), (17, 0)] [] [0] H (by kernel_rfl) (fun _ _ _ h => False.elim h.2) fun w W0 hI H=>fn 3 E rfl fun a E=>cs hm (fun hb13 hm=>?_) fun hb13 hm=>?_
     ·refine fk 4 E (kc 13 rfl hb13) rfl fun a E=>bd hm fun x14 hx15 hm=>?_
      obtain ⟨q16, u19, hx17, hx18⟩ := dr_ixW (P := Tryz.prog) (k := .i64) hI (dr_mem (.head _)) Tryz.underlying39 sz83 hx15
      refine fr_val E rfl (ws' (d := 13) E rfl rfl rfl rfl hb13) rfl rfl (fun w hW=>x_ixA E rfl rfl rfl (hx17 w)) fun a E=>?_
      refine fr_val E rfl (ws' (d := 13) E rfl rfl rfl rfl hb13) rfl rfl (fun w hW=>x_ld E rfl rfl (ir_ldN (cs := [.string x14.Dir, .int .i64 x14.Next]) (DR.ir (dr_at hx18)) (fun _ _ _ h => k_api_Turn_open h) Tryz.underlying83 rfl sz83 w hW)) fun a E=>?_
      refine fk 3 E (kc 13 rfl hb13) rfl fun a E=>bd hm fun x20 hx21 hm=>?_
      obtain ⟨q22, u25, hx23, hx24⟩ := dr_ixW (P := Tryz.prog) (k := .i64) hI (dr_mem (.head _)) Tryz.underlying39 sz83 hx21
      refine fr_val E rfl (ws' (d := 13) E rfl rfl rfl rfl hb13) rfl rfl (fun w hW=>x_ixA E rfl rfl rfl (hx23 w)) fun a E=>?_
      refine fr_val E rfl (ws' (d := 13) E rfl rfl rfl rfl hb13) rfl rfl (fun w hW=>x_ld E rfl rfl (ir_ldN (cs := [.string x20.Dir, .int .i64 x20.Next]) (DR.ir (dr_at hx24)) (fun _ _ _ h => k_api_Turn_open h) Tryz.underlying83 rfl sz83 w hW)) fun a E=>?_
      refine fr_op rfl<|bd hm fun u26 hx27 hm=>st_call E (ws' (d := 13) E rfl rfl rfl rfl hb13) rfl rfl (x_callv E rfl rfl rfl (cf103 _)) (c_part_Right_4 x14 H hx27)<|?_
      rintro _ w ⟨rfl, H⟩ a E
      refine nt<|?_
      refine ⟨⟨_, _, H, (subO_nil), (sub_cons m0 (sub_nil))⟩, ?_⟩
      refine fr_op rfl<|bd hm fun u28 hx29 hm=>st_call E (ws' (d := 13) E rfl rfl rfl rfl hb13) rfl rfl (x_callv E rfl rfl rfl (cf103 _)) (c_part_Right_4 x20 H hx29)<|?_
      rintro _ w ⟨rfl, H⟩ a E
      refine nt<|?_
      refine ⟨⟨_, _, H, (subO_nil), (sub_cons m0 (sub_nil))⟩, ?_⟩
      refine fk 2 E (kc 13 rfl hb13) rfl fun a E=>fr_nil<|?_
      clear hI
      exact q_then<|⟨!(sLt u26 u28), _, E.sel [0, 1, 7, 8, 28] rfl, H, fun r hr => (t1 (hs6 r hr)), (t1 hr7), hm⟩
     ·refine fk 11 E (kc 13 rfl hb13) rfl fun a E=>fr_op rfl<|pk 1 E (kc 13 rfl hb13) rfl fun a E=>nt<|?_
      refine ⟨⟨_, _, H, (subO_nil), (sub_cons m0 (sub_nil))⟩, ?_⟩
      refine fr_op rfl<|pk 1 E (kc 13 rfl hb13) rfl fun a E=>nt<|?_
      refine ⟨⟨_, _, H, (subO_nil), (sub_cons m0 (sub_nil))⟩, ?_⟩
      refine fk 2 E (kc 13 rfl hb13) rfl fun a E=>fr_nil<|?_
      clear hI
      exact q_then<|⟨false, _, E.sel [0, 1, 7, 8, 28] rfl, H, fun r hr => (t1 (hs6 r hr)), (t1 hr7), hm⟩
    ·clear E H hm
     rintro a w ⟨b8, rs9, E, H, hs10, hr11, hm⟩
     unfold m_part_rising_api_Turn_j1 at hm
     refine wif E hm rfl (fun hm=>?_) fun hm=>?_
     ·refine sq<|pr 1 E rfl fun a E=>nt<|wp_ret<|q_blkR<|q_thenR<|q_thenR<|q_blkR<|q_thenR<|?_
      refine out1 E rfl rfl<|?_
      cases hm
      exact ⟨rfl, H.reads (hs10)⟩
     ·exact wp_skip<|q_blk<|q_then<|wp_region_lit<|pr 2 E rfl fun a E=>nt<|⟨k1, Nat.lt_succ_self k1, IntKind.i64.wrap (x4 + 1), _, E.sel [0, 1, 7, 8] rfl, H, hs10, hr11, hm⟩
   ·refine wp_exit<|q_thenX<|q_thenX<|q_hit<|q_then<|sq<|pr 1 E rfl fun a E=>nt<|wp_ret<|?_
    refine out1 E rfl rfl<|?_
    cases hm
    exact ⟨rfl, H.reads (hs6)⟩

def m_part_Right_1 (x1 : S_api_Node) : Option Bool :=
  if (x1.Turn != 0) = true then (some (true)) else ((m_part_fields x1.Path x1.Data x1.Version 0 x1.Owner).bind fun u4 => some (!u4))
theorem c_part_Right_1 {w : World} {Fo : List Ob} {rs : List Rp} (x1 : S_api_Node) (H : Sep w (Fo) rs) {r : Bool} (hm : m_part_Right_1 x1 = some r) :
    Calls Tryz.prog 95 [.agg (l_api_Node x1).toArray].toArray w (Ret fun v w' => .bool r = v ∧ Sep w' (Fo) (rs)) := by
 unfold m_part_Right_1 at hm
 refine enter Tryz.func95 rfl Tryz.ntmps95 rfl fun a E =>?_
 simp only [enum, Nat.reduceAdd] at E
 refine sq<|st_box E H (wn rfl) rfl rfl (cs := (l_api_Node x1)) rfl rfl rfl fun p2 w a H E=>pr 1 E rfl fun a E=>nx<|pr 1 E rfl fun a E=>lb E H 0 rfl rfl rfl rfl rfl rfl rfl Tryz.underlying2 rfl fun a E=>pr 2 E rfl fun a E=>cs hm (fun hb3 hm=>?_) fun hb3 hm=>?_
 ·refine pk 12 E (kc 6 rfl hb3) rfl fun a E=>nt<|wp_ret<|out1 E rfl rfl<|have H:=H.drop 0;?_
  cases hm
  exact ⟨rfl, H.reads (fun r hr => hr)⟩
 ·refine pk 1 E (kc 6 rfl hb3) rfl fun a E=>st_val E (ws' (d := 6) E rfl rfl rfl rfl hb3) rfl rfl (x_ldB (i := 0) E H rfl rfl rfl rfl Tryz.underlying9 rfl) fun a E=>pk 1 E (kc 6 rfl hb3) rfl fun a E=>st_val E (ws' (d := 6) E rfl rfl rfl rfl hb3) rfl rfl (x_ldB (i := 0) E H rfl rfl rfl rfl Tryz.underlying9 rfl) fun a E=>pk 1 E (kc 6 rfl hb3) rfl fun a E=>st_val E (ws' (d := 6) E rfl rfl rfl rfl hb3) rfl rfl (x_ldB (i := 0) E H rfl rfl rfl rfl Tryz.underlying2 rfl) fun a E=>pk 1 E (kc 6 rfl hb3) rfl fun a E=>st_val E (ws' (d := 6) E rfl rfl rfl rfl hb3) rfl rfl (x_ldB (i := 0) E H rfl rfl rfl rfl Tryz.underlying2 rfl) fun a E=>bd hm fun u4 hx5 hm=>?_
  refine st_call E (ws' (d := 6) E rfl rfl rfl rfl hb3) rfl rfl (x_call E rfl rfl (cf77 _)) (c_part_fields x1.Path x1.Data x1.Version 0 x1.Owner H hx5)<|?_
  rintro _ w ⟨rfl, H⟩ a E
  refine pk 3 E (kc 6 rfl hb3) rfl fun a E=>nt<|wp_ret<|out1 E rfl rfl<|have H:=H.drop 0;?_
  cases hm
  exact ⟨rfl, H.reads (fun r hr => hr)⟩

def m_slices_IndexFunc_api_Node_api_Node_2_l1 (l2 : List S_api_Node) : Nat → Int → Option Int
  | 0, _ => none
  | k1 + 1, x4 =>
    if (decide (x4 < (l2.length : Int))) = true then ((idx l2 x4).bind fun x8 => (m_part_Right_1 x8).bind fun u11 => if u11 = true then (some (x4)) else (m_slices_IndexFunc_api_Node_api_Node_2_l1 l2 k1 (IntKind.i64.wrap (x4 + 1)))) else (some ((-1)))
def m_slices_IndexFunc_api_Node_api_Node_2 (l2 : List S_api_Node) : Option Int :=
  m_slices_IndexFunc_api_Node_api_Node_2_l1 l2 (((l2.length : Int) - 0 : Int).toNat + 1) 0
theorem c_slices_IndexFunc_api_Node_api_Node_2 {w : World} {Fo : List Ob} {rs : List Rp} (v1 : Value) (l2 : List S_api_Node) (H : Sep w (Fo) rs) (hr3 : rSl k_api_Node v1 l2 ∈ rs) {r : Int} (hm : m_slices_IndexFunc_api_Node_api_Node_2 l2 = some r) :
    Calls Tryz.prog 143 [v1, .func (.func 95) #[] #[]].toArray w (Ret fun v w' => .int .i64 r = v ∧ Sep w' (Fo) (rs)) := by
 unfold m_slices_IndexFunc_api_Node_api_Node_2 at hm
 refine enter Tryz.func143 rfl Tryz.ntmps143 rfl fun a E =>?_
 simp only [enum, Nat.reduceAdd] at E
 refine sq<|pr 1 E rfl fun a E=>nt<|wp_seq<|sq<|pr 1 E rfl fun a E=>sv E rfl rfl rfl (x_lenS E H rfl rfl hr3 Tryz.underlying22) fun a E=>pr 1 E rfl fun a E=>nt<|?_
 refine wp_block<|wp_loop_g (fun k1 a w => ∃ (x4 : Int) (rs5 : List Rp), Env 19 a [(0, v1), (1, .func (.func 95) #[] #[]), (7, .int .i64 (l2.length : Int)), (8, .int .i64 x4)] ∧ Sep w (Fo) rs5 ∧ (∀ r, r ∈ rs → r ∈ rs5) ∧ rSl k_api_Node v1 l2 ∈ rs5 ∧ m_slices_IndexFunc_api_Node_api_Node_2_l1 l2 k1 x4 = some r) (((l2.length : Int) - 0 : Int).toNat + 1) ?_ ?_
 ·exact ⟨0, _, E.sel [0, 1, 7, 8] rfl, H, fun r hr => hr, hr3, hm⟩
 ·clear E H hm
  rintro k1 a w ⟨x4, rs5, E, H, hs6, hr7, hm⟩
  cases k1 with
  | zero => exact (none_some hm rfl).elim
  | succ k1 =>
   unfold m_slices_IndexFunc_api_Node_api_Node_2_l1 at hm
   refine sq<|pr 1 E rfl fun a E=>nt<|wp_seq<|wif E hm rfl (fun hm=>?_) fun hm=>?_
   ·refine wp_skip<|q_then<|wp_seq<|wp_block<|sq<|pr 2 E rfl fun a E=>nx<|pr 3 E rfl fun a E=>bd hm fun x8 hx9 hm=>?_
    refine st_ixS E H (wn rfl) rfl rfl rfl rfl rfl hr7 Tryz.underlying22 sz80 hx9 fun q10 a H E=>ldf k_api_Node_flat E H rfl rfl rfl rfl rfl m0 Tryz.underlying80 rfl sz80 fun a E=>bd hm fun u11 hx12 hm=>st_call E (wn rfl) rfl rfl (x_callv E rfl rfl rfl (cf95 _)) (c_part_Right_1 x8 H hx12)<|?_
    rintro _ w ⟨rfl, H⟩ a E
    refine nt<|wif E hm rfl (fun hm=>?_) fun hm=>?_
    ·refine sq<|pr 2 E rfl fun a E=>nt<|wp_ret<|q_blkR<|q_thenR<|q_thenR<|q_blkR<|q_thenR<|?_
     refine out1 E rfl rfl<|?_
     cases hm
     exact ⟨rfl, H.reads (fun r hr => (t1 (hs6 r hr)))⟩
    ·exact wp_skip<|q_blk<|q_then<|wp_region_lit<|pr 2 E rfl fun a E=>nt<|⟨k1, Nat.lt_succ_self k1, IntKind.i64.wrap (x4 + 1), _, E.sel [0, 1, 7, 8] rfl, H, fun r hr => (t1 (hs6 r hr)), (t1 hr7), hm⟩
   ·refine wp_exit<|q_thenX<|q_thenX<|q_hit<|q_then<|sq<|pr 1 E rfl fun a E=>nt<|wp_ret<|?_
    refine out1 E rfl rfl<|?_
    cases hm
    exact ⟨rfl, H.reads (hs6)⟩

def m_slices_ContainsFunc_api_Node_api_Node_1 (l2 : List S_api_Node) : Option Bool :=
  (m_slices_IndexFunc_api_Node_api_Node_2 l2).bind fun u4 => some (decide (u4 ≥ 0))
theorem c_slices_ContainsFunc_api_Node_api_Node_1 {w : World} {Fo : List Ob} {rs : List Rp} (v1 : Value) (l2 : List S_api_Node) (H : Sep w (Fo) rs) (hr3 : rSl k_api_Node v1 l2 ∈ rs) {r : Bool} (hm : m_slices_ContainsFunc_api_Node_api_Node_1 l2 = some r) :
    Calls Tryz.prog 94 [v1, .func (.func 95) #[] #[]].toArray w (Ret fun v w' => .bool r = v ∧ Sep w' (Fo) (rs)) := by
 unfold m_slices_ContainsFunc_api_Node_api_Node_1 at hm
 refine enter Tryz.func94 rfl Tryz.ntmps94 rfl fun a E =>?_
 simp only [enum, Nat.reduceAdd] at E
 refine sq<|pr 1 E rfl fun a E=>nx<|pr 2 E rfl fun a E=>bd hm fun u4 hx5 hm=>x_cl E rfl rfl rfl rfl rfl cf143 (c_slices_IndexFunc_api_Node_api_Node_2 v1 l2 H hr3 hx5)<|?_
 rintro _ w ⟨rfl, H⟩ a E
 refine pr 2 E rfl fun a E=>nt<|wp_ret<|out1 E rfl rfl<|?_
 cases hm
 exact ⟨rfl, H.reads (fun r hr => hr)⟩

def m_part_Right_2 (x1 : S_api_Turn) : Option Bool :=
  (m_path_Right x1.Dir).bind fun u3 => if (!u3) = true then (some (true)) else ((m_part_within x1.Next 1 10000).bind fun u6 => some (!u6))
theorem c_part_Right_2 {w : World} {Fo : List Ob} {rs : List Rp} (x1 : S_api_Turn) (H : Sep w (Fo) rs) {r : Bool} (hm : m_part_Right_2 x1 = some r) :
    Calls Tryz.prog 97 [.agg #[.string x1.Dir, .int .i64 x1.Next]].toArray w (Ret fun v w' => .bool r = v ∧ Sep w' (Fo) (rs)) := by
 unfold m_part_Right_2 at hm
 refine enter Tryz.func97 rfl Tryz.ntmps97 rfl fun a E =>?_
 simp only [enum, Nat.reduceAdd] at E
 refine sq<|st_box E H (wn rfl) rfl rfl (cs := [.string x1.Dir, .int .i64 x1.Next]) rfl rfl rfl fun p2 w a H E=>pr 1 E rfl fun a E=>nx<|pr 1 E rfl fun a E=>lb E H 0 rfl rfl rfl rfl rfl rfl rfl Tryz.underlying9 rfl fun a E=>bd hm fun u3 hx4 hm=>x_cl E rfl rfl rfl rfl rfl cf98 (c_path_Right x1.Dir H hx4)<|?_
 rintro _ w ⟨rfl, H⟩ a E
 refine pr 2 E rfl fun a E=>cs hm (fun hb5 hm=>?_) fun hb5 hm=>?_
 ·refine pk 6 E (kc 7 rfl hb5) rfl fun a E=>nt<|wp_ret<|out1 E rfl rfl<|have H:=H.drop 0;?_
  cases hm
  exact ⟨rfl, H.reads (fun r hr => hr)⟩
 ·refine pk 1 E (kc 7 rfl hb5) rfl fun a E=>st_val E (ws' (d := 7) E rfl rfl rfl rfl hb5) rfl rfl (x_ldB (i := 0) E H rfl rfl rfl rfl Tryz.underlying2 rfl) fun a E=>bd hm fun u6 hx7 hm=>st_call E (ws' (d := 7) E rfl rfl rfl rfl hb5) rfl rfl (x_call E rfl rfl (cf99 _)) (c_part_within x1.Next 1 10000 H hx7)<|?_
  rintro _ w ⟨rfl, H⟩ a E
  refine pk 3 E (kc 7 rfl hb5) rfl fun a E=>nt<|wp_ret<|out1 E rfl rfl<|have H:=H.drop 0;?_
  cases hm
  exact ⟨rfl, H.reads (fun r hr => hr)⟩

def m_slices_IndexFunc_api_Turn_api_Turn_l1 (l2 : List S_api_Turn) : Nat → Int → Option Int
  | 0, _ => none
  | k1 + 1, x4 =>
    if (decide (x4 < (l2.length : Int))) = true then ((idx l2 x4).bind fun x8 => (m_part_Right_2 x8).bind fun u11 => if u11 = true then (some (x4)) else (m_slices_IndexFunc_api_Turn_api_Turn_l1 l2 k1 (IntKind.i64.wrap (x4 + 1)))) else (some ((-1)))
def m_slices_IndexFunc_api_Turn_api_Turn (l2 : List S_api_Turn) : Option Int :=
  m_slices_IndexFunc_api_Turn_api_Turn_l1 l2 (((l2.length : Int) - 0 : Int).toNat + 1) 0
theorem c_slices_IndexFunc_api_Turn_api_Turn {w : World} {Fo : List Ob} {rs : List Rp} (v1 : Value) (l2 : List S_api_Turn) (H : Sep w (Fo) rs) (hr3 : rSl k_api_Turn v1 l2 ∈ rs) {r : Int} (hm : m_slices_IndexFunc_api_Turn_api_Turn l2 = some r) :
    Calls Tryz.prog 144 [v1, .func (.func 97) #[] #[]].toArray w (Ret fun v w' => .int .i64 r = v ∧ Sep w' (Fo) (rs)) := by
 unfold m_slices_IndexFunc_api_Turn_api_Turn at hm
 refine enter Tryz.func144 rfl Tryz.ntmps144 rfl fun a E =>?_
 simp only [enum, Nat.reduceAdd] at E
 refine sq<|pr 1 E rfl fun a E=>nt<|wp_seq<|sq<|pr 1 E rfl fun a E=>sv E rfl rfl rfl (x_lenS E H rfl rfl hr3 Tryz.underlying39) fun a E=>pr 1 E rfl fun a E=>nt<|?_
 refine wp_block<|wp_loop_g (fun k1 a w => ∃ (x4 : Int) (rs5 : List Rp), Env 19 a [(0, v1), (1, .func (.func 97) #[] #[]), (7, .int .i64 (l2.length : Int)), (8, .int .i64 x4)] ∧ Sep w (Fo) rs5 ∧ (∀ r, r ∈ rs → r ∈ rs5) ∧ rSl k_api_Turn v1 l2 ∈ rs5 ∧ m_slices_IndexFunc_api_Turn_api_Turn_l1 l2 k1 x4 = some r) (((l2.length : Int) - 0 : Int).toNat + 1) ?_ ?_
 ·exact ⟨0, _, E.sel [0, 1, 7, 8] rfl, H, fun r hr => hr, hr3, hm⟩
 ·clear E H hm
  rintro k1 a w ⟨x4, rs5, E, H, hs6, hr7, hm⟩
  cases k1 with
  | zero => exact (none_some hm rfl).elim
  | succ k1 =>
   unfold m_slices_IndexFunc_api_Turn_api_Turn_l1 at hm
   refine sq<|pr 1 E rfl fun a E=>nt<|wp_seq<|wif E hm rfl (fun hm=>?_) fun hm=>?_
   ·refine wp_skip<|q_then<|wp_seq<|wp_block<|sq<|pr 2 E rfl fun a E=>nx<|pr 3 E rfl fun a E=>bd hm fun x8 hx9 hm=>?_
    refine st_ixS E H (wn rfl) rfl rfl rfl rfl rfl hr7 Tryz.underlying39 sz83 hx9 fun q10 a H E=>ldf k_api_Turn_flat E H rfl rfl rfl rfl rfl m0 Tryz.underlying83 rfl sz83 fun a E=>bd hm fun u11 hx12 hm=>st_call E (wn rfl) rfl rfl (x_callv E rfl rfl rfl (cf97 _)) (c_part_Right_2 x8 H hx12)<|?_
    rintro _ w ⟨rfl, H⟩ a E
    refine nt<|wif E hm rfl (fun hm=>?_) fun hm=>?_
    ·refine sq<|pr 2 E rfl fun a E=>nt<|wp_ret<|q_blkR<|q_thenR<|q_thenR<|q_blkR<|q_thenR<|?_
     refine out1 E rfl rfl<|?_
     cases hm
     exact ⟨rfl, H.reads (fun r hr => (t1 (hs6 r hr)))⟩
    ·exact wp_skip<|q_blk<|q_then<|wp_region_lit<|pr 2 E rfl fun a E=>nt<|⟨k1, Nat.lt_succ_self k1, IntKind.i64.wrap (x4 + 1), _, E.sel [0, 1, 7, 8] rfl, H, fun r hr => (t1 (hs6 r hr)), (t1 hr7), hm⟩
   ·refine wp_exit<|q_thenX<|q_thenX<|q_hit<|q_then<|sq<|pr 1 E rfl fun a E=>nt<|wp_ret<|?_
    refine out1 E rfl rfl<|?_
    cases hm
    exact ⟨rfl, H.reads (hs6)⟩

def m_slices_ContainsFunc_api_Turn_api_Turn (l2 : List S_api_Turn) : Option Bool :=
  (m_slices_IndexFunc_api_Turn_api_Turn l2).bind fun u4 => some (decide (u4 ≥ 0))
theorem c_slices_ContainsFunc_api_Turn_api_Turn {w : World} {Fo : List Ob} {rs : List Rp} (v1 : Value) (l2 : List S_api_Turn) (H : Sep w (Fo) rs) (hr3 : rSl k_api_Turn v1 l2 ∈ rs) {r : Bool} (hm : m_slices_ContainsFunc_api_Turn_api_Turn l2 = some r) :
    Calls Tryz.prog 96 [v1, .func (.func 97) #[] #[]].toArray w (Ret fun v w' => .bool r = v ∧ Sep w' (Fo) (rs)) := by
 unfold m_slices_ContainsFunc_api_Turn_api_Turn at hm
 refine enter Tryz.func96 rfl Tryz.ntmps96 rfl fun a E =>?_
 simp only [enum, Nat.reduceAdd] at E
 refine sq<|pr 1 E rfl fun a E=>nx<|pr 2 E rfl fun a E=>bd hm fun u4 hx5 hm=>x_cl E rfl rfl rfl rfl rfl cf144 (c_slices_IndexFunc_api_Turn_api_Turn v1 l2 H hr3 hx5)<|?_
 rintro _ w ⟨rfl, H⟩ a E
 refine pr 2 E rfl fun a E=>nt<|wp_ret<|out1 E rfl rfl<|?_
 cases hm
 exact ⟨rfl, H.reads (fun r hr => hr)⟩

def m_part_Right (x1 : S_api_Store) : Option Bool :=
  (m_slices_ContainsFunc_api_Node_api_Node_1 x1.Nodes).bind fun u11 => (m_slices_ContainsFunc_api_Turn_api_Turn x1.Turns).bind fun u13 => if (!u11) = true then (if (!u13) = true then ((m_part_rising_api_Node x1.Nodes).bind fun u17 => if u17 = true then ((m_part_rising_api_Turn x1.Turns).bind fun u20 => some (u20)) else (some (false))) else (some (false))) else (some (false))
theorem c_part_Right {w : World} {Fo : List Ob} {rs : List Rp} (x1 : S_api_Store) (v2 : Value) (v3 : Value) (H : Sep w (Fo) rs) (hr4 : rSl k_api_Node v2 x1.Nodes ∈ rs) (hr5 : rSl k_api_Turn v3 x1.Turns ∈ rs) {r : Bool} (hm : m_part_Right x1 = some r) :
    Calls Tryz.prog 44 [.agg #[v2, v3]].toArray w (Ret fun v w' => .bool r = v ∧ Sep w' (Fo) (rs)) := by
 unfold m_part_Right at hm
 refine enter Tryz.func44 rfl Tryz.ntmps44 rfl fun a E =>?_
 simp only [enum, Nat.reduceAdd] at E
 refine sq<|?_
 obtain ⟨q7, x8, rfl⟩ := H.slform hr4
 obtain ⟨q9, x10, rfl⟩ := H.slform hr5
 refine st_box E H (wn rfl) rfl rfl (cs := [(.slice q7 x1.Nodes.length x8), (.slice q9 x1.Turns.length x10)]) rfl rfl rfl fun p6 w a H E=>pr 1 E rfl fun a E=>nx<|pr 1 E rfl fun a E=>lb E H 0 rfl rfl rfl rfl rfl rfl rfl Tryz.underlying22 rfl fun a E=>bd hm fun u11 hx12 hm=>x_cl E rfl rfl rfl rfl rfl cf94 (c_slices_ContainsFunc_api_Node_api_Node_1 (.slice q7 x1.Nodes.length x8) x1.Nodes H hr4 hx12)<|?_
 rintro _ w ⟨rfl, H⟩ a E
 refine pr 1 E rfl fun a E=>nx<|pr 1 E rfl fun a E=>lb E H 0 rfl rfl rfl rfl rfl rfl rfl Tryz.underlying39 rfl fun a E=>bd hm fun u13 hx14 hm=>x_cl E rfl rfl rfl rfl rfl cf96 (c_slices_ContainsFunc_api_Turn_api_Turn (.slice q9 x1.Turns.length x10) x1.Turns H hr5 hx14)<|?_
 rintro _ w ⟨rfl, H⟩ a E
 refine pr 1 E rfl fun a E=>nx<|pr 3 E rfl fun a E=>cs hm (fun hb15 hm=>?_) fun hb15 hm=>?_
 ·refine pk 4 E (kc 13 rfl hb15) rfl fun a E=>cs hm (fun hb16 hm=>?_) fun hb16 hm=>?_
  ·refine pk 1 E (kc 17 rfl hb16) rfl fun a E=>st_val E (ws' (d := 17) E rfl rfl rfl rfl hb16) rfl rfl (x_ldB (i := 0) E H rfl rfl rfl rfl Tryz.underlying22 rfl) fun a E=>bd hm fun u17 hx18 hm=>st_call E (ws' (d := 17) E rfl rfl rfl rfl hb16) rfl rfl (x_call E rfl rfl (cf100 _)) (c_part_rising_api_Node (.slice q7 x1.Nodes.length x8) x1.Nodes H hr4 hx18)<|?_
   rintro _ w ⟨rfl, H⟩ a E
   refine pk 2 E (kc 17 rfl hb16) rfl fun a E=>cs hm (fun hb19 hm=>?_) fun hb19 hm=>?_
   ·refine pk 1 E (kc 22 rfl hb19) rfl fun a E=>st_val E (ws' (d := 22) E rfl rfl rfl rfl hb19) rfl rfl (x_ldB (i := 0) E H rfl rfl rfl rfl Tryz.underlying39 rfl) fun a E=>bd hm fun u20 hx21 hm=>st_call E (ws' (d := 22) E rfl rfl rfl rfl hb19) rfl rfl (x_call E rfl rfl (cf102 _)) (c_part_rising_api_Turn (.slice q9 x1.Turns.length x10) x1.Turns H hr5 hx21)<|?_
    rintro _ w ⟨rfl, H⟩ a E
    refine pk 2 E (kc 22 rfl hb19) rfl fun a E=>nt<|wp_ret<|out1 E rfl rfl<|have H:=H.drop 0;?_
    cases hm
    exact ⟨rfl, H.reads (fun r hr => hr)⟩
   ·refine pk 5 E (kc 22 rfl hb19) rfl fun a E=>nt<|wp_ret<|out1 E rfl rfl<|have H:=H.drop 0;?_
    cases hm
    exact ⟨rfl, H.reads (fun r hr => hr)⟩
  ·refine pk 10 E (kc 17 rfl hb16) rfl fun a E=>nt<|wp_ret<|out1 E rfl rfl<|have H:=H.drop 0;?_
   cases hm
   exact ⟨rfl, H.reads (fun r hr => hr)⟩
 ·refine pk 14 E (kc 13 rfl hb15) rfl fun a E=>nt<|wp_ret<|out1 E rfl rfl<|have H:=H.drop 0;?_
  cases hm
  exact ⟨rfl, H.reads (fun r hr => hr)⟩

def m_part_work_fail (l3 : List S_api_Node) (l5 : List S_api_Turn) (x6 : Int) (s7 : ByteArray) (s8 : ByteArray) (x9 : Int) (l11 : List ByteArray) (x12 : Int) : Option Int :=
  some (x12)
theorem c_part_work_fail {w : World} {Fo : List Ob} {rs : List Rp} (p1 : Nat) (v2 : Value) (l3 : List S_api_Node) (v4 : Value) (l5 : List S_api_Turn) (x6 : Int) (s7 : ByteArray) (s8 : ByteArray) (x9 : Int) (v10 : Value) (l11 : List ByteArray) (x12 : Int) (H : Sep w (Blk p1 105 [v2, v4, .int .i64 x6, .string s7, .string s8, .int .i64 x9, v10] :: Row 80 k_api_Node v2 l3 :: Row 83 k_api_Turn v4 l5 :: Row 9 kS v10 l11 :: Fo) rs) {r : Int} (hm : m_part_work_fail l3 l5 x6 s7 s8 x9 l11 x12 = some r) :
    Calls Tryz.prog 132 [pt p1 0, .int .i64 x12].toArray w (Ret fun v w' => .tuple #[] = v ∧ Sep w' (Blk p1 105 [v2, v4, .int .i64 r, .string (ByteArray.mk #[]), .string (ByteArray.mk #[]), .int .i64 0, .slice none 0 0] :: Row 80 k_api_Node v2 l3 :: Row 83 k_api_Turn v4 l5 :: Fo) (rs)) := by
 unfold m_part_work_fail at hm
 refine enter Tryz.func132 rfl Tryz.ntmps132 rfl fun a E =>?_
 simp only [enum, Nat.reduceAdd] at E
 refine wp_region_lit<|pr 2 E rfl fun a E=>sv E rfl rfl rfl (x_build E rfl (E.evs rfl) (v := .agg #[.int .i64 x12, .string (ByteArray.mk #[]), .string (ByteArray.mk #[]), .int .i64 0, .slice none 0 0]) (by kernel_rfl)) fun a E=>pr 2 E rfl fun a E=>st_st (i := 0) E H (wn rfl) rfl (us := [.int .i64 x12, .string (ByteArray.mk #[]), .string (ByteArray.mk #[]), .int .i64 0, .slice none 0 0]) rfl rfl rfl rfl rfl sz51 rfl rfl fun w H=>wpList_nil<|out0 E rfl<|have H:=H.drop 3;?_
 cases hm
 exact ⟨rfl, H.reads (fun r hr => hr)⟩

def m_part_work_where_1 (x1 : S_api_Node) (s2 : ByteArray) : Option Int :=
  (m_strings_Compare x1.Path s2).bind fun u4 => some (u4)
theorem c_part_work_where_1 {w : World} {Fo : List Ob} {rs : List Rp} (x1 : S_api_Node) (s2 : ByteArray) (H : Sep w (Fo) rs) {r : Int} (hm : m_part_work_where_1 x1 s2 = some r) :
    Calls Tryz.prog 161 [.agg (l_api_Node x1).toArray, .string s2].toArray w (Ret fun v w' => .int .i64 r = v ∧ Sep w' (Fo) (rs)) := by
 unfold m_part_work_where_1 at hm
 refine enter Tryz.func161 rfl Tryz.ntmps161 rfl fun a E =>?_
 simp only [enum, Nat.reduceAdd] at E
 refine sq<|st_box E H (wn rfl) rfl rfl (cs := (l_api_Node x1)) rfl rfl rfl fun p3 w a H E=>pr 1 E rfl fun a E=>nx<|pr 1 E rfl fun a E=>lb E H 0 rfl rfl rfl rfl rfl rfl rfl Tryz.underlying9 rfl fun a E=>pr 1 E rfl fun a E=>bd hm fun u4 hx5 hm=>x_cl E rfl rfl rfl rfl rfl cf108 (c_strings_Compare x1.Path s2 H hx5)<|?_
 rintro _ w ⟨rfl, H⟩ a E
 refine pr 1 E rfl fun a E=>nt<|wp_ret<|out1 E rfl rfl<|have H:=H.drop 0;?_
 cases hm
 exact ⟨rfl, H.reads (fun r hr => hr)⟩

def m_slices_BinarySearchFunc_api_Node_api_Node_string_l1 (l2 : List S_api_Node) (s3 : ByteArray) : Nat → Int → Int → Option (Int × Bool)
  | 0, _, _ => none
  | k1 + 1, x4, x5 =>
    if (decide (x4 < x5)) = true then ((idx l2 (IntKind.i64.wrap (ishr .u64 (IntKind.u64.wrap (IntKind.i64.wrap (x4 + x5))) 1))).bind fun x8 => (m_part_work_where_1 x8 s3).bind fun u13 => if (decide (u13 < 0)) = true then (m_slices_BinarySearchFunc_api_Node_api_Node_string_l1 l2 s3 k1 (IntKind.i64.wrap ((IntKind.i64.wrap (ishr .u64 (IntKind.u64.wrap (IntKind.i64.wrap (x4 + x5))) 1)) + 1)) x5) else (m_slices_BinarySearchFunc_api_Node_api_Node_string_l1 l2 s3 k1 x4 (IntKind.i64.wrap (ishr .u64 (IntKind.u64.wrap (IntKind.i64.wrap (x4 + x5))) 1)))) else (if (decide (x4 < (l2.length : Int))) = true then ((idx l2 x4).bind fun x16 => (m_part_work_where_1 x16 s3).bind fun u21 => some (x4, u21 == 0)) else (some (x4, false)))
def m_slices_BinarySearchFunc_api_Node_api_Node_string (l2 : List S_api_Node) (s3 : ByteArray) : Option (Int × Bool) :=
  m_slices_BinarySearchFunc_api_Node_api_Node_string_l1 l2 s3 (((l2.length : Int) - 0 : Int).toNat + 1) 0 (l2.length : Int)
theorem c_slices_BinarySearchFunc_api_Node_api_Node_string {w : World} {Fo : List Ob} {rs : List Rp} (v1 : Value) (l2 : List S_api_Node) (s3 : ByteArray) (H : Sep w (Row 80 k_api_Node v1 l2 :: Fo) rs) {r : Int × Bool} (hm : m_slices_BinarySearchFunc_api_Node_api_Node_string l2 s3 = some r) :
    Calls Tryz.prog 160 [v1, .string s3, .func (.func 161) #[] #[]].toArray w (Ret fun v w' => .tuple #[.int .i64 r.1, .bool r.2] = v ∧ Sep w' (Row 80 k_api_Node v1 l2 :: Fo) (rs)) := by
 unfold m_slices_BinarySearchFunc_api_Node_api_Node_string at hm
 refine enter Tryz.func160 rfl Tryz.ntmps160 rfl fun a E =>?_
 simp only [enum, Nat.reduceAdd] at E
 refine sq<|pr 2 E rfl fun a E=>nx<|pr 1 E rfl fun a E=>sv E rfl rfl rfl (x_lenR (i := 0) E H rfl rfl rfl Tryz.underlying22) fun a E=>pr 1 E rfl fun a E=>nx<|pr 3 E rfl fun a E=>nt<|?_
 refine wp_seq<|wp_block<|wp_loop_g (fun k1 a w => ∃ (x4 : Int) (x5 : Int) (rs6 : List Rp), Env 49 a [(0, v1), (1, .string s3), (2, .func (.func 161) #[] #[]), (8, .int .i64 (l2.length : Int)), (9, .int .i64 x4), (10, .int .i64 x5)] ∧ Sep w (Row 80 k_api_Node v1 l2 :: Fo) rs6 ∧ (∀ r, r ∈ rs → r ∈ rs6) ∧ m_slices_BinarySearchFunc_api_Node_api_Node_string_l1 l2 s3 k1 x4 x5 = some r) (((l2.length : Int) - 0 : Int).toNat + 1) ?_ ?_
 ·exact ⟨0, (l2.length : Int), _, E.sel [0, 1, 2, 8, 9, 10] rfl, H, fun r hr => hr, hm⟩
 ·clear E H hm
  rintro k1 a w ⟨x4, x5, rs6, E, H, hs7, hm⟩
  cases k1 with
  | zero => exact (none_some hm rfl).elim
  | succ k1 =>
   unfold m_slices_BinarySearchFunc_api_Node_api_Node_string_l1 at hm
   refine wp_seq<|sq<|pr 3 E rfl fun a E=>nt<|wif E hm rfl (fun hm=>?_) fun hm=>?_
   ·refine wp_skip<|q_then<|wp_block<|sq<|pr 4 E rfl fun a E=>sv E rfl rfl rfl (x_shr E rfl rfl rfl (by decide)) fun a E=>pr 2 E rfl fun a E=>nx<|pr 3 E rfl fun a E=>?_
    refine bd hm fun x8 hx9 hm=>?_
    obtain ⟨p10, x11, hx12⟩ := H.rowformNE (i := 0) rfl hx9
    refine sv E rfl rfl rfl (x_ixRowV (d := k_api_Node) E hx12 rfl rfl rfl rfl Tryz.underlying22 sz80 hx9) fun a E=>sv E rfl rfl rfl (x_ldRowNV (i := 0) E H k_api_Node_flat hx12 rfl rfl rfl hx9 (us := [.string x8.Path, .string x8.Data, .int .i64 x8.Version, .int .i64 x8.Turn, .int .i64 x8.Owner]) rfl Tryz.underlying80 rfl sz80) fun a E=>pr 1 E rfl fun a E=>bd hm fun u13 hx14 hm=>st_call E (wn rfl) rfl rfl (x_callv E rfl rfl rfl (cf161 _)) (c_part_work_where_1 x8 s3 H hx14)<|?_
    rintro _ w ⟨rfl, H⟩ a E
    refine pr 1 E rfl fun a E=>nt<|wif E hm rfl (fun hm=>?_) fun hm=>?_
    ·exact wp_region_lit<|pr 3 E rfl fun a E=>wpList_nil<|q_blk<|q_then<|⟨k1, Nat.lt_succ_self k1, IntKind.i64.wrap ((IntKind.i64.wrap (ishr .u64 (IntKind.u64.wrap (IntKind.i64.wrap (x4 + x5))) 1)) + 1), x5, _, E.sel [0, 1, 2, 8, 9, 10] rfl, H, hs7, hm⟩
    ·exact wp_region_lit<|pr 2 E rfl fun a E=>wpList_nil<|q_blk<|q_then<|⟨k1, Nat.lt_succ_self k1, x4, IntKind.i64.wrap (ishr .u64 (IntKind.u64.wrap (IntKind.i64.wrap (x4 + x5))) 1), _, E.sel [0, 1, 2, 8, 9, 10] rfl, H, hs7, hm⟩
   ·refine wp_exit<|q_thenX<|q_thenX<|q_hit<|q_then<|sq<|pr 5 E rfl fun a E=>cs hm (fun hb15 hm=>?_) fun hb15 hm=>?_
    ·refine pk 3 E (kc 39 rfl hb15) rfl fun a E=>bd hm fun x16 hx17 hm=>?_
     obtain ⟨p18, x19, hx20⟩ := H.rowformNE (i := 0) rfl hx17
     refine st_val E (ws' (d := 39) E rfl rfl rfl rfl hb15) rfl rfl (x_ixRowV (d := k_api_Node) E hx20 rfl rfl rfl rfl Tryz.underlying22 sz80 hx17) fun a E=>st_val E (ws' (d := 39) E rfl rfl rfl rfl hb15) rfl rfl (x_ldRowNV (i := 0) E H k_api_Node_flat hx20 rfl rfl rfl hx17 (us := [.string x16.Path, .string x16.Data, .int .i64 x16.Version, .int .i64 x16.Turn, .int .i64 x16.Owner]) rfl Tryz.underlying80 rfl sz80) fun a E=>pk 1 E (kc 39 rfl hb15) rfl fun a E=>bd hm fun u21 hx22 hm=>st_call E (ws' (d := 39) E rfl rfl rfl rfl hb15) rfl rfl (x_callv E rfl rfl rfl (cf161 _)) (c_part_work_where_1 x16 s3 H hx22)<|?_
     rintro _ w ⟨rfl, H⟩ a E
     refine pk 4 E (kc 39 rfl hb15) rfl fun a E=>nt<|wp_ret<|out2 E rfl rfl rfl<|?_
     cases hm
     exact ⟨rfl, H.reads (hs7)⟩
    ·refine pk 11 E (kc 39 rfl hb15) rfl fun a E=>nt<|wp_ret<|out2 E rfl rfl rfl<|?_
     cases hm
     exact ⟨rfl, H.reads (hs7)⟩

def m_part_work_where (l3 : List S_api_Node) (l5 : List S_api_Turn) (x6 : Int) (s7 : ByteArray) (s8 : ByteArray) (x9 : Int) (l11 : List ByteArray) (s12 : ByteArray) : Option (Int × Bool) :=
  (m_slices_BinarySearchFunc_api_Node_api_Node_string l3 s12).bind fun u13 => some (u13.1, u13.2)
theorem c_part_work_where {w : World} {Fo : List Ob} {rs : List Rp} (p1 : Nat) (v2 : Value) (l3 : List S_api_Node) (v4 : Value) (l5 : List S_api_Turn) (x6 : Int) (s7 : ByteArray) (s8 : ByteArray) (x9 : Int) (v10 : Value) (l11 : List ByteArray) (s12 : ByteArray) (H : Sep w (Blk p1 105 [v2, v4, .int .i64 x6, .string s7, .string s8, .int .i64 x9, v10] :: Row 80 k_api_Node v2 l3 :: Row 83 k_api_Turn v4 l5 :: Row 9 kS v10 l11 :: Fo) rs) {r : Int × Bool} (hm : m_part_work_where l3 l5 x6 s7 s8 x9 l11 s12 = some r) :
    Calls Tryz.prog 135 [pt p1 0, .string s12].toArray w (Ret fun v w' => .tuple #[.int .i64 r.1, .bool r.2] = v ∧ Sep w' (Blk p1 105 [v2, v4, .int .i64 x6, .string s7, .string s8, .int .i64 x9, v10] :: Row 80 k_api_Node v2 l3 :: Row 83 k_api_Turn v4 l5 :: Row 9 kS v10 l11 :: Fo) (rs)) := by
 unfold m_part_work_where at hm
 refine enter Tryz.func135 rfl Tryz.ntmps135 rfl fun a E =>?_
 simp only [enum, Nat.reduceAdd] at E
 refine sq<|pr 2 E rfl fun a E=>nx<|pr 4 E rfl fun a E=>lb E H 0 rfl rfl rfl rfl rfl rfl rfl Tryz.underlying22 rfl fun a E=>pr 1 E rfl fun a E=>have H:=H.front 3 rfl;have H:=H.front 3 rfl;have H:=H.front 2 rfl;?_
 refine have H:=H.front 3 rfl;bd hm fun u13 hx14 hm=>x_cl E rfl rfl rfl rfl rfl cf160 (c_slices_BinarySearchFunc_api_Node_api_Node_string v2 l3 s12 H hx14)<|?_
 rintro _ w ⟨rfl, H⟩ a E
 refine pr 4 E rfl fun a E=>nt<|wp_ret<|out2 E rfl rfl rfl<|have H:=H.front 3 rfl;have H:=H.front 3 rfl;have H:=H.front 2 rfl;have H:=H.front 3 rfl;?_
 cases hm
 exact ⟨rfl, H.reads (fun r hr => hr)⟩

def m_part_work_node_j2 (x19 : Int) : Option (Int × Int × ByteArray × ByteArray × Int × (List ByteArray)) :=
  some ((-1), x19, (ByteArray.mk #[]), (ByteArray.mk #[]), 0, [])
def m_part_work_node_j3 (l3 : List S_api_Node) (l5 : List S_api_Turn) (x6 : Int) (s7 : ByteArray) (s8 : ByteArray) (x9 : Int) (l11 : List ByteArray) (u14 : Int × Bool) (b24 : Bool) : Option (Int × Int × ByteArray × ByteArray × Int × (List ByteArray)) :=
  if b24 = true then ((m_part_work_fail l3 l5 x6 s7 s8 x9 l11 63).bind fun u27 => m_part_work_node_j2 u27) else ((idx l3 u14.1).bind fun x29 => some (u14.1, x6, s7, s8, x9, l11))
def m_part_work_node_j1 (l3 : List S_api_Node) (l5 : List S_api_Turn) (x6 : Int) (s7 : ByteArray) (s8 : ByteArray) (x9 : Int) (l11 : List ByteArray) (u14 : Int × Bool) (x12 : S_api_Part) (b16 : Bool) : Option (Int × Int × ByteArray × ByteArray × Int × (List ByteArray)) :=
  if (!u14.2) = true then ((m_part_work_fail l3 l5 x6 s7 s8 x9 l11 62).bind fun u22 => m_part_work_node_j2 u22) else (if b16 = true then (if (decide (x12.Version ≥ 0)) = true then ((idx l3 u14.1).bind fun x36 => m_part_work_node_j3 l3 l5 x6 s7 s8 x9 l11 u14 (x12.Version != x36.Version)) else (m_part_work_node_j3 l3 l5 x6 s7 s8 x9 l11 u14 false)) else (m_part_work_node_j3 l3 l5 x6 s7 s8 x9 l11 u14 false))
def m_part_work_node (l3 : List S_api_Node) (l5 : List S_api_Turn) (x6 : Int) (s7 : ByteArray) (s8 : ByteArray) (x9 : Int) (l11 : List ByteArray) (x12 : S_api_Part) : Option (Int × Int × ByteArray × ByteArray × Int × (List ByteArray)) :=
  (m_part_work_where l3 l5 x6 s7 s8 x9 l11 x12.Path).bind fun u14 => if (x12.Kind == 3) = true then (m_part_work_node_j1 l3 l5 x6 s7 s8 x9 l11 u14 x12 true) else (if (x12.Kind == 5) = true then (m_part_work_node_j1 l3 l5 x6 s7 s8 x9 l11 u14 x12 true) else (m_part_work_node_j1 l3 l5 x6 s7 s8 x9 l11 u14 x12 (x12.Kind == 6)))
theorem c_part_work_node {w : World} {Fo : List Ob} {rs : List Rp} (p1 : Nat) (v2 : Value) (l3 : List S_api_Node) (v4 : Value) (l5 : List S_api_Turn) (x6 : Int) (s7 : ByteArray) (s8 : ByteArray) (x9 : Int) (v10 : Value) (l11 : List ByteArray) (x12 : S_api_Part) (H : Sep w (Blk p1 105 [v2, v4, .int .i64 x6, .string s7, .string s8, .int .i64 x9, v10] :: Row 80 k_api_Node v2 l3 :: Row 83 k_api_Turn v4 l5 :: Row 9 kS v10 l11 :: Fo) rs) {r : Int × Int × ByteArray × ByteArray × Int × (List ByteArray)} (hm : m_part_work_node l3 l5 x6 s7 s8 x9 l11 x12 = some r) :
    Calls Tryz.prog 131 [pt p1 0, .agg (l_api_Part x12).toArray].toArray w (Ret fun v w' => ∃ (v5006 : Value), orp v2 r.1 5 = v ∧ Sep w' (Blk p1 105 [v2, v4, .int .i64 r.2.1, .string r.2.2.1, .string r.2.2.2.1, .int .i64 r.2.2.2.2.1, v5006] :: Row 80 k_api_Node v2 l3 :: Row 83 k_api_Turn v4 l5 :: Row 9 kS v5006 r.2.2.2.2.2 :: Fo) (rs)) := by
 unfold m_part_work_node at hm
 refine enter Tryz.func131 rfl Tryz.ntmps131 rfl fun a E =>?_
 simp only [enum, Nat.reduceAdd] at E
 refine sq<|st_box E H (wn rfl) rfl rfl (cs := (l_api_Part x12)) rfl rfl rfl fun p13 w a H E=>pr 1 E rfl fun a E=>nx<|pr 2 E rfl fun a E=>lb E H 0 rfl rfl rfl rfl rfl rfl rfl Tryz.underlying9 rfl fun a E=>have H:=H.front 0 rfl;have H:=H.front 4 rfl;have H:=H.front 4 rfl;?_
 refine have H:=H.front 4 rfl;have H:=H.front 4 rfl;bd hm fun u14 hx15 hm=>x_cl E rfl rfl rfl rfl rfl cf135 (c_part_work_where p1 v2 l3 v4 l5 x6 s7 s8 x9 v10 l11 x12.Path H hx15)<|?_
 rintro _ w ⟨rfl, H⟩ a E
 refine pr 5 E rfl fun a E=>nt<|wp_seq_cut (fun a w => ∃ (b16 : Bool) (rs17 : List Rp), Env 63 a [(0, pt p1 0), (3, pt p13 0), (5, .int .i64 u14.1), (6, .bool u14.2), (7, .bool b16)] ∧ Sep w (Blk p1 105 [v2, v4, .int .i64 x6, .string s7, .string s8, .int .i64 x9, v10] :: Blk p13 62 (l_api_Part x12) :: Row 80 k_api_Node v2 l3 :: Row 83 k_api_Turn v4 l5 :: Row 9 kS v10 l11 :: Fo) rs17 ∧ (∀ r, r ∈ rs → r ∈ rs17) ∧ m_part_work_node_j1 l3 l5 x6 s7 s8 x9 l11 u14 x12 b16 = some r) ?_ ?_
 ·refine wp_region_lit<|pr 1 E rfl fun a E=>lb E H 4 rfl rfl rfl rfl rfl rfl rfl Tryz.underlying3 rfl fun a E=>pr 2 E rfl fun a E=>cs hm (fun hb41 hm=>?_) fun hb41 hm=>?_
  ·exact pk 10 E (kc 18 rfl hb41) rfl fun a E=>nt<|have H:=H.front 3 rfl;have H:=H.front 3 rfl;have H:=H.front 3 rfl;have H:=H.front 4 rfl;have H:=H.front 4 rfl;⟨true, _, E.sel [0, 3, 5, 6, 7] rfl, H, fun r hr => hr, hm⟩
  ·refine pk 1 E (kc 18 rfl hb41) rfl fun a E=>st_val E (ws' (d := 18) E rfl rfl rfl rfl hb41) rfl rfl (x_ldB (i := 4) E H rfl rfl rfl rfl Tryz.underlying3 rfl) fun a E=>pk 3 E (kc 18 rfl hb41) rfl fun a E=>cs hm (fun hb42 hm=>?_) fun hb42 hm=>?_
   ·exact pk 5 E (kc 23 rfl hb42) rfl fun a E=>nt<|have H:=H.front 3 rfl;have H:=H.front 3 rfl;have H:=H.front 3 rfl;have H:=H.front 4 rfl;have H:=H.front 4 rfl;⟨true, _, E.sel [0, 3, 5, 6, 7] rfl, H, fun r hr => hr, hm⟩
   ·exact pk 1 E (kc 23 rfl hb42) rfl fun a E=>st_val E (ws' (d := 23) E rfl rfl rfl rfl hb42) rfl rfl (x_ldB (i := 4) E H rfl rfl rfl rfl Tryz.underlying3 rfl) fun a E=>pk 3 E (kc 23 rfl hb42) rfl fun a E=>nt<|have H:=H.front 3 rfl;have H:=H.front 3 rfl;have H:=H.front 3 rfl;have H:=H.front 4 rfl;have H:=H.front 4 rfl;⟨x12.Kind == 6, _, E.sel [0, 3, 5, 6, 7] rfl, H, fun r hr => hr, hm⟩
 ·clear E H hm
  rintro a w ⟨b16, rs17, E, H, hs18, hm⟩
  unfold m_part_work_node_j1 at hm
  refine wp_seq_cut (fun a w => ∃ (x19 : Int) (rs20 : List Rp), Env 63 a [] ∧ Sep w (Blk p1 105 [v2, v4, .int .i64 x19, .string (ByteArray.mk #[]), .string (ByteArray.mk #[]), .int .i64 0, .slice none 0 0] :: Row 80 k_api_Node v2 l3 :: Row 83 k_api_Turn v4 l5 :: Fo) rs20 ∧ (∀ r, r ∈ rs → r ∈ rs20) ∧ m_part_work_node_j2 x19 = some r) ?_ ?_
  ·refine wp_block<|sq<|pr 3 E rfl fun a E=>nt<|wif E hm rfl (fun hm=>?_) fun hm=>?_
   ·refine wp_region_lit<|pr 1 E rfl fun a E=>have H:=H.front 1 rfl;have H:=H.front 4 rfl;have H:=H.front 4 rfl;have H:=H.front 4 rfl;have H:=H.front 4 rfl;bd hm fun u22 hx23 hm=>x_cl E rfl rfl rfl rfl rfl cf132 (c_part_work_fail p1 v2 l3 v4 l5 x6 s7 s8 x9 v10 l11 62 H hx23)<|?_
    rintro _ w ⟨rfl, H⟩ a E
    exact wpList_nil<|q_blk<|q_then<|have H:=H.drop 3;⟨u22, _, E.nil, H, hs18, hm⟩
   ·refine wp_seq_cut (fun a w => ∃ (b24 : Bool) (rs25 : List Rp), Env 63 a [(0, pt p1 0), (5, .int .i64 u14.1), (40, .bool b24)] ∧ Sep w (Blk p1 105 [v2, v4, .int .i64 x6, .string s7, .string s8, .int .i64 x9, v10] :: Row 80 k_api_Node v2 l3 :: Row 83 k_api_Turn v4 l5 :: Row 9 kS v10 l11 :: Fo) rs25 ∧ (∀ r, r ∈ rs → r ∈ rs25) ∧ m_part_work_node_j3 l3 l5 x6 s7 s8 x9 l11 u14 b24 = some r) ?_ ?_
    ·refine dw [(0, 0), (1, 0), (2, 0), (3, 0), (4, 0), (5, 0), (6, 0), (7, 0), (8, 0), (9, 0), (10, 0), (11, 0), (12, 0), (13, 0), (14, 0), (15, 0), (16, 0), (17, 0), (18, 0), (19, 0), (20, 1)] [0, 1, 2] [] H (by kernel_rfl) (fun _ _ _ h => False.elim h.2) fun w W0 hI H=>fn 2 E rfl fun a E=>cs hm (fun hb34 hm=>?_) fun hb34 hm=>?_
     ·refine fk 1 E (kc 42 rfl hb34) rfl fun a E=>fb E rfl (ws' (d := 42) E rfl rfl rfl rfl hb34) rfl rfl rfl rfl mm1 rfl Tryz.underlying2 rfl fun a E=>fk 3 E (kc 42 rfl hb34) rfl fun a E=>cs hm (fun hb35 hm=>?_) fun hb35 hm=>?_
      ·refine fk 1 E (kc 47 rfl hb35) rfl fun a E=>fb E rfl (ws' (d := 47) E rfl rfl rfl rfl hb35) rfl rfl rfl rfl mm1 rfl Tryz.underlying2 rfl fun a E=>fk 4 E (kc 47 rfl hb35) rfl fun a E=>fb E rfl (ws' (d := 47) E rfl rfl rfl rfl hb35) rfl rfl rfl rfl m0 rfl Tryz.underlying22 rfl fun a E=>fk 1 E (kc 47 rfl hb35) rfl fun a E=>bd hm fun x36 hx37 hm=>?_
       obtain ⟨p38, x39, hx40⟩ := H.rowformNE (i := 2) rfl hx37
       refine fr_val E rfl (ws' (d := 47) E rfl rfl rfl rfl hb35) rfl rfl (fun w hW=>x_ixRowV (d := k_api_Node) E hx40 rfl rfl rfl rfl Tryz.underlying22 sz80 hx37) fun a E=>?_
       refine fk 1 E (kc 47 rfl hb35) rfl fun a E=>fr_val E rfl (ws' (d := 47) E rfl rfl rfl rfl hb35) rfl rfl (fun w hW=>x_ldRowI (d := k_api_Node) (k := 2) E k_api_Node_flat hx40 hx37 mm2 rfl rfl rfl Tryz.underlying2 rfl hW) fun a E=>?_
       refine fk 2 E (kc 47 rfl hb35) rfl fun a E=>fr_op rfl<|pr 1 E rfl fun a E=>nt<|?_
       refine ⟨⟨_, _, H, (subO_cons m0 (subO_cons mm1 (subO_cons mm2 (subO_nil)))), (sub_nil)⟩, ?_⟩
       refine fr_nil<|?_
       clear hI
       exact q_then<|have H:=H.drop 1;⟨x12.Version != x36.Version, _, E.sel [0, 5, 40] rfl, H, hs18, hm⟩
      ·refine fk 13 E (kc 47 rfl hb35) rfl fun a E=>fr_op rfl<|pr 1 E rfl fun a E=>nt<|?_
       refine ⟨⟨_, _, H, (subO_cons m0 (subO_cons mm1 (subO_cons mm2 (subO_nil)))), (sub_nil)⟩, ?_⟩
       refine fr_nil<|?_
       clear hI
       exact q_then<|have H:=H.drop 1;⟨false, _, E.sel [0, 5, 40] rfl, H, hs18, hm⟩
     ·refine fk 18 E (kc 42 rfl hb34) rfl fun a E=>fr_op rfl<|pr 1 E rfl fun a E=>nt<|?_
      refine ⟨⟨_, _, H, (subO_cons m0 (subO_cons mm1 (subO_cons mm2 (subO_nil)))), (sub_nil)⟩, ?_⟩
      refine fr_nil<|?_
      clear hI
      exact q_then<|have H:=H.drop 1;⟨false, _, E.sel [0, 5, 40] rfl, H, hs18, hm⟩
    ·clear E H hm
     rintro a w ⟨b24, rs25, E, H, hs26, hm⟩
     unfold m_part_work_node_j3 at hm
     refine wif E hm rfl (fun hm=>?_) fun hm=>?_
     ·refine wp_region_lit<|pr 1 E rfl fun a E=>bd hm fun u27 hx28 hm=>x_cl E rfl rfl rfl rfl rfl cf132 (c_part_work_fail p1 v2 l3 v4 l5 x6 s7 s8 x9 v10 l11 63 H hx28)<|?_
      rintro _ w ⟨rfl, H⟩ a E
      exact wpList_nil<|q_blk<|q_then<|⟨u27, _, E.nil, H, hs26, hm⟩
     ·refine sq<|pr 4 E rfl fun a E=>lb E H 0 rfl rfl rfl rfl rfl rfl rfl Tryz.underlying22 rfl fun a E=>pr 1 E rfl fun a E=>bd hm fun x29 hx30 hm=>?_
      obtain ⟨p31, x32, hx33⟩ := H.rowformNE (i := 1) rfl hx30
      refine sv E rfl rfl rfl (x_ixRowV (d := k_api_Node) E hx33 rfl rfl rfl rfl Tryz.underlying22 sz80 hx30) fun a E=>pr 1 E rfl fun a E=>nt<|wp_ret<|q_blkR<|q_thenR<|out1 E rfl rfl<|?_
      cases hm
      exact ⟨v10, orp_rp _ hx33 hx30, H.reads (hs26)⟩
  ·clear E H hm
   rintro a w ⟨x19, rs20, E, H, hs21, hm⟩
   unfold m_part_work_node_j2 at hm
   refine sq<|pr 1 E rfl fun a E=>nt<|wp_ret<|out1 E rfl rfl<|have H:=H.nilRow 9 kS;have H:=H.front 0 rfl;have H:=H.front 3 rfl;have H:=H.front 3 rfl;?_
   refine have H:=H.front 3 rfl;?_
   cases hm
   exact ⟨(.slice none 0 0), rfl, H.reads (hs21)⟩

def m_part_work_alter (l3 : List S_api_Node) (l5 : List S_api_Turn) (x6 : Int) (s7 : ByteArray) (s8 : ByteArray) (x9 : Int) (l11 : List ByteArray) (x12 : S_api_Part) : Option ((List S_api_Node) × Int × ByteArray × ByteArray × Int × (List ByteArray)) :=
  (m_part_work_node l3 l5 x6 s7 s8 x9 l11 x12).bind fun u14 => if (decide (u14.1 < 0)) = true then (some (l3, u14.2.1, u14.2.2.1, u14.2.2.2.1, u14.2.2.2.2.1, u14.2.2.2.2.2)) else ((idx l3 u14.1).bind fun x17 => if (x17.Version == 281474976710656) = true then ((m_part_work_fail l3 l5 u14.2.1 u14.2.2.1 u14.2.2.2.1 u14.2.2.2.2.1 u14.2.2.2.2.2 2).bind fun u22 => some (l3, u22, (ByteArray.mk #[]), (ByteArray.mk #[]), 0, [])) else (some ((l3.set u14.1.toNat ({ x17 with Data := x12.Data } : S_api_Node)).set u14.1.toNat ({ ({ x17 with Data := x12.Data } : S_api_Node) with Version := IntKind.i64.wrap ((({ x17 with Data := x12.Data } : S_api_Node).Version) + 1) } : S_api_Node), u14.2.1, u14.2.2.1, u14.2.2.2.1, ({ ({ x17 with Data := x12.Data } : S_api_Node) with Version := IntKind.i64.wrap ((({ x17 with Data := x12.Data } : S_api_Node).Version) + 1) } : S_api_Node).Version, u14.2.2.2.2.2)))
theorem c_part_work_alter {w : World} {Fo : List Ob} {rs : List Rp} (p1 : Nat) (v2 : Value) (l3 : List S_api_Node) (v4 : Value) (l5 : List S_api_Turn) (x6 : Int) (s7 : ByteArray) (s8 : ByteArray) (x9 : Int) (v10 : Value) (l11 : List ByteArray) (x12 : S_api_Part) (H : Sep w (Blk p1 105 [v2, v4, .int .i64 x6, .string s7, .string s8, .int .i64 x9, v10] :: Row 80 k_api_Node v2 l3 :: Row 83 k_api_Turn v4 l5 :: Row 9 kS v10 l11 :: Fo) rs) {r : (List S_api_Node) × Int × ByteArray × ByteArray × Int × (List ByteArray)} (hm : m_part_work_alter l3 l5 x6 s7 s8 x9 l11 x12 = some r) :
    Calls Tryz.prog 82 [pt p1 0, .agg (l_api_Part x12).toArray].toArray w (Ret fun v w' => ∃ (v5006 : Value), .tuple #[] = v ∧ Sep w' (Blk p1 105 [v2, v4, .int .i64 r.2.1, .string r.2.2.1, .string r.2.2.2.1, .int .i64 r.2.2.2.2.1, v5006] :: Row 80 k_api_Node v2 r.1 :: Row 83 k_api_Turn v4 l5 :: Row 9 kS v5006 r.2.2.2.2.2 :: Fo) (rs)) := by
 unfold m_part_work_alter at hm
 refine enter Tryz.func82 rfl Tryz.ntmps82 rfl fun a E =>?_
 simp only [enum, Nat.reduceAdd] at E
 refine sq<|st_box E H (wn rfl) rfl rfl (cs := (l_api_Part x12)) rfl rfl rfl fun p13 w a H E=>nx<|pr 1 E rfl fun a E=>sv E rfl rfl rfl (x_ldBN (i := 0) (us := (l_api_Part x12)) E H rfl rfl rfl rfl Tryz.underlying62 rfl sz62) fun a E=>have H:=H.front 0 rfl;have H:=H.front 4 rfl;have H:=H.front 4 rfl;have H:=H.front 4 rfl;?_
 refine have H:=H.front 4 rfl;bd hm fun u14 hx15 hm=>x_cl E rfl rfl rfl rfl rfl cf131 (c_part_work_node p1 v2 l3 v4 l5 x6 s7 s8 x9 v10 l11 x12 H hx15)<|?_
 rintro _ w ⟨v16, rfl, H⟩ a E
 refine pr 1 E rfl fun a E=>nt<|wp_block<|sq<|pr 1 E rfl fun a E=>sv E rfl rfl rfl (x_orpE E oq138 oz138 rfl rfl rfl) fun a E=>pr 1 E rfl fun a E=>nt<|wif E hm rfl (fun hm=>?_) fun hm=>?_
 ·refine wp_skip<|q_blk<|out0 E rfl<|have H:=H.drop 4;?_
  cases hm
  exact ⟨v16, rfl, H.reads (fun r hr => hr)⟩
 ·refine sq<|pr 1 E rfl fun a E=>bd hm fun x17 hx18 hm=>?_
  obtain ⟨p19, x20, hx21⟩ := H.rowformNE (i := 1) rfl hx18
  rw [orp_rp 5 hx21 hx18] at E
  refine pr 2 E rfl fun a E=>sv E rfl rfl rfl (x_ldRowV (d := k_api_Node) (i := 1) (k := 2) E H k_api_Node_flat hx21 rfl rfl rfl hx18 rfl Tryz.underlying2 rfl) fun a E=>pr 2 E rfl fun a E=>nt<|wif E hm rfl (fun hm=>?_) fun hm=>?_
  ·refine wp_region_lit<|pr 1 E rfl fun a E=>bd hm fun u22 hx23 hm=>x_cl E rfl rfl rfl rfl rfl cf132 (c_part_work_fail p1 v2 l3 v4 l5 u14.2.1 u14.2.2.1 u14.2.2.2.1 u14.2.2.2.2.1 v16 u14.2.2.2.2.2 2 H hx23)<|?_
   rintro _ w ⟨rfl, H⟩ a E
   refine wpList_nil<|q_blk<|out0 E rfl<|have H:=H.nilRow 9 kS;have H:=H.drop 4;have H:=H.front 0 rfl;have H:=H.front 3 rfl;have H:=H.front 3 rfl;have H:=H.front 3 rfl;?_
   cases hm
   exact ⟨(.slice none 0 0), rfl, H.reads (fun r hr => hr)⟩
  ·refine sq<|pr 2 E rfl fun a E=>lb E H 4 rfl rfl rfl rfl rfl rfl rfl Tryz.underlying9 rfl fun a E=>pr 2 E rfl fun a E=>st_stRowV (d := k_api_Node) (i := 1) (k := 1) (z' := ({ x17 with Data := x12.Data } : S_api_Node)) E H k_api_Node_flat (wn rfl) rfl hx21 rfl rfl rfl rfl rfl rfl hx18 rfl rfl sz9 fun w H=>nx<|pr 3 E rfl fun a E=>sv E rfl rfl rfl (x_ldRowV (d := k_api_Node) (i := 1) (k := 2) E H k_api_Node_flat hx21 rfl rfl rfl (idx_setS hx18) rfl Tryz.underlying2 rfl) fun a E=>pr 3 E rfl fun a E=>?_
   refine st_stRowV (d := k_api_Node) (i := 1) (k := 2) (z' := ({ ({ x17 with Data := x12.Data } : S_api_Node) with Version := IntKind.i64.wrap ((({ x17 with Data := x12.Data } : S_api_Node).Version) + 1) } : S_api_Node)) E H k_api_Node_flat (wn rfl) rfl hx21 rfl rfl rfl rfl rfl rfl (idx_setS hx18) rfl rfl sz2 fun w H=>nt<|wp_region_lit<|pr 4 E rfl fun a E=>sv E rfl rfl rfl (x_ldRowV (d := k_api_Node) (i := 1) (k := 2) E H k_api_Node_flat hx21 rfl rfl rfl (idx_setS (idx_setS hx18)) rfl Tryz.underlying2 rfl) fun a E=>pr 3 E rfl fun a E=>st_st (i := 0) E H (wn rfl) rfl (us := [.int .i64 (({ ({ x17 with Data := x12.Data } : S_api_Node) with Version := IntKind.i64.wrap ((({ x17 with Data := x12.Data } : S_api_Node).Version) + 1) } : S_api_Node).Version)]) rfl rfl rfl rfl rfl sz2 rfl rfl fun w H=>wpList_nil<|q_blk<|?_
   refine out0 E rfl<|have H:=H.drop 4;?_
   cases hm
   exact ⟨v16, rfl, H.reads (fun r hr => hr)⟩

def m_part_in (x1 : S_api_Part) : Option (Int × ByteArray × ByteArray × ByteArray × Int × Int × Bool) :=
  some (x1.Kind, x1.Dir, x1.Path, x1.Data, x1.Version, x1.Owner, x1.Turns)
theorem c_part_in {w : World} {Fo : List Ob} {rs : List Rp} (x1 : S_api_Part) (H : Sep w (Fo) rs) {r : Int × ByteArray × ByteArray × ByteArray × Int × Int × Bool} (hm : m_part_in x1 = some r) :
    Calls Tryz.prog 137 [.agg (l_api_Part x1).toArray].toArray w (Ret fun v w' => ∃ (p5001 : Nat), .func (.func 162) #[] #[pt p5001 0] = v ∧ Sep w' (Blk p5001 62 [.int .i64 r.1, .string r.2.1, .string r.2.2.1, .string r.2.2.2.1, .int .i64 r.2.2.2.2.1, .int .i64 r.2.2.2.2.2.1, .bool r.2.2.2.2.2.2] :: Fo) (rs)) := by
 unfold m_part_in at hm
 refine enter Tryz.func137 rfl Tryz.ntmps137 rfl fun a E =>?_
 simp only [enum, Nat.reduceAdd] at E
 refine sq<|st_box E H (wn rfl) rfl rfl (cs := (l_api_Part x1)) rfl rfl rfl fun p2 w a H E=>pr 1 E rfl fun a E=>nx<|sv E rfl rfl rfl (x_func E rfl rfl rfl) fun a E=>pr 1 E rfl fun a E=>nt<|wp_ret<|out1 E rfl rfl<|?_
 cases hm
 exact ⟨p2, rfl, H.reads (fun r hr => hr)⟩

def m_part_in_1 (x1 : S_api_Node) (x3 : Int) (s4 : ByteArray) (s5 : ByteArray) (s6 : ByteArray) (x7 : Int) (x8 : Int) (b9 : Bool) : Option Bool :=
  (m_path_Parent x1.Path).bind fun u11 => if u11.2 = true then (some (sEq u11.1 s5)) else (some (false))
theorem c_part_in_1 {w : World} {Fo : List Ob} {rs : List Rp} (x1 : S_api_Node) (p2 : Nat) (x3 : Int) (s4 : ByteArray) (s5 : ByteArray) (s6 : ByteArray) (x7 : Int) (x8 : Int) (b9 : Bool) (H : Sep w (Blk p2 62 [.int .i64 x3, .string s4, .string s5, .string s6, .int .i64 x7, .int .i64 x8, .bool b9] :: Fo) rs) {r : Bool} (hm : m_part_in_1 x1 x3 s4 s5 s6 x7 x8 b9 = some r) :
    Calls Tryz.prog 162 [.agg (l_api_Node x1).toArray, pt p2 0].toArray w (Ret fun v w' => .bool r = v ∧ Sep w' (Blk p2 62 [.int .i64 x3, .string s4, .string s5, .string s6, .int .i64 x7, .int .i64 x8, .bool b9] :: Fo) (rs)) := by
 unfold m_part_in_1 at hm
 refine enter Tryz.func162 rfl Tryz.ntmps162 rfl fun a E =>?_
 simp only [enum, Nat.reduceAdd] at E
 refine sq<|st_box E H (wn rfl) rfl rfl (cs := (l_api_Node x1)) rfl rfl rfl fun p10 w a H E=>pr 1 E rfl fun a E=>nx<|pr 1 E rfl fun a E=>lb E H 0 rfl rfl rfl rfl rfl rfl rfl Tryz.underlying9 rfl fun a E=>bd hm fun u11 hx12 hm=>x_cl E rfl rfl rfl rfl rfl cf111 (c_path_Parent x1.Path H hx12)<|?_
 rintro _ w ⟨rfl, H⟩ a E
 refine pr 5 E rfl fun a E=>nx<|pr 2 E rfl fun a E=>cs hm (fun hb13 hm=>?_) fun hb13 hm=>?_
 ·refine pk 2 E (kc 13 rfl hb13) rfl fun a E=>st_val E (ws' (d := 13) E rfl rfl rfl rfl hb13) rfl rfl (x_ldB (i := 1) E H rfl rfl rfl rfl Tryz.underlying9 rfl) fun a E=>pk 3 E (kc 13 rfl hb13) rfl fun a E=>nt<|wp_ret<|out1 E rfl rfl<|have H:=H.drop 0;?_
  cases hm
  exact ⟨rfl, H.reads (fun r hr => hr)⟩
 ·refine pk 6 E (kc 13 rfl hb13) rfl fun a E=>nt<|wp_ret<|out1 E rfl rfl<|have H:=H.drop 0;?_
  cases hm
  exact ⟨rfl, H.reads (fun r hr => hr)⟩

def m_part_work_clear_1_j2 (b32 : Bool) (l36 : (List ByteArray)) : Option (Bool × (List ByteArray)) :=
  some (b32, l36)
def m_part_work_clear_1_j1 (x1 : S_api_Node) (l30 : List ByteArray) (b32 : Bool) : Option (Bool × (List ByteArray)) :=
  if b32 = true then ((m_path_Last x1.Path).bind fun u39 => (ck (l30.length + ([u39] : List ByteArray).length ≤ LIM)).bind fun u43 => m_part_work_clear_1_j2 b32 (l30 ++ ([u39] : List ByteArray))) else (m_part_work_clear_1_j2 b32 l30)
def m_part_work_clear_1 (x1 : S_api_Node) (x3 : Int) (s4 : ByteArray) (s5 : ByteArray) (s6 : ByteArray) (x7 : Int) (x8 : Int) (b9 : Bool) (x12 : Int) (s13 : ByteArray) (s14 : ByteArray) (s15 : ByteArray) (x16 : Int) (x17 : Int) (b18 : Bool) (l22 : List S_api_Node) (l24 : List S_api_Turn) (x25 : Int) (s26 : ByteArray) (s27 : ByteArray) (x28 : Int) (l30 : List ByteArray) : Option (Bool × (List ByteArray)) :=
  if (x1.Owner == x8) = true then ((m_part_in_1 x1 x12 s13 s14 s15 x16 x17 b18).bind fun u48 => m_part_work_clear_1_j1 x1 l30 u48) else (m_part_work_clear_1_j1 x1 l30 false)
theorem c_part_work_clear_1 {w : World} {Fo : List Ob} {rs : List Rp} (x1 : S_api_Node) (p2 : Nat) (x3 : Int) (s4 : ByteArray) (s5 : ByteArray) (s6 : ByteArray) (x7 : Int) (x8 : Int) (b9 : Bool) (p10 : Nat) (p11 : Nat) (x12 : Int) (s13 : ByteArray) (s14 : ByteArray) (s15 : ByteArray) (x16 : Int) (x17 : Int) (b18 : Bool) (p19 : Nat) (p20 : Nat) (v21 : Value) (l22 : List S_api_Node) (v23 : Value) (l24 : List S_api_Turn) (x25 : Int) (s26 : ByteArray) (s27 : ByteArray) (x28 : Int) (v29 : Value) (l30 : List ByteArray) (H : Sep w (Blk p2 62 [.int .i64 x3, .string s4, .string s5, .string s6, .int .i64 x7, .int .i64 x8, .bool b9] :: Blk p10 109 [.func (.func 162) #[] #[pt p11 0]] :: Blk p11 62 [.int .i64 x12, .string s13, .string s14, .string s15, .int .i64 x16, .int .i64 x17, .bool b18] :: Blk p19 100 [pt p20 0] :: Blk p20 105 [v21, v23, .int .i64 x25, .string s26, .string s27, .int .i64 x28, v29] :: Row 80 k_api_Node v21 l22 :: Row 83 k_api_Turn v23 l24 :: Row 9 kS v29 l30 :: Fo) rs) {r : Bool × (List ByteArray)} (hm : m_part_work_clear_1 x1 x3 s4 s5 s6 x7 x8 b9 x12 s13 s14 s15 x16 x17 b18 l22 l24 x25 s26 s27 x28 l30 = some r) :
    Calls Tryz.prog 139 [.agg (l_api_Node x1).toArray, pt p2 0, pt p10 0, pt p19 0].toArray w (Ret fun v w' => ∃ (v5002 : Value), .bool r.1 = v ∧ Sep w' (Blk p2 62 [.int .i64 x3, .string s4, .string s5, .string s6, .int .i64 x7, .int .i64 x8, .bool b9] :: Blk p10 109 [.func (.func 162) #[] #[pt p11 0]] :: Blk p11 62 [.int .i64 x12, .string s13, .string s14, .string s15, .int .i64 x16, .int .i64 x17, .bool b18] :: Blk p19 100 [pt p20 0] :: Blk p20 105 [v21, v23, .int .i64 x25, .string s26, .string s27, .int .i64 x28, v5002] :: Row 80 k_api_Node v21 l22 :: Row 83 k_api_Turn v23 l24 :: Row 9 kS v5002 r.2 :: Fo) (rs)) := by
 unfold m_part_work_clear_1 at hm
 refine enter Tryz.func139 rfl Tryz.ntmps139 rfl fun a E =>?_
 simp only [enum, Nat.reduceAdd] at E
 refine sq<|st_box E H (wn rfl) rfl rfl (cs := (l_api_Node x1)) rfl rfl rfl fun p31 w a H E=>pr 1 E rfl fun a E=>nt<|wp_seq_cut (fun a w => ∃ (b32 : Bool) (rs33 : List Rp), Env 33 a [(3, pt p19 0), (4, pt p31 0), (6, .bool b32)] ∧ Sep w (Blk p19 100 [pt p20 0] :: Blk p31 80 (l_api_Node x1) :: Blk p2 62 [.int .i64 x3, .string s4, .string s5, .string s6, .int .i64 x7, .int .i64 x8, .bool b9] :: Blk p10 109 [.func (.func 162) #[] #[pt p11 0]] :: Blk p11 62 [.int .i64 x12, .string s13, .string s14, .string s15, .int .i64 x16, .int .i64 x17, .bool b18] :: Blk p20 105 [v21, v23, .int .i64 x25, .string s26, .string s27, .int .i64 x28, v29] :: Row 80 k_api_Node v21 l22 :: Row 83 k_api_Turn v23 l24 :: Row 9 kS v29 l30 :: Fo) rs33 ∧ (∀ r, r ∈ rs → r ∈ rs33) ∧ m_part_work_clear_1_j1 x1 l30 b32 = some r) ?_ ?_
 ·refine wp_region_lit<|pr 1 E rfl fun a E=>lb E H 0 rfl rfl rfl rfl rfl rfl rfl Tryz.underlying2 rfl fun a E=>pr 1 E rfl fun a E=>lb E H 1 rfl rfl rfl rfl rfl rfl rfl Tryz.underlying2 rfl fun a E=>pr 2 E rfl fun a E=>cs hm (fun hb47 hm=>?_) fun hb47 hm=>?_
  ·refine st_val E (ws' (d := 12) E rfl rfl rfl rfl hb47) rfl rfl (x_ldB (i := 2) E H rfl rfl rfl rfl Tryz.underlying109 rfl) fun a E=>st_val E (ws' (d := 12) E rfl rfl rfl rfl hb47) rfl rfl (x_ldBN (i := 0) (us := (l_api_Node x1)) E H rfl rfl rfl rfl Tryz.underlying80 rfl sz80) fun a E=>have H:=H.front 8 rfl;have H:=H.front 8 rfl;have H:=H.front 8 rfl;have H:=H.front 8 rfl;have H:=H.front 8 rfl;have H:=H.front 7 rfl;have H:=H.front 7 rfl;?_
   refine have H:=H.front 7 rfl;have H:=H.front 8 rfl;bd hm fun u48 hx49 hm=>st_call E (ws' (d := 12) E rfl rfl rfl rfl hb47) rfl rfl (x_callv E rfl rfl rfl (cf162 _)) (c_part_in_1 x1 p11 x12 s13 s14 s15 x16 x17 b18 H hx49)<|?_
   rintro _ w ⟨rfl, H⟩ a E
   refine pk 2 E (kc 12 rfl hb47) rfl fun a E=>nt<|have H:=H.front 8 rfl;have H:=H.front 8 rfl;have H:=H.front 8 rfl;have H:=H.front 8 rfl;have H:=H.front 4 rfl;have H:=H.front 7 rfl;have H:=H.front 7 rfl;?_
   exact have H:=H.front 7 rfl;have H:=H.front 8 rfl;⟨u48, _, E.sel [3, 4, 6] rfl, H, fun r hr => hr, hm⟩
  ·refine pk 5 E (kc 12 rfl hb47) rfl fun a E=>nt<|have H:=H.front 8 rfl;have H:=H.front 8 rfl;have H:=H.front 8 rfl;have H:=H.front 8 rfl;have H:=H.front 7 rfl;have H:=H.front 7 rfl;have H:=H.front 7 rfl;?_
   exact have H:=H.front 7 rfl;have H:=H.front 8 rfl;⟨false, _, E.sel [3, 4, 6] rfl, H, fun r hr => hr, hm⟩
 ·clear E H hm
  rintro a w ⟨b32, rs33, E, H, hs34, hm⟩
  unfold m_part_work_clear_1_j1 at hm
  refine wp_seq_cut (fun a w => ∃ (v35 : Value) (l36 : (List ByteArray)) (rs37 : List Rp), Env 33 a [(6, .bool b32)] ∧ Sep w (Blk p2 62 [.int .i64 x3, .string s4, .string s5, .string s6, .int .i64 x7, .int .i64 x8, .bool b9] :: Blk p10 109 [.func (.func 162) #[] #[pt p11 0]] :: Blk p11 62 [.int .i64 x12, .string s13, .string s14, .string s15, .int .i64 x16, .int .i64 x17, .bool b18] :: Blk p19 100 [pt p20 0] :: Blk p20 105 [v21, v23, .int .i64 x25, .string s26, .string s27, .int .i64 x28, v35] :: Row 80 k_api_Node v21 l22 :: Row 83 k_api_Turn v23 l24 :: Row 9 kS v35 l36 :: Fo) rs37 ∧ (∀ r, r ∈ rs → r ∈ rs37) ∧ m_part_work_clear_1_j2 b32 l36 = some r) ?_ ?_
  ·refine sq<|pr 1 E rfl fun a E=>nt<|wif E hm rfl (fun hm=>?_) fun hm=>?_
   ·refine dw [(0, 0), (1, 0), (2, 0), (3, 0), (4, 0), (5, 0), (6, 0), (7, 0), (8, 1), (9, 1), (10, 1), (11, 2), (12, 2), (13, 2), (14, 2)] [0, 1, 5] [] H (by kernel_rfl) (fun _ _ _ h => False.elim h.2) fun w W0 hI H=>fb E rfl (wn rfl) rfl rfl rfl rfl m0 rfl Tryz.underlying100 rfl fun a E=>fb E rfl (wn rfl) rfl rfl rfl rfl m0 rfl Tryz.underlying100 rfl fun a E=>fn 3 E rfl fun a E=>fb E rfl (wn rfl) rfl rfl rfl rfl mm2 rfl Tryz.underlying49 rfl fun a E=>fn 1 E rfl fun a E=>fb E rfl (wn rfl) rfl rfl rfl rfl mm1 rfl Tryz.underlying9 rfl fun a E=>fr_op rfl<|bd hm fun u39 hx40 hm=>?_
    refine x_cl E rfl rfl rfl rfl rfl cf119 (c_path_Last x1.Path H hx40)<|?_
    rintro _ w ⟨rfl, H⟩ a E
    refine nt<|?_
    refine ⟨⟨_, _, H, (subO_cons m0 (subO_cons mm1 (subO_cons mm5 (subO_nil)))), (sub_nil)⟩, ?_⟩
    refine fr_op rfl<|st_bsR (e := 9) (d := kS) (cs := [.string u39]) (xs := [u39]) E H (wn rfl) rfl rfl rfl (E.evs rfl) (by kernel_rfl) rfl (fun ok hr => (Rows.single (d := kS) (cs := [.string u39]) (x := u39) rfl)) fun v41 w a H E=>nt<|?_
    refine ⟨⟨_, _, H, (subO_cons m0 (subO_cons mm1 (subO_cons mm5 (subO_nil)))), (sub_nil)⟩, ?_⟩
    refine fr_op rfl<|bk hm fun hx44 hm=>st_append (i := 8) E H (wn rfl) rfl rfl rfl rfl rfl rfl (src_rd m0) Tryz.underlying49 inf9 rfl hx44 rfl fun v42 w a H E=>nt<|?_
    refine ⟨⟨_, _, H, (subO_cons m0 (subO_cons mm1 (subO_cons mm5 (subO_nil)))), (sub_nil)⟩, ?_⟩
    refine fr_tail rfl<|pr 1 E rfl fun a E=>nt<|fr_tail rfl<|pr 1 E rfl fun a E=>nt<|fr_tail rfl<|pr 1 E rfl fun a E=>nt<|?_
    refine fr_tail rfl<|?_
    obtain ⟨q45, x46, rfl⟩ := H.rowform (i := 8) rfl
    refine st_st (i := 5) E H (wn rfl) rfl (us := [(.slice q45 (l30 ++ ([u39] : List ByteArray)).length x46)]) rfl rfl rfl rfl rfl sz49 rfl rfl fun w H=>nt<|fr_nil<|?_
    clear hI
    refine q_then<|have H:=H.drop 1;have H:=H.front 7 rfl;have H:=H.front 7 rfl;have H:=H.front 7 rfl;have H:=H.front 7 rfl;have H:=H.front 4 rfl;have H:=H.front 7 rfl;have H:=H.front 7 rfl;?_
    exact have H:=H.front 7 rfl;⟨(.slice q45 (l30 ++ ([u39] : List ByteArray)).length x46), l30 ++ ([u39] : List ByteArray), _, E.sel [6] rfl, H, fun r hr => (t1 (hs34 r hr)), hm⟩
   ·refine wp_skip<|q_then<|have H:=H.drop 1;have H:=H.front 7 rfl;have H:=H.front 7 rfl;have H:=H.front 7 rfl;have H:=H.front 7 rfl;have H:=H.front 4 rfl;have H:=H.front 7 rfl;?_
    exact have H:=H.front 7 rfl;have H:=H.front 7 rfl;⟨v29, l30, _, E.sel [6] rfl, H, hs34, hm⟩
  ·clear E H hm
   rintro a w ⟨v35, l36, rs37, E, H, hs38, hm⟩
   unfold m_part_work_clear_1_j2 at hm
   refine sq<|pr 2 E rfl fun a E=>nt<|wp_ret<|out1 E rfl rfl<|?_
   cases hm
   exact ⟨v35, rfl, H.reads (hs38)⟩

def m_slices_IndexFunc_api_Node_api_Node_3_l1 (l2 : List S_api_Node) (x4 : Int) (s5 : ByteArray) (s6 : ByteArray) (s7 : ByteArray) (x8 : Int) (x9 : Int) (b10 : Bool) (x13 : Int) (s14 : ByteArray) (s15 : ByteArray) (s16 : ByteArray) (x17 : Int) (x18 : Int) (b19 : Bool) (l23 : List S_api_Turn) (x24 : Int) (s25 : ByteArray) (s26 : ByteArray) (x27 : Int) : Nat → Int → (List ByteArray) → Option (Int × (List ByteArray))
  | 0, _, _ => none
  | k1 + 1, x30, l32 =>
    if (decide (x30 < (l2.length : Int))) = true then ((idx l2 x30).bind fun x35 => (m_part_work_clear_1 x35 x4 s5 s6 s7 x8 x9 b10 x13 s14 s15 s16 x17 x18 b19 l2 l23 x24 s25 s26 x27 l32).bind fun u40 => if u40.1 = true then (some (x30, u40.2)) else (m_slices_IndexFunc_api_Node_api_Node_3_l1 l2 x4 s5 s6 s7 x8 x9 b10 x13 s14 s15 s16 x17 x18 b19 l23 x24 s25 s26 x27 k1 (IntKind.i64.wrap (x30 + 1)) u40.2)) else (some ((-1), l32))
def m_slices_IndexFunc_api_Node_api_Node_3 (l2 : List S_api_Node) (x4 : Int) (s5 : ByteArray) (s6 : ByteArray) (s7 : ByteArray) (x8 : Int) (x9 : Int) (b10 : Bool) (x13 : Int) (s14 : ByteArray) (s15 : ByteArray) (s16 : ByteArray) (x17 : Int) (x18 : Int) (b19 : Bool) (l23 : List S_api_Turn) (x24 : Int) (s25 : ByteArray) (s26 : ByteArray) (x27 : Int) (l29 : List ByteArray) : Option (Int × (List ByteArray)) :=
  m_slices_IndexFunc_api_Node_api_Node_3_l1 l2 x4 s5 s6 s7 x8 x9 b10 x13 s14 s15 s16 x17 x18 b19 l23 x24 s25 s26 x27 (((l2.length : Int) - 0 : Int).toNat + 1) 0 l29
theorem c_slices_IndexFunc_api_Node_api_Node_3 {w : World} {Fo : List Ob} {rs : List Rp} (v1 : Value) (l2 : List S_api_Node) (p3 : Nat) (x4 : Int) (s5 : ByteArray) (s6 : ByteArray) (s7 : ByteArray) (x8 : Int) (x9 : Int) (b10 : Bool) (p11 : Nat) (p12 : Nat) (x13 : Int) (s14 : ByteArray) (s15 : ByteArray) (s16 : ByteArray) (x17 : Int) (x18 : Int) (b19 : Bool) (p20 : Nat) (p21 : Nat) (v22 : Value) (l23 : List S_api_Turn) (x24 : Int) (s25 : ByteArray) (s26 : ByteArray) (x27 : Int) (v28 : Value) (l29 : List ByteArray) (H : Sep w (Row 80 k_api_Node v1 l2 :: Blk p3 62 [.int .i64 x4, .string s5, .string s6, .string s7, .int .i64 x8, .int .i64 x9, .bool b10] :: Blk p11 109 [.func (.func 162) #[] #[pt p12 0]] :: Blk p12 62 [.int .i64 x13, .string s14, .string s15, .string s16, .int .i64 x17, .int .i64 x18, .bool b19] :: Blk p20 100 [pt p21 0] :: Blk p21 105 [v1, v22, .int .i64 x24, .string s25, .string s26, .int .i64 x27, v28] :: Row 83 k_api_Turn v22 l23 :: Row 9 kS v28 l29 :: Fo) rs) {r : Int × (List ByteArray)} (hm : m_slices_IndexFunc_api_Node_api_Node_3 l2 x4 s5 s6 s7 x8 x9 b10 x13 s14 s15 s16 x17 x18 b19 l23 x24 s25 s26 x27 l29 = some r) :
    Calls Tryz.prog 143 [v1, .func (.func 139) #[] #[pt p3 0, pt p11 0, pt p20 0]].toArray w (Ret fun v w' => ∃ (v5002 : Value), .int .i64 r.1 = v ∧ Sep w' (Blk p3 62 [.int .i64 x4, .string s5, .string s6, .string s7, .int .i64 x8, .int .i64 x9, .bool b10] :: Blk p11 109 [.func (.func 162) #[] #[pt p12 0]] :: Blk p12 62 [.int .i64 x13, .string s14, .string s15, .string s16, .int .i64 x17, .int .i64 x18, .bool b19] :: Blk p20 100 [pt p21 0] :: Blk p21 105 [v1, v22, .int .i64 x24, .string s25, .string s26, .int .i64 x27, v5002] :: Row 80 k_api_Node v1 l2 :: Row 83 k_api_Turn v22 l23 :: Row 9 kS v5002 r.2 :: Fo) (rs)) := by
 unfold m_slices_IndexFunc_api_Node_api_Node_3 at hm
 refine enter Tryz.func143 rfl Tryz.ntmps143 rfl fun a E =>?_
 simp only [enum, Nat.reduceAdd] at E
 refine sq<|pr 1 E rfl fun a E=>nt<|wp_seq<|sq<|pr 1 E rfl fun a E=>sv E rfl rfl rfl (x_lenR (i := 0) E H rfl rfl rfl Tryz.underlying22) fun a E=>pr 1 E rfl fun a E=>nt<|?_
 refine wp_block<|wp_loop_g (fun k1 a w => ∃ (v31 : Value) (x30 : Int) (l32 : (List ByteArray)) (rs33 : List Rp), Env 19 a [(0, v1), (1, .func (.func 139) #[] #[pt p3 0, pt p11 0, pt p20 0]), (7, .int .i64 (l2.length : Int)), (8, .int .i64 x30)] ∧ Sep w (Row 80 k_api_Node v1 l2 :: Blk p3 62 [.int .i64 x4, .string s5, .string s6, .string s7, .int .i64 x8, .int .i64 x9, .bool b10] :: Blk p11 109 [.func (.func 162) #[] #[pt p12 0]] :: Blk p20 100 [pt p21 0] :: Blk p12 62 [.int .i64 x13, .string s14, .string s15, .string s16, .int .i64 x17, .int .i64 x18, .bool b19] :: Blk p21 105 [v1, v22, .int .i64 x24, .string s25, .string s26, .int .i64 x27, v31] :: Row 83 k_api_Turn v22 l23 :: Row 9 kS v31 l32 :: Fo) rs33 ∧ (∀ r, r ∈ rs → r ∈ rs33) ∧ m_slices_IndexFunc_api_Node_api_Node_3_l1 l2 x4 s5 s6 s7 x8 x9 b10 x13 s14 s15 s16 x17 x18 b19 l23 x24 s25 s26 x27 k1 x30 l32 = some r) (((l2.length : Int) - 0 : Int).toNat + 1) ?_ ?_
 ·exact have H:=H.front 7 rfl;have H:=H.front 7 rfl;have H:=H.front 7 rfl;have H:=H.front 6 rfl;have H:=H.front 7 rfl;have H:=H.front 7 rfl;have H:=H.front 7 rfl;have H:=H.front 7 rfl;⟨v28, 0, l29, _, E.sel [0, 1, 7, 8] rfl, H, fun r hr => hr, hm⟩
 ·clear E H hm
  rintro k1 a w ⟨v31, x30, l32, rs33, E, H, hs34, hm⟩
  cases k1 with
  | zero => exact (none_some hm rfl).elim
  | succ k1 =>
   unfold m_slices_IndexFunc_api_Node_api_Node_3_l1 at hm
   refine sq<|pr 1 E rfl fun a E=>nt<|wp_seq<|wif E hm rfl (fun hm=>?_) fun hm=>?_
   ·refine wp_skip<|q_then<|wp_seq<|wp_block<|sq<|pr 2 E rfl fun a E=>nx<|pr 3 E rfl fun a E=>bd hm fun x35 hx36 hm=>?_
    obtain ⟨p37, x38, hx39⟩ := H.rowformNE (i := 0) rfl hx36
    refine sv E rfl rfl rfl (x_ixRowV (d := k_api_Node) E hx39 rfl rfl rfl rfl Tryz.underlying22 sz80 hx36) fun a E=>sv E rfl rfl rfl (x_ldRowNV (i := 0) E H k_api_Node_flat hx39 rfl rfl rfl hx36 (us := [.string x35.Path, .string x35.Data, .int .i64 x35.Version, .int .i64 x35.Turn, .int .i64 x35.Owner]) rfl Tryz.underlying80 rfl sz80) fun a E=>have H:=H.front 7 rfl;have H:=H.front 7 rfl;have H:=H.front 2 rfl;have H:=H.front 7 rfl;have H:=H.front 6 rfl;have H:=H.front 7 rfl;have H:=H.front 7 rfl;?_
    refine have H:=H.front 7 rfl;bd hm fun u40 hx41 hm=>st_call E (wn rfl) rfl rfl (x_callv E rfl rfl rfl (cf139 _)) (c_part_work_clear_1 x35 p3 x4 s5 s6 s7 x8 x9 b10 p11 p12 x13 s14 s15 s16 x17 x18 b19 p20 p21 v1 l2 v22 l23 x24 s25 s26 x27 v31 l32 H hx41)<|?_
    rintro _ w ⟨v42, rfl, H⟩ a E
    refine nt<|wif E hm rfl (fun hm=>?_) fun hm=>?_
    ·refine sq<|pr 2 E rfl fun a E=>nt<|wp_ret<|q_blkR<|q_thenR<|q_thenR<|q_blkR<|q_thenR<|?_
     refine out1 E rfl rfl<|?_
     cases hm
     exact ⟨v42, rfl, H.reads (hs34)⟩
    ·refine wp_skip<|q_blk<|q_then<|wp_region_lit<|pr 2 E rfl fun a E=>nt<|have H:=H.front 7 rfl;have H:=H.front 7 rfl;have H:=H.front 6 rfl;?_
     exact have H:=H.front 5 rfl;have H:=H.front 6 rfl;have H:=H.front 6 rfl;have H:=H.front 6 rfl;have H:=H.front 7 rfl;⟨k1, Nat.lt_succ_self k1, v42, IntKind.i64.wrap (x30 + 1), u40.2, _, E.sel [0, 1, 7, 8] rfl, H, hs34, hm⟩
   ·refine wp_exit<|q_thenX<|q_thenX<|q_hit<|q_then<|sq<|pr 1 E rfl fun a E=>nt<|wp_ret<|?_
    refine out1 E rfl rfl<|have H:=H.front 7 rfl;have H:=H.front 7 rfl;have H:=H.front 2 rfl;have H:=H.front 7 rfl;have H:=H.front 6 rfl;have H:=H.front 7 rfl;have H:=H.front 7 rfl;have H:=H.front 7 rfl;?_
    cases hm
    exact ⟨v31, rfl, H.reads (hs34)⟩

end Go.Cb
