/- Functions of the program, walked: each comes to its plain function. -/
import Derived.Test.YtgdfoajophpblaaGreatDoorKpx1
import Derived.Test.YtgdfoajophpblaaGreatDoorM1px
import Derived.Test.YtgdfoajophpblaaGreatDoorM3epx
import Derived.Test.YtgdfoajophpblaaGreatDoorN1px
import Derived.Test.YtgdfoajophpblaaGreatDoorN3epx
import Derived.Test.YtgdfoajophpblaaGreatDoorN4px
import Derived.Test.YtgdfoajophpblaaGreatDoorS1px
set_option linter.unusedVariables false
set_option linter.unusedSimpArgs false
set_option maxRecDepth 20000
set_option maxHeartbeats 1000000
namespace Go.Cb
open Go.Proofs Go.RowKit

def m_slices_DeleteFunc_api_Node_api_Node_1_j1 (rec_1 : (List S_api_Node) → Int → Int → (List ByteArray) → Option ((List S_api_Node) × (List ByteArray))) (x35 : Int) (l40 : (List S_api_Node)) (x41 : Int) (l43 : (List ByteArray)) : Option ((List S_api_Node) × (List ByteArray)) :=
  rec_1 l40 x41 (IntKind.i64.wrap (x35 + 1)) l43
def m_slices_DeleteFunc_api_Node_api_Node_1_l1 (x4 : Int) (s5 : ByteArray) (s6 : ByteArray) (s7 : ByteArray) (x8 : Int) (x9 : Int) (b10 : Bool) (x13 : Int) (s14 : ByteArray) (s15 : ByteArray) (s16 : ByteArray) (x17 : Int) (x18 : Int) (b19 : Bool) (l23 : List S_api_Turn) (x24 : Int) (s25 : ByteArray) (s26 : ByteArray) (x27 : Int) : Nat → (List S_api_Node) → Int → Int → (List ByteArray) → Option ((List S_api_Node) × (List ByteArray))
  | 0, _, _, _, _ => none
  | k1 + 1, l33, x34, x35, l37 =>
    if (decide (x35 < (l33.length : Int))) = true then ((idx l33 x35).bind fun x46 => (m_part_work_clear_1 x46 x4 s5 s6 s7 x8 x9 b10 x13 s14 s15 s16 x17 x18 b19 l33 l23 x24 s25 s26 x27 l37).bind fun u52 => if (!u52.1) = true then ((idx l33 x34).bind fun x55 => m_slices_DeleteFunc_api_Node_api_Node_1_j1 (m_slices_DeleteFunc_api_Node_api_Node_1_l1 x4 s5 s6 s7 x8 x9 b10 x13 s14 s15 s16 x17 x18 b19 l23 x24 s25 s26 x27 k1) x35 (l33.set x34.toNat x46) (IntKind.i64.wrap (x34 + 1)) u52.2) else (m_slices_DeleteFunc_api_Node_api_Node_1_j1 (m_slices_DeleteFunc_api_Node_api_Node_1_l1 x4 s5 s6 s7 x8 x9 b10 x13 s14 s15 s16 x17 x18 b19 l23 x24 s25 s26 x27 k1) x35 l33 x34 u52.2)) else ((ck (0 ≤ x34 ∧ x34 ≤ l33.length)).bind fun u60 => (ck (0 ≤ x34 ∧ x34 ≤ (l33.take x34.toNat ++ List.replicate (l33.length - x34.toNat) (⟨⟨#[]⟩, ⟨#[]⟩, 0, 0, 0⟩ : S_api_Node)).length)).bind fun u62 => some ((l33.take x34.toNat ++ List.replicate (l33.length - x34.toNat) (⟨⟨#[]⟩, ⟨#[]⟩, 0, 0, 0⟩ : S_api_Node)).take x34.toNat, l37))
def m_slices_DeleteFunc_api_Node_api_Node_1 (l2 : List S_api_Node) (x4 : Int) (s5 : ByteArray) (s6 : ByteArray) (s7 : ByteArray) (x8 : Int) (x9 : Int) (b10 : Bool) (x13 : Int) (s14 : ByteArray) (s15 : ByteArray) (s16 : ByteArray) (x17 : Int) (x18 : Int) (b19 : Bool) (l23 : List S_api_Turn) (x24 : Int) (s25 : ByteArray) (s26 : ByteArray) (x27 : Int) (l29 : List ByteArray) : Option ((List S_api_Node) × (List ByteArray)) :=
  (m_slices_IndexFunc_api_Node_api_Node_3 l2 x4 s5 s6 s7 x8 x9 b10 x13 s14 s15 s16 x17 x18 b19 l23 x24 s25 s26 x27 l29).bind fun u30 => if (u30.1 == (-1)) = true then (some (l2, u30.2)) else (m_slices_DeleteFunc_api_Node_api_Node_1_l1 x4 s5 s6 s7 x8 x9 b10 x13 s14 s15 s16 x17 x18 b19 l23 x24 s25 s26 x27 (((l2.length : Int) - (IntKind.i64.wrap (u30.1 + 1)) : Int).toNat + 1) l2 u30.1 (IntKind.i64.wrap (u30.1 + 1)) u30.2)
theorem c_slices_DeleteFunc_api_Node_api_Node_1 {w : World} {Fo : List Ob} {rs : List Rp} (v1 : Value) (l2 : List S_api_Node) (p3 : Nat) (x4 : Int) (s5 : ByteArray) (s6 : ByteArray) (s7 : ByteArray) (x8 : Int) (x9 : Int) (b10 : Bool) (p11 : Nat) (p12 : Nat) (x13 : Int) (s14 : ByteArray) (s15 : ByteArray) (s16 : ByteArray) (x17 : Int) (x18 : Int) (b19 : Bool) (p20 : Nat) (p21 : Nat) (v22 : Value) (l23 : List S_api_Turn) (x24 : Int) (s25 : ByteArray) (s26 : ByteArray) (x27 : Int) (v28 : Value) (l29 : List ByteArray) (H : Sep w (Row 80 k_api_Node v1 l2 :: Blk p3 62 [.int .i64 x4, .string s5, .string s6, .string s7, .int .i64 x8, .int .i64 x9, .bool b10] :: Blk p11 109 [.func (.func 162) #[] #[pt p12 0]] :: Blk p12 62 [.int .i64 x13, .string s14, .string s15, .string s16, .int .i64 x17, .int .i64 x18, .bool b19] :: Blk p20 100 [pt p21 0] :: Blk p21 105 [v1, v22, .int .i64 x24, .string s25, .string s26, .int .i64 x27, v28] :: Row 83 k_api_Turn v22 l23 :: Row 9 kS v28 l29 :: Fo) rs) {r : (List S_api_Node) × (List ByteArray)} (hm : m_slices_DeleteFunc_api_Node_api_Node_1 l2 x4 s5 s6 s7 x8 x9 b10 x13 s14 s15 s16 x17 x18 b19 l23 x24 s25 s26 x27 l29 = some r) :
    Calls Tryz.prog 127 [v1, .func (.func 139) #[] #[pt p3 0, pt p11 0, pt p20 0]].toArray w (Ret fun v w' => ∃ (v5001 : Value) (v5003 : Value), v5001 = v ∧ Sep w' (Row 80 k_api_Node v5001 r.1 :: Blk p3 62 [.int .i64 x4, .string s5, .string s6, .string s7, .int .i64 x8, .int .i64 x9, .bool b10] :: Blk p11 109 [.func (.func 162) #[] #[pt p12 0]] :: Blk p12 62 [.int .i64 x13, .string s14, .string s15, .string s16, .int .i64 x17, .int .i64 x18, .bool b19] :: Blk p20 100 [pt p21 0] :: Blk p21 105 [v1, v22, .int .i64 x24, .string s25, .string s26, .int .i64 x27, v5003] :: Row 83 k_api_Turn v22 l23 :: Row 9 kS v5003 r.2 :: Fo) (rs)) := by
 unfold m_slices_DeleteFunc_api_Node_api_Node_1 at hm
 refine enter Tryz.func127 rfl Tryz.ntmps127 rfl fun a E =>?_
 simp only [enum, Nat.reduceAdd] at E
 refine sq<|pr 1 E rfl fun a E=>nx<|pr 2 E rfl fun a E=>bd hm fun u30 hx31 hm=>x_cl E rfl rfl rfl rfl rfl cf143 (c_slices_IndexFunc_api_Node_api_Node_3 v1 l2 p3 x4 s5 s6 s7 x8 x9 b10 p11 p12 x13 s14 s15 s16 x17 x18 b19 p20 p21 v22 l23 x24 s25 s26 x27 v28 l29 H hx31)<|?_
 rintro _ w ⟨v32, rfl, H⟩ a E
 refine pr 1 E rfl fun a E=>nt<|wp_seq<|sq<|pr 2 E rfl fun a E=>nt<|wif E hm rfl (fun hm=>?_) fun hm=>?_
 ·refine sq<|pr 2 E rfl fun a E=>nt<|wp_ret<|q_thenR<|out1 E rfl rfl<|have H:=H.front 7 rfl;have H:=H.front 7 rfl;have H:=H.front 6 rfl;?_
  refine have H:=H.front 6 rfl;have H:=H.front 6 rfl;have H:=H.front 6 rfl;have H:=H.front 6 rfl;have H:=H.front 7 rfl;?_
  cases hm
  exact ⟨v1, v32, rfl, H.reads (fun r hr => hr)⟩
 ·refine wp_skip<|q_then<|wp_seq<|sq<|pr 3 E rfl fun a E=>nt<|wp_block<|wp_loop_g (fun k1 a w => ∃ (v36 : Value) (l33 : (List S_api_Node)) (x34 : Int) (x35 : Int) (l37 : (List ByteArray)) (rs38 : List Rp), Env 42 a [(0, v1), (1, .func (.func 139) #[] #[pt p3 0, pt p11 0, pt p20 0]), (5, .int .i64 x34), (6, .int .i64 x35)] ∧ Sep w (Row 80 k_api_Node v1 l33 :: Blk p3 62 [.int .i64 x4, .string s5, .string s6, .string s7, .int .i64 x8, .int .i64 x9, .bool b10] :: Blk p11 109 [.func (.func 162) #[] #[pt p12 0]] :: Blk p20 100 [pt p21 0] :: Blk p12 62 [.int .i64 x13, .string s14, .string s15, .string s16, .int .i64 x17, .int .i64 x18, .bool b19] :: Blk p21 105 [v1, v22, .int .i64 x24, .string s25, .string s26, .int .i64 x27, v36] :: Row 83 k_api_Turn v22 l23 :: Row 9 kS v36 l37 :: Fo) rs38 ∧ (∀ r, r ∈ rs → r ∈ rs38) ∧ m_slices_DeleteFunc_api_Node_api_Node_1_l1 x4 s5 s6 s7 x8 x9 b10 x13 s14 s15 s16 x17 x18 b19 l23 x24 s25 s26 x27 k1 l33 x34 x35 l37 = some r) (((l2.length : Int) - (IntKind.i64.wrap (u30.1 + 1)) : Int).toNat + 1) ?_ ?_
  ·exact have H:=H.front 7 rfl;have H:=H.front 7 rfl;have H:=H.front 6 rfl;have H:=H.front 5 rfl;have H:=H.front 6 rfl;have H:=H.front 6 rfl;have H:=H.front 6 rfl;have H:=H.front 7 rfl;⟨v32, l2, u30.1, IntKind.i64.wrap (u30.1 + 1), u30.2, _, E.sel [0, 1, 5, 6] rfl, H, fun r hr => hr, hm⟩
  ·clear E H hm
   rintro k1 a w ⟨v36, l33, x34, x35, l37, rs38, E, H, hs39, hm⟩
   cases k1 with
   | zero => exact (none_some hm rfl).elim
   | succ k1 =>
    unfold m_slices_DeleteFunc_api_Node_api_Node_1_l1 at hm
    refine wp_seq<|sq<|pr 2 E rfl fun a E=>sv E rfl rfl rfl (x_lenR (i := 0) E H rfl rfl rfl Tryz.underlying22) fun a E=>pr 1 E rfl fun a E=>nt<|wif E hm rfl (fun hm=>?_) fun hm=>?_
    ·refine wp_skip<|q_then<|wp_seq_cut (fun a w => ∃ (v42 : Value) (l40 : (List S_api_Node)) (x41 : Int) (l43 : (List ByteArray)) (rs44 : List Rp), Env 42 a [(0, v1), (1, .func (.func 139) #[] #[pt p3 0, pt p11 0, pt p20 0]), (5, .int .i64 x41), (6, .int .i64 x35)] ∧ Sep w (Row 80 k_api_Node v1 l40 :: Blk p3 62 [.int .i64 x4, .string s5, .string s6, .string s7, .int .i64 x8, .int .i64 x9, .bool b10] :: Blk p11 109 [.func (.func 162) #[] #[pt p12 0]] :: Blk p20 100 [pt p21 0] :: Blk p12 62 [.int .i64 x13, .string s14, .string s15, .string s16, .int .i64 x17, .int .i64 x18, .bool b19] :: Blk p21 105 [v1, v22, .int .i64 x24, .string s25, .string s26, .int .i64 x27, v42] :: Row 83 k_api_Turn v22 l23 :: Row 9 kS v42 l43 :: Fo) rs44 ∧ (∀ r, r ∈ rs → r ∈ rs44) ∧ m_slices_DeleteFunc_api_Node_api_Node_1_j1 (m_slices_DeleteFunc_api_Node_api_Node_1_l1 x4 s5 s6 s7 x8 x9 b10 x13 s14 s15 s16 x17 x18 b19 l23 x24 s25 s26 x27 k1) x35 l40 x41 l43 = some r) ?_ ?_
     ·refine wp_block<|sq<|pr 2 E rfl fun a E=>bd hm fun x46 hx47 hm=>?_
      obtain ⟨p48, x49, hx50⟩ := H.rowformNE (i := 0) rfl hx47
      refine sv E rfl rfl rfl (x_ixRowV (d := k_api_Node) E hx50 rfl rfl rfl rfl Tryz.underlying22 sz80 hx47) fun a E=>sv E rfl rfl rfl (x_ldRowNV (i := 0) E H k_api_Node_flat hx50 rfl rfl rfl hx47 (us := [.string x46.Path, .string x46.Data, .int .i64 x46.Version, .int .i64 x46.Turn, .int .i64 x46.Owner]) rfl Tryz.underlying80 rfl sz80) fun a E=>al E H rfl rfl rfl rfl zr80 fun p51 w a H E=>st_st (i := 0) E H (wn rfl) rfl (us := (l_api_Node x46)) rfl rfl rfl rfl rfl sz80 rfl rfl fun w H=>nx<|pr 1 E rfl fun a E=>sv E rfl rfl rfl (x_ldBN (i := 0) (us := (l_api_Node x46)) E H rfl rfl rfl rfl Tryz.underlying80 rfl sz80) fun a E=>have H:=H.front 0 rfl;have H:=H.front 8 rfl;?_
      refine have H:=H.front 8 rfl;have H:=H.front 3 rfl;have H:=H.front 8 rfl;have H:=H.front 7 rfl;have H:=H.front 8 rfl;have H:=H.front 8 rfl;have H:=H.front 8 rfl;bd hm fun u52 hx53 hm=>st_call E (wn rfl) rfl rfl (x_callv E rfl rfl rfl (cf139 _)) (c_part_work_clear_1 x46 p3 x4 s5 s6 s7 x8 x9 b10 p11 p12 x13 s14 s15 s16 x17 x18 b19 p20 p21 v1 l33 v22 l23 x24 s25 s26 x27 v36 l37 H hx53)<|?_
      rintro _ w ⟨v54, rfl, H⟩ a E
      refine pr 1 E rfl fun a E=>nt<|wif E hm rfl (fun hm=>?_) fun hm=>?_
      ·refine sq<|pr 2 E rfl fun a E=>sv E rfl rfl rfl (x_ldBN (i := 8) (us := (l_api_Node x46)) E H rfl rfl rfl rfl Tryz.underlying80 rfl sz80) fun a E=>bd hm fun x55 hx56 hm=>?_
       obtain ⟨p57, x58, hx59⟩ := H.rowformNE (i := 5) rfl hx56
       refine sv E rfl rfl rfl (x_ixRowV (d := k_api_Node) E hx59 rfl rfl rfl rfl Tryz.underlying22 sz80 hx56) fun a E=>st_stRowNV (d := k_api_Node) (i := 5) (us := [.string x46.Path, .string x46.Data, .int .i64 x46.Version, .int .i64 x46.Turn, .int .i64 x46.Owner]) (z' := x46) E H k_api_Node_flat (wn rfl) rfl hx59 rfl rfl rfl rfl rfl rfl rfl hx56 sz80 fun w H=>nt<|wp_region_lit<|pr 3 E rfl fun a E=>wpList_nil<|q_blk<|q_then<|have H:=H.drop 8;?_
       exact have H:=H.front 7 rfl;have H:=H.front 7 rfl;have H:=H.front 6 rfl;have H:=H.front 5 rfl;have H:=H.front 6 rfl;have H:=H.front 6 rfl;have H:=H.front 6 rfl;have H:=H.front 7 rfl;⟨v54, l33.set x34.toNat x46, IntKind.i64.wrap (x34 + 1), u52.2, _, E.sel [0, 1, 5, 6] rfl, H, hs39, hm⟩
      ·refine wp_skip<|q_blk<|q_then<|have H:=H.drop 8;have H:=H.front 7 rfl;have H:=H.front 7 rfl;have H:=H.front 6 rfl;have H:=H.front 5 rfl;have H:=H.front 6 rfl;?_
       exact have H:=H.front 6 rfl;have H:=H.front 6 rfl;have H:=H.front 7 rfl;⟨v54, l33, x34, u52.2, _, E.sel [0, 1, 5, 6] rfl, H, hs39, hm⟩
     ·clear E H hm
      rintro a w ⟨v42, l40, x41, l43, rs44, E, H, hs45, hm⟩
      unfold m_slices_DeleteFunc_api_Node_api_Node_1_j1 at hm
      exact wp_region_lit<|pr 3 E rfl fun a E=>nt<|⟨k1, Nat.lt_succ_self k1, v42, l40, x41, IntKind.i64.wrap (x35 + 1), l43, _, E.sel [0, 1, 5, 6] rfl, H, hs45, hm⟩
    ·refine wp_exit<|q_thenX<|q_thenX<|q_hit<|q_then<|sq<|pr 2 E rfl fun a E=>bk hm fun hx61 hm=>sv E rfl rfl rfl (x_subRow (d := k_api_Node) (i := 0) E H rfl rfl rfl rfl Tryz.underlying22 sz80 hx61) fun a E=>?_
     refine st_clearRow (i := 0) (z0 := (⟨⟨#[]⟩, ⟨#[]⟩, 0, 0, 0⟩ : S_api_Node)) E H k_api_Node_flat (wn rfl) rfl rfl rfl Tryz.underlying22 zrw80 rfl rfl rfl hx61 fun w H=>nx<|pr 2 E rfl fun a E=>bk hm fun hx63 hm=>st_cutRow (i := 0) E H k_api_Node_flat (wn rfl) rfl rfl rfl rfl rfl rfl Tryz.underlying22 sz80 hx63 fun v64 a H E=>pr 1 E rfl fun a E=>nt<|wp_ret<|out1 E rfl rfl<|?_
     refine have H:=H.front 7 rfl;have H:=H.front 7 rfl;have H:=H.front 7 rfl;have H:=H.front 6 rfl;have H:=H.front 7 rfl;have H:=H.front 7 rfl;have H:=H.front 7 rfl;have H:=H.front 7 rfl;?_
     cases hm
     exact ⟨v64, v36, rfl, H.reads (hs39)⟩

def m_part_work_clear (l3 : List S_api_Node) (l5 : List S_api_Turn) (x6 : Int) (s7 : ByteArray) (s8 : ByteArray) (x9 : Int) (l11 : List ByteArray) (x12 : S_api_Part) : Option ((List S_api_Node) × (List ByteArray)) :=
  (m_part_in x12).bind fun u15 => (m_slices_DeleteFunc_api_Node_api_Node_1 l3 x12.Kind x12.Dir x12.Path x12.Data x12.Version x12.Owner x12.Turns u15.1 u15.2.1 u15.2.2.1 u15.2.2.2.1 u15.2.2.2.2.1 u15.2.2.2.2.2.1 u15.2.2.2.2.2.2 l5 x6 s7 s8 x9 l11).bind fun u19 => some (u19.1, u19.2)
theorem c_part_work_clear {w : World} {Fo : List Ob} {rs : List Rp} (p1 : Nat) (v2 : Value) (l3 : List S_api_Node) (v4 : Value) (l5 : List S_api_Turn) (x6 : Int) (s7 : ByteArray) (s8 : ByteArray) (x9 : Int) (v10 : Value) (l11 : List ByteArray) (x12 : S_api_Part) (H : Sep w (Blk p1 105 [v2, v4, .int .i64 x6, .string s7, .string s8, .int .i64 x9, v10] :: Row 80 k_api_Node v2 l3 :: Row 83 k_api_Turn v4 l5 :: Row 9 kS v10 l11 :: Fo) rs) {r : (List S_api_Node) × (List ByteArray)} (hm : m_part_work_clear l3 l5 x6 s7 s8 x9 l11 x12 = some r) :
    Calls Tryz.prog 87 [pt p1 0, .agg (l_api_Part x12).toArray].toArray w (Ret fun v w' => ∃ (v5001 : Value) (v5003 : Value), .tuple #[] = v ∧ Sep w' (Blk p1 105 [v5001, v4, .int .i64 x6, .string s7, .string s8, .int .i64 x9, v5003] :: Row 80 k_api_Node v5001 r.1 :: Row 83 k_api_Turn v4 l5 :: Row 9 kS v5003 r.2 :: Fo) (rs)) := by
 unfold m_part_work_clear at hm
 refine enter Tryz.func87 rfl Tryz.ntmps87 rfl fun a E =>?_
 simp only [enum, Nat.reduceAdd] at E
 refine sq<|st_box E H (wn rfl) rfl rfl (cs := [pt p1 0]) rfl rfl rfl fun p13 w a H E=>st_box E H (wn rfl) rfl rfl (cs := (l_api_Part x12)) rfl rfl rfl fun p14 w a H E=>nx<|sv E rfl rfl rfl (x_ldBN (i := 0) (us := (l_api_Part x12)) E H rfl rfl rfl rfl Tryz.underlying62 rfl sz62) fun a E=>bd hm fun u15 hx16 hm=>x_cl E rfl rfl rfl rfl rfl cf137 (c_part_in x12 H hx16)<|?_
 rintro _ w ⟨p17, rfl, H⟩ a E
 refine al1 E H rfl rfl rfl rfl zr109 rfl fun p18 w a H E=>st_st (i := 0) E H (wn rfl) rfl (us := [.func (.func 162) #[] #[pt p17 0]]) rfl rfl rfl rfl rfl sz109 rfl rfl fun w H=>nt<|dw [(6, 0), (0, 0), (1, 1), (2, 0), (3, 0), (4, 0), (5, 1), (7, 1), (8, 2), (9, 2), (10, 2), (11, 2)] [3] [] H (by kernel_rfl) (fun _ _ _ h => False.elim h.2) fun w W0 hI H=>fr_val E rfl (wn rfl) rfl rfl (fun w hW=>(x_func E rfl rfl rfl)) fun a E=>?_
 refine fb E rfl (wn rfl) rfl rfl rfl rfl m0 rfl Tryz.underlying100 rfl fun a E=>fr_op rfl<|lb E H 3 rfl rfl rfl rfl rfl rfl rfl Tryz.underlying100 rfl fun a E=>nt<|?_
 refine ⟨⟨_, _, H, (subO_cons mm3 (subO_nil)), (sub_nil)⟩, ?_⟩
 refine fn 3 E rfl fun a E=>fr_op rfl<|lb E H 4 rfl rfl rfl rfl rfl rfl rfl Tryz.underlying22 rfl fun a E=>nt<|?_
 refine ⟨⟨_, _, H, (subO_cons mm3 (subO_nil)), (sub_nil)⟩, ?_⟩
 refine fr_op rfl<|have H:=H.front 7 rfl;have H:=H.front 7 rfl;have H:=H.front 6 rfl;have H:=H.front 6 rfl;have H:=H.front 5 rfl;have H:=H.front 5 rfl;have H:=H.front 6 rfl;have H:=H.front 7 rfl;?_
 refine bd hm fun u19 hx20 hm=>x_cl E rfl rfl rfl rfl rfl cf127 (c_slices_DeleteFunc_api_Node_api_Node_1 v2 l3 p14 x12.Kind x12.Dir x12.Path x12.Data x12.Version x12.Owner x12.Turns p18 p17 u15.1 u15.2.1 u15.2.2.1 u15.2.2.2.1 u15.2.2.2.2.1 u15.2.2.2.2.2.1 u15.2.2.2.2.2.2 p13 p1 v4 l5 x6 s7 s8 x9 v10 l11 H hx20)<|?_
 rintro _ w ⟨v21, v22, rfl, H⟩ a E
 refine nt<|?_
 refine ⟨⟨_, _, H, (subO_cons mm4 (subO_nil)), (sub_nil)⟩, ?_⟩
 refine fr_tail rfl<|pr 1 E rfl fun a E=>nt<|fr_tail rfl<|pr 1 E rfl fun a E=>nt<|fr_tail rfl<|pr 1 E rfl fun a E=>nt<|?_
 refine fr_tail rfl<|?_
 obtain ⟨q23, x24, rfl⟩ := H.rowform (i := 0) rfl
 refine st_st (i := 5) E H (wn rfl) rfl (us := [(.slice q23 u19.1.length x24)]) rfl rfl rfl rfl rfl sz22 rfl rfl fun w H=>nt<|fr_nil<|?_
 clear hI
 refine out0 E rfl<|have H:=H.drop 1;have H:=H.drop 1;have H:=H.drop 1;have H:=H.drop 1;have H:=H.front 3 rfl;have H:=H.front 3 rfl;have H:=H.front 2 rfl;have H:=H.front 3 rfl;?_
 cases hm
 exact ⟨(.slice q23 u19.1.length x24), v22, rfl, H.reads (fun r hr => hr)⟩

def m_part_work_empty_1 (x1 : Int) : Option Unit :=
  some ()
theorem c_part_work_empty_1 {w : World} {Fo : List Ob} {rs : List Rp} (x1 : Int) (H : Sep w (Fo) rs) {r : Unit} (hm : m_part_work_empty_1 x1 = some r) :
    Calls Tryz.prog 138 [.int .i64 x1].toArray w (Ret fun v w' => .int .i64 0 = v ∧ Sep w' (Fo) (rs)) := by
 unfold m_part_work_empty_1 at hm
 refine enter Tryz.func138 rfl Tryz.ntmps138 rfl fun a E =>?_
 simp only [enum, Nat.reduceAdd] at E
 refine sq<|pr 1 E rfl fun a E=>nx<|pr 1 E rfl fun a E=>nt<|wp_ret<|out1 E rfl rfl<|?_
 cases hm
 exact ⟨rfl, H.reads (fun r hr => hr)⟩

def m_part_work_turn_1 (x1 : S_api_Turn) (s2 : ByteArray) : Option Int :=
  (m_strings_Compare x1.Dir s2).bind fun u4 => some (u4)
theorem c_part_work_turn_1 {w : World} {Fo : List Ob} {rs : List Rp} (x1 : S_api_Turn) (s2 : ByteArray) (H : Sep w (Fo) rs) {r : Int} (hm : m_part_work_turn_1 x1 s2 = some r) :
    Calls Tryz.prog 157 [.agg #[.string x1.Dir, .int .i64 x1.Next], .string s2].toArray w (Ret fun v w' => .int .i64 r = v ∧ Sep w' (Fo) (rs)) := by
 unfold m_part_work_turn_1 at hm
 refine enter Tryz.func157 rfl Tryz.ntmps157 rfl fun a E =>?_
 simp only [enum, Nat.reduceAdd] at E
 refine sq<|st_box E H (wn rfl) rfl rfl (cs := [.string x1.Dir, .int .i64 x1.Next]) rfl rfl rfl fun p3 w a H E=>pr 1 E rfl fun a E=>nx<|pr 1 E rfl fun a E=>lb E H 0 rfl rfl rfl rfl rfl rfl rfl Tryz.underlying9 rfl fun a E=>pr 1 E rfl fun a E=>bd hm fun u4 hx5 hm=>x_cl E rfl rfl rfl rfl rfl cf108 (c_strings_Compare x1.Dir s2 H hx5)<|?_
 rintro _ w ⟨rfl, H⟩ a E
 refine pr 1 E rfl fun a E=>nt<|wp_ret<|out1 E rfl rfl<|have H:=H.drop 0;?_
 cases hm
 exact ⟨rfl, H.reads (fun r hr => hr)⟩

def m_slices_BinarySearchFunc_api_Turn_api_Turn_string_l1 (l2 : List S_api_Turn) (s3 : ByteArray) : Nat → Int → Int → Option (Int × Bool)
  | 0, _, _ => none
  | k1 + 1, x4, x5 =>
    if (decide (x4 < x5)) = true then ((idx l2 (IntKind.i64.wrap (ishr .u64 (IntKind.u64.wrap (IntKind.i64.wrap (x4 + x5))) 1))).bind fun x8 => (m_part_work_turn_1 x8 s3).bind fun u13 => if (decide (u13 < 0)) = true then (m_slices_BinarySearchFunc_api_Turn_api_Turn_string_l1 l2 s3 k1 (IntKind.i64.wrap ((IntKind.i64.wrap (ishr .u64 (IntKind.u64.wrap (IntKind.i64.wrap (x4 + x5))) 1)) + 1)) x5) else (m_slices_BinarySearchFunc_api_Turn_api_Turn_string_l1 l2 s3 k1 x4 (IntKind.i64.wrap (ishr .u64 (IntKind.u64.wrap (IntKind.i64.wrap (x4 + x5))) 1)))) else (if (decide (x4 < (l2.length : Int))) = true then ((idx l2 x4).bind fun x16 => (m_part_work_turn_1 x16 s3).bind fun u21 => some (x4, u21 == 0)) else (some (x4, false)))
def m_slices_BinarySearchFunc_api_Turn_api_Turn_string (l2 : List S_api_Turn) (s3 : ByteArray) : Option (Int × Bool) :=
  m_slices_BinarySearchFunc_api_Turn_api_Turn_string_l1 l2 s3 (((l2.length : Int) - 0 : Int).toNat + 1) 0 (l2.length : Int)
theorem c_slices_BinarySearchFunc_api_Turn_api_Turn_string {w : World} {Fo : List Ob} {rs : List Rp} (v1 : Value) (l2 : List S_api_Turn) (s3 : ByteArray) (H : Sep w (Row 83 k_api_Turn v1 l2 :: Fo) rs) {r : Int × Bool} (hm : m_slices_BinarySearchFunc_api_Turn_api_Turn_string l2 s3 = some r) :
    Calls Tryz.prog 156 [v1, .string s3, .func (.func 157) #[] #[]].toArray w (Ret fun v w' => .tuple #[.int .i64 r.1, .bool r.2] = v ∧ Sep w' (Row 83 k_api_Turn v1 l2 :: Fo) (rs)) := by
 unfold m_slices_BinarySearchFunc_api_Turn_api_Turn_string at hm
 refine enter Tryz.func156 rfl Tryz.ntmps156 rfl fun a E =>?_
 simp only [enum, Nat.reduceAdd] at E
 refine sq<|pr 2 E rfl fun a E=>nx<|pr 1 E rfl fun a E=>sv E rfl rfl rfl (x_lenR (i := 0) E H rfl rfl rfl Tryz.underlying39) fun a E=>pr 1 E rfl fun a E=>nx<|pr 3 E rfl fun a E=>nt<|?_
 refine wp_seq<|wp_block<|wp_loop_g (fun k1 a w => ∃ (x4 : Int) (x5 : Int) (rs6 : List Rp), Env 49 a [(0, v1), (1, .string s3), (2, .func (.func 157) #[] #[]), (8, .int .i64 (l2.length : Int)), (9, .int .i64 x4), (10, .int .i64 x5)] ∧ Sep w (Row 83 k_api_Turn v1 l2 :: Fo) rs6 ∧ (∀ r, r ∈ rs → r ∈ rs6) ∧ m_slices_BinarySearchFunc_api_Turn_api_Turn_string_l1 l2 s3 k1 x4 x5 = some r) (((l2.length : Int) - 0 : Int).toNat + 1) ?_ ?_
 ·exact ⟨0, (l2.length : Int), _, E.sel [0, 1, 2, 8, 9, 10] rfl, H, fun r hr => hr, hm⟩
 ·clear E H hm
  rintro k1 a w ⟨x4, x5, rs6, E, H, hs7, hm⟩
  cases k1 with
  | zero => exact (none_some hm rfl).elim
  | succ k1 =>
   unfold m_slices_BinarySearchFunc_api_Turn_api_Turn_string_l1 at hm
   refine wp_seq<|sq<|pr 3 E rfl fun a E=>nt<|wif E hm rfl (fun hm=>?_) fun hm=>?_
   ·refine wp_skip<|q_then<|wp_block<|sq<|pr 4 E rfl fun a E=>sv E rfl rfl rfl (x_shr E rfl rfl rfl (by decide)) fun a E=>pr 2 E rfl fun a E=>nx<|pr 3 E rfl fun a E=>?_
    refine bd hm fun x8 hx9 hm=>?_
    obtain ⟨p10, x11, hx12⟩ := H.rowformNE (i := 0) rfl hx9
    refine sv E rfl rfl rfl (x_ixRowV (d := k_api_Turn) E hx12 rfl rfl rfl rfl Tryz.underlying39 sz83 hx9) fun a E=>sv E rfl rfl rfl (x_ldRowNV (i := 0) E H k_api_Turn_flat hx12 rfl rfl rfl hx9 (us := [.string x8.Dir, .int .i64 x8.Next]) rfl Tryz.underlying83 rfl sz83) fun a E=>pr 1 E rfl fun a E=>bd hm fun u13 hx14 hm=>st_call E (wn rfl) rfl rfl (x_callv E rfl rfl rfl (cf157 _)) (c_part_work_turn_1 x8 s3 H hx14)<|?_
    rintro _ w ⟨rfl, H⟩ a E
    refine pr 1 E rfl fun a E=>nt<|wif E hm rfl (fun hm=>?_) fun hm=>?_
    ·exact wp_region_lit<|pr 3 E rfl fun a E=>wpList_nil<|q_blk<|q_then<|⟨k1, Nat.lt_succ_self k1, IntKind.i64.wrap ((IntKind.i64.wrap (ishr .u64 (IntKind.u64.wrap (IntKind.i64.wrap (x4 + x5))) 1)) + 1), x5, _, E.sel [0, 1, 2, 8, 9, 10] rfl, H, hs7, hm⟩
    ·exact wp_region_lit<|pr 2 E rfl fun a E=>wpList_nil<|q_blk<|q_then<|⟨k1, Nat.lt_succ_self k1, x4, IntKind.i64.wrap (ishr .u64 (IntKind.u64.wrap (IntKind.i64.wrap (x4 + x5))) 1), _, E.sel [0, 1, 2, 8, 9, 10] rfl, H, hs7, hm⟩
   ·refine wp_exit<|q_thenX<|q_thenX<|q_hit<|q_then<|sq<|pr 5 E rfl fun a E=>cs hm (fun hb15 hm=>?_) fun hb15 hm=>?_
    ·refine pk 3 E (kc 39 rfl hb15) rfl fun a E=>bd hm fun x16 hx17 hm=>?_
     obtain ⟨p18, x19, hx20⟩ := H.rowformNE (i := 0) rfl hx17
     refine st_val E (ws' (d := 39) E rfl rfl rfl rfl hb15) rfl rfl (x_ixRowV (d := k_api_Turn) E hx20 rfl rfl rfl rfl Tryz.underlying39 sz83 hx17) fun a E=>st_val E (ws' (d := 39) E rfl rfl rfl rfl hb15) rfl rfl (x_ldRowNV (i := 0) E H k_api_Turn_flat hx20 rfl rfl rfl hx17 (us := [.string x16.Dir, .int .i64 x16.Next]) rfl Tryz.underlying83 rfl sz83) fun a E=>pk 1 E (kc 39 rfl hb15) rfl fun a E=>bd hm fun u21 hx22 hm=>st_call E (ws' (d := 39) E rfl rfl rfl rfl hb15) rfl rfl (x_callv E rfl rfl rfl (cf157 _)) (c_part_work_turn_1 x16 s3 H hx22)<|?_
     rintro _ w ⟨rfl, H⟩ a E
     refine pk 4 E (kc 39 rfl hb15) rfl fun a E=>nt<|wp_ret<|out2 E rfl rfl rfl<|?_
     cases hm
     exact ⟨rfl, H.reads (hs7)⟩
    ·refine pk 11 E (kc 39 rfl hb15) rfl fun a E=>nt<|wp_ret<|out2 E rfl rfl rfl<|?_
     cases hm
     exact ⟨rfl, H.reads (hs7)⟩

def m_part_work_turn_j2 (x19 : S_api_Turn) (l25 : (List S_api_Turn)) : Option (Int × (List S_api_Turn)) :=
  some (x19.Next, l25)
def m_part_work_turn_j1 (u13 : Int × Bool) (l16 : (List S_api_Turn)) : Option (Int × (List S_api_Turn)) :=
  (idx l16 u13.1).bind fun x19 => (m_part_work_empty_1 x19.Next).bind fun u28 => (idx l16 u13.1).bind fun x30 => (idx (l16.set u13.1.toNat ({ x30 with Next := 0 } : S_api_Turn)) u13.1).bind fun x35 => if (x35.Next == 0) = true then ((ck (0 ≤ u13.1 ∧ u13.1 < (l16.set u13.1.toNat ({ x30 with Next := 0 } : S_api_Turn)).length ∧ IntKind.i64.wrap (u13.1 + 1) = u13.1 + 1)).bind fun u40 => m_part_work_turn_j2 x19 ((l16.set u13.1.toNat ({ x30 with Next := 0 } : S_api_Turn)).eraseIdx u13.1.toNat)) else (m_part_work_turn_j2 x19 (l16.set u13.1.toNat ({ x30 with Next := 0 } : S_api_Turn)))
def m_part_work_turn (l3 : List S_api_Node) (l5 : List S_api_Turn) (x6 : Int) (s7 : ByteArray) (s8 : ByteArray) (x9 : Int) (l11 : List ByteArray) (s12 : ByteArray) : Option (Int × (List S_api_Turn)) :=
  (m_slices_BinarySearchFunc_api_Turn_api_Turn_string l5 s12).bind fun u13 => if (!u13.2) = true then ((ck (0 ≤ u13.1 ∧ u13.1 ≤ l5.length ∧ l5.length ≤ 1000000)).bind fun u46 => m_part_work_turn_j1 u13 (l5.take u13.1.toNat ++ (⟨s12, 0⟩ : S_api_Turn) :: l5.drop u13.1.toNat)) else (m_part_work_turn_j1 u13 l5)
theorem c_part_work_turn {w : World} {Fo : List Ob} {rs : List Rp} (p1 : Nat) (v2 : Value) (l3 : List S_api_Node) (v4 : Value) (l5 : List S_api_Turn) (x6 : Int) (s7 : ByteArray) (s8 : ByteArray) (x9 : Int) (v10 : Value) (l11 : List ByteArray) (s12 : ByteArray) (H : Sep w (Blk p1 105 [v2, v4, .int .i64 x6, .string s7, .string s8, .int .i64 x9, v10] :: Row 80 k_api_Node v2 l3 :: Row 83 k_api_Turn v4 l5 :: Row 9 kS v10 l11 :: Fo) rs) {r : Int × (List S_api_Turn)} (hm : m_part_work_turn l3 l5 x6 s7 s8 x9 l11 s12 = some r) :
    Calls Tryz.prog 133 [pt p1 0, .string s12, .func (.func 138) #[] #[]].toArray w (Ret fun v w' => ∃ (v5002 : Value), .int .i64 r.1 = v ∧ Sep w' (Blk p1 105 [v2, v5002, .int .i64 x6, .string s7, .string s8, .int .i64 x9, v10] :: Row 80 k_api_Node v2 l3 :: Row 83 k_api_Turn v5002 r.2 :: Row 9 kS v10 l11 :: Fo) (rs)) := by
 unfold m_part_work_turn at hm
 refine enter Tryz.func133 rfl Tryz.ntmps133 rfl fun a E =>?_
 simp only [enum, Nat.reduceAdd] at E
 refine sq<|pr 1 E rfl fun a E=>nx<|pr 4 E rfl fun a E=>lb E H 0 rfl rfl rfl rfl rfl rfl rfl Tryz.underlying39 rfl fun a E=>pr 1 E rfl fun a E=>have H:=H.front 3 rfl;have H:=H.front 2 rfl;have H:=H.front 2 rfl;?_
 refine have H:=H.front 3 rfl;bd hm fun u13 hx14 hm=>x_cl E rfl rfl rfl rfl rfl cf156 (c_slices_BinarySearchFunc_api_Turn_api_Turn_string v4 l5 s12 H hx14)<|?_
 rintro _ w ⟨rfl, H⟩ a E
 refine pr 5 E rfl fun a E=>nt<|wp_seq_cut (fun a w => ∃ (v15 : Value) (l16 : (List S_api_Turn)) (rs17 : List Rp), Env 80 a [(0, pt p1 0), (2, .func (.func 138) #[] #[]), (7, .int .i64 u13.1)] ∧ Sep w (Blk p1 105 [v2, v15, .int .i64 x6, .string s7, .string s8, .int .i64 x9, v10] :: Row 80 k_api_Node v2 l3 :: Row 83 k_api_Turn v15 l16 :: Row 9 kS v10 l11 :: Fo) rs17 ∧ (∀ r, r ∈ rs → r ∈ rs17) ∧ m_part_work_turn_j1 u13 l16 = some r) ?_ ?_
 ·refine sq<|pr 2 E rfl fun a E=>nt<|wif E hm rfl (fun hm=>?_) fun hm=>?_
  ·refine wp_region_lit<|pr 5 E rfl fun a E=>lb E H 1 rfl rfl rfl rfl rfl rfl rfl Tryz.underlying39 rfl fun a E=>pr 2 E rfl fun a E=>sv E rfl rfl rfl (x_build E rfl (E.evs rfl) (v := .agg #[.string s12, .int .i64 0]) (by kernel_rfl)) fun a E=>st_bsO (e := 83) (d := k_api_Turn) (cs := [.string s12, .int .i64 0]) (xs := [(⟨s12, 0⟩ : S_api_Turn)]) E H (wn rfl) rfl rfl rfl (E.evs rfl) (by kernel_rfl) rfl rfl (fun ok hr => (Rows.single (d := k_api_Turn) (cs := [.string s12, .int .i64 0]) (x := (⟨s12, 0⟩ : S_api_Turn)) k_api_Turn_mk)) fun v45 w a H E=>bk hm fun hx47 hm=>st_call E (wn rfl) rfl rfl (x_call E rfl rfl (cf158 _)) (Tn.insert_a (ix := 1) (iu := 0) H rfl rfl (by decide) hx47) fun v48 w H a E=>pr 3 E rfl fun a E=>?_
   obtain ⟨q49, x50, rfl⟩ := H.rowform (i := 1) rfl
   exact st_st (i := 2) E H (wn rfl) rfl (us := [(.slice q49 (l5.take u13.1.toNat ++ (⟨s12, 0⟩ : S_api_Turn) :: l5.drop u13.1.toNat).length x50)]) rfl rfl rfl rfl rfl sz39 rfl rfl fun w H=>nt<|have H:=H.drop 0;have H:=H.front 3 rfl;have H:=H.front 1 rfl;have H:=H.front 3 rfl;have H:=H.front 3 rfl;⟨(.slice q49 (l5.take u13.1.toNat ++ (⟨s12, 0⟩ : S_api_Turn) :: l5.drop u13.1.toNat).length x50), l5.take u13.1.toNat ++ (⟨s12, 0⟩ : S_api_Turn) :: l5.drop u13.1.toNat, _, E.sel [0, 2, 7] rfl, H, fun r hr => hr, hm⟩
  ·exact wp_skip<|q_then<|have H:=H.front 3 rfl;have H:=H.front 1 rfl;have H:=H.front 3 rfl;have H:=H.front 3 rfl;⟨v4, l5, _, E.sel [0, 2, 7] rfl, H, fun r hr => hr, hm⟩
 ·clear E H hm
  rintro a w ⟨v15, l16, rs17, E, H, hs18, hm⟩
  unfold m_part_work_turn_j1 at hm
  refine sq<|pr 4 E rfl fun a E=>lb E H 0 rfl rfl rfl rfl rfl rfl rfl Tryz.underlying39 rfl fun a E=>pr 1 E rfl fun a E=>bd hm fun x19 hx20 hm=>?_
  obtain ⟨p21, x22, hx23⟩ := H.rowformNE (i := 2) rfl hx20
  refine sv E rfl rfl rfl (x_ixRowV (d := k_api_Turn) E hx23 rfl rfl rfl rfl Tryz.underlying39 sz83 hx20) fun a E=>pr 1 E rfl fun a E=>sv E rfl rfl rfl (x_ldRowV (d := k_api_Turn) (i := 2) (k := 1) E H k_api_Turn_flat hx23 rfl rfl rfl hx20 rfl Tryz.underlying2 rfl) fun a E=>pr 1 E rfl fun a E=>nt<|wp_seq_cut (fun a w => ∃ (v24 : Value) (l25 : (List S_api_Turn)) (rs26 : List Rp), Env 80 a [(9, .int .i64 x19.Next)] ∧ Sep w (Blk p1 105 [v2, v24, .int .i64 x6, .string s7, .string s8, .int .i64 x9, v10] :: Row 80 k_api_Node v2 l3 :: Row 83 k_api_Turn v24 l25 :: Row 9 kS v10 l11 :: Fo) rs26 ∧ (∀ r, r ∈ rs → r ∈ rs26) ∧ m_part_work_turn_j2 x19 l25 = some r) ?_ ?_
  ·refine wp_seq<|dw [(0, 0), (1, 0), (2, 0), (3, 0), (4, 0), (5, 0), (6, 0), (7, 0), (8, 1), (9, 2), (10, 2), (11, 2)] [0] [] H (by kernel_rfl) (fun _ _ _ h => False.elim h.2) fun w W0 hI H=>fn 4 E rfl fun a E=>fb E rfl (wn rfl) rfl rfl rfl rfl m0 rfl Tryz.underlying39 rfl fun a E=>fn 3 E rfl fun a E=>fr_op rfl<|bd hm fun u28 hx29 hm=>st_call E (wn rfl) rfl rfl (x_callv E rfl rfl rfl (cf138 _)) (c_part_work_empty_1 x19.Next H hx29)<|?_
   rintro _ w ⟨rfl, H⟩ a E
   refine nt<|?_
   refine ⟨⟨_, _, H, (subO_cons m0 (subO_nil)), (sub_nil)⟩, ?_⟩
   refine fr_tail rfl<|bd hm fun x30 hx31 hm=>?_
   obtain ⟨p32, x33, hx34⟩ := H.rowformNE (i := 2) rfl hx31
   refine sv E rfl rfl rfl (x_ixRowV (d := k_api_Turn) E hx34 rfl rfl rfl rfl Tryz.underlying39 sz83 hx31) fun a E=>nt<|fr_tail rfl<|pr 1 E rfl fun a E=>nt<|fr_tail rfl<|st_stRowV (d := k_api_Turn) (i := 2) (k := 1) (z' := ({ x30 with Next := 0 } : S_api_Turn)) E H k_api_Turn_flat (wn rfl) rfl hx34 rfl rfl rfl rfl rfl rfl hx31 rfl rfl sz2 fun w H=>nt<|fr_nil<|?_
   clear hI
   refine q_then<|sq<|pr 4 E rfl fun a E=>lb E H 0 rfl rfl rfl rfl rfl rfl rfl Tryz.underlying39 rfl fun a E=>pr 1 E rfl fun a E=>bd hm fun x35 hx36 hm=>?_
   obtain ⟨p37, x38, hx39⟩ := H.rowformNE (i := 2) rfl hx36
   refine sv E rfl rfl rfl (x_ixRowV (d := k_api_Turn) E hx39 rfl rfl rfl rfl Tryz.underlying39 sz83 hx36) fun a E=>pr 1 E rfl fun a E=>sv E rfl rfl rfl (x_ldRowV (d := k_api_Turn) (i := 2) (k := 1) E H k_api_Turn_flat hx39 rfl rfl rfl hx36 rfl Tryz.underlying2 rfl) fun a E=>pr 1 E rfl fun a E=>nt<|wif E hm rfl (fun hm=>?_) fun hm=>?_
   ·refine wp_region_lit<|pr 5 E rfl fun a E=>lb E H 0 rfl rfl rfl rfl rfl rfl rfl Tryz.underlying39 rfl fun a E=>pr 3 E rfl fun a E=>bk hm fun hx41 hm=>st_call E (wn rfl) rfl rfl (x_call E rfl rfl (cf159 _)) (Tn.delete_c (ix := 2) H rfl hx41) fun v42 w H a E=>pr 3 E rfl fun a E=>?_
    obtain ⟨q43, x44, rfl⟩ := H.rowform (i := 2) rfl
    exact st_st (i := 0) E H (wn rfl) rfl (us := [(.slice q43 ((l16.set u13.1.toNat ({ x30 with Next := 0 } : S_api_Turn)).eraseIdx u13.1.toNat).length x44)]) rfl rfl rfl rfl rfl sz39 rfl rfl fun w H=>nt<|⟨(.slice q43 ((l16.set u13.1.toNat ({ x30 with Next := 0 } : S_api_Turn)).eraseIdx u13.1.toNat).length x44), (l16.set u13.1.toNat ({ x30 with Next := 0 } : S_api_Turn)).eraseIdx u13.1.toNat, _, E.sel [9] rfl, H, hs18, hm⟩
   ·exact wp_skip<|q_then<|⟨v15, l16.set u13.1.toNat ({ x30 with Next := 0 } : S_api_Turn), _, E.sel [9] rfl, H, hs18, hm⟩
  ·clear E H hm
   rintro a w ⟨v24, l25, rs26, E, H, hs27, hm⟩
   unfold m_part_work_turn_j2 at hm
   refine sq<|pr 2 E rfl fun a E=>nt<|wp_ret<|out1 E rfl rfl<|?_
   cases hm
   exact ⟨v24, rfl, H.reads (hs27)⟩

def m_slices_IndexFunc_api_Node_api_Node_4_l1 (l2 : List S_api_Node) (x4 : Int) (s5 : ByteArray) (s6 : ByteArray) (s7 : ByteArray) (x8 : Int) (x9 : Int) (b10 : Bool) : Nat → Int → Option Int
  | 0, _ => none
  | k1 + 1, x11 =>
    if (decide (x11 < (l2.length : Int))) = true then ((idx l2 x11).bind fun x14 => (m_part_in_1 x14 x4 s5 s6 s7 x8 x9 b10).bind fun u19 => if u19 = true then (some (x11)) else (m_slices_IndexFunc_api_Node_api_Node_4_l1 l2 x4 s5 s6 s7 x8 x9 b10 k1 (IntKind.i64.wrap (x11 + 1)))) else (some ((-1)))
def m_slices_IndexFunc_api_Node_api_Node_4 (l2 : List S_api_Node) (x4 : Int) (s5 : ByteArray) (s6 : ByteArray) (s7 : ByteArray) (x8 : Int) (x9 : Int) (b10 : Bool) : Option Int :=
  m_slices_IndexFunc_api_Node_api_Node_4_l1 l2 x4 s5 s6 s7 x8 x9 b10 (((l2.length : Int) - 0 : Int).toNat + 1) 0
theorem c_slices_IndexFunc_api_Node_api_Node_4 {w : World} {Fo : List Ob} {rs : List Rp} (v1 : Value) (l2 : List S_api_Node) (p3 : Nat) (x4 : Int) (s5 : ByteArray) (s6 : ByteArray) (s7 : ByteArray) (x8 : Int) (x9 : Int) (b10 : Bool) (H : Sep w (Row 80 k_api_Node v1 l2 :: Blk p3 62 [.int .i64 x4, .string s5, .string s6, .string s7, .int .i64 x8, .int .i64 x9, .bool b10] :: Fo) rs) {r : Int} (hm : m_slices_IndexFunc_api_Node_api_Node_4 l2 x4 s5 s6 s7 x8 x9 b10 = some r) :
    Calls Tryz.prog 143 [v1, .func (.func 162) #[] #[pt p3 0]].toArray w (Ret fun v w' => .int .i64 r = v ∧ Sep w' (Blk p3 62 [.int .i64 x4, .string s5, .string s6, .string s7, .int .i64 x8, .int .i64 x9, .bool b10] :: Row 80 k_api_Node v1 l2 :: Fo) (rs)) := by
 unfold m_slices_IndexFunc_api_Node_api_Node_4 at hm
 refine enter Tryz.func143 rfl Tryz.ntmps143 rfl fun a E =>?_
 simp only [enum, Nat.reduceAdd] at E
 refine sq<|pr 1 E rfl fun a E=>nt<|wp_seq<|sq<|pr 1 E rfl fun a E=>sv E rfl rfl rfl (x_lenR (i := 0) E H rfl rfl rfl Tryz.underlying22) fun a E=>pr 1 E rfl fun a E=>nt<|?_
 refine wp_block<|wp_loop_g (fun k1 a w => ∃ (x11 : Int) (rs12 : List Rp), Env 19 a [(0, v1), (1, .func (.func 162) #[] #[pt p3 0]), (7, .int .i64 (l2.length : Int)), (8, .int .i64 x11)] ∧ Sep w (Row 80 k_api_Node v1 l2 :: Blk p3 62 [.int .i64 x4, .string s5, .string s6, .string s7, .int .i64 x8, .int .i64 x9, .bool b10] :: Fo) rs12 ∧ (∀ r, r ∈ rs → r ∈ rs12) ∧ m_slices_IndexFunc_api_Node_api_Node_4_l1 l2 x4 s5 s6 s7 x8 x9 b10 k1 x11 = some r) (((l2.length : Int) - 0 : Int).toNat + 1) ?_ ?_
 ·exact ⟨0, _, E.sel [0, 1, 7, 8] rfl, H, fun r hr => hr, hm⟩
 ·clear E H hm
  rintro k1 a w ⟨x11, rs12, E, H, hs13, hm⟩
  cases k1 with
  | zero => exact (none_some hm rfl).elim
  | succ k1 =>
   unfold m_slices_IndexFunc_api_Node_api_Node_4_l1 at hm
   refine sq<|pr 1 E rfl fun a E=>nt<|wp_seq<|wif E hm rfl (fun hm=>?_) fun hm=>?_
   ·refine wp_skip<|q_then<|wp_seq<|wp_block<|sq<|pr 2 E rfl fun a E=>nx<|pr 3 E rfl fun a E=>bd hm fun x14 hx15 hm=>?_
    obtain ⟨p16, x17, hx18⟩ := H.rowformNE (i := 0) rfl hx15
    refine sv E rfl rfl rfl (x_ixRowV (d := k_api_Node) E hx18 rfl rfl rfl rfl Tryz.underlying22 sz80 hx15) fun a E=>sv E rfl rfl rfl (x_ldRowNV (i := 0) E H k_api_Node_flat hx18 rfl rfl rfl hx15 (us := [.string x14.Path, .string x14.Data, .int .i64 x14.Version, .int .i64 x14.Turn, .int .i64 x14.Owner]) rfl Tryz.underlying80 rfl sz80) fun a E=>have H:=H.front 0 rfl;have H:=H.front 1 rfl;bd hm fun u19 hx20 hm=>st_call E (wn rfl) rfl rfl (x_callv E rfl rfl rfl (cf162 _)) (c_part_in_1 x14 p3 x4 s5 s6 s7 x8 x9 b10 H hx20)<|?_
    rintro _ w ⟨rfl, H⟩ a E
    refine nt<|wif E hm rfl (fun hm=>?_) fun hm=>?_
    ·refine sq<|pr 2 E rfl fun a E=>nt<|wp_ret<|q_blkR<|q_thenR<|q_thenR<|q_blkR<|q_thenR<|?_
     refine out1 E rfl rfl<|?_
     cases hm
     exact ⟨rfl, H.reads (hs13)⟩
    ·exact wp_skip<|q_blk<|q_then<|wp_region_lit<|pr 2 E rfl fun a E=>nt<|have H:=H.front 0 rfl;have H:=H.front 1 rfl;⟨k1, Nat.lt_succ_self k1, IntKind.i64.wrap (x11 + 1), _, E.sel [0, 1, 7, 8] rfl, H, hs13, hm⟩
   ·refine wp_exit<|q_thenX<|q_thenX<|q_hit<|q_then<|sq<|pr 1 E rfl fun a E=>nt<|wp_ret<|?_
    refine out1 E rfl rfl<|have H:=H.front 0 rfl;have H:=H.front 1 rfl;?_
    cases hm
    exact ⟨rfl, H.reads (hs13)⟩

def m_slices_ContainsFunc_api_Node_api_Node_2 (l2 : List S_api_Node) (x4 : Int) (s5 : ByteArray) (s6 : ByteArray) (s7 : ByteArray) (x8 : Int) (x9 : Int) (b10 : Bool) : Option Bool :=
  (m_slices_IndexFunc_api_Node_api_Node_4 l2 x4 s5 s6 s7 x8 x9 b10).bind fun u11 => some (decide (u11 ≥ 0))
theorem c_slices_ContainsFunc_api_Node_api_Node_2 {w : World} {Fo : List Ob} {rs : List Rp} (v1 : Value) (l2 : List S_api_Node) (p3 : Nat) (x4 : Int) (s5 : ByteArray) (s6 : ByteArray) (s7 : ByteArray) (x8 : Int) (x9 : Int) (b10 : Bool) (H : Sep w (Row 80 k_api_Node v1 l2 :: Blk p3 62 [.int .i64 x4, .string s5, .string s6, .string s7, .int .i64 x8, .int .i64 x9, .bool b10] :: Fo) rs) {r : Bool} (hm : m_slices_ContainsFunc_api_Node_api_Node_2 l2 x4 s5 s6 s7 x8 x9 b10 = some r) :
    Calls Tryz.prog 94 [v1, .func (.func 162) #[] #[pt p3 0]].toArray w (Ret fun v w' => .bool r = v ∧ Sep w' (Blk p3 62 [.int .i64 x4, .string s5, .string s6, .string s7, .int .i64 x8, .int .i64 x9, .bool b10] :: Row 80 k_api_Node v1 l2 :: Fo) (rs)) := by
 unfold m_slices_ContainsFunc_api_Node_api_Node_2 at hm
 refine enter Tryz.func94 rfl Tryz.ntmps94 rfl fun a E =>?_
 simp only [enum, Nat.reduceAdd] at E
 refine sq<|pr 1 E rfl fun a E=>nx<|pr 2 E rfl fun a E=>bd hm fun u11 hx12 hm=>x_cl E rfl rfl rfl rfl rfl cf143 (c_slices_IndexFunc_api_Node_api_Node_4 v1 l2 p3 x4 s5 s6 s7 x8 x9 b10 H hx12)<|?_
 rintro _ w ⟨rfl, H⟩ a E
 refine pr 2 E rfl fun a E=>nt<|wp_ret<|out1 E rfl rfl<|?_
 cases hm
 exact ⟨rfl, H.reads (fun r hr => hr)⟩

def m_part_work_empty (l3 : List S_api_Node) (l5 : List S_api_Turn) (x6 : Int) (s7 : ByteArray) (s8 : ByteArray) (x9 : Int) (l11 : List ByteArray) (x12 : S_api_Part) : Option ((List S_api_Turn) × Int × ByteArray × ByteArray × Int × (List ByteArray)) :=
  (m_part_in x12).bind fun u14 => (m_slices_ContainsFunc_api_Node_api_Node_2 l3 u14.1 u14.2.1 u14.2.2.1 u14.2.2.2.1 u14.2.2.2.2.1 u14.2.2.2.2.2.1 u14.2.2.2.2.2.2).bind fun u17 => if u17 = true then ((m_part_work_fail l3 l5 x6 s7 s8 x9 l11 64).bind fun u19 => some (l5, u19, (ByteArray.mk #[]), (ByteArray.mk #[]), 0, [])) else ((m_part_work_turn l3 l5 x6 s7 s8 x9 l11 x12.Path).bind fun u21 => some (u21.2, x6, s7, s8, x9, l11))
theorem c_part_work_empty {w : World} {Fo : List Ob} {rs : List Rp} (p1 : Nat) (v2 : Value) (l3 : List S_api_Node) (v4 : Value) (l5 : List S_api_Turn) (x6 : Int) (s7 : ByteArray) (s8 : ByteArray) (x9 : Int) (v10 : Value) (l11 : List ByteArray) (x12 : S_api_Part) (H : Sep w (Blk p1 105 [v2, v4, .int .i64 x6, .string s7, .string s8, .int .i64 x9, v10] :: Row 80 k_api_Node v2 l3 :: Row 83 k_api_Turn v4 l5 :: Row 9 kS v10 l11 :: Fo) rs) {r : (List S_api_Turn) × Int × ByteArray × ByteArray × Int × (List ByteArray)} (hm : m_part_work_empty l3 l5 x6 s7 s8 x9 l11 x12 = some r) :
    Calls Tryz.prog 81 [pt p1 0, .agg (l_api_Part x12).toArray].toArray w (Ret fun v w' => ∃ (v5001 : Value) (v5007 : Value), .tuple #[] = v ∧ Sep w' (Blk p1 105 [v2, v5001, .int .i64 r.2.1, .string r.2.2.1, .string r.2.2.2.1, .int .i64 r.2.2.2.2.1, v5007] :: Row 80 k_api_Node v2 l3 :: Row 83 k_api_Turn v5001 r.1 :: Row 9 kS v5007 r.2.2.2.2.2 :: Fo) (rs)) := by
 unfold m_part_work_empty at hm
 refine enter Tryz.func81 rfl Tryz.ntmps81 rfl fun a E =>?_
 simp only [enum, Nat.reduceAdd] at E
 refine sq<|st_box E H (wn rfl) rfl rfl (cs := (l_api_Part x12)) rfl rfl rfl fun p13 w a H E=>nt<|wp_seq<|wp_seq<|dw [(0, 0), (1, 0), (2, 0), (3, 0), (4, 0), (5, 0), (6, 1), (7, 1)] [0, 1] [] H (by kernel_rfl) (fun _ _ _ h => False.elim h.2) fun w W0 hI H=>fn 4 E rfl fun a E=>fb E rfl (wn rfl) rfl rfl rfl rfl mm1 rfl Tryz.underlying22 rfl fun a E=>fbn E (l_api_Part x12) rfl (wn rfl) rfl rfl rfl rfl m0 rfl Tryz.underlying62 rfl sz62 fun a E=>?_
 refine fr_op rfl<|bd hm fun u14 hx15 hm=>x_cl E rfl rfl rfl rfl rfl cf137 (c_part_in x12 H hx15)<|?_
 rintro _ w ⟨p16, rfl, H⟩ a E
 refine nt<|?_
 refine ⟨⟨_, _, H, (subO_cons mm1 (subO_cons mm2 (subO_nil))), (sub_nil)⟩, ?_⟩
 refine fr_op rfl<|have H:=H.front 5 rfl;have H:=H.front 5 rfl;have H:=H.front 4 rfl;have H:=H.front 4 rfl;have H:=H.front 4 rfl;have H:=H.front 5 rfl;bd hm fun u17 hx18 hm=>x_cl E rfl rfl rfl rfl rfl cf94 (c_slices_ContainsFunc_api_Node_api_Node_2 v2 l3 p16 u14.1 u14.2.1 u14.2.2.1 u14.2.2.2.1 u14.2.2.2.2.1 u14.2.2.2.2.2.1 u14.2.2.2.2.2.2 H hx18)<|?_
 rintro _ w ⟨rfl, H⟩ a E
 refine nt<|?_
 refine ⟨⟨_, _, H, (subO_cons mm2 (subO_cons mm3 (subO_nil))), (sub_nil)⟩, ?_⟩
 refine fr_nil<|?_
 clear hI
 refine q_then<|wif E hm rfl (fun hm=>?_) fun hm=>?_
 ·refine sq<|pr 1 E rfl fun a E=>have H:=H.front 2 rfl;have H:=H.front 1 rfl;have H:=H.front 5 rfl;have H:=H.front 5 rfl;have H:=H.front 4 rfl;have H:=H.front 5 rfl;bd hm fun u19 hx20 hm=>?_
  refine x_cl E rfl rfl rfl rfl rfl cf132 (c_part_work_fail p1 v2 l3 v4 l5 x6 s7 s8 x9 v10 l11 64 H hx20)<|?_
  rintro _ w ⟨rfl, H⟩ a E
  refine nt<|wp_ret<|q_thenR<|out0r E rfl<|have H:=H.nilRow 9 kS;have H:=H.drop 4;have H:=H.drop 4;have H:=H.front 0 rfl;have H:=H.front 3 rfl;?_
  refine have H:=H.front 3 rfl;have H:=H.front 3 rfl;?_
  cases hm
  exact ⟨v4, (.slice none 0 0), rfl, H.reads (fun r hr => hr)⟩
 ·refine wp_skip<|q_then<|wp_region_lit<|pr 2 E rfl fun a E=>lb E H 2 rfl rfl rfl rfl rfl rfl rfl Tryz.underlying9 rfl fun a E=>have H:=H.front 2 rfl;have H:=H.front 1 rfl;have H:=H.front 5 rfl;have H:=H.front 5 rfl;?_
  refine have H:=H.front 4 rfl;have H:=H.front 5 rfl;bd hm fun u21 hx22 hm=>x_cl E rfl rfl rfl rfl rfl cf133 (c_part_work_turn p1 v2 l3 v4 l5 x6 s7 s8 x9 v10 l11 x12.Path H hx22)<|?_
  rintro _ w ⟨v23, rfl, H⟩ a E
  refine wpList_nil<|out0 E rfl<|have H:=H.drop 4;have H:=H.drop 4;?_
  cases hm
  exact ⟨v23, v10, rfl, H.reads (fun r hr => hr)⟩

def m_part_work_guard_j1 (l3 : List S_api_Node) (l5 : List S_api_Turn) (u14 : Int × Int × ByteArray × ByteArray × Int × (List ByteArray)) (b17 : Bool) : Option (Int × ByteArray × ByteArray × Int × (List ByteArray)) :=
  if b17 = true then ((m_part_work_fail l3 l5 u14.2.1 u14.2.2.1 u14.2.2.2.1 u14.2.2.2.2.1 u14.2.2.2.2.2 65).bind fun u20 => some (u20, (ByteArray.mk #[]), (ByteArray.mk #[]), 0, [])) else (some (u14.2.1, u14.2.2.1, u14.2.2.2.1, u14.2.2.2.2.1, u14.2.2.2.2.2))
def m_part_work_guard (l3 : List S_api_Node) (l5 : List S_api_Turn) (x6 : Int) (s7 : ByteArray) (s8 : ByteArray) (x9 : Int) (l11 : List ByteArray) (x12 : S_api_Part) : Option (Int × ByteArray × ByteArray × Int × (List ByteArray)) :=
  (m_part_work_node l3 l5 x6 s7 s8 x9 l11 x12).bind fun u14 => if (decide (0 ≤ u14.1)) = true then ((idx l3 u14.1).bind fun x23 => m_part_work_guard_j1 l3 l5 u14 (x23.Owner != 0)) else (m_part_work_guard_j1 l3 l5 u14 false)
theorem c_part_work_guard {w : World} {Fo : List Ob} {rs : List Rp} (p1 : Nat) (v2 : Value) (l3 : List S_api_Node) (v4 : Value) (l5 : List S_api_Turn) (x6 : Int) (s7 : ByteArray) (s8 : ByteArray) (x9 : Int) (v10 : Value) (l11 : List ByteArray) (x12 : S_api_Part) (H : Sep w (Blk p1 105 [v2, v4, .int .i64 x6, .string s7, .string s8, .int .i64 x9, v10] :: Row 80 k_api_Node v2 l3 :: Row 83 k_api_Turn v4 l5 :: Row 9 kS v10 l11 :: Fo) rs) {r : Int × ByteArray × ByteArray × Int × (List ByteArray)} (hm : m_part_work_guard l3 l5 x6 s7 s8 x9 l11 x12 = some r) :
    Calls Tryz.prog 78 [pt p1 0, .agg (l_api_Part x12).toArray].toArray w (Ret fun v w' => ∃ (v5005 : Value), .tuple #[] = v ∧ Sep w' (Blk p1 105 [v2, v4, .int .i64 r.1, .string r.2.1, .string r.2.2.1, .int .i64 r.2.2.2.1, v5005] :: Row 80 k_api_Node v2 l3 :: Row 83 k_api_Turn v4 l5 :: Row 9 kS v5005 r.2.2.2.2 :: Fo) (rs)) := by
 unfold m_part_work_guard at hm
 refine enter Tryz.func78 rfl Tryz.ntmps78 rfl fun a E =>?_
 simp only [enum, Nat.reduceAdd] at E
 refine sq<|st_box E H (wn rfl) rfl rfl (cs := (l_api_Part x12)) rfl rfl rfl fun p13 w a H E=>nx<|pr 1 E rfl fun a E=>sv E rfl rfl rfl (x_ldBN (i := 0) (us := (l_api_Part x12)) E H rfl rfl rfl rfl Tryz.underlying62 rfl sz62) fun a E=>have H:=H.front 0 rfl;have H:=H.front 4 rfl;have H:=H.front 4 rfl;have H:=H.front 4 rfl;?_
 refine have H:=H.front 4 rfl;bd hm fun u14 hx15 hm=>x_cl E rfl rfl rfl rfl rfl cf131 (c_part_work_node p1 v2 l3 v4 l5 x6 s7 s8 x9 v10 l11 x12 H hx15)<|?_
 rintro _ w ⟨v16, rfl, H⟩ a E
 refine pr 1 E rfl fun a E=>nt<|wp_seq_cut (fun a w => ∃ (b17 : Bool) (rs18 : List Rp), Env 19 a [(0, pt p1 0), (16, .bool b17)] ∧ Sep w (Blk p1 105 [v2, v4, .int .i64 u14.2.1, .string u14.2.2.1, .string u14.2.2.2.1, .int .i64 u14.2.2.2.2.1, v16] :: Row 80 k_api_Node v2 l3 :: Row 83 k_api_Turn v4 l5 :: Row 9 kS v16 u14.2.2.2.2.2 :: Fo) rs18 ∧ (∀ r, r ∈ rs → r ∈ rs18) ∧ m_part_work_guard_j1 l3 l5 u14 b17 = some r) ?_ ?_
 ·refine wp_region_lit<|pr 1 E rfl fun a E=>sv E rfl rfl rfl (x_orpN E oq138 oz138 rfl rfl rfl) fun a E=>pr 1 E rfl fun a E=>cs hm (fun hb22 hm=>?_) fun hb22 hm=>?_
  ·refine pk 1 E (kc 10 rfl hb22) rfl fun a E=>bd hm fun x23 hx24 hm=>?_
   obtain ⟨p25, x26, hx27⟩ := H.rowformNE (i := 1) rfl hx24
   rw [orp_rp 5 hx27 hx24] at E
   exact pk 2 E (kc 10 rfl hb22) rfl fun a E=>st_val E (ws' (d := 10) E rfl rfl rfl rfl hb22) rfl rfl (x_ldRowV (d := k_api_Node) (i := 1) (k := 4) E H k_api_Node_flat hx27 rfl rfl rfl hx24 rfl Tryz.underlying2 rfl) fun a E=>pk 2 E (kc 10 rfl hb22) rfl fun a E=>nt<|have H:=H.drop 4;⟨x23.Owner != 0, _, E.sel [0, 16] rfl, H, fun r hr => hr, hm⟩
  ·exact pk 6 E (kc 10 rfl hb22) rfl fun a E=>nt<|have H:=H.drop 4;⟨false, _, E.sel [0, 16] rfl, H, fun r hr => hr, hm⟩
 ·clear E H hm
  rintro a w ⟨b17, rs18, E, H, hs19, hm⟩
  unfold m_part_work_guard_j1 at hm
  refine wif E hm rfl (fun hm=>?_) fun hm=>?_
  ·refine wp_region_lit<|pr 1 E rfl fun a E=>bd hm fun u20 hx21 hm=>x_cl E rfl rfl rfl rfl rfl cf132 (c_part_work_fail p1 v2 l3 v4 l5 u14.2.1 u14.2.2.1 u14.2.2.2.1 u14.2.2.2.2.1 v16 u14.2.2.2.2.2 65 H hx21)<|?_
   rintro _ w ⟨rfl, H⟩ a E
   refine wpList_nil<|out0 E rfl<|have H:=H.nilRow 9 kS;have H:=H.front 0 rfl;have H:=H.front 3 rfl;have H:=H.front 3 rfl;have H:=H.front 3 rfl;?_
   cases hm
   exact ⟨(.slice none 0 0), rfl, H.reads (hs19)⟩
  ·refine wp_skip<|out0 E rfl<|?_
   cases hm
   exact ⟨v16, rfl, H.reads (hs19)⟩

def m_part_work_has (l3 : List S_api_Node) (l5 : List S_api_Turn) (x6 : Int) (s7 : ByteArray) (s8 : ByteArray) (x9 : Int) (l11 : List ByteArray) (x12 : S_api_Part) : Option (Int × ByteArray × ByteArray × Int × (List ByteArray)) :=
  (m_part_work_node l3 l5 x6 s7 s8 x9 l11 x12).bind fun u14 => some (u14.2.1, u14.2.2.1, u14.2.2.2.1, u14.2.2.2.2.1, u14.2.2.2.2.2)
theorem c_part_work_has {w : World} {Fo : List Ob} {rs : List Rp} (p1 : Nat) (v2 : Value) (l3 : List S_api_Node) (v4 : Value) (l5 : List S_api_Turn) (x6 : Int) (s7 : ByteArray) (s8 : ByteArray) (x9 : Int) (v10 : Value) (l11 : List ByteArray) (x12 : S_api_Part) (H : Sep w (Blk p1 105 [v2, v4, .int .i64 x6, .string s7, .string s8, .int .i64 x9, v10] :: Row 80 k_api_Node v2 l3 :: Row 83 k_api_Turn v4 l5 :: Row 9 kS v10 l11 :: Fo) rs) {r : Int × ByteArray × ByteArray × Int × (List ByteArray)} (hm : m_part_work_has l3 l5 x6 s7 s8 x9 l11 x12 = some r) :
    Calls Tryz.prog 85 [pt p1 0, .agg (l_api_Part x12).toArray].toArray w (Ret fun v w' => ∃ (v5005 : Value), .tuple #[] = v ∧ Sep w' (Blk p1 105 [v2, v4, .int .i64 r.1, .string r.2.1, .string r.2.2.1, .int .i64 r.2.2.2.1, v5005] :: Row 80 k_api_Node v2 l3 :: Row 83 k_api_Turn v4 l5 :: Row 9 kS v5005 r.2.2.2.2 :: Fo) (rs)) := by
 unfold m_part_work_has at hm
 refine enter Tryz.func85 rfl Tryz.ntmps85 rfl fun a E =>?_
 simp only [enum, Nat.reduceAdd] at E
 refine sq<|st_box E H (wn rfl) rfl rfl (cs := (l_api_Part x12)) rfl rfl rfl fun p13 w a H E=>nt<|wp_region_lit<|pr 1 E rfl fun a E=>sv E rfl rfl rfl (x_ldBN (i := 0) (us := (l_api_Part x12)) E H rfl rfl rfl rfl Tryz.underlying62 rfl sz62) fun a E=>have H:=H.front 0 rfl;have H:=H.front 4 rfl;have H:=H.front 4 rfl;?_
 refine have H:=H.front 4 rfl;have H:=H.front 4 rfl;bd hm fun u14 hx15 hm=>x_cl E rfl rfl rfl rfl rfl cf131 (c_part_work_node p1 v2 l3 v4 l5 x6 s7 s8 x9 v10 l11 x12 H hx15)<|?_
 rintro _ w ⟨v16, rfl, H⟩ a E
 refine wpList_nil<|out0 E rfl<|have H:=H.drop 4;?_
 cases hm
 exact ⟨v16, rfl, H.reads (fun r hr => hr)⟩

def m_part_work_look (l3 : List S_api_Node) (l5 : List S_api_Turn) (x6 : Int) (s7 : ByteArray) (s8 : ByteArray) (x9 : Int) (l11 : List ByteArray) (x12 : S_api_Part) : Option (Int × ByteArray × ByteArray × Int × (List ByteArray)) :=
  (m_part_work_node l3 l5 x6 s7 s8 x9 l11 x12).bind fun u14 => if (decide (0 ≤ u14.1)) = true then ((idx l3 u14.1).bind fun x17 => some (u14.2.1, u14.2.2.1, u14.2.2.2.1, x17.Version, u14.2.2.2.2.2)) else (some (u14.2.1, u14.2.2.1, u14.2.2.2.1, u14.2.2.2.2.1, u14.2.2.2.2.2))
theorem c_part_work_look {w : World} {Fo : List Ob} {rs : List Rp} (p1 : Nat) (v2 : Value) (l3 : List S_api_Node) (v4 : Value) (l5 : List S_api_Turn) (x6 : Int) (s7 : ByteArray) (s8 : ByteArray) (x9 : Int) (v10 : Value) (l11 : List ByteArray) (x12 : S_api_Part) (H : Sep w (Blk p1 105 [v2, v4, .int .i64 x6, .string s7, .string s8, .int .i64 x9, v10] :: Row 80 k_api_Node v2 l3 :: Row 83 k_api_Turn v4 l5 :: Row 9 kS v10 l11 :: Fo) rs) {r : Int × ByteArray × ByteArray × Int × (List ByteArray)} (hm : m_part_work_look l3 l5 x6 s7 s8 x9 l11 x12 = some r) :
    Calls Tryz.prog 83 [pt p1 0, .agg (l_api_Part x12).toArray].toArray w (Ret fun v w' => ∃ (v5005 : Value), .tuple #[] = v ∧ Sep w' (Blk p1 105 [v2, v4, .int .i64 r.1, .string r.2.1, .string r.2.2.1, .int .i64 r.2.2.2.1, v5005] :: Row 80 k_api_Node v2 l3 :: Row 83 k_api_Turn v4 l5 :: Row 9 kS v5005 r.2.2.2.2 :: Fo) (rs)) := by
 unfold m_part_work_look at hm
 refine enter Tryz.func83 rfl Tryz.ntmps83 rfl fun a E =>?_
 simp only [enum, Nat.reduceAdd] at E
 refine sq<|st_box E H (wn rfl) rfl rfl (cs := (l_api_Part x12)) rfl rfl rfl fun p13 w a H E=>nx<|pr 1 E rfl fun a E=>sv E rfl rfl rfl (x_ldBN (i := 0) (us := (l_api_Part x12)) E H rfl rfl rfl rfl Tryz.underlying62 rfl sz62) fun a E=>have H:=H.front 0 rfl;have H:=H.front 4 rfl;have H:=H.front 4 rfl;have H:=H.front 4 rfl;?_
 refine have H:=H.front 4 rfl;bd hm fun u14 hx15 hm=>x_cl E rfl rfl rfl rfl rfl cf131 (c_part_work_node p1 v2 l3 v4 l5 x6 s7 s8 x9 v10 l11 x12 H hx15)<|?_
 rintro _ w ⟨v16, rfl, H⟩ a E
 refine pr 1 E rfl fun a E=>nx<|pr 1 E rfl fun a E=>sv E rfl rfl rfl (x_orpN E oq138 oz138 rfl rfl rfl) fun a E=>nt<|wif E hm rfl (fun hm=>?_) fun hm=>?_
 ·refine wp_region_lit<|pr 2 E rfl fun a E=>bd hm fun x17 hx18 hm=>?_
  obtain ⟨p19, x20, hx21⟩ := H.rowformNE (i := 1) rfl hx18
  rw [orp_rp 5 hx21 hx18] at E
  refine pr 2 E rfl fun a E=>sv E rfl rfl rfl (x_ldRowV (d := k_api_Node) (i := 1) (k := 2) E H k_api_Node_flat hx21 rfl rfl rfl hx18 rfl Tryz.underlying2 rfl) fun a E=>pr 3 E rfl fun a E=>st_st (i := 0) E H (wn rfl) rfl (us := [.int .i64 x17.Version]) rfl rfl rfl rfl rfl sz2 rfl rfl fun w H=>wpList_nil<|out0 E rfl<|have H:=H.drop 4;?_
  cases hm
  exact ⟨v16, rfl, H.reads (fun r hr => hr)⟩
 ·refine wp_skip<|out0 E rfl<|have H:=H.drop 4;?_
  cases hm
  exact ⟨v16, rfl, H.reads (fun r hr => hr)⟩

def m_part_work_names_j1 (rec_1 : Int → (List ByteArray) → Option (List ByteArray)) (x17 : Int) (l23 : (List ByteArray)) : Option (List ByteArray) :=
  rec_1 (IntKind.i64.wrap (x17 + 1)) l23
def m_part_work_names_l1 (l3 : List S_api_Node) (u14 : Int × ByteArray × ByteArray × ByteArray × Int × Int × Bool) : Nat → Int → (List ByteArray) → Option (List ByteArray)
  | 0, _, _ => none
  | k1 + 1, x17, l19 =>
    if (decide (x17 < (l3.length : Int))) = true then ((idx l3 x17).bind fun x26 => (m_part_in_1 x26 u14.1 u14.2.1 u14.2.2.1 u14.2.2.2.1 u14.2.2.2.2.1 u14.2.2.2.2.2.1 u14.2.2.2.2.2.2).bind fun u32 => if u32 = true then ((m_path_Last x26.Path).bind fun u34 => (ck (l19.length + ([u34] : List ByteArray).length ≤ LIM)).bind fun u38 => m_part_work_names_j1 (m_part_work_names_l1 l3 u14 k1) x17 (l19 ++ ([u34] : List ByteArray))) else (m_part_work_names_j1 (m_part_work_names_l1 l3 u14 k1) x17 l19)) else (some (l19))
def m_part_work_names (l3 : List S_api_Node) (l5 : List S_api_Turn) (x6 : Int) (s7 : ByteArray) (s8 : ByteArray) (x9 : Int) (l11 : List ByteArray) (x12 : S_api_Part) : Option (List ByteArray) :=
  (m_part_in x12).bind fun u14 => m_part_work_names_l1 l3 u14 (((l3.length : Int) - 0 : Int).toNat + 1) 0 l11
theorem c_part_work_names {w : World} {Fo : List Ob} {rs : List Rp} (p1 : Nat) (v2 : Value) (l3 : List S_api_Node) (v4 : Value) (l5 : List S_api_Turn) (x6 : Int) (s7 : ByteArray) (s8 : ByteArray) (x9 : Int) (v10 : Value) (l11 : List ByteArray) (x12 : S_api_Part) (H : Sep w (Blk p1 105 [v2, v4, .int .i64 x6, .string s7, .string s8, .int .i64 x9, v10] :: Row 80 k_api_Node v2 l3 :: Row 83 k_api_Turn v4 l5 :: Row 9 kS v10 l11 :: Fo) rs) {r : (List ByteArray)} (hm : m_part_work_names l3 l5 x6 s7 s8 x9 l11 x12 = some r) :
    Calls Tryz.prog 86 [pt p1 0, .agg (l_api_Part x12).toArray].toArray w (Ret fun v w' => ∃ (v5001 : Value), .tuple #[] = v ∧ Sep w' (Blk p1 105 [v2, v4, .int .i64 x6, .string s7, .string s8, .int .i64 x9, v5001] :: Row 80 k_api_Node v2 l3 :: Row 83 k_api_Turn v4 l5 :: Row 9 kS v5001 r :: Fo) (rs)) := by
 unfold m_part_work_names at hm
 refine enter Tryz.func86 rfl Tryz.ntmps86 rfl fun a E =>?_
 simp only [enum, Nat.reduceAdd] at E
 refine sq<|st_box E H (wn rfl) rfl rfl (cs := (l_api_Part x12)) rfl rfl rfl fun p13 w a H E=>nx<|sv E rfl rfl rfl (x_ldBN (i := 0) (us := (l_api_Part x12)) E H rfl rfl rfl rfl Tryz.underlying62 rfl sz62) fun a E=>bd hm fun u14 hx15 hm=>x_cl E rfl rfl rfl rfl rfl cf137 (c_part_in x12 H hx15)<|?_
 rintro _ w ⟨p16, rfl, H⟩ a E
 refine pr 1 E rfl fun a E=>nx<|pr 4 E rfl fun a E=>lb E H 2 rfl rfl rfl rfl rfl rfl rfl Tryz.underlying22 rfl fun a E=>sv E rfl rfl rfl (x_lenR (i := 3) E H rfl rfl rfl Tryz.underlying22) fun a E=>pr 1 E rfl fun a E=>nt<|wp_block<|wp_loop_g (fun k1 a w => ∃ (v18 : Value) (x17 : Int) (l19 : (List ByteArray)) (rs20 : List Rp), Env 37 a [(0, pt p1 0), (4, .func (.func 162) #[] #[pt p16 0]), (13, v2), (14, .int .i64 (l3.length : Int)), (15, .int .i64 x17)] ∧ Sep w (Blk p1 105 [v2, v4, .int .i64 x6, .string s7, .string s8, .int .i64 x9, v18] :: Blk p16 62 [.int .i64 u14.1, .string u14.2.1, .string u14.2.2.1, .string u14.2.2.2.1, .int .i64 u14.2.2.2.2.1, .int .i64 u14.2.2.2.2.2.1, .bool u14.2.2.2.2.2.2] :: Row 80 k_api_Node v2 l3 :: Row 83 k_api_Turn v4 l5 :: Row 9 kS v18 l19 :: Fo) rs20 ∧ (∀ r, r ∈ rs → r ∈ rs20) ∧ m_part_work_names_l1 l3 u14 k1 x17 l19 = some r) (((l3.length : Int) - 0 : Int).toNat + 1) ?_ ?_
 ·exact have H:=H.drop 1;have H:=H.front 4 rfl;have H:=H.front 4 rfl;have H:=H.front 4 rfl;have H:=H.front 3 rfl;have H:=H.front 4 rfl;⟨v10, 0, l11, _, E.sel [0, 4, 13, 14, 15] rfl, H, fun r hr => hr, hm⟩
 ·clear E H hm
  rintro k1 a w ⟨v18, x17, l19, rs20, E, H, hs21, hm⟩
  cases k1 with
  | zero => exact (none_some hm rfl).elim
  | succ k1 =>
   unfold m_part_work_names_l1 at hm
   refine sq<|pr 1 E rfl fun a E=>nt<|wp_seq<|wif E hm rfl (fun hm=>?_) fun hm=>?_
   ·refine wp_skip<|q_then<|wp_seq_cut (fun a w => ∃ (v22 : Value) (l23 : (List ByteArray)) (rs24 : List Rp), Env 37 a [(0, pt p1 0), (4, .func (.func 162) #[] #[pt p16 0]), (13, v2), (14, .int .i64 (l3.length : Int)), (15, .int .i64 x17)] ∧ Sep w (Blk p1 105 [v2, v4, .int .i64 x6, .string s7, .string s8, .int .i64 x9, v22] :: Blk p16 62 [.int .i64 u14.1, .string u14.2.1, .string u14.2.2.1, .string u14.2.2.2.1, .int .i64 u14.2.2.2.2.1, .int .i64 u14.2.2.2.2.2.1, .bool u14.2.2.2.2.2.2] :: Row 80 k_api_Node v2 l3 :: Row 83 k_api_Turn v4 l5 :: Row 9 kS v22 l23 :: Fo) rs24 ∧ (∀ r, r ∈ rs → r ∈ rs24) ∧ m_part_work_names_j1 (m_part_work_names_l1 l3 u14 k1) x17 l23 = some r) ?_ ?_
    ·refine wp_block<|sq<|bd hm fun x26 hx27 hm=>?_
     obtain ⟨p28, x29, hx30⟩ := H.rowformNE (i := 2) rfl hx27
     refine sv E rfl rfl rfl (x_ixRowV (d := k_api_Node) E hx30 rfl rfl rfl rfl Tryz.underlying22 sz80 hx27) fun a E=>sv E rfl rfl rfl (x_ldRowNV (i := 2) E H k_api_Node_flat hx30 rfl rfl rfl hx27 (us := [.string x26.Path, .string x26.Data, .int .i64 x26.Version, .int .i64 x26.Turn, .int .i64 x26.Owner]) rfl Tryz.underlying80 rfl sz80) fun a E=>al E H rfl rfl rfl rfl zr80 fun p31 w a H E=>st_st (i := 0) E H (wn rfl) rfl (us := (l_api_Node x26)) rfl rfl rfl rfl rfl sz80 rfl rfl fun w H=>nx<|pr 1 E rfl fun a E=>sv E rfl rfl rfl (x_ldBN (i := 0) (us := (l_api_Node x26)) E H rfl rfl rfl rfl Tryz.underlying80 rfl sz80) fun a E=>have H:=H.front 5 rfl;have H:=H.front 5 rfl;?_
     refine have H:=H.front 5 rfl;have H:=H.front 4 rfl;have H:=H.front 4 rfl;have H:=H.front 5 rfl;bd hm fun u32 hx33 hm=>st_call E (wn rfl) rfl rfl (x_callv E rfl rfl rfl (cf162 _)) (c_part_in_1 x26 p16 u14.1 u14.2.1 u14.2.2.1 u14.2.2.2.1 u14.2.2.2.2.1 u14.2.2.2.2.2.1 u14.2.2.2.2.2.2 H hx33)<|?_
     rintro _ w ⟨rfl, H⟩ a E
     refine nt<|wif E hm rfl (fun hm=>?_) fun hm=>?_
     ·refine dw [(0, 0), (1, 0), (2, 0), (3, 0), (4, 0), (5, 0), (6, 0), (7, 0), (8, 1), (9, 1), (10, 1), (11, 2), (12, 2), (13, 2), (14, 2)] [1, 2] [] H (by kernel_rfl) (fun _ _ _ h => False.elim h.2) fun w W0 hI H=>fn 5 E rfl fun a E=>fb E rfl (wn rfl) rfl rfl rfl rfl mm1 rfl Tryz.underlying49 rfl fun a E=>fn 1 E rfl fun a E=>fb E rfl (wn rfl) rfl rfl rfl rfl m0 rfl Tryz.underlying9 rfl fun a E=>fr_op rfl<|bd hm fun u34 hx35 hm=>x_cl E rfl rfl rfl rfl rfl cf119 (c_path_Last x26.Path H hx35)<|?_
      rintro _ w ⟨rfl, H⟩ a E
      refine nt<|?_
      refine ⟨⟨_, _, H, (subO_cons mm1 (subO_cons mm2 (subO_nil))), (sub_nil)⟩, ?_⟩
      refine fr_op rfl<|st_bsR (e := 9) (d := kS) (cs := [.string u34]) (xs := [u34]) E H (wn rfl) rfl rfl rfl (E.evs rfl) (by kernel_rfl) rfl (fun ok hr => (Rows.single (d := kS) (cs := [.string u34]) (x := u34) rfl)) fun v36 w a H E=>nt<|?_
      refine ⟨⟨_, _, H, (subO_cons mm1 (subO_cons mm2 (subO_nil))), (sub_nil)⟩, ?_⟩
      refine fr_op rfl<|bk hm fun hx39 hm=>st_append (i := 5) E H (wn rfl) rfl rfl rfl rfl rfl rfl (src_rd m0) Tryz.underlying49 inf9 rfl hx39 rfl fun v37 w a H E=>nt<|?_
      refine ⟨⟨_, _, H, (subO_cons mm1 (subO_cons mm2 (subO_nil))), (sub_nil)⟩, ?_⟩
      refine fr_tail rfl<|pr 1 E rfl fun a E=>nt<|fr_tail rfl<|pr 1 E rfl fun a E=>nt<|fr_tail rfl<|pr 1 E rfl fun a E=>nt<|?_
      refine fr_tail rfl<|?_
      obtain ⟨q40, x41, rfl⟩ := H.rowform (i := 5) rfl
      refine st_st (i := 2) E H (wn rfl) rfl (us := [(.slice q40 (l19 ++ ([u34] : List ByteArray)).length x41)]) rfl rfl rfl rfl rfl sz49 rfl rfl fun w H=>nt<|fr_nil<|?_
      clear hI
      exact q_blk<|q_then<|have H:=H.drop 1;have H:=H.front 4 rfl;have H:=H.front 4 rfl;have H:=H.front 4 rfl;have H:=H.front 3 rfl;have H:=H.front 4 rfl;⟨(.slice q40 (l19 ++ ([u34] : List ByteArray)).length x41), l19 ++ ([u34] : List ByteArray), _, E.sel [0, 4, 13, 14, 15] rfl, H, fun r hr => (t1 (hs21 r hr)), hm⟩
     ·exact wp_skip<|q_blk<|q_then<|have H:=H.drop 1;have H:=H.front 4 rfl;have H:=H.front 4 rfl;have H:=H.front 4 rfl;have H:=H.front 3 rfl;have H:=H.front 4 rfl;⟨v18, l19, _, E.sel [0, 4, 13, 14, 15] rfl, H, hs21, hm⟩
    ·clear E H hm
     rintro a w ⟨v22, l23, rs24, E, H, hs25, hm⟩
     unfold m_part_work_names_j1 at hm
     exact wp_region_lit<|pr 2 E rfl fun a E=>nt<|⟨k1, Nat.lt_succ_self k1, v22, IntKind.i64.wrap (x17 + 1), l23, _, E.sel [0, 4, 13, 14, 15] rfl, H, hs25, hm⟩
   ·refine wp_exit<|q_thenX<|q_thenX<|q_hit<|out0 E rfl<|have H:=H.drop 1;?_
    cases hm
    exact ⟨v18, rfl, H.reads (hs21)⟩

def m_part_work_put_1 (x1 : Int) : Option Int :=
  some (x1)
theorem c_part_work_put_1 {w : World} {Fo : List Ob} {rs : List Rp} (x1 : Int) (H : Sep w (Fo) rs) {r : Int} (hm : m_part_work_put_1 x1 = some r) :
    Calls Tryz.prog 134 [.int .i64 x1].toArray w (Ret fun v w' => .int .i64 r = v ∧ Sep w' (Fo) (rs)) := by
 unfold m_part_work_put_1 at hm
 refine enter Tryz.func134 rfl Tryz.ntmps134 rfl fun a E =>?_
 simp only [enum, Nat.reduceAdd] at E
 refine sq<|pr 1 E rfl fun a E=>nx<|pr 2 E rfl fun a E=>nt<|wp_ret<|out1 E rfl rfl<|?_
 cases hm
 exact ⟨rfl, H.reads (fun r hr => hr)⟩

def m_part_work_turn_1b_j2 (x19 : S_api_Turn) (l25 : (List S_api_Turn)) : Option (Int × (List S_api_Turn)) :=
  some (x19.Next, l25)
def m_part_work_turn_1b_j1 (u13 : Int × Bool) (l16 : (List S_api_Turn)) : Option (Int × (List S_api_Turn)) :=
  (idx l16 u13.1).bind fun x19 => (m_part_work_put_1 x19.Next).bind fun u28 => (idx l16 u13.1).bind fun x30 => (idx (l16.set u13.1.toNat ({ x30 with Next := u28 } : S_api_Turn)) u13.1).bind fun x35 => if (x35.Next == 0) = true then ((ck (0 ≤ u13.1 ∧ u13.1 < (l16.set u13.1.toNat ({ x30 with Next := u28 } : S_api_Turn)).length ∧ IntKind.i64.wrap (u13.1 + 1) = u13.1 + 1)).bind fun u40 => m_part_work_turn_1b_j2 x19 ((l16.set u13.1.toNat ({ x30 with Next := u28 } : S_api_Turn)).eraseIdx u13.1.toNat)) else (m_part_work_turn_1b_j2 x19 (l16.set u13.1.toNat ({ x30 with Next := u28 } : S_api_Turn)))
def m_part_work_turn_1b (l3 : List S_api_Node) (l5 : List S_api_Turn) (x6 : Int) (s7 : ByteArray) (s8 : ByteArray) (x9 : Int) (l11 : List ByteArray) (s12 : ByteArray) : Option (Int × (List S_api_Turn)) :=
  (m_slices_BinarySearchFunc_api_Turn_api_Turn_string l5 s12).bind fun u13 => if (!u13.2) = true then ((ck (0 ≤ u13.1 ∧ u13.1 ≤ l5.length ∧ l5.length ≤ 1000000)).bind fun u46 => m_part_work_turn_1b_j1 u13 (l5.take u13.1.toNat ++ (⟨s12, 0⟩ : S_api_Turn) :: l5.drop u13.1.toNat)) else (m_part_work_turn_1b_j1 u13 l5)
theorem c_part_work_turn_1b {w : World} {Fo : List Ob} {rs : List Rp} (p1 : Nat) (v2 : Value) (l3 : List S_api_Node) (v4 : Value) (l5 : List S_api_Turn) (x6 : Int) (s7 : ByteArray) (s8 : ByteArray) (x9 : Int) (v10 : Value) (l11 : List ByteArray) (s12 : ByteArray) (H : Sep w (Blk p1 105 [v2, v4, .int .i64 x6, .string s7, .string s8, .int .i64 x9, v10] :: Row 80 k_api_Node v2 l3 :: Row 83 k_api_Turn v4 l5 :: Row 9 kS v10 l11 :: Fo) rs) {r : Int × (List S_api_Turn)} (hm : m_part_work_turn_1b l3 l5 x6 s7 s8 x9 l11 s12 = some r) :
    Calls Tryz.prog 133 [pt p1 0, .string s12, .func (.func 134) #[] #[]].toArray w (Ret fun v w' => ∃ (v5002 : Value), .int .i64 r.1 = v ∧ Sep w' (Blk p1 105 [v2, v5002, .int .i64 x6, .string s7, .string s8, .int .i64 x9, v10] :: Row 80 k_api_Node v2 l3 :: Row 83 k_api_Turn v5002 r.2 :: Row 9 kS v10 l11 :: Fo) (rs)) := by
 unfold m_part_work_turn_1b at hm
 refine enter Tryz.func133 rfl Tryz.ntmps133 rfl fun a E =>?_
 simp only [enum, Nat.reduceAdd] at E
 refine sq<|pr 1 E rfl fun a E=>nx<|pr 4 E rfl fun a E=>lb E H 0 rfl rfl rfl rfl rfl rfl rfl Tryz.underlying39 rfl fun a E=>pr 1 E rfl fun a E=>have H:=H.front 3 rfl;have H:=H.front 2 rfl;have H:=H.front 2 rfl;?_
 refine have H:=H.front 3 rfl;bd hm fun u13 hx14 hm=>x_cl E rfl rfl rfl rfl rfl cf156 (c_slices_BinarySearchFunc_api_Turn_api_Turn_string v4 l5 s12 H hx14)<|?_
 rintro _ w ⟨rfl, H⟩ a E
 refine pr 5 E rfl fun a E=>nt<|wp_seq_cut (fun a w => ∃ (v15 : Value) (l16 : (List S_api_Turn)) (rs17 : List Rp), Env 80 a [(0, pt p1 0), (2, .func (.func 134) #[] #[]), (7, .int .i64 u13.1)] ∧ Sep w (Blk p1 105 [v2, v15, .int .i64 x6, .string s7, .string s8, .int .i64 x9, v10] :: Row 80 k_api_Node v2 l3 :: Row 83 k_api_Turn v15 l16 :: Row 9 kS v10 l11 :: Fo) rs17 ∧ (∀ r, r ∈ rs → r ∈ rs17) ∧ m_part_work_turn_1b_j1 u13 l16 = some r) ?_ ?_
 ·refine sq<|pr 2 E rfl fun a E=>nt<|wif E hm rfl (fun hm=>?_) fun hm=>?_
  ·refine wp_region_lit<|pr 5 E rfl fun a E=>lb E H 1 rfl rfl rfl rfl rfl rfl rfl Tryz.underlying39 rfl fun a E=>pr 2 E rfl fun a E=>sv E rfl rfl rfl (x_build E rfl (E.evs rfl) (v := .agg #[.string s12, .int .i64 0]) (by kernel_rfl)) fun a E=>st_bsO (e := 83) (d := k_api_Turn) (cs := [.string s12, .int .i64 0]) (xs := [(⟨s12, 0⟩ : S_api_Turn)]) E H (wn rfl) rfl rfl rfl (E.evs rfl) (by kernel_rfl) rfl rfl (fun ok hr => (Rows.single (d := k_api_Turn) (cs := [.string s12, .int .i64 0]) (x := (⟨s12, 0⟩ : S_api_Turn)) k_api_Turn_mk)) fun v45 w a H E=>bk hm fun hx47 hm=>st_call E (wn rfl) rfl rfl (x_call E rfl rfl (cf158 _)) (Tn.insert_a (ix := 1) (iu := 0) H rfl rfl (by decide) hx47) fun v48 w H a E=>pr 3 E rfl fun a E=>?_
   obtain ⟨q49, x50, rfl⟩ := H.rowform (i := 1) rfl
   exact st_st (i := 2) E H (wn rfl) rfl (us := [(.slice q49 (l5.take u13.1.toNat ++ (⟨s12, 0⟩ : S_api_Turn) :: l5.drop u13.1.toNat).length x50)]) rfl rfl rfl rfl rfl sz39 rfl rfl fun w H=>nt<|have H:=H.drop 0;have H:=H.front 3 rfl;have H:=H.front 1 rfl;have H:=H.front 3 rfl;have H:=H.front 3 rfl;⟨(.slice q49 (l5.take u13.1.toNat ++ (⟨s12, 0⟩ : S_api_Turn) :: l5.drop u13.1.toNat).length x50), l5.take u13.1.toNat ++ (⟨s12, 0⟩ : S_api_Turn) :: l5.drop u13.1.toNat, _, E.sel [0, 2, 7] rfl, H, fun r hr => hr, hm⟩
  ·exact wp_skip<|q_then<|have H:=H.front 3 rfl;have H:=H.front 1 rfl;have H:=H.front 3 rfl;have H:=H.front 3 rfl;⟨v4, l5, _, E.sel [0, 2, 7] rfl, H, fun r hr => hr, hm⟩
 ·clear E H hm
  rintro a w ⟨v15, l16, rs17, E, H, hs18, hm⟩
  unfold m_part_work_turn_1b_j1 at hm
  refine sq<|pr 4 E rfl fun a E=>lb E H 0 rfl rfl rfl rfl rfl rfl rfl Tryz.underlying39 rfl fun a E=>pr 1 E rfl fun a E=>bd hm fun x19 hx20 hm=>?_
  obtain ⟨p21, x22, hx23⟩ := H.rowformNE (i := 2) rfl hx20
  refine sv E rfl rfl rfl (x_ixRowV (d := k_api_Turn) E hx23 rfl rfl rfl rfl Tryz.underlying39 sz83 hx20) fun a E=>pr 1 E rfl fun a E=>sv E rfl rfl rfl (x_ldRowV (d := k_api_Turn) (i := 2) (k := 1) E H k_api_Turn_flat hx23 rfl rfl rfl hx20 rfl Tryz.underlying2 rfl) fun a E=>pr 1 E rfl fun a E=>nt<|wp_seq_cut (fun a w => ∃ (v24 : Value) (l25 : (List S_api_Turn)) (rs26 : List Rp), Env 80 a [(9, .int .i64 x19.Next)] ∧ Sep w (Blk p1 105 [v2, v24, .int .i64 x6, .string s7, .string s8, .int .i64 x9, v10] :: Row 80 k_api_Node v2 l3 :: Row 83 k_api_Turn v24 l25 :: Row 9 kS v10 l11 :: Fo) rs26 ∧ (∀ r, r ∈ rs → r ∈ rs26) ∧ m_part_work_turn_1b_j2 x19 l25 = some r) ?_ ?_
  ·refine wp_seq<|dw [(0, 0), (1, 0), (2, 0), (3, 0), (4, 0), (5, 0), (6, 0), (7, 0), (8, 1), (9, 2), (10, 2), (11, 2)] [0] [] H (by kernel_rfl) (fun _ _ _ h => False.elim h.2) fun w W0 hI H=>fn 4 E rfl fun a E=>fb E rfl (wn rfl) rfl rfl rfl rfl m0 rfl Tryz.underlying39 rfl fun a E=>fn 3 E rfl fun a E=>fr_op rfl<|bd hm fun u28 hx29 hm=>st_call E (wn rfl) rfl rfl (x_callv E rfl rfl rfl (cf134 _)) (c_part_work_put_1 x19.Next H hx29)<|?_
   rintro _ w ⟨rfl, H⟩ a E
   refine nt<|?_
   refine ⟨⟨_, _, H, (subO_cons m0 (subO_nil)), (sub_nil)⟩, ?_⟩
   refine fr_tail rfl<|bd hm fun x30 hx31 hm=>?_
   obtain ⟨p32, x33, hx34⟩ := H.rowformNE (i := 2) rfl hx31
   refine sv E rfl rfl rfl (x_ixRowV (d := k_api_Turn) E hx34 rfl rfl rfl rfl Tryz.underlying39 sz83 hx31) fun a E=>nt<|fr_tail rfl<|pr 1 E rfl fun a E=>nt<|fr_tail rfl<|st_stRowV (d := k_api_Turn) (i := 2) (k := 1) (z' := ({ x30 with Next := u28 } : S_api_Turn)) E H k_api_Turn_flat (wn rfl) rfl hx34 rfl rfl rfl rfl rfl rfl hx31 rfl rfl sz2 fun w H=>nt<|fr_nil<|?_
   clear hI
   refine q_then<|sq<|pr 4 E rfl fun a E=>lb E H 0 rfl rfl rfl rfl rfl rfl rfl Tryz.underlying39 rfl fun a E=>pr 1 E rfl fun a E=>bd hm fun x35 hx36 hm=>?_
   obtain ⟨p37, x38, hx39⟩ := H.rowformNE (i := 2) rfl hx36
   refine sv E rfl rfl rfl (x_ixRowV (d := k_api_Turn) E hx39 rfl rfl rfl rfl Tryz.underlying39 sz83 hx36) fun a E=>pr 1 E rfl fun a E=>sv E rfl rfl rfl (x_ldRowV (d := k_api_Turn) (i := 2) (k := 1) E H k_api_Turn_flat hx39 rfl rfl rfl hx36 rfl Tryz.underlying2 rfl) fun a E=>pr 1 E rfl fun a E=>nt<|wif E hm rfl (fun hm=>?_) fun hm=>?_
   ·refine wp_region_lit<|pr 5 E rfl fun a E=>lb E H 0 rfl rfl rfl rfl rfl rfl rfl Tryz.underlying39 rfl fun a E=>pr 3 E rfl fun a E=>bk hm fun hx41 hm=>st_call E (wn rfl) rfl rfl (x_call E rfl rfl (cf159 _)) (Tn.delete_c (ix := 2) H rfl hx41) fun v42 w H a E=>pr 3 E rfl fun a E=>?_
    obtain ⟨q43, x44, rfl⟩ := H.rowform (i := 2) rfl
    exact st_st (i := 0) E H (wn rfl) rfl (us := [(.slice q43 ((l16.set u13.1.toNat ({ x30 with Next := u28 } : S_api_Turn)).eraseIdx u13.1.toNat).length x44)]) rfl rfl rfl rfl rfl sz39 rfl rfl fun w H=>nt<|⟨(.slice q43 ((l16.set u13.1.toNat ({ x30 with Next := u28 } : S_api_Turn)).eraseIdx u13.1.toNat).length x44), (l16.set u13.1.toNat ({ x30 with Next := u28 } : S_api_Turn)).eraseIdx u13.1.toNat, _, E.sel [9] rfl, H, hs18, hm⟩
   ·exact wp_skip<|q_then<|⟨v15, l16.set u13.1.toNat ({ x30 with Next := u28 } : S_api_Turn), _, E.sel [9] rfl, H, hs18, hm⟩
  ·clear E H hm
   rintro a w ⟨v24, l25, rs26, E, H, hs27, hm⟩
   unfold m_part_work_turn_1b_j2 at hm
   refine sq<|pr 2 E rfl fun a E=>nt<|wp_ret<|out1 E rfl rfl<|?_
   cases hm
   exact ⟨v24, rfl, H.reads (hs27)⟩

def m_part_work_put_2 (x1 : Int) : Option Int :=
  some (IntKind.i64.wrap (x1 + 1))
theorem c_part_work_put_2 {w : World} {Fo : List Ob} {rs : List Rp} (x1 : Int) (H : Sep w (Fo) rs) {r : Int} (hm : m_part_work_put_2 x1 = some r) :
    Calls Tryz.prog 136 [.int .i64 x1].toArray w (Ret fun v w' => .int .i64 r = v ∧ Sep w' (Fo) (rs)) := by
 unfold m_part_work_put_2 at hm
 refine enter Tryz.func136 rfl Tryz.ntmps136 rfl fun a E =>?_
 simp only [enum, Nat.reduceAdd] at E
 refine sq<|pr 1 E rfl fun a E=>nx<|pr 3 E rfl fun a E=>nt<|wp_ret<|out1 E rfl rfl<|?_
 cases hm
 exact ⟨rfl, H.reads (fun r hr => hr)⟩

def m_part_work_turn_2_j2 (x19 : S_api_Turn) (l25 : (List S_api_Turn)) : Option (Int × (List S_api_Turn)) :=
  some (x19.Next, l25)
def m_part_work_turn_2_j1 (u13 : Int × Bool) (l16 : (List S_api_Turn)) : Option (Int × (List S_api_Turn)) :=
  (idx l16 u13.1).bind fun x19 => (m_part_work_put_2 x19.Next).bind fun u28 => (idx l16 u13.1).bind fun x30 => (idx (l16.set u13.1.toNat ({ x30 with Next := u28 } : S_api_Turn)) u13.1).bind fun x35 => if (x35.Next == 0) = true then ((ck (0 ≤ u13.1 ∧ u13.1 < (l16.set u13.1.toNat ({ x30 with Next := u28 } : S_api_Turn)).length ∧ IntKind.i64.wrap (u13.1 + 1) = u13.1 + 1)).bind fun u40 => m_part_work_turn_2_j2 x19 ((l16.set u13.1.toNat ({ x30 with Next := u28 } : S_api_Turn)).eraseIdx u13.1.toNat)) else (m_part_work_turn_2_j2 x19 (l16.set u13.1.toNat ({ x30 with Next := u28 } : S_api_Turn)))
def m_part_work_turn_2 (l3 : List S_api_Node) (l5 : List S_api_Turn) (x6 : Int) (s7 : ByteArray) (s8 : ByteArray) (x9 : Int) (l11 : List ByteArray) (s12 : ByteArray) : Option (Int × (List S_api_Turn)) :=
  (m_slices_BinarySearchFunc_api_Turn_api_Turn_string l5 s12).bind fun u13 => if (!u13.2) = true then ((ck (0 ≤ u13.1 ∧ u13.1 ≤ l5.length ∧ l5.length ≤ 1000000)).bind fun u46 => m_part_work_turn_2_j1 u13 (l5.take u13.1.toNat ++ (⟨s12, 0⟩ : S_api_Turn) :: l5.drop u13.1.toNat)) else (m_part_work_turn_2_j1 u13 l5)
theorem c_part_work_turn_2 {w : World} {Fo : List Ob} {rs : List Rp} (p1 : Nat) (v2 : Value) (l3 : List S_api_Node) (v4 : Value) (l5 : List S_api_Turn) (x6 : Int) (s7 : ByteArray) (s8 : ByteArray) (x9 : Int) (v10 : Value) (l11 : List ByteArray) (s12 : ByteArray) (H : Sep w (Blk p1 105 [v2, v4, .int .i64 x6, .string s7, .string s8, .int .i64 x9, v10] :: Row 80 k_api_Node v2 l3 :: Row 83 k_api_Turn v4 l5 :: Row 9 kS v10 l11 :: Fo) rs) {r : Int × (List S_api_Turn)} (hm : m_part_work_turn_2 l3 l5 x6 s7 s8 x9 l11 s12 = some r) :
    Calls Tryz.prog 133 [pt p1 0, .string s12, .func (.func 136) #[] #[]].toArray w (Ret fun v w' => ∃ (v5002 : Value), .int .i64 r.1 = v ∧ Sep w' (Blk p1 105 [v2, v5002, .int .i64 x6, .string s7, .string s8, .int .i64 x9, v10] :: Row 80 k_api_Node v2 l3 :: Row 83 k_api_Turn v5002 r.2 :: Row 9 kS v10 l11 :: Fo) (rs)) := by
 unfold m_part_work_turn_2 at hm
 refine enter Tryz.func133 rfl Tryz.ntmps133 rfl fun a E =>?_
 simp only [enum, Nat.reduceAdd] at E
 refine sq<|pr 1 E rfl fun a E=>nx<|pr 4 E rfl fun a E=>lb E H 0 rfl rfl rfl rfl rfl rfl rfl Tryz.underlying39 rfl fun a E=>pr 1 E rfl fun a E=>have H:=H.front 3 rfl;have H:=H.front 2 rfl;have H:=H.front 2 rfl;?_
 refine have H:=H.front 3 rfl;bd hm fun u13 hx14 hm=>x_cl E rfl rfl rfl rfl rfl cf156 (c_slices_BinarySearchFunc_api_Turn_api_Turn_string v4 l5 s12 H hx14)<|?_
 rintro _ w ⟨rfl, H⟩ a E
 refine pr 5 E rfl fun a E=>nt<|wp_seq_cut (fun a w => ∃ (v15 : Value) (l16 : (List S_api_Turn)) (rs17 : List Rp), Env 80 a [(0, pt p1 0), (2, .func (.func 136) #[] #[]), (7, .int .i64 u13.1)] ∧ Sep w (Blk p1 105 [v2, v15, .int .i64 x6, .string s7, .string s8, .int .i64 x9, v10] :: Row 80 k_api_Node v2 l3 :: Row 83 k_api_Turn v15 l16 :: Row 9 kS v10 l11 :: Fo) rs17 ∧ (∀ r, r ∈ rs → r ∈ rs17) ∧ m_part_work_turn_2_j1 u13 l16 = some r) ?_ ?_
 ·refine sq<|pr 2 E rfl fun a E=>nt<|wif E hm rfl (fun hm=>?_) fun hm=>?_
  ·refine wp_region_lit<|pr 5 E rfl fun a E=>lb E H 1 rfl rfl rfl rfl rfl rfl rfl Tryz.underlying39 rfl fun a E=>pr 2 E rfl fun a E=>sv E rfl rfl rfl (x_build E rfl (E.evs rfl) (v := .agg #[.string s12, .int .i64 0]) (by kernel_rfl)) fun a E=>st_bsO (e := 83) (d := k_api_Turn) (cs := [.string s12, .int .i64 0]) (xs := [(⟨s12, 0⟩ : S_api_Turn)]) E H (wn rfl) rfl rfl rfl (E.evs rfl) (by kernel_rfl) rfl rfl (fun ok hr => (Rows.single (d := k_api_Turn) (cs := [.string s12, .int .i64 0]) (x := (⟨s12, 0⟩ : S_api_Turn)) k_api_Turn_mk)) fun v45 w a H E=>bk hm fun hx47 hm=>st_call E (wn rfl) rfl rfl (x_call E rfl rfl (cf158 _)) (Tn.insert_a (ix := 1) (iu := 0) H rfl rfl (by decide) hx47) fun v48 w H a E=>pr 3 E rfl fun a E=>?_
   obtain ⟨q49, x50, rfl⟩ := H.rowform (i := 1) rfl
   exact st_st (i := 2) E H (wn rfl) rfl (us := [(.slice q49 (l5.take u13.1.toNat ++ (⟨s12, 0⟩ : S_api_Turn) :: l5.drop u13.1.toNat).length x50)]) rfl rfl rfl rfl rfl sz39 rfl rfl fun w H=>nt<|have H:=H.drop 0;have H:=H.front 3 rfl;have H:=H.front 1 rfl;have H:=H.front 3 rfl;have H:=H.front 3 rfl;⟨(.slice q49 (l5.take u13.1.toNat ++ (⟨s12, 0⟩ : S_api_Turn) :: l5.drop u13.1.toNat).length x50), l5.take u13.1.toNat ++ (⟨s12, 0⟩ : S_api_Turn) :: l5.drop u13.1.toNat, _, E.sel [0, 2, 7] rfl, H, fun r hr => hr, hm⟩
  ·exact wp_skip<|q_then<|have H:=H.front 3 rfl;have H:=H.front 1 rfl;have H:=H.front 3 rfl;have H:=H.front 3 rfl;⟨v4, l5, _, E.sel [0, 2, 7] rfl, H, fun r hr => hr, hm⟩
 ·clear E H hm
  rintro a w ⟨v15, l16, rs17, E, H, hs18, hm⟩
  unfold m_part_work_turn_2_j1 at hm
  refine sq<|pr 4 E rfl fun a E=>lb E H 0 rfl rfl rfl rfl rfl rfl rfl Tryz.underlying39 rfl fun a E=>pr 1 E rfl fun a E=>bd hm fun x19 hx20 hm=>?_
  obtain ⟨p21, x22, hx23⟩ := H.rowformNE (i := 2) rfl hx20
  refine sv E rfl rfl rfl (x_ixRowV (d := k_api_Turn) E hx23 rfl rfl rfl rfl Tryz.underlying39 sz83 hx20) fun a E=>pr 1 E rfl fun a E=>sv E rfl rfl rfl (x_ldRowV (d := k_api_Turn) (i := 2) (k := 1) E H k_api_Turn_flat hx23 rfl rfl rfl hx20 rfl Tryz.underlying2 rfl) fun a E=>pr 1 E rfl fun a E=>nt<|wp_seq_cut (fun a w => ∃ (v24 : Value) (l25 : (List S_api_Turn)) (rs26 : List Rp), Env 80 a [(9, .int .i64 x19.Next)] ∧ Sep w (Blk p1 105 [v2, v24, .int .i64 x6, .string s7, .string s8, .int .i64 x9, v10] :: Row 80 k_api_Node v2 l3 :: Row 83 k_api_Turn v24 l25 :: Row 9 kS v10 l11 :: Fo) rs26 ∧ (∀ r, r ∈ rs → r ∈ rs26) ∧ m_part_work_turn_2_j2 x19 l25 = some r) ?_ ?_
  ·refine wp_seq<|dw [(0, 0), (1, 0), (2, 0), (3, 0), (4, 0), (5, 0), (6, 0), (7, 0), (8, 1), (9, 2), (10, 2), (11, 2)] [0] [] H (by kernel_rfl) (fun _ _ _ h => False.elim h.2) fun w W0 hI H=>fn 4 E rfl fun a E=>fb E rfl (wn rfl) rfl rfl rfl rfl m0 rfl Tryz.underlying39 rfl fun a E=>fn 3 E rfl fun a E=>fr_op rfl<|bd hm fun u28 hx29 hm=>st_call E (wn rfl) rfl rfl (x_callv E rfl rfl rfl (cf136 _)) (c_part_work_put_2 x19.Next H hx29)<|?_
   rintro _ w ⟨rfl, H⟩ a E
   refine nt<|?_
   refine ⟨⟨_, _, H, (subO_cons m0 (subO_nil)), (sub_nil)⟩, ?_⟩
   refine fr_tail rfl<|bd hm fun x30 hx31 hm=>?_
   obtain ⟨p32, x33, hx34⟩ := H.rowformNE (i := 2) rfl hx31
   refine sv E rfl rfl rfl (x_ixRowV (d := k_api_Turn) E hx34 rfl rfl rfl rfl Tryz.underlying39 sz83 hx31) fun a E=>nt<|fr_tail rfl<|pr 1 E rfl fun a E=>nt<|fr_tail rfl<|st_stRowV (d := k_api_Turn) (i := 2) (k := 1) (z' := ({ x30 with Next := u28 } : S_api_Turn)) E H k_api_Turn_flat (wn rfl) rfl hx34 rfl rfl rfl rfl rfl rfl hx31 rfl rfl sz2 fun w H=>nt<|fr_nil<|?_
   clear hI
   refine q_then<|sq<|pr 4 E rfl fun a E=>lb E H 0 rfl rfl rfl rfl rfl rfl rfl Tryz.underlying39 rfl fun a E=>pr 1 E rfl fun a E=>bd hm fun x35 hx36 hm=>?_
   obtain ⟨p37, x38, hx39⟩ := H.rowformNE (i := 2) rfl hx36
   refine sv E rfl rfl rfl (x_ixRowV (d := k_api_Turn) E hx39 rfl rfl rfl rfl Tryz.underlying39 sz83 hx36) fun a E=>pr 1 E rfl fun a E=>sv E rfl rfl rfl (x_ldRowV (d := k_api_Turn) (i := 2) (k := 1) E H k_api_Turn_flat hx39 rfl rfl rfl hx36 rfl Tryz.underlying2 rfl) fun a E=>pr 1 E rfl fun a E=>nt<|wif E hm rfl (fun hm=>?_) fun hm=>?_
   ·refine wp_region_lit<|pr 5 E rfl fun a E=>lb E H 0 rfl rfl rfl rfl rfl rfl rfl Tryz.underlying39 rfl fun a E=>pr 3 E rfl fun a E=>bk hm fun hx41 hm=>st_call E (wn rfl) rfl rfl (x_call E rfl rfl (cf159 _)) (Tn.delete_c (ix := 2) H rfl hx41) fun v42 w H a E=>pr 3 E rfl fun a E=>?_
    obtain ⟨q43, x44, rfl⟩ := H.rowform (i := 2) rfl
    exact st_st (i := 0) E H (wn rfl) rfl (us := [(.slice q43 ((l16.set u13.1.toNat ({ x30 with Next := u28 } : S_api_Turn)).eraseIdx u13.1.toNat).length x44)]) rfl rfl rfl rfl rfl sz39 rfl rfl fun w H=>nt<|⟨(.slice q43 ((l16.set u13.1.toNat ({ x30 with Next := u28 } : S_api_Turn)).eraseIdx u13.1.toNat).length x44), (l16.set u13.1.toNat ({ x30 with Next := u28 } : S_api_Turn)).eraseIdx u13.1.toNat, _, E.sel [9] rfl, H, hs18, hm⟩
   ·exact wp_skip<|q_then<|⟨v15, l16.set u13.1.toNat ({ x30 with Next := u28 } : S_api_Turn), _, E.sel [9] rfl, H, hs18, hm⟩
  ·clear E H hm
   rintro a w ⟨v24, l25, rs26, E, H, hs27, hm⟩
   unfold m_part_work_turn_2_j2 at hm
   refine sq<|pr 2 E rfl fun a E=>nt<|wp_ret<|out1 E rfl rfl<|?_
   cases hm
   exact ⟨v24, rfl, H.reads (hs27)⟩

def m_part_work_put_j2 (u23 : Int × Bool) (l3 : List S_api_Node) (s17 : ByteArray) (x12 : S_api_Part) (x6 : Int) (s8 : ByteArray) (x9 : Int) (l11 : List ByteArray) (l28 : (List S_api_Turn)) : Option ((List S_api_Node) × (List S_api_Turn) × Int × ByteArray × ByteArray × Int × (List ByteArray)) :=
  (ck (0 ≤ u23.1 ∧ u23.1 ≤ l3.length ∧ l3.length ≤ 1000000)).bind fun u33 => some (l3.take u23.1.toNat ++ (⟨s17, x12.Data, 0, 0, x12.Owner⟩ : S_api_Node) :: l3.drop u23.1.toNat, l28, x6, s17, s8, x9, l11)
def m_part_work_put_j1 (l3 : List S_api_Node) (x12 : S_api_Part) (x6 : Int) (s8 : ByteArray) (x9 : Int) (l11 : List ByteArray) (s7 : ByteArray) (u15 : ByteArray × Bool) (s17 : ByteArray) (l19 : (List S_api_Turn)) : Option ((List S_api_Node) × (List S_api_Turn) × Int × ByteArray × ByteArray × Int × (List ByteArray)) :=
  (m_part_work_where l3 l19 x6 s7 s8 x9 l11 s17).bind fun u23 => if u23.2 = true then ((m_part_work_fail l3 l19 x6 s7 s8 x9 l11 61).bind fun u25 => some (l3, l19, u25, (ByteArray.mk #[]), (ByteArray.mk #[]), 0, [])) else (if x12.Turns = true then ((m_part_work_turn_2 l3 l19 x6 s7 s8 x9 l11 u15.1).bind fun u38 => m_part_work_put_j2 u23 l3 s17 x12 x6 s8 x9 l11 u38.2) else (m_part_work_put_j2 u23 l3 s17 x12 x6 s8 x9 l11 l19))
def m_part_work_put (l3 : List S_api_Node) (l5 : List S_api_Turn) (x6 : Int) (s7 : ByteArray) (s8 : ByteArray) (x9 : Int) (l11 : List ByteArray) (x12 : S_api_Part) : Option ((List S_api_Node) × (List S_api_Turn) × Int × ByteArray × ByteArray × Int × (List ByteArray)) :=
  (m_path_Parent x12.Path).bind fun u15 => if x12.Turns = true then ((m_part_work_turn_1b l3 l5 x6 s7 s8 x9 l11 u15.1).bind fun u41 => (m_path_Last x12.Path).bind fun u44 => (m_path_Numbered u44 u41.1).bind fun u46 => (m_path_Join u15.1 u46.1).bind fun u48 => if (!u46.2) = true then ((m_part_work_fail l3 u41.2 x6 s7 s8 x9 l11 66).bind fun u50 => some (l3, u41.2, u50, (ByteArray.mk #[]), (ByteArray.mk #[]), 0, [])) else (m_part_work_put_j1 l3 x12 x6 s8 x9 l11 s7 u15 u48.1 u41.2)) else (m_part_work_put_j1 l3 x12 x6 s8 x9 l11 s7 u15 x12.Path l5)
theorem c_part_work_put {w : World} {Fo : List Ob} {rs : List Rp} (p1 : Nat) (v2 : Value) (l3 : List S_api_Node) (v4 : Value) (l5 : List S_api_Turn) (x6 : Int) (s7 : ByteArray) (s8 : ByteArray) (x9 : Int) (v10 : Value) (l11 : List ByteArray) (x12 : S_api_Part) (H : Sep w (Blk p1 105 [v2, v4, .int .i64 x6, .string s7, .string s8, .int .i64 x9, v10] :: Row 80 k_api_Node v2 l3 :: Row 83 k_api_Turn v4 l5 :: Row 9 kS v10 l11 :: Fo) rs) (hr13 : rTab Tryz.prog ∈ rs) {r : (List S_api_Node) × (List S_api_Turn) × Int × ByteArray × ByteArray × Int × (List ByteArray)} (hm : m_part_work_put l3 l5 x6 s7 s8 x9 l11 x12 = some r) :
    Calls Tryz.prog 79 [pt p1 0, .agg (l_api_Part x12).toArray].toArray w (Ret fun v w' => ∃ (v5001 : Value) (v5003 : Value) (v5009 : Value), .tuple #[] = v ∧ Sep w' (Blk p1 105 [v5001, v5003, .int .i64 r.2.2.1, .string r.2.2.2.1, .string r.2.2.2.2.1, .int .i64 r.2.2.2.2.2.1, v5009] :: Row 80 k_api_Node v5001 r.1 :: Row 83 k_api_Turn v5003 r.2.1 :: Row 9 kS v5009 r.2.2.2.2.2.2 :: Fo) (rs)) := by
 unfold m_part_work_put at hm
 refine enter Tryz.func79 rfl Tryz.ntmps79 rfl fun a E =>?_
 simp only [enum, Nat.reduceAdd] at E
 refine sq<|st_box E H (wn rfl) rfl rfl (cs := (l_api_Part x12)) rfl rfl rfl fun p14 w a H E=>nx<|pr 1 E rfl fun a E=>lb E H 0 rfl rfl rfl rfl rfl rfl rfl Tryz.underlying9 rfl fun a E=>pr 1 E rfl fun a E=>nx<|pr 1 E rfl fun a E=>lb E H 0 rfl rfl rfl rfl rfl rfl rfl Tryz.underlying9 rfl fun a E=>?_
 refine bd hm fun u15 hx16 hm=>x_cl E rfl rfl rfl rfl rfl cf111 (c_path_Parent x12.Path H hx16)<|?_
 rintro _ w ⟨rfl, H⟩ a E
 refine pr 5 E rfl fun a E=>nt<|wp_seq_cut (fun a w => ∃ (v18 : Value) (s17 : ByteArray) (l19 : (List S_api_Turn)) (rs20 : List Rp), Env 80 a [(0, pt p1 0), (3, pt p14 0), (4, .string s17), (5, .string u15.1)] ∧ Sep w (Blk p1 105 [v2, v18, .int .i64 x6, .string s7, .string s8, .int .i64 x9, v10] :: Blk p14 62 (l_api_Part x12) :: Row 80 k_api_Node v2 l3 :: Row 83 k_api_Turn v18 l19 :: Row 9 kS v10 l11 :: Fo) rs20 ∧ (∀ r, r ∈ rs → r ∈ rs20) ∧ rTab Tryz.prog ∈ rs20 ∧ m_part_work_put_j1 l3 x12 x6 s8 x9 l11 s7 u15 s17 l19 = some r) ?_ ?_
 ·refine sq<|pr 1 E rfl fun a E=>lb E H 0 rfl rfl rfl rfl rfl rfl rfl Tryz.underlying4 rfl fun a E=>nt<|wif E hm rfl (fun hm=>?_) fun hm=>?_
  ·refine sq<|pr 2 E rfl fun a E=>have H:=H.front 0 rfl;have H:=H.front 4 rfl;have H:=H.front 4 rfl;have H:=H.front 4 rfl;have H:=H.front 4 rfl;bd hm fun u41 hx42 hm=>x_cl E rfl rfl rfl rfl rfl cf133 (c_part_work_turn_1b p1 v2 l3 v4 l5 x6 s7 s8 x9 v10 l11 u15.1 H hx42)<|?_
   rintro _ w ⟨v43, rfl, H⟩ a E
   refine pr 1 E rfl fun a E=>nx<|pr 1 E rfl fun a E=>lb E H 4 rfl rfl rfl rfl rfl rfl rfl Tryz.underlying9 rfl fun a E=>bd hm fun u44 hx45 hm=>x_cl E rfl rfl rfl rfl rfl cf119 (c_path_Last x12.Path H hx45)<|?_
   rintro _ w ⟨rfl, H⟩ a E
   refine pr 1 E rfl fun a E=>bd hm fun u46 hx47 hm=>x_cl E rfl rfl rfl rfl rfl cf118 (c_path_Numbered u44 u41.1 H hr13 hx47)<|?_
   rintro _ w ⟨rfl, H⟩ a E
   refine pr 5 E rfl fun a E=>nx<|pr 2 E rfl fun a E=>bd hm fun u48 hx49 hm=>x_cl E rfl rfl rfl rfl rfl cf120 (c_path_Join u15.1 u46.1 H hx49)<|?_
   rintro _ w ⟨rfl, H⟩ a E
   refine pr 4 E rfl fun a E=>nx<|pr 2 E rfl fun a E=>nt<|wif E hm rfl (fun hm=>?_) fun hm=>?_
   ·refine sq<|pr 1 E rfl fun a E=>bd hm fun u50 hx51 hm=>x_cl E rfl rfl rfl rfl rfl cf132 (c_part_work_fail p1 v2 l3 v43 u41.2 x6 s7 s8 x9 v10 l11 66 H hx51)<|?_
    rintro _ w ⟨rfl, H⟩ a E
    refine nt<|wp_ret<|q_thenR<|out0r E rfl<|have H:=H.nilRow 9 kS;have H:=H.drop 4;have H:=H.front 0 rfl;have H:=H.front 3 rfl;have H:=H.front 3 rfl;?_
    refine have H:=H.front 3 rfl;?_
    cases hm
    exact ⟨v2, v43, (.slice none 0 0), rfl, H.reads (fun r hr => hr)⟩
   ·exact wp_skip<|q_then<|have H:=H.front 3 rfl;have H:=H.front 3 rfl;have H:=H.front 3 rfl;have H:=H.front 4 rfl;have H:=H.front 4 rfl;⟨v43, u48.1, u41.2, _, E.sel [0, 3, 4, 5] rfl, H, fun r hr => hr, hr13, hm⟩
  ·exact wp_skip<|q_then<|have H:=H.front 4 rfl;have H:=H.front 4 rfl;have H:=H.front 4 rfl;have H:=H.front 3 rfl;have H:=H.front 4 rfl;⟨v4, x12.Path, l5, _, E.sel [0, 3, 4, 5] rfl, H, fun r hr => hr, hr13, hm⟩
 ·clear E H hm
  rintro a w ⟨v18, s17, l19, rs20, E, H, hs21, hr22, hm⟩
  unfold m_part_work_put_j1 at hm
  refine sq<|pr 2 E rfl fun a E=>have H:=H.front 1 rfl;have H:=H.front 4 rfl;have H:=H.front 4 rfl;have H:=H.front 4 rfl;have H:=H.front 4 rfl;bd hm fun u23 hx24 hm=>x_cl E rfl rfl rfl rfl rfl cf135 (c_part_work_where p1 v2 l3 v18 l19 x6 s7 s8 x9 v10 l11 s17 H hx24)<|?_
  rintro _ w ⟨rfl, H⟩ a E
  refine pr 5 E rfl fun a E=>nt<|wp_seq<|sq<|pr 1 E rfl fun a E=>nt<|wif E hm rfl (fun hm=>?_) fun hm=>?_
  ·refine sq<|pr 1 E rfl fun a E=>bd hm fun u25 hx26 hm=>x_cl E rfl rfl rfl rfl rfl cf132 (c_part_work_fail p1 v2 l3 v18 l19 x6 s7 s8 x9 v10 l11 61 H hx26)<|?_
   rintro _ w ⟨rfl, H⟩ a E
   refine nt<|wp_ret<|q_thenR<|out0r E rfl<|have H:=H.nilRow 9 kS;have H:=H.drop 4;have H:=H.front 0 rfl;have H:=H.front 3 rfl;have H:=H.front 3 rfl;?_
   refine have H:=H.front 3 rfl;?_
   cases hm
   exact ⟨v2, v18, (.slice none 0 0), rfl, H.reads (hs21)⟩
  ·refine wp_skip<|q_then<|wp_seq_cut (fun a w => ∃ (v27 : Value) (l28 : (List S_api_Turn)) (rs29 : List Rp), Env 80 a [(0, pt p1 0), (3, pt p14 0), (4, .string s17), (10, .int .i64 u23.1)] ∧ Sep w (Blk p1 105 [v2, v27, .int .i64 x6, .string s7, .string s8, .int .i64 x9, v10] :: Blk p14 62 (l_api_Part x12) :: Row 80 k_api_Node v2 l3 :: Row 83 k_api_Turn v27 l28 :: Row 9 kS v10 l11 :: Fo) rs29 ∧ (∀ r, r ∈ rs → r ∈ rs29) ∧ rTab Tryz.prog ∈ rs29 ∧ m_part_work_put_j2 u23 l3 s17 x12 x6 s8 x9 l11 l28 = some r) ?_ ?_
   ·refine sq<|pr 1 E rfl fun a E=>lb E H 4 rfl rfl rfl rfl rfl rfl rfl Tryz.underlying4 rfl fun a E=>nt<|wif E hm rfl (fun hm=>?_) fun hm=>?_
    ·refine wp_region_lit<|pr 2 E rfl fun a E=>bd hm fun u38 hx39 hm=>x_cl E rfl rfl rfl rfl rfl cf133 (c_part_work_turn_2 p1 v2 l3 v18 l19 x6 s7 s8 x9 v10 l11 u15.1 H hx39)<|?_
     rintro _ w ⟨v40, rfl, H⟩ a E
     exact nt<|have H:=H.front 3 rfl;have H:=H.front 3 rfl;have H:=H.front 3 rfl;have H:=H.front 4 rfl;have H:=H.front 4 rfl;⟨v40, u38.2, _, E.sel [0, 3, 4, 10] rfl, H, hs21, hr22, hm⟩
    ·exact wp_skip<|q_then<|have H:=H.front 3 rfl;have H:=H.front 3 rfl;have H:=H.front 3 rfl;have H:=H.front 4 rfl;have H:=H.front 4 rfl;⟨v18, l19, _, E.sel [0, 3, 4, 10] rfl, H, hs21, hr22, hm⟩
   ·clear E H hm
    rintro a w ⟨v27, l28, rs29, E, H, hs30, hr31, hm⟩
    unfold m_part_work_put_j2 at hm
    refine wp_seq<|dw [(0, 0), (1, 0), (2, 0), (3, 0), (4, 0), (5, 0), (6, 0), (7, 0), (8, 0), (9, 0), (10, 0), (11, 0), (12, 0), (13, 1), (14, 1), (15, 2), (16, 2), (17, 2), (18, 2)] [0, 1] [] H (by kernel_rfl) (fun _ _ _ h => False.elim h.2) fun w W0 hI H=>fn 5 E rfl fun a E=>fb E rfl (wn rfl) rfl rfl rfl rfl m0 rfl Tryz.underlying22 rfl fun a E=>fn 3 E rfl fun a E=>fb E rfl (wn rfl) rfl rfl rfl rfl mm1 rfl Tryz.underlying9 rfl fun a E=>fn 1 E rfl fun a E=>fb E rfl (wn rfl) rfl rfl rfl rfl mm1 rfl Tryz.underlying2 rfl fun a E=>fr_val E rfl (wn rfl) rfl rfl (fun w hW=>(x_build E rfl (E.evs rfl) (v := .agg #[.string s17, .string x12.Data, .int .i64 0, .int .i64 0, .int .i64 x12.Owner]) (by kernel_rfl))) fun a E=>?_
    refine fr_op rfl<|st_bsO (e := 80) (d := k_api_Node) (cs := [.string s17, .string x12.Data, .int .i64 0, .int .i64 0, .int .i64 x12.Owner]) (xs := [(⟨s17, x12.Data, 0, 0, x12.Owner⟩ : S_api_Node)]) E H (wn rfl) rfl rfl rfl (E.evs rfl) (by kernel_rfl) rfl rfl (fun ok hr => (Rows.single (d := k_api_Node) (cs := [.string s17, .string x12.Data, .int .i64 0, .int .i64 0, .int .i64 x12.Owner]) (x := (⟨s17, x12.Data, 0, 0, x12.Owner⟩ : S_api_Node)) k_api_Node_mk)) fun v32 w a H E=>nt<|?_
    refine ⟨⟨_, _, H, (subO_cons mm1 (subO_cons mm2 (subO_nil))), (sub_nil)⟩, ?_⟩
    refine fr_op rfl<|bk hm fun hx34 hm=>st_call E (wn rfl) rfl rfl (x_call E rfl rfl (cf121 _)) (insert_a (ix := 3) (iu := 0) H rfl rfl (by decide) hx34) fun v35 w H a E=>nt<|?_
    refine ⟨⟨_, _, H, (subO_cons mm1 (subO_cons mm2 (subO_nil))), (sub_nil)⟩, ?_⟩
    refine fr_tail rfl<|pr 1 E rfl fun a E=>nt<|fr_tail rfl<|pr 1 E rfl fun a E=>nt<|fr_tail rfl<|pr 1 E rfl fun a E=>nt<|?_
    refine fr_tail rfl<|?_
    obtain ⟨q36, x37, rfl⟩ := H.rowform (i := 3) rfl
    refine st_st (i := 1) E H (wn rfl) rfl (us := [(.slice q36 (l3.take u23.1.toNat ++ (⟨s17, x12.Data, 0, 0, x12.Owner⟩ : S_api_Node) :: l3.drop u23.1.toNat).length x37)]) rfl rfl rfl rfl rfl sz22 rfl rfl fun w H=>nt<|fr_nil<|?_
    clear hI
    refine q_then<|wp_region_lit<|pr 5 E rfl fun a E=>st_st (i := 1) E H (wn rfl) rfl (us := [.string s17]) rfl rfl rfl rfl rfl sz9 rfl rfl fun w H=>wpList_nil<|out0 E rfl<|have H:=H.drop 0;have H:=H.drop 1;?_
    cases hm
    exact ⟨(.slice q36 (l3.take u23.1.toNat ++ (⟨s17, x12.Data, 0, 0, x12.Owner⟩ : S_api_Node) :: l3.drop u23.1.toNat).length x37), v27, v10, rfl, H.reads (hs30)⟩

def m_part_work_read (l3 : List S_api_Node) (l5 : List S_api_Turn) (x6 : Int) (s7 : ByteArray) (s8 : ByteArray) (x9 : Int) (l11 : List ByteArray) (x12 : S_api_Part) : Option (Int × ByteArray × ByteArray × Int × (List ByteArray)) :=
  (m_part_work_node l3 l5 x6 s7 s8 x9 l11 x12).bind fun u14 => if (decide (0 ≤ u14.1)) = true then ((idx l3 u14.1).bind fun x17 => some (u14.2.1, u14.2.2.1, x17.Data, x17.Version, u14.2.2.2.2.2)) else (some (u14.2.1, u14.2.2.1, u14.2.2.2.1, u14.2.2.2.2.1, u14.2.2.2.2.2))
theorem c_part_work_read {w : World} {Fo : List Ob} {rs : List Rp} (p1 : Nat) (v2 : Value) (l3 : List S_api_Node) (v4 : Value) (l5 : List S_api_Turn) (x6 : Int) (s7 : ByteArray) (s8 : ByteArray) (x9 : Int) (v10 : Value) (l11 : List ByteArray) (x12 : S_api_Part) (H : Sep w (Blk p1 105 [v2, v4, .int .i64 x6, .string s7, .string s8, .int .i64 x9, v10] :: Row 80 k_api_Node v2 l3 :: Row 83 k_api_Turn v4 l5 :: Row 9 kS v10 l11 :: Fo) rs) {r : Int × ByteArray × ByteArray × Int × (List ByteArray)} (hm : m_part_work_read l3 l5 x6 s7 s8 x9 l11 x12 = some r) :
    Calls Tryz.prog 84 [pt p1 0, .agg (l_api_Part x12).toArray].toArray w (Ret fun v w' => ∃ (v5005 : Value), .tuple #[] = v ∧ Sep w' (Blk p1 105 [v2, v4, .int .i64 r.1, .string r.2.1, .string r.2.2.1, .int .i64 r.2.2.2.1, v5005] :: Row 80 k_api_Node v2 l3 :: Row 83 k_api_Turn v4 l5 :: Row 9 kS v5005 r.2.2.2.2 :: Fo) (rs)) := by
 unfold m_part_work_read at hm
 refine enter Tryz.func84 rfl Tryz.ntmps84 rfl fun a E =>?_
 simp only [enum, Nat.reduceAdd] at E
 refine sq<|st_box E H (wn rfl) rfl rfl (cs := (l_api_Part x12)) rfl rfl rfl fun p13 w a H E=>nx<|pr 1 E rfl fun a E=>sv E rfl rfl rfl (x_ldBN (i := 0) (us := (l_api_Part x12)) E H rfl rfl rfl rfl Tryz.underlying62 rfl sz62) fun a E=>have H:=H.front 0 rfl;have H:=H.front 4 rfl;have H:=H.front 4 rfl;have H:=H.front 4 rfl;?_
 refine have H:=H.front 4 rfl;bd hm fun u14 hx15 hm=>x_cl E rfl rfl rfl rfl rfl cf131 (c_part_work_node p1 v2 l3 v4 l5 x6 s7 s8 x9 v10 l11 x12 H hx15)<|?_
 rintro _ w ⟨v16, rfl, H⟩ a E
 refine pr 1 E rfl fun a E=>nx<|pr 1 E rfl fun a E=>sv E rfl rfl rfl (x_orpN E oq138 oz138 rfl rfl rfl) fun a E=>nt<|wif E hm rfl (fun hm=>?_) fun hm=>?_
 ·refine dw [(0, 0), (1, 0), (2, 0), (3, 0), (4, 0), (5, 0), (6, 0), (7, 0), (8, 0), (9, 0), (10, 0), (11, 0), (12, 0), (13, 1), (14, 2), (15, 2), (16, 2), (17, 2)] [1] [] H (by kernel_rfl) (fun _ _ _ h => False.elim h.2) fun w W0 hI H=>fn 3 E rfl fun a E=>bd hm fun x17 hx18 hm=>?_
  obtain ⟨p19, x20, hx21⟩ := H.rowformNE (i := 1) rfl hx18
  rw [orp_rp 5 hx21 hx18] at E
  refine fn 2 E rfl fun a E=>fr_val E rfl (wn rfl) rfl rfl (fun w hW=>x_ldRowI (d := k_api_Node) (k := 1) E k_api_Node_flat hx21 hx18 m0 rfl rfl rfl Tryz.underlying9 rfl hW) fun a E=>?_
  refine fn 3 E rfl fun a E=>fr_val E rfl (wn rfl) rfl rfl (fun w hW=>x_ldRowI (d := k_api_Node) (k := 2) E k_api_Node_flat hx21 hx18 m0 rfl rfl rfl Tryz.underlying2 rfl hW) fun a E=>?_
  refine fn 3 E rfl fun a E=>fr_op rfl<|st_st (i := 0) E H (wn rfl) rfl (us := [.string x17.Data]) rfl rfl rfl rfl rfl sz9 rfl rfl fun w H=>nt<|?_
  refine ⟨⟨_, _, H, (subO_cons mm1 (subO_nil)), (sub_nil)⟩, ?_⟩
  refine fr_tail rfl<|pr 1 E rfl fun a E=>nt<|fr_tail rfl<|pr 1 E rfl fun a E=>nt<|fr_tail rfl<|pr 1 E rfl fun a E=>nt<|?_
  refine fr_tail rfl<|st_st (i := 0) E H (wn rfl) rfl (us := [.int .i64 x17.Version]) rfl rfl rfl rfl rfl sz2 rfl rfl fun w H=>nt<|fr_nil<|?_
  clear hI
  refine out0 E rfl<|have H:=H.drop 4;?_
  cases hm
  exact ⟨v16, rfl, H.reads (fun r hr => hr)⟩
 ·refine wp_skip<|out0 E rfl<|have H:=H.drop 4;?_
  cases hm
  exact ⟨v16, rfl, H.reads (fun r hr => hr)⟩

def m_part_work_remove (l3 : List S_api_Node) (l5 : List S_api_Turn) (x6 : Int) (s7 : ByteArray) (s8 : ByteArray) (x9 : Int) (l11 : List ByteArray) (x12 : S_api_Part) : Option ((List S_api_Node) × Int × ByteArray × ByteArray × Int × (List ByteArray)) :=
  (m_part_work_node l3 l5 x6 s7 s8 x9 l11 x12).bind fun u14 => if (decide (0 ≤ u14.1)) = true then ((m_part_work_where l3 l5 u14.2.1 u14.2.2.1 u14.2.2.2.1 u14.2.2.2.2.1 u14.2.2.2.2.2 x12.Path).bind fun u17 => (ck (0 ≤ u17.1 ∧ u17.1 < l3.length ∧ IntKind.i64.wrap (u17.1 + 1) = u17.1 + 1)).bind fun u19 => some (l3.eraseIdx u17.1.toNat, u14.2.1, u14.2.2.1, u14.2.2.2.1, u14.2.2.2.2.1, u14.2.2.2.2.2)) else (some (l3, u14.2.1, u14.2.2.1, u14.2.2.2.1, u14.2.2.2.2.1, u14.2.2.2.2.2))
theorem c_part_work_remove {w : World} {Fo : List Ob} {rs : List Rp} (p1 : Nat) (v2 : Value) (l3 : List S_api_Node) (v4 : Value) (l5 : List S_api_Turn) (x6 : Int) (s7 : ByteArray) (s8 : ByteArray) (x9 : Int) (v10 : Value) (l11 : List ByteArray) (x12 : S_api_Part) (H : Sep w (Blk p1 105 [v2, v4, .int .i64 x6, .string s7, .string s8, .int .i64 x9, v10] :: Row 80 k_api_Node v2 l3 :: Row 83 k_api_Turn v4 l5 :: Row 9 kS v10 l11 :: Fo) rs) {r : (List S_api_Node) × Int × ByteArray × ByteArray × Int × (List ByteArray)} (hm : m_part_work_remove l3 l5 x6 s7 s8 x9 l11 x12 = some r) :
    Calls Tryz.prog 80 [pt p1 0, .agg (l_api_Part x12).toArray].toArray w (Ret fun v w' => ∃ (v5001 : Value) (v5007 : Value), .tuple #[] = v ∧ Sep w' (Blk p1 105 [v5001, v4, .int .i64 r.2.1, .string r.2.2.1, .string r.2.2.2.1, .int .i64 r.2.2.2.2.1, v5007] :: Row 80 k_api_Node v5001 r.1 :: Row 83 k_api_Turn v4 l5 :: Row 9 kS v5007 r.2.2.2.2.2 :: Fo) (rs)) := by
 unfold m_part_work_remove at hm
 refine enter Tryz.func80 rfl Tryz.ntmps80 rfl fun a E =>?_
 simp only [enum, Nat.reduceAdd] at E
 refine sq<|st_box E H (wn rfl) rfl rfl (cs := (l_api_Part x12)) rfl rfl rfl fun p13 w a H E=>nx<|pr 1 E rfl fun a E=>sv E rfl rfl rfl (x_ldBN (i := 0) (us := (l_api_Part x12)) E H rfl rfl rfl rfl Tryz.underlying62 rfl sz62) fun a E=>have H:=H.front 0 rfl;have H:=H.front 4 rfl;have H:=H.front 4 rfl;have H:=H.front 4 rfl;?_
 refine have H:=H.front 4 rfl;bd hm fun u14 hx15 hm=>x_cl E rfl rfl rfl rfl rfl cf131 (c_part_work_node p1 v2 l3 v4 l5 x6 s7 s8 x9 v10 l11 x12 H hx15)<|?_
 rintro _ w ⟨v16, rfl, H⟩ a E
 refine sv E rfl rfl rfl (x_orpN E oq138 oz138 rfl rfl rfl) fun a E=>nt<|wif E hm rfl (fun hm=>?_) fun hm=>?_
 ·refine sq<|pr 2 E rfl fun a E=>lb E H 4 rfl rfl rfl rfl rfl rfl rfl Tryz.underlying9 rfl fun a E=>bd hm fun u17 hx18 hm=>x_cl E rfl rfl rfl rfl rfl cf135 (c_part_work_where p1 v2 l3 v4 l5 u14.2.1 u14.2.2.1 u14.2.2.2.1 u14.2.2.2.2.1 v16 u14.2.2.2.2.2 x12.Path H hx18)<|?_
  rintro _ w ⟨rfl, H⟩ a E
  refine pr 5 E rfl fun a E=>nt<|wp_region_lit<|pr 5 E rfl fun a E=>lb E H 0 rfl rfl rfl rfl rfl rfl rfl Tryz.underlying22 rfl fun a E=>pr 3 E rfl fun a E=>bk hm fun hx20 hm=>st_call E (wn rfl) rfl rfl (x_call E rfl rfl (cf126 _)) (delete_c (ix := 1) H rfl hx20) fun v21 w H a E=>pr 3 E rfl fun a E=>?_
  obtain ⟨q22, x23, rfl⟩ := H.rowform (i := 1) rfl
  refine st_st (i := 0) E H (wn rfl) rfl (us := [(.slice q22 (l3.eraseIdx u17.1.toNat).length x23)]) rfl rfl rfl rfl rfl sz22 rfl rfl fun w H=>wpList_nil<|out0 E rfl<|have H:=H.drop 4;?_
  cases hm
  exact ⟨(.slice q22 (l3.eraseIdx u17.1.toNat).length x23), v16, rfl, H.reads (fun r hr => hr)⟩
 ·refine wp_skip<|out0 E rfl<|have H:=H.drop 4;?_
  cases hm
  exact ⟨v2, v16, rfl, H.reads (fun r hr => hr)⟩

def m_part_Do_j2 (x1 : S_api_Store) (l35 : (List S_api_Node)) (l37 : (List S_api_Turn)) (x38 : Int) (s39 : ByteArray) (s40 : ByteArray) (x41 : Int) (l43 : (List ByteArray)) : Option (S_api_Store × S_api_Result) :=
  if (x38 != 0) = true then (some (x1, (⟨x38, s39, s40, x41, l43⟩ : S_api_Result))) else (some ((⟨l35, l37⟩ : S_api_Store), (⟨x38, s39, s40, x41, l43⟩ : S_api_Result)))
def m_part_Do_j1 (x1 : S_api_Store) (x4 : S_api_Part) (b17 : Bool) : Option (S_api_Store × S_api_Result) :=
  if b17 = true then (some ((⟨[], []⟩ : S_api_Store), (⟨1, (ByteArray.mk #[]), (ByteArray.mk #[]), 0, []⟩ : S_api_Result))) else ((ck (x1.Nodes.length ≤ LIM)).bind fun u24 => (ck (x1.Turns.length ≤ LIM)).bind fun u27 => if (x4.Kind == 1) = true then ((m_part_work_guard x1.Nodes x1.Turns 0 (ByteArray.mk #[]) (ByteArray.mk #[]) 0 [] x4).bind fun u99 => m_part_Do_j2 x1 x1.Nodes x1.Turns u99.1 u99.2.1 u99.2.2.1 u99.2.2.2.1 u99.2.2.2.2) else (if (x4.Kind == 2) = true then ((m_part_work_put x1.Nodes x1.Turns 0 (ByteArray.mk #[]) (ByteArray.mk #[]) 0 [] x4).bind fun u93 => m_part_Do_j2 x1 u93.1 u93.2.1 u93.2.2.1 u93.2.2.2.1 u93.2.2.2.2.1 u93.2.2.2.2.2.1 u93.2.2.2.2.2.2) else (if (x4.Kind == 3) = true then ((m_part_work_remove x1.Nodes x1.Turns 0 (ByteArray.mk #[]) (ByteArray.mk #[]) 0 [] x4).bind fun u88 => m_part_Do_j2 x1 u88.1 x1.Turns u88.2.1 u88.2.2.1 u88.2.2.2.1 u88.2.2.2.2.1 u88.2.2.2.2.2) else (if (x4.Kind == 4) = true then ((m_part_work_empty x1.Nodes x1.Turns 0 (ByteArray.mk #[]) (ByteArray.mk #[]) 0 [] x4).bind fun u83 => m_part_Do_j2 x1 x1.Nodes u83.1 u83.2.1 u83.2.2.1 u83.2.2.2.1 u83.2.2.2.2.1 u83.2.2.2.2.2) else (if (x4.Kind == 5) = true then ((m_part_work_alter x1.Nodes x1.Turns 0 (ByteArray.mk #[]) (ByteArray.mk #[]) 0 [] x4).bind fun u79 => m_part_Do_j2 x1 u79.1 x1.Turns u79.2.1 u79.2.2.1 u79.2.2.2.1 u79.2.2.2.2.1 u79.2.2.2.2.2) else (if (x4.Kind == 6) = true then ((m_part_work_look x1.Nodes x1.Turns 0 (ByteArray.mk #[]) (ByteArray.mk #[]) 0 [] x4).bind fun u75 => m_part_Do_j2 x1 x1.Nodes x1.Turns u75.1 u75.2.1 u75.2.2.1 u75.2.2.2.1 u75.2.2.2.2) else (if (x4.Kind == 7) = true then ((m_part_work_read x1.Nodes x1.Turns 0 (ByteArray.mk #[]) (ByteArray.mk #[]) 0 [] x4).bind fun u71 => m_part_Do_j2 x1 x1.Nodes x1.Turns u71.1 u71.2.1 u71.2.2.1 u71.2.2.2.1 u71.2.2.2.2) else (if (x4.Kind == 8) = true then ((m_part_work_has x1.Nodes x1.Turns 0 (ByteArray.mk #[]) (ByteArray.mk #[]) 0 [] x4).bind fun u67 => m_part_Do_j2 x1 x1.Nodes x1.Turns u67.1 u67.2.1 u67.2.2.1 u67.2.2.2.1 u67.2.2.2.2) else (if (x4.Kind == 9) = true then ((m_part_work_names x1.Nodes x1.Turns 0 (ByteArray.mk #[]) (ByteArray.mk #[]) 0 [] x4).bind fun u63 => m_part_Do_j2 x1 x1.Nodes x1.Turns 0 (ByteArray.mk #[]) (ByteArray.mk #[]) 0 u63) else (if (x4.Kind == 10) = true then ((m_part_work_clear x1.Nodes x1.Turns 0 (ByteArray.mk #[]) (ByteArray.mk #[]) 0 [] x4).bind fun u58 => m_part_Do_j2 x1 u58.1 x1.Turns 0 (ByteArray.mk #[]) (ByteArray.mk #[]) 0 u58.2) else none))))))))))
def m_part_Do (x1 : S_api_Store) (x4 : S_api_Part) : Option (S_api_Store × S_api_Result) :=
  (m_part_Right x1).bind fun u102 => if (!u102) = true then (m_part_Do_j1 x1 x4 true) else ((m_part_May x4).bind fun u105 => m_part_Do_j1 x1 x4 (!u105))
theorem c_part_Do {w : World} {Fo : List Ob} {rs : List Rp} (x1 : S_api_Store) (v2 : Value) (v3 : Value) (x4 : S_api_Part) (H : Sep w (Fo) rs) (hr5 : rSl k_api_Node v2 x1.Nodes ∈ rs) (hr6 : rSl k_api_Turn v3 x1.Turns ∈ rs) (hr7 : rTab Tryz.prog ∈ rs) {r : S_api_Store × S_api_Result} (hm : m_part_Do x1 x4 = some r) :
    Calls Tryz.prog 42 [.agg #[v2, v3], .agg (l_api_Part x4).toArray].toArray w (Ret fun v w' => ∃ (v5002 : Value) (v5003 : Value) (v5005 : Value), .tuple #[.agg #[v5002, v5003], .agg (l_api_Result r.2 v5005).toArray] = v ∧ Sep w' (Fo) (rSl k_api_Node v5002 r.1.Nodes :: rSl k_api_Turn v5003 r.1.Turns :: rSl kS v5005 r.2.Names :: rs)) := by
 unfold m_part_Do at hm
 refine enter Tryz.func42 rfl Tryz.ntmps42 rfl fun a E =>?_
 simp only [enum, Nat.reduceAdd] at E
 refine sq<|?_
 obtain ⟨q9, x10, rfl⟩ := H.slform hr5
 obtain ⟨q11, x12, rfl⟩ := H.slform hr6
 refine st_box E H (wn rfl) rfl rfl (cs := [(.slice q9 x1.Nodes.length x10), (.slice q11 x1.Turns.length x12)]) rfl rfl rfl fun p8 w a H E=>st_box E H (wn rfl) rfl rfl (cs := (l_api_Part x4)) rfl rfl rfl fun p13 w a H E=>al E H rfl rfl rfl rfl zr41 fun p14 w a H E=>al E H rfl rfl rfl rfl zr51 fun p15 w a H E=>nx<|sv E rfl rfl rfl (x_build E rfl (E.evs rfl) (v := .agg #[.nilFunc, .func (.func 78) #[] #[], .func (.func 79) #[] #[], .func (.func 80) #[] #[], .func (.func 81) #[] #[], .func (.func 82) #[] #[], .func (.func 83) #[] #[], .func (.func 84) #[] #[], .func (.func 85) #[] #[], .func (.func 86) #[] #[], .func (.func 87) #[] #[]]) (by kernel_rfl)) fun a E=>al E H rfl rfl rfl rfl zr101 fun p16 w a H E=>st_st (i := 0) E H (wn rfl) rfl (us := [.nilFunc, .func (.func 78) #[] #[], .func (.func 79) #[] #[], .func (.func 80) #[] #[], .func (.func 81) #[] #[], .func (.func 82) #[] #[], .func (.func 83) #[] #[], .func (.func 84) #[] #[], .func (.func 85) #[] #[], .func (.func 86) #[] #[], .func (.func 87) #[] #[]]) rfl rfl rfl rfl rfl sz101 rfl rfl fun w H=>nt<|?_
 refine wp_seq<|wp_seq_cut (fun a w => ∃ (b17 : Bool) (rs18 : List Rp), Env 54 a [(2, pt p8 0), (3, pt p13 0), (4, pt p14 0), (5, pt p15 0), (6, pt p16 0), (16, .bool b17)] ∧ Sep w (Blk p8 41 [(.slice q9 x1.Nodes.length x10), (.slice q11 x1.Turns.length x12)] :: Blk p13 62 (l_api_Part x4) :: Blk p14 41 [.slice none 0 0, .slice none 0 0] :: Blk p15 51 z_api_Result :: Blk p16 101 [.nilFunc, .func (.func 78) #[] #[], .func (.func 79) #[] #[], .func (.func 80) #[] #[], .func (.func 81) #[] #[], .func (.func 82) #[] #[], .func (.func 83) #[] #[], .func (.func 84) #[] #[], .func (.func 85) #[] #[], .func (.func 86) #[] #[], .func (.func 87) #[] #[]] :: Fo) rs18 ∧ (∀ r, r ∈ rs → r ∈ rs18) ∧ rSl k_api_Node (.slice q9 x1.Nodes.length x10) x1.Nodes ∈ rs18 ∧ rSl k_api_Turn (.slice q11 x1.Turns.length x12) x1.Turns ∈ rs18 ∧ rTab Tryz.prog ∈ rs18 ∧ m_part_Do_j1 x1 x4 b17 = some r) ?_ ?_
 ·refine wp_region_lit<|sv E rfl rfl rfl (x_ldBN (i := 4) (us := [(.slice q9 x1.Nodes.length x10), (.slice q11 x1.Turns.length x12)]) E H rfl rfl rfl rfl Tryz.underlying41 rfl sz41) fun a E=>bd hm fun u102 hx103 hm=>x_cl E rfl rfl rfl rfl rfl cf44 (c_part_Right x1 (.slice q9 x1.Nodes.length x10) (.slice q11 x1.Turns.length x12) H hr5 hr6 hx103)<|?_
  rintro _ w ⟨rfl, H⟩ a E
  refine pr 2 E rfl fun a E=>cs hm (fun hb104 hm=>?_) fun hb104 hm=>?_
  ·exact pk 4 E (kc 12 rfl hb104) rfl fun a E=>nt<|have H:=H.front 0 rfl;have H:=H.front 1 rfl;have H:=H.front 2 rfl;have H:=H.front 3 rfl;have H:=H.front 4 rfl;⟨true, _, E.sel [2, 3, 4, 5, 6, 16] rfl, H, fun r hr => hr, hr5, hr6, hr7, hm⟩
  ·refine st_val E (ws' (d := 12) E rfl rfl rfl rfl hb104) rfl rfl (x_ldBN (i := 3) (us := (l_api_Part x4)) E H rfl rfl rfl rfl Tryz.underlying62 rfl sz62) fun a E=>bd hm fun u105 hx106 hm=>st_call E (ws' (d := 12) E rfl rfl rfl rfl hb104) rfl rfl (x_call E rfl rfl (cf38 _)) (c_part_May x4 H hx106)<|?_
   rintro _ w ⟨rfl, H⟩ a E
   exact pk 2 E (kc 12 rfl hb104) rfl fun a E=>nt<|have H:=H.front 0 rfl;have H:=H.front 1 rfl;have H:=H.front 2 rfl;have H:=H.front 3 rfl;have H:=H.front 4 rfl;⟨!u105, _, E.sel [2, 3, 4, 5, 6, 16] rfl, H, fun r hr => hr, hr5, hr6, hr7, hm⟩
 ·clear E H hm
  rintro a w ⟨b17, rs18, E, H, hs19, hr20, hr21, hr22, hm⟩
  unfold m_part_Do_j1 at hm
  refine wif E hm rfl (fun hm=>?_) fun hm=>?_
  ·refine sq<|sv E rfl rfl rfl (x_build E rfl (E.evs rfl) (v := .agg #[.slice none 0 0, .slice none 0 0]) (by kernel_rfl)) fun a E=>sv E rfl rfl rfl (x_build E rfl (E.evs rfl) (v := .agg #[.int .i64 1, .string (ByteArray.mk #[]), .string (ByteArray.mk #[]), .int .i64 0, .slice none 0 0]) (by kernel_rfl)) fun a E=>st_st (i := 2) E H (wn rfl) rfl (us := [.slice none 0 0, .slice none 0 0]) rfl rfl rfl rfl rfl sz41 rfl rfl fun w H=>st_st (i := 3) E H (wn rfl) rfl (us := [.int .i64 1, .string (ByteArray.mk #[]), .string (ByteArray.mk #[]), .int .i64 0, .slice none 0 0]) rfl rfl rfl rfl rfl sz51 rfl rfl fun w H=>nt<|wp_ret<|q_thenR<|outR2 E rfl (rvBN (i := 2) (us := [.slice none 0 0, .slice none 0 0]) H rfl rfl rfl Tryz.underlying41 rfl sz41) (rvBN (i := 3) (us := [.int .i64 1, .string (ByteArray.mk #[]), .string (ByteArray.mk #[]), .int .i64 0, .slice none 0 0]) H rfl rfl rfl Tryz.underlying51 rfl sz51)<|?_
   refine have H:=H.nilSl k_api_Node;have H:=H.nilSl k_api_Turn;have H:=H.nilSl kS;have H:=H.drop 0;have H:=H.drop 0;have H:=H.drop 0;have H:=H.drop 0;have H:=H.drop 0;?_
   cases hm
   exact ⟨(.slice none 0 0), (.slice none 0 0), (.slice none 0 0), rfl, H.reads (sub_cons mm2 (sub_cons mm1 (sub_cons m0 (fun r hr => (t3 (hs19 r hr))))))⟩
  ·refine wp_skip<|q_then<|wp_seq<|dw [(0, 0), (1, 0), (3, 0), (4, 0), (2, 1), (5, 1), (6, 0), (7, 0), (8, 1), (9, 2)] [0] [] H (by kernel_rfl) (fun _ _ _ h => False.elim h.2) fun w W0 hI H=>fn 1 E rfl fun a E=>fb E rfl (wn rfl) rfl rfl rfl rfl m0 rfl Tryz.underlying22 rfl fun a E=>fn 1 E rfl fun a E=>fb E rfl (wn rfl) rfl rfl rfl rfl m0 rfl Tryz.underlying39 rfl fun a E=>fr_op rfl<|?_
   refine bk hm fun hx25 hm=>st_call E (wn rfl) rfl rfl (x_call E rfl rfl (cf88 _)) (lib_slices_Clone_api_Node_api_Node_rd H hr20 hx25) fun v23 w H a E=>nt<|?_
   refine ⟨⟨_, _, H, (subO_cons mm1 (subO_nil)), (sub_nil)⟩, ?_⟩
   refine fr_op rfl<|bk hm fun hx28 hm=>st_call E (wn rfl) rfl rfl (x_call E rfl rfl (cf89 _)) (lib_slices_Clone_api_Turn_api_Turn_rd H hr21 hx28) fun v26 w H a E=>nt<|?_
   refine ⟨⟨_, _, H, (subO_cons mm2 (subO_nil)), (sub_nil)⟩, ?_⟩
   obtain ⟨q29, x30, rfl⟩ := H.rowform (i := 1) rfl
   obtain ⟨q31, x32, rfl⟩ := H.rowform (i := 0) rfl
   refine fr_val E rfl (wn rfl) rfl rfl (fun w hW=>(x_build E rfl (E.evs rfl) (v := .agg #[(.slice q29 x1.Nodes.length x30), (.slice q31 x1.Turns.length x32)]) (by kernel_rfl))) fun a E=>?_
   refine fr_val E rfl (wn rfl) rfl rfl (fun w hW=>(x_build E rfl (E.evs rfl) (v := .agg #[(.slice q29 x1.Nodes.length x30), (.slice q31 x1.Turns.length x32), .int .i64 0, .string (ByteArray.mk #[]), .string (ByteArray.mk #[]), .int .i64 0, .slice none 0 0]) (by kernel_rfl))) fun a E=>?_
   refine fr_op rfl<|st_box E H (wn rfl) rfl rfl (cs := [(.slice q29 x1.Nodes.length x30), (.slice q31 x1.Turns.length x32), .int .i64 0, .string (ByteArray.mk #[]), .string (ByteArray.mk #[]), .int .i64 0, .slice none 0 0]) rfl rfl rfl fun p33 w a H E=>nt<|?_
   refine ⟨⟨_, _, H, (subO_cons mm3 (subO_nil)), (sub_nil)⟩, ?_⟩
   refine fr_tail rfl<|pr 1 E rfl fun a E=>nt<|fr_nil<|?_
   clear hI
   refine q_then<|wp_seq<|wp_seq_cut (fun a w => ∃ (v34 : Value) (v36 : Value) (v42 : Value) (l35 : (List S_api_Node)) (l37 : (List S_api_Turn)) (x38 : Int) (s39 : ByteArray) (s40 : ByteArray) (x41 : Int) (l43 : (List ByteArray)) (rs44 : List Rp), Env 54 a [(2, pt p8 0), (4, pt p14 0), (5, pt p15 0), (7, pt p33 0)] ∧ Sep w (Blk p8 41 [(.slice q9 x1.Nodes.length x10), (.slice q11 x1.Turns.length x12)] :: Blk p14 41 [.slice none 0 0, .slice none 0 0] :: Blk p15 51 z_api_Result :: Blk p33 105 [v34, v36, .int .i64 x38, .string s39, .string s40, .int .i64 x41, v42] :: Row 80 k_api_Node v34 l35 :: Row 83 k_api_Turn v36 l37 :: Row 9 kS v42 l43 :: Fo) rs44 ∧ (∀ r, r ∈ rs → r ∈ rs44) ∧ rSl k_api_Node (.slice q9 x1.Nodes.length x10) x1.Nodes ∈ rs44 ∧ rSl k_api_Turn (.slice q11 x1.Turns.length x12) x1.Turns ∈ rs44 ∧ rTab Tryz.prog ∈ rs44 ∧ m_part_Do_j2 x1 l35 l37 x38 s39 s40 x41 l43 = some r) ?_ ?_
   ·refine dw [(0, 0), (1, 0), (2, 0), (3, 0), (4, 0), (5, 0), (6, 1)] [4, 7] [] H (by kernel_rfl) (fun _ _ _ h => False.elim h.2) fun w W0 hI H=>fn 1 E rfl fun a E=>fb E rfl (wn rfl) rfl rfl rfl rfl m0 rfl Tryz.underlying3 rfl fun a E=>cs hm (fun hb98 hm=>?_) fun hb98 hm=>?_
    ·refine fr_val E rfl (wn rfl) rfl rfl (fun w hW=>x_ixP (j := 1) E rfl rfl rfl hb98 rfl Tryz.underlying101 sz98) fun a E=>?_
     refine fb E rfl (wn rfl) rfl rfl rfl rfl mm1 rfl Tryz.underlying98 rfl fun a E=>fn 1 E rfl fun a E=>fbn E (l_api_Part x4) rfl (wn rfl) rfl rfl rfl rfl m0 rfl Tryz.underlying62 rfl sz62 fun a E=>fr_op rfl<|have H:=H.nilRow 9 kS;have H:=H.front 8 rfl;have H:=H.front 8 rfl;have H:=H.front 8 rfl;have H:=H.front 8 rfl;?_
     refine have H:=H.front 8 rfl;have H:=H.front 5 rfl;have H:=H.front 7 rfl;have H:=H.front 8 rfl;have H:=H.front 8 rfl;bd hm fun u99 hx100 hm=>st_call E (wn rfl) rfl rfl (x_callv E rfl rfl rfl (cf78 _)) (c_part_work_guard p33 (.slice q29 x1.Nodes.length x30) x1.Nodes (.slice q31 x1.Turns.length x32) x1.Turns 0 (ByteArray.mk #[]) (ByteArray.mk #[]) 0 (.slice none 0 0) [] x4 H hx100)<|?_
     rintro _ w ⟨v101, rfl, H⟩ a E
     refine nt<|?_
     refine ⟨⟨_, _, H, (subO_cons mm5 (subO_cons (t2 mm6) (subO_nil))), (sub_nil)⟩, ?_⟩
     refine fr_nil<|?_
     clear hI
     refine q_then<|have H:=H.drop 5;have H:=H.drop 7;have H:=H.front 3 rfl;have H:=H.front 3 rfl;have H:=H.front 3 rfl;have H:=H.front 3 rfl;have H:=H.front 6 rfl;have H:=H.front 6 rfl;?_
     exact have H:=H.front 6 rfl;⟨(.slice q29 x1.Nodes.length x30), (.slice q31 x1.Turns.length x32), v101, x1.Nodes, x1.Turns, u99.1, u99.2.1, u99.2.2.1, u99.2.2.2.1, u99.2.2.2.2, _, E.sel [2, 4, 5, 7] rfl, H, hs19, hr20, hr21, hr22, hm⟩
    ·refine cs hm (fun hb92 hm=>?_) fun hb92 hm=>?_
     ·refine fr_val E rfl (wn rfl) rfl rfl (fun w hW=>x_ixP (j := 2) E rfl rfl rfl hb92 rfl Tryz.underlying101 sz98) fun a E=>?_
      refine fb E rfl (wn rfl) rfl rfl rfl rfl mm1 rfl Tryz.underlying98 rfl fun a E=>fn 1 E rfl fun a E=>fbn E (l_api_Part x4) rfl (wn rfl) rfl rfl rfl rfl m0 rfl Tryz.underlying62 rfl sz62 fun a E=>fr_op rfl<|have H:=H.nilRow 9 kS;have H:=H.front 8 rfl;have H:=H.front 8 rfl;have H:=H.front 8 rfl;have H:=H.front 8 rfl;?_
      refine have H:=H.front 8 rfl;have H:=H.front 5 rfl;have H:=H.front 7 rfl;have H:=H.front 8 rfl;have H:=H.front 8 rfl;bd hm fun u93 hx94 hm=>st_call E (wn rfl) rfl rfl (x_callv E rfl rfl rfl (cf79 _)) (c_part_work_put p33 (.slice q29 x1.Nodes.length x30) x1.Nodes (.slice q31 x1.Turns.length x32) x1.Turns 0 (ByteArray.mk #[]) (ByteArray.mk #[]) 0 (.slice none 0 0) [] x4 H hr22 hx94)<|?_
      rintro _ w ⟨v95, v96, v97, rfl, H⟩ a E
      refine nt<|?_
      refine ⟨⟨_, _, H, (subO_cons mm5 (subO_cons (t2 mm6) (subO_nil))), (sub_nil)⟩, ?_⟩
      refine fr_nil<|?_
      clear hI
      refine q_then<|have H:=H.drop 5;have H:=H.drop 7;have H:=H.front 3 rfl;have H:=H.front 3 rfl;have H:=H.front 3 rfl;have H:=H.front 3 rfl;have H:=H.front 6 rfl;have H:=H.front 6 rfl;?_
      exact have H:=H.front 6 rfl;⟨v95, v96, v97, u93.1, u93.2.1, u93.2.2.1, u93.2.2.2.1, u93.2.2.2.2.1, u93.2.2.2.2.2.1, u93.2.2.2.2.2.2, _, E.sel [2, 4, 5, 7] rfl, H, hs19, hr20, hr21, hr22, hm⟩
     ·refine cs hm (fun hb87 hm=>?_) fun hb87 hm=>?_
      ·refine fr_val E rfl (wn rfl) rfl rfl (fun w hW=>x_ixP (j := 3) E rfl rfl rfl hb87 rfl Tryz.underlying101 sz98) fun a E=>?_
       refine fb E rfl (wn rfl) rfl rfl rfl rfl mm1 rfl Tryz.underlying98 rfl fun a E=>fn 1 E rfl fun a E=>fbn E (l_api_Part x4) rfl (wn rfl) rfl rfl rfl rfl m0 rfl Tryz.underlying62 rfl sz62 fun a E=>fr_op rfl<|have H:=H.nilRow 9 kS;have H:=H.front 8 rfl;have H:=H.front 8 rfl;have H:=H.front 8 rfl;have H:=H.front 8 rfl;?_
       refine have H:=H.front 8 rfl;have H:=H.front 5 rfl;have H:=H.front 7 rfl;have H:=H.front 8 rfl;have H:=H.front 8 rfl;bd hm fun u88 hx89 hm=>st_call E (wn rfl) rfl rfl (x_callv E rfl rfl rfl (cf80 _)) (c_part_work_remove p33 (.slice q29 x1.Nodes.length x30) x1.Nodes (.slice q31 x1.Turns.length x32) x1.Turns 0 (ByteArray.mk #[]) (ByteArray.mk #[]) 0 (.slice none 0 0) [] x4 H hx89)<|?_
       rintro _ w ⟨v90, v91, rfl, H⟩ a E
       refine nt<|?_
       refine ⟨⟨_, _, H, (subO_cons mm5 (subO_cons (t2 mm6) (subO_nil))), (sub_nil)⟩, ?_⟩
       refine fr_nil<|?_
       clear hI
       refine q_then<|have H:=H.drop 5;have H:=H.drop 7;have H:=H.front 3 rfl;have H:=H.front 3 rfl;have H:=H.front 3 rfl;have H:=H.front 3 rfl;have H:=H.front 6 rfl;have H:=H.front 6 rfl;?_
       exact have H:=H.front 6 rfl;⟨v90, (.slice q31 x1.Turns.length x32), v91, u88.1, x1.Turns, u88.2.1, u88.2.2.1, u88.2.2.2.1, u88.2.2.2.2.1, u88.2.2.2.2.2, _, E.sel [2, 4, 5, 7] rfl, H, hs19, hr20, hr21, hr22, hm⟩
      ·refine cs hm (fun hb82 hm=>?_) fun hb82 hm=>?_
       ·refine fr_val E rfl (wn rfl) rfl rfl (fun w hW=>x_ixP (j := 4) E rfl rfl rfl hb82 rfl Tryz.underlying101 sz98) fun a E=>?_
        refine fb E rfl (wn rfl) rfl rfl rfl rfl mm1 rfl Tryz.underlying98 rfl fun a E=>fn 1 E rfl fun a E=>fbn E (l_api_Part x4) rfl (wn rfl) rfl rfl rfl rfl m0 rfl Tryz.underlying62 rfl sz62 fun a E=>fr_op rfl<|have H:=H.nilRow 9 kS;have H:=H.front 8 rfl;have H:=H.front 8 rfl;have H:=H.front 8 rfl;have H:=H.front 8 rfl;?_
        refine have H:=H.front 8 rfl;have H:=H.front 5 rfl;have H:=H.front 7 rfl;have H:=H.front 8 rfl;have H:=H.front 8 rfl;bd hm fun u83 hx84 hm=>st_call E (wn rfl) rfl rfl (x_callv E rfl rfl rfl (cf81 _)) (c_part_work_empty p33 (.slice q29 x1.Nodes.length x30) x1.Nodes (.slice q31 x1.Turns.length x32) x1.Turns 0 (ByteArray.mk #[]) (ByteArray.mk #[]) 0 (.slice none 0 0) [] x4 H hx84)<|?_
        rintro _ w ⟨v85, v86, rfl, H⟩ a E
        refine nt<|?_
        refine ⟨⟨_, _, H, (subO_cons mm5 (subO_cons (t2 mm6) (subO_nil))), (sub_nil)⟩, ?_⟩
        refine fr_nil<|?_
        clear hI
        refine q_then<|have H:=H.drop 5;have H:=H.drop 7;have H:=H.front 3 rfl;have H:=H.front 3 rfl;have H:=H.front 3 rfl;have H:=H.front 3 rfl;have H:=H.front 6 rfl;have H:=H.front 6 rfl;?_
        exact have H:=H.front 6 rfl;⟨(.slice q29 x1.Nodes.length x30), v85, v86, x1.Nodes, u83.1, u83.2.1, u83.2.2.1, u83.2.2.2.1, u83.2.2.2.2.1, u83.2.2.2.2.2, _, E.sel [2, 4, 5, 7] rfl, H, hs19, hr20, hr21, hr22, hm⟩
       ·refine cs hm (fun hb78 hm=>?_) fun hb78 hm=>?_
        ·refine fr_val E rfl (wn rfl) rfl rfl (fun w hW=>x_ixP (j := 5) E rfl rfl rfl hb78 rfl Tryz.underlying101 sz98) fun a E=>?_
         refine fb E rfl (wn rfl) rfl rfl rfl rfl mm1 rfl Tryz.underlying98 rfl fun a E=>fn 1 E rfl fun a E=>fbn E (l_api_Part x4) rfl (wn rfl) rfl rfl rfl rfl m0 rfl Tryz.underlying62 rfl sz62 fun a E=>fr_op rfl<|have H:=H.nilRow 9 kS;have H:=H.front 8 rfl;have H:=H.front 8 rfl;have H:=H.front 8 rfl;have H:=H.front 8 rfl;?_
         refine have H:=H.front 8 rfl;have H:=H.front 5 rfl;have H:=H.front 7 rfl;have H:=H.front 8 rfl;have H:=H.front 8 rfl;bd hm fun u79 hx80 hm=>st_call E (wn rfl) rfl rfl (x_callv E rfl rfl rfl (cf82 _)) (c_part_work_alter p33 (.slice q29 x1.Nodes.length x30) x1.Nodes (.slice q31 x1.Turns.length x32) x1.Turns 0 (ByteArray.mk #[]) (ByteArray.mk #[]) 0 (.slice none 0 0) [] x4 H hx80)<|?_
         rintro _ w ⟨v81, rfl, H⟩ a E
         refine nt<|?_
         refine ⟨⟨_, _, H, (subO_cons mm5 (subO_cons (t2 mm6) (subO_nil))), (sub_nil)⟩, ?_⟩
         refine fr_nil<|?_
         clear hI
         refine q_then<|have H:=H.drop 5;have H:=H.drop 7;have H:=H.front 3 rfl;have H:=H.front 3 rfl;have H:=H.front 3 rfl;have H:=H.front 3 rfl;have H:=H.front 6 rfl;have H:=H.front 6 rfl;?_
         exact have H:=H.front 6 rfl;⟨(.slice q29 x1.Nodes.length x30), (.slice q31 x1.Turns.length x32), v81, u79.1, x1.Turns, u79.2.1, u79.2.2.1, u79.2.2.2.1, u79.2.2.2.2.1, u79.2.2.2.2.2, _, E.sel [2, 4, 5, 7] rfl, H, hs19, hr20, hr21, hr22, hm⟩
        ·refine cs hm (fun hb74 hm=>?_) fun hb74 hm=>?_
         ·refine fr_val E rfl (wn rfl) rfl rfl (fun w hW=>x_ixP (j := 6) E rfl rfl rfl hb74 rfl Tryz.underlying101 sz98) fun a E=>?_
          refine fb E rfl (wn rfl) rfl rfl rfl rfl mm1 rfl Tryz.underlying98 rfl fun a E=>fn 1 E rfl fun a E=>fbn E (l_api_Part x4) rfl (wn rfl) rfl rfl rfl rfl m0 rfl Tryz.underlying62 rfl sz62 fun a E=>fr_op rfl<|have H:=H.nilRow 9 kS;have H:=H.front 8 rfl;have H:=H.front 8 rfl;have H:=H.front 8 rfl;have H:=H.front 8 rfl;?_
          refine have H:=H.front 8 rfl;have H:=H.front 5 rfl;have H:=H.front 7 rfl;have H:=H.front 8 rfl;have H:=H.front 8 rfl;bd hm fun u75 hx76 hm=>st_call E (wn rfl) rfl rfl (x_callv E rfl rfl rfl (cf83 _)) (c_part_work_look p33 (.slice q29 x1.Nodes.length x30) x1.Nodes (.slice q31 x1.Turns.length x32) x1.Turns 0 (ByteArray.mk #[]) (ByteArray.mk #[]) 0 (.slice none 0 0) [] x4 H hx76)<|?_
          rintro _ w ⟨v77, rfl, H⟩ a E
          refine nt<|?_
          refine ⟨⟨_, _, H, (subO_cons mm5 (subO_cons (t2 mm6) (subO_nil))), (sub_nil)⟩, ?_⟩
          refine fr_nil<|?_
          clear hI
          refine q_then<|have H:=H.drop 5;have H:=H.drop 7;have H:=H.front 3 rfl;have H:=H.front 3 rfl;have H:=H.front 3 rfl;have H:=H.front 3 rfl;have H:=H.front 6 rfl;have H:=H.front 6 rfl;?_
          exact have H:=H.front 6 rfl;⟨(.slice q29 x1.Nodes.length x30), (.slice q31 x1.Turns.length x32), v77, x1.Nodes, x1.Turns, u75.1, u75.2.1, u75.2.2.1, u75.2.2.2.1, u75.2.2.2.2, _, E.sel [2, 4, 5, 7] rfl, H, hs19, hr20, hr21, hr22, hm⟩
         ·refine cs hm (fun hb70 hm=>?_) fun hb70 hm=>?_
          ·refine fr_val E rfl (wn rfl) rfl rfl (fun w hW=>x_ixP (j := 7) E rfl rfl rfl hb70 rfl Tryz.underlying101 sz98) fun a E=>?_
           refine fb E rfl (wn rfl) rfl rfl rfl rfl mm1 rfl Tryz.underlying98 rfl fun a E=>fn 1 E rfl fun a E=>fbn E (l_api_Part x4) rfl (wn rfl) rfl rfl rfl rfl m0 rfl Tryz.underlying62 rfl sz62 fun a E=>fr_op rfl<|have H:=H.nilRow 9 kS;have H:=H.front 8 rfl;have H:=H.front 8 rfl;have H:=H.front 8 rfl;have H:=H.front 8 rfl;?_
           refine have H:=H.front 8 rfl;have H:=H.front 5 rfl;have H:=H.front 7 rfl;have H:=H.front 8 rfl;have H:=H.front 8 rfl;bd hm fun u71 hx72 hm=>st_call E (wn rfl) rfl rfl (x_callv E rfl rfl rfl (cf84 _)) (c_part_work_read p33 (.slice q29 x1.Nodes.length x30) x1.Nodes (.slice q31 x1.Turns.length x32) x1.Turns 0 (ByteArray.mk #[]) (ByteArray.mk #[]) 0 (.slice none 0 0) [] x4 H hx72)<|?_
           rintro _ w ⟨v73, rfl, H⟩ a E
           refine nt<|?_
           refine ⟨⟨_, _, H, (subO_cons mm5 (subO_cons (t2 mm6) (subO_nil))), (sub_nil)⟩, ?_⟩
           refine fr_nil<|?_
           clear hI
           refine q_then<|have H:=H.drop 5;have H:=H.drop 7;have H:=H.front 3 rfl;have H:=H.front 3 rfl;have H:=H.front 3 rfl;have H:=H.front 3 rfl;have H:=H.front 6 rfl;have H:=H.front 6 rfl;?_
           exact have H:=H.front 6 rfl;⟨(.slice q29 x1.Nodes.length x30), (.slice q31 x1.Turns.length x32), v73, x1.Nodes, x1.Turns, u71.1, u71.2.1, u71.2.2.1, u71.2.2.2.1, u71.2.2.2.2, _, E.sel [2, 4, 5, 7] rfl, H, hs19, hr20, hr21, hr22, hm⟩
          ·refine cs hm (fun hb66 hm=>?_) fun hb66 hm=>?_
           ·refine fr_val E rfl (wn rfl) rfl rfl (fun w hW=>x_ixP (j := 8) E rfl rfl rfl hb66 rfl Tryz.underlying101 sz98) fun a E=>?_
            refine fb E rfl (wn rfl) rfl rfl rfl rfl mm1 rfl Tryz.underlying98 rfl fun a E=>fn 1 E rfl fun a E=>fbn E (l_api_Part x4) rfl (wn rfl) rfl rfl rfl rfl m0 rfl Tryz.underlying62 rfl sz62 fun a E=>fr_op rfl<|have H:=H.nilRow 9 kS;have H:=H.front 8 rfl;have H:=H.front 8 rfl;have H:=H.front 8 rfl;have H:=H.front 8 rfl;?_
            refine have H:=H.front 8 rfl;have H:=H.front 5 rfl;have H:=H.front 7 rfl;have H:=H.front 8 rfl;have H:=H.front 8 rfl;bd hm fun u67 hx68 hm=>st_call E (wn rfl) rfl rfl (x_callv E rfl rfl rfl (cf85 _)) (c_part_work_has p33 (.slice q29 x1.Nodes.length x30) x1.Nodes (.slice q31 x1.Turns.length x32) x1.Turns 0 (ByteArray.mk #[]) (ByteArray.mk #[]) 0 (.slice none 0 0) [] x4 H hx68)<|?_
            rintro _ w ⟨v69, rfl, H⟩ a E
            refine nt<|?_
            refine ⟨⟨_, _, H, (subO_cons mm5 (subO_cons (t2 mm6) (subO_nil))), (sub_nil)⟩, ?_⟩
            refine fr_nil<|?_
            clear hI
            refine q_then<|have H:=H.drop 5;have H:=H.drop 7;have H:=H.front 3 rfl;have H:=H.front 3 rfl;have H:=H.front 3 rfl;have H:=H.front 3 rfl;have H:=H.front 6 rfl;have H:=H.front 6 rfl;?_
            exact have H:=H.front 6 rfl;⟨(.slice q29 x1.Nodes.length x30), (.slice q31 x1.Turns.length x32), v69, x1.Nodes, x1.Turns, u67.1, u67.2.1, u67.2.2.1, u67.2.2.2.1, u67.2.2.2.2, _, E.sel [2, 4, 5, 7] rfl, H, hs19, hr20, hr21, hr22, hm⟩
           ·refine cs hm (fun hb62 hm=>?_) fun hb62 hm=>?_
            ·refine fr_val E rfl (wn rfl) rfl rfl (fun w hW=>x_ixP (j := 9) E rfl rfl rfl hb62 rfl Tryz.underlying101 sz98) fun a E=>?_
             refine fb E rfl (wn rfl) rfl rfl rfl rfl mm1 rfl Tryz.underlying98 rfl fun a E=>fn 1 E rfl fun a E=>fbn E (l_api_Part x4) rfl (wn rfl) rfl rfl rfl rfl m0 rfl Tryz.underlying62 rfl sz62 fun a E=>fr_op rfl<|have H:=H.nilRow 9 kS;have H:=H.front 8 rfl;have H:=H.front 8 rfl;have H:=H.front 8 rfl;have H:=H.front 8 rfl;?_
             refine have H:=H.front 8 rfl;have H:=H.front 5 rfl;have H:=H.front 7 rfl;have H:=H.front 8 rfl;have H:=H.front 8 rfl;bd hm fun u63 hx64 hm=>st_call E (wn rfl) rfl rfl (x_callv E rfl rfl rfl (cf86 _)) (c_part_work_names p33 (.slice q29 x1.Nodes.length x30) x1.Nodes (.slice q31 x1.Turns.length x32) x1.Turns 0 (ByteArray.mk #[]) (ByteArray.mk #[]) 0 (.slice none 0 0) [] x4 H hx64)<|?_
             rintro _ w ⟨v65, rfl, H⟩ a E
             refine nt<|?_
             refine ⟨⟨_, _, H, (subO_cons mm5 (subO_cons (t2 mm6) (subO_nil))), (sub_nil)⟩, ?_⟩
             refine fr_nil<|?_
             clear hI
             refine q_then<|have H:=H.drop 5;have H:=H.drop 7;have H:=H.front 3 rfl;have H:=H.front 3 rfl;have H:=H.front 3 rfl;have H:=H.front 3 rfl;have H:=H.front 6 rfl;have H:=H.front 6 rfl;?_
             exact have H:=H.front 6 rfl;⟨(.slice q29 x1.Nodes.length x30), (.slice q31 x1.Turns.length x32), v65, x1.Nodes, x1.Turns, 0, (ByteArray.mk #[]), (ByteArray.mk #[]), 0, u63, _, E.sel [2, 4, 5, 7] rfl, H, hs19, hr20, hr21, hr22, hm⟩
            ·refine cs hm (fun hb57 hm=>?_) fun hb57 hm=>?_
             ·refine fr_val E rfl (wn rfl) rfl rfl (fun w hW=>x_ixP (j := 10) E rfl rfl rfl hb57 rfl Tryz.underlying101 sz98) fun a E=>?_
              refine fb E rfl (wn rfl) rfl rfl rfl rfl mm1 rfl Tryz.underlying98 rfl fun a E=>fn 1 E rfl fun a E=>fbn E (l_api_Part x4) rfl (wn rfl) rfl rfl rfl rfl m0 rfl Tryz.underlying62 rfl sz62 fun a E=>fr_op rfl<|have H:=H.nilRow 9 kS;have H:=H.front 8 rfl;have H:=H.front 8 rfl;have H:=H.front 8 rfl;have H:=H.front 8 rfl;?_
              refine have H:=H.front 8 rfl;have H:=H.front 5 rfl;have H:=H.front 7 rfl;have H:=H.front 8 rfl;have H:=H.front 8 rfl;bd hm fun u58 hx59 hm=>st_call E (wn rfl) rfl rfl (x_callv E rfl rfl rfl (cf87 _)) (c_part_work_clear p33 (.slice q29 x1.Nodes.length x30) x1.Nodes (.slice q31 x1.Turns.length x32) x1.Turns 0 (ByteArray.mk #[]) (ByteArray.mk #[]) 0 (.slice none 0 0) [] x4 H hx59)<|?_
              rintro _ w ⟨v60, v61, rfl, H⟩ a E
              refine nt<|?_
              refine ⟨⟨_, _, H, (subO_cons mm5 (subO_cons (t2 mm6) (subO_nil))), (sub_nil)⟩, ?_⟩
              refine fr_nil<|?_
              clear hI
              refine q_then<|have H:=H.drop 5;have H:=H.drop 7;have H:=H.front 3 rfl;have H:=H.front 3 rfl;have H:=H.front 3 rfl;have H:=H.front 3 rfl;have H:=H.front 6 rfl;have H:=H.front 6 rfl;?_
              exact have H:=H.front 6 rfl;⟨v60, (.slice q31 x1.Turns.length x32), v61, u58.1, x1.Turns, 0, (ByteArray.mk #[]), (ByteArray.mk #[]), 0, u58.2, _, E.sel [2, 4, 5, 7] rfl, H, hs19, hr20, hr21, hr22, hm⟩
             ·exact (none_some hm rfl).elim
   ·clear E H hm
    rintro a w ⟨v34, v36, v42, l35, l37, x38, s39, s40, x41, l43, rs44, E, H, hs45, hr46, hr47, hr48, hm⟩
    unfold m_part_Do_j2 at hm
    refine sq<|pr 4 E rfl fun a E=>lb E H 3 rfl rfl rfl rfl rfl rfl rfl Tryz.underlying27 rfl fun a E=>pr 1 E rfl fun a E=>nt<|wif E hm rfl (fun hm=>?_) fun hm=>?_
    ·refine wp_seq<|dw [(0, 0), (1, 0), (2, 0), (3, 0), (4, 0), (5, 1), (6, 2)] [0, 3] [] H (by kernel_rfl) (fun _ _ _ h => False.elim h.2) fun w W0 hI H=>fbn E [(.slice q9 x1.Nodes.length x10), (.slice q11 x1.Turns.length x12)] rfl (wn rfl) rfl rfl rfl rfl m0 rfl Tryz.underlying41 rfl sz41 fun a E=>fn 3 E rfl fun a E=>fbn E [.int .i64 x38, .string s39, .string s40, .int .i64 x41, v42] rfl (wn rfl) rfl rfl rfl rfl mm1 rfl Tryz.underlying51 rfl sz51 fun a E=>fr_op rfl<|st_st (i := 1) E H (wn rfl) rfl (us := [(.slice q9 x1.Nodes.length x10), (.slice q11 x1.Turns.length x12)]) rfl rfl rfl rfl rfl sz41 rfl rfl fun w H=>nt<|?_
     refine ⟨⟨_, _, H, (subO_cons m0 (subO_cons mm3 (subO_nil))), (sub_nil)⟩, ?_⟩
     refine fr_tail rfl<|?_
     obtain ⟨q49, x50, rfl⟩ := H.rowform (i := 6) rfl
     refine st_st (i := 2) E H (wn rfl) rfl (us := [.int .i64 x38, .string s39, .string s40, .int .i64 x41, (.slice q49 l43.length x50)]) rfl rfl rfl rfl rfl sz51 rfl rfl fun w H=>nt<|fr_nil<|?_
     clear hI
     refine q_then<|wp_ret<|q_thenR<|outR2 E rfl (rvBN (i := 1) (us := [(.slice q9 x1.Nodes.length x10), (.slice q11 x1.Turns.length x12)]) H rfl rfl rfl Tryz.underlying41 rfl sz41) (rvBN (i := 2) (us := [.int .i64 x38, .string s39, .string s40, .int .i64 x41, (.slice q49 l43.length x50)]) H rfl rfl rfl Tryz.underlying51 rfl sz51)<|have H:=H.thaw (i := 6) rfl;have H:=H.drop 0;have H:=H.drop 0;have H:=H.drop 0;have H:=H.drop 0;?_
     refine have H:=H.drop 0;have H:=H.drop 0;?_
     cases hm
     exact ⟨(.slice q9 x1.Nodes.length x10), (.slice q11 x1.Turns.length x12), (.slice q49 l43.length x50), rfl, H.reads (sub_cons (t1 hr46) (sub_cons (t1 hr47) (sub_cons m0 (fun r hr => (t1 (hs45 r hr))))))⟩
    ·refine wp_skip<|q_then<|wp_seq<|dw [(0, 0), (1, 0), (2, 0), (3, 0), (4, 0), (5, 0), (6, 0), (7, 0), (8, 1), (9, 2)] [3] [] H (by kernel_rfl) (fun _ _ _ h => False.elim h.2) fun w W0 hI H=>fn 3 E rfl fun a E=>fbn E [v34, v36] rfl (wn rfl) rfl rfl rfl rfl m0 rfl Tryz.underlying41 rfl sz41 fun a E=>fn 3 E rfl fun a E=>fbn E [.int .i64 x38, .string s39, .string s40, .int .i64 x41, v42] rfl (wn rfl) rfl rfl rfl rfl m0 rfl Tryz.underlying51 rfl sz51 fun a E=>fr_op rfl<|?_
     obtain ⟨q51, x52, rfl⟩ := H.rowform (i := 4) rfl
     obtain ⟨q53, x54, rfl⟩ := H.rowform (i := 5) rfl
     refine st_st (i := 1) E H (wn rfl) rfl (us := [(.slice q51 l35.length x52), (.slice q53 l37.length x54)]) rfl rfl rfl rfl rfl sz41 rfl rfl fun w H=>nt<|?_
     refine ⟨⟨_, _, H, (subO_cons mm3 (subO_nil)), (sub_nil)⟩, ?_⟩
     refine fr_tail rfl<|?_
     obtain ⟨q55, x56, rfl⟩ := H.rowform (i := 6) rfl
     refine st_st (i := 2) E H (wn rfl) rfl (us := [.int .i64 x38, .string s39, .string s40, .int .i64 x41, (.slice q55 l43.length x56)]) rfl rfl rfl rfl rfl sz51 rfl rfl fun w H=>nt<|fr_nil<|?_
     clear hI
     refine q_then<|wp_ret<|outR2 E rfl (rvBN (i := 1) (us := [(.slice q51 l35.length x52), (.slice q53 l37.length x54)]) H rfl rfl rfl Tryz.underlying41 rfl sz41) (rvBN (i := 2) (us := [.int .i64 x38, .string s39, .string s40, .int .i64 x41, (.slice q55 l43.length x56)]) H rfl rfl rfl Tryz.underlying51 rfl sz51)<|have H:=H.thaw (i := 4) rfl;have H:=H.thaw (i := 4) rfl;have H:=H.thaw (i := 4) rfl;have H:=H.drop 0;have H:=H.drop 0;have H:=H.drop 0;?_
     refine have H:=H.drop 0;?_
     cases hm
     exact ⟨(.slice q51 l35.length x52), (.slice q53 l37.length x54), (.slice q55 l43.length x56), rfl, H.reads (sub_cons mm2 (sub_cons mm1 (sub_cons m0 (fun r hr => (t3 (hs45 r hr))))))⟩

def m_cantonref07_up (s1 : ByteArray) : Option ByteArray :=
  (m_cantonref01_Parent s1).bind fun u2 => if (!u2.2) = true then (some ((ByteArray.mk #[47]))) else (some (u2.1))
theorem c_cantonref07_up {w : World} {Fo : List Ob} {rs : List Rp} (s1 : ByteArray) (H : Sep w (Fo) rs) {r : ByteArray} (hm : m_cantonref07_up s1 = some r) :
    Calls Tryz.prog 105 [.string s1].toArray w (Ret fun v w' => .string r = v ∧ Sep w' (Fo) (rs)) := by
 unfold m_cantonref07_up at hm
 refine enter Tryz.func105 rfl Tryz.ntmps105 rfl fun a E =>?_
 simp only [enum, Nat.reduceAdd] at E
 refine sq<|pr 1 E rfl fun a E=>nx<|pr 1 E rfl fun a E=>bd hm fun u2 hx3 hm=>x_cl E rfl rfl rfl rfl rfl cf69 (c_cantonref01_Parent s1 H hx3)<|?_
 rintro _ w ⟨rfl, H⟩ a E
 refine pr 5 E rfl fun a E=>nt<|wp_seq<|sq<|pr 2 E rfl fun a E=>nt<|wif E hm rfl (fun hm=>?_) fun hm=>?_
 ·refine sq<|pr 1 E rfl fun a E=>nt<|wp_ret<|q_thenR<|out1 E rfl rfl<|?_
  cases hm
  exact ⟨rfl, H.reads (fun r hr => hr)⟩
 ·refine wp_skip<|q_then<|sq<|pr 2 E rfl fun a E=>nt<|wp_ret<|out1 E rfl rfl<|?_
  cases hm
  exact ⟨rfl, H.reads (fun r hr => hr)⟩

def m_cantonref07_node (x1 : S_api_Node) : Option Bool :=
  (m_cantonref01_Right x1.Path).bind fun u3 => if u3 = true then (if (decide ((x1.Data.size : Int) ≤ 256)) = true then (if (decide (x1.Version ≥ 0)) = true then (if (decide (x1.Version ≤ 281474976710656)) = true then (if (decide (x1.Owner ≥ 0)) = true then (if (decide (x1.Owner ≤ 1099511627776)) = true then (some (x1.Turn == 0)) else (some (false))) else (some (false))) else (some (false))) else (some (false))) else (some (false))) else (some (false))
theorem c_cantonref07_node {w : World} {Fo : List Ob} {rs : List Rp} (x1 : S_api_Node) (H : Sep w (Fo) rs) {r : Bool} (hm : m_cantonref07_node x1 = some r) :
    Calls Tryz.prog 104 [.agg (l_api_Node x1).toArray].toArray w (Ret fun v w' => .bool r = v ∧ Sep w' (Fo) (rs)) := by
 unfold m_cantonref07_node at hm
 refine enter Tryz.func104 rfl Tryz.ntmps104 rfl fun a E =>?_
 simp only [enum, Nat.reduceAdd] at E
 refine sq<|st_box E H (wn rfl) rfl rfl (cs := (l_api_Node x1)) rfl rfl rfl fun p2 w a H E=>pr 1 E rfl fun a E=>nx<|pr 1 E rfl fun a E=>lb E H 0 rfl rfl rfl rfl rfl rfl rfl Tryz.underlying9 rfl fun a E=>bd hm fun u3 hx4 hm=>x_cl E rfl rfl rfl rfl rfl cf71 (c_cantonref01_Right x1.Path H hx4)<|?_
 rintro _ w ⟨rfl, H⟩ a E
 refine pr 1 E rfl fun a E=>cs hm (fun hb5 hm=>?_) fun hb5 hm=>?_
 ·refine pk 1 E (kc 6 rfl hb5) rfl fun a E=>st_val E (ws' (d := 6) E rfl rfl rfl rfl hb5) rfl rfl (x_ldB (i := 0) E H rfl rfl rfl rfl Tryz.underlying9 rfl) fun a E=>pk 4 E (kc 6 rfl hb5) rfl fun a E=>cs hm (fun hb6 hm=>?_) fun hb6 hm=>?_
  ·refine pk 1 E (kc 12 rfl hb6) rfl fun a E=>st_val E (ws' (d := 12) E rfl rfl rfl rfl hb6) rfl rfl (x_ldB (i := 0) E H rfl rfl rfl rfl Tryz.underlying2 rfl) fun a E=>pk 3 E (kc 12 rfl hb6) rfl fun a E=>cs hm (fun hb7 hm=>?_) fun hb7 hm=>?_
   ·refine pk 1 E (kc 17 rfl hb7) rfl fun a E=>st_val E (ws' (d := 17) E rfl rfl rfl rfl hb7) rfl rfl (x_ldB (i := 0) E H rfl rfl rfl rfl Tryz.underlying2 rfl) fun a E=>pk 3 E (kc 17 rfl hb7) rfl fun a E=>cs hm (fun hb8 hm=>?_) fun hb8 hm=>?_
    ·refine pk 1 E (kc 22 rfl hb8) rfl fun a E=>st_val E (ws' (d := 22) E rfl rfl rfl rfl hb8) rfl rfl (x_ldB (i := 0) E H rfl rfl rfl rfl Tryz.underlying2 rfl) fun a E=>pk 3 E (kc 22 rfl hb8) rfl fun a E=>cs hm (fun hb9 hm=>?_) fun hb9 hm=>?_
     ·refine pk 1 E (kc 27 rfl hb9) rfl fun a E=>st_val E (ws' (d := 27) E rfl rfl rfl rfl hb9) rfl rfl (x_ldB (i := 0) E H rfl rfl rfl rfl Tryz.underlying2 rfl) fun a E=>pk 3 E (kc 27 rfl hb9) rfl fun a E=>cs hm (fun hb10 hm=>?_) fun hb10 hm=>?_
      ·refine pk 1 E (kc 32 rfl hb10) rfl fun a E=>st_val E (ws' (d := 32) E rfl rfl rfl rfl hb10) rfl rfl (x_ldB (i := 0) E H rfl rfl rfl rfl Tryz.underlying2 rfl) fun a E=>pk 3 E (kc 32 rfl hb10) rfl fun a E=>nt<|wp_ret<|out1 E rfl rfl<|have H:=H.drop 0;?_
       cases hm
       exact ⟨rfl, H.reads (fun r hr => hr)⟩
      ·refine pk 5 E (kc 32 rfl hb10) rfl fun a E=>nt<|wp_ret<|out1 E rfl rfl<|have H:=H.drop 0;?_
       cases hm
       exact ⟨rfl, H.reads (fun r hr => hr)⟩
     ·refine pk 10 E (kc 27 rfl hb9) rfl fun a E=>nt<|wp_ret<|out1 E rfl rfl<|have H:=H.drop 0;?_
      cases hm
      exact ⟨rfl, H.reads (fun r hr => hr)⟩
    ·refine pk 15 E (kc 22 rfl hb8) rfl fun a E=>nt<|wp_ret<|out1 E rfl rfl<|have H:=H.drop 0;?_
     cases hm
     exact ⟨rfl, H.reads (fun r hr => hr)⟩
   ·refine pk 20 E (kc 17 rfl hb7) rfl fun a E=>nt<|wp_ret<|out1 E rfl rfl<|have H:=H.drop 0;?_
    cases hm
    exact ⟨rfl, H.reads (fun r hr => hr)⟩
  ·refine pk 25 E (kc 12 rfl hb6) rfl fun a E=>nt<|wp_ret<|out1 E rfl rfl<|have H:=H.drop 0;?_
   cases hm
   exact ⟨rfl, H.reads (fun r hr => hr)⟩
 ·refine pk 31 E (kc 6 rfl hb5) rfl fun a E=>nt<|wp_ret<|out1 E rfl rfl<|have H:=H.drop 0;?_
  cases hm
  exact ⟨rfl, H.reads (fun r hr => hr)⟩

def m_cantonref07_Right_j1 (rec_1 : Int → Option Bool) (x11 : Int) (b16 : Bool) : Option Bool :=
  if b16 = true then (some (false)) else (rec_1 (IntKind.i64.wrap (x11 + 1)))
def m_cantonref07_Right_j2 (rec_2 : Int → Option Bool) (x46 : Int) (b55 : Bool) : Option Bool :=
  if b55 = true then (some (false)) else (rec_2 (IntKind.i64.wrap (x46 + 1)))
def m_cantonref07_Right_l2 (x1 : S_api_Store) : Nat → Int → Option Bool
  | 0, _ => none
  | k2 + 1, x46 =>
    if (decide (x46 < (x1.Turns.length : Int))) = true then ((idx x1.Turns x46).bind fun x51 => (m_cantonref01_Right x51.Dir).bind fun u61 => if (!u61) = true then (m_cantonref07_Right_j2 (m_cantonref07_Right_l2 x1 k2) x46 true) else (if (decide (x51.Next < 1)) = true then (m_cantonref07_Right_j2 (m_cantonref07_Right_l2 x1 k2) x46 true) else (if (decide (x51.Next > 10000)) = true then (m_cantonref07_Right_j2 (m_cantonref07_Right_l2 x1 k2) x46 true) else (if (decide (x46 > 0)) = true then ((idx x1.Turns (IntKind.i64.wrap (x46 - 1))).bind fun x67 => m_cantonref07_Right_j2 (m_cantonref07_Right_l2 x1 k2) x46 (!(sLt x67.Dir x51.Dir))) else (m_cantonref07_Right_j2 (m_cantonref07_Right_l2 x1 k2) x46 false))))) else (some (true))
def m_cantonref07_Right_l1 (x1 : S_api_Store) : Nat → Int → Option Bool
  | 0, _ => none
  | k1 + 1, x11 =>
    if (decide (x11 < (x1.Nodes.length : Int))) = true then ((idx x1.Nodes x11).bind fun x22 => (m_cantonref07_node x22).bind fun u28 => if (!u28) = true then (m_cantonref07_Right_j1 (m_cantonref07_Right_l1 x1 k1) x11 true) else (if (decide (x11 > 0)) = true then ((idx x1.Nodes (IntKind.i64.wrap (x11 - 1))).bind fun x32 => (idx x1.Nodes x11).bind fun x39 => m_cantonref07_Right_j1 (m_cantonref07_Right_l1 x1 k1) x11 (!(sLt x32.Path x39.Path))) else (m_cantonref07_Right_j1 (m_cantonref07_Right_l1 x1 k1) x11 false))) else (m_cantonref07_Right_l2 x1 (((x1.Turns.length : Int) - 0 : Int).toNat + 1) 0)
def m_cantonref07_Right (x1 : S_api_Store) : Option Bool :=
  m_cantonref07_Right_l1 x1 (((x1.Nodes.length : Int) - 0 : Int).toNat + 1) 0
theorem c_cantonref07_Right {w : World} {Fo : List Ob} {rs : List Rp} (x1 : S_api_Store) (v2 : Value) (v3 : Value) (H : Sep w (Fo) rs) (hr4 : rSl k_api_Node v2 x1.Nodes ∈ rs) (hr5 : rSl k_api_Turn v3 x1.Turns ∈ rs) {r : Bool} (hm : m_cantonref07_Right x1 = some r) :
    Calls Tryz.prog 45 [.agg #[v2, v3]].toArray w (Ret fun v w' => .bool r = v ∧ Sep w' (Fo) (rs)) := by
 unfold m_cantonref07_Right at hm
 refine enter Tryz.func45 rfl Tryz.ntmps45 rfl fun a E =>?_
 simp only [enum, Nat.reduceAdd] at E
 refine sq<|?_
 obtain ⟨q7, x8, rfl⟩ := H.slform hr4
 obtain ⟨q9, x10, rfl⟩ := H.slform hr5
 refine st_box E H (wn rfl) rfl rfl (cs := [(.slice q7 x1.Nodes.length x8), (.slice q9 x1.Turns.length x10)]) rfl rfl rfl fun p6 w a H E=>pr 1 E rfl fun a E=>nt<|wp_seq<|sq<|pr 1 E rfl fun a E=>nt<|wp_block<|wp_loop_g (fun k1 a w => ∃ (x11 : Int) (rs12 : List Rp), Env 82 a [(1, pt p6 0), (3, .int .i64 x11)] ∧ Sep w (Blk p6 41 [(.slice q7 x1.Nodes.length x8), (.slice q9 x1.Turns.length x10)] :: Fo) rs12 ∧ (∀ r, r ∈ rs → r ∈ rs12) ∧ rSl k_api_Node (.slice q7 x1.Nodes.length x8) x1.Nodes ∈ rs12 ∧ rSl k_api_Turn (.slice q9 x1.Turns.length x10) x1.Turns ∈ rs12 ∧ m_cantonref07_Right_l1 x1 k1 x11 = some r) (((x1.Nodes.length : Int) - 0 : Int).toNat + 1) ?_ ?_
 ·exact ⟨0, _, E.sel [1, 3] rfl, H, fun r hr => hr, hr4, hr5, hm⟩
 ·clear E H hm
  rintro k1 a w ⟨x11, rs12, E, H, hs13, hr14, hr15, hm⟩
  cases k1 with
  | zero => exact (none_some hm rfl).elim
  | succ k1 =>
   unfold m_cantonref07_Right_l1 at hm
   refine wp_seq<|sq<|pr 2 E rfl fun a E=>lb E H 0 rfl rfl rfl rfl rfl rfl rfl Tryz.underlying22 rfl fun a E=>sv E rfl rfl rfl (x_lenS E H rfl rfl hr14 Tryz.underlying22) fun a E=>pr 1 E rfl fun a E=>nt<|wif E hm rfl (fun hm=>?_) fun hm=>?_
   ·refine wp_skip<|q_then<|wp_seq<|wp_block<|wp_seq_cut (fun a w => ∃ (b16 : Bool) (rs17 : List Rp), Env 82 a [(1, pt p6 0), (3, .int .i64 x11), (39, .bool b16)] ∧ Sep w (Blk p6 41 [(.slice q7 x1.Nodes.length x8), (.slice q9 x1.Turns.length x10)] :: Fo) rs17 ∧ (∀ r, r ∈ rs → r ∈ rs17) ∧ rSl k_api_Node (.slice q7 x1.Nodes.length x8) x1.Nodes ∈ rs17 ∧ rSl k_api_Turn (.slice q9 x1.Turns.length x10) x1.Turns ∈ rs17 ∧ m_cantonref07_Right_j1 (m_cantonref07_Right_l1 x1 k1) x11 b16 = some r) ?_ ?_
    ·obtain ⟨u21, H⟩ := H.raw hr14
     refine dw [(0, 0), (1, 0), (2, 0), (3, 0), (4, 0), (5, 1), (6, 0), (7, 0), (8, 0), (9, 0), (10, 0), (11, 0), (12, 0), (13, 0), (14, 0), (15, 0), (16, 0), (17, 0), (18, 0), (19, 0), (20, 0), (21, 0), (22, 0), (23, 0), (24, 0), (25, 0), (26, 0)] [0] [0] H (by kernel_rfl) (fun _ _ _ h => False.elim h.2) fun w W0 hI H=>fn 1 E rfl fun a E=>fb E rfl (wn rfl) rfl rfl rfl rfl m0 rfl Tryz.underlying22 rfl fun a E=>fn 1 E rfl fun a E=>bd hm fun x22 hx23 hm=>?_
     obtain ⟨q24, u27, hx25, hx26⟩ := dr_ixW (P := Tryz.prog) (k := .i64) hI (dr_mem (.head _)) Tryz.underlying22 sz80 hx23
     refine fr_val E rfl (wn rfl) rfl rfl (fun w hW=>x_ixA E rfl rfl rfl (hx25 w)) fun a E=>?_
     refine fr_val E rfl (wn rfl) rfl rfl (fun w hW=>x_ld E rfl rfl (ir_ldN (cs := [.string x22.Path, .string x22.Data, .int .i64 x22.Version, .int .i64 x22.Turn, .int .i64 x22.Owner]) (DR.ir (dr_at hx26)) (fun _ _ _ h => k_api_Node_open h) Tryz.underlying80 rfl sz80 w hW)) fun a E=>?_
     refine fr_op rfl<|bd hm fun u28 hx29 hm=>x_cl E rfl rfl rfl rfl rfl cf104 (c_cantonref07_node x22 H hx29)<|?_
     rintro _ w ⟨rfl, H⟩ a E
     refine nt<|?_
     refine ⟨⟨_, _, H, (subO_cons m0 (subO_nil)), (sub_cons m0 (sub_nil))⟩, ?_⟩
     refine fn 2 E rfl fun a E=>cs hm (fun hb30 hm=>?_) fun hb30 hm=>?_
     ·refine fk 19 E (kc 20 rfl hb30) rfl fun a E=>fr_nil<|?_
      clear hI
      exact q_then<|⟨true, _, E.sel [1, 3, 39] rfl, H, fun r hr => (t1 (hs13 r hr)), (t1 hr14), (t1 hr15), hm⟩
     ·refine fk 3 E (kc 20 rfl hb30) rfl fun a E=>cs hm (fun hb31 hm=>?_) fun hb31 hm=>?_
      ·refine fk 1 E (kc 23 rfl hb31) rfl fun a E=>fb E rfl (ws' (d := 23) E rfl rfl rfl rfl hb31) rfl rfl rfl rfl m0 rfl Tryz.underlying22 rfl fun a E=>fk 2 E (kc 23 rfl hb31) rfl fun a E=>bd hm fun x32 hx33 hm=>?_
       obtain ⟨q34, u37, hx35, hx36⟩ := dr_ixW (P := Tryz.prog) (k := .i64) hI (dr_mem (.head _)) Tryz.underlying22 sz80 hx33
       refine fr_val E rfl (ws' (d := 23) E rfl rfl rfl rfl hb31) rfl rfl (fun w hW=>x_ixA E rfl rfl rfl (hx35 w)) fun a E=>?_
       have hx38 := dr_fld hx36 (fun _ _ _ h => k_api_Node_aw0 h)
       refine fk 1 E (kc 23 rfl hb31) rfl fun a E=>fa E rfl (ws' (d := 23) E rfl rfl rfl rfl hb31) rfl rfl rfl rfl hx38 Tryz.underlying9 rfl fun a E=>fk 1 E (kc 23 rfl hb31) rfl fun a E=>fb E rfl (ws' (d := 23) E rfl rfl rfl rfl hb31) rfl rfl rfl rfl m0 rfl Tryz.underlying22 rfl fun a E=>fk 1 E (kc 23 rfl hb31) rfl fun a E=>bd hm fun x39 hx40 hm=>?_
       obtain ⟨q41, u44, hx42, hx43⟩ := dr_ixW (P := Tryz.prog) (k := .i64) hI (dr_mem (.head _)) Tryz.underlying22 sz80 hx40
       refine fr_val E rfl (ws' (d := 23) E rfl rfl rfl rfl hb31) rfl rfl (fun w hW=>x_ixA E rfl rfl rfl (hx42 w)) fun a E=>?_
       have hx45 := dr_fld hx43 (fun _ _ _ h => k_api_Node_aw0 h)
       refine fk 1 E (kc 23 rfl hb31) rfl fun a E=>fa E rfl (ws' (d := 23) E rfl rfl rfl rfl hb31) rfl rfl rfl rfl hx45 Tryz.underlying9 rfl fun a E=>fk 3 E (kc' (kc 23 rfl hb31) 20 rfl hb30) rfl fun a E=>fr_nil<|?_
       clear hI
       exact q_then<|⟨!(sLt x32.Path x39.Path), _, E.sel [1, 3, 39] rfl, H, fun r hr => (t1 (hs13 r hr)), (t1 hr14), (t1 hr15), hm⟩
      ·refine fk 16 E (kc' (kc 23 rfl hb31) 20 rfl hb30) rfl fun a E=>fr_nil<|?_
       clear hI
       exact q_then<|⟨false, _, E.sel [1, 3, 39] rfl, H, fun r hr => (t1 (hs13 r hr)), (t1 hr14), (t1 hr15), hm⟩
    ·clear E H hm
     rintro a w ⟨b16, rs17, E, H, hs18, hr19, hr20, hm⟩
     unfold m_cantonref07_Right_j1 at hm
     refine wif E hm rfl (fun hm=>?_) fun hm=>?_
     ·refine sq<|pr 1 E rfl fun a E=>nt<|wp_ret<|q_blkR<|q_thenR<|q_thenR<|q_blkR<|q_thenR<|?_
      refine out1 E rfl rfl<|have H:=H.drop 0;?_
      cases hm
      exact ⟨rfl, H.reads (hs18)⟩
     ·exact wp_skip<|q_blk<|q_then<|wp_region_lit<|pr 3 E rfl fun a E=>nt<|⟨k1, Nat.lt_succ_self k1, IntKind.i64.wrap (x11 + 1), _, E.sel [1, 3] rfl, H, hs18, hr19, hr20, hm⟩
   ·refine wp_exit<|q_thenX<|q_thenX<|q_hit<|q_then<|wp_seq<|sq<|pr 1 E rfl fun a E=>nt<|?_
    refine wp_block<|wp_loop_g (fun k2 a w => ∃ (x46 : Int) (rs47 : List Rp), Env 82 a [(1, pt p6 0), (4, .int .i64 x46)] ∧ Sep w (Blk p6 41 [(.slice q7 x1.Nodes.length x8), (.slice q9 x1.Turns.length x10)] :: Fo) rs47 ∧ (∀ r, r ∈ rs → r ∈ rs47) ∧ rSl k_api_Node (.slice q7 x1.Nodes.length x8) x1.Nodes ∈ rs47 ∧ rSl k_api_Turn (.slice q9 x1.Turns.length x10) x1.Turns ∈ rs47 ∧ m_cantonref07_Right_l2 x1 k2 x46 = some r) (((x1.Turns.length : Int) - 0 : Int).toNat + 1) ?_ ?_
    ·exact ⟨0, _, E.sel [1, 4] rfl, H, hs13, hr14, hr15, hm⟩
    ·clear E H hm
     rintro k2 a w ⟨x46, rs47, E, H, hs48, hr49, hr50, hm⟩
     cases k2 with
     | zero => exact (none_some hm rfl).elim
     | succ k2 =>
      unfold m_cantonref07_Right_l2 at hm
      refine wp_seq<|sq<|pr 2 E rfl fun a E=>lb E H 0 rfl rfl rfl rfl rfl rfl rfl Tryz.underlying39 rfl fun a E=>sv E rfl rfl rfl (x_lenS E H rfl rfl hr50 Tryz.underlying39) fun a E=>pr 1 E rfl fun a E=>nt<|wif E hm rfl (fun hm=>?_) fun hm=>?_
      ·refine wp_skip<|q_then<|wp_seq<|wp_block<|sq<|pr 1 E rfl fun a E=>lb E H 0 rfl rfl rfl rfl rfl rfl rfl Tryz.underlying39 rfl fun a E=>pr 1 E rfl fun a E=>bd hm fun x51 hx52 hm=>?_
       refine st_ixS E H (wn rfl) rfl rfl rfl rfl rfl hr50 Tryz.underlying39 sz83 hx52 fun q53 a H E=>ldf k_api_Turn_flat E H rfl rfl rfl rfl rfl m0 Tryz.underlying83 rfl sz83 fun a E=>al E H rfl rfl rfl rfl zr83 fun p54 w a H E=>st_st (i := 0) E H (wn rfl) rfl (us := [.string x51.Dir, .int .i64 x51.Next]) rfl rfl rfl rfl rfl sz83 rfl rfl fun w H=>nt<|wp_seq_cut (fun a w => ∃ (b55 : Bool) (rs56 : List Rp), Env 82 a [(1, pt p6 0), (4, .int .i64 x46), (81, .bool b55)] ∧ Sep w (Blk p6 41 [(.slice q7 x1.Nodes.length x8), (.slice q9 x1.Turns.length x10)] :: Fo) rs56 ∧ (∀ r, r ∈ rs → r ∈ rs56) ∧ rSl k_api_Node (.slice q7 x1.Nodes.length x8) x1.Nodes ∈ rs56 ∧ rSl k_api_Turn (.slice q9 x1.Turns.length x10) x1.Turns ∈ rs56 ∧ m_cantonref07_Right_j2 (m_cantonref07_Right_l2 x1 k2) x46 b55 = some r) ?_ ?_
       ·obtain ⟨u60, H⟩ := H.raw (t1 hr50)
        refine dw [(0, 0), (1, 0), (2, 1), (3, 0), (4, 0), (5, 0), (6, 0), (7, 0), (8, 0), (9, 0), (10, 0), (11, 0), (12, 0), (13, 0), (14, 0), (15, 0), (16, 0), (17, 0), (18, 0), (19, 0), (20, 0), (21, 0), (22, 0), (23, 0), (24, 0), (25, 0), (26, 0), (27, 0), (28, 0), (29, 0)] [0, 1] [0] H (by kernel_rfl) (fun _ _ _ h => False.elim h.2) fun w W0 hI H=>fn 1 E rfl fun a E=>fb E rfl (wn rfl) rfl rfl rfl rfl m0 rfl Tryz.underlying9 rfl fun a E=>fr_op rfl<|bd hm fun u61 hx62 hm=>x_cl E rfl rfl rfl rfl rfl cf71 (c_cantonref01_Right x51.Dir H hx62)<|?_
        rintro _ w ⟨rfl, H⟩ a E
        refine nt<|?_
        refine ⟨⟨_, _, H, (subO_cons m0 (subO_cons mm1 (subO_nil))), (sub_cons m0 (sub_nil))⟩, ?_⟩
        refine fn 2 E rfl fun a E=>cs hm (fun hb63 hm=>?_) fun hb63 hm=>?_
        ·refine fk 25 E (kc 56 rfl hb63) rfl fun a E=>fr_nil<|?_
         clear hI
         exact q_then<|have H:=H.drop 0;⟨true, _, E.sel [1, 4, 81] rfl, H, fun r hr => (t2 (hs48 r hr)), (t2 hr49), (t2 hr50), hm⟩
        ·refine fk 1 E (kc 56 rfl hb63) rfl fun a E=>fb E rfl (ws' (d := 56) E rfl rfl rfl rfl hb63) rfl rfl rfl rfl m0 rfl Tryz.underlying2 rfl fun a E=>fk 3 E (kc 56 rfl hb63) rfl fun a E=>cs hm (fun hb64 hm=>?_) fun hb64 hm=>?_
         ·refine fk 20 E (kc 61 rfl hb64) rfl fun a E=>fr_nil<|?_
          clear hI
          exact q_then<|have H:=H.drop 0;⟨true, _, E.sel [1, 4, 81] rfl, H, fun r hr => (t2 (hs48 r hr)), (t2 hr49), (t2 hr50), hm⟩
         ·refine fk 1 E (kc 61 rfl hb64) rfl fun a E=>fb E rfl (ws' (d := 61) E rfl rfl rfl rfl hb64) rfl rfl rfl rfl m0 rfl Tryz.underlying2 rfl fun a E=>fk 3 E (kc 61 rfl hb64) rfl fun a E=>cs hm (fun hb65 hm=>?_) fun hb65 hm=>?_
          ·refine fk 15 E (kc 66 rfl hb65) rfl fun a E=>fr_nil<|?_
           clear hI
           exact q_then<|have H:=H.drop 0;⟨true, _, E.sel [1, 4, 81] rfl, H, fun r hr => (t2 (hs48 r hr)), (t2 hr49), (t2 hr50), hm⟩
          ·refine fk 3 E (kc 66 rfl hb65) rfl fun a E=>cs hm (fun hb66 hm=>?_) fun hb66 hm=>?_
           ·refine fk 1 E (kc 69 rfl hb66) rfl fun a E=>fb E rfl (ws' (d := 69) E rfl rfl rfl rfl hb66) rfl rfl rfl rfl mm1 rfl Tryz.underlying39 rfl fun a E=>fk 2 E (kc 69 rfl hb66) rfl fun a E=>bd hm fun x67 hx68 hm=>?_
            obtain ⟨q69, u72, hx70, hx71⟩ := dr_ixW (P := Tryz.prog) (k := .i64) hI (dr_mem (.head _)) Tryz.underlying39 sz83 hx68
            refine fr_val E rfl (ws' (d := 69) E rfl rfl rfl rfl hb66) rfl rfl (fun w hW=>x_ixA E rfl rfl rfl (hx70 w)) fun a E=>?_
            have hx73 := dr_fld hx71 (fun _ _ _ h => k_api_Turn_aw0 h)
            refine fk 1 E (kc 69 rfl hb66) rfl fun a E=>fa E rfl (ws' (d := 69) E rfl rfl rfl rfl hb66) rfl rfl rfl rfl hx73 Tryz.underlying9 rfl fun a E=>fk 1 E (kc 69 rfl hb66) rfl fun a E=>fb E rfl (ws' (d := 69) E rfl rfl rfl rfl hb66) rfl rfl rfl rfl m0 rfl Tryz.underlying9 rfl fun a E=>fk 3 E (kc' (kc 69 rfl hb66) 66 rfl hb65) rfl fun a E=>fr_nil<|?_
            clear hI
            exact q_then<|have H:=H.drop 0;⟨!(sLt x67.Dir x51.Dir), _, E.sel [1, 4, 81] rfl, H, fun r hr => (t2 (hs48 r hr)), (t2 hr49), (t2 hr50), hm⟩
           ·refine fk 12 E (kc' (kc 69 rfl hb66) 66 rfl hb65) rfl fun a E=>fr_nil<|?_
            clear hI
            exact q_then<|have H:=H.drop 0;⟨false, _, E.sel [1, 4, 81] rfl, H, fun r hr => (t2 (hs48 r hr)), (t2 hr49), (t2 hr50), hm⟩
       ·clear E H hm
        rintro a w ⟨b55, rs56, E, H, hs57, hr58, hr59, hm⟩
        unfold m_cantonref07_Right_j2 at hm
        refine wif E hm rfl (fun hm=>?_) fun hm=>?_
        ·refine sq<|pr 1 E rfl fun a E=>nt<|wp_ret<|q_blkR<|q_thenR<|q_thenR<|q_blkR<|q_thenR<|?_
         refine out1 E rfl rfl<|have H:=H.drop 0;?_
         cases hm
         exact ⟨rfl, H.reads (hs57)⟩
        ·exact wp_skip<|q_blk<|q_then<|wp_region_lit<|pr 3 E rfl fun a E=>nt<|⟨k2, Nat.lt_succ_self k2, IntKind.i64.wrap (x46 + 1), _, E.sel [1, 4] rfl, H, hs57, hr58, hr59, hm⟩
      ·refine wp_exit<|q_thenX<|q_thenX<|q_hit<|q_then<|sq<|pr 1 E rfl fun a E=>nt<|wp_ret<|?_
       refine out1 E rfl rfl<|have H:=H.drop 0;?_
       cases hm
       exact ⟨rfl, H.reads (hs48)⟩

def m_part_Of_1 (l2 : List S_api_Part) (l5 : List S_api_Part) : Option (List S_api_Part) :=
  (ck (l5.length + l2.length ≤ LIM)).bind fun u8 => some (l5 ++ l2)
theorem c_part_Of_1 {w : World} {Fo : List Ob} {rs : List Rp} (v1 : Value) (l2 : List S_api_Part) (p3 : Nat) (v4 : Value) (l5 : List S_api_Part) (H : Sep w (Blk p3 59 [v4] :: Row 62 k_api_Part v4 l5 :: Fo) rs) (hr6 : rSl k_api_Part v1 l2 ∈ rs) {r : (List S_api_Part)} (hm : m_part_Of_1 l2 l5 = some r) :
    Calls Tryz.prog 72 [v1, pt p3 0].toArray w (Ret fun v w' => ∃ (v5001 : Value), .tuple #[] = v ∧ Sep w' (Blk p3 59 [v5001] :: Row 62 k_api_Part v5001 r :: Fo) (rs)) := by
 unfold m_part_Of_1 at hm
 refine enter Tryz.func72 rfl Tryz.ntmps72 rfl fun a E =>?_
 simp only [enum, Nat.reduceAdd] at E
 refine wp_region_lit<|lb E H 0 rfl rfl rfl rfl rfl rfl rfl Tryz.underlying59 rfl fun a E=>pr 1 E rfl fun a E=>bk hm fun hx9 hm=>st_append (i := 1) E H (wn rfl) rfl rfl rfl rfl rfl rfl (src_rd hr6) Tryz.underlying59 inf62 rfl hx9 rfl fun v7 w a H E=>?_
 obtain ⟨q10, x11, rfl⟩ := H.rowform (i := 1) rfl
 refine st_st (i := 0) E H (wn rfl) rfl (us := [(.slice q10 (l5 ++ l2).length x11)]) rfl rfl rfl rfl rfl sz59 rfl rfl fun w H=>wpList_nil<|out0 E rfl<|?_
 cases hm
 exact ⟨(.slice q10 (l5 ++ l2).length x11), rfl, H.reads (fun r hr => hr)⟩

def m_part_Of_2 (x1 : Int) (s3 : ByteArray) (x5 : Int) (s6 : ByteArray) (s7 : ByteArray) (x8 : Int) (x9 : Int) (b10 : Bool) : Option S_api_Part :=
  some ((⟨x1, s3, s6, (ByteArray.mk #[]), 0, 0, false⟩ : S_api_Part))
theorem c_part_Of_2 {w : World} {Fo : List Ob} {rs : List Rp} (x1 : Int) (p2 : Nat) (s3 : ByteArray) (p4 : Nat) (x5 : Int) (s6 : ByteArray) (s7 : ByteArray) (x8 : Int) (x9 : Int) (b10 : Bool) (H : Sep w (Blk p2 9 [.string s3] :: Blk p4 55 [.int .i64 x5, .string s6, .string s7, .int .i64 x8, .int .i64 x9, .bool b10] :: Fo) rs) {r : S_api_Part} (hm : m_part_Of_2 x1 s3 x5 s6 s7 x8 x9 b10 = some r) :
    Calls Tryz.prog 74 [.int .i64 x1, pt p2 0, pt p4 0].toArray w (Ret fun v w' => .agg (l_api_Part r).toArray = v ∧ Sep w' (Blk p2 9 [.string s3] :: Blk p4 55 [.int .i64 x5, .string s6, .string s7, .int .i64 x8, .int .i64 x9, .bool b10] :: Fo) (rs)) := by
 unfold m_part_Of_2 at hm
 refine enter Tryz.func74 rfl Tryz.ntmps74 rfl fun a E =>?_
 simp only [enum, Nat.reduceAdd] at E
 refine sq<|al E H rfl rfl rfl rfl zr62 fun p11 w a H E=>nx<|pr 1 E rfl fun a E=>lb E H 1 rfl rfl rfl rfl rfl rfl rfl Tryz.underlying9 rfl fun a E=>pr 1 E rfl fun a E=>lb E H 2 rfl rfl rfl rfl rfl rfl rfl Tryz.underlying9 rfl fun a E=>sv E rfl rfl rfl (x_build E rfl (E.evs rfl) (v := .agg #[.int .i64 x1, .string s3, .string s6, .string (ByteArray.mk #[]), .int .i64 0, .int .i64 0, .bool false]) (by kernel_rfl)) fun a E=>st_st (i := 0) E H (wn rfl) rfl (us := [.int .i64 x1, .string s3, .string s6, .string (ByteArray.mk #[]), .int .i64 0, .int .i64 0, .bool false]) rfl rfl rfl rfl rfl sz62 rfl rfl fun w H=>?_
 refine nt<|wp_ret<|outR1 E rfl (rvBN (i := 0) (us := [.int .i64 x1, .string s3, .string s6, .string (ByteArray.mk #[]), .int .i64 0, .int .i64 0, .bool false]) H rfl rfl rfl Tryz.underlying62 rfl sz62)<|have H:=H.drop 0;?_
 cases hm
 exact ⟨rfl, H.reads (fun r hr => hr)⟩

def m_part_Of_3 (x1 : Int) (x3 : Int) (s4 : ByteArray) (s5 : ByteArray) (x6 : Int) (x7 : Int) (b8 : Bool) : Option S_api_Part :=
  some ((⟨x1, s4, s4, (ByteArray.mk #[]), 0, x7, false⟩ : S_api_Part))
theorem c_part_Of_3 {w : World} {Fo : List Ob} {rs : List Rp} (x1 : Int) (p2 : Nat) (x3 : Int) (s4 : ByteArray) (s5 : ByteArray) (x6 : Int) (x7 : Int) (b8 : Bool) (H : Sep w (Blk p2 55 [.int .i64 x3, .string s4, .string s5, .int .i64 x6, .int .i64 x7, .bool b8] :: Fo) rs) {r : S_api_Part} (hm : m_part_Of_3 x1 x3 s4 s5 x6 x7 b8 = some r) :
    Calls Tryz.prog 75 [.int .i64 x1, pt p2 0].toArray w (Ret fun v w' => .agg (l_api_Part r).toArray = v ∧ Sep w' (Blk p2 55 [.int .i64 x3, .string s4, .string s5, .int .i64 x6, .int .i64 x7, .bool b8] :: Fo) (rs)) := by
 unfold m_part_Of_3 at hm
 refine enter Tryz.func75 rfl Tryz.ntmps75 rfl fun a E =>?_
 simp only [enum, Nat.reduceAdd] at E
 refine sq<|al E H rfl rfl rfl rfl zr62 fun p9 w a H E=>nx<|pr 2 E rfl fun a E=>lb E H 1 rfl rfl rfl rfl rfl rfl rfl Tryz.underlying9 rfl fun a E=>pr 1 E rfl fun a E=>lb E H 1 rfl rfl rfl rfl rfl rfl rfl Tryz.underlying9 rfl fun a E=>pr 1 E rfl fun a E=>lb E H 1 rfl rfl rfl rfl rfl rfl rfl Tryz.underlying2 rfl fun a E=>?_
 refine sv E rfl rfl rfl (x_build E rfl (E.evs rfl) (v := .agg #[.int .i64 x1, .string s4, .string s4, .string (ByteArray.mk #[]), .int .i64 0, .int .i64 x7, .bool false]) (by kernel_rfl)) fun a E=>st_st (i := 0) E H (wn rfl) rfl (us := [.int .i64 x1, .string s4, .string s4, .string (ByteArray.mk #[]), .int .i64 0, .int .i64 x7, .bool false]) rfl rfl rfl rfl rfl sz62 rfl rfl fun w H=>nt<|wp_ret<|outR1 E rfl (rvBN (i := 0) (us := [.int .i64 x1, .string s4, .string s4, .string (ByteArray.mk #[]), .int .i64 0, .int .i64 x7, .bool false]) H rfl rfl rfl Tryz.underlying62 rfl sz62)<|have H:=H.drop 0;?_
 cases hm
 exact ⟨rfl, H.reads (fun r hr => hr)⟩

def m_part_Of_4 (x1 : Int) (s4 : ByteArray) (x6 : Int) (s7 : ByteArray) (s8 : ByteArray) (x9 : Int) (x10 : Int) (b11 : Bool) : Option S_api_Part :=
  (m_part_Of_2 x1 s4 x6 s7 s8 x9 x10 b11).bind fun u13 => some ((⟨u13.Kind, u13.Dir, u13.Path, u13.Data, x9, u13.Owner, u13.Turns⟩ : S_api_Part))
theorem c_part_Of_4 {w : World} {Fo : List Ob} {rs : List Rp} (x1 : Int) (p2 : Nat) (p3 : Nat) (s4 : ByteArray) (p5 : Nat) (x6 : Int) (s7 : ByteArray) (s8 : ByteArray) (x9 : Int) (x10 : Int) (b11 : Bool) (H : Sep w (Blk p2 96 [.func (.func 74) #[] #[pt p3 0, pt p5 0]] :: Blk p3 9 [.string s4] :: Blk p5 55 [.int .i64 x6, .string s7, .string s8, .int .i64 x9, .int .i64 x10, .bool b11] :: Fo) rs) {r : S_api_Part} (hm : m_part_Of_4 x1 s4 x6 s7 s8 x9 x10 b11 = some r) :
    Calls Tryz.prog 76 [.int .i64 x1, pt p2 0, pt p5 0].toArray w (Ret fun v w' => .agg (l_api_Part r).toArray = v ∧ Sep w' (Blk p2 96 [.func (.func 74) #[] #[pt p3 0, pt p5 0]] :: Blk p3 9 [.string s4] :: Blk p5 55 [.int .i64 x6, .string s7, .string s8, .int .i64 x9, .int .i64 x10, .bool b11] :: Fo) (rs)) := by
 unfold m_part_Of_4 at hm
 refine enter Tryz.func76 rfl Tryz.ntmps76 rfl fun a E =>?_
 simp only [enum, Nat.reduceAdd] at E
 refine sq<|al E H rfl rfl rfl rfl zr62 fun p12 w a H E=>nx<|lb E H 1 rfl rfl rfl rfl rfl rfl rfl Tryz.underlying96 rfl fun a E=>pr 1 E rfl fun a E=>have H:=H.front 1 rfl;have H:=H.front 1 rfl;have H:=H.front 3 rfl;have H:=H.front 3 rfl;?_
 refine bd hm fun u13 hx14 hm=>st_call E (wn rfl) rfl rfl (x_callv E rfl rfl rfl (cf74 _)) (c_part_Of_2 x1 p3 s4 p5 x6 s7 s8 x9 x10 b11 H hx14)<|?_
 rintro _ w ⟨rfl, H⟩ a E
 refine al E H rfl rfl rfl rfl zr62 fun p15 w a H E=>st_st (i := 0) E H (wn rfl) rfl (us := (l_api_Part u13)) rfl rfl rfl rfl rfl sz62 rfl rfl fun w H=>nx<|pr 1 E rfl fun a E=>lb E H 2 rfl rfl rfl rfl rfl rfl rfl Tryz.underlying2 rfl fun a E=>pr 1 E rfl fun a E=>st_st (i := 0) E H (wn rfl) rfl (us := [.int .i64 x9]) rfl rfl rfl rfl rfl sz2 rfl rfl fun w H=>nx<|sv E rfl rfl rfl (x_ldBN (i := 0) (us := [.int .i64 u13.Kind, .string u13.Dir, .string u13.Path, .string u13.Data, .int .i64 x9, .int .i64 u13.Owner, .bool u13.Turns]) E H rfl rfl rfl rfl Tryz.underlying62 rfl sz62) fun a E=>?_
 refine st_st (i := 3) E H (wn rfl) rfl (us := [.int .i64 u13.Kind, .string u13.Dir, .string u13.Path, .string u13.Data, .int .i64 x9, .int .i64 u13.Owner, .bool u13.Turns]) rfl rfl rfl rfl rfl sz62 rfl rfl fun w H=>nt<|wp_ret<|outR1 E rfl (rvBN (i := 3) (us := [.int .i64 u13.Kind, .string u13.Dir, .string u13.Path, .string u13.Data, .int .i64 x9, .int .i64 u13.Owner, .bool u13.Turns]) H rfl rfl rfl Tryz.underlying62 rfl sz62)<|have H:=H.drop 0;have H:=H.drop 2;have H:=H.front 1 rfl;have H:=H.front 1 rfl;have H:=H.front 2 rfl;?_
 cases hm
 exact ⟨rfl, H.reads (fun r hr => hr)⟩

def m_part_Of_j1 (l11 : (List S_api_Part)) : Option (List S_api_Part) :=
  some (l11)
def m_part_Of (x1 : S_api_Op) : Option (List S_api_Part) :=
  (m_nodes_May x1).bind fun u3 => if (!u3) = true then (some ([])) else ((m_part_up x1.Path).bind fun u6 => if (x1.Kind == 1) = true then ((m_part_Of_2 2 u6 x1.Kind x1.Path x1.Data x1.Version x1.Owner x1.Turns).bind fun u14 => (m_part_up u6).bind fun u17 => (m_part_Of_1 ([(⟨1, u17, u6, (ByteArray.mk #[]), 0, 0, false⟩ : S_api_Part), (⟨u14.Kind, u14.Dir, u14.Path, x1.Data, u14.Version, x1.Owner, x1.Turns⟩ : S_api_Part)] : List S_api_Part) []).bind fun u20 => m_part_Of_j1 u20) else (if (x1.Kind == 2) = true then ((m_part_Of_4 3 u6 x1.Kind x1.Path x1.Data x1.Version x1.Owner x1.Turns).bind fun u23 => (m_part_Of_3 4 x1.Kind x1.Path x1.Data x1.Version x1.Owner x1.Turns).bind fun u25 => (m_part_Of_1 ([u23, u25] : List S_api_Part) []).bind fun u28 => m_part_Of_j1 u28) else (if (x1.Kind == 3) = true then ((m_part_Of_4 5 u6 x1.Kind x1.Path x1.Data x1.Version x1.Owner x1.Turns).bind fun u31 => (m_part_Of_1 ([(⟨u31.Kind, u31.Dir, u31.Path, x1.Data, u31.Version, u31.Owner, u31.Turns⟩ : S_api_Part)] : List S_api_Part) []).bind fun u35 => m_part_Of_j1 u35) else (if (x1.Kind == 4) = true then ((m_part_Of_4 6 u6 x1.Kind x1.Path x1.Data x1.Version x1.Owner x1.Turns).bind fun u38 => (m_part_Of_1 ([u38] : List S_api_Part) []).bind fun u41 => m_part_Of_j1 u41) else (if (x1.Kind == 5) = true then ((m_part_Of_2 7 u6 x1.Kind x1.Path x1.Data x1.Version x1.Owner x1.Turns).bind fun u44 => (m_part_Of_1 ([u44] : List S_api_Part) []).bind fun u47 => m_part_Of_j1 u47) else (if (x1.Kind == 6) = true then ((m_part_Of_2 8 u6 x1.Kind x1.Path x1.Data x1.Version x1.Owner x1.Turns).bind fun u50 => (m_part_Of_3 9 x1.Kind x1.Path x1.Data x1.Version x1.Owner x1.Turns).bind fun u52 => (m_part_Of_1 ([u50, u52] : List S_api_Part) []).bind fun u55 => m_part_Of_j1 u55) else (if (x1.Kind == 7) = true then ((m_part_Of_2 8 u6 x1.Kind x1.Path x1.Data x1.Version x1.Owner x1.Turns).bind fun u58 => (m_part_Of_3 10 x1.Kind x1.Path x1.Data x1.Version x1.Owner x1.Turns).bind fun u60 => (m_part_Of_1 ([u58, u60] : List S_api_Part) []).bind fun u63 => m_part_Of_j1 u63) else (m_part_Of_j1 []))))))))
theorem c_part_Of {w : World} {Fo : List Ob} {rs : List Rp} (x1 : S_api_Op) (H : Sep w (Fo) rs) {r : (List S_api_Part)} (hm : m_part_Of x1 = some r) :
    Calls Tryz.prog 37 [.agg (l_api_Op x1).toArray].toArray w (Ret fun v w' => ∃ (v5001 : Value), v5001 = v ∧ Sep w' (Row 62 k_api_Part v5001 r :: Fo) (rs)) := by
 unfold m_part_Of at hm
 refine enter Tryz.func37 rfl Tryz.ntmps37 rfl fun a E =>?_
 simp only [enum, Nat.reduceAdd] at E
 refine sq<|st_box E H (wn rfl) rfl rfl (cs := (l_api_Op x1)) rfl rfl rfl fun p2 w a H E=>pr 1 E rfl fun a E=>nt<|wp_seq<|sq<|sv E rfl rfl rfl (x_ldBN (i := 0) (us := (l_api_Op x1)) E H rfl rfl rfl rfl Tryz.underlying55 rfl sz55) fun a E=>bd hm fun u3 hx4 hm=>x_cl E rfl rfl rfl rfl rfl cf53 (c_nodes_May x1 H hx4)<|?_
 rintro _ w ⟨rfl, H⟩ a E
 refine pr 1 E rfl fun a E=>nt<|wif E hm rfl (fun hm=>?_) fun hm=>?_
 ·refine sq<|pr 1 E rfl fun a E=>nt<|wp_ret<|q_thenR<|out1 E rfl rfl<|have H:=H.nilRow 62 k_api_Part;have H:=H.drop 1;?_
  cases hm
  exact ⟨(.slice none 0 0), rfl, H.reads (fun r hr => hr)⟩
 ·refine wp_skip<|q_then<|sq<|al1 E H rfl rfl rfl rfl zr59 rfl fun p5 w a H E=>nx<|sv E rfl rfl rfl (x_func E rfl rfl rfl) fun a E=>pr 1 E rfl fun a E=>nx<|pr 1 E rfl fun a E=>?_
  refine lb E H 1 rfl rfl rfl rfl rfl rfl rfl Tryz.underlying9 rfl fun a E=>bd hm fun u6 hx7 hm=>x_cl E rfl rfl rfl rfl rfl cf73 (c_part_up x1.Path H hx7)<|?_
  rintro _ w ⟨rfl, H⟩ a E
  refine al1 E H rfl rfl rfl rfl zr9 rfl fun p8 w a H E=>st_st (i := 0) E H (wn rfl) rfl (us := [.string u6]) rfl rfl rfl rfl rfl sz9 rfl rfl fun w H=>nx<|sv E rfl rfl rfl (x_func E rfl rfl rfl) fun a E=>al1 E H rfl rfl rfl rfl zr96 rfl fun p9 w a H E=>st_st (i := 0) E H (wn rfl) rfl (us := [.func (.func 74) #[] #[pt p8 0, pt p2 0]]) rfl rfl rfl rfl rfl sz96 rfl rfl fun w H=>nx<|sv E rfl rfl rfl (x_func E rfl rfl rfl) fun a E=>pr 1 E rfl fun a E=>?_
  refine nx<|sv E rfl rfl rfl (x_func E rfl rfl rfl) fun a E=>pr 1 E rfl fun a E=>nt<|wp_seq_cut (fun a w => ∃ (v10 : Value) (l11 : (List S_api_Part)) (rs12 : List Rp), Env 97 a [(3, pt p5 0)] ∧ Sep w (Blk p5 59 [v10] :: Row 62 k_api_Part v10 l11 :: Fo) rs12 ∧ (∀ r, r ∈ rs → r ∈ rs12) ∧ m_part_Of_j1 l11 = some r) ?_ ?_
  ·refine sq<|pr 1 E rfl fun a E=>lb E H 3 rfl rfl rfl rfl rfl rfl rfl Tryz.underlying3 rfl fun a E=>nt<|wp_block<|sq<|pr 2 E rfl fun a E=>nt<|wif E hm rfl (fun hm=>?_) fun hm=>?_
   ·refine sq<|lb E H 0 rfl rfl rfl rfl rfl rfl rfl Tryz.underlying96 rfl fun a E=>have H:=H.front 2 rfl;have H:=H.front 1 rfl;have H:=H.front 3 rfl;have H:=H.front 3 rfl;bd hm fun u14 hx15 hm=>st_call E (wn rfl) rfl rfl (x_callv E rfl rfl rfl (cf74 _)) (c_part_Of_2 2 p8 u6 p2 x1.Kind x1.Path x1.Data x1.Version x1.Owner x1.Turns H hx15)<|?_
    rintro _ w ⟨rfl, H⟩ a E
    refine al E H rfl rfl rfl rfl zr62 fun p16 w a H E=>st_st (i := 0) E H (wn rfl) rfl (us := (l_api_Part u14)) rfl rfl rfl rfl rfl sz62 rfl rfl fun w H=>nt<|wp_seq<|dw [(0, 0), (1, 0), (2, 0), (3, 0), (4, 0), (5, 0), (6, 0), (7, 1), (8, 0), (9, 1), (10, 2), (11, 2)] [2] [] H (by kernel_rfl) (fun _ _ _ h => False.elim h.2) fun w W0 hI H=>fn 1 E rfl fun a E=>fb E rfl (wn rfl) rfl rfl rfl rfl m0 rfl Tryz.underlying9 rfl fun a E=>fn 1 E rfl fun a E=>fb E rfl (wn rfl) rfl rfl rfl rfl m0 rfl Tryz.underlying2 rfl fun a E=>?_
    refine fn 1 E rfl fun a E=>fb E rfl (wn rfl) rfl rfl rfl rfl m0 rfl Tryz.underlying4 rfl fun a E=>fn 1 E rfl fun a E=>fr_op rfl<|st_st (i := 0) E H (wn rfl) rfl (us := [.string x1.Data]) rfl rfl rfl rfl rfl sz9 rfl rfl fun w H=>nt<|?_
    refine ⟨⟨_, _, H, (subO_cons mm2 (subO_nil)), (sub_nil)⟩, ?_⟩
    refine fn 1 E rfl fun a E=>fr_op rfl<|st_st (i := 0) E H (wn rfl) rfl (us := [.int .i64 x1.Owner]) rfl rfl rfl rfl rfl sz2 rfl rfl fun w H=>nt<|?_
    refine ⟨⟨_, _, H, (subO_cons mm2 (subO_nil)), (sub_nil)⟩, ?_⟩
    refine fr_tail rfl<|pr 1 E rfl fun a E=>nt<|fr_tail rfl<|st_st (i := 0) E H (wn rfl) rfl (us := [.bool x1.Turns]) rfl rfl rfl rfl rfl sz4 rfl rfl fun w H=>nt<|fr_nil<|?_
    clear hI
    refine q_then<|dw [(0, 0), (1, 0), (3, 0), (5, 0), (2, 1), (4, 0), (6, 1), (7, 1)] [0, 1] [] H (by kernel_rfl) (fun _ _ _ h => False.elim h.2) fun w W0 hI H=>fn 1 E rfl fun a E=>fb E rfl (wn rfl) rfl rfl rfl rfl mm1 rfl Tryz.underlying9 rfl fun a E=>fb E rfl (wn rfl) rfl rfl rfl rfl mm1 rfl Tryz.underlying9 rfl fun a E=>fbn E [.int .i64 u14.Kind, .string u14.Dir, .string u14.Path, .string x1.Data, .int .i64 u14.Version, .int .i64 x1.Owner, .bool x1.Turns] rfl (wn rfl) rfl rfl rfl rfl m0 rfl Tryz.underlying62 rfl sz62 fun a E=>fr_op rfl<|bd hm fun u17 hx18 hm=>x_cl E rfl rfl rfl rfl rfl cf73 (c_part_up u6 H hx18)<|?_
    rintro _ w ⟨rfl, H⟩ a E
    refine nt<|?_
    refine ⟨⟨_, _, H, (subO_cons m0 (subO_cons mm1 (subO_nil))), (sub_nil)⟩, ?_⟩
    refine fr_val E rfl (wn rfl) rfl rfl (fun w hW=>(x_build E rfl (E.evs rfl) (v := .agg #[.int .i64 1, .string u17, .string u6, .string (ByteArray.mk #[]), .int .i64 0, .int .i64 0, .bool false]) (by kernel_rfl))) fun a E=>?_
    refine fr_op rfl<|st_bsO (e := 62) (d := k_api_Part) (cs := [.int .i64 1, .string u17, .string u6, .string (ByteArray.mk #[]), .int .i64 0, .int .i64 0, .bool false, .int .i64 u14.Kind, .string u14.Dir, .string u14.Path, .string x1.Data, .int .i64 u14.Version, .int .i64 x1.Owner, .bool x1.Turns]) (xs := [(⟨1, u17, u6, (ByteArray.mk #[]), 0, 0, false⟩ : S_api_Part), (⟨u14.Kind, u14.Dir, u14.Path, x1.Data, u14.Version, x1.Owner, x1.Turns⟩ : S_api_Part)]) E H (wn rfl) rfl rfl rfl (E.evs rfl) (by kernel_rfl) rfl rfl (fun ok hr => (Rows.append (Rows.single (d := k_api_Part) (cs := [.int .i64 1, .string u17, .string u6, .string (ByteArray.mk #[]), .int .i64 0, .int .i64 0, .bool false]) (x := (⟨1, u17, u6, (ByteArray.mk #[]), 0, 0, false⟩ : S_api_Part)) k_api_Part_mk) (Rows.single (d := k_api_Part) (cs := [.int .i64 u14.Kind, .string u14.Dir, .string u14.Path, .string x1.Data, .int .i64 u14.Version, .int .i64 x1.Owner, .bool x1.Turns]) (x := (⟨u14.Kind, u14.Dir, u14.Path, x1.Data, u14.Version, x1.Owner, x1.Turns⟩ : S_api_Part)) k_api_Part_mk))) fun v19 w a H E=>nt<|?_
    refine ⟨⟨_, _, H, (subO_cons mm1 (subO_cons mm2 (subO_nil))), (sub_nil)⟩, ?_⟩
    refine fr_op rfl<|have H:=H.thaw (i := 0) rfl;have H:=H.nilRow 62 k_api_Part;have H:=H.front 4 rfl;have H:=H.front 4 rfl;have H:=H.front 4 rfl;have H:=H.front 4 rfl;have H:=H.front 4 rfl;have H:=H.front 5 rfl;?_
    refine bd hm fun u20 hx21 hm=>st_call E (wn rfl) rfl rfl (x_callv E rfl rfl rfl (cf72 _)) (c_part_Of_1 v19 ([(⟨1, u17, u6, (ByteArray.mk #[]), 0, 0, false⟩ : S_api_Part), (⟨u14.Kind, u14.Dir, u14.Path, x1.Data, u14.Version, x1.Owner, x1.Turns⟩ : S_api_Part)] : List S_api_Part) p5 (.slice none 0 0) [] H m0 hx21)<|?_
    rintro _ w ⟨v22, rfl, H⟩ a E
    refine nt<|?_
    refine ⟨⟨_, _, H, (subO_cons mm2 (subO_cons mm3 (subO_nil))), (sub_nil)⟩, ?_⟩
    refine fr_nil<|?_
    clear hI
    exact q_blk<|q_then<|have H:=H.drop 2;have H:=H.drop 2;have H:=H.drop 2;have H:=H.drop 2;⟨v22, u20, _, E.sel [3] rfl, H, fun r hr => (t1 hr), hm⟩
   ·refine sq<|pr 2 E rfl fun a E=>nt<|wif E hm rfl (fun hm=>?_) fun hm=>?_
    ·refine wp_region_lit<|pr 2 E rfl fun a E=>have H:=H.front 2 rfl;have H:=H.front 3 rfl;have H:=H.front 3 rfl;have H:=H.front 3 rfl;bd hm fun u23 hx24 hm=>st_call E (wn rfl) rfl rfl (x_callv E rfl rfl rfl (cf76 _)) (c_part_Of_4 3 p9 p8 u6 p2 x1.Kind x1.Path x1.Data x1.Version x1.Owner x1.Turns H hx24)<|?_
     rintro _ w ⟨rfl, H⟩ a E
     refine pr 1 E rfl fun a E=>have H:=H.front 3 rfl;have H:=H.front 2 rfl;have H:=H.front 2 rfl;have H:=H.front 3 rfl;bd hm fun u25 hx26 hm=>st_call E (wn rfl) rfl rfl (x_callv E rfl rfl rfl (cf75 _)) (c_part_Of_3 4 p2 x1.Kind x1.Path x1.Data x1.Version x1.Owner x1.Turns H hx26)<|?_
     rintro _ w ⟨rfl, H⟩ a E
     refine st_bsO (e := 62) (d := k_api_Part) (cs := [.int .i64 u23.Kind, .string u23.Dir, .string u23.Path, .string u23.Data, .int .i64 u23.Version, .int .i64 u23.Owner, .bool u23.Turns, .int .i64 u25.Kind, .string u25.Dir, .string u25.Path, .string u25.Data, .int .i64 u25.Version, .int .i64 u25.Owner, .bool u25.Turns]) (xs := [u23, u25]) E H (wn rfl) rfl rfl rfl (E.evs rfl) (by kernel_rfl) rfl rfl (fun ok hr => (Rows.append (Rows.single (d := k_api_Part) (cs := [.int .i64 u23.Kind, .string u23.Dir, .string u23.Path, .string u23.Data, .int .i64 u23.Version, .int .i64 u23.Owner, .bool u23.Turns]) (x := u23) k_api_Part_mk) (Rows.single (d := k_api_Part) (cs := [.int .i64 u25.Kind, .string u25.Dir, .string u25.Path, .string u25.Data, .int .i64 u25.Version, .int .i64 u25.Owner, .bool u25.Turns]) (x := u25) k_api_Part_mk))) fun v27 w a H E=>have H:=H.thaw (i := 0) rfl;have H:=H.nilRow 62 k_api_Part;have H:=H.front 3 rfl;have H:=H.front 3 rfl;have H:=H.front 3 rfl;have H:=H.front 3 rfl;have H:=H.front 4 rfl;bd hm fun u28 hx29 hm=>?_
     refine st_call E (wn rfl) rfl rfl (x_callv E rfl rfl rfl (cf72 _)) (c_part_Of_1 v27 ([u23, u25] : List S_api_Part) p5 (.slice none 0 0) [] H m0 hx29)<|?_
     rintro _ w ⟨v30, rfl, H⟩ a E
     exact wpList_nil<|q_blk<|q_then<|have H:=H.drop 2;have H:=H.drop 2;have H:=H.drop 2;⟨v30, u28, _, E.sel [3] rfl, H, fun r hr => (t1 hr), hm⟩
    ·refine sq<|pr 2 E rfl fun a E=>nt<|wif E hm rfl (fun hm=>?_) fun hm=>?_
     ·refine sq<|pr 1 E rfl fun a E=>have H:=H.front 2 rfl;have H:=H.front 3 rfl;have H:=H.front 3 rfl;have H:=H.front 3 rfl;bd hm fun u31 hx32 hm=>st_call E (wn rfl) rfl rfl (x_callv E rfl rfl rfl (cf76 _)) (c_part_Of_4 5 p9 p8 u6 p2 x1.Kind x1.Path x1.Data x1.Version x1.Owner x1.Turns H hx32)<|?_
      rintro _ w ⟨rfl, H⟩ a E
      refine al E H rfl rfl rfl rfl zr62 fun p33 w a H E=>st_st (i := 0) E H (wn rfl) rfl (us := (l_api_Part u31)) rfl rfl rfl rfl rfl sz62 rfl rfl fun w H=>nx<|pr 1 E rfl fun a E=>lb E H 3 rfl rfl rfl rfl rfl rfl rfl Tryz.underlying9 rfl fun a E=>pr 1 E rfl fun a E=>st_st (i := 0) E H (wn rfl) rfl (us := [.string x1.Data]) rfl rfl rfl rfl rfl sz9 rfl rfl fun w H=>nt<|wp_region_lit<|?_
      refine pr 1 E rfl fun a E=>sv E rfl rfl rfl (x_ldBN (i := 0) (us := [.int .i64 u31.Kind, .string u31.Dir, .string u31.Path, .string x1.Data, .int .i64 u31.Version, .int .i64 u31.Owner, .bool u31.Turns]) E H rfl rfl rfl rfl Tryz.underlying62 rfl sz62) fun a E=>st_bsO (e := 62) (d := k_api_Part) (cs := [.int .i64 u31.Kind, .string u31.Dir, .string u31.Path, .string x1.Data, .int .i64 u31.Version, .int .i64 u31.Owner, .bool u31.Turns]) (xs := [(⟨u31.Kind, u31.Dir, u31.Path, x1.Data, u31.Version, u31.Owner, u31.Turns⟩ : S_api_Part)]) E H (wn rfl) rfl rfl rfl (E.evs rfl) (by kernel_rfl) rfl rfl (fun ok hr => (Rows.single (d := k_api_Part) (cs := [.int .i64 u31.Kind, .string u31.Dir, .string u31.Path, .string x1.Data, .int .i64 u31.Version, .int .i64 u31.Owner, .bool u31.Turns]) (x := (⟨u31.Kind, u31.Dir, u31.Path, x1.Data, u31.Version, u31.Owner, u31.Turns⟩ : S_api_Part)) k_api_Part_mk)) fun v34 w a H E=>have H:=H.thaw (i := 0) rfl;have H:=H.nilRow 62 k_api_Part;have H:=H.front 4 rfl;have H:=H.front 4 rfl;have H:=H.front 4 rfl;have H:=H.front 4 rfl;?_
      refine have H:=H.front 4 rfl;have H:=H.front 5 rfl;bd hm fun u35 hx36 hm=>st_call E (wn rfl) rfl rfl (x_callv E rfl rfl rfl (cf72 _)) (c_part_Of_1 v34 ([(⟨u31.Kind, u31.Dir, u31.Path, x1.Data, u31.Version, u31.Owner, u31.Turns⟩ : S_api_Part)] : List S_api_Part) p5 (.slice none 0 0) [] H m0 hx36)<|?_
      rintro _ w ⟨v37, rfl, H⟩ a E
      exact wpList_nil<|q_blk<|q_then<|have H:=H.drop 2;have H:=H.drop 2;have H:=H.drop 2;have H:=H.drop 2;⟨v37, u35, _, E.sel [3] rfl, H, fun r hr => (t1 hr), hm⟩
     ·refine sq<|pr 2 E rfl fun a E=>nt<|wif E hm rfl (fun hm=>?_) fun hm=>?_
      ·refine wp_region_lit<|pr 2 E rfl fun a E=>have H:=H.front 2 rfl;have H:=H.front 3 rfl;have H:=H.front 3 rfl;have H:=H.front 3 rfl;bd hm fun u38 hx39 hm=>st_call E (wn rfl) rfl rfl (x_callv E rfl rfl rfl (cf76 _)) (c_part_Of_4 6 p9 p8 u6 p2 x1.Kind x1.Path x1.Data x1.Version x1.Owner x1.Turns H hx39)<|?_
       rintro _ w ⟨rfl, H⟩ a E
       refine st_bsO (e := 62) (d := k_api_Part) (cs := [.int .i64 u38.Kind, .string u38.Dir, .string u38.Path, .string u38.Data, .int .i64 u38.Version, .int .i64 u38.Owner, .bool u38.Turns]) (xs := [u38]) E H (wn rfl) rfl rfl rfl (E.evs rfl) (by kernel_rfl) rfl rfl (fun ok hr => (Rows.single (d := k_api_Part) (cs := [.int .i64 u38.Kind, .string u38.Dir, .string u38.Path, .string u38.Data, .int .i64 u38.Version, .int .i64 u38.Owner, .bool u38.Turns]) (x := u38) k_api_Part_mk)) fun v40 w a H E=>have H:=H.thaw (i := 0) rfl;have H:=H.nilRow 62 k_api_Part;have H:=H.front 3 rfl;have H:=H.front 3 rfl;have H:=H.front 3 rfl;have H:=H.front 3 rfl;have H:=H.front 4 rfl;bd hm fun u41 hx42 hm=>?_
       refine st_call E (wn rfl) rfl rfl (x_callv E rfl rfl rfl (cf72 _)) (c_part_Of_1 v40 ([u38] : List S_api_Part) p5 (.slice none 0 0) [] H m0 hx42)<|?_
       rintro _ w ⟨v43, rfl, H⟩ a E
       exact wpList_nil<|q_blk<|q_then<|have H:=H.drop 2;have H:=H.drop 2;have H:=H.drop 2;⟨v43, u41, _, E.sel [3] rfl, H, fun r hr => (t1 hr), hm⟩
      ·refine sq<|pr 2 E rfl fun a E=>nt<|wif E hm rfl (fun hm=>?_) fun hm=>?_
       ·refine wp_region_lit<|pr 1 E rfl fun a E=>lb E H 0 rfl rfl rfl rfl rfl rfl rfl Tryz.underlying96 rfl fun a E=>have H:=H.front 2 rfl;have H:=H.front 1 rfl;have H:=H.front 3 rfl;have H:=H.front 3 rfl;bd hm fun u44 hx45 hm=>st_call E (wn rfl) rfl rfl (x_callv E rfl rfl rfl (cf74 _)) (c_part_Of_2 7 p8 u6 p2 x1.Kind x1.Path x1.Data x1.Version x1.Owner x1.Turns H hx45)<|?_
        rintro _ w ⟨rfl, H⟩ a E
        refine st_bsO (e := 62) (d := k_api_Part) (cs := [.int .i64 u44.Kind, .string u44.Dir, .string u44.Path, .string u44.Data, .int .i64 u44.Version, .int .i64 u44.Owner, .bool u44.Turns]) (xs := [u44]) E H (wn rfl) rfl rfl rfl (E.evs rfl) (by kernel_rfl) rfl rfl (fun ok hr => (Rows.single (d := k_api_Part) (cs := [.int .i64 u44.Kind, .string u44.Dir, .string u44.Path, .string u44.Data, .int .i64 u44.Version, .int .i64 u44.Owner, .bool u44.Turns]) (x := u44) k_api_Part_mk)) fun v46 w a H E=>have H:=H.thaw (i := 0) rfl;have H:=H.nilRow 62 k_api_Part;have H:=H.front 3 rfl;have H:=H.front 3 rfl;have H:=H.front 3 rfl;have H:=H.front 3 rfl;have H:=H.front 4 rfl;bd hm fun u47 hx48 hm=>?_
        refine st_call E (wn rfl) rfl rfl (x_callv E rfl rfl rfl (cf72 _)) (c_part_Of_1 v46 ([u44] : List S_api_Part) p5 (.slice none 0 0) [] H m0 hx48)<|?_
        rintro _ w ⟨v49, rfl, H⟩ a E
        exact wpList_nil<|q_blk<|q_then<|have H:=H.drop 2;have H:=H.drop 2;have H:=H.drop 2;⟨v49, u47, _, E.sel [3] rfl, H, fun r hr => (t1 hr), hm⟩
       ·refine sq<|pr 2 E rfl fun a E=>nt<|wif E hm rfl (fun hm=>?_) fun hm=>?_
        ·refine wp_region_lit<|pr 1 E rfl fun a E=>lb E H 0 rfl rfl rfl rfl rfl rfl rfl Tryz.underlying96 rfl fun a E=>have H:=H.front 2 rfl;have H:=H.front 1 rfl;have H:=H.front 3 rfl;have H:=H.front 3 rfl;bd hm fun u50 hx51 hm=>st_call E (wn rfl) rfl rfl (x_callv E rfl rfl rfl (cf74 _)) (c_part_Of_2 8 p8 u6 p2 x1.Kind x1.Path x1.Data x1.Version x1.Owner x1.Turns H hx51)<|?_
         rintro _ w ⟨rfl, H⟩ a E
         refine pr 1 E rfl fun a E=>have H:=H.front 3 rfl;have H:=H.front 3 rfl;have H:=H.front 2 rfl;have H:=H.front 3 rfl;bd hm fun u52 hx53 hm=>st_call E (wn rfl) rfl rfl (x_callv E rfl rfl rfl (cf75 _)) (c_part_Of_3 9 p2 x1.Kind x1.Path x1.Data x1.Version x1.Owner x1.Turns H hx53)<|?_
         rintro _ w ⟨rfl, H⟩ a E
         refine st_bsO (e := 62) (d := k_api_Part) (cs := [.int .i64 u50.Kind, .string u50.Dir, .string u50.Path, .string u50.Data, .int .i64 u50.Version, .int .i64 u50.Owner, .bool u50.Turns, .int .i64 u52.Kind, .string u52.Dir, .string u52.Path, .string u52.Data, .int .i64 u52.Version, .int .i64 u52.Owner, .bool u52.Turns]) (xs := [u50, u52]) E H (wn rfl) rfl rfl rfl (E.evs rfl) (by kernel_rfl) rfl rfl (fun ok hr => (Rows.append (Rows.single (d := k_api_Part) (cs := [.int .i64 u50.Kind, .string u50.Dir, .string u50.Path, .string u50.Data, .int .i64 u50.Version, .int .i64 u50.Owner, .bool u50.Turns]) (x := u50) k_api_Part_mk) (Rows.single (d := k_api_Part) (cs := [.int .i64 u52.Kind, .string u52.Dir, .string u52.Path, .string u52.Data, .int .i64 u52.Version, .int .i64 u52.Owner, .bool u52.Turns]) (x := u52) k_api_Part_mk))) fun v54 w a H E=>have H:=H.thaw (i := 0) rfl;have H:=H.nilRow 62 k_api_Part;have H:=H.front 3 rfl;have H:=H.front 3 rfl;have H:=H.front 3 rfl;have H:=H.front 3 rfl;have H:=H.front 4 rfl;bd hm fun u55 hx56 hm=>?_
         refine st_call E (wn rfl) rfl rfl (x_callv E rfl rfl rfl (cf72 _)) (c_part_Of_1 v54 ([u50, u52] : List S_api_Part) p5 (.slice none 0 0) [] H m0 hx56)<|?_
         rintro _ w ⟨v57, rfl, H⟩ a E
         exact wpList_nil<|q_blk<|q_then<|have H:=H.drop 2;have H:=H.drop 2;have H:=H.drop 2;⟨v57, u55, _, E.sel [3] rfl, H, fun r hr => (t1 hr), hm⟩
        ·refine sq<|pr 2 E rfl fun a E=>nt<|wif E hm rfl (fun hm=>?_) fun hm=>?_
         ·refine wp_region_lit<|pr 1 E rfl fun a E=>lb E H 0 rfl rfl rfl rfl rfl rfl rfl Tryz.underlying96 rfl fun a E=>have H:=H.front 2 rfl;have H:=H.front 1 rfl;have H:=H.front 3 rfl;have H:=H.front 3 rfl;bd hm fun u58 hx59 hm=>st_call E (wn rfl) rfl rfl (x_callv E rfl rfl rfl (cf74 _)) (c_part_Of_2 8 p8 u6 p2 x1.Kind x1.Path x1.Data x1.Version x1.Owner x1.Turns H hx59)<|?_
          rintro _ w ⟨rfl, H⟩ a E
          refine pr 1 E rfl fun a E=>have H:=H.front 3 rfl;have H:=H.front 3 rfl;have H:=H.front 2 rfl;have H:=H.front 3 rfl;bd hm fun u60 hx61 hm=>st_call E (wn rfl) rfl rfl (x_callv E rfl rfl rfl (cf75 _)) (c_part_Of_3 10 p2 x1.Kind x1.Path x1.Data x1.Version x1.Owner x1.Turns H hx61)<|?_
          rintro _ w ⟨rfl, H⟩ a E
          refine st_bsO (e := 62) (d := k_api_Part) (cs := [.int .i64 u58.Kind, .string u58.Dir, .string u58.Path, .string u58.Data, .int .i64 u58.Version, .int .i64 u58.Owner, .bool u58.Turns, .int .i64 u60.Kind, .string u60.Dir, .string u60.Path, .string u60.Data, .int .i64 u60.Version, .int .i64 u60.Owner, .bool u60.Turns]) (xs := [u58, u60]) E H (wn rfl) rfl rfl rfl (E.evs rfl) (by kernel_rfl) rfl rfl (fun ok hr => (Rows.append (Rows.single (d := k_api_Part) (cs := [.int .i64 u58.Kind, .string u58.Dir, .string u58.Path, .string u58.Data, .int .i64 u58.Version, .int .i64 u58.Owner, .bool u58.Turns]) (x := u58) k_api_Part_mk) (Rows.single (d := k_api_Part) (cs := [.int .i64 u60.Kind, .string u60.Dir, .string u60.Path, .string u60.Data, .int .i64 u60.Version, .int .i64 u60.Owner, .bool u60.Turns]) (x := u60) k_api_Part_mk))) fun v62 w a H E=>have H:=H.thaw (i := 0) rfl;have H:=H.nilRow 62 k_api_Part;have H:=H.front 3 rfl;have H:=H.front 3 rfl;have H:=H.front 3 rfl;have H:=H.front 3 rfl;have H:=H.front 4 rfl;bd hm fun u63 hx64 hm=>?_
          refine st_call E (wn rfl) rfl rfl (x_callv E rfl rfl rfl (cf72 _)) (c_part_Of_1 v62 ([u58, u60] : List S_api_Part) p5 (.slice none 0 0) [] H m0 hx64)<|?_
          rintro _ w ⟨v65, rfl, H⟩ a E
          exact wpList_nil<|q_blk<|q_then<|have H:=H.drop 2;have H:=H.drop 2;have H:=H.drop 2;⟨v65, u63, _, E.sel [3] rfl, H, fun r hr => (t1 hr), hm⟩
         ·exact wp_skip<|q_blk<|q_then<|have H:=H.nilRow 62 k_api_Part;have H:=H.drop 1;have H:=H.drop 1;have H:=H.drop 2;have H:=H.front 0 rfl;have H:=H.front 1 rfl;⟨(.slice none 0 0), [], _, E.sel [3] rfl, H, fun r hr => hr, hm⟩
  ·clear E H hm
   rintro a w ⟨v10, l11, rs12, E, H, hs13, hm⟩
   unfold m_part_Of_j1 at hm
   refine sq<|lb E H 0 rfl rfl rfl rfl rfl rfl rfl Tryz.underlying59 rfl fun a E=>pr 1 E rfl fun a E=>nt<|wp_ret<|out1 E rfl rfl<|have H:=H.drop 0;?_
   cases hm
   exact ⟨v10, rfl, H.reads (hs13)⟩

def m_part_Keep_j1 (rec_1 : Int → (List S_api_Node) → (List S_api_Turn) → Option S_api_Store) (l8 : (List S_api_Node)) (x14 : S_api_Node) (x6 : Int) (l19 : (List S_api_Turn)) : Option S_api_Store :=
  (ck (l8.length + ([(⟨x14.Path, x14.Data, x14.Version, 0, x14.Owner⟩ : S_api_Node)] : List S_api_Node).length ≤ LIM)).bind fun u25 => rec_1 (IntKind.i64.wrap (x6 + 1)) (l8 ++ ([(⟨x14.Path, x14.Data, x14.Version, 0, x14.Owner⟩ : S_api_Node)] : List S_api_Node)) l19
def m_part_Keep_l1 (l2 : List S_api_Node) : Nat → Int → (List S_api_Node) → (List S_api_Turn) → Option S_api_Store
  | 0, _, _, _ => none
  | k1 + 1, x6, l8, l10 =>
    if (decide (x6 < (l2.length : Int))) = true then ((idx l2 x6).bind fun x14 => if (x14.Turn != 0) = true then ((ck (l10.length + ([(⟨x14.Path, x14.Turn⟩ : S_api_Turn)] : List S_api_Turn).length ≤ LIM)).bind fun u31 => m_part_Keep_j1 (m_part_Keep_l1 l2 k1) l8 x14 x6 (l10 ++ ([(⟨x14.Path, x14.Turn⟩ : S_api_Turn)] : List S_api_Turn))) else (m_part_Keep_j1 (m_part_Keep_l1 l2 k1) l8 x14 x6 l10)) else (some ((⟨l8, l10⟩ : S_api_Store)))
def m_part_Keep (l2 : List S_api_Node) : Option S_api_Store :=
  m_part_Keep_l1 l2 (((l2.length : Int) - 0 : Int).toNat + 1) 0 [] []
theorem c_part_Keep {w : World} {Fo : List Ob} {rs : List Rp} (v1 : Value) (l2 : List S_api_Node) (H : Sep w (Fo) rs) (hr3 : rSl k_api_Node v1 l2 ∈ rs) {r : S_api_Store} (hm : m_part_Keep l2 = some r) :
    Calls Tryz.prog 39 [v1].toArray w (Ret fun v w' => ∃ (v5002 : Value) (v5003 : Value), .agg #[v5002, v5003] = v ∧ Sep w' (Fo) (rSl k_api_Node v5002 r.Nodes :: rSl k_api_Turn v5003 r.Turns :: rs)) := by
 unfold m_part_Keep at hm
 refine enter Tryz.func39 rfl Tryz.ntmps39 rfl fun a E =>?_
 simp only [enum, Nat.reduceAdd] at E
 refine sq<|al E H rfl rfl rfl rfl zr41 fun p4 w a H E=>nx<|al E H rfl rfl rfl rfl zr41 fun p5 w a H E=>nt<|wp_seq<|sq<|pr 1 E rfl fun a E=>sv E rfl rfl rfl (x_lenS E H rfl rfl hr3 Tryz.underlying22) fun a E=>?_
 refine pr 1 E rfl fun a E=>nt<|wp_block<|wp_loop_g (fun k1 a w => ∃ (v7 : Value) (v9 : Value) (x6 : Int) (l8 : (List S_api_Node)) (l10 : (List S_api_Turn)) (rs11 : List Rp), Env 34 a [(2, pt p4 0), (3, pt p5 0), (6, v1), (7, .int .i64 (l2.length : Int)), (8, .int .i64 x6)] ∧ Sep w (Blk p4 41 [.slice none 0 0, .slice none 0 0] :: Blk p5 41 [v7, v9] :: Row 80 k_api_Node v7 l8 :: Row 83 k_api_Turn v9 l10 :: Fo) rs11 ∧ (∀ r, r ∈ rs → r ∈ rs11) ∧ rSl k_api_Node v1 l2 ∈ rs11 ∧ m_part_Keep_l1 l2 k1 x6 l8 l10 = some r) (((l2.length : Int) - 0 : Int).toNat + 1) ?_ ?_
 ·exact have H:=H.nilRow 80 k_api_Node;have H:=H.nilRow 83 k_api_Turn;have H:=H.front 0 rfl;have H:=H.front 1 rfl;have H:=H.front 2 rfl;have H:=H.front 3 rfl;⟨(.slice none 0 0), (.slice none 0 0), 0, [], [], _, E.sel [2, 3, 6, 7, 8] rfl, H, fun r hr => hr, hr3, hm⟩
 ·clear E H hm
  rintro k1 a w ⟨v7, v9, x6, l8, l10, rs11, E, H, hs12, hr13, hm⟩
  cases k1 with
  | zero => exact (none_some hm rfl).elim
  | succ k1 =>
   unfold m_part_Keep_l1 at hm
   refine sq<|pr 1 E rfl fun a E=>nt<|wp_seq<|wif E hm rfl (fun hm=>?_) fun hm=>?_
   ·refine wp_skip<|q_then<|wp_seq<|wp_block<|sq<|bd hm fun x14 hx15 hm=>st_ixS E H (wn rfl) rfl rfl rfl rfl rfl hr13 Tryz.underlying22 sz80 hx15 fun q16 a H E=>ldf k_api_Node_flat E H rfl rfl rfl rfl rfl m0 Tryz.underlying80 rfl sz80 fun a E=>al E H rfl rfl rfl rfl zr80 fun p17 w a H E=>?_
    refine st_st (i := 0) E H (wn rfl) rfl (us := (l_api_Node x14)) rfl rfl rfl rfl rfl sz80 rfl rfl fun w H=>nt<|wp_seq_cut (fun a w => ∃ (v18 : Value) (l19 : (List S_api_Turn)) (rs20 : List Rp), Env 34 a [(2, pt p4 0), (3, pt p5 0), (5, pt p17 0), (6, v1), (7, .int .i64 (l2.length : Int)), (8, .int .i64 x6)] ∧ Sep w (Blk p4 41 [.slice none 0 0, .slice none 0 0] :: Blk p5 41 [v7, v18] :: Blk p17 80 (l_api_Node x14) :: Row 80 k_api_Node v7 l8 :: Row 83 k_api_Turn v18 l19 :: Fo) rs20 ∧ (∀ r, r ∈ rs → r ∈ rs20) ∧ rSl k_api_Node v1 l2 ∈ rs20 ∧ m_part_Keep_j1 (m_part_Keep_l1 l2 k1) l8 x14 x6 l19 = some r) ?_ ?_
    ·refine sq<|pr 1 E rfl fun a E=>lb E H 0 rfl rfl rfl rfl rfl rfl rfl Tryz.underlying2 rfl fun a E=>pr 1 E rfl fun a E=>nt<|wif E hm rfl (fun hm=>?_) fun hm=>?_
     ·refine wp_region_lit<|pr 1 E rfl fun a E=>lb E H 2 rfl rfl rfl rfl rfl rfl rfl Tryz.underlying39 rfl fun a E=>pr 1 E rfl fun a E=>lb E H 0 rfl rfl rfl rfl rfl rfl rfl Tryz.underlying9 rfl fun a E=>pr 1 E rfl fun a E=>lb E H 0 rfl rfl rfl rfl rfl rfl rfl Tryz.underlying2 rfl fun a E=>sv E rfl rfl rfl (x_build E rfl (E.evs rfl) (v := .agg #[.string x14.Path, .int .i64 x14.Turn]) (by kernel_rfl)) fun a E=>st_bsR (e := 83) (d := k_api_Turn) (cs := [.string x14.Path, .int .i64 x14.Turn]) (xs := [(⟨x14.Path, x14.Turn⟩ : S_api_Turn)]) E H (wn rfl) rfl rfl rfl (E.evs rfl) (by kernel_rfl) rfl (fun ok hr => (Rows.single (d := k_api_Turn) (cs := [.string x14.Path, .int .i64 x14.Turn]) (x := (⟨x14.Path, x14.Turn⟩ : S_api_Turn)) k_api_Turn_mk)) fun v29 w a H E=>?_
      refine bk hm fun hx32 hm=>st_append (i := 4) E H (wn rfl) rfl rfl rfl rfl rfl rfl (src_rd m0) Tryz.underlying39 inf83 rfl hx32 rfl fun v30 w a H E=>pr 1 E rfl fun a E=>?_
      obtain ⟨q33, x34, rfl⟩ := H.rowform (i := 4) rfl
      exact st_st (i := 2) E H (wn rfl) rfl (us := [(.slice q33 (l10 ++ ([(⟨x14.Path, x14.Turn⟩ : S_api_Turn)] : List S_api_Turn)).length x34)]) rfl rfl rfl rfl rfl sz39 rfl rfl fun w H=>nt<|have H:=H.front 4 rfl;have H:=H.front 4 rfl;have H:=H.front 2 rfl;have H:=H.front 4 rfl;have H:=H.front 4 rfl;⟨(.slice q33 (l10 ++ ([(⟨x14.Path, x14.Turn⟩ : S_api_Turn)] : List S_api_Turn)).length x34), l10 ++ ([(⟨x14.Path, x14.Turn⟩ : S_api_Turn)] : List S_api_Turn), _, E.sel [2, 3, 5, 6, 7, 8] rfl, H, fun r hr => (t2 (hs12 r hr)), (t2 hr13), hm⟩
     ·exact wp_skip<|q_then<|have H:=H.front 4 rfl;have H:=H.front 4 rfl;have H:=H.front 2 rfl;have H:=H.front 4 rfl;have H:=H.front 4 rfl;⟨v9, l10, _, E.sel [2, 3, 5, 6, 7, 8] rfl, H, fun r hr => (t1 (hs12 r hr)), (t1 hr13), hm⟩
    ·clear E H hm
     rintro a w ⟨v18, l19, rs20, E, H, hs21, hr22, hm⟩
     unfold m_part_Keep_j1 at hm
     refine sq<|pr 1 E rfl fun a E=>st_st (i := 2) E H (wn rfl) rfl (us := [.int .i64 0]) rfl rfl rfl rfl rfl sz2 rfl rfl fun w H=>nt<|wp_region_lit<|pr 1 E rfl fun a E=>lb E H 1 rfl rfl rfl rfl rfl rfl rfl Tryz.underlying22 rfl fun a E=>sv E rfl rfl rfl (x_ldBN (i := 2) (us := [.string x14.Path, .string x14.Data, .int .i64 x14.Version, .int .i64 0, .int .i64 x14.Owner]) E H rfl rfl rfl rfl Tryz.underlying80 rfl sz80) fun a E=>st_bsR (e := 80) (d := k_api_Node) (cs := [.string x14.Path, .string x14.Data, .int .i64 x14.Version, .int .i64 0, .int .i64 x14.Owner]) (xs := [(⟨x14.Path, x14.Data, x14.Version, 0, x14.Owner⟩ : S_api_Node)]) E H (wn rfl) rfl rfl rfl (E.evs rfl) (by kernel_rfl) rfl (fun ok hr => (Rows.single (d := k_api_Node) (cs := [.string x14.Path, .string x14.Data, .int .i64 x14.Version, .int .i64 0, .int .i64 x14.Owner]) (x := (⟨x14.Path, x14.Data, x14.Version, 0, x14.Owner⟩ : S_api_Node)) k_api_Node_mk)) fun v23 w a H E=>?_
     refine bk hm fun hx26 hm=>st_append (i := 3) E H (wn rfl) rfl rfl rfl rfl rfl rfl (src_rd m0) Tryz.underlying22 inf80 rfl hx26 rfl fun v24 w a H E=>pr 1 E rfl fun a E=>?_
     obtain ⟨q27, x28, rfl⟩ := H.rowform (i := 3) rfl
     exact st_st (i := 1) E H (wn rfl) rfl (us := [(.slice q27 (l8 ++ ([(⟨x14.Path, x14.Data, x14.Version, 0, x14.Owner⟩ : S_api_Node)] : List S_api_Node)).length x28)]) rfl rfl rfl rfl rfl sz22 rfl rfl fun w H=>wpList_nil<|q_blk<|q_then<|wp_region_lit<|pr 2 E rfl fun a E=>nt<|have H:=H.drop 2;⟨k1, Nat.lt_succ_self k1, (.slice q27 (l8 ++ ([(⟨x14.Path, x14.Data, x14.Version, 0, x14.Owner⟩ : S_api_Node)] : List S_api_Node)).length x28), v18, IntKind.i64.wrap (x6 + 1), l8 ++ ([(⟨x14.Path, x14.Data, x14.Version, 0, x14.Owner⟩ : S_api_Node)] : List S_api_Node), l19, _, E.sel [2, 3, 6, 7, 8] rfl, H, fun r hr => (t1 (hs21 r hr)), (t1 hr22), hm⟩
   ·refine wp_exit<|q_thenX<|q_thenX<|q_hit<|q_then<|sq<|sv E rfl rfl rfl (x_ldBN (i := 1) (us := [v7, v9]) E H rfl rfl rfl rfl Tryz.underlying41 rfl sz41) fun a E=>?_
    obtain ⟨q35, x36, rfl⟩ := H.rowform (i := 2) rfl
    obtain ⟨q37, x38, rfl⟩ := H.rowform (i := 3) rfl
    refine st_st (i := 0) E H (wn rfl) rfl (us := [(.slice q35 l8.length x36), (.slice q37 l10.length x38)]) rfl rfl rfl rfl rfl sz41 rfl rfl fun w H=>nt<|wp_ret<|outR1 E rfl (rvBN (i := 0) (us := [(.slice q35 l8.length x36), (.slice q37 l10.length x38)]) H rfl rfl rfl Tryz.underlying41 rfl sz41)<|have H:=H.thaw (i := 2) rfl;have H:=H.thaw (i := 2) rfl;have H:=H.drop 0;have H:=H.drop 0;?_
    cases hm
    exact ⟨(.slice q35 l8.length x36), (.slice q37 l10.length x38), rfl, H.reads (sub_cons mm1 (sub_cons m0 (fun r hr => (t2 (hs12 r hr)))))⟩

def m_cantonref07_Of (x1 : S_api_Op) : Option (List S_api_Part) :=
  (m_cantonref06_May x1).bind fun u3 => if (!u3) = true then (some ([])) else ((m_cantonref07_up x1.Path).bind fun u5 => if (x1.Kind == 1) = true then ((m_cantonref07_up u5).bind fun u9 => some (([(⟨1, u9, u5, (ByteArray.mk #[]), 0, 0, false⟩ : S_api_Part), (⟨2, u5, x1.Path, x1.Data, 0, x1.Owner, x1.Turns⟩ : S_api_Part)] : List S_api_Part))) else (if (x1.Kind == 2) = true then (some (([(⟨3, u5, x1.Path, (ByteArray.mk #[]), x1.Version, 0, false⟩ : S_api_Part), (⟨4, x1.Path, x1.Path, (ByteArray.mk #[]), 0, 0, false⟩ : S_api_Part)] : List S_api_Part))) else (if (x1.Kind == 3) = true then (some (([(⟨5, u5, x1.Path, x1.Data, x1.Version, 0, false⟩ : S_api_Part)] : List S_api_Part))) else (if (x1.Kind == 4) = true then (some (([(⟨6, u5, x1.Path, (ByteArray.mk #[]), x1.Version, 0, false⟩ : S_api_Part)] : List S_api_Part))) else (if (x1.Kind == 5) = true then (some (([(⟨7, u5, x1.Path, (ByteArray.mk #[]), 0, 0, false⟩ : S_api_Part)] : List S_api_Part))) else (if (x1.Kind == 6) = true then (some (([(⟨8, u5, x1.Path, (ByteArray.mk #[]), 0, 0, false⟩ : S_api_Part), (⟨9, x1.Path, x1.Path, (ByteArray.mk #[]), 0, 0, false⟩ : S_api_Part)] : List S_api_Part))) else (some (([(⟨8, u5, x1.Path, (ByteArray.mk #[]), 0, 0, false⟩ : S_api_Part), (⟨10, x1.Path, x1.Path, (ByteArray.mk #[]), 0, x1.Owner, false⟩ : S_api_Part)] : List S_api_Part)))))))))
theorem c_cantonref07_Of {w : World} {Fo : List Ob} {rs : List Rp} (x1 : S_api_Op) (H : Sep w (Fo) rs) {r : (List S_api_Part)} (hm : m_cantonref07_Of x1 = some r) :
    Calls Tryz.prog 50 [.agg (l_api_Op x1).toArray].toArray w (Ret fun v w' => ∃ (v5001 : Value), v5001 = v ∧ Sep w' (Row 62 k_api_Part v5001 r :: Fo) (rs)) := by
 unfold m_cantonref07_Of at hm
 refine enter Tryz.func50 rfl Tryz.ntmps50 rfl fun a E =>?_
 simp only [enum, Nat.reduceAdd] at E
 refine sq<|st_box E H (wn rfl) rfl rfl (cs := (l_api_Op x1)) rfl rfl rfl fun p2 w a H E=>pr 1 E rfl fun a E=>nt<|wp_seq<|sq<|sv E rfl rfl rfl (x_ldBN (i := 0) (us := (l_api_Op x1)) E H rfl rfl rfl rfl Tryz.underlying55 rfl sz55) fun a E=>bd hm fun u3 hx4 hm=>x_cl E rfl rfl rfl rfl rfl cf36 (c_cantonref06_May x1 H hx4)<|?_
 rintro _ w ⟨rfl, H⟩ a E
 refine pr 1 E rfl fun a E=>nt<|wif E hm rfl (fun hm=>?_) fun hm=>?_
 ·refine sq<|pr 1 E rfl fun a E=>nt<|wp_ret<|q_thenR<|out1 E rfl rfl<|have H:=H.nilRow 62 k_api_Part;have H:=H.drop 1;?_
  cases hm
  exact ⟨(.slice none 0 0), rfl, H.reads (fun r hr => hr)⟩
 ·refine wp_skip<|q_then<|sq<|pr 1 E rfl fun a E=>lb E H 0 rfl rfl rfl rfl rfl rfl rfl Tryz.underlying9 rfl fun a E=>bd hm fun u5 hx6 hm=>x_cl E rfl rfl rfl rfl rfl cf105 (c_cantonref07_up x1.Path H hx6)<|?_
  rintro _ w ⟨rfl, H⟩ a E
  refine pr 1 E rfl fun a E=>nx<|pr 2 E rfl fun a E=>lb E H 0 rfl rfl rfl rfl rfl rfl rfl Tryz.underlying9 rfl fun a E=>sv E rfl rfl rfl (x_build E rfl (E.evs rfl) (v := .agg #[.int .i64 0, .string u5, .string x1.Path, .string (ByteArray.mk #[]), .int .i64 0, .int .i64 0, .bool false]) (by kernel_rfl)) fun a E=>al E H rfl rfl rfl rfl zr62 fun p7 w a H E=>st_st (i := 0) E H (wn rfl) rfl (us := [.int .i64 0, .string u5, .string x1.Path, .string (ByteArray.mk #[]), .int .i64 0, .int .i64 0, .bool false]) rfl rfl rfl rfl rfl sz62 rfl rfl fun w H=>nx<|pr 1 E rfl fun a E=>?_
  refine lb E H 1 rfl rfl rfl rfl rfl rfl rfl Tryz.underlying9 rfl fun a E=>pr 1 E rfl fun a E=>lb E H 1 rfl rfl rfl rfl rfl rfl rfl Tryz.underlying9 rfl fun a E=>sv E rfl rfl rfl (x_build E rfl (E.evs rfl) (v := .agg #[.int .i64 0, .string x1.Path, .string x1.Path, .string (ByteArray.mk #[]), .int .i64 0, .int .i64 0, .bool false]) (by kernel_rfl)) fun a E=>al E H rfl rfl rfl rfl zr62 fun p8 w a H E=>st_st (i := 0) E H (wn rfl) rfl (us := [.int .i64 0, .string x1.Path, .string x1.Path, .string (ByteArray.mk #[]), .int .i64 0, .int .i64 0, .bool false]) rfl rfl rfl rfl rfl sz62 rfl rfl fun w H=>nt<|wp_seq<|sq<|?_
  refine pr 1 E rfl fun a E=>lb E H 2 rfl rfl rfl rfl rfl rfl rfl Tryz.underlying3 rfl fun a E=>nt<|wp_block<|sq<|pr 2 E rfl fun a E=>nt<|wif E hm rfl (fun hm=>?_) fun hm=>?_
  ·refine wp_seq<|dw [(0, 0), (2, 0), (4, 0), (5, 0), (6, 0), (7, 0), (8, 0), (9, 0), (10, 0), (11, 0), (12, 0), (13, 0), (1, 1), (3, 0), (14, 1), (15, 2)] [2] [] H (by kernel_rfl) (fun _ _ _ h => False.elim h.2) fun w W0 hI H=>fn 4 E rfl fun a E=>fb E rfl (wn rfl) rfl rfl rfl rfl m0 rfl Tryz.underlying9 rfl fun a E=>fn 1 E rfl fun a E=>fb E rfl (wn rfl) rfl rfl rfl rfl m0 rfl Tryz.underlying9 rfl fun a E=>fn 1 E rfl fun a E=>fb E rfl (wn rfl) rfl rfl rfl rfl m0 rfl Tryz.underlying2 rfl fun a E=>fn 1 E rfl fun a E=>?_
   refine fb E rfl (wn rfl) rfl rfl rfl rfl m0 rfl Tryz.underlying4 rfl fun a E=>fr_val E rfl (wn rfl) rfl rfl (fun w hW=>(x_build E rfl (E.evs rfl) (v := .agg #[.int .i64 2, .string u5, .string x1.Path, .string x1.Data, .int .i64 0, .int .i64 x1.Owner, .bool x1.Turns]) (by kernel_rfl))) fun a E=>?_
   refine fr_op rfl<|bd hm fun u9 hx10 hm=>x_cl E rfl rfl rfl rfl rfl cf105 (c_cantonref07_up u5 H hx10)<|?_
   rintro _ w ⟨rfl, H⟩ a E
   refine nt<|?_
   refine ⟨⟨_, _, H, (subO_cons mm2 (subO_nil)), (sub_nil)⟩, ?_⟩
   refine fr_val E rfl (wn rfl) rfl rfl (fun w hW=>(x_build E rfl (E.evs rfl) (v := .agg #[.int .i64 1, .string u9, .string u5, .string (ByteArray.mk #[]), .int .i64 0, .int .i64 0, .bool false]) (by kernel_rfl))) fun a E=>?_
   refine fr_op rfl<|st_bsO (e := 62) (d := k_api_Part) (cs := [.int .i64 1, .string u9, .string u5, .string (ByteArray.mk #[]), .int .i64 0, .int .i64 0, .bool false, .int .i64 2, .string u5, .string x1.Path, .string x1.Data, .int .i64 0, .int .i64 x1.Owner, .bool x1.Turns]) (xs := [(⟨1, u9, u5, (ByteArray.mk #[]), 0, 0, false⟩ : S_api_Part), (⟨2, u5, x1.Path, x1.Data, 0, x1.Owner, x1.Turns⟩ : S_api_Part)]) E H (wn rfl) rfl rfl rfl (E.evs rfl) (by kernel_rfl) rfl rfl (fun ok hr => (Rows.append (Rows.single (d := k_api_Part) (cs := [.int .i64 1, .string u9, .string u5, .string (ByteArray.mk #[]), .int .i64 0, .int .i64 0, .bool false]) (x := (⟨1, u9, u5, (ByteArray.mk #[]), 0, 0, false⟩ : S_api_Part)) k_api_Part_mk) (Rows.single (d := k_api_Part) (cs := [.int .i64 2, .string u5, .string x1.Path, .string x1.Data, .int .i64 0, .int .i64 x1.Owner, .bool x1.Turns]) (x := (⟨2, u5, x1.Path, x1.Data, 0, x1.Owner, x1.Turns⟩ : S_api_Part)) k_api_Part_mk))) fun v11 w a H E=>nt<|?_
   refine ⟨⟨_, _, H, (subO_cons mm3 (subO_nil)), (sub_nil)⟩, ?_⟩
   refine fr_tail rfl<|pr 1 E rfl fun a E=>nt<|fr_nil<|?_
   clear hI
   refine q_then<|wp_ret<|q_blkR<|q_thenR<|out1 E rfl rfl<|have H:=H.drop 1;have H:=H.drop 1;have H:=H.drop 1;?_
   cases hm
   exact ⟨v11, rfl, H.reads (fun r hr => hr)⟩
  ·refine sq<|pr 2 E rfl fun a E=>nt<|wif E hm rfl (fun hm=>?_) fun hm=>?_
   ·refine sq<|pr 1 E rfl fun a E=>st_st (i := 1) E H (wn rfl) rfl (us := [.int .i64 3]) rfl rfl rfl rfl rfl sz3 rfl rfl fun w H=>nx<|pr 1 E rfl fun a E=>lb E H 2 rfl rfl rfl rfl rfl rfl rfl Tryz.underlying2 rfl fun a E=>pr 1 E rfl fun a E=>st_st (i := 1) E H (wn rfl) rfl (us := [.int .i64 x1.Version]) rfl rfl rfl rfl rfl sz2 rfl rfl fun w H=>nx<|?_
    refine pr 1 E rfl fun a E=>st_st (i := 0) E H (wn rfl) rfl (us := [.int .i64 4]) rfl rfl rfl rfl rfl sz3 rfl rfl fun w H=>nx<|sv E rfl rfl rfl (x_ldBN (i := 1) (us := [.int .i64 3, .string u5, .string x1.Path, .string (ByteArray.mk #[]), .int .i64 x1.Version, .int .i64 0, .bool false]) E H rfl rfl rfl rfl Tryz.underlying62 rfl sz62) fun a E=>sv E rfl rfl rfl (x_ldBN (i := 0) (us := [.int .i64 4, .string x1.Path, .string x1.Path, .string (ByteArray.mk #[]), .int .i64 0, .int .i64 0, .bool false]) E H rfl rfl rfl rfl Tryz.underlying62 rfl sz62) fun a E=>st_bsO (e := 62) (d := k_api_Part) (cs := [.int .i64 3, .string u5, .string x1.Path, .string (ByteArray.mk #[]), .int .i64 x1.Version, .int .i64 0, .bool false, .int .i64 4, .string x1.Path, .string x1.Path, .string (ByteArray.mk #[]), .int .i64 0, .int .i64 0, .bool false]) (xs := [(⟨3, u5, x1.Path, (ByteArray.mk #[]), x1.Version, 0, false⟩ : S_api_Part), (⟨4, x1.Path, x1.Path, (ByteArray.mk #[]), 0, 0, false⟩ : S_api_Part)]) E H (wn rfl) rfl rfl rfl (E.evs rfl) (by kernel_rfl) rfl rfl (fun ok hr => (Rows.append (Rows.single (d := k_api_Part) (cs := [.int .i64 3, .string u5, .string x1.Path, .string (ByteArray.mk #[]), .int .i64 x1.Version, .int .i64 0, .bool false]) (x := (⟨3, u5, x1.Path, (ByteArray.mk #[]), x1.Version, 0, false⟩ : S_api_Part)) k_api_Part_mk) (Rows.single (d := k_api_Part) (cs := [.int .i64 4, .string x1.Path, .string x1.Path, .string (ByteArray.mk #[]), .int .i64 0, .int .i64 0, .bool false]) (x := (⟨4, x1.Path, x1.Path, (ByteArray.mk #[]), 0, 0, false⟩ : S_api_Part)) k_api_Part_mk))) fun v12 w a H E=>pr 1 E rfl fun a E=>nt<|wp_ret<|?_
    refine q_blkR<|q_thenR<|out1 E rfl rfl<|have H:=H.drop 1;have H:=H.drop 1;have H:=H.drop 1;?_
    cases hm
    exact ⟨v12, rfl, H.reads (fun r hr => hr)⟩
   ·refine sq<|pr 2 E rfl fun a E=>nt<|wif E hm rfl (fun hm=>?_) fun hm=>?_
    ·refine sq<|pr 1 E rfl fun a E=>st_st (i := 1) E H (wn rfl) rfl (us := [.int .i64 5]) rfl rfl rfl rfl rfl sz3 rfl rfl fun w H=>nx<|pr 1 E rfl fun a E=>lb E H 2 rfl rfl rfl rfl rfl rfl rfl Tryz.underlying9 rfl fun a E=>pr 1 E rfl fun a E=>st_st (i := 1) E H (wn rfl) rfl (us := [.string x1.Data]) rfl rfl rfl rfl rfl sz9 rfl rfl fun w H=>nx<|?_
     refine pr 1 E rfl fun a E=>lb E H 2 rfl rfl rfl rfl rfl rfl rfl Tryz.underlying2 rfl fun a E=>pr 1 E rfl fun a E=>st_st (i := 1) E H (wn rfl) rfl (us := [.int .i64 x1.Version]) rfl rfl rfl rfl rfl sz2 rfl rfl fun w H=>nx<|sv E rfl rfl rfl (x_ldBN (i := 1) (us := [.int .i64 5, .string u5, .string x1.Path, .string x1.Data, .int .i64 x1.Version, .int .i64 0, .bool false]) E H rfl rfl rfl rfl Tryz.underlying62 rfl sz62) fun a E=>st_bsO (e := 62) (d := k_api_Part) (cs := [.int .i64 5, .string u5, .string x1.Path, .string x1.Data, .int .i64 x1.Version, .int .i64 0, .bool false]) (xs := [(⟨5, u5, x1.Path, x1.Data, x1.Version, 0, false⟩ : S_api_Part)]) E H (wn rfl) rfl rfl rfl (E.evs rfl) (by kernel_rfl) rfl rfl (fun ok hr => (Rows.single (d := k_api_Part) (cs := [.int .i64 5, .string u5, .string x1.Path, .string x1.Data, .int .i64 x1.Version, .int .i64 0, .bool false]) (x := (⟨5, u5, x1.Path, x1.Data, x1.Version, 0, false⟩ : S_api_Part)) k_api_Part_mk)) fun v13 w a H E=>pr 1 E rfl fun a E=>nt<|?_
     refine wp_ret<|q_blkR<|q_thenR<|out1 E rfl rfl<|have H:=H.drop 1;have H:=H.drop 1;have H:=H.drop 1;?_
     cases hm
     exact ⟨v13, rfl, H.reads (fun r hr => hr)⟩
    ·refine sq<|pr 2 E rfl fun a E=>nt<|wif E hm rfl (fun hm=>?_) fun hm=>?_
     ·refine sq<|pr 1 E rfl fun a E=>st_st (i := 1) E H (wn rfl) rfl (us := [.int .i64 6]) rfl rfl rfl rfl rfl sz3 rfl rfl fun w H=>nx<|pr 1 E rfl fun a E=>lb E H 2 rfl rfl rfl rfl rfl rfl rfl Tryz.underlying2 rfl fun a E=>pr 1 E rfl fun a E=>st_st (i := 1) E H (wn rfl) rfl (us := [.int .i64 x1.Version]) rfl rfl rfl rfl rfl sz2 rfl rfl fun w H=>nx<|?_
      refine sv E rfl rfl rfl (x_ldBN (i := 1) (us := [.int .i64 6, .string u5, .string x1.Path, .string (ByteArray.mk #[]), .int .i64 x1.Version, .int .i64 0, .bool false]) E H rfl rfl rfl rfl Tryz.underlying62 rfl sz62) fun a E=>st_bsO (e := 62) (d := k_api_Part) (cs := [.int .i64 6, .string u5, .string x1.Path, .string (ByteArray.mk #[]), .int .i64 x1.Version, .int .i64 0, .bool false]) (xs := [(⟨6, u5, x1.Path, (ByteArray.mk #[]), x1.Version, 0, false⟩ : S_api_Part)]) E H (wn rfl) rfl rfl rfl (E.evs rfl) (by kernel_rfl) rfl rfl (fun ok hr => (Rows.single (d := k_api_Part) (cs := [.int .i64 6, .string u5, .string x1.Path, .string (ByteArray.mk #[]), .int .i64 x1.Version, .int .i64 0, .bool false]) (x := (⟨6, u5, x1.Path, (ByteArray.mk #[]), x1.Version, 0, false⟩ : S_api_Part)) k_api_Part_mk)) fun v14 w a H E=>pr 1 E rfl fun a E=>nt<|wp_ret<|q_blkR<|q_thenR<|out1 E rfl rfl<|have H:=H.drop 1;?_
      refine have H:=H.drop 1;have H:=H.drop 1;?_
      cases hm
      exact ⟨v14, rfl, H.reads (fun r hr => hr)⟩
     ·refine sq<|pr 2 E rfl fun a E=>nt<|wif E hm rfl (fun hm=>?_) fun hm=>?_
      ·refine sq<|pr 1 E rfl fun a E=>st_st (i := 1) E H (wn rfl) rfl (us := [.int .i64 7]) rfl rfl rfl rfl rfl sz3 rfl rfl fun w H=>nx<|sv E rfl rfl rfl (x_ldBN (i := 1) (us := [.int .i64 7, .string u5, .string x1.Path, .string (ByteArray.mk #[]), .int .i64 0, .int .i64 0, .bool false]) E H rfl rfl rfl rfl Tryz.underlying62 rfl sz62) fun a E=>st_bsO (e := 62) (d := k_api_Part) (cs := [.int .i64 7, .string u5, .string x1.Path, .string (ByteArray.mk #[]), .int .i64 0, .int .i64 0, .bool false]) (xs := [(⟨7, u5, x1.Path, (ByteArray.mk #[]), 0, 0, false⟩ : S_api_Part)]) E H (wn rfl) rfl rfl rfl (E.evs rfl) (by kernel_rfl) rfl rfl (fun ok hr => (Rows.single (d := k_api_Part) (cs := [.int .i64 7, .string u5, .string x1.Path, .string (ByteArray.mk #[]), .int .i64 0, .int .i64 0, .bool false]) (x := (⟨7, u5, x1.Path, (ByteArray.mk #[]), 0, 0, false⟩ : S_api_Part)) k_api_Part_mk)) fun v15 w a H E=>pr 1 E rfl fun a E=>nt<|wp_ret<|?_
       refine q_blkR<|q_thenR<|out1 E rfl rfl<|have H:=H.drop 1;have H:=H.drop 1;have H:=H.drop 1;?_
       cases hm
       exact ⟨v15, rfl, H.reads (fun r hr => hr)⟩
      ·refine sq<|pr 2 E rfl fun a E=>nt<|wif E hm rfl (fun hm=>?_) fun hm=>?_
       ·refine sq<|pr 1 E rfl fun a E=>st_st (i := 1) E H (wn rfl) rfl (us := [.int .i64 8]) rfl rfl rfl rfl rfl sz3 rfl rfl fun w H=>nx<|pr 1 E rfl fun a E=>st_st (i := 0) E H (wn rfl) rfl (us := [.int .i64 9]) rfl rfl rfl rfl rfl sz3 rfl rfl fun w H=>nx<|sv E rfl rfl rfl (x_ldBN (i := 1) (us := [.int .i64 8, .string u5, .string x1.Path, .string (ByteArray.mk #[]), .int .i64 0, .int .i64 0, .bool false]) E H rfl rfl rfl rfl Tryz.underlying62 rfl sz62) fun a E=>sv E rfl rfl rfl (x_ldBN (i := 0) (us := [.int .i64 9, .string x1.Path, .string x1.Path, .string (ByteArray.mk #[]), .int .i64 0, .int .i64 0, .bool false]) E H rfl rfl rfl rfl Tryz.underlying62 rfl sz62) fun a E=>?_
        refine st_bsO (e := 62) (d := k_api_Part) (cs := [.int .i64 8, .string u5, .string x1.Path, .string (ByteArray.mk #[]), .int .i64 0, .int .i64 0, .bool false, .int .i64 9, .string x1.Path, .string x1.Path, .string (ByteArray.mk #[]), .int .i64 0, .int .i64 0, .bool false]) (xs := [(⟨8, u5, x1.Path, (ByteArray.mk #[]), 0, 0, false⟩ : S_api_Part), (⟨9, x1.Path, x1.Path, (ByteArray.mk #[]), 0, 0, false⟩ : S_api_Part)]) E H (wn rfl) rfl rfl rfl (E.evs rfl) (by kernel_rfl) rfl rfl (fun ok hr => (Rows.append (Rows.single (d := k_api_Part) (cs := [.int .i64 8, .string u5, .string x1.Path, .string (ByteArray.mk #[]), .int .i64 0, .int .i64 0, .bool false]) (x := (⟨8, u5, x1.Path, (ByteArray.mk #[]), 0, 0, false⟩ : S_api_Part)) k_api_Part_mk) (Rows.single (d := k_api_Part) (cs := [.int .i64 9, .string x1.Path, .string x1.Path, .string (ByteArray.mk #[]), .int .i64 0, .int .i64 0, .bool false]) (x := (⟨9, x1.Path, x1.Path, (ByteArray.mk #[]), 0, 0, false⟩ : S_api_Part)) k_api_Part_mk))) fun v16 w a H E=>pr 1 E rfl fun a E=>nt<|wp_ret<|q_blkR<|q_thenR<|out1 E rfl rfl<|have H:=H.drop 1;have H:=H.drop 1;?_
        refine have H:=H.drop 1;?_
        cases hm
        exact ⟨v16, rfl, H.reads (fun r hr => hr)⟩
       ·refine wp_skip<|q_blk<|q_then<|sq<|pr 1 E rfl fun a E=>st_st (i := 1) E H (wn rfl) rfl (us := [.int .i64 8]) rfl rfl rfl rfl rfl sz3 rfl rfl fun w H=>nx<|pr 1 E rfl fun a E=>st_st (i := 0) E H (wn rfl) rfl (us := [.int .i64 10]) rfl rfl rfl rfl rfl sz3 rfl rfl fun w H=>?_
        refine nx<|pr 1 E rfl fun a E=>lb E H 2 rfl rfl rfl rfl rfl rfl rfl Tryz.underlying2 rfl fun a E=>pr 1 E rfl fun a E=>st_st (i := 0) E H (wn rfl) rfl (us := [.int .i64 x1.Owner]) rfl rfl rfl rfl rfl sz2 rfl rfl fun w H=>nx<|sv E rfl rfl rfl (x_ldBN (i := 1) (us := [.int .i64 8, .string u5, .string x1.Path, .string (ByteArray.mk #[]), .int .i64 0, .int .i64 0, .bool false]) E H rfl rfl rfl rfl Tryz.underlying62 rfl sz62) fun a E=>sv E rfl rfl rfl (x_ldBN (i := 0) (us := [.int .i64 10, .string x1.Path, .string x1.Path, .string (ByteArray.mk #[]), .int .i64 0, .int .i64 x1.Owner, .bool false]) E H rfl rfl rfl rfl Tryz.underlying62 rfl sz62) fun a E=>st_bsO (e := 62) (d := k_api_Part) (cs := [.int .i64 8, .string u5, .string x1.Path, .string (ByteArray.mk #[]), .int .i64 0, .int .i64 0, .bool false, .int .i64 10, .string x1.Path, .string x1.Path, .string (ByteArray.mk #[]), .int .i64 0, .int .i64 x1.Owner, .bool false]) (xs := [(⟨8, u5, x1.Path, (ByteArray.mk #[]), 0, 0, false⟩ : S_api_Part), (⟨10, x1.Path, x1.Path, (ByteArray.mk #[]), 0, x1.Owner, false⟩ : S_api_Part)]) E H (wn rfl) rfl rfl rfl (E.evs rfl) (by kernel_rfl) rfl rfl (fun ok hr => (Rows.append (Rows.single (d := k_api_Part) (cs := [.int .i64 8, .string u5, .string x1.Path, .string (ByteArray.mk #[]), .int .i64 0, .int .i64 0, .bool false]) (x := (⟨8, u5, x1.Path, (ByteArray.mk #[]), 0, 0, false⟩ : S_api_Part)) k_api_Part_mk) (Rows.single (d := k_api_Part) (cs := [.int .i64 10, .string x1.Path, .string x1.Path, .string (ByteArray.mk #[]), .int .i64 0, .int .i64 x1.Owner, .bool false]) (x := (⟨10, x1.Path, x1.Path, (ByteArray.mk #[]), 0, x1.Owner, false⟩ : S_api_Part)) k_api_Part_mk))) fun v17 w a H E=>?_
        refine pr 1 E rfl fun a E=>nt<|wp_ret<|out1 E rfl rfl<|have H:=H.drop 1;have H:=H.drop 1;have H:=H.drop 1;?_
        cases hm
        exact ⟨v17, rfl, H.reads (fun r hr => hr)⟩

def m_cantonlaw07_Great_j1 (x1 : S_api_Store) (x11 : Int) : Option Bool :=
  if (decide (x11 ≥ 3000)) = true then (some (true)) else ((m_cantonlaw06_Great x1.Nodes).bind fun u17 => some (u17))
def m_cantonlaw07_Great_l1 (x1 : S_api_Store) : Nat → Int → Int → Option Bool
  | 0, _, _ => none
  | k1 + 1, x19, x20 =>
    if (decide (x20 < (x1.Turns.length : Int))) = true then (if (decide (x19 < 3000)) = true then ((idx x1.Turns x20).bind fun x26 => m_cantonlaw07_Great_l1 x1 k1 (IntKind.i64.wrap (x19 + (min (x26.Dir.size : Int) 3000))) (IntKind.i64.wrap (x20 + 1))) else (m_cantonlaw07_Great_j1 x1 x19)) else (m_cantonlaw07_Great_j1 x1 x19)
def m_cantonlaw07_Great (x1 : S_api_Store) : Option Bool :=
  m_cantonlaw07_Great_l1 x1 3002 (x1.Turns.length : Int) 0
theorem c_cantonlaw07_Great {w : World} {Fo : List Ob} {rs : List Rp} (x1 : S_api_Store) (v2 : Value) (v3 : Value) (H : Sep w (Fo) rs) (hr4 : rSl k_api_Node v2 x1.Nodes ∈ rs) (hr5 : rSl k_api_Turn v3 x1.Turns ∈ rs) {r : Bool} (hm : m_cantonlaw07_Great x1 = some r) :
    Calls Tryz.prog 26 [.agg #[v2, v3]].toArray w (Ret fun v w' => .bool r = v ∧ Sep w' (Fo) (rs)) := by
 unfold m_cantonlaw07_Great at hm
 refine enter Tryz.func26 rfl Tryz.ntmps26 rfl fun a E =>?_
 simp only [enum, Nat.reduceAdd] at E
 refine sq<|?_
 obtain ⟨q7, x8, rfl⟩ := H.slform hr4
 obtain ⟨q9, x10, rfl⟩ := H.slform hr5
 refine st_box E H (wn rfl) rfl rfl (cs := [(.slice q7 x1.Nodes.length x8), (.slice q9 x1.Turns.length x10)]) rfl rfl rfl fun p6 w a H E=>pr 1 E rfl fun a E=>nx<|pr 1 E rfl fun a E=>lb E H 0 rfl rfl rfl rfl rfl rfl rfl Tryz.underlying39 rfl fun a E=>sv E rfl rfl rfl (x_lenS E H rfl rfl hr5 Tryz.underlying39) fun a E=>pr 1 E rfl fun a E=>nt<|wp_seq_cut (fun a w => ∃ (x11 : Int) (rs12 : List Rp), Env 36 a [(1, pt p6 0), (3, .int .i64 x11)] ∧ Sep w (Blk p6 41 [(.slice q7 x1.Nodes.length x8), (.slice q9 x1.Turns.length x10)] :: Fo) rs12 ∧ (∀ r, r ∈ rs → r ∈ rs12) ∧ rSl k_api_Node (.slice q7 x1.Nodes.length x8) x1.Nodes ∈ rs12 ∧ rSl k_api_Turn (.slice q9 x1.Turns.length x10) x1.Turns ∈ rs12 ∧ m_cantonlaw07_Great_j1 x1 x11 = some r) ?_ ?_
 ·refine sq<|pr 1 E rfl fun a E=>nt<|wp_block<|wp_loop_g (fun k1 a w => ∃ (x19 : Int) (x20 : Int) (rs21 : List Rp), Env 36 a [(1, pt p6 0), (3, .int .i64 x19), (4, .int .i64 x20)] ∧ Sep w (Blk p6 41 [(.slice q7 x1.Nodes.length x8), (.slice q9 x1.Turns.length x10)] :: Fo) rs21 ∧ (∀ r, r ∈ rs → r ∈ rs21) ∧ rSl k_api_Node (.slice q7 x1.Nodes.length x8) x1.Nodes ∈ rs21 ∧ rSl k_api_Turn (.slice q9 x1.Turns.length x10) x1.Turns ∈ rs21 ∧ m_cantonlaw07_Great_l1 x1 k1 x19 x20 = some r) (3002) ?_ ?_
  ·exact ⟨(x1.Turns.length : Int), 0, _, E.sel [1, 3, 4] rfl, H, fun r hr => hr, hr4, hr5, hm⟩
  ·clear E H hm
   rintro k1 a w ⟨x19, x20, rs21, E, H, hs22, hr23, hr24, hm⟩
   cases k1 with
   | zero => exact (none_some hm rfl).elim
   | succ k1 =>
    unfold m_cantonlaw07_Great_l1 at hm
    refine wp_seq<|sq<|pr 2 E rfl fun a E=>lb E H 0 rfl rfl rfl rfl rfl rfl rfl Tryz.underlying39 rfl fun a E=>sv E rfl rfl rfl (x_lenS E H rfl rfl hr24 Tryz.underlying39) fun a E=>pr 2 E rfl fun a E=>cs hm (fun hb25 hm=>?_) fun hb25 hm=>?_
    ·refine pk 3 E (kc 13 rfl hb25) rfl fun a E=>nt<|wif E hm rfl (fun hm=>?_) fun hm=>?_
     ·refine wp_skip<|q_then<|wp_seq<|wp_block<|wp_region_lit<|pr 2 E rfl fun a E=>lb E H 0 rfl rfl rfl rfl rfl rfl rfl Tryz.underlying39 rfl fun a E=>pr 1 E rfl fun a E=>bd hm fun x26 hx27 hm=>?_
      refine st_ixS E H (wn rfl) rfl rfl rfl rfl rfl hr24 Tryz.underlying39 sz83 hx27 fun q28 a H E=>have H:=H.derive1 m0 (rAt kS (q28.add 0) x26.Dir) (fun ok h => k_api_Turn_at0 h);pr 1 E rfl fun a E=>sv E rfl rfl rfl (x_ldA E H rfl rfl m0 Tryz.underlying9 rfl) fun a E=>pr 1 E rfl fun a E=>sv E rfl rfl rfl (x_min (t := 0) E rfl rfl rfl) fun a E=>pr 2 E rfl fun a E=>wpList_nil<|q_blk<|?_
      exact q_then<|wp_region_lit<|pr 3 E rfl fun a E=>nt<|⟨k1, Nat.lt_succ_self k1, IntKind.i64.wrap (x19 + (min (x26.Dir.size : Int) 3000)), IntKind.i64.wrap (x20 + 1), _, E.sel [1, 3, 4] rfl, H, fun r hr => (t2 (hs22 r hr)), (t2 hr23), (t2 hr24), hm⟩
     ·exact wp_exit<|q_thenX<|q_thenX<|q_hit<|q_then<|⟨x19, _, E.sel [1, 3] rfl, H, hs22, hr23, hr24, hm⟩
    ·exact pk 3 E (kc 13 rfl hb25) rfl fun a E=>nt<|wp_cond_false (E.eval rfl)<|wp_exit<|q_thenX<|q_thenX<|q_hit<|q_then<|⟨x19, _, E.sel [1, 3] rfl, H, hs22, hr23, hr24, hm⟩
 ·clear E H hm
  rintro a w ⟨x11, rs12, E, H, hs13, hr14, hr15, hm⟩
  unfold m_cantonlaw07_Great_j1 at hm
  refine sq<|pr 3 E rfl fun a E=>cs hm (fun hb16 hm=>?_) fun hb16 hm=>?_
  ·refine pk 5 E (kc 31 rfl hb16) rfl fun a E=>nt<|wp_ret<|out1 E rfl rfl<|have H:=H.drop 0;?_
   cases hm
   exact ⟨rfl, H.reads (hs13)⟩
  ·refine pk 1 E (kc 31 rfl hb16) rfl fun a E=>st_val E (ws' (d := 31) E rfl rfl rfl rfl hb16) rfl rfl (x_ldB (i := 0) E H rfl rfl rfl rfl Tryz.underlying22 rfl) fun a E=>bd hm fun u17 hx18 hm=>st_call E (ws' (d := 31) E rfl rfl rfl rfl hb16) rfl rfl (x_call E rfl rfl (cf15 _)) (c_cantonlaw06_Great (.slice q7 x1.Nodes.length x8) x1.Nodes H hr14 hx18)<|?_
   rintro _ w ⟨rfl, H⟩ a E
   refine pk 2 E (kc 31 rfl hb16) rfl fun a E=>nt<|wp_ret<|out1 E rfl rfl<|have H:=H.drop 0;?_
   cases hm
   exact ⟨rfl, H.reads (hs13)⟩

def m_cantonref07_Same_l1 (x1 : S_api_Store) (x4 : S_api_Store) : Nat → Int → Option Bool
  | 0, _ => none
  | k1 + 1, x28 =>
    if (decide (x28 < (x1.Turns.length : Int))) = true then ((idx x1.Turns x28).bind fun x37 => (idx x4.Turns x28).bind fun x43 => if (!((sEq x37.Dir x43.Dir) && (x37.Next == x43.Next))) = true then (some (false)) else (m_cantonref07_Same_l1 x1 x4 k1 (IntKind.i64.wrap (x28 + 1)))) else (some (true))
def m_cantonref07_Same_j1 (x1 : S_api_Store) (x4 : S_api_Store) (b21 : Bool) : Option Bool :=
  if b21 = true then (some (false)) else (m_cantonref07_Same_l1 x1 x4 (((x1.Turns.length : Int) - 0 : Int).toNat + 1) 0)
def m_cantonref07_Same (x1 : S_api_Store) (x4 : S_api_Store) : Option Bool :=
  (m_cantonref06_Same x1.Nodes x4.Nodes).bind fun u49 => if (!u49) = true then (m_cantonref07_Same_j1 x1 x4 true) else (m_cantonref07_Same_j1 x1 x4 ((x1.Turns.length : Int) != (x4.Turns.length : Int)))
theorem c_cantonref07_Same {w : World} {Fo : List Ob} {rs : List Rp} (x1 : S_api_Store) (v2 : Value) (v3 : Value) (x4 : S_api_Store) (v5 : Value) (v6 : Value) (H : Sep w (Fo) rs) (hr7 : rSl k_api_Node v2 x1.Nodes ∈ rs) (hr8 : rSl k_api_Turn v3 x1.Turns ∈ rs) (hr9 : rSl k_api_Node v5 x4.Nodes ∈ rs) (hr10 : rSl k_api_Turn v6 x4.Turns ∈ rs) {r : Bool} (hm : m_cantonref07_Same x1 x4 = some r) :
    Calls Tryz.prog 30 [.agg #[v2, v3], .agg #[v5, v6]].toArray w (Ret fun v w' => .bool r = v ∧ Sep w' (Fo) (rs)) := by
 unfold m_cantonref07_Same at hm
 refine enter Tryz.func30 rfl Tryz.ntmps30 rfl fun a E =>?_
 simp only [enum, Nat.reduceAdd] at E
 refine sq<|?_
 obtain ⟨q12, x13, rfl⟩ := H.slform hr7
 obtain ⟨q14, x15, rfl⟩ := H.slform hr8
 refine st_box E H (wn rfl) rfl rfl (cs := [(.slice q12 x1.Nodes.length x13), (.slice q14 x1.Turns.length x15)]) rfl rfl rfl fun p11 w a H E=>?_
 obtain ⟨q17, x18, rfl⟩ := H.slform hr9
 obtain ⟨q19, x20, rfl⟩ := H.slform hr10
 refine st_box E H (wn rfl) rfl rfl (cs := [(.slice q17 x4.Nodes.length x18), (.slice q19 x4.Turns.length x20)]) rfl rfl rfl fun p16 w a H E=>pr 1 E rfl fun a E=>nt<|wp_seq<|wp_seq_cut (fun a w => ∃ (b21 : Bool) (rs22 : List Rp), Env 39 a [(2, pt p11 0), (3, pt p16 0), (20, .bool b21)] ∧ Sep w (Blk p11 41 [(.slice q12 x1.Nodes.length x13), (.slice q14 x1.Turns.length x15)] :: Blk p16 41 [(.slice q17 x4.Nodes.length x18), (.slice q19 x4.Turns.length x20)] :: Fo) rs22 ∧ (∀ r, r ∈ rs → r ∈ rs22) ∧ rSl k_api_Node (.slice q12 x1.Nodes.length x13) x1.Nodes ∈ rs22 ∧ rSl k_api_Turn (.slice q14 x1.Turns.length x15) x1.Turns ∈ rs22 ∧ rSl k_api_Node (.slice q17 x4.Nodes.length x18) x4.Nodes ∈ rs22 ∧ rSl k_api_Turn (.slice q19 x4.Turns.length x20) x4.Turns ∈ rs22 ∧ m_cantonref07_Same_j1 x1 x4 b21 = some r) ?_ ?_
 ·refine wp_region_lit<|pr 1 E rfl fun a E=>lb E H 1 rfl rfl rfl rfl rfl rfl rfl Tryz.underlying22 rfl fun a E=>pr 1 E rfl fun a E=>lb E H 0 rfl rfl rfl rfl rfl rfl rfl Tryz.underlying22 rfl fun a E=>bd hm fun u49 hx50 hm=>x_cl E rfl rfl rfl rfl rfl cf21 (c_cantonref06_Same (.slice q12 x1.Nodes.length x13) x1.Nodes (.slice q17 x4.Nodes.length x18) x4.Nodes H hr7 hr9 hx50)<|?_
  rintro _ w ⟨rfl, H⟩ a E
  refine pr 2 E rfl fun a E=>cs hm (fun hb51 hm=>?_) fun hb51 hm=>?_
  ·exact pk 8 E (kc 12 rfl hb51) rfl fun a E=>nt<|have H:=H.front 0 rfl;have H:=H.front 1 rfl;⟨true, _, E.sel [2, 3, 20] rfl, H, fun r hr => hr, hr7, hr8, hr9, hr10, hm⟩
  ·refine pk 1 E (kc 12 rfl hb51) rfl fun a E=>st_val E (ws' (d := 12) E rfl rfl rfl rfl hb51) rfl rfl (x_ldB (i := 1) E H rfl rfl rfl rfl Tryz.underlying39 rfl) fun a E=>st_val E (ws' (d := 12) E rfl rfl rfl rfl hb51) rfl rfl (x_lenS E H rfl rfl hr8 Tryz.underlying39) fun a E=>pk 1 E (kc 12 rfl hb51) rfl fun a E=>st_val E (ws' (d := 12) E rfl rfl rfl rfl hb51) rfl rfl (x_ldB (i := 0) E H rfl rfl rfl rfl Tryz.underlying39 rfl) fun a E=>st_val E (ws' (d := 12) E rfl rfl rfl rfl hb51) rfl rfl (x_lenS E H rfl rfl hr10 Tryz.underlying39) fun a E=>pk 2 E (kc 12 rfl hb51) rfl fun a E=>nt<|have H:=H.front 0 rfl;?_
   exact have H:=H.front 1 rfl;⟨(x1.Turns.length : Int) != (x4.Turns.length : Int), _, E.sel [2, 3, 20] rfl, H, fun r hr => hr, hr7, hr8, hr9, hr10, hm⟩
 ·clear E H hm
  rintro a w ⟨b21, rs22, E, H, hs23, hr24, hr25, hr26, hr27, hm⟩
  unfold m_cantonref07_Same_j1 at hm
  refine wif E hm rfl (fun hm=>?_) fun hm=>?_
  ·refine sq<|pr 1 E rfl fun a E=>nt<|wp_ret<|q_thenR<|out1 E rfl rfl<|have H:=H.drop 0;have H:=H.drop 0;?_
   cases hm
   exact ⟨rfl, H.reads (hs23)⟩
  ·refine wp_skip<|q_then<|wp_seq<|sq<|pr 1 E rfl fun a E=>nt<|wp_block<|wp_loop_g (fun k1 a w => ∃ (x28 : Int) (rs29 : List Rp), Env 39 a [(2, pt p11 0), (3, pt p16 0), (5, .int .i64 x28)] ∧ Sep w (Blk p11 41 [(.slice q12 x1.Nodes.length x13), (.slice q14 x1.Turns.length x15)] :: Blk p16 41 [(.slice q17 x4.Nodes.length x18), (.slice q19 x4.Turns.length x20)] :: Fo) rs29 ∧ (∀ r, r ∈ rs → r ∈ rs29) ∧ rSl k_api_Node (.slice q12 x1.Nodes.length x13) x1.Nodes ∈ rs29 ∧ rSl k_api_Turn (.slice q14 x1.Turns.length x15) x1.Turns ∈ rs29 ∧ rSl k_api_Node (.slice q17 x4.Nodes.length x18) x4.Nodes ∈ rs29 ∧ rSl k_api_Turn (.slice q19 x4.Turns.length x20) x4.Turns ∈ rs29 ∧ m_cantonref07_Same_l1 x1 x4 k1 x28 = some r) (((x1.Turns.length : Int) - 0 : Int).toNat + 1) ?_ ?_
   ·exact ⟨0, _, E.sel [2, 3, 5] rfl, H, hs23, hr24, hr25, hr26, hr27, hm⟩
   ·clear E H hm
    rintro k1 a w ⟨x28, rs29, E, H, hs30, hr31, hr32, hr33, hr34, hm⟩
    cases k1 with
    | zero => exact (none_some hm rfl).elim
    | succ k1 =>
     unfold m_cantonref07_Same_l1 at hm
     refine wp_seq<|sq<|pr 2 E rfl fun a E=>lb E H 0 rfl rfl rfl rfl rfl rfl rfl Tryz.underlying39 rfl fun a E=>sv E rfl rfl rfl (x_lenS E H rfl rfl hr32 Tryz.underlying39) fun a E=>pr 1 E rfl fun a E=>nt<|wif E hm rfl (fun hm=>?_) fun hm=>?_
     ·refine wp_skip<|q_then<|wp_seq<|wp_block<|wp_seq<|?_
      obtain ⟨u35, H⟩ := H.raw hr32
      obtain ⟨u36, H⟩ := H.raw (t1 hr34)
      refine dw [(0, 0), (1, 0), (2, 0), (3, 0), (4, 0), (5, 0), (6, 0), (7, 0), (8, 0), (9, 0), (10, 0)] [0, 1] [1, 0] H (by kernel_rfl) (fun _ _ _ h => False.elim h.2) fun w W0 hI H=>fn 1 E rfl fun a E=>fb E rfl (wn rfl) rfl rfl rfl rfl m0 rfl Tryz.underlying39 rfl fun a E=>fn 1 E rfl fun a E=>bd hm fun x37 hx38 hm=>?_
      obtain ⟨q39, u42, hx40, hx41⟩ := dr_ixW (P := Tryz.prog) (k := .i64) hI (dr_mem (.head _)) Tryz.underlying39 sz83 hx38
      refine fr_val E rfl (wn rfl) rfl rfl (fun w hW=>x_ixA E rfl rfl rfl (hx40 w)) fun a E=>?_
      refine fr_val E rfl (wn rfl) rfl rfl (fun w hW=>x_ld E rfl rfl (ir_ldN (cs := [.string x37.Dir, .int .i64 x37.Next]) (DR.ir (dr_at hx41)) (fun _ _ _ h => k_api_Turn_open h) Tryz.underlying83 rfl sz83 w hW)) fun a E=>?_
      refine fn 1 E rfl fun a E=>fb E rfl (wn rfl) rfl rfl rfl rfl mm1 rfl Tryz.underlying39 rfl fun a E=>fn 1 E rfl fun a E=>bd hm fun x43 hx44 hm=>?_
      obtain ⟨q45, u48, hx46, hx47⟩ := dr_ixW (P := Tryz.prog) (k := .i64) hI (dr_mem (.tail _ (.head _))) Tryz.underlying39 sz83 hx44
      refine fr_val E rfl (wn rfl) rfl rfl (fun w hW=>x_ixA E rfl rfl rfl (hx46 w)) fun a E=>?_
      refine fr_val E rfl (wn rfl) rfl rfl (fun w hW=>x_ld E rfl rfl (ir_ldN (cs := [.string x43.Dir, .int .i64 x43.Next]) (DR.ir (dr_at hx47)) (fun _ _ _ h => k_api_Turn_open h) Tryz.underlying83 rfl sz83 w hW)) fun a E=>?_
      refine fr_val E rfl (wn rfl) rfl rfl (fun w hW=>(x_bin2 E rfl rfl rfl (v := .bool (!((sEq x37.Dir x43.Dir) && (x37.Next == x43.Next)))) (ne_agg egt83 (eq_struct Tryz.underlying83 sih83 (eqf_cons (by rfl) (by kernel_rfl) (by kernel_rfl) (eq_string Tryz.underlying9) (eqf_last (by rfl) (by kernel_rfl) (by kernel_rfl) (eq_int Tryz.underlying2))))))) fun a E=>?_
      refine fr_nil<|?_
      clear hI
      refine q_then<|wif E hm rfl (fun hm=>?_) fun hm=>?_
      ·refine sq<|pr 1 E rfl fun a E=>nt<|wp_ret<|q_blkR<|q_thenR<|q_thenR<|q_blkR<|q_thenR<|?_
       refine out1 E rfl rfl<|have H:=H.drop 0;have H:=H.drop 0;?_
       cases hm
       exact ⟨rfl, H.reads (fun r hr => (t2 (hs30 r hr)))⟩
      ·exact wp_skip<|q_blk<|q_then<|wp_region_lit<|pr 3 E rfl fun a E=>nt<|⟨k1, Nat.lt_succ_self k1, IntKind.i64.wrap (x28 + 1), _, E.sel [2, 3, 5] rfl, H, fun r hr => (t2 (hs30 r hr)), (t2 hr31), (t2 hr32), (t2 hr33), (t2 hr34), hm⟩
     ·refine wp_exit<|q_thenX<|q_thenX<|q_hit<|q_then<|sq<|pr 1 E rfl fun a E=>nt<|wp_ret<|?_
      refine out1 E rfl rfl<|have H:=H.drop 0;have H:=H.drop 0;?_
      cases hm
      exact ⟨rfl, H.reads (hs30)⟩

def m_part_Tree_l2 (rec_1 : (List S_api_Node) → Int → Int → (Nat) → (List UInt8 → Option Int) → Option ((List S_api_Node) × Bool)) (x14 : S_api_Store) (l6 : (List S_api_Node)) (x8 : Int) : Nat → Int → Int → (Nat) → (List UInt8 → Option Int) → Option ((List S_api_Node) × Bool)
  | 0, _, _, _, _ => none
  | k2 + 1, x30, x31, x32, x33 =>
    if (decide (x31 < (x14.Turns.length : Int))) = true then ((idx x14.Turns x31).bind fun x38 => (ck (x38.Dir.size ≤ maxLen ∧ (Lit.int .i64 x38.Next).wf = true ∧ x32 < maxLen)).bind fun u42 => m_part_Tree_l2 rec_1 x14 l6 x8 k2 (IntKind.i64.wrap (x30 + 1)) (IntKind.i64.wrap (x31 + 1)) (x32 + 1) (mputO x33 x38.Dir.data.toList x38.Next)) else (rec_1 (l6 ++ x14.Nodes) x30 (IntKind.i64.wrap (x8 + 1)) x32 x33)
def m_part_Tree_j1 (rec_3 : (List S_api_Node) → Int → Int → Option ((List S_api_Node) × Bool)) (x48 : Int) (l51 : (List S_api_Node)) (x52 : Int) : Option ((List S_api_Node) × Bool) :=
  rec_3 l51 x52 (IntKind.i64.wrap (x48 + 1))
def m_part_Tree_j2 (l46 : (List S_api_Node)) (b67 : Bool) : Option ((List S_api_Node) × Bool) :=
  if b67 = true then (some (([] : List S_api_Node), false)) else (some (l46, true))
def m_part_Tree_l3 (l6 : (List S_api_Node)) (x10 : (List UInt8 → Option Int)) (x7 : Int) : Nat → (List S_api_Node) → Int → Int → Option ((List S_api_Node) × Bool)
  | 0, _, _, _ => none
  | k3 + 1, l46, x47, x48 =>
    if (decide (x48 < ((srtN l6).length : Int))) = true then ((idx l46 x48).bind fun x55 => (ck (x55.Path.size ≤ maxLen)).bind fun u60 => (idx l46 x48).bind fun x62 => if ((x10 x55.Path.data.toList).isSome) = true then (m_part_Tree_j1 (m_part_Tree_l3 l6 x10 x7 k3) x48 (l46.set x48.toNat ({ x62 with Turn := (x10 x55.Path.data.toList).getD 0 } : S_api_Node)) (IntKind.i64.wrap (x47 + 1))) else (m_part_Tree_j1 (m_part_Tree_l3 l6 x10 x7 k3) x48 (l46.set x48.toNat ({ x62 with Turn := (x10 x55.Path.data.toList).getD 0 } : S_api_Node)) x47)) else (if (x47 != x7) = true then (m_part_Tree_j2 l46 true) else ((m_nodes_Right l46).bind fun u72 => m_part_Tree_j2 l46 (!u72)))
def m_part_Tree_l1 (l2 : List S_api_Store) : Nat → (List S_api_Node) → Int → Int → (Nat) → (List UInt8 → Option Int) → Option ((List S_api_Node) × Bool)
  | 0, _, _, _, _, _ => none
  | k1 + 1, l6, x7, x8, x9, x10 =>
    if (decide (x8 < (l2.length : Int))) = true then ((idx l2 x8).bind fun x14 => (m_part_Right x14).bind fun u25 => if (!u25) = true then (some (([] : List S_api_Node), false)) else ((ck (l6.length + x14.Nodes.length ≤ LIM)).bind fun u28 => m_part_Tree_l2 (m_part_Tree_l1 l2 k1) x14 l6 x8 (((x14.Turns.length : Int) - 0 : Int).toNat + 1) x7 0 x9 x10)) else ((ck (l6.length ≤ 1000000)).bind fun u44 => m_part_Tree_l3 l6 x10 x7 ((((srtN l6).length : Int) - 0 : Int).toNat + 1) (srtN l6) 0 0)
def m_part_Tree (l2 : List S_api_Store) : Option ((List S_api_Node) × Bool) :=
  m_part_Tree_l1 l2 (((l2.length : Int) - 0 : Int).toNat + 1) [] 0 0 0 (fun _ => none)
theorem c_part_Tree {w : World} {Fo : List Ob} {rs : List Rp} (v1 : Value) (l2 : List S_api_Store) (H : Sep w (Fo) rs) (hr3 : rSl k_api_Store v1 l2 ∈ rs) {r : (List S_api_Node) × Bool} (hm : m_part_Tree l2 = some r) :
    Calls Tryz.prog 47 [v1].toArray w (Ret fun v w' => ∃ (v5001 : Value), .tuple #[v5001, .bool r.2] = v ∧ Sep w' (Fo) (rSl k_api_Node v5001 r.1 :: rs)) := by
 unfold m_part_Tree at hm
 refine enter Tryz.func47 rfl Tryz.ntmps47 rfl fun a E =>?_
 simp only [enum, Nat.reduceAdd] at E
 refine sq<|pr 2 E rfl fun a E=>nx<|pr 1 E rfl fun a E=>nx<|st_makeMapO (k := 9) (e := 2) E H (wn rfl) rfl rfl rfl fun p4 w a H E=>pr 1 E rfl fun a E=>nx<|pr 1 E rfl fun a E=>?_
 refine nt<|wp_seq<|sq<|pr 1 E rfl fun a E=>sv E rfl rfl rfl (x_lenS E H rfl rfl hr3 Tryz.underlying72) fun a E=>pr 1 E rfl fun a E=>nt<|wp_block<|wp_loop_g (fun k1 a w => ∃ (v5 : Value) (l6 : (List S_api_Node)) (x7 : Int) (x8 : Int) (x9 : (Nat)) (x10 : (List UInt8 → Option Int)) (rs11 : List Rp), Env 80 a [(4, v5), (5, .map (some p4)), (6, .int .i64 x7), (16, v1), (17, .int .i64 (l2.length : Int)), (18, .int .i64 x8)] ∧ Sep w (Row 80 k_api_Node v5 l6 :: MapSO Tryz.prog 9 2 p4 x9 x10 :: Fo) rs11 ∧ (∀ r, r ∈ rs → r ∈ rs11) ∧ rSl k_api_Store v1 l2 ∈ rs11 ∧ m_part_Tree_l1 l2 k1 l6 x7 x8 x9 x10 = some r) (((l2.length : Int) - 0 : Int).toNat + 1) ?_ ?_
 ·exact have H:=H.nilRow 80 k_api_Node;⟨(.slice none 0 0), [], 0, 0, 0, (fun _ => none), _, E.sel [4, 5, 6, 16, 17, 18] rfl, H, fun r hr => hr, hr3, hm⟩
 ·clear E H hm
  rintro k1 a w ⟨v5, l6, x7, x8, x9, x10, rs11, E, H, hs12, hr13, hm⟩
  cases k1 with
  | zero => exact (none_some hm rfl).elim
  | succ k1 =>
   unfold m_part_Tree_l1 at hm
   refine sq<|pr 1 E rfl fun a E=>nt<|wp_seq<|wif E hm rfl (fun hm=>?_) fun hm=>?_
   ·refine wp_skip<|q_then<|wp_seq<|wp_block<|sq<|bd hm fun x14 hx15 hm=>st_ixS E H (wn rfl) rfl rfl rfl rfl rfl hr13 Tryz.underlying72 sz41 hx15 fun q16 a H E=>st_ldN E H (wn rfl) rfl rfl rfl rfl m0 Tryz.underlying41 rfl sz41 fun u17 a H E=>?_
    obtain ⟨_, hcs⟩ := H.rd (.head _)
    obtain ⟨v18, v19, rfl, -, -⟩ := k_api_Store_open hcs
    clear hcs
    refine have H:=H.derive1 m0 (rSl k_api_Node v18 x14.Nodes) (fun ok h => k_api_Store_get1 h);have H:=H.derive1 mm1 (rSl k_api_Turn v19 x14.Turns) (fun ok h => k_api_Store_get2 h);al E H rfl rfl rfl rfl zr41 fun p20 w a H E=>?_
    obtain ⟨q21, x22, rfl⟩ := H.slform mm1
    obtain ⟨q23, x24, rfl⟩ := H.slform m0
    refine st_st (i := 0) E H (wn rfl) rfl (us := [(.slice q21 x14.Nodes.length x22), (.slice q23 x14.Turns.length x24)]) rfl rfl rfl rfl rfl sz41 rfl rfl fun w H=>nt<|wp_seq<|sq<|sv E rfl rfl rfl (x_ldBN (i := 0) (us := [(.slice q21 x14.Nodes.length x22), (.slice q23 x14.Turns.length x24)]) E H rfl rfl rfl rfl Tryz.underlying41 rfl sz41) fun a E=>bd hm fun u25 hx26 hm=>x_cl E rfl rfl rfl rfl rfl cf44 (c_part_Right x14 (.slice q21 x14.Nodes.length x22) (.slice q23 x14.Turns.length x24) H mm1 m0 hx26)<|?_
    rintro _ w ⟨rfl, H⟩ a E
    refine pr 1 E rfl fun a E=>nt<|wif E hm rfl (fun hm=>?_) fun hm=>?_
    ·refine sq<|pr 2 E rfl fun a E=>nt<|wp_ret<|q_thenR<|q_blkR<|q_thenR<|q_thenR<|q_blkR<|?_
     refine q_thenR<|out2 E rfl rfl rfl<|have H:=H.nilSl k_api_Node;have H:=H.drop 0;have H:=H.drop 0;have H:=H.drop 0;?_
     cases hm
     exact ⟨(.slice none 0 0), rfl, H.reads (sub_cons m0 (fun r hr => (t5 (hs12 r hr))))⟩
    ·refine wp_skip<|q_then<|sq<|pr 2 E rfl fun a E=>lb E H 0 rfl rfl rfl rfl rfl rfl rfl Tryz.underlying22 rfl fun a E=>bk hm fun hx29 hm=>st_append (i := 1) E H (wn rfl) rfl rfl rfl rfl rfl rfl (src_rd mm1) Tryz.underlying22 inf80 rfl hx29 rfl fun v27 w a H E=>pr 1 E rfl fun a E=>nx<|?_
     refine pr 1 E rfl fun a E=>lb E H 0 rfl rfl rfl rfl rfl rfl rfl Tryz.underlying39 rfl fun a E=>sv E rfl rfl rfl (x_lenS E H rfl rfl m0 Tryz.underlying39) fun a E=>pr 1 E rfl fun a E=>nt<|wp_block<|wp_loop_g (fun k2 a w => ∃ (x30 : Int) (x31 : Int) (x32 : (Nat)) (x33 : (List UInt8 → Option Int)) (rs34 : List Rp), Env 80 a [(4, v27), (5, .map (some p4)), (6, .int .i64 x30), (16, v1), (17, .int .i64 (l2.length : Int)), (18, .int .i64 x8), (30, (.slice q23 x14.Turns.length x24)), (31, .int .i64 (x14.Turns.length : Int)), (32, .int .i64 x31)] ∧ Sep w (Row 80 k_api_Node v27 (l6 ++ x14.Nodes) :: MapSO Tryz.prog 9 2 p4 x32 x33 :: Fo) rs34 ∧ (∀ r, r ∈ rs → r ∈ rs34) ∧ rSl k_api_Store v1 l2 ∈ rs34 ∧ rSl k_api_Turn (.slice q23 x14.Turns.length x24) x14.Turns ∈ rs34 ∧ m_part_Tree_l2 (m_part_Tree_l1 l2 k1) x14 l6 x8 k2 x30 x31 x32 x33 = some r) (((x14.Turns.length : Int) - 0 : Int).toNat + 1) ?_ ?_
     ·exact have H:=H.drop 0;⟨x7, 0, x9, x10, _, E.sel [4, 5, 6, 16, 17, 18, 30, 31, 32] rfl, H, fun r hr => (t4 (hs12 r hr)), (t4 hr13), m0, hm⟩
     ·clear E H hm
      rintro k2 a w ⟨x30, x31, x32, x33, rs34, E, H, hs35, hr36, hr37, hm⟩
      cases k2 with
      | zero => exact (none_some hm rfl).elim
      | succ k2 =>
       unfold m_part_Tree_l2 at hm
       refine sq<|pr 1 E rfl fun a E=>nt<|wp_seq<|wif E hm rfl (fun hm=>?_) fun hm=>?_
       ·refine wp_skip<|q_then<|wp_seq<|wp_block<|sq<|bd hm fun x38 hx39 hm=>st_ixS E H (wn rfl) rfl rfl rfl rfl rfl hr37 Tryz.underlying39 sz83 hx39 fun q40 a H E=>ldf k_api_Turn_flat E H rfl rfl rfl rfl rfl m0 Tryz.underlying83 rfl sz83 fun a E=>al E H rfl rfl rfl rfl zr83 fun p41 w a H E=>?_
        refine st_st (i := 0) E H (wn rfl) rfl (us := [.string x38.Dir, .int .i64 x38.Next]) rfl rfl rfl rfl rfl sz83 rfl rfl fun w H=>nx<|pr 2 E rfl fun a E=>lb E H 0 rfl rfl rfl rfl rfl rfl rfl Tryz.underlying9 rfl fun a E=>pr 1 E rfl fun a E=>lb E H 0 rfl rfl rfl rfl rfl rfl rfl Tryz.underlying2 rfl fun a E=>bk hm fun hx43 hm=>st_mapPutO (i := 2) E H (wn rfl) rfl rfl rfl rfl rfl rfl Tryz.underlying9 Tryz.underlying117 Tryz.underlying2 hx43.1 hx43.2.1 hx43.2.2 fun w H=>nt<|?_
        exact wp_region_lit<|pr 3 E rfl fun a E=>wpList_nil<|q_blk<|q_then<|wp_region_lit<|pr 2 E rfl fun a E=>nt<|have H:=H.drop 0;⟨k2, Nat.lt_succ_self k2, IntKind.i64.wrap (x30 + 1), IntKind.i64.wrap (x31 + 1), x32 + 1, mputO x33 x38.Dir.data.toList x38.Next, _, E.sel [4, 5, 6, 16, 17, 18, 30, 31, 32] rfl, H, fun r hr => (t1 (hs35 r hr)), (t1 hr36), (t1 hr37), hm⟩
       ·exact wp_exit<|q_thenX<|q_thenX<|q_hit<|q_blk<|q_then<|wp_region_lit<|pr 2 E rfl fun a E=>nt<|⟨k1, Nat.lt_succ_self k1, v27, l6 ++ x14.Nodes, x30, IntKind.i64.wrap (x8 + 1), x32, x33, _, E.sel [4, 5, 6, 16, 17, 18] rfl, H, hs35, hr36, hm⟩
   ·refine wp_exit<|q_thenX<|q_thenX<|q_hit<|q_then<|sq<|pr 1 E rfl fun a E=>bk hm fun hx45 hm=>x_cl E rfl rfl rfl rfl rfl cf106 (sort_c (ix := 0) H rfl hx45)<|?_
    rintro _ w ⟨rfl, H⟩ a E
    refine nx<|pr 1 E rfl fun a E=>nt<|wp_seq<|sq<|pr 1 E rfl fun a E=>sv E rfl rfl rfl (x_lenR (i := 0) E H rfl rfl rfl Tryz.underlying22) fun a E=>pr 1 E rfl fun a E=>nt<|?_
    refine wp_block<|wp_loop_g (fun k3 a w => ∃ (l46 : (List S_api_Node)) (x47 : Int) (x48 : Int) (rs49 : List Rp), Env 80 a [(4, v5), (5, .map (some p4)), (6, .int .i64 x7), (11, .int .i64 x47), (48, .int .i64 ((srtN l6).length : Int)), (49, .int .i64 x48)] ∧ Sep w (Row 80 k_api_Node v5 l46 :: MapSO Tryz.prog 9 2 p4 x9 x10 :: Fo) rs49 ∧ (∀ r, r ∈ rs → r ∈ rs49) ∧ m_part_Tree_l3 l6 x10 x7 k3 l46 x47 x48 = some r) ((((srtN l6).length : Int) - 0 : Int).toNat + 1) ?_ ?_
    ·exact ⟨srtN l6, 0, 0, _, E.sel [4, 5, 6, 11, 48, 49] rfl, H, hs12, hm⟩
    ·clear E H hm
     rintro k3 a w ⟨l46, x47, x48, rs49, E, H, hs50, hm⟩
     cases k3 with
     | zero => exact (none_some hm rfl).elim
     | succ k3 =>
      unfold m_part_Tree_l3 at hm
      refine sq<|pr 1 E rfl fun a E=>nt<|wp_seq<|wif E hm rfl (fun hm=>?_) fun hm=>?_
      ·refine wp_skip<|q_then<|wp_seq_cut (fun a w => ∃ (l51 : (List S_api_Node)) (x52 : Int) (rs53 : List Rp), Env 80 a [(4, v5), (5, .map (some p4)), (6, .int .i64 x7), (11, .int .i64 x52), (48, .int .i64 ((srtN l6).length : Int)), (49, .int .i64 x48)] ∧ Sep w (Row 80 k_api_Node v5 l51 :: MapSO Tryz.prog 9 2 p4 x9 x10 :: Fo) rs53 ∧ (∀ r, r ∈ rs → r ∈ rs53) ∧ m_part_Tree_j1 (m_part_Tree_l3 l6 x10 x7 k3) x48 l51 x52 = some r) ?_ ?_
       ·refine wp_block<|sq<|pr 2 E rfl fun a E=>nx<|pr 3 E rfl fun a E=>bd hm fun x55 hx56 hm=>?_
        obtain ⟨p57, x58, hx59⟩ := H.rowformNE (i := 0) rfl hx56
        refine sv E rfl rfl rfl (x_ixRowV (d := k_api_Node) E hx59 rfl rfl rfl rfl Tryz.underlying22 sz80 hx56) fun a E=>pr 1 E rfl fun a E=>sv E rfl rfl rfl (x_ldRowV (d := k_api_Node) (i := 0) (k := 0) E H k_api_Node_flat hx59 rfl rfl rfl hx56 rfl Tryz.underlying9 rfl) fun a E=>bk hm fun hx61 hm=>sv E rfl rfl rfl (x_lookO (i := 1) E H rfl rfl rfl rfl Tryz.underlying9 Tryz.underlying117 Tryz.underlying2 zer2 hx61) fun a E=>pr 5 E rfl fun a E=>nx<|pr 3 E rfl fun a E=>bd hm fun x62 hx63 hm=>?_
        obtain ⟨p64, x65, hx66⟩ := H.rowformNE (i := 0) rfl hx63
        refine sv E rfl rfl rfl (x_ixRowV (d := k_api_Node) E hx66 rfl rfl rfl rfl Tryz.underlying22 sz80 hx63) fun a E=>pr 1 E rfl fun a E=>st_stRowV (d := k_api_Node) (i := 0) (k := 3) (z' := ({ x62 with Turn := (x10 x55.Path.data.toList).getD 0 } : S_api_Node)) E H k_api_Node_flat (wn rfl) rfl hx66 rfl rfl rfl rfl rfl rfl hx63 rfl rfl sz2 fun w H=>nx<|pr 1 E rfl fun a E=>nt<|wif E hm rfl (fun hm=>?_) fun hm=>?_
        ·exact wp_region_lit<|pr 3 E rfl fun a E=>wpList_nil<|q_blk<|q_then<|⟨l46.set x48.toNat ({ x62 with Turn := (x10 x55.Path.data.toList).getD 0 } : S_api_Node), IntKind.i64.wrap (x47 + 1), _, E.sel [4, 5, 6, 11, 48, 49] rfl, H, hs50, hm⟩
        ·exact wp_skip<|q_blk<|q_then<|⟨l46.set x48.toNat ({ x62 with Turn := (x10 x55.Path.data.toList).getD 0 } : S_api_Node), x47, _, E.sel [4, 5, 6, 11, 48, 49] rfl, H, hs50, hm⟩
       ·clear E H hm
        rintro a w ⟨l51, x52, rs53, E, H, hs54, hm⟩
        unfold m_part_Tree_j1 at hm
        exact wp_region_lit<|pr 2 E rfl fun a E=>nt<|⟨k3, Nat.lt_succ_self k3, l51, x52, IntKind.i64.wrap (x48 + 1), _, E.sel [4, 5, 6, 11, 48, 49] rfl, H, hs54, hm⟩
      ·refine wp_exit<|q_thenX<|q_thenX<|q_hit<|q_then<|wp_seq<|wp_seq_cut (fun a w => ∃ (b67 : Bool) (rs68 : List Rp), Env 80 a [(4, v5), (78, .bool b67)] ∧ Sep w (Fo) rs68 ∧ (∀ r, r ∈ rs → r ∈ rs68) ∧ rSl k_api_Node v5 l46 ∈ rs68 ∧ m_part_Tree_j2 l46 b67 = some r) ?_ ?_
       ·refine wp_region_lit<|pr 4 E rfl fun a E=>cs hm (fun hb71 hm=>?_) fun hb71 hm=>?_
        ·exact pk 4 E (kc 74 rfl hb71) rfl fun a E=>nt<|have H:=H.thaw (i := 0) rfl;have H:=H.drop 0;⟨true, _, E.sel [4, 78] rfl, H, fun r hr => (t1 (hs50 r hr)), m0, hm⟩
        ·refine pk 1 E (kc 74 rfl hb71) rfl fun a E=>have H:=H.thaw (i := 0) rfl;bd hm fun u72 hx73 hm=>st_call E (ws' (d := 74) E rfl rfl rfl rfl hb71) rfl rfl (x_call E rfl rfl (cf55 _)) (c_nodes_Right v5 l46 H m0 hx73)<|?_
         rintro _ w ⟨rfl, H⟩ a E
         exact pk 2 E (kc 74 rfl hb71) rfl fun a E=>nt<|have H:=H.drop 0;⟨!u72, _, E.sel [4, 78] rfl, H, fun r hr => (t1 (hs50 r hr)), m0, hm⟩
       ·clear E H hm
        rintro a w ⟨b67, rs68, E, H, hs69, hr70, hm⟩
        unfold m_part_Tree_j2 at hm
        refine wif E hm rfl (fun hm=>?_) fun hm=>?_
        ·refine sq<|pr 2 E rfl fun a E=>nt<|wp_ret<|q_thenR<|out2 E rfl rfl rfl<|have H:=H.nilSl k_api_Node;?_
         cases hm
         exact ⟨(.slice none 0 0), rfl, H.reads (sub_cons m0 (fun r hr => (t1 (hs69 r hr))))⟩
        ·refine wp_skip<|q_then<|sq<|pr 3 E rfl fun a E=>nt<|wp_ret<|out2 E rfl rfl rfl<|?_
         cases hm
         exact ⟨v5, rfl, H.reads (sub_cons hr70 (hs69))⟩

end Go.Cb
