/- Functions of the program, walked: each comes to its plain function. -/
import Derived.Test.YtgdfoajophpblaaGreatDoorKmt2
import Derived.Test.YtgdfoajophpblaaGreatDoorM1mt
import Derived.Test.YtgdfoajophpblaaGreatDoorM3mt
import Derived.Test.YtgdfoajophpblaaGreatDoorN1mt
import Derived.Test.YtgdfoajophpblaaGreatDoorN3mt
import Derived.Test.YtgdfoajophpblaaGreatDoorN4mt
set_option linter.unusedVariables false
set_option linter.unusedSimpArgs false
set_option maxRecDepth 20000
set_option maxHeartbeats 1000000
namespace Go.Cb
open Go.Proofs Go.RowKit

def m_part_work_turn_1 (x1 : S_api_Turn) (s2 : ByteArray) : Option Int :=
  (m_strings_Compare x1.Dir s2).bind fun u4 => some (u4)
theorem c_part_work_turn_1 {w : World} {Fo : List Ob} {rs : List Rp} (x1 : S_api_Turn) (s2 : ByteArray) (H : Sep w (Fo) rs) {r : Int} (hm : m_part_work_turn_1 x1 s2 = some r) :
    Calls Tryz.prog 157 [.agg #[.string x1.Dir, .int .i64 x1.Next], .string s2].toArray w (Ret fun v w' => .int .i64 r = v ∧ Sep w' (Fo) (rs)) := by
 unfold m_part_work_turn_1 at hm
 refine enter Tryz.func157 rfl Tryz.ntmps157 rfl fun a E =>?_
 simp only [enum, Nat.reduceAdd] at E
 refine sq<|st_box E H (wn rfl) rfl rfl (cs := [.string x1.Dir, .int .i64 x1.Next]) rfl rfl rfl fun p3 w a H E=>pr 1 E rfl fun a E=>nx<|pr 1 E rfl fun a E=>lb E H 0 rfl rfl rfl rfl rfl rfl rfl Tryz.underlying9 rfl fun a E=>pr 1 E rfl fun a E=>bd hm fun u4 hx5 hm=>x_cl E rfl rfl rfl rfl rfl cf108 (c_strings_Compare x1.Dir s2 H hx5)<|?_
 rintro _ w ⟨rfl, H⟩ a E
 refine pr 1 E rfl fun a E=>nt<|wp_ret<|out1 E rfl rfl<|have H:=H.drop 0;?_
 cases hm
 exact ⟨rfl, H.reads (fun r hr => hr)⟩

def m_slices_BinarySearchFunc_api_Turn_api_Turn_string_l1 (l2 : List S_api_Turn) (s3 : ByteArray) : Nat → Int → Int → Option (Int × Bool)
  | 0, _, _ => none
  | k1 + 1, x4, x5 =>
    if (decide (x4 < x5)) = true then ((idx l2 (IntKind.i64.wrap (ishr .u64 (IntKind.u64.wrap (IntKind.i64.wrap (x4 + x5))) 1))).bind fun x8 => (m_part_work_turn_1 x8 s3).bind fun u13 => if (decide (u13 < 0)) = true then (m_slices_BinarySearchFunc_api_Turn_api_Turn_string_l1 l2 s3 k1 (IntKind.i64.wrap ((IntKind.i64.wrap (ishr .u64 (IntKind.u64.wrap (IntKind.i64.wrap (x4 + x5))) 1)) + 1)) x5) else (m_slices_BinarySearchFunc_api_Turn_api_Turn_string_l1 l2 s3 k1 x4 (IntKind.i64.wrap (ishr .u64 (IntKind.u64.wrap (IntKind.i64.wrap (x4 + x5))) 1)))) else (if (decide (x4 < (l2.length : Int))) = true then ((idx l2 x4).bind fun x16 => (m_part_work_turn_1 x16 s3).bind fun u21 => some (x4, u21 == 0)) else (some (x4, false)))
def m_slices_BinarySearchFunc_api_Turn_api_Turn_string (l2 : List S_api_Turn) (s3 : ByteArray) : Option (Int × Bool) :=
  m_slices_BinarySearchFunc_api_Turn_api_Turn_string_l1 l2 s3 (((l2.length : Int) - 0 : Int).toNat + 1) 0 (l2.length : Int)
theorem c_slices_BinarySearchFunc_api_Turn_api_Turn_string {w : World} {Fo : List Ob} {rs : List Rp} (v1 : Value) (l2 : List S_api_Turn) (s3 : ByteArray) (H : Sep w (Row 83 k_api_Turn v1 l2 :: Fo) rs) {r : Int × Bool} (hm : m_slices_BinarySearchFunc_api_Turn_api_Turn_string l2 s3 = some r) :
    Calls Tryz.prog 156 [v1, .string s3, .func (.func 157) #[] #[]].toArray w (Ret fun v w' => .tuple #[.int .i64 r.1, .bool r.2] = v ∧ Sep w' (Row 83 k_api_Turn v1 l2 :: Fo) (rs)) := by
 unfold m_slices_BinarySearchFunc_api_Turn_api_Turn_string at hm
 refine enter Tryz.func156 rfl Tryz.ntmps156 rfl fun a E =>?_
 simp only [enum, Nat.reduceAdd] at E
 refine sq<|pr 2 E rfl fun a E=>nx<|pr 1 E rfl fun a E=>sv E rfl rfl rfl (x_lenR (i := 0) E H rfl rfl rfl Tryz.underlying39) fun a E=>pr 1 E rfl fun a E=>nx<|pr 3 E rfl fun a E=>nt<|?_
 refine wp_seq<|wp_block<|wp_loop_g (fun k1 a w => ∃ (x4 : Int) (x5 : Int) (rs6 : List Rp), Env 49 a [(0, v1), (1, .string s3), (2, .func (.func 157) #[] #[]), (8, .int .i64 (l2.length : Int)), (9, .int .i64 x4), (10, .int .i64 x5)] ∧ Sep w (Row 83 k_api_Turn v1 l2 :: Fo) rs6 ∧ (∀ r, r ∈ rs → r ∈ rs6) ∧ m_slices_BinarySearchFunc_api_Turn_api_Turn_string_l1 l2 s3 k1 x4 x5 = some r) (((l2.length : Int) - 0 : Int).toNat + 1) ?_ ?_
 ·exact ⟨0, (l2.length : Int), _, E.sel [0, 1, 2, 8, 9, 10] rfl, H, fun r hr => hr, hm⟩
 ·clear E H hm
  rintro k1 a w ⟨x4, x5, rs6, E, H, hs7, hm⟩
  cases k1 with
  | zero => exact (none_some hm rfl).elim
  | succ k1 =>
   unfold m_slices_BinarySearchFunc_api_Turn_api_Turn_string_l1 at hm
   refine wp_seq<|sq<|pr 3 E rfl fun a E=>nt<|wif E hm rfl (fun hm=>?_) fun hm=>?_
   ·refine wp_skip<|q_then<|wp_block<|sq<|pr 4 E rfl fun a E=>sv E rfl rfl rfl (x_shr E rfl rfl rfl (by decide)) fun a E=>pr 2 E rfl fun a E=>nx<|pr 3 E rfl fun a E=>?_
    refine bd hm fun x8 hx9 hm=>?_
    obtain ⟨p10, x11, hx12⟩ := H.rowformNE (i := 0) rfl hx9
    refine sv E rfl rfl rfl (x_ixRowV (d := k_api_Turn) E hx12 rfl rfl rfl rfl Tryz.underlying39 sz83 hx9) fun a E=>sv E rfl rfl rfl (x_ldRowNV (i := 0) E H k_api_Turn_flat hx12 rfl rfl rfl hx9 (us := [.string x8.Dir, .int .i64 x8.Next]) rfl Tryz.underlying83 rfl sz83) fun a E=>pr 1 E rfl fun a E=>bd hm fun u13 hx14 hm=>st_call E (wn rfl) rfl rfl (x_callv E rfl rfl rfl (cf157 _)) (c_part_work_turn_1 x8 s3 H hx14)<|?_
    rintro _ w ⟨rfl, H⟩ a E
    refine pr 1 E rfl fun a E=>nt<|wif E hm rfl (fun hm=>?_) fun hm=>?_
    ·exact wp_region_lit<|pr 3 E rfl fun a E=>wpList_nil<|q_blk<|q_then<|⟨k1, Nat.lt_succ_self k1, IntKind.i64.wrap ((IntKind.i64.wrap (ishr .u64 (IntKind.u64.wrap (IntKind.i64.wrap (x4 + x5))) 1)) + 1), x5, _, E.sel [0, 1, 2, 8, 9, 10] rfl, H, hs7, hm⟩
    ·exact wp_region_lit<|pr 2 E rfl fun a E=>wpList_nil<|q_blk<|q_then<|⟨k1, Nat.lt_succ_self k1, x4, IntKind.i64.wrap (ishr .u64 (IntKind.u64.wrap (IntKind.i64.wrap (x4 + x5))) 1), _, E.sel [0, 1, 2, 8, 9, 10] rfl, H, hs7, hm⟩
   ·refine wp_exit<|q_thenX<|q_thenX<|q_hit<|q_then<|sq<|pr 5 E rfl fun a E=>cs hm (fun hb15 hm=>?_) fun hb15 hm=>?_
    ·refine pk 3 E (kc 39 rfl hb15) rfl fun a E=>bd hm fun x16 hx17 hm=>?_
     obtain ⟨p18, x19, hx20⟩ := H.rowformNE (i := 0) rfl hx17
     refine st_val E (ws' (d := 39) E rfl rfl rfl rfl hb15) rfl rfl (x_ixRowV (d := k_api_Turn) E hx20 rfl rfl rfl rfl Tryz.underlying39 sz83 hx17) fun a E=>st_val E (ws' (d := 39) E rfl rfl rfl rfl hb15) rfl rfl (x_ldRowNV (i := 0) E H k_api_Turn_flat hx20 rfl rfl rfl hx17 (us := [.string x16.Dir, .int .i64 x16.Next]) rfl Tryz.underlying83 rfl sz83) fun a E=>pk 1 E (kc 39 rfl hb15) rfl fun a E=>bd hm fun u21 hx22 hm=>st_call E (ws' (d := 39) E rfl rfl rfl rfl hb15) rfl rfl (x_callv E rfl rfl rfl (cf157 _)) (c_part_work_turn_1 x16 s3 H hx22)<|?_
     rintro _ w ⟨rfl, H⟩ a E
     refine pk 4 E (kc 39 rfl hb15) rfl fun a E=>nt<|wp_ret<|out2 E rfl rfl rfl<|?_
     cases hm
     exact ⟨rfl, H.reads (hs7)⟩
    ·refine pk 11 E (kc 39 rfl hb15) rfl fun a E=>nt<|wp_ret<|out2 E rfl rfl rfl<|?_
     cases hm
     exact ⟨rfl, H.reads (hs7)⟩

def m_part_work_turn_j2 (x19 : S_api_Turn) (l25 : (List S_api_Turn)) : Option (Int × (List S_api_Turn)) :=
  some (x19.Next, l25)
def m_part_work_turn_j1 (u13 : Int × Bool) (l16 : (List S_api_Turn)) : Option (Int × (List S_api_Turn)) :=
  (idx l16 u13.1).bind fun x19 => (m_part_work_empty_1 x19.Next).bind fun u28 => (idx l16 u13.1).bind fun x30 => (idx (l16.set u13.1.toNat ({ x30 with Next := 0 } : S_api_Turn)) u13.1).bind fun x35 => if (x35.Next == 0) = true then ((ck (0 ≤ u13.1 ∧ u13.1 < (l16.set u13.1.toNat ({ x30 with Next := 0 } : S_api_Turn)).length ∧ IntKind.i64.wrap (u13.1 + 1) = u13.1 + 1)).bind fun u40 => m_part_work_turn_j2 x19 ((l16.set u13.1.toNat ({ x30 with Next := 0 } : S_api_Turn)).eraseIdx u13.1.toNat)) else (m_part_work_turn_j2 x19 (l16.set u13.1.toNat ({ x30 with Next := 0 } : S_api_Turn)))
def m_part_work_turn (l3 : List S_api_Node) (l5 : List S_api_Turn) (x6 : Int) (s7 : ByteArray) (s8 : ByteArray) (x9 : Int) (l11 : List ByteArray) (s12 : ByteArray) : Option (Int × (List S_api_Turn)) :=
  (m_slices_BinarySearchFunc_api_Turn_api_Turn_string l5 s12).bind fun u13 => if (!u13.2) = true then ((ck (0 ≤ u13.1 ∧ u13.1 ≤ l5.length ∧ 0 < l5.length ∧ l5.length ≤ 1000000)).bind fun u46 => m_part_work_turn_j1 u13 (l5.take u13.1.toNat ++ (⟨s12, 0⟩ : S_api_Turn) :: l5.drop u13.1.toNat)) else (m_part_work_turn_j1 u13 l5)
theorem c_part_work_turn {w : World} {Fo : List Ob} {rs : List Rp} (p1 : Nat) (v2 : Value) (l3 : List S_api_Node) (v4 : Value) (l5 : List S_api_Turn) (x6 : Int) (s7 : ByteArray) (s8 : ByteArray) (x9 : Int) (v10 : Value) (l11 : List ByteArray) (s12 : ByteArray) (H : Sep w (Blk p1 105 [v2, v4, .int .i64 x6, .string s7, .string s8, .int .i64 x9, v10] :: Row 80 k_api_Node v2 l3 :: Row 83 k_api_Turn v4 l5 :: Row 9 kS v10 l11 :: Fo) rs) {r : Int × (List S_api_Turn)} (hm : m_part_work_turn l3 l5 x6 s7 s8 x9 l11 s12 = some r) :
    Calls Tryz.prog 133 [pt p1 0, .string s12, .func (.func 138) #[] #[]].toArray w (Ret fun v w' => ∃ (v5002 : Value), .int .i64 r.1 = v ∧ Sep w' (Blk p1 105 [v2, v5002, .int .i64 x6, .string s7, .string s8, .int .i64 x9, v10] :: Row 80 k_api_Node v2 l3 :: Row 83 k_api_Turn v5002 r.2 :: Row 9 kS v10 l11 :: Fo) (rs)) := by
 unfold m_part_work_turn at hm
 refine enter Tryz.func133 rfl Tryz.ntmps133 rfl fun a E =>?_
 simp only [enum, Nat.reduceAdd] at E
 refine sq<|pr 1 E rfl fun a E=>nx<|pr 4 E rfl fun a E=>lb E H 0 rfl rfl rfl rfl rfl rfl rfl Tryz.underlying39 rfl fun a E=>pr 1 E rfl fun a E=>have H:=H.front 3 rfl;have H:=H.front 2 rfl;have H:=H.front 2 rfl;?_
 refine have H:=H.front 3 rfl;bd hm fun u13 hx14 hm=>x_cl E rfl rfl rfl rfl rfl cf156 (c_slices_BinarySearchFunc_api_Turn_api_Turn_string v4 l5 s12 H hx14)<|?_
 rintro _ w ⟨rfl, H⟩ a E
 refine pr 5 E rfl fun a E=>nt<|wp_seq_cut (fun a w => ∃ (v15 : Value) (l16 : (List S_api_Turn)) (rs17 : List Rp), Env 80 a [(0, pt p1 0), (2, .func (.func 138) #[] #[]), (7, .int .i64 u13.1)] ∧ Sep w (Blk p1 105 [v2, v15, .int .i64 x6, .string s7, .string s8, .int .i64 x9, v10] :: Row 80 k_api_Node v2 l3 :: Row 83 k_api_Turn v15 l16 :: Row 9 kS v10 l11 :: Fo) rs17 ∧ (∀ r, r ∈ rs → r ∈ rs17) ∧ m_part_work_turn_j1 u13 l16 = some r) ?_ ?_
 ·refine sq<|pr 2 E rfl fun a E=>nt<|wif E hm rfl (fun hm=>?_) fun hm=>?_
  ·refine wp_region_lit<|pr 5 E rfl fun a E=>lb E H 1 rfl rfl rfl rfl rfl rfl rfl Tryz.underlying39 rfl fun a E=>pr 2 E rfl fun a E=>sv E rfl rfl rfl (x_build E rfl (E.evs rfl) (v := .agg #[.string s12, .int .i64 0]) (by kernel_rfl)) fun a E=>st_bsO (e := 83) (d := k_api_Turn) (cs := [.string s12, .int .i64 0]) (xs := [(⟨s12, 0⟩ : S_api_Turn)]) E H (wn rfl) rfl rfl rfl (E.evs rfl) (by kernel_rfl) rfl rfl (fun ok hr => (Rows.single (d := k_api_Turn) (cs := [.string s12, .int .i64 0]) (x := (⟨s12, 0⟩ : S_api_Turn)) k_api_Turn_mk)) fun v45 w a H E=>bk hm fun hx47 hm=>st_call E (wn rfl) rfl rfl (x_call E rfl rfl (cf158 _)) (Tn.insert_c (ix := 1) (iu := 0) H rfl rfl (by decide) hx47) fun v48 w H a E=>pr 3 E rfl fun a E=>?_
   obtain ⟨q49, x50, rfl⟩ := H.rowform (i := 1) rfl
   exact st_st (i := 2) E H (wn rfl) rfl (us := [(.slice q49 (l5.take u13.1.toNat ++ (⟨s12, 0⟩ : S_api_Turn) :: l5.drop u13.1.toNat).length x50)]) rfl rfl rfl rfl rfl sz39 rfl rfl fun w H=>nt<|have H:=H.drop 0;have H:=H.front 3 rfl;have H:=H.front 1 rfl;have H:=H.front 3 rfl;have H:=H.front 3 rfl;⟨(.slice q49 (l5.take u13.1.toNat ++ (⟨s12, 0⟩ : S_api_Turn) :: l5.drop u13.1.toNat).length x50), l5.take u13.1.toNat ++ (⟨s12, 0⟩ : S_api_Turn) :: l5.drop u13.1.toNat, _, E.sel [0, 2, 7] rfl, H, fun r hr => hr, hm⟩
  ·exact wp_skip<|q_then<|have H:=H.front 3 rfl;have H:=H.front 1 rfl;have H:=H.front 3 rfl;have H:=H.front 3 rfl;⟨v4, l5, _, E.sel [0, 2, 7] rfl, H, fun r hr => hr, hm⟩
 ·clear E H hm
  rintro a w ⟨v15, l16, rs17, E, H, hs18, hm⟩
  unfold m_part_work_turn_j1 at hm
  refine sq<|pr 4 E rfl fun a E=>lb E H 0 rfl rfl rfl rfl rfl rfl rfl Tryz.underlying39 rfl fun a E=>pr 1 E rfl fun a E=>bd hm fun x19 hx20 hm=>?_
  obtain ⟨p21, x22, hx23⟩ := H.rowformNE (i := 2) rfl hx20
  refine sv E rfl rfl rfl (x_ixRowV (d := k_api_Turn) E hx23 rfl rfl rfl rfl Tryz.underlying39 sz83 hx20) fun a E=>pr 1 E rfl fun a E=>sv E rfl rfl rfl (x_ldRowV (d := k_api_Turn) (i := 2) (k := 1) E H k_api_Turn_flat hx23 rfl rfl rfl hx20 rfl Tryz.underlying2 rfl) fun a E=>pr 1 E rfl fun a E=>nt<|wp_seq_cut (fun a w => ∃ (v24 : Value) (l25 : (List S_api_Turn)) (rs26 : List Rp), Env 80 a [(9, .int .i64 x19.Next)] ∧ Sep w (Blk p1 105 [v2, v24, .int .i64 x6, .string s7, .string s8, .int .i64 x9, v10] :: Row 80 k_api_Node v2 l3 :: Row 83 k_api_Turn v24 l25 :: Row 9 kS v10 l11 :: Fo) rs26 ∧ (∀ r, r ∈ rs → r ∈ rs26) ∧ m_part_work_turn_j2 x19 l25 = some r) ?_ ?_
  ·refine wp_seq<|dw [(0, 0), (1, 0), (2, 0), (3, 0), (4, 0), (5, 0), (6, 0), (7, 0), (8, 1), (9, 2), (10, 2), (11, 2)] [0] [] H (by kernel_rfl) (fun _ _ _ h => False.elim h.2) fun w W0 hI H=>fn 4 E rfl fun a E=>fb E rfl (wn rfl) rfl rfl rfl rfl m0 rfl Tryz.underlying39 rfl fun a E=>fn 3 E rfl fun a E=>fr_op rfl<|bd hm fun u28 hx29 hm=>st_call E (wn rfl) rfl rfl (x_callv E rfl rfl rfl (cf138 _)) (c_part_work_empty_1 x19.Next H hx29)<|?_
   rintro _ w ⟨rfl, H⟩ a E
   refine nt<|?_
   refine ⟨⟨_, _, H, (subO_cons m0 (subO_nil)), (sub_nil)⟩, ?_⟩
   refine fr_tail rfl<|bd hm fun x30 hx31 hm=>?_
   obtain ⟨p32, x33, hx34⟩ := H.rowformNE (i := 2) rfl hx31
   refine sv E rfl rfl rfl (x_ixRowV (d := k_api_Turn) E hx34 rfl rfl rfl rfl Tryz.underlying39 sz83 hx31) fun a E=>nt<|fr_tail rfl<|pr 1 E rfl fun a E=>nt<|fr_tail rfl<|st_stRowV (d := k_api_Turn) (i := 2) (k := 1) (z' := ({ x30 with Next := 0 } : S_api_Turn)) E H k_api_Turn_flat (wn rfl) rfl hx34 rfl rfl rfl rfl rfl rfl hx31 rfl rfl sz2 fun w H=>nt<|fr_nil<|?_
   clear hI
   refine q_then<|sq<|pr 4 E rfl fun a E=>lb E H 0 rfl rfl rfl rfl rfl rfl rfl Tryz.underlying39 rfl fun a E=>pr 1 E rfl fun a E=>bd hm fun x35 hx36 hm=>?_
   obtain ⟨p37, x38, hx39⟩ := H.rowformNE (i := 2) rfl hx36
   refine sv E rfl rfl rfl (x_ixRowV (d := k_api_Turn) E hx39 rfl rfl rfl rfl Tryz.underlying39 sz83 hx36) fun a E=>pr 1 E rfl fun a E=>sv E rfl rfl rfl (x_ldRowV (d := k_api_Turn) (i := 2) (k := 1) E H k_api_Turn_flat hx39 rfl rfl rfl hx36 rfl Tryz.underlying2 rfl) fun a E=>pr 1 E rfl fun a E=>nt<|wif E hm rfl (fun hm=>?_) fun hm=>?_
   ·refine wp_region_lit<|pr 5 E rfl fun a E=>lb E H 0 rfl rfl rfl rfl rfl rfl rfl Tryz.underlying39 rfl fun a E=>pr 3 E rfl fun a E=>bk hm fun hx41 hm=>st_call E (wn rfl) rfl rfl (x_call E rfl rfl (cf159 _)) (Tn.delete_c (ix := 2) H rfl hx41) fun v42 w H a E=>pr 3 E rfl fun a E=>?_
    obtain ⟨q43, x44, rfl⟩ := H.rowform (i := 2) rfl
    exact st_st (i := 0) E H (wn rfl) rfl (us := [(.slice q43 ((l16.set u13.1.toNat ({ x30 with Next := 0 } : S_api_Turn)).eraseIdx u13.1.toNat).length x44)]) rfl rfl rfl rfl rfl sz39 rfl rfl fun w H=>nt<|⟨(.slice q43 ((l16.set u13.1.toNat ({ x30 with Next := 0 } : S_api_Turn)).eraseIdx u13.1.toNat).length x44), (l16.set u13.1.toNat ({ x30 with Next := 0 } : S_api_Turn)).eraseIdx u13.1.toNat, _, E.sel [9] rfl, H, hs18, hm⟩
   ·exact wp_skip<|q_then<|⟨v15, l16.set u13.1.toNat ({ x30 with Next := 0 } : S_api_Turn), _, E.sel [9] rfl, H, hs18, hm⟩
  ·clear E H hm
   rintro a w ⟨v24, l25, rs26, E, H, hs27, hm⟩
   unfold m_part_work_turn_j2 at hm
   refine sq<|pr 2 E rfl fun a E=>nt<|wp_ret<|out1 E rfl rfl<|?_
   cases hm
   exact ⟨v24, rfl, H.reads (hs27)⟩

def m_slices_IndexFunc_api_Node_api_Node_4_l1 (l2 : List S_api_Node) (x4 : Int) (s5 : ByteArray) (s6 : ByteArray) (s7 : ByteArray) (x8 : Int) (x9 : Int) (b10 : Bool) : Nat → Int → Option Int
  | 0, _ => none
  | k1 + 1, x11 =>
    if (decide (x11 < (l2.length : Int))) = true then ((idx l2 x11).bind fun x14 => (m_part_in_1 x14 x4 s5 s6 s7 x8 x9 b10).bind fun u19 => if u19 = true then (some (x11)) else (m_slices_IndexFunc_api_Node_api_Node_4_l1 l2 x4 s5 s6 s7 x8 x9 b10 k1 (IntKind.i64.wrap (x11 + 1)))) else (some ((-1)))
def m_slices_IndexFunc_api_Node_api_Node_4 (l2 : List S_api_Node) (x4 : Int) (s5 : ByteArray) (s6 : ByteArray) (s7 : ByteArray) (x8 : Int) (x9 : Int) (b10 : Bool) : Option Int :=
  m_slices_IndexFunc_api_Node_api_Node_4_l1 l2 x4 s5 s6 s7 x8 x9 b10 (((l2.length : Int) - 0 : Int).toNat + 1) 0
theorem c_slices_IndexFunc_api_Node_api_Node_4 {w : World} {Fo : List Ob} {rs : List Rp} (v1 : Value) (l2 : List S_api_Node) (p3 : Nat) (x4 : Int) (s5 : ByteArray) (s6 : ByteArray) (s7 : ByteArray) (x8 : Int) (x9 : Int) (b10 : Bool) (H : Sep w (Row 80 k_api_Node v1 l2 :: Blk p3 62 [.int .i64 x4, .string s5, .string s6, .string s7, .int .i64 x8, .int .i64 x9, .bool b10] :: Fo) rs) {r : Int} (hm : m_slices_IndexFunc_api_Node_api_Node_4 l2 x4 s5 s6 s7 x8 x9 b10 = some r) :
    Calls Tryz.prog 143 [v1, .func (.func 162) #[] #[pt p3 0]].toArray w (Ret fun v w' => .int .i64 r = v ∧ Sep w' (Blk p3 62 [.int .i64 x4, .string s5, .string s6, .string s7, .int .i64 x8, .int .i64 x9, .bool b10] :: Row 80 k_api_Node v1 l2 :: Fo) (rs)) := by
 unfold m_slices_IndexFunc_api_Node_api_Node_4 at hm
 refine enter Tryz.func143 rfl Tryz.ntmps143 rfl fun a E =>?_
 simp only [enum, Nat.reduceAdd] at E
 refine sq<|pr 1 E rfl fun a E=>nt<|wp_seq<|sq<|pr 1 E rfl fun a E=>sv E rfl rfl rfl (x_lenR (i := 0) E H rfl rfl rfl Tryz.underlying22) fun a E=>pr 1 E rfl fun a E=>nt<|?_
 refine wp_block<|wp_loop_g (fun k1 a w => ∃ (x11 : Int) (rs12 : List Rp), Env 19 a [(0, v1), (1, .func (.func 162) #[] #[pt p3 0]), (7, .int .i64 (l2.length : Int)), (8, .int .i64 x11)] ∧ Sep w (Row 80 k_api_Node v1 l2 :: Blk p3 62 [.int .i64 x4, .string s5, .string s6, .string s7, .int .i64 x8, .int .i64 x9, .bool b10] :: Fo) rs12 ∧ (∀ r, r ∈ rs → r ∈ rs12) ∧ m_slices_IndexFunc_api_Node_api_Node_4_l1 l2 x4 s5 s6 s7 x8 x9 b10 k1 x11 = some r) (((l2.length : Int) - 0 : Int).toNat + 1) ?_ ?_
 ·exact ⟨0, _, E.sel [0, 1, 7, 8] rfl, H, fun r hr => hr, hm⟩
 ·clear E H hm
  rintro k1 a w ⟨x11, rs12, E, H, hs13, hm⟩
  cases k1 with
  | zero => exact (none_some hm rfl).elim
  | succ k1 =>
   unfold m_slices_IndexFunc_api_Node_api_Node_4_l1 at hm
   refine sq<|pr 1 E rfl fun a E=>nt<|wp_seq<|wif E hm rfl (fun hm=>?_) fun hm=>?_
   ·refine wp_skip<|q_then<|wp_seq<|wp_block<|sq<|pr 2 E rfl fun a E=>nx<|pr 3 E rfl fun a E=>bd hm fun x14 hx15 hm=>?_
    obtain ⟨p16, x17, hx18⟩ := H.rowformNE (i := 0) rfl hx15
    refine sv E rfl rfl rfl (x_ixRowV (d := k_api_Node) E hx18 rfl rfl rfl rfl Tryz.underlying22 sz80 hx15) fun a E=>sv E rfl rfl rfl (x_ldRowNV (i := 0) E H k_api_Node_flat hx18 rfl rfl rfl hx15 (us := [.string x14.Path, .string x14.Data, .int .i64 x14.Version, .int .i64 x14.Turn, .int .i64 x14.Owner]) rfl Tryz.underlying80 rfl sz80) fun a E=>have H:=H.front 0 rfl;have H:=H.front 1 rfl;bd hm fun u19 hx20 hm=>st_call E (wn rfl) rfl rfl (x_callv E rfl rfl rfl (cf162 _)) (c_part_in_1 x14 p3 x4 s5 s6 s7 x8 x9 b10 H hx20)<|?_
    rintro _ w ⟨rfl, H⟩ a E
    refine nt<|wif E hm rfl (fun hm=>?_) fun hm=>?_
    ·refine sq<|pr 2 E rfl fun a E=>nt<|wp_ret<|q_blkR<|q_thenR<|q_thenR<|q_blkR<|q_thenR<|?_
     refine out1 E rfl rfl<|?_
     cases hm
     exact ⟨rfl, H.reads (hs13)⟩
    ·exact wp_skip<|q_blk<|q_then<|wp_region_lit<|pr 2 E rfl fun a E=>nt<|have H:=H.front 0 rfl;have H:=H.front 1 rfl;⟨k1, Nat.lt_succ_self k1, IntKind.i64.wrap (x11 + 1), _, E.sel [0, 1, 7, 8] rfl, H, hs13, hm⟩
   ·refine wp_exit<|q_thenX<|q_thenX<|q_hit<|q_then<|sq<|pr 1 E rfl fun a E=>nt<|wp_ret<|?_
    refine out1 E rfl rfl<|have H:=H.front 0 rfl;have H:=H.front 1 rfl;?_
    cases hm
    exact ⟨rfl, H.reads (hs13)⟩

def m_slices_ContainsFunc_api_Node_api_Node_2 (l2 : List S_api_Node) (x4 : Int) (s5 : ByteArray) (s6 : ByteArray) (s7 : ByteArray) (x8 : Int) (x9 : Int) (b10 : Bool) : Option Bool :=
  (m_slices_IndexFunc_api_Node_api_Node_4 l2 x4 s5 s6 s7 x8 x9 b10).bind fun u11 => some (decide (u11 ≥ 0))
theorem c_slices_ContainsFunc_api_Node_api_Node_2 {w : World} {Fo : List Ob} {rs : List Rp} (v1 : Value) (l2 : List S_api_Node) (p3 : Nat) (x4 : Int) (s5 : ByteArray) (s6 : ByteArray) (s7 : ByteArray) (x8 : Int) (x9 : Int) (b10 : Bool) (H : Sep w (Row 80 k_api_Node v1 l2 :: Blk p3 62 [.int .i64 x4, .string s5, .string s6, .string s7, .int .i64 x8, .int .i64 x9, .bool b10] :: Fo) rs) {r : Bool} (hm : m_slices_ContainsFunc_api_Node_api_Node_2 l2 x4 s5 s6 s7 x8 x9 b10 = some r) :
    Calls Tryz.prog 94 [v1, .func (.func 162) #[] #[pt p3 0]].toArray w (Ret fun v w' => .bool r = v ∧ Sep w' (Blk p3 62 [.int .i64 x4, .string s5, .string s6, .string s7, .int .i64 x8, .int .i64 x9, .bool b10] :: Row 80 k_api_Node v1 l2 :: Fo) (rs)) := by
 unfold m_slices_ContainsFunc_api_Node_api_Node_2 at hm
 refine enter Tryz.func94 rfl Tryz.ntmps94 rfl fun a E =>?_
 simp only [enum, Nat.reduceAdd] at E
 refine sq<|pr 1 E rfl fun a E=>nx<|pr 2 E rfl fun a E=>bd hm fun u11 hx12 hm=>x_cl E rfl rfl rfl rfl rfl cf143 (c_slices_IndexFunc_api_Node_api_Node_4 v1 l2 p3 x4 s5 s6 s7 x8 x9 b10 H hx12)<|?_
 rintro _ w ⟨rfl, H⟩ a E
 refine pr 2 E rfl fun a E=>nt<|wp_ret<|out1 E rfl rfl<|?_
 cases hm
 exact ⟨rfl, H.reads (fun r hr => hr)⟩

def m_part_work_empty (l3 : List S_api_Node) (l5 : List S_api_Turn) (x6 : Int) (s7 : ByteArray) (s8 : ByteArray) (x9 : Int) (l11 : List ByteArray) (x12 : S_api_Part) : Option ((List S_api_Turn) × Int × ByteArray × ByteArray × Int × (List ByteArray)) :=
  (m_part_in x12).bind fun u14 => (m_slices_ContainsFunc_api_Node_api_Node_2 l3 u14.1 u14.2.1 u14.2.2.1 u14.2.2.2.1 u14.2.2.2.2.1 u14.2.2.2.2.2.1 u14.2.2.2.2.2.2).bind fun u17 => if u17 = true then ((m_part_work_fail l3 l5 x6 s7 s8 x9 l11 64).bind fun u19 => some (l5, u19, (ByteArray.mk #[]), (ByteArray.mk #[]), 0, [])) else ((m_part_work_turn l3 l5 x6 s7 s8 x9 l11 x12.Path).bind fun u21 => some (u21.2, x6, s7, s8, x9, l11))
theorem c_part_work_empty {w : World} {Fo : List Ob} {rs : List Rp} (p1 : Nat) (v2 : Value) (l3 : List S_api_Node) (v4 : Value) (l5 : List S_api_Turn) (x6 : Int) (s7 : ByteArray) (s8 : ByteArray) (x9 : Int) (v10 : Value) (l11 : List ByteArray) (x12 : S_api_Part) (H : Sep w (Blk p1 105 [v2, v4, .int .i64 x6, .string s7, .string s8, .int .i64 x9, v10] :: Row 80 k_api_Node v2 l3 :: Row 83 k_api_Turn v4 l5 :: Row 9 kS v10 l11 :: Fo) rs) {r : (List S_api_Turn) × Int × ByteArray × ByteArray × Int × (List ByteArray)} (hm : m_part_work_empty l3 l5 x6 s7 s8 x9 l11 x12 = some r) :
    Calls Tryz.prog 81 [pt p1 0, .agg (l_api_Part x12).toArray].toArray w (Ret fun v w' => ∃ (v5001 : Value) (v5007 : Value), .tuple #[] = v ∧ Sep w' (Blk p1 105 [v2, v5001, .int .i64 r.2.1, .string r.2.2.1, .string r.2.2.2.1, .int .i64 r.2.2.2.2.1, v5007] :: Row 80 k_api_Node v2 l3 :: Row 83 k_api_Turn v5001 r.1 :: Row 9 kS v5007 r.2.2.2.2.2 :: Fo) (rs)) := by
 unfold m_part_work_empty at hm
 refine enter Tryz.func81 rfl Tryz.ntmps81 rfl fun a E =>?_
 simp only [enum, Nat.reduceAdd] at E
 refine sq<|st_box E H (wn rfl) rfl rfl (cs := (l_api_Part x12)) rfl rfl rfl fun p13 w a H E=>nt<|wp_seq<|wp_seq<|dw [(0, 0), (1, 0), (2, 0), (3, 0), (4, 0), (5, 0), (6, 1), (7, 1)] [0, 1] [] H (by kernel_rfl) (fun _ _ _ h => False.elim h.2) fun w W0 hI H=>fn 4 E rfl fun a E=>fb E rfl (wn rfl) rfl rfl rfl rfl mm1 rfl Tryz.underlying22 rfl fun a E=>fbn E (l_api_Part x12) rfl (wn rfl) rfl rfl rfl rfl m0 rfl Tryz.underlying62 rfl sz62 fun a E=>?_
 refine fr_op rfl<|bd hm fun u14 hx15 hm=>x_cl E rfl rfl rfl rfl rfl cf137 (c_part_in x12 H hx15)<|?_
 rintro _ w ⟨p16, rfl, H⟩ a E
 refine nt<|?_
 refine ⟨⟨_, _, H, (subO_cons mm1 (subO_cons mm2 (subO_nil))), (sub_nil)⟩, ?_⟩
 refine fr_op rfl<|have H:=H.front 5 rfl;have H:=H.front 5 rfl;have H:=H.front 4 rfl;have H:=H.front 4 rfl;have H:=H.front 4 rfl;have H:=H.front 5 rfl;bd hm fun u17 hx18 hm=>x_cl E rfl rfl rfl rfl rfl cf94 (c_slices_ContainsFunc_api_Node_api_Node_2 v2 l3 p16 u14.1 u14.2.1 u14.2.2.1 u14.2.2.2.1 u14.2.2.2.2.1 u14.2.2.2.2.2.1 u14.2.2.2.2.2.2 H hx18)<|?_
 rintro _ w ⟨rfl, H⟩ a E
 refine nt<|?_
 refine ⟨⟨_, _, H, (subO_cons mm2 (subO_cons mm3 (subO_nil))), (sub_nil)⟩, ?_⟩
 refine fr_nil<|?_
 clear hI
 refine q_then<|wif E hm rfl (fun hm=>?_) fun hm=>?_
 ·refine sq<|pr 1 E rfl fun a E=>have H:=H.front 2 rfl;have H:=H.front 1 rfl;have H:=H.front 5 rfl;have H:=H.front 5 rfl;have H:=H.front 4 rfl;have H:=H.front 5 rfl;bd hm fun u19 hx20 hm=>?_
  refine x_cl E rfl rfl rfl rfl rfl cf132 (c_part_work_fail p1 v2 l3 v4 l5 x6 s7 s8 x9 v10 l11 64 H hx20)<|?_
  rintro _ w ⟨rfl, H⟩ a E
  refine nt<|wp_ret<|q_thenR<|out0r E rfl<|have H:=H.nilRow 9 kS;have H:=H.drop 4;have H:=H.drop 4;have H:=H.front 0 rfl;have H:=H.front 3 rfl;?_
  refine have H:=H.front 3 rfl;have H:=H.front 3 rfl;?_
  cases hm
  exact ⟨v4, (.slice none 0 0), rfl, H.reads (fun r hr => hr)⟩
 ·refine wp_skip<|q_then<|wp_region_lit<|pr 2 E rfl fun a E=>lb E H 2 rfl rfl rfl rfl rfl rfl rfl Tryz.underlying9 rfl fun a E=>have H:=H.front 2 rfl;have H:=H.front 1 rfl;have H:=H.front 5 rfl;have H:=H.front 5 rfl;?_
  refine have H:=H.front 4 rfl;have H:=H.front 5 rfl;bd hm fun u21 hx22 hm=>x_cl E rfl rfl rfl rfl rfl cf133 (c_part_work_turn p1 v2 l3 v4 l5 x6 s7 s8 x9 v10 l11 x12.Path H hx22)<|?_
  rintro _ w ⟨v23, rfl, H⟩ a E
  refine wpList_nil<|out0 E rfl<|have H:=H.drop 4;have H:=H.drop 4;?_
  cases hm
  exact ⟨v23, v10, rfl, H.reads (fun r hr => hr)⟩

def m_part_work_guard_j1 (l3 : List S_api_Node) (l5 : List S_api_Turn) (u14 : Int × Int × ByteArray × ByteArray × Int × (List ByteArray)) (b17 : Bool) : Option (Int × ByteArray × ByteArray × Int × (List ByteArray)) :=
  if b17 = true then ((m_part_work_fail l3 l5 u14.2.1 u14.2.2.1 u14.2.2.2.1 u14.2.2.2.2.1 u14.2.2.2.2.2 65).bind fun u20 => some (u20, (ByteArray.mk #[]), (ByteArray.mk #[]), 0, [])) else (some (u14.2.1, u14.2.2.1, u14.2.2.2.1, u14.2.2.2.2.1, u14.2.2.2.2.2))
def m_part_work_guard (l3 : List S_api_Node) (l5 : List S_api_Turn) (x6 : Int) (s7 : ByteArray) (s8 : ByteArray) (x9 : Int) (l11 : List ByteArray) (x12 : S_api_Part) : Option (Int × ByteArray × ByteArray × Int × (List ByteArray)) :=
  (m_part_work_node l3 l5 x6 s7 s8 x9 l11 x12).bind fun u14 => if (decide (0 ≤ u14.1)) = true then ((idx l3 u14.1).bind fun x23 => m_part_work_guard_j1 l3 l5 u14 (x23.Owner != 0)) else (m_part_work_guard_j1 l3 l5 u14 false)
theorem c_part_work_guard {w : World} {Fo : List Ob} {rs : List Rp} (p1 : Nat) (v2 : Value) (l3 : List S_api_Node) (v4 : Value) (l5 : List S_api_Turn) (x6 : Int) (s7 : ByteArray) (s8 : ByteArray) (x9 : Int) (v10 : Value) (l11 : List ByteArray) (x12 : S_api_Part) (H : Sep w (Blk p1 105 [v2, v4, .int .i64 x6, .string s7, .string s8, .int .i64 x9, v10] :: Row 80 k_api_Node v2 l3 :: Row 83 k_api_Turn v4 l5 :: Row 9 kS v10 l11 :: Fo) rs) {r : Int × ByteArray × ByteArray × Int × (List ByteArray)} (hm : m_part_work_guard l3 l5 x6 s7 s8 x9 l11 x12 = some r) :
    Calls Tryz.prog 78 [pt p1 0, .agg (l_api_Part x12).toArray].toArray w (Ret fun v w' => ∃ (v5005 : Value), .tuple #[] = v ∧ Sep w' (Blk p1 105 [v2, v4, .int .i64 r.1, .string r.2.1, .string r.2.2.1, .int .i64 r.2.2.2.1, v5005] :: Row 80 k_api_Node v2 l3 :: Row 83 k_api_Turn v4 l5 :: Row 9 kS v5005 r.2.2.2.2 :: Fo) (rs)) := by
 unfold m_part_work_guard at hm
 refine enter Tryz.func78 rfl Tryz.ntmps78 rfl fun a E =>?_
 simp only [enum, Nat.reduceAdd] at E
 refine sq<|st_box E H (wn rfl) rfl rfl (cs := (l_api_Part x12)) rfl rfl rfl fun p13 w a H E=>nx<|pr 1 E rfl fun a E=>sv E rfl rfl rfl (x_ldBN (i := 0) (us := (l_api_Part x12)) E H rfl rfl rfl rfl Tryz.underlying62 rfl sz62) fun a E=>have H:=H.front 0 rfl;have H:=H.front 4 rfl;have H:=H.front 4 rfl;have H:=H.front 4 rfl;?_
 refine have H:=H.front 4 rfl;bd hm fun u14 hx15 hm=>x_cl E rfl rfl rfl rfl rfl cf131 (c_part_work_node p1 v2 l3 v4 l5 x6 s7 s8 x9 v10 l11 x12 H hx15)<|?_
 rintro _ w ⟨v16, rfl, H⟩ a E
 refine pr 1 E rfl fun a E=>nt<|wp_seq_cut (fun a w => ∃ (b17 : Bool) (rs18 : List Rp), Env 19 a [(0, pt p1 0), (16, .bool b17)] ∧ Sep w (Blk p1 105 [v2, v4, .int .i64 u14.2.1, .string u14.2.2.1, .string u14.2.2.2.1, .int .i64 u14.2.2.2.2.1, v16] :: Row 80 k_api_Node v2 l3 :: Row 83 k_api_Turn v4 l5 :: Row 9 kS v16 u14.2.2.2.2.2 :: Fo) rs18 ∧ (∀ r, r ∈ rs → r ∈ rs18) ∧ m_part_work_guard_j1 l3 l5 u14 b17 = some r) ?_ ?_
 ·refine wp_region_lit<|pr 1 E rfl fun a E=>sv E rfl rfl rfl (x_orpN E oq138 oz138 rfl rfl rfl) fun a E=>pr 1 E rfl fun a E=>cs hm (fun hb22 hm=>?_) fun hb22 hm=>?_
  ·refine pk 1 E (kc 10 rfl hb22) rfl fun a E=>bd hm fun x23 hx24 hm=>?_
   obtain ⟨p25, x26, hx27⟩ := H.rowformNE (i := 1) rfl hx24
   rw [orp_rp 5 hx27 hx24] at E
   exact pk 2 E (kc 10 rfl hb22) rfl fun a E=>st_val E (ws' (d := 10) E rfl rfl rfl rfl hb22) rfl rfl (x_ldRowV (d := k_api_Node) (i := 1) (k := 4) E H k_api_Node_flat hx27 rfl rfl rfl hx24 rfl Tryz.underlying2 rfl) fun a E=>pk 2 E (kc 10 rfl hb22) rfl fun a E=>nt<|have H:=H.drop 4;⟨x23.Owner != 0, _, E.sel [0, 16] rfl, H, fun r hr => hr, hm⟩
  ·exact pk 6 E (kc 10 rfl hb22) rfl fun a E=>nt<|have H:=H.drop 4;⟨false, _, E.sel [0, 16] rfl, H, fun r hr => hr, hm⟩
 ·clear E H hm
  rintro a w ⟨b17, rs18, E, H, hs19, hm⟩
  unfold m_part_work_guard_j1 at hm
  refine wif E hm rfl (fun hm=>?_) fun hm=>?_
  ·refine wp_region_lit<|pr 1 E rfl fun a E=>bd hm fun u20 hx21 hm=>x_cl E rfl rfl rfl rfl rfl cf132 (c_part_work_fail p1 v2 l3 v4 l5 u14.2.1 u14.2.2.1 u14.2.2.2.1 u14.2.2.2.2.1 v16 u14.2.2.2.2.2 65 H hx21)<|?_
   rintro _ w ⟨rfl, H⟩ a E
   refine wpList_nil<|out0 E rfl<|have H:=H.nilRow 9 kS;have H:=H.front 0 rfl;have H:=H.front 3 rfl;have H:=H.front 3 rfl;have H:=H.front 3 rfl;?_
   cases hm
   exact ⟨(.slice none 0 0), rfl, H.reads (hs19)⟩
  ·refine wp_skip<|out0 E rfl<|?_
   cases hm
   exact ⟨v16, rfl, H.reads (hs19)⟩

def m_part_work_has (l3 : List S_api_Node) (l5 : List S_api_Turn) (x6 : Int) (s7 : ByteArray) (s8 : ByteArray) (x9 : Int) (l11 : List ByteArray) (x12 : S_api_Part) : Option (Int × ByteArray × ByteArray × Int × (List ByteArray)) :=
  (m_part_work_node l3 l5 x6 s7 s8 x9 l11 x12).bind fun u14 => some (u14.2.1, u14.2.2.1, u14.2.2.2.1, u14.2.2.2.2.1, u14.2.2.2.2.2)
theorem c_part_work_has {w : World} {Fo : List Ob} {rs : List Rp} (p1 : Nat) (v2 : Value) (l3 : List S_api_Node) (v4 : Value) (l5 : List S_api_Turn) (x6 : Int) (s7 : ByteArray) (s8 : ByteArray) (x9 : Int) (v10 : Value) (l11 : List ByteArray) (x12 : S_api_Part) (H : Sep w (Blk p1 105 [v2, v4, .int .i64 x6, .string s7, .string s8, .int .i64 x9, v10] :: Row 80 k_api_Node v2 l3 :: Row 83 k_api_Turn v4 l5 :: Row 9 kS v10 l11 :: Fo) rs) {r : Int × ByteArray × ByteArray × Int × (List ByteArray)} (hm : m_part_work_has l3 l5 x6 s7 s8 x9 l11 x12 = some r) :
    Calls Tryz.prog 85 [pt p1 0, .agg (l_api_Part x12).toArray].toArray w (Ret fun v w' => ∃ (v5005 : Value), .tuple #[] = v ∧ Sep w' (Blk p1 105 [v2, v4, .int .i64 r.1, .string r.2.1, .string r.2.2.1, .int .i64 r.2.2.2.1, v5005] :: Row 80 k_api_Node v2 l3 :: Row 83 k_api_Turn v4 l5 :: Row 9 kS v5005 r.2.2.2.2 :: Fo) (rs)) := by
 unfold m_part_work_has at hm
 refine enter Tryz.func85 rfl Tryz.ntmps85 rfl fun a E =>?_
 simp only [enum, Nat.reduceAdd] at E
 refine sq<|st_box E H (wn rfl) rfl rfl (cs := (l_api_Part x12)) rfl rfl rfl fun p13 w a H E=>nt<|wp_region_lit<|pr 1 E rfl fun a E=>sv E rfl rfl rfl (x_ldBN (i := 0) (us := (l_api_Part x12)) E H rfl rfl rfl rfl Tryz.underlying62 rfl sz62) fun a E=>have H:=H.front 0 rfl;have H:=H.front 4 rfl;have H:=H.front 4 rfl;?_
 refine have H:=H.front 4 rfl;have H:=H.front 4 rfl;bd hm fun u14 hx15 hm=>x_cl E rfl rfl rfl rfl rfl cf131 (c_part_work_node p1 v2 l3 v4 l5 x6 s7 s8 x9 v10 l11 x12 H hx15)<|?_
 rintro _ w ⟨v16, rfl, H⟩ a E
 refine wpList_nil<|out0 E rfl<|have H:=H.drop 4;?_
 cases hm
 exact ⟨v16, rfl, H.reads (fun r hr => hr)⟩

def m_part_work_look (l3 : List S_api_Node) (l5 : List S_api_Turn) (x6 : Int) (s7 : ByteArray) (s8 : ByteArray) (x9 : Int) (l11 : List ByteArray) (x12 : S_api_Part) : Option (Int × ByteArray × ByteArray × Int × (List ByteArray)) :=
  (m_part_work_node l3 l5 x6 s7 s8 x9 l11 x12).bind fun u14 => if (decide (0 ≤ u14.1)) = true then ((idx l3 u14.1).bind fun x17 => some (u14.2.1, u14.2.2.1, u14.2.2.2.1, x17.Version, u14.2.2.2.2.2)) else (some (u14.2.1, u14.2.2.1, u14.2.2.2.1, u14.2.2.2.2.1, u14.2.2.2.2.2))
theorem c_part_work_look {w : World} {Fo : List Ob} {rs : List Rp} (p1 : Nat) (v2 : Value) (l3 : List S_api_Node) (v4 : Value) (l5 : List S_api_Turn) (x6 : Int) (s7 : ByteArray) (s8 : ByteArray) (x9 : Int) (v10 : Value) (l11 : List ByteArray) (x12 : S_api_Part) (H : Sep w (Blk p1 105 [v2, v4, .int .i64 x6, .string s7, .string s8, .int .i64 x9, v10] :: Row 80 k_api_Node v2 l3 :: Row 83 k_api_Turn v4 l5 :: Row 9 kS v10 l11 :: Fo) rs) {r : Int × ByteArray × ByteArray × Int × (List ByteArray)} (hm : m_part_work_look l3 l5 x6 s7 s8 x9 l11 x12 = some r) :
    Calls Tryz.prog 83 [pt p1 0, .agg (l_api_Part x12).toArray].toArray w (Ret fun v w' => ∃ (v5005 : Value), .tuple #[] = v ∧ Sep w' (Blk p1 105 [v2, v4, .int .i64 r.1, .string r.2.1, .string r.2.2.1, .int .i64 r.2.2.2.1, v5005] :: Row 80 k_api_Node v2 l3 :: Row 83 k_api_Turn v4 l5 :: Row 9 kS v5005 r.2.2.2.2 :: Fo) (rs)) := by
 unfold m_part_work_look at hm
 refine enter Tryz.func83 rfl Tryz.ntmps83 rfl fun a E =>?_
 simp only [enum, Nat.reduceAdd] at E
 refine sq<|st_box E H (wn rfl) rfl rfl (cs := (l_api_Part x12)) rfl rfl rfl fun p13 w a H E=>nx<|pr 1 E rfl fun a E=>sv E rfl rfl rfl (x_ldBN (i := 0) (us := (l_api_Part x12)) E H rfl rfl rfl rfl Tryz.underlying62 rfl sz62) fun a E=>have H:=H.front 0 rfl;have H:=H.front 4 rfl;have H:=H.front 4 rfl;have H:=H.front 4 rfl;?_
 refine have H:=H.front 4 rfl;bd hm fun u14 hx15 hm=>x_cl E rfl rfl rfl rfl rfl cf131 (c_part_work_node p1 v2 l3 v4 l5 x6 s7 s8 x9 v10 l11 x12 H hx15)<|?_
 rintro _ w ⟨v16, rfl, H⟩ a E
 refine pr 1 E rfl fun a E=>nx<|pr 1 E rfl fun a E=>sv E rfl rfl rfl (x_orpN E oq138 oz138 rfl rfl rfl) fun a E=>nt<|wif E hm rfl (fun hm=>?_) fun hm=>?_
 ·refine wp_region_lit<|pr 2 E rfl fun a E=>bd hm fun x17 hx18 hm=>?_
  obtain ⟨p19, x20, hx21⟩ := H.rowformNE (i := 1) rfl hx18
  rw [orp_rp 5 hx21 hx18] at E
  refine pr 2 E rfl fun a E=>sv E rfl rfl rfl (x_ldRowV (d := k_api_Node) (i := 1) (k := 2) E H k_api_Node_flat hx21 rfl rfl rfl hx18 rfl Tryz.underlying2 rfl) fun a E=>pr 3 E rfl fun a E=>st_st (i := 0) E H (wn rfl) rfl (us := [.int .i64 x17.Version]) rfl rfl rfl rfl rfl sz2 rfl rfl fun w H=>wpList_nil<|out0 E rfl<|have H:=H.drop 4;?_
  cases hm
  exact ⟨v16, rfl, H.reads (fun r hr => hr)⟩
 ·refine wp_skip<|out0 E rfl<|have H:=H.drop 4;?_
  cases hm
  exact ⟨v16, rfl, H.reads (fun r hr => hr)⟩

def m_part_work_names_j1 (rec_1 : Int → (List ByteArray) → Option (List ByteArray)) (x17 : Int) (l23 : (List ByteArray)) : Option (List ByteArray) :=
  rec_1 (IntKind.i64.wrap (x17 + 1)) l23
def m_part_work_names_l1 (l3 : List S_api_Node) (u14 : Int × ByteArray × ByteArray × ByteArray × Int × Int × Bool) : Nat → Int → (List ByteArray) → Option (List ByteArray)
  | 0, _, _ => none
  | k1 + 1, x17, l19 =>
    if (decide (x17 < (l3.length : Int))) = true then ((idx l3 x17).bind fun x26 => (m_part_in_1 x26 u14.1 u14.2.1 u14.2.2.1 u14.2.2.2.1 u14.2.2.2.2.1 u14.2.2.2.2.2.1 u14.2.2.2.2.2.2).bind fun u32 => if u32 = true then ((m_path_Last x26.Path).bind fun u34 => (ck (l19.length + ([u34] : List ByteArray).length ≤ LIM)).bind fun u38 => m_part_work_names_j1 (m_part_work_names_l1 l3 u14 k1) x17 (l19 ++ ([u34] : List ByteArray))) else (m_part_work_names_j1 (m_part_work_names_l1 l3 u14 k1) x17 l19)) else (some (l19))
def m_part_work_names (l3 : List S_api_Node) (l5 : List S_api_Turn) (x6 : Int) (s7 : ByteArray) (s8 : ByteArray) (x9 : Int) (l11 : List ByteArray) (x12 : S_api_Part) : Option (List ByteArray) :=
  (m_part_in x12).bind fun u14 => m_part_work_names_l1 l3 u14 (((l3.length : Int) - 0 : Int).toNat + 1) 0 l11
theorem c_part_work_names {w : World} {Fo : List Ob} {rs : List Rp} (p1 : Nat) (v2 : Value) (l3 : List S_api_Node) (v4 : Value) (l5 : List S_api_Turn) (x6 : Int) (s7 : ByteArray) (s8 : ByteArray) (x9 : Int) (v10 : Value) (l11 : List ByteArray) (x12 : S_api_Part) (H : Sep w (Blk p1 105 [v2, v4, .int .i64 x6, .string s7, .string s8, .int .i64 x9, v10] :: Row 80 k_api_Node v2 l3 :: Row 83 k_api_Turn v4 l5 :: Row 9 kS v10 l11 :: Fo) rs) {r : (List ByteArray)} (hm : m_part_work_names l3 l5 x6 s7 s8 x9 l11 x12 = some r) :
    Calls Tryz.prog 86 [pt p1 0, .agg (l_api_Part x12).toArray].toArray w (Ret fun v w' => ∃ (v5001 : Value), .tuple #[] = v ∧ Sep w' (Blk p1 105 [v2, v4, .int .i64 x6, .string s7, .string s8, .int .i64 x9, v5001] :: Row 80 k_api_Node v2 l3 :: Row 83 k_api_Turn v4 l5 :: Row 9 kS v5001 r :: Fo) (rs)) := by
 unfold m_part_work_names at hm
 refine enter Tryz.func86 rfl Tryz.ntmps86 rfl fun a E =>?_
 simp only [enum, Nat.reduceAdd] at E
 refine sq<|st_box E H (wn rfl) rfl rfl (cs := (l_api_Part x12)) rfl rfl rfl fun p13 w a H E=>nx<|sv E rfl rfl rfl (x_ldBN (i := 0) (us := (l_api_Part x12)) E H rfl rfl rfl rfl Tryz.underlying62 rfl sz62) fun a E=>bd hm fun u14 hx15 hm=>x_cl E rfl rfl rfl rfl rfl cf137 (c_part_in x12 H hx15)<|?_
 rintro _ w ⟨p16, rfl, H⟩ a E
 refine pr 1 E rfl fun a E=>nx<|pr 4 E rfl fun a E=>lb E H 2 rfl rfl rfl rfl rfl rfl rfl Tryz.underlying22 rfl fun a E=>sv E rfl rfl rfl (x_lenR (i := 3) E H rfl rfl rfl Tryz.underlying22) fun a E=>pr 1 E rfl fun a E=>nt<|wp_block<|wp_loop_g (fun k1 a w => ∃ (v18 : Value) (x17 : Int) (l19 : (List ByteArray)) (rs20 : List Rp), Env 37 a [(0, pt p1 0), (4, .func (.func 162) #[] #[pt p16 0]), (13, v2), (14, .int .i64 (l3.length : Int)), (15, .int .i64 x17)] ∧ Sep w (Blk p1 105 [v2, v4, .int .i64 x6, .string s7, .string s8, .int .i64 x9, v18] :: Blk p16 62 [.int .i64 u14.1, .string u14.2.1, .string u14.2.2.1, .string u14.2.2.2.1, .int .i64 u14.2.2.2.2.1, .int .i64 u14.2.2.2.2.2.1, .bool u14.2.2.2.2.2.2] :: Row 80 k_api_Node v2 l3 :: Row 83 k_api_Turn v4 l5 :: Row 9 kS v18 l19 :: Fo) rs20 ∧ (∀ r, r ∈ rs → r ∈ rs20) ∧ m_part_work_names_l1 l3 u14 k1 x17 l19 = some r) (((l3.length : Int) - 0 : Int).toNat + 1) ?_ ?_
 ·exact have H:=H.drop 1;have H:=H.front 4 rfl;have H:=H.front 4 rfl;have H:=H.front 4 rfl;have H:=H.front 3 rfl;have H:=H.front 4 rfl;⟨v10, 0, l11, _, E.sel [0, 4, 13, 14, 15] rfl, H, fun r hr => hr, hm⟩
 ·clear E H hm
  rintro k1 a w ⟨v18, x17, l19, rs20, E, H, hs21, hm⟩
  cases k1 with
  | zero => exact (none_some hm rfl).elim
  | succ k1 =>
   unfold m_part_work_names_l1 at hm
   refine sq<|pr 1 E rfl fun a E=>nt<|wp_seq<|wif E hm rfl (fun hm=>?_) fun hm=>?_
   ·refine wp_skip<|q_then<|wp_seq_cut (fun a w => ∃ (v22 : Value) (l23 : (List ByteArray)) (rs24 : List Rp), Env 37 a [(0, pt p1 0), (4, .func (.func 162) #[] #[pt p16 0]), (13, v2), (14, .int .i64 (l3.length : Int)), (15, .int .i64 x17)] ∧ Sep w (Blk p1 105 [v2, v4, .int .i64 x6, .string s7, .string s8, .int .i64 x9, v22] :: Blk p16 62 [.int .i64 u14.1, .string u14.2.1, .string u14.2.2.1, .string u14.2.2.2.1, .int .i64 u14.2.2.2.2.1, .int .i64 u14.2.2.2.2.2.1, .bool u14.2.2.2.2.2.2] :: Row 80 k_api_Node v2 l3 :: Row 83 k_api_Turn v4 l5 :: Row 9 kS v22 l23 :: Fo) rs24 ∧ (∀ r, r ∈ rs → r ∈ rs24) ∧ m_part_work_names_j1 (m_part_work_names_l1 l3 u14 k1) x17 l23 = some r) ?_ ?_
    ·refine wp_block<|sq<|bd hm fun x26 hx27 hm=>?_
     obtain ⟨p28, x29, hx30⟩ := H.rowformNE (i := 2) rfl hx27
     refine sv E rfl rfl rfl (x_ixRowV (d := k_api_Node) E hx30 rfl rfl rfl rfl Tryz.underlying22 sz80 hx27) fun a E=>sv E rfl rfl rfl (x_ldRowNV (i := 2) E H k_api_Node_flat hx30 rfl rfl rfl hx27 (us := [.string x26.Path, .string x26.Data, .int .i64 x26.Version, .int .i64 x26.Turn, .int .i64 x26.Owner]) rfl Tryz.underlying80 rfl sz80) fun a E=>al E H rfl rfl rfl rfl zr80 fun p31 w a H E=>st_st (i := 0) E H (wn rfl) rfl (us := (l_api_Node x26)) rfl rfl rfl rfl rfl sz80 rfl rfl fun w H=>nx<|pr 1 E rfl fun a E=>sv E rfl rfl rfl (x_ldBN (i := 0) (us := (l_api_Node x26)) E H rfl rfl rfl rfl Tryz.underlying80 rfl sz80) fun a E=>have H:=H.front 5 rfl;have H:=H.front 5 rfl;?_
     refine have H:=H.front 5 rfl;have H:=H.front 4 rfl;have H:=H.front 4 rfl;have H:=H.front 5 rfl;bd hm fun u32 hx33 hm=>st_call E (wn rfl) rfl rfl (x_callv E rfl rfl rfl (cf162 _)) (c_part_in_1 x26 p16 u14.1 u14.2.1 u14.2.2.1 u14.2.2.2.1 u14.2.2.2.2.1 u14.2.2.2.2.2.1 u14.2.2.2.2.2.2 H hx33)<|?_
     rintro _ w ⟨rfl, H⟩ a E
     refine nt<|wif E hm rfl (fun hm=>?_) fun hm=>?_
     ·refine dw [(0, 0), (1, 0), (2, 0), (3, 0), (4, 0), (5, 0), (6, 0), (7, 0), (8, 1), (9, 1), (10, 1), (11, 2), (12, 2), (13, 2), (14, 2)] [1, 2] [] H (by kernel_rfl) (fun _ _ _ h => False.elim h.2) fun w W0 hI H=>fn 5 E rfl fun a E=>fb E rfl (wn rfl) rfl rfl rfl rfl mm1 rfl Tryz.underlying49 rfl fun a E=>fn 1 E rfl fun a E=>fb E rfl (wn rfl) rfl rfl rfl rfl m0 rfl Tryz.underlying9 rfl fun a E=>fr_op rfl<|bd hm fun u34 hx35 hm=>x_cl E rfl rfl rfl rfl rfl cf119 (c_path_Last x26.Path H hx35)<|?_
      rintro _ w ⟨rfl, H⟩ a E
      refine nt<|?_
      refine ⟨⟨_, _, H, (subO_cons mm1 (subO_cons mm2 (subO_nil))), (sub_nil)⟩, ?_⟩
      refine fr_op rfl<|st_bsR (e := 9) (d := kS) (cs := [.string u34]) (xs := [u34]) E H (wn rfl) rfl rfl rfl (E.evs rfl) (by kernel_rfl) rfl (fun ok hr => (Rows.single (d := kS) (cs := [.string u34]) (x := u34) rfl)) fun v36 w a H E=>nt<|?_
      refine ⟨⟨_, _, H, (subO_cons mm1 (subO_cons mm2 (subO_nil))), (sub_nil)⟩, ?_⟩
      refine fr_op rfl<|bk hm fun hx39 hm=>st_append (i := 5) E H (wn rfl) rfl rfl rfl rfl rfl rfl (src_rd m0) Tryz.underlying49 inf9 rfl hx39 rfl fun v37 w a H E=>nt<|?_
      refine ⟨⟨_, _, H, (subO_cons mm1 (subO_cons mm2 (subO_nil))), (sub_nil)⟩, ?_⟩
      refine fr_tail rfl<|pr 1 E rfl fun a E=>nt<|fr_tail rfl<|pr 1 E rfl fun a E=>nt<|fr_tail rfl<|pr 1 E rfl fun a E=>nt<|?_
      refine fr_tail rfl<|?_
      obtain ⟨q40, x41, rfl⟩ := H.rowform (i := 5) rfl
      refine st_st (i := 2) E H (wn rfl) rfl (us := [(.slice q40 (l19 ++ ([u34] : List ByteArray)).length x41)]) rfl rfl rfl rfl rfl sz49 rfl rfl fun w H=>nt<|fr_nil<|?_
      clear hI
      exact q_blk<|q_then<|have H:=H.drop 1;have H:=H.front 4 rfl;have H:=H.front 4 rfl;have H:=H.front 4 rfl;have H:=H.front 3 rfl;have H:=H.front 4 rfl;⟨(.slice q40 (l19 ++ ([u34] : List ByteArray)).length x41), l19 ++ ([u34] : List ByteArray), _, E.sel [0, 4, 13, 14, 15] rfl, H, fun r hr => (t1 (hs21 r hr)), hm⟩
     ·exact wp_skip<|q_blk<|q_then<|have H:=H.drop 1;have H:=H.front 4 rfl;have H:=H.front 4 rfl;have H:=H.front 4 rfl;have H:=H.front 3 rfl;have H:=H.front 4 rfl;⟨v18, l19, _, E.sel [0, 4, 13, 14, 15] rfl, H, hs21, hm⟩
    ·clear E H hm
     rintro a w ⟨v22, l23, rs24, E, H, hs25, hm⟩
     unfold m_part_work_names_j1 at hm
     exact wp_region_lit<|pr 2 E rfl fun a E=>nt<|⟨k1, Nat.lt_succ_self k1, v22, IntKind.i64.wrap (x17 + 1), l23, _, E.sel [0, 4, 13, 14, 15] rfl, H, hs25, hm⟩
   ·refine wp_exit<|q_thenX<|q_thenX<|q_hit<|out0 E rfl<|have H:=H.drop 1;?_
    cases hm
    exact ⟨v18, rfl, H.reads (hs21)⟩

def m_part_work_put_1 (x1 : Int) : Option Int :=
  some (x1)
theorem c_part_work_put_1 {w : World} {Fo : List Ob} {rs : List Rp} (x1 : Int) (H : Sep w (Fo) rs) {r : Int} (hm : m_part_work_put_1 x1 = some r) :
    Calls Tryz.prog 134 [.int .i64 x1].toArray w (Ret fun v w' => .int .i64 r = v ∧ Sep w' (Fo) (rs)) := by
 unfold m_part_work_put_1 at hm
 refine enter Tryz.func134 rfl Tryz.ntmps134 rfl fun a E =>?_
 simp only [enum, Nat.reduceAdd] at E
 refine sq<|pr 1 E rfl fun a E=>nx<|pr 2 E rfl fun a E=>nt<|wp_ret<|out1 E rfl rfl<|?_
 cases hm
 exact ⟨rfl, H.reads (fun r hr => hr)⟩

def m_part_work_turn_1b_j2 (x19 : S_api_Turn) (l25 : (List S_api_Turn)) : Option (Int × (List S_api_Turn)) :=
  some (x19.Next, l25)
def m_part_work_turn_1b_j1 (u13 : Int × Bool) (l16 : (List S_api_Turn)) : Option (Int × (List S_api_Turn)) :=
  (idx l16 u13.1).bind fun x19 => (m_part_work_put_1 x19.Next).bind fun u28 => (idx l16 u13.1).bind fun x30 => (idx (l16.set u13.1.toNat ({ x30 with Next := u28 } : S_api_Turn)) u13.1).bind fun x35 => if (x35.Next == 0) = true then ((ck (0 ≤ u13.1 ∧ u13.1 < (l16.set u13.1.toNat ({ x30 with Next := u28 } : S_api_Turn)).length ∧ IntKind.i64.wrap (u13.1 + 1) = u13.1 + 1)).bind fun u40 => m_part_work_turn_1b_j2 x19 ((l16.set u13.1.toNat ({ x30 with Next := u28 } : S_api_Turn)).eraseIdx u13.1.toNat)) else (m_part_work_turn_1b_j2 x19 (l16.set u13.1.toNat ({ x30 with Next := u28 } : S_api_Turn)))
def m_part_work_turn_1b (l3 : List S_api_Node) (l5 : List S_api_Turn) (x6 : Int) (s7 : ByteArray) (s8 : ByteArray) (x9 : Int) (l11 : List ByteArray) (s12 : ByteArray) : Option (Int × (List S_api_Turn)) :=
  (m_slices_BinarySearchFunc_api_Turn_api_Turn_string l5 s12).bind fun u13 => if (!u13.2) = true then ((ck (0 ≤ u13.1 ∧ u13.1 ≤ l5.length ∧ 0 < l5.length ∧ l5.length ≤ 1000000)).bind fun u46 => m_part_work_turn_1b_j1 u13 (l5.take u13.1.toNat ++ (⟨s12, 0⟩ : S_api_Turn) :: l5.drop u13.1.toNat)) else (m_part_work_turn_1b_j1 u13 l5)
theorem c_part_work_turn_1b {w : World} {Fo : List Ob} {rs : List Rp} (p1 : Nat) (v2 : Value) (l3 : List S_api_Node) (v4 : Value) (l5 : List S_api_Turn) (x6 : Int) (s7 : ByteArray) (s8 : ByteArray) (x9 : Int) (v10 : Value) (l11 : List ByteArray) (s12 : ByteArray) (H : Sep w (Blk p1 105 [v2, v4, .int .i64 x6, .string s7, .string s8, .int .i64 x9, v10] :: Row 80 k_api_Node v2 l3 :: Row 83 k_api_Turn v4 l5 :: Row 9 kS v10 l11 :: Fo) rs) {r : Int × (List S_api_Turn)} (hm : m_part_work_turn_1b l3 l5 x6 s7 s8 x9 l11 s12 = some r) :
    Calls Tryz.prog 133 [pt p1 0, .string s12, .func (.func 134) #[] #[]].toArray w (Ret fun v w' => ∃ (v5002 : Value), .int .i64 r.1 = v ∧ Sep w' (Blk p1 105 [v2, v5002, .int .i64 x6, .string s7, .string s8, .int .i64 x9, v10] :: Row 80 k_api_Node v2 l3 :: Row 83 k_api_Turn v5002 r.2 :: Row 9 kS v10 l11 :: Fo) (rs)) := by
 unfold m_part_work_turn_1b at hm
 refine enter Tryz.func133 rfl Tryz.ntmps133 rfl fun a E =>?_
 simp only [enum, Nat.reduceAdd] at E
 refine sq<|pr 1 E rfl fun a E=>nx<|pr 4 E rfl fun a E=>lb E H 0 rfl rfl rfl rfl rfl rfl rfl Tryz.underlying39 rfl fun a E=>pr 1 E rfl fun a E=>have H:=H.front 3 rfl;have H:=H.front 2 rfl;have H:=H.front 2 rfl;?_
 refine have H:=H.front 3 rfl;bd hm fun u13 hx14 hm=>x_cl E rfl rfl rfl rfl rfl cf156 (c_slices_BinarySearchFunc_api_Turn_api_Turn_string v4 l5 s12 H hx14)<|?_
 rintro _ w ⟨rfl, H⟩ a E
 refine pr 5 E rfl fun a E=>nt<|wp_seq_cut (fun a w => ∃ (v15 : Value) (l16 : (List S_api_Turn)) (rs17 : List Rp), Env 80 a [(0, pt p1 0), (2, .func (.func 134) #[] #[]), (7, .int .i64 u13.1)] ∧ Sep w (Blk p1 105 [v2, v15, .int .i64 x6, .string s7, .string s8, .int .i64 x9, v10] :: Row 80 k_api_Node v2 l3 :: Row 83 k_api_Turn v15 l16 :: Row 9 kS v10 l11 :: Fo) rs17 ∧ (∀ r, r ∈ rs → r ∈ rs17) ∧ m_part_work_turn_1b_j1 u13 l16 = some r) ?_ ?_
 ·refine sq<|pr 2 E rfl fun a E=>nt<|wif E hm rfl (fun hm=>?_) fun hm=>?_
  ·refine wp_region_lit<|pr 5 E rfl fun a E=>lb E H 1 rfl rfl rfl rfl rfl rfl rfl Tryz.underlying39 rfl fun a E=>pr 2 E rfl fun a E=>sv E rfl rfl rfl (x_build E rfl (E.evs rfl) (v := .agg #[.string s12, .int .i64 0]) (by kernel_rfl)) fun a E=>st_bsO (e := 83) (d := k_api_Turn) (cs := [.string s12, .int .i64 0]) (xs := [(⟨s12, 0⟩ : S_api_Turn)]) E H (wn rfl) rfl rfl rfl (E.evs rfl) (by kernel_rfl) rfl rfl (fun ok hr => (Rows.single (d := k_api_Turn) (cs := [.string s12, .int .i64 0]) (x := (⟨s12, 0⟩ : S_api_Turn)) k_api_Turn_mk)) fun v45 w a H E=>bk hm fun hx47 hm=>st_call E (wn rfl) rfl rfl (x_call E rfl rfl (cf158 _)) (Tn.insert_c (ix := 1) (iu := 0) H rfl rfl (by decide) hx47) fun v48 w H a E=>pr 3 E rfl fun a E=>?_
   obtain ⟨q49, x50, rfl⟩ := H.rowform (i := 1) rfl
   exact st_st (i := 2) E H (wn rfl) rfl (us := [(.slice q49 (l5.take u13.1.toNat ++ (⟨s12, 0⟩ : S_api_Turn) :: l5.drop u13.1.toNat).length x50)]) rfl rfl rfl rfl rfl sz39 rfl rfl fun w H=>nt<|have H:=H.drop 0;have H:=H.front 3 rfl;have H:=H.front 1 rfl;have H:=H.front 3 rfl;have H:=H.front 3 rfl;⟨(.slice q49 (l5.take u13.1.toNat ++ (⟨s12, 0⟩ : S_api_Turn) :: l5.drop u13.1.toNat).length x50), l5.take u13.1.toNat ++ (⟨s12, 0⟩ : S_api_Turn) :: l5.drop u13.1.toNat, _, E.sel [0, 2, 7] rfl, H, fun r hr => hr, hm⟩
  ·exact wp_skip<|q_then<|have H:=H.front 3 rfl;have H:=H.front 1 rfl;have H:=H.front 3 rfl;have H:=H.front 3 rfl;⟨v4, l5, _, E.sel [0, 2, 7] rfl, H, fun r hr => hr, hm⟩
 ·clear E H hm
  rintro a w ⟨v15, l16, rs17, E, H, hs18, hm⟩
  unfold m_part_work_turn_1b_j1 at hm
  refine sq<|pr 4 E rfl fun a E=>lb E H 0 rfl rfl rfl rfl rfl rfl rfl Tryz.underlying39 rfl fun a E=>pr 1 E rfl fun a E=>bd hm fun x19 hx20 hm=>?_
  obtain ⟨p21, x22, hx23⟩ := H.rowformNE (i := 2) rfl hx20
  refine sv E rfl rfl rfl (x_ixRowV (d := k_api_Turn) E hx23 rfl rfl rfl rfl Tryz.underlying39 sz83 hx20) fun a E=>pr 1 E rfl fun a E=>sv E rfl rfl rfl (x_ldRowV (d := k_api_Turn) (i := 2) (k := 1) E H k_api_Turn_flat hx23 rfl rfl rfl hx20 rfl Tryz.underlying2 rfl) fun a E=>pr 1 E rfl fun a E=>nt<|wp_seq_cut (fun a w => ∃ (v24 : Value) (l25 : (List S_api_Turn)) (rs26 : List Rp), Env 80 a [(9, .int .i64 x19.Next)] ∧ Sep w (Blk p1 105 [v2, v24, .int .i64 x6, .string s7, .string s8, .int .i64 x9, v10] :: Row 80 k_api_Node v2 l3 :: Row 83 k_api_Turn v24 l25 :: Row 9 kS v10 l11 :: Fo) rs26 ∧ (∀ r, r ∈ rs → r ∈ rs26) ∧ m_part_work_turn_1b_j2 x19 l25 = some r) ?_ ?_
  ·refine wp_seq<|dw [(0, 0), (1, 0), (2, 0), (3, 0), (4, 0), (5, 0), (6, 0), (7, 0), (8, 1), (9, 2), (10, 2), (11, 2)] [0] [] H (by kernel_rfl) (fun _ _ _ h => False.elim h.2) fun w W0 hI H=>fn 4 E rfl fun a E=>fb E rfl (wn rfl) rfl rfl rfl rfl m0 rfl Tryz.underlying39 rfl fun a E=>fn 3 E rfl fun a E=>fr_op rfl<|bd hm fun u28 hx29 hm=>st_call E (wn rfl) rfl rfl (x_callv E rfl rfl rfl (cf134 _)) (c_part_work_put_1 x19.Next H hx29)<|?_
   rintro _ w ⟨rfl, H⟩ a E
   refine nt<|?_
   refine ⟨⟨_, _, H, (subO_cons m0 (subO_nil)), (sub_nil)⟩, ?_⟩
   refine fr_tail rfl<|bd hm fun x30 hx31 hm=>?_
   obtain ⟨p32, x33, hx34⟩ := H.rowformNE (i := 2) rfl hx31
   refine sv E rfl rfl rfl (x_ixRowV (d := k_api_Turn) E hx34 rfl rfl rfl rfl Tryz.underlying39 sz83 hx31) fun a E=>nt<|fr_tail rfl<|pr 1 E rfl fun a E=>nt<|fr_tail rfl<|st_stRowV (d := k_api_Turn) (i := 2) (k := 1) (z' := ({ x30 with Next := u28 } : S_api_Turn)) E H k_api_Turn_flat (wn rfl) rfl hx34 rfl rfl rfl rfl rfl rfl hx31 rfl rfl sz2 fun w H=>nt<|fr_nil<|?_
   clear hI
   refine q_then<|sq<|pr 4 E rfl fun a E=>lb E H 0 rfl rfl rfl rfl rfl rfl rfl Tryz.underlying39 rfl fun a E=>pr 1 E rfl fun a E=>bd hm fun x35 hx36 hm=>?_
   obtain ⟨p37, x38, hx39⟩ := H.rowformNE (i := 2) rfl hx36
   refine sv E rfl rfl rfl (x_ixRowV (d := k_api_Turn) E hx39 rfl rfl rfl rfl Tryz.underlying39 sz83 hx36) fun a E=>pr 1 E rfl fun a E=>sv E rfl rfl rfl (x_ldRowV (d := k_api_Turn) (i := 2) (k := 1) E H k_api_Turn_flat hx39 rfl rfl rfl hx36 rfl Tryz.underlying2 rfl) fun a E=>pr 1 E rfl fun a E=>nt<|wif E hm rfl (fun hm=>?_) fun hm=>?_
   ·refine wp_region_lit<|pr 5 E rfl fun a E=>lb E H 0 rfl rfl rfl rfl rfl rfl rfl Tryz.underlying39 rfl fun a E=>pr 3 E rfl fun a E=>bk hm fun hx41 hm=>st_call E (wn rfl) rfl rfl (x_call E rfl rfl (cf159 _)) (Tn.delete_c (ix := 2) H rfl hx41) fun v42 w H a E=>pr 3 E rfl fun a E=>?_
    obtain ⟨q43, x44, rfl⟩ := H.rowform (i := 2) rfl
    exact st_st (i := 0) E H (wn rfl) rfl (us := [(.slice q43 ((l16.set u13.1.toNat ({ x30 with Next := u28 } : S_api_Turn)).eraseIdx u13.1.toNat).length x44)]) rfl rfl rfl rfl rfl sz39 rfl rfl fun w H=>nt<|⟨(.slice q43 ((l16.set u13.1.toNat ({ x30 with Next := u28 } : S_api_Turn)).eraseIdx u13.1.toNat).length x44), (l16.set u13.1.toNat ({ x30 with Next := u28 } : S_api_Turn)).eraseIdx u13.1.toNat, _, E.sel [9] rfl, H, hs18, hm⟩
   ·exact wp_skip<|q_then<|⟨v15, l16.set u13.1.toNat ({ x30 with Next := u28 } : S_api_Turn), _, E.sel [9] rfl, H, hs18, hm⟩
  ·clear E H hm
   rintro a w ⟨v24, l25, rs26, E, H, hs27, hm⟩
   unfold m_part_work_turn_1b_j2 at hm
   refine sq<|pr 2 E rfl fun a E=>nt<|wp_ret<|out1 E rfl rfl<|?_
   cases hm
   exact ⟨v24, rfl, H.reads (hs27)⟩

def m_part_work_put_2 (x1 : Int) : Option Int :=
  some (IntKind.i64.wrap (x1 + 1))
theorem c_part_work_put_2 {w : World} {Fo : List Ob} {rs : List Rp} (x1 : Int) (H : Sep w (Fo) rs) {r : Int} (hm : m_part_work_put_2 x1 = some r) :
    Calls Tryz.prog 136 [.int .i64 x1].toArray w (Ret fun v w' => .int .i64 r = v ∧ Sep w' (Fo) (rs)) := by
 unfold m_part_work_put_2 at hm
 refine enter Tryz.func136 rfl Tryz.ntmps136 rfl fun a E =>?_
 simp only [enum, Nat.reduceAdd] at E
 refine sq<|pr 1 E rfl fun a E=>nx<|pr 3 E rfl fun a E=>nt<|wp_ret<|out1 E rfl rfl<|?_
 cases hm
 exact ⟨rfl, H.reads (fun r hr => hr)⟩

def m_part_work_turn_2_j2 (x19 : S_api_Turn) (l25 : (List S_api_Turn)) : Option (Int × (List S_api_Turn)) :=
  some (x19.Next, l25)
def m_part_work_turn_2_j1 (u13 : Int × Bool) (l16 : (List S_api_Turn)) : Option (Int × (List S_api_Turn)) :=
  (idx l16 u13.1).bind fun x19 => (m_part_work_put_2 x19.Next).bind fun u28 => (idx l16 u13.1).bind fun x30 => (idx (l16.set u13.1.toNat ({ x30 with Next := u28 } : S_api_Turn)) u13.1).bind fun x35 => if (x35.Next == 0) = true then ((ck (0 ≤ u13.1 ∧ u13.1 < (l16.set u13.1.toNat ({ x30 with Next := u28 } : S_api_Turn)).length ∧ IntKind.i64.wrap (u13.1 + 1) = u13.1 + 1)).bind fun u40 => m_part_work_turn_2_j2 x19 ((l16.set u13.1.toNat ({ x30 with Next := u28 } : S_api_Turn)).eraseIdx u13.1.toNat)) else (m_part_work_turn_2_j2 x19 (l16.set u13.1.toNat ({ x30 with Next := u28 } : S_api_Turn)))
def m_part_work_turn_2 (l3 : List S_api_Node) (l5 : List S_api_Turn) (x6 : Int) (s7 : ByteArray) (s8 : ByteArray) (x9 : Int) (l11 : List ByteArray) (s12 : ByteArray) : Option (Int × (List S_api_Turn)) :=
  (m_slices_BinarySearchFunc_api_Turn_api_Turn_string l5 s12).bind fun u13 => if (!u13.2) = true then ((ck (0 ≤ u13.1 ∧ u13.1 ≤ l5.length ∧ 0 < l5.length ∧ l5.length ≤ 1000000)).bind fun u46 => m_part_work_turn_2_j1 u13 (l5.take u13.1.toNat ++ (⟨s12, 0⟩ : S_api_Turn) :: l5.drop u13.1.toNat)) else (m_part_work_turn_2_j1 u13 l5)
theorem c_part_work_turn_2 {w : World} {Fo : List Ob} {rs : List Rp} (p1 : Nat) (v2 : Value) (l3 : List S_api_Node) (v4 : Value) (l5 : List S_api_Turn) (x6 : Int) (s7 : ByteArray) (s8 : ByteArray) (x9 : Int) (v10 : Value) (l11 : List ByteArray) (s12 : ByteArray) (H : Sep w (Blk p1 105 [v2, v4, .int .i64 x6, .string s7, .string s8, .int .i64 x9, v10] :: Row 80 k_api_Node v2 l3 :: Row 83 k_api_Turn v4 l5 :: Row 9 kS v10 l11 :: Fo) rs) {r : Int × (List S_api_Turn)} (hm : m_part_work_turn_2 l3 l5 x6 s7 s8 x9 l11 s12 = some r) :
    Calls Tryz.prog 133 [pt p1 0, .string s12, .func (.func 136) #[] #[]].toArray w (Ret fun v w' => ∃ (v5002 : Value), .int .i64 r.1 = v ∧ Sep w' (Blk p1 105 [v2, v5002, .int .i64 x6, .string s7, .string s8, .int .i64 x9, v10] :: Row 80 k_api_Node v2 l3 :: Row 83 k_api_Turn v5002 r.2 :: Row 9 kS v10 l11 :: Fo) (rs)) := by
 unfold m_part_work_turn_2 at hm
 refine enter Tryz.func133 rfl Tryz.ntmps133 rfl fun a E =>?_
 simp only [enum, Nat.reduceAdd] at E
 refine sq<|pr 1 E rfl fun a E=>nx<|pr 4 E rfl fun a E=>lb E H 0 rfl rfl rfl rfl rfl rfl rfl Tryz.underlying39 rfl fun a E=>pr 1 E rfl fun a E=>have H:=H.front 3 rfl;have H:=H.front 2 rfl;have H:=H.front 2 rfl;?_
 refine have H:=H.front 3 rfl;bd hm fun u13 hx14 hm=>x_cl E rfl rfl rfl rfl rfl cf156 (c_slices_BinarySearchFunc_api_Turn_api_Turn_string v4 l5 s12 H hx14)<|?_
 rintro _ w ⟨rfl, H⟩ a E
 refine pr 5 E rfl fun a E=>nt<|wp_seq_cut (fun a w => ∃ (v15 : Value) (l16 : (List S_api_Turn)) (rs17 : List Rp), Env 80 a [(0, pt p1 0), (2, .func (.func 136) #[] #[]), (7, .int .i64 u13.1)] ∧ Sep w (Blk p1 105 [v2, v15, .int .i64 x6, .string s7, .string s8, .int .i64 x9, v10] :: Row 80 k_api_Node v2 l3 :: Row 83 k_api_Turn v15 l16 :: Row 9 kS v10 l11 :: Fo) rs17 ∧ (∀ r, r ∈ rs → r ∈ rs17) ∧ m_part_work_turn_2_j1 u13 l16 = some r) ?_ ?_
 ·refine sq<|pr 2 E rfl fun a E=>nt<|wif E hm rfl (fun hm=>?_) fun hm=>?_
  ·refine wp_region_lit<|pr 5 E rfl fun a E=>lb E H 1 rfl rfl rfl rfl rfl rfl rfl Tryz.underlying39 rfl fun a E=>pr 2 E rfl fun a E=>sv E rfl rfl rfl (x_build E rfl (E.evs rfl) (v := .agg #[.string s12, .int .i64 0]) (by kernel_rfl)) fun a E=>st_bsO (e := 83) (d := k_api_Turn) (cs := [.string s12, .int .i64 0]) (xs := [(⟨s12, 0⟩ : S_api_Turn)]) E H (wn rfl) rfl rfl rfl (E.evs rfl) (by kernel_rfl) rfl rfl (fun ok hr => (Rows.single (d := k_api_Turn) (cs := [.string s12, .int .i64 0]) (x := (⟨s12, 0⟩ : S_api_Turn)) k_api_Turn_mk)) fun v45 w a H E=>bk hm fun hx47 hm=>st_call E (wn rfl) rfl rfl (x_call E rfl rfl (cf158 _)) (Tn.insert_c (ix := 1) (iu := 0) H rfl rfl (by decide) hx47) fun v48 w H a E=>pr 3 E rfl fun a E=>?_
   obtain ⟨q49, x50, rfl⟩ := H.rowform (i := 1) rfl
   exact st_st (i := 2) E H (wn rfl) rfl (us := [(.slice q49 (l5.take u13.1.toNat ++ (⟨s12, 0⟩ : S_api_Turn) :: l5.drop u13.1.toNat).length x50)]) rfl rfl rfl rfl rfl sz39 rfl rfl fun w H=>nt<|have H:=H.drop 0;have H:=H.front 3 rfl;have H:=H.front 1 rfl;have H:=H.front 3 rfl;have H:=H.front 3 rfl;⟨(.slice q49 (l5.take u13.1.toNat ++ (⟨s12, 0⟩ : S_api_Turn) :: l5.drop u13.1.toNat).length x50), l5.take u13.1.toNat ++ (⟨s12, 0⟩ : S_api_Turn) :: l5.drop u13.1.toNat, _, E.sel [0, 2, 7] rfl, H, fun r hr => hr, hm⟩
  ·exact wp_skip<|q_then<|have H:=H.front 3 rfl;have H:=H.front 1 rfl;have H:=H.front 3 rfl;have H:=H.front 3 rfl;⟨v4, l5, _, E.sel [0, 2, 7] rfl, H, fun r hr => hr, hm⟩
 ·clear E H hm
  rintro a w ⟨v15, l16, rs17, E, H, hs18, hm⟩
  unfold m_part_work_turn_2_j1 at hm
  refine sq<|pr 4 E rfl fun a E=>lb E H 0 rfl rfl rfl rfl rfl rfl rfl Tryz.underlying39 rfl fun a E=>pr 1 E rfl fun a E=>bd hm fun x19 hx20 hm=>?_
  obtain ⟨p21, x22, hx23⟩ := H.rowformNE (i := 2) rfl hx20
  refine sv E rfl rfl rfl (x_ixRowV (d := k_api_Turn) E hx23 rfl rfl rfl rfl Tryz.underlying39 sz83 hx20) fun a E=>pr 1 E rfl fun a E=>sv E rfl rfl rfl (x_ldRowV (d := k_api_Turn) (i := 2) (k := 1) E H k_api_Turn_flat hx23 rfl rfl rfl hx20 rfl Tryz.underlying2 rfl) fun a E=>pr 1 E rfl fun a E=>nt<|wp_seq_cut (fun a w => ∃ (v24 : Value) (l25 : (List S_api_Turn)) (rs26 : List Rp), Env 80 a [(9, .int .i64 x19.Next)] ∧ Sep w (Blk p1 105 [v2, v24, .int .i64 x6, .string s7, .string s8, .int .i64 x9, v10] :: Row 80 k_api_Node v2 l3 :: Row 83 k_api_Turn v24 l25 :: Row 9 kS v10 l11 :: Fo) rs26 ∧ (∀ r, r ∈ rs → r ∈ rs26) ∧ m_part_work_turn_2_j2 x19 l25 = some r) ?_ ?_
  ·refine wp_seq<|dw [(0, 0), (1, 0), (2, 0), (3, 0), (4, 0), (5, 0), (6, 0), (7, 0), (8, 1), (9, 2), (10, 2), (11, 2)] [0] [] H (by kernel_rfl) (fun _ _ _ h => False.elim h.2) fun w W0 hI H=>fn 4 E rfl fun a E=>fb E rfl (wn rfl) rfl rfl rfl rfl m0 rfl Tryz.underlying39 rfl fun a E=>fn 3 E rfl fun a E=>fr_op rfl<|bd hm fun u28 hx29 hm=>st_call E (wn rfl) rfl rfl (x_callv E rfl rfl rfl (cf136 _)) (c_part_work_put_2 x19.Next H hx29)<|?_
   rintro _ w ⟨rfl, H⟩ a E
   refine nt<|?_
   refine ⟨⟨_, _, H, (subO_cons m0 (subO_nil)), (sub_nil)⟩, ?_⟩
   refine fr_tail rfl<|bd hm fun x30 hx31 hm=>?_
   obtain ⟨p32, x33, hx34⟩ := H.rowformNE (i := 2) rfl hx31
   refine sv E rfl rfl rfl (x_ixRowV (d := k_api_Turn) E hx34 rfl rfl rfl rfl Tryz.underlying39 sz83 hx31) fun a E=>nt<|fr_tail rfl<|pr 1 E rfl fun a E=>nt<|fr_tail rfl<|st_stRowV (d := k_api_Turn) (i := 2) (k := 1) (z' := ({ x30 with Next := u28 } : S_api_Turn)) E H k_api_Turn_flat (wn rfl) rfl hx34 rfl rfl rfl rfl rfl rfl hx31 rfl rfl sz2 fun w H=>nt<|fr_nil<|?_
   clear hI
   refine q_then<|sq<|pr 4 E rfl fun a E=>lb E H 0 rfl rfl rfl rfl rfl rfl rfl Tryz.underlying39 rfl fun a E=>pr 1 E rfl fun a E=>bd hm fun x35 hx36 hm=>?_
   obtain ⟨p37, x38, hx39⟩ := H.rowformNE (i := 2) rfl hx36
   refine sv E rfl rfl rfl (x_ixRowV (d := k_api_Turn) E hx39 rfl rfl rfl rfl Tryz.underlying39 sz83 hx36) fun a E=>pr 1 E rfl fun a E=>sv E rfl rfl rfl (x_ldRowV (d := k_api_Turn) (i := 2) (k := 1) E H k_api_Turn_flat hx39 rfl rfl rfl hx36 rfl Tryz.underlying2 rfl) fun a E=>pr 1 E rfl fun a E=>nt<|wif E hm rfl (fun hm=>?_) fun hm=>?_
   ·refine wp_region_lit<|pr 5 E rfl fun a E=>lb E H 0 rfl rfl rfl rfl rfl rfl rfl Tryz.underlying39 rfl fun a E=>pr 3 E rfl fun a E=>bk hm fun hx41 hm=>st_call E (wn rfl) rfl rfl (x_call E rfl rfl (cf159 _)) (Tn.delete_c (ix := 2) H rfl hx41) fun v42 w H a E=>pr 3 E rfl fun a E=>?_
    obtain ⟨q43, x44, rfl⟩ := H.rowform (i := 2) rfl
    exact st_st (i := 0) E H (wn rfl) rfl (us := [(.slice q43 ((l16.set u13.1.toNat ({ x30 with Next := u28 } : S_api_Turn)).eraseIdx u13.1.toNat).length x44)]) rfl rfl rfl rfl rfl sz39 rfl rfl fun w H=>nt<|⟨(.slice q43 ((l16.set u13.1.toNat ({ x30 with Next := u28 } : S_api_Turn)).eraseIdx u13.1.toNat).length x44), (l16.set u13.1.toNat ({ x30 with Next := u28 } : S_api_Turn)).eraseIdx u13.1.toNat, _, E.sel [9] rfl, H, hs18, hm⟩
   ·exact wp_skip<|q_then<|⟨v15, l16.set u13.1.toNat ({ x30 with Next := u28 } : S_api_Turn), _, E.sel [9] rfl, H, hs18, hm⟩
  ·clear E H hm
   rintro a w ⟨v24, l25, rs26, E, H, hs27, hm⟩
   unfold m_part_work_turn_2_j2 at hm
   refine sq<|pr 2 E rfl fun a E=>nt<|wp_ret<|out1 E rfl rfl<|?_
   cases hm
   exact ⟨v24, rfl, H.reads (hs27)⟩

def m_part_work_put_j2 (u23 : Int × Bool) (l3 : List S_api_Node) (s17 : ByteArray) (x12 : S_api_Part) (x6 : Int) (s8 : ByteArray) (x9 : Int) (l11 : List ByteArray) (l28 : (List S_api_Turn)) : Option ((List S_api_Node) × (List S_api_Turn) × Int × ByteArray × ByteArray × Int × (List ByteArray)) :=
  (ck (0 ≤ u23.1 ∧ u23.1 ≤ l3.length ∧ 0 < l3.length ∧ l3.length ≤ 1000000)).bind fun u33 => some (l3.take u23.1.toNat ++ (⟨s17, x12.Data, 0, 0, x12.Owner⟩ : S_api_Node) :: l3.drop u23.1.toNat, l28, x6, s17, s8, x9, l11)
def m_part_work_put_j1 (l3 : List S_api_Node) (x12 : S_api_Part) (x6 : Int) (s8 : ByteArray) (x9 : Int) (l11 : List ByteArray) (s7 : ByteArray) (u15 : ByteArray × Bool) (s17 : ByteArray) (l19 : (List S_api_Turn)) : Option ((List S_api_Node) × (List S_api_Turn) × Int × ByteArray × ByteArray × Int × (List ByteArray)) :=
  (m_part_work_where l3 l19 x6 s7 s8 x9 l11 s17).bind fun u23 => if u23.2 = true then ((m_part_work_fail l3 l19 x6 s7 s8 x9 l11 61).bind fun u25 => some (l3, l19, u25, (ByteArray.mk #[]), (ByteArray.mk #[]), 0, [])) else (if x12.Turns = true then ((m_part_work_turn_2 l3 l19 x6 s7 s8 x9 l11 u15.1).bind fun u38 => m_part_work_put_j2 u23 l3 s17 x12 x6 s8 x9 l11 u38.2) else (m_part_work_put_j2 u23 l3 s17 x12 x6 s8 x9 l11 l19))
def m_part_work_put (l3 : List S_api_Node) (l5 : List S_api_Turn) (x6 : Int) (s7 : ByteArray) (s8 : ByteArray) (x9 : Int) (l11 : List ByteArray) (x12 : S_api_Part) : Option ((List S_api_Node) × (List S_api_Turn) × Int × ByteArray × ByteArray × Int × (List ByteArray)) :=
  (m_path_Parent x12.Path).bind fun u15 => if x12.Turns = true then ((m_part_work_turn_1b l3 l5 x6 s7 s8 x9 l11 u15.1).bind fun u41 => (m_path_Last x12.Path).bind fun u44 => (m_path_Numbered u44 u41.1).bind fun u46 => (m_path_Join u15.1 u46.1).bind fun u48 => if (!u46.2) = true then ((m_part_work_fail l3 u41.2 x6 s7 s8 x9 l11 66).bind fun u50 => some (l3, u41.2, u50, (ByteArray.mk #[]), (ByteArray.mk #[]), 0, [])) else (m_part_work_put_j1 l3 x12 x6 s8 x9 l11 s7 u15 u48.1 u41.2)) else (m_part_work_put_j1 l3 x12 x6 s8 x9 l11 s7 u15 x12.Path l5)
theorem c_part_work_put {w : World} {Fo : List Ob} {rs : List Rp} (p1 : Nat) (v2 : Value) (l3 : List S_api_Node) (v4 : Value) (l5 : List S_api_Turn) (x6 : Int) (s7 : ByteArray) (s8 : ByteArray) (x9 : Int) (v10 : Value) (l11 : List ByteArray) (x12 : S_api_Part) (H : Sep w (Blk p1 105 [v2, v4, .int .i64 x6, .string s7, .string s8, .int .i64 x9, v10] :: Row 80 k_api_Node v2 l3 :: Row 83 k_api_Turn v4 l5 :: Row 9 kS v10 l11 :: Fo) rs) (hr13 : rTab Tryz.prog ∈ rs) {r : (List S_api_Node) × (List S_api_Turn) × Int × ByteArray × ByteArray × Int × (List ByteArray)} (hm : m_part_work_put l3 l5 x6 s7 s8 x9 l11 x12 = some r) :
    Calls Tryz.prog 79 [pt p1 0, .agg (l_api_Part x12).toArray].toArray w (Ret fun v w' => ∃ (v5001 : Value) (v5003 : Value) (v5009 : Value), .tuple #[] = v ∧ Sep w' (Blk p1 105 [v5001, v5003, .int .i64 r.2.2.1, .string r.2.2.2.1, .string r.2.2.2.2.1, .int .i64 r.2.2.2.2.2.1, v5009] :: Row 80 k_api_Node v5001 r.1 :: Row 83 k_api_Turn v5003 r.2.1 :: Row 9 kS v5009 r.2.2.2.2.2.2 :: Fo) (rs)) := by
 unfold m_part_work_put at hm
 refine enter Tryz.func79 rfl Tryz.ntmps79 rfl fun a E =>?_
 simp only [enum, Nat.reduceAdd] at E
 refine sq<|st_box E H (wn rfl) rfl rfl (cs := (l_api_Part x12)) rfl rfl rfl fun p14 w a H E=>nx<|pr 1 E rfl fun a E=>lb E H 0 rfl rfl rfl rfl rfl rfl rfl Tryz.underlying9 rfl fun a E=>pr 1 E rfl fun a E=>nx<|pr 1 E rfl fun a E=>lb E H 0 rfl rfl rfl rfl rfl rfl rfl Tryz.underlying9 rfl fun a E=>?_
 refine bd hm fun u15 hx16 hm=>x_cl E rfl rfl rfl rfl rfl cf111 (c_path_Parent x12.Path H hx16)<|?_
 rintro _ w ⟨rfl, H⟩ a E
 refine pr 5 E rfl fun a E=>nt<|wp_seq_cut (fun a w => ∃ (v18 : Value) (s17 : ByteArray) (l19 : (List S_api_Turn)) (rs20 : List Rp), Env 80 a [(0, pt p1 0), (3, pt p14 0), (4, .string s17), (5, .string u15.1)] ∧ Sep w (Blk p1 105 [v2, v18, .int .i64 x6, .string s7, .string s8, .int .i64 x9, v10] :: Blk p14 62 (l_api_Part x12) :: Row 80 k_api_Node v2 l3 :: Row 83 k_api_Turn v18 l19 :: Row 9 kS v10 l11 :: Fo) rs20 ∧ (∀ r, r ∈ rs → r ∈ rs20) ∧ rTab Tryz.prog ∈ rs20 ∧ m_part_work_put_j1 l3 x12 x6 s8 x9 l11 s7 u15 s17 l19 = some r) ?_ ?_
 ·refine sq<|pr 1 E rfl fun a E=>lb E H 0 rfl rfl rfl rfl rfl rfl rfl Tryz.underlying4 rfl fun a E=>nt<|wif E hm rfl (fun hm=>?_) fun hm=>?_
  ·refine sq<|pr 2 E rfl fun a E=>have H:=H.front 0 rfl;have H:=H.front 4 rfl;have H:=H.front 4 rfl;have H:=H.front 4 rfl;have H:=H.front 4 rfl;bd hm fun u41 hx42 hm=>x_cl E rfl rfl rfl rfl rfl cf133 (c_part_work_turn_1b p1 v2 l3 v4 l5 x6 s7 s8 x9 v10 l11 u15.1 H hx42)<|?_
   rintro _ w ⟨v43, rfl, H⟩ a E
   refine pr 1 E rfl fun a E=>nx<|pr 1 E rfl fun a E=>lb E H 4 rfl rfl rfl rfl rfl rfl rfl Tryz.underlying9 rfl fun a E=>bd hm fun u44 hx45 hm=>x_cl E rfl rfl rfl rfl rfl cf119 (c_path_Last x12.Path H hx45)<|?_
   rintro _ w ⟨rfl, H⟩ a E
   refine pr 1 E rfl fun a E=>bd hm fun u46 hx47 hm=>x_cl E rfl rfl rfl rfl rfl cf118 (c_path_Numbered u44 u41.1 H hr13 hx47)<|?_
   rintro _ w ⟨rfl, H⟩ a E
   refine pr 5 E rfl fun a E=>nx<|pr 2 E rfl fun a E=>bd hm fun u48 hx49 hm=>x_cl E rfl rfl rfl rfl rfl cf120 (c_path_Join u15.1 u46.1 H hx49)<|?_
   rintro _ w ⟨rfl, H⟩ a E
   refine pr 4 E rfl fun a E=>nx<|pr 2 E rfl fun a E=>nt<|wif E hm rfl (fun hm=>?_) fun hm=>?_
   ·refine sq<|pr 1 E rfl fun a E=>bd hm fun u50 hx51 hm=>x_cl E rfl rfl rfl rfl rfl cf132 (c_part_work_fail p1 v2 l3 v43 u41.2 x6 s7 s8 x9 v10 l11 66 H hx51)<|?_
    rintro _ w ⟨rfl, H⟩ a E
    refine nt<|wp_ret<|q_thenR<|out0r E rfl<|have H:=H.nilRow 9 kS;have H:=H.drop 4;have H:=H.front 0 rfl;have H:=H.front 3 rfl;have H:=H.front 3 rfl;?_
    refine have H:=H.front 3 rfl;?_
    cases hm
    exact ⟨v2, v43, (.slice none 0 0), rfl, H.reads (fun r hr => hr)⟩
   ·exact wp_skip<|q_then<|have H:=H.front 3 rfl;have H:=H.front 3 rfl;have H:=H.front 3 rfl;have H:=H.front 4 rfl;have H:=H.front 4 rfl;⟨v43, u48.1, u41.2, _, E.sel [0, 3, 4, 5] rfl, H, fun r hr => hr, hr13, hm⟩
  ·exact wp_skip<|q_then<|have H:=H.front 4 rfl;have H:=H.front 4 rfl;have H:=H.front 4 rfl;have H:=H.front 3 rfl;have H:=H.front 4 rfl;⟨v4, x12.Path, l5, _, E.sel [0, 3, 4, 5] rfl, H, fun r hr => hr, hr13, hm⟩
 ·clear E H hm
  rintro a w ⟨v18, s17, l19, rs20, E, H, hs21, hr22, hm⟩
  unfold m_part_work_put_j1 at hm
  refine sq<|pr 2 E rfl fun a E=>have H:=H.front 1 rfl;have H:=H.front 4 rfl;have H:=H.front 4 rfl;have H:=H.front 4 rfl;have H:=H.front 4 rfl;bd hm fun u23 hx24 hm=>x_cl E rfl rfl rfl rfl rfl cf135 (c_part_work_where p1 v2 l3 v18 l19 x6 s7 s8 x9 v10 l11 s17 H hx24)<|?_
  rintro _ w ⟨rfl, H⟩ a E
  refine pr 5 E rfl fun a E=>nt<|wp_seq<|sq<|pr 1 E rfl fun a E=>nt<|wif E hm rfl (fun hm=>?_) fun hm=>?_
  ·refine sq<|pr 1 E rfl fun a E=>bd hm fun u25 hx26 hm=>x_cl E rfl rfl rfl rfl rfl cf132 (c_part_work_fail p1 v2 l3 v18 l19 x6 s7 s8 x9 v10 l11 61 H hx26)<|?_
   rintro _ w ⟨rfl, H⟩ a E
   refine nt<|wp_ret<|q_thenR<|out0r E rfl<|have H:=H.nilRow 9 kS;have H:=H.drop 4;have H:=H.front 0 rfl;have H:=H.front 3 rfl;have H:=H.front 3 rfl;?_
   refine have H:=H.front 3 rfl;?_
   cases hm
   exact ⟨v2, v18, (.slice none 0 0), rfl, H.reads (hs21)⟩
  ·refine wp_skip<|q_then<|wp_seq_cut (fun a w => ∃ (v27 : Value) (l28 : (List S_api_Turn)) (rs29 : List Rp), Env 80 a [(0, pt p1 0), (3, pt p14 0), (4, .string s17), (10, .int .i64 u23.1)] ∧ Sep w (Blk p1 105 [v2, v27, .int .i64 x6, .string s7, .string s8, .int .i64 x9, v10] :: Blk p14 62 (l_api_Part x12) :: Row 80 k_api_Node v2 l3 :: Row 83 k_api_Turn v27 l28 :: Row 9 kS v10 l11 :: Fo) rs29 ∧ (∀ r, r ∈ rs → r ∈ rs29) ∧ rTab Tryz.prog ∈ rs29 ∧ m_part_work_put_j2 u23 l3 s17 x12 x6 s8 x9 l11 l28 = some r) ?_ ?_
   ·refine sq<|pr 1 E rfl fun a E=>lb E H 4 rfl rfl rfl rfl rfl rfl rfl Tryz.underlying4 rfl fun a E=>nt<|wif E hm rfl (fun hm=>?_) fun hm=>?_
    ·refine wp_region_lit<|pr 2 E rfl fun a E=>bd hm fun u38 hx39 hm=>x_cl E rfl rfl rfl rfl rfl cf133 (c_part_work_turn_2 p1 v2 l3 v18 l19 x6 s7 s8 x9 v10 l11 u15.1 H hx39)<|?_
     rintro _ w ⟨v40, rfl, H⟩ a E
     exact nt<|have H:=H.front 3 rfl;have H:=H.front 3 rfl;have H:=H.front 3 rfl;have H:=H.front 4 rfl;have H:=H.front 4 rfl;⟨v40, u38.2, _, E.sel [0, 3, 4, 10] rfl, H, hs21, hr22, hm⟩
    ·exact wp_skip<|q_then<|have H:=H.front 3 rfl;have H:=H.front 3 rfl;have H:=H.front 3 rfl;have H:=H.front 4 rfl;have H:=H.front 4 rfl;⟨v18, l19, _, E.sel [0, 3, 4, 10] rfl, H, hs21, hr22, hm⟩
   ·clear E H hm
    rintro a w ⟨v27, l28, rs29, E, H, hs30, hr31, hm⟩
    unfold m_part_work_put_j2 at hm
    refine wp_seq<|dw [(0, 0), (1, 0), (2, 0), (3, 0), (4, 0), (5, 0), (6, 0), (7, 0), (8, 0), (9, 0), (10, 0), (11, 0), (12, 0), (13, 1), (14, 1), (15, 2), (16, 2), (17, 2), (18, 2)] [0, 1] [] H (by kernel_rfl) (fun _ _ _ h => False.elim h.2) fun w W0 hI H=>fn 5 E rfl fun a E=>fb E rfl (wn rfl) rfl rfl rfl rfl m0 rfl Tryz.underlying22 rfl fun a E=>fn 3 E rfl fun a E=>fb E rfl (wn rfl) rfl rfl rfl rfl mm1 rfl Tryz.underlying9 rfl fun a E=>fn 1 E rfl fun a E=>fb E rfl (wn rfl) rfl rfl rfl rfl mm1 rfl Tryz.underlying2 rfl fun a E=>fr_val E rfl (wn rfl) rfl rfl (fun w hW=>(x_build E rfl (E.evs rfl) (v := .agg #[.string s17, .string x12.Data, .int .i64 0, .int .i64 0, .int .i64 x12.Owner]) (by kernel_rfl))) fun a E=>?_
    refine fr_op rfl<|st_bsO (e := 80) (d := k_api_Node) (cs := [.string s17, .string x12.Data, .int .i64 0, .int .i64 0, .int .i64 x12.Owner]) (xs := [(⟨s17, x12.Data, 0, 0, x12.Owner⟩ : S_api_Node)]) E H (wn rfl) rfl rfl rfl (E.evs rfl) (by kernel_rfl) rfl rfl (fun ok hr => (Rows.single (d := k_api_Node) (cs := [.string s17, .string x12.Data, .int .i64 0, .int .i64 0, .int .i64 x12.Owner]) (x := (⟨s17, x12.Data, 0, 0, x12.Owner⟩ : S_api_Node)) k_api_Node_mk)) fun v32 w a H E=>nt<|?_
    refine ⟨⟨_, _, H, (subO_cons mm1 (subO_cons mm2 (subO_nil))), (sub_nil)⟩, ?_⟩
    refine fr_op rfl<|bk hm fun hx34 hm=>st_call E (wn rfl) rfl rfl (x_call E rfl rfl (cf121 _)) (insert_c (ix := 3) (iu := 0) H rfl rfl (by decide) hx34) fun v35 w H a E=>nt<|?_
    refine ⟨⟨_, _, H, (subO_cons mm1 (subO_cons mm2 (subO_nil))), (sub_nil)⟩, ?_⟩
    refine fr_tail rfl<|pr 1 E rfl fun a E=>nt<|fr_tail rfl<|pr 1 E rfl fun a E=>nt<|fr_tail rfl<|pr 1 E rfl fun a E=>nt<|?_
    refine fr_tail rfl<|?_
    obtain ⟨q36, x37, rfl⟩ := H.rowform (i := 3) rfl
    refine st_st (i := 1) E H (wn rfl) rfl (us := [(.slice q36 (l3.take u23.1.toNat ++ (⟨s17, x12.Data, 0, 0, x12.Owner⟩ : S_api_Node) :: l3.drop u23.1.toNat).length x37)]) rfl rfl rfl rfl rfl sz22 rfl rfl fun w H=>nt<|fr_nil<|?_
    clear hI
    refine q_then<|wp_region_lit<|pr 5 E rfl fun a E=>st_st (i := 1) E H (wn rfl) rfl (us := [.string s17]) rfl rfl rfl rfl rfl sz9 rfl rfl fun w H=>wpList_nil<|out0 E rfl<|have H:=H.drop 0;have H:=H.drop 1;?_
    cases hm
    exact ⟨(.slice q36 (l3.take u23.1.toNat ++ (⟨s17, x12.Data, 0, 0, x12.Owner⟩ : S_api_Node) :: l3.drop u23.1.toNat).length x37), v27, v10, rfl, H.reads (hs30)⟩

def m_part_work_read (l3 : List S_api_Node) (l5 : List S_api_Turn) (x6 : Int) (s7 : ByteArray) (s8 : ByteArray) (x9 : Int) (l11 : List ByteArray) (x12 : S_api_Part) : Option (Int × ByteArray × ByteArray × Int × (List ByteArray)) :=
  (m_part_work_node l3 l5 x6 s7 s8 x9 l11 x12).bind fun u14 => if (decide (0 ≤ u14.1)) = true then ((idx l3 u14.1).bind fun x17 => some (u14.2.1, u14.2.2.1, x17.Data, x17.Version, u14.2.2.2.2.2)) else (some (u14.2.1, u14.2.2.1, u14.2.2.2.1, u14.2.2.2.2.1, u14.2.2.2.2.2))
theorem c_part_work_read {w : World} {Fo : List Ob} {rs : List Rp} (p1 : Nat) (v2 : Value) (l3 : List S_api_Node) (v4 : Value) (l5 : List S_api_Turn) (x6 : Int) (s7 : ByteArray) (s8 : ByteArray) (x9 : Int) (v10 : Value) (l11 : List ByteArray) (x12 : S_api_Part) (H : Sep w (Blk p1 105 [v2, v4, .int .i64 x6, .string s7, .string s8, .int .i64 x9, v10] :: Row 80 k_api_Node v2 l3 :: Row 83 k_api_Turn v4 l5 :: Row 9 kS v10 l11 :: Fo) rs) {r : Int × ByteArray × ByteArray × Int × (List ByteArray)} (hm : m_part_work_read l3 l5 x6 s7 s8 x9 l11 x12 = some r) :
    Calls Tryz.prog 84 [pt p1 0, .agg (l_api_Part x12).toArray].toArray w (Ret fun v w' => ∃ (v5005 : Value), .tuple #[] = v ∧ Sep w' (Blk p1 105 [v2, v4, .int .i64 r.1, .string r.2.1, .string r.2.2.1, .int .i64 r.2.2.2.1, v5005] :: Row 80 k_api_Node v2 l3 :: Row 83 k_api_Turn v4 l5 :: Row 9 kS v5005 r.2.2.2.2 :: Fo) (rs)) := by
 unfold m_part_work_read at hm
 refine enter Tryz.func84 rfl Tryz.ntmps84 rfl fun a E =>?_
 simp only [enum, Nat.reduceAdd] at E
 refine sq<|st_box E H (wn rfl) rfl rfl (cs := (l_api_Part x12)) rfl rfl rfl fun p13 w a H E=>nx<|pr 1 E rfl fun a E=>sv E rfl rfl rfl (x_ldBN (i := 0) (us := (l_api_Part x12)) E H rfl rfl rfl rfl Tryz.underlying62 rfl sz62) fun a E=>have H:=H.front 0 rfl;have H:=H.front 4 rfl;have H:=H.front 4 rfl;have H:=H.front 4 rfl;?_
 refine have H:=H.front 4 rfl;bd hm fun u14 hx15 hm=>x_cl E rfl rfl rfl rfl rfl cf131 (c_part_work_node p1 v2 l3 v4 l5 x6 s7 s8 x9 v10 l11 x12 H hx15)<|?_
 rintro _ w ⟨v16, rfl, H⟩ a E
 refine pr 1 E rfl fun a E=>nx<|pr 1 E rfl fun a E=>sv E rfl rfl rfl (x_orpN E oq138 oz138 rfl rfl rfl) fun a E=>nt<|wif E hm rfl (fun hm=>?_) fun hm=>?_
 ·refine dw [(0, 0), (1, 0), (2, 0), (3, 0), (4, 0), (5, 0), (6, 0), (7, 0), (8, 0), (9, 0), (10, 0), (11, 0), (12, 0), (13, 1), (14, 2), (15, 2), (16, 2), (17, 2)] [1] [] H (by kernel_rfl) (fun _ _ _ h => False.elim h.2) fun w W0 hI H=>fn 3 E rfl fun a E=>bd hm fun x17 hx18 hm=>?_
  obtain ⟨p19, x20, hx21⟩ := H.rowformNE (i := 1) rfl hx18
  rw [orp_rp 5 hx21 hx18] at E
  refine fn 2 E rfl fun a E=>fr_val E rfl (wn rfl) rfl rfl (fun w hW=>x_ldRowI (d := k_api_Node) (k := 1) E k_api_Node_flat hx21 hx18 m0 rfl rfl rfl Tryz.underlying9 rfl hW) fun a E=>?_
  refine fn 3 E rfl fun a E=>fr_val E rfl (wn rfl) rfl rfl (fun w hW=>x_ldRowI (d := k_api_Node) (k := 2) E k_api_Node_flat hx21 hx18 m0 rfl rfl rfl Tryz.underlying2 rfl hW) fun a E=>?_
  refine fn 3 E rfl fun a E=>fr_op rfl<|st_st (i := 0) E H (wn rfl) rfl (us := [.string x17.Data]) rfl rfl rfl rfl rfl sz9 rfl rfl fun w H=>nt<|?_
  refine ⟨⟨_, _, H, (subO_cons mm1 (subO_nil)), (sub_nil)⟩, ?_⟩
  refine fr_tail rfl<|pr 1 E rfl fun a E=>nt<|fr_tail rfl<|pr 1 E rfl fun a E=>nt<|fr_tail rfl<|pr 1 E rfl fun a E=>nt<|?_
  refine fr_tail rfl<|st_st (i := 0) E H (wn rfl) rfl (us := [.int .i64 x17.Version]) rfl rfl rfl rfl rfl sz2 rfl rfl fun w H=>nt<|fr_nil<|?_
  clear hI
  refine out0 E rfl<|have H:=H.drop 4;?_
  cases hm
  exact ⟨v16, rfl, H.reads (fun r hr => hr)⟩
 ·refine wp_skip<|out0 E rfl<|have H:=H.drop 4;?_
  cases hm
  exact ⟨v16, rfl, H.reads (fun r hr => hr)⟩

def m_part_work_remove (l3 : List S_api_Node) (l5 : List S_api_Turn) (x6 : Int) (s7 : ByteArray) (s8 : ByteArray) (x9 : Int) (l11 : List ByteArray) (x12 : S_api_Part) : Option ((List S_api_Node) × Int × ByteArray × ByteArray × Int × (List ByteArray)) :=
  (m_part_work_node l3 l5 x6 s7 s8 x9 l11 x12).bind fun u14 => if (decide (0 ≤ u14.1)) = true then ((m_part_work_where l3 l5 u14.2.1 u14.2.2.1 u14.2.2.2.1 u14.2.2.2.2.1 u14.2.2.2.2.2 x12.Path).bind fun u17 => (ck (0 ≤ u17.1 ∧ u17.1 < l3.length ∧ IntKind.i64.wrap (u17.1 + 1) = u17.1 + 1)).bind fun u19 => some (l3.eraseIdx u17.1.toNat, u14.2.1, u14.2.2.1, u14.2.2.2.1, u14.2.2.2.2.1, u14.2.2.2.2.2)) else (some (l3, u14.2.1, u14.2.2.1, u14.2.2.2.1, u14.2.2.2.2.1, u14.2.2.2.2.2))
theorem c_part_work_remove {w : World} {Fo : List Ob} {rs : List Rp} (p1 : Nat) (v2 : Value) (l3 : List S_api_Node) (v4 : Value) (l5 : List S_api_Turn) (x6 : Int) (s7 : ByteArray) (s8 : ByteArray) (x9 : Int) (v10 : Value) (l11 : List ByteArray) (x12 : S_api_Part) (H : Sep w (Blk p1 105 [v2, v4, .int .i64 x6, .string s7, .string s8, .int .i64 x9, v10] :: Row 80 k_api_Node v2 l3 :: Row 83 k_api_Turn v4 l5 :: Row 9 kS v10 l11 :: Fo) rs) {r : (List S_api_Node) × Int × ByteArray × ByteArray × Int × (List ByteArray)} (hm : m_part_work_remove l3 l5 x6 s7 s8 x9 l11 x12 = some r) :
    Calls Tryz.prog 80 [pt p1 0, .agg (l_api_Part x12).toArray].toArray w (Ret fun v w' => ∃ (v5001 : Value) (v5007 : Value), .tuple #[] = v ∧ Sep w' (Blk p1 105 [v5001, v4, .int .i64 r.2.1, .string r.2.2.1, .string r.2.2.2.1, .int .i64 r.2.2.2.2.1, v5007] :: Row 80 k_api_Node v5001 r.1 :: Row 83 k_api_Turn v4 l5 :: Row 9 kS v5007 r.2.2.2.2.2 :: Fo) (rs)) := by
 unfold m_part_work_remove at hm
 refine enter Tryz.func80 rfl Tryz.ntmps80 rfl fun a E =>?_
 simp only [enum, Nat.reduceAdd] at E
 refine sq<|st_box E H (wn rfl) rfl rfl (cs := (l_api_Part x12)) rfl rfl rfl fun p13 w a H E=>nx<|pr 1 E rfl fun a E=>sv E rfl rfl rfl (x_ldBN (i := 0) (us := (l_api_Part x12)) E H rfl rfl rfl rfl Tryz.underlying62 rfl sz62) fun a E=>have H:=H.front 0 rfl;have H:=H.front 4 rfl;have H:=H.front 4 rfl;have H:=H.front 4 rfl;?_
 refine have H:=H.front 4 rfl;bd hm fun u14 hx15 hm=>x_cl E rfl rfl rfl rfl rfl cf131 (c_part_work_node p1 v2 l3 v4 l5 x6 s7 s8 x9 v10 l11 x12 H hx15)<|?_
 rintro _ w ⟨v16, rfl, H⟩ a E
 refine sv E rfl rfl rfl (x_orpN E oq138 oz138 rfl rfl rfl) fun a E=>nt<|wif E hm rfl (fun hm=>?_) fun hm=>?_
 ·refine sq<|pr 2 E rfl fun a E=>lb E H 4 rfl rfl rfl rfl rfl rfl rfl Tryz.underlying9 rfl fun a E=>bd hm fun u17 hx18 hm=>x_cl E rfl rfl rfl rfl rfl cf135 (c_part_work_where p1 v2 l3 v4 l5 u14.2.1 u14.2.2.1 u14.2.2.2.1 u14.2.2.2.2.1 v16 u14.2.2.2.2.2 x12.Path H hx18)<|?_
  rintro _ w ⟨rfl, H⟩ a E
  refine pr 5 E rfl fun a E=>nt<|wp_region_lit<|pr 5 E rfl fun a E=>lb E H 0 rfl rfl rfl rfl rfl rfl rfl Tryz.underlying22 rfl fun a E=>pr 3 E rfl fun a E=>bk hm fun hx20 hm=>st_call E (wn rfl) rfl rfl (x_call E rfl rfl (cf126 _)) (delete_c (ix := 1) H rfl hx20) fun v21 w H a E=>pr 3 E rfl fun a E=>?_
  obtain ⟨q22, x23, rfl⟩ := H.rowform (i := 1) rfl
  refine st_st (i := 0) E H (wn rfl) rfl (us := [(.slice q22 (l3.eraseIdx u17.1.toNat).length x23)]) rfl rfl rfl rfl rfl sz22 rfl rfl fun w H=>wpList_nil<|out0 E rfl<|have H:=H.drop 4;?_
  cases hm
  exact ⟨(.slice q22 (l3.eraseIdx u17.1.toNat).length x23), v16, rfl, H.reads (fun r hr => hr)⟩
 ·refine wp_skip<|out0 E rfl<|have H:=H.drop 4;?_
  cases hm
  exact ⟨v2, v16, rfl, H.reads (fun r hr => hr)⟩

def m_part_Do_j2 (x1 : S_api_Store) (l35 : (List S_api_Node)) (l37 : (List S_api_Turn)) (x38 : Int) (s39 : ByteArray) (s40 : ByteArray) (x41 : Int) (l43 : (List ByteArray)) : Option (S_api_Store × S_api_Result) :=
  if (x38 != 0) = true then (some (x1, (⟨x38, s39, s40, x41, l43⟩ : S_api_Result))) else (some ((⟨l35, l37⟩ : S_api_Store), (⟨x38, s39, s40, x41, l43⟩ : S_api_Result)))
def m_part_Do_j1 (x1 : S_api_Store) (x4 : S_api_Part) (b17 : Bool) : Option (S_api_Store × S_api_Result) :=
  if b17 = true then (some ((⟨[], []⟩ : S_api_Store), (⟨1, (ByteArray.mk #[]), (ByteArray.mk #[]), 0, []⟩ : S_api_Result))) else ((ck (x1.Nodes.length ≤ LIM)).bind fun u24 => (ck (x1.Turns.length ≤ LIM)).bind fun u27 => if (x4.Kind == 1) = true then ((m_part_work_guard x1.Nodes x1.Turns 0 (ByteArray.mk #[]) (ByteArray.mk #[]) 0 [] x4).bind fun u99 => m_part_Do_j2 x1 x1.Nodes x1.Turns u99.1 u99.2.1 u99.2.2.1 u99.2.2.2.1 u99.2.2.2.2) else (if (x4.Kind == 2) = true then ((m_part_work_put x1.Nodes x1.Turns 0 (ByteArray.mk #[]) (ByteArray.mk #[]) 0 [] x4).bind fun u93 => m_part_Do_j2 x1 u93.1 u93.2.1 u93.2.2.1 u93.2.2.2.1 u93.2.2.2.2.1 u93.2.2.2.2.2.1 u93.2.2.2.2.2.2) else (if (x4.Kind == 3) = true then ((m_part_work_remove x1.Nodes x1.Turns 0 (ByteArray.mk #[]) (ByteArray.mk #[]) 0 [] x4).bind fun u88 => m_part_Do_j2 x1 u88.1 x1.Turns u88.2.1 u88.2.2.1 u88.2.2.2.1 u88.2.2.2.2.1 u88.2.2.2.2.2) else (if (x4.Kind == 4) = true then ((m_part_work_empty x1.Nodes x1.Turns 0 (ByteArray.mk #[]) (ByteArray.mk #[]) 0 [] x4).bind fun u83 => m_part_Do_j2 x1 x1.Nodes u83.1 u83.2.1 u83.2.2.1 u83.2.2.2.1 u83.2.2.2.2.1 u83.2.2.2.2.2) else (if (x4.Kind == 5) = true then ((m_part_work_alter x1.Nodes x1.Turns 0 (ByteArray.mk #[]) (ByteArray.mk #[]) 0 [] x4).bind fun u79 => m_part_Do_j2 x1 u79.1 x1.Turns u79.2.1 u79.2.2.1 u79.2.2.2.1 u79.2.2.2.2.1 u79.2.2.2.2.2) else (if (x4.Kind == 6) = true then ((m_part_work_look x1.Nodes x1.Turns 0 (ByteArray.mk #[]) (ByteArray.mk #[]) 0 [] x4).bind fun u75 => m_part_Do_j2 x1 x1.Nodes x1.Turns u75.1 u75.2.1 u75.2.2.1 u75.2.2.2.1 u75.2.2.2.2) else (if (x4.Kind == 7) = true then ((m_part_work_read x1.Nodes x1.Turns 0 (ByteArray.mk #[]) (ByteArray.mk #[]) 0 [] x4).bind fun u71 => m_part_Do_j2 x1 x1.Nodes x1.Turns u71.1 u71.2.1 u71.2.2.1 u71.2.2.2.1 u71.2.2.2.2) else (if (x4.Kind == 8) = true then ((m_part_work_has x1.Nodes x1.Turns 0 (ByteArray.mk #[]) (ByteArray.mk #[]) 0 [] x4).bind fun u67 => m_part_Do_j2 x1 x1.Nodes x1.Turns u67.1 u67.2.1 u67.2.2.1 u67.2.2.2.1 u67.2.2.2.2) else (if (x4.Kind == 9) = true then ((m_part_work_names x1.Nodes x1.Turns 0 (ByteArray.mk #[]) (ByteArray.mk #[]) 0 [] x4).bind fun u63 => m_part_Do_j2 x1 x1.Nodes x1.Turns 0 (ByteArray.mk #[]) (ByteArray.mk #[]) 0 u63) else (if (x4.Kind == 10) = true then ((m_part_work_clear x1.Nodes x1.Turns 0 (ByteArray.mk #[]) (ByteArray.mk #[]) 0 [] x4).bind fun u58 => m_part_Do_j2 x1 u58.1 x1.Turns 0 (ByteArray.mk #[]) (ByteArray.mk #[]) 0 u58.2) else none))))))))))
def m_part_Do (x1 : S_api_Store) (x4 : S_api_Part) : Option (S_api_Store × S_api_Result) :=
  (m_part_Right x1).bind fun u102 => if (!u102) = true then (m_part_Do_j1 x1 x4 true) else ((m_part_May x4).bind fun u105 => m_part_Do_j1 x1 x4 (!u105))
theorem c_part_Do {w : World} {Fo : List Ob} {rs : List Rp} (x1 : S_api_Store) (v2 : Value) (v3 : Value) (x4 : S_api_Part) (H : Sep w (Fo) rs) (hr5 : rSl k_api_Node v2 x1.Nodes ∈ rs) (hr6 : rSl k_api_Turn v3 x1.Turns ∈ rs) (hr7 : rTab Tryz.prog ∈ rs) {r : S_api_Store × S_api_Result} (hm : m_part_Do x1 x4 = some r) :
    Calls Tryz.prog 42 [.agg #[v2, v3], .agg (l_api_Part x4).toArray].toArray w (Ret fun v w' => ∃ (v5002 : Value) (v5003 : Value) (v5005 : Value), .tuple #[.agg #[v5002, v5003], .agg (l_api_Result r.2 v5005).toArray] = v ∧ Sep w' (Fo) (rSl k_api_Node v5002 r.1.Nodes :: rSl k_api_Turn v5003 r.1.Turns :: rSl kS v5005 r.2.Names :: rs)) := by
 unfold m_part_Do at hm
 refine enter Tryz.func42 rfl Tryz.ntmps42 rfl fun a E =>?_
 simp only [enum, Nat.reduceAdd] at E
 refine sq<|?_
 obtain ⟨q9, x10, rfl⟩ := H.slform hr5
 obtain ⟨q11, x12, rfl⟩ := H.slform hr6
 refine st_box E H (wn rfl) rfl rfl (cs := [(.slice q9 x1.Nodes.length x10), (.slice q11 x1.Turns.length x12)]) rfl rfl rfl fun p8 w a H E=>st_box E H (wn rfl) rfl rfl (cs := (l_api_Part x4)) rfl rfl rfl fun p13 w a H E=>al E H rfl rfl rfl rfl zr41 fun p14 w a H E=>al E H rfl rfl rfl rfl zr51 fun p15 w a H E=>nx<|sv E rfl rfl rfl (x_build E rfl (E.evs rfl) (v := .agg #[.nilFunc, .func (.func 78) #[] #[], .func (.func 79) #[] #[], .func (.func 80) #[] #[], .func (.func 81) #[] #[], .func (.func 82) #[] #[], .func (.func 83) #[] #[], .func (.func 84) #[] #[], .func (.func 85) #[] #[], .func (.func 86) #[] #[], .func (.func 87) #[] #[]]) (by kernel_rfl)) fun a E=>al E H rfl rfl rfl rfl zr101 fun p16 w a H E=>st_st (i := 0) E H (wn rfl) rfl (us := [.nilFunc, .func (.func 78) #[] #[], .func (.func 79) #[] #[], .func (.func 80) #[] #[], .func (.func 81) #[] #[], .func (.func 82) #[] #[], .func (.func 83) #[] #[], .func (.func 84) #[] #[], .func (.func 85) #[] #[], .func (.func 86) #[] #[], .func (.func 87) #[] #[]]) rfl rfl rfl rfl rfl sz101 rfl rfl fun w H=>nt<|?_
 refine wp_seq<|wp_seq_cut (fun a w => ∃ (b17 : Bool) (rs18 : List Rp), Env 54 a [(2, pt p8 0), (3, pt p13 0), (4, pt p14 0), (5, pt p15 0), (6, pt p16 0), (16, .bool b17)] ∧ Sep w (Blk p8 41 [(.slice q9 x1.Nodes.length x10), (.slice q11 x1.Turns.length x12)] :: Blk p13 62 (l_api_Part x4) :: Blk p14 41 [.slice none 0 0, .slice none 0 0] :: Blk p15 51 z_api_Result :: Blk p16 101 [.nilFunc, .func (.func 78) #[] #[], .func (.func 79) #[] #[], .func (.func 80) #[] #[], .func (.func 81) #[] #[], .func (.func 82) #[] #[], .func (.func 83) #[] #[], .func (.func 84) #[] #[], .func (.func 85) #[] #[], .func (.func 86) #[] #[], .func (.func 87) #[] #[]] :: Fo) rs18 ∧ (∀ r, r ∈ rs → r ∈ rs18) ∧ rSl k_api_Node (.slice q9 x1.Nodes.length x10) x1.Nodes ∈ rs18 ∧ rSl k_api_Turn (.slice q11 x1.Turns.length x12) x1.Turns ∈ rs18 ∧ rTab Tryz.prog ∈ rs18 ∧ m_part_Do_j1 x1 x4 b17 = some r) ?_ ?_
 ·refine wp_region_lit<|sv E rfl rfl rfl (x_ldBN (i := 4) (us := [(.slice q9 x1.Nodes.length x10), (.slice q11 x1.Turns.length x12)]) E H rfl rfl rfl rfl Tryz.underlying41 rfl sz41) fun a E=>bd hm fun u102 hx103 hm=>x_cl E rfl rfl rfl rfl rfl cf44 (c_part_Right x1 (.slice q9 x1.Nodes.length x10) (.slice q11 x1.Turns.length x12) H hr5 hr6 hx103)<|?_
  rintro _ w ⟨rfl, H⟩ a E
  refine pr 2 E rfl fun a E=>cs hm (fun hb104 hm=>?_) fun hb104 hm=>?_
  ·exact pk 4 E (kc 12 rfl hb104) rfl fun a E=>nt<|have H:=H.front 0 rfl;have H:=H.front 1 rfl;have H:=H.front 2 rfl;have H:=H.front 3 rfl;have H:=H.front 4 rfl;⟨true, _, E.sel [2, 3, 4, 5, 6, 16] rfl, H, fun r hr => hr, hr5, hr6, hr7, hm⟩
  ·refine st_val E (ws' (d := 12) E rfl rfl rfl rfl hb104) rfl rfl (x_ldBN (i := 3) (us := (l_api_Part x4)) E H rfl rfl rfl rfl Tryz.underlying62 rfl sz62) fun a E=>bd hm fun u105 hx106 hm=>st_call E (ws' (d := 12) E rfl rfl rfl rfl hb104) rfl rfl (x_call E rfl rfl (cf38 _)) (c_part_May x4 H hx106)<|?_
   rintro _ w ⟨rfl, H⟩ a E
   exact pk 2 E (kc 12 rfl hb104) rfl fun a E=>nt<|have H:=H.front 0 rfl;have H:=H.front 1 rfl;have H:=H.front 2 rfl;have H:=H.front 3 rfl;have H:=H.front 4 rfl;⟨!u105, _, E.sel [2, 3, 4, 5, 6, 16] rfl, H, fun r hr => hr, hr5, hr6, hr7, hm⟩
 ·clear E H hm
  rintro a w ⟨b17, rs18, E, H, hs19, hr20, hr21, hr22, hm⟩
  unfold m_part_Do_j1 at hm
  refine wif E hm rfl (fun hm=>?_) fun hm=>?_
  ·refine sq<|sv E rfl rfl rfl (x_build E rfl (E.evs rfl) (v := .agg #[.slice none 0 0, .slice none 0 0]) (by kernel_rfl)) fun a E=>sv E rfl rfl rfl (x_build E rfl (E.evs rfl) (v := .agg #[.int .i64 1, .string (ByteArray.mk #[]), .string (ByteArray.mk #[]), .int .i64 0, .slice none 0 0]) (by kernel_rfl)) fun a E=>st_st (i := 2) E H (wn rfl) rfl (us := [.slice none 0 0, .slice none 0 0]) rfl rfl rfl rfl rfl sz41 rfl rfl fun w H=>st_st (i := 3) E H (wn rfl) rfl (us := [.int .i64 1, .string (ByteArray.mk #[]), .string (ByteArray.mk #[]), .int .i64 0, .slice none 0 0]) rfl rfl rfl rfl rfl sz51 rfl rfl fun w H=>nt<|wp_ret<|q_thenR<|outR2 E rfl (rvBN (i := 2) (us := [.slice none 0 0, .slice none 0 0]) H rfl rfl rfl Tryz.underlying41 rfl sz41) (rvBN (i := 3) (us := [.int .i64 1, .string (ByteArray.mk #[]), .string (ByteArray.mk #[]), .int .i64 0, .slice none 0 0]) H rfl rfl rfl Tryz.underlying51 rfl sz51)<|?_
   refine have H:=H.nilSl k_api_Node;have H:=H.nilSl k_api_Turn;have H:=H.nilSl kS;have H:=H.drop 0;have H:=H.drop 0;have H:=H.drop 0;have H:=H.drop 0;have H:=H.drop 0;?_
   cases hm
   exact ⟨(.slice none 0 0), (.slice none 0 0), (.slice none 0 0), rfl, H.reads (sub_cons mm2 (sub_cons mm1 (sub_cons m0 (fun r hr => (t3 (hs19 r hr))))))⟩
  ·refine wp_skip<|q_then<|wp_seq<|dw [(0, 0), (1, 0), (3, 0), (4, 0), (2, 1), (5, 1), (6, 0), (7, 0), (8, 1), (9, 2)] [0] [] H (by kernel_rfl) (fun _ _ _ h => False.elim h.2) fun w W0 hI H=>fn 1 E rfl fun a E=>fb E rfl (wn rfl) rfl rfl rfl rfl m0 rfl Tryz.underlying22 rfl fun a E=>fn 1 E rfl fun a E=>fb E rfl (wn rfl) rfl rfl rfl rfl m0 rfl Tryz.underlying39 rfl fun a E=>fr_op rfl<|?_
   refine bk hm fun hx25 hm=>st_call E (wn rfl) rfl rfl (x_call E rfl rfl (cf88 _)) (lib_slices_Clone_api_Node_api_Node_rd H hr20 hx25) fun v23 w H a E=>nt<|?_
   refine ⟨⟨_, _, H, (subO_cons mm1 (subO_nil)), (sub_nil)⟩, ?_⟩
   refine fr_op rfl<|bk hm fun hx28 hm=>st_call E (wn rfl) rfl rfl (x_call E rfl rfl (cf89 _)) (lib_slices_Clone_api_Turn_api_Turn_rd H hr21 hx28) fun v26 w H a E=>nt<|?_
   refine ⟨⟨_, _, H, (subO_cons mm2 (subO_nil)), (sub_nil)⟩, ?_⟩
   obtain ⟨q29, x30, rfl⟩ := H.rowform (i := 1) rfl
   obtain ⟨q31, x32, rfl⟩ := H.rowform (i := 0) rfl
   refine fr_val E rfl (wn rfl) rfl rfl (fun w hW=>(x_build E rfl (E.evs rfl) (v := .agg #[(.slice q29 x1.Nodes.length x30), (.slice q31 x1.Turns.length x32)]) (by kernel_rfl))) fun a E=>?_
   refine fr_val E rfl (wn rfl) rfl rfl (fun w hW=>(x_build E rfl (E.evs rfl) (v := .agg #[(.slice q29 x1.Nodes.length x30), (.slice q31 x1.Turns.length x32), .int .i64 0, .string (ByteArray.mk #[]), .string (ByteArray.mk #[]), .int .i64 0, .slice none 0 0]) (by kernel_rfl))) fun a E=>?_
   refine fr_op rfl<|st_box E H (wn rfl) rfl rfl (cs := [(.slice q29 x1.Nodes.length x30), (.slice q31 x1.Turns.length x32), .int .i64 0, .string (ByteArray.mk #[]), .string (ByteArray.mk #[]), .int .i64 0, .slice none 0 0]) rfl rfl rfl fun p33 w a H E=>nt<|?_
   refine ⟨⟨_, _, H, (subO_cons mm3 (subO_nil)), (sub_nil)⟩, ?_⟩
   refine fr_tail rfl<|pr 1 E rfl fun a E=>nt<|fr_nil<|?_
   clear hI
   refine q_then<|wp_seq<|wp_seq_cut (fun a w => ∃ (v34 : Value) (v36 : Value) (v42 : Value) (l35 : (List S_api_Node)) (l37 : (List S_api_Turn)) (x38 : Int) (s39 : ByteArray) (s40 : ByteArray) (x41 : Int) (l43 : (List ByteArray)) (rs44 : List Rp), Env 54 a [(2, pt p8 0), (4, pt p14 0), (5, pt p15 0), (7, pt p33 0)] ∧ Sep w (Blk p8 41 [(.slice q9 x1.Nodes.length x10), (.slice q11 x1.Turns.length x12)] :: Blk p14 41 [.slice none 0 0, .slice none 0 0] :: Blk p15 51 z_api_Result :: Blk p33 105 [v34, v36, .int .i64 x38, .string s39, .string s40, .int .i64 x41, v42] :: Row 80 k_api_Node v34 l35 :: Row 83 k_api_Turn v36 l37 :: Row 9 kS v42 l43 :: Fo) rs44 ∧ (∀ r, r ∈ rs → r ∈ rs44) ∧ rSl k_api_Node (.slice q9 x1.Nodes.length x10) x1.Nodes ∈ rs44 ∧ rSl k_api_Turn (.slice q11 x1.Turns.length x12) x1.Turns ∈ rs44 ∧ rTab Tryz.prog ∈ rs44 ∧ m_part_Do_j2 x1 l35 l37 x38 s39 s40 x41 l43 = some r) ?_ ?_
   ·refine dw [(0, 0), (1, 0), (2, 0), (3, 0), (4, 0), (5, 0), (6, 1)] [4, 7] [] H (by kernel_rfl) (fun _ _ _ h => False.elim h.2) fun w W0 hI H=>fn 1 E rfl fun a E=>fb E rfl (wn rfl) rfl rfl rfl rfl m0 rfl Tryz.underlying3 rfl fun a E=>cs hm (fun hb98 hm=>?_) fun hb98 hm=>?_
    ·refine fr_val E rfl (wn rfl) rfl rfl (fun w hW=>x_ixP (j := 1) E rfl rfl rfl hb98 rfl Tryz.underlying101 sz98) fun a E=>?_
     refine fb E rfl (wn rfl) rfl rfl rfl rfl mm1 rfl Tryz.underlying98 rfl fun a E=>fn 1 E rfl fun a E=>fbn E (l_api_Part x4) rfl (wn rfl) rfl rfl rfl rfl m0 rfl Tryz.underlying62 rfl sz62 fun a E=>fr_op rfl<|have H:=H.nilRow 9 kS;have H:=H.front 8 rfl;have H:=H.front 8 rfl;have H:=H.front 8 rfl;have H:=H.front 8 rfl;?_
     refine have H:=H.front 8 rfl;have H:=H.front 5 rfl;have H:=H.front 7 rfl;have H:=H.front 8 rfl;have H:=H.front 8 rfl;bd hm fun u99 hx100 hm=>st_call E (wn rfl) rfl rfl (x_callv E rfl rfl rfl (cf78 _)) (c_part_work_guard p33 (.slice q29 x1.Nodes.length x30) x1.Nodes (.slice q31 x1.Turns.length x32) x1.Turns 0 (ByteArray.mk #[]) (ByteArray.mk #[]) 0 (.slice none 0 0) [] x4 H hx100)<|?_
     rintro _ w ⟨v101, rfl, H⟩ a E
     refine nt<|?_
     refine ⟨⟨_, _, H, (subO_cons mm5 (subO_cons (t2 mm6) (subO_nil))), (sub_nil)⟩, ?_⟩
     refine fr_nil<|?_
     clear hI
     refine q_then<|have H:=H.drop 5;have H:=H.drop 7;have H:=H.front 3 rfl;have H:=H.front 3 rfl;have H:=H.front 3 rfl;have H:=H.front 3 rfl;have H:=H.front 6 rfl;have H:=H.front 6 rfl;?_
     exact have H:=H.front 6 rfl;⟨(.slice q29 x1.Nodes.length x30), (.slice q31 x1.Turns.length x32), v101, x1.Nodes, x1.Turns, u99.1, u99.2.1, u99.2.2.1, u99.2.2.2.1, u99.2.2.2.2, _, E.sel [2, 4, 5, 7] rfl, H, hs19, hr20, hr21, hr22, hm⟩
    ·refine cs hm (fun hb92 hm=>?_) fun hb92 hm=>?_
     ·refine fr_val E rfl (wn rfl) rfl rfl (fun w hW=>x_ixP (j := 2) E rfl rfl rfl hb92 rfl Tryz.underlying101 sz98) fun a E=>?_
      refine fb E rfl (wn rfl) rfl rfl rfl rfl mm1 rfl Tryz.underlying98 rfl fun a E=>fn 1 E rfl fun a E=>fbn E (l_api_Part x4) rfl (wn rfl) rfl rfl rfl rfl m0 rfl Tryz.underlying62 rfl sz62 fun a E=>fr_op rfl<|have H:=H.nilRow 9 kS;have H:=H.front 8 rfl;have H:=H.front 8 rfl;have H:=H.front 8 rfl;have H:=H.front 8 rfl;?_
      refine have H:=H.front 8 rfl;have H:=H.front 5 rfl;have H:=H.front 7 rfl;have H:=H.front 8 rfl;have H:=H.front 8 rfl;bd hm fun u93 hx94 hm=>st_call E (wn rfl) rfl rfl (x_callv E rfl rfl rfl (cf79 _)) (c_part_work_put p33 (.slice q29 x1.Nodes.length x30) x1.Nodes (.slice q31 x1.Turns.length x32) x1.Turns 0 (ByteArray.mk #[]) (ByteArray.mk #[]) 0 (.slice none 0 0) [] x4 H hr22 hx94)<|?_
      rintro _ w ⟨v95, v96, v97, rfl, H⟩ a E
      refine nt<|?_
      refine ⟨⟨_, _, H, (subO_cons mm5 (subO_cons (t2 mm6) (subO_nil))), (sub_nil)⟩, ?_⟩
      refine fr_nil<|?_
      clear hI
      refine q_then<|have H:=H.drop 5;have H:=H.drop 7;have H:=H.front 3 rfl;have H:=H.front 3 rfl;have H:=H.front 3 rfl;have H:=H.front 3 rfl;have H:=H.front 6 rfl;have H:=H.front 6 rfl;?_
      exact have H:=H.front 6 rfl;⟨v95, v96, v97, u93.1, u93.2.1, u93.2.2.1, u93.2.2.2.1, u93.2.2.2.2.1, u93.2.2.2.2.2.1, u93.2.2.2.2.2.2, _, E.sel [2, 4, 5, 7] rfl, H, hs19, hr20, hr21, hr22, hm⟩
     ·refine cs hm (fun hb87 hm=>?_) fun hb87 hm=>?_
      ·refine fr_val E rfl (wn rfl) rfl rfl (fun w hW=>x_ixP (j := 3) E rfl rfl rfl hb87 rfl Tryz.underlying101 sz98) fun a E=>?_
       refine fb E rfl (wn rfl) rfl rfl rfl rfl mm1 rfl Tryz.underlying98 rfl fun a E=>fn 1 E rfl fun a E=>fbn E (l_api_Part x4) rfl (wn rfl) rfl rfl rfl rfl m0 rfl Tryz.underlying62 rfl sz62 fun a E=>fr_op rfl<|have H:=H.nilRow 9 kS;have H:=H.front 8 rfl;have H:=H.front 8 rfl;have H:=H.front 8 rfl;have H:=H.front 8 rfl;?_
       refine have H:=H.front 8 rfl;have H:=H.front 5 rfl;have H:=H.front 7 rfl;have H:=H.front 8 rfl;have H:=H.front 8 rfl;bd hm fun u88 hx89 hm=>st_call E (wn rfl) rfl rfl (x_callv E rfl rfl rfl (cf80 _)) (c_part_work_remove p33 (.slice q29 x1.Nodes.length x30) x1.Nodes (.slice q31 x1.Turns.length x32) x1.Turns 0 (ByteArray.mk #[]) (ByteArray.mk #[]) 0 (.slice none 0 0) [] x4 H hx89)<|?_
       rintro _ w ⟨v90, v91, rfl, H⟩ a E
       refine nt<|?_
       refine ⟨⟨_, _, H, (subO_cons mm5 (subO_cons (t2 mm6) (subO_nil))), (sub_nil)⟩, ?_⟩
       refine fr_nil<|?_
       clear hI
       refine q_then<|have H:=H.drop 5;have H:=H.drop 7;have H:=H.front 3 rfl;have H:=H.front 3 rfl;have H:=H.front 3 rfl;have H:=H.front 3 rfl;have H:=H.front 6 rfl;have H:=H.front 6 rfl;?_
       exact have H:=H.front 6 rfl;⟨v90, (.slice q31 x1.Turns.length x32), v91, u88.1, x1.Turns, u88.2.1, u88.2.2.1, u88.2.2.2.1, u88.2.2.2.2.1, u88.2.2.2.2.2, _, E.sel [2, 4, 5, 7] rfl, H, hs19, hr20, hr21, hr22, hm⟩
      ·refine cs hm (fun hb82 hm=>?_) fun hb82 hm=>?_
       ·refine fr_val E rfl (wn rfl) rfl rfl (fun w hW=>x_ixP (j := 4) E rfl rfl rfl hb82 rfl Tryz.underlying101 sz98) fun a E=>?_
        refine fb E rfl (wn rfl) rfl rfl rfl rfl mm1 rfl Tryz.underlying98 rfl fun a E=>fn 1 E rfl fun a E=>fbn E (l_api_Part x4) rfl (wn rfl) rfl rfl rfl rfl m0 rfl Tryz.underlying62 rfl sz62 fun a E=>fr_op rfl<|have H:=H.nilRow 9 kS;have H:=H.front 8 rfl;have H:=H.front 8 rfl;have H:=H.front 8 rfl;have H:=H.front 8 rfl;?_
        refine have H:=H.front 8 rfl;have H:=H.front 5 rfl;have H:=H.front 7 rfl;have H:=H.front 8 rfl;have H:=H.front 8 rfl;bd hm fun u83 hx84 hm=>st_call E (wn rfl) rfl rfl (x_callv E rfl rfl rfl (cf81 _)) (c_part_work_empty p33 (.slice q29 x1.Nodes.length x30) x1.Nodes (.slice q31 x1.Turns.length x32) x1.Turns 0 (ByteArray.mk #[]) (ByteArray.mk #[]) 0 (.slice none 0 0) [] x4 H hx84)<|?_
        rintro _ w ⟨v85, v86, rfl, H⟩ a E
        refine nt<|?_
        refine ⟨⟨_, _, H, (subO_cons mm5 (subO_cons (t2 mm6) (subO_nil))), (sub_nil)⟩, ?_⟩
        refine fr_nil<|?_
        clear hI
        refine q_then<|have H:=H.drop 5;have H:=H.drop 7;have H:=H.front 3 rfl;have H:=H.front 3 rfl;have H:=H.front 3 rfl;have H:=H.front 3 rfl;have H:=H.front 6 rfl;have H:=H.front 6 rfl;?_
        exact have H:=H.front 6 rfl;⟨(.slice q29 x1.Nodes.length x30), v85, v86, x1.Nodes, u83.1, u83.2.1, u83.2.2.1, u83.2.2.2.1, u83.2.2.2.2.1, u83.2.2.2.2.2, _, E.sel [2, 4, 5, 7] rfl, H, hs19, hr20, hr21, hr22, hm⟩
       ·refine cs hm (fun hb78 hm=>?_) fun hb78 hm=>?_
        ·refine fr_val E rfl (wn rfl) rfl rfl (fun w hW=>x_ixP (j := 5) E rfl rfl rfl hb78 rfl Tryz.underlying101 sz98) fun a E=>?_
         refine fb E rfl (wn rfl) rfl rfl rfl rfl mm1 rfl Tryz.underlying98 rfl fun a E=>fn 1 E rfl fun a E=>fbn E (l_api_Part x4) rfl (wn rfl) rfl rfl rfl rfl m0 rfl Tryz.underlying62 rfl sz62 fun a E=>fr_op rfl<|have H:=H.nilRow 9 kS;have H:=H.front 8 rfl;have H:=H.front 8 rfl;have H:=H.front 8 rfl;have H:=H.front 8 rfl;?_
         refine have H:=H.front 8 rfl;have H:=H.front 5 rfl;have H:=H.front 7 rfl;have H:=H.front 8 rfl;have H:=H.front 8 rfl;bd hm fun u79 hx80 hm=>st_call E (wn rfl) rfl rfl (x_callv E rfl rfl rfl (cf82 _)) (c_part_work_alter p33 (.slice q29 x1.Nodes.length x30) x1.Nodes (.slice q31 x1.Turns.length x32) x1.Turns 0 (ByteArray.mk #[]) (ByteArray.mk #[]) 0 (.slice none 0 0) [] x4 H hx80)<|?_
         rintro _ w ⟨v81, rfl, H⟩ a E
         refine nt<|?_
         refine ⟨⟨_, _, H, (subO_cons mm5 (subO_cons (t2 mm6) (subO_nil))), (sub_nil)⟩, ?_⟩
         refine fr_nil<|?_
         clear hI
         refine q_then<|have H:=H.drop 5;have H:=H.drop 7;have H:=H.front 3 rfl;have H:=H.front 3 rfl;have H:=H.front 3 rfl;have H:=H.front 3 rfl;have H:=H.front 6 rfl;have H:=H.front 6 rfl;?_
         exact have H:=H.front 6 rfl;⟨(.slice q29 x1.Nodes.length x30), (.slice q31 x1.Turns.length x32), v81, u79.1, x1.Turns, u79.2.1, u79.2.2.1, u79.2.2.2.1, u79.2.2.2.2.1, u79.2.2.2.2.2, _, E.sel [2, 4, 5, 7] rfl, H, hs19, hr20, hr21, hr22, hm⟩
        ·refine cs hm (fun hb74 hm=>?_) fun hb74 hm=>?_
         ·refine fr_val E rfl (wn rfl) rfl rfl (fun w hW=>x_ixP (j := 6) E rfl rfl rfl hb74 rfl Tryz.underlying101 sz98) fun a E=>?_
          refine fb E rfl (wn rfl) rfl rfl rfl rfl mm1 rfl Tryz.underlying98 rfl fun a E=>fn 1 E rfl fun a E=>fbn E (l_api_Part x4) rfl (wn rfl) rfl rfl rfl rfl m0 rfl Tryz.underlying62 rfl sz62 fun a E=>fr_op rfl<|have H:=H.nilRow 9 kS;have H:=H.front 8 rfl;have H:=H.front 8 rfl;have H:=H.front 8 rfl;have H:=H.front 8 rfl;?_
          refine have H:=H.front 8 rfl;have H:=H.front 5 rfl;have H:=H.front 7 rfl;have H:=H.front 8 rfl;have H:=H.front 8 rfl;bd hm fun u75 hx76 hm=>st_call E (wn rfl) rfl rfl (x_callv E rfl rfl rfl (cf83 _)) (c_part_work_look p33 (.slice q29 x1.Nodes.length x30) x1.Nodes (.slice q31 x1.Turns.length x32) x1.Turns 0 (ByteArray.mk #[]) (ByteArray.mk #[]) 0 (.slice none 0 0) [] x4 H hx76)<|?_
          rintro _ w ⟨v77, rfl, H⟩ a E
          refine nt<|?_
          refine ⟨⟨_, _, H, (subO_cons mm5 (subO_cons (t2 mm6) (subO_nil))), (sub_nil)⟩, ?_⟩
          refine fr_nil<|?_
          clear hI
          refine q_then<|have H:=H.drop 5;have H:=H.drop 7;have H:=H.front 3 rfl;have H:=H.front 3 rfl;have H:=H.front 3 rfl;have H:=H.front 3 rfl;have H:=H.front 6 rfl;have H:=H.front 6 rfl;?_
          exact have H:=H.front 6 rfl;⟨(.slice q29 x1.Nodes.length x30), (.slice q31 x1.Turns.length x32), v77, x1.Nodes, x1.Turns, u75.1, u75.2.1, u75.2.2.1, u75.2.2.2.1, u75.2.2.2.2, _, E.sel [2, 4, 5, 7] rfl, H, hs19, hr20, hr21, hr22, hm⟩
         ·refine cs hm (fun hb70 hm=>?_) fun hb70 hm=>?_
          ·refine fr_val E rfl (wn rfl) rfl rfl (fun w hW=>x_ixP (j := 7) E rfl rfl rfl hb70 rfl Tryz.underlying101 sz98) fun a E=>?_
           refine fb E rfl (wn rfl) rfl rfl rfl rfl mm1 rfl Tryz.underlying98 rfl fun a E=>fn 1 E rfl fun a E=>fbn E (l_api_Part x4) rfl (wn rfl) rfl rfl rfl rfl m0 rfl Tryz.underlying62 rfl sz62 fun a E=>fr_op rfl<|have H:=H.nilRow 9 kS;have H:=H.front 8 rfl;have H:=H.front 8 rfl;have H:=H.front 8 rfl;have H:=H.front 8 rfl;?_
           refine have H:=H.front 8 rfl;have H:=H.front 5 rfl;have H:=H.front 7 rfl;have H:=H.front 8 rfl;have H:=H.front 8 rfl;bd hm fun u71 hx72 hm=>st_call E (wn rfl) rfl rfl (x_callv E rfl rfl rfl (cf84 _)) (c_part_work_read p33 (.slice q29 x1.Nodes.length x30) x1.Nodes (.slice q31 x1.Turns.length x32) x1.Turns 0 (ByteArray.mk #[]) (ByteArray.mk #[]) 0 (.slice none 0 0) [] x4 H hx72)<|?_
           rintro _ w ⟨v73, rfl, H⟩ a E
           refine nt<|?_
           refine ⟨⟨_, _, H, (subO_cons mm5 (subO_cons (t2 mm6) (subO_nil))), (sub_nil)⟩, ?_⟩
           refine fr_nil<|?_
           clear hI
           refine q_then<|have H:=H.drop 5;have H:=H.drop 7;have H:=H.front 3 rfl;have H:=H.front 3 rfl;have H:=H.front 3 rfl;have H:=H.front 3 rfl;have H:=H.front 6 rfl;have H:=H.front 6 rfl;?_
           exact have H:=H.front 6 rfl;⟨(.slice q29 x1.Nodes.length x30), (.slice q31 x1.Turns.length x32), v73, x1.Nodes, x1.Turns, u71.1, u71.2.1, u71.2.2.1, u71.2.2.2.1, u71.2.2.2.2, _, E.sel [2, 4, 5, 7] rfl, H, hs19, hr20, hr21, hr22, hm⟩
          ·refine cs hm (fun hb66 hm=>?_) fun hb66 hm=>?_
           ·refine fr_val E rfl (wn rfl) rfl rfl (fun w hW=>x_ixP (j := 8) E rfl rfl rfl hb66 rfl Tryz.underlying101 sz98) fun a E=>?_
            refine fb E rfl (wn rfl) rfl rfl rfl rfl mm1 rfl Tryz.underlying98 rfl fun a E=>fn 1 E rfl fun a E=>fbn E (l_api_Part x4) rfl (wn rfl) rfl rfl rfl rfl m0 rfl Tryz.underlying62 rfl sz62 fun a E=>fr_op rfl<|have H:=H.nilRow 9 kS;have H:=H.front 8 rfl;have H:=H.front 8 rfl;have H:=H.front 8 rfl;have H:=H.front 8 rfl;?_
            refine have H:=H.front 8 rfl;have H:=H.front 5 rfl;have H:=H.front 7 rfl;have H:=H.front 8 rfl;have H:=H.front 8 rfl;bd hm fun u67 hx68 hm=>st_call E (wn rfl) rfl rfl (x_callv E rfl rfl rfl (cf85 _)) (c_part_work_has p33 (.slice q29 x1.Nodes.length x30) x1.Nodes (.slice q31 x1.Turns.length x32) x1.Turns 0 (ByteArray.mk #[]) (ByteArray.mk #[]) 0 (.slice none 0 0) [] x4 H hx68)<|?_
            rintro _ w ⟨v69, rfl, H⟩ a E
            refine nt<|?_
            refine ⟨⟨_, _, H, (subO_cons mm5 (subO_cons (t2 mm6) (subO_nil))), (sub_nil)⟩, ?_⟩
            refine fr_nil<|?_
            clear hI
            refine q_then<|have H:=H.drop 5;have H:=H.drop 7;have H:=H.front 3 rfl;have H:=H.front 3 rfl;have H:=H.front 3 rfl;have H:=H.front 3 rfl;have H:=H.front 6 rfl;have H:=H.front 6 rfl;?_
            exact have H:=H.front 6 rfl;⟨(.slice q29 x1.Nodes.length x30), (.slice q31 x1.Turns.length x32), v69, x1.Nodes, x1.Turns, u67.1, u67.2.1, u67.2.2.1, u67.2.2.2.1, u67.2.2.2.2, _, E.sel [2, 4, 5, 7] rfl, H, hs19, hr20, hr21, hr22, hm⟩
           ·refine cs hm (fun hb62 hm=>?_) fun hb62 hm=>?_
            ·refine fr_val E rfl (wn rfl) rfl rfl (fun w hW=>x_ixP (j := 9) E rfl rfl rfl hb62 rfl Tryz.underlying101 sz98) fun a E=>?_
             refine fb E rfl (wn rfl) rfl rfl rfl rfl mm1 rfl Tryz.underlying98 rfl fun a E=>fn 1 E rfl fun a E=>fbn E (l_api_Part x4) rfl (wn rfl) rfl rfl rfl rfl m0 rfl Tryz.underlying62 rfl sz62 fun a E=>fr_op rfl<|have H:=H.nilRow 9 kS;have H:=H.front 8 rfl;have H:=H.front 8 rfl;have H:=H.front 8 rfl;have H:=H.front 8 rfl;?_
             refine have H:=H.front 8 rfl;have H:=H.front 5 rfl;have H:=H.front 7 rfl;have H:=H.front 8 rfl;have H:=H.front 8 rfl;bd hm fun u63 hx64 hm=>st_call E (wn rfl) rfl rfl (x_callv E rfl rfl rfl (cf86 _)) (c_part_work_names p33 (.slice q29 x1.Nodes.length x30) x1.Nodes (.slice q31 x1.Turns.length x32) x1.Turns 0 (ByteArray.mk #[]) (ByteArray.mk #[]) 0 (.slice none 0 0) [] x4 H hx64)<|?_
             rintro _ w ⟨v65, rfl, H⟩ a E
             refine nt<|?_
             refine ⟨⟨_, _, H, (subO_cons mm5 (subO_cons (t2 mm6) (subO_nil))), (sub_nil)⟩, ?_⟩
             refine fr_nil<|?_
             clear hI
             refine q_then<|have H:=H.drop 5;have H:=H.drop 7;have H:=H.front 3 rfl;have H:=H.front 3 rfl;have H:=H.front 3 rfl;have H:=H.front 3 rfl;have H:=H.front 6 rfl;have H:=H.front 6 rfl;?_
             exact have H:=H.front 6 rfl;⟨(.slice q29 x1.Nodes.length x30), (.slice q31 x1.Turns.length x32), v65, x1.Nodes, x1.Turns, 0, (ByteArray.mk #[]), (ByteArray.mk #[]), 0, u63, _, E.sel [2, 4, 5, 7] rfl, H, hs19, hr20, hr21, hr22, hm⟩
            ·refine cs hm (fun hb57 hm=>?_) fun hb57 hm=>?_
             ·refine fr_val E rfl (wn rfl) rfl rfl (fun w hW=>x_ixP (j := 10) E rfl rfl rfl hb57 rfl Tryz.underlying101 sz98) fun a E=>?_
              refine fb E rfl (wn rfl) rfl rfl rfl rfl mm1 rfl Tryz.underlying98 rfl fun a E=>fn 1 E rfl fun a E=>fbn E (l_api_Part x4) rfl (wn rfl) rfl rfl rfl rfl m0 rfl Tryz.underlying62 rfl sz62 fun a E=>fr_op rfl<|have H:=H.nilRow 9 kS;have H:=H.front 8 rfl;have H:=H.front 8 rfl;have H:=H.front 8 rfl;have H:=H.front 8 rfl;?_
              refine have H:=H.front 8 rfl;have H:=H.front 5 rfl;have H:=H.front 7 rfl;have H:=H.front 8 rfl;have H:=H.front 8 rfl;bd hm fun u58 hx59 hm=>st_call E (wn rfl) rfl rfl (x_callv E rfl rfl rfl (cf87 _)) (c_part_work_clear p33 (.slice q29 x1.Nodes.length x30) x1.Nodes (.slice q31 x1.Turns.length x32) x1.Turns 0 (ByteArray.mk #[]) (ByteArray.mk #[]) 0 (.slice none 0 0) [] x4 H hx59)<|?_
              rintro _ w ⟨v60, v61, rfl, H⟩ a E
              refine nt<|?_
              refine ⟨⟨_, _, H, (subO_cons mm5 (subO_cons (t2 mm6) (subO_nil))), (sub_nil)⟩, ?_⟩
              refine fr_nil<|?_
              clear hI
              refine q_then<|have H:=H.drop 5;have H:=H.drop 7;have H:=H.front 3 rfl;have H:=H.front 3 rfl;have H:=H.front 3 rfl;have H:=H.front 3 rfl;have H:=H.front 6 rfl;have H:=H.front 6 rfl;?_
              exact have H:=H.front 6 rfl;⟨v60, (.slice q31 x1.Turns.length x32), v61, u58.1, x1.Turns, 0, (ByteArray.mk #[]), (ByteArray.mk #[]), 0, u58.2, _, E.sel [2, 4, 5, 7] rfl, H, hs19, hr20, hr21, hr22, hm⟩
             ·exact (none_some hm rfl).elim
   ·clear E H hm
    rintro a w ⟨v34, v36, v42, l35, l37, x38, s39, s40, x41, l43, rs44, E, H, hs45, hr46, hr47, hr48, hm⟩
    unfold m_part_Do_j2 at hm
    refine sq<|pr 4 E rfl fun a E=>lb E H 3 rfl rfl rfl rfl rfl rfl rfl Tryz.underlying27 rfl fun a E=>pr 1 E rfl fun a E=>nt<|wif E hm rfl (fun hm=>?_) fun hm=>?_
    ·refine wp_seq<|dw [(0, 0), (1, 0), (2, 0), (3, 0), (4, 0), (5, 1), (6, 2)] [0, 3] [] H (by kernel_rfl) (fun _ _ _ h => False.elim h.2) fun w W0 hI H=>fbn E [(.slice q9 x1.Nodes.length x10), (.slice q11 x1.Turns.length x12)] rfl (wn rfl) rfl rfl rfl rfl m0 rfl Tryz.underlying41 rfl sz41 fun a E=>fn 3 E rfl fun a E=>fbn E [.int .i64 x38, .string s39, .string s40, .int .i64 x41, v42] rfl (wn rfl) rfl rfl rfl rfl mm1 rfl Tryz.underlying51 rfl sz51 fun a E=>fr_op rfl<|st_st (i := 1) E H (wn rfl) rfl (us := [(.slice q9 x1.Nodes.length x10), (.slice q11 x1.Turns.length x12)]) rfl rfl rfl rfl rfl sz41 rfl rfl fun w H=>nt<|?_
     refine ⟨⟨_, _, H, (subO_cons m0 (subO_cons mm3 (subO_nil))), (sub_nil)⟩, ?_⟩
     refine fr_tail rfl<|?_
     obtain ⟨q49, x50, rfl⟩ := H.rowform (i := 6) rfl
     refine st_st (i := 2) E H (wn rfl) rfl (us := [.int .i64 x38, .string s39, .string s40, .int .i64 x41, (.slice q49 l43.length x50)]) rfl rfl rfl rfl rfl sz51 rfl rfl fun w H=>nt<|fr_nil<|?_
     clear hI
     refine q_then<|wp_ret<|q_thenR<|outR2 E rfl (rvBN (i := 1) (us := [(.slice q9 x1.Nodes.length x10), (.slice q11 x1.Turns.length x12)]) H rfl rfl rfl Tryz.underlying41 rfl sz41) (rvBN (i := 2) (us := [.int .i64 x38, .string s39, .string s40, .int .i64 x41, (.slice q49 l43.length x50)]) H rfl rfl rfl Tryz.underlying51 rfl sz51)<|have H:=H.thaw (i := 6) rfl;have H:=H.drop 0;have H:=H.drop 0;have H:=H.drop 0;have H:=H.drop 0;?_
     refine have H:=H.drop 0;have H:=H.drop 0;?_
     cases hm
     exact ⟨(.slice q9 x1.Nodes.length x10), (.slice q11 x1.Turns.length x12), (.slice q49 l43.length x50), rfl, H.reads (sub_cons (t1 hr46) (sub_cons (t1 hr47) (sub_cons m0 (fun r hr => (t1 (hs45 r hr))))))⟩
    ·refine wp_skip<|q_then<|wp_seq<|dw [(0, 0), (1, 0), (2, 0), (3, 0), (4, 0), (5, 0), (6, 0), (7, 0), (8, 1), (9, 2)] [3] [] H (by kernel_rfl) (fun _ _ _ h => False.elim h.2) fun w W0 hI H=>fn 3 E rfl fun a E=>fbn E [v34, v36] rfl (wn rfl) rfl rfl rfl rfl m0 rfl Tryz.underlying41 rfl sz41 fun a E=>fn 3 E rfl fun a E=>fbn E [.int .i64 x38, .string s39, .string s40, .int .i64 x41, v42] rfl (wn rfl) rfl rfl rfl rfl m0 rfl Tryz.underlying51 rfl sz51 fun a E=>fr_op rfl<|?_
     obtain ⟨q51, x52, rfl⟩ := H.rowform (i := 4) rfl
     obtain ⟨q53, x54, rfl⟩ := H.rowform (i := 5) rfl
     refine st_st (i := 1) E H (wn rfl) rfl (us := [(.slice q51 l35.length x52), (.slice q53 l37.length x54)]) rfl rfl rfl rfl rfl sz41 rfl rfl fun w H=>nt<|?_
     refine ⟨⟨_, _, H, (subO_cons mm3 (subO_nil)), (sub_nil)⟩, ?_⟩
     refine fr_tail rfl<|?_
     obtain ⟨q55, x56, rfl⟩ := H.rowform (i := 6) rfl
     refine st_st (i := 2) E H (wn rfl) rfl (us := [.int .i64 x38, .string s39, .string s40, .int .i64 x41, (.slice q55 l43.length x56)]) rfl rfl rfl rfl rfl sz51 rfl rfl fun w H=>nt<|fr_nil<|?_
     clear hI
     refine q_then<|wp_ret<|outR2 E rfl (rvBN (i := 1) (us := [(.slice q51 l35.length x52), (.slice q53 l37.length x54)]) H rfl rfl rfl Tryz.underlying41 rfl sz41) (rvBN (i := 2) (us := [.int .i64 x38, .string s39, .string s40, .int .i64 x41, (.slice q55 l43.length x56)]) H rfl rfl rfl Tryz.underlying51 rfl sz51)<|have H:=H.thaw (i := 4) rfl;have H:=H.thaw (i := 4) rfl;have H:=H.thaw (i := 4) rfl;have H:=H.drop 0;have H:=H.drop 0;have H:=H.drop 0;?_
     refine have H:=H.drop 0;?_
     cases hm
     exact ⟨(.slice q51 l35.length x52), (.slice q53 l37.length x54), (.slice q55 l43.length x56), rfl, H.reads (sub_cons mm2 (sub_cons mm1 (sub_cons m0 (fun r hr => (t3 (hs45 r hr))))))⟩

def m_multi_All_l1 (l5 : List S_api_Piece) (x1 : S_api_Store) : Nat → (List S_api_Result) → Int → (List S_api_Node) → (List S_api_Turn) → Option (S_api_Store × (List S_api_Result) × Int × Int)
  | 0, _, _, _, _ => none
  | k1 + 1, l18, x19, l21, l23 =>
    if (decide (x19 < (l5.length : Int))) = true then ((idx l5 x19).bind fun x32 => (m_part_Do (⟨l21, l23⟩ : S_api_Store) x32.Part).bind fun u36 => if (u36.2.Err != 0) = true then (some (x1, [], u36.2.Err, x19)) else ((ck (l18.length + ([u36.2] : List S_api_Result).length ≤ LIM)).bind fun u51 => m_multi_All_l1 l5 x1 k1 (l18 ++ ([u36.2] : List S_api_Result)) (IntKind.i64.wrap (x19 + 1)) u36.1.Nodes u36.1.Turns)) else (some ((⟨l21, l23⟩ : S_api_Store), l18, 0, 0))
def m_multi_All (x1 : S_api_Store) (l5 : List S_api_Piece) : Option (S_api_Store × (List S_api_Result) × Int × Int) :=
  m_multi_All_l1 l5 x1 (((l5.length : Int) - 0 : Int).toNat + 1) [] 0 x1.Nodes x1.Turns
theorem c_multi_All {w : World} {Fo : List Ob} {rs : List Rp} (x1 : S_api_Store) (v2 : Value) (v3 : Value) (v4 : Value) (l5 : List S_api_Piece) (H : Sep w (Fo) rs) (hr6 : rSl k_api_Node v2 x1.Nodes ∈ rs) (hr7 : rSl k_api_Turn v3 x1.Turns ∈ rs) (hr8 : rSl k_api_Piece v4 l5 ∈ rs) (hr9 : rTab Tryz.prog ∈ rs) {r : S_api_Store × (List S_api_Result) × Int × Int} (hm : m_multi_All x1 l5 = some r) :
    Calls Tryz.prog 28 [.agg #[v2, v3], v4].toArray w (Ret fun v w' => ∃ (v5002 : Value) (v5003 : Value) (v5004 : Value), .tuple #[.agg #[v5002, v5003], v5004, .int .i64 r.2.2.1, .int .i64 r.2.2.2] = v ∧ Sep w' (Row 51 k_api_Result v5004 r.2.1 :: Fo) (rSl k_api_Node v5002 r.1.Nodes :: rSl k_api_Turn v5003 r.1.Turns :: rs)) := by
 unfold m_multi_All at hm
 refine enter Tryz.func28 rfl Tryz.ntmps28 rfl fun a E =>?_
 simp only [enum, Nat.reduceAdd] at E
 refine sq<|?_
 obtain ⟨q11, x12, rfl⟩ := H.slform hr6
 obtain ⟨q13, x14, rfl⟩ := H.slform hr7
 refine st_box E H (wn rfl) rfl rfl (cs := [(.slice q11 x1.Nodes.length x12), (.slice q13 x1.Turns.length x14)]) rfl rfl rfl fun p10 w a H E=>al E H rfl rfl rfl rfl zr41 fun p15 w a H E=>pr 3 E rfl fun a E=>nx<|sv E rfl rfl rfl (x_ldBN (i := 1) (us := [(.slice q11 x1.Nodes.length x12), (.slice q13 x1.Turns.length x14)]) E H rfl rfl rfl rfl Tryz.underlying41 rfl sz41) fun a E=>al E H rfl rfl rfl rfl zr41 fun p16 w a H E=>st_st (i := 0) E H (wn rfl) rfl (us := [(.slice q11 x1.Nodes.length x12), (.slice q13 x1.Turns.length x14)]) rfl rfl rfl rfl rfl sz41 rfl rfl fun w H=>nx<|pr 1 E rfl fun a E=>?_
 refine nt<|wp_seq<|sq<|pr 1 E rfl fun a E=>sv E rfl rfl rfl (x_lenS E H rfl rfl hr8 Tryz.underlying36) fun a E=>pr 1 E rfl fun a E=>nt<|wp_block<|wp_loop_g (fun k1 a w => ∃ (v17 : Value) (v20 : Value) (v22 : Value) (l18 : (List S_api_Result)) (x19 : Int) (l21 : (List S_api_Node)) (l23 : (List S_api_Turn)) (rs24 : List Rp), Env 44 a [(2, pt p10 0), (4, pt p15 0), (8, pt p16 0), (9, v17), (15, v4), (16, .int .i64 (l5.length : Int)), (17, .int .i64 x19)] ∧ Sep w (Blk p10 41 [(.slice q11 x1.Nodes.length x12), (.slice q13 x1.Turns.length x14)] :: Blk p15 41 [.slice none 0 0, .slice none 0 0] :: Blk p16 41 [v20, v22] :: Row 51 k_api_Result v17 l18 :: Fo) rs24 ∧ (∀ r, r ∈ rs → r ∈ rs24) ∧ rSl k_api_Piece v4 l5 ∈ rs24 ∧ rSl k_api_Node (.slice q11 x1.Nodes.length x12) x1.Nodes ∈ rs24 ∧ rSl k_api_Turn (.slice q13 x1.Turns.length x14) x1.Turns ∈ rs24 ∧ rSl k_api_Node v20 l21 ∈ rs24 ∧ rSl k_api_Turn v22 l23 ∈ rs24 ∧ rTab Tryz.prog ∈ rs24 ∧ m_multi_All_l1 l5 x1 k1 l18 x19 l21 l23 = some r) (((l5.length : Int) - 0 : Int).toNat + 1) ?_ ?_
 ·exact have H:=H.nilRow 51 k_api_Result;have H:=H.front 0 rfl;have H:=H.front 1 rfl;have H:=H.front 2 rfl;have H:=H.front 3 rfl;⟨(.slice none 0 0), (.slice q11 x1.Nodes.length x12), (.slice q13 x1.Turns.length x14), [], 0, x1.Nodes, x1.Turns, _, E.sel [2, 4, 8, 9, 15, 16, 17] rfl, H, fun r hr => hr, hr8, hr6, hr7, hr6, hr7, hr9, hm⟩
 ·clear E H hm
  rintro k1 a w ⟨v17, v20, v22, l18, x19, l21, l23, rs24, E, H, hs25, hr26, hr27, hr28, hr29, hr30, hr31, hm⟩
  cases k1 with
  | zero => exact (none_some hm rfl).elim
  | succ k1 =>
   unfold m_multi_All_l1 at hm
   refine sq<|pr 1 E rfl fun a E=>nt<|wp_seq<|wif E hm rfl (fun hm=>?_) fun hm=>?_
   ·refine wp_skip<|q_then<|wp_seq<|wp_block<|sq<|pr 1 E rfl fun a E=>bd hm fun x32 hx33 hm=>st_ixS E H (wn rfl) rfl rfl rfl rfl rfl hr26 Tryz.underlying36 sz64 hx33 fun q34 a H E=>ldf k_api_Piece_flat E H rfl rfl rfl rfl rfl m0 Tryz.underlying64 rfl sz64 fun a E=>?_
    refine al E H rfl rfl rfl rfl zr64 fun p35 w a H E=>pr 1 E rfl fun a E=>st_st (i := 0) E H (wn rfl) rfl (us := (l_api_Piece x32)) rfl rfl rfl rfl rfl sz64 rfl rfl fun w H=>nx<|sv E rfl rfl rfl (x_ldBN (i := 3) (us := [v20, v22]) E H rfl rfl rfl rfl Tryz.underlying41 rfl sz41) fun a E=>pr 1 E rfl fun a E=>sv E rfl rfl rfl (x_ldBN (i := 0) (us := (l_api_Part x32.Part)) E H rfl rfl rfl rfl Tryz.underlying62 rfl sz62) fun a E=>bd hm fun u36 hx37 hm=>x_cl E rfl rfl rfl rfl rfl cf42 (c_part_Do (⟨l21, l23⟩ : S_api_Store) v20 v22 x32.Part H (t1 hr29) (t1 hr30) (t1 hr31) hx37)<|?_
    rintro _ w ⟨v38, v39, v40, rfl, H⟩ a E
    refine pr 3 E rfl fun a E=>al E H rfl rfl rfl rfl zr41 fun p41 w a H E=>al E H rfl rfl rfl rfl zr51 fun p42 w a H E=>?_
    obtain ⟨q43, x44, rfl⟩ := H.slform m0
    obtain ⟨q45, x46, rfl⟩ := H.slform mm1
    refine st_st (i := 1) E H (wn rfl) rfl (us := [(.slice q43 u36.1.Nodes.length x44), (.slice q45 u36.1.Turns.length x46)]) rfl rfl rfl rfl rfl sz41 rfl rfl fun w H=>?_
    obtain ⟨q47, x48, rfl⟩ := H.slform mm2
    refine st_st (i := 0) E H (wn rfl) rfl (us := (l_api_Result u36.2 (.slice q47 u36.2.Names.length x48))) rfl rfl rfl rfl rfl sz51 rfl rfl fun w H=>nt<|wp_seq<|sq<|pr 1 E rfl fun a E=>lb E H 0 rfl rfl rfl rfl rfl rfl rfl Tryz.underlying27 rfl fun a E=>pr 1 E rfl fun a E=>nt<|wif E hm rfl (fun hm=>?_) fun hm=>?_
    ·refine wp_seq<|dw [(0, 0), (1, 0), (2, 0), (3, 0), (4, 1), (5, 1), (6, 1), (7, 2)] [0, 3] [] H (by kernel_rfl) (fun _ _ _ h => False.elim h.2) fun w W0 hI H=>fbn E [(.slice q11 x1.Nodes.length x12), (.slice q13 x1.Turns.length x14)] rfl (wn rfl) rfl rfl rfl rfl mm1 rfl Tryz.underlying41 rfl sz41 fun a E=>fn 1 E rfl fun a E=>fb E rfl (wn rfl) rfl rfl rfl rfl m0 rfl Tryz.underlying27 rfl fun a E=>fn 1 E rfl fun a E=>fr_op rfl<|st_st (i := 4) E H (wn rfl) rfl (us := [(.slice q11 x1.Nodes.length x12), (.slice q13 x1.Turns.length x14)]) rfl rfl rfl rfl rfl sz41 rfl rfl fun w H=>nt<|?_
     refine ⟨⟨_, _, H, (subO_cons m0 (subO_cons mm3 (subO_nil))), (sub_nil)⟩, ?_⟩
     refine fr_op rfl<|pr 1 E rfl fun a E=>nt<|?_
     refine ⟨⟨_, _, H, (subO_cons m0 (subO_cons mm3 (subO_nil))), (sub_nil)⟩, ?_⟩
     refine fr_op rfl<|pr 1 E rfl fun a E=>nt<|?_
     refine ⟨⟨_, _, H, (subO_cons m0 (subO_cons mm3 (subO_nil))), (sub_nil)⟩, ?_⟩
     refine fr_tail rfl<|pr 1 E rfl fun a E=>nt<|fr_nil<|?_
     clear hI
     refine q_then<|wp_ret<|q_thenR<|q_blkR<|q_thenR<|q_thenR<|q_blkR<|q_thenR<|outR4 E rfl (rvBN (i := 4) (us := [(.slice q11 x1.Nodes.length x12), (.slice q13 x1.Turns.length x14)]) H rfl rfl rfl Tryz.underlying41 rfl sz41) (rvT rfl) (rvT rfl) (rvT rfl)<|?_
     refine have H:=H.nilRow 51 k_api_Result;have H:=H.drop 1;have H:=H.drop 1;have H:=H.drop 1;have H:=H.drop 1;have H:=H.drop 1;have H:=H.drop 1;have H:=H.drop 1;?_
     cases hm
     exact ⟨(.slice q11 x1.Nodes.length x12), (.slice q13 x1.Turns.length x14), (.slice none 0 0), rfl, H.reads (sub_cons (t4 hr27) (sub_cons (t4 hr28) (fun r hr => (t4 (hs25 r hr)))))⟩
    ·refine wp_skip<|q_then<|sq<|sv E rfl rfl rfl (x_ldBN (i := 1) (us := [(.slice q43 u36.1.Nodes.length x44), (.slice q45 u36.1.Turns.length x46)]) E H rfl rfl rfl rfl Tryz.underlying41 rfl sz41) fun a E=>st_st (i := 5) E H (wn rfl) rfl (us := [(.slice q43 u36.1.Nodes.length x44), (.slice q45 u36.1.Turns.length x46)]) rfl rfl rfl rfl rfl sz41 rfl rfl fun w H=>nt<|wp_region_lit<|pr 1 E rfl fun a E=>sv E rfl rfl rfl (x_ldBN (i := 0) (us := (l_api_Result u36.2 (.slice q47 u36.2.Names.length x48))) E H rfl rfl rfl rfl Tryz.underlying51 rfl sz51) fun a E=>?_
     refine st_bsR (e := 51) (d := k_api_Result) (cs := [.int .i64 u36.2.Err, .string u36.2.Path, .string u36.2.Data, .int .i64 u36.2.Version, (.slice q47 u36.2.Names.length x48)]) (xs := [u36.2]) E H (wn rfl) rfl rfl rfl (E.evs rfl) (by kernel_rfl) rfl (fun ok hr => (Rows.single (d := k_api_Result) (cs := [.int .i64 u36.2.Err, .string u36.2.Path, .string u36.2.Data, .int .i64 u36.2.Version, (.slice q47 u36.2.Names.length x48)]) (x := u36.2) (k_api_Result_mk (hr _ mm2)))) fun v49 w a H E=>bk hm fun hx52 hm=>st_append (i := 6) E H (wn rfl) rfl rfl rfl rfl rfl rfl (src_rd m0) Tryz.underlying28 inf51 rfl hx52 rfl fun v50 w a H E=>pr 1 E rfl fun a E=>wpList_nil<|q_blk<|q_then<|wp_region_lit<|pr 2 E rfl fun a E=>?_
     exact nt<|have H:=H.drop 0;have H:=H.drop 0;have H:=H.drop 0;⟨k1, Nat.lt_succ_self k1, v50, (.slice q43 u36.1.Nodes.length x44), (.slice q45 u36.1.Turns.length x46), l18 ++ ([u36.2] : List S_api_Result), IntKind.i64.wrap (x19 + 1), u36.1.Nodes, u36.1.Turns, _, E.sel [2, 4, 8, 9, 15, 16, 17] rfl, H, fun r hr => (t5 (hs25 r hr)), (t5 hr26), (t5 hr27), (t5 hr28), mm1, mm2, (t5 hr31), hm⟩
   ·refine wp_exit<|q_thenX<|q_thenX<|q_hit<|q_then<|sq<|sv E rfl rfl rfl (x_ldBN (i := 2) (us := [v20, v22]) E H rfl rfl rfl rfl Tryz.underlying41 rfl sz41) fun a E=>pr 1 E rfl fun a E=>?_
    obtain ⟨q53, x54, rfl⟩ := H.slform hr29
    obtain ⟨q55, x56, rfl⟩ := H.slform hr30
    refine st_st (i := 1) E H (wn rfl) rfl (us := [(.slice q53 l21.length x54), (.slice q55 l23.length x56)]) rfl rfl rfl rfl rfl sz41 rfl rfl fun w H=>pr 3 E rfl fun a E=>nt<|wp_ret<|outR4 E rfl (rvBN (i := 1) (us := [(.slice q53 l21.length x54), (.slice q55 l23.length x56)]) H rfl rfl rfl Tryz.underlying41 rfl sz41) (rvT rfl) (rvT rfl) (rvT rfl)<|have H:=H.drop 0;have H:=H.drop 0;have H:=H.drop 0;?_
    cases hm
    exact ⟨(.slice q53 l21.length x54), (.slice q55 l23.length x56), v17, rfl, H.reads (sub_cons hr29 (sub_cons hr30 (hs25)))⟩

def m_nodes_New : Option (List S_api_Node) :=
  some (([(⟨(ByteArray.mk #[47]), (ByteArray.mk #[]), 0, 0, 0⟩ : S_api_Node)] : List S_api_Node))
theorem c_nodes_New {w : World} {Fo : List Ob} {rs : List Rp} (H : Sep w (Fo) rs) {r : (List S_api_Node)} (hm : m_nodes_New = some r) :
    Calls Tryz.prog 54 [].toArray w (Ret fun v w' => ∃ (v5001 : Value), v5001 = v ∧ Sep w' (Row 80 k_api_Node v5001 r :: Fo) (rs)) := by
 unfold m_nodes_New at hm
 refine enter Tryz.func54 rfl Tryz.ntmps54 rfl fun a E =>?_
 simp only [enum, Nat.reduceAdd] at E
 refine sq<|pr 1 E rfl fun a E=>nx<|sv E rfl rfl rfl (x_build E rfl (E.evs rfl) (v := .agg #[.string (ByteArray.mk #[47]), .string (ByteArray.mk #[]), .int .i64 0, .int .i64 0, .int .i64 0]) (by kernel_rfl)) fun a E=>st_bsO (e := 80) (d := k_api_Node) (cs := [.string (ByteArray.mk #[47]), .string (ByteArray.mk #[]), .int .i64 0, .int .i64 0, .int .i64 0]) (xs := [(⟨(ByteArray.mk #[47]), (ByteArray.mk #[]), 0, 0, 0⟩ : S_api_Node)]) E H (wn rfl) rfl rfl rfl (E.evs rfl) (by kernel_rfl) rfl rfl (fun ok hr => (Rows.single (d := k_api_Node) (cs := [.string (ByteArray.mk #[47]), .string (ByteArray.mk #[]), .int .i64 0, .int .i64 0, .int .i64 0]) (x := (⟨(ByteArray.mk #[47]), (ByteArray.mk #[]), 0, 0, 0⟩ : S_api_Node)) k_api_Node_mk)) fun v1 w a H E=>pr 1 E rfl fun a E=>nt<|wp_ret<|out1 E rfl rfl<|?_
 cases hm
 exact ⟨v1, rfl, H.reads (fun r hr => hr)⟩

def m_part_Keep_j1 (rec_1 : Int → (List S_api_Node) → (List S_api_Turn) → Option S_api_Store) (l8 : (List S_api_Node)) (x14 : S_api_Node) (x6 : Int) (l19 : (List S_api_Turn)) : Option S_api_Store :=
  (ck (l8.length + ([(⟨x14.Path, x14.Data, x14.Version, 0, x14.Owner⟩ : S_api_Node)] : List S_api_Node).length ≤ LIM)).bind fun u25 => rec_1 (IntKind.i64.wrap (x6 + 1)) (l8 ++ ([(⟨x14.Path, x14.Data, x14.Version, 0, x14.Owner⟩ : S_api_Node)] : List S_api_Node)) l19
def m_part_Keep_l1 (l2 : List S_api_Node) : Nat → Int → (List S_api_Node) → (List S_api_Turn) → Option S_api_Store
  | 0, _, _, _ => none
  | k1 + 1, x6, l8, l10 =>
    if (decide (x6 < (l2.length : Int))) = true then ((idx l2 x6).bind fun x14 => if (x14.Turn != 0) = true then ((ck (l10.length + ([(⟨x14.Path, x14.Turn⟩ : S_api_Turn)] : List S_api_Turn).length ≤ LIM)).bind fun u31 => m_part_Keep_j1 (m_part_Keep_l1 l2 k1) l8 x14 x6 (l10 ++ ([(⟨x14.Path, x14.Turn⟩ : S_api_Turn)] : List S_api_Turn))) else (m_part_Keep_j1 (m_part_Keep_l1 l2 k1) l8 x14 x6 l10)) else (some ((⟨l8, l10⟩ : S_api_Store)))
def m_part_Keep (l2 : List S_api_Node) : Option S_api_Store :=
  m_part_Keep_l1 l2 (((l2.length : Int) - 0 : Int).toNat + 1) 0 [] []
theorem c_part_Keep {w : World} {Fo : List Ob} {rs : List Rp} (v1 : Value) (l2 : List S_api_Node) (H : Sep w (Fo) rs) (hr3 : rSl k_api_Node v1 l2 ∈ rs) {r : S_api_Store} (hm : m_part_Keep l2 = some r) :
    Calls Tryz.prog 39 [v1].toArray w (Ret fun v w' => ∃ (v5002 : Value) (v5003 : Value), .agg #[v5002, v5003] = v ∧ Sep w' (Fo) (rSl k_api_Node v5002 r.Nodes :: rSl k_api_Turn v5003 r.Turns :: rs)) := by
 unfold m_part_Keep at hm
 refine enter Tryz.func39 rfl Tryz.ntmps39 rfl fun a E =>?_
 simp only [enum, Nat.reduceAdd] at E
 refine sq<|al E H rfl rfl rfl rfl zr41 fun p4 w a H E=>nx<|al E H rfl rfl rfl rfl zr41 fun p5 w a H E=>nt<|wp_seq<|sq<|pr 1 E rfl fun a E=>sv E rfl rfl rfl (x_lenS E H rfl rfl hr3 Tryz.underlying22) fun a E=>?_
 refine pr 1 E rfl fun a E=>nt<|wp_block<|wp_loop_g (fun k1 a w => ∃ (v7 : Value) (v9 : Value) (x6 : Int) (l8 : (List S_api_Node)) (l10 : (List S_api_Turn)) (rs11 : List Rp), Env 34 a [(2, pt p4 0), (3, pt p5 0), (6, v1), (7, .int .i64 (l2.length : Int)), (8, .int .i64 x6)] ∧ Sep w (Blk p4 41 [.slice none 0 0, .slice none 0 0] :: Blk p5 41 [v7, v9] :: Row 80 k_api_Node v7 l8 :: Row 83 k_api_Turn v9 l10 :: Fo) rs11 ∧ (∀ r, r ∈ rs → r ∈ rs11) ∧ rSl k_api_Node v1 l2 ∈ rs11 ∧ m_part_Keep_l1 l2 k1 x6 l8 l10 = some r) (((l2.length : Int) - 0 : Int).toNat + 1) ?_ ?_
 ·exact have H:=H.nilRow 80 k_api_Node;have H:=H.nilRow 83 k_api_Turn;have H:=H.front 0 rfl;have H:=H.front 1 rfl;have H:=H.front 2 rfl;have H:=H.front 3 rfl;⟨(.slice none 0 0), (.slice none 0 0), 0, [], [], _, E.sel [2, 3, 6, 7, 8] rfl, H, fun r hr => hr, hr3, hm⟩
 ·clear E H hm
  rintro k1 a w ⟨v7, v9, x6, l8, l10, rs11, E, H, hs12, hr13, hm⟩
  cases k1 with
  | zero => exact (none_some hm rfl).elim
  | succ k1 =>
   unfold m_part_Keep_l1 at hm
   refine sq<|pr 1 E rfl fun a E=>nt<|wp_seq<|wif E hm rfl (fun hm=>?_) fun hm=>?_
   ·refine wp_skip<|q_then<|wp_seq<|wp_block<|sq<|bd hm fun x14 hx15 hm=>st_ixS E H (wn rfl) rfl rfl rfl rfl rfl hr13 Tryz.underlying22 sz80 hx15 fun q16 a H E=>ldf k_api_Node_flat E H rfl rfl rfl rfl rfl m0 Tryz.underlying80 rfl sz80 fun a E=>al E H rfl rfl rfl rfl zr80 fun p17 w a H E=>?_
    refine st_st (i := 0) E H (wn rfl) rfl (us := (l_api_Node x14)) rfl rfl rfl rfl rfl sz80 rfl rfl fun w H=>nt<|wp_seq_cut (fun a w => ∃ (v18 : Value) (l19 : (List S_api_Turn)) (rs20 : List Rp), Env 34 a [(2, pt p4 0), (3, pt p5 0), (5, pt p17 0), (6, v1), (7, .int .i64 (l2.length : Int)), (8, .int .i64 x6)] ∧ Sep w (Blk p4 41 [.slice none 0 0, .slice none 0 0] :: Blk p5 41 [v7, v18] :: Blk p17 80 (l_api_Node x14) :: Row 80 k_api_Node v7 l8 :: Row 83 k_api_Turn v18 l19 :: Fo) rs20 ∧ (∀ r, r ∈ rs → r ∈ rs20) ∧ rSl k_api_Node v1 l2 ∈ rs20 ∧ m_part_Keep_j1 (m_part_Keep_l1 l2 k1) l8 x14 x6 l19 = some r) ?_ ?_
    ·refine sq<|pr 1 E rfl fun a E=>lb E H 0 rfl rfl rfl rfl rfl rfl rfl Tryz.underlying2 rfl fun a E=>pr 1 E rfl fun a E=>nt<|wif E hm rfl (fun hm=>?_) fun hm=>?_
     ·refine wp_region_lit<|pr 1 E rfl fun a E=>lb E H 2 rfl rfl rfl rfl rfl rfl rfl Tryz.underlying39 rfl fun a E=>pr 1 E rfl fun a E=>lb E H 0 rfl rfl rfl rfl rfl rfl rfl Tryz.underlying9 rfl fun a E=>pr 1 E rfl fun a E=>lb E H 0 rfl rfl rfl rfl rfl rfl rfl Tryz.underlying2 rfl fun a E=>sv E rfl rfl rfl (x_build E rfl (E.evs rfl) (v := .agg #[.string x14.Path, .int .i64 x14.Turn]) (by kernel_rfl)) fun a E=>st_bsR (e := 83) (d := k_api_Turn) (cs := [.string x14.Path, .int .i64 x14.Turn]) (xs := [(⟨x14.Path, x14.Turn⟩ : S_api_Turn)]) E H (wn rfl) rfl rfl rfl (E.evs rfl) (by kernel_rfl) rfl (fun ok hr => (Rows.single (d := k_api_Turn) (cs := [.string x14.Path, .int .i64 x14.Turn]) (x := (⟨x14.Path, x14.Turn⟩ : S_api_Turn)) k_api_Turn_mk)) fun v29 w a H E=>?_
      refine bk hm fun hx32 hm=>st_append (i := 4) E H (wn rfl) rfl rfl rfl rfl rfl rfl (src_rd m0) Tryz.underlying39 inf83 rfl hx32 rfl fun v30 w a H E=>pr 1 E rfl fun a E=>?_
      obtain ⟨q33, x34, rfl⟩ := H.rowform (i := 4) rfl
      exact st_st (i := 2) E H (wn rfl) rfl (us := [(.slice q33 (l10 ++ ([(⟨x14.Path, x14.Turn⟩ : S_api_Turn)] : List S_api_Turn)).length x34)]) rfl rfl rfl rfl rfl sz39 rfl rfl fun w H=>nt<|have H:=H.front 4 rfl;have H:=H.front 4 rfl;have H:=H.front 2 rfl;have H:=H.front 4 rfl;have H:=H.front 4 rfl;⟨(.slice q33 (l10 ++ ([(⟨x14.Path, x14.Turn⟩ : S_api_Turn)] : List S_api_Turn)).length x34), l10 ++ ([(⟨x14.Path, x14.Turn⟩ : S_api_Turn)] : List S_api_Turn), _, E.sel [2, 3, 5, 6, 7, 8] rfl, H, fun r hr => (t2 (hs12 r hr)), (t2 hr13), hm⟩
     ·exact wp_skip<|q_then<|have H:=H.front 4 rfl;have H:=H.front 4 rfl;have H:=H.front 2 rfl;have H:=H.front 4 rfl;have H:=H.front 4 rfl;⟨v9, l10, _, E.sel [2, 3, 5, 6, 7, 8] rfl, H, fun r hr => (t1 (hs12 r hr)), (t1 hr13), hm⟩
    ·clear E H hm
     rintro a w ⟨v18, l19, rs20, E, H, hs21, hr22, hm⟩
     unfold m_part_Keep_j1 at hm
     refine sq<|pr 1 E rfl fun a E=>st_st (i := 2) E H (wn rfl) rfl (us := [.int .i64 0]) rfl rfl rfl rfl rfl sz2 rfl rfl fun w H=>nt<|wp_region_lit<|pr 1 E rfl fun a E=>lb E H 1 rfl rfl rfl rfl rfl rfl rfl Tryz.underlying22 rfl fun a E=>sv E rfl rfl rfl (x_ldBN (i := 2) (us := [.string x14.Path, .string x14.Data, .int .i64 x14.Version, .int .i64 0, .int .i64 x14.Owner]) E H rfl rfl rfl rfl Tryz.underlying80 rfl sz80) fun a E=>st_bsR (e := 80) (d := k_api_Node) (cs := [.string x14.Path, .string x14.Data, .int .i64 x14.Version, .int .i64 0, .int .i64 x14.Owner]) (xs := [(⟨x14.Path, x14.Data, x14.Version, 0, x14.Owner⟩ : S_api_Node)]) E H (wn rfl) rfl rfl rfl (E.evs rfl) (by kernel_rfl) rfl (fun ok hr => (Rows.single (d := k_api_Node) (cs := [.string x14.Path, .string x14.Data, .int .i64 x14.Version, .int .i64 0, .int .i64 x14.Owner]) (x := (⟨x14.Path, x14.Data, x14.Version, 0, x14.Owner⟩ : S_api_Node)) k_api_Node_mk)) fun v23 w a H E=>?_
     refine bk hm fun hx26 hm=>st_append (i := 3) E H (wn rfl) rfl rfl rfl rfl rfl rfl (src_rd m0) Tryz.underlying22 inf80 rfl hx26 rfl fun v24 w a H E=>pr 1 E rfl fun a E=>?_
     obtain ⟨q27, x28, rfl⟩ := H.rowform (i := 3) rfl
     exact st_st (i := 1) E H (wn rfl) rfl (us := [(.slice q27 (l8 ++ ([(⟨x14.Path, x14.Data, x14.Version, 0, x14.Owner⟩ : S_api_Node)] : List S_api_Node)).length x28)]) rfl rfl rfl rfl rfl sz22 rfl rfl fun w H=>wpList_nil<|q_blk<|q_then<|wp_region_lit<|pr 2 E rfl fun a E=>nt<|have H:=H.drop 2;⟨k1, Nat.lt_succ_self k1, (.slice q27 (l8 ++ ([(⟨x14.Path, x14.Data, x14.Version, 0, x14.Owner⟩ : S_api_Node)] : List S_api_Node)).length x28), v18, IntKind.i64.wrap (x6 + 1), l8 ++ ([(⟨x14.Path, x14.Data, x14.Version, 0, x14.Owner⟩ : S_api_Node)] : List S_api_Node), l19, _, E.sel [2, 3, 6, 7, 8] rfl, H, fun r hr => (t1 (hs21 r hr)), (t1 hr22), hm⟩
   ·refine wp_exit<|q_thenX<|q_thenX<|q_hit<|q_then<|sq<|sv E rfl rfl rfl (x_ldBN (i := 1) (us := [v7, v9]) E H rfl rfl rfl rfl Tryz.underlying41 rfl sz41) fun a E=>?_
    obtain ⟨q35, x36, rfl⟩ := H.rowform (i := 2) rfl
    obtain ⟨q37, x38, rfl⟩ := H.rowform (i := 3) rfl
    refine st_st (i := 0) E H (wn rfl) rfl (us := [(.slice q35 l8.length x36), (.slice q37 l10.length x38)]) rfl rfl rfl rfl rfl sz41 rfl rfl fun w H=>nt<|wp_ret<|outR1 E rfl (rvBN (i := 0) (us := [(.slice q35 l8.length x36), (.slice q37 l10.length x38)]) H rfl rfl rfl Tryz.underlying41 rfl sz41)<|have H:=H.thaw (i := 2) rfl;have H:=H.thaw (i := 2) rfl;have H:=H.drop 0;have H:=H.drop 0;?_
    cases hm
    exact ⟨(.slice q35 l8.length x36), (.slice q37 l10.length x38), rfl, H.reads (sub_cons mm1 (sub_cons m0 (fun r hr => (t2 (hs12 r hr)))))⟩

def m_cantonlaw08_head : Option Bool :=
  m_nodes_New.bind fun u2 => (m_multi_Apply u2 ([(⟨1, (ByteArray.mk #[47, 97]), (ByteArray.mk #[]), 0, 0, false⟩ : S_api_Op), (⟨1, (ByteArray.mk #[47, 97, 47, 98]), (ByteArray.mk #[]), 0, 0, false⟩ : S_api_Op)] : List S_api_Op)).bind fun u8 => (m_multi_Apply u2 ([(⟨1, (ByteArray.mk #[47, 97]), (ByteArray.mk #[]), 0, 0, false⟩ : S_api_Op), (⟨1, (ByteArray.mk #[47, 97, 47, 98]), (ByteArray.mk #[]), 0, 0, false⟩ : S_api_Op), (⟨1, (ByteArray.mk #[47, 97]), (ByteArray.mk #[]), 0, 0, false⟩ : S_api_Op)] : List S_api_Op)).bind fun u16 => (m_multi_Of ([(⟨1, (ByteArray.mk #[47, 97]), (ByteArray.mk #[]), 0, 0, false⟩ : S_api_Op), (⟨1, (ByteArray.mk #[47, 97, 47, 98]), (ByteArray.mk #[]), 0, 0, false⟩ : S_api_Op)] : List S_api_Op)).bind fun u24 => (m_part_Keep u2).bind fun u27 => (m_multi_All u27 u24).bind fun u31 => if ((u8.1.length : Int) == 3) = true then (if (u8.2.Err == 0) = true then (if ((u8.2.Results.length : Int) == 2) = true then (if ((u16.1.length : Int) == 1) = true then (if (u16.2.Err == 61) = true then (if (u16.2.At == 2) = true then (if ((u24.length : Int) == 4) = true then ((idx u24 2).bind fun x48 => if (x48.Op == 1) = true then (if ((u31.2.1.length : Int) == 4) = true then (if (u31.2.2.1 == 0) = true then (if (u31.2.2.2 == 0) = true then ((m_multi_May ([] : List S_api_Op)).bind fun u55 => some (!u55)) else (some (false))) else (some (false))) else (some (false))) else (some (false))) else (some (false))) else (some (false))) else (some (false))) else (some (false))) else (some (false))) else (some (false))) else (some (false))
theorem c_cantonlaw08_head {w : World} {Fo : List Ob} {rs : List Rp} (H : Sep w (Fo) rs) (hr1 : rTab Tryz.prog ∈ rs) {r : Bool} (hm : m_cantonlaw08_head = some r) :
    Calls Tryz.prog 14 [].toArray w (Ret fun v w' => .bool r = v ∧ Sep w' (Fo) (rs)) := by
 unfold m_cantonlaw08_head at hm
 refine enter Tryz.func14 rfl Tryz.ntmps14 rfl fun a E =>?_
 simp only [enum, Nat.reduceAdd] at E
 refine sq<|pr 1 E rfl fun a E=>nx<|bd hm fun u2 hx3 hm=>x_cl E rfl rfl rfl rfl rfl cf54 (c_nodes_New H hx3)<|?_
 rintro _ w ⟨v4, rfl, H⟩ a E
 refine pr 1 E rfl fun a E=>nx<|sv E rfl rfl rfl (x_build E rfl (E.evs rfl) (v := .agg #[.int .i64 1, .string (ByteArray.mk #[47, 97]), .string (ByteArray.mk #[]), .int .i64 0, .int .i64 0, .bool false]) (by kernel_rfl)) fun a E=>al E H rfl rfl rfl rfl zr55 fun p5 w a H E=>st_st (i := 0) E H (wn rfl) rfl (us := [.int .i64 1, .string (ByteArray.mk #[47, 97]), .string (ByteArray.mk #[]), .int .i64 0, .int .i64 0, .bool false]) rfl rfl rfl rfl rfl sz55 rfl rfl fun w H=>nx<|sv E rfl rfl rfl (x_build E rfl (E.evs rfl) (v := .agg #[.int .i64 1, .string (ByteArray.mk #[47, 97, 47, 98]), .string (ByteArray.mk #[]), .int .i64 0, .int .i64 0, .bool false]) (by kernel_rfl)) fun a E=>al E H rfl rfl rfl rfl zr55 fun p6 w a H E=>st_st (i := 0) E H (wn rfl) rfl (us := [.int .i64 1, .string (ByteArray.mk #[47, 97, 47, 98]), .string (ByteArray.mk #[]), .int .i64 0, .int .i64 0, .bool false]) rfl rfl rfl rfl rfl sz55 rfl rfl fun w H=>?_
 refine nx<|pr 1 E rfl fun a E=>sv E rfl rfl rfl (x_ldBN (i := 1) (us := [.int .i64 1, .string (ByteArray.mk #[47, 97]), .string (ByteArray.mk #[]), .int .i64 0, .int .i64 0, .bool false]) E H rfl rfl rfl rfl Tryz.underlying55 rfl sz55) fun a E=>sv E rfl rfl rfl (x_ldBN (i := 0) (us := [.int .i64 1, .string (ByteArray.mk #[47, 97, 47, 98]), .string (ByteArray.mk #[]), .int .i64 0, .int .i64 0, .bool false]) E H rfl rfl rfl rfl Tryz.underlying55 rfl sz55) fun a E=>st_bsO (e := 55) (d := k_api_Op) (cs := [.int .i64 1, .string (ByteArray.mk #[47, 97]), .string (ByteArray.mk #[]), .int .i64 0, .int .i64 0, .bool false, .int .i64 1, .string (ByteArray.mk #[47, 97, 47, 98]), .string (ByteArray.mk #[]), .int .i64 0, .int .i64 0, .bool false]) (xs := [(⟨1, (ByteArray.mk #[47, 97]), (ByteArray.mk #[]), 0, 0, false⟩ : S_api_Op), (⟨1, (ByteArray.mk #[47, 97, 47, 98]), (ByteArray.mk #[]), 0, 0, false⟩ : S_api_Op)]) E H (wn rfl) rfl rfl rfl (E.evs rfl) (by kernel_rfl) rfl rfl (fun ok hr => (Rows.append (Rows.single (d := k_api_Op) (cs := [.int .i64 1, .string (ByteArray.mk #[47, 97]), .string (ByteArray.mk #[]), .int .i64 0, .int .i64 0, .bool false]) (x := (⟨1, (ByteArray.mk #[47, 97]), (ByteArray.mk #[]), 0, 0, false⟩ : S_api_Op)) k_api_Op_mk) (Rows.single (d := k_api_Op) (cs := [.int .i64 1, .string (ByteArray.mk #[47, 97, 47, 98]), .string (ByteArray.mk #[]), .int .i64 0, .int .i64 0, .bool false]) (x := (⟨1, (ByteArray.mk #[47, 97, 47, 98]), (ByteArray.mk #[]), 0, 0, false⟩ : S_api_Op)) k_api_Op_mk))) fun v7 w a H E=>have H:=H.thaw (i := 3) rfl;have H:=H.thaw (i := 0) rfl;bd hm fun u8 hx9 hm=>x_cl E rfl rfl rfl rfl rfl cf17 (c_multi_Apply v4 u2 v7 ([(⟨1, (ByteArray.mk #[47, 97]), (ByteArray.mk #[]), 0, 0, false⟩ : S_api_Op), (⟨1, (ByteArray.mk #[47, 97, 47, 98]), (ByteArray.mk #[]), 0, 0, false⟩ : S_api_Op)] : List S_api_Op) H mm1 m0 (t2 hr1) hx9)<|?_
 rintro _ w ⟨v10, v11, rfl, H⟩ a E
 refine pr 3 E rfl fun a E=>al E H rfl rfl rfl rfl zr30 fun p12 w a H E=>pr 1 E rfl fun a E=>?_
 obtain ⟨q13, x14, rfl⟩ := H.slform mm1
 refine st_st (i := 0) E H (wn rfl) rfl (us := (l_api_Done u8.2 (.slice q13 u8.2.Results.length x14))) rfl rfl rfl rfl rfl sz30 rfl rfl fun w H=>nx<|pr 1 E rfl fun a E=>sv E rfl rfl rfl (x_ldBN (i := 2) (us := [.int .i64 1, .string (ByteArray.mk #[47, 97]), .string (ByteArray.mk #[]), .int .i64 0, .int .i64 0, .bool false]) E H rfl rfl rfl rfl Tryz.underlying55 rfl sz55) fun a E=>sv E rfl rfl rfl (x_ldBN (i := 1) (us := [.int .i64 1, .string (ByteArray.mk #[47, 97, 47, 98]), .string (ByteArray.mk #[]), .int .i64 0, .int .i64 0, .bool false]) E H rfl rfl rfl rfl Tryz.underlying55 rfl sz55) fun a E=>sv E rfl rfl rfl (x_ldBN (i := 2) (us := [.int .i64 1, .string (ByteArray.mk #[47, 97]), .string (ByteArray.mk #[]), .int .i64 0, .int .i64 0, .bool false]) E H rfl rfl rfl rfl Tryz.underlying55 rfl sz55) fun a E=>st_bsO (e := 55) (d := k_api_Op) (cs := [.int .i64 1, .string (ByteArray.mk #[47, 97]), .string (ByteArray.mk #[]), .int .i64 0, .int .i64 0, .bool false, .int .i64 1, .string (ByteArray.mk #[47, 97, 47, 98]), .string (ByteArray.mk #[]), .int .i64 0, .int .i64 0, .bool false, .int .i64 1, .string (ByteArray.mk #[47, 97]), .string (ByteArray.mk #[]), .int .i64 0, .int .i64 0, .bool false]) (xs := [(⟨1, (ByteArray.mk #[47, 97]), (ByteArray.mk #[]), 0, 0, false⟩ : S_api_Op), (⟨1, (ByteArray.mk #[47, 97, 47, 98]), (ByteArray.mk #[]), 0, 0, false⟩ : S_api_Op), (⟨1, (ByteArray.mk #[47, 97]), (ByteArray.mk #[]), 0, 0, false⟩ : S_api_Op)]) E H (wn rfl) rfl rfl rfl (E.evs rfl) (by kernel_rfl) rfl rfl (fun ok hr => (Rows.append (Rows.append (Rows.single (d := k_api_Op) (cs := [.int .i64 1, .string (ByteArray.mk #[47, 97]), .string (ByteArray.mk #[]), .int .i64 0, .int .i64 0, .bool false]) (x := (⟨1, (ByteArray.mk #[47, 97]), (ByteArray.mk #[]), 0, 0, false⟩ : S_api_Op)) k_api_Op_mk) (Rows.single (d := k_api_Op) (cs := [.int .i64 1, .string (ByteArray.mk #[47, 97, 47, 98]), .string (ByteArray.mk #[]), .int .i64 0, .int .i64 0, .bool false]) (x := (⟨1, (ByteArray.mk #[47, 97, 47, 98]), (ByteArray.mk #[]), 0, 0, false⟩ : S_api_Op)) k_api_Op_mk)) (Rows.single (d := k_api_Op) (cs := [.int .i64 1, .string (ByteArray.mk #[47, 97]), .string (ByteArray.mk #[]), .int .i64 0, .int .i64 0, .bool false]) (x := (⟨1, (ByteArray.mk #[47, 97]), (ByteArray.mk #[]), 0, 0, false⟩ : S_api_Op)) k_api_Op_mk))) fun v15 w a H E=>have H:=H.thaw (i := 0) rfl;bd hm fun u16 hx17 hm=>?_
 refine x_cl E rfl rfl rfl rfl rfl cf17 (c_multi_Apply v4 u2 v15 ([(⟨1, (ByteArray.mk #[47, 97]), (ByteArray.mk #[]), 0, 0, false⟩ : S_api_Op), (⟨1, (ByteArray.mk #[47, 97, 47, 98]), (ByteArray.mk #[]), 0, 0, false⟩ : S_api_Op), (⟨1, (ByteArray.mk #[47, 97]), (ByteArray.mk #[]), 0, 0, false⟩ : S_api_Op)] : List S_api_Op) H mm4 m0 (t5 hr1) hx17)<|?_
 rintro _ w ⟨v18, v19, rfl, H⟩ a E
 refine pr 3 E rfl fun a E=>al E H rfl rfl rfl rfl zr30 fun p20 w a H E=>pr 1 E rfl fun a E=>?_
 obtain ⟨q21, x22, rfl⟩ := H.slform mm1
 refine st_st (i := 0) E H (wn rfl) rfl (us := (l_api_Done u16.2 (.slice q21 u16.2.Results.length x22))) rfl rfl rfl rfl rfl sz30 rfl rfl fun w H=>nx<|sv E rfl rfl rfl (x_ldBN (i := 3) (us := [.int .i64 1, .string (ByteArray.mk #[47, 97]), .string (ByteArray.mk #[]), .int .i64 0, .int .i64 0, .bool false]) E H rfl rfl rfl rfl Tryz.underlying55 rfl sz55) fun a E=>sv E rfl rfl rfl (x_ldBN (i := 2) (us := [.int .i64 1, .string (ByteArray.mk #[47, 97, 47, 98]), .string (ByteArray.mk #[]), .int .i64 0, .int .i64 0, .bool false]) E H rfl rfl rfl rfl Tryz.underlying55 rfl sz55) fun a E=>st_bsO (e := 55) (d := k_api_Op) (cs := [.int .i64 1, .string (ByteArray.mk #[47, 97]), .string (ByteArray.mk #[]), .int .i64 0, .int .i64 0, .bool false, .int .i64 1, .string (ByteArray.mk #[47, 97, 47, 98]), .string (ByteArray.mk #[]), .int .i64 0, .int .i64 0, .bool false]) (xs := [(⟨1, (ByteArray.mk #[47, 97]), (ByteArray.mk #[]), 0, 0, false⟩ : S_api_Op), (⟨1, (ByteArray.mk #[47, 97, 47, 98]), (ByteArray.mk #[]), 0, 0, false⟩ : S_api_Op)]) E H (wn rfl) rfl rfl rfl (E.evs rfl) (by kernel_rfl) rfl rfl (fun ok hr => (Rows.append (Rows.single (d := k_api_Op) (cs := [.int .i64 1, .string (ByteArray.mk #[47, 97]), .string (ByteArray.mk #[]), .int .i64 0, .int .i64 0, .bool false]) (x := (⟨1, (ByteArray.mk #[47, 97]), (ByteArray.mk #[]), 0, 0, false⟩ : S_api_Op)) k_api_Op_mk) (Rows.single (d := k_api_Op) (cs := [.int .i64 1, .string (ByteArray.mk #[47, 97, 47, 98]), .string (ByteArray.mk #[]), .int .i64 0, .int .i64 0, .bool false]) (x := (⟨1, (ByteArray.mk #[47, 97, 47, 98]), (ByteArray.mk #[]), 0, 0, false⟩ : S_api_Op)) k_api_Op_mk))) fun v23 w a H E=>have H:=H.thaw (i := 0) rfl;bd hm fun u24 hx25 hm=>x_cl E rfl rfl rfl rfl rfl cf24 (c_multi_Of v23 ([(⟨1, (ByteArray.mk #[47, 97]), (ByteArray.mk #[]), 0, 0, false⟩ : S_api_Op), (⟨1, (ByteArray.mk #[47, 97, 47, 98]), (ByteArray.mk #[]), 0, 0, false⟩ : S_api_Op)] : List S_api_Op) H m0 hx25)<|?_
 rintro _ w ⟨v26, rfl, H⟩ a E
 refine pr 1 E rfl fun a E=>nx<|pr 1 E rfl fun a E=>bd hm fun u27 hx28 hm=>x_cl E rfl rfl rfl rfl rfl cf39 (c_part_Keep v4 u2 H (t1 mm6) hx28)<|?_
 rintro _ w ⟨v29, v30, rfl, H⟩ a E
 refine pr 1 E rfl fun a E=>have H:=H.thaw (i := 0) rfl;bd hm fun u31 hx32 hm=>x_cl E rfl rfl rfl rfl rfl cf28 (c_multi_All u27 v29 v30 v26 u24 H mm1 mm2 m0 (t3 (t8 hr1)) hx32)<|?_
 rintro _ w ⟨v33, v34, v35, rfl, H⟩ a E
 refine pr 5 E rfl fun a E=>al E H rfl rfl rfl rfl zr41 fun p36 w a H E=>?_
 obtain ⟨q37, x38, rfl⟩ := H.slform m0
 obtain ⟨q39, x40, rfl⟩ := H.slform mm1
 refine st_st (i := 0) E H (wn rfl) rfl (us := [(.slice q37 u31.1.Nodes.length x38), (.slice q39 u31.1.Turns.length x40)]) rfl rfl rfl rfl rfl sz41 rfl rfl fun w H=>pr 3 E rfl fun a E=>nx<|pr 1 E rfl fun a E=>sv E rfl rfl rfl (x_lenS E H rfl rfl (t3 mm6) Tryz.underlying22) fun a E=>pr 2 E rfl fun a E=>cs hm (fun hb41 hm=>?_) fun hb41 hm=>?_
 ·refine pk 1 E (kc 49 rfl hb41) rfl fun a E=>st_val E (ws' (d := 49) E rfl rfl rfl rfl hb41) rfl rfl (x_ldB (i := 3) E H rfl rfl rfl rfl Tryz.underlying27 rfl) fun a E=>pk 3 E (kc 49 rfl hb41) rfl fun a E=>cs hm (fun hb42 hm=>?_) fun hb42 hm=>?_
  ·refine pk 1 E (kc 54 rfl hb42) rfl fun a E=>st_val E (ws' (d := 54) E rfl rfl rfl rfl hb42) rfl rfl (x_ldB (i := 3) E H rfl rfl rfl rfl Tryz.underlying28 rfl) fun a E=>st_val E (ws' (d := 54) E rfl rfl rfl rfl hb42) rfl rfl (x_lenS E H rfl rfl (t4 mm6) Tryz.underlying28) fun a E=>pk 3 E (kc 54 rfl hb42) rfl fun a E=>cs hm (fun hb43 hm=>?_) fun hb43 hm=>?_
   ·refine pk 1 E (kc 60 rfl hb43) rfl fun a E=>st_val E (ws' (d := 60) E rfl rfl rfl rfl hb43) rfl rfl (x_lenS E H rfl rfl mm6 Tryz.underlying22) fun a E=>pk 3 E (kc 60 rfl hb43) rfl fun a E=>cs hm (fun hb44 hm=>?_) fun hb44 hm=>?_
    ·refine pk 1 E (kc 65 rfl hb44) rfl fun a E=>st_val E (ws' (d := 65) E rfl rfl rfl rfl hb44) rfl rfl (x_ldB (i := 2) E H rfl rfl rfl rfl Tryz.underlying27 rfl) fun a E=>pk 3 E (kc 65 rfl hb44) rfl fun a E=>cs hm (fun hb45 hm=>?_) fun hb45 hm=>?_
     ·refine pk 1 E (kc 70 rfl hb45) rfl fun a E=>st_val E (ws' (d := 70) E rfl rfl rfl rfl hb45) rfl rfl (x_ldB (i := 2) E H rfl rfl rfl rfl Tryz.underlying3 rfl) fun a E=>pk 3 E (kc 70 rfl hb45) rfl fun a E=>cs hm (fun hb46 hm=>?_) fun hb46 hm=>?_
      ·refine pk 1 E (kc 75 rfl hb46) rfl fun a E=>st_val E (ws' (d := 75) E rfl rfl rfl rfl hb46) rfl rfl (x_lenS E H rfl rfl mm2 Tryz.underlying36) fun a E=>pk 3 E (kc 75 rfl hb46) rfl fun a E=>cs hm (fun hb47 hm=>?_) fun hb47 hm=>?_
       ·refine pk 1 E (kc 80 rfl hb47) rfl fun a E=>bd hm fun x48 hx49 hm=>st_ixS E H (ws' (d := 80) E rfl rfl rfl rfl hb47) rfl rfl rfl rfl rfl mm2 Tryz.underlying36 sz64 hx49 fun q50 a H E=>have H:=H.derive1 m0 (rAt (kI .i64) (q50.add 0) x48.Op) (fun ok h => k_api_Piece_at0 h);pk 1 E (kc 80 rfl hb47) rfl fun a E=>st_val E (ws' (d := 80) E rfl rfl rfl rfl hb47) rfl rfl (x_ldA E H rfl rfl m0 Tryz.underlying3 rfl) fun a E=>pk 3 E (kc 80 rfl hb47) rfl fun a E=>cs hm (fun hb51 hm=>?_) fun hb51 hm=>?_
        ·refine pk 1 E (kc 87 rfl hb51) rfl fun a E=>st_val E (ws' (d := 87) E rfl rfl rfl rfl hb51) rfl rfl (x_lenR (i := 1) E H rfl rfl rfl Tryz.underlying28) fun a E=>pk 3 E (kc 87 rfl hb51) rfl fun a E=>cs hm (fun hb52 hm=>?_) fun hb52 hm=>?_
         ·refine pk 4 E (kc 92 rfl hb52) rfl fun a E=>cs hm (fun hb53 hm=>?_) fun hb53 hm=>?_
          ·refine pk 4 E (kc 96 rfl hb53) rfl fun a E=>cs hm (fun hb54 hm=>?_) fun hb54 hm=>?_
           ·refine have H:=H.nilSl k_api_Op;bd hm fun u55 hx56 hm=>st_call E (ws' (d := 100) E rfl rfl rfl rfl hb54) rfl rfl (x_call E rfl rfl (cf19 _)) (c_multi_May (.slice none 0 0) ([] : List S_api_Op) H m0 hx56)<|?_
            rintro _ w ⟨rfl, H⟩ a E
            refine pk 3 E (kc 100 rfl hb54) rfl fun a E=>nt<|wp_ret<|out1 E rfl rfl<|have H:=H.drop 0;have H:=H.drop 0;have H:=H.drop 0;have H:=H.drop 0;have H:=H.drop 0;?_
            refine have H:=H.drop 0;?_
            cases hm
            exact ⟨rfl, H.reads (fun r hr => (t8 (t8 hr)))⟩
           ·refine pk 4 E (kc 100 rfl hb54) rfl fun a E=>nt<|wp_ret<|out1 E rfl rfl<|have H:=H.drop 0;have H:=H.drop 0;have H:=H.drop 0;have H:=H.drop 0;have H:=H.drop 0;?_
            refine have H:=H.drop 0;?_
            cases hm
            exact ⟨rfl, H.reads (fun r hr => (t7 (t8 hr)))⟩
          ·refine pk 8 E (kc 96 rfl hb53) rfl fun a E=>nt<|wp_ret<|out1 E rfl rfl<|have H:=H.drop 0;have H:=H.drop 0;have H:=H.drop 0;have H:=H.drop 0;have H:=H.drop 0;?_
           refine have H:=H.drop 0;?_
           cases hm
           exact ⟨rfl, H.reads (fun r hr => (t7 (t8 hr)))⟩
         ·refine pk 12 E (kc 92 rfl hb52) rfl fun a E=>nt<|wp_ret<|out1 E rfl rfl<|have H:=H.drop 0;have H:=H.drop 0;have H:=H.drop 0;have H:=H.drop 0;have H:=H.drop 0;?_
          refine have H:=H.drop 0;?_
          cases hm
          exact ⟨rfl, H.reads (fun r hr => (t7 (t8 hr)))⟩
        ·refine pk 17 E (kc 87 rfl hb51) rfl fun a E=>nt<|wp_ret<|out1 E rfl rfl<|have H:=H.drop 0;have H:=H.drop 0;have H:=H.drop 0;have H:=H.drop 0;have H:=H.drop 0;?_
         refine have H:=H.drop 0;?_
         cases hm
         exact ⟨rfl, H.reads (fun r hr => (t7 (t8 hr)))⟩
       ·refine pk 24 E (kc 80 rfl hb47) rfl fun a E=>nt<|wp_ret<|out1 E rfl rfl<|have H:=H.drop 0;have H:=H.drop 0;have H:=H.drop 0;have H:=H.drop 0;have H:=H.drop 0;?_
        refine have H:=H.drop 0;?_
        cases hm
        exact ⟨rfl, H.reads (fun r hr => (t5 (t8 hr)))⟩
      ·refine pk 29 E (kc 75 rfl hb46) rfl fun a E=>nt<|wp_ret<|out1 E rfl rfl<|have H:=H.drop 0;have H:=H.drop 0;have H:=H.drop 0;have H:=H.drop 0;have H:=H.drop 0;?_
       refine have H:=H.drop 0;?_
       cases hm
       exact ⟨rfl, H.reads (fun r hr => (t5 (t8 hr)))⟩
     ·refine pk 34 E (kc 70 rfl hb45) rfl fun a E=>nt<|wp_ret<|out1 E rfl rfl<|have H:=H.drop 0;have H:=H.drop 0;have H:=H.drop 0;have H:=H.drop 0;have H:=H.drop 0;?_
      refine have H:=H.drop 0;?_
      cases hm
      exact ⟨rfl, H.reads (fun r hr => (t5 (t8 hr)))⟩
    ·refine pk 39 E (kc 65 rfl hb44) rfl fun a E=>nt<|wp_ret<|out1 E rfl rfl<|have H:=H.drop 0;have H:=H.drop 0;have H:=H.drop 0;have H:=H.drop 0;have H:=H.drop 0;?_
     refine have H:=H.drop 0;?_
     cases hm
     exact ⟨rfl, H.reads (fun r hr => (t5 (t8 hr)))⟩
   ·refine pk 44 E (kc 60 rfl hb43) rfl fun a E=>nt<|wp_ret<|out1 E rfl rfl<|have H:=H.drop 0;have H:=H.drop 0;have H:=H.drop 0;have H:=H.drop 0;have H:=H.drop 0;?_
    refine have H:=H.drop 0;?_
    cases hm
    exact ⟨rfl, H.reads (fun r hr => (t5 (t8 hr)))⟩
  ·refine pk 50 E (kc 54 rfl hb42) rfl fun a E=>nt<|wp_ret<|out1 E rfl rfl<|have H:=H.drop 0;have H:=H.drop 0;have H:=H.drop 0;have H:=H.drop 0;have H:=H.drop 0;?_
   refine have H:=H.drop 0;?_
   cases hm
   exact ⟨rfl, H.reads (fun r hr => (t5 (t8 hr)))⟩
 ·refine pk 55 E (kc 49 rfl hb41) rfl fun a E=>nt<|wp_ret<|out1 E rfl rfl<|have H:=H.drop 0;have H:=H.drop 0;have H:=H.drop 0;have H:=H.drop 0;have H:=H.drop 0;?_
  refine have H:=H.drop 0;?_
  cases hm
  exact ⟨rfl, H.reads (fun r hr => (t5 (t8 hr)))⟩

def m_cantonlaw08_GreatOps_l1 (l2 : List S_api_Op) : Nat → Int → Option Bool
  | 0, _ => none
  | k1 + 1, x4 =>
    if (decide (x4 < (l2.length : Int))) = true then ((idx l2 x4).bind fun x8 => (m_cantonlaw06_GreatOp x8).bind fun u11 => if u11 = true then (some (true)) else (m_cantonlaw08_GreatOps_l1 l2 k1 (IntKind.i64.wrap (x4 + 1)))) else (some (false))
def m_cantonlaw08_GreatOps (l2 : List S_api_Op) : Option Bool :=
  if (decide ((l2.length : Int) > 40)) = true then (some (true)) else (m_cantonlaw08_GreatOps_l1 l2 (((l2.length : Int) - 0 : Int).toNat + 1) 0)
theorem c_cantonlaw08_GreatOps {w : World} {Fo : List Ob} {rs : List Rp} (v1 : Value) (l2 : List S_api_Op) (H : Sep w (Fo) rs) (hr3 : rSl k_api_Op v1 l2 ∈ rs) {r : Bool} (hm : m_cantonlaw08_GreatOps l2 = some r) :
    Calls Tryz.prog 16 [v1].toArray w (Ret fun v w' => .bool r = v ∧ Sep w' (Fo) (rs)) := by
 unfold m_cantonlaw08_GreatOps at hm
 refine enter Tryz.func16 rfl Tryz.ntmps16 rfl fun a E =>?_
 simp only [enum, Nat.reduceAdd] at E
 refine sq<|pr 1 E rfl fun a E=>nt<|wp_seq<|sq<|pr 1 E rfl fun a E=>sv E rfl rfl rfl (x_lenS E H rfl rfl hr3 Tryz.underlying23) fun a E=>pr 1 E rfl fun a E=>nt<|wif E hm rfl (fun hm=>?_) fun hm=>?_
 ·refine sq<|pr 1 E rfl fun a E=>nt<|wp_ret<|q_thenR<|out1 E rfl rfl<|?_
  cases hm
  exact ⟨rfl, H.reads (fun r hr => hr)⟩
 ·refine wp_skip<|q_then<|wp_seq<|sq<|pr 1 E rfl fun a E=>nt<|wp_block<|wp_loop_g (fun k1 a w => ∃ (x4 : Int) (rs5 : List Rp), Env 18 a [(0, v1), (3, .int .i64 x4)] ∧ Sep w (Fo) rs5 ∧ (∀ r, r ∈ rs → r ∈ rs5) ∧ rSl k_api_Op v1 l2 ∈ rs5 ∧ m_cantonlaw08_GreatOps_l1 l2 k1 x4 = some r) (((l2.length : Int) - 0 : Int).toNat + 1) ?_ ?_
  ·exact ⟨0, _, E.sel [0, 3] rfl, H, fun r hr => hr, hr3, hm⟩
  ·clear E H hm
   rintro k1 a w ⟨x4, rs5, E, H, hs6, hr7, hm⟩
   cases k1 with
   | zero => exact (none_some hm rfl).elim
   | succ k1 =>
    unfold m_cantonlaw08_GreatOps_l1 at hm
    refine wp_seq<|sq<|pr 2 E rfl fun a E=>sv E rfl rfl rfl (x_lenS E H rfl rfl hr7 Tryz.underlying23) fun a E=>pr 1 E rfl fun a E=>nt<|wif E hm rfl (fun hm=>?_) fun hm=>?_
    ·refine wp_skip<|q_then<|wp_seq<|wp_block<|sq<|pr 2 E rfl fun a E=>bd hm fun x8 hx9 hm=>st_ixS E H (wn rfl) rfl rfl rfl rfl rfl hr7 Tryz.underlying23 sz55 hx9 fun q10 a H E=>ldf k_api_Op_flat E H rfl rfl rfl rfl rfl m0 Tryz.underlying55 rfl sz55 fun a E=>?_
     refine bd hm fun u11 hx12 hm=>x_cl E rfl rfl rfl rfl rfl cf34 (c_cantonlaw06_GreatOp x8 H hx12)<|?_
     rintro _ w ⟨rfl, H⟩ a E
     refine nt<|wif E hm rfl (fun hm=>?_) fun hm=>?_
     ·refine sq<|pr 1 E rfl fun a E=>nt<|wp_ret<|q_blkR<|q_thenR<|q_thenR<|q_blkR<|q_thenR<|?_
      refine out1 E rfl rfl<|?_
      cases hm
      exact ⟨rfl, H.reads (fun r hr => (t1 (hs6 r hr)))⟩
     ·exact wp_skip<|q_blk<|q_then<|wp_region_lit<|pr 3 E rfl fun a E=>nt<|⟨k1, Nat.lt_succ_self k1, IntKind.i64.wrap (x4 + 1), _, E.sel [0, 3] rfl, H, fun r hr => (t1 (hs6 r hr)), (t1 hr7), hm⟩
    ·refine wp_exit<|q_thenX<|q_thenX<|q_hit<|q_then<|sq<|pr 1 E rfl fun a E=>nt<|wp_ret<|?_
     refine out1 E rfl rfl<|?_
     cases hm
     exact ⟨rfl, H.reads (hs6)⟩

def m_cantonref08_May_l1 (l2 : List S_api_Op) : Nat → Int → Option Bool
  | 0, _ => none
  | k1 + 1, x4 =>
    if (decide (x4 < (l2.length : Int))) = true then ((idx l2 x4).bind fun x8 => (m_cantonref06_May x8).bind fun u11 => if (!u11) = true then (some (false)) else (m_cantonref08_May_l1 l2 k1 (IntKind.i64.wrap (x4 + 1)))) else (if (decide ((l2.length : Int) ≥ 1)) = true then (some (decide ((l2.length : Int) ≤ 8))) else (some (false)))
def m_cantonref08_May (l2 : List S_api_Op) : Option Bool :=
  m_cantonref08_May_l1 l2 (((l2.length : Int) - 0 : Int).toNat + 1) 0
theorem c_cantonref08_May {w : World} {Fo : List Ob} {rs : List Rp} (v1 : Value) (l2 : List S_api_Op) (H : Sep w (Fo) rs) (hr3 : rSl k_api_Op v1 l2 ∈ rs) {r : Bool} (hm : m_cantonref08_May l2 = some r) :
    Calls Tryz.prog 20 [v1].toArray w (Ret fun v w' => .bool r = v ∧ Sep w' (Fo) (rs)) := by
 unfold m_cantonref08_May at hm
 refine enter Tryz.func20 rfl Tryz.ntmps20 rfl fun a E =>?_
 simp only [enum, Nat.reduceAdd] at E
 refine sq<|pr 1 E rfl fun a E=>nt<|wp_seq<|sq<|pr 1 E rfl fun a E=>nt<|wp_block<|wp_loop_g (fun k1 a w => ∃ (x4 : Int) (rs5 : List Rp), Env 24 a [(0, v1), (3, .int .i64 x4)] ∧ Sep w (Fo) rs5 ∧ (∀ r, r ∈ rs → r ∈ rs5) ∧ rSl k_api_Op v1 l2 ∈ rs5 ∧ m_cantonref08_May_l1 l2 k1 x4 = some r) (((l2.length : Int) - 0 : Int).toNat + 1) ?_ ?_
 ·exact ⟨0, _, E.sel [0, 3] rfl, H, fun r hr => hr, hr3, hm⟩
 ·clear E H hm
  rintro k1 a w ⟨x4, rs5, E, H, hs6, hr7, hm⟩
  cases k1 with
  | zero => exact (none_some hm rfl).elim
  | succ k1 =>
   unfold m_cantonref08_May_l1 at hm
   refine wp_seq<|sq<|pr 2 E rfl fun a E=>sv E rfl rfl rfl (x_lenS E H rfl rfl hr7 Tryz.underlying23) fun a E=>pr 1 E rfl fun a E=>nt<|wif E hm rfl (fun hm=>?_) fun hm=>?_
   ·refine wp_skip<|q_then<|wp_seq<|wp_block<|sq<|pr 2 E rfl fun a E=>bd hm fun x8 hx9 hm=>st_ixS E H (wn rfl) rfl rfl rfl rfl rfl hr7 Tryz.underlying23 sz55 hx9 fun q10 a H E=>ldf k_api_Op_flat E H rfl rfl rfl rfl rfl m0 Tryz.underlying55 rfl sz55 fun a E=>?_
    refine bd hm fun u11 hx12 hm=>x_cl E rfl rfl rfl rfl rfl cf36 (c_cantonref06_May x8 H hx12)<|?_
    rintro _ w ⟨rfl, H⟩ a E
    refine pr 1 E rfl fun a E=>nt<|wif E hm rfl (fun hm=>?_) fun hm=>?_
    ·refine sq<|pr 1 E rfl fun a E=>nt<|wp_ret<|q_blkR<|q_thenR<|q_thenR<|q_blkR<|q_thenR<|?_
     refine out1 E rfl rfl<|?_
     cases hm
     exact ⟨rfl, H.reads (fun r hr => (t1 (hs6 r hr)))⟩
    ·exact wp_skip<|q_blk<|q_then<|wp_region_lit<|pr 3 E rfl fun a E=>nt<|⟨k1, Nat.lt_succ_self k1, IntKind.i64.wrap (x4 + 1), _, E.sel [0, 3] rfl, H, fun r hr => (t1 (hs6 r hr)), (t1 hr7), hm⟩
   ·refine wp_exit<|q_thenX<|q_thenX<|q_hit<|q_then<|sq<|pr 1 E rfl fun a E=>sv E rfl rfl rfl (x_lenS E H rfl rfl hr7 Tryz.underlying23) fun a E=>pr 2 E rfl fun a E=>cs hm (fun hb13 hm=>?_) fun hb13 hm=>?_
    ·refine pk 1 E (kc 19 rfl hb13) rfl fun a E=>st_val E (ws' (d := 19) E rfl rfl rfl rfl hb13) rfl rfl (x_lenS E H rfl rfl hr7 Tryz.underlying23) fun a E=>pk 3 E (kc 19 rfl hb13) rfl fun a E=>nt<|wp_ret<|out1 E rfl rfl<|?_
     cases hm
     exact ⟨rfl, H.reads (hs6)⟩
    ·refine pk 5 E (kc 19 rfl hb13) rfl fun a E=>nt<|wp_ret<|out1 E rfl rfl<|?_
     cases hm
     exact ⟨rfl, H.reads (hs6)⟩

def m_cantonref08_Apply_l1 (l4 : List S_api_Op) (l2 : List S_api_Node) : Nat → (List S_api_Node) → (List S_api_Result) → Int → Option ((List S_api_Node) × S_api_Done)
  | 0, _, _, _ => none
  | k1 + 1, l14, l16, x17 =>
    if (decide (x17 < (l4.length : Int))) = true then ((idx l4 x17).bind fun x23 => (m_cantonref06_Apply l14 x23).bind fun u26 => if (u26.2.Err != 0) = true then (some (l2, (⟨u26.2.Err, x17, []⟩ : S_api_Done))) else ((ck (l16.length + ([u26.2] : List S_api_Result).length ≤ LIM)).bind fun u35 => m_cantonref08_Apply_l1 l4 l2 k1 u26.1 (l16 ++ ([u26.2] : List S_api_Result)) (IntKind.i64.wrap (x17 + 1)))) else (some (l14, (⟨0, 0, l16⟩ : S_api_Done)))
def m_cantonref08_Apply_j1 (l4 : List S_api_Op) (l2 : List S_api_Node) (b8 : Bool) : Option ((List S_api_Node) × S_api_Done) :=
  if b8 = true then (some (([] : List S_api_Node), (⟨1, 0, []⟩ : S_api_Done))) else (m_cantonref08_Apply_l1 l4 l2 (((l4.length : Int) - 0 : Int).toNat + 1) l2 [] 0)
def m_cantonref08_Apply (l2 : List S_api_Node) (l4 : List S_api_Op) : Option ((List S_api_Node) × S_api_Done) :=
  (m_cantonref06_Right l2).bind fun u39 => if (!u39) = true then (m_cantonref08_Apply_j1 l4 l2 true) else ((m_cantonref08_May l4).bind fun u42 => m_cantonref08_Apply_j1 l4 l2 (!u42))
theorem c_cantonref08_Apply {w : World} {Fo : List Ob} {rs : List Rp} (v1 : Value) (l2 : List S_api_Node) (v3 : Value) (l4 : List S_api_Op) (H : Sep w (Fo) rs) (hr5 : rSl k_api_Node v1 l2 ∈ rs) (hr6 : rSl k_api_Op v3 l4 ∈ rs) {r : (List S_api_Node) × S_api_Done} (hm : m_cantonref08_Apply l2 l4 = some r) :
    Calls Tryz.prog 18 [v1, v3].toArray w (Ret fun v w' => ∃ (v5001 : Value) (v5004 : Value), .tuple #[v5001, .agg (l_api_Done r.2 v5004).toArray] = v ∧ Sep w' (Fo) (rSl k_api_Node v5001 r.1 :: rSl k_api_Result v5004 r.2.Results :: rs)) := by
 unfold m_cantonref08_Apply at hm
 refine enter Tryz.func18 rfl Tryz.ntmps18 rfl fun a E =>?_
 simp only [enum, Nat.reduceAdd] at E
 refine sq<|pr 1 E rfl fun a E=>al E H rfl rfl rfl rfl zr30 fun p7 w a H E=>nt<|wp_seq<|wp_seq_cut (fun a w => ∃ (b8 : Bool) (rs9 : List Rp), Env 52 a [(0, v1), (1, v3), (5, pt p7 0), (18, .bool b8)] ∧ Sep w (Blk p7 30 z_api_Done :: Fo) rs9 ∧ (∀ r, r ∈ rs → r ∈ rs9) ∧ rSl k_api_Node v1 l2 ∈ rs9 ∧ rSl k_api_Op v3 l4 ∈ rs9 ∧ m_cantonref08_Apply_j1 l4 l2 b8 = some r) ?_ ?_
 ·refine wp_region_lit<|pr 1 E rfl fun a E=>bd hm fun u39 hx40 hm=>x_cl E rfl rfl rfl rfl rfl cf35 (c_cantonref06_Right v1 l2 H hr5 hx40)<|?_
  rintro _ w ⟨rfl, H⟩ a E
  refine pr 2 E rfl fun a E=>cs hm (fun hb41 hm=>?_) fun hb41 hm=>?_
  ·exact pk 4 E (kc 14 rfl hb41) rfl fun a E=>nt<|⟨true, _, E.sel [0, 1, 5, 18] rfl, H, fun r hr => hr, hr5, hr6, hm⟩
  ·refine pk 1 E (kc 14 rfl hb41) rfl fun a E=>bd hm fun u42 hx43 hm=>st_call E (ws' (d := 14) E rfl rfl rfl rfl hb41) rfl rfl (x_call E rfl rfl (cf20 _)) (c_cantonref08_May v3 l4 H hr6 hx43)<|?_
   rintro _ w ⟨rfl, H⟩ a E
   exact pk 2 E (kc 14 rfl hb41) rfl fun a E=>nt<|⟨!u42, _, E.sel [0, 1, 5, 18] rfl, H, fun r hr => hr, hr5, hr6, hm⟩
 ·clear E H hm
  rintro a w ⟨b8, rs9, E, H, hs10, hr11, hr12, hm⟩
  unfold m_cantonref08_Apply_j1 at hm
  refine wif E hm rfl (fun hm=>?_) fun hm=>?_
  ·refine sq<|sv E rfl rfl rfl (x_build E rfl (E.evs rfl) (v := .agg #[.int .i64 1, .int .i64 0, .slice none 0 0]) (by kernel_rfl)) fun a E=>pr 1 E rfl fun a E=>st_st (i := 0) E H (wn rfl) rfl (us := [.int .i64 1, .int .i64 0, .slice none 0 0]) rfl rfl rfl rfl rfl sz30 rfl rfl fun w H=>nt<|wp_ret<|q_thenR<|outR2 E rfl (rvT rfl) (rvBN (i := 0) (us := [.int .i64 1, .int .i64 0, .slice none 0 0]) H rfl rfl rfl Tryz.underlying30 rfl sz30)<|have H:=H.nilSl k_api_Node;?_
   refine have H:=H.nilSl k_api_Result;have H:=H.drop 0;?_
   cases hm
   exact ⟨(.slice none 0 0), (.slice none 0 0), rfl, H.reads (sub_cons mm1 (sub_cons m0 (fun r hr => (t2 (hs10 r hr)))))⟩
  ·refine wp_skip<|q_then<|sq<|pr 2 E rfl fun a E=>nx<|pr 1 E rfl fun a E=>nt<|wp_seq<|sq<|?_
   refine pr 1 E rfl fun a E=>nt<|wp_block<|wp_loop_g (fun k1 a w => ∃ (v13 : Value) (v15 : Value) (l14 : (List S_api_Node)) (l16 : (List S_api_Result)) (x17 : Int) (rs18 : List Rp), Env 52 a [(0, v1), (1, v3), (5, pt p7 0), (6, v13), (7, v15), (8, .int .i64 x17)] ∧ Sep w (Blk p7 30 z_api_Done :: Row 51 k_api_Result v15 l16 :: Fo) rs18 ∧ (∀ r, r ∈ rs → r ∈ rs18) ∧ rSl k_api_Node v1 l2 ∈ rs18 ∧ rSl k_api_Op v3 l4 ∈ rs18 ∧ rSl k_api_Node v13 l14 ∈ rs18 ∧ m_cantonref08_Apply_l1 l4 l2 k1 l14 l16 x17 = some r) (((l4.length : Int) - 0 : Int).toNat + 1) ?_ ?_
   ·exact have H:=H.nilRow 51 k_api_Result;have H:=H.front 0 rfl;have H:=H.front 1 rfl;⟨v1, (.slice none 0 0), l2, [], 0, _, E.sel [0, 1, 5, 6, 7, 8] rfl, H, hs10, hr11, hr12, hr11, hm⟩
   ·clear E H hm
    rintro k1 a w ⟨v13, v15, l14, l16, x17, rs18, E, H, hs19, hr20, hr21, hr22, hm⟩
    cases k1 with
    | zero => exact (none_some hm rfl).elim
    | succ k1 =>
     unfold m_cantonref08_Apply_l1 at hm
     refine wp_seq<|sq<|pr 2 E rfl fun a E=>sv E rfl rfl rfl (x_lenS E H rfl rfl hr21 Tryz.underlying23) fun a E=>pr 1 E rfl fun a E=>nt<|wif E hm rfl (fun hm=>?_) fun hm=>?_
     ·refine wp_skip<|q_then<|wp_seq<|wp_block<|sq<|pr 3 E rfl fun a E=>bd hm fun x23 hx24 hm=>st_ixS E H (wn rfl) rfl rfl rfl rfl rfl hr21 Tryz.underlying23 sz55 hx24 fun q25 a H E=>ldf k_api_Op_flat E H rfl rfl rfl rfl rfl m0 Tryz.underlying55 rfl sz55 fun a E=>?_
      refine bd hm fun u26 hx27 hm=>x_cl E rfl rfl rfl rfl rfl cf56 (c_cantonref06_Apply v13 l14 x23 H (t1 hr22) hx27)<|?_
      rintro _ w ⟨v28, v29, rfl, H⟩ a E
      refine pr 3 E rfl fun a E=>al E H rfl rfl rfl rfl zr51 fun p30 w a H E=>pr 1 E rfl fun a E=>?_
      obtain ⟨q31, x32, rfl⟩ := H.slform mm1
      refine st_st (i := 0) E H (wn rfl) rfl (us := (l_api_Result u26.2 (.slice q31 u26.2.Names.length x32))) rfl rfl rfl rfl rfl sz51 rfl rfl fun w H=>nt<|wp_seq<|sq<|pr 1 E rfl fun a E=>lb E H 0 rfl rfl rfl rfl rfl rfl rfl Tryz.underlying27 rfl fun a E=>pr 1 E rfl fun a E=>nt<|wif E hm rfl (fun hm=>?_) fun hm=>?_
      ·refine wp_seq<|dw [(0, 0), (1, 0), (2, 0), (3, 0), (4, 0), (5, 1), (6, 2)] [0] [] H (by kernel_rfl) (fun _ _ _ h => False.elim h.2) fun w W0 hI H=>fn 2 E rfl fun a E=>fb E rfl (wn rfl) rfl rfl rfl rfl m0 rfl Tryz.underlying27 rfl fun a E=>fn 1 E rfl fun a E=>fr_val E rfl (wn rfl) rfl rfl (fun w hW=>(x_build E rfl (E.evs rfl) (v := .agg #[.int .i64 u26.2.Err, .int .i64 x17, .slice none 0 0]) (by kernel_rfl))) fun a E=>?_
       refine fr_op rfl<|pr 1 E rfl fun a E=>nt<|?_
       refine ⟨⟨_, _, H, (subO_cons m0 (subO_nil)), (sub_nil)⟩, ?_⟩
       refine fr_tail rfl<|st_st (i := 1) E H (wn rfl) rfl (us := [.int .i64 u26.2.Err, .int .i64 x17, .slice none 0 0]) rfl rfl rfl rfl rfl sz30 rfl rfl fun w H=>nt<|fr_nil<|?_
       clear hI
       refine q_then<|wp_ret<|q_thenR<|q_blkR<|q_thenR<|q_thenR<|q_blkR<|q_thenR<|outR2 E rfl (rvT rfl) (rvBN (i := 1) (us := [.int .i64 u26.2.Err, .int .i64 x17, .slice none 0 0]) H rfl rfl rfl Tryz.underlying30 rfl sz30)<|?_
       refine have H:=H.nilSl k_api_Result;have H:=H.drop 0;have H:=H.drop 0;have H:=H.drop 0;?_
       cases hm
       exact ⟨v1, (.slice none 0 0), rfl, H.reads (sub_cons (t4 hr20) (sub_cons m0 (fun r hr => (t4 (hs19 r hr)))))⟩
      ·refine wp_skip<|q_then<|sq<|pr 2 E rfl fun a E=>nt<|wp_region_lit<|pr 1 E rfl fun a E=>sv E rfl rfl rfl (x_ldBN (i := 0) (us := (l_api_Result u26.2 (.slice q31 u26.2.Names.length x32))) E H rfl rfl rfl rfl Tryz.underlying51 rfl sz51) fun a E=>st_bsR (e := 51) (d := k_api_Result) (cs := [.int .i64 u26.2.Err, .string u26.2.Path, .string u26.2.Data, .int .i64 u26.2.Version, (.slice q31 u26.2.Names.length x32)]) (xs := [u26.2]) E H (wn rfl) rfl rfl rfl (E.evs rfl) (by kernel_rfl) rfl (fun ok hr => (Rows.single (d := k_api_Result) (cs := [.int .i64 u26.2.Err, .string u26.2.Path, .string u26.2.Data, .int .i64 u26.2.Version, (.slice q31 u26.2.Names.length x32)]) (x := u26.2) (k_api_Result_mk (hr _ mm1)))) fun v33 w a H E=>?_
       refine bk hm fun hx36 hm=>st_append (i := 2) E H (wn rfl) rfl rfl rfl rfl rfl rfl (src_rd m0) Tryz.underlying28 inf51 rfl hx36 rfl fun v34 w a H E=>pr 1 E rfl fun a E=>wpList_nil<|q_blk<|q_then<|wp_region_lit<|pr 3 E rfl fun a E=>nt<|?_
       exact have H:=H.drop 0;⟨k1, Nat.lt_succ_self k1, v28, v34, u26.1, l16 ++ ([u26.2] : List S_api_Result), IntKind.i64.wrap (x17 + 1), _, E.sel [0, 1, 5, 6, 7, 8] rfl, H, fun r hr => (t4 (hs19 r hr)), (t4 hr20), (t4 hr21), mm1, hm⟩
     ·refine wp_exit<|q_thenX<|q_thenX<|q_hit<|q_then<|sq<|pr 2 E rfl fun a E=>?_
      obtain ⟨q37, x38, rfl⟩ := H.rowform (i := 1) rfl
      refine sv E rfl rfl rfl (x_build E rfl (E.evs rfl) (v := .agg #[.int .i64 0, .int .i64 0, (.slice q37 l16.length x38)]) (by kernel_rfl)) fun a E=>pr 1 E rfl fun a E=>st_st (i := 0) E H (wn rfl) rfl (us := [.int .i64 0, .int .i64 0, (.slice q37 l16.length x38)]) rfl rfl rfl rfl rfl sz30 rfl rfl fun w H=>nt<|wp_ret<|outR2 E rfl (rvT rfl) (rvBN (i := 0) (us := [.int .i64 0, .int .i64 0, (.slice q37 l16.length x38)]) H rfl rfl rfl Tryz.underlying30 rfl sz30)<|have H:=H.thaw (i := 1) rfl;have H:=H.drop 0;?_
      cases hm
      exact ⟨v13, (.slice q37 l16.length x38), rfl, H.reads (sub_cons (t1 hr22) (sub_cons m0 (fun r hr => (t1 (hs19 r hr)))))⟩

def m_cantonref07_up (s1 : ByteArray) : Option ByteArray :=
  (m_cantonref01_Parent s1).bind fun u2 => if (!u2.2) = true then (some ((ByteArray.mk #[47]))) else (some (u2.1))
theorem c_cantonref07_up {w : World} {Fo : List Ob} {rs : List Rp} (s1 : ByteArray) (H : Sep w (Fo) rs) {r : ByteArray} (hm : m_cantonref07_up s1 = some r) :
    Calls Tryz.prog 105 [.string s1].toArray w (Ret fun v w' => .string r = v ∧ Sep w' (Fo) (rs)) := by
 unfold m_cantonref07_up at hm
 refine enter Tryz.func105 rfl Tryz.ntmps105 rfl fun a E =>?_
 simp only [enum, Nat.reduceAdd] at E
 refine sq<|pr 1 E rfl fun a E=>nx<|pr 1 E rfl fun a E=>bd hm fun u2 hx3 hm=>x_cl E rfl rfl rfl rfl rfl cf69 (c_cantonref01_Parent s1 H hx3)<|?_
 rintro _ w ⟨rfl, H⟩ a E
 refine pr 5 E rfl fun a E=>nt<|wp_seq<|sq<|pr 2 E rfl fun a E=>nt<|wif E hm rfl (fun hm=>?_) fun hm=>?_
 ·refine sq<|pr 1 E rfl fun a E=>nt<|wp_ret<|q_thenR<|out1 E rfl rfl<|?_
  cases hm
  exact ⟨rfl, H.reads (fun r hr => hr)⟩
 ·refine wp_skip<|q_then<|sq<|pr 2 E rfl fun a E=>nt<|wp_ret<|out1 E rfl rfl<|?_
  cases hm
  exact ⟨rfl, H.reads (fun r hr => hr)⟩

def m_cantonref07_Of (x1 : S_api_Op) : Option (List S_api_Part) :=
  (m_cantonref06_May x1).bind fun u3 => if (!u3) = true then (some ([])) else ((m_cantonref07_up x1.Path).bind fun u5 => if (x1.Kind == 1) = true then ((m_cantonref07_up u5).bind fun u9 => some (([(⟨1, u9, u5, (ByteArray.mk #[]), 0, 0, false⟩ : S_api_Part), (⟨2, u5, x1.Path, x1.Data, 0, x1.Owner, x1.Turns⟩ : S_api_Part)] : List S_api_Part))) else (if (x1.Kind == 2) = true then (some (([(⟨3, u5, x1.Path, (ByteArray.mk #[]), x1.Version, 0, false⟩ : S_api_Part), (⟨4, x1.Path, x1.Path, (ByteArray.mk #[]), 0, 0, false⟩ : S_api_Part)] : List S_api_Part))) else (if (x1.Kind == 3) = true then (some (([(⟨5, u5, x1.Path, x1.Data, x1.Version, 0, false⟩ : S_api_Part)] : List S_api_Part))) else (if (x1.Kind == 4) = true then (some (([(⟨6, u5, x1.Path, (ByteArray.mk #[]), x1.Version, 0, false⟩ : S_api_Part)] : List S_api_Part))) else (if (x1.Kind == 5) = true then (some (([(⟨7, u5, x1.Path, (ByteArray.mk #[]), 0, 0, false⟩ : S_api_Part)] : List S_api_Part))) else (if (x1.Kind == 6) = true then (some (([(⟨8, u5, x1.Path, (ByteArray.mk #[]), 0, 0, false⟩ : S_api_Part), (⟨9, x1.Path, x1.Path, (ByteArray.mk #[]), 0, 0, false⟩ : S_api_Part)] : List S_api_Part))) else (some (([(⟨8, u5, x1.Path, (ByteArray.mk #[]), 0, 0, false⟩ : S_api_Part), (⟨10, x1.Path, x1.Path, (ByteArray.mk #[]), 0, x1.Owner, false⟩ : S_api_Part)] : List S_api_Part)))))))))
theorem c_cantonref07_Of {w : World} {Fo : List Ob} {rs : List Rp} (x1 : S_api_Op) (H : Sep w (Fo) rs) {r : (List S_api_Part)} (hm : m_cantonref07_Of x1 = some r) :
    Calls Tryz.prog 50 [.agg (l_api_Op x1).toArray].toArray w (Ret fun v w' => ∃ (v5001 : Value), v5001 = v ∧ Sep w' (Row 62 k_api_Part v5001 r :: Fo) (rs)) := by
 unfold m_cantonref07_Of at hm
 refine enter Tryz.func50 rfl Tryz.ntmps50 rfl fun a E =>?_
 simp only [enum, Nat.reduceAdd] at E
 refine sq<|st_box E H (wn rfl) rfl rfl (cs := (l_api_Op x1)) rfl rfl rfl fun p2 w a H E=>pr 1 E rfl fun a E=>nt<|wp_seq<|sq<|sv E rfl rfl rfl (x_ldBN (i := 0) (us := (l_api_Op x1)) E H rfl rfl rfl rfl Tryz.underlying55 rfl sz55) fun a E=>bd hm fun u3 hx4 hm=>x_cl E rfl rfl rfl rfl rfl cf36 (c_cantonref06_May x1 H hx4)<|?_
 rintro _ w ⟨rfl, H⟩ a E
 refine pr 1 E rfl fun a E=>nt<|wif E hm rfl (fun hm=>?_) fun hm=>?_
 ·refine sq<|pr 1 E rfl fun a E=>nt<|wp_ret<|q_thenR<|out1 E rfl rfl<|have H:=H.nilRow 62 k_api_Part;have H:=H.drop 1;?_
  cases hm
  exact ⟨(.slice none 0 0), rfl, H.reads (fun r hr => hr)⟩
 ·refine wp_skip<|q_then<|sq<|pr 1 E rfl fun a E=>lb E H 0 rfl rfl rfl rfl rfl rfl rfl Tryz.underlying9 rfl fun a E=>bd hm fun u5 hx6 hm=>x_cl E rfl rfl rfl rfl rfl cf105 (c_cantonref07_up x1.Path H hx6)<|?_
  rintro _ w ⟨rfl, H⟩ a E
  refine pr 1 E rfl fun a E=>nx<|pr 2 E rfl fun a E=>lb E H 0 rfl rfl rfl rfl rfl rfl rfl Tryz.underlying9 rfl fun a E=>sv E rfl rfl rfl (x_build E rfl (E.evs rfl) (v := .agg #[.int .i64 0, .string u5, .string x1.Path, .string (ByteArray.mk #[]), .int .i64 0, .int .i64 0, .bool false]) (by kernel_rfl)) fun a E=>al E H rfl rfl rfl rfl zr62 fun p7 w a H E=>st_st (i := 0) E H (wn rfl) rfl (us := [.int .i64 0, .string u5, .string x1.Path, .string (ByteArray.mk #[]), .int .i64 0, .int .i64 0, .bool false]) rfl rfl rfl rfl rfl sz62 rfl rfl fun w H=>nx<|pr 1 E rfl fun a E=>?_
  refine lb E H 1 rfl rfl rfl rfl rfl rfl rfl Tryz.underlying9 rfl fun a E=>pr 1 E rfl fun a E=>lb E H 1 rfl rfl rfl rfl rfl rfl rfl Tryz.underlying9 rfl fun a E=>sv E rfl rfl rfl (x_build E rfl (E.evs rfl) (v := .agg #[.int .i64 0, .string x1.Path, .string x1.Path, .string (ByteArray.mk #[]), .int .i64 0, .int .i64 0, .bool false]) (by kernel_rfl)) fun a E=>al E H rfl rfl rfl rfl zr62 fun p8 w a H E=>st_st (i := 0) E H (wn rfl) rfl (us := [.int .i64 0, .string x1.Path, .string x1.Path, .string (ByteArray.mk #[]), .int .i64 0, .int .i64 0, .bool false]) rfl rfl rfl rfl rfl sz62 rfl rfl fun w H=>nt<|wp_seq<|sq<|?_
  refine pr 1 E rfl fun a E=>lb E H 2 rfl rfl rfl rfl rfl rfl rfl Tryz.underlying3 rfl fun a E=>nt<|wp_block<|sq<|pr 2 E rfl fun a E=>nt<|wif E hm rfl (fun hm=>?_) fun hm=>?_
  ·refine wp_seq<|dw [(0, 0), (2, 0), (4, 0), (5, 0), (6, 0), (7, 0), (8, 0), (9, 0), (10, 0), (11, 0), (12, 0), (13, 0), (1, 1), (3, 0), (14, 1), (15, 2)] [2] [] H (by kernel_rfl) (fun _ _ _ h => False.elim h.2) fun w W0 hI H=>fn 4 E rfl fun a E=>fb E rfl (wn rfl) rfl rfl rfl rfl m0 rfl Tryz.underlying9 rfl fun a E=>fn 1 E rfl fun a E=>fb E rfl (wn rfl) rfl rfl rfl rfl m0 rfl Tryz.underlying9 rfl fun a E=>fn 1 E rfl fun a E=>fb E rfl (wn rfl) rfl rfl rfl rfl m0 rfl Tryz.underlying2 rfl fun a E=>fn 1 E rfl fun a E=>?_
   refine fb E rfl (wn rfl) rfl rfl rfl rfl m0 rfl Tryz.underlying4 rfl fun a E=>fr_val E rfl (wn rfl) rfl rfl (fun w hW=>(x_build E rfl (E.evs rfl) (v := .agg #[.int .i64 2, .string u5, .string x1.Path, .string x1.Data, .int .i64 0, .int .i64 x1.Owner, .bool x1.Turns]) (by kernel_rfl))) fun a E=>?_
   refine fr_op rfl<|bd hm fun u9 hx10 hm=>x_cl E rfl rfl rfl rfl rfl cf105 (c_cantonref07_up u5 H hx10)<|?_
   rintro _ w ⟨rfl, H⟩ a E
   refine nt<|?_
   refine ⟨⟨_, _, H, (subO_cons mm2 (subO_nil)), (sub_nil)⟩, ?_⟩
   refine fr_val E rfl (wn rfl) rfl rfl (fun w hW=>(x_build E rfl (E.evs rfl) (v := .agg #[.int .i64 1, .string u9, .string u5, .string (ByteArray.mk #[]), .int .i64 0, .int .i64 0, .bool false]) (by kernel_rfl))) fun a E=>?_
   refine fr_op rfl<|st_bsO (e := 62) (d := k_api_Part) (cs := [.int .i64 1, .string u9, .string u5, .string (ByteArray.mk #[]), .int .i64 0, .int .i64 0, .bool false, .int .i64 2, .string u5, .string x1.Path, .string x1.Data, .int .i64 0, .int .i64 x1.Owner, .bool x1.Turns]) (xs := [(⟨1, u9, u5, (ByteArray.mk #[]), 0, 0, false⟩ : S_api_Part), (⟨2, u5, x1.Path, x1.Data, 0, x1.Owner, x1.Turns⟩ : S_api_Part)]) E H (wn rfl) rfl rfl rfl (E.evs rfl) (by kernel_rfl) rfl rfl (fun ok hr => (Rows.append (Rows.single (d := k_api_Part) (cs := [.int .i64 1, .string u9, .string u5, .string (ByteArray.mk #[]), .int .i64 0, .int .i64 0, .bool false]) (x := (⟨1, u9, u5, (ByteArray.mk #[]), 0, 0, false⟩ : S_api_Part)) k_api_Part_mk) (Rows.single (d := k_api_Part) (cs := [.int .i64 2, .string u5, .string x1.Path, .string x1.Data, .int .i64 0, .int .i64 x1.Owner, .bool x1.Turns]) (x := (⟨2, u5, x1.Path, x1.Data, 0, x1.Owner, x1.Turns⟩ : S_api_Part)) k_api_Part_mk))) fun v11 w a H E=>nt<|?_
   refine ⟨⟨_, _, H, (subO_cons mm3 (subO_nil)), (sub_nil)⟩, ?_⟩
   refine fr_tail rfl<|pr 1 E rfl fun a E=>nt<|fr_nil<|?_
   clear hI
   refine q_then<|wp_ret<|q_blkR<|q_thenR<|out1 E rfl rfl<|have H:=H.drop 1;have H:=H.drop 1;have H:=H.drop 1;?_
   cases hm
   exact ⟨v11, rfl, H.reads (fun r hr => hr)⟩
  ·refine sq<|pr 2 E rfl fun a E=>nt<|wif E hm rfl (fun hm=>?_) fun hm=>?_
   ·refine sq<|pr 1 E rfl fun a E=>st_st (i := 1) E H (wn rfl) rfl (us := [.int .i64 3]) rfl rfl rfl rfl rfl sz3 rfl rfl fun w H=>nx<|pr 1 E rfl fun a E=>lb E H 2 rfl rfl rfl rfl rfl rfl rfl Tryz.underlying2 rfl fun a E=>pr 1 E rfl fun a E=>st_st (i := 1) E H (wn rfl) rfl (us := [.int .i64 x1.Version]) rfl rfl rfl rfl rfl sz2 rfl rfl fun w H=>nx<|?_
    refine pr 1 E rfl fun a E=>st_st (i := 0) E H (wn rfl) rfl (us := [.int .i64 4]) rfl rfl rfl rfl rfl sz3 rfl rfl fun w H=>nx<|sv E rfl rfl rfl (x_ldBN (i := 1) (us := [.int .i64 3, .string u5, .string x1.Path, .string (ByteArray.mk #[]), .int .i64 x1.Version, .int .i64 0, .bool false]) E H rfl rfl rfl rfl Tryz.underlying62 rfl sz62) fun a E=>sv E rfl rfl rfl (x_ldBN (i := 0) (us := [.int .i64 4, .string x1.Path, .string x1.Path, .string (ByteArray.mk #[]), .int .i64 0, .int .i64 0, .bool false]) E H rfl rfl rfl rfl Tryz.underlying62 rfl sz62) fun a E=>st_bsO (e := 62) (d := k_api_Part) (cs := [.int .i64 3, .string u5, .string x1.Path, .string (ByteArray.mk #[]), .int .i64 x1.Version, .int .i64 0, .bool false, .int .i64 4, .string x1.Path, .string x1.Path, .string (ByteArray.mk #[]), .int .i64 0, .int .i64 0, .bool false]) (xs := [(⟨3, u5, x1.Path, (ByteArray.mk #[]), x1.Version, 0, false⟩ : S_api_Part), (⟨4, x1.Path, x1.Path, (ByteArray.mk #[]), 0, 0, false⟩ : S_api_Part)]) E H (wn rfl) rfl rfl rfl (E.evs rfl) (by kernel_rfl) rfl rfl (fun ok hr => (Rows.append (Rows.single (d := k_api_Part) (cs := [.int .i64 3, .string u5, .string x1.Path, .string (ByteArray.mk #[]), .int .i64 x1.Version, .int .i64 0, .bool false]) (x := (⟨3, u5, x1.Path, (ByteArray.mk #[]), x1.Version, 0, false⟩ : S_api_Part)) k_api_Part_mk) (Rows.single (d := k_api_Part) (cs := [.int .i64 4, .string x1.Path, .string x1.Path, .string (ByteArray.mk #[]), .int .i64 0, .int .i64 0, .bool false]) (x := (⟨4, x1.Path, x1.Path, (ByteArray.mk #[]), 0, 0, false⟩ : S_api_Part)) k_api_Part_mk))) fun v12 w a H E=>pr 1 E rfl fun a E=>nt<|wp_ret<|?_
    refine q_blkR<|q_thenR<|out1 E rfl rfl<|have H:=H.drop 1;have H:=H.drop 1;have H:=H.drop 1;?_
    cases hm
    exact ⟨v12, rfl, H.reads (fun r hr => hr)⟩
   ·refine sq<|pr 2 E rfl fun a E=>nt<|wif E hm rfl (fun hm=>?_) fun hm=>?_
    ·refine sq<|pr 1 E rfl fun a E=>st_st (i := 1) E H (wn rfl) rfl (us := [.int .i64 5]) rfl rfl rfl rfl rfl sz3 rfl rfl fun w H=>nx<|pr 1 E rfl fun a E=>lb E H 2 rfl rfl rfl rfl rfl rfl rfl Tryz.underlying9 rfl fun a E=>pr 1 E rfl fun a E=>st_st (i := 1) E H (wn rfl) rfl (us := [.string x1.Data]) rfl rfl rfl rfl rfl sz9 rfl rfl fun w H=>nx<|?_
     refine pr 1 E rfl fun a E=>lb E H 2 rfl rfl rfl rfl rfl rfl rfl Tryz.underlying2 rfl fun a E=>pr 1 E rfl fun a E=>st_st (i := 1) E H (wn rfl) rfl (us := [.int .i64 x1.Version]) rfl rfl rfl rfl rfl sz2 rfl rfl fun w H=>nx<|sv E rfl rfl rfl (x_ldBN (i := 1) (us := [.int .i64 5, .string u5, .string x1.Path, .string x1.Data, .int .i64 x1.Version, .int .i64 0, .bool false]) E H rfl rfl rfl rfl Tryz.underlying62 rfl sz62) fun a E=>st_bsO (e := 62) (d := k_api_Part) (cs := [.int .i64 5, .string u5, .string x1.Path, .string x1.Data, .int .i64 x1.Version, .int .i64 0, .bool false]) (xs := [(⟨5, u5, x1.Path, x1.Data, x1.Version, 0, false⟩ : S_api_Part)]) E H (wn rfl) rfl rfl rfl (E.evs rfl) (by kernel_rfl) rfl rfl (fun ok hr => (Rows.single (d := k_api_Part) (cs := [.int .i64 5, .string u5, .string x1.Path, .string x1.Data, .int .i64 x1.Version, .int .i64 0, .bool false]) (x := (⟨5, u5, x1.Path, x1.Data, x1.Version, 0, false⟩ : S_api_Part)) k_api_Part_mk)) fun v13 w a H E=>pr 1 E rfl fun a E=>nt<|?_
     refine wp_ret<|q_blkR<|q_thenR<|out1 E rfl rfl<|have H:=H.drop 1;have H:=H.drop 1;have H:=H.drop 1;?_
     cases hm
     exact ⟨v13, rfl, H.reads (fun r hr => hr)⟩
    ·refine sq<|pr 2 E rfl fun a E=>nt<|wif E hm rfl (fun hm=>?_) fun hm=>?_
     ·refine sq<|pr 1 E rfl fun a E=>st_st (i := 1) E H (wn rfl) rfl (us := [.int .i64 6]) rfl rfl rfl rfl rfl sz3 rfl rfl fun w H=>nx<|pr 1 E rfl fun a E=>lb E H 2 rfl rfl rfl rfl rfl rfl rfl Tryz.underlying2 rfl fun a E=>pr 1 E rfl fun a E=>st_st (i := 1) E H (wn rfl) rfl (us := [.int .i64 x1.Version]) rfl rfl rfl rfl rfl sz2 rfl rfl fun w H=>nx<|?_
      refine sv E rfl rfl rfl (x_ldBN (i := 1) (us := [.int .i64 6, .string u5, .string x1.Path, .string (ByteArray.mk #[]), .int .i64 x1.Version, .int .i64 0, .bool false]) E H rfl rfl rfl rfl Tryz.underlying62 rfl sz62) fun a E=>st_bsO (e := 62) (d := k_api_Part) (cs := [.int .i64 6, .string u5, .string x1.Path, .string (ByteArray.mk #[]), .int .i64 x1.Version, .int .i64 0, .bool false]) (xs := [(⟨6, u5, x1.Path, (ByteArray.mk #[]), x1.Version, 0, false⟩ : S_api_Part)]) E H (wn rfl) rfl rfl rfl (E.evs rfl) (by kernel_rfl) rfl rfl (fun ok hr => (Rows.single (d := k_api_Part) (cs := [.int .i64 6, .string u5, .string x1.Path, .string (ByteArray.mk #[]), .int .i64 x1.Version, .int .i64 0, .bool false]) (x := (⟨6, u5, x1.Path, (ByteArray.mk #[]), x1.Version, 0, false⟩ : S_api_Part)) k_api_Part_mk)) fun v14 w a H E=>pr 1 E rfl fun a E=>nt<|wp_ret<|q_blkR<|q_thenR<|out1 E rfl rfl<|have H:=H.drop 1;?_
      refine have H:=H.drop 1;have H:=H.drop 1;?_
      cases hm
      exact ⟨v14, rfl, H.reads (fun r hr => hr)⟩
     ·refine sq<|pr 2 E rfl fun a E=>nt<|wif E hm rfl (fun hm=>?_) fun hm=>?_
      ·refine sq<|pr 1 E rfl fun a E=>st_st (i := 1) E H (wn rfl) rfl (us := [.int .i64 7]) rfl rfl rfl rfl rfl sz3 rfl rfl fun w H=>nx<|sv E rfl rfl rfl (x_ldBN (i := 1) (us := [.int .i64 7, .string u5, .string x1.Path, .string (ByteArray.mk #[]), .int .i64 0, .int .i64 0, .bool false]) E H rfl rfl rfl rfl Tryz.underlying62 rfl sz62) fun a E=>st_bsO (e := 62) (d := k_api_Part) (cs := [.int .i64 7, .string u5, .string x1.Path, .string (ByteArray.mk #[]), .int .i64 0, .int .i64 0, .bool false]) (xs := [(⟨7, u5, x1.Path, (ByteArray.mk #[]), 0, 0, false⟩ : S_api_Part)]) E H (wn rfl) rfl rfl rfl (E.evs rfl) (by kernel_rfl) rfl rfl (fun ok hr => (Rows.single (d := k_api_Part) (cs := [.int .i64 7, .string u5, .string x1.Path, .string (ByteArray.mk #[]), .int .i64 0, .int .i64 0, .bool false]) (x := (⟨7, u5, x1.Path, (ByteArray.mk #[]), 0, 0, false⟩ : S_api_Part)) k_api_Part_mk)) fun v15 w a H E=>pr 1 E rfl fun a E=>nt<|wp_ret<|?_
       refine q_blkR<|q_thenR<|out1 E rfl rfl<|have H:=H.drop 1;have H:=H.drop 1;have H:=H.drop 1;?_
       cases hm
       exact ⟨v15, rfl, H.reads (fun r hr => hr)⟩
      ·refine sq<|pr 2 E rfl fun a E=>nt<|wif E hm rfl (fun hm=>?_) fun hm=>?_
       ·refine sq<|pr 1 E rfl fun a E=>st_st (i := 1) E H (wn rfl) rfl (us := [.int .i64 8]) rfl rfl rfl rfl rfl sz3 rfl rfl fun w H=>nx<|pr 1 E rfl fun a E=>st_st (i := 0) E H (wn rfl) rfl (us := [.int .i64 9]) rfl rfl rfl rfl rfl sz3 rfl rfl fun w H=>nx<|sv E rfl rfl rfl (x_ldBN (i := 1) (us := [.int .i64 8, .string u5, .string x1.Path, .string (ByteArray.mk #[]), .int .i64 0, .int .i64 0, .bool false]) E H rfl rfl rfl rfl Tryz.underlying62 rfl sz62) fun a E=>sv E rfl rfl rfl (x_ldBN (i := 0) (us := [.int .i64 9, .string x1.Path, .string x1.Path, .string (ByteArray.mk #[]), .int .i64 0, .int .i64 0, .bool false]) E H rfl rfl rfl rfl Tryz.underlying62 rfl sz62) fun a E=>?_
        refine st_bsO (e := 62) (d := k_api_Part) (cs := [.int .i64 8, .string u5, .string x1.Path, .string (ByteArray.mk #[]), .int .i64 0, .int .i64 0, .bool false, .int .i64 9, .string x1.Path, .string x1.Path, .string (ByteArray.mk #[]), .int .i64 0, .int .i64 0, .bool false]) (xs := [(⟨8, u5, x1.Path, (ByteArray.mk #[]), 0, 0, false⟩ : S_api_Part), (⟨9, x1.Path, x1.Path, (ByteArray.mk #[]), 0, 0, false⟩ : S_api_Part)]) E H (wn rfl) rfl rfl rfl (E.evs rfl) (by kernel_rfl) rfl rfl (fun ok hr => (Rows.append (Rows.single (d := k_api_Part) (cs := [.int .i64 8, .string u5, .string x1.Path, .string (ByteArray.mk #[]), .int .i64 0, .int .i64 0, .bool false]) (x := (⟨8, u5, x1.Path, (ByteArray.mk #[]), 0, 0, false⟩ : S_api_Part)) k_api_Part_mk) (Rows.single (d := k_api_Part) (cs := [.int .i64 9, .string x1.Path, .string x1.Path, .string (ByteArray.mk #[]), .int .i64 0, .int .i64 0, .bool false]) (x := (⟨9, x1.Path, x1.Path, (ByteArray.mk #[]), 0, 0, false⟩ : S_api_Part)) k_api_Part_mk))) fun v16 w a H E=>pr 1 E rfl fun a E=>nt<|wp_ret<|q_blkR<|q_thenR<|out1 E rfl rfl<|have H:=H.drop 1;have H:=H.drop 1;?_
        refine have H:=H.drop 1;?_
        cases hm
        exact ⟨v16, rfl, H.reads (fun r hr => hr)⟩
       ·refine wp_skip<|q_blk<|q_then<|sq<|pr 1 E rfl fun a E=>st_st (i := 1) E H (wn rfl) rfl (us := [.int .i64 8]) rfl rfl rfl rfl rfl sz3 rfl rfl fun w H=>nx<|pr 1 E rfl fun a E=>st_st (i := 0) E H (wn rfl) rfl (us := [.int .i64 10]) rfl rfl rfl rfl rfl sz3 rfl rfl fun w H=>?_
        refine nx<|pr 1 E rfl fun a E=>lb E H 2 rfl rfl rfl rfl rfl rfl rfl Tryz.underlying2 rfl fun a E=>pr 1 E rfl fun a E=>st_st (i := 0) E H (wn rfl) rfl (us := [.int .i64 x1.Owner]) rfl rfl rfl rfl rfl sz2 rfl rfl fun w H=>nx<|sv E rfl rfl rfl (x_ldBN (i := 1) (us := [.int .i64 8, .string u5, .string x1.Path, .string (ByteArray.mk #[]), .int .i64 0, .int .i64 0, .bool false]) E H rfl rfl rfl rfl Tryz.underlying62 rfl sz62) fun a E=>sv E rfl rfl rfl (x_ldBN (i := 0) (us := [.int .i64 10, .string x1.Path, .string x1.Path, .string (ByteArray.mk #[]), .int .i64 0, .int .i64 x1.Owner, .bool false]) E H rfl rfl rfl rfl Tryz.underlying62 rfl sz62) fun a E=>st_bsO (e := 62) (d := k_api_Part) (cs := [.int .i64 8, .string u5, .string x1.Path, .string (ByteArray.mk #[]), .int .i64 0, .int .i64 0, .bool false, .int .i64 10, .string x1.Path, .string x1.Path, .string (ByteArray.mk #[]), .int .i64 0, .int .i64 x1.Owner, .bool false]) (xs := [(⟨8, u5, x1.Path, (ByteArray.mk #[]), 0, 0, false⟩ : S_api_Part), (⟨10, x1.Path, x1.Path, (ByteArray.mk #[]), 0, x1.Owner, false⟩ : S_api_Part)]) E H (wn rfl) rfl rfl rfl (E.evs rfl) (by kernel_rfl) rfl rfl (fun ok hr => (Rows.append (Rows.single (d := k_api_Part) (cs := [.int .i64 8, .string u5, .string x1.Path, .string (ByteArray.mk #[]), .int .i64 0, .int .i64 0, .bool false]) (x := (⟨8, u5, x1.Path, (ByteArray.mk #[]), 0, 0, false⟩ : S_api_Part)) k_api_Part_mk) (Rows.single (d := k_api_Part) (cs := [.int .i64 10, .string x1.Path, .string x1.Path, .string (ByteArray.mk #[]), .int .i64 0, .int .i64 x1.Owner, .bool false]) (x := (⟨10, x1.Path, x1.Path, (ByteArray.mk #[]), 0, x1.Owner, false⟩ : S_api_Part)) k_api_Part_mk))) fun v17 w a H E=>?_
        refine pr 1 E rfl fun a E=>nt<|wp_ret<|out1 E rfl rfl<|have H:=H.drop 1;have H:=H.drop 1;have H:=H.drop 1;?_
        cases hm
        exact ⟨v17, rfl, H.reads (fun r hr => hr)⟩

def m_cantonref08_Of_l2 (rec_1 : (List S_api_Piece) → Int → Option (List S_api_Piece)) (u15 : (List S_api_Part)) (x8 : Int) : Nat → (List S_api_Piece) → Int → Option (List S_api_Piece)
  | 0, _, _ => none
  | k2 + 1, l19, x20 =>
    if (decide (x20 < (u15.length : Int))) = true then ((idx u15 x20).bind fun x24 => (ck (l19.length + ([(⟨x8, x24⟩ : S_api_Piece)] : List S_api_Piece).length ≤ LIM)).bind fun u31 => m_cantonref08_Of_l2 rec_1 u15 x8 k2 (l19 ++ ([(⟨x8, x24⟩ : S_api_Piece)] : List S_api_Piece)) (IntKind.i64.wrap (x20 + 1))) else (rec_1 l19 (IntKind.i64.wrap (x8 + 1)))
def m_cantonref08_Of_l1 (l2 : List S_api_Op) : Nat → (List S_api_Piece) → Int → Option (List S_api_Piece)
  | 0, _, _ => none
  | k1 + 1, l7, x8 =>
    if (decide (x8 < (l2.length : Int))) = true then ((idx l2 x8).bind fun x12 => (m_cantonref07_Of x12).bind fun u15 => m_cantonref08_Of_l2 (m_cantonref08_Of_l1 l2 k1) u15 x8 (((u15.length : Int) - 0 : Int).toNat + 1) l7 0) else (some (l7))
def m_cantonref08_Of (l2 : List S_api_Op) : Option (List S_api_Piece) :=
  (m_cantonref08_May l2).bind fun u4 => if (!u4) = true then (some ([])) else (m_cantonref08_Of_l1 l2 (((l2.length : Int) - 0 : Int).toNat + 1) [] 0)
theorem c_cantonref08_Of {w : World} {Fo : List Ob} {rs : List Rp} (v1 : Value) (l2 : List S_api_Op) (H : Sep w (Fo) rs) (hr3 : rSl k_api_Op v1 l2 ∈ rs) {r : (List S_api_Piece)} (hm : m_cantonref08_Of l2 = some r) :
    Calls Tryz.prog 25 [v1].toArray w (Ret fun v w' => ∃ (v5001 : Value), v5001 = v ∧ Sep w' (Row 64 k_api_Piece v5001 r :: Fo) (rs)) := by
 unfold m_cantonref08_Of at hm
 refine enter Tryz.func25 rfl Tryz.ntmps25 rfl fun a E =>?_
 simp only [enum, Nat.reduceAdd] at E
 refine sq<|pr 1 E rfl fun a E=>nt<|wp_seq<|sq<|pr 1 E rfl fun a E=>bd hm fun u4 hx5 hm=>x_cl E rfl rfl rfl rfl rfl cf20 (c_cantonref08_May v1 l2 H hr3 hx5)<|?_
 rintro _ w ⟨rfl, H⟩ a E
 refine pr 1 E rfl fun a E=>nt<|wif E hm rfl (fun hm=>?_) fun hm=>?_
 ·refine sq<|pr 1 E rfl fun a E=>nt<|wp_ret<|q_thenR<|out1 E rfl rfl<|have H:=H.nilRow 64 k_api_Piece;?_
  cases hm
  exact ⟨(.slice none 0 0), rfl, H.reads (fun r hr => hr)⟩
 ·refine wp_skip<|q_then<|sq<|pr 1 E rfl fun a E=>nt<|wp_seq<|sq<|pr 1 E rfl fun a E=>nt<|?_
  refine wp_block<|wp_loop_g (fun k1 a w => ∃ (v6 : Value) (l7 : (List S_api_Piece)) (x8 : Int) (rs9 : List Rp), Env 37 a [(0, v1), (3, v6), (4, .int .i64 x8)] ∧ Sep w (Row 64 k_api_Piece v6 l7 :: Fo) rs9 ∧ (∀ r, r ∈ rs → r ∈ rs9) ∧ rSl k_api_Op v1 l2 ∈ rs9 ∧ m_cantonref08_Of_l1 l2 k1 l7 x8 = some r) (((l2.length : Int) - 0 : Int).toNat + 1) ?_ ?_
  ·exact have H:=H.nilRow 64 k_api_Piece;⟨(.slice none 0 0), [], 0, _, E.sel [0, 3, 4] rfl, H, fun r hr => hr, hr3, hm⟩
  ·clear E H hm
   rintro k1 a w ⟨v6, l7, x8, rs9, E, H, hs10, hr11, hm⟩
   cases k1 with
   | zero => exact (none_some hm rfl).elim
   | succ k1 =>
    unfold m_cantonref08_Of_l1 at hm
    refine wp_seq<|sq<|pr 2 E rfl fun a E=>sv E rfl rfl rfl (x_lenS E H rfl rfl hr11 Tryz.underlying23) fun a E=>pr 1 E rfl fun a E=>nt<|wif E hm rfl (fun hm=>?_) fun hm=>?_
    ·refine wp_skip<|q_then<|wp_seq<|wp_block<|sq<|pr 2 E rfl fun a E=>bd hm fun x12 hx13 hm=>st_ixS E H (wn rfl) rfl rfl rfl rfl rfl hr11 Tryz.underlying23 sz55 hx13 fun q14 a H E=>ldf k_api_Op_flat E H rfl rfl rfl rfl rfl m0 Tryz.underlying55 rfl sz55 fun a E=>?_
     refine bd hm fun u15 hx16 hm=>x_cl E rfl rfl rfl rfl rfl cf50 (c_cantonref07_Of x12 H hx16)<|?_
     rintro _ w ⟨v17, rfl, H⟩ a E
     refine pr 1 E rfl fun a E=>nx<|pr 1 E rfl fun a E=>nt<|wp_block<|wp_loop_g (fun k2 a w => ∃ (v18 : Value) (l19 : (List S_api_Piece)) (x20 : Int) (rs21 : List Rp), Env 37 a [(0, v1), (3, v18), (4, .int .i64 x8), (5, v17), (6, .int .i64 x20)] ∧ Sep w (Row 64 k_api_Piece v18 l19 :: Row 62 k_api_Part v17 u15 :: Fo) rs21 ∧ (∀ r, r ∈ rs → r ∈ rs21) ∧ rSl k_api_Op v1 l2 ∈ rs21 ∧ m_cantonref08_Of_l2 (m_cantonref08_Of_l1 l2 k1) u15 x8 k2 l19 x20 = some r) (((u15.length : Int) - 0 : Int).toNat + 1) ?_ ?_
     ·exact have H:=H.front 0 rfl;have H:=H.front 1 rfl;⟨v6, l7, 0, _, E.sel [0, 3, 4, 5, 6] rfl, H, fun r hr => (t1 (hs10 r hr)), (t1 hr11), hm⟩
     ·clear E H hm
      rintro k2 a w ⟨v18, l19, x20, rs21, E, H, hs22, hr23, hm⟩
      cases k2 with
      | zero => exact (none_some hm rfl).elim
      | succ k2 =>
       unfold m_cantonref08_Of_l2 at hm
       refine wp_seq<|sq<|pr 2 E rfl fun a E=>sv E rfl rfl rfl (x_lenR (i := 1) E H rfl rfl rfl Tryz.underlying59) fun a E=>pr 1 E rfl fun a E=>nt<|wif E hm rfl (fun hm=>?_) fun hm=>?_
       ·refine wp_skip<|q_then<|wp_seq<|wp_block<|wp_region_lit<|pr 4 E rfl fun a E=>bd hm fun x24 hx25 hm=>?_
        obtain ⟨p26, x27, hx28⟩ := H.rowformNE (i := 1) rfl hx25
        refine sv E rfl rfl rfl (x_ixRowV (d := k_api_Part) E hx28 rfl rfl rfl rfl Tryz.underlying59 sz62 hx25) fun a E=>sv E rfl rfl rfl (x_ldRowNV (i := 1) E H k_api_Part_flat hx28 rfl rfl rfl hx25 (us := [.int .i64 x24.Kind, .string x24.Dir, .string x24.Path, .string x24.Data, .int .i64 x24.Version, .int .i64 x24.Owner, .bool x24.Turns]) rfl Tryz.underlying62 rfl sz62) fun a E=>sv E rfl rfl rfl (x_build E rfl (E.evs rfl) (v := .agg #[.int .i64 x8, .int .i64 x24.Kind, .string x24.Dir, .string x24.Path, .string x24.Data, .int .i64 x24.Version, .int .i64 x24.Owner, .bool x24.Turns]) (by kernel_rfl)) fun a E=>st_bsR (e := 64) (d := k_api_Piece) (cs := [.int .i64 x8, .int .i64 x24.Kind, .string x24.Dir, .string x24.Path, .string x24.Data, .int .i64 x24.Version, .int .i64 x24.Owner, .bool x24.Turns]) (xs := [(⟨x8, x24⟩ : S_api_Piece)]) E H (wn rfl) rfl rfl rfl (E.evs rfl) (by kernel_rfl) rfl (fun ok hr => (Rows.single (d := k_api_Piece) (cs := [.int .i64 x8, .int .i64 x24.Kind, .string x24.Dir, .string x24.Path, .string x24.Data, .int .i64 x24.Version, .int .i64 x24.Owner, .bool x24.Turns]) (x := (⟨x8, x24⟩ : S_api_Piece)) k_api_Piece_mk)) fun v29 w a H E=>bk hm fun hx32 hm=>st_append (i := 0) E H (wn rfl) rfl rfl rfl rfl rfl rfl (src_rd m0) Tryz.underlying36 inf64 rfl hx32 rfl fun v30 w a H E=>pr 1 E rfl fun a E=>wpList_nil<|q_blk<|?_
        exact q_then<|wp_region_lit<|pr 3 E rfl fun a E=>nt<|⟨k2, Nat.lt_succ_self k2, v30, l19 ++ ([(⟨x8, x24⟩ : S_api_Piece)] : List S_api_Piece), IntKind.i64.wrap (x20 + 1), _, E.sel [0, 3, 4, 5, 6] rfl, H, fun r hr => (t1 (hs22 r hr)), (t1 hr23), hm⟩
       ·refine wp_exit<|q_thenX<|q_thenX<|q_hit<|q_blk<|q_then<|wp_region_lit<|pr 3 E rfl fun a E=>nt<|?_
        exact have H:=H.drop 1;⟨k1, Nat.lt_succ_self k1, v18, l19, IntKind.i64.wrap (x8 + 1), _, E.sel [0, 3, 4] rfl, H, hs22, hr23, hm⟩
    ·refine wp_exit<|q_thenX<|q_thenX<|q_hit<|q_then<|sq<|pr 2 E rfl fun a E=>nt<|wp_ret<|?_
     refine out1 E rfl rfl<|?_
     cases hm
     exact ⟨v6, rfl, H.reads (hs10)⟩

def m_cantonref06_SameList_l1 (l2 : List S_api_Result) (l4 : List S_api_Result) : Nat → Int → Option Bool
  | 0, _ => none
  | k1 + 1, x7 =>
    if (decide (x7 < (l2.length : Int))) = true then ((idx l2 x7).bind fun x14 => (idx l4 x7).bind fun x25 => (m_cantonref06_SameOne x14 x25).bind fun u36 => if (!u36) = true then (some (false)) else (m_cantonref06_SameList_l1 l2 l4 k1 (IntKind.i64.wrap (x7 + 1)))) else (some (true))
def m_cantonref06_SameList (l2 : List S_api_Result) (l4 : List S_api_Result) : Option Bool :=
  if ((l2.length : Int) != (l4.length : Int)) = true then (some (false)) else (m_cantonref06_SameList_l1 l2 l4 (((l2.length : Int) - 0 : Int).toNat + 1) 0)
theorem c_cantonref06_SameList {w : World} {Fo : List Ob} {rs : List Rp} (v1 : Value) (l2 : List S_api_Result) (v3 : Value) (l4 : List S_api_Result) (H : Sep w (Fo) rs) (hr5 : rSl k_api_Result v1 l2 ∈ rs) (hr6 : rSl k_api_Result v3 l4 ∈ rs) {r : Bool} (hm : m_cantonref06_SameList l2 l4 = some r) :
    Calls Tryz.prog 31 [v1, v3].toArray w (Ret fun v w' => .bool r = v ∧ Sep w' (Fo) (rs)) := by
 unfold m_cantonref06_SameList at hm
 refine enter Tryz.func31 rfl Tryz.ntmps31 rfl fun a E =>?_
 simp only [enum, Nat.reduceAdd] at E
 refine sq<|pr 1 E rfl fun a E=>nt<|wp_seq<|sq<|pr 1 E rfl fun a E=>sv E rfl rfl rfl (x_lenS E H rfl rfl hr5 Tryz.underlying28) fun a E=>pr 1 E rfl fun a E=>sv E rfl rfl rfl (x_lenS E H rfl rfl hr6 Tryz.underlying28) fun a E=>?_
 refine pr 1 E rfl fun a E=>nt<|wif E hm rfl (fun hm=>?_) fun hm=>?_
 ·refine sq<|pr 1 E rfl fun a E=>nt<|wp_ret<|q_thenR<|out1 E rfl rfl<|?_
  cases hm
  exact ⟨rfl, H.reads (fun r hr => hr)⟩
 ·refine wp_skip<|q_then<|wp_seq<|sq<|pr 1 E rfl fun a E=>nt<|wp_block<|wp_loop_g (fun k1 a w => ∃ (x7 : Int) (rs8 : List Rp), Env 27 a [(0, v1), (1, v3), (5, .int .i64 x7)] ∧ Sep w (Fo) rs8 ∧ (∀ r, r ∈ rs → r ∈ rs8) ∧ rSl k_api_Result v1 l2 ∈ rs8 ∧ rSl k_api_Result v3 l4 ∈ rs8 ∧ m_cantonref06_SameList_l1 l2 l4 k1 x7 = some r) (((l2.length : Int) - 0 : Int).toNat + 1) ?_ ?_
  ·exact ⟨0, _, E.sel [0, 1, 5] rfl, H, fun r hr => hr, hr5, hr6, hm⟩
  ·clear E H hm
   rintro k1 a w ⟨x7, rs8, E, H, hs9, hr10, hr11, hm⟩
   cases k1 with
   | zero => exact (none_some hm rfl).elim
   | succ k1 =>
    unfold m_cantonref06_SameList_l1 at hm
    refine wp_seq<|sq<|pr 2 E rfl fun a E=>sv E rfl rfl rfl (x_lenS E H rfl rfl hr10 Tryz.underlying28) fun a E=>pr 1 E rfl fun a E=>nt<|wif E hm rfl (fun hm=>?_) fun hm=>?_
    ·refine wp_skip<|q_then<|wp_seq<|wp_block<|wp_seq<|?_
     obtain ⟨u12, H⟩ := H.raw hr10
     obtain ⟨u13, H⟩ := H.raw (t1 hr11)
     refine dw [(0, 0), (1, 0), (2, 0), (3, 0), (4, 0), (5, 0), (6, 0), (7, 0), (8, 1), (9, 0)] [] [1, 0] H (by kernel_rfl) (fun _ _ _ h => False.elim h.2) fun w W0 hI H=>fn 2 E rfl fun a E=>bd hm fun x14 hx15 hm=>?_
     obtain ⟨q16, u19, hx17, hx18⟩ := dr_ixW (P := Tryz.prog) (k := .i64) hI (dr_mem (.head _)) Tryz.underlying28 sz51 hx15
     refine fr_val E rfl (wn rfl) rfl rfl (fun w hW=>x_ixA E rfl rfl rfl (hx17 w)) fun a E=>?_
     obtain ⟨_, hx21⟩ := dr_open hI hx18
     obtain ⟨v23, hx20, -⟩ := k_api_Result_open hx21
     have hx22 := hx18
     rw [hx20] at hx22
     have hx24 := dr_get hx22 (fun _ _ h => k_api_Result_get1 h)
     refine fr_val E rfl (wn rfl) rfl rfl (fun w hW=>x_ld E rfl rfl (ir_ldW (cs := [.int .i64 x14.Err, .string x14.Path, .string x14.Data, .int .i64 x14.Version, v23]) (DR.ir hx22) Tryz.underlying51 rfl sz51 w hW)) fun a E=>?_
     refine fn 2 E rfl fun a E=>bd hm fun x25 hx26 hm=>?_
     obtain ⟨q27, u30, hx28, hx29⟩ := dr_ixW (P := Tryz.prog) (k := .i64) hI (dr_mem (.tail _ (.head _))) Tryz.underlying28 sz51 hx26
     refine fr_val E rfl (wn rfl) rfl rfl (fun w hW=>x_ixA E rfl rfl rfl (hx28 w)) fun a E=>?_
     obtain ⟨_, hx32⟩ := dr_open hI hx29
     obtain ⟨v34, hx31, -⟩ := k_api_Result_open hx32
     have hx33 := hx29
     rw [hx31] at hx33
     have hx35 := dr_get hx33 (fun _ _ h => k_api_Result_get1 h)
     refine fr_val E rfl (wn rfl) rfl rfl (fun w hW=>x_ld E rfl rfl (ir_ldW (cs := [.int .i64 x25.Err, .string x25.Path, .string x25.Data, .int .i64 x25.Version, v34]) (DR.ir hx33) Tryz.underlying51 rfl sz51 w hW)) fun a E=>?_
     refine have H:=H.dr (sub_cons mm1 (sub_cons m0 (sub_nil))) hx24;have H:=H.dr (sub_cons mm2 (sub_cons mm1 (sub_nil))) hx35;fr_op rfl<|bd hm fun u36 hx37 hm=>x_cl E rfl rfl rfl rfl rfl cf33 (c_cantonref06_SameOne x14 v23 x25 v34 H mm1 m0 hx37)<|?_
     rintro _ w ⟨rfl, H⟩ a E
     refine nt<|?_
     refine ⟨⟨_, _, H, (subO_nil), (sub_cons mm3 (sub_cons mm2 (sub_nil)))⟩, ?_⟩
     refine fn 1 E rfl fun a E=>fr_nil<|?_
     clear hI
     refine q_then<|wif E hm rfl (fun hm=>?_) fun hm=>?_
     ·refine sq<|pr 1 E rfl fun a E=>nt<|wp_ret<|q_blkR<|q_thenR<|q_thenR<|q_blkR<|q_thenR<|?_
      refine out1 E rfl rfl<|?_
      cases hm
      exact ⟨rfl, H.reads (fun r hr => (t4 (hs9 r hr)))⟩
     ·exact wp_skip<|q_blk<|q_then<|wp_region_lit<|pr 3 E rfl fun a E=>nt<|⟨k1, Nat.lt_succ_self k1, IntKind.i64.wrap (x7 + 1), _, E.sel [0, 1, 5] rfl, H, fun r hr => (t4 (hs9 r hr)), (t4 hr10), (t4 hr11), hm⟩
    ·refine wp_exit<|q_thenX<|q_thenX<|q_hit<|q_then<|sq<|pr 1 E rfl fun a E=>nt<|wp_ret<|?_
     refine out1 E rfl rfl<|?_
     cases hm
     exact ⟨rfl, H.reads (hs9)⟩

def m_cantonref08_SameDone (x1 : S_api_Done) (x3 : S_api_Done) : Option Bool :=
  if (x1.Err == x3.Err) = true then (if (x1.At == x3.At) = true then ((m_cantonref06_SameList x1.Results x3.Results).bind fun u15 => some (u15)) else (some (false))) else (some (false))
theorem c_cantonref08_SameDone {w : World} {Fo : List Ob} {rs : List Rp} (x1 : S_api_Done) (v2 : Value) (x3 : S_api_Done) (v4 : Value) (H : Sep w (Fo) rs) (hr5 : rSl k_api_Result v2 x1.Results ∈ rs) (hr6 : rSl k_api_Result v4 x3.Results ∈ rs) {r : Bool} (hm : m_cantonref08_SameDone x1 x3 = some r) :
    Calls Tryz.prog 22 [.agg (l_api_Done x1 v2).toArray, .agg (l_api_Done x3 v4).toArray].toArray w (Ret fun v w' => .bool r = v ∧ Sep w' (Fo) (rs)) := by
 unfold m_cantonref08_SameDone at hm
 refine enter Tryz.func22 rfl Tryz.ntmps22 rfl fun a E =>?_
 simp only [enum, Nat.reduceAdd] at E
 refine sq<|?_
 obtain ⟨q8, x9, rfl⟩ := H.slform hr5
 refine st_box E H (wn rfl) rfl rfl (cs := (l_api_Done x1 (.slice q8 x1.Results.length x9))) rfl rfl rfl fun p7 w a H E=>?_
 obtain ⟨q11, x12, rfl⟩ := H.slform hr6
 refine st_box E H (wn rfl) rfl rfl (cs := (l_api_Done x3 (.slice q11 x3.Results.length x12))) rfl rfl rfl fun p10 w a H E=>pr 1 E rfl fun a E=>nx<|pr 1 E rfl fun a E=>lb E H 1 rfl rfl rfl rfl rfl rfl rfl Tryz.underlying27 rfl fun a E=>pr 1 E rfl fun a E=>lb E H 0 rfl rfl rfl rfl rfl rfl rfl Tryz.underlying27 rfl fun a E=>pr 2 E rfl fun a E=>cs hm (fun hb13 hm=>?_) fun hb13 hm=>?_
 ·refine pk 1 E (kc 10 rfl hb13) rfl fun a E=>st_val E (ws' (d := 10) E rfl rfl rfl rfl hb13) rfl rfl (x_ldB (i := 1) E H rfl rfl rfl rfl Tryz.underlying3 rfl) fun a E=>pk 1 E (kc 10 rfl hb13) rfl fun a E=>st_val E (ws' (d := 10) E rfl rfl rfl rfl hb13) rfl rfl (x_ldB (i := 0) E H rfl rfl rfl rfl Tryz.underlying3 rfl) fun a E=>pk 3 E (kc 10 rfl hb13) rfl fun a E=>cs hm (fun hb14 hm=>?_) fun hb14 hm=>?_
  ·refine pk 1 E (kc 17 rfl hb14) rfl fun a E=>st_val E (ws' (d := 17) E rfl rfl rfl rfl hb14) rfl rfl (x_ldB (i := 1) E H rfl rfl rfl rfl Tryz.underlying28 rfl) fun a E=>pk 1 E (kc 17 rfl hb14) rfl fun a E=>st_val E (ws' (d := 17) E rfl rfl rfl rfl hb14) rfl rfl (x_ldB (i := 0) E H rfl rfl rfl rfl Tryz.underlying28 rfl) fun a E=>bd hm fun u15 hx16 hm=>st_call E (ws' (d := 17) E rfl rfl rfl rfl hb14) rfl rfl (x_call E rfl rfl (cf31 _)) (c_cantonref06_SameList (.slice q8 x1.Results.length x9) x1.Results (.slice q11 x3.Results.length x12) x3.Results H hr5 hr6 hx16)<|?_
   rintro _ w ⟨rfl, H⟩ a E
   refine pk 2 E (kc 17 rfl hb14) rfl fun a E=>nt<|wp_ret<|out1 E rfl rfl<|have H:=H.drop 0;have H:=H.drop 0;?_
   cases hm
   exact ⟨rfl, H.reads (fun r hr => hr)⟩
  ·refine pk 7 E (kc 17 rfl hb14) rfl fun a E=>nt<|wp_ret<|out1 E rfl rfl<|have H:=H.drop 0;have H:=H.drop 0;?_
   cases hm
   exact ⟨rfl, H.reads (fun r hr => hr)⟩
 ·refine pk 14 E (kc 10 rfl hb13) rfl fun a E=>nt<|wp_ret<|out1 E rfl rfl<|have H:=H.drop 0;have H:=H.drop 0;?_
  cases hm
  exact ⟨rfl, H.reads (fun r hr => hr)⟩

def m_cantonref08_SamePieces_l1 (l2 : List S_api_Piece) (l4 : List S_api_Piece) : Nat → Int → Option Bool
  | 0, _ => none
  | k1 + 1, x7 =>
    if (decide (x7 < (l2.length : Int))) = true then ((idx l2 x7).bind fun x14 => (idx l4 x7).bind fun x20 => if (!((x14.Op == x20.Op) && ((x14.Part.Kind == x20.Part.Kind) && ((sEq x14.Part.Dir x20.Part.Dir) && ((sEq x14.Part.Path x20.Part.Path) && ((sEq x14.Part.Data x20.Part.Data) && ((x14.Part.Version == x20.Part.Version) && ((x14.Part.Owner == x20.Part.Owner) && (x14.Part.Turns == x20.Part.Turns))))))))) = true then (some (false)) else (m_cantonref08_SamePieces_l1 l2 l4 k1 (IntKind.i64.wrap (x7 + 1)))) else (some (true))
def m_cantonref08_SamePieces (l2 : List S_api_Piece) (l4 : List S_api_Piece) : Option Bool :=
  if ((l2.length : Int) != (l4.length : Int)) = true then (some (false)) else (m_cantonref08_SamePieces_l1 l2 l4 (((l2.length : Int) - 0 : Int).toNat + 1) 0)
theorem c_cantonref08_SamePieces {w : World} {Fo : List Ob} {rs : List Rp} (v1 : Value) (l2 : List S_api_Piece) (v3 : Value) (l4 : List S_api_Piece) (H : Sep w (Fo) rs) (hr5 : rSl k_api_Piece v1 l2 ∈ rs) (hr6 : rSl k_api_Piece v3 l4 ∈ rs) {r : Bool} (hm : m_cantonref08_SamePieces l2 l4 = some r) :
    Calls Tryz.prog 23 [v1, v3].toArray w (Ret fun v w' => .bool r = v ∧ Sep w' (Fo) (rs)) := by
 unfold m_cantonref08_SamePieces at hm
 refine enter Tryz.func23 rfl Tryz.ntmps23 rfl fun a E =>?_
 simp only [enum, Nat.reduceAdd] at E
 refine sq<|pr 1 E rfl fun a E=>nt<|wp_seq<|sq<|pr 1 E rfl fun a E=>sv E rfl rfl rfl (x_lenS E H rfl rfl hr5 Tryz.underlying36) fun a E=>pr 1 E rfl fun a E=>sv E rfl rfl rfl (x_lenS E H rfl rfl hr6 Tryz.underlying36) fun a E=>?_
 refine pr 1 E rfl fun a E=>nt<|wif E hm rfl (fun hm=>?_) fun hm=>?_
 ·refine sq<|pr 1 E rfl fun a E=>nt<|wp_ret<|q_thenR<|out1 E rfl rfl<|?_
  cases hm
  exact ⟨rfl, H.reads (fun r hr => hr)⟩
 ·refine wp_skip<|q_then<|wp_seq<|sq<|pr 1 E rfl fun a E=>nt<|wp_block<|wp_loop_g (fun k1 a w => ∃ (x7 : Int) (rs8 : List Rp), Env 26 a [(0, v1), (1, v3), (5, .int .i64 x7)] ∧ Sep w (Fo) rs8 ∧ (∀ r, r ∈ rs → r ∈ rs8) ∧ rSl k_api_Piece v1 l2 ∈ rs8 ∧ rSl k_api_Piece v3 l4 ∈ rs8 ∧ m_cantonref08_SamePieces_l1 l2 l4 k1 x7 = some r) (((l2.length : Int) - 0 : Int).toNat + 1) ?_ ?_
  ·exact ⟨0, _, E.sel [0, 1, 5] rfl, H, fun r hr => hr, hr5, hr6, hm⟩
  ·clear E H hm
   rintro k1 a w ⟨x7, rs8, E, H, hs9, hr10, hr11, hm⟩
   cases k1 with
   | zero => exact (none_some hm rfl).elim
   | succ k1 =>
    unfold m_cantonref08_SamePieces_l1 at hm
    refine wp_seq<|sq<|pr 2 E rfl fun a E=>sv E rfl rfl rfl (x_lenS E H rfl rfl hr10 Tryz.underlying36) fun a E=>pr 1 E rfl fun a E=>nt<|wif E hm rfl (fun hm=>?_) fun hm=>?_
    ·refine wp_skip<|q_then<|wp_seq<|wp_block<|wp_seq<|?_
     obtain ⟨u12, H⟩ := H.raw hr10
     obtain ⟨u13, H⟩ := H.raw (t1 hr11)
     refine dw [(0, 0), (1, 0), (2, 0), (3, 0), (4, 0), (5, 0), (6, 0), (7, 0), (8, 0)] [] [1, 0] H (by kernel_rfl) (fun _ _ _ h => False.elim h.2) fun w W0 hI H=>fn 2 E rfl fun a E=>bd hm fun x14 hx15 hm=>?_
     obtain ⟨q16, u19, hx17, hx18⟩ := dr_ixW (P := Tryz.prog) (k := .i64) hI (dr_mem (.head _)) Tryz.underlying36 sz64 hx15
     refine fr_val E rfl (wn rfl) rfl rfl (fun w hW=>x_ixA E rfl rfl rfl (hx17 w)) fun a E=>?_
     refine fr_val E rfl (wn rfl) rfl rfl (fun w hW=>x_ld E rfl rfl (ir_ldN (cs := [.int .i64 x14.Op, .int .i64 x14.Part.Kind, .string x14.Part.Dir, .string x14.Part.Path, .string x14.Part.Data, .int .i64 x14.Part.Version, .int .i64 x14.Part.Owner, .bool x14.Part.Turns]) (DR.ir (dr_at hx18)) (fun _ _ _ h => k_api_Piece_open h) Tryz.underlying64 rfl sz64 w hW)) fun a E=>?_
     refine fn 2 E rfl fun a E=>bd hm fun x20 hx21 hm=>?_
     obtain ⟨q22, u25, hx23, hx24⟩ := dr_ixW (P := Tryz.prog) (k := .i64) hI (dr_mem (.tail _ (.head _))) Tryz.underlying36 sz64 hx21
     refine fr_val E rfl (wn rfl) rfl rfl (fun w hW=>x_ixA E rfl rfl rfl (hx23 w)) fun a E=>?_
     refine fr_val E rfl (wn rfl) rfl rfl (fun w hW=>x_ld E rfl rfl (ir_ldN (cs := [.int .i64 x20.Op, .int .i64 x20.Part.Kind, .string x20.Part.Dir, .string x20.Part.Path, .string x20.Part.Data, .int .i64 x20.Part.Version, .int .i64 x20.Part.Owner, .bool x20.Part.Turns]) (DR.ir (dr_at hx24)) (fun _ _ _ h => k_api_Piece_open h) Tryz.underlying64 rfl sz64 w hW)) fun a E=>?_
     refine fr_val E rfl (wn rfl) rfl rfl (fun w hW=>(x_bin2 E rfl rfl rfl (v := .bool (!((x14.Op == x20.Op) && ((x14.Part.Kind == x20.Part.Kind) && ((sEq x14.Part.Dir x20.Part.Dir) && ((sEq x14.Part.Path x20.Part.Path) && ((sEq x14.Part.Data x20.Part.Data) && ((x14.Part.Version == x20.Part.Version) && ((x14.Part.Owner == x20.Part.Owner) && (x14.Part.Turns == x20.Part.Turns)))))))))) (ne_agg egt64 (eq_struct Tryz.underlying64 sih64 (eqf_cons (by rfl) (by kernel_rfl) (by kernel_rfl) (eq_int Tryz.underlying3) (eqf_last (a := .agg (l_api_Part x14.Part).toArray) (b := .agg (l_api_Part x20.Part).toArray) (by rfl) (by kernel_rfl) (by kernel_rfl) (eq_struct Tryz.underlying62 sih62 (eqf_cons (by rfl) (by kernel_rfl) (by kernel_rfl) (eq_int Tryz.underlying3) (eqf_cons (by rfl) (by kernel_rfl) (by kernel_rfl) (eq_string Tryz.underlying9) (eqf_cons (by rfl) (by kernel_rfl) (by kernel_rfl) (eq_string Tryz.underlying9) (eqf_cons (by rfl) (by kernel_rfl) (by kernel_rfl) (eq_string Tryz.underlying9) (eqf_cons (by rfl) (by kernel_rfl) (by kernel_rfl) (eq_int Tryz.underlying2) (eqf_cons (by rfl) (by kernel_rfl) (by kernel_rfl) (eq_int Tryz.underlying2) (eqf_last (by rfl) (by kernel_rfl) (by kernel_rfl) (eq_bool Tryz.underlying4))))))))))))))) fun a E=>?_
     refine fr_nil<|?_
     clear hI
     refine q_then<|wif E hm rfl (fun hm=>?_) fun hm=>?_
     ·refine sq<|pr 1 E rfl fun a E=>nt<|wp_ret<|q_blkR<|q_thenR<|q_thenR<|q_blkR<|q_thenR<|?_
      refine out1 E rfl rfl<|?_
      cases hm
      exact ⟨rfl, H.reads (fun r hr => (t2 (hs9 r hr)))⟩
     ·exact wp_skip<|q_blk<|q_then<|wp_region_lit<|pr 3 E rfl fun a E=>nt<|⟨k1, Nat.lt_succ_self k1, IntKind.i64.wrap (x7 + 1), _, E.sel [0, 1, 5] rfl, H, fun r hr => (t2 (hs9 r hr)), (t2 hr10), (t2 hr11), hm⟩
    ·refine wp_exit<|q_thenX<|q_thenX<|q_hit<|q_then<|sq<|pr 1 E rfl fun a E=>nt<|wp_ret<|?_
     refine out1 E rfl rfl<|?_
     cases hm
     exact ⟨rfl, H.reads (hs9)⟩

def m_cantonlaw08_MultiTells_j1 (u8 : Bool) (l2 : List S_api_Node) (l4 : List S_api_Op) (b10 : Bool) : Option Bool :=
  if b10 = true then (some (u8)) else ((m_multi_Apply l2 l4).bind fun u16 => (m_cantonref08_Apply l2 l4).bind fun u23 => if u8 = true then ((m_multi_May l4).bind fun u31 => (m_cantonref08_May l4).bind fun u33 => if (u31 == u33) = true then ((m_cantonref06_Same u16.1 u23.1).bind fun u36 => if u36 = true then ((m_cantonref08_SameDone u16.2 u23.2).bind fun u39 => if u39 = true then ((m_multi_Of l4).bind fun u42 => (m_cantonref08_Of l4).bind fun u45 => (m_cantonref08_SamePieces u42 u45).bind fun u48 => some (u48)) else (some (false))) else (some (false))) else (some (false))) else (some (false)))
def m_cantonlaw08_MultiTells (l2 : List S_api_Node) (l4 : List S_api_Op) : Option Bool :=
  m_cantonlaw08_head.bind fun u8 => (m_cantonlaw06_Great l2).bind fun u50 => if u50 = true then (m_cantonlaw08_MultiTells_j1 u8 l2 l4 true) else ((m_cantonlaw08_GreatOps l4).bind fun u53 => m_cantonlaw08_MultiTells_j1 u8 l2 l4 u53)
theorem c_cantonlaw08_MultiTells {w : World} {Fo : List Ob} {rs : List Rp} (v1 : Value) (l2 : List S_api_Node) (v3 : Value) (l4 : List S_api_Op) (H : Sep w (Fo) rs) (hr5 : rSl k_api_Node v1 l2 ∈ rs) (hr6 : rSl k_api_Op v3 l4 ∈ rs) (hr7 : rTab Tryz.prog ∈ rs) {r : Bool} (hm : m_cantonlaw08_MultiTells l2 l4 = some r) :
    Calls Tryz.prog 3 [v1, v3].toArray w (Ret fun v w' => .bool r = v ∧ Sep w' (Fo) (rs)) := by
 unfold m_cantonlaw08_MultiTells at hm
 refine enter Tryz.func3 rfl Tryz.ntmps3 rfl fun a E =>?_
 simp only [enum, Nat.reduceAdd] at E
 refine sq<|pr 1 E rfl fun a E=>nx<|bd hm fun u8 hx9 hm=>x_cl E rfl rfl rfl rfl rfl cf14 (c_cantonlaw08_head H hr7 hx9)<|?_
 rintro _ w ⟨rfl, H⟩ a E
 refine pr 1 E rfl fun a E=>nt<|wp_seq<|wp_seq_cut (fun a w => ∃ (b10 : Bool) (rs11 : List Rp), Env 55 a [(0, v1), (1, v3), (5, .bool u8), (16, .bool b10)] ∧ Sep w (Fo) rs11 ∧ (∀ r, r ∈ rs → r ∈ rs11) ∧ rSl k_api_Node v1 l2 ∈ rs11 ∧ rSl k_api_Op v3 l4 ∈ rs11 ∧ rTab Tryz.prog ∈ rs11 ∧ m_cantonlaw08_MultiTells_j1 u8 l2 l4 b10 = some r) ?_ ?_
 ·refine wp_region_lit<|pr 1 E rfl fun a E=>bd hm fun u50 hx51 hm=>x_cl E rfl rfl rfl rfl rfl cf15 (c_cantonlaw06_Great v1 l2 H hr5 hx51)<|?_
  rintro _ w ⟨rfl, H⟩ a E
  refine pr 1 E rfl fun a E=>cs hm (fun hb52 hm=>?_) fun hb52 hm=>?_
  ·exact pk 3 E (kc 13 rfl hb52) rfl fun a E=>nt<|⟨true, _, E.sel [0, 1, 5, 16] rfl, H, fun r hr => hr, hr5, hr6, hr7, hm⟩
  ·refine pk 1 E (kc 13 rfl hb52) rfl fun a E=>bd hm fun u53 hx54 hm=>st_call E (ws' (d := 13) E rfl rfl rfl rfl hb52) rfl rfl (x_call E rfl rfl (cf16 _)) (c_cantonlaw08_GreatOps v3 l4 H hr6 hx54)<|?_
   rintro _ w ⟨rfl, H⟩ a E
   exact pk 1 E (kc 13 rfl hb52) rfl fun a E=>nt<|⟨u53, _, E.sel [0, 1, 5, 16] rfl, H, fun r hr => hr, hr5, hr6, hr7, hm⟩
 ·clear E H hm
  rintro a w ⟨b10, rs11, E, H, hs12, hr13, hr14, hr15, hm⟩
  unfold m_cantonlaw08_MultiTells_j1 at hm
  refine wif E hm rfl (fun hm=>?_) fun hm=>?_
  ·refine sq<|pr 2 E rfl fun a E=>nt<|wp_ret<|q_thenR<|out1 E rfl rfl<|?_
   cases hm
   exact ⟨rfl, H.reads (hs12)⟩
  ·refine wp_skip<|q_then<|sq<|pr 2 E rfl fun a E=>bd hm fun u16 hx17 hm=>x_cl E rfl rfl rfl rfl rfl cf17 (c_multi_Apply v1 l2 v3 l4 H hr13 hr14 hr15 hx17)<|?_
   rintro _ w ⟨v18, v19, rfl, H⟩ a E
   refine pr 3 E rfl fun a E=>al E H rfl rfl rfl rfl zr30 fun p20 w a H E=>pr 1 E rfl fun a E=>?_
   obtain ⟨q21, x22, rfl⟩ := H.slform mm1
   refine st_st (i := 0) E H (wn rfl) rfl (us := (l_api_Done u16.2 (.slice q21 u16.2.Results.length x22))) rfl rfl rfl rfl rfl sz30 rfl rfl fun w H=>nx<|pr 2 E rfl fun a E=>bd hm fun u23 hx24 hm=>x_cl E rfl rfl rfl rfl rfl cf18 (c_cantonref08_Apply v1 l2 v3 l4 H (t2 hr13) (t2 hr14) hx24)<|?_
   rintro _ w ⟨v25, v26, rfl, H⟩ a E
   refine pr 3 E rfl fun a E=>al E H rfl rfl rfl rfl zr30 fun p27 w a H E=>pr 1 E rfl fun a E=>?_
   obtain ⟨q28, x29, rfl⟩ := H.slform mm1
   refine st_st (i := 0) E H (wn rfl) rfl (us := (l_api_Done u23.2 (.slice q28 u23.2.Results.length x29))) rfl rfl rfl rfl rfl sz30 rfl rfl fun w H=>nx<|pr 2 E rfl fun a E=>cs hm (fun hb30 hm=>?_) fun hb30 hm=>?_
   ·refine pk 1 E (kc 31 rfl hb30) rfl fun a E=>bd hm fun u31 hx32 hm=>st_call E (ws' (d := 31) E rfl rfl rfl rfl hb30) rfl rfl (x_call E rfl rfl (cf19 _)) (c_multi_May v3 l4 H (t4 hr14) hx32)<|?_
    rintro _ w ⟨rfl, H⟩ a E
    refine pk 1 E (kc 31 rfl hb30) rfl fun a E=>bd hm fun u33 hx34 hm=>st_call E (ws' (d := 31) E rfl rfl rfl rfl hb30) rfl rfl (x_call E rfl rfl (cf20 _)) (c_cantonref08_May v3 l4 H (t4 hr14) hx34)<|?_
    rintro _ w ⟨rfl, H⟩ a E
    refine st_val E (ws' (d := 31) E rfl rfl rfl rfl hb30) rfl rfl (x_bin2 E rfl rfl rfl (v := .bool (u31 == u33)) (by kernel_rfl)) fun a E=>pk 2 E (kc 31 rfl hb30) rfl fun a E=>cs hm (fun hb35 hm=>?_) fun hb35 hm=>?_
    ·refine pk 2 E (kc 38 rfl hb35) rfl fun a E=>bd hm fun u36 hx37 hm=>st_call E (ws' (d := 38) E rfl rfl rfl rfl hb35) rfl rfl (x_call E rfl rfl (cf21 _)) (c_cantonref06_Same v18 u16.1 v25 u23.1 H mm2 m0 hx37)<|?_
     rintro _ w ⟨rfl, H⟩ a E
     refine pk 2 E (kc 38 rfl hb35) rfl fun a E=>cs hm (fun hb38 hm=>?_) fun hb38 hm=>?_
     ·refine st_val E (ws' (d := 43) E rfl rfl rfl rfl hb38) rfl rfl (x_ldBN (i := 1) (us := (l_api_Done u16.2 (.slice q21 u16.2.Results.length x22))) E H rfl rfl rfl rfl Tryz.underlying30 rfl sz30) fun a E=>st_val E (ws' (d := 43) E rfl rfl rfl rfl hb38) rfl rfl (x_ldBN (i := 0) (us := (l_api_Done u23.2 (.slice q28 u23.2.Results.length x29))) E H rfl rfl rfl rfl Tryz.underlying30 rfl sz30) fun a E=>bd hm fun u39 hx40 hm=>st_call E (ws' (d := 43) E rfl rfl rfl rfl hb38) rfl rfl (x_call E rfl rfl (cf22 _)) (c_cantonref08_SameDone u16.2 (.slice q21 u16.2.Results.length x22) u23.2 (.slice q28 u23.2.Results.length x29) H mm3 mm1 hx40)<|?_
      rintro _ w ⟨rfl, H⟩ a E
      refine pk 2 E (kc 43 rfl hb38) rfl fun a E=>cs hm (fun hb41 hm=>?_) fun hb41 hm=>?_
      ·refine pk 1 E (kc 48 rfl hb41) rfl fun a E=>bd hm fun u42 hx43 hm=>st_call E (ws' (d := 48) E rfl rfl rfl rfl hb41) rfl rfl (x_call E rfl rfl (cf24 _)) (c_multi_Of v3 l4 H (t4 hr14) hx43)<|?_
       rintro _ w ⟨v44, rfl, H⟩ a E
       refine pk 1 E (kc 48 rfl hb41) rfl fun a E=>bd hm fun u45 hx46 hm=>st_call E (ws' (d := 48) E rfl rfl rfl rfl hb41) rfl rfl (x_call E rfl rfl (cf25 _)) (c_cantonref08_Of v3 l4 H (t4 hr14) hx46)<|?_
       rintro _ w ⟨v47, rfl, H⟩ a E
       refine have H:=H.thaw (i := 1) rfl;have H:=H.thaw (i := 0) rfl;bd hm fun u48 hx49 hm=>st_call E (ws' (d := 48) E rfl rfl rfl rfl hb41) rfl rfl (x_call E rfl rfl (cf23 _)) (c_cantonref08_SamePieces v44 u42 v47 u45 H mm1 m0 hx49)<|?_
       rintro _ w ⟨rfl, H⟩ a E
       refine pk 2 E (kc 48 rfl hb41) rfl fun a E=>nt<|wp_ret<|out1 E rfl rfl<|have H:=H.drop 0;have H:=H.drop 0;?_
       cases hm
       exact ⟨rfl, H.reads (fun r hr => (t6 (hs12 r hr)))⟩
      ·refine pk 7 E (kc 48 rfl hb41) rfl fun a E=>nt<|wp_ret<|out1 E rfl rfl<|have H:=H.drop 0;have H:=H.drop 0;?_
       cases hm
       exact ⟨rfl, H.reads (fun r hr => (t4 (hs12 r hr)))⟩
     ·refine pk 12 E (kc 43 rfl hb38) rfl fun a E=>nt<|wp_ret<|out1 E rfl rfl<|have H:=H.drop 0;have H:=H.drop 0;?_
      cases hm
      exact ⟨rfl, H.reads (fun r hr => (t4 (hs12 r hr)))⟩
    ·refine pk 17 E (kc 38 rfl hb35) rfl fun a E=>nt<|wp_ret<|out1 E rfl rfl<|have H:=H.drop 0;have H:=H.drop 0;?_
     cases hm
     exact ⟨rfl, H.reads (fun r hr => (t4 (hs12 r hr)))⟩
   ·refine pk 24 E (kc 31 rfl hb30) rfl fun a E=>nt<|wp_ret<|out1 E rfl rfl<|have H:=H.drop 0;have H:=H.drop 0;?_
    cases hm
    exact ⟨rfl, H.reads (fun r hr => (t4 (hs12 r hr)))⟩

end Go.Cb
