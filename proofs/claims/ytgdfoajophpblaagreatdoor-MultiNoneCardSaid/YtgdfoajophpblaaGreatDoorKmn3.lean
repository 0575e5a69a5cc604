/- Functions of the program, walked: each comes to its plain function. -/
import Derived.Test.YtgdfoajophpblaaGreatDoorKmn2
import Derived.Test.YtgdfoajophpblaaGreatDoorN4mn
set_option linter.unusedVariables false
set_option linter.unusedSimpArgs false
set_option maxRecDepth 20000
set_option maxHeartbeats 1000000
namespace Go.Cb
open Go.Proofs Go.RowKit

def m_part_Keep_j1 (rec_1 : Int → (List S_api_Node) → (List S_api_Turn) → Option S_api_Store) (l8 : (List S_api_Node)) (x14 : S_api_Node) (x6 : Int) (l19 : (List S_api_Turn)) : Option S_api_Store :=
  (ck (l8.length + ([(⟨x14.Path, x14.Data, x14.Version, 0, x14.Owner⟩ : S_api_Node)] : List S_api_Node).length ≤ LIM)).bind fun u25 => rec_1 (IntKind.i64.wrap (x6 + 1)) (l8 ++ ([(⟨x14.Path, x14.Data, x14.Version, 0, x14.Owner⟩ : S_api_Node)] : List S_api_Node)) l19
def m_part_Keep_l1 (l2 : List S_api_Node) : Nat → Int → (List S_api_Node) → (List S_api_Turn) → Option S_api_Store
  | 0, _, _, _ => none
  | k1 + 1, x6, l8, l10 =>
    if (decide (x6 < (l2.length : Int))) = true then ((idx l2 x6).bind fun x14 => if (x14.Turn != 0) = true then ((ck (l10.length + ([(⟨x14.Path, x14.Turn⟩ : S_api_Turn)] : List S_api_Turn).length ≤ LIM)).bind fun u31 => m_part_Keep_j1 (m_part_Keep_l1 l2 k1) l8 x14 x6 (l10 ++ ([(⟨x14.Path, x14.Turn⟩ : S_api_Turn)] : List S_api_Turn))) else (m_part_Keep_j1 (m_part_Keep_l1 l2 k1) l8 x14 x6 l10)) else (some ((⟨l8, l10⟩ : S_api_Store)))
def m_part_Keep (l2 : List S_api_Node) : Option S_api_Store :=
  m_part_Keep_l1 l2 (((l2.length : Int) - 0 : Int).toNat + 1) 0 [] []
theorem c_part_Keep {w : World} {Fo : List Ob} {rs : List Rp} (v1 : Value) (l2 : List S_api_Node) (H : Sep w (Fo) rs) (hr3 : rSl k_api_Node v1 l2 ∈ rs) {r : S_api_Store} (hm : m_part_Keep l2 = some r) :
    Calls Tryz.prog 39 [v1].toArray w (Ret fun v w' => ∃ (v5002 : Value) (v5003 : Value), .agg #[v5002, v5003] = v ∧ Sep w' (Fo) (rSl k_api_Node v5002 r.Nodes :: rSl k_api_Turn v5003 r.Turns :: rs)) := by
 unfold m_part_Keep at hm
 refine enter Tryz.func39 rfl Tryz.ntmps39 rfl fun a E =>?_
 simp only [enum, Nat.reduceAdd] at E
 refine sq<|al E H rfl rfl rfl rfl zr41 fun p4 w a H E=>nx<|al E H rfl rfl rfl rfl zr41 fun p5 w a H E=>nt<|wp_seq<|sq<|pr 1 E rfl fun a E=>sv E rfl rfl rfl (x_lenS E H rfl rfl hr3 Tryz.underlying22) fun a E=>?_
 refine pr 1 E rfl fun a E=>nt<|wp_block<|wp_loop_g (fun k1 a w => ∃ (v7 : Value) (v9 : Value) (x6 : Int) (l8 : (List S_api_Node)) (l10 : (List S_api_Turn)) (rs11 : List Rp), Env 34 a [(2, pt p4 0), (3, pt p5 0), (6, v1), (7, .int .i64 (l2.length : Int)), (8, .int .i64 x6)] ∧ Sep w (Blk p4 41 [.slice none 0 0, .slice none 0 0] :: Blk p5 41 [v7, v9] :: Row 80 k_api_Node v7 l8 :: Row 83 k_api_Turn v9 l10 :: Fo) rs11 ∧ (∀ r, r ∈ rs → r ∈ rs11) ∧ rSl k_api_Node v1 l2 ∈ rs11 ∧ m_part_Keep_l1 l2 k1 x6 l8 l10 = some r) (((l2.length : Int) - 0 : Int).toNat + 1) ?_ ?_
 ·exact have H:=H.nilRow 80 k_api_Node;have H:=H.nilRow 83 k_api_Turn;have H:=H.front 0 rfl;have H:=H.front 1 rfl;have H:=H.front 2 rfl;have H:=H.front 3 rfl;⟨(.slice none 0 0), (.slice none 0 0), 0, [], [], _, E.sel [2, 3, 6, 7, 8] rfl, H, fun r hr => hr, hr3, hm⟩
 ·clear E H hm
  rintro k1 a w ⟨v7, v9, x6, l8, l10, rs11, E, H, hs12, hr13, hm⟩
  cases k1 with
  | zero => exact (none_some hm rfl).elim
  | succ k1 =>
   unfold m_part_Keep_l1 at hm
   refine sq<|pr 1 E rfl fun a E=>nt<|wp_seq<|wif E hm rfl (fun hm=>?_) fun hm=>?_
   ·refine wp_skip<|q_then<|wp_seq<|wp_block<|sq<|bd hm fun x14 hx15 hm=>st_ixS E H (wn rfl) rfl rfl rfl rfl rfl hr13 Tryz.underlying22 sz80 hx15 fun q16 a H E=>ldf k_api_Node_flat E H rfl rfl rfl rfl rfl m0 Tryz.underlying80 rfl sz80 fun a E=>al E H rfl rfl rfl rfl zr80 fun p17 w a H E=>?_
    refine st_st (i := 0) E H (wn rfl) rfl (us := (l_api_Node x14)) rfl rfl rfl rfl rfl sz80 rfl rfl fun w H=>nt<|wp_seq_cut (fun a w => ∃ (v18 : Value) (l19 : (List S_api_Turn)) (rs20 : List Rp), Env 34 a [(2, pt p4 0), (3, pt p5 0), (5, pt p17 0), (6, v1), (7, .int .i64 (l2.length : Int)), (8, .int .i64 x6)] ∧ Sep w (Blk p4 41 [.slice none 0 0, .slice none 0 0] :: Blk p5 41 [v7, v18] :: Blk p17 80 (l_api_Node x14) :: Row 80 k_api_Node v7 l8 :: Row 83 k_api_Turn v18 l19 :: Fo) rs20 ∧ (∀ r, r ∈ rs → r ∈ rs20) ∧ rSl k_api_Node v1 l2 ∈ rs20 ∧ m_part_Keep_j1 (m_part_Keep_l1 l2 k1) l8 x14 x6 l19 = some r) ?_ ?_
    ·refine sq<|pr 1 E rfl fun a E=>lb E H 0 rfl rfl rfl rfl rfl rfl rfl Tryz.underlying2 rfl fun a E=>pr 1 E rfl fun a E=>nt<|wif E hm rfl (fun hm=>?_) fun hm=>?_
     ·refine wp_region_lit<|pr 1 E rfl fun a E=>lb E H 2 rfl rfl rfl rfl rfl rfl rfl Tryz.underlying39 rfl fun a E=>pr 1 E rfl fun a E=>lb E H 0 rfl rfl rfl rfl rfl rfl rfl Tryz.underlying9 rfl fun a E=>pr 1 E rfl fun a E=>lb E H 0 rfl rfl rfl rfl rfl rfl rfl Tryz.underlying2 rfl fun a E=>sv E rfl rfl rfl (x_build E rfl (E.evs rfl) (v := .agg #[.string x14.Path, .int .i64 x14.Turn]) (by kernel_rfl)) fun a E=>st_bsR (e := 83) (d := k_api_Turn) (cs := [.string x14.Path, .int .i64 x14.Turn]) (xs := [(⟨x14.Path, x14.Turn⟩ : S_api_Turn)]) E H (wn rfl) rfl rfl rfl (E.evs rfl) (by kernel_rfl) rfl (fun ok hr => (Rows.single (d := k_api_Turn) (cs := [.string x14.Path, .int .i64 x14.Turn]) (x := (⟨x14.Path, x14.Turn⟩ : S_api_Turn)) k_api_Turn_mk)) fun v29 w a H E=>?_
      refine bk hm fun hx32 hm=>st_append (i := 4) E H (wn rfl) rfl rfl rfl rfl rfl rfl (src_rd m0) Tryz.underlying39 inf83 rfl hx32 rfl fun v30 w a H E=>pr 1 E rfl fun a E=>?_
      obtain ⟨q33, x34, rfl⟩ := H.rowform (i := 4) rfl
      exact st_st (i := 2) E H (wn rfl) rfl (us := [(.slice q33 (l10 ++ ([(⟨x14.Path, x14.Turn⟩ : S_api_Turn)] : List S_api_Turn)).length x34)]) rfl rfl rfl rfl rfl sz39 rfl rfl fun w H=>nt<|have H:=H.front 4 rfl;have H:=H.front 4 rfl;have H:=H.front 2 rfl;have H:=H.front 4 rfl;have H:=H.front 4 rfl;⟨(.slice q33 (l10 ++ ([(⟨x14.Path, x14.Turn⟩ : S_api_Turn)] : List S_api_Turn)).length x34), l10 ++ ([(⟨x14.Path, x14.Turn⟩ : S_api_Turn)] : List S_api_Turn), _, E.sel [2, 3, 5, 6, 7, 8] rfl, H, fun r hr => (t2 (hs12 r hr)), (t2 hr13), hm⟩
     ·exact wp_skip<|q_then<|have H:=H.front 4 rfl;have H:=H.front 4 rfl;have H:=H.front 2 rfl;have H:=H.front 4 rfl;have H:=H.front 4 rfl;⟨v9, l10, _, E.sel [2, 3, 5, 6, 7, 8] rfl, H, fun r hr => (t1 (hs12 r hr)), (t1 hr13), hm⟩
    ·clear E H hm
     rintro a w ⟨v18, l19, rs20, E, H, hs21, hr22, hm⟩
     unfold m_part_Keep_j1 at hm
     refine sq<|pr 1 E rfl fun a E=>st_st (i := 2) E H (wn rfl) rfl (us := [.int .i64 0]) rfl rfl rfl rfl rfl sz2 rfl rfl fun w H=>nt<|wp_region_lit<|pr 1 E rfl fun a E=>lb E H 1 rfl rfl rfl rfl rfl rfl rfl Tryz.underlying22 rfl fun a E=>sv E rfl rfl rfl (x_ldBN (i := 2) (us := [.string x14.Path, .string x14.Data, .int .i64 x14.Version, .int .i64 0, .int .i64 x14.Owner]) E H rfl rfl rfl rfl Tryz.underlying80 rfl sz80) fun a E=>st_bsR (e := 80) (d := k_api_Node) (cs := [.string x14.Path, .string x14.Data, .int .i64 x14.Version, .int .i64 0, .int .i64 x14.Owner]) (xs := [(⟨x14.Path, x14.Data, x14.Version, 0, x14.Owner⟩ : S_api_Node)]) E H (wn rfl) rfl rfl rfl (E.evs rfl) (by kernel_rfl) rfl (fun ok hr => (Rows.single (d := k_api_Node) (cs := [.string x14.Path, .string x14.Data, .int .i64 x14.Version, .int .i64 0, .int .i64 x14.Owner]) (x := (⟨x14.Path, x14.Data, x14.Version, 0, x14.Owner⟩ : S_api_Node)) k_api_Node_mk)) fun v23 w a H E=>?_
     refine bk hm fun hx26 hm=>st_append (i := 3) E H (wn rfl) rfl rfl rfl rfl rfl rfl (src_rd m0) Tryz.underlying22 inf80 rfl hx26 rfl fun v24 w a H E=>pr 1 E rfl fun a E=>?_
     obtain ⟨q27, x28, rfl⟩ := H.rowform (i := 3) rfl
     exact st_st (i := 1) E H (wn rfl) rfl (us := [(.slice q27 (l8 ++ ([(⟨x14.Path, x14.Data, x14.Version, 0, x14.Owner⟩ : S_api_Node)] : List S_api_Node)).length x28)]) rfl rfl rfl rfl rfl sz22 rfl rfl fun w H=>wpList_nil<|q_blk<|q_then<|wp_region_lit<|pr 2 E rfl fun a E=>nt<|have H:=H.drop 2;⟨k1, Nat.lt_succ_self k1, (.slice q27 (l8 ++ ([(⟨x14.Path, x14.Data, x14.Version, 0, x14.Owner⟩ : S_api_Node)] : List S_api_Node)).length x28), v18, IntKind.i64.wrap (x6 + 1), l8 ++ ([(⟨x14.Path, x14.Data, x14.Version, 0, x14.Owner⟩ : S_api_Node)] : List S_api_Node), l19, _, E.sel [2, 3, 6, 7, 8] rfl, H, fun r hr => (t1 (hs21 r hr)), (t1 hr22), hm⟩
   ·refine wp_exit<|q_thenX<|q_thenX<|q_hit<|q_then<|sq<|sv E rfl rfl rfl (x_ldBN (i := 1) (us := [v7, v9]) E H rfl rfl rfl rfl Tryz.underlying41 rfl sz41) fun a E=>?_
    obtain ⟨q35, x36, rfl⟩ := H.rowform (i := 2) rfl
    obtain ⟨q37, x38, rfl⟩ := H.rowform (i := 3) rfl
    refine st_st (i := 0) E H (wn rfl) rfl (us := [(.slice q35 l8.length x36), (.slice q37 l10.length x38)]) rfl rfl rfl rfl rfl sz41 rfl rfl fun w H=>nt<|wp_ret<|outR1 E rfl (rvBN (i := 0) (us := [(.slice q35 l8.length x36), (.slice q37 l10.length x38)]) H rfl rfl rfl Tryz.underlying41 rfl sz41)<|have H:=H.thaw (i := 2) rfl;have H:=H.thaw (i := 2) rfl;have H:=H.drop 0;have H:=H.drop 0;?_
    cases hm
    exact ⟨(.slice q35 l8.length x36), (.slice q37 l10.length x38), rfl, H.reads (sub_cons mm1 (sub_cons m0 (fun r hr => (t2 (hs12 r hr)))))⟩

def m_cantonlaw08_head : Option Bool :=
  m_nodes_New.bind fun u2 => (m_multi_Apply u2 ([(⟨1, (ByteArray.mk #[47, 97]), (ByteArray.mk #[]), 0, 0, false⟩ : S_api_Op), (⟨1, (ByteArray.mk #[47, 97, 47, 98]), (ByteArray.mk #[]), 0, 0, false⟩ : S_api_Op)] : List S_api_Op)).bind fun u8 => (m_multi_Apply u2 ([(⟨1, (ByteArray.mk #[47, 97]), (ByteArray.mk #[]), 0, 0, false⟩ : S_api_Op), (⟨1, (ByteArray.mk #[47, 97, 47, 98]), (ByteArray.mk #[]), 0, 0, false⟩ : S_api_Op), (⟨1, (ByteArray.mk #[47, 97]), (ByteArray.mk #[]), 0, 0, false⟩ : S_api_Op)] : List S_api_Op)).bind fun u16 => (m_multi_Of ([(⟨1, (ByteArray.mk #[47, 97]), (ByteArray.mk #[]), 0, 0, false⟩ : S_api_Op), (⟨1, (ByteArray.mk #[47, 97, 47, 98]), (ByteArray.mk #[]), 0, 0, false⟩ : S_api_Op)] : List S_api_Op)).bind fun u24 => (m_part_Keep u2).bind fun u27 => (m_multi_All u27 u24).bind fun u31 => if ((u8.1.length : Int) == 3) = true then (if (u8.2.Err == 0) = true then (if ((u8.2.Results.length : Int) == 2) = true then (if ((u16.1.length : Int) == 1) = true then (if (u16.2.Err == 61) = true then (if (u16.2.At == 2) = true then (if ((u24.length : Int) == 4) = true then ((idx u24 2).bind fun x48 => if (x48.Op == 1) = true then (if ((u31.2.1.length : Int) == 4) = true then (if (u31.2.2.1 == 0) = true then (if (u31.2.2.2 == 0) = true then ((m_multi_May ([] : List S_api_Op)).bind fun u55 => some (!u55)) else (some (false))) else (some (false))) else (some (false))) else (some (false))) else (some (false))) else (some (false))) else (some (false))) else (some (false))) else (some (false))) else (some (false))) else (some (false))
theorem c_cantonlaw08_head {w : World} {Fo : List Ob} {rs : List Rp} (H : Sep w (Fo) rs) (hr1 : rTab Tryz.prog ∈ rs) {r : Bool} (hm : m_cantonlaw08_head = some r) :
    Calls Tryz.prog 14 [].toArray w (Ret fun v w' => .bool r = v ∧ Sep w' (Fo) (rs)) := by
 unfold m_cantonlaw08_head at hm
 refine enter Tryz.func14 rfl Tryz.ntmps14 rfl fun a E =>?_
 simp only [enum, Nat.reduceAdd] at E
 refine sq<|pr 1 E rfl fun a E=>nx<|bd hm fun u2 hx3 hm=>x_cl E rfl rfl rfl rfl rfl cf54 (c_nodes_New H hx3)<|?_
 rintro _ w ⟨v4, rfl, H⟩ a E
 refine pr 1 E rfl fun a E=>nx<|sv E rfl rfl rfl (x_build E rfl (E.evs rfl) (v := .agg #[.int .i64 1, .string (ByteArray.mk #[47, 97]), .string (ByteArray.mk #[]), .int .i64 0, .int .i64 0, .bool false]) (by kernel_rfl)) fun a E=>al E H rfl rfl rfl rfl zr55 fun p5 w a H E=>st_st (i := 0) E H (wn rfl) rfl (us := [.int .i64 1, .string (ByteArray.mk #[47, 97]), .string (ByteArray.mk #[]), .int .i64 0, .int .i64 0, .bool false]) rfl rfl rfl rfl rfl sz55 rfl rfl fun w H=>nx<|sv E rfl rfl rfl (x_build E rfl (E.evs rfl) (v := .agg #[.int .i64 1, .string (ByteArray.mk #[47, 97, 47, 98]), .string (ByteArray.mk #[]), .int .i64 0, .int .i64 0, .bool false]) (by kernel_rfl)) fun a E=>al E H rfl rfl rfl rfl zr55 fun p6 w a H E=>st_st (i := 0) E H (wn rfl) rfl (us := [.int .i64 1, .string (ByteArray.mk #[47, 97, 47, 98]), .string (ByteArray.mk #[]), .int .i64 0, .int .i64 0, .bool false]) rfl rfl rfl rfl rfl sz55 rfl rfl fun w H=>?_
 refine nx<|pr 1 E rfl fun a E=>sv E rfl rfl rfl (x_ldBN (i := 1) (us := [.int .i64 1, .string (ByteArray.mk #[47, 97]), .string (ByteArray.mk #[]), .int .i64 0, .int .i64 0, .bool false]) E H rfl rfl rfl rfl Tryz.underlying55 rfl sz55) fun a E=>sv E rfl rfl rfl (x_ldBN (i := 0) (us := [.int .i64 1, .string (ByteArray.mk #[47, 97, 47, 98]), .string (ByteArray.mk #[]), .int .i64 0, .int .i64 0, .bool false]) E H rfl rfl rfl rfl Tryz.underlying55 rfl sz55) fun a E=>st_bsO (e := 55) (d := k_api_Op) (cs := [.int .i64 1, .string (ByteArray.mk #[47, 97]), .string (ByteArray.mk #[]), .int .i64 0, .int .i64 0, .bool false, .int .i64 1, .string (ByteArray.mk #[47, 97, 47, 98]), .string (ByteArray.mk #[]), .int .i64 0, .int .i64 0, .bool false]) (xs := [(⟨1, (ByteArray.mk #[47, 97]), (ByteArray.mk #[]), 0, 0, false⟩ : S_api_Op), (⟨1, (ByteArray.mk #[47, 97, 47, 98]), (ByteArray.mk #[]), 0, 0, false⟩ : S_api_Op)]) E H (wn rfl) rfl rfl rfl (E.evs rfl) (by kernel_rfl) rfl rfl (fun ok hr => (Rows.append (Rows.single (d := k_api_Op) (cs := [.int .i64 1, .string (ByteArray.mk #[47, 97]), .string (ByteArray.mk #[]), .int .i64 0, .int .i64 0, .bool false]) (x := (⟨1, (ByteArray.mk #[47, 97]), (ByteArray.mk #[]), 0, 0, false⟩ : S_api_Op)) k_api_Op_mk) (Rows.single (d := k_api_Op) (cs := [.int .i64 1, .string (ByteArray.mk #[47, 97, 47, 98]), .string (ByteArray.mk #[]), .int .i64 0, .int .i64 0, .bool false]) (x := (⟨1, (ByteArray.mk #[47, 97, 47, 98]), (ByteArray.mk #[]), 0, 0, false⟩ : S_api_Op)) k_api_Op_mk))) fun v7 w a H E=>have H:=H.thaw (i := 3) rfl;have H:=H.thaw (i := 0) rfl;bd hm fun u8 hx9 hm=>x_cl E rfl rfl rfl rfl rfl cf17 (c_multi_Apply v4 u2 v7 ([(⟨1, (ByteArray.mk #[47, 97]), (ByteArray.mk #[]), 0, 0, false⟩ : S_api_Op), (⟨1, (ByteArray.mk #[47, 97, 47, 98]), (ByteArray.mk #[]), 0, 0, false⟩ : S_api_Op)] : List S_api_Op) H mm1 m0 (t2 hr1) hx9)<|?_
 rintro _ w ⟨v10, v11, rfl, H⟩ a E
 refine pr 3 E rfl fun a E=>al E H rfl rfl rfl rfl zr30 fun p12 w a H E=>pr 1 E rfl fun a E=>?_
 obtain ⟨q13, x14, rfl⟩ := H.slform mm1
 refine st_st (i := 0) E H (wn rfl) rfl (us := (l_api_Done u8.2 (.slice q13 u8.2.Results.length x14))) rfl rfl rfl rfl rfl sz30 rfl rfl fun w H=>nx<|pr 1 E rfl fun a E=>sv E rfl rfl rfl (x_ldBN (i := 2) (us := [.int .i64 1, .string (ByteArray.mk #[47, 97]), .string (ByteArray.mk #[]), .int .i64 0, .int .i64 0, .bool false]) E H rfl rfl rfl rfl Tryz.underlying55 rfl sz55) fun a E=>sv E rfl rfl rfl (x_ldBN (i := 1) (us := [.int .i64 1, .string (ByteArray.mk #[47, 97, 47, 98]), .string (ByteArray.mk #[]), .int .i64 0, .int .i64 0, .bool false]) E H rfl rfl rfl rfl Tryz.underlying55 rfl sz55) fun a E=>sv E rfl rfl rfl (x_ldBN (i := 2) (us := [.int .i64 1, .string (ByteArray.mk #[47, 97]), .string (ByteArray.mk #[]), .int .i64 0, .int .i64 0, .bool false]) E H rfl rfl rfl rfl Tryz.underlying55 rfl sz55) fun a E=>st_bsO (e := 55) (d := k_api_Op) (cs := [.int .i64 1, .string (ByteArray.mk #[47, 97]), .string (ByteArray.mk #[]), .int .i64 0, .int .i64 0, .bool false, .int .i64 1, .string (ByteArray.mk #[47, 97, 47, 98]), .string (ByteArray.mk #[]), .int .i64 0, .int .i64 0, .bool false, .int .i64 1, .string (ByteArray.mk #[47, 97]), .string (ByteArray.mk #[]), .int .i64 0, .int .i64 0, .bool false]) (xs := [(⟨1, (ByteArray.mk #[47, 97]), (ByteArray.mk #[]), 0, 0, false⟩ : S_api_Op), (⟨1, (ByteArray.mk #[47, 97, 47, 98]), (ByteArray.mk #[]), 0, 0, false⟩ : S_api_Op), (⟨1, (ByteArray.mk #[47, 97]), (ByteArray.mk #[]), 0, 0, false⟩ : S_api_Op)]) E H (wn rfl) rfl rfl rfl (E.evs rfl) (by kernel_rfl) rfl rfl (fun ok hr => (Rows.append (Rows.append (Rows.single (d := k_api_Op) (cs := [.int .i64 1, .string (ByteArray.mk #[47, 97]), .string (ByteArray.mk #[]), .int .i64 0, .int .i64 0, .bool false]) (x := (⟨1, (ByteArray.mk #[47, 97]), (ByteArray.mk #[]), 0, 0, false⟩ : S_api_Op)) k_api_Op_mk) (Rows.single (d := k_api_Op) (cs := [.int .i64 1, .string (ByteArray.mk #[47, 97, 47, 98]), .string (ByteArray.mk #[]), .int .i64 0, .int .i64 0, .bool false]) (x := (⟨1, (ByteArray.mk #[47, 97, 47, 98]), (ByteArray.mk #[]), 0, 0, false⟩ : S_api_Op)) k_api_Op_mk)) (Rows.single (d := k_api_Op) (cs := [.int .i64 1, .string (ByteArray.mk #[47, 97]), .string (ByteArray.mk #[]), .int .i64 0, .int .i64 0, .bool false]) (x := (⟨1, (ByteArray.mk #[47, 97]), (ByteArray.mk #[]), 0, 0, false⟩ : S_api_Op)) k_api_Op_mk))) fun v15 w a H E=>have H:=H.thaw (i := 0) rfl;bd hm fun u16 hx17 hm=>?_
 refine x_cl E rfl rfl rfl rfl rfl cf17 (c_multi_Apply v4 u2 v15 ([(⟨1, (ByteArray.mk #[47, 97]), (ByteArray.mk #[]), 0, 0, false⟩ : S_api_Op), (⟨1, (ByteArray.mk #[47, 97, 47, 98]), (ByteArray.mk #[]), 0, 0, false⟩ : S_api_Op), (⟨1, (ByteArray.mk #[47, 97]), (ByteArray.mk #[]), 0, 0, false⟩ : S_api_Op)] : List S_api_Op) H mm4 m0 (t5 hr1) hx17)<|?_
 rintro _ w ⟨v18, v19, rfl, H⟩ a E
 refine pr 3 E rfl fun a E=>al E H rfl rfl rfl rfl zr30 fun p20 w a H E=>pr 1 E rfl fun a E=>?_
 obtain ⟨q21, x22, rfl⟩ := H.slform mm1
 refine st_st (i := 0) E H (wn rfl) rfl (us := (l_api_Done u16.2 (.slice q21 u16.2.Results.length x22))) rfl rfl rfl rfl rfl sz30 rfl rfl fun w H=>nx<|sv E rfl rfl rfl (x_ldBN (i := 3) (us := [.int .i64 1, .string (ByteArray.mk #[47, 97]), .string (ByteArray.mk #[]), .int .i64 0, .int .i64 0, .bool false]) E H rfl rfl rfl rfl Tryz.underlying55 rfl sz55) fun a E=>sv E rfl rfl rfl (x_ldBN (i := 2) (us := [.int .i64 1, .string (ByteArray.mk #[47, 97, 47, 98]), .string (ByteArray.mk #[]), .int .i64 0, .int .i64 0, .bool false]) E H rfl rfl rfl rfl Tryz.underlying55 rfl sz55) fun a E=>st_bsO (e := 55) (d := k_api_Op) (cs := [.int .i64 1, .string (ByteArray.mk #[47, 97]), .string (ByteArray.mk #[]), .int .i64 0, .int .i64 0, .bool false, .int .i64 1, .string (ByteArray.mk #[47, 97, 47, 98]), .string (ByteArray.mk #[]), .int .i64 0, .int .i64 0, .bool false]) (xs := [(⟨1, (ByteArray.mk #[47, 97]), (ByteArray.mk #[]), 0, 0, false⟩ : S_api_Op), (⟨1, (ByteArray.mk #[47, 97, 47, 98]), (ByteArray.mk #[]), 0, 0, false⟩ : S_api_Op)]) E H (wn rfl) rfl rfl rfl (E.evs rfl) (by kernel_rfl) rfl rfl (fun ok hr => (Rows.append (Rows.single (d := k_api_Op) (cs := [.int .i64 1, .string (ByteArray.mk #[47, 97]), .string (ByteArray.mk #[]), .int .i64 0, .int .i64 0, .bool false]) (x := (⟨1, (ByteArray.mk #[47, 97]), (ByteArray.mk #[]), 0, 0, false⟩ : S_api_Op)) k_api_Op_mk) (Rows.single (d := k_api_Op) (cs := [.int .i64 1, .string (ByteArray.mk #[47, 97, 47, 98]), .string (ByteArray.mk #[]), .int .i64 0, .int .i64 0, .bool false]) (x := (⟨1, (ByteArray.mk #[47, 97, 47, 98]), (ByteArray.mk #[]), 0, 0, false⟩ : S_api_Op)) k_api_Op_mk))) fun v23 w a H E=>have H:=H.thaw (i := 0) rfl;bd hm fun u24 hx25 hm=>x_cl E rfl rfl rfl rfl rfl cf24 (c_multi_Of v23 ([(⟨1, (ByteArray.mk #[47, 97]), (ByteArray.mk #[]), 0, 0, false⟩ : S_api_Op), (⟨1, (ByteArray.mk #[47, 97, 47, 98]), (ByteArray.mk #[]), 0, 0, false⟩ : S_api_Op)] : List S_api_Op) H m0 hx25)<|?_
 rintro _ w ⟨v26, rfl, H⟩ a E
 refine pr 1 E rfl fun a E=>nx<|pr 1 E rfl fun a E=>bd hm fun u27 hx28 hm=>x_cl E rfl rfl rfl rfl rfl cf39 (c_part_Keep v4 u2 H (t1 mm6) hx28)<|?_
 rintro _ w ⟨v29, v30, rfl, H⟩ a E
 refine pr 1 E rfl fun a E=>have H:=H.thaw (i := 0) rfl;bd hm fun u31 hx32 hm=>x_cl E rfl rfl rfl rfl rfl cf28 (c_multi_All u27 v29 v30 v26 u24 H mm1 mm2 m0 (t3 (t8 hr1)) hx32)<|?_
 rintro _ w ⟨v33, v34, v35, rfl, H⟩ a E
 refine pr 5 E rfl fun a E=>al E H rfl rfl rfl rfl zr41 fun p36 w a H E=>?_
 obtain ⟨q37, x38, rfl⟩ := H.slform m0
 obtain ⟨q39, x40, rfl⟩ := H.slform mm1
 refine st_st (i := 0) E H (wn rfl) rfl (us := [(.slice q37 u31.1.Nodes.length x38), (.slice q39 u31.1.Turns.length x40)]) rfl rfl rfl rfl rfl sz41 rfl rfl fun w H=>pr 3 E rfl fun a E=>nx<|pr 1 E rfl fun a E=>sv E rfl rfl rfl (x_lenS E H rfl rfl (t3 mm6) Tryz.underlying22) fun a E=>pr 2 E rfl fun a E=>cs hm (fun hb41 hm=>?_) fun hb41 hm=>?_
 ·refine pk 1 E (kc 49 rfl hb41) rfl fun a E=>st_val E (ws' (d := 49) E rfl rfl rfl rfl hb41) rfl rfl (x_ldB (i := 3) E H rfl rfl rfl rfl Tryz.underlying27 rfl) fun a E=>pk 3 E (kc 49 rfl hb41) rfl fun a E=>cs hm (fun hb42 hm=>?_) fun hb42 hm=>?_
  ·refine pk 1 E (kc 54 rfl hb42) rfl fun a E=>st_val E (ws' (d := 54) E rfl rfl rfl rfl hb42) rfl rfl (x_ldB (i := 3) E H rfl rfl rfl rfl Tryz.underlying28 rfl) fun a E=>st_val E (ws' (d := 54) E rfl rfl rfl rfl hb42) rfl rfl (x_lenS E H rfl rfl (t4 mm6) Tryz.underlying28) fun a E=>pk 3 E (kc 54 rfl hb42) rfl fun a E=>cs hm (fun hb43 hm=>?_) fun hb43 hm=>?_
   ·refine pk 1 E (kc 60 rfl hb43) rfl fun a E=>st_val E (ws' (d := 60) E rfl rfl rfl rfl hb43) rfl rfl (x_lenS E H rfl rfl mm6 Tryz.underlying22) fun a E=>pk 3 E (kc 60 rfl hb43) rfl fun a E=>cs hm (fun hb44 hm=>?_) fun hb44 hm=>?_
    ·refine pk 1 E (kc 65 rfl hb44) rfl fun a E=>st_val E (ws' (d := 65) E rfl rfl rfl rfl hb44) rfl rfl (x_ldB (i := 2) E H rfl rfl rfl rfl Tryz.underlying27 rfl) fun a E=>pk 3 E (kc 65 rfl hb44) rfl fun a E=>cs hm (fun hb45 hm=>?_) fun hb45 hm=>?_
     ·refine pk 1 E (kc 70 rfl hb45) rfl fun a E=>st_val E (ws' (d := 70) E rfl rfl rfl rfl hb45) rfl rfl (x_ldB (i := 2) E H rfl rfl rfl rfl Tryz.underlying3 rfl) fun a E=>pk 3 E (kc 70 rfl hb45) rfl fun a E=>cs hm (fun hb46 hm=>?_) fun hb46 hm=>?_
      ·refine pk 1 E (kc 75 rfl hb46) rfl fun a E=>st_val E (ws' (d := 75) E rfl rfl rfl rfl hb46) rfl rfl (x_lenS E H rfl rfl mm2 Tryz.underlying36) fun a E=>pk 3 E (kc 75 rfl hb46) rfl fun a E=>cs hm (fun hb47 hm=>?_) fun hb47 hm=>?_
       ·refine pk 1 E (kc 80 rfl hb47) rfl fun a E=>bd hm fun x48 hx49 hm=>st_ixS E H (ws' (d := 80) E rfl rfl rfl rfl hb47) rfl rfl rfl rfl rfl mm2 Tryz.underlying36 sz64 hx49 fun q50 a H E=>have H:=H.derive1 m0 (rAt (kI .i64) (q50.add 0) x48.Op) (fun ok h => k_api_Piece_at0 h);pk 1 E (kc 80 rfl hb47) rfl fun a E=>st_val E (ws' (d := 80) E rfl rfl rfl rfl hb47) rfl rfl (x_ldA E H rfl rfl m0 Tryz.underlying3 rfl) fun a E=>pk 3 E (kc 80 rfl hb47) rfl fun a E=>cs hm (fun hb51 hm=>?_) fun hb51 hm=>?_
        ·refine pk 1 E (kc 87 rfl hb51) rfl fun a E=>st_val E (ws' (d := 87) E rfl rfl rfl rfl hb51) rfl rfl (x_lenR (i := 1) E H rfl rfl rfl Tryz.underlying28) fun a E=>pk 3 E (kc 87 rfl hb51) rfl fun a E=>cs hm (fun hb52 hm=>?_) fun hb52 hm=>?_
         ·refine pk 4 E (kc 92 rfl hb52) rfl fun a E=>cs hm (fun hb53 hm=>?_) fun hb53 hm=>?_
          ·refine pk 4 E (kc 96 rfl hb53) rfl fun a E=>cs hm (fun hb54 hm=>?_) fun hb54 hm=>?_
           ·refine have H:=H.nilSl k_api_Op;bd hm fun u55 hx56 hm=>st_call E (ws' (d := 100) E rfl rfl rfl rfl hb54) rfl rfl (x_call E rfl rfl (cf19 _)) (c_multi_May (.slice none 0 0) ([] : List S_api_Op) H m0 hx56)<|?_
            rintro _ w ⟨rfl, H⟩ a E
            refine pk 3 E (kc 100 rfl hb54) rfl fun a E=>nt<|wp_ret<|out1 E rfl rfl<|have H:=H.drop 0;have H:=H.drop 0;have H:=H.drop 0;have H:=H.drop 0;have H:=H.drop 0;?_
            refine have H:=H.drop 0;?_
            cases hm
            exact ⟨rfl, H.reads (fun r hr => (t8 (t8 hr)))⟩
           ·refine pk 4 E (kc 100 rfl hb54) rfl fun a E=>nt<|wp_ret<|out1 E rfl rfl<|have H:=H.drop 0;have H:=H.drop 0;have H:=H.drop 0;have H:=H.drop 0;have H:=H.drop 0;?_
            refine have H:=H.drop 0;?_
            cases hm
            exact ⟨rfl, H.reads (fun r hr => (t7 (t8 hr)))⟩
          ·refine pk 8 E (kc 96 rfl hb53) rfl fun a E=>nt<|wp_ret<|out1 E rfl rfl<|have H:=H.drop 0;have H:=H.drop 0;have H:=H.drop 0;have H:=H.drop 0;have H:=H.drop 0;?_
           refine have H:=H.drop 0;?_
           cases hm
           exact ⟨rfl, H.reads (fun r hr => (t7 (t8 hr)))⟩
         ·refine pk 12 E (kc 92 rfl hb52) rfl fun a E=>nt<|wp_ret<|out1 E rfl rfl<|have H:=H.drop 0;have H:=H.drop 0;have H:=H.drop 0;have H:=H.drop 0;have H:=H.drop 0;?_
          refine have H:=H.drop 0;?_
          cases hm
          exact ⟨rfl, H.reads (fun r hr => (t7 (t8 hr)))⟩
        ·refine pk 17 E (kc 87 rfl hb51) rfl fun a E=>nt<|wp_ret<|out1 E rfl rfl<|have H:=H.drop 0;have H:=H.drop 0;have H:=H.drop 0;have H:=H.drop 0;have H:=H.drop 0;?_
         refine have H:=H.drop 0;?_
         cases hm
         exact ⟨rfl, H.reads (fun r hr => (t7 (t8 hr)))⟩
       ·refine pk 24 E (kc 80 rfl hb47) rfl fun a E=>nt<|wp_ret<|out1 E rfl rfl<|have H:=H.drop 0;have H:=H.drop 0;have H:=H.drop 0;have H:=H.drop 0;have H:=H.drop 0;?_
        refine have H:=H.drop 0;?_
        cases hm
        exact ⟨rfl, H.reads (fun r hr => (t5 (t8 hr)))⟩
      ·refine pk 29 E (kc 75 rfl hb46) rfl fun a E=>nt<|wp_ret<|out1 E rfl rfl<|have H:=H.drop 0;have H:=H.drop 0;have H:=H.drop 0;have H:=H.drop 0;have H:=H.drop 0;?_
       refine have H:=H.drop 0;?_
       cases hm
       exact ⟨rfl, H.reads (fun r hr => (t5 (t8 hr)))⟩
     ·refine pk 34 E (kc 70 rfl hb45) rfl fun a E=>nt<|wp_ret<|out1 E rfl rfl<|have H:=H.drop 0;have H:=H.drop 0;have H:=H.drop 0;have H:=H.drop 0;have H:=H.drop 0;?_
      refine have H:=H.drop 0;?_
      cases hm
      exact ⟨rfl, H.reads (fun r hr => (t5 (t8 hr)))⟩
    ·refine pk 39 E (kc 65 rfl hb44) rfl fun a E=>nt<|wp_ret<|out1 E rfl rfl<|have H:=H.drop 0;have H:=H.drop 0;have H:=H.drop 0;have H:=H.drop 0;have H:=H.drop 0;?_
     refine have H:=H.drop 0;?_
     cases hm
     exact ⟨rfl, H.reads (fun r hr => (t5 (t8 hr)))⟩
   ·refine pk 44 E (kc 60 rfl hb43) rfl fun a E=>nt<|wp_ret<|out1 E rfl rfl<|have H:=H.drop 0;have H:=H.drop 0;have H:=H.drop 0;have H:=H.drop 0;have H:=H.drop 0;?_
    refine have H:=H.drop 0;?_
    cases hm
    exact ⟨rfl, H.reads (fun r hr => (t5 (t8 hr)))⟩
  ·refine pk 50 E (kc 54 rfl hb42) rfl fun a E=>nt<|wp_ret<|out1 E rfl rfl<|have H:=H.drop 0;have H:=H.drop 0;have H:=H.drop 0;have H:=H.drop 0;have H:=H.drop 0;?_
   refine have H:=H.drop 0;?_
   cases hm
   exact ⟨rfl, H.reads (fun r hr => (t5 (t8 hr)))⟩
 ·refine pk 55 E (kc 49 rfl hb41) rfl fun a E=>nt<|wp_ret<|out1 E rfl rfl<|have H:=H.drop 0;have H:=H.drop 0;have H:=H.drop 0;have H:=H.drop 0;have H:=H.drop 0;?_
  refine have H:=H.drop 0;?_
  cases hm
  exact ⟨rfl, H.reads (fun r hr => (t5 (t8 hr)))⟩

def m_cantonlaw08_GreatOps_l1 (l2 : List S_api_Op) : Nat → Int → Option Bool
  | 0, _ => none
  | k1 + 1, x4 =>
    if (decide (x4 < (l2.length : Int))) = true then ((idx l2 x4).bind fun x8 => (m_cantonlaw06_GreatOp x8).bind fun u11 => if u11 = true then (some (true)) else (m_cantonlaw08_GreatOps_l1 l2 k1 (IntKind.i64.wrap (x4 + 1)))) else (some (false))
def m_cantonlaw08_GreatOps (l2 : List S_api_Op) : Option Bool :=
  if (decide ((l2.length : Int) > 40)) = true then (some (true)) else (m_cantonlaw08_GreatOps_l1 l2 (((l2.length : Int) - 0 : Int).toNat + 1) 0)
theorem c_cantonlaw08_GreatOps {w : World} {Fo : List Ob} {rs : List Rp} (v1 : Value) (l2 : List S_api_Op) (H : Sep w (Fo) rs) (hr3 : rSl k_api_Op v1 l2 ∈ rs) {r : Bool} (hm : m_cantonlaw08_GreatOps l2 = some r) :
    Calls Tryz.prog 16 [v1].toArray w (Ret fun v w' => .bool r = v ∧ Sep w' (Fo) (rs)) := by
 unfold m_cantonlaw08_GreatOps at hm
 refine enter Tryz.func16 rfl Tryz.ntmps16 rfl fun a E =>?_
 simp only [enum, Nat.reduceAdd] at E
 refine sq<|pr 1 E rfl fun a E=>nt<|wp_seq<|sq<|pr 1 E rfl fun a E=>sv E rfl rfl rfl (x_lenS E H rfl rfl hr3 Tryz.underlying23) fun a E=>pr 1 E rfl fun a E=>nt<|wif E hm rfl (fun hm=>?_) fun hm=>?_
 ·refine sq<|pr 1 E rfl fun a E=>nt<|wp_ret<|q_thenR<|out1 E rfl rfl<|?_
  cases hm
  exact ⟨rfl, H.reads (fun r hr => hr)⟩
 ·refine wp_skip<|q_then<|wp_seq<|sq<|pr 1 E rfl fun a E=>nt<|wp_block<|wp_loop_g (fun k1 a w => ∃ (x4 : Int) (rs5 : List Rp), Env 18 a [(0, v1), (3, .int .i64 x4)] ∧ Sep w (Fo) rs5 ∧ (∀ r, r ∈ rs → r ∈ rs5) ∧ rSl k_api_Op v1 l2 ∈ rs5 ∧ m_cantonlaw08_GreatOps_l1 l2 k1 x4 = some r) (((l2.length : Int) - 0 : Int).toNat + 1) ?_ ?_
  ·exact ⟨0, _, E.sel [0, 3] rfl, H, fun r hr => hr, hr3, hm⟩
  ·clear E H hm
   rintro k1 a w ⟨x4, rs5, E, H, hs6, hr7, hm⟩
   cases k1 with
   | zero => exact (none_some hm rfl).elim
   | succ k1 =>
    unfold m_cantonlaw08_GreatOps_l1 at hm
    refine wp_seq<|sq<|pr 2 E rfl fun a E=>sv E rfl rfl rfl (x_lenS E H rfl rfl hr7 Tryz.underlying23) fun a E=>pr 1 E rfl fun a E=>nt<|wif E hm rfl (fun hm=>?_) fun hm=>?_
    ·refine wp_skip<|q_then<|wp_seq<|wp_block<|sq<|pr 2 E rfl fun a E=>bd hm fun x8 hx9 hm=>st_ixS E H (wn rfl) rfl rfl rfl rfl rfl hr7 Tryz.underlying23 sz55 hx9 fun q10 a H E=>ldf k_api_Op_flat E H rfl rfl rfl rfl rfl m0 Tryz.underlying55 rfl sz55 fun a E=>?_
     refine bd hm fun u11 hx12 hm=>x_cl E rfl rfl rfl rfl rfl cf34 (c_cantonlaw06_GreatOp x8 H hx12)<|?_
     rintro _ w ⟨rfl, H⟩ a E
     refine nt<|wif E hm rfl (fun hm=>?_) fun hm=>?_
     ·refine sq<|pr 1 E rfl fun a E=>nt<|wp_ret<|q_blkR<|q_thenR<|q_thenR<|q_blkR<|q_thenR<|?_
      refine out1 E rfl rfl<|?_
      cases hm
      exact ⟨rfl, H.reads (fun r hr => (t1 (hs6 r hr)))⟩
     ·exact wp_skip<|q_blk<|q_then<|wp_region_lit<|pr 3 E rfl fun a E=>nt<|⟨k1, Nat.lt_succ_self k1, IntKind.i64.wrap (x4 + 1), _, E.sel [0, 3] rfl, H, fun r hr => (t1 (hs6 r hr)), (t1 hr7), hm⟩
    ·refine wp_exit<|q_thenX<|q_thenX<|q_hit<|q_then<|sq<|pr 1 E rfl fun a E=>nt<|wp_ret<|?_
     refine out1 E rfl rfl<|?_
     cases hm
     exact ⟨rfl, H.reads (hs6)⟩

def m_cantonlaw08_MultiNone_j4 (rec_1 : (List S_api_Node) → Int → Option Bool) (u46 : (List S_api_Node) × S_api_Result) (x35 : Int) (b63 : Bool) : Option Bool :=
  if b63 = true then (some (false)) else (rec_1 u46.1 (IntKind.i64.wrap (x35 + 1)))
def m_cantonlaw08_MultiNone_j3 (rec_1 : (List S_api_Node) → Int → Option Bool) (u46 : (List S_api_Node) × S_api_Result) (x35 : Int) (u8 : Bool) (u16 : (List S_api_Node) × S_api_Done) (b53 : Bool) : Option Bool :=
  if b53 = true then (if u8 = true then (some (u46.2.Err == u16.2.Err)) else (some (false))) else (if (u46.2.Err != 0) = true then (m_cantonlaw08_MultiNone_j4 rec_1 u46 x35 true) else (if (u16.2.Err == 0) = true then ((idx u16.2.Results x35).bind fun x74 => (m_cantonref06_SameOne u46.2 x74).bind fun u85 => m_cantonlaw08_MultiNone_j4 rec_1 u46 x35 (!u85)) else (m_cantonlaw08_MultiNone_j4 rec_1 u46 x35 false)))
def m_cantonlaw08_MultiNone_l1 (u8 : Bool) (u16 : (List S_api_Node) × S_api_Done) (l4 : List S_api_Op) : Nat → (List S_api_Node) → Int → Option Bool
  | 0, _, _ => none
  | k1 + 1, l34, x35 =>
    if (decide (x35 < (l4.length : Int))) = true then ((idx l4 x35).bind fun x43 => (m_nodes_Apply l34 x43).bind fun u46 => if (u16.2.Err != 0) = true then (m_cantonlaw08_MultiNone_j3 (m_cantonlaw08_MultiNone_l1 u8 u16 l4 k1) u46 x35 u8 u16 (x35 == u16.2.At)) else (m_cantonlaw08_MultiNone_j3 (m_cantonlaw08_MultiNone_l1 u8 u16 l4 k1) u46 x35 u8 u16 false)) else (if u8 = true then ((m_cantonref06_Same l34 u16.1).bind fun u89 => some (u89)) else (some (false)))
def m_cantonlaw08_MultiNone_j2 (u8 : Bool) (u16 : (List S_api_Node) × S_api_Done) (l4 : List S_api_Op) (l2 : List S_api_Node) (b25 : Bool) : Option Bool :=
  if b25 = true then (some (false)) else (m_cantonlaw08_MultiNone_l1 u8 u16 l4 (((l4.length : Int) - 0 : Int).toNat + 1) l2 0)
def m_cantonlaw08_MultiNone_j1 (u8 : Bool) (l4 : List S_api_Op) (l2 : List S_api_Node) (b10 : Bool) : Option Bool :=
  if b10 = true then (some (u8)) else ((m_multi_Apply l2 l4).bind fun u16 => if (u16.2.Err == 1) = true then (if u8 = true then (if ((u16.1.length : Int) == 0) = true then (some ((u16.2.Results.length : Int) == 0)) else (some (false))) else (some (false))) else (if (u16.2.Err != 0) = true then (if (decide (u16.2.At < 0)) = true then (m_cantonlaw08_MultiNone_j2 u8 u16 l4 l2 true) else (if (decide (u16.2.At ≥ (l4.length : Int))) = true then (m_cantonlaw08_MultiNone_j2 u8 u16 l4 l2 true) else ((m_cantonref06_Same u16.1 l2).bind fun u94 => if (!u94) = true then (m_cantonlaw08_MultiNone_j2 u8 u16 l4 l2 true) else (if (decide ((u16.2.Results.length : Int) > 0)) = true then (m_cantonlaw08_MultiNone_j2 u8 u16 l4 l2 true) else (if (u16.2.Err == 0) = true then (m_cantonlaw08_MultiNone_j2 u8 u16 l4 l2 ((u16.2.Results.length : Int) != (l4.length : Int))) else (m_cantonlaw08_MultiNone_j2 u8 u16 l4 l2 false)))))) else (if (u16.2.Err == 0) = true then (m_cantonlaw08_MultiNone_j2 u8 u16 l4 l2 ((u16.2.Results.length : Int) != (l4.length : Int))) else (m_cantonlaw08_MultiNone_j2 u8 u16 l4 l2 false))))
def m_cantonlaw08_MultiNone (l2 : List S_api_Node) (l4 : List S_api_Op) : Option Bool :=
  m_cantonlaw08_head.bind fun u8 => (m_cantonlaw06_Great l2).bind fun u100 => if u100 = true then (m_cantonlaw08_MultiNone_j1 u8 l4 l2 true) else ((m_cantonlaw08_GreatOps l4).bind fun u103 => m_cantonlaw08_MultiNone_j1 u8 l4 l2 u103)
theorem c_cantonlaw08_MultiNone {w : World} {Fo : List Ob} {rs : List Rp} (v1 : Value) (l2 : List S_api_Node) (v3 : Value) (l4 : List S_api_Op) (H : Sep w (Fo) rs) (hr5 : rSl k_api_Node v1 l2 ∈ rs) (hr6 : rSl k_api_Op v3 l4 ∈ rs) (hr7 : rTab Tryz.prog ∈ rs) {r : Bool} (hm : m_cantonlaw08_MultiNone l2 l4 = some r) :
    Calls Tryz.prog 5 [v1, v3].toArray w (Ret fun v w' => .bool r = v ∧ Sep w' (Fo) (rs)) := by
 unfold m_cantonlaw08_MultiNone at hm
 refine enter Tryz.func5 rfl Tryz.ntmps5 rfl fun a E =>?_
 simp only [enum, Nat.reduceAdd] at E
 refine sq<|pr 1 E rfl fun a E=>nx<|bd hm fun u8 hx9 hm=>x_cl E rfl rfl rfl rfl rfl cf14 (c_cantonlaw08_head H hr7 hx9)<|?_
 rintro _ w ⟨rfl, H⟩ a E
 refine pr 1 E rfl fun a E=>nt<|wp_seq<|wp_seq_cut (fun a w => ∃ (b10 : Bool) (rs11 : List Rp), Env 139 a [(0, v1), (1, v3), (5, .bool u8), (18, .bool b10)] ∧ Sep w (Fo) rs11 ∧ (∀ r, r ∈ rs → r ∈ rs11) ∧ rSl k_api_Node v1 l2 ∈ rs11 ∧ rSl k_api_Op v3 l4 ∈ rs11 ∧ rTab Tryz.prog ∈ rs11 ∧ m_cantonlaw08_MultiNone_j1 u8 l4 l2 b10 = some r) ?_ ?_
 ·refine wp_region_lit<|pr 1 E rfl fun a E=>bd hm fun u100 hx101 hm=>x_cl E rfl rfl rfl rfl rfl cf15 (c_cantonlaw06_Great v1 l2 H hr5 hx101)<|?_
  rintro _ w ⟨rfl, H⟩ a E
  refine pr 1 E rfl fun a E=>cs hm (fun hb102 hm=>?_) fun hb102 hm=>?_
  ·exact pk 3 E (kc 15 rfl hb102) rfl fun a E=>nt<|⟨true, _, E.sel [0, 1, 5, 18] rfl, H, fun r hr => hr, hr5, hr6, hr7, hm⟩
  ·refine pk 1 E (kc 15 rfl hb102) rfl fun a E=>bd hm fun u103 hx104 hm=>st_call E (ws' (d := 15) E rfl rfl rfl rfl hb102) rfl rfl (x_call E rfl rfl (cf16 _)) (c_cantonlaw08_GreatOps v3 l4 H hr6 hx104)<|?_
   rintro _ w ⟨rfl, H⟩ a E
   exact pk 1 E (kc 15 rfl hb102) rfl fun a E=>nt<|⟨u103, _, E.sel [0, 1, 5, 18] rfl, H, fun r hr => hr, hr5, hr6, hr7, hm⟩
 ·clear E H hm
  rintro a w ⟨b10, rs11, E, H, hs12, hr13, hr14, hr15, hm⟩
  unfold m_cantonlaw08_MultiNone_j1 at hm
  refine wif E hm rfl (fun hm=>?_) fun hm=>?_
  ·refine sq<|pr 2 E rfl fun a E=>nt<|wp_ret<|q_thenR<|out1 E rfl rfl<|?_
   cases hm
   exact ⟨rfl, H.reads (hs12)⟩
  ·refine wp_skip<|q_then<|sq<|pr 2 E rfl fun a E=>bd hm fun u16 hx17 hm=>x_cl E rfl rfl rfl rfl rfl cf17 (c_multi_Apply v1 l2 v3 l4 H hr13 hr14 hr15 hx17)<|?_
   rintro _ w ⟨v18, v19, rfl, H⟩ a E
   refine pr 3 E rfl fun a E=>al E H rfl rfl rfl rfl zr30 fun p20 w a H E=>pr 1 E rfl fun a E=>?_
   obtain ⟨q21, x22, rfl⟩ := H.slform mm1
   refine st_st (i := 0) E H (wn rfl) rfl (us := (l_api_Done u16.2 (.slice q21 u16.2.Results.length x22))) rfl rfl rfl rfl rfl sz30 rfl rfl fun w H=>nt<|wp_seq<|sq<|pr 1 E rfl fun a E=>lb E H 0 rfl rfl rfl rfl rfl rfl rfl Tryz.underlying27 rfl fun a E=>pr 1 E rfl fun a E=>nt<|wif E hm rfl (fun hm=>?_) fun hm=>?_
   ·refine sq<|pr 2 E rfl fun a E=>cs hm (fun hb23 hm=>?_) fun hb23 hm=>?_
    ·refine pk 1 E (kc 30 rfl hb23) rfl fun a E=>st_val E (ws' (d := 30) E rfl rfl rfl rfl hb23) rfl rfl (x_lenS E H rfl rfl m0 Tryz.underlying22) fun a E=>pk 3 E (kc 30 rfl hb23) rfl fun a E=>cs hm (fun hb24 hm=>?_) fun hb24 hm=>?_
     ·refine pk 1 E (kc 35 rfl hb24) rfl fun a E=>st_val E (ws' (d := 35) E rfl rfl rfl rfl hb24) rfl rfl (x_ldB (i := 0) E H rfl rfl rfl rfl Tryz.underlying28 rfl) fun a E=>st_val E (ws' (d := 35) E rfl rfl rfl rfl hb24) rfl rfl (x_lenS E H rfl rfl mm1 Tryz.underlying28) fun a E=>pk 3 E (kc 35 rfl hb24) rfl fun a E=>nt<|wp_ret<|q_thenR<|out1 E rfl rfl<|have H:=H.drop 0;?_
      cases hm
      exact ⟨rfl, H.reads (fun r hr => (t2 (hs12 r hr)))⟩
     ·refine pk 6 E (kc 35 rfl hb24) rfl fun a E=>nt<|wp_ret<|q_thenR<|out1 E rfl rfl<|have H:=H.drop 0;?_
      cases hm
      exact ⟨rfl, H.reads (fun r hr => (t2 (hs12 r hr)))⟩
    ·refine pk 11 E (kc 30 rfl hb23) rfl fun a E=>nt<|wp_ret<|q_thenR<|out1 E rfl rfl<|have H:=H.drop 0;?_
     cases hm
     exact ⟨rfl, H.reads (fun r hr => (t2 (hs12 r hr)))⟩
   ·refine wp_skip<|q_then<|wp_seq<|wp_seq_cut (fun a w => ∃ (b25 : Bool) (rs26 : List Rp), Env 139 a [(0, v1), (1, v3), (5, .bool u8), (6, v18), (7, pt p20 0), (80, .bool b25)] ∧ Sep w (Blk p20 30 (l_api_Done u16.2 (.slice q21 u16.2.Results.length x22)) :: Fo) rs26 ∧ (∀ r, r ∈ rs → r ∈ rs26) ∧ rSl k_api_Node v1 l2 ∈ rs26 ∧ rSl k_api_Op v3 l4 ∈ rs26 ∧ rSl k_api_Node v18 u16.1 ∈ rs26 ∧ rSl k_api_Result (.slice q21 u16.2.Results.length x22) u16.2.Results ∈ rs26 ∧ rTab Tryz.prog ∈ rs26 ∧ m_cantonlaw08_MultiNone_j2 u8 u16 l4 l2 b25 = some r) ?_ ?_
    ·refine wp_region_lit<|pr 1 E rfl fun a E=>lb E H 0 rfl rfl rfl rfl rfl rfl rfl Tryz.underlying27 rfl fun a E=>pr 2 E rfl fun a E=>cs hm (fun hb91 hm=>?_) fun hb91 hm=>?_
     ·refine pk 1 E (kc 44 rfl hb91) rfl fun a E=>st_val E (ws' (d := 44) E rfl rfl rfl rfl hb91) rfl rfl (x_ldB (i := 0) E H rfl rfl rfl rfl Tryz.underlying3 rfl) fun a E=>pk 2 E (kc 44 rfl hb91) rfl fun a E=>cs hm (fun hb92 hm=>?_) fun hb92 hm=>?_
      ·exact pk 32 E (kc' (kc 48 rfl hb92) 44 rfl hb91) rfl fun a E=>nt<|⟨true, _, E.sel [0, 1, 5, 6, 7, 80] rfl, H, fun r hr => (t2 (hs12 r hr)), (t2 hr13), (t2 hr14), m0, mm1, (t2 hr15), hm⟩
      ·refine pk 1 E (kc 48 rfl hb92) rfl fun a E=>st_val E (ws' (d := 48) E rfl rfl rfl rfl hb92) rfl rfl (x_ldB (i := 0) E H rfl rfl rfl rfl Tryz.underlying3 rfl) fun a E=>pk 1 E (kc 48 rfl hb92) rfl fun a E=>st_val E (ws' (d := 48) E rfl rfl rfl rfl hb92) rfl rfl (x_lenS E H rfl rfl (t2 hr14) Tryz.underlying23) fun a E=>pk 3 E (kc' (kc 48 rfl hb92) 44 rfl hb91) rfl fun a E=>cs hm (fun hb93 hm=>?_) fun hb93 hm=>?_
       ·exact pk 25 E (kc' (kc 55 rfl hb93) 44 rfl hb91) rfl fun a E=>nt<|⟨true, _, E.sel [0, 1, 5, 6, 7, 80] rfl, H, fun r hr => (t2 (hs12 r hr)), (t2 hr13), (t2 hr14), m0, mm1, (t2 hr15), hm⟩
       ·refine pk 2 E (kc 55 rfl hb93) rfl fun a E=>bd hm fun u94 hx95 hm=>st_call E (ws' (d := 55) E rfl rfl rfl rfl hb93) rfl rfl (x_call E rfl rfl (cf21 _)) (c_cantonref06_Same v18 u16.1 v1 l2 H m0 (t2 hr13) hx95)<|?_
        rintro _ w ⟨rfl, H⟩ a E
        refine pk 3 E (kc' (kc 55 rfl hb93) 44 rfl hb91) rfl fun a E=>cs hm (fun hb96 hm=>?_) fun hb96 hm=>?_
        ·exact pk 19 E (kc' (kc 61 rfl hb96) 44 rfl hb91) rfl fun a E=>nt<|⟨true, _, E.sel [0, 1, 5, 6, 7, 80] rfl, H, fun r hr => (t2 (hs12 r hr)), (t2 hr13), (t2 hr14), m0, mm1, (t2 hr15), hm⟩
        ·refine pk 1 E (kc 61 rfl hb96) rfl fun a E=>st_val E (ws' (d := 61) E rfl rfl rfl rfl hb96) rfl rfl (x_ldB (i := 0) E H rfl rfl rfl rfl Tryz.underlying28 rfl) fun a E=>st_val E (ws' (d := 61) E rfl rfl rfl rfl hb96) rfl rfl (x_lenS E H rfl rfl mm1 Tryz.underlying28) fun a E=>pk 4 E (kc' (kc 61 rfl hb96) 44 rfl hb91) rfl fun a E=>cs hm (fun hb97 hm=>?_) fun hb97 hm=>?_
         ·exact pk 12 E (kc 68 rfl hb97) rfl fun a E=>nt<|⟨true, _, E.sel [0, 1, 5, 6, 7, 80] rfl, H, fun r hr => (t2 (hs12 r hr)), (t2 hr13), (t2 hr14), m0, mm1, (t2 hr15), hm⟩
         ·refine pk 1 E (kc 68 rfl hb97) rfl fun a E=>st_val E (ws' (d := 68) E rfl rfl rfl rfl hb97) rfl rfl (x_ldB (i := 0) E H rfl rfl rfl rfl Tryz.underlying27 rfl) fun a E=>pk 2 E (kc 68 rfl hb97) rfl fun a E=>cs hm (fun hb98 hm=>?_) fun hb98 hm=>?_
          ·exact pk 1 E (kc 72 rfl hb98) rfl fun a E=>st_val E (ws' (d := 72) E rfl rfl rfl rfl hb98) rfl rfl (x_ldB (i := 0) E H rfl rfl rfl rfl Tryz.underlying28 rfl) fun a E=>st_val E (ws' (d := 72) E rfl rfl rfl rfl hb98) rfl rfl (x_lenS E H rfl rfl mm1 Tryz.underlying28) fun a E=>pk 1 E (kc 72 rfl hb98) rfl fun a E=>st_val E (ws' (d := 72) E rfl rfl rfl rfl hb98) rfl rfl (x_lenS E H rfl rfl (t2 hr14) Tryz.underlying23) fun a E=>pk 3 E (kc' (kc 72 rfl hb98) 68 rfl hb97) rfl fun a E=>nt<|⟨(u16.2.Results.length : Int) != (l4.length : Int), _, E.sel [0, 1, 5, 6, 7, 80] rfl, H, fun r hr => (t2 (hs12 r hr)), (t2 hr13), (t2 hr14), m0, mm1, (t2 hr15), hm⟩
          ·exact pk 8 E (kc' (kc 72 rfl hb98) 68 rfl hb97) rfl fun a E=>nt<|⟨false, _, E.sel [0, 1, 5, 6, 7, 80] rfl, H, fun r hr => (t2 (hs12 r hr)), (t2 hr13), (t2 hr14), m0, mm1, (t2 hr15), hm⟩
     ·refine pk 25 E (kc 44 rfl hb91) rfl fun a E=>st_val E (ws E rfl rfl rfl rfl) rfl rfl (x_ldB (i := 0) E H rfl rfl rfl rfl Tryz.underlying27 rfl) fun a E=>pr 2 E rfl fun a E=>cs hm (fun hb99 hm=>?_) fun hb99 hm=>?_
      ·exact pk 1 E (kc 72 rfl hb99) rfl fun a E=>st_val E (ws' (d := 72) E rfl rfl rfl rfl hb99) rfl rfl (x_ldB (i := 0) E H rfl rfl rfl rfl Tryz.underlying28 rfl) fun a E=>st_val E (ws' (d := 72) E rfl rfl rfl rfl hb99) rfl rfl (x_lenS E H rfl rfl mm1 Tryz.underlying28) fun a E=>pk 1 E (kc 72 rfl hb99) rfl fun a E=>st_val E (ws' (d := 72) E rfl rfl rfl rfl hb99) rfl rfl (x_lenS E H rfl rfl (t2 hr14) Tryz.underlying23) fun a E=>pk 3 E (kc 72 rfl hb99) rfl fun a E=>nt<|⟨(u16.2.Results.length : Int) != (l4.length : Int), _, E.sel [0, 1, 5, 6, 7, 80] rfl, H, fun r hr => (t2 (hs12 r hr)), (t2 hr13), (t2 hr14), m0, mm1, (t2 hr15), hm⟩
      ·exact pk 8 E (kc 72 rfl hb99) rfl fun a E=>nt<|⟨false, _, E.sel [0, 1, 5, 6, 7, 80] rfl, H, fun r hr => (t2 (hs12 r hr)), (t2 hr13), (t2 hr14), m0, mm1, (t2 hr15), hm⟩
    ·clear E H hm
     rintro a w ⟨b25, rs26, E, H, hs27, hr28, hr29, hr30, hr31, hr32, hm⟩
     unfold m_cantonlaw08_MultiNone_j2 at hm
     refine wif E hm rfl (fun hm=>?_) fun hm=>?_
     ·refine sq<|pr 1 E rfl fun a E=>nt<|wp_ret<|q_thenR<|out1 E rfl rfl<|have H:=H.drop 0;?_
      cases hm
      exact ⟨rfl, H.reads (hs27)⟩
     ·refine wp_skip<|q_then<|sq<|pr 2 E rfl fun a E=>nt<|wp_seq<|sq<|pr 1 E rfl fun a E=>nt<|?_
      refine wp_block<|wp_loop_g (fun k1 a w => ∃ (v33 : Value) (l34 : (List S_api_Node)) (x35 : Int) (rs36 : List Rp), Env 139 a [(1, v3), (5, .bool u8), (6, v18), (7, pt p20 0), (8, v33), (9, .int .i64 x35)] ∧ Sep w (Blk p20 30 (l_api_Done u16.2 (.slice q21 u16.2.Results.length x22)) :: Fo) rs36 ∧ (∀ r, r ∈ rs → r ∈ rs36) ∧ rSl k_api_Op v3 l4 ∈ rs36 ∧ rSl k_api_Node v18 u16.1 ∈ rs36 ∧ rSl k_api_Node v33 l34 ∈ rs36 ∧ rSl k_api_Result (.slice q21 u16.2.Results.length x22) u16.2.Results ∈ rs36 ∧ rTab Tryz.prog ∈ rs36 ∧ m_cantonlaw08_MultiNone_l1 u8 u16 l4 k1 l34 x35 = some r) (((l4.length : Int) - 0 : Int).toNat + 1) ?_ ?_
      ·exact ⟨v1, l2, 0, _, E.sel [1, 5, 6, 7, 8, 9] rfl, H, hs27, hr29, hr30, hr28, hr31, hr32, hm⟩
      ·clear E H hm
       rintro k1 a w ⟨v33, l34, x35, rs36, E, H, hs37, hr38, hr39, hr40, hr41, hr42, hm⟩
       cases k1 with
       | zero => exact (none_some hm rfl).elim
       | succ k1 =>
        unfold m_cantonlaw08_MultiNone_l1 at hm
        refine wp_seq<|sq<|pr 2 E rfl fun a E=>sv E rfl rfl rfl (x_lenS E H rfl rfl hr38 Tryz.underlying23) fun a E=>pr 1 E rfl fun a E=>nt<|wif E hm rfl (fun hm=>?_) fun hm=>?_
        ·refine wp_skip<|q_then<|wp_seq<|wp_block<|sq<|pr 3 E rfl fun a E=>bd hm fun x43 hx44 hm=>st_ixS E H (wn rfl) rfl rfl rfl rfl rfl hr38 Tryz.underlying23 sz55 hx44 fun q45 a H E=>ldf k_api_Op_flat E H rfl rfl rfl rfl rfl m0 Tryz.underlying55 rfl sz55 fun a E=>?_
         refine bd hm fun u46 hx47 hm=>x_cl E rfl rfl rfl rfl rfl cf32 (c_nodes_Apply v33 l34 x43 H (t1 hr40) (t1 hr42) hx47)<|?_
         rintro _ w ⟨v48, v49, rfl, H⟩ a E
         refine pr 3 E rfl fun a E=>al E H rfl rfl rfl rfl zr51 fun p50 w a H E=>pr 1 E rfl fun a E=>?_
         obtain ⟨q51, x52, rfl⟩ := H.slform mm1
         refine st_st (i := 0) E H (wn rfl) rfl (us := (l_api_Result u46.2 (.slice q51 u46.2.Names.length x52))) rfl rfl rfl rfl rfl sz51 rfl rfl fun w H=>nt<|wp_seq<|wp_seq_cut (fun a w => ∃ (b53 : Bool) (rs54 : List Rp), Env 139 a [(1, v3), (5, .bool u8), (6, v18), (7, pt p20 0), (9, .int .i64 x35), (10, v48), (11, pt p50 0), (105, .bool b53)] ∧ Sep w (Blk p20 30 (l_api_Done u16.2 (.slice q21 u16.2.Results.length x22)) :: Blk p50 51 (l_api_Result u46.2 (.slice q51 u46.2.Names.length x52)) :: Fo) rs54 ∧ (∀ r, r ∈ rs → r ∈ rs54) ∧ rSl k_api_Op v3 l4 ∈ rs54 ∧ rSl k_api_Node v18 u16.1 ∈ rs54 ∧ rSl k_api_Node v48 u46.1 ∈ rs54 ∧ rSl k_api_Result (.slice q21 u16.2.Results.length x22) u16.2.Results ∈ rs54 ∧ rSl kS (.slice q51 u46.2.Names.length x52) u46.2.Names ∈ rs54 ∧ rTab Tryz.prog ∈ rs54 ∧ m_cantonlaw08_MultiNone_j3 (m_cantonlaw08_MultiNone_l1 u8 u16 l4 k1) u46 x35 u8 u16 b53 = some r) ?_ ?_
         ·refine wp_region_lit<|pr 1 E rfl fun a E=>lb E H 1 rfl rfl rfl rfl rfl rfl rfl Tryz.underlying27 rfl fun a E=>pr 2 E rfl fun a E=>cs hm (fun hb87 hm=>?_) fun hb87 hm=>?_
          ·exact pk 2 E (kc 100 rfl hb87) rfl fun a E=>st_val E (ws' (d := 100) E rfl rfl rfl rfl hb87) rfl rfl (x_ldB (i := 1) E H rfl rfl rfl rfl Tryz.underlying3 rfl) fun a E=>pk 2 E (kc 100 rfl hb87) rfl fun a E=>nt<|have H:=H.front 0 rfl;have H:=H.front 1 rfl;⟨x35 == u16.2.At, _, E.sel [1, 5, 6, 7, 9, 10, 11, 105] rfl, H, fun r hr => (t3 (hs37 r hr)), (t3 hr38), (t3 hr39), m0, (t3 hr41), mm1, (t3 hr42), hm⟩
          ·exact pk 5 E (kc 100 rfl hb87) rfl fun a E=>nt<|have H:=H.front 0 rfl;have H:=H.front 1 rfl;⟨false, _, E.sel [1, 5, 6, 7, 9, 10, 11, 105] rfl, H, fun r hr => (t3 (hs37 r hr)), (t3 hr38), (t3 hr39), m0, (t3 hr41), mm1, (t3 hr42), hm⟩
         ·clear E H hm
          rintro a w ⟨b53, rs54, E, H, hs55, hr56, hr57, hr58, hr59, hr60, hr61, hm⟩
          unfold m_cantonlaw08_MultiNone_j3 at hm
          refine wif E hm rfl (fun hm=>?_) fun hm=>?_
          ·refine sq<|pr 2 E rfl fun a E=>cs hm (fun hb62 hm=>?_) fun hb62 hm=>?_
           ·refine pk 1 E (kc 107 rfl hb62) rfl fun a E=>st_val E (ws' (d := 107) E rfl rfl rfl rfl hb62) rfl rfl (x_ldB (i := 1) E H rfl rfl rfl rfl Tryz.underlying27 rfl) fun a E=>pk 1 E (kc 107 rfl hb62) rfl fun a E=>st_val E (ws' (d := 107) E rfl rfl rfl rfl hb62) rfl rfl (x_ldB (i := 0) E H rfl rfl rfl rfl Tryz.underlying27 rfl) fun a E=>pk 3 E (kc 107 rfl hb62) rfl fun a E=>nt<|wp_ret<|q_thenR<|q_blkR<|?_
            refine q_thenR<|q_thenR<|q_blkR<|q_thenR<|out1 E rfl rfl<|have H:=H.drop 0;have H:=H.drop 0;?_
            cases hm
            exact ⟨rfl, H.reads (hs55)⟩
           ·refine pk 7 E (kc 107 rfl hb62) rfl fun a E=>nt<|wp_ret<|q_thenR<|q_blkR<|q_thenR<|q_thenR<|q_blkR<|q_thenR<|?_
            refine out1 E rfl rfl<|have H:=H.drop 0;have H:=H.drop 0;?_
            cases hm
            exact ⟨rfl, H.reads (hs55)⟩
          ·refine wp_skip<|q_then<|wp_seq<|wp_seq_cut (fun a w => ∃ (b63 : Bool) (rs64 : List Rp), Env 139 a [(1, v3), (5, .bool u8), (6, v18), (7, pt p20 0), (9, .int .i64 x35), (10, v48), (131, .bool b63)] ∧ Sep w (Blk p20 30 (l_api_Done u16.2 (.slice q21 u16.2.Results.length x22)) :: Fo) rs64 ∧ (∀ r, r ∈ rs → r ∈ rs64) ∧ rSl k_api_Op v3 l4 ∈ rs64 ∧ rSl k_api_Node v18 u16.1 ∈ rs64 ∧ rSl k_api_Node v48 u46.1 ∈ rs64 ∧ rSl k_api_Result (.slice q21 u16.2.Results.length x22) u16.2.Results ∈ rs64 ∧ rTab Tryz.prog ∈ rs64 ∧ m_cantonlaw08_MultiNone_j4 (m_cantonlaw08_MultiNone_l1 u8 u16 l4 k1) u46 x35 b63 = some r) ?_ ?_
           ·obtain ⟨u71, H⟩ := H.raw hr59
            refine dw [(0, 0), (1, 0), (2, 0), (3, 0), (4, 0), (5, 0), (6, 0), (7, 0), (8, 0), (9, 0), (10, 0), (11, 0), (12, 0), (13, 0), (14, 1), (15, 0), (16, 0), (17, 0)] [0, 1] [0] H (by kernel_rfl) (fun _ _ _ h => False.elim h.2) fun w W0 hI H=>fn 1 E rfl fun a E=>fb E rfl (wn rfl) rfl rfl rfl rfl mm1 rfl Tryz.underlying27 rfl fun a E=>fn 2 E rfl fun a E=>cs hm (fun hb72 hm=>?_) fun hb72 hm=>?_
            ·refine fk 10 E (kc 117 rfl hb72) rfl fun a E=>fr_op rfl<|pr 1 E rfl fun a E=>nt<|?_
             refine ⟨⟨_, _, H, (subO_cons m0 (subO_cons mm1 (subO_nil))), (sub_cons m0 (sub_nil))⟩, ?_⟩
             refine fk 3 E (kc 117 rfl hb72) rfl fun a E=>fr_nil<|?_
             clear hI
             exact q_then<|have H:=H.drop 1;⟨true, _, E.sel [1, 5, 6, 7, 9, 10, 131] rfl, H, fun r hr => (t1 (hs55 r hr)), (t1 hr56), (t1 hr57), (t1 hr58), (t1 hr59), (t1 hr61), hm⟩
            ·refine fk 1 E (kc 117 rfl hb72) rfl fun a E=>fb E rfl (ws' (d := 117) E rfl rfl rfl rfl hb72) rfl rfl rfl rfl m0 rfl Tryz.underlying27 rfl fun a E=>fk 2 E (kc 117 rfl hb72) rfl fun a E=>cs hm (fun hb73 hm=>?_) fun hb73 hm=>?_
             ·refine fbn E (l_api_Result u46.2 (.slice q51 u46.2.Names.length x52)) rfl (ws' (d := 121) E rfl rfl rfl rfl hb73) rfl rfl rfl rfl mm1 rfl Tryz.underlying51 rfl sz51 fun a E=>fk 1 E (kc 121 rfl hb73) rfl fun a E=>fb E rfl (ws' (d := 121) E rfl rfl rfl rfl hb73) rfl rfl rfl rfl m0 rfl Tryz.underlying28 rfl fun a E=>fk 1 E (kc 121 rfl hb73) rfl fun a E=>bd hm fun x74 hx75 hm=>?_
              obtain ⟨q76, u79, hx77, hx78⟩ := dr_ixW (P := Tryz.prog) (k := .i64) hI (dr_mem (.head _)) Tryz.underlying28 sz51 hx75
              refine fr_val E rfl (ws' (d := 121) E rfl rfl rfl rfl hb73) rfl rfl (fun w hW=>x_ixA E rfl rfl rfl (hx77 w)) fun a E=>?_
              obtain ⟨_, hx81⟩ := dr_open hI hx78
              obtain ⟨v83, hx80, -⟩ := k_api_Result_open hx81
              have hx82 := hx78
              rw [hx80] at hx82
              have hx84 := dr_get hx82 (fun _ _ h => k_api_Result_get1 h)
              refine fr_val E rfl (ws' (d := 121) E rfl rfl rfl rfl hb73) rfl rfl (fun w hW=>x_ld E rfl rfl (ir_ldW (cs := [.int .i64 x74.Err, .string x74.Path, .string x74.Data, .int .i64 x74.Version, v83]) (DR.ir hx82) Tryz.underlying51 rfl sz51 w hW)) fun a E=>?_
              refine have H:=H.dr (sub_cons m0 (sub_nil)) hx84;fr_op rfl<|bd hm fun u85 hx86 hm=>st_call E (ws' (d := 121) E rfl rfl rfl rfl hb73) rfl rfl (x_call E rfl rfl (cf33 _)) (c_cantonref06_SameOne u46.2 (.slice q51 u46.2.Names.length x52) x74 v83 H (t2 hr60) m0 hx86)<|?_
              rintro _ w ⟨rfl, H⟩ a E
              refine nt<|?_
              refine ⟨⟨_, _, H, (subO_cons m0 (subO_cons mm1 (subO_nil))), (sub_cons mm1 (sub_nil))⟩, ?_⟩
              refine fk 3 E (kc' (kc 121 rfl hb73) 117 rfl hb72) rfl fun a E=>fr_nil<|?_
              clear hI
              exact q_then<|have H:=H.drop 1;⟨!u85, _, E.sel [1, 5, 6, 7, 9, 10, 131] rfl, H, fun r hr => (t2 (hs55 r hr)), (t2 hr56), (t2 hr57), (t2 hr58), (t2 hr59), (t2 hr61), hm⟩
             ·refine fk 6 E (kc 121 rfl hb73) rfl fun a E=>fr_op rfl<|pk 1 E (kc 121 rfl hb73) rfl fun a E=>nt<|?_
              refine ⟨⟨_, _, H, (subO_cons m0 (subO_cons mm1 (subO_nil))), (sub_cons m0 (sub_nil))⟩, ?_⟩
              refine fk 3 E (kc' (kc 121 rfl hb73) 117 rfl hb72) rfl fun a E=>fr_nil<|?_
              clear hI
              exact q_then<|have H:=H.drop 1;⟨false, _, E.sel [1, 5, 6, 7, 9, 10, 131] rfl, H, fun r hr => (t1 (hs55 r hr)), (t1 hr56), (t1 hr57), (t1 hr58), (t1 hr59), (t1 hr61), hm⟩
           ·clear E H hm
            rintro a w ⟨b63, rs64, E, H, hs65, hr66, hr67, hr68, hr69, hr70, hm⟩
            unfold m_cantonlaw08_MultiNone_j4 at hm
            refine wif E hm rfl (fun hm=>?_) fun hm=>?_
            ·refine sq<|pr 1 E rfl fun a E=>nt<|wp_ret<|q_thenR<|q_blkR<|q_thenR<|q_thenR<|q_blkR<|?_
             refine q_thenR<|out1 E rfl rfl<|have H:=H.drop 0;?_
             cases hm
             exact ⟨rfl, H.reads (hs65)⟩
            ·refine wp_skip<|q_then<|wp_region_lit<|pr 2 E rfl fun a E=>wpList_nil<|q_blk<|q_then<|wp_region_lit<|pr 3 E rfl fun a E=>?_
             exact nt<|⟨k1, Nat.lt_succ_self k1, v48, u46.1, IntKind.i64.wrap (x35 + 1), _, E.sel [1, 5, 6, 7, 8, 9] rfl, H, hs65, hr66, hr67, hr68, hr69, hr70, hm⟩
        ·refine wp_exit<|q_thenX<|q_thenX<|q_hit<|q_then<|sq<|pr 2 E rfl fun a E=>cs hm (fun hb88 hm=>?_) fun hb88 hm=>?_
         ·refine pk 2 E (kc 134 rfl hb88) rfl fun a E=>bd hm fun u89 hx90 hm=>st_call E (ws' (d := 134) E rfl rfl rfl rfl hb88) rfl rfl (x_call E rfl rfl (cf21 _)) (c_cantonref06_Same v33 l34 v18 u16.1 H hr40 hr39 hx90)<|?_
          rintro _ w ⟨rfl, H⟩ a E
          refine pk 2 E (kc 134 rfl hb88) rfl fun a E=>nt<|wp_ret<|out1 E rfl rfl<|have H:=H.drop 0;?_
          cases hm
          exact ⟨rfl, H.reads (hs37)⟩
         ·refine pk 5 E (kc 134 rfl hb88) rfl fun a E=>nt<|wp_ret<|out1 E rfl rfl<|have H:=H.drop 0;?_
          cases hm
          exact ⟨rfl, H.reads (hs37)⟩

end Go.Cb
