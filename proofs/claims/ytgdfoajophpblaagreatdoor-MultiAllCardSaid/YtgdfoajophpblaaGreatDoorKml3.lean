/- Functions of the program, walked: each comes to its plain function. -/
import Derived.Test.YtgdfoajophpblaaGreatDoorKml2
import Derived.Test.YtgdfoajophpblaaGreatDoorN4ml
set_option linter.unusedVariables false
set_option linter.unusedSimpArgs false
set_option maxRecDepth 20000
set_option maxHeartbeats 1000000
namespace Go.Cb
open Go.Proofs Go.RowKit

def m_cantonref07_turned_j1 (rec_1 : (List S_api_Turn) → Bool → Int → Option S_api_Store) (x17 : Int) (l23 : (List S_api_Turn)) (b24 : Bool) : Option S_api_Store :=
  rec_1 l23 b24 (IntKind.i64.wrap (x17 + 1))
def m_cantonref07_turned_j2 (rec_1 : (List S_api_Turn) → Bool → Int → Option S_api_Store) (x17 : Int) (x1 : S_api_Store) (s4 : ByteArray) (l30 : (List S_api_Turn)) (b31 : Bool) : Option S_api_Store :=
  (idx x1.Turns x17).bind fun x36 => if (!(sEq x36.Dir s4)) = true then ((idx x1.Turns x17).bind fun x39 => (ck (l30.length + ([x39] : List S_api_Turn).length ≤ LIM)).bind fun u44 => m_cantonref07_turned_j1 rec_1 x17 (l30 ++ ([x39] : List S_api_Turn)) b31) else (m_cantonref07_turned_j1 rec_1 x17 l30 b31)
def m_cantonref07_turned_j3 (rec_1 : (List S_api_Turn) → Bool → Int → Option S_api_Store) (x17 : Int) (x1 : S_api_Store) (s4 : ByteArray) (l15 : (List S_api_Turn)) (x5 : Int) (b16 : Bool) (b46 : Bool) : Option S_api_Store :=
  if b46 = true then ((ck (l15.length + ([(⟨s4, x5⟩ : S_api_Turn)] : List S_api_Turn).length ≤ LIM)).bind fun u53 => m_cantonref07_turned_j2 rec_1 x17 x1 s4 (l15 ++ ([(⟨s4, x5⟩ : S_api_Turn)] : List S_api_Turn)) true) else (m_cantonref07_turned_j2 rec_1 x17 x1 s4 l15 b16)
def m_cantonref07_turned_j4 (x1 : S_api_Store) (l60 : (List S_api_Turn)) : Option S_api_Store :=
  some ((⟨x1.Nodes, l60⟩ : S_api_Store))
def m_cantonref07_turned_l1 (x1 : S_api_Store) (s4 : ByteArray) (x5 : Int) : Nat → (List S_api_Turn) → Bool → Int → Option S_api_Store
  | 0, _, _, _ => none
  | k1 + 1, l15, b16, x17 =>
    if (decide (x17 < (x1.Turns.length : Int))) = true then (if (!b16) = true then ((idx x1.Turns x17).bind fun x56 => m_cantonref07_turned_j3 (m_cantonref07_turned_l1 x1 s4 x5 k1) x17 x1 s4 l15 x5 b16 (!(sLt x56.Dir s4))) else (m_cantonref07_turned_j3 (m_cantonref07_turned_l1 x1 s4 x5 k1) x17 x1 s4 l15 x5 b16 false)) else (if (!b16) = true then ((ck (l15.length + ([(⟨s4, x5⟩ : S_api_Turn)] : List S_api_Turn).length ≤ LIM)).bind fun u69 => m_cantonref07_turned_j4 x1 (l15 ++ ([(⟨s4, x5⟩ : S_api_Turn)] : List S_api_Turn))) else (m_cantonref07_turned_j4 x1 l15))
def m_cantonref07_turned (x1 : S_api_Store) (s4 : ByteArray) (x5 : Int) : Option S_api_Store :=
  m_cantonref07_turned_l1 x1 s4 x5 (((x1.Turns.length : Int) - 0 : Int).toNat + 1) [] (x5 == 0) 0
theorem c_cantonref07_turned {w : World} {Fo : List Ob} {rs : List Rp} (x1 : S_api_Store) (v2 : Value) (v3 : Value) (s4 : ByteArray) (x5 : Int) (H : Sep w (Fo) rs) (hr6 : rSl k_api_Node v2 x1.Nodes ∈ rs) (hr7 : rSl k_api_Turn v3 x1.Turns ∈ rs) {r : S_api_Store} (hm : m_cantonref07_turned x1 s4 x5 = some r) :
    Calls Tryz.prog 142 [.agg #[v2, v3], .string s4, .int .i64 x5].toArray w (Ret fun v w' => ∃ (v5002 : Value) (v5003 : Value), .agg #[v5002, v5003] = v ∧ Sep w' (Fo) (rSl k_api_Node v5002 r.Nodes :: rSl k_api_Turn v5003 r.Turns :: rs)) := by
 unfold m_cantonref07_turned at hm
 refine enter Tryz.func142 rfl Tryz.ntmps142 rfl fun a E =>?_
 simp only [enum, Nat.reduceAdd] at E
 refine sq<|?_
 obtain ⟨q9, x10, rfl⟩ := H.slform hr6
 obtain ⟨q11, x12, rfl⟩ := H.slform hr7
 refine st_box E H (wn rfl) rfl rfl (cs := [(.slice q9 x1.Nodes.length x10), (.slice q11 x1.Turns.length x12)]) rfl rfl rfl fun p8 w a H E=>al E H rfl rfl rfl rfl zr41 fun p13 w a H E=>nx<|pr 1 E rfl fun a E=>nx<|pr 3 E rfl fun a E=>nt<|wp_seq<|sq<|?_
 refine pr 1 E rfl fun a E=>nt<|wp_block<|wp_loop_g (fun k1 a w => ∃ (v14 : Value) (l15 : (List S_api_Turn)) (b16 : Bool) (x17 : Int) (rs18 : List Rp), Env 64 a [(1, .string s4), (2, .int .i64 x5), (3, pt p8 0), (6, pt p13 0), (7, v14), (8, .bool b16), (9, .int .i64 x17)] ∧ Sep w (Blk p8 41 [(.slice q9 x1.Nodes.length x10), (.slice q11 x1.Turns.length x12)] :: Blk p13 41 [.slice none 0 0, .slice none 0 0] :: Row 83 k_api_Turn v14 l15 :: Fo) rs18 ∧ (∀ r, r ∈ rs → r ∈ rs18) ∧ rSl k_api_Node (.slice q9 x1.Nodes.length x10) x1.Nodes ∈ rs18 ∧ rSl k_api_Turn (.slice q11 x1.Turns.length x12) x1.Turns ∈ rs18 ∧ m_cantonref07_turned_l1 x1 s4 x5 k1 l15 b16 x17 = some r) (((x1.Turns.length : Int) - 0 : Int).toNat + 1) ?_ ?_
 ·exact have H:=H.nilRow 83 k_api_Turn;have H:=H.front 0 rfl;have H:=H.front 1 rfl;have H:=H.front 2 rfl;⟨(.slice none 0 0), [], x5 == 0, 0, _, E.sel [1, 2, 3, 6, 7, 8, 9] rfl, H, fun r hr => hr, hr6, hr7, hm⟩
 ·clear E H hm
  rintro k1 a w ⟨v14, l15, b16, x17, rs18, E, H, hs19, hr20, hr21, hm⟩
  cases k1 with
  | zero => exact (none_some hm rfl).elim
  | succ k1 =>
   unfold m_cantonref07_turned_l1 at hm
   refine wp_seq<|sq<|pr 2 E rfl fun a E=>lb E H 0 rfl rfl rfl rfl rfl rfl rfl Tryz.underlying39 rfl fun a E=>sv E rfl rfl rfl (x_lenS E H rfl rfl hr21 Tryz.underlying39) fun a E=>pr 1 E rfl fun a E=>nt<|wif E hm rfl (fun hm=>?_) fun hm=>?_
   ·refine wp_skip<|q_then<|wp_seq_cut (fun a w => ∃ (v22 : Value) (l23 : (List S_api_Turn)) (b24 : Bool) (rs25 : List Rp), Env 64 a [(1, .string s4), (2, .int .i64 x5), (3, pt p8 0), (6, pt p13 0), (7, v22), (8, .bool b24), (9, .int .i64 x17)] ∧ Sep w (Blk p8 41 [(.slice q9 x1.Nodes.length x10), (.slice q11 x1.Turns.length x12)] :: Blk p13 41 [.slice none 0 0, .slice none 0 0] :: Row 83 k_api_Turn v22 l23 :: Fo) rs25 ∧ (∀ r, r ∈ rs → r ∈ rs25) ∧ rSl k_api_Node (.slice q9 x1.Nodes.length x10) x1.Nodes ∈ rs25 ∧ rSl k_api_Turn (.slice q11 x1.Turns.length x12) x1.Turns ∈ rs25 ∧ m_cantonref07_turned_j1 (m_cantonref07_turned_l1 x1 s4 x5 k1) x17 l23 b24 = some r) ?_ ?_
    ·refine wp_block<|wp_seq_cut (fun a w => ∃ (v29 : Value) (l30 : (List S_api_Turn)) (b31 : Bool) (rs32 : List Rp), Env 64 a [(1, .string s4), (2, .int .i64 x5), (3, pt p8 0), (6, pt p13 0), (7, v29), (8, .bool b31), (9, .int .i64 x17)] ∧ Sep w (Blk p8 41 [(.slice q9 x1.Nodes.length x10), (.slice q11 x1.Turns.length x12)] :: Blk p13 41 [.slice none 0 0, .slice none 0 0] :: Row 83 k_api_Turn v29 l30 :: Fo) rs32 ∧ (∀ r, r ∈ rs → r ∈ rs32) ∧ rSl k_api_Node (.slice q9 x1.Nodes.length x10) x1.Nodes ∈ rs32 ∧ rSl k_api_Turn (.slice q11 x1.Turns.length x12) x1.Turns ∈ rs32 ∧ m_cantonref07_turned_j2 (m_cantonref07_turned_l1 x1 s4 x5 k1) x17 x1 s4 l30 b31 = some r) ?_ ?_
     ·refine wp_seq_cut (fun a w => ∃ (b46 : Bool) (rs47 : List Rp), Env 64 a [(1, .string s4), (2, .int .i64 x5), (3, pt p8 0), (6, pt p13 0), (7, v14), (8, .bool b16), (9, .int .i64 x17), (30, .bool b46)] ∧ Sep w (Blk p8 41 [(.slice q9 x1.Nodes.length x10), (.slice q11 x1.Turns.length x12)] :: Blk p13 41 [.slice none 0 0, .slice none 0 0] :: Row 83 k_api_Turn v14 l15 :: Fo) rs47 ∧ (∀ r, r ∈ rs → r ∈ rs47) ∧ rSl k_api_Node (.slice q9 x1.Nodes.length x10) x1.Nodes ∈ rs47 ∧ rSl k_api_Turn (.slice q11 x1.Turns.length x12) x1.Turns ∈ rs47 ∧ m_cantonref07_turned_j3 (m_cantonref07_turned_l1 x1 s4 x5 k1) x17 x1 s4 l15 x5 b16 b46 = some r) ?_ ?_
      ·refine wp_region_lit<|pr 3 E rfl fun a E=>cs hm (fun hb55 hm=>?_) fun hb55 hm=>?_
       ·refine pk 1 E (kc 21 rfl hb55) rfl fun a E=>st_val E (ws' (d := 21) E rfl rfl rfl rfl hb55) rfl rfl (x_ldB (i := 0) E H rfl rfl rfl rfl Tryz.underlying39 rfl) fun a E=>pk 1 E (kc 21 rfl hb55) rfl fun a E=>bd hm fun x56 hx57 hm=>st_ixS E H (ws' (d := 21) E rfl rfl rfl rfl hb55) rfl rfl rfl rfl rfl hr21 Tryz.underlying39 sz83 hx57 fun q58 a H E=>have H:=H.derive1 m0 (rAt kS (q58.add 0) x56.Dir) (fun ok h => k_api_Turn_at0 h);pk 1 E (kc 21 rfl hb55) rfl fun a E=>st_val E (ws' (d := 21) E rfl rfl rfl rfl hb55) rfl rfl (x_ldA E H rfl rfl m0 Tryz.underlying9 rfl) fun a E=>pk 3 E (kc 21 rfl hb55) rfl fun a E=>?_
        exact nt<|⟨!(sLt x56.Dir s4), _, E.sel [1, 2, 3, 6, 7, 8, 9, 30] rfl, H, fun r hr => (t2 (hs19 r hr)), (t2 hr20), (t2 hr21), hm⟩
       ·exact pk 9 E (kc 21 rfl hb55) rfl fun a E=>nt<|⟨false, _, E.sel [1, 2, 3, 6, 7, 8, 9, 30] rfl, H, hs19, hr20, hr21, hm⟩
      ·clear E H hm
       rintro a w ⟨b46, rs47, E, H, hs48, hr49, hr50, hm⟩
       unfold m_cantonref07_turned_j3 at hm
       refine wif E hm rfl (fun hm=>?_) fun hm=>?_
       ·refine sq<|pr 3 E rfl fun a E=>sv E rfl rfl rfl (x_build E rfl (E.evs rfl) (v := .agg #[.string s4, .int .i64 x5]) (by kernel_rfl)) fun a E=>st_bsR (e := 83) (d := k_api_Turn) (cs := [.string s4, .int .i64 x5]) (xs := [(⟨s4, x5⟩ : S_api_Turn)]) E H (wn rfl) rfl rfl rfl (E.evs rfl) (by kernel_rfl) rfl (fun ok hr => (Rows.single (d := k_api_Turn) (cs := [.string s4, .int .i64 x5]) (x := (⟨s4, x5⟩ : S_api_Turn)) k_api_Turn_mk)) fun v51 w a H E=>bk hm fun hx54 hm=>st_append (i := 2) E H (wn rfl) rfl rfl rfl rfl rfl rfl (src_rd m0) Tryz.underlying39 inf83 rfl hx54 rfl fun v52 w a H E=>pr 1 E rfl fun a E=>nt<|wp_region_lit<|?_
        exact pr 1 E rfl fun a E=>nt<|⟨v52, l15 ++ ([(⟨s4, x5⟩ : S_api_Turn)] : List S_api_Turn), true, _, E.sel [1, 2, 3, 6, 7, 8, 9] rfl, H, fun r hr => (t1 (hs48 r hr)), (t1 hr49), (t1 hr50), hm⟩
       ·exact wp_skip<|q_then<|⟨v14, l15, b16, _, E.sel [1, 2, 3, 6, 7, 8, 9] rfl, H, hs48, hr49, hr50, hm⟩
     ·clear E H hm
      rintro a w ⟨v29, l30, b31, rs32, E, H, hs33, hr34, hr35, hm⟩
      unfold m_cantonref07_turned_j2 at hm
      refine sq<|pr 1 E rfl fun a E=>lb E H 0 rfl rfl rfl rfl rfl rfl rfl Tryz.underlying39 rfl fun a E=>pr 1 E rfl fun a E=>bd hm fun x36 hx37 hm=>st_ixS E H (wn rfl) rfl rfl rfl rfl rfl hr35 Tryz.underlying39 sz83 hx37 fun q38 a H E=>have H:=H.derive1 m0 (rAt kS (q38.add 0) x36.Dir) (fun ok h => k_api_Turn_at0 h);pr 1 E rfl fun a E=>sv E rfl rfl rfl (x_ldA E H rfl rfl m0 Tryz.underlying9 rfl) fun a E=>?_
      refine pr 2 E rfl fun a E=>nt<|wif E hm rfl (fun hm=>?_) fun hm=>?_
      ·refine wp_region_lit<|pr 2 E rfl fun a E=>lb E H 0 rfl rfl rfl rfl rfl rfl rfl Tryz.underlying39 rfl fun a E=>pr 1 E rfl fun a E=>bd hm fun x39 hx40 hm=>st_ixS E H (wn rfl) rfl rfl rfl rfl rfl (t2 hr35) Tryz.underlying39 sz83 hx40 fun q41 a H E=>ldf k_api_Turn_flat E H rfl rfl rfl rfl rfl m0 Tryz.underlying83 rfl sz83 fun a E=>st_bsR (e := 83) (d := k_api_Turn) (cs := [.string x39.Dir, .int .i64 x39.Next]) (xs := [x39]) E H (wn rfl) rfl rfl rfl (E.evs rfl) (by kernel_rfl) rfl (fun ok hr => (Rows.single (d := k_api_Turn) (cs := [.string x39.Dir, .int .i64 x39.Next]) (x := x39) k_api_Turn_mk)) fun v42 w a H E=>bk hm fun hx45 hm=>?_
       exact st_append (i := 2) E H (wn rfl) rfl rfl rfl rfl rfl rfl (src_rd m0) Tryz.underlying39 inf83 rfl hx45 rfl fun v43 w a H E=>pr 1 E rfl fun a E=>wpList_nil<|q_blk<|q_then<|⟨v43, l30 ++ ([x39] : List S_api_Turn), b31, _, E.sel [1, 2, 3, 6, 7, 8, 9] rfl, H, fun r hr => (t4 (hs33 r hr)), (t4 hr34), (t4 hr35), hm⟩
      ·exact wp_skip<|q_blk<|q_then<|⟨v29, l30, b31, _, E.sel [1, 2, 3, 6, 7, 8, 9] rfl, H, fun r hr => (t2 (hs33 r hr)), (t2 hr34), (t2 hr35), hm⟩
    ·clear E H hm
     rintro a w ⟨v22, l23, b24, rs25, E, H, hs26, hr27, hr28, hm⟩
     unfold m_cantonref07_turned_j1 at hm
     exact wp_region_lit<|pr 3 E rfl fun a E=>nt<|⟨k1, Nat.lt_succ_self k1, v22, l23, b24, IntKind.i64.wrap (x17 + 1), _, E.sel [1, 2, 3, 6, 7, 8, 9] rfl, H, hs26, hr27, hr28, hm⟩
   ·refine wp_exit<|q_thenX<|q_thenX<|q_hit<|q_then<|wp_seq_cut (fun a w => ∃ (v59 : Value) (l60 : (List S_api_Turn)) (rs61 : List Rp), Env 64 a [(3, pt p8 0), (6, pt p13 0), (7, v59)] ∧ Sep w (Blk p8 41 [(.slice q9 x1.Nodes.length x10), (.slice q11 x1.Turns.length x12)] :: Blk p13 41 [.slice none 0 0, .slice none 0 0] :: Row 83 k_api_Turn v59 l60 :: Fo) rs61 ∧ (∀ r, r ∈ rs → r ∈ rs61) ∧ rSl k_api_Node (.slice q9 x1.Nodes.length x10) x1.Nodes ∈ rs61 ∧ rSl k_api_Turn (.slice q11 x1.Turns.length x12) x1.Turns ∈ rs61 ∧ m_cantonref07_turned_j4 x1 l60 = some r) ?_ ?_
    ·refine sq<|pr 2 E rfl fun a E=>nt<|wif E hm rfl (fun hm=>?_) fun hm=>?_
     ·exact wp_region_lit<|pr 3 E rfl fun a E=>sv E rfl rfl rfl (x_build E rfl (E.evs rfl) (v := .agg #[.string s4, .int .i64 x5]) (by kernel_rfl)) fun a E=>st_bsR (e := 83) (d := k_api_Turn) (cs := [.string s4, .int .i64 x5]) (xs := [(⟨s4, x5⟩ : S_api_Turn)]) E H (wn rfl) rfl rfl rfl (E.evs rfl) (by kernel_rfl) rfl (fun ok hr => (Rows.single (d := k_api_Turn) (cs := [.string s4, .int .i64 x5]) (x := (⟨s4, x5⟩ : S_api_Turn)) k_api_Turn_mk)) fun v67 w a H E=>bk hm fun hx70 hm=>st_append (i := 2) E H (wn rfl) rfl rfl rfl rfl rfl rfl (src_rd m0) Tryz.underlying39 inf83 rfl hx70 rfl fun v68 w a H E=>pr 1 E rfl fun a E=>nt<|⟨v68, l15 ++ ([(⟨s4, x5⟩ : S_api_Turn)] : List S_api_Turn), _, E.sel [3, 6, 7] rfl, H, fun r hr => (t1 (hs19 r hr)), (t1 hr20), (t1 hr21), hm⟩
     ·exact wp_skip<|q_then<|⟨v14, l15, _, E.sel [3, 6, 7] rfl, H, hs19, hr20, hr21, hm⟩
    ·clear E H hm
     rintro a w ⟨v59, l60, rs61, E, H, hs62, hr63, hr64, hm⟩
     unfold m_cantonref07_turned_j4 at hm
     refine sq<|pr 2 E rfl fun a E=>?_
     obtain ⟨q65, x66, rfl⟩ := H.rowform (i := 2) rfl
     refine st_st (i := 0) E H (wn rfl) rfl (us := [(.slice q65 l60.length x66)]) rfl rfl rfl rfl rfl sz39 rfl rfl fun w H=>nx<|sv E rfl rfl rfl (x_ldBN (i := 0) (us := [(.slice q9 x1.Nodes.length x10), (.slice q65 l60.length x66)]) E H rfl rfl rfl rfl Tryz.underlying41 rfl sz41) fun a E=>st_st (i := 1) E H (wn rfl) rfl (us := [(.slice q9 x1.Nodes.length x10), (.slice q65 l60.length x66)]) rfl rfl rfl rfl rfl sz41 rfl rfl fun w H=>nt<|wp_ret<|outR1 E rfl (rvBN (i := 1) (us := [(.slice q9 x1.Nodes.length x10), (.slice q65 l60.length x66)]) H rfl rfl rfl Tryz.underlying41 rfl sz41)<|have H:=H.thaw (i := 2) rfl;have H:=H.drop 0;?_
     refine have H:=H.drop 0;?_
     cases hm
     exact ⟨(.slice q9 x1.Nodes.length x10), (.slice q65 l60.length x66), rfl, H.reads (sub_cons (t1 hr63) (sub_cons m0 (fun r hr => (t1 (hs62 r hr)))))⟩

def m_cantonref07_without_j1 (rec_1 : (List S_api_Node) → Int → Option S_api_Store) (x15 : Int) (l21 : (List S_api_Node)) : Option S_api_Store :=
  rec_1 l21 (IntKind.i64.wrap (x15 + 1))
def m_cantonref07_without_l1 (x1 : S_api_Store) (s4 : ByteArray) : Nat → (List S_api_Node) → Int → Option S_api_Store
  | 0, _, _ => none
  | k1 + 1, l14, x15 =>
    if (decide (x15 < (x1.Nodes.length : Int))) = true then ((idx x1.Nodes x15).bind fun x26 => if (!(sEq x26.Path s4)) = true then ((idx x1.Nodes x15).bind fun x29 => (ck (l14.length + ([x29] : List S_api_Node).length ≤ LIM)).bind fun u34 => m_cantonref07_without_j1 (m_cantonref07_without_l1 x1 s4 k1) x15 (l14 ++ ([x29] : List S_api_Node))) else (m_cantonref07_without_j1 (m_cantonref07_without_l1 x1 s4 k1) x15 l14)) else (some ((⟨l14, x1.Turns⟩ : S_api_Store)))
def m_cantonref07_without (x1 : S_api_Store) (s4 : ByteArray) : Option S_api_Store :=
  m_cantonref07_without_l1 x1 s4 (((x1.Nodes.length : Int) - 0 : Int).toNat + 1) [] 0
theorem c_cantonref07_without {w : World} {Fo : List Ob} {rs : List Rp} (x1 : S_api_Store) (v2 : Value) (v3 : Value) (s4 : ByteArray) (H : Sep w (Fo) rs) (hr5 : rSl k_api_Node v2 x1.Nodes ∈ rs) (hr6 : rSl k_api_Turn v3 x1.Turns ∈ rs) {r : S_api_Store} (hm : m_cantonref07_without x1 s4 = some r) :
    Calls Tryz.prog 92 [.agg #[v2, v3], .string s4].toArray w (Ret fun v w' => ∃ (v5002 : Value) (v5003 : Value), .agg #[v5002, v5003] = v ∧ Sep w' (Fo) (rSl k_api_Node v5002 r.Nodes :: rSl k_api_Turn v5003 r.Turns :: rs)) := by
 unfold m_cantonref07_without at hm
 refine enter Tryz.func92 rfl Tryz.ntmps92 rfl fun a E =>?_
 simp only [enum, Nat.reduceAdd] at E
 refine sq<|?_
 obtain ⟨q8, x9, rfl⟩ := H.slform hr5
 obtain ⟨q10, x11, rfl⟩ := H.slform hr6
 refine st_box E H (wn rfl) rfl rfl (cs := [(.slice q8 x1.Nodes.length x9), (.slice q10 x1.Turns.length x11)]) rfl rfl rfl fun p7 w a H E=>al E H rfl rfl rfl rfl zr41 fun p12 w a H E=>nx<|pr 1 E rfl fun a E=>nt<|wp_seq<|sq<|pr 1 E rfl fun a E=>nt<|?_
 refine wp_block<|wp_loop_g (fun k1 a w => ∃ (v13 : Value) (l14 : (List S_api_Node)) (x15 : Int) (rs16 : List Rp), Env 33 a [(1, .string s4), (2, pt p7 0), (4, pt p12 0), (5, v13), (6, .int .i64 x15)] ∧ Sep w (Blk p7 41 [(.slice q8 x1.Nodes.length x9), (.slice q10 x1.Turns.length x11)] :: Blk p12 41 [.slice none 0 0, .slice none 0 0] :: Row 80 k_api_Node v13 l14 :: Fo) rs16 ∧ (∀ r, r ∈ rs → r ∈ rs16) ∧ rSl k_api_Node (.slice q8 x1.Nodes.length x9) x1.Nodes ∈ rs16 ∧ rSl k_api_Turn (.slice q10 x1.Turns.length x11) x1.Turns ∈ rs16 ∧ m_cantonref07_without_l1 x1 s4 k1 l14 x15 = some r) (((x1.Nodes.length : Int) - 0 : Int).toNat + 1) ?_ ?_
 ·exact have H:=H.nilRow 80 k_api_Node;have H:=H.front 0 rfl;have H:=H.front 1 rfl;have H:=H.front 2 rfl;⟨(.slice none 0 0), [], 0, _, E.sel [1, 2, 4, 5, 6] rfl, H, fun r hr => hr, hr5, hr6, hm⟩
 ·clear E H hm
  rintro k1 a w ⟨v13, l14, x15, rs16, E, H, hs17, hr18, hr19, hm⟩
  cases k1 with
  | zero => exact (none_some hm rfl).elim
  | succ k1 =>
   unfold m_cantonref07_without_l1 at hm
   refine wp_seq<|sq<|pr 2 E rfl fun a E=>lb E H 0 rfl rfl rfl rfl rfl rfl rfl Tryz.underlying22 rfl fun a E=>sv E rfl rfl rfl (x_lenS E H rfl rfl hr18 Tryz.underlying22) fun a E=>pr 1 E rfl fun a E=>nt<|wif E hm rfl (fun hm=>?_) fun hm=>?_
   ·refine wp_skip<|q_then<|wp_seq_cut (fun a w => ∃ (v20 : Value) (l21 : (List S_api_Node)) (rs22 : List Rp), Env 33 a [(1, .string s4), (2, pt p7 0), (4, pt p12 0), (5, v20), (6, .int .i64 x15)] ∧ Sep w (Blk p7 41 [(.slice q8 x1.Nodes.length x9), (.slice q10 x1.Turns.length x11)] :: Blk p12 41 [.slice none 0 0, .slice none 0 0] :: Row 80 k_api_Node v20 l21 :: Fo) rs22 ∧ (∀ r, r ∈ rs → r ∈ rs22) ∧ rSl k_api_Node (.slice q8 x1.Nodes.length x9) x1.Nodes ∈ rs22 ∧ rSl k_api_Turn (.slice q10 x1.Turns.length x11) x1.Turns ∈ rs22 ∧ m_cantonref07_without_j1 (m_cantonref07_without_l1 x1 s4 k1) x15 l21 = some r) ?_ ?_
    ·refine wp_block<|sq<|pr 1 E rfl fun a E=>lb E H 0 rfl rfl rfl rfl rfl rfl rfl Tryz.underlying22 rfl fun a E=>pr 1 E rfl fun a E=>bd hm fun x26 hx27 hm=>st_ixS E H (wn rfl) rfl rfl rfl rfl rfl hr18 Tryz.underlying22 sz80 hx27 fun q28 a H E=>have H:=H.derive1 m0 (rAt kS (q28.add 0) x26.Path) (fun ok h => k_api_Node_at0 h);pr 1 E rfl fun a E=>?_
     refine sv E rfl rfl rfl (x_ldA E H rfl rfl m0 Tryz.underlying9 rfl) fun a E=>pr 2 E rfl fun a E=>nt<|wif E hm rfl (fun hm=>?_) fun hm=>?_
     ·refine wp_region_lit<|pr 2 E rfl fun a E=>lb E H 0 rfl rfl rfl rfl rfl rfl rfl Tryz.underlying22 rfl fun a E=>pr 1 E rfl fun a E=>bd hm fun x29 hx30 hm=>st_ixS E H (wn rfl) rfl rfl rfl rfl rfl (t2 hr18) Tryz.underlying22 sz80 hx30 fun q31 a H E=>ldf k_api_Node_flat E H rfl rfl rfl rfl rfl m0 Tryz.underlying80 rfl sz80 fun a E=>st_bsR (e := 80) (d := k_api_Node) (cs := [.string x29.Path, .string x29.Data, .int .i64 x29.Version, .int .i64 x29.Turn, .int .i64 x29.Owner]) (xs := [x29]) E H (wn rfl) rfl rfl rfl (E.evs rfl) (by kernel_rfl) rfl (fun ok hr => (Rows.single (d := k_api_Node) (cs := [.string x29.Path, .string x29.Data, .int .i64 x29.Version, .int .i64 x29.Turn, .int .i64 x29.Owner]) (x := x29) k_api_Node_mk)) fun v32 w a H E=>bk hm fun hx35 hm=>?_
      exact st_append (i := 2) E H (wn rfl) rfl rfl rfl rfl rfl rfl (src_rd m0) Tryz.underlying22 inf80 rfl hx35 rfl fun v33 w a H E=>pr 1 E rfl fun a E=>wpList_nil<|q_blk<|q_then<|⟨v33, l14 ++ ([x29] : List S_api_Node), _, E.sel [1, 2, 4, 5, 6] rfl, H, fun r hr => (t4 (hs17 r hr)), (t4 hr18), (t4 hr19), hm⟩
     ·exact wp_skip<|q_blk<|q_then<|⟨v13, l14, _, E.sel [1, 2, 4, 5, 6] rfl, H, fun r hr => (t2 (hs17 r hr)), (t2 hr18), (t2 hr19), hm⟩
    ·clear E H hm
     rintro a w ⟨v20, l21, rs22, E, H, hs23, hr24, hr25, hm⟩
     unfold m_cantonref07_without_j1 at hm
     exact wp_region_lit<|pr 3 E rfl fun a E=>nt<|⟨k1, Nat.lt_succ_self k1, v20, l21, IntKind.i64.wrap (x15 + 1), _, E.sel [1, 2, 4, 5, 6] rfl, H, hs23, hr24, hr25, hm⟩
   ·refine wp_exit<|q_thenX<|q_thenX<|q_hit<|q_then<|sq<|pr 2 E rfl fun a E=>?_
    obtain ⟨q36, x37, rfl⟩ := H.rowform (i := 2) rfl
    refine st_st (i := 0) E H (wn rfl) rfl (us := [(.slice q36 l14.length x37)]) rfl rfl rfl rfl rfl sz22 rfl rfl fun w H=>nx<|sv E rfl rfl rfl (x_ldBN (i := 0) (us := [(.slice q36 l14.length x37), (.slice q10 x1.Turns.length x11)]) E H rfl rfl rfl rfl Tryz.underlying41 rfl sz41) fun a E=>st_st (i := 1) E H (wn rfl) rfl (us := [(.slice q36 l14.length x37), (.slice q10 x1.Turns.length x11)]) rfl rfl rfl rfl rfl sz41 rfl rfl fun w H=>nt<|wp_ret<|outR1 E rfl (rvBN (i := 1) (us := [(.slice q36 l14.length x37), (.slice q10 x1.Turns.length x11)]) H rfl rfl rfl Tryz.underlying41 rfl sz41)<|have H:=H.thaw (i := 2) rfl;have H:=H.drop 0;?_
    refine have H:=H.drop 0;?_
    cases hm
    exact ⟨(.slice q36 l14.length x37), (.slice q10 x1.Turns.length x11), rfl, H.reads (sub_cons m0 (sub_cons (t1 hr19) (fun r hr => (t1 (hs17 r hr)))))⟩

def m_cantonref07_in_j1 (rec_1 : (List ByteArray) → Int → (List S_api_Node) → (List S_api_Turn) → Option (S_api_Store × S_api_Result)) (x28 : Int) (l38 : (List ByteArray)) (l40 : (List S_api_Node)) (l42 : (List S_api_Turn)) : Option (S_api_Store × S_api_Result) :=
  rec_1 l38 (IntKind.i64.wrap (x28 + 1)) l40 l42
def m_cantonref07_in_l1 (u15 : (List S_api_Node)) (x4 : S_api_Part) : Nat → (List ByteArray) → Int → (List S_api_Node) → (List S_api_Turn) → Option (S_api_Store × S_api_Result)
  | 0, _, _, _, _ => none
  | k1 + 1, l27, x28, l30, l32 =>
    if (decide (x28 < (u15.length : Int))) = true then (if (x4.Kind == 9) = true then ((idx u15 x28).bind fun x47 => (m_cantonref01_Last x47.Path).bind fun u52 => (ck (l27.length + ([u52] : List ByteArray).length ≤ LIM)).bind fun u56 => m_cantonref07_in_j1 (m_cantonref07_in_l1 u15 x4 k1) x28 (l27 ++ ([u52] : List ByteArray)) l30 l32) else ((idx u15 x28).bind fun x58 => if (x58.Owner == x4.Owner) = true then ((idx u15 x28).bind fun x63 => (m_cantonref01_Last x63.Path).bind fun u68 => (ck (l27.length + ([u68] : List ByteArray).length ≤ LIM)).bind fun u72 => (idx u15 x28).bind fun x74 => (m_cantonref07_without (⟨l30, l32⟩ : S_api_Store) x74.Path).bind fun u79 => m_cantonref07_in_j1 (m_cantonref07_in_l1 u15 x4 k1) x28 (l27 ++ ([u68] : List ByteArray)) u79.Nodes u79.Turns) else (m_cantonref07_in_j1 (m_cantonref07_in_l1 u15 x4 k1) x28 l27 l30 l32))) else (some ((⟨l30, l32⟩ : S_api_Store), (⟨0, (ByteArray.mk #[]), (ByteArray.mk #[]), 0, l27⟩ : S_api_Result)))
def m_cantonref07_in (x1 : S_api_Store) (x4 : S_api_Part) : Option (S_api_Store × S_api_Result) :=
  (m_cantonref06_Children x1.Nodes x4.Path).bind fun u15 => if (x4.Kind == 4) = true then (if (decide ((u15.length : Int) > 0)) = true then (some (x1, (⟨64, (ByteArray.mk #[]), (ByteArray.mk #[]), 0, []⟩ : S_api_Result))) else ((m_cantonref07_turned x1 x4.Path 0).bind fun u18 => some (u18, (⟨0, (ByteArray.mk #[]), (ByteArray.mk #[]), 0, []⟩ : S_api_Result)))) else (m_cantonref07_in_l1 u15 x4 (((u15.length : Int) - 0 : Int).toNat + 1) [] 0 x1.Nodes x1.Turns)
theorem c_cantonref07_in {w : World} {Fo : List Ob} {rs : List Rp} (x1 : S_api_Store) (v2 : Value) (v3 : Value) (x4 : S_api_Part) (H : Sep w (Fo) rs) (hr5 : rSl k_api_Node v2 x1.Nodes ∈ rs) (hr6 : rSl k_api_Turn v3 x1.Turns ∈ rs) {r : S_api_Store × S_api_Result} (hm : m_cantonref07_in x1 x4 = some r) :
    Calls Tryz.prog 91 [.agg #[v2, v3], .agg (l_api_Part x4).toArray].toArray w (Ret fun v w' => ∃ (v5002 : Value) (v5003 : Value) (v5005 : Value), .tuple #[.agg #[v5002, v5003], .agg (l_api_Result r.2 v5005).toArray] = v ∧ Sep w' (Fo) (rSl k_api_Node v5002 r.1.Nodes :: rSl k_api_Turn v5003 r.1.Turns :: rSl kS v5005 r.2.Names :: rs)) := by
 unfold m_cantonref07_in at hm
 refine enter Tryz.func91 rfl Tryz.ntmps91 rfl fun a E =>?_
 simp only [enum, Nat.reduceAdd] at E
 refine sq<|?_
 obtain ⟨q8, x9, rfl⟩ := H.slform hr5
 obtain ⟨q10, x11, rfl⟩ := H.slform hr6
 refine st_box E H (wn rfl) rfl rfl (cs := [(.slice q8 x1.Nodes.length x9), (.slice q10 x1.Turns.length x11)]) rfl rfl rfl fun p7 w a H E=>st_box E H (wn rfl) rfl rfl (cs := (l_api_Part x4)) rfl rfl rfl fun p12 w a H E=>al E H rfl rfl rfl rfl zr41 fun p13 w a H E=>al E H rfl rfl rfl rfl zr51 fun p14 w a H E=>nx<|pr 1 E rfl fun a E=>lb E H 3 rfl rfl rfl rfl rfl rfl rfl Tryz.underlying22 rfl fun a E=>pr 1 E rfl fun a E=>lb E H 2 rfl rfl rfl rfl rfl rfl rfl Tryz.underlying9 rfl fun a E=>?_
 refine bd hm fun u15 hx16 hm=>x_cl E rfl rfl rfl rfl rfl cf114 (c_cantonref06_Children (.slice q8 x1.Nodes.length x9) x1.Nodes x4.Path H hr5 hx16)<|?_
 rintro _ w ⟨v17, rfl, H⟩ a E
 refine pr 1 E rfl fun a E=>nx<|pr 1 E rfl fun a E=>nt<|wp_seq<|sq<|pr 1 E rfl fun a E=>lb E H 3 rfl rfl rfl rfl rfl rfl rfl Tryz.underlying3 rfl fun a E=>pr 1 E rfl fun a E=>?_
 refine nt<|wif E hm rfl (fun hm=>?_) fun hm=>?_
 ·refine wp_seq<|sq<|pr 1 E rfl fun a E=>sv E rfl rfl rfl (x_lenR (i := 0) E H rfl rfl rfl Tryz.underlying22) fun a E=>pr 1 E rfl fun a E=>nt<|wif E hm rfl (fun hm=>?_) fun hm=>?_
  ·refine sq<|sv E rfl rfl rfl (x_ldBN (i := 4) (us := [(.slice q8 x1.Nodes.length x9), (.slice q10 x1.Turns.length x11)]) E H rfl rfl rfl rfl Tryz.underlying41 rfl sz41) fun a E=>sv E rfl rfl rfl (x_build E rfl (E.evs rfl) (v := .agg #[.int .i64 64, .string (ByteArray.mk #[]), .string (ByteArray.mk #[]), .int .i64 0, .slice none 0 0]) (by kernel_rfl)) fun a E=>st_st (i := 2) E H (wn rfl) rfl (us := [(.slice q8 x1.Nodes.length x9), (.slice q10 x1.Turns.length x11)]) rfl rfl rfl rfl rfl sz41 rfl rfl fun w H=>st_st (i := 1) E H (wn rfl) rfl (us := [.int .i64 64, .string (ByteArray.mk #[]), .string (ByteArray.mk #[]), .int .i64 0, .slice none 0 0]) rfl rfl rfl rfl rfl sz51 rfl rfl fun w H=>nt<|wp_ret<|q_thenR<|q_thenR<|?_
   refine outR2 E rfl (rvBN (i := 2) (us := [(.slice q8 x1.Nodes.length x9), (.slice q10 x1.Turns.length x11)]) H rfl rfl rfl Tryz.underlying41 rfl sz41) (rvBN (i := 1) (us := [.int .i64 64, .string (ByteArray.mk #[]), .string (ByteArray.mk #[]), .int .i64 0, .slice none 0 0]) H rfl rfl rfl Tryz.underlying51 rfl sz51)<|have H:=H.nilSl kS;have H:=H.drop 0;have H:=H.drop 0;have H:=H.drop 0;have H:=H.drop 0;have H:=H.drop 0;?_
   cases hm
   exact ⟨(.slice q8 x1.Nodes.length x9), (.slice q10 x1.Turns.length x11), (.slice none 0 0), rfl, H.reads (sub_cons (t1 hr5) (sub_cons (t1 hr6) (sub_cons m0 (fun r hr => (t1 hr)))))⟩
  ·refine wp_skip<|q_then<|sq<|sv E rfl rfl rfl (x_ldBN (i := 4) (us := [(.slice q8 x1.Nodes.length x9), (.slice q10 x1.Turns.length x11)]) E H rfl rfl rfl rfl Tryz.underlying41 rfl sz41) fun a E=>pr 1 E rfl fun a E=>lb E H 3 rfl rfl rfl rfl rfl rfl rfl Tryz.underlying9 rfl fun a E=>bd hm fun u18 hx19 hm=>x_cl E rfl rfl rfl rfl rfl cf142 (c_cantonref07_turned x1 (.slice q8 x1.Nodes.length x9) (.slice q10 x1.Turns.length x11) x4.Path 0 H hr5 hr6 hx19)<|?_
   rintro _ w ⟨v20, v21, rfl, H⟩ a E
   refine sv E rfl rfl rfl (x_build E rfl (E.evs rfl) (v := .agg z_api_Result.toArray) (by kernel_rfl)) fun a E=>?_
   obtain ⟨q22, x23, rfl⟩ := H.slform m0
   obtain ⟨q24, x25, rfl⟩ := H.slform mm1
   refine st_st (i := 2) E H (wn rfl) rfl (us := [(.slice q22 u18.Nodes.length x23), (.slice q24 u18.Turns.length x25)]) rfl rfl rfl rfl rfl sz41 rfl rfl fun w H=>st_st (i := 1) E H (wn rfl) rfl (us := z_api_Result) rfl rfl rfl rfl rfl sz51 rfl rfl fun w H=>nt<|wp_ret<|q_thenR<|outR2 E rfl (rvBN (i := 2) (us := [(.slice q22 u18.Nodes.length x23), (.slice q24 u18.Turns.length x25)]) H rfl rfl rfl Tryz.underlying41 rfl sz41) (rvBN (i := 1) (us := z_api_Result) H rfl rfl rfl Tryz.underlying51 rfl sz51)<|have H:=H.nilSl kS;have H:=H.drop 0;have H:=H.drop 0;?_
   refine have H:=H.drop 0;have H:=H.drop 0;have H:=H.drop 0;?_
   cases hm
   exact ⟨(.slice q22 u18.Nodes.length x23), (.slice q24 u18.Turns.length x25), (.slice none 0 0), rfl, H.reads (sub_cons mm1 (sub_cons mm2 (sub_cons m0 (fun r hr => (t3 hr)))))⟩
 ·refine wp_skip<|q_then<|wp_seq<|sq<|pr 1 E rfl fun a E=>nt<|wp_block<|wp_loop_g (fun k1 a w => ∃ (v26 : Value) (v29 : Value) (v31 : Value) (l27 : (List ByteArray)) (x28 : Int) (l30 : (List S_api_Node)) (l32 : (List S_api_Turn)) (rs33 : List Rp), Env 72 a [(2, pt p7 0), (3, pt p12 0), (4, pt p13 0), (5, pt p14 0), (6, v17), (7, v26), (8, .int .i64 x28)] ∧ Sep w (Blk p7 41 [v29, v31] :: Blk p12 62 (l_api_Part x4) :: Blk p13 41 [.slice none 0 0, .slice none 0 0] :: Blk p14 51 z_api_Result :: Row 80 k_api_Node v17 u15 :: Row 9 kS v26 l27 :: Fo) rs33 ∧ (∀ r, r ∈ rs → r ∈ rs33) ∧ rSl k_api_Node v29 l30 ∈ rs33 ∧ rSl k_api_Turn v31 l32 ∈ rs33 ∧ m_cantonref07_in_l1 u15 x4 k1 l27 x28 l30 l32 = some r) (((u15.length : Int) - 0 : Int).toNat + 1) ?_ ?_
  ·exact have H:=H.nilRow 9 kS;have H:=H.front 0 rfl;have H:=H.front 1 rfl;have H:=H.front 2 rfl;have H:=H.front 3 rfl;have H:=H.front 4 rfl;have H:=H.front 5 rfl;⟨(.slice none 0 0), (.slice q8 x1.Nodes.length x9), (.slice q10 x1.Turns.length x11), [], 0, x1.Nodes, x1.Turns, _, E.sel [2, 3, 4, 5, 6, 7, 8] rfl, H, fun r hr => hr, hr5, hr6, hm⟩
  ·clear E H hm
   rintro k1 a w ⟨v26, v29, v31, l27, x28, l30, l32, rs33, E, H, hs34, hr35, hr36, hm⟩
   cases k1 with
   | zero => exact (none_some hm rfl).elim
   | succ k1 =>
    unfold m_cantonref07_in_l1 at hm
    refine wp_seq<|sq<|pr 2 E rfl fun a E=>sv E rfl rfl rfl (x_lenR (i := 4) E H rfl rfl rfl Tryz.underlying22) fun a E=>pr 1 E rfl fun a E=>nt<|wif E hm rfl (fun hm=>?_) fun hm=>?_
    ·refine wp_skip<|q_then<|wp_seq_cut (fun a w => ∃ (v37 : Value) (v39 : Value) (v41 : Value) (l38 : (List ByteArray)) (l40 : (List S_api_Node)) (l42 : (List S_api_Turn)) (rs43 : List Rp), Env 72 a [(2, pt p7 0), (3, pt p12 0), (4, pt p13 0), (5, pt p14 0), (6, v17), (7, v37), (8, .int .i64 x28)] ∧ Sep w (Blk p7 41 [v39, v41] :: Blk p12 62 (l_api_Part x4) :: Blk p13 41 [.slice none 0 0, .slice none 0 0] :: Blk p14 51 z_api_Result :: Row 80 k_api_Node v17 u15 :: Row 9 kS v37 l38 :: Fo) rs43 ∧ (∀ r, r ∈ rs → r ∈ rs43) ∧ rSl k_api_Node v39 l40 ∈ rs43 ∧ rSl k_api_Turn v41 l42 ∈ rs43 ∧ m_cantonref07_in_j1 (m_cantonref07_in_l1 u15 x4 k1) x28 l38 l40 l42 = some r) ?_ ?_
     ·refine wp_block<|sq<|pr 1 E rfl fun a E=>lb E H 1 rfl rfl rfl rfl rfl rfl rfl Tryz.underlying3 rfl fun a E=>pr 1 E rfl fun a E=>nt<|wif E hm rfl (fun hm=>?_) fun hm=>?_
      ·refine wp_region_lit<|pr 3 E rfl fun a E=>bd hm fun x47 hx48 hm=>?_
       obtain ⟨p49, x50, hx51⟩ := H.rowformNE (i := 4) rfl hx48
       refine sv E rfl rfl rfl (x_ixRowV (d := k_api_Node) E hx51 rfl rfl rfl rfl Tryz.underlying22 sz80 hx48) fun a E=>pr 1 E rfl fun a E=>sv E rfl rfl rfl (x_ldRowV (d := k_api_Node) (i := 4) (k := 0) E H k_api_Node_flat hx51 rfl rfl rfl hx48 rfl Tryz.underlying9 rfl) fun a E=>bd hm fun u52 hx53 hm=>x_cl E rfl rfl rfl rfl rfl cf116 (c_cantonref01_Last x47.Path H hx53)<|?_
       rintro _ w ⟨rfl, H⟩ a E
       exact st_bsR (e := 9) (d := kS) (cs := [.string u52]) (xs := [u52]) E H (wn rfl) rfl rfl rfl (E.evs rfl) (by kernel_rfl) rfl (fun ok hr => (Rows.single (d := kS) (cs := [.string u52]) (x := u52) rfl)) fun v54 w a H E=>bk hm fun hx57 hm=>st_append (i := 5) E H (wn rfl) rfl rfl rfl rfl rfl rfl (src_rd m0) Tryz.underlying49 inf9 rfl hx57 rfl fun v55 w a H E=>pr 1 E rfl fun a E=>wpList_nil<|q_blk<|q_then<|⟨v55, v29, v31, l27 ++ ([u52] : List ByteArray), l30, l32, _, E.sel [2, 3, 4, 5, 6, 7, 8] rfl, H, fun r hr => (t1 (hs34 r hr)), (t1 hr35), (t1 hr36), hm⟩
      ·refine wp_seq<|dw [(0, 0), (1, 0), (2, 0), (3, 0), (4, 0), (5, 0), (6, 0), (7, 0)] [1, 4] [] H (by kernel_rfl) (fun _ _ _ h => False.elim h.2) fun w W0 hI H=>fn 2 E rfl fun a E=>bd hm fun x58 hx59 hm=>?_
       obtain ⟨p60, x61, hx62⟩ := H.rowformNE (i := 4) rfl hx59
       refine fr_val E rfl (wn rfl) rfl rfl (fun w hW=>x_ixRowV (d := k_api_Node) E hx62 rfl rfl rfl rfl Tryz.underlying22 sz80 hx59) fun a E=>?_
       refine fn 1 E rfl fun a E=>fr_val E rfl (wn rfl) rfl rfl (fun w hW=>x_ldRowI (d := k_api_Node) (k := 4) E k_api_Node_flat hx62 hx59 mm1 rfl rfl rfl Tryz.underlying2 rfl hW) fun a E=>?_
       refine fn 1 E rfl fun a E=>fb E rfl (wn rfl) rfl rfl rfl rfl m0 rfl Tryz.underlying2 rfl fun a E=>fn 1 E rfl fun a E=>fr_nil<|?_
       clear hI
       refine q_then<|wif E hm rfl (fun hm=>?_) fun hm=>?_
       ·refine sq<|pr 3 E rfl fun a E=>bd hm fun x63 hx64 hm=>?_
        obtain ⟨p65, x66, hx67⟩ := H.rowformNE (i := 4) rfl hx64
        refine sv E rfl rfl rfl (x_ixRowV (d := k_api_Node) E hx67 rfl rfl rfl rfl Tryz.underlying22 sz80 hx64) fun a E=>pr 1 E rfl fun a E=>sv E rfl rfl rfl (x_ldRowV (d := k_api_Node) (i := 4) (k := 0) E H k_api_Node_flat hx67 rfl rfl rfl hx64 rfl Tryz.underlying9 rfl) fun a E=>bd hm fun u68 hx69 hm=>x_cl E rfl rfl rfl rfl rfl cf116 (c_cantonref01_Last x63.Path H hx69)<|?_
        rintro _ w ⟨rfl, H⟩ a E
        refine st_bsR (e := 9) (d := kS) (cs := [.string u68]) (xs := [u68]) E H (wn rfl) rfl rfl rfl (E.evs rfl) (by kernel_rfl) rfl (fun ok hr => (Rows.single (d := kS) (cs := [.string u68]) (x := u68) rfl)) fun v70 w a H E=>bk hm fun hx73 hm=>st_append (i := 5) E H (wn rfl) rfl rfl rfl rfl rfl rfl (src_rd m0) Tryz.underlying49 inf9 rfl hx73 rfl fun v71 w a H E=>pr 1 E rfl fun a E=>nt<|dw [(0, 0), (1, 0), (2, 0), (3, 0), (4, 0), (5, 0), (6, 1), (7, 2)] [0, 4] [] H (by kernel_rfl) (fun _ _ _ h => False.elim h.2) fun w W0 hI H=>fbn E [v29, v31] rfl (wn rfl) rfl rfl rfl rfl m0 rfl Tryz.underlying41 rfl sz41 fun a E=>fn 2 E rfl fun a E=>bd hm fun x74 hx75 hm=>?_
        obtain ⟨p76, x77, hx78⟩ := H.rowformNE (i := 4) rfl hx75
        refine fr_val E rfl (wn rfl) rfl rfl (fun w hW=>x_ixRowV (d := k_api_Node) E hx78 rfl rfl rfl rfl Tryz.underlying22 sz80 hx75) fun a E=>?_
        refine fn 1 E rfl fun a E=>fr_val E rfl (wn rfl) rfl rfl (fun w hW=>x_ldRowI (d := k_api_Node) (k := 0) E k_api_Node_flat hx78 hx75 mm1 rfl rfl rfl Tryz.underlying9 rfl hW) fun a E=>?_
        refine fr_op rfl<|bd hm fun u79 hx80 hm=>x_cl E rfl rfl rfl rfl rfl cf92 (c_cantonref07_without (⟨l30, l32⟩ : S_api_Store) v29 v31 x74.Path H (t1 hr35) (t1 hr36) hx80)<|?_
        rintro _ w ⟨v81, v82, rfl, H⟩ a E
        refine nt<|?_
        refine ⟨⟨_, _, H, (subO_cons m0 (subO_cons mm4 (subO_nil))), (sub_nil)⟩, ?_⟩
        refine fr_tail rfl<|?_
        obtain ⟨q83, x84, rfl⟩ := H.slform m0
        obtain ⟨q85, x86, rfl⟩ := H.slform mm1
        refine st_st (i := 0) E H (wn rfl) rfl (us := [(.slice q83 u79.Nodes.length x84), (.slice q85 u79.Turns.length x86)]) rfl rfl rfl rfl rfl sz41 rfl rfl fun w H=>nt<|fr_nil<|?_
        clear hI
        exact q_blk<|q_then<|⟨v71, (.slice q83 u79.Nodes.length x84), (.slice q85 u79.Turns.length x86), l27 ++ ([u68] : List ByteArray), u79.Nodes, u79.Turns, _, E.sel [2, 3, 4, 5, 6, 7, 8] rfl, H, fun r hr => (t3 (hs34 r hr)), m0, mm1, hm⟩
       ·exact wp_skip<|q_blk<|q_then<|⟨v26, v29, v31, l27, l30, l32, _, E.sel [2, 3, 4, 5, 6, 7, 8] rfl, H, hs34, hr35, hr36, hm⟩
     ·clear E H hm
      rintro a w ⟨v37, v39, v41, l38, l40, l42, rs43, E, H, hs44, hr45, hr46, hm⟩
      unfold m_cantonref07_in_j1 at hm
      exact wp_region_lit<|pr 3 E rfl fun a E=>nt<|⟨k1, Nat.lt_succ_self k1, v37, v39, v41, l38, IntKind.i64.wrap (x28 + 1), l40, l42, _, E.sel [2, 3, 4, 5, 6, 7, 8] rfl, H, hs44, hr45, hr46, hm⟩
    ·refine wp_exit<|q_thenX<|q_thenX<|q_hit<|q_then<|sq<|sv E rfl rfl rfl (x_ldBN (i := 0) (us := [v29, v31]) E H rfl rfl rfl rfl Tryz.underlying41 rfl sz41) fun a E=>pr 1 E rfl fun a E=>?_
     obtain ⟨q87, x88, rfl⟩ := H.rowform (i := 5) rfl
     refine sv E rfl rfl rfl (x_build E rfl (E.evs rfl) (v := .agg #[.int .i64 0, .string (ByteArray.mk #[]), .string (ByteArray.mk #[]), .int .i64 0, (.slice q87 l27.length x88)]) (by kernel_rfl)) fun a E=>?_
     obtain ⟨q89, x90, rfl⟩ := H.slform hr35
     obtain ⟨q91, x92, rfl⟩ := H.slform hr36
     refine st_st (i := 2) E H (wn rfl) rfl (us := [(.slice q89 l30.length x90), (.slice q91 l32.length x92)]) rfl rfl rfl rfl rfl sz41 rfl rfl fun w H=>st_st (i := 3) E H (wn rfl) rfl (us := [.int .i64 0, .string (ByteArray.mk #[]), .string (ByteArray.mk #[]), .int .i64 0, (.slice q87 l27.length x88)]) rfl rfl rfl rfl rfl sz51 rfl rfl fun w H=>nt<|wp_ret<|outR2 E rfl (rvBN (i := 2) (us := [(.slice q89 l30.length x90), (.slice q91 l32.length x92)]) H rfl rfl rfl Tryz.underlying41 rfl sz41) (rvBN (i := 3) (us := [.int .i64 0, .string (ByteArray.mk #[]), .string (ByteArray.mk #[]), .int .i64 0, (.slice q87 l27.length x88)]) H rfl rfl rfl Tryz.underlying51 rfl sz51)<|have H:=H.thaw (i := 5) rfl;have H:=H.drop 0;have H:=H.drop 0;have H:=H.drop 0;?_
     refine have H:=H.drop 0;have H:=H.drop 0;?_
     cases hm
     exact ⟨(.slice q89 l30.length x90), (.slice q91 l32.length x92), (.slice q87 l27.length x88), rfl, H.reads (sub_cons (t1 hr35) (sub_cons (t1 hr36) (sub_cons m0 (fun r hr => (t1 (hs34 r hr))))))⟩

def m_cantonref07_turn_l1 (x1 : S_api_Store) (s4 : ByteArray) : Nat → Int → Option Int
  | 0, _ => none
  | k1 + 1, x12 =>
    if (decide (x12 < (x1.Turns.length : Int))) = true then ((idx x1.Turns x12).bind fun x17 => if (sEq x17.Dir s4) = true then ((idx x1.Turns x12).bind fun x20 => some (x20.Next)) else (m_cantonref07_turn_l1 x1 s4 k1 (IntKind.i64.wrap (x12 + 1)))) else (some (0))
def m_cantonref07_turn (x1 : S_api_Store) (s4 : ByteArray) : Option Int :=
  m_cantonref07_turn_l1 x1 s4 (((x1.Turns.length : Int) - 0 : Int).toNat + 1) 0
theorem c_cantonref07_turn {w : World} {Fo : List Ob} {rs : List Rp} (x1 : S_api_Store) (v2 : Value) (v3 : Value) (s4 : ByteArray) (H : Sep w (Fo) rs) (hr5 : rSl k_api_Node v2 x1.Nodes ∈ rs) (hr6 : rSl k_api_Turn v3 x1.Turns ∈ rs) {r : Int} (hm : m_cantonref07_turn x1 s4 = some r) :
    Calls Tryz.prog 140 [.agg #[v2, v3], .string s4].toArray w (Ret fun v w' => .int .i64 r = v ∧ Sep w' (Fo) (rs)) := by
 unfold m_cantonref07_turn at hm
 refine enter Tryz.func140 rfl Tryz.ntmps140 rfl fun a E =>?_
 simp only [enum, Nat.reduceAdd] at E
 refine sq<|?_
 obtain ⟨q8, x9, rfl⟩ := H.slform hr5
 obtain ⟨q10, x11, rfl⟩ := H.slform hr6
 refine st_box E H (wn rfl) rfl rfl (cs := [(.slice q8 x1.Nodes.length x9), (.slice q10 x1.Turns.length x11)]) rfl rfl rfl fun p7 w a H E=>pr 1 E rfl fun a E=>nt<|wp_seq<|sq<|pr 1 E rfl fun a E=>nt<|wp_block<|wp_loop_g (fun k1 a w => ∃ (x12 : Int) (rs13 : List Rp), Env 27 a [(1, .string s4), (2, pt p7 0), (5, .int .i64 x12)] ∧ Sep w (Blk p7 41 [(.slice q8 x1.Nodes.length x9), (.slice q10 x1.Turns.length x11)] :: Fo) rs13 ∧ (∀ r, r ∈ rs → r ∈ rs13) ∧ rSl k_api_Node (.slice q8 x1.Nodes.length x9) x1.Nodes ∈ rs13 ∧ rSl k_api_Turn (.slice q10 x1.Turns.length x11) x1.Turns ∈ rs13 ∧ m_cantonref07_turn_l1 x1 s4 k1 x12 = some r) (((x1.Turns.length : Int) - 0 : Int).toNat + 1) ?_ ?_
 ·exact ⟨0, _, E.sel [1, 2, 5] rfl, H, fun r hr => hr, hr5, hr6, hm⟩
 ·clear E H hm
  rintro k1 a w ⟨x12, rs13, E, H, hs14, hr15, hr16, hm⟩
  cases k1 with
  | zero => exact (none_some hm rfl).elim
  | succ k1 =>
   unfold m_cantonref07_turn_l1 at hm
   refine wp_seq<|sq<|pr 2 E rfl fun a E=>lb E H 0 rfl rfl rfl rfl rfl rfl rfl Tryz.underlying39 rfl fun a E=>sv E rfl rfl rfl (x_lenS E H rfl rfl hr16 Tryz.underlying39) fun a E=>pr 1 E rfl fun a E=>nt<|wif E hm rfl (fun hm=>?_) fun hm=>?_
   ·refine wp_skip<|q_then<|wp_seq<|wp_block<|sq<|pr 1 E rfl fun a E=>lb E H 0 rfl rfl rfl rfl rfl rfl rfl Tryz.underlying39 rfl fun a E=>pr 1 E rfl fun a E=>bd hm fun x17 hx18 hm=>?_
    refine st_ixS E H (wn rfl) rfl rfl rfl rfl rfl hr16 Tryz.underlying39 sz83 hx18 fun q19 a H E=>have H:=H.derive1 m0 (rAt kS (q19.add 0) x17.Dir) (fun ok h => k_api_Turn_at0 h);pr 1 E rfl fun a E=>sv E rfl rfl rfl (x_ldA E H rfl rfl m0 Tryz.underlying9 rfl) fun a E=>pr 2 E rfl fun a E=>nt<|wif E hm rfl (fun hm=>?_) fun hm=>?_
    ·refine sq<|pr 1 E rfl fun a E=>lb E H 0 rfl rfl rfl rfl rfl rfl rfl Tryz.underlying39 rfl fun a E=>pr 1 E rfl fun a E=>bd hm fun x20 hx21 hm=>st_ixS E H (wn rfl) rfl rfl rfl rfl rfl (t2 hr16) Tryz.underlying39 sz83 hx21 fun q22 a H E=>have H:=H.derive1 m0 (rAt (kI .i64) (q22.add 1) x20.Next) (fun ok h => k_api_Turn_at1 h);pr 1 E rfl fun a E=>sv E rfl rfl rfl (x_ldA E H rfl rfl m0 Tryz.underlying2 rfl) fun a E=>?_
     refine pr 1 E rfl fun a E=>nt<|wp_ret<|q_blkR<|q_thenR<|q_thenR<|q_blkR<|q_thenR<|out1 E rfl rfl<|?_
     refine have H:=H.drop 0;?_
     cases hm
     exact ⟨rfl, H.reads (fun r hr => (t4 (hs14 r hr)))⟩
    ·exact wp_skip<|q_blk<|q_then<|wp_region_lit<|pr 3 E rfl fun a E=>nt<|⟨k1, Nat.lt_succ_self k1, IntKind.i64.wrap (x12 + 1), _, E.sel [1, 2, 5] rfl, H, fun r hr => (t2 (hs14 r hr)), (t2 hr15), (t2 hr16), hm⟩
   ·refine wp_exit<|q_thenX<|q_thenX<|q_hit<|q_then<|sq<|pr 1 E rfl fun a E=>nt<|wp_ret<|?_
    refine out1 E rfl rfl<|have H:=H.drop 0;?_
    cases hm
    exact ⟨rfl, H.reads (hs14)⟩

def m_cantonref07_put_j2 (u19 : ByteArray × Bool) (x4 : S_api_Part) (l30 : (List S_api_Node)) (l32 : (List S_api_Turn)) : Option (S_api_Store × S_api_Result) :=
  (m_cantonref06_Put l30 (⟨u19.1, x4.Data, 0, 0, x4.Owner⟩ : S_api_Node)).bind fun u37 => some ((⟨u37, l32⟩ : S_api_Store), (⟨0, u19.1, (ByteArray.mk #[]), 0, []⟩ : S_api_Result))
def m_cantonref07_put_j1 (u19 : ByteArray × Bool) (x4 : S_api_Part) (x1 : S_api_Store) (u15 : ByteArray × Bool) (u17 : Int) (b21 : Bool) : Option (S_api_Store × S_api_Result) :=
  if b21 = true then (some (x1, (⟨66, (ByteArray.mk #[]), (ByteArray.mk #[]), 0, []⟩ : S_api_Result))) else ((m_cantonref06_Find x1.Nodes u19.1).bind fun u26 => if u26.2 = true then (some (x1, (⟨61, (ByteArray.mk #[]), (ByteArray.mk #[]), 0, []⟩ : S_api_Result))) else (if x4.Turns = true then ((m_cantonref07_turned x1 u15.1 (IntKind.i64.wrap (u17 + 1))).bind fun u44 => m_cantonref07_put_j2 u19 x4 u44.Nodes u44.Turns) else (m_cantonref07_put_j2 u19 x4 x1.Nodes x1.Turns)))
def m_cantonref07_put (x1 : S_api_Store) (x4 : S_api_Part) : Option (S_api_Store × S_api_Result) :=
  (m_cantonref01_Parent x4.Path).bind fun u15 => (m_cantonref07_turn x1 u15.1).bind fun u17 => (m_cantonref06_Named (⟨0, x4.Path, (ByteArray.mk #[]), 0, 0, x4.Turns⟩ : S_api_Op) u17).bind fun u19 => if (!u15.2) = true then (m_cantonref07_put_j1 u19 x4 x1 u15 u17 true) else (m_cantonref07_put_j1 u19 x4 x1 u15 u17 (!u19.2))
theorem c_cantonref07_put {w : World} {Fo : List Ob} {rs : List Rp} (x1 : S_api_Store) (v2 : Value) (v3 : Value) (x4 : S_api_Part) (H : Sep w (Fo) rs) (hr5 : rSl k_api_Node v2 x1.Nodes ∈ rs) (hr6 : rSl k_api_Turn v3 x1.Turns ∈ rs) {r : S_api_Store × S_api_Result} (hm : m_cantonref07_put x1 x4 = some r) :
    Calls Tryz.prog 90 [.agg #[v2, v3], .agg (l_api_Part x4).toArray].toArray w (Ret fun v w' => ∃ (v5002 : Value) (v5003 : Value) (v5005 : Value), .tuple #[.agg #[v5002, v5003], .agg (l_api_Result r.2 v5005).toArray] = v ∧ Sep w' (Fo) (rSl k_api_Node v5002 r.1.Nodes :: rSl k_api_Turn v5003 r.1.Turns :: rSl kS v5005 r.2.Names :: rs)) := by
 unfold m_cantonref07_put at hm
 refine enter Tryz.func90 rfl Tryz.ntmps90 rfl fun a E =>?_
 simp only [enum, Nat.reduceAdd] at E
 refine sq<|?_
 obtain ⟨q8, x9, rfl⟩ := H.slform hr5
 obtain ⟨q10, x11, rfl⟩ := H.slform hr6
 refine st_box E H (wn rfl) rfl rfl (cs := [(.slice q8 x1.Nodes.length x9), (.slice q10 x1.Turns.length x11)]) rfl rfl rfl fun p7 w a H E=>st_box E H (wn rfl) rfl rfl (cs := (l_api_Part x4)) rfl rfl rfl fun p12 w a H E=>al E H rfl rfl rfl rfl zr41 fun p13 w a H E=>al E H rfl rfl rfl rfl zr51 fun p14 w a H E=>nx<|pr 1 E rfl fun a E=>lb E H 2 rfl rfl rfl rfl rfl rfl rfl Tryz.underlying9 rfl fun a E=>bd hm fun u15 hx16 hm=>x_cl E rfl rfl rfl rfl rfl cf69 (c_cantonref01_Parent x4.Path H hx16)<|?_
 rintro _ w ⟨rfl, H⟩ a E
 refine pr 5 E rfl fun a E=>nx<|sv E rfl rfl rfl (x_ldBN (i := 3) (us := [(.slice q8 x1.Nodes.length x9), (.slice q10 x1.Turns.length x11)]) E H rfl rfl rfl rfl Tryz.underlying41 rfl sz41) fun a E=>pr 1 E rfl fun a E=>bd hm fun u17 hx18 hm=>x_cl E rfl rfl rfl rfl rfl cf140 (c_cantonref07_turn x1 (.slice q8 x1.Nodes.length x9) (.slice q10 x1.Turns.length x11) u15.1 H hr5 hr6 hx18)<|?_
 rintro _ w ⟨rfl, H⟩ a E
 refine pr 1 E rfl fun a E=>nx<|pr 1 E rfl fun a E=>lb E H 2 rfl rfl rfl rfl rfl rfl rfl Tryz.underlying9 rfl fun a E=>pr 1 E rfl fun a E=>lb E H 2 rfl rfl rfl rfl rfl rfl rfl Tryz.underlying4 rfl fun a E=>sv E rfl rfl rfl (x_build E rfl (E.evs rfl) (v := .agg #[.int .i64 0, .string x4.Path, .string (ByteArray.mk #[]), .int .i64 0, .int .i64 0, .bool x4.Turns]) (by kernel_rfl)) fun a E=>pr 1 E rfl fun a E=>bd hm fun u19 hx20 hm=>?_
 refine x_cl E rfl rfl rfl rfl rfl cf141 (c_cantonref06_Named (⟨0, x4.Path, (ByteArray.mk #[]), 0, 0, x4.Turns⟩ : S_api_Op) u17 H hx20)<|?_
 rintro _ w ⟨rfl, H⟩ a E
 refine pr 5 E rfl fun a E=>nt<|wp_seq<|wp_seq_cut (fun a w => ∃ (b21 : Bool) (rs22 : List Rp), Env 70 a [(2, pt p7 0), (3, pt p12 0), (4, pt p13 0), (5, pt p14 0), (6, .string u15.1), (8, .int .i64 u17), (9, .string u19.1), (37, .bool b21)] ∧ Sep w (Blk p7 41 [(.slice q8 x1.Nodes.length x9), (.slice q10 x1.Turns.length x11)] :: Blk p12 62 (l_api_Part x4) :: Blk p13 41 [.slice none 0 0, .slice none 0 0] :: Blk p14 51 z_api_Result :: Fo) rs22 ∧ (∀ r, r ∈ rs → r ∈ rs22) ∧ rSl k_api_Node (.slice q8 x1.Nodes.length x9) x1.Nodes ∈ rs22 ∧ rSl k_api_Turn (.slice q10 x1.Turns.length x11) x1.Turns ∈ rs22 ∧ m_cantonref07_put_j1 u19 x4 x1 u15 u17 b21 = some r) ?_ ?_
 ·refine wp_region_lit<|pr 3 E rfl fun a E=>cs hm (fun hb52 hm=>?_) fun hb52 hm=>?_
  ·exact pk 3 E (kc 34 rfl hb52) rfl fun a E=>nt<|have H:=H.front 0 rfl;have H:=H.front 1 rfl;have H:=H.front 2 rfl;have H:=H.front 3 rfl;⟨true, _, E.sel [2, 3, 4, 5, 6, 8, 9, 37] rfl, H, fun r hr => hr, hr5, hr6, hm⟩
  ·exact pk 3 E (kc 34 rfl hb52) rfl fun a E=>nt<|have H:=H.front 0 rfl;have H:=H.front 1 rfl;have H:=H.front 2 rfl;have H:=H.front 3 rfl;⟨!u19.2, _, E.sel [2, 3, 4, 5, 6, 8, 9, 37] rfl, H, fun r hr => hr, hr5, hr6, hm⟩
 ·clear E H hm
  rintro a w ⟨b21, rs22, E, H, hs23, hr24, hr25, hm⟩
  unfold m_cantonref07_put_j1 at hm
  refine wif E hm rfl (fun hm=>?_) fun hm=>?_
  ·refine sq<|sv E rfl rfl rfl (x_ldBN (i := 0) (us := [(.slice q8 x1.Nodes.length x9), (.slice q10 x1.Turns.length x11)]) E H rfl rfl rfl rfl Tryz.underlying41 rfl sz41) fun a E=>sv E rfl rfl rfl (x_build E rfl (E.evs rfl) (v := .agg #[.int .i64 66, .string (ByteArray.mk #[]), .string (ByteArray.mk #[]), .int .i64 0, .slice none 0 0]) (by kernel_rfl)) fun a E=>st_st (i := 2) E H (wn rfl) rfl (us := [(.slice q8 x1.Nodes.length x9), (.slice q10 x1.Turns.length x11)]) rfl rfl rfl rfl rfl sz41 rfl rfl fun w H=>st_st (i := 3) E H (wn rfl) rfl (us := [.int .i64 66, .string (ByteArray.mk #[]), .string (ByteArray.mk #[]), .int .i64 0, .slice none 0 0]) rfl rfl rfl rfl rfl sz51 rfl rfl fun w H=>nt<|wp_ret<|q_thenR<|outR2 E rfl (rvBN (i := 2) (us := [(.slice q8 x1.Nodes.length x9), (.slice q10 x1.Turns.length x11)]) H rfl rfl rfl Tryz.underlying41 rfl sz41) (rvBN (i := 3) (us := [.int .i64 66, .string (ByteArray.mk #[]), .string (ByteArray.mk #[]), .int .i64 0, .slice none 0 0]) H rfl rfl rfl Tryz.underlying51 rfl sz51)<|?_
   refine have H:=H.nilSl kS;have H:=H.drop 0;have H:=H.drop 0;have H:=H.drop 0;have H:=H.drop 0;?_
   cases hm
   exact ⟨(.slice q8 x1.Nodes.length x9), (.slice q10 x1.Turns.length x11), (.slice none 0 0), rfl, H.reads (sub_cons (t1 hr24) (sub_cons (t1 hr25) (sub_cons m0 (fun r hr => (t1 (hs23 r hr))))))⟩
  ·refine wp_skip<|q_then<|sq<|pr 1 E rfl fun a E=>lb E H 0 rfl rfl rfl rfl rfl rfl rfl Tryz.underlying22 rfl fun a E=>pr 1 E rfl fun a E=>bd hm fun u26 hx27 hm=>x_cl E rfl rfl rfl rfl rfl cf70 (c_cantonref06_Find (.slice q8 x1.Nodes.length x9) x1.Nodes u19.1 H hr24 hx27)<|?_
   rintro _ w ⟨rfl, H⟩ a E
   refine pr 3 E rfl fun a E=>al E H rfl rfl rfl rfl zr80 fun p28 w a H E=>st_st (i := 0) E H (wn rfl) rfl (us := (l_api_Node u26.1)) rfl rfl rfl rfl rfl sz80 rfl rfl fun w H=>pr 1 E rfl fun a E=>nt<|wp_seq<|sq<|pr 1 E rfl fun a E=>nt<|wif E hm rfl (fun hm=>?_) fun hm=>?_
   ·refine sq<|sv E rfl rfl rfl (x_ldBN (i := 1) (us := [(.slice q8 x1.Nodes.length x9), (.slice q10 x1.Turns.length x11)]) E H rfl rfl rfl rfl Tryz.underlying41 rfl sz41) fun a E=>sv E rfl rfl rfl (x_build E rfl (E.evs rfl) (v := .agg #[.int .i64 61, .string (ByteArray.mk #[]), .string (ByteArray.mk #[]), .int .i64 0, .slice none 0 0]) (by kernel_rfl)) fun a E=>st_st (i := 3) E H (wn rfl) rfl (us := [(.slice q8 x1.Nodes.length x9), (.slice q10 x1.Turns.length x11)]) rfl rfl rfl rfl rfl sz41 rfl rfl fun w H=>st_st (i := 4) E H (wn rfl) rfl (us := [.int .i64 61, .string (ByteArray.mk #[]), .string (ByteArray.mk #[]), .int .i64 0, .slice none 0 0]) rfl rfl rfl rfl rfl sz51 rfl rfl fun w H=>nt<|wp_ret<|q_thenR<|outR2 E rfl (rvBN (i := 3) (us := [(.slice q8 x1.Nodes.length x9), (.slice q10 x1.Turns.length x11)]) H rfl rfl rfl Tryz.underlying41 rfl sz41) (rvBN (i := 4) (us := [.int .i64 61, .string (ByteArray.mk #[]), .string (ByteArray.mk #[]), .int .i64 0, .slice none 0 0]) H rfl rfl rfl Tryz.underlying51 rfl sz51)<|?_
    refine have H:=H.nilSl kS;have H:=H.drop 0;have H:=H.drop 0;have H:=H.drop 0;have H:=H.drop 0;have H:=H.drop 0;?_
    cases hm
    exact ⟨(.slice q8 x1.Nodes.length x9), (.slice q10 x1.Turns.length x11), (.slice none 0 0), rfl, H.reads (sub_cons (t1 hr24) (sub_cons (t1 hr25) (sub_cons m0 (fun r hr => (t1 (hs23 r hr))))))⟩
   ·refine wp_skip<|q_then<|wp_seq_cut (fun a w => ∃ (v29 : Value) (v31 : Value) (l30 : (List S_api_Node)) (l32 : (List S_api_Turn)) (rs33 : List Rp), Env 70 a [(2, pt p7 0), (3, pt p12 0), (4, pt p13 0), (5, pt p14 0), (9, .string u19.1)] ∧ Sep w (Blk p7 41 [v29, v31] :: Blk p12 62 (l_api_Part x4) :: Blk p13 41 [.slice none 0 0, .slice none 0 0] :: Blk p14 51 z_api_Result :: Fo) rs33 ∧ (∀ r, r ∈ rs → r ∈ rs33) ∧ rSl k_api_Node v29 l30 ∈ rs33 ∧ rSl k_api_Turn v31 l32 ∈ rs33 ∧ m_cantonref07_put_j2 u19 x4 l30 l32 = some r) ?_ ?_
    ·refine sq<|pr 1 E rfl fun a E=>lb E H 2 rfl rfl rfl rfl rfl rfl rfl Tryz.underlying4 rfl fun a E=>nt<|wif E hm rfl (fun hm=>?_) fun hm=>?_
     ·refine wp_region_lit<|sv E rfl rfl rfl (x_ldBN (i := 1) (us := [(.slice q8 x1.Nodes.length x9), (.slice q10 x1.Turns.length x11)]) E H rfl rfl rfl rfl Tryz.underlying41 rfl sz41) fun a E=>pr 3 E rfl fun a E=>bd hm fun u44 hx45 hm=>x_cl E rfl rfl rfl rfl rfl cf142 (c_cantonref07_turned x1 (.slice q8 x1.Nodes.length x9) (.slice q10 x1.Turns.length x11) u15.1 (IntKind.i64.wrap (u17 + 1)) H hr24 hr25 hx45)<|?_
      rintro _ w ⟨v46, v47, rfl, H⟩ a E
      obtain ⟨q48, x49, rfl⟩ := H.slform m0
      obtain ⟨q50, x51, rfl⟩ := H.slform mm1
      exact st_st (i := 1) E H (wn rfl) rfl (us := [(.slice q48 u44.Nodes.length x49), (.slice q50 u44.Turns.length x51)]) rfl rfl rfl rfl rfl sz41 rfl rfl fun w H=>nt<|have H:=H.drop 0;⟨(.slice q48 u44.Nodes.length x49), (.slice q50 u44.Turns.length x51), u44.Nodes, u44.Turns, _, E.sel [2, 3, 4, 5, 9] rfl, H, fun r hr => (t2 (hs23 r hr)), m0, mm1, hm⟩
     ·exact wp_skip<|q_then<|have H:=H.drop 0;⟨(.slice q8 x1.Nodes.length x9), (.slice q10 x1.Turns.length x11), x1.Nodes, x1.Turns, _, E.sel [2, 3, 4, 5, 9] rfl, H, hs23, hr24, hr25, hm⟩
    ·clear E H hm
     rintro a w ⟨v29, v31, l30, l32, rs33, E, H, hs34, hr35, hr36, hm⟩
     unfold m_cantonref07_put_j2 at hm
     refine sq<|pr 1 E rfl fun a E=>lb E H 0 rfl rfl rfl rfl rfl rfl rfl Tryz.underlying22 rfl fun a E=>pr 2 E rfl fun a E=>lb E H 1 rfl rfl rfl rfl rfl rfl rfl Tryz.underlying9 rfl fun a E=>pr 1 E rfl fun a E=>lb E H 1 rfl rfl rfl rfl rfl rfl rfl Tryz.underlying2 rfl fun a E=>sv E rfl rfl rfl (x_build E rfl (E.evs rfl) (v := .agg #[.string u19.1, .string x4.Data, .int .i64 0, .int .i64 0, .int .i64 x4.Owner]) (by kernel_rfl)) fun a E=>bd hm fun u37 hx38 hm=>?_
     refine x_cl E rfl rfl rfl rfl rfl cf93 (c_cantonref06_Put v29 l30 (⟨u19.1, x4.Data, 0, 0, x4.Owner⟩ : S_api_Node) H hr35 hx38)<|?_
     rintro _ w ⟨v39, rfl, H⟩ a E
     refine pr 1 E rfl fun a E=>?_
     obtain ⟨q40, x41, rfl⟩ := H.rowform (i := 0) rfl
     refine st_st (i := 1) E H (wn rfl) rfl (us := [(.slice q40 u37.length x41)]) rfl rfl rfl rfl rfl sz22 rfl rfl fun w H=>nx<|sv E rfl rfl rfl (x_ldBN (i := 1) (us := [(.slice q40 u37.length x41), v31]) E H rfl rfl rfl rfl Tryz.underlying41 rfl sz41) fun a E=>pr 1 E rfl fun a E=>sv E rfl rfl rfl (x_build E rfl (E.evs rfl) (v := .agg #[.int .i64 0, .string u19.1, .string (ByteArray.mk #[]), .int .i64 0, .slice none 0 0]) (by kernel_rfl)) fun a E=>?_
     obtain ⟨q42, x43, rfl⟩ := H.slform hr36
     refine st_st (i := 3) E H (wn rfl) rfl (us := [(.slice q40 u37.length x41), (.slice q42 l32.length x43)]) rfl rfl rfl rfl rfl sz41 rfl rfl fun w H=>st_st (i := 4) E H (wn rfl) rfl (us := [.int .i64 0, .string u19.1, .string (ByteArray.mk #[]), .int .i64 0, .slice none 0 0]) rfl rfl rfl rfl rfl sz51 rfl rfl fun w H=>nt<|wp_ret<|outR2 E rfl (rvBN (i := 3) (us := [(.slice q40 u37.length x41), (.slice q42 l32.length x43)]) H rfl rfl rfl Tryz.underlying41 rfl sz41) (rvBN (i := 4) (us := [.int .i64 0, .string u19.1, .string (ByteArray.mk #[]), .int .i64 0, .slice none 0 0]) H rfl rfl rfl Tryz.underlying51 rfl sz51)<|have H:=H.thaw (i := 0) rfl;have H:=H.nilSl kS;have H:=H.drop 0;have H:=H.drop 0;?_
     refine have H:=H.drop 0;have H:=H.drop 0;?_
     cases hm
     exact ⟨(.slice q40 u37.length x41), (.slice q42 l32.length x43), (.slice none 0 0), rfl, H.reads (sub_cons mm1 (sub_cons (t2 hr36) (sub_cons m0 (fun r hr => (t2 (hs34 r hr))))))⟩

def m_cantonref07_Do_j5 (x1 : S_api_Store) : Option (S_api_Store × S_api_Result) :=
  some (x1, (⟨0, (ByteArray.mk #[]), (ByteArray.mk #[]), 0, []⟩ : S_api_Result))
def m_cantonref07_Do_j4 (x1 : S_api_Store) (x4 : S_api_Part) (u47 : S_api_Node × Bool) (b55 : Bool) : Option (S_api_Store × S_api_Result) :=
  if b55 = true then (some (x1, (⟨63, (ByteArray.mk #[]), (ByteArray.mk #[]), 0, []⟩ : S_api_Result))) else (if (x4.Kind == 1) = true then (if (u47.1.Owner != 0) = true then (some (x1, (⟨65, (ByteArray.mk #[]), (ByteArray.mk #[]), 0, []⟩ : S_api_Result))) else (m_cantonref07_Do_j5 x1)) else (if (x4.Kind == 3) = true then ((m_cantonref07_without x1 x4.Path).bind fun u64 => some (u64, (⟨0, (ByteArray.mk #[]), (ByteArray.mk #[]), 0, []⟩ : S_api_Result))) else (if (x4.Kind == 5) = true then (if (decide (u47.1.Version ≥ 281474976710656)) = true then (some (x1, (⟨2, (ByteArray.mk #[]), (ByteArray.mk #[]), 0, []⟩ : S_api_Result))) else ((m_cantonref06_Put x1.Nodes (⟨u47.1.Path, x4.Data, IntKind.i64.wrap (u47.1.Version + 1), u47.1.Turn, u47.1.Owner⟩ : S_api_Node)).bind fun u72 => some ((⟨u72, x1.Turns⟩ : S_api_Store), (⟨0, (ByteArray.mk #[]), (ByteArray.mk #[]), IntKind.i64.wrap (u47.1.Version + 1), []⟩ : S_api_Result)))) else (if (x4.Kind == 6) = true then (some (x1, (⟨0, (ByteArray.mk #[]), (ByteArray.mk #[]), u47.1.Version, []⟩ : S_api_Result))) else (if (x4.Kind == 7) = true then (some (x1, (⟨0, (ByteArray.mk #[]), u47.1.Data, u47.1.Version, []⟩ : S_api_Result))) else (m_cantonref07_Do_j5 x1))))))
def m_cantonref07_Do_j3 (x1 : S_api_Store) (x4 : S_api_Part) (u47 : S_api_Node × Bool) (b50 : Bool) : Option (S_api_Store × S_api_Result) :=
  if b50 = true then (if (decide (x4.Version ≥ 0)) = true then (m_cantonref07_Do_j4 x1 x4 u47 (x4.Version != u47.1.Version)) else (m_cantonref07_Do_j4 x1 x4 u47 false)) else (m_cantonref07_Do_j4 x1 x4 u47 false)
def m_cantonref07_Do_j2 (x1 : S_api_Store) (x4 : S_api_Part) (b31 : Bool) : Option (S_api_Store × S_api_Result) :=
  if b31 = true then ((m_cantonref07_in x1 x4).bind fun u36 => some (u36.1, u36.2)) else ((m_cantonref06_Find x1.Nodes x4.Path).bind fun u47 => if (!u47.2) = true then (some (x1, (⟨62, (ByteArray.mk #[]), (ByteArray.mk #[]), 0, []⟩ : S_api_Result))) else (if (x4.Kind == 3) = true then (m_cantonref07_Do_j3 x1 x4 u47 true) else (if (x4.Kind == 5) = true then (m_cantonref07_Do_j3 x1 x4 u47 true) else (m_cantonref07_Do_j3 x1 x4 u47 (x4.Kind == 6)))))
def m_cantonref07_Do_j1 (x1 : S_api_Store) (x4 : S_api_Part) (b15 : Bool) : Option (S_api_Store × S_api_Result) :=
  if b15 = true then (some ((⟨[], []⟩ : S_api_Store), (⟨1, (ByteArray.mk #[]), (ByteArray.mk #[]), 0, []⟩ : S_api_Result))) else (if (x4.Kind == 2) = true then ((m_cantonref07_put x1 x4).bind fun u20 => some (u20.1, u20.2)) else (if (x4.Kind == 4) = true then (m_cantonref07_Do_j2 x1 x4 true) else (if (x4.Kind == 9) = true then (m_cantonref07_Do_j2 x1 x4 true) else (m_cantonref07_Do_j2 x1 x4 (x4.Kind == 10)))))
def m_cantonref07_Do (x1 : S_api_Store) (x4 : S_api_Part) : Option (S_api_Store × S_api_Result) :=
  (m_cantonref07_Right x1).bind fun u83 => if (!u83) = true then (m_cantonref07_Do_j1 x1 x4 true) else ((m_cantonref07_May x4).bind fun u86 => m_cantonref07_Do_j1 x1 x4 (!u86))
theorem c_cantonref07_Do {w : World} {Fo : List Ob} {rs : List Rp} (x1 : S_api_Store) (v2 : Value) (v3 : Value) (x4 : S_api_Part) (H : Sep w (Fo) rs) (hr5 : rSl k_api_Node v2 x1.Nodes ∈ rs) (hr6 : rSl k_api_Turn v3 x1.Turns ∈ rs) {r : S_api_Store × S_api_Result} (hm : m_cantonref07_Do x1 x4 = some r) :
    Calls Tryz.prog 43 [.agg #[v2, v3], .agg (l_api_Part x4).toArray].toArray w (Ret fun v w' => ∃ (v5002 : Value) (v5003 : Value) (v5005 : Value), .tuple #[.agg #[v5002, v5003], .agg (l_api_Result r.2 v5005).toArray] = v ∧ Sep w' (Fo) (rSl k_api_Node v5002 r.1.Nodes :: rSl k_api_Turn v5003 r.1.Turns :: rSl kS v5005 r.2.Names :: rs)) := by
 unfold m_cantonref07_Do at hm
 refine enter Tryz.func43 rfl Tryz.ntmps43 rfl fun a E =>?_
 simp only [enum, Nat.reduceAdd] at E
 refine sq<|?_
 obtain ⟨q8, x9, rfl⟩ := H.slform hr5
 obtain ⟨q10, x11, rfl⟩ := H.slform hr6
 refine st_box E H (wn rfl) rfl rfl (cs := [(.slice q8 x1.Nodes.length x9), (.slice q10 x1.Turns.length x11)]) rfl rfl rfl fun p7 w a H E=>st_box E H (wn rfl) rfl rfl (cs := (l_api_Part x4)) rfl rfl rfl fun p12 w a H E=>al E H rfl rfl rfl rfl zr41 fun p13 w a H E=>al E H rfl rfl rfl rfl zr51 fun p14 w a H E=>nt<|wp_seq<|wp_seq_cut (fun a w => ∃ (b15 : Bool) (rs16 : List Rp), Env 140 a [(2, pt p7 0), (3, pt p12 0), (4, pt p13 0), (5, pt p14 0), (16, .bool b15)] ∧ Sep w (Blk p7 41 [(.slice q8 x1.Nodes.length x9), (.slice q10 x1.Turns.length x11)] :: Blk p12 62 (l_api_Part x4) :: Blk p13 41 [.slice none 0 0, .slice none 0 0] :: Blk p14 51 z_api_Result :: Fo) rs16 ∧ (∀ r, r ∈ rs → r ∈ rs16) ∧ rSl k_api_Node (.slice q8 x1.Nodes.length x9) x1.Nodes ∈ rs16 ∧ rSl k_api_Turn (.slice q10 x1.Turns.length x11) x1.Turns ∈ rs16 ∧ m_cantonref07_Do_j1 x1 x4 b15 = some r) ?_ ?_
 ·refine wp_region_lit<|sv E rfl rfl rfl (x_ldBN (i := 3) (us := [(.slice q8 x1.Nodes.length x9), (.slice q10 x1.Turns.length x11)]) E H rfl rfl rfl rfl Tryz.underlying41 rfl sz41) fun a E=>bd hm fun u83 hx84 hm=>x_cl E rfl rfl rfl rfl rfl cf45 (c_cantonref07_Right x1 (.slice q8 x1.Nodes.length x9) (.slice q10 x1.Turns.length x11) H hr5 hr6 hx84)<|?_
  rintro _ w ⟨rfl, H⟩ a E
  refine pr 2 E rfl fun a E=>cs hm (fun hb85 hm=>?_) fun hb85 hm=>?_
  ·exact pk 4 E (kc 12 rfl hb85) rfl fun a E=>nt<|have H:=H.front 0 rfl;have H:=H.front 1 rfl;have H:=H.front 2 rfl;have H:=H.front 3 rfl;⟨true, _, E.sel [2, 3, 4, 5, 16] rfl, H, fun r hr => hr, hr5, hr6, hm⟩
  ·refine st_val E (ws' (d := 12) E rfl rfl rfl rfl hb85) rfl rfl (x_ldBN (i := 2) (us := (l_api_Part x4)) E H rfl rfl rfl rfl Tryz.underlying62 rfl sz62) fun a E=>bd hm fun u86 hx87 hm=>st_call E (ws' (d := 12) E rfl rfl rfl rfl hb85) rfl rfl (x_call E rfl rfl (cf46 _)) (c_cantonref07_May x4 H hx87)<|?_
   rintro _ w ⟨rfl, H⟩ a E
   exact pk 2 E (kc 12 rfl hb85) rfl fun a E=>nt<|have H:=H.front 0 rfl;have H:=H.front 1 rfl;have H:=H.front 2 rfl;have H:=H.front 3 rfl;⟨!u86, _, E.sel [2, 3, 4, 5, 16] rfl, H, fun r hr => hr, hr5, hr6, hm⟩
 ·clear E H hm
  rintro a w ⟨b15, rs16, E, H, hs17, hr18, hr19, hm⟩
  unfold m_cantonref07_Do_j1 at hm
  refine wif E hm rfl (fun hm=>?_) fun hm=>?_
  ·refine sq<|sv E rfl rfl rfl (x_build E rfl (E.evs rfl) (v := .agg #[.slice none 0 0, .slice none 0 0]) (by kernel_rfl)) fun a E=>sv E rfl rfl rfl (x_build E rfl (E.evs rfl) (v := .agg #[.int .i64 1, .string (ByteArray.mk #[]), .string (ByteArray.mk #[]), .int .i64 0, .slice none 0 0]) (by kernel_rfl)) fun a E=>st_st (i := 2) E H (wn rfl) rfl (us := [.slice none 0 0, .slice none 0 0]) rfl rfl rfl rfl rfl sz41 rfl rfl fun w H=>st_st (i := 3) E H (wn rfl) rfl (us := [.int .i64 1, .string (ByteArray.mk #[]), .string (ByteArray.mk #[]), .int .i64 0, .slice none 0 0]) rfl rfl rfl rfl rfl sz51 rfl rfl fun w H=>nt<|wp_ret<|q_thenR<|outR2 E rfl (rvBN (i := 2) (us := [.slice none 0 0, .slice none 0 0]) H rfl rfl rfl Tryz.underlying41 rfl sz41) (rvBN (i := 3) (us := [.int .i64 1, .string (ByteArray.mk #[]), .string (ByteArray.mk #[]), .int .i64 0, .slice none 0 0]) H rfl rfl rfl Tryz.underlying51 rfl sz51)<|?_
   refine have H:=H.nilSl k_api_Node;have H:=H.nilSl k_api_Turn;have H:=H.nilSl kS;have H:=H.drop 0;have H:=H.drop 0;have H:=H.drop 0;have H:=H.drop 0;?_
   cases hm
   exact ⟨(.slice none 0 0), (.slice none 0 0), (.slice none 0 0), rfl, H.reads (sub_cons mm2 (sub_cons mm1 (sub_cons m0 (fun r hr => (t3 (hs17 r hr))))))⟩
  ·refine wp_skip<|q_then<|wp_seq<|sq<|pr 1 E rfl fun a E=>lb E H 1 rfl rfl rfl rfl rfl rfl rfl Tryz.underlying3 rfl fun a E=>pr 1 E rfl fun a E=>nt<|wif E hm rfl (fun hm=>?_) fun hm=>?_
   ·refine sq<|sv E rfl rfl rfl (x_ldBN (i := 0) (us := [(.slice q8 x1.Nodes.length x9), (.slice q10 x1.Turns.length x11)]) E H rfl rfl rfl rfl Tryz.underlying41 rfl sz41) fun a E=>sv E rfl rfl rfl (x_ldBN (i := 1) (us := (l_api_Part x4)) E H rfl rfl rfl rfl Tryz.underlying62 rfl sz62) fun a E=>bd hm fun u20 hx21 hm=>x_cl E rfl rfl rfl rfl rfl cf90 (c_cantonref07_put x1 (.slice q8 x1.Nodes.length x9) (.slice q10 x1.Turns.length x11) x4 H hr18 hr19 hx21)<|?_
    rintro _ w ⟨v22, v23, v24, rfl, H⟩ a E
    refine pr 2 E rfl fun a E=>?_
    obtain ⟨q25, x26, rfl⟩ := H.slform m0
    obtain ⟨q27, x28, rfl⟩ := H.slform mm1
    refine st_st (i := 2) E H (wn rfl) rfl (us := [(.slice q25 u20.1.Nodes.length x26), (.slice q27 u20.1.Turns.length x28)]) rfl rfl rfl rfl rfl sz41 rfl rfl fun w H=>?_
    obtain ⟨q29, x30, rfl⟩ := H.slform mm2
    refine st_st (i := 3) E H (wn rfl) rfl (us := (l_api_Result u20.2 (.slice q29 u20.2.Names.length x30))) rfl rfl rfl rfl rfl sz51 rfl rfl fun w H=>nt<|wp_ret<|q_thenR<|outR2 E rfl (rvBN (i := 2) (us := [(.slice q25 u20.1.Nodes.length x26), (.slice q27 u20.1.Turns.length x28)]) H rfl rfl rfl Tryz.underlying41 rfl sz41) (rvBN (i := 3) (us := (l_api_Result u20.2 (.slice q29 u20.2.Names.length x30))) H rfl rfl rfl Tryz.underlying51 rfl sz51)<|have H:=H.drop 0;have H:=H.drop 0;have H:=H.drop 0;have H:=H.drop 0;?_
    cases hm
    exact ⟨(.slice q25 u20.1.Nodes.length x26), (.slice q27 u20.1.Turns.length x28), (.slice q29 u20.2.Names.length x30), rfl, H.reads (sub_cons m0 (sub_cons mm1 (sub_cons mm2 (fun r hr => (t3 (hs17 r hr))))))⟩
   ·refine wp_skip<|q_then<|wp_seq<|wp_seq_cut (fun a w => ∃ (b31 : Bool) (rs32 : List Rp), Env 140 a [(2, pt p7 0), (3, pt p12 0), (4, pt p13 0), (5, pt p14 0), (39, .bool b31)] ∧ Sep w (Blk p7 41 [(.slice q8 x1.Nodes.length x9), (.slice q10 x1.Turns.length x11)] :: Blk p12 62 (l_api_Part x4) :: Blk p13 41 [.slice none 0 0, .slice none 0 0] :: Blk p14 51 z_api_Result :: Fo) rs32 ∧ (∀ r, r ∈ rs → r ∈ rs32) ∧ rSl k_api_Node (.slice q8 x1.Nodes.length x9) x1.Nodes ∈ rs32 ∧ rSl k_api_Turn (.slice q10 x1.Turns.length x11) x1.Turns ∈ rs32 ∧ m_cantonref07_Do_j2 x1 x4 b31 = some r) ?_ ?_
    ·refine wp_region_lit<|pr 1 E rfl fun a E=>lb E H 1 rfl rfl rfl rfl rfl rfl rfl Tryz.underlying3 rfl fun a E=>pr 2 E rfl fun a E=>cs hm (fun hb81 hm=>?_) fun hb81 hm=>?_
     ·exact pk 9 E (kc 30 rfl hb81) rfl fun a E=>nt<|⟨true, _, E.sel [2, 3, 4, 5, 39] rfl, H, hs17, hr18, hr19, hm⟩
     ·refine pk 1 E (kc 30 rfl hb81) rfl fun a E=>st_val E (ws' (d := 30) E rfl rfl rfl rfl hb81) rfl rfl (x_ldB (i := 1) E H rfl rfl rfl rfl Tryz.underlying3 rfl) fun a E=>pk 3 E (kc 30 rfl hb81) rfl fun a E=>cs hm (fun hb82 hm=>?_) fun hb82 hm=>?_
      ·exact pk 4 E (kc 35 rfl hb82) rfl fun a E=>nt<|⟨true, _, E.sel [2, 3, 4, 5, 39] rfl, H, hs17, hr18, hr19, hm⟩
      ·exact pk 1 E (kc 35 rfl hb82) rfl fun a E=>st_val E (ws' (d := 35) E rfl rfl rfl rfl hb82) rfl rfl (x_ldB (i := 1) E H rfl rfl rfl rfl Tryz.underlying3 rfl) fun a E=>pk 2 E (kc 35 rfl hb82) rfl fun a E=>nt<|⟨x4.Kind == 10, _, E.sel [2, 3, 4, 5, 39] rfl, H, hs17, hr18, hr19, hm⟩
    ·clear E H hm
     rintro a w ⟨b31, rs32, E, H, hs33, hr34, hr35, hm⟩
     unfold m_cantonref07_Do_j2 at hm
     refine wif E hm rfl (fun hm=>?_) fun hm=>?_
     ·refine sq<|sv E rfl rfl rfl (x_ldBN (i := 0) (us := [(.slice q8 x1.Nodes.length x9), (.slice q10 x1.Turns.length x11)]) E H rfl rfl rfl rfl Tryz.underlying41 rfl sz41) fun a E=>sv E rfl rfl rfl (x_ldBN (i := 1) (us := (l_api_Part x4)) E H rfl rfl rfl rfl Tryz.underlying62 rfl sz62) fun a E=>bd hm fun u36 hx37 hm=>x_cl E rfl rfl rfl rfl rfl cf91 (c_cantonref07_in x1 (.slice q8 x1.Nodes.length x9) (.slice q10 x1.Turns.length x11) x4 H hr34 hr35 hx37)<|?_
      rintro _ w ⟨v38, v39, v40, rfl, H⟩ a E
      refine pr 2 E rfl fun a E=>?_
      obtain ⟨q41, x42, rfl⟩ := H.slform m0
      obtain ⟨q43, x44, rfl⟩ := H.slform mm1
      refine st_st (i := 2) E H (wn rfl) rfl (us := [(.slice q41 u36.1.Nodes.length x42), (.slice q43 u36.1.Turns.length x44)]) rfl rfl rfl rfl rfl sz41 rfl rfl fun w H=>?_
      obtain ⟨q45, x46, rfl⟩ := H.slform mm2
      refine st_st (i := 3) E H (wn rfl) rfl (us := (l_api_Result u36.2 (.slice q45 u36.2.Names.length x46))) rfl rfl rfl rfl rfl sz51 rfl rfl fun w H=>nt<|wp_ret<|q_thenR<|outR2 E rfl (rvBN (i := 2) (us := [(.slice q41 u36.1.Nodes.length x42), (.slice q43 u36.1.Turns.length x44)]) H rfl rfl rfl Tryz.underlying41 rfl sz41) (rvBN (i := 3) (us := (l_api_Result u36.2 (.slice q45 u36.2.Names.length x46))) H rfl rfl rfl Tryz.underlying51 rfl sz51)<|have H:=H.drop 0;have H:=H.drop 0;have H:=H.drop 0;have H:=H.drop 0;?_
      cases hm
      exact ⟨(.slice q41 u36.1.Nodes.length x42), (.slice q43 u36.1.Turns.length x44), (.slice q45 u36.2.Names.length x46), rfl, H.reads (sub_cons m0 (sub_cons mm1 (sub_cons mm2 (fun r hr => (t3 (hs33 r hr))))))⟩
     ·refine wp_skip<|q_then<|sq<|pr 1 E rfl fun a E=>lb E H 0 rfl rfl rfl rfl rfl rfl rfl Tryz.underlying22 rfl fun a E=>pr 1 E rfl fun a E=>lb E H 1 rfl rfl rfl rfl rfl rfl rfl Tryz.underlying9 rfl fun a E=>bd hm fun u47 hx48 hm=>x_cl E rfl rfl rfl rfl rfl cf70 (c_cantonref06_Find (.slice q8 x1.Nodes.length x9) x1.Nodes x4.Path H hr34 hx48)<|?_
      rintro _ w ⟨rfl, H⟩ a E
      refine pr 3 E rfl fun a E=>al E H rfl rfl rfl rfl zr80 fun p49 w a H E=>st_st (i := 0) E H (wn rfl) rfl (us := (l_api_Node u47.1)) rfl rfl rfl rfl rfl sz80 rfl rfl fun w H=>pr 1 E rfl fun a E=>nt<|wp_seq<|sq<|pr 2 E rfl fun a E=>nt<|wif E hm rfl (fun hm=>?_) fun hm=>?_
      ·refine sq<|sv E rfl rfl rfl (x_ldBN (i := 1) (us := [(.slice q8 x1.Nodes.length x9), (.slice q10 x1.Turns.length x11)]) E H rfl rfl rfl rfl Tryz.underlying41 rfl sz41) fun a E=>sv E rfl rfl rfl (x_build E rfl (E.evs rfl) (v := .agg #[.int .i64 62, .string (ByteArray.mk #[]), .string (ByteArray.mk #[]), .int .i64 0, .slice none 0 0]) (by kernel_rfl)) fun a E=>st_st (i := 3) E H (wn rfl) rfl (us := [(.slice q8 x1.Nodes.length x9), (.slice q10 x1.Turns.length x11)]) rfl rfl rfl rfl rfl sz41 rfl rfl fun w H=>st_st (i := 4) E H (wn rfl) rfl (us := [.int .i64 62, .string (ByteArray.mk #[]), .string (ByteArray.mk #[]), .int .i64 0, .slice none 0 0]) rfl rfl rfl rfl rfl sz51 rfl rfl fun w H=>nt<|wp_ret<|q_thenR<|outR2 E rfl (rvBN (i := 3) (us := [(.slice q8 x1.Nodes.length x9), (.slice q10 x1.Turns.length x11)]) H rfl rfl rfl Tryz.underlying41 rfl sz41) (rvBN (i := 4) (us := [.int .i64 62, .string (ByteArray.mk #[]), .string (ByteArray.mk #[]), .int .i64 0, .slice none 0 0]) H rfl rfl rfl Tryz.underlying51 rfl sz51)<|?_
       refine have H:=H.nilSl kS;have H:=H.drop 0;have H:=H.drop 0;have H:=H.drop 0;have H:=H.drop 0;have H:=H.drop 0;?_
       cases hm
       exact ⟨(.slice q8 x1.Nodes.length x9), (.slice q10 x1.Turns.length x11), (.slice none 0 0), rfl, H.reads (sub_cons (t1 hr34) (sub_cons (t1 hr35) (sub_cons m0 (fun r hr => (t1 (hs33 r hr))))))⟩
      ·refine wp_skip<|q_then<|wp_seq_cut (fun a w => ∃ (b50 : Bool) (rs51 : List Rp), Env 140 a [(2, pt p7 0), (3, pt p12 0), (4, pt p13 0), (5, pt p14 0), (6, pt p49 0), (8, .bool b50)] ∧ Sep w (Blk p7 41 [(.slice q8 x1.Nodes.length x9), (.slice q10 x1.Turns.length x11)] :: Blk p12 62 (l_api_Part x4) :: Blk p13 41 [.slice none 0 0, .slice none 0 0] :: Blk p14 51 z_api_Result :: Blk p49 80 (l_api_Node u47.1) :: Fo) rs51 ∧ (∀ r, r ∈ rs → r ∈ rs51) ∧ rSl k_api_Node (.slice q8 x1.Nodes.length x9) x1.Nodes ∈ rs51 ∧ rSl k_api_Turn (.slice q10 x1.Turns.length x11) x1.Turns ∈ rs51 ∧ m_cantonref07_Do_j3 x1 x4 u47 b50 = some r) ?_ ?_
       ·refine wp_region_lit<|pr 1 E rfl fun a E=>lb E H 2 rfl rfl rfl rfl rfl rfl rfl Tryz.underlying3 rfl fun a E=>pr 2 E rfl fun a E=>cs hm (fun hb79 hm=>?_) fun hb79 hm=>?_
        ·exact pk 10 E (kc 60 rfl hb79) rfl fun a E=>nt<|have H:=H.front 0 rfl;have H:=H.front 4 rfl;have H:=H.front 4 rfl;have H:=H.front 4 rfl;have H:=H.front 4 rfl;⟨true, _, E.sel [2, 3, 4, 5, 6, 8] rfl, H, hs33, hr34, hr35, hm⟩
        ·refine pk 1 E (kc 60 rfl hb79) rfl fun a E=>st_val E (ws' (d := 60) E rfl rfl rfl rfl hb79) rfl rfl (x_ldB (i := 2) E H rfl rfl rfl rfl Tryz.underlying3 rfl) fun a E=>pk 3 E (kc 60 rfl hb79) rfl fun a E=>cs hm (fun hb80 hm=>?_) fun hb80 hm=>?_
         ·exact pk 5 E (kc 65 rfl hb80) rfl fun a E=>nt<|have H:=H.front 0 rfl;have H:=H.front 4 rfl;have H:=H.front 4 rfl;have H:=H.front 4 rfl;have H:=H.front 4 rfl;⟨true, _, E.sel [2, 3, 4, 5, 6, 8] rfl, H, hs33, hr34, hr35, hm⟩
         ·exact pk 1 E (kc 65 rfl hb80) rfl fun a E=>st_val E (ws' (d := 65) E rfl rfl rfl rfl hb80) rfl rfl (x_ldB (i := 2) E H rfl rfl rfl rfl Tryz.underlying3 rfl) fun a E=>pk 3 E (kc 65 rfl hb80) rfl fun a E=>nt<|have H:=H.front 0 rfl;have H:=H.front 4 rfl;have H:=H.front 4 rfl;have H:=H.front 4 rfl;have H:=H.front 4 rfl;⟨x4.Kind == 6, _, E.sel [2, 3, 4, 5, 6, 8] rfl, H, hs33, hr34, hr35, hm⟩
       ·clear E H hm
        rintro a w ⟨b50, rs51, E, H, hs52, hr53, hr54, hm⟩
        unfold m_cantonref07_Do_j3 at hm
        refine wp_seq<|wp_seq_cut (fun a w => ∃ (b55 : Bool) (rs56 : List Rp), Env 140 a [(2, pt p7 0), (3, pt p12 0), (4, pt p13 0), (5, pt p14 0), (6, pt p49 0), (82, .bool b55)] ∧ Sep w (Blk p7 41 [(.slice q8 x1.Nodes.length x9), (.slice q10 x1.Turns.length x11)] :: Blk p12 62 (l_api_Part x4) :: Blk p13 41 [.slice none 0 0, .slice none 0 0] :: Blk p14 51 z_api_Result :: Blk p49 80 (l_api_Node u47.1) :: Fo) rs56 ∧ (∀ r, r ∈ rs → r ∈ rs56) ∧ rSl k_api_Node (.slice q8 x1.Nodes.length x9) x1.Nodes ∈ rs56 ∧ rSl k_api_Turn (.slice q10 x1.Turns.length x11) x1.Turns ∈ rs56 ∧ m_cantonref07_Do_j4 x1 x4 u47 b55 = some r) ?_ ?_
        ·refine wp_region_lit<|pr 2 E rfl fun a E=>cs hm (fun hb77 hm=>?_) fun hb77 hm=>?_
         ·refine pk 1 E (kc 71 rfl hb77) rfl fun a E=>st_val E (ws' (d := 71) E rfl rfl rfl rfl hb77) rfl rfl (x_ldB (i := 1) E H rfl rfl rfl rfl Tryz.underlying2 rfl) fun a E=>pk 3 E (kc 71 rfl hb77) rfl fun a E=>cs hm (fun hb78 hm=>?_) fun hb78 hm=>?_
          ·exact pk 1 E (kc 76 rfl hb78) rfl fun a E=>st_val E (ws' (d := 76) E rfl rfl rfl rfl hb78) rfl rfl (x_ldB (i := 1) E H rfl rfl rfl rfl Tryz.underlying2 rfl) fun a E=>pk 1 E (kc 76 rfl hb78) rfl fun a E=>st_val E (ws' (d := 76) E rfl rfl rfl rfl hb78) rfl rfl (x_ldB (i := 4) E H rfl rfl rfl rfl Tryz.underlying2 rfl) fun a E=>pk 2 E (kc 76 rfl hb78) rfl fun a E=>nt<|⟨x4.Version != u47.1.Version, _, E.sel [2, 3, 4, 5, 6, 82] rfl, H, hs52, hr53, hr54, hm⟩
          ·exact pk 6 E (kc 76 rfl hb78) rfl fun a E=>nt<|⟨false, _, E.sel [2, 3, 4, 5, 6, 82] rfl, H, hs52, hr53, hr54, hm⟩
         ·exact pk 11 E (kc 71 rfl hb77) rfl fun a E=>nt<|⟨false, _, E.sel [2, 3, 4, 5, 6, 82] rfl, H, hs52, hr53, hr54, hm⟩
        ·clear E H hm
         rintro a w ⟨b55, rs56, E, H, hs57, hr58, hr59, hm⟩
         unfold m_cantonref07_Do_j4 at hm
         refine wif E hm rfl (fun hm=>?_) fun hm=>?_
         ·refine sq<|sv E rfl rfl rfl (x_ldBN (i := 0) (us := [(.slice q8 x1.Nodes.length x9), (.slice q10 x1.Turns.length x11)]) E H rfl rfl rfl rfl Tryz.underlying41 rfl sz41) fun a E=>sv E rfl rfl rfl (x_build E rfl (E.evs rfl) (v := .agg #[.int .i64 63, .string (ByteArray.mk #[]), .string (ByteArray.mk #[]), .int .i64 0, .slice none 0 0]) (by kernel_rfl)) fun a E=>st_st (i := 2) E H (wn rfl) rfl (us := [(.slice q8 x1.Nodes.length x9), (.slice q10 x1.Turns.length x11)]) rfl rfl rfl rfl rfl sz41 rfl rfl fun w H=>st_st (i := 3) E H (wn rfl) rfl (us := [.int .i64 63, .string (ByteArray.mk #[]), .string (ByteArray.mk #[]), .int .i64 0, .slice none 0 0]) rfl rfl rfl rfl rfl sz51 rfl rfl fun w H=>nt<|wp_ret<|q_thenR<|outR2 E rfl (rvBN (i := 2) (us := [(.slice q8 x1.Nodes.length x9), (.slice q10 x1.Turns.length x11)]) H rfl rfl rfl Tryz.underlying41 rfl sz41) (rvBN (i := 3) (us := [.int .i64 63, .string (ByteArray.mk #[]), .string (ByteArray.mk #[]), .int .i64 0, .slice none 0 0]) H rfl rfl rfl Tryz.underlying51 rfl sz51)<|?_
          refine have H:=H.nilSl kS;have H:=H.drop 0;have H:=H.drop 0;have H:=H.drop 0;have H:=H.drop 0;have H:=H.drop 0;?_
          cases hm
          exact ⟨(.slice q8 x1.Nodes.length x9), (.slice q10 x1.Turns.length x11), (.slice none 0 0), rfl, H.reads (sub_cons (t1 hr58) (sub_cons (t1 hr59) (sub_cons m0 (fun r hr => (t1 (hs57 r hr))))))⟩
         ·refine wp_skip<|q_then<|wp_seq_cut (fun a w => ∃ (rs60 : List Rp), Env 140 a [(2, pt p7 0), (4, pt p13 0), (5, pt p14 0)] ∧ Sep w (Blk p7 41 [(.slice q8 x1.Nodes.length x9), (.slice q10 x1.Turns.length x11)] :: Blk p13 41 [.slice none 0 0, .slice none 0 0] :: Blk p14 51 z_api_Result :: Fo) rs60 ∧ (∀ r, r ∈ rs → r ∈ rs60) ∧ rSl k_api_Node (.slice q8 x1.Nodes.length x9) x1.Nodes ∈ rs60 ∧ rSl k_api_Turn (.slice q10 x1.Turns.length x11) x1.Turns ∈ rs60 ∧ m_cantonref07_Do_j5 x1 = some r) ?_ ?_
          ·refine sq<|pr 1 E rfl fun a E=>lb E H 1 rfl rfl rfl rfl rfl rfl rfl Tryz.underlying3 rfl fun a E=>nt<|wp_block<|sq<|pr 2 E rfl fun a E=>nt<|wif E hm rfl (fun hm=>?_) fun hm=>?_
           ·refine sq<|pr 1 E rfl fun a E=>lb E H 4 rfl rfl rfl rfl rfl rfl rfl Tryz.underlying2 rfl fun a E=>pr 1 E rfl fun a E=>nt<|wif E hm rfl (fun hm=>?_) fun hm=>?_
            ·refine sq<|sv E rfl rfl rfl (x_ldBN (i := 0) (us := [(.slice q8 x1.Nodes.length x9), (.slice q10 x1.Turns.length x11)]) E H rfl rfl rfl rfl Tryz.underlying41 rfl sz41) fun a E=>sv E rfl rfl rfl (x_build E rfl (E.evs rfl) (v := .agg #[.int .i64 65, .string (ByteArray.mk #[]), .string (ByteArray.mk #[]), .int .i64 0, .slice none 0 0]) (by kernel_rfl)) fun a E=>st_st (i := 2) E H (wn rfl) rfl (us := [(.slice q8 x1.Nodes.length x9), (.slice q10 x1.Turns.length x11)]) rfl rfl rfl rfl rfl sz41 rfl rfl fun w H=>st_st (i := 3) E H (wn rfl) rfl (us := [.int .i64 65, .string (ByteArray.mk #[]), .string (ByteArray.mk #[]), .int .i64 0, .slice none 0 0]) rfl rfl rfl rfl rfl sz51 rfl rfl fun w H=>nt<|wp_ret<|q_blkR<|q_thenR<|?_
             refine outR2 E rfl (rvBN (i := 2) (us := [(.slice q8 x1.Nodes.length x9), (.slice q10 x1.Turns.length x11)]) H rfl rfl rfl Tryz.underlying41 rfl sz41) (rvBN (i := 3) (us := [.int .i64 65, .string (ByteArray.mk #[]), .string (ByteArray.mk #[]), .int .i64 0, .slice none 0 0]) H rfl rfl rfl Tryz.underlying51 rfl sz51)<|have H:=H.nilSl kS;have H:=H.drop 0;have H:=H.drop 0;have H:=H.drop 0;have H:=H.drop 0;have H:=H.drop 0;?_
             cases hm
             exact ⟨(.slice q8 x1.Nodes.length x9), (.slice q10 x1.Turns.length x11), (.slice none 0 0), rfl, H.reads (sub_cons (t1 hr58) (sub_cons (t1 hr59) (sub_cons m0 (fun r hr => (t1 (hs57 r hr))))))⟩
            ·exact wp_skip<|q_blk<|q_then<|have H:=H.drop 1;have H:=H.drop 3;⟨_, E.sel [2, 4, 5] rfl, H, hs57, hr58, hr59, hm⟩
           ·refine sq<|pr 2 E rfl fun a E=>nt<|wif E hm rfl (fun hm=>?_) fun hm=>?_
            ·refine sq<|sv E rfl rfl rfl (x_ldBN (i := 0) (us := [(.slice q8 x1.Nodes.length x9), (.slice q10 x1.Turns.length x11)]) E H rfl rfl rfl rfl Tryz.underlying41 rfl sz41) fun a E=>pr 1 E rfl fun a E=>lb E H 1 rfl rfl rfl rfl rfl rfl rfl Tryz.underlying9 rfl fun a E=>bd hm fun u64 hx65 hm=>x_cl E rfl rfl rfl rfl rfl cf92 (c_cantonref07_without x1 (.slice q8 x1.Nodes.length x9) (.slice q10 x1.Turns.length x11) x4.Path H hr58 hr59 hx65)<|?_
             rintro _ w ⟨v66, v67, rfl, H⟩ a E
             refine sv E rfl rfl rfl (x_build E rfl (E.evs rfl) (v := .agg z_api_Result.toArray) (by kernel_rfl)) fun a E=>?_
             obtain ⟨q68, x69, rfl⟩ := H.slform m0
             obtain ⟨q70, x71, rfl⟩ := H.slform mm1
             refine st_st (i := 2) E H (wn rfl) rfl (us := [(.slice q68 u64.Nodes.length x69), (.slice q70 u64.Turns.length x71)]) rfl rfl rfl rfl rfl sz41 rfl rfl fun w H=>st_st (i := 3) E H (wn rfl) rfl (us := z_api_Result) rfl rfl rfl rfl rfl sz51 rfl rfl fun w H=>nt<|wp_ret<|q_blkR<|q_thenR<|outR2 E rfl (rvBN (i := 2) (us := [(.slice q68 u64.Nodes.length x69), (.slice q70 u64.Turns.length x71)]) H rfl rfl rfl Tryz.underlying41 rfl sz41) (rvBN (i := 3) (us := z_api_Result) H rfl rfl rfl Tryz.underlying51 rfl sz51)<|have H:=H.nilSl kS;have H:=H.drop 0;?_
             refine have H:=H.drop 0;have H:=H.drop 0;have H:=H.drop 0;have H:=H.drop 0;?_
             cases hm
             exact ⟨(.slice q68 u64.Nodes.length x69), (.slice q70 u64.Turns.length x71), (.slice none 0 0), rfl, H.reads (sub_cons mm1 (sub_cons mm2 (sub_cons m0 (fun r hr => (t3 (hs57 r hr))))))⟩
            ·refine sq<|pr 2 E rfl fun a E=>nt<|wif E hm rfl (fun hm=>?_) fun hm=>?_
             ·refine wp_seq<|sq<|pr 1 E rfl fun a E=>lb E H 4 rfl rfl rfl rfl rfl rfl rfl Tryz.underlying2 rfl fun a E=>pr 1 E rfl fun a E=>nt<|wif E hm rfl (fun hm=>?_) fun hm=>?_
              ·refine sq<|sv E rfl rfl rfl (x_ldBN (i := 0) (us := [(.slice q8 x1.Nodes.length x9), (.slice q10 x1.Turns.length x11)]) E H rfl rfl rfl rfl Tryz.underlying41 rfl sz41) fun a E=>sv E rfl rfl rfl (x_build E rfl (E.evs rfl) (v := .agg #[.int .i64 2, .string (ByteArray.mk #[]), .string (ByteArray.mk #[]), .int .i64 0, .slice none 0 0]) (by kernel_rfl)) fun a E=>st_st (i := 2) E H (wn rfl) rfl (us := [(.slice q8 x1.Nodes.length x9), (.slice q10 x1.Turns.length x11)]) rfl rfl rfl rfl rfl sz41 rfl rfl fun w H=>st_st (i := 3) E H (wn rfl) rfl (us := [.int .i64 2, .string (ByteArray.mk #[]), .string (ByteArray.mk #[]), .int .i64 0, .slice none 0 0]) rfl rfl rfl rfl rfl sz51 rfl rfl fun w H=>nt<|wp_ret<|q_thenR<|q_blkR<|?_
               refine q_thenR<|outR2 E rfl (rvBN (i := 2) (us := [(.slice q8 x1.Nodes.length x9), (.slice q10 x1.Turns.length x11)]) H rfl rfl rfl Tryz.underlying41 rfl sz41) (rvBN (i := 3) (us := [.int .i64 2, .string (ByteArray.mk #[]), .string (ByteArray.mk #[]), .int .i64 0, .slice none 0 0]) H rfl rfl rfl Tryz.underlying51 rfl sz51)<|have H:=H.nilSl kS;have H:=H.drop 0;have H:=H.drop 0;have H:=H.drop 0;have H:=H.drop 0;have H:=H.drop 0;?_
               cases hm
               exact ⟨(.slice q8 x1.Nodes.length x9), (.slice q10 x1.Turns.length x11), (.slice none 0 0), rfl, H.reads (sub_cons (t1 hr58) (sub_cons (t1 hr59) (sub_cons m0 (fun r hr => (t1 (hs57 r hr))))))⟩
              ·refine wp_skip<|q_then<|sq<|pr 1 E rfl fun a E=>lb E H 1 rfl rfl rfl rfl rfl rfl rfl Tryz.underlying9 rfl fun a E=>pr 1 E rfl fun a E=>st_st (i := 4) E H (wn rfl) rfl (us := [.string x4.Data]) rfl rfl rfl rfl rfl sz9 rfl rfl fun w H=>nx<|pr 1 E rfl fun a E=>?_
               refine lb E H 4 rfl rfl rfl rfl rfl rfl rfl Tryz.underlying2 rfl fun a E=>pr 2 E rfl fun a E=>st_st (i := 4) E H (wn rfl) rfl (us := [.int .i64 (IntKind.i64.wrap (u47.1.Version + 1))]) rfl rfl rfl rfl rfl sz2 rfl rfl fun w H=>nx<|pr 1 E rfl fun a E=>lb E H 0 rfl rfl rfl rfl rfl rfl rfl Tryz.underlying22 rfl fun a E=>sv E rfl rfl rfl (x_ldBN (i := 4) (us := [.string u47.1.Path, .string x4.Data, .int .i64 (IntKind.i64.wrap (u47.1.Version + 1)), .int .i64 u47.1.Turn, .int .i64 u47.1.Owner]) E H rfl rfl rfl rfl Tryz.underlying80 rfl sz80) fun a E=>bd hm fun u72 hx73 hm=>x_cl E rfl rfl rfl rfl rfl cf93 (c_cantonref06_Put (.slice q8 x1.Nodes.length x9) x1.Nodes (⟨u47.1.Path, x4.Data, IntKind.i64.wrap (u47.1.Version + 1), u47.1.Turn, u47.1.Owner⟩ : S_api_Node) H hr58 hx73)<|?_
               rintro _ w ⟨v74, rfl, H⟩ a E
               refine pr 1 E rfl fun a E=>?_
               obtain ⟨q75, x76, rfl⟩ := H.rowform (i := 0) rfl
               refine st_st (i := 1) E H (wn rfl) rfl (us := [(.slice q75 u72.length x76)]) rfl rfl rfl rfl rfl sz22 rfl rfl fun w H=>nt<|wp_seq<|dw [(0, 0), (1, 0), (2, 0), (3, 0), (4, 1), (5, 2)] [1, 5] [] H (by kernel_rfl) (fun _ _ _ h => False.elim h.2) fun w W0 hI H=>fbn E [(.slice q75 u72.length x76), (.slice q10 x1.Turns.length x11)] rfl (wn rfl) rfl rfl rfl rfl m0 rfl Tryz.underlying41 rfl sz41 fun a E=>fn 1 E rfl fun a E=>fb E rfl (wn rfl) rfl rfl rfl rfl mm1 rfl Tryz.underlying2 rfl fun a E=>fr_val E rfl (wn rfl) rfl rfl (fun w hW=>(x_build E rfl (E.evs rfl) (v := .agg #[.int .i64 0, .string (ByteArray.mk #[]), .string (ByteArray.mk #[]), .int .i64 (IntKind.i64.wrap (u47.1.Version + 1)), .slice none 0 0]) (by kernel_rfl))) fun a E=>?_
               refine fr_op rfl<|st_st (i := 3) E H (wn rfl) rfl (us := [(.slice q75 u72.length x76), (.slice q10 x1.Turns.length x11)]) rfl rfl rfl rfl rfl sz41 rfl rfl fun w H=>nt<|?_
               refine ⟨⟨_, _, H, (subO_cons mm1 (subO_cons mm5 (subO_nil))), (sub_nil)⟩, ?_⟩
               refine fr_tail rfl<|st_st (i := 4) E H (wn rfl) rfl (us := [.int .i64 0, .string (ByteArray.mk #[]), .string (ByteArray.mk #[]), .int .i64 (IntKind.i64.wrap (u47.1.Version + 1)), .slice none 0 0]) rfl rfl rfl rfl rfl sz51 rfl rfl fun w H=>nt<|fr_nil<|?_
               clear hI
               refine q_then<|wp_ret<|q_blkR<|q_thenR<|outR2 E rfl (rvBN (i := 3) (us := [(.slice q75 u72.length x76), (.slice q10 x1.Turns.length x11)]) H rfl rfl rfl Tryz.underlying41 rfl sz41) (rvBN (i := 4) (us := [.int .i64 0, .string (ByteArray.mk #[]), .string (ByteArray.mk #[]), .int .i64 (IntKind.i64.wrap (u47.1.Version + 1)), .slice none 0 0]) H rfl rfl rfl Tryz.underlying51 rfl sz51)<|have H:=H.thaw (i := 0) rfl;have H:=H.nilSl kS;have H:=H.drop 0;have H:=H.drop 0;?_
               refine have H:=H.drop 0;have H:=H.drop 0;have H:=H.drop 0;?_
               cases hm
               exact ⟨(.slice q75 u72.length x76), (.slice q10 x1.Turns.length x11), (.slice none 0 0), rfl, H.reads (sub_cons mm1 (sub_cons (t2 hr59) (sub_cons m0 (fun r hr => (t2 (hs57 r hr))))))⟩
             ·refine sq<|pr 2 E rfl fun a E=>nt<|wif E hm rfl (fun hm=>?_) fun hm=>?_
              ·refine wp_seq<|dw [(0, 0), (1, 0), (2, 0), (3, 0), (4, 1), (5, 2)] [0, 4] [] H (by kernel_rfl) (fun _ _ _ h => False.elim h.2) fun w W0 hI H=>fbn E [(.slice q8 x1.Nodes.length x9), (.slice q10 x1.Turns.length x11)] rfl (wn rfl) rfl rfl rfl rfl m0 rfl Tryz.underlying41 rfl sz41 fun a E=>fn 1 E rfl fun a E=>fb E rfl (wn rfl) rfl rfl rfl rfl mm1 rfl Tryz.underlying2 rfl fun a E=>fr_val E rfl (wn rfl) rfl rfl (fun w hW=>(x_build E rfl (E.evs rfl) (v := .agg #[.int .i64 0, .string (ByteArray.mk #[]), .string (ByteArray.mk #[]), .int .i64 u47.1.Version, .slice none 0 0]) (by kernel_rfl))) fun a E=>?_
               refine fr_op rfl<|st_st (i := 2) E H (wn rfl) rfl (us := [(.slice q8 x1.Nodes.length x9), (.slice q10 x1.Turns.length x11)]) rfl rfl rfl rfl rfl sz41 rfl rfl fun w H=>nt<|?_
               refine ⟨⟨_, _, H, (subO_cons m0 (subO_cons mm4 (subO_nil))), (sub_nil)⟩, ?_⟩
               refine fr_tail rfl<|st_st (i := 3) E H (wn rfl) rfl (us := [.int .i64 0, .string (ByteArray.mk #[]), .string (ByteArray.mk #[]), .int .i64 u47.1.Version, .slice none 0 0]) rfl rfl rfl rfl rfl sz51 rfl rfl fun w H=>nt<|fr_nil<|?_
               clear hI
               refine q_then<|wp_ret<|q_blkR<|q_thenR<|outR2 E rfl (rvBN (i := 2) (us := [(.slice q8 x1.Nodes.length x9), (.slice q10 x1.Turns.length x11)]) H rfl rfl rfl Tryz.underlying41 rfl sz41) (rvBN (i := 3) (us := [.int .i64 0, .string (ByteArray.mk #[]), .string (ByteArray.mk #[]), .int .i64 u47.1.Version, .slice none 0 0]) H rfl rfl rfl Tryz.underlying51 rfl sz51)<|have H:=H.nilSl kS;have H:=H.drop 0;have H:=H.drop 0;have H:=H.drop 0;?_
               refine have H:=H.drop 0;have H:=H.drop 0;?_
               cases hm
               exact ⟨(.slice q8 x1.Nodes.length x9), (.slice q10 x1.Turns.length x11), (.slice none 0 0), rfl, H.reads (sub_cons (t1 hr58) (sub_cons (t1 hr59) (sub_cons m0 (fun r hr => (t1 (hs57 r hr))))))⟩
              ·refine sq<|pr 2 E rfl fun a E=>nt<|wif E hm rfl (fun hm=>?_) fun hm=>?_
               ·refine wp_seq<|dw [(0, 0), (1, 0), (2, 0), (3, 0), (4, 0), (5, 0), (6, 1), (7, 2)] [0, 4] [] H (by kernel_rfl) (fun _ _ _ h => False.elim h.2) fun w W0 hI H=>fbn E [(.slice q8 x1.Nodes.length x9), (.slice q10 x1.Turns.length x11)] rfl (wn rfl) rfl rfl rfl rfl m0 rfl Tryz.underlying41 rfl sz41 fun a E=>fn 1 E rfl fun a E=>fb E rfl (wn rfl) rfl rfl rfl rfl mm1 rfl Tryz.underlying9 rfl fun a E=>fn 1 E rfl fun a E=>fb E rfl (wn rfl) rfl rfl rfl rfl mm1 rfl Tryz.underlying2 rfl fun a E=>fr_val E rfl (wn rfl) rfl rfl (fun w hW=>(x_build E rfl (E.evs rfl) (v := .agg #[.int .i64 0, .string (ByteArray.mk #[]), .string u47.1.Data, .int .i64 u47.1.Version, .slice none 0 0]) (by kernel_rfl))) fun a E=>?_
                refine fr_op rfl<|st_st (i := 2) E H (wn rfl) rfl (us := [(.slice q8 x1.Nodes.length x9), (.slice q10 x1.Turns.length x11)]) rfl rfl rfl rfl rfl sz41 rfl rfl fun w H=>nt<|?_
                refine ⟨⟨_, _, H, (subO_cons m0 (subO_cons mm4 (subO_nil))), (sub_nil)⟩, ?_⟩
                refine fr_tail rfl<|st_st (i := 3) E H (wn rfl) rfl (us := [.int .i64 0, .string (ByteArray.mk #[]), .string u47.1.Data, .int .i64 u47.1.Version, .slice none 0 0]) rfl rfl rfl rfl rfl sz51 rfl rfl fun w H=>nt<|fr_nil<|?_
                clear hI
                refine q_then<|wp_ret<|q_blkR<|q_thenR<|outR2 E rfl (rvBN (i := 2) (us := [(.slice q8 x1.Nodes.length x9), (.slice q10 x1.Turns.length x11)]) H rfl rfl rfl Tryz.underlying41 rfl sz41) (rvBN (i := 3) (us := [.int .i64 0, .string (ByteArray.mk #[]), .string u47.1.Data, .int .i64 u47.1.Version, .slice none 0 0]) H rfl rfl rfl Tryz.underlying51 rfl sz51)<|have H:=H.nilSl kS;have H:=H.drop 0;have H:=H.drop 0;have H:=H.drop 0;?_
                refine have H:=H.drop 0;have H:=H.drop 0;?_
                cases hm
                exact ⟨(.slice q8 x1.Nodes.length x9), (.slice q10 x1.Turns.length x11), (.slice none 0 0), rfl, H.reads (sub_cons (t1 hr58) (sub_cons (t1 hr59) (sub_cons m0 (fun r hr => (t1 (hs57 r hr))))))⟩
               ·exact wp_skip<|q_blk<|q_then<|have H:=H.drop 1;have H:=H.drop 3;⟨_, E.sel [2, 4, 5] rfl, H, hs57, hr58, hr59, hm⟩
          ·clear E H hm
           rintro a w ⟨rs60, E, H, hs61, hr62, hr63, hm⟩
           unfold m_cantonref07_Do_j5 at hm
           refine sq<|sv E rfl rfl rfl (x_ldBN (i := 0) (us := [(.slice q8 x1.Nodes.length x9), (.slice q10 x1.Turns.length x11)]) E H rfl rfl rfl rfl Tryz.underlying41 rfl sz41) fun a E=>sv E rfl rfl rfl (x_build E rfl (E.evs rfl) (v := .agg z_api_Result.toArray) (by kernel_rfl)) fun a E=>st_st (i := 1) E H (wn rfl) rfl (us := [(.slice q8 x1.Nodes.length x9), (.slice q10 x1.Turns.length x11)]) rfl rfl rfl rfl rfl sz41 rfl rfl fun w H=>st_st (i := 2) E H (wn rfl) rfl (us := z_api_Result) rfl rfl rfl rfl rfl sz51 rfl rfl fun w H=>nt<|wp_ret<|outR2 E rfl (rvBN (i := 1) (us := [(.slice q8 x1.Nodes.length x9), (.slice q10 x1.Turns.length x11)]) H rfl rfl rfl Tryz.underlying41 rfl sz41) (rvBN (i := 2) (us := z_api_Result) H rfl rfl rfl Tryz.underlying51 rfl sz51)<|have H:=H.nilSl kS;?_
           refine have H:=H.drop 0;have H:=H.drop 0;have H:=H.drop 0;?_
           cases hm
           exact ⟨(.slice q8 x1.Nodes.length x9), (.slice q10 x1.Turns.length x11), (.slice none 0 0), rfl, H.reads (sub_cons (t1 hr62) (sub_cons (t1 hr63) (sub_cons m0 (fun r hr => (t1 (hs61 r hr))))))⟩

def m_multi_May_1 (x1 : S_api_Op) : Option Bool :=
  (m_nodes_May x1).bind fun u3 => some (!u3)
theorem c_multi_May_1 {w : World} {Fo : List Ob} {rs : List Rp} (x1 : S_api_Op) (H : Sep w (Fo) rs) {r : Bool} (hm : m_multi_May_1 x1 = some r) :
    Calls Tryz.prog 58 [.agg (l_api_Op x1).toArray].toArray w (Ret fun v w' => .bool r = v ∧ Sep w' (Fo) (rs)) := by
 unfold m_multi_May_1 at hm
 refine enter Tryz.func58 rfl Tryz.ntmps58 rfl fun a E =>?_
 simp only [enum, Nat.reduceAdd] at E
 refine sq<|st_box E H (wn rfl) rfl rfl (cs := (l_api_Op x1)) rfl rfl rfl fun p2 w a H E=>pr 1 E rfl fun a E=>nx<|sv E rfl rfl rfl (x_ldBN (i := 0) (us := (l_api_Op x1)) E H rfl rfl rfl rfl Tryz.underlying55 rfl sz55) fun a E=>bd hm fun u3 hx4 hm=>x_cl E rfl rfl rfl rfl rfl cf53 (c_nodes_May x1 H hx4)<|?_
 rintro _ w ⟨rfl, H⟩ a E
 refine pr 2 E rfl fun a E=>nt<|wp_ret<|out1 E rfl rfl<|have H:=H.drop 0;?_
 cases hm
 exact ⟨rfl, H.reads (fun r hr => hr)⟩

def m_slices_IndexFunc_api_Op_api_Op_l1 (l2 : List S_api_Op) : Nat → Int → Option Int
  | 0, _ => none
  | k1 + 1, x4 =>
    if (decide (x4 < (l2.length : Int))) = true then ((idx l2 x4).bind fun x8 => (m_multi_May_1 x8).bind fun u11 => if u11 = true then (some (x4)) else (m_slices_IndexFunc_api_Op_api_Op_l1 l2 k1 (IntKind.i64.wrap (x4 + 1)))) else (some ((-1)))
def m_slices_IndexFunc_api_Op_api_Op (l2 : List S_api_Op) : Option Int :=
  m_slices_IndexFunc_api_Op_api_Op_l1 l2 (((l2.length : Int) - 0 : Int).toNat + 1) 0
theorem c_slices_IndexFunc_api_Op_api_Op {w : World} {Fo : List Ob} {rs : List Rp} (v1 : Value) (l2 : List S_api_Op) (H : Sep w (Fo) rs) (hr3 : rSl k_api_Op v1 l2 ∈ rs) {r : Int} (hm : m_slices_IndexFunc_api_Op_api_Op l2 = some r) :
    Calls Tryz.prog 117 [v1, .func (.func 58) #[] #[]].toArray w (Ret fun v w' => .int .i64 r = v ∧ Sep w' (Fo) (rs)) := by
 unfold m_slices_IndexFunc_api_Op_api_Op at hm
 refine enter Tryz.func117 rfl Tryz.ntmps117 rfl fun a E =>?_
 simp only [enum, Nat.reduceAdd] at E
 refine sq<|pr 1 E rfl fun a E=>nt<|wp_seq<|sq<|pr 1 E rfl fun a E=>sv E rfl rfl rfl (x_lenS E H rfl rfl hr3 Tryz.underlying23) fun a E=>pr 1 E rfl fun a E=>nt<|?_
 refine wp_block<|wp_loop_g (fun k1 a w => ∃ (x4 : Int) (rs5 : List Rp), Env 19 a [(0, v1), (1, .func (.func 58) #[] #[]), (7, .int .i64 (l2.length : Int)), (8, .int .i64 x4)] ∧ Sep w (Fo) rs5 ∧ (∀ r, r ∈ rs → r ∈ rs5) ∧ rSl k_api_Op v1 l2 ∈ rs5 ∧ m_slices_IndexFunc_api_Op_api_Op_l1 l2 k1 x4 = some r) (((l2.length : Int) - 0 : Int).toNat + 1) ?_ ?_
 ·exact ⟨0, _, E.sel [0, 1, 7, 8] rfl, H, fun r hr => hr, hr3, hm⟩
 ·clear E H hm
  rintro k1 a w ⟨x4, rs5, E, H, hs6, hr7, hm⟩
  cases k1 with
  | zero => exact (none_some hm rfl).elim
  | succ k1 =>
   unfold m_slices_IndexFunc_api_Op_api_Op_l1 at hm
   refine sq<|pr 1 E rfl fun a E=>nt<|wp_seq<|wif E hm rfl (fun hm=>?_) fun hm=>?_
   ·refine wp_skip<|q_then<|wp_seq<|wp_block<|sq<|pr 2 E rfl fun a E=>nx<|pr 3 E rfl fun a E=>bd hm fun x8 hx9 hm=>?_
    refine st_ixS E H (wn rfl) rfl rfl rfl rfl rfl hr7 Tryz.underlying23 sz55 hx9 fun q10 a H E=>ldf k_api_Op_flat E H rfl rfl rfl rfl rfl m0 Tryz.underlying55 rfl sz55 fun a E=>bd hm fun u11 hx12 hm=>st_call E (wn rfl) rfl rfl (x_callv E rfl rfl rfl (cf58 _)) (c_multi_May_1 x8 H hx12)<|?_
    rintro _ w ⟨rfl, H⟩ a E
    refine nt<|wif E hm rfl (fun hm=>?_) fun hm=>?_
    ·refine sq<|pr 2 E rfl fun a E=>nt<|wp_ret<|q_blkR<|q_thenR<|q_thenR<|q_blkR<|q_thenR<|?_
     refine out1 E rfl rfl<|?_
     cases hm
     exact ⟨rfl, H.reads (fun r hr => (t1 (hs6 r hr)))⟩
    ·exact wp_skip<|q_blk<|q_then<|wp_region_lit<|pr 2 E rfl fun a E=>nt<|⟨k1, Nat.lt_succ_self k1, IntKind.i64.wrap (x4 + 1), _, E.sel [0, 1, 7, 8] rfl, H, fun r hr => (t1 (hs6 r hr)), (t1 hr7), hm⟩
   ·refine wp_exit<|q_thenX<|q_thenX<|q_hit<|q_then<|sq<|pr 1 E rfl fun a E=>nt<|wp_ret<|?_
    refine out1 E rfl rfl<|?_
    cases hm
    exact ⟨rfl, H.reads (hs6)⟩

def m_slices_ContainsFunc_api_Op_api_Op (l2 : List S_api_Op) : Option Bool :=
  (m_slices_IndexFunc_api_Op_api_Op l2).bind fun u4 => some (decide (u4 ≥ 0))
theorem c_slices_ContainsFunc_api_Op_api_Op {w : World} {Fo : List Ob} {rs : List Rp} (v1 : Value) (l2 : List S_api_Op) (H : Sep w (Fo) rs) (hr3 : rSl k_api_Op v1 l2 ∈ rs) {r : Bool} (hm : m_slices_ContainsFunc_api_Op_api_Op l2 = some r) :
    Calls Tryz.prog 57 [v1, .func (.func 58) #[] #[]].toArray w (Ret fun v w' => .bool r = v ∧ Sep w' (Fo) (rs)) := by
 unfold m_slices_ContainsFunc_api_Op_api_Op at hm
 refine enter Tryz.func57 rfl Tryz.ntmps57 rfl fun a E =>?_
 simp only [enum, Nat.reduceAdd] at E
 refine sq<|pr 1 E rfl fun a E=>nx<|pr 2 E rfl fun a E=>bd hm fun u4 hx5 hm=>x_cl E rfl rfl rfl rfl rfl cf117 (c_slices_IndexFunc_api_Op_api_Op v1 l2 H hr3 hx5)<|?_
 rintro _ w ⟨rfl, H⟩ a E
 refine pr 2 E rfl fun a E=>nt<|wp_ret<|out1 E rfl rfl<|?_
 cases hm
 exact ⟨rfl, H.reads (fun r hr => hr)⟩

def m_multi_May (l2 : List S_api_Op) : Option Bool :=
  (m_slices_ContainsFunc_api_Op_api_Op l2).bind fun u4 => if (decide ((l2.length : Int) > 0)) = true then (if (decide ((l2.length : Int) ≤ 8)) = true then (some (!u4)) else (some (false))) else (some (false))
theorem c_multi_May {w : World} {Fo : List Ob} {rs : List Rp} (v1 : Value) (l2 : List S_api_Op) (H : Sep w (Fo) rs) (hr3 : rSl k_api_Op v1 l2 ∈ rs) {r : Bool} (hm : m_multi_May l2 = some r) :
    Calls Tryz.prog 19 [v1].toArray w (Ret fun v w' => .bool r = v ∧ Sep w' (Fo) (rs)) := by
 unfold m_multi_May at hm
 refine enter Tryz.func19 rfl Tryz.ntmps19 rfl fun a E =>?_
 simp only [enum, Nat.reduceAdd] at E
 refine sq<|pr 1 E rfl fun a E=>nx<|pr 1 E rfl fun a E=>bd hm fun u4 hx5 hm=>x_cl E rfl rfl rfl rfl rfl cf57 (c_slices_ContainsFunc_api_Op_api_Op v1 l2 H hr3 hx5)<|?_
 rintro _ w ⟨rfl, H⟩ a E
 refine pr 1 E rfl fun a E=>nx<|pr 1 E rfl fun a E=>sv E rfl rfl rfl (x_lenS E H rfl rfl hr3 Tryz.underlying23) fun a E=>pr 2 E rfl fun a E=>cs hm (fun hb6 hm=>?_) fun hb6 hm=>?_
 ·refine pk 1 E (kc 9 rfl hb6) rfl fun a E=>st_val E (ws' (d := 9) E rfl rfl rfl rfl hb6) rfl rfl (x_lenS E H rfl rfl hr3 Tryz.underlying23) fun a E=>pk 3 E (kc 9 rfl hb6) rfl fun a E=>cs hm (fun hb7 hm=>?_) fun hb7 hm=>?_
  ·refine pk 4 E (kc 14 rfl hb7) rfl fun a E=>nt<|wp_ret<|out1 E rfl rfl<|?_
   cases hm
   exact ⟨rfl, H.reads (fun r hr => hr)⟩
  ·refine pk 4 E (kc 14 rfl hb7) rfl fun a E=>nt<|wp_ret<|out1 E rfl rfl<|?_
   cases hm
   exact ⟨rfl, H.reads (fun r hr => hr)⟩
 ·refine pk 9 E (kc 9 rfl hb6) rfl fun a E=>nt<|wp_ret<|out1 E rfl rfl<|?_
  cases hm
  exact ⟨rfl, H.reads (fun r hr => hr)⟩

def m_multi_Apply_j1 (l10 : (List S_api_Node)) (x12 : Int) (x13 : Int) (l15 : (List S_api_Result)) : Option ((List S_api_Node) × S_api_Done) :=
  some (l10, (⟨x12, x13, []⟩ : S_api_Done))
def m_multi_Apply_l1 (l4 : List S_api_Op) (l2 : List S_api_Node) : Nat → (List S_api_Node) → Int → (List S_api_Result) → Option ((List S_api_Node) × S_api_Done)
  | 0, _, _, _ => none
  | k1 + 1, l28, x29, l31 =>
    if (decide (x29 < (l4.length : Int))) = true then ((idx l4 x29).bind fun x38 => (m_nodes_Apply l28 x38).bind fun u42 => if (u42.2.Err != 0) = true then (m_multi_Apply_j1 l2 u42.2.Err x29 l31) else ((ck (l31.length + ([u42.2] : List S_api_Result).length ≤ LIM)).bind fun u51 => m_multi_Apply_l1 l4 l2 k1 u42.1 (IntKind.i64.wrap (x29 + 1)) (l31 ++ ([u42.2] : List S_api_Result)))) else (some (l28, (⟨0, 0, l31⟩ : S_api_Done)))
def m_multi_Apply_j2 (l4 : List S_api_Op) (l2 : List S_api_Node) (b21 : Bool) : Option ((List S_api_Node) × S_api_Done) :=
  if b21 = true then (m_multi_Apply_j1 ([] : List S_api_Node) 1 0 []) else (m_multi_Apply_l1 l4 l2 (((l4.length : Int) - 0 : Int).toNat + 1) l2 0 [])
def m_multi_Apply (l2 : List S_api_Node) (l4 : List S_api_Op) : Option ((List S_api_Node) × S_api_Done) :=
  (m_nodes_Right l2).bind fun u57 => if (!u57) = true then (m_multi_Apply_j2 l4 l2 true) else ((m_multi_May l4).bind fun u60 => m_multi_Apply_j2 l4 l2 (!u60))
theorem c_multi_Apply {w : World} {Fo : List Ob} {rs : List Rp} (v1 : Value) (l2 : List S_api_Node) (v3 : Value) (l4 : List S_api_Op) (H : Sep w (Fo) rs) (hr5 : rSl k_api_Node v1 l2 ∈ rs) (hr6 : rSl k_api_Op v3 l4 ∈ rs) (hr7 : rTab Tryz.prog ∈ rs) {r : (List S_api_Node) × S_api_Done} (hm : m_multi_Apply l2 l4 = some r) :
    Calls Tryz.prog 17 [v1, v3].toArray w (Ret fun v w' => ∃ (v5001 : Value) (v5004 : Value), .tuple #[v5001, .agg (l_api_Done r.2 v5004).toArray] = v ∧ Sep w' (Fo) (rSl k_api_Node v5001 r.1 :: rSl k_api_Result v5004 r.2.Results :: rs)) := by
 unfold m_multi_Apply at hm
 refine enter Tryz.func17 rfl Tryz.ntmps17 rfl fun a E =>?_
 simp only [enum, Nat.reduceAdd] at E
 refine sq<|pr 1 E rfl fun a E=>al E H rfl rfl rfl rfl zr30 fun p8 w a H E=>nt<|?_
 refine wp_scope_jumps 0 (fun a w => ∃ (v9 : Value) (p11 : Nat) (v14 : Value) (l10 : (List S_api_Node)) (x12 : Int) (x13 : Int) (l15 : (List S_api_Result)) (rs16 : List Rp), Env 57 a [(5, pt p8 0), (6, v9), (7, pt p11 0)] ∧ Sep w (Blk p8 30 z_api_Done :: Blk p11 30 [.int .i64 x12, .int .i64 x13, v14] :: Row 51 k_api_Result v14 l15 :: Fo) rs16 ∧ (∀ r, r ∈ rs → r ∈ rs16) ∧ rSl k_api_Node v9 l10 ∈ rs16 ∧ rTab Tryz.prog ∈ rs16 ∧ m_multi_Apply_j1 l10 x12 x13 l15 = some r) (fun _ _ => 0) rfl ?_ ?_
 ·refine sq<|pr 2 E rfl fun a E=>nx<|al E H rfl rfl rfl rfl zr30 fun p20 w a H E=>nt<|wp_seq<|wp_seq_cut (fun a w => ∃ (b21 : Bool) (rs22 : List Rp), Env 57 a [(0, v1), (1, v3), (5, pt p8 0), (6, v1), (7, pt p20 0), (20, .bool b21)] ∧ Sep w (Blk p8 30 z_api_Done :: Blk p20 30 z_api_Done :: Fo) rs22 ∧ (∀ r, r ∈ rs → r ∈ rs22) ∧ rSl k_api_Node v1 l2 ∈ rs22 ∧ rSl k_api_Op v3 l4 ∈ rs22 ∧ rTab Tryz.prog ∈ rs22 ∧ m_multi_Apply_j2 l4 l2 b21 = some r) ?_ ?_
  ·refine wp_region_lit<|pr 1 E rfl fun a E=>bd hm fun u57 hx58 hm=>x_cl E rfl rfl rfl rfl rfl cf55 (c_nodes_Right v1 l2 H hr5 hx58)<|?_
   rintro _ w ⟨rfl, H⟩ a E
   refine pr 2 E rfl fun a E=>cs hm (fun hb59 hm=>?_) fun hb59 hm=>?_
   ·exact pk 4 E (kc 16 rfl hb59) rfl fun a E=>nt<|have H:=H.front 0 rfl;have H:=H.front 1 rfl;⟨true, _, E.sel [0, 1, 5, 6, 7, 20] rfl, H, fun r hr => hr, hr5, hr6, hr7, hm⟩
   ·refine pk 1 E (kc 16 rfl hb59) rfl fun a E=>bd hm fun u60 hx61 hm=>st_call E (ws' (d := 16) E rfl rfl rfl rfl hb59) rfl rfl (x_call E rfl rfl (cf19 _)) (c_multi_May v3 l4 H hr6 hx61)<|?_
    rintro _ w ⟨rfl, H⟩ a E
    exact pk 2 E (kc 16 rfl hb59) rfl fun a E=>nt<|have H:=H.front 0 rfl;have H:=H.front 1 rfl;⟨!u60, _, E.sel [0, 1, 5, 6, 7, 20] rfl, H, fun r hr => hr, hr5, hr6, hr7, hm⟩
  ·clear E H hm
   rintro a w ⟨b21, rs22, E, H, hs23, hr24, hr25, hr26, hm⟩
   unfold m_multi_Apply_j2 at hm
   refine wif E hm rfl (fun hm=>?_) fun hm=>?_
   ·refine sq<|pr 1 E rfl fun a E=>st_st (i := 1) E H (wn rfl) rfl (us := [.int .i64 1]) rfl rfl rfl rfl rfl sz27 rfl rfl fun w H=>pr 1 E rfl fun a E=>nt<|wp_goto<|q_thenG<|q_jump<|have H:=H.nilSl k_api_Node;?_
    exact have H:=H.nilRow 51 k_api_Result;have H:=H.front 0 rfl;have H:=H.front 2 rfl;have H:=H.front 2 rfl;⟨(.slice none 0 0), p20, (.slice none 0 0), ([] : List S_api_Node), 1, 0, [], _, E.sel [5, 6, 7] rfl, H, fun r hr => (t1 (hs23 r hr)), m0, (t1 hr26), hm⟩
   ·refine wp_skip<|q_then<|wp_seq<|sq<|pr 1 E rfl fun a E=>sv E rfl rfl rfl (x_lenS E H rfl rfl hr25 Tryz.underlying23) fun a E=>pr 1 E rfl fun a E=>nt<|wp_block<|wp_loop_g (fun k1 a w => ∃ (v27 : Value) (v30 : Value) (l28 : (List S_api_Node)) (x29 : Int) (l31 : (List S_api_Result)) (rs32 : List Rp), Env 57 a [(0, v1), (5, pt p8 0), (6, v27), (7, pt p20 0), (22, v3), (23, .int .i64 (l4.length : Int)), (24, .int .i64 x29)] ∧ Sep w (Blk p8 30 z_api_Done :: Blk p20 30 [.int .i64 0, .int .i64 0, v30] :: Row 51 k_api_Result v30 l31 :: Fo) rs32 ∧ (∀ r, r ∈ rs → r ∈ rs32) ∧ rSl k_api_Node v1 l2 ∈ rs32 ∧ rSl k_api_Node v27 l28 ∈ rs32 ∧ rSl k_api_Op v3 l4 ∈ rs32 ∧ rTab Tryz.prog ∈ rs32 ∧ m_multi_Apply_l1 l4 l2 k1 l28 x29 l31 = some r) (((l4.length : Int) - 0 : Int).toNat + 1) ?_ ?_
    ·exact have H:=H.nilRow 51 k_api_Result;have H:=H.front 0 rfl;have H:=H.front 2 rfl;have H:=H.front 2 rfl;⟨v1, (.slice none 0 0), l2, 0, [], _, E.sel [0, 5, 6, 7, 22, 23, 24] rfl, H, hs23, hr24, hr24, hr25, hr26, hm⟩
    ·clear E H hm
     rintro k1 a w ⟨v27, v30, l28, x29, l31, rs32, E, H, hs33, hr34, hr35, hr36, hr37, hm⟩
     cases k1 with
     | zero => exact (none_some hm rfl).elim
     | succ k1 =>
      unfold m_multi_Apply_l1 at hm
      refine sq<|pr 1 E rfl fun a E=>nt<|wp_seq<|wif E hm rfl (fun hm=>?_) fun hm=>?_
      ·refine wp_skip<|q_then<|wp_seq<|wp_block<|sq<|pr 1 E rfl fun a E=>bd hm fun x38 hx39 hm=>st_ixS E H (wn rfl) rfl rfl rfl rfl rfl hr36 Tryz.underlying23 sz55 hx39 fun q40 a H E=>ldf k_api_Op_flat E H rfl rfl rfl rfl rfl m0 Tryz.underlying55 rfl sz55 fun a E=>?_
       refine al E H rfl rfl rfl rfl zr55 fun p41 w a H E=>pr 1 E rfl fun a E=>st_st (i := 0) E H (wn rfl) rfl (us := (l_api_Op x38)) rfl rfl rfl rfl rfl sz55 rfl rfl fun w H=>nx<|pr 1 E rfl fun a E=>sv E rfl rfl rfl (x_ldBN (i := 0) (us := (l_api_Op x38)) E H rfl rfl rfl rfl Tryz.underlying55 rfl sz55) fun a E=>bd hm fun u42 hx43 hm=>x_cl E rfl rfl rfl rfl rfl cf32 (c_nodes_Apply v27 l28 x38 H (t1 hr35) (t1 hr37) hx43)<|?_
       rintro _ w ⟨v44, v45, rfl, H⟩ a E
       refine pr 3 E rfl fun a E=>al E H rfl rfl rfl rfl zr51 fun p46 w a H E=>pr 1 E rfl fun a E=>?_
       obtain ⟨q47, x48, rfl⟩ := H.slform mm1
       refine st_st (i := 0) E H (wn rfl) rfl (us := (l_api_Result u42.2 (.slice q47 u42.2.Names.length x48))) rfl rfl rfl rfl rfl sz51 rfl rfl fun w H=>nt<|wp_seq<|sq<|pr 1 E rfl fun a E=>lb E H 0 rfl rfl rfl rfl rfl rfl rfl Tryz.underlying27 rfl fun a E=>pr 1 E rfl fun a E=>nt<|wif E hm rfl (fun hm=>?_) fun hm=>?_
       ·refine sq<|pr 1 E rfl fun a E=>lb E H 0 rfl rfl rfl rfl rfl rfl rfl Tryz.underlying27 rfl fun a E=>pr 3 E rfl fun a E=>st_st (i := 3) E H (wn rfl) rfl (us := [.int .i64 u42.2.Err]) rfl rfl rfl rfl rfl sz27 rfl rfl fun w H=>pr 1 E rfl fun a E=>st_st (i := 3) E H (wn rfl) rfl (us := [.int .i64 x29]) rfl rfl rfl rfl rfl sz3 rfl rfl fun w H=>pr 1 E rfl fun a E=>nt<|?_
        refine wp_goto<|q_thenG<|q_blkG<|q_thenG<|q_thenG<|q_blkG<|q_thenG<|q_jump<|have H:=H.drop 0;?_
        exact have H:=H.drop 0;⟨v1, p20, v30, l2, u42.2.Err, x29, l31, _, E.sel [5, 6, 7] rfl, H, fun r hr => (t3 (hs33 r hr)), (t3 hr34), (t3 hr37), hm⟩
       ·refine wp_skip<|q_then<|sq<|pr 2 E rfl fun a E=>nt<|wp_region_lit<|pr 1 E rfl fun a E=>lb E H 3 rfl rfl rfl rfl rfl rfl rfl Tryz.underlying28 rfl fun a E=>sv E rfl rfl rfl (x_ldBN (i := 0) (us := (l_api_Result u42.2 (.slice q47 u42.2.Names.length x48))) E H rfl rfl rfl rfl Tryz.underlying51 rfl sz51) fun a E=>?_
        refine st_bsR (e := 51) (d := k_api_Result) (cs := [.int .i64 u42.2.Err, .string u42.2.Path, .string u42.2.Data, .int .i64 u42.2.Version, (.slice q47 u42.2.Names.length x48)]) (xs := [u42.2]) E H (wn rfl) rfl rfl rfl (E.evs rfl) (by kernel_rfl) rfl (fun ok hr => (Rows.single (d := k_api_Result) (cs := [.int .i64 u42.2.Err, .string u42.2.Path, .string u42.2.Data, .int .i64 u42.2.Version, (.slice q47 u42.2.Names.length x48)]) (x := u42.2) (k_api_Result_mk (hr _ mm1)))) fun v49 w a H E=>bk hm fun hx52 hm=>st_append (i := 4) E H (wn rfl) rfl rfl rfl rfl rfl rfl (src_rd m0) Tryz.underlying28 inf51 rfl hx52 rfl fun v50 w a H E=>pr 1 E rfl fun a E=>?_
        obtain ⟨q53, x54, rfl⟩ := H.rowform (i := 4) rfl
        exact st_st (i := 3) E H (wn rfl) rfl (us := [(.slice q53 (l31 ++ ([u42.2] : List S_api_Result)).length x54)]) rfl rfl rfl rfl rfl sz28 rfl rfl fun w H=>wpList_nil<|q_blk<|q_then<|wp_region_lit<|pr 2 E rfl fun a E=>nt<|have H:=H.drop 0;have H:=H.drop 0;⟨k1, Nat.lt_succ_self k1, v44, (.slice q53 (l31 ++ ([u42.2] : List S_api_Result)).length x54), u42.1, IntKind.i64.wrap (x29 + 1), l31 ++ ([u42.2] : List S_api_Result), _, E.sel [0, 5, 6, 7, 22, 23, 24] rfl, H, fun r hr => (t4 (hs33 r hr)), (t4 hr34), mm1, (t4 hr36), (t4 hr37), hm⟩
      ·refine wp_exit<|q_thenX<|q_thenX<|q_hit<|q_then<|wp_seq<|wp_seq<|dw [(0, 0), (1, 0), (2, 1), (3, 2)] [1] [] H (by kernel_rfl) (fun _ _ _ h => False.elim h.2) fun w W0 hI H=>fn 1 E rfl fun a E=>?_
       refine fbn E [.int .i64 0, .int .i64 0, v30] rfl (wn rfl) rfl rfl rfl rfl m0 rfl Tryz.underlying30 rfl sz30 fun a E=>fr_op rfl<|pr 1 E rfl fun a E=>nt<|?_
       refine ⟨⟨_, _, H, (subO_cons mm1 (subO_nil)), (sub_nil)⟩, ?_⟩
       refine fr_tail rfl<|?_
       obtain ⟨q55, x56, rfl⟩ := H.rowform (i := 2) rfl
       refine st_st (i := 0) E H (wn rfl) rfl (us := [.int .i64 0, .int .i64 0, (.slice q55 l31.length x56)]) rfl rfl rfl rfl rfl sz30 rfl rfl fun w H=>nt<|fr_nil<|?_
       clear hI
       refine q_then<|wp_ret<|q_thenR<|q_jumpR<|outR2 E rfl (rvT rfl) (rvBN (i := 0) (us := [.int .i64 0, .int .i64 0, (.slice q55 l31.length x56)]) H rfl rfl rfl Tryz.underlying30 rfl sz30)<|have H:=H.thaw (i := 2) rfl;have H:=H.drop 0;have H:=H.drop 0;?_
       cases hm
       exact ⟨v27, (.slice q55 l31.length x56), rfl, H.reads (sub_cons (t1 hr35) (sub_cons m0 (fun r hr => (t1 (hs33 r hr)))))⟩
 ·clear E H hm
  rintro a w ⟨v9, p11, v14, l10, x12, x13, l15, rs16, E, H, hs17, hr18, hr19, hm⟩
  unfold m_multi_Apply_j1 at hm
  refine wp_seq<|wp_skip<|q_then<|sq<|pr 1 E rfl fun a E=>st_st (i := 1) E H (wn rfl) rfl (us := [.slice none 0 0]) rfl rfl rfl rfl rfl sz28 rfl rfl fun w H=>nt<|wp_seq<|dw [(0, 0), (1, 0), (2, 1), (3, 2)] [1] [] H (by kernel_rfl) (fun _ _ _ h => False.elim h.2) fun w W0 hI H=>?_
  refine fn 1 E rfl fun a E=>fbn E [.int .i64 x12, .int .i64 x13, .slice none 0 0] rfl (wn rfl) rfl rfl rfl rfl m0 rfl Tryz.underlying30 rfl sz30 fun a E=>fr_op rfl<|pr 1 E rfl fun a E=>nt<|?_
  refine ⟨⟨_, _, H, (subO_cons mm1 (subO_nil)), (sub_nil)⟩, ?_⟩
  refine fr_tail rfl<|st_st (i := 0) E H (wn rfl) rfl (us := [.int .i64 x12, .int .i64 x13, .slice none 0 0]) rfl rfl rfl rfl rfl sz30 rfl rfl fun w H=>nt<|fr_nil<|?_
  clear hI
  refine q_then<|wp_ret<|q_jumpR<|outR2 E rfl (rvT rfl) (rvBN (i := 0) (us := [.int .i64 x12, .int .i64 x13, .slice none 0 0]) H rfl rfl rfl Tryz.underlying30 rfl sz30)<|have H:=H.nilSl k_api_Result;have H:=H.drop 0;have H:=H.drop 0;have H:=H.drop 0;?_
  cases hm
  exact ⟨v9, (.slice none 0 0), rfl, H.reads (sub_cons (t1 hr18) (sub_cons m0 (fun r hr => (t1 (hs17 r hr)))))⟩

def m_part_Of_1 (l2 : List S_api_Part) (l5 : List S_api_Part) : Option (List S_api_Part) :=
  (ck (l5.length + l2.length ≤ LIM)).bind fun u8 => some (l5 ++ l2)
theorem c_part_Of_1 {w : World} {Fo : List Ob} {rs : List Rp} (v1 : Value) (l2 : List S_api_Part) (p3 : Nat) (v4 : Value) (l5 : List S_api_Part) (H : Sep w (Blk p3 59 [v4] :: Row 62 k_api_Part v4 l5 :: Fo) rs) (hr6 : rSl k_api_Part v1 l2 ∈ rs) {r : (List S_api_Part)} (hm : m_part_Of_1 l2 l5 = some r) :
    Calls Tryz.prog 72 [v1, pt p3 0].toArray w (Ret fun v w' => ∃ (v5001 : Value), .tuple #[] = v ∧ Sep w' (Blk p3 59 [v5001] :: Row 62 k_api_Part v5001 r :: Fo) (rs)) := by
 unfold m_part_Of_1 at hm
 refine enter Tryz.func72 rfl Tryz.ntmps72 rfl fun a E =>?_
 simp only [enum, Nat.reduceAdd] at E
 refine wp_region_lit<|lb E H 0 rfl rfl rfl rfl rfl rfl rfl Tryz.underlying59 rfl fun a E=>pr 1 E rfl fun a E=>bk hm fun hx9 hm=>st_append (i := 1) E H (wn rfl) rfl rfl rfl rfl rfl rfl (src_rd hr6) Tryz.underlying59 inf62 rfl hx9 rfl fun v7 w a H E=>?_
 obtain ⟨q10, x11, rfl⟩ := H.rowform (i := 1) rfl
 refine st_st (i := 0) E H (wn rfl) rfl (us := [(.slice q10 (l5 ++ l2).length x11)]) rfl rfl rfl rfl rfl sz59 rfl rfl fun w H=>wpList_nil<|out0 E rfl<|?_
 cases hm
 exact ⟨(.slice q10 (l5 ++ l2).length x11), rfl, H.reads (fun r hr => hr)⟩

def m_part_Of_2 (x1 : Int) (s3 : ByteArray) (x5 : Int) (s6 : ByteArray) (s7 : ByteArray) (x8 : Int) (x9 : Int) (b10 : Bool) : Option S_api_Part :=
  some ((⟨x1, s3, s6, (ByteArray.mk #[]), 0, 0, false⟩ : S_api_Part))
theorem c_part_Of_2 {w : World} {Fo : List Ob} {rs : List Rp} (x1 : Int) (p2 : Nat) (s3 : ByteArray) (p4 : Nat) (x5 : Int) (s6 : ByteArray) (s7 : ByteArray) (x8 : Int) (x9 : Int) (b10 : Bool) (H : Sep w (Blk p2 9 [.string s3] :: Blk p4 55 [.int .i64 x5, .string s6, .string s7, .int .i64 x8, .int .i64 x9, .bool b10] :: Fo) rs) {r : S_api_Part} (hm : m_part_Of_2 x1 s3 x5 s6 s7 x8 x9 b10 = some r) :
    Calls Tryz.prog 74 [.int .i64 x1, pt p2 0, pt p4 0].toArray w (Ret fun v w' => .agg (l_api_Part r).toArray = v ∧ Sep w' (Blk p2 9 [.string s3] :: Blk p4 55 [.int .i64 x5, .string s6, .string s7, .int .i64 x8, .int .i64 x9, .bool b10] :: Fo) (rs)) := by
 unfold m_part_Of_2 at hm
 refine enter Tryz.func74 rfl Tryz.ntmps74 rfl fun a E =>?_
 simp only [enum, Nat.reduceAdd] at E
 refine sq<|al E H rfl rfl rfl rfl zr62 fun p11 w a H E=>nx<|pr 1 E rfl fun a E=>lb E H 1 rfl rfl rfl rfl rfl rfl rfl Tryz.underlying9 rfl fun a E=>pr 1 E rfl fun a E=>lb E H 2 rfl rfl rfl rfl rfl rfl rfl Tryz.underlying9 rfl fun a E=>sv E rfl rfl rfl (x_build E rfl (E.evs rfl) (v := .agg #[.int .i64 x1, .string s3, .string s6, .string (ByteArray.mk #[]), .int .i64 0, .int .i64 0, .bool false]) (by kernel_rfl)) fun a E=>st_st (i := 0) E H (wn rfl) rfl (us := [.int .i64 x1, .string s3, .string s6, .string (ByteArray.mk #[]), .int .i64 0, .int .i64 0, .bool false]) rfl rfl rfl rfl rfl sz62 rfl rfl fun w H=>?_
 refine nt<|wp_ret<|outR1 E rfl (rvBN (i := 0) (us := [.int .i64 x1, .string s3, .string s6, .string (ByteArray.mk #[]), .int .i64 0, .int .i64 0, .bool false]) H rfl rfl rfl Tryz.underlying62 rfl sz62)<|have H:=H.drop 0;?_
 cases hm
 exact ⟨rfl, H.reads (fun r hr => hr)⟩

def m_part_Of_3 (x1 : Int) (x3 : Int) (s4 : ByteArray) (s5 : ByteArray) (x6 : Int) (x7 : Int) (b8 : Bool) : Option S_api_Part :=
  some ((⟨x1, s4, s4, (ByteArray.mk #[]), 0, x7, false⟩ : S_api_Part))
theorem c_part_Of_3 {w : World} {Fo : List Ob} {rs : List Rp} (x1 : Int) (p2 : Nat) (x3 : Int) (s4 : ByteArray) (s5 : ByteArray) (x6 : Int) (x7 : Int) (b8 : Bool) (H : Sep w (Blk p2 55 [.int .i64 x3, .string s4, .string s5, .int .i64 x6, .int .i64 x7, .bool b8] :: Fo) rs) {r : S_api_Part} (hm : m_part_Of_3 x1 x3 s4 s5 x6 x7 b8 = some r) :
    Calls Tryz.prog 75 [.int .i64 x1, pt p2 0].toArray w (Ret fun v w' => .agg (l_api_Part r).toArray = v ∧ Sep w' (Blk p2 55 [.int .i64 x3, .string s4, .string s5, .int .i64 x6, .int .i64 x7, .bool b8] :: Fo) (rs)) := by
 unfold m_part_Of_3 at hm
 refine enter Tryz.func75 rfl Tryz.ntmps75 rfl fun a E =>?_
 simp only [enum, Nat.reduceAdd] at E
 refine sq<|al E H rfl rfl rfl rfl zr62 fun p9 w a H E=>nx<|pr 2 E rfl fun a E=>lb E H 1 rfl rfl rfl rfl rfl rfl rfl Tryz.underlying9 rfl fun a E=>pr 1 E rfl fun a E=>lb E H 1 rfl rfl rfl rfl rfl rfl rfl Tryz.underlying9 rfl fun a E=>pr 1 E rfl fun a E=>lb E H 1 rfl rfl rfl rfl rfl rfl rfl Tryz.underlying2 rfl fun a E=>?_
 refine sv E rfl rfl rfl (x_build E rfl (E.evs rfl) (v := .agg #[.int .i64 x1, .string s4, .string s4, .string (ByteArray.mk #[]), .int .i64 0, .int .i64 x7, .bool false]) (by kernel_rfl)) fun a E=>st_st (i := 0) E H (wn rfl) rfl (us := [.int .i64 x1, .string s4, .string s4, .string (ByteArray.mk #[]), .int .i64 0, .int .i64 x7, .bool false]) rfl rfl rfl rfl rfl sz62 rfl rfl fun w H=>nt<|wp_ret<|outR1 E rfl (rvBN (i := 0) (us := [.int .i64 x1, .string s4, .string s4, .string (ByteArray.mk #[]), .int .i64 0, .int .i64 x7, .bool false]) H rfl rfl rfl Tryz.underlying62 rfl sz62)<|have H:=H.drop 0;?_
 cases hm
 exact ⟨rfl, H.reads (fun r hr => hr)⟩

def m_part_Of_4 (x1 : Int) (s4 : ByteArray) (x6 : Int) (s7 : ByteArray) (s8 : ByteArray) (x9 : Int) (x10 : Int) (b11 : Bool) : Option S_api_Part :=
  (m_part_Of_2 x1 s4 x6 s7 s8 x9 x10 b11).bind fun u13 => some ((⟨u13.Kind, u13.Dir, u13.Path, u13.Data, x9, u13.Owner, u13.Turns⟩ : S_api_Part))
theorem c_part_Of_4 {w : World} {Fo : List Ob} {rs : List Rp} (x1 : Int) (p2 : Nat) (p3 : Nat) (s4 : ByteArray) (p5 : Nat) (x6 : Int) (s7 : ByteArray) (s8 : ByteArray) (x9 : Int) (x10 : Int) (b11 : Bool) (H : Sep w (Blk p2 96 [.func (.func 74) #[] #[pt p3 0, pt p5 0]] :: Blk p3 9 [.string s4] :: Blk p5 55 [.int .i64 x6, .string s7, .string s8, .int .i64 x9, .int .i64 x10, .bool b11] :: Fo) rs) {r : S_api_Part} (hm : m_part_Of_4 x1 s4 x6 s7 s8 x9 x10 b11 = some r) :
    Calls Tryz.prog 76 [.int .i64 x1, pt p2 0, pt p5 0].toArray w (Ret fun v w' => .agg (l_api_Part r).toArray = v ∧ Sep w' (Blk p2 96 [.func (.func 74) #[] #[pt p3 0, pt p5 0]] :: Blk p3 9 [.string s4] :: Blk p5 55 [.int .i64 x6, .string s7, .string s8, .int .i64 x9, .int .i64 x10, .bool b11] :: Fo) (rs)) := by
 unfold m_part_Of_4 at hm
 refine enter Tryz.func76 rfl Tryz.ntmps76 rfl fun a E =>?_
 simp only [enum, Nat.reduceAdd] at E
 refine sq<|al E H rfl rfl rfl rfl zr62 fun p12 w a H E=>nx<|lb E H 1 rfl rfl rfl rfl rfl rfl rfl Tryz.underlying96 rfl fun a E=>pr 1 E rfl fun a E=>have H:=H.front 1 rfl;have H:=H.front 1 rfl;have H:=H.front 3 rfl;have H:=H.front 3 rfl;?_
 refine bd hm fun u13 hx14 hm=>st_call E (wn rfl) rfl rfl (x_callv E rfl rfl rfl (cf74 _)) (c_part_Of_2 x1 p3 s4 p5 x6 s7 s8 x9 x10 b11 H hx14)<|?_
 rintro _ w ⟨rfl, H⟩ a E
 refine al E H rfl rfl rfl rfl zr62 fun p15 w a H E=>st_st (i := 0) E H (wn rfl) rfl (us := (l_api_Part u13)) rfl rfl rfl rfl rfl sz62 rfl rfl fun w H=>nx<|pr 1 E rfl fun a E=>lb E H 2 rfl rfl rfl rfl rfl rfl rfl Tryz.underlying2 rfl fun a E=>pr 1 E rfl fun a E=>st_st (i := 0) E H (wn rfl) rfl (us := [.int .i64 x9]) rfl rfl rfl rfl rfl sz2 rfl rfl fun w H=>nx<|sv E rfl rfl rfl (x_ldBN (i := 0) (us := [.int .i64 u13.Kind, .string u13.Dir, .string u13.Path, .string u13.Data, .int .i64 x9, .int .i64 u13.Owner, .bool u13.Turns]) E H rfl rfl rfl rfl Tryz.underlying62 rfl sz62) fun a E=>?_
 refine st_st (i := 3) E H (wn rfl) rfl (us := [.int .i64 u13.Kind, .string u13.Dir, .string u13.Path, .string u13.Data, .int .i64 x9, .int .i64 u13.Owner, .bool u13.Turns]) rfl rfl rfl rfl rfl sz62 rfl rfl fun w H=>nt<|wp_ret<|outR1 E rfl (rvBN (i := 3) (us := [.int .i64 u13.Kind, .string u13.Dir, .string u13.Path, .string u13.Data, .int .i64 x9, .int .i64 u13.Owner, .bool u13.Turns]) H rfl rfl rfl Tryz.underlying62 rfl sz62)<|have H:=H.drop 0;have H:=H.drop 2;have H:=H.front 1 rfl;have H:=H.front 1 rfl;have H:=H.front 2 rfl;?_
 cases hm
 exact ⟨rfl, H.reads (fun r hr => hr)⟩

def m_part_Of_j1 (l11 : (List S_api_Part)) : Option (List S_api_Part) :=
  some (l11)
def m_part_Of (x1 : S_api_Op) : Option (List S_api_Part) :=
  (m_nodes_May x1).bind fun u3 => if (!u3) = true then (some ([])) else ((m_part_up x1.Path).bind fun u6 => if (x1.Kind == 1) = true then ((m_part_Of_2 2 u6 x1.Kind x1.Path x1.Data x1.Version x1.Owner x1.Turns).bind fun u14 => (m_part_up u6).bind fun u17 => (m_part_Of_1 ([(⟨1, u17, u6, (ByteArray.mk #[]), 0, 0, false⟩ : S_api_Part), (⟨u14.Kind, u14.Dir, u14.Path, x1.Data, u14.Version, x1.Owner, x1.Turns⟩ : S_api_Part)] : List S_api_Part) []).bind fun u20 => m_part_Of_j1 u20) else (if (x1.Kind == 2) = true then ((m_part_Of_4 3 u6 x1.Kind x1.Path x1.Data x1.Version x1.Owner x1.Turns).bind fun u23 => (m_part_Of_3 4 x1.Kind x1.Path x1.Data x1.Version x1.Owner x1.Turns).bind fun u25 => (m_part_Of_1 ([u23, u25] : List S_api_Part) []).bind fun u28 => m_part_Of_j1 u28) else (if (x1.Kind == 3) = true then ((m_part_Of_4 5 u6 x1.Kind x1.Path x1.Data x1.Version x1.Owner x1.Turns).bind fun u31 => (m_part_Of_1 ([(⟨u31.Kind, u31.Dir, u31.Path, x1.Data, u31.Version, u31.Owner, u31.Turns⟩ : S_api_Part)] : List S_api_Part) []).bind fun u35 => m_part_Of_j1 u35) else (if (x1.Kind == 4) = true then ((m_part_Of_4 6 u6 x1.Kind x1.Path x1.Data x1.Version x1.Owner x1.Turns).bind fun u38 => (m_part_Of_1 ([u38] : List S_api_Part) []).bind fun u41 => m_part_Of_j1 u41) else (if (x1.Kind == 5) = true then ((m_part_Of_2 7 u6 x1.Kind x1.Path x1.Data x1.Version x1.Owner x1.Turns).bind fun u44 => (m_part_Of_1 ([u44] : List S_api_Part) []).bind fun u47 => m_part_Of_j1 u47) else (if (x1.Kind == 6) = true then ((m_part_Of_2 8 u6 x1.Kind x1.Path x1.Data x1.Version x1.Owner x1.Turns).bind fun u50 => (m_part_Of_3 9 x1.Kind x1.Path x1.Data x1.Version x1.Owner x1.Turns).bind fun u52 => (m_part_Of_1 ([u50, u52] : List S_api_Part) []).bind fun u55 => m_part_Of_j1 u55) else (if (x1.Kind == 7) = true then ((m_part_Of_2 8 u6 x1.Kind x1.Path x1.Data x1.Version x1.Owner x1.Turns).bind fun u58 => (m_part_Of_3 10 x1.Kind x1.Path x1.Data x1.Version x1.Owner x1.Turns).bind fun u60 => (m_part_Of_1 ([u58, u60] : List S_api_Part) []).bind fun u63 => m_part_Of_j1 u63) else (m_part_Of_j1 []))))))))
theorem c_part_Of {w : World} {Fo : List Ob} {rs : List Rp} (x1 : S_api_Op) (H : Sep w (Fo) rs) {r : (List S_api_Part)} (hm : m_part_Of x1 = some r) :
    Calls Tryz.prog 37 [.agg (l_api_Op x1).toArray].toArray w (Ret fun v w' => ∃ (v5001 : Value), v5001 = v ∧ Sep w' (Row 62 k_api_Part v5001 r :: Fo) (rs)) := by
 unfold m_part_Of at hm
 refine enter Tryz.func37 rfl Tryz.ntmps37 rfl fun a E =>?_
 simp only [enum, Nat.reduceAdd] at E
 refine sq<|st_box E H (wn rfl) rfl rfl (cs := (l_api_Op x1)) rfl rfl rfl fun p2 w a H E=>pr 1 E rfl fun a E=>nt<|wp_seq<|sq<|sv E rfl rfl rfl (x_ldBN (i := 0) (us := (l_api_Op x1)) E H rfl rfl rfl rfl Tryz.underlying55 rfl sz55) fun a E=>bd hm fun u3 hx4 hm=>x_cl E rfl rfl rfl rfl rfl cf53 (c_nodes_May x1 H hx4)<|?_
 rintro _ w ⟨rfl, H⟩ a E
 refine pr 1 E rfl fun a E=>nt<|wif E hm rfl (fun hm=>?_) fun hm=>?_
 ·refine sq<|pr 1 E rfl fun a E=>nt<|wp_ret<|q_thenR<|out1 E rfl rfl<|have H:=H.nilRow 62 k_api_Part;have H:=H.drop 1;?_
  cases hm
  exact ⟨(.slice none 0 0), rfl, H.reads (fun r hr => hr)⟩
 ·refine wp_skip<|q_then<|sq<|al1 E H rfl rfl rfl rfl zr59 rfl fun p5 w a H E=>nx<|sv E rfl rfl rfl (x_func E rfl rfl rfl) fun a E=>pr 1 E rfl fun a E=>nx<|pr 1 E rfl fun a E=>?_
  refine lb E H 1 rfl rfl rfl rfl rfl rfl rfl Tryz.underlying9 rfl fun a E=>bd hm fun u6 hx7 hm=>x_cl E rfl rfl rfl rfl rfl cf73 (c_part_up x1.Path H hx7)<|?_
  rintro _ w ⟨rfl, H⟩ a E
  refine al1 E H rfl rfl rfl rfl zr9 rfl fun p8 w a H E=>st_st (i := 0) E H (wn rfl) rfl (us := [.string u6]) rfl rfl rfl rfl rfl sz9 rfl rfl fun w H=>nx<|sv E rfl rfl rfl (x_func E rfl rfl rfl) fun a E=>al1 E H rfl rfl rfl rfl zr96 rfl fun p9 w a H E=>st_st (i := 0) E H (wn rfl) rfl (us := [.func (.func 74) #[] #[pt p8 0, pt p2 0]]) rfl rfl rfl rfl rfl sz96 rfl rfl fun w H=>nx<|sv E rfl rfl rfl (x_func E rfl rfl rfl) fun a E=>pr 1 E rfl fun a E=>?_
  refine nx<|sv E rfl rfl rfl (x_func E rfl rfl rfl) fun a E=>pr 1 E rfl fun a E=>nt<|wp_seq_cut (fun a w => ∃ (v10 : Value) (l11 : (List S_api_Part)) (rs12 : List Rp), Env 97 a [(3, pt p5 0)] ∧ Sep w (Blk p5 59 [v10] :: Row 62 k_api_Part v10 l11 :: Fo) rs12 ∧ (∀ r, r ∈ rs → r ∈ rs12) ∧ m_part_Of_j1 l11 = some r) ?_ ?_
  ·refine sq<|pr 1 E rfl fun a E=>lb E H 3 rfl rfl rfl rfl rfl rfl rfl Tryz.underlying3 rfl fun a E=>nt<|wp_block<|sq<|pr 2 E rfl fun a E=>nt<|wif E hm rfl (fun hm=>?_) fun hm=>?_
   ·refine sq<|lb E H 0 rfl rfl rfl rfl rfl rfl rfl Tryz.underlying96 rfl fun a E=>have H:=H.front 2 rfl;have H:=H.front 1 rfl;have H:=H.front 3 rfl;have H:=H.front 3 rfl;bd hm fun u14 hx15 hm=>st_call E (wn rfl) rfl rfl (x_callv E rfl rfl rfl (cf74 _)) (c_part_Of_2 2 p8 u6 p2 x1.Kind x1.Path x1.Data x1.Version x1.Owner x1.Turns H hx15)<|?_
    rintro _ w ⟨rfl, H⟩ a E
    refine al E H rfl rfl rfl rfl zr62 fun p16 w a H E=>st_st (i := 0) E H (wn rfl) rfl (us := (l_api_Part u14)) rfl rfl rfl rfl rfl sz62 rfl rfl fun w H=>nt<|wp_seq<|dw [(0, 0), (1, 0), (2, 0), (3, 0), (4, 0), (5, 0), (6, 0), (7, 1), (8, 0), (9, 1), (10, 2), (11, 2)] [2] [] H (by kernel_rfl) (fun _ _ _ h => False.elim h.2) fun w W0 hI H=>fn 1 E rfl fun a E=>fb E rfl (wn rfl) rfl rfl rfl rfl m0 rfl Tryz.underlying9 rfl fun a E=>fn 1 E rfl fun a E=>fb E rfl (wn rfl) rfl rfl rfl rfl m0 rfl Tryz.underlying2 rfl fun a E=>?_
    refine fn 1 E rfl fun a E=>fb E rfl (wn rfl) rfl rfl rfl rfl m0 rfl Tryz.underlying4 rfl fun a E=>fn 1 E rfl fun a E=>fr_op rfl<|st_st (i := 0) E H (wn rfl) rfl (us := [.string x1.Data]) rfl rfl rfl rfl rfl sz9 rfl rfl fun w H=>nt<|?_
    refine ⟨⟨_, _, H, (subO_cons mm2 (subO_nil)), (sub_nil)⟩, ?_⟩
    refine fn 1 E rfl fun a E=>fr_op rfl<|st_st (i := 0) E H (wn rfl) rfl (us := [.int .i64 x1.Owner]) rfl rfl rfl rfl rfl sz2 rfl rfl fun w H=>nt<|?_
    refine ⟨⟨_, _, H, (subO_cons mm2 (subO_nil)), (sub_nil)⟩, ?_⟩
    refine fr_tail rfl<|pr 1 E rfl fun a E=>nt<|fr_tail rfl<|st_st (i := 0) E H (wn rfl) rfl (us := [.bool x1.Turns]) rfl rfl rfl rfl rfl sz4 rfl rfl fun w H=>nt<|fr_nil<|?_
    clear hI
    refine q_then<|dw [(0, 0), (1, 0), (3, 0), (5, 0), (2, 1), (4, 0), (6, 1), (7, 1)] [0, 1] [] H (by kernel_rfl) (fun _ _ _ h => False.elim h.2) fun w W0 hI H=>fn 1 E rfl fun a E=>fb E rfl (wn rfl) rfl rfl rfl rfl mm1 rfl Tryz.underlying9 rfl fun a E=>fb E rfl (wn rfl) rfl rfl rfl rfl mm1 rfl Tryz.underlying9 rfl fun a E=>fbn E [.int .i64 u14.Kind, .string u14.Dir, .string u14.Path, .string x1.Data, .int .i64 u14.Version, .int .i64 x1.Owner, .bool x1.Turns] rfl (wn rfl) rfl rfl rfl rfl m0 rfl Tryz.underlying62 rfl sz62 fun a E=>fr_op rfl<|bd hm fun u17 hx18 hm=>x_cl E rfl rfl rfl rfl rfl cf73 (c_part_up u6 H hx18)<|?_
    rintro _ w ⟨rfl, H⟩ a E
    refine nt<|?_
    refine ⟨⟨_, _, H, (subO_cons m0 (subO_cons mm1 (subO_nil))), (sub_nil)⟩, ?_⟩
    refine fr_val E rfl (wn rfl) rfl rfl (fun w hW=>(x_build E rfl (E.evs rfl) (v := .agg #[.int .i64 1, .string u17, .string u6, .string (ByteArray.mk #[]), .int .i64 0, .int .i64 0, .bool false]) (by kernel_rfl))) fun a E=>?_
    refine fr_op rfl<|st_bsO (e := 62) (d := k_api_Part) (cs := [.int .i64 1, .string u17, .string u6, .string (ByteArray.mk #[]), .int .i64 0, .int .i64 0, .bool false, .int .i64 u14.Kind, .string u14.Dir, .string u14.Path, .string x1.Data, .int .i64 u14.Version, .int .i64 x1.Owner, .bool x1.Turns]) (xs := [(⟨1, u17, u6, (ByteArray.mk #[]), 0, 0, false⟩ : S_api_Part), (⟨u14.Kind, u14.Dir, u14.Path, x1.Data, u14.Version, x1.Owner, x1.Turns⟩ : S_api_Part)]) E H (wn rfl) rfl rfl rfl (E.evs rfl) (by kernel_rfl) rfl rfl (fun ok hr => (Rows.append (Rows.single (d := k_api_Part) (cs := [.int .i64 1, .string u17, .string u6, .string (ByteArray.mk #[]), .int .i64 0, .int .i64 0, .bool false]) (x := (⟨1, u17, u6, (ByteArray.mk #[]), 0, 0, false⟩ : S_api_Part)) k_api_Part_mk) (Rows.single (d := k_api_Part) (cs := [.int .i64 u14.Kind, .string u14.Dir, .string u14.Path, .string x1.Data, .int .i64 u14.Version, .int .i64 x1.Owner, .bool x1.Turns]) (x := (⟨u14.Kind, u14.Dir, u14.Path, x1.Data, u14.Version, x1.Owner, x1.Turns⟩ : S_api_Part)) k_api_Part_mk))) fun v19 w a H E=>nt<|?_
    refine ⟨⟨_, _, H, (subO_cons mm1 (subO_cons mm2 (subO_nil))), (sub_nil)⟩, ?_⟩
    refine fr_op rfl<|have H:=H.thaw (i := 0) rfl;have H:=H.nilRow 62 k_api_Part;have H:=H.front 4 rfl;have H:=H.front 4 rfl;have H:=H.front 4 rfl;have H:=H.front 4 rfl;have H:=H.front 4 rfl;have H:=H.front 5 rfl;?_
    refine bd hm fun u20 hx21 hm=>st_call E (wn rfl) rfl rfl (x_callv E rfl rfl rfl (cf72 _)) (c_part_Of_1 v19 ([(⟨1, u17, u6, (ByteArray.mk #[]), 0, 0, false⟩ : S_api_Part), (⟨u14.Kind, u14.Dir, u14.Path, x1.Data, u14.Version, x1.Owner, x1.Turns⟩ : S_api_Part)] : List S_api_Part) p5 (.slice none 0 0) [] H m0 hx21)<|?_
    rintro _ w ⟨v22, rfl, H⟩ a E
    refine nt<|?_
    refine ⟨⟨_, _, H, (subO_cons mm2 (subO_cons mm3 (subO_nil))), (sub_nil)⟩, ?_⟩
    refine fr_nil<|?_
    clear hI
    exact q_blk<|q_then<|have H:=H.drop 2;have H:=H.drop 2;have H:=H.drop 2;have H:=H.drop 2;⟨v22, u20, _, E.sel [3] rfl, H, fun r hr => (t1 hr), hm⟩
   ·refine sq<|pr 2 E rfl fun a E=>nt<|wif E hm rfl (fun hm=>?_) fun hm=>?_
    ·refine wp_region_lit<|pr 2 E rfl fun a E=>have H:=H.front 2 rfl;have H:=H.front 3 rfl;have H:=H.front 3 rfl;have H:=H.front 3 rfl;bd hm fun u23 hx24 hm=>st_call E (wn rfl) rfl rfl (x_callv E rfl rfl rfl (cf76 _)) (c_part_Of_4 3 p9 p8 u6 p2 x1.Kind x1.Path x1.Data x1.Version x1.Owner x1.Turns H hx24)<|?_
     rintro _ w ⟨rfl, H⟩ a E
     refine pr 1 E rfl fun a E=>have H:=H.front 3 rfl;have H:=H.front 2 rfl;have H:=H.front 2 rfl;have H:=H.front 3 rfl;bd hm fun u25 hx26 hm=>st_call E (wn rfl) rfl rfl (x_callv E rfl rfl rfl (cf75 _)) (c_part_Of_3 4 p2 x1.Kind x1.Path x1.Data x1.Version x1.Owner x1.Turns H hx26)<|?_
     rintro _ w ⟨rfl, H⟩ a E
     refine st_bsO (e := 62) (d := k_api_Part) (cs := [.int .i64 u23.Kind, .string u23.Dir, .string u23.Path, .string u23.Data, .int .i64 u23.Version, .int .i64 u23.Owner, .bool u23.Turns, .int .i64 u25.Kind, .string u25.Dir, .string u25.Path, .string u25.Data, .int .i64 u25.Version, .int .i64 u25.Owner, .bool u25.Turns]) (xs := [u23, u25]) E H (wn rfl) rfl rfl rfl (E.evs rfl) (by kernel_rfl) rfl rfl (fun ok hr => (Rows.append (Rows.single (d := k_api_Part) (cs := [.int .i64 u23.Kind, .string u23.Dir, .string u23.Path, .string u23.Data, .int .i64 u23.Version, .int .i64 u23.Owner, .bool u23.Turns]) (x := u23) k_api_Part_mk) (Rows.single (d := k_api_Part) (cs := [.int .i64 u25.Kind, .string u25.Dir, .string u25.Path, .string u25.Data, .int .i64 u25.Version, .int .i64 u25.Owner, .bool u25.Turns]) (x := u25) k_api_Part_mk))) fun v27 w a H E=>have H:=H.thaw (i := 0) rfl;have H:=H.nilRow 62 k_api_Part;have H:=H.front 3 rfl;have H:=H.front 3 rfl;have H:=H.front 3 rfl;have H:=H.front 3 rfl;have H:=H.front 4 rfl;bd hm fun u28 hx29 hm=>?_
     refine st_call E (wn rfl) rfl rfl (x_callv E rfl rfl rfl (cf72 _)) (c_part_Of_1 v27 ([u23, u25] : List S_api_Part) p5 (.slice none 0 0) [] H m0 hx29)<|?_
     rintro _ w ⟨v30, rfl, H⟩ a E
     exact wpList_nil<|q_blk<|q_then<|have H:=H.drop 2;have H:=H.drop 2;have H:=H.drop 2;⟨v30, u28, _, E.sel [3] rfl, H, fun r hr => (t1 hr), hm⟩
    ·refine sq<|pr 2 E rfl fun a E=>nt<|wif E hm rfl (fun hm=>?_) fun hm=>?_
     ·refine sq<|pr 1 E rfl fun a E=>have H:=H.front 2 rfl;have H:=H.front 3 rfl;have H:=H.front 3 rfl;have H:=H.front 3 rfl;bd hm fun u31 hx32 hm=>st_call E (wn rfl) rfl rfl (x_callv E rfl rfl rfl (cf76 _)) (c_part_Of_4 5 p9 p8 u6 p2 x1.Kind x1.Path x1.Data x1.Version x1.Owner x1.Turns H hx32)<|?_
      rintro _ w ⟨rfl, H⟩ a E
      refine al E H rfl rfl rfl rfl zr62 fun p33 w a H E=>st_st (i := 0) E H (wn rfl) rfl (us := (l_api_Part u31)) rfl rfl rfl rfl rfl sz62 rfl rfl fun w H=>nx<|pr 1 E rfl fun a E=>lb E H 3 rfl rfl rfl rfl rfl rfl rfl Tryz.underlying9 rfl fun a E=>pr 1 E rfl fun a E=>st_st (i := 0) E H (wn rfl) rfl (us := [.string x1.Data]) rfl rfl rfl rfl rfl sz9 rfl rfl fun w H=>nt<|wp_region_lit<|?_
      refine pr 1 E rfl fun a E=>sv E rfl rfl rfl (x_ldBN (i := 0) (us := [.int .i64 u31.Kind, .string u31.Dir, .string u31.Path, .string x1.Data, .int .i64 u31.Version, .int .i64 u31.Owner, .bool u31.Turns]) E H rfl rfl rfl rfl Tryz.underlying62 rfl sz62) fun a E=>st_bsO (e := 62) (d := k_api_Part) (cs := [.int .i64 u31.Kind, .string u31.Dir, .string u31.Path, .string x1.Data, .int .i64 u31.Version, .int .i64 u31.Owner, .bool u31.Turns]) (xs := [(⟨u31.Kind, u31.Dir, u31.Path, x1.Data, u31.Version, u31.Owner, u31.Turns⟩ : S_api_Part)]) E H (wn rfl) rfl rfl rfl (E.evs rfl) (by kernel_rfl) rfl rfl (fun ok hr => (Rows.single (d := k_api_Part) (cs := [.int .i64 u31.Kind, .string u31.Dir, .string u31.Path, .string x1.Data, .int .i64 u31.Version, .int .i64 u31.Owner, .bool u31.Turns]) (x := (⟨u31.Kind, u31.Dir, u31.Path, x1.Data, u31.Version, u31.Owner, u31.Turns⟩ : S_api_Part)) k_api_Part_mk)) fun v34 w a H E=>have H:=H.thaw (i := 0) rfl;have H:=H.nilRow 62 k_api_Part;have H:=H.front 4 rfl;have H:=H.front 4 rfl;have H:=H.front 4 rfl;have H:=H.front 4 rfl;?_
      refine have H:=H.front 4 rfl;have H:=H.front 5 rfl;bd hm fun u35 hx36 hm=>st_call E (wn rfl) rfl rfl (x_callv E rfl rfl rfl (cf72 _)) (c_part_Of_1 v34 ([(⟨u31.Kind, u31.Dir, u31.Path, x1.Data, u31.Version, u31.Owner, u31.Turns⟩ : S_api_Part)] : List S_api_Part) p5 (.slice none 0 0) [] H m0 hx36)<|?_
      rintro _ w ⟨v37, rfl, H⟩ a E
      exact wpList_nil<|q_blk<|q_then<|have H:=H.drop 2;have H:=H.drop 2;have H:=H.drop 2;have H:=H.drop 2;⟨v37, u35, _, E.sel [3] rfl, H, fun r hr => (t1 hr), hm⟩
     ·refine sq<|pr 2 E rfl fun a E=>nt<|wif E hm rfl (fun hm=>?_) fun hm=>?_
      ·refine wp_region_lit<|pr 2 E rfl fun a E=>have H:=H.front 2 rfl;have H:=H.front 3 rfl;have H:=H.front 3 rfl;have H:=H.front 3 rfl;bd hm fun u38 hx39 hm=>st_call E (wn rfl) rfl rfl (x_callv E rfl rfl rfl (cf76 _)) (c_part_Of_4 6 p9 p8 u6 p2 x1.Kind x1.Path x1.Data x1.Version x1.Owner x1.Turns H hx39)<|?_
       rintro _ w ⟨rfl, H⟩ a E
       refine st_bsO (e := 62) (d := k_api_Part) (cs := [.int .i64 u38.Kind, .string u38.Dir, .string u38.Path, .string u38.Data, .int .i64 u38.Version, .int .i64 u38.Owner, .bool u38.Turns]) (xs := [u38]) E H (wn rfl) rfl rfl rfl (E.evs rfl) (by kernel_rfl) rfl rfl (fun ok hr => (Rows.single (d := k_api_Part) (cs := [.int .i64 u38.Kind, .string u38.Dir, .string u38.Path, .string u38.Data, .int .i64 u38.Version, .int .i64 u38.Owner, .bool u38.Turns]) (x := u38) k_api_Part_mk)) fun v40 w a H E=>have H:=H.thaw (i := 0) rfl;have H:=H.nilRow 62 k_api_Part;have H:=H.front 3 rfl;have H:=H.front 3 rfl;have H:=H.front 3 rfl;have H:=H.front 3 rfl;have H:=H.front 4 rfl;bd hm fun u41 hx42 hm=>?_
       refine st_call E (wn rfl) rfl rfl (x_callv E rfl rfl rfl (cf72 _)) (c_part_Of_1 v40 ([u38] : List S_api_Part) p5 (.slice none 0 0) [] H m0 hx42)<|?_
       rintro _ w ⟨v43, rfl, H⟩ a E
       exact wpList_nil<|q_blk<|q_then<|have H:=H.drop 2;have H:=H.drop 2;have H:=H.drop 2;⟨v43, u41, _, E.sel [3] rfl, H, fun r hr => (t1 hr), hm⟩
      ·refine sq<|pr 2 E rfl fun a E=>nt<|wif E hm rfl (fun hm=>?_) fun hm=>?_
       ·refine wp_region_lit<|pr 1 E rfl fun a E=>lb E H 0 rfl rfl rfl rfl rfl rfl rfl Tryz.underlying96 rfl fun a E=>have H:=H.front 2 rfl;have H:=H.front 1 rfl;have H:=H.front 3 rfl;have H:=H.front 3 rfl;bd hm fun u44 hx45 hm=>st_call E (wn rfl) rfl rfl (x_callv E rfl rfl rfl (cf74 _)) (c_part_Of_2 7 p8 u6 p2 x1.Kind x1.Path x1.Data x1.Version x1.Owner x1.Turns H hx45)<|?_
        rintro _ w ⟨rfl, H⟩ a E
        refine st_bsO (e := 62) (d := k_api_Part) (cs := [.int .i64 u44.Kind, .string u44.Dir, .string u44.Path, .string u44.Data, .int .i64 u44.Version, .int .i64 u44.Owner, .bool u44.Turns]) (xs := [u44]) E H (wn rfl) rfl rfl rfl (E.evs rfl) (by kernel_rfl) rfl rfl (fun ok hr => (Rows.single (d := k_api_Part) (cs := [.int .i64 u44.Kind, .string u44.Dir, .string u44.Path, .string u44.Data, .int .i64 u44.Version, .int .i64 u44.Owner, .bool u44.Turns]) (x := u44) k_api_Part_mk)) fun v46 w a H E=>have H:=H.thaw (i := 0) rfl;have H:=H.nilRow 62 k_api_Part;have H:=H.front 3 rfl;have H:=H.front 3 rfl;have H:=H.front 3 rfl;have H:=H.front 3 rfl;have H:=H.front 4 rfl;bd hm fun u47 hx48 hm=>?_
        refine st_call E (wn rfl) rfl rfl (x_callv E rfl rfl rfl (cf72 _)) (c_part_Of_1 v46 ([u44] : List S_api_Part) p5 (.slice none 0 0) [] H m0 hx48)<|?_
        rintro _ w ⟨v49, rfl, H⟩ a E
        exact wpList_nil<|q_blk<|q_then<|have H:=H.drop 2;have H:=H.drop 2;have H:=H.drop 2;⟨v49, u47, _, E.sel [3] rfl, H, fun r hr => (t1 hr), hm⟩
       ·refine sq<|pr 2 E rfl fun a E=>nt<|wif E hm rfl (fun hm=>?_) fun hm=>?_
        ·refine wp_region_lit<|pr 1 E rfl fun a E=>lb E H 0 rfl rfl rfl rfl rfl rfl rfl Tryz.underlying96 rfl fun a E=>have H:=H.front 2 rfl;have H:=H.front 1 rfl;have H:=H.front 3 rfl;have H:=H.front 3 rfl;bd hm fun u50 hx51 hm=>st_call E (wn rfl) rfl rfl (x_callv E rfl rfl rfl (cf74 _)) (c_part_Of_2 8 p8 u6 p2 x1.Kind x1.Path x1.Data x1.Version x1.Owner x1.Turns H hx51)<|?_
         rintro _ w ⟨rfl, H⟩ a E
         refine pr 1 E rfl fun a E=>have H:=H.front 3 rfl;have H:=H.front 3 rfl;have H:=H.front 2 rfl;have H:=H.front 3 rfl;bd hm fun u52 hx53 hm=>st_call E (wn rfl) rfl rfl (x_callv E rfl rfl rfl (cf75 _)) (c_part_Of_3 9 p2 x1.Kind x1.Path x1.Data x1.Version x1.Owner x1.Turns H hx53)<|?_
         rintro _ w ⟨rfl, H⟩ a E
         refine st_bsO (e := 62) (d := k_api_Part) (cs := [.int .i64 u50.Kind, .string u50.Dir, .string u50.Path, .string u50.Data, .int .i64 u50.Version, .int .i64 u50.Owner, .bool u50.Turns, .int .i64 u52.Kind, .string u52.Dir, .string u52.Path, .string u52.Data, .int .i64 u52.Version, .int .i64 u52.Owner, .bool u52.Turns]) (xs := [u50, u52]) E H (wn rfl) rfl rfl rfl (E.evs rfl) (by kernel_rfl) rfl rfl (fun ok hr => (Rows.append (Rows.single (d := k_api_Part) (cs := [.int .i64 u50.Kind, .string u50.Dir, .string u50.Path, .string u50.Data, .int .i64 u50.Version, .int .i64 u50.Owner, .bool u50.Turns]) (x := u50) k_api_Part_mk) (Rows.single (d := k_api_Part) (cs := [.int .i64 u52.Kind, .string u52.Dir, .string u52.Path, .string u52.Data, .int .i64 u52.Version, .int .i64 u52.Owner, .bool u52.Turns]) (x := u52) k_api_Part_mk))) fun v54 w a H E=>have H:=H.thaw (i := 0) rfl;have H:=H.nilRow 62 k_api_Part;have H:=H.front 3 rfl;have H:=H.front 3 rfl;have H:=H.front 3 rfl;have H:=H.front 3 rfl;have H:=H.front 4 rfl;bd hm fun u55 hx56 hm=>?_
         refine st_call E (wn rfl) rfl rfl (x_callv E rfl rfl rfl (cf72 _)) (c_part_Of_1 v54 ([u50, u52] : List S_api_Part) p5 (.slice none 0 0) [] H m0 hx56)<|?_
         rintro _ w ⟨v57, rfl, H⟩ a E
         exact wpList_nil<|q_blk<|q_then<|have H:=H.drop 2;have H:=H.drop 2;have H:=H.drop 2;⟨v57, u55, _, E.sel [3] rfl, H, fun r hr => (t1 hr), hm⟩
        ·refine sq<|pr 2 E rfl fun a E=>nt<|wif E hm rfl (fun hm=>?_) fun hm=>?_
         ·refine wp_region_lit<|pr 1 E rfl fun a E=>lb E H 0 rfl rfl rfl rfl rfl rfl rfl Tryz.underlying96 rfl fun a E=>have H:=H.front 2 rfl;have H:=H.front 1 rfl;have H:=H.front 3 rfl;have H:=H.front 3 rfl;bd hm fun u58 hx59 hm=>st_call E (wn rfl) rfl rfl (x_callv E rfl rfl rfl (cf74 _)) (c_part_Of_2 8 p8 u6 p2 x1.Kind x1.Path x1.Data x1.Version x1.Owner x1.Turns H hx59)<|?_
          rintro _ w ⟨rfl, H⟩ a E
          refine pr 1 E rfl fun a E=>have H:=H.front 3 rfl;have H:=H.front 3 rfl;have H:=H.front 2 rfl;have H:=H.front 3 rfl;bd hm fun u60 hx61 hm=>st_call E (wn rfl) rfl rfl (x_callv E rfl rfl rfl (cf75 _)) (c_part_Of_3 10 p2 x1.Kind x1.Path x1.Data x1.Version x1.Owner x1.Turns H hx61)<|?_
          rintro _ w ⟨rfl, H⟩ a E
          refine st_bsO (e := 62) (d := k_api_Part) (cs := [.int .i64 u58.Kind, .string u58.Dir, .string u58.Path, .string u58.Data, .int .i64 u58.Version, .int .i64 u58.Owner, .bool u58.Turns, .int .i64 u60.Kind, .string u60.Dir, .string u60.Path, .string u60.Data, .int .i64 u60.Version, .int .i64 u60.Owner, .bool u60.Turns]) (xs := [u58, u60]) E H (wn rfl) rfl rfl rfl (E.evs rfl) (by kernel_rfl) rfl rfl (fun ok hr => (Rows.append (Rows.single (d := k_api_Part) (cs := [.int .i64 u58.Kind, .string u58.Dir, .string u58.Path, .string u58.Data, .int .i64 u58.Version, .int .i64 u58.Owner, .bool u58.Turns]) (x := u58) k_api_Part_mk) (Rows.single (d := k_api_Part) (cs := [.int .i64 u60.Kind, .string u60.Dir, .string u60.Path, .string u60.Data, .int .i64 u60.Version, .int .i64 u60.Owner, .bool u60.Turns]) (x := u60) k_api_Part_mk))) fun v62 w a H E=>have H:=H.thaw (i := 0) rfl;have H:=H.nilRow 62 k_api_Part;have H:=H.front 3 rfl;have H:=H.front 3 rfl;have H:=H.front 3 rfl;have H:=H.front 3 rfl;have H:=H.front 4 rfl;bd hm fun u63 hx64 hm=>?_
          refine st_call E (wn rfl) rfl rfl (x_callv E rfl rfl rfl (cf72 _)) (c_part_Of_1 v62 ([u58, u60] : List S_api_Part) p5 (.slice none 0 0) [] H m0 hx64)<|?_
          rintro _ w ⟨v65, rfl, H⟩ a E
          exact wpList_nil<|q_blk<|q_then<|have H:=H.drop 2;have H:=H.drop 2;have H:=H.drop 2;⟨v65, u63, _, E.sel [3] rfl, H, fun r hr => (t1 hr), hm⟩
         ·exact wp_skip<|q_blk<|q_then<|have H:=H.nilRow 62 k_api_Part;have H:=H.drop 1;have H:=H.drop 1;have H:=H.drop 2;have H:=H.front 0 rfl;have H:=H.front 1 rfl;⟨(.slice none 0 0), [], _, E.sel [3] rfl, H, fun r hr => hr, hm⟩
  ·clear E H hm
   rintro a w ⟨v10, l11, rs12, E, H, hs13, hm⟩
   unfold m_part_Of_j1 at hm
   refine sq<|lb E H 0 rfl rfl rfl rfl rfl rfl rfl Tryz.underlying59 rfl fun a E=>pr 1 E rfl fun a E=>nt<|wp_ret<|out1 E rfl rfl<|have H:=H.drop 0;?_
   cases hm
   exact ⟨v10, rfl, H.reads (hs13)⟩

def m_multi_Of_l2 (rec_1 : (List S_api_Piece) → Int → Option (List S_api_Piece)) (u16 : (List S_api_Part)) (x8 : Int) : Nat → (List S_api_Piece) → Int → Option (List S_api_Piece)
  | 0, _, _ => none
  | k2 + 1, l20, x21 =>
    if (decide (x21 < (u16.length : Int))) = true then ((idx u16 x21).bind fun x25 => (ck (l20.length + ([(⟨x8, x25⟩ : S_api_Piece)] : List S_api_Piece).length ≤ LIM)).bind fun u33 => m_multi_Of_l2 rec_1 u16 x8 k2 (l20 ++ ([(⟨x8, x25⟩ : S_api_Piece)] : List S_api_Piece)) (IntKind.i64.wrap (x21 + 1))) else (rec_1 l20 (IntKind.i64.wrap (x8 + 1)))
def m_multi_Of_l1 (l2 : List S_api_Op) : Nat → (List S_api_Piece) → Int → Option (List S_api_Piece)
  | 0, _, _ => none
  | k1 + 1, l7, x8 =>
    if (decide (x8 < (l2.length : Int))) = true then ((idx l2 x8).bind fun x12 => (m_part_Of x12).bind fun u16 => m_multi_Of_l2 (m_multi_Of_l1 l2 k1) u16 x8 (((u16.length : Int) - 0 : Int).toNat + 1) l7 0) else (some (l7))
def m_multi_Of (l2 : List S_api_Op) : Option (List S_api_Piece) :=
  (m_multi_May l2).bind fun u4 => if (!u4) = true then (some ([])) else (m_multi_Of_l1 l2 (((l2.length : Int) - 0 : Int).toNat + 1) [] 0)
theorem c_multi_Of {w : World} {Fo : List Ob} {rs : List Rp} (v1 : Value) (l2 : List S_api_Op) (H : Sep w (Fo) rs) (hr3 : rSl k_api_Op v1 l2 ∈ rs) {r : (List S_api_Piece)} (hm : m_multi_Of l2 = some r) :
    Calls Tryz.prog 24 [v1].toArray w (Ret fun v w' => ∃ (v5001 : Value), v5001 = v ∧ Sep w' (Row 64 k_api_Piece v5001 r :: Fo) (rs)) := by
 unfold m_multi_Of at hm
 refine enter Tryz.func24 rfl Tryz.ntmps24 rfl fun a E =>?_
 simp only [enum, Nat.reduceAdd] at E
 refine sq<|pr 1 E rfl fun a E=>nt<|wp_seq<|sq<|pr 1 E rfl fun a E=>bd hm fun u4 hx5 hm=>x_cl E rfl rfl rfl rfl rfl cf19 (c_multi_May v1 l2 H hr3 hx5)<|?_
 rintro _ w ⟨rfl, H⟩ a E
 refine pr 1 E rfl fun a E=>nt<|wif E hm rfl (fun hm=>?_) fun hm=>?_
 ·refine sq<|pr 1 E rfl fun a E=>nt<|wp_ret<|q_thenR<|out1 E rfl rfl<|have H:=H.nilRow 64 k_api_Piece;?_
  cases hm
  exact ⟨(.slice none 0 0), rfl, H.reads (fun r hr => hr)⟩
 ·refine wp_skip<|q_then<|sq<|pr 1 E rfl fun a E=>nt<|wp_seq<|sq<|pr 1 E rfl fun a E=>sv E rfl rfl rfl (x_lenS E H rfl rfl hr3 Tryz.underlying23) fun a E=>?_
  refine pr 1 E rfl fun a E=>nt<|wp_block<|wp_loop_g (fun k1 a w => ∃ (v6 : Value) (l7 : (List S_api_Piece)) (x8 : Int) (rs9 : List Rp), Env 34 a [(3, v6), (11, v1), (12, .int .i64 (l2.length : Int)), (13, .int .i64 x8)] ∧ Sep w (Row 64 k_api_Piece v6 l7 :: Fo) rs9 ∧ (∀ r, r ∈ rs → r ∈ rs9) ∧ rSl k_api_Op v1 l2 ∈ rs9 ∧ m_multi_Of_l1 l2 k1 l7 x8 = some r) (((l2.length : Int) - 0 : Int).toNat + 1) ?_ ?_
  ·exact have H:=H.nilRow 64 k_api_Piece;⟨(.slice none 0 0), [], 0, _, E.sel [3, 11, 12, 13] rfl, H, fun r hr => hr, hr3, hm⟩
  ·clear E H hm
   rintro k1 a w ⟨v6, l7, x8, rs9, E, H, hs10, hr11, hm⟩
   cases k1 with
   | zero => exact (none_some hm rfl).elim
   | succ k1 =>
    unfold m_multi_Of_l1 at hm
    refine sq<|pr 1 E rfl fun a E=>nt<|wp_seq<|wif E hm rfl (fun hm=>?_) fun hm=>?_
    ·refine wp_skip<|q_then<|wp_seq<|wp_block<|sq<|pr 1 E rfl fun a E=>bd hm fun x12 hx13 hm=>st_ixS E H (wn rfl) rfl rfl rfl rfl rfl hr11 Tryz.underlying23 sz55 hx13 fun q14 a H E=>ldf k_api_Op_flat E H rfl rfl rfl rfl rfl m0 Tryz.underlying55 rfl sz55 fun a E=>?_
     refine al E H rfl rfl rfl rfl zr55 fun p15 w a H E=>pr 1 E rfl fun a E=>st_st (i := 0) E H (wn rfl) rfl (us := (l_api_Op x12)) rfl rfl rfl rfl rfl sz55 rfl rfl fun w H=>nx<|sv E rfl rfl rfl (x_ldBN (i := 0) (us := (l_api_Op x12)) E H rfl rfl rfl rfl Tryz.underlying55 rfl sz55) fun a E=>bd hm fun u16 hx17 hm=>x_cl E rfl rfl rfl rfl rfl cf37 (c_part_Of x12 H hx17)<|?_
     rintro _ w ⟨v18, rfl, H⟩ a E
     refine sv E rfl rfl rfl (x_lenR (i := 0) E H rfl rfl rfl Tryz.underlying59) fun a E=>pr 1 E rfl fun a E=>nt<|wp_block<|wp_loop_g (fun k2 a w => ∃ (v19 : Value) (l20 : (List S_api_Piece)) (x21 : Int) (rs22 : List Rp), Env 34 a [(3, v19), (4, .int .i64 x8), (11, v1), (12, .int .i64 (l2.length : Int)), (13, .int .i64 x8), (19, v18), (20, .int .i64 (u16.length : Int)), (21, .int .i64 x21)] ∧ Sep w (Row 64 k_api_Piece v19 l20 :: Row 62 k_api_Part v18 u16 :: Fo) rs22 ∧ (∀ r, r ∈ rs → r ∈ rs22) ∧ rSl k_api_Op v1 l2 ∈ rs22 ∧ m_multi_Of_l2 (m_multi_Of_l1 l2 k1) u16 x8 k2 l20 x21 = some r) (((u16.length : Int) - 0 : Int).toNat + 1) ?_ ?_
     ·exact have H:=H.drop 1;have H:=H.front 0 rfl;have H:=H.front 1 rfl;⟨v6, l7, 0, _, E.sel [3, 4, 11, 12, 13, 19, 20, 21] rfl, H, fun r hr => (t1 (hs10 r hr)), (t1 hr11), hm⟩
     ·clear E H hm
      rintro k2 a w ⟨v19, l20, x21, rs22, E, H, hs23, hr24, hm⟩
      cases k2 with
      | zero => exact (none_some hm rfl).elim
      | succ k2 =>
       unfold m_multi_Of_l2 at hm
       refine sq<|pr 1 E rfl fun a E=>nt<|wp_seq<|wif E hm rfl (fun hm=>?_) fun hm=>?_
       ·refine wp_skip<|q_then<|wp_seq<|wp_block<|sq<|bd hm fun x25 hx26 hm=>?_
        obtain ⟨p27, x28, hx29⟩ := H.rowformNE (i := 1) rfl hx26
        refine sv E rfl rfl rfl (x_ixRowV (d := k_api_Part) E hx29 rfl rfl rfl rfl Tryz.underlying59 sz62 hx26) fun a E=>sv E rfl rfl rfl (x_ldRowNV (i := 1) E H k_api_Part_flat hx29 rfl rfl rfl hx26 (us := [.int .i64 x25.Kind, .string x25.Dir, .string x25.Path, .string x25.Data, .int .i64 x25.Version, .int .i64 x25.Owner, .bool x25.Turns]) rfl Tryz.underlying62 rfl sz62) fun a E=>al E H rfl rfl rfl rfl zr62 fun p30 w a H E=>st_st (i := 0) E H (wn rfl) rfl (us := (l_api_Part x25)) rfl rfl rfl rfl rfl sz62 rfl rfl fun w H=>nt<|wp_region_lit<|pr 2 E rfl fun a E=>sv E rfl rfl rfl (x_ldBN (i := 0) (us := (l_api_Part x25)) E H rfl rfl rfl rfl Tryz.underlying62 rfl sz62) fun a E=>sv E rfl rfl rfl (x_build E rfl (E.evs rfl) (v := .agg #[.int .i64 x8, .int .i64 x25.Kind, .string x25.Dir, .string x25.Path, .string x25.Data, .int .i64 x25.Version, .int .i64 x25.Owner, .bool x25.Turns]) (by kernel_rfl)) fun a E=>?_
        refine st_bsR (e := 64) (d := k_api_Piece) (cs := [.int .i64 x8, .int .i64 x25.Kind, .string x25.Dir, .string x25.Path, .string x25.Data, .int .i64 x25.Version, .int .i64 x25.Owner, .bool x25.Turns]) (xs := [(⟨x8, x25⟩ : S_api_Piece)]) E H (wn rfl) rfl rfl rfl (E.evs rfl) (by kernel_rfl) rfl (fun ok hr => (Rows.single (d := k_api_Piece) (cs := [.int .i64 x8, .int .i64 x25.Kind, .string x25.Dir, .string x25.Path, .string x25.Data, .int .i64 x25.Version, .int .i64 x25.Owner, .bool x25.Turns]) (x := (⟨x8, x25⟩ : S_api_Piece)) k_api_Piece_mk)) fun v31 w a H E=>bk hm fun hx34 hm=>st_append (i := 1) E H (wn rfl) rfl rfl rfl rfl rfl rfl (src_rd m0) Tryz.underlying36 inf64 rfl hx34 rfl fun v32 w a H E=>pr 1 E rfl fun a E=>wpList_nil<|q_blk<|q_then<|wp_region_lit<|pr 2 E rfl fun a E=>?_
        exact nt<|have H:=H.drop 0;⟨k2, Nat.lt_succ_self k2, v32, l20 ++ ([(⟨x8, x25⟩ : S_api_Piece)] : List S_api_Piece), IntKind.i64.wrap (x21 + 1), _, E.sel [3, 4, 11, 12, 13, 19, 20, 21] rfl, H, fun r hr => (t1 (hs23 r hr)), (t1 hr24), hm⟩
       ·refine wp_exit<|q_thenX<|q_thenX<|q_hit<|q_blk<|q_then<|wp_region_lit<|pr 2 E rfl fun a E=>nt<|?_
        exact have H:=H.drop 1;⟨k1, Nat.lt_succ_self k1, v19, l20, IntKind.i64.wrap (x8 + 1), _, E.sel [3, 11, 12, 13] rfl, H, hs23, hr24, hm⟩
    ·refine wp_exit<|q_thenX<|q_thenX<|q_hit<|q_then<|sq<|pr 2 E rfl fun a E=>nt<|wp_ret<|?_
     refine out1 E rfl rfl<|?_
     cases hm
     exact ⟨v6, rfl, H.reads (hs10)⟩

def m_multi_All_l1 (l5 : List S_api_Piece) (x1 : S_api_Store) : Nat → (List S_api_Result) → Int → (List S_api_Node) → (List S_api_Turn) → Option (S_api_Store × (List S_api_Result) × Int × Int)
  | 0, _, _, _, _ => none
  | k1 + 1, l18, x19, l21, l23 =>
    if (decide (x19 < (l5.length : Int))) = true then ((idx l5 x19).bind fun x32 => (m_part_Do (⟨l21, l23⟩ : S_api_Store) x32.Part).bind fun u36 => if (u36.2.Err != 0) = true then (some (x1, [], u36.2.Err, x19)) else ((ck (l18.length + ([u36.2] : List S_api_Result).length ≤ LIM)).bind fun u51 => m_multi_All_l1 l5 x1 k1 (l18 ++ ([u36.2] : List S_api_Result)) (IntKind.i64.wrap (x19 + 1)) u36.1.Nodes u36.1.Turns)) else (some ((⟨l21, l23⟩ : S_api_Store), l18, 0, 0))
def m_multi_All (x1 : S_api_Store) (l5 : List S_api_Piece) : Option (S_api_Store × (List S_api_Result) × Int × Int) :=
  m_multi_All_l1 l5 x1 (((l5.length : Int) - 0 : Int).toNat + 1) [] 0 x1.Nodes x1.Turns
theorem c_multi_All {w : World} {Fo : List Ob} {rs : List Rp} (x1 : S_api_Store) (v2 : Value) (v3 : Value) (v4 : Value) (l5 : List S_api_Piece) (H : Sep w (Fo) rs) (hr6 : rSl k_api_Node v2 x1.Nodes ∈ rs) (hr7 : rSl k_api_Turn v3 x1.Turns ∈ rs) (hr8 : rSl k_api_Piece v4 l5 ∈ rs) (hr9 : rTab Tryz.prog ∈ rs) {r : S_api_Store × (List S_api_Result) × Int × Int} (hm : m_multi_All x1 l5 = some r) :
    Calls Tryz.prog 28 [.agg #[v2, v3], v4].toArray w (Ret fun v w' => ∃ (v5002 : Value) (v5003 : Value) (v5004 : Value), .tuple #[.agg #[v5002, v5003], v5004, .int .i64 r.2.2.1, .int .i64 r.2.2.2] = v ∧ Sep w' (Row 51 k_api_Result v5004 r.2.1 :: Fo) (rSl k_api_Node v5002 r.1.Nodes :: rSl k_api_Turn v5003 r.1.Turns :: rs)) := by
 unfold m_multi_All at hm
 refine enter Tryz.func28 rfl Tryz.ntmps28 rfl fun a E =>?_
 simp only [enum, Nat.reduceAdd] at E
 refine sq<|?_
 obtain ⟨q11, x12, rfl⟩ := H.slform hr6
 obtain ⟨q13, x14, rfl⟩ := H.slform hr7
 refine st_box E H (wn rfl) rfl rfl (cs := [(.slice q11 x1.Nodes.length x12), (.slice q13 x1.Turns.length x14)]) rfl rfl rfl fun p10 w a H E=>al E H rfl rfl rfl rfl zr41 fun p15 w a H E=>pr 3 E rfl fun a E=>nx<|sv E rfl rfl rfl (x_ldBN (i := 1) (us := [(.slice q11 x1.Nodes.length x12), (.slice q13 x1.Turns.length x14)]) E H rfl rfl rfl rfl Tryz.underlying41 rfl sz41) fun a E=>al E H rfl rfl rfl rfl zr41 fun p16 w a H E=>st_st (i := 0) E H (wn rfl) rfl (us := [(.slice q11 x1.Nodes.length x12), (.slice q13 x1.Turns.length x14)]) rfl rfl rfl rfl rfl sz41 rfl rfl fun w H=>nx<|pr 1 E rfl fun a E=>?_
 refine nt<|wp_seq<|sq<|pr 1 E rfl fun a E=>sv E rfl rfl rfl (x_lenS E H rfl rfl hr8 Tryz.underlying36) fun a E=>pr 1 E rfl fun a E=>nt<|wp_block<|wp_loop_g (fun k1 a w => ∃ (v17 : Value) (v20 : Value) (v22 : Value) (l18 : (List S_api_Result)) (x19 : Int) (l21 : (List S_api_Node)) (l23 : (List S_api_Turn)) (rs24 : List Rp), Env 44 a [(2, pt p10 0), (4, pt p15 0), (8, pt p16 0), (9, v17), (15, v4), (16, .int .i64 (l5.length : Int)), (17, .int .i64 x19)] ∧ Sep w (Blk p10 41 [(.slice q11 x1.Nodes.length x12), (.slice q13 x1.Turns.length x14)] :: Blk p15 41 [.slice none 0 0, .slice none 0 0] :: Blk p16 41 [v20, v22] :: Row 51 k_api_Result v17 l18 :: Fo) rs24 ∧ (∀ r, r ∈ rs → r ∈ rs24) ∧ rSl k_api_Piece v4 l5 ∈ rs24 ∧ rSl k_api_Node (.slice q11 x1.Nodes.length x12) x1.Nodes ∈ rs24 ∧ rSl k_api_Turn (.slice q13 x1.Turns.length x14) x1.Turns ∈ rs24 ∧ rSl k_api_Node v20 l21 ∈ rs24 ∧ rSl k_api_Turn v22 l23 ∈ rs24 ∧ rTab Tryz.prog ∈ rs24 ∧ m_multi_All_l1 l5 x1 k1 l18 x19 l21 l23 = some r) (((l5.length : Int) - 0 : Int).toNat + 1) ?_ ?_
 ·exact have H:=H.nilRow 51 k_api_Result;have H:=H.front 0 rfl;have H:=H.front 1 rfl;have H:=H.front 2 rfl;have H:=H.front 3 rfl;⟨(.slice none 0 0), (.slice q11 x1.Nodes.length x12), (.slice q13 x1.Turns.length x14), [], 0, x1.Nodes, x1.Turns, _, E.sel [2, 4, 8, 9, 15, 16, 17] rfl, H, fun r hr => hr, hr8, hr6, hr7, hr6, hr7, hr9, hm⟩
 ·clear E H hm
  rintro k1 a w ⟨v17, v20, v22, l18, x19, l21, l23, rs24, E, H, hs25, hr26, hr27, hr28, hr29, hr30, hr31, hm⟩
  cases k1 with
  | zero => exact (none_some hm rfl).elim
  | succ k1 =>
   unfold m_multi_All_l1 at hm
   refine sq<|pr 1 E rfl fun a E=>nt<|wp_seq<|wif E hm rfl (fun hm=>?_) fun hm=>?_
   ·refine wp_skip<|q_then<|wp_seq<|wp_block<|sq<|pr 1 E rfl fun a E=>bd hm fun x32 hx33 hm=>st_ixS E H (wn rfl) rfl rfl rfl rfl rfl hr26 Tryz.underlying36 sz64 hx33 fun q34 a H E=>ldf k_api_Piece_flat E H rfl rfl rfl rfl rfl m0 Tryz.underlying64 rfl sz64 fun a E=>?_
    refine al E H rfl rfl rfl rfl zr64 fun p35 w a H E=>pr 1 E rfl fun a E=>st_st (i := 0) E H (wn rfl) rfl (us := (l_api_Piece x32)) rfl rfl rfl rfl rfl sz64 rfl rfl fun w H=>nx<|sv E rfl rfl rfl (x_ldBN (i := 3) (us := [v20, v22]) E H rfl rfl rfl rfl Tryz.underlying41 rfl sz41) fun a E=>pr 1 E rfl fun a E=>sv E rfl rfl rfl (x_ldBN (i := 0) (us := (l_api_Part x32.Part)) E H rfl rfl rfl rfl Tryz.underlying62 rfl sz62) fun a E=>bd hm fun u36 hx37 hm=>x_cl E rfl rfl rfl rfl rfl cf42 (c_part_Do (⟨l21, l23⟩ : S_api_Store) v20 v22 x32.Part H (t1 hr29) (t1 hr30) (t1 hr31) hx37)<|?_
    rintro _ w ⟨v38, v39, v40, rfl, H⟩ a E
    refine pr 3 E rfl fun a E=>al E H rfl rfl rfl rfl zr41 fun p41 w a H E=>al E H rfl rfl rfl rfl zr51 fun p42 w a H E=>?_
    obtain ⟨q43, x44, rfl⟩ := H.slform m0
    obtain ⟨q45, x46, rfl⟩ := H.slform mm1
    refine st_st (i := 1) E H (wn rfl) rfl (us := [(.slice q43 u36.1.Nodes.length x44), (.slice q45 u36.1.Turns.length x46)]) rfl rfl rfl rfl rfl sz41 rfl rfl fun w H=>?_
    obtain ⟨q47, x48, rfl⟩ := H.slform mm2
    refine st_st (i := 0) E H (wn rfl) rfl (us := (l_api_Result u36.2 (.slice q47 u36.2.Names.length x48))) rfl rfl rfl rfl rfl sz51 rfl rfl fun w H=>nt<|wp_seq<|sq<|pr 1 E rfl fun a E=>lb E H 0 rfl rfl rfl rfl rfl rfl rfl Tryz.underlying27 rfl fun a E=>pr 1 E rfl fun a E=>nt<|wif E hm rfl (fun hm=>?_) fun hm=>?_
    ·refine wp_seq<|dw [(0, 0), (1, 0), (2, 0), (3, 0), (4, 1), (5, 1), (6, 1), (7, 2)] [0, 3] [] H (by kernel_rfl) (fun _ _ _ h => False.elim h.2) fun w W0 hI H=>fbn E [(.slice q11 x1.Nodes.length x12), (.slice q13 x1.Turns.length x14)] rfl (wn rfl) rfl rfl rfl rfl mm1 rfl Tryz.underlying41 rfl sz41 fun a E=>fn 1 E rfl fun a E=>fb E rfl (wn rfl) rfl rfl rfl rfl m0 rfl Tryz.underlying27 rfl fun a E=>fn 1 E rfl fun a E=>fr_op rfl<|st_st (i := 4) E H (wn rfl) rfl (us := [(.slice q11 x1.Nodes.length x12), (.slice q13 x1.Turns.length x14)]) rfl rfl rfl rfl rfl sz41 rfl rfl fun w H=>nt<|?_
     refine ⟨⟨_, _, H, (subO_cons m0 (subO_cons mm3 (subO_nil))), (sub_nil)⟩, ?_⟩
     refine fr_op rfl<|pr 1 E rfl fun a E=>nt<|?_
     refine ⟨⟨_, _, H, (subO_cons m0 (subO_cons mm3 (subO_nil))), (sub_nil)⟩, ?_⟩
     refine fr_op rfl<|pr 1 E rfl fun a E=>nt<|?_
     refine ⟨⟨_, _, H, (subO_cons m0 (subO_cons mm3 (subO_nil))), (sub_nil)⟩, ?_⟩
     refine fr_tail rfl<|pr 1 E rfl fun a E=>nt<|fr_nil<|?_
     clear hI
     refine q_then<|wp_ret<|q_thenR<|q_blkR<|q_thenR<|q_thenR<|q_blkR<|q_thenR<|outR4 E rfl (rvBN (i := 4) (us := [(.slice q11 x1.Nodes.length x12), (.slice q13 x1.Turns.length x14)]) H rfl rfl rfl Tryz.underlying41 rfl sz41) (rvT rfl) (rvT rfl) (rvT rfl)<|?_
     refine have H:=H.nilRow 51 k_api_Result;have H:=H.drop 1;have H:=H.drop 1;have H:=H.drop 1;have H:=H.drop 1;have H:=H.drop 1;have H:=H.drop 1;have H:=H.drop 1;?_
     cases hm
     exact ⟨(.slice q11 x1.Nodes.length x12), (.slice q13 x1.Turns.length x14), (.slice none 0 0), rfl, H.reads (sub_cons (t4 hr27) (sub_cons (t4 hr28) (fun r hr => (t4 (hs25 r hr)))))⟩
    ·refine wp_skip<|q_then<|sq<|sv E rfl rfl rfl (x_ldBN (i := 1) (us := [(.slice q43 u36.1.Nodes.length x44), (.slice q45 u36.1.Turns.length x46)]) E H rfl rfl rfl rfl Tryz.underlying41 rfl sz41) fun a E=>st_st (i := 5) E H (wn rfl) rfl (us := [(.slice q43 u36.1.Nodes.length x44), (.slice q45 u36.1.Turns.length x46)]) rfl rfl rfl rfl rfl sz41 rfl rfl fun w H=>nt<|wp_region_lit<|pr 1 E rfl fun a E=>sv E rfl rfl rfl (x_ldBN (i := 0) (us := (l_api_Result u36.2 (.slice q47 u36.2.Names.length x48))) E H rfl rfl rfl rfl Tryz.underlying51 rfl sz51) fun a E=>?_
     refine st_bsR (e := 51) (d := k_api_Result) (cs := [.int .i64 u36.2.Err, .string u36.2.Path, .string u36.2.Data, .int .i64 u36.2.Version, (.slice q47 u36.2.Names.length x48)]) (xs := [u36.2]) E H (wn rfl) rfl rfl rfl (E.evs rfl) (by kernel_rfl) rfl (fun ok hr => (Rows.single (d := k_api_Result) (cs := [.int .i64 u36.2.Err, .string u36.2.Path, .string u36.2.Data, .int .i64 u36.2.Version, (.slice q47 u36.2.Names.length x48)]) (x := u36.2) (k_api_Result_mk (hr _ mm2)))) fun v49 w a H E=>bk hm fun hx52 hm=>st_append (i := 6) E H (wn rfl) rfl rfl rfl rfl rfl rfl (src_rd m0) Tryz.underlying28 inf51 rfl hx52 rfl fun v50 w a H E=>pr 1 E rfl fun a E=>wpList_nil<|q_blk<|q_then<|wp_region_lit<|pr 2 E rfl fun a E=>?_
     exact nt<|have H:=H.drop 0;have H:=H.drop 0;have H:=H.drop 0;⟨k1, Nat.lt_succ_self k1, v50, (.slice q43 u36.1.Nodes.length x44), (.slice q45 u36.1.Turns.length x46), l18 ++ ([u36.2] : List S_api_Result), IntKind.i64.wrap (x19 + 1), u36.1.Nodes, u36.1.Turns, _, E.sel [2, 4, 8, 9, 15, 16, 17] rfl, H, fun r hr => (t5 (hs25 r hr)), (t5 hr26), (t5 hr27), (t5 hr28), mm1, mm2, (t5 hr31), hm⟩
   ·refine wp_exit<|q_thenX<|q_thenX<|q_hit<|q_then<|sq<|sv E rfl rfl rfl (x_ldBN (i := 2) (us := [v20, v22]) E H rfl rfl rfl rfl Tryz.underlying41 rfl sz41) fun a E=>pr 1 E rfl fun a E=>?_
    obtain ⟨q53, x54, rfl⟩ := H.slform hr29
    obtain ⟨q55, x56, rfl⟩ := H.slform hr30
    refine st_st (i := 1) E H (wn rfl) rfl (us := [(.slice q53 l21.length x54), (.slice q55 l23.length x56)]) rfl rfl rfl rfl rfl sz41 rfl rfl fun w H=>pr 3 E rfl fun a E=>nt<|wp_ret<|outR4 E rfl (rvBN (i := 1) (us := [(.slice q53 l21.length x54), (.slice q55 l23.length x56)]) H rfl rfl rfl Tryz.underlying41 rfl sz41) (rvT rfl) (rvT rfl) (rvT rfl)<|have H:=H.drop 0;have H:=H.drop 0;have H:=H.drop 0;?_
    cases hm
    exact ⟨(.slice q53 l21.length x54), (.slice q55 l23.length x56), v17, rfl, H.reads (sub_cons hr29 (sub_cons hr30 (hs25)))⟩

def m_nodes_New : Option (List S_api_Node) :=
  some (([(⟨(ByteArray.mk #[47]), (ByteArray.mk #[]), 0, 0, 0⟩ : S_api_Node)] : List S_api_Node))
theorem c_nodes_New {w : World} {Fo : List Ob} {rs : List Rp} (H : Sep w (Fo) rs) {r : (List S_api_Node)} (hm : m_nodes_New = some r) :
    Calls Tryz.prog 54 [].toArray w (Ret fun v w' => ∃ (v5001 : Value), v5001 = v ∧ Sep w' (Row 80 k_api_Node v5001 r :: Fo) (rs)) := by
 unfold m_nodes_New at hm
 refine enter Tryz.func54 rfl Tryz.ntmps54 rfl fun a E =>?_
 simp only [enum, Nat.reduceAdd] at E
 refine sq<|pr 1 E rfl fun a E=>nx<|sv E rfl rfl rfl (x_build E rfl (E.evs rfl) (v := .agg #[.string (ByteArray.mk #[47]), .string (ByteArray.mk #[]), .int .i64 0, .int .i64 0, .int .i64 0]) (by kernel_rfl)) fun a E=>st_bsO (e := 80) (d := k_api_Node) (cs := [.string (ByteArray.mk #[47]), .string (ByteArray.mk #[]), .int .i64 0, .int .i64 0, .int .i64 0]) (xs := [(⟨(ByteArray.mk #[47]), (ByteArray.mk #[]), 0, 0, 0⟩ : S_api_Node)]) E H (wn rfl) rfl rfl rfl (E.evs rfl) (by kernel_rfl) rfl rfl (fun ok hr => (Rows.single (d := k_api_Node) (cs := [.string (ByteArray.mk #[47]), .string (ByteArray.mk #[]), .int .i64 0, .int .i64 0, .int .i64 0]) (x := (⟨(ByteArray.mk #[47]), (ByteArray.mk #[]), 0, 0, 0⟩ : S_api_Node)) k_api_Node_mk)) fun v1 w a H E=>pr 1 E rfl fun a E=>nt<|wp_ret<|out1 E rfl rfl<|?_
 cases hm
 exact ⟨v1, rfl, H.reads (fun r hr => hr)⟩

def m_part_Keep_j1 (rec_1 : Int → (List S_api_Node) → (List S_api_Turn) → Option S_api_Store) (l8 : (List S_api_Node)) (x14 : S_api_Node) (x6 : Int) (l19 : (List S_api_Turn)) : Option S_api_Store :=
  (ck (l8.length + ([(⟨x14.Path, x14.Data, x14.Version, 0, x14.Owner⟩ : S_api_Node)] : List S_api_Node).length ≤ LIM)).bind fun u25 => rec_1 (IntKind.i64.wrap (x6 + 1)) (l8 ++ ([(⟨x14.Path, x14.Data, x14.Version, 0, x14.Owner⟩ : S_api_Node)] : List S_api_Node)) l19
def m_part_Keep_l1 (l2 : List S_api_Node) : Nat → Int → (List S_api_Node) → (List S_api_Turn) → Option S_api_Store
  | 0, _, _, _ => none
  | k1 + 1, x6, l8, l10 =>
    if (decide (x6 < (l2.length : Int))) = true then ((idx l2 x6).bind fun x14 => if (x14.Turn != 0) = true then ((ck (l10.length + ([(⟨x14.Path, x14.Turn⟩ : S_api_Turn)] : List S_api_Turn).length ≤ LIM)).bind fun u31 => m_part_Keep_j1 (m_part_Keep_l1 l2 k1) l8 x14 x6 (l10 ++ ([(⟨x14.Path, x14.Turn⟩ : S_api_Turn)] : List S_api_Turn))) else (m_part_Keep_j1 (m_part_Keep_l1 l2 k1) l8 x14 x6 l10)) else (some ((⟨l8, l10⟩ : S_api_Store)))
def m_part_Keep (l2 : List S_api_Node) : Option S_api_Store :=
  m_part_Keep_l1 l2 (((l2.length : Int) - 0 : Int).toNat + 1) 0 [] []
theorem c_part_Keep {w : World} {Fo : List Ob} {rs : List Rp} (v1 : Value) (l2 : List S_api_Node) (H : Sep w (Fo) rs) (hr3 : rSl k_api_Node v1 l2 ∈ rs) {r : S_api_Store} (hm : m_part_Keep l2 = some r) :
    Calls Tryz.prog 39 [v1].toArray w (Ret fun v w' => ∃ (v5002 : Value) (v5003 : Value), .agg #[v5002, v5003] = v ∧ Sep w' (Fo) (rSl k_api_Node v5002 r.Nodes :: rSl k_api_Turn v5003 r.Turns :: rs)) := by
 unfold m_part_Keep at hm
 refine enter Tryz.func39 rfl Tryz.ntmps39 rfl fun a E =>?_
 simp only [enum, Nat.reduceAdd] at E
 refine sq<|al E H rfl rfl rfl rfl zr41 fun p4 w a H E=>nx<|al E H rfl rfl rfl rfl zr41 fun p5 w a H E=>nt<|wp_seq<|sq<|pr 1 E rfl fun a E=>sv E rfl rfl rfl (x_lenS E H rfl rfl hr3 Tryz.underlying22) fun a E=>?_
 refine pr 1 E rfl fun a E=>nt<|wp_block<|wp_loop_g (fun k1 a w => ∃ (v7 : Value) (v9 : Value) (x6 : Int) (l8 : (List S_api_Node)) (l10 : (List S_api_Turn)) (rs11 : List Rp), Env 34 a [(2, pt p4 0), (3, pt p5 0), (6, v1), (7, .int .i64 (l2.length : Int)), (8, .int .i64 x6)] ∧ Sep w (Blk p4 41 [.slice none 0 0, .slice none 0 0] :: Blk p5 41 [v7, v9] :: Row 80 k_api_Node v7 l8 :: Row 83 k_api_Turn v9 l10 :: Fo) rs11 ∧ (∀ r, r ∈ rs → r ∈ rs11) ∧ rSl k_api_Node v1 l2 ∈ rs11 ∧ m_part_Keep_l1 l2 k1 x6 l8 l10 = some r) (((l2.length : Int) - 0 : Int).toNat + 1) ?_ ?_
 ·exact have H:=H.nilRow 80 k_api_Node;have H:=H.nilRow 83 k_api_Turn;have H:=H.front 0 rfl;have H:=H.front 1 rfl;have H:=H.front 2 rfl;have H:=H.front 3 rfl;⟨(.slice none 0 0), (.slice none 0 0), 0, [], [], _, E.sel [2, 3, 6, 7, 8] rfl, H, fun r hr => hr, hr3, hm⟩
 ·clear E H hm
  rintro k1 a w ⟨v7, v9, x6, l8, l10, rs11, E, H, hs12, hr13, hm⟩
  cases k1 with
  | zero => exact (none_some hm rfl).elim
  | succ k1 =>
   unfold m_part_Keep_l1 at hm
   refine sq<|pr 1 E rfl fun a E=>nt<|wp_seq<|wif E hm rfl (fun hm=>?_) fun hm=>?_
   ·refine wp_skip<|q_then<|wp_seq<|wp_block<|sq<|bd hm fun x14 hx15 hm=>st_ixS E H (wn rfl) rfl rfl rfl rfl rfl hr13 Tryz.underlying22 sz80 hx15 fun q16 a H E=>ldf k_api_Node_flat E H rfl rfl rfl rfl rfl m0 Tryz.underlying80 rfl sz80 fun a E=>al E H rfl rfl rfl rfl zr80 fun p17 w a H E=>?_
    refine st_st (i := 0) E H (wn rfl) rfl (us := (l_api_Node x14)) rfl rfl rfl rfl rfl sz80 rfl rfl fun w H=>nt<|wp_seq_cut (fun a w => ∃ (v18 : Value) (l19 : (List S_api_Turn)) (rs20 : List Rp), Env 34 a [(2, pt p4 0), (3, pt p5 0), (5, pt p17 0), (6, v1), (7, .int .i64 (l2.length : Int)), (8, .int .i64 x6)] ∧ Sep w (Blk p4 41 [.slice none 0 0, .slice none 0 0] :: Blk p5 41 [v7, v18] :: Blk p17 80 (l_api_Node x14) :: Row 80 k_api_Node v7 l8 :: Row 83 k_api_Turn v18 l19 :: Fo) rs20 ∧ (∀ r, r ∈ rs → r ∈ rs20) ∧ rSl k_api_Node v1 l2 ∈ rs20 ∧ m_part_Keep_j1 (m_part_Keep_l1 l2 k1) l8 x14 x6 l19 = some r) ?_ ?_
    ·refine sq<|pr 1 E rfl fun a E=>lb E H 0 rfl rfl rfl rfl rfl rfl rfl Tryz.underlying2 rfl fun a E=>pr 1 E rfl fun a E=>nt<|wif E hm rfl (fun hm=>?_) fun hm=>?_
     ·refine wp_region_lit<|pr 1 E rfl fun a E=>lb E H 2 rfl rfl rfl rfl rfl rfl rfl Tryz.underlying39 rfl fun a E=>pr 1 E rfl fun a E=>lb E H 0 rfl rfl rfl rfl rfl rfl rfl Tryz.underlying9 rfl fun a E=>pr 1 E rfl fun a E=>lb E H 0 rfl rfl rfl rfl rfl rfl rfl Tryz.underlying2 rfl fun a E=>sv E rfl rfl rfl (x_build E rfl (E.evs rfl) (v := .agg #[.string x14.Path, .int .i64 x14.Turn]) (by kernel_rfl)) fun a E=>st_bsR (e := 83) (d := k_api_Turn) (cs := [.string x14.Path, .int .i64 x14.Turn]) (xs := [(⟨x14.Path, x14.Turn⟩ : S_api_Turn)]) E H (wn rfl) rfl rfl rfl (E.evs rfl) (by kernel_rfl) rfl (fun ok hr => (Rows.single (d := k_api_Turn) (cs := [.string x14.Path, .int .i64 x14.Turn]) (x := (⟨x14.Path, x14.Turn⟩ : S_api_Turn)) k_api_Turn_mk)) fun v29 w a H E=>?_
      refine bk hm fun hx32 hm=>st_append (i := 4) E H (wn rfl) rfl rfl rfl rfl rfl rfl (src_rd m0) Tryz.underlying39 inf83 rfl hx32 rfl fun v30 w a H E=>pr 1 E rfl fun a E=>?_
      obtain ⟨q33, x34, rfl⟩ := H.rowform (i := 4) rfl
      exact st_st (i := 2) E H (wn rfl) rfl (us := [(.slice q33 (l10 ++ ([(⟨x14.Path, x14.Turn⟩ : S_api_Turn)] : List S_api_Turn)).length x34)]) rfl rfl rfl rfl rfl sz39 rfl rfl fun w H=>nt<|have H:=H.front 4 rfl;have H:=H.front 4 rfl;have H:=H.front 2 rfl;have H:=H.front 4 rfl;have H:=H.front 4 rfl;⟨(.slice q33 (l10 ++ ([(⟨x14.Path, x14.Turn⟩ : S_api_Turn)] : List S_api_Turn)).length x34), l10 ++ ([(⟨x14.Path, x14.Turn⟩ : S_api_Turn)] : List S_api_Turn), _, E.sel [2, 3, 5, 6, 7, 8] rfl, H, fun r hr => (t2 (hs12 r hr)), (t2 hr13), hm⟩
     ·exact wp_skip<|q_then<|have H:=H.front 4 rfl;have H:=H.front 4 rfl;have H:=H.front 2 rfl;have H:=H.front 4 rfl;have H:=H.front 4 rfl;⟨v9, l10, _, E.sel [2, 3, 5, 6, 7, 8] rfl, H, fun r hr => (t1 (hs12 r hr)), (t1 hr13), hm⟩
    ·clear E H hm
     rintro a w ⟨v18, l19, rs20, E, H, hs21, hr22, hm⟩
     unfold m_part_Keep_j1 at hm
     refine sq<|pr 1 E rfl fun a E=>st_st (i := 2) E H (wn rfl) rfl (us := [.int .i64 0]) rfl rfl rfl rfl rfl sz2 rfl rfl fun w H=>nt<|wp_region_lit<|pr 1 E rfl fun a E=>lb E H 1 rfl rfl rfl rfl rfl rfl rfl Tryz.underlying22 rfl fun a E=>sv E rfl rfl rfl (x_ldBN (i := 2) (us := [.string x14.Path, .string x14.Data, .int .i64 x14.Version, .int .i64 0, .int .i64 x14.Owner]) E H rfl rfl rfl rfl Tryz.underlying80 rfl sz80) fun a E=>st_bsR (e := 80) (d := k_api_Node) (cs := [.string x14.Path, .string x14.Data, .int .i64 x14.Version, .int .i64 0, .int .i64 x14.Owner]) (xs := [(⟨x14.Path, x14.Data, x14.Version, 0, x14.Owner⟩ : S_api_Node)]) E H (wn rfl) rfl rfl rfl (E.evs rfl) (by kernel_rfl) rfl (fun ok hr => (Rows.single (d := k_api_Node) (cs := [.string x14.Path, .string x14.Data, .int .i64 x14.Version, .int .i64 0, .int .i64 x14.Owner]) (x := (⟨x14.Path, x14.Data, x14.Version, 0, x14.Owner⟩ : S_api_Node)) k_api_Node_mk)) fun v23 w a H E=>?_
     refine bk hm fun hx26 hm=>st_append (i := 3) E H (wn rfl) rfl rfl rfl rfl rfl rfl (src_rd m0) Tryz.underlying22 inf80 rfl hx26 rfl fun v24 w a H E=>pr 1 E rfl fun a E=>?_
     obtain ⟨q27, x28, rfl⟩ := H.rowform (i := 3) rfl
     exact st_st (i := 1) E H (wn rfl) rfl (us := [(.slice q27 (l8 ++ ([(⟨x14.Path, x14.Data, x14.Version, 0, x14.Owner⟩ : S_api_Node)] : List S_api_Node)).length x28)]) rfl rfl rfl rfl rfl sz22 rfl rfl fun w H=>wpList_nil<|q_blk<|q_then<|wp_region_lit<|pr 2 E rfl fun a E=>nt<|have H:=H.drop 2;⟨k1, Nat.lt_succ_self k1, (.slice q27 (l8 ++ ([(⟨x14.Path, x14.Data, x14.Version, 0, x14.Owner⟩ : S_api_Node)] : List S_api_Node)).length x28), v18, IntKind.i64.wrap (x6 + 1), l8 ++ ([(⟨x14.Path, x14.Data, x14.Version, 0, x14.Owner⟩ : S_api_Node)] : List S_api_Node), l19, _, E.sel [2, 3, 6, 7, 8] rfl, H, fun r hr => (t1 (hs21 r hr)), (t1 hr22), hm⟩
   ·refine wp_exit<|q_thenX<|q_thenX<|q_hit<|q_then<|sq<|sv E rfl rfl rfl (x_ldBN (i := 1) (us := [v7, v9]) E H rfl rfl rfl rfl Tryz.underlying41 rfl sz41) fun a E=>?_
    obtain ⟨q35, x36, rfl⟩ := H.rowform (i := 2) rfl
    obtain ⟨q37, x38, rfl⟩ := H.rowform (i := 3) rfl
    refine st_st (i := 0) E H (wn rfl) rfl (us := [(.slice q35 l8.length x36), (.slice q37 l10.length x38)]) rfl rfl rfl rfl rfl sz41 rfl rfl fun w H=>nt<|wp_ret<|outR1 E rfl (rvBN (i := 0) (us := [(.slice q35 l8.length x36), (.slice q37 l10.length x38)]) H rfl rfl rfl Tryz.underlying41 rfl sz41)<|have H:=H.thaw (i := 2) rfl;have H:=H.thaw (i := 2) rfl;have H:=H.drop 0;have H:=H.drop 0;?_
    cases hm
    exact ⟨(.slice q35 l8.length x36), (.slice q37 l10.length x38), rfl, H.reads (sub_cons mm1 (sub_cons m0 (fun r hr => (t2 (hs12 r hr)))))⟩

def m_cantonlaw08_head : Option Bool :=
  m_nodes_New.bind fun u2 => (m_multi_Apply u2 ([(⟨1, (ByteArray.mk #[47, 97]), (ByteArray.mk #[]), 0, 0, false⟩ : S_api_Op), (⟨1, (ByteArray.mk #[47, 97, 47, 98]), (ByteArray.mk #[]), 0, 0, false⟩ : S_api_Op)] : List S_api_Op)).bind fun u8 => (m_multi_Apply u2 ([(⟨1, (ByteArray.mk #[47, 97]), (ByteArray.mk #[]), 0, 0, false⟩ : S_api_Op), (⟨1, (ByteArray.mk #[47, 97, 47, 98]), (ByteArray.mk #[]), 0, 0, false⟩ : S_api_Op), (⟨1, (ByteArray.mk #[47, 97]), (ByteArray.mk #[]), 0, 0, false⟩ : S_api_Op)] : List S_api_Op)).bind fun u16 => (m_multi_Of ([(⟨1, (ByteArray.mk #[47, 97]), (ByteArray.mk #[]), 0, 0, false⟩ : S_api_Op), (⟨1, (ByteArray.mk #[47, 97, 47, 98]), (ByteArray.mk #[]), 0, 0, false⟩ : S_api_Op)] : List S_api_Op)).bind fun u24 => (m_part_Keep u2).bind fun u27 => (m_multi_All u27 u24).bind fun u31 => if ((u8.1.length : Int) == 3) = true then (if (u8.2.Err == 0) = true then (if ((u8.2.Results.length : Int) == 2) = true then (if ((u16.1.length : Int) == 1) = true then (if (u16.2.Err == 61) = true then (if (u16.2.At == 2) = true then (if ((u24.length : Int) == 4) = true then ((idx u24 2).bind fun x48 => if (x48.Op == 1) = true then (if ((u31.2.1.length : Int) == 4) = true then (if (u31.2.2.1 == 0) = true then (if (u31.2.2.2 == 0) = true then ((m_multi_May ([] : List S_api_Op)).bind fun u55 => some (!u55)) else (some (false))) else (some (false))) else (some (false))) else (some (false))) else (some (false))) else (some (false))) else (some (false))) else (some (false))) else (some (false))) else (some (false))) else (some (false))
theorem c_cantonlaw08_head {w : World} {Fo : List Ob} {rs : List Rp} (H : Sep w (Fo) rs) (hr1 : rTab Tryz.prog ∈ rs) {r : Bool} (hm : m_cantonlaw08_head = some r) :
    Calls Tryz.prog 14 [].toArray w (Ret fun v w' => .bool r = v ∧ Sep w' (Fo) (rs)) := by
 unfold m_cantonlaw08_head at hm
 refine enter Tryz.func14 rfl Tryz.ntmps14 rfl fun a E =>?_
 simp only [enum, Nat.reduceAdd] at E
 refine sq<|pr 1 E rfl fun a E=>nx<|bd hm fun u2 hx3 hm=>x_cl E rfl rfl rfl rfl rfl cf54 (c_nodes_New H hx3)<|?_
 rintro _ w ⟨v4, rfl, H⟩ a E
 refine pr 1 E rfl fun a E=>nx<|sv E rfl rfl rfl (x_build E rfl (E.evs rfl) (v := .agg #[.int .i64 1, .string (ByteArray.mk #[47, 97]), .string (ByteArray.mk #[]), .int .i64 0, .int .i64 0, .bool false]) (by kernel_rfl)) fun a E=>al E H rfl rfl rfl rfl zr55 fun p5 w a H E=>st_st (i := 0) E H (wn rfl) rfl (us := [.int .i64 1, .string (ByteArray.mk #[47, 97]), .string (ByteArray.mk #[]), .int .i64 0, .int .i64 0, .bool false]) rfl rfl rfl rfl rfl sz55 rfl rfl fun w H=>nx<|sv E rfl rfl rfl (x_build E rfl (E.evs rfl) (v := .agg #[.int .i64 1, .string (ByteArray.mk #[47, 97, 47, 98]), .string (ByteArray.mk #[]), .int .i64 0, .int .i64 0, .bool false]) (by kernel_rfl)) fun a E=>al E H rfl rfl rfl rfl zr55 fun p6 w a H E=>st_st (i := 0) E H (wn rfl) rfl (us := [.int .i64 1, .string (ByteArray.mk #[47, 97, 47, 98]), .string (ByteArray.mk #[]), .int .i64 0, .int .i64 0, .bool false]) rfl rfl rfl rfl rfl sz55 rfl rfl fun w H=>?_
 refine nx<|pr 1 E rfl fun a E=>sv E rfl rfl rfl (x_ldBN (i := 1) (us := [.int .i64 1, .string (ByteArray.mk #[47, 97]), .string (ByteArray.mk #[]), .int .i64 0, .int .i64 0, .bool false]) E H rfl rfl rfl rfl Tryz.underlying55 rfl sz55) fun a E=>sv E rfl rfl rfl (x_ldBN (i := 0) (us := [.int .i64 1, .string (ByteArray.mk #[47, 97, 47, 98]), .string (ByteArray.mk #[]), .int .i64 0, .int .i64 0, .bool false]) E H rfl rfl rfl rfl Tryz.underlying55 rfl sz55) fun a E=>st_bsO (e := 55) (d := k_api_Op) (cs := [.int .i64 1, .string (ByteArray.mk #[47, 97]), .string (ByteArray.mk #[]), .int .i64 0, .int .i64 0, .bool false, .int .i64 1, .string (ByteArray.mk #[47, 97, 47, 98]), .string (ByteArray.mk #[]), .int .i64 0, .int .i64 0, .bool false]) (xs := [(⟨1, (ByteArray.mk #[47, 97]), (ByteArray.mk #[]), 0, 0, false⟩ : S_api_Op), (⟨1, (ByteArray.mk #[47, 97, 47, 98]), (ByteArray.mk #[]), 0, 0, false⟩ : S_api_Op)]) E H (wn rfl) rfl rfl rfl (E.evs rfl) (by kernel_rfl) rfl rfl (fun ok hr => (Rows.append (Rows.single (d := k_api_Op) (cs := [.int .i64 1, .string (ByteArray.mk #[47, 97]), .string (ByteArray.mk #[]), .int .i64 0, .int .i64 0, .bool false]) (x := (⟨1, (ByteArray.mk #[47, 97]), (ByteArray.mk #[]), 0, 0, false⟩ : S_api_Op)) k_api_Op_mk) (Rows.single (d := k_api_Op) (cs := [.int .i64 1, .string (ByteArray.mk #[47, 97, 47, 98]), .string (ByteArray.mk #[]), .int .i64 0, .int .i64 0, .bool false]) (x := (⟨1, (ByteArray.mk #[47, 97, 47, 98]), (ByteArray.mk #[]), 0, 0, false⟩ : S_api_Op)) k_api_Op_mk))) fun v7 w a H E=>have H:=H.thaw (i := 3) rfl;have H:=H.thaw (i := 0) rfl;bd hm fun u8 hx9 hm=>x_cl E rfl rfl rfl rfl rfl cf17 (c_multi_Apply v4 u2 v7 ([(⟨1, (ByteArray.mk #[47, 97]), (ByteArray.mk #[]), 0, 0, false⟩ : S_api_Op), (⟨1, (ByteArray.mk #[47, 97, 47, 98]), (ByteArray.mk #[]), 0, 0, false⟩ : S_api_Op)] : List S_api_Op) H mm1 m0 (t2 hr1) hx9)<|?_
 rintro _ w ⟨v10, v11, rfl, H⟩ a E
 refine pr 3 E rfl fun a E=>al E H rfl rfl rfl rfl zr30 fun p12 w a H E=>pr 1 E rfl fun a E=>?_
 obtain ⟨q13, x14, rfl⟩ := H.slform mm1
 refine st_st (i := 0) E H (wn rfl) rfl (us := (l_api_Done u8.2 (.slice q13 u8.2.Results.length x14))) rfl rfl rfl rfl rfl sz30 rfl rfl fun w H=>nx<|pr 1 E rfl fun a E=>sv E rfl rfl rfl (x_ldBN (i := 2) (us := [.int .i64 1, .string (ByteArray.mk #[47, 97]), .string (ByteArray.mk #[]), .int .i64 0, .int .i64 0, .bool false]) E H rfl rfl rfl rfl Tryz.underlying55 rfl sz55) fun a E=>sv E rfl rfl rfl (x_ldBN (i := 1) (us := [.int .i64 1, .string (ByteArray.mk #[47, 97, 47, 98]), .string (ByteArray.mk #[]), .int .i64 0, .int .i64 0, .bool false]) E H rfl rfl rfl rfl Tryz.underlying55 rfl sz55) fun a E=>sv E rfl rfl rfl (x_ldBN (i := 2) (us := [.int .i64 1, .string (ByteArray.mk #[47, 97]), .string (ByteArray.mk #[]), .int .i64 0, .int .i64 0, .bool false]) E H rfl rfl rfl rfl Tryz.underlying55 rfl sz55) fun a E=>st_bsO (e := 55) (d := k_api_Op) (cs := [.int .i64 1, .string (ByteArray.mk #[47, 97]), .string (ByteArray.mk #[]), .int .i64 0, .int .i64 0, .bool false, .int .i64 1, .string (ByteArray.mk #[47, 97, 47, 98]), .string (ByteArray.mk #[]), .int .i64 0, .int .i64 0, .bool false, .int .i64 1, .string (ByteArray.mk #[47, 97]), .string (ByteArray.mk #[]), .int .i64 0, .int .i64 0, .bool false]) (xs := [(⟨1, (ByteArray.mk #[47, 97]), (ByteArray.mk #[]), 0, 0, false⟩ : S_api_Op), (⟨1, (ByteArray.mk #[47, 97, 47, 98]), (ByteArray.mk #[]), 0, 0, false⟩ : S_api_Op), (⟨1, (ByteArray.mk #[47, 97]), (ByteArray.mk #[]), 0, 0, false⟩ : S_api_Op)]) E H (wn rfl) rfl rfl rfl (E.evs rfl) (by kernel_rfl) rfl rfl (fun ok hr => (Rows.append (Rows.append (Rows.single (d := k_api_Op) (cs := [.int .i64 1, .string (ByteArray.mk #[47, 97]), .string (ByteArray.mk #[]), .int .i64 0, .int .i64 0, .bool false]) (x := (⟨1, (ByteArray.mk #[47, 97]), (ByteArray.mk #[]), 0, 0, false⟩ : S_api_Op)) k_api_Op_mk) (Rows.single (d := k_api_Op) (cs := [.int .i64 1, .string (ByteArray.mk #[47, 97, 47, 98]), .string (ByteArray.mk #[]), .int .i64 0, .int .i64 0, .bool false]) (x := (⟨1, (ByteArray.mk #[47, 97, 47, 98]), (ByteArray.mk #[]), 0, 0, false⟩ : S_api_Op)) k_api_Op_mk)) (Rows.single (d := k_api_Op) (cs := [.int .i64 1, .string (ByteArray.mk #[47, 97]), .string (ByteArray.mk #[]), .int .i64 0, .int .i64 0, .bool false]) (x := (⟨1, (ByteArray.mk #[47, 97]), (ByteArray.mk #[]), 0, 0, false⟩ : S_api_Op)) k_api_Op_mk))) fun v15 w a H E=>have H:=H.thaw (i := 0) rfl;bd hm fun u16 hx17 hm=>?_
 refine x_cl E rfl rfl rfl rfl rfl cf17 (c_multi_Apply v4 u2 v15 ([(⟨1, (ByteArray.mk #[47, 97]), (ByteArray.mk #[]), 0, 0, false⟩ : S_api_Op), (⟨1, (ByteArray.mk #[47, 97, 47, 98]), (ByteArray.mk #[]), 0, 0, false⟩ : S_api_Op), (⟨1, (ByteArray.mk #[47, 97]), (ByteArray.mk #[]), 0, 0, false⟩ : S_api_Op)] : List S_api_Op) H mm4 m0 (t5 hr1) hx17)<|?_
 rintro _ w ⟨v18, v19, rfl, H⟩ a E
 refine pr 3 E rfl fun a E=>al E H rfl rfl rfl rfl zr30 fun p20 w a H E=>pr 1 E rfl fun a E=>?_
 obtain ⟨q21, x22, rfl⟩ := H.slform mm1
 refine st_st (i := 0) E H (wn rfl) rfl (us := (l_api_Done u16.2 (.slice q21 u16.2.Results.length x22))) rfl rfl rfl rfl rfl sz30 rfl rfl fun w H=>nx<|sv E rfl rfl rfl (x_ldBN (i := 3) (us := [.int .i64 1, .string (ByteArray.mk #[47, 97]), .string (ByteArray.mk #[]), .int .i64 0, .int .i64 0, .bool false]) E H rfl rfl rfl rfl Tryz.underlying55 rfl sz55) fun a E=>sv E rfl rfl rfl (x_ldBN (i := 2) (us := [.int .i64 1, .string (ByteArray.mk #[47, 97, 47, 98]), .string (ByteArray.mk #[]), .int .i64 0, .int .i64 0, .bool false]) E H rfl rfl rfl rfl Tryz.underlying55 rfl sz55) fun a E=>st_bsO (e := 55) (d := k_api_Op) (cs := [.int .i64 1, .string (ByteArray.mk #[47, 97]), .string (ByteArray.mk #[]), .int .i64 0, .int .i64 0, .bool false, .int .i64 1, .string (ByteArray.mk #[47, 97, 47, 98]), .string (ByteArray.mk #[]), .int .i64 0, .int .i64 0, .bool false]) (xs := [(⟨1, (ByteArray.mk #[47, 97]), (ByteArray.mk #[]), 0, 0, false⟩ : S_api_Op), (⟨1, (ByteArray.mk #[47, 97, 47, 98]), (ByteArray.mk #[]), 0, 0, false⟩ : S_api_Op)]) E H (wn rfl) rfl rfl rfl (E.evs rfl) (by kernel_rfl) rfl rfl (fun ok hr => (Rows.append (Rows.single (d := k_api_Op) (cs := [.int .i64 1, .string (ByteArray.mk #[47, 97]), .string (ByteArray.mk #[]), .int .i64 0, .int .i64 0, .bool false]) (x := (⟨1, (ByteArray.mk #[47, 97]), (ByteArray.mk #[]), 0, 0, false⟩ : S_api_Op)) k_api_Op_mk) (Rows.single (d := k_api_Op) (cs := [.int .i64 1, .string (ByteArray.mk #[47, 97, 47, 98]), .string (ByteArray.mk #[]), .int .i64 0, .int .i64 0, .bool false]) (x := (⟨1, (ByteArray.mk #[47, 97, 47, 98]), (ByteArray.mk #[]), 0, 0, false⟩ : S_api_Op)) k_api_Op_mk))) fun v23 w a H E=>have H:=H.thaw (i := 0) rfl;bd hm fun u24 hx25 hm=>x_cl E rfl rfl rfl rfl rfl cf24 (c_multi_Of v23 ([(⟨1, (ByteArray.mk #[47, 97]), (ByteArray.mk #[]), 0, 0, false⟩ : S_api_Op), (⟨1, (ByteArray.mk #[47, 97, 47, 98]), (ByteArray.mk #[]), 0, 0, false⟩ : S_api_Op)] : List S_api_Op) H m0 hx25)<|?_
 rintro _ w ⟨v26, rfl, H⟩ a E
 refine pr 1 E rfl fun a E=>nx<|pr 1 E rfl fun a E=>bd hm fun u27 hx28 hm=>x_cl E rfl rfl rfl rfl rfl cf39 (c_part_Keep v4 u2 H (t1 mm6) hx28)<|?_
 rintro _ w ⟨v29, v30, rfl, H⟩ a E
 refine pr 1 E rfl fun a E=>have H:=H.thaw (i := 0) rfl;bd hm fun u31 hx32 hm=>x_cl E rfl rfl rfl rfl rfl cf28 (c_multi_All u27 v29 v30 v26 u24 H mm1 mm2 m0 (t3 (t8 hr1)) hx32)<|?_
 rintro _ w ⟨v33, v34, v35, rfl, H⟩ a E
 refine pr 5 E rfl fun a E=>al E H rfl rfl rfl rfl zr41 fun p36 w a H E=>?_
 obtain ⟨q37, x38, rfl⟩ := H.slform m0
 obtain ⟨q39, x40, rfl⟩ := H.slform mm1
 refine st_st (i := 0) E H (wn rfl) rfl (us := [(.slice q37 u31.1.Nodes.length x38), (.slice q39 u31.1.Turns.length x40)]) rfl rfl rfl rfl rfl sz41 rfl rfl fun w H=>pr 3 E rfl fun a E=>nx<|pr 1 E rfl fun a E=>sv E rfl rfl rfl (x_lenS E H rfl rfl (t3 mm6) Tryz.underlying22) fun a E=>pr 2 E rfl fun a E=>cs hm (fun hb41 hm=>?_) fun hb41 hm=>?_
 ·refine pk 1 E (kc 49 rfl hb41) rfl fun a E=>st_val E (ws' (d := 49) E rfl rfl rfl rfl hb41) rfl rfl (x_ldB (i := 3) E H rfl rfl rfl rfl Tryz.underlying27 rfl) fun a E=>pk 3 E (kc 49 rfl hb41) rfl fun a E=>cs hm (fun hb42 hm=>?_) fun hb42 hm=>?_
  ·refine pk 1 E (kc 54 rfl hb42) rfl fun a E=>st_val E (ws' (d := 54) E rfl rfl rfl rfl hb42) rfl rfl (x_ldB (i := 3) E H rfl rfl rfl rfl Tryz.underlying28 rfl) fun a E=>st_val E (ws' (d := 54) E rfl rfl rfl rfl hb42) rfl rfl (x_lenS E H rfl rfl (t4 mm6) Tryz.underlying28) fun a E=>pk 3 E (kc 54 rfl hb42) rfl fun a E=>cs hm (fun hb43 hm=>?_) fun hb43 hm=>?_
   ·refine pk 1 E (kc 60 rfl hb43) rfl fun a E=>st_val E (ws' (d := 60) E rfl rfl rfl rfl hb43) rfl rfl (x_lenS E H rfl rfl mm6 Tryz.underlying22) fun a E=>pk 3 E (kc 60 rfl hb43) rfl fun a E=>cs hm (fun hb44 hm=>?_) fun hb44 hm=>?_
    ·refine pk 1 E (kc 65 rfl hb44) rfl fun a E=>st_val E (ws' (d := 65) E rfl rfl rfl rfl hb44) rfl rfl (x_ldB (i := 2) E H rfl rfl rfl rfl Tryz.underlying27 rfl) fun a E=>pk 3 E (kc 65 rfl hb44) rfl fun a E=>cs hm (fun hb45 hm=>?_) fun hb45 hm=>?_
     ·refine pk 1 E (kc 70 rfl hb45) rfl fun a E=>st_val E (ws' (d := 70) E rfl rfl rfl rfl hb45) rfl rfl (x_ldB (i := 2) E H rfl rfl rfl rfl Tryz.underlying3 rfl) fun a E=>pk 3 E (kc 70 rfl hb45) rfl fun a E=>cs hm (fun hb46 hm=>?_) fun hb46 hm=>?_
      ·refine pk 1 E (kc 75 rfl hb46) rfl fun a E=>st_val E (ws' (d := 75) E rfl rfl rfl rfl hb46) rfl rfl (x_lenS E H rfl rfl mm2 Tryz.underlying36) fun a E=>pk 3 E (kc 75 rfl hb46) rfl fun a E=>cs hm (fun hb47 hm=>?_) fun hb47 hm=>?_
       ·refine pk 1 E (kc 80 rfl hb47) rfl fun a E=>bd hm fun x48 hx49 hm=>st_ixS E H (ws' (d := 80) E rfl rfl rfl rfl hb47) rfl rfl rfl rfl rfl mm2 Tryz.underlying36 sz64 hx49 fun q50 a H E=>have H:=H.derive1 m0 (rAt (kI .i64) (q50.add 0) x48.Op) (fun ok h => k_api_Piece_at0 h);pk 1 E (kc 80 rfl hb47) rfl fun a E=>st_val E (ws' (d := 80) E rfl rfl rfl rfl hb47) rfl rfl (x_ldA E H rfl rfl m0 Tryz.underlying3 rfl) fun a E=>pk 3 E (kc 80 rfl hb47) rfl fun a E=>cs hm (fun hb51 hm=>?_) fun hb51 hm=>?_
        ·refine pk 1 E (kc 87 rfl hb51) rfl fun a E=>st_val E (ws' (d := 87) E rfl rfl rfl rfl hb51) rfl rfl (x_lenR (i := 1) E H rfl rfl rfl Tryz.underlying28) fun a E=>pk 3 E (kc 87 rfl hb51) rfl fun a E=>cs hm (fun hb52 hm=>?_) fun hb52 hm=>?_
         ·refine pk 4 E (kc 92 rfl hb52) rfl fun a E=>cs hm (fun hb53 hm=>?_) fun hb53 hm=>?_
          ·refine pk 4 E (kc 96 rfl hb53) rfl fun a E=>cs hm (fun hb54 hm=>?_) fun hb54 hm=>?_
           ·refine have H:=H.nilSl k_api_Op;bd hm fun u55 hx56 hm=>st_call E (ws' (d := 100) E rfl rfl rfl rfl hb54) rfl rfl (x_call E rfl rfl (cf19 _)) (c_multi_May (.slice none 0 0) ([] : List S_api_Op) H m0 hx56)<|?_
            rintro _ w ⟨rfl, H⟩ a E
            refine pk 3 E (kc 100 rfl hb54) rfl fun a E=>nt<|wp_ret<|out1 E rfl rfl<|have H:=H.drop 0;have H:=H.drop 0;have H:=H.drop 0;have H:=H.drop 0;have H:=H.drop 0;?_
            refine have H:=H.drop 0;?_
            cases hm
            exact ⟨rfl, H.reads (fun r hr => (t8 (t8 hr)))⟩
           ·refine pk 4 E (kc 100 rfl hb54) rfl fun a E=>nt<|wp_ret<|out1 E rfl rfl<|have H:=H.drop 0;have H:=H.drop 0;have H:=H.drop 0;have H:=H.drop 0;have H:=H.drop 0;?_
            refine have H:=H.drop 0;?_
            cases hm
            exact ⟨rfl, H.reads (fun r hr => (t7 (t8 hr)))⟩
          ·refine pk 8 E (kc 96 rfl hb53) rfl fun a E=>nt<|wp_ret<|out1 E rfl rfl<|have H:=H.drop 0;have H:=H.drop 0;have H:=H.drop 0;have H:=H.drop 0;have H:=H.drop 0;?_
           refine have H:=H.drop 0;?_
           cases hm
           exact ⟨rfl, H.reads (fun r hr => (t7 (t8 hr)))⟩
         ·refine pk 12 E (kc 92 rfl hb52) rfl fun a E=>nt<|wp_ret<|out1 E rfl rfl<|have H:=H.drop 0;have H:=H.drop 0;have H:=H.drop 0;have H:=H.drop 0;have H:=H.drop 0;?_
          refine have H:=H.drop 0;?_
          cases hm
          exact ⟨rfl, H.reads (fun r hr => (t7 (t8 hr)))⟩
        ·refine pk 17 E (kc 87 rfl hb51) rfl fun a E=>nt<|wp_ret<|out1 E rfl rfl<|have H:=H.drop 0;have H:=H.drop 0;have H:=H.drop 0;have H:=H.drop 0;have H:=H.drop 0;?_
         refine have H:=H.drop 0;?_
         cases hm
         exact ⟨rfl, H.reads (fun r hr => (t7 (t8 hr)))⟩
       ·refine pk 24 E (kc 80 rfl hb47) rfl fun a E=>nt<|wp_ret<|out1 E rfl rfl<|have H:=H.drop 0;have H:=H.drop 0;have H:=H.drop 0;have H:=H.drop 0;have H:=H.drop 0;?_
        refine have H:=H.drop 0;?_
        cases hm
        exact ⟨rfl, H.reads (fun r hr => (t5 (t8 hr)))⟩
      ·refine pk 29 E (kc 75 rfl hb46) rfl fun a E=>nt<|wp_ret<|out1 E rfl rfl<|have H:=H.drop 0;have H:=H.drop 0;have H:=H.drop 0;have H:=H.drop 0;have H:=H.drop 0;?_
       refine have H:=H.drop 0;?_
       cases hm
       exact ⟨rfl, H.reads (fun r hr => (t5 (t8 hr)))⟩
     ·refine pk 34 E (kc 70 rfl hb45) rfl fun a E=>nt<|wp_ret<|out1 E rfl rfl<|have H:=H.drop 0;have H:=H.drop 0;have H:=H.drop 0;have H:=H.drop 0;have H:=H.drop 0;?_
      refine have H:=H.drop 0;?_
      cases hm
      exact ⟨rfl, H.reads (fun r hr => (t5 (t8 hr)))⟩
    ·refine pk 39 E (kc 65 rfl hb44) rfl fun a E=>nt<|wp_ret<|out1 E rfl rfl<|have H:=H.drop 0;have H:=H.drop 0;have H:=H.drop 0;have H:=H.drop 0;have H:=H.drop 0;?_
     refine have H:=H.drop 0;?_
     cases hm
     exact ⟨rfl, H.reads (fun r hr => (t5 (t8 hr)))⟩
   ·refine pk 44 E (kc 60 rfl hb43) rfl fun a E=>nt<|wp_ret<|out1 E rfl rfl<|have H:=H.drop 0;have H:=H.drop 0;have H:=H.drop 0;have H:=H.drop 0;have H:=H.drop 0;?_
    refine have H:=H.drop 0;?_
    cases hm
    exact ⟨rfl, H.reads (fun r hr => (t5 (t8 hr)))⟩
  ·refine pk 50 E (kc 54 rfl hb42) rfl fun a E=>nt<|wp_ret<|out1 E rfl rfl<|have H:=H.drop 0;have H:=H.drop 0;have H:=H.drop 0;have H:=H.drop 0;have H:=H.drop 0;?_
   refine have H:=H.drop 0;?_
   cases hm
   exact ⟨rfl, H.reads (fun r hr => (t5 (t8 hr)))⟩
 ·refine pk 55 E (kc 49 rfl hb41) rfl fun a E=>nt<|wp_ret<|out1 E rfl rfl<|have H:=H.drop 0;have H:=H.drop 0;have H:=H.drop 0;have H:=H.drop 0;have H:=H.drop 0;?_
  refine have H:=H.drop 0;?_
  cases hm
  exact ⟨rfl, H.reads (fun r hr => (t5 (t8 hr)))⟩

def m_cantonref06_SameList_l1 (l2 : List S_api_Result) (l4 : List S_api_Result) : Nat → Int → Option Bool
  | 0, _ => none
  | k1 + 1, x7 =>
    if (decide (x7 < (l2.length : Int))) = true then ((idx l2 x7).bind fun x14 => (idx l4 x7).bind fun x25 => (m_cantonref06_SameOne x14 x25).bind fun u36 => if (!u36) = true then (some (false)) else (m_cantonref06_SameList_l1 l2 l4 k1 (IntKind.i64.wrap (x7 + 1)))) else (some (true))
def m_cantonref06_SameList (l2 : List S_api_Result) (l4 : List S_api_Result) : Option Bool :=
  if ((l2.length : Int) != (l4.length : Int)) = true then (some (false)) else (m_cantonref06_SameList_l1 l2 l4 (((l2.length : Int) - 0 : Int).toNat + 1) 0)
theorem c_cantonref06_SameList {w : World} {Fo : List Ob} {rs : List Rp} (v1 : Value) (l2 : List S_api_Result) (v3 : Value) (l4 : List S_api_Result) (H : Sep w (Fo) rs) (hr5 : rSl k_api_Result v1 l2 ∈ rs) (hr6 : rSl k_api_Result v3 l4 ∈ rs) {r : Bool} (hm : m_cantonref06_SameList l2 l4 = some r) :
    Calls Tryz.prog 31 [v1, v3].toArray w (Ret fun v w' => .bool r = v ∧ Sep w' (Fo) (rs)) := by
 unfold m_cantonref06_SameList at hm
 refine enter Tryz.func31 rfl Tryz.ntmps31 rfl fun a E =>?_
 simp only [enum, Nat.reduceAdd] at E
 refine sq<|pr 1 E rfl fun a E=>nt<|wp_seq<|sq<|pr 1 E rfl fun a E=>sv E rfl rfl rfl (x_lenS E H rfl rfl hr5 Tryz.underlying28) fun a E=>pr 1 E rfl fun a E=>sv E rfl rfl rfl (x_lenS E H rfl rfl hr6 Tryz.underlying28) fun a E=>?_
 refine pr 1 E rfl fun a E=>nt<|wif E hm rfl (fun hm=>?_) fun hm=>?_
 ·refine sq<|pr 1 E rfl fun a E=>nt<|wp_ret<|q_thenR<|out1 E rfl rfl<|?_
  cases hm
  exact ⟨rfl, H.reads (fun r hr => hr)⟩
 ·refine wp_skip<|q_then<|wp_seq<|sq<|pr 1 E rfl fun a E=>nt<|wp_block<|wp_loop_g (fun k1 a w => ∃ (x7 : Int) (rs8 : List Rp), Env 27 a [(0, v1), (1, v3), (5, .int .i64 x7)] ∧ Sep w (Fo) rs8 ∧ (∀ r, r ∈ rs → r ∈ rs8) ∧ rSl k_api_Result v1 l2 ∈ rs8 ∧ rSl k_api_Result v3 l4 ∈ rs8 ∧ m_cantonref06_SameList_l1 l2 l4 k1 x7 = some r) (((l2.length : Int) - 0 : Int).toNat + 1) ?_ ?_
  ·exact ⟨0, _, E.sel [0, 1, 5] rfl, H, fun r hr => hr, hr5, hr6, hm⟩
  ·clear E H hm
   rintro k1 a w ⟨x7, rs8, E, H, hs9, hr10, hr11, hm⟩
   cases k1 with
   | zero => exact (none_some hm rfl).elim
   | succ k1 =>
    unfold m_cantonref06_SameList_l1 at hm
    refine wp_seq<|sq<|pr 2 E rfl fun a E=>sv E rfl rfl rfl (x_lenS E H rfl rfl hr10 Tryz.underlying28) fun a E=>pr 1 E rfl fun a E=>nt<|wif E hm rfl (fun hm=>?_) fun hm=>?_
    ·refine wp_skip<|q_then<|wp_seq<|wp_block<|wp_seq<|?_
     obtain ⟨u12, H⟩ := H.raw hr10
     obtain ⟨u13, H⟩ := H.raw (t1 hr11)
     refine dw [(0, 0), (1, 0), (2, 0), (3, 0), (4, 0), (5, 0), (6, 0), (7, 0), (8, 1), (9, 0)] [] [1, 0] H (by kernel_rfl) (fun _ _ _ h => False.elim h.2) fun w W0 hI H=>fn 2 E rfl fun a E=>bd hm fun x14 hx15 hm=>?_
     obtain ⟨q16, u19, hx17, hx18⟩ := dr_ixW (P := Tryz.prog) (k := .i64) hI (dr_mem (.head _)) Tryz.underlying28 sz51 hx15
     refine fr_val E rfl (wn rfl) rfl rfl (fun w hW=>x_ixA E rfl rfl rfl (hx17 w)) fun a E=>?_
     obtain ⟨_, hx21⟩ := dr_open hI hx18
     obtain ⟨v23, hx20, -⟩ := k_api_Result_open hx21
     have hx22 := hx18
     rw [hx20] at hx22
     have hx24 := dr_get hx22 (fun _ _ h => k_api_Result_get1 h)
     refine fr_val E rfl (wn rfl) rfl rfl (fun w hW=>x_ld E rfl rfl (ir_ldW (cs := [.int .i64 x14.Err, .string x14.Path, .string x14.Data, .int .i64 x14.Version, v23]) (DR.ir hx22) Tryz.underlying51 rfl sz51 w hW)) fun a E=>?_
     refine fn 2 E rfl fun a E=>bd hm fun x25 hx26 hm=>?_
     obtain ⟨q27, u30, hx28, hx29⟩ := dr_ixW (P := Tryz.prog) (k := .i64) hI (dr_mem (.tail _ (.head _))) Tryz.underlying28 sz51 hx26
     refine fr_val E rfl (wn rfl) rfl rfl (fun w hW=>x_ixA E rfl rfl rfl (hx28 w)) fun a E=>?_
     obtain ⟨_, hx32⟩ := dr_open hI hx29
     obtain ⟨v34, hx31, -⟩ := k_api_Result_open hx32
     have hx33 := hx29
     rw [hx31] at hx33
     have hx35 := dr_get hx33 (fun _ _ h => k_api_Result_get1 h)
     refine fr_val E rfl (wn rfl) rfl rfl (fun w hW=>x_ld E rfl rfl (ir_ldW (cs := [.int .i64 x25.Err, .string x25.Path, .string x25.Data, .int .i64 x25.Version, v34]) (DR.ir hx33) Tryz.underlying51 rfl sz51 w hW)) fun a E=>?_
     refine have H:=H.dr (sub_cons mm1 (sub_cons m0 (sub_nil))) hx24;have H:=H.dr (sub_cons mm2 (sub_cons mm1 (sub_nil))) hx35;fr_op rfl<|bd hm fun u36 hx37 hm=>x_cl E rfl rfl rfl rfl rfl cf33 (c_cantonref06_SameOne x14 v23 x25 v34 H mm1 m0 hx37)<|?_
     rintro _ w ⟨rfl, H⟩ a E
     refine nt<|?_
     refine ⟨⟨_, _, H, (subO_nil), (sub_cons mm3 (sub_cons mm2 (sub_nil)))⟩, ?_⟩
     refine fn 1 E rfl fun a E=>fr_nil<|?_
     clear hI
     refine q_then<|wif E hm rfl (fun hm=>?_) fun hm=>?_
     ·refine sq<|pr 1 E rfl fun a E=>nt<|wp_ret<|q_blkR<|q_thenR<|q_thenR<|q_blkR<|q_thenR<|?_
      refine out1 E rfl rfl<|?_
      cases hm
      exact ⟨rfl, H.reads (fun r hr => (t4 (hs9 r hr)))⟩
     ·exact wp_skip<|q_blk<|q_then<|wp_region_lit<|pr 3 E rfl fun a E=>nt<|⟨k1, Nat.lt_succ_self k1, IntKind.i64.wrap (x7 + 1), _, E.sel [0, 1, 5] rfl, H, fun r hr => (t4 (hs9 r hr)), (t4 hr10), (t4 hr11), hm⟩
    ·refine wp_exit<|q_thenX<|q_thenX<|q_hit<|q_then<|sq<|pr 1 E rfl fun a E=>nt<|wp_ret<|?_
     refine out1 E rfl rfl<|?_
     cases hm
     exact ⟨rfl, H.reads (hs9)⟩

def m_cantonlaw07_Great_j1 (x1 : S_api_Store) (x11 : Int) : Option Bool :=
  if (decide (x11 ≥ 3000)) = true then (some (true)) else ((m_cantonlaw06_Great x1.Nodes).bind fun u17 => some (u17))
def m_cantonlaw07_Great_l1 (x1 : S_api_Store) : Nat → Int → Int → Option Bool
  | 0, _, _ => none
  | k1 + 1, x19, x20 =>
    if (decide (x20 < (x1.Turns.length : Int))) = true then (if (decide (x19 < 3000)) = true then ((idx x1.Turns x20).bind fun x26 => m_cantonlaw07_Great_l1 x1 k1 (IntKind.i64.wrap (x19 + (min (x26.Dir.size : Int) 3000))) (IntKind.i64.wrap (x20 + 1))) else (m_cantonlaw07_Great_j1 x1 x19)) else (m_cantonlaw07_Great_j1 x1 x19)
def m_cantonlaw07_Great (x1 : S_api_Store) : Option Bool :=
  m_cantonlaw07_Great_l1 x1 3002 (x1.Turns.length : Int) 0
theorem c_cantonlaw07_Great {w : World} {Fo : List Ob} {rs : List Rp} (x1 : S_api_Store) (v2 : Value) (v3 : Value) (H : Sep w (Fo) rs) (hr4 : rSl k_api_Node v2 x1.Nodes ∈ rs) (hr5 : rSl k_api_Turn v3 x1.Turns ∈ rs) {r : Bool} (hm : m_cantonlaw07_Great x1 = some r) :
    Calls Tryz.prog 26 [.agg #[v2, v3]].toArray w (Ret fun v w' => .bool r = v ∧ Sep w' (Fo) (rs)) := by
 unfold m_cantonlaw07_Great at hm
 refine enter Tryz.func26 rfl Tryz.ntmps26 rfl fun a E =>?_
 simp only [enum, Nat.reduceAdd] at E
 refine sq<|?_
 obtain ⟨q7, x8, rfl⟩ := H.slform hr4
 obtain ⟨q9, x10, rfl⟩ := H.slform hr5
 refine st_box E H (wn rfl) rfl rfl (cs := [(.slice q7 x1.Nodes.length x8), (.slice q9 x1.Turns.length x10)]) rfl rfl rfl fun p6 w a H E=>pr 1 E rfl fun a E=>nx<|pr 1 E rfl fun a E=>lb E H 0 rfl rfl rfl rfl rfl rfl rfl Tryz.underlying39 rfl fun a E=>sv E rfl rfl rfl (x_lenS E H rfl rfl hr5 Tryz.underlying39) fun a E=>pr 1 E rfl fun a E=>nt<|wp_seq_cut (fun a w => ∃ (x11 : Int) (rs12 : List Rp), Env 36 a [(1, pt p6 0), (3, .int .i64 x11)] ∧ Sep w (Blk p6 41 [(.slice q7 x1.Nodes.length x8), (.slice q9 x1.Turns.length x10)] :: Fo) rs12 ∧ (∀ r, r ∈ rs → r ∈ rs12) ∧ rSl k_api_Node (.slice q7 x1.Nodes.length x8) x1.Nodes ∈ rs12 ∧ rSl k_api_Turn (.slice q9 x1.Turns.length x10) x1.Turns ∈ rs12 ∧ m_cantonlaw07_Great_j1 x1 x11 = some r) ?_ ?_
 ·refine sq<|pr 1 E rfl fun a E=>nt<|wp_block<|wp_loop_g (fun k1 a w => ∃ (x19 : Int) (x20 : Int) (rs21 : List Rp), Env 36 a [(1, pt p6 0), (3, .int .i64 x19), (4, .int .i64 x20)] ∧ Sep w (Blk p6 41 [(.slice q7 x1.Nodes.length x8), (.slice q9 x1.Turns.length x10)] :: Fo) rs21 ∧ (∀ r, r ∈ rs → r ∈ rs21) ∧ rSl k_api_Node (.slice q7 x1.Nodes.length x8) x1.Nodes ∈ rs21 ∧ rSl k_api_Turn (.slice q9 x1.Turns.length x10) x1.Turns ∈ rs21 ∧ m_cantonlaw07_Great_l1 x1 k1 x19 x20 = some r) (3002) ?_ ?_
  ·exact ⟨(x1.Turns.length : Int), 0, _, E.sel [1, 3, 4] rfl, H, fun r hr => hr, hr4, hr5, hm⟩
  ·clear E H hm
   rintro k1 a w ⟨x19, x20, rs21, E, H, hs22, hr23, hr24, hm⟩
   cases k1 with
   | zero => exact (none_some hm rfl).elim
   | succ k1 =>
    unfold m_cantonlaw07_Great_l1 at hm
    refine wp_seq<|sq<|pr 2 E rfl fun a E=>lb E H 0 rfl rfl rfl rfl rfl rfl rfl Tryz.underlying39 rfl fun a E=>sv E rfl rfl rfl (x_lenS E H rfl rfl hr24 Tryz.underlying39) fun a E=>pr 2 E rfl fun a E=>cs hm (fun hb25 hm=>?_) fun hb25 hm=>?_
    ·refine pk 3 E (kc 13 rfl hb25) rfl fun a E=>nt<|wif E hm rfl (fun hm=>?_) fun hm=>?_
     ·refine wp_skip<|q_then<|wp_seq<|wp_block<|wp_region_lit<|pr 2 E rfl fun a E=>lb E H 0 rfl rfl rfl rfl rfl rfl rfl Tryz.underlying39 rfl fun a E=>pr 1 E rfl fun a E=>bd hm fun x26 hx27 hm=>?_
      refine st_ixS E H (wn rfl) rfl rfl rfl rfl rfl hr24 Tryz.underlying39 sz83 hx27 fun q28 a H E=>have H:=H.derive1 m0 (rAt kS (q28.add 0) x26.Dir) (fun ok h => k_api_Turn_at0 h);pr 1 E rfl fun a E=>sv E rfl rfl rfl (x_ldA E H rfl rfl m0 Tryz.underlying9 rfl) fun a E=>pr 1 E rfl fun a E=>sv E rfl rfl rfl (x_min (t := 0) E rfl rfl rfl) fun a E=>pr 2 E rfl fun a E=>wpList_nil<|q_blk<|?_
      exact q_then<|wp_region_lit<|pr 3 E rfl fun a E=>nt<|⟨k1, Nat.lt_succ_self k1, IntKind.i64.wrap (x19 + (min (x26.Dir.size : Int) 3000)), IntKind.i64.wrap (x20 + 1), _, E.sel [1, 3, 4] rfl, H, fun r hr => (t2 (hs22 r hr)), (t2 hr23), (t2 hr24), hm⟩
     ·exact wp_exit<|q_thenX<|q_thenX<|q_hit<|q_then<|⟨x19, _, E.sel [1, 3] rfl, H, hs22, hr23, hr24, hm⟩
    ·exact pk 3 E (kc 13 rfl hb25) rfl fun a E=>nt<|wp_cond_false (E.eval rfl)<|wp_exit<|q_thenX<|q_thenX<|q_hit<|q_then<|⟨x19, _, E.sel [1, 3] rfl, H, hs22, hr23, hr24, hm⟩
 ·clear E H hm
  rintro a w ⟨x11, rs12, E, H, hs13, hr14, hr15, hm⟩
  unfold m_cantonlaw07_Great_j1 at hm
  refine sq<|pr 3 E rfl fun a E=>cs hm (fun hb16 hm=>?_) fun hb16 hm=>?_
  ·refine pk 5 E (kc 31 rfl hb16) rfl fun a E=>nt<|wp_ret<|out1 E rfl rfl<|have H:=H.drop 0;?_
   cases hm
   exact ⟨rfl, H.reads (hs13)⟩
  ·refine pk 1 E (kc 31 rfl hb16) rfl fun a E=>st_val E (ws' (d := 31) E rfl rfl rfl rfl hb16) rfl rfl (x_ldB (i := 0) E H rfl rfl rfl rfl Tryz.underlying22 rfl) fun a E=>bd hm fun u17 hx18 hm=>st_call E (ws' (d := 31) E rfl rfl rfl rfl hb16) rfl rfl (x_call E rfl rfl (cf15 _)) (c_cantonlaw06_Great (.slice q7 x1.Nodes.length x8) x1.Nodes H hr14 hx18)<|?_
   rintro _ w ⟨rfl, H⟩ a E
   refine pk 2 E (kc 31 rfl hb16) rfl fun a E=>nt<|wp_ret<|out1 E rfl rfl<|have H:=H.drop 0;?_
   cases hm
   exact ⟨rfl, H.reads (hs13)⟩

def m_cantonlaw07_GreatPart (x1 : S_api_Part) : Option Bool :=
  if (decide ((x1.Dir.size : Int) > 3000)) = true then (some (true)) else (if (decide ((x1.Path.size : Int) > 3000)) = true then (some (true)) else (some (decide ((x1.Data.size : Int) > 3000))))
theorem c_cantonlaw07_GreatPart {w : World} {Fo : List Ob} {rs : List Rp} (x1 : S_api_Part) (H : Sep w (Fo) rs) {r : Bool} (hm : m_cantonlaw07_GreatPart x1 = some r) :
    Calls Tryz.prog 41 [.agg (l_api_Part x1).toArray].toArray w (Ret fun v w' => .bool r = v ∧ Sep w' (Fo) (rs)) := by
 unfold m_cantonlaw07_GreatPart at hm
 refine enter Tryz.func41 rfl Tryz.ntmps41 rfl fun a E =>?_
 simp only [enum, Nat.reduceAdd] at E
 refine sq<|st_box E H (wn rfl) rfl rfl (cs := (l_api_Part x1)) rfl rfl rfl fun p2 w a H E=>pr 1 E rfl fun a E=>nx<|pr 1 E rfl fun a E=>lb E H 0 rfl rfl rfl rfl rfl rfl rfl Tryz.underlying9 rfl fun a E=>pr 3 E rfl fun a E=>cs hm (fun hb3 hm=>?_) fun hb3 hm=>?_
 ·refine pk 12 E (kc 7 rfl hb3) rfl fun a E=>nt<|wp_ret<|out1 E rfl rfl<|have H:=H.drop 0;?_
  cases hm
  exact ⟨rfl, H.reads (fun r hr => hr)⟩
 ·refine pk 1 E (kc 7 rfl hb3) rfl fun a E=>st_val E (ws' (d := 7) E rfl rfl rfl rfl hb3) rfl rfl (x_ldB (i := 0) E H rfl rfl rfl rfl Tryz.underlying9 rfl) fun a E=>pk 4 E (kc 7 rfl hb3) rfl fun a E=>cs hm (fun hb4 hm=>?_) fun hb4 hm=>?_
  ·refine pk 6 E (kc 13 rfl hb4) rfl fun a E=>nt<|wp_ret<|out1 E rfl rfl<|have H:=H.drop 0;?_
   cases hm
   exact ⟨rfl, H.reads (fun r hr => hr)⟩
  ·refine pk 1 E (kc 13 rfl hb4) rfl fun a E=>st_val E (ws' (d := 13) E rfl rfl rfl rfl hb4) rfl rfl (x_ldB (i := 0) E H rfl rfl rfl rfl Tryz.underlying9 rfl) fun a E=>pk 4 E (kc 13 rfl hb4) rfl fun a E=>nt<|wp_ret<|out1 E rfl rfl<|have H:=H.drop 0;?_
   cases hm
   exact ⟨rfl, H.reads (fun r hr => hr)⟩

def m_cantonlaw08_GreatPieces_l1 (l2 : List S_api_Piece) : Nat → Int → Option Bool
  | 0, _ => none
  | k1 + 1, x4 =>
    if (decide (x4 < (l2.length : Int))) = true then ((idx l2 x4).bind fun x8 => (m_cantonlaw07_GreatPart x8.Part).bind fun u11 => if u11 = true then (some (true)) else (m_cantonlaw08_GreatPieces_l1 l2 k1 (IntKind.i64.wrap (x4 + 1)))) else (some (false))
def m_cantonlaw08_GreatPieces (l2 : List S_api_Piece) : Option Bool :=
  if (decide ((l2.length : Int) > 60)) = true then (some (true)) else (m_cantonlaw08_GreatPieces_l1 l2 (((l2.length : Int) - 0 : Int).toNat + 1) 0)
theorem c_cantonlaw08_GreatPieces {w : World} {Fo : List Ob} {rs : List Rp} (v1 : Value) (l2 : List S_api_Piece) (H : Sep w (Fo) rs) (hr3 : rSl k_api_Piece v1 l2 ∈ rs) {r : Bool} (hm : m_cantonlaw08_GreatPieces l2 = some r) :
    Calls Tryz.prog 27 [v1].toArray w (Ret fun v w' => .bool r = v ∧ Sep w' (Fo) (rs)) := by
 unfold m_cantonlaw08_GreatPieces at hm
 refine enter Tryz.func27 rfl Tryz.ntmps27 rfl fun a E =>?_
 simp only [enum, Nat.reduceAdd] at E
 refine sq<|pr 1 E rfl fun a E=>nt<|wp_seq<|sq<|pr 1 E rfl fun a E=>sv E rfl rfl rfl (x_lenS E H rfl rfl hr3 Tryz.underlying36) fun a E=>pr 1 E rfl fun a E=>nt<|wif E hm rfl (fun hm=>?_) fun hm=>?_
 ·refine sq<|pr 1 E rfl fun a E=>nt<|wp_ret<|q_thenR<|out1 E rfl rfl<|?_
  cases hm
  exact ⟨rfl, H.reads (fun r hr => hr)⟩
 ·refine wp_skip<|q_then<|wp_seq<|sq<|pr 1 E rfl fun a E=>nt<|wp_block<|wp_loop_g (fun k1 a w => ∃ (x4 : Int) (rs5 : List Rp), Env 19 a [(0, v1), (3, .int .i64 x4)] ∧ Sep w (Fo) rs5 ∧ (∀ r, r ∈ rs → r ∈ rs5) ∧ rSl k_api_Piece v1 l2 ∈ rs5 ∧ m_cantonlaw08_GreatPieces_l1 l2 k1 x4 = some r) (((l2.length : Int) - 0 : Int).toNat + 1) ?_ ?_
  ·exact ⟨0, _, E.sel [0, 3] rfl, H, fun r hr => hr, hr3, hm⟩
  ·clear E H hm
   rintro k1 a w ⟨x4, rs5, E, H, hs6, hr7, hm⟩
   cases k1 with
   | zero => exact (none_some hm rfl).elim
   | succ k1 =>
    unfold m_cantonlaw08_GreatPieces_l1 at hm
    refine wp_seq<|sq<|pr 2 E rfl fun a E=>sv E rfl rfl rfl (x_lenS E H rfl rfl hr7 Tryz.underlying36) fun a E=>pr 1 E rfl fun a E=>nt<|wif E hm rfl (fun hm=>?_) fun hm=>?_
    ·refine wp_skip<|q_then<|wp_seq<|wp_block<|sq<|pr 2 E rfl fun a E=>bd hm fun x8 hx9 hm=>st_ixS E H (wn rfl) rfl rfl rfl rfl rfl hr7 Tryz.underlying36 sz64 hx9 fun q10 a H E=>have H:=H.derive1 m0 (rAt k_api_Part (q10.add 1) x8.Part) (fun ok h => k_api_Piece_at1 h);?_
     refine pr 1 E rfl fun a E=>ldf k_api_Part_flat E H rfl rfl rfl rfl rfl m0 Tryz.underlying62 rfl sz62 fun a E=>bd hm fun u11 hx12 hm=>x_cl E rfl rfl rfl rfl rfl cf41 (c_cantonlaw07_GreatPart x8.Part H hx12)<|?_
     rintro _ w ⟨rfl, H⟩ a E
     refine nt<|wif E hm rfl (fun hm=>?_) fun hm=>?_
     ·refine sq<|pr 1 E rfl fun a E=>nt<|wp_ret<|q_blkR<|q_thenR<|q_thenR<|q_blkR<|q_thenR<|?_
      refine out1 E rfl rfl<|?_
      cases hm
      exact ⟨rfl, H.reads (fun r hr => (t2 (hs6 r hr)))⟩
     ·exact wp_skip<|q_blk<|q_then<|wp_region_lit<|pr 3 E rfl fun a E=>nt<|⟨k1, Nat.lt_succ_self k1, IntKind.i64.wrap (x4 + 1), _, E.sel [0, 3] rfl, H, fun r hr => (t2 (hs6 r hr)), (t2 hr7), hm⟩
    ·refine wp_exit<|q_thenX<|q_thenX<|q_hit<|q_then<|sq<|pr 1 E rfl fun a E=>nt<|wp_ret<|?_
     refine out1 E rfl rfl<|?_
     cases hm
     exact ⟨rfl, H.reads (hs6)⟩

def m_cantonref07_Same_l1 (x1 : S_api_Store) (x4 : S_api_Store) : Nat → Int → Option Bool
  | 0, _ => none
  | k1 + 1, x28 =>
    if (decide (x28 < (x1.Turns.length : Int))) = true then ((idx x1.Turns x28).bind fun x37 => (idx x4.Turns x28).bind fun x43 => if (!((sEq x37.Dir x43.Dir) && (x37.Next == x43.Next))) = true then (some (false)) else (m_cantonref07_Same_l1 x1 x4 k1 (IntKind.i64.wrap (x28 + 1)))) else (some (true))
def m_cantonref07_Same_j1 (x1 : S_api_Store) (x4 : S_api_Store) (b21 : Bool) : Option Bool :=
  if b21 = true then (some (false)) else (m_cantonref07_Same_l1 x1 x4 (((x1.Turns.length : Int) - 0 : Int).toNat + 1) 0)
def m_cantonref07_Same (x1 : S_api_Store) (x4 : S_api_Store) : Option Bool :=
  (m_cantonref06_Same x1.Nodes x4.Nodes).bind fun u49 => if (!u49) = true then (m_cantonref07_Same_j1 x1 x4 true) else (m_cantonref07_Same_j1 x1 x4 ((x1.Turns.length : Int) != (x4.Turns.length : Int)))
theorem c_cantonref07_Same {w : World} {Fo : List Ob} {rs : List Rp} (x1 : S_api_Store) (v2 : Value) (v3 : Value) (x4 : S_api_Store) (v5 : Value) (v6 : Value) (H : Sep w (Fo) rs) (hr7 : rSl k_api_Node v2 x1.Nodes ∈ rs) (hr8 : rSl k_api_Turn v3 x1.Turns ∈ rs) (hr9 : rSl k_api_Node v5 x4.Nodes ∈ rs) (hr10 : rSl k_api_Turn v6 x4.Turns ∈ rs) {r : Bool} (hm : m_cantonref07_Same x1 x4 = some r) :
    Calls Tryz.prog 30 [.agg #[v2, v3], .agg #[v5, v6]].toArray w (Ret fun v w' => .bool r = v ∧ Sep w' (Fo) (rs)) := by
 unfold m_cantonref07_Same at hm
 refine enter Tryz.func30 rfl Tryz.ntmps30 rfl fun a E =>?_
 simp only [enum, Nat.reduceAdd] at E
 refine sq<|?_
 obtain ⟨q12, x13, rfl⟩ := H.slform hr7
 obtain ⟨q14, x15, rfl⟩ := H.slform hr8
 refine st_box E H (wn rfl) rfl rfl (cs := [(.slice q12 x1.Nodes.length x13), (.slice q14 x1.Turns.length x15)]) rfl rfl rfl fun p11 w a H E=>?_
 obtain ⟨q17, x18, rfl⟩ := H.slform hr9
 obtain ⟨q19, x20, rfl⟩ := H.slform hr10
 refine st_box E H (wn rfl) rfl rfl (cs := [(.slice q17 x4.Nodes.length x18), (.slice q19 x4.Turns.length x20)]) rfl rfl rfl fun p16 w a H E=>pr 1 E rfl fun a E=>nt<|wp_seq<|wp_seq_cut (fun a w => ∃ (b21 : Bool) (rs22 : List Rp), Env 39 a [(2, pt p11 0), (3, pt p16 0), (20, .bool b21)] ∧ Sep w (Blk p11 41 [(.slice q12 x1.Nodes.length x13), (.slice q14 x1.Turns.length x15)] :: Blk p16 41 [(.slice q17 x4.Nodes.length x18), (.slice q19 x4.Turns.length x20)] :: Fo) rs22 ∧ (∀ r, r ∈ rs → r ∈ rs22) ∧ rSl k_api_Node (.slice q12 x1.Nodes.length x13) x1.Nodes ∈ rs22 ∧ rSl k_api_Turn (.slice q14 x1.Turns.length x15) x1.Turns ∈ rs22 ∧ rSl k_api_Node (.slice q17 x4.Nodes.length x18) x4.Nodes ∈ rs22 ∧ rSl k_api_Turn (.slice q19 x4.Turns.length x20) x4.Turns ∈ rs22 ∧ m_cantonref07_Same_j1 x1 x4 b21 = some r) ?_ ?_
 ·refine wp_region_lit<|pr 1 E rfl fun a E=>lb E H 1 rfl rfl rfl rfl rfl rfl rfl Tryz.underlying22 rfl fun a E=>pr 1 E rfl fun a E=>lb E H 0 rfl rfl rfl rfl rfl rfl rfl Tryz.underlying22 rfl fun a E=>bd hm fun u49 hx50 hm=>x_cl E rfl rfl rfl rfl rfl cf21 (c_cantonref06_Same (.slice q12 x1.Nodes.length x13) x1.Nodes (.slice q17 x4.Nodes.length x18) x4.Nodes H hr7 hr9 hx50)<|?_
  rintro _ w ⟨rfl, H⟩ a E
  refine pr 2 E rfl fun a E=>cs hm (fun hb51 hm=>?_) fun hb51 hm=>?_
  ·exact pk 8 E (kc 12 rfl hb51) rfl fun a E=>nt<|have H:=H.front 0 rfl;have H:=H.front 1 rfl;⟨true, _, E.sel [2, 3, 20] rfl, H, fun r hr => hr, hr7, hr8, hr9, hr10, hm⟩
  ·refine pk 1 E (kc 12 rfl hb51) rfl fun a E=>st_val E (ws' (d := 12) E rfl rfl rfl rfl hb51) rfl rfl (x_ldB (i := 1) E H rfl rfl rfl rfl Tryz.underlying39 rfl) fun a E=>st_val E (ws' (d := 12) E rfl rfl rfl rfl hb51) rfl rfl (x_lenS E H rfl rfl hr8 Tryz.underlying39) fun a E=>pk 1 E (kc 12 rfl hb51) rfl fun a E=>st_val E (ws' (d := 12) E rfl rfl rfl rfl hb51) rfl rfl (x_ldB (i := 0) E H rfl rfl rfl rfl Tryz.underlying39 rfl) fun a E=>st_val E (ws' (d := 12) E rfl rfl rfl rfl hb51) rfl rfl (x_lenS E H rfl rfl hr10 Tryz.underlying39) fun a E=>pk 2 E (kc 12 rfl hb51) rfl fun a E=>nt<|have H:=H.front 0 rfl;?_
   exact have H:=H.front 1 rfl;⟨(x1.Turns.length : Int) != (x4.Turns.length : Int), _, E.sel [2, 3, 20] rfl, H, fun r hr => hr, hr7, hr8, hr9, hr10, hm⟩
 ·clear E H hm
  rintro a w ⟨b21, rs22, E, H, hs23, hr24, hr25, hr26, hr27, hm⟩
  unfold m_cantonref07_Same_j1 at hm
  refine wif E hm rfl (fun hm=>?_) fun hm=>?_
  ·refine sq<|pr 1 E rfl fun a E=>nt<|wp_ret<|q_thenR<|out1 E rfl rfl<|have H:=H.drop 0;have H:=H.drop 0;?_
   cases hm
   exact ⟨rfl, H.reads (hs23)⟩
  ·refine wp_skip<|q_then<|wp_seq<|sq<|pr 1 E rfl fun a E=>nt<|wp_block<|wp_loop_g (fun k1 a w => ∃ (x28 : Int) (rs29 : List Rp), Env 39 a [(2, pt p11 0), (3, pt p16 0), (5, .int .i64 x28)] ∧ Sep w (Blk p11 41 [(.slice q12 x1.Nodes.length x13), (.slice q14 x1.Turns.length x15)] :: Blk p16 41 [(.slice q17 x4.Nodes.length x18), (.slice q19 x4.Turns.length x20)] :: Fo) rs29 ∧ (∀ r, r ∈ rs → r ∈ rs29) ∧ rSl k_api_Node (.slice q12 x1.Nodes.length x13) x1.Nodes ∈ rs29 ∧ rSl k_api_Turn (.slice q14 x1.Turns.length x15) x1.Turns ∈ rs29 ∧ rSl k_api_Node (.slice q17 x4.Nodes.length x18) x4.Nodes ∈ rs29 ∧ rSl k_api_Turn (.slice q19 x4.Turns.length x20) x4.Turns ∈ rs29 ∧ m_cantonref07_Same_l1 x1 x4 k1 x28 = some r) (((x1.Turns.length : Int) - 0 : Int).toNat + 1) ?_ ?_
   ·exact ⟨0, _, E.sel [2, 3, 5] rfl, H, hs23, hr24, hr25, hr26, hr27, hm⟩
   ·clear E H hm
    rintro k1 a w ⟨x28, rs29, E, H, hs30, hr31, hr32, hr33, hr34, hm⟩
    cases k1 with
    | zero => exact (none_some hm rfl).elim
    | succ k1 =>
     unfold m_cantonref07_Same_l1 at hm
     refine wp_seq<|sq<|pr 2 E rfl fun a E=>lb E H 0 rfl rfl rfl rfl rfl rfl rfl Tryz.underlying39 rfl fun a E=>sv E rfl rfl rfl (x_lenS E H rfl rfl hr32 Tryz.underlying39) fun a E=>pr 1 E rfl fun a E=>nt<|wif E hm rfl (fun hm=>?_) fun hm=>?_
     ·refine wp_skip<|q_then<|wp_seq<|wp_block<|wp_seq<|?_
      obtain ⟨u35, H⟩ := H.raw hr32
      obtain ⟨u36, H⟩ := H.raw (t1 hr34)
      refine dw [(0, 0), (1, 0), (2, 0), (3, 0), (4, 0), (5, 0), (6, 0), (7, 0), (8, 0), (9, 0), (10, 0)] [0, 1] [1, 0] H (by kernel_rfl) (fun _ _ _ h => False.elim h.2) fun w W0 hI H=>fn 1 E rfl fun a E=>fb E rfl (wn rfl) rfl rfl rfl rfl m0 rfl Tryz.underlying39 rfl fun a E=>fn 1 E rfl fun a E=>bd hm fun x37 hx38 hm=>?_
      obtain ⟨q39, u42, hx40, hx41⟩ := dr_ixW (P := Tryz.prog) (k := .i64) hI (dr_mem (.head _)) Tryz.underlying39 sz83 hx38
      refine fr_val E rfl (wn rfl) rfl rfl (fun w hW=>x_ixA E rfl rfl rfl (hx40 w)) fun a E=>?_
      refine fr_val E rfl (wn rfl) rfl rfl (fun w hW=>x_ld E rfl rfl (ir_ldN (cs := [.string x37.Dir, .int .i64 x37.Next]) (DR.ir (dr_at hx41)) (fun _ _ _ h => k_api_Turn_open h) Tryz.underlying83 rfl sz83 w hW)) fun a E=>?_
      refine fn 1 E rfl fun a E=>fb E rfl (wn rfl) rfl rfl rfl rfl mm1 rfl Tryz.underlying39 rfl fun a E=>fn 1 E rfl fun a E=>bd hm fun x43 hx44 hm=>?_
      obtain ⟨q45, u48, hx46, hx47⟩ := dr_ixW (P := Tryz.prog) (k := .i64) hI (dr_mem (.tail _ (.head _))) Tryz.underlying39 sz83 hx44
      refine fr_val E rfl (wn rfl) rfl rfl (fun w hW=>x_ixA E rfl rfl rfl (hx46 w)) fun a E=>?_
      refine fr_val E rfl (wn rfl) rfl rfl (fun w hW=>x_ld E rfl rfl (ir_ldN (cs := [.string x43.Dir, .int .i64 x43.Next]) (DR.ir (dr_at hx47)) (fun _ _ _ h => k_api_Turn_open h) Tryz.underlying83 rfl sz83 w hW)) fun a E=>?_
      refine fr_val E rfl (wn rfl) rfl rfl (fun w hW=>(x_bin2 E rfl rfl rfl (v := .bool (!((sEq x37.Dir x43.Dir) && (x37.Next == x43.Next)))) (ne_agg egt83 (eq_struct Tryz.underlying83 sih83 (eqf_cons (by rfl) (by kernel_rfl) (by kernel_rfl) (eq_string Tryz.underlying9) (eqf_last (by rfl) (by kernel_rfl) (by kernel_rfl) (eq_int Tryz.underlying2))))))) fun a E=>?_
      refine fr_nil<|?_
      clear hI
      refine q_then<|wif E hm rfl (fun hm=>?_) fun hm=>?_
      ·refine sq<|pr 1 E rfl fun a E=>nt<|wp_ret<|q_blkR<|q_thenR<|q_thenR<|q_blkR<|q_thenR<|?_
       refine out1 E rfl rfl<|have H:=H.drop 0;have H:=H.drop 0;?_
       cases hm
       exact ⟨rfl, H.reads (fun r hr => (t2 (hs30 r hr)))⟩
      ·exact wp_skip<|q_blk<|q_then<|wp_region_lit<|pr 3 E rfl fun a E=>nt<|⟨k1, Nat.lt_succ_self k1, IntKind.i64.wrap (x28 + 1), _, E.sel [2, 3, 5] rfl, H, fun r hr => (t2 (hs30 r hr)), (t2 hr31), (t2 hr32), (t2 hr33), (t2 hr34), hm⟩
     ·refine wp_exit<|q_thenX<|q_thenX<|q_hit<|q_then<|sq<|pr 1 E rfl fun a E=>nt<|wp_ret<|?_
      refine out1 E rfl rfl<|have H:=H.drop 0;have H:=H.drop 0;?_
      cases hm
      exact ⟨rfl, H.reads (hs30)⟩

def m_cantonref08_All_j1 (rec_1 : (List S_api_Result) → Int → (List S_api_Node) → (List S_api_Turn) → Option (S_api_Store × (List S_api_Result) × Int × Int)) (x1 : S_api_Store) (x18 : Int) (l17 : (List S_api_Result)) (l33 : (List S_api_Node)) (l35 : (List S_api_Turn)) (x36 : Int) (s37 : ByteArray) (s38 : ByteArray) (x39 : Int) (l41 : (List ByteArray)) : Option (S_api_Store × (List S_api_Result) × Int × Int) :=
  if (x36 != 0) = true then (some (x1, [], x36, x18)) else ((ck (l17.length + ([(⟨x36, s37, s38, x39, l41⟩ : S_api_Result)] : List S_api_Result).length ≤ LIM)).bind fun u60 => rec_1 (l17 ++ ([(⟨x36, s37, s38, x39, l41⟩ : S_api_Result)] : List S_api_Result)) (IntKind.i64.wrap (x18 + 1)) l33 l35)
def m_cantonref08_All_l1 (x1 : S_api_Store) (l5 : List S_api_Piece) : Nat → (List S_api_Result) → Int → (List S_api_Node) → (List S_api_Turn) → Option (S_api_Store × (List S_api_Result) × Int × Int)
  | 0, _, _, _, _ => none
  | k1 + 1, l17, x18, l20, l22 =>
    if (decide (x18 < (l5.length : Int))) = true then ((idx l5 x18).bind fun x62 => (m_cantonref07_Do (⟨l20, l22⟩ : S_api_Store) x62.Part).bind fun u69 => m_cantonref08_All_j1 (m_cantonref08_All_l1 x1 l5 k1) x1 x18 l17 u69.1.Nodes u69.1.Turns u69.2.Err u69.2.Path u69.2.Data u69.2.Version u69.2.Names) else (some ((⟨l20, l22⟩ : S_api_Store), l17, 0, 0))
def m_cantonref08_All (x1 : S_api_Store) (l5 : List S_api_Piece) : Option (S_api_Store × (List S_api_Result) × Int × Int) :=
  m_cantonref08_All_l1 x1 l5 (((l5.length : Int) - 0 : Int).toNat + 1) [] 0 x1.Nodes x1.Turns
theorem c_cantonref08_All {w : World} {Fo : List Ob} {rs : List Rp} (x1 : S_api_Store) (v2 : Value) (v3 : Value) (v4 : Value) (l5 : List S_api_Piece) (H : Sep w (Fo) rs) (hr6 : rSl k_api_Node v2 x1.Nodes ∈ rs) (hr7 : rSl k_api_Turn v3 x1.Turns ∈ rs) (hr8 : rSl k_api_Piece v4 l5 ∈ rs) {r : S_api_Store × (List S_api_Result) × Int × Int} (hm : m_cantonref08_All x1 l5 = some r) :
    Calls Tryz.prog 29 [.agg #[v2, v3], v4].toArray w (Ret fun v w' => ∃ (v5002 : Value) (v5003 : Value) (v5004 : Value), .tuple #[.agg #[v5002, v5003], v5004, .int .i64 r.2.2.1, .int .i64 r.2.2.2] = v ∧ Sep w' (Row 51 k_api_Result v5004 r.2.1 :: Fo) (rSl k_api_Node v5002 r.1.Nodes :: rSl k_api_Turn v5003 r.1.Turns :: rs)) := by
 unfold m_cantonref08_All at hm
 refine enter Tryz.func29 rfl Tryz.ntmps29 rfl fun a E =>?_
 simp only [enum, Nat.reduceAdd] at E
 refine sq<|?_
 obtain ⟨q10, x11, rfl⟩ := H.slform hr6
 obtain ⟨q12, x13, rfl⟩ := H.slform hr7
 refine st_box E H (wn rfl) rfl rfl (cs := [(.slice q10 x1.Nodes.length x11), (.slice q12 x1.Turns.length x13)]) rfl rfl rfl fun p9 w a H E=>al E H rfl rfl rfl rfl zr41 fun p14 w a H E=>pr 3 E rfl fun a E=>nx<|sv E rfl rfl rfl (x_ldBN (i := 1) (us := [(.slice q10 x1.Nodes.length x11), (.slice q12 x1.Turns.length x13)]) E H rfl rfl rfl rfl Tryz.underlying41 rfl sz41) fun a E=>al E H rfl rfl rfl rfl zr41 fun p15 w a H E=>st_st (i := 0) E H (wn rfl) rfl (us := [(.slice q10 x1.Nodes.length x11), (.slice q12 x1.Turns.length x13)]) rfl rfl rfl rfl rfl sz41 rfl rfl fun w H=>nx<|pr 1 E rfl fun a E=>?_
 refine nt<|wp_seq<|sq<|pr 1 E rfl fun a E=>nt<|wp_block<|wp_loop_g (fun k1 a w => ∃ (v16 : Value) (v19 : Value) (v21 : Value) (l17 : (List S_api_Result)) (x18 : Int) (l20 : (List S_api_Node)) (l22 : (List S_api_Turn)) (rs23 : List Rp), Env 44 a [(1, v4), (2, pt p9 0), (4, pt p14 0), (8, pt p15 0), (9, v16), (10, .int .i64 x18)] ∧ Sep w (Blk p9 41 [(.slice q10 x1.Nodes.length x11), (.slice q12 x1.Turns.length x13)] :: Blk p14 41 [.slice none 0 0, .slice none 0 0] :: Blk p15 41 [v19, v21] :: Row 51 k_api_Result v16 l17 :: Fo) rs23 ∧ (∀ r, r ∈ rs → r ∈ rs23) ∧ rSl k_api_Piece v4 l5 ∈ rs23 ∧ rSl k_api_Node (.slice q10 x1.Nodes.length x11) x1.Nodes ∈ rs23 ∧ rSl k_api_Turn (.slice q12 x1.Turns.length x13) x1.Turns ∈ rs23 ∧ rSl k_api_Node v19 l20 ∈ rs23 ∧ rSl k_api_Turn v21 l22 ∈ rs23 ∧ m_cantonref08_All_l1 x1 l5 k1 l17 x18 l20 l22 = some r) (((l5.length : Int) - 0 : Int).toNat + 1) ?_ ?_
 ·exact have H:=H.nilRow 51 k_api_Result;have H:=H.front 0 rfl;have H:=H.front 1 rfl;have H:=H.front 2 rfl;have H:=H.front 3 rfl;⟨(.slice none 0 0), (.slice q10 x1.Nodes.length x11), (.slice q12 x1.Turns.length x13), [], 0, x1.Nodes, x1.Turns, _, E.sel [1, 2, 4, 8, 9, 10] rfl, H, fun r hr => hr, hr8, hr6, hr7, hr6, hr7, hm⟩
 ·clear E H hm
  rintro k1 a w ⟨v16, v19, v21, l17, x18, l20, l22, rs23, E, H, hs24, hr25, hr26, hr27, hr28, hr29, hm⟩
  cases k1 with
  | zero => exact (none_some hm rfl).elim
  | succ k1 =>
   unfold m_cantonref08_All_l1 at hm
   refine wp_seq<|sq<|pr 2 E rfl fun a E=>sv E rfl rfl rfl (x_lenS E H rfl rfl hr25 Tryz.underlying36) fun a E=>pr 1 E rfl fun a E=>nt<|wif E hm rfl (fun hm=>?_) fun hm=>?_
   ·refine wp_skip<|q_then<|wp_seq<|wp_block<|wp_seq_cut (fun a w => ∃ (p30 : Nat) (p31 : Nat) (v32 : Value) (v34 : Value) (v40 : Value) (l33 : (List S_api_Node)) (l35 : (List S_api_Turn)) (x36 : Int) (s37 : ByteArray) (s38 : ByteArray) (x39 : Int) (l41 : (List ByteArray)) (rs42 : List Rp), Env 44 a [(1, v4), (2, pt p9 0), (4, pt p14 0), (8, pt p15 0), (9, v16), (10, .int .i64 x18), (11, pt p30 0), (12, pt p31 0)] ∧ Sep w (Blk p9 41 [(.slice q10 x1.Nodes.length x11), (.slice q12 x1.Turns.length x13)] :: Blk p14 41 [.slice none 0 0, .slice none 0 0] :: Blk p15 41 [v19, v21] :: Row 51 k_api_Result v16 l17 :: Blk p30 41 [v32, v34] :: Blk p31 51 [.int .i64 x36, .string s37, .string s38, .int .i64 x39, v40] :: Fo) rs42 ∧ (∀ r, r ∈ rs → r ∈ rs42) ∧ rSl k_api_Piece v4 l5 ∈ rs42 ∧ rSl k_api_Node (.slice q10 x1.Nodes.length x11) x1.Nodes ∈ rs42 ∧ rSl k_api_Turn (.slice q12 x1.Turns.length x13) x1.Turns ∈ rs42 ∧ rSl k_api_Node v19 l20 ∈ rs42 ∧ rSl k_api_Turn v21 l22 ∈ rs42 ∧ rSl k_api_Node v32 l33 ∈ rs42 ∧ rSl k_api_Turn v34 l35 ∈ rs42 ∧ rSl kS v40 l41 ∈ rs42 ∧ m_cantonref08_All_j1 (m_cantonref08_All_l1 x1 l5 k1) x1 x18 l17 l33 l35 x36 s37 s38 x39 l41 = some r) ?_ ?_
    ·refine bd hm fun x62 hx63 hm=>bd hm fun u69 hx70 hm=>?_
     obtain ⟨u140, H⟩ := H.raw hr25
     have hI : Still [Blk p15 41 [v19, v21]] [rRow k_api_Piece v4 l5 u140] { w with drawn := w.drawn + 1 } := ⟨_, _, H.kept (Kp.drawn _ w _), (subO_cons mm2 (subO_nil)), (sub_cons m0 (sub_nil))⟩
     refine wp_drawT _ (.go 0 0 (.go 1 0 (.go 2 0 (.go 3 0 (.go 4 0 (.go 5 0 (.alt3 6 (.go 7 0 (.go 8 0 (.go 9 0 (.alt 10 (.go 11 1 (.go 12 1 (.go 13 2 .nil))) 11 (.go 10 1 (.go 12 1 (.go 13 2 .nil))))))) 10 (.alt 6 (.go 7 0 (.go 8 0 (.go 9 0 (.go 11 1 (.go 12 1 (.go 13 2 .nil)))))) 11 (.go 6 1 (.go 7 0 (.go 8 0 (.go 9 0 (.go 12 1 (.go 13 2 .nil))))))) 11 (.alt 6 (.go 7 0 (.go 8 0 (.go 9 0 (.go 10 1 (.go 12 1 (.go 13 2 .nil)))))) 10 (.go 6 1 (.go 7 0 (.go 8 0 (.go 9 0 (.go 12 1 (.go 13 2 .nil)))))))))))))) [13] mixedOk (by kernel_rfl) (fun _ _ _ h => False.elim h.2) hI<|have H:=H.kept (Kp.drawn _ w (w.drawn + 1));?_
     generalize ({ w with drawn := w.drawn + 1 } : World) = w at H hI ⊢
     replace hI : ∃ W, Still [Blk p15 41 [v19, v21]] [rRow k_api_Piece v4 l5 u140] W := ⟨_, hI⟩
     obtain ⟨W0, hI⟩ := hI
     refine ot_val E rfl (wn rfl) rfl rfl (fun w hW => x_ld E rfl rfl (ib_ldN (us := [v19, v21]) m0 rfl Tryz.underlying41 rfl sz41 w hW)) fun a E=>ot_val E rfl (wn rfl) rfl rfl (fun w hW => (x_move E rfl rfl)) fun a E=>ot_val E rfl (wn rfl) rfl rfl (fun w hW => (x_move E rfl rfl)) fun a E=>?_
     obtain ⟨q143, u146, hx144, hx145⟩ := dr_ixW (P := Tryz.prog) (k := .i64) hI (dr_mem (.head _)) Tryz.underlying36 sz64 hx63
     refine ot_val E rfl (wn rfl) rfl rfl (fun w hW => x_ixA E rfl rfl rfl (hx144 w)) fun a E=>?_
     have hx147 := dr_fld hx145 (fun _ _ _ h => k_api_Piece_aw1 h)
     refine ot_val E rfl (wn rfl) rfl rfl (fun w hW => x_fa E rfl rfl (fa64_1 _ _)) fun a E=>ot_val E rfl (wn rfl) rfl rfl (fun w hW => x_ld E rfl rfl (ir_ldN (cs := [.int .i64 x62.Part.Kind, .string x62.Part.Dir, .string x62.Part.Path, .string x62.Part.Data, .int .i64 x62.Part.Version, .int .i64 x62.Part.Owner, .bool x62.Part.Turns]) (DR.ir (dr_at hx147)) (fun _ _ _ h => k_api_Part_open h) Tryz.underlying62 rfl sz62 w hW)) fun a E=>?_
     refine ot_alt3 rfl rfl rfl ?_ ?_ ?_
     ·refine x_cl E rfl rfl rfl rfl rfl cf43 (c_cantonref07_Do (⟨l20, l22⟩ : S_api_Store) v19 v21 x62.Part H (t1 hr28) (t1 hr29) hx70)<|?_
      rintro _ w ⟨v150, v151, v152, rfl, H⟩ a E
      refine nt<|?_
      refine ⟨⟨_, _, H, (subO_cons mm2 (subO_nil)), (sub_cons mm3 (sub_nil))⟩, ?_⟩
      refine ot_val E rfl (wn rfl) rfl rfl (fun w hW => (x_move E rfl rfl)) fun a E=>ot_val E rfl (wn rfl) rfl rfl (fun w hW => (x_ext E rfl rfl rfl)) fun a E=>ot_val E rfl (wn rfl) rfl rfl (fun w hW => (x_ext E rfl rfl rfl)) fun a E=>?_
      refine ot_alt rfl rfl ?_ ?_
      ·refine al E H rfl rfl rfl rfl zr41 fun p153 w a H E=>nt<|?_
       refine ⟨⟨_, _, H, (subO_cons mm3 (subO_nil)), (sub_cons mm3 (sub_nil))⟩, ?_⟩
       refine ot_op rfl<|al E H rfl rfl rfl rfl zr51 fun p154 w a H E=>nt<|?_
       refine ⟨⟨_, _, H, (subO_cons mm4 (subO_nil)), (sub_cons mm3 (sub_nil))⟩, ?_⟩
       refine ot_op rfl<|?_
       obtain ⟨q155, x156, rfl⟩ := H.slform m0
       obtain ⟨q157, x158, rfl⟩ := H.slform mm1
       refine st_st (i := 1) E H (wn rfl) rfl (us := [(.slice q155 u69.1.Nodes.length x156), (.slice q157 u69.1.Turns.length x158)]) rfl rfl rfl rfl rfl sz41 rfl rfl fun w H=>nt<|?_
       refine ⟨⟨_, _, H, (subO_cons mm4 (subO_nil)), (sub_cons mm3 (sub_nil))⟩, ?_⟩
       refine ot_tail rfl<|?_
       obtain ⟨q159, x160, rfl⟩ := H.slform mm2
       refine st_st (i := 0) E H (wn rfl) rfl (us := (l_api_Result u69.2 (.slice q159 u69.2.Names.length x160))) rfl rfl rfl rfl rfl sz51 rfl rfl fun w H=>nt<|ot_nil<|?_
       clear hI
       exact q_then<|have H:=H.front 0 rfl;have H:=H.front 1 rfl;have H:=H.front 5 rfl;have H:=H.front 5 rfl;have H:=H.front 5 rfl;have H:=H.front 5 rfl;⟨p153, p154, (.slice q155 u69.1.Nodes.length x156), (.slice q157 u69.1.Turns.length x158), (.slice q159 u69.2.Names.length x160), u69.1.Nodes, u69.1.Turns, u69.2.Err, u69.2.Path, u69.2.Data, u69.2.Version, u69.2.Names, _, E.sel [1, 2, 4, 8, 9, 10, 11, 12] rfl, H, fun r hr => (t4 (hs24 r hr)), (t4 hr25), (t4 hr26), (t4 hr27), (t4 hr28), (t4 hr29), m0, mm1, mm2, hm⟩
      ·refine al E H rfl rfl rfl rfl zr51 fun p161 w a H E=>nt<|?_
       refine ⟨⟨_, _, H, (subO_cons mm3 (subO_nil)), (sub_cons mm3 (sub_nil))⟩, ?_⟩
       refine ot_op rfl<|al E H rfl rfl rfl rfl zr41 fun p162 w a H E=>nt<|?_
       refine ⟨⟨_, _, H, (subO_cons mm4 (subO_nil)), (sub_cons mm3 (sub_nil))⟩, ?_⟩
       refine ot_op rfl<|?_
       obtain ⟨q163, x164, rfl⟩ := H.slform m0
       obtain ⟨q165, x166, rfl⟩ := H.slform mm1
       refine st_st (i := 0) E H (wn rfl) rfl (us := [(.slice q163 u69.1.Nodes.length x164), (.slice q165 u69.1.Turns.length x166)]) rfl rfl rfl rfl rfl sz41 rfl rfl fun w H=>nt<|?_
       refine ⟨⟨_, _, H, (subO_cons mm4 (subO_nil)), (sub_cons mm3 (sub_nil))⟩, ?_⟩
       refine ot_tail rfl<|?_
       obtain ⟨q167, x168, rfl⟩ := H.slform mm2
       refine st_st (i := 1) E H (wn rfl) rfl (us := (l_api_Result u69.2 (.slice q167 u69.2.Names.length x168))) rfl rfl rfl rfl rfl sz51 rfl rfl fun w H=>nt<|ot_nil<|?_
       clear hI
       exact q_then<|have H:=H.front 1 rfl;have H:=H.front 1 rfl;have H:=H.front 5 rfl;have H:=H.front 5 rfl;have H:=H.front 5 rfl;have H:=H.front 5 rfl;⟨p162, p161, (.slice q163 u69.1.Nodes.length x164), (.slice q165 u69.1.Turns.length x166), (.slice q167 u69.2.Names.length x168), u69.1.Nodes, u69.1.Turns, u69.2.Err, u69.2.Path, u69.2.Data, u69.2.Version, u69.2.Names, _, E.sel [1, 2, 4, 8, 9, 10, 11, 12] rfl, H, fun r hr => (t4 (hs24 r hr)), (t4 hr25), (t4 hr26), (t4 hr27), (t4 hr28), (t4 hr29), m0, mm1, mm2, hm⟩
     ·refine al E H rfl rfl rfl rfl zr41 fun p169 w a H E=>nt<|?_
      refine ⟨⟨_, _, H, (subO_cons mm3 (subO_nil)), (sub_cons m0 (sub_nil))⟩, ?_⟩
      refine ot_alt rfl rfl ?_ ?_
      ·refine x_cl E rfl rfl rfl rfl rfl cf43 (c_cantonref07_Do (⟨l20, l22⟩ : S_api_Store) v19 v21 x62.Part H (t1 hr28) (t1 hr29) hx70)<|?_
       rintro _ w ⟨v172, v173, v174, rfl, H⟩ a E
       refine nt<|?_
       refine ⟨⟨_, _, H, (subO_cons mm3 (subO_nil)), (sub_cons mm3 (sub_nil))⟩, ?_⟩
       refine ot_val E rfl (wn rfl) rfl rfl (fun w hW => (x_move E rfl rfl)) fun a E=>ot_val E rfl (wn rfl) rfl rfl (fun w hW => (x_ext E rfl rfl rfl)) fun a E=>ot_val E rfl (wn rfl) rfl rfl (fun w hW => (x_ext E rfl rfl rfl)) fun a E=>ot_op rfl<|al E H rfl rfl rfl rfl zr51 fun p175 w a H E=>nt<|?_
       refine ⟨⟨_, _, H, (subO_cons mm4 (subO_nil)), (sub_cons mm3 (sub_nil))⟩, ?_⟩
       refine ot_op rfl<|?_
       obtain ⟨q176, x177, rfl⟩ := H.slform m0
       obtain ⟨q178, x179, rfl⟩ := H.slform mm1
       refine st_st (i := 1) E H (wn rfl) rfl (us := [(.slice q176 u69.1.Nodes.length x177), (.slice q178 u69.1.Turns.length x179)]) rfl rfl rfl rfl rfl sz41 rfl rfl fun w H=>nt<|?_
       refine ⟨⟨_, _, H, (subO_cons mm4 (subO_nil)), (sub_cons mm3 (sub_nil))⟩, ?_⟩
       refine ot_tail rfl<|?_
       obtain ⟨q180, x181, rfl⟩ := H.slform mm2
       refine st_st (i := 0) E H (wn rfl) rfl (us := (l_api_Result u69.2 (.slice q180 u69.2.Names.length x181))) rfl rfl rfl rfl rfl sz51 rfl rfl fun w H=>nt<|ot_nil<|?_
       clear hI
       exact q_then<|have H:=H.front 0 rfl;have H:=H.front 1 rfl;have H:=H.front 5 rfl;have H:=H.front 5 rfl;have H:=H.front 5 rfl;have H:=H.front 5 rfl;⟨p169, p175, (.slice q176 u69.1.Nodes.length x177), (.slice q178 u69.1.Turns.length x179), (.slice q180 u69.2.Names.length x181), u69.1.Nodes, u69.1.Turns, u69.2.Err, u69.2.Path, u69.2.Data, u69.2.Version, u69.2.Names, _, E.sel [1, 2, 4, 8, 9, 10, 11, 12] rfl, H, fun r hr => (t4 (hs24 r hr)), (t4 hr25), (t4 hr26), (t4 hr27), (t4 hr28), (t4 hr29), m0, mm1, mm2, hm⟩
      ·refine al E H rfl rfl rfl rfl zr51 fun p182 w a H E=>nt<|?_
       refine ⟨⟨_, _, H, (subO_cons mm4 (subO_nil)), (sub_cons m0 (sub_nil))⟩, ?_⟩
       refine ot_op rfl<|x_cl E rfl rfl rfl rfl rfl cf43 (c_cantonref07_Do (⟨l20, l22⟩ : S_api_Store) v19 v21 x62.Part H (t1 hr28) (t1 hr29) hx70)<|?_
       rintro _ w ⟨v185, v186, v187, rfl, H⟩ a E
       refine nt<|?_
       refine ⟨⟨_, _, H, (subO_cons mm4 (subO_nil)), (sub_cons mm3 (sub_nil))⟩, ?_⟩
       refine ot_val E rfl (wn rfl) rfl rfl (fun w hW => (x_move E rfl rfl)) fun a E=>ot_val E rfl (wn rfl) rfl rfl (fun w hW => (x_ext E rfl rfl rfl)) fun a E=>ot_val E rfl (wn rfl) rfl rfl (fun w hW => (x_ext E rfl rfl rfl)) fun a E=>ot_op rfl<|?_
       obtain ⟨q188, x189, rfl⟩ := H.slform m0
       obtain ⟨q190, x191, rfl⟩ := H.slform mm1
       refine st_st (i := 1) E H (wn rfl) rfl (us := [(.slice q188 u69.1.Nodes.length x189), (.slice q190 u69.1.Turns.length x191)]) rfl rfl rfl rfl rfl sz41 rfl rfl fun w H=>nt<|?_
       refine ⟨⟨_, _, H, (subO_cons mm4 (subO_nil)), (sub_cons mm3 (sub_nil))⟩, ?_⟩
       refine ot_tail rfl<|?_
       obtain ⟨q192, x193, rfl⟩ := H.slform mm2
       refine st_st (i := 0) E H (wn rfl) rfl (us := (l_api_Result u69.2 (.slice q192 u69.2.Names.length x193))) rfl rfl rfl rfl rfl sz51 rfl rfl fun w H=>nt<|ot_nil<|?_
       clear hI
       exact q_then<|have H:=H.front 0 rfl;have H:=H.front 1 rfl;have H:=H.front 5 rfl;have H:=H.front 5 rfl;have H:=H.front 5 rfl;have H:=H.front 5 rfl;⟨p169, p182, (.slice q188 u69.1.Nodes.length x189), (.slice q190 u69.1.Turns.length x191), (.slice q192 u69.2.Names.length x193), u69.1.Nodes, u69.1.Turns, u69.2.Err, u69.2.Path, u69.2.Data, u69.2.Version, u69.2.Names, _, E.sel [1, 2, 4, 8, 9, 10, 11, 12] rfl, H, fun r hr => (t4 (hs24 r hr)), (t4 hr25), (t4 hr26), (t4 hr27), (t4 hr28), (t4 hr29), m0, mm1, mm2, hm⟩
     ·refine al E H rfl rfl rfl rfl zr51 fun p194 w a H E=>nt<|?_
      refine ⟨⟨_, _, H, (subO_cons mm3 (subO_nil)), (sub_cons m0 (sub_nil))⟩, ?_⟩
      refine ot_alt rfl rfl ?_ ?_
      ·refine x_cl E rfl rfl rfl rfl rfl cf43 (c_cantonref07_Do (⟨l20, l22⟩ : S_api_Store) v19 v21 x62.Part H (t1 hr28) (t1 hr29) hx70)<|?_
       rintro _ w ⟨v197, v198, v199, rfl, H⟩ a E
       refine nt<|?_
       refine ⟨⟨_, _, H, (subO_cons mm3 (subO_nil)), (sub_cons mm3 (sub_nil))⟩, ?_⟩
       refine ot_val E rfl (wn rfl) rfl rfl (fun w hW => (x_move E rfl rfl)) fun a E=>ot_val E rfl (wn rfl) rfl rfl (fun w hW => (x_ext E rfl rfl rfl)) fun a E=>ot_val E rfl (wn rfl) rfl rfl (fun w hW => (x_ext E rfl rfl rfl)) fun a E=>ot_op rfl<|al E H rfl rfl rfl rfl zr41 fun p200 w a H E=>nt<|?_
       refine ⟨⟨_, _, H, (subO_cons mm4 (subO_nil)), (sub_cons mm3 (sub_nil))⟩, ?_⟩
       refine ot_op rfl<|?_
       obtain ⟨q201, x202, rfl⟩ := H.slform m0
       obtain ⟨q203, x204, rfl⟩ := H.slform mm1
       refine st_st (i := 0) E H (wn rfl) rfl (us := [(.slice q201 u69.1.Nodes.length x202), (.slice q203 u69.1.Turns.length x204)]) rfl rfl rfl rfl rfl sz41 rfl rfl fun w H=>nt<|?_
       refine ⟨⟨_, _, H, (subO_cons mm4 (subO_nil)), (sub_cons mm3 (sub_nil))⟩, ?_⟩
       refine ot_tail rfl<|?_
       obtain ⟨q205, x206, rfl⟩ := H.slform mm2
       refine st_st (i := 1) E H (wn rfl) rfl (us := (l_api_Result u69.2 (.slice q205 u69.2.Names.length x206))) rfl rfl rfl rfl rfl sz51 rfl rfl fun w H=>nt<|ot_nil<|?_
       clear hI
       exact q_then<|have H:=H.front 1 rfl;have H:=H.front 1 rfl;have H:=H.front 5 rfl;have H:=H.front 5 rfl;have H:=H.front 5 rfl;have H:=H.front 5 rfl;⟨p200, p194, (.slice q201 u69.1.Nodes.length x202), (.slice q203 u69.1.Turns.length x204), (.slice q205 u69.2.Names.length x206), u69.1.Nodes, u69.1.Turns, u69.2.Err, u69.2.Path, u69.2.Data, u69.2.Version, u69.2.Names, _, E.sel [1, 2, 4, 8, 9, 10, 11, 12] rfl, H, fun r hr => (t4 (hs24 r hr)), (t4 hr25), (t4 hr26), (t4 hr27), (t4 hr28), (t4 hr29), m0, mm1, mm2, hm⟩
      ·refine al E H rfl rfl rfl rfl zr41 fun p207 w a H E=>nt<|?_
       refine ⟨⟨_, _, H, (subO_cons mm4 (subO_nil)), (sub_cons m0 (sub_nil))⟩, ?_⟩
       refine ot_op rfl<|x_cl E rfl rfl rfl rfl rfl cf43 (c_cantonref07_Do (⟨l20, l22⟩ : S_api_Store) v19 v21 x62.Part H (t1 hr28) (t1 hr29) hx70)<|?_
       rintro _ w ⟨v210, v211, v212, rfl, H⟩ a E
       refine nt<|?_
       refine ⟨⟨_, _, H, (subO_cons mm4 (subO_nil)), (sub_cons mm3 (sub_nil))⟩, ?_⟩
       refine ot_val E rfl (wn rfl) rfl rfl (fun w hW => (x_move E rfl rfl)) fun a E=>ot_val E rfl (wn rfl) rfl rfl (fun w hW => (x_ext E rfl rfl rfl)) fun a E=>ot_val E rfl (wn rfl) rfl rfl (fun w hW => (x_ext E rfl rfl rfl)) fun a E=>ot_op rfl<|?_
       obtain ⟨q213, x214, rfl⟩ := H.slform m0
       obtain ⟨q215, x216, rfl⟩ := H.slform mm1
       refine st_st (i := 0) E H (wn rfl) rfl (us := [(.slice q213 u69.1.Nodes.length x214), (.slice q215 u69.1.Turns.length x216)]) rfl rfl rfl rfl rfl sz41 rfl rfl fun w H=>nt<|?_
       refine ⟨⟨_, _, H, (subO_cons mm4 (subO_nil)), (sub_cons mm3 (sub_nil))⟩, ?_⟩
       refine ot_tail rfl<|?_
       obtain ⟨q217, x218, rfl⟩ := H.slform mm2
       refine st_st (i := 1) E H (wn rfl) rfl (us := (l_api_Result u69.2 (.slice q217 u69.2.Names.length x218))) rfl rfl rfl rfl rfl sz51 rfl rfl fun w H=>nt<|ot_nil<|?_
       clear hI
       exact q_then<|have H:=H.front 1 rfl;have H:=H.front 1 rfl;have H:=H.front 5 rfl;have H:=H.front 5 rfl;have H:=H.front 5 rfl;have H:=H.front 5 rfl;⟨p207, p194, (.slice q213 u69.1.Nodes.length x214), (.slice q215 u69.1.Turns.length x216), (.slice q217 u69.2.Names.length x218), u69.1.Nodes, u69.1.Turns, u69.2.Err, u69.2.Path, u69.2.Data, u69.2.Version, u69.2.Names, _, E.sel [1, 2, 4, 8, 9, 10, 11, 12] rfl, H, fun r hr => (t4 (hs24 r hr)), (t4 hr25), (t4 hr26), (t4 hr27), (t4 hr28), (t4 hr29), m0, mm1, mm2, hm⟩
    ·clear E H hm
     rintro a w ⟨p30, p31, v32, v34, v40, l33, l35, x36, s37, s38, x39, l41, rs42, E, H, hs43, hr44, hr45, hr46, hr47, hr48, hr49, hr50, hr51, hm⟩
     unfold m_cantonref08_All_j1 at hm
     refine wp_seq<|sq<|pr 1 E rfl fun a E=>lb E H 5 rfl rfl rfl rfl rfl rfl rfl Tryz.underlying27 rfl fun a E=>pr 1 E rfl fun a E=>nt<|wif E hm rfl (fun hm=>?_) fun hm=>?_
     ·refine wp_seq<|dw [(0, 0), (1, 0), (2, 0), (3, 0), (4, 1), (5, 1), (6, 1), (7, 2)] [0, 5] [] H (by kernel_rfl) (fun _ _ _ h => False.elim h.2) fun w W0 hI H=>fbn E [(.slice q10 x1.Nodes.length x11), (.slice q12 x1.Turns.length x13)] rfl (wn rfl) rfl rfl rfl rfl m0 rfl Tryz.underlying41 rfl sz41 fun a E=>fn 1 E rfl fun a E=>fb E rfl (wn rfl) rfl rfl rfl rfl mm1 rfl Tryz.underlying27 rfl fun a E=>fn 1 E rfl fun a E=>fr_op rfl<|st_st (i := 1) E H (wn rfl) rfl (us := [(.slice q10 x1.Nodes.length x11), (.slice q12 x1.Turns.length x13)]) rfl rfl rfl rfl rfl sz41 rfl rfl fun w H=>nt<|?_
      refine ⟨⟨_, _, H, (subO_cons m0 (subO_cons mm5 (subO_nil))), (sub_nil)⟩, ?_⟩
      refine fr_op rfl<|pr 1 E rfl fun a E=>nt<|?_
      refine ⟨⟨_, _, H, (subO_cons m0 (subO_cons mm5 (subO_nil))), (sub_nil)⟩, ?_⟩
      refine fr_op rfl<|pr 1 E rfl fun a E=>nt<|?_
      refine ⟨⟨_, _, H, (subO_cons m0 (subO_cons mm5 (subO_nil))), (sub_nil)⟩, ?_⟩
      refine fr_tail rfl<|pr 1 E rfl fun a E=>nt<|fr_nil<|?_
      clear hI
      refine q_then<|wp_ret<|q_thenR<|q_blkR<|q_thenR<|q_thenR<|q_blkR<|q_thenR<|outR4 E rfl (rvBN (i := 1) (us := [(.slice q10 x1.Nodes.length x11), (.slice q12 x1.Turns.length x13)]) H rfl rfl rfl Tryz.underlying41 rfl sz41) (rvT rfl) (rvT rfl) (rvT rfl)<|?_
      refine have H:=H.nilRow 51 k_api_Result;have H:=H.drop 1;have H:=H.drop 1;have H:=H.drop 1;have H:=H.drop 1;have H:=H.drop 1;have H:=H.drop 1;?_
      cases hm
      exact ⟨(.slice q10 x1.Nodes.length x11), (.slice q12 x1.Turns.length x13), (.slice none 0 0), rfl, H.reads (sub_cons hr45 (sub_cons hr46 (hs43)))⟩
     ·refine wp_skip<|q_then<|sq<|sv E rfl rfl rfl (x_ldBN (i := 4) (us := [v32, v34]) E H rfl rfl rfl rfl Tryz.underlying41 rfl sz41) fun a E=>?_
      obtain ⟨q52, x53, rfl⟩ := H.slform hr49
      obtain ⟨q54, x55, rfl⟩ := H.slform hr50
      refine st_st (i := 2) E H (wn rfl) rfl (us := [(.slice q52 l33.length x53), (.slice q54 l35.length x55)]) rfl rfl rfl rfl rfl sz41 rfl rfl fun w H=>nt<|wp_region_lit<|pr 1 E rfl fun a E=>sv E rfl rfl rfl (x_ldBN (i := 5) (us := [.int .i64 x36, .string s37, .string s38, .int .i64 x39, v40]) E H rfl rfl rfl rfl Tryz.underlying51 rfl sz51) fun a E=>?_
      obtain ⟨q56, x57, rfl⟩ := H.slform hr51
      refine st_bsR (e := 51) (d := k_api_Result) (cs := [.int .i64 x36, .string s37, .string s38, .int .i64 x39, (.slice q56 l41.length x57)]) (xs := [(⟨x36, s37, s38, x39, l41⟩ : S_api_Result)]) E H (wn rfl) rfl rfl rfl (E.evs rfl) (by kernel_rfl) rfl (fun ok hr => (Rows.single (d := k_api_Result) (cs := [.int .i64 x36, .string s37, .string s38, .int .i64 x39, (.slice q56 l41.length x57)]) (x := (⟨x36, s37, s38, x39, l41⟩ : S_api_Result)) (k_api_Result_mk (hr _ hr51)))) fun v58 w a H E=>bk hm fun hx61 hm=>st_append (i := 3) E H (wn rfl) rfl rfl rfl rfl rfl rfl (src_rd m0) Tryz.underlying28 inf51 rfl hx61 rfl fun v59 w a H E=>pr 1 E rfl fun a E=>wpList_nil<|q_blk<|q_then<|wp_region_lit<|pr 3 E rfl fun a E=>?_
      exact nt<|have H:=H.drop 4;have H:=H.drop 4;⟨k1, Nat.lt_succ_self k1, v59, (.slice q52 l33.length x53), (.slice q54 l35.length x55), l17 ++ ([(⟨x36, s37, s38, x39, l41⟩ : S_api_Result)] : List S_api_Result), IntKind.i64.wrap (x18 + 1), l33, l35, _, E.sel [1, 2, 4, 8, 9, 10] rfl, H, fun r hr => (t1 (hs43 r hr)), (t1 hr44), (t1 hr45), (t1 hr46), (t1 hr49), (t1 hr50), hm⟩
   ·refine wp_exit<|q_thenX<|q_thenX<|q_hit<|q_then<|sq<|sv E rfl rfl rfl (x_ldBN (i := 2) (us := [v19, v21]) E H rfl rfl rfl rfl Tryz.underlying41 rfl sz41) fun a E=>pr 1 E rfl fun a E=>?_
    obtain ⟨q219, x220, rfl⟩ := H.slform hr28
    obtain ⟨q221, x222, rfl⟩ := H.slform hr29
    refine st_st (i := 1) E H (wn rfl) rfl (us := [(.slice q219 l20.length x220), (.slice q221 l22.length x222)]) rfl rfl rfl rfl rfl sz41 rfl rfl fun w H=>pr 3 E rfl fun a E=>nt<|wp_ret<|outR4 E rfl (rvBN (i := 1) (us := [(.slice q219 l20.length x220), (.slice q221 l22.length x222)]) H rfl rfl rfl Tryz.underlying41 rfl sz41) (rvT rfl) (rvT rfl) (rvT rfl)<|have H:=H.drop 0;have H:=H.drop 0;have H:=H.drop 0;?_
    cases hm
    exact ⟨(.slice q219 l20.length x220), (.slice q221 l22.length x222), v16, rfl, H.reads (sub_cons hr28 (sub_cons hr29 (hs24)))⟩

def m_cantonlaw08_MultiAll_j1 (u15 : Bool) (x1 : S_api_Store) (l5 : List S_api_Piece) (b17 : Bool) : Option Bool :=
  if b17 = true then (some (u15)) else ((m_multi_All x1 l5).bind fun u24 => (m_cantonref08_All x1 l5).bind fun u34 => if u15 = true then ((m_cantonref07_Same u24.1 u34.1).bind fun u45 => if u45 = true then ((m_cantonref06_SameList u24.2.1 u34.2.1).bind fun u48 => if u48 = true then (if (u24.2.2.1 == u34.2.2.1) = true then (some (u24.2.2.2 == u34.2.2.2)) else (some (false))) else (some (false))) else (some (false))) else (some (false)))
def m_cantonlaw08_MultiAll (x1 : S_api_Store) (l5 : List S_api_Piece) : Option Bool :=
  m_cantonlaw08_head.bind fun u15 => (m_cantonlaw07_Great x1).bind fun u52 => if u52 = true then (m_cantonlaw08_MultiAll_j1 u15 x1 l5 true) else ((m_cantonlaw08_GreatPieces l5).bind fun u55 => m_cantonlaw08_MultiAll_j1 u15 x1 l5 u55)
theorem c_cantonlaw08_MultiAll {w : World} {Fo : List Ob} {rs : List Rp} (x1 : S_api_Store) (v2 : Value) (v3 : Value) (v4 : Value) (l5 : List S_api_Piece) (H : Sep w (Fo) rs) (hr6 : rSl k_api_Node v2 x1.Nodes ∈ rs) (hr7 : rSl k_api_Turn v3 x1.Turns ∈ rs) (hr8 : rSl k_api_Piece v4 l5 ∈ rs) (hr9 : rTab Tryz.prog ∈ rs) {r : Bool} (hm : m_cantonlaw08_MultiAll x1 l5 = some r) :
    Calls Tryz.prog 4 [.agg #[v2, v3], v4].toArray w (Ret fun v w' => .bool r = v ∧ Sep w' (Fo) (rs)) := by
 unfold m_cantonlaw08_MultiAll at hm
 refine enter Tryz.func4 rfl Tryz.ntmps4 rfl fun a E =>?_
 simp only [enum, Nat.reduceAdd] at E
 refine sq<|?_
 obtain ⟨q11, x12, rfl⟩ := H.slform hr6
 obtain ⟨q13, x14, rfl⟩ := H.slform hr7
 refine st_box E H (wn rfl) rfl rfl (cs := [(.slice q11 x1.Nodes.length x12), (.slice q13 x1.Turns.length x14)]) rfl rfl rfl fun p10 w a H E=>pr 1 E rfl fun a E=>nx<|bd hm fun u15 hx16 hm=>x_cl E rfl rfl rfl rfl rfl cf14 (c_cantonlaw08_head H hr9 hx16)<|?_
 rintro _ w ⟨rfl, H⟩ a E
 refine pr 1 E rfl fun a E=>nt<|wp_seq<|wp_seq_cut (fun a w => ∃ (b17 : Bool) (rs18 : List Rp), Env 59 a [(1, v4), (2, pt p10 0), (5, .bool u15), (20, .bool b17)] ∧ Sep w (Blk p10 41 [(.slice q11 x1.Nodes.length x12), (.slice q13 x1.Turns.length x14)] :: Fo) rs18 ∧ (∀ r, r ∈ rs → r ∈ rs18) ∧ rSl k_api_Piece v4 l5 ∈ rs18 ∧ rSl k_api_Node (.slice q11 x1.Nodes.length x12) x1.Nodes ∈ rs18 ∧ rSl k_api_Turn (.slice q13 x1.Turns.length x14) x1.Turns ∈ rs18 ∧ rTab Tryz.prog ∈ rs18 ∧ m_cantonlaw08_MultiAll_j1 u15 x1 l5 b17 = some r) ?_ ?_
 ·refine wp_region_lit<|sv E rfl rfl rfl (x_ldBN (i := 0) (us := [(.slice q11 x1.Nodes.length x12), (.slice q13 x1.Turns.length x14)]) E H rfl rfl rfl rfl Tryz.underlying41 rfl sz41) fun a E=>bd hm fun u52 hx53 hm=>x_cl E rfl rfl rfl rfl rfl cf26 (c_cantonlaw07_Great x1 (.slice q11 x1.Nodes.length x12) (.slice q13 x1.Turns.length x14) H hr6 hr7 hx53)<|?_
  rintro _ w ⟨rfl, H⟩ a E
  refine pr 1 E rfl fun a E=>cs hm (fun hb54 hm=>?_) fun hb54 hm=>?_
  ·exact pk 3 E (kc 17 rfl hb54) rfl fun a E=>nt<|⟨true, _, E.sel [1, 2, 5, 20] rfl, H, fun r hr => hr, hr8, hr6, hr7, hr9, hm⟩
  ·refine pk 1 E (kc 17 rfl hb54) rfl fun a E=>bd hm fun u55 hx56 hm=>st_call E (ws' (d := 17) E rfl rfl rfl rfl hb54) rfl rfl (x_call E rfl rfl (cf27 _)) (c_cantonlaw08_GreatPieces v4 l5 H hr8 hx56)<|?_
   rintro _ w ⟨rfl, H⟩ a E
   exact pk 1 E (kc 17 rfl hb54) rfl fun a E=>nt<|⟨u55, _, E.sel [1, 2, 5, 20] rfl, H, fun r hr => hr, hr8, hr6, hr7, hr9, hm⟩
 ·clear E H hm
  rintro a w ⟨b17, rs18, E, H, hs19, hr20, hr21, hr22, hr23, hm⟩
  unfold m_cantonlaw08_MultiAll_j1 at hm
  refine wif E hm rfl (fun hm=>?_) fun hm=>?_
  ·refine sq<|pr 2 E rfl fun a E=>nt<|wp_ret<|q_thenR<|out1 E rfl rfl<|have H:=H.drop 0;?_
   cases hm
   exact ⟨rfl, H.reads (hs19)⟩
  ·refine wp_skip<|q_then<|sq<|sv E rfl rfl rfl (x_ldBN (i := 0) (us := [(.slice q11 x1.Nodes.length x12), (.slice q13 x1.Turns.length x14)]) E H rfl rfl rfl rfl Tryz.underlying41 rfl sz41) fun a E=>pr 1 E rfl fun a E=>bd hm fun u24 hx25 hm=>x_cl E rfl rfl rfl rfl rfl cf28 (c_multi_All x1 (.slice q11 x1.Nodes.length x12) (.slice q13 x1.Turns.length x14) v4 l5 H hr21 hr22 hr20 hr23 hx25)<|?_
   rintro _ w ⟨v26, v27, v28, rfl, H⟩ a E
   refine pr 5 E rfl fun a E=>al E H rfl rfl rfl rfl zr41 fun p29 w a H E=>?_
   obtain ⟨q30, x31, rfl⟩ := H.slform m0
   obtain ⟨q32, x33, rfl⟩ := H.slform mm1
   refine st_st (i := 0) E H (wn rfl) rfl (us := [(.slice q30 u24.1.Nodes.length x31), (.slice q32 u24.1.Turns.length x33)]) rfl rfl rfl rfl rfl sz41 rfl rfl fun w H=>pr 3 E rfl fun a E=>nx<|sv E rfl rfl rfl (x_ldBN (i := 2) (us := [(.slice q11 x1.Nodes.length x12), (.slice q13 x1.Turns.length x14)]) E H rfl rfl rfl rfl Tryz.underlying41 rfl sz41) fun a E=>pr 1 E rfl fun a E=>bd hm fun u34 hx35 hm=>x_cl E rfl rfl rfl rfl rfl cf29 (c_cantonref08_All x1 (.slice q11 x1.Nodes.length x12) (.slice q13 x1.Turns.length x14) v4 l5 H (t2 hr21) (t2 hr22) (t2 hr20) hx35)<|?_
   rintro _ w ⟨v36, v37, v38, rfl, H⟩ a E
   refine pr 5 E rfl fun a E=>al E H rfl rfl rfl rfl zr41 fun p39 w a H E=>?_
   obtain ⟨q40, x41, rfl⟩ := H.slform m0
   obtain ⟨q42, x43, rfl⟩ := H.slform mm1
   refine st_st (i := 0) E H (wn rfl) rfl (us := [(.slice q40 u34.1.Nodes.length x41), (.slice q42 u34.1.Turns.length x43)]) rfl rfl rfl rfl rfl sz41 rfl rfl fun w H=>pr 3 E rfl fun a E=>nx<|pr 2 E rfl fun a E=>cs hm (fun hb44 hm=>?_) fun hb44 hm=>?_
   ·refine st_val E (ws' (d := 39) E rfl rfl rfl rfl hb44) rfl rfl (x_ldBN (i := 2) (us := [(.slice q30 u24.1.Nodes.length x31), (.slice q32 u24.1.Turns.length x33)]) E H rfl rfl rfl rfl Tryz.underlying41 rfl sz41) fun a E=>st_val E (ws' (d := 39) E rfl rfl rfl rfl hb44) rfl rfl (x_ldBN (i := 0) (us := [(.slice q40 u34.1.Nodes.length x41), (.slice q42 u34.1.Turns.length x43)]) E H rfl rfl rfl rfl Tryz.underlying41 rfl sz41) fun a E=>bd hm fun u45 hx46 hm=>st_call E (ws' (d := 39) E rfl rfl rfl rfl hb44) rfl rfl (x_call E rfl rfl (cf30 _)) (c_cantonref07_Same u24.1 (.slice q30 u24.1.Nodes.length x31) (.slice q32 u24.1.Turns.length x33) u34.1 (.slice q40 u34.1.Nodes.length x41) (.slice q42 u34.1.Turns.length x43) H mm2 mm3 m0 mm1 hx46)<|?_
    rintro _ w ⟨rfl, H⟩ a E
    refine pk 2 E (kc 39 rfl hb44) rfl fun a E=>cs hm (fun hb47 hm=>?_) fun hb47 hm=>?_
    ·refine pk 2 E (kc 44 rfl hb47) rfl fun a E=>have H:=H.thaw (i := 3) rfl;have H:=H.thaw (i := 1) rfl;bd hm fun u48 hx49 hm=>st_call E (ws' (d := 44) E rfl rfl rfl rfl hb47) rfl rfl (x_call E rfl rfl (cf31 _)) (c_cantonref06_SameList v28 u24.2.1 v38 u34.2.1 H mm1 m0 hx49)<|?_
     rintro _ w ⟨rfl, H⟩ a E
     refine pk 2 E (kc 44 rfl hb47) rfl fun a E=>cs hm (fun hb50 hm=>?_) fun hb50 hm=>?_
     ·refine pk 5 E (kc 49 rfl hb50) rfl fun a E=>cs hm (fun hb51 hm=>?_) fun hb51 hm=>?_
      ·refine pk 5 E (kc 54 rfl hb51) rfl fun a E=>nt<|wp_ret<|out1 E rfl rfl<|have H:=H.drop 0;have H:=H.drop 0;have H:=H.drop 0;?_
       cases hm
       exact ⟨rfl, H.reads (fun r hr => (t6 (hs19 r hr)))⟩
      ·refine pk 5 E (kc 54 rfl hb51) rfl fun a E=>nt<|wp_ret<|out1 E rfl rfl<|have H:=H.drop 0;have H:=H.drop 0;have H:=H.drop 0;?_
       cases hm
       exact ⟨rfl, H.reads (fun r hr => (t6 (hs19 r hr)))⟩
     ·refine pk 10 E (kc 49 rfl hb50) rfl fun a E=>nt<|wp_ret<|out1 E rfl rfl<|have H:=H.drop 0;have H:=H.drop 0;have H:=H.drop 0;?_
      cases hm
      exact ⟨rfl, H.reads (fun r hr => (t6 (hs19 r hr)))⟩
    ·refine pk 15 E (kc 44 rfl hb47) rfl fun a E=>nt<|wp_ret<|out1 E rfl rfl<|have H:=H.drop 0;have H:=H.drop 0;have H:=H.drop 0;have H:=H.drop 0;have H:=H.drop 0;?_
     cases hm
     exact ⟨rfl, H.reads (fun r hr => (t4 (hs19 r hr)))⟩
   ·refine pk 20 E (kc 39 rfl hb44) rfl fun a E=>nt<|wp_ret<|out1 E rfl rfl<|have H:=H.drop 0;have H:=H.drop 0;have H:=H.drop 0;have H:=H.drop 0;have H:=H.drop 0;?_
    cases hm
    exact ⟨rfl, H.reads (fun r hr => (t4 (hs19 r hr)))⟩

end Go.Cb
