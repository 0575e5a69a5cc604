/- Functions of the program, walked: each comes to its plain function. -/
import Derived.Test.YtgdfoajophpblaaGreatDoorKpx2
import Derived.Test.YtgdfoajophpblaaGreatDoorB32px
import Derived.Test.YtgdfoajophpblaaGreatDoorN4px
set_option linter.unusedVariables false
set_option linter.unusedSimpArgs false
set_option maxRecDepth 20000
set_option maxHeartbeats 1000000
namespace Go.Cb
open Go.Proofs Go.RowKit

def m_cantonlaw07_head_j2 (u6 : S_api_Store) (u2 : (List S_api_Part)) (x21 : Int) (l38 : (List S_api_Node)) (l40 : (List S_api_Turn)) (x41 : Int) (s42 : ByteArray) (s43 : ByteArray) (x44 : Int) (l46 : (List ByteArray)) : Option Bool :=
  (m_part_Do u6 (⟨0, (ByteArray.mk #[]), (ByteArray.mk #[]), (ByteArray.mk #[]), 0, 0, false⟩ : S_api_Part)).bind fun u56 => (m_part_Tree ([(⟨l38, l40⟩ : S_api_Store)] : List S_api_Store)).bind fun u74 => (idx u2 0).bind fun x77 => if (x77.Kind == 1) = true then ((idx u2 0).bind fun x83 => if (sEq x83.Dir (ByteArray.mk #[47])) = true then ((idx u2 0).bind fun x89 => if (sEq x89.Path (ByteArray.mk #[47, 97])) = true then ((idx u2 1).bind fun x95 => if (sEq x95.Dir (ByteArray.mk #[47, 97])) = true then (if (x21 == 0) = true then (if (sEq s42 (ByteArray.mk #[47, 97, 47, 98])) = true then (if (u56.2.Err == 1) = true then (if u74.2 = true then (if ((u74.1.length : Int) == 3) = true then ((idx u74.1 0).bind fun x106 => if (x106.Turn == 3) = true then ((m_part_Right u6).bind fun u110 => if u110 = true then ((idx u2 0).bind fun x113 => (m_part_May x113).bind fun u118 => some (u118)) else (some (false))) else (some (false))) else (some (false))) else (some (false))) else (some (false))) else (some (false))) else (some (false))) else (some (false))) else (some (false))) else (some (false))) else (some (false))
def m_cantonlaw07_head_j1 (u6 : S_api_Store) (u2 : (List S_api_Part)) (l18 : (List S_api_Node)) (l20 : (List S_api_Turn)) (x21 : Int) (s22 : ByteArray) (s23 : ByteArray) (x24 : Int) (l26 : (List ByteArray)) : Option Bool :=
  (idx u2 1).bind fun x120 => (m_part_Do (⟨l18, l20⟩ : S_api_Store) x120).bind fun u125 => m_cantonlaw07_head_j2 u6 u2 x21 u125.1.Nodes u125.1.Turns u125.2.Err u125.2.Path u125.2.Data u125.2.Version u125.2.Names
def m_cantonlaw07_head : Option Bool :=
  (m_part_Of (⟨1, (ByteArray.mk #[47, 97, 47, 98]), (ByteArray.mk #[120]), 0, 0, false⟩ : S_api_Op)).bind fun u2 => (m_part_Keep ([(⟨(ByteArray.mk #[47]), (ByteArray.mk #[]), 0, 3, 0⟩ : S_api_Node), (⟨(ByteArray.mk #[47, 97]), (ByteArray.mk #[]), 0, 0, 0⟩ : S_api_Node)] : List S_api_Node)).bind fun u6 => if ((u2.length : Int) != 2) = true then (some (false)) else ((idx u2 0).bind fun x272 => (m_part_Do u6 x272).bind fun u277 => m_cantonlaw07_head_j1 u6 u2 u277.1.Nodes u277.1.Turns u277.2.Err u277.2.Path u277.2.Data u277.2.Version u277.2.Names)
theorem c_cantonlaw07_head {w : World} {Fo : List Ob} {rs : List Rp} (H : Sep w (Fo) rs) (hr1 : rTab Tryz.prog ∈ rs) {r : Bool} (hm : m_cantonlaw07_head = some r) :
    Calls Tryz.prog 40 [].toArray w (Ret fun v w' => .bool r = v ∧ Sep w' (Fo) (rs)) := by
 unfold m_cantonlaw07_head at hm
 refine enter Tryz.func40 rfl Tryz.ntmps40 rfl fun a E =>?_
 simp only [enum, Nat.reduceAdd] at E
 refine sq<|pr 1 E rfl fun a E=>nx<|sv E rfl rfl rfl (x_build E rfl (E.evs rfl) (v := .agg #[.int .i64 1, .string (ByteArray.mk #[47, 97, 47, 98]), .string (ByteArray.mk #[120]), .int .i64 0, .int .i64 0, .bool false]) (by kernel_rfl)) fun a E=>bd hm fun u2 hx3 hm=>x_cl E rfl rfl rfl rfl rfl cf37 (c_part_Of (⟨1, (ByteArray.mk #[47, 97, 47, 98]), (ByteArray.mk #[120]), 0, 0, false⟩ : S_api_Op) H hx3)<|?_
 rintro _ w ⟨v4, rfl, H⟩ a E
 refine pr 1 E rfl fun a E=>nx<|sv E rfl rfl rfl (x_build E rfl (E.evs rfl) (v := .agg #[.string (ByteArray.mk #[47]), .string (ByteArray.mk #[]), .int .i64 0, .int .i64 3, .int .i64 0]) (by kernel_rfl)) fun a E=>sv E rfl rfl rfl (x_build E rfl (E.evs rfl) (v := .agg #[.string (ByteArray.mk #[47, 97]), .string (ByteArray.mk #[]), .int .i64 0, .int .i64 0, .int .i64 0]) (by kernel_rfl)) fun a E=>st_bsO (e := 80) (d := k_api_Node) (cs := [.string (ByteArray.mk #[47]), .string (ByteArray.mk #[]), .int .i64 0, .int .i64 3, .int .i64 0, .string (ByteArray.mk #[47, 97]), .string (ByteArray.mk #[]), .int .i64 0, .int .i64 0, .int .i64 0]) (xs := [(⟨(ByteArray.mk #[47]), (ByteArray.mk #[]), 0, 3, 0⟩ : S_api_Node), (⟨(ByteArray.mk #[47, 97]), (ByteArray.mk #[]), 0, 0, 0⟩ : S_api_Node)]) E H (wn rfl) rfl rfl rfl (E.evs rfl) (by kernel_rfl) rfl rfl (fun ok hr => (Rows.append (Rows.single (d := k_api_Node) (cs := [.string (ByteArray.mk #[47]), .string (ByteArray.mk #[]), .int .i64 0, .int .i64 3, .int .i64 0]) (x := (⟨(ByteArray.mk #[47]), (ByteArray.mk #[]), 0, 3, 0⟩ : S_api_Node)) k_api_Node_mk) (Rows.single (d := k_api_Node) (cs := [.string (ByteArray.mk #[47, 97]), .string (ByteArray.mk #[]), .int .i64 0, .int .i64 0, .int .i64 0]) (x := (⟨(ByteArray.mk #[47, 97]), (ByteArray.mk #[]), 0, 0, 0⟩ : S_api_Node)) k_api_Node_mk))) fun v5 w a H E=>have H:=H.thaw (i := 0) rfl;bd hm fun u6 hx7 hm=>x_cl E rfl rfl rfl rfl rfl cf39 (c_part_Keep v5 ([(⟨(ByteArray.mk #[47]), (ByteArray.mk #[]), 0, 3, 0⟩ : S_api_Node), (⟨(ByteArray.mk #[47, 97]), (ByteArray.mk #[]), 0, 0, 0⟩ : S_api_Node)] : List S_api_Node) H m0 hx7)<|?_
 rintro _ w ⟨v8, v9, rfl, H⟩ a E
 refine al E H rfl rfl rfl rfl zr41 fun p10 w a H E=>?_
 obtain ⟨q11, x12, rfl⟩ := H.slform m0
 obtain ⟨q13, x14, rfl⟩ := H.slform mm1
 refine st_st (i := 0) E H (wn rfl) rfl (us := [(.slice q11 u6.Nodes.length x12), (.slice q13 u6.Turns.length x14)]) rfl rfl rfl rfl rfl sz41 rfl rfl fun w H=>nt<|wp_seq<|sq<|pr 1 E rfl fun a E=>sv E rfl rfl rfl (x_lenR (i := 1) E H rfl rfl rfl Tryz.underlying59) fun a E=>pr 1 E rfl fun a E=>nt<|wif E hm rfl (fun hm=>?_) fun hm=>?_
 ·refine sq<|pr 1 E rfl fun a E=>nt<|wp_ret<|q_thenR<|out1 E rfl rfl<|have H:=H.drop 0;have H:=H.drop 0;?_
  cases hm
  exact ⟨rfl, H.reads (fun r hr => (t3 hr))⟩
 ·refine wp_skip<|q_then<|wp_seq_cut (fun a w => ∃ (p15 : Nat) (p16 : Nat) (v17 : Value) (v19 : Value) (v25 : Value) (l18 : (List S_api_Node)) (l20 : (List S_api_Turn)) (x21 : Int) (s22 : ByteArray) (s23 : ByteArray) (x24 : Int) (l26 : (List ByteArray)) (rs27 : List Rp), Env 114 a [(1, v4), (2, pt p10 0), (3, pt p15 0), (4, pt p16 0)] ∧ Sep w (Row 62 k_api_Part v4 u2 :: Blk p10 41 [(.slice q11 u6.Nodes.length x12), (.slice q13 u6.Turns.length x14)] :: Blk p15 41 [v17, v19] :: Blk p16 51 [.int .i64 x21, .string s22, .string s23, .int .i64 x24, v25] :: Fo) rs27 ∧ (∀ r, r ∈ rs → r ∈ rs27) ∧ rSl k_api_Node (.slice q11 u6.Nodes.length x12) u6.Nodes ∈ rs27 ∧ rSl k_api_Turn (.slice q13 u6.Turns.length x14) u6.Turns ∈ rs27 ∧ rSl k_api_Node v17 l18 ∈ rs27 ∧ rSl k_api_Turn v19 l20 ∈ rs27 ∧ rSl kS v25 l26 ∈ rs27 ∧ rTab Tryz.prog ∈ rs27 ∧ m_cantonlaw07_head_j1 u6 u2 l18 l20 x21 s22 s23 x24 l26 = some r) ?_ ?_
  ·refine bd hm fun x272 hx273 hm=>bd hm fun u277 hx278 hm=>?_
   have hI : Still [Blk p10 41 [(.slice q11 u6.Nodes.length x12), (.slice q13 u6.Turns.length x14)], Row 62 k_api_Part v4 u2] [] { w with drawn := w.drawn + 1 } := ⟨_, _, H.kept (Kp.drawn _ w _), (subO_cons m0 (subO_cons mm1 (subO_nil))), (sub_nil)⟩
   refine wp_drawT _ (.go 0 0 (.go 1 0 (.go 2 0 (.go 3 0 (.alt3 4 (.go 5 0 (.go 6 0 (.go 7 0 (.alt 8 (.go 9 1 (.go 10 1 (.go 11 2 .nil))) 9 (.go 8 1 (.go 10 1 (.go 11 2 .nil))))))) 8 (.alt 4 (.go 5 0 (.go 6 0 (.go 7 0 (.go 9 1 (.go 10 1 (.go 11 2 .nil)))))) 9 (.go 4 1 (.go 5 0 (.go 6 0 (.go 7 0 (.go 10 1 (.go 11 2 .nil))))))) 9 (.alt 4 (.go 5 0 (.go 6 0 (.go 7 0 (.go 8 1 (.go 10 1 (.go 11 2 .nil)))))) 8 (.go 4 1 (.go 5 0 (.go 6 0 (.go 7 0 (.go 10 1 (.go 11 2 .nil)))))))))))) [11] mixedOk (by kernel_rfl) (fun _ _ _ h => False.elim h.2) hI<|have H:=H.kept (Kp.drawn _ w (w.drawn + 1));?_
   generalize ({ w with drawn := w.drawn + 1 } : World) = w at H hI ⊢
   replace hI : ∃ W, Still [Blk p10 41 [(.slice q11 u6.Nodes.length x12), (.slice q13 u6.Turns.length x14)], Row 62 k_api_Part v4 u2] [] W := ⟨_, hI⟩
   obtain ⟨W0, hI⟩ := hI
   refine ot_val E rfl (wn rfl) rfl rfl (fun w hW => x_ld E rfl rfl (ib_ldN (us := [(.slice q11 u6.Nodes.length x12), (.slice q13 u6.Turns.length x14)]) m0 rfl Tryz.underlying41 rfl sz41 w hW)) fun a E=>ot_val E rfl (wn rfl) rfl rfl (fun w hW => (x_move E rfl rfl)) fun a E=>?_
   obtain ⟨p350, x351, hx352⟩ := H.rowformNE (i := 1) rfl hx273
   refine ot_val E rfl (wn rfl) rfl rfl (fun w hW => x_ixRowV (d := k_api_Part) E hx352 rfl rfl rfl rfl Tryz.underlying59 sz62 hx273) fun a E=>ot_val E rfl (wn rfl) rfl rfl (fun w hW => x_ldRowNI (us := (l_api_Part x272)) E k_api_Part_flat hx352 hx273 mm1 rfl rfl rfl Tryz.underlying62 rfl sz62 hW) fun a E=>?_
   refine ot_alt3 rfl rfl rfl ?_ ?_ ?_
   ·refine x_cl E rfl rfl rfl rfl rfl cf42 (c_part_Do u6 (.slice q11 u6.Nodes.length x12) (.slice q13 u6.Turns.length x14) x272 H m0 mm1 (t3 hr1) hx278)<|?_
    rintro _ w ⟨v355, v356, v357, rfl, H⟩ a E
    refine nt<|?_
    refine ⟨⟨_, _, H, (subO_cons m0 (subO_cons mm1 (subO_nil))), (sub_nil)⟩, ?_⟩
    refine ot_val E rfl (wn rfl) rfl rfl (fun w hW => (x_move E rfl rfl)) fun a E=>ot_val E rfl (wn rfl) rfl rfl (fun w hW => (x_ext E rfl rfl rfl)) fun a E=>ot_val E rfl (wn rfl) rfl rfl (fun w hW => (x_ext E rfl rfl rfl)) fun a E=>?_
    refine ot_alt rfl rfl ?_ ?_
    ·refine al E H rfl rfl rfl rfl zr41 fun p358 w a H E=>nt<|?_
     refine ⟨⟨_, _, H, (subO_cons mm1 (subO_cons mm2 (subO_nil))), (sub_nil)⟩, ?_⟩
     refine ot_op rfl<|al E H rfl rfl rfl rfl zr51 fun p359 w a H E=>nt<|?_
     refine ⟨⟨_, _, H, (subO_cons mm2 (subO_cons mm3 (subO_nil))), (sub_nil)⟩, ?_⟩
     refine ot_op rfl<|?_
     obtain ⟨q360, x361, rfl⟩ := H.slform m0
     obtain ⟨q362, x363, rfl⟩ := H.slform mm1
     refine st_st (i := 1) E H (wn rfl) rfl (us := [(.slice q360 u277.1.Nodes.length x361), (.slice q362 u277.1.Turns.length x363)]) rfl rfl rfl rfl rfl sz41 rfl rfl fun w H=>nt<|?_
     refine ⟨⟨_, _, H, (subO_cons mm2 (subO_cons mm3 (subO_nil))), (sub_nil)⟩, ?_⟩
     refine ot_tail rfl<|?_
     obtain ⟨q364, x365, rfl⟩ := H.slform mm2
     refine st_st (i := 0) E H (wn rfl) rfl (us := (l_api_Result u277.2 (.slice q364 u277.2.Names.length x365))) rfl rfl rfl rfl rfl sz51 rfl rfl fun w H=>nt<|ot_nil<|?_
     clear hI
     exact q_then<|have H:=H.front 0 rfl;have H:=H.front 1 rfl;have H:=H.front 2 rfl;have H:=H.front 3 rfl;⟨p358, p359, (.slice q360 u277.1.Nodes.length x361), (.slice q362 u277.1.Turns.length x363), (.slice q364 u277.2.Names.length x365), u277.1.Nodes, u277.1.Turns, u277.2.Err, u277.2.Path, u277.2.Data, u277.2.Version, u277.2.Names, _, E.sel [1, 2, 3, 4] rfl, H, fun r hr => (t6 hr), mm3, mm4, m0, mm1, mm2, (t6 hr1), hm⟩
    ·refine al E H rfl rfl rfl rfl zr51 fun p366 w a H E=>nt<|?_
     refine ⟨⟨_, _, H, (subO_cons mm1 (subO_cons mm2 (subO_nil))), (sub_nil)⟩, ?_⟩
     refine ot_op rfl<|al E H rfl rfl rfl rfl zr41 fun p367 w a H E=>nt<|?_
     refine ⟨⟨_, _, H, (subO_cons mm2 (subO_cons mm3 (subO_nil))), (sub_nil)⟩, ?_⟩
     refine ot_op rfl<|?_
     obtain ⟨q368, x369, rfl⟩ := H.slform m0
     obtain ⟨q370, x371, rfl⟩ := H.slform mm1
     refine st_st (i := 0) E H (wn rfl) rfl (us := [(.slice q368 u277.1.Nodes.length x369), (.slice q370 u277.1.Turns.length x371)]) rfl rfl rfl rfl rfl sz41 rfl rfl fun w H=>nt<|?_
     refine ⟨⟨_, _, H, (subO_cons mm2 (subO_cons mm3 (subO_nil))), (sub_nil)⟩, ?_⟩
     refine ot_tail rfl<|?_
     obtain ⟨q372, x373, rfl⟩ := H.slform mm2
     refine st_st (i := 1) E H (wn rfl) rfl (us := (l_api_Result u277.2 (.slice q372 u277.2.Names.length x373))) rfl rfl rfl rfl rfl sz51 rfl rfl fun w H=>nt<|ot_nil<|?_
     clear hI
     exact q_then<|have H:=H.front 1 rfl;have H:=H.front 1 rfl;have H:=H.front 2 rfl;have H:=H.front 3 rfl;⟨p367, p366, (.slice q368 u277.1.Nodes.length x369), (.slice q370 u277.1.Turns.length x371), (.slice q372 u277.2.Names.length x373), u277.1.Nodes, u277.1.Turns, u277.2.Err, u277.2.Path, u277.2.Data, u277.2.Version, u277.2.Names, _, E.sel [1, 2, 3, 4] rfl, H, fun r hr => (t6 hr), mm3, mm4, m0, mm1, mm2, (t6 hr1), hm⟩
   ·refine al E H rfl rfl rfl rfl zr41 fun p374 w a H E=>nt<|?_
    refine ⟨⟨_, _, H, (subO_cons mm1 (subO_cons mm2 (subO_nil))), (sub_nil)⟩, ?_⟩
    refine ot_alt rfl rfl ?_ ?_
    ·refine x_cl E rfl rfl rfl rfl rfl cf42 (c_part_Do u6 (.slice q11 u6.Nodes.length x12) (.slice q13 u6.Turns.length x14) x272 H m0 mm1 (t3 hr1) hx278)<|?_
     rintro _ w ⟨v377, v378, v379, rfl, H⟩ a E
     refine nt<|?_
     refine ⟨⟨_, _, H, (subO_cons mm1 (subO_cons mm2 (subO_nil))), (sub_nil)⟩, ?_⟩
     refine ot_val E rfl (wn rfl) rfl rfl (fun w hW => (x_move E rfl rfl)) fun a E=>ot_val E rfl (wn rfl) rfl rfl (fun w hW => (x_ext E rfl rfl rfl)) fun a E=>ot_val E rfl (wn rfl) rfl rfl (fun w hW => (x_ext E rfl rfl rfl)) fun a E=>ot_op rfl<|al E H rfl rfl rfl rfl zr51 fun p380 w a H E=>nt<|?_
     refine ⟨⟨_, _, H, (subO_cons mm2 (subO_cons mm3 (subO_nil))), (sub_nil)⟩, ?_⟩
     refine ot_op rfl<|?_
     obtain ⟨q381, x382, rfl⟩ := H.slform m0
     obtain ⟨q383, x384, rfl⟩ := H.slform mm1
     refine st_st (i := 1) E H (wn rfl) rfl (us := [(.slice q381 u277.1.Nodes.length x382), (.slice q383 u277.1.Turns.length x384)]) rfl rfl rfl rfl rfl sz41 rfl rfl fun w H=>nt<|?_
     refine ⟨⟨_, _, H, (subO_cons mm2 (subO_cons mm3 (subO_nil))), (sub_nil)⟩, ?_⟩
     refine ot_tail rfl<|?_
     obtain ⟨q385, x386, rfl⟩ := H.slform mm2
     refine st_st (i := 0) E H (wn rfl) rfl (us := (l_api_Result u277.2 (.slice q385 u277.2.Names.length x386))) rfl rfl rfl rfl rfl sz51 rfl rfl fun w H=>nt<|ot_nil<|?_
     clear hI
     exact q_then<|have H:=H.front 0 rfl;have H:=H.front 1 rfl;have H:=H.front 2 rfl;have H:=H.front 3 rfl;⟨p374, p380, (.slice q381 u277.1.Nodes.length x382), (.slice q383 u277.1.Turns.length x384), (.slice q385 u277.2.Names.length x386), u277.1.Nodes, u277.1.Turns, u277.2.Err, u277.2.Path, u277.2.Data, u277.2.Version, u277.2.Names, _, E.sel [1, 2, 3, 4] rfl, H, fun r hr => (t6 hr), mm3, mm4, m0, mm1, mm2, (t6 hr1), hm⟩
    ·refine al E H rfl rfl rfl rfl zr51 fun p387 w a H E=>nt<|?_
     refine ⟨⟨_, _, H, (subO_cons mm2 (subO_cons mm3 (subO_nil))), (sub_nil)⟩, ?_⟩
     refine ot_op rfl<|x_cl E rfl rfl rfl rfl rfl cf42 (c_part_Do u6 (.slice q11 u6.Nodes.length x12) (.slice q13 u6.Turns.length x14) x272 H m0 mm1 (t3 hr1) hx278)<|?_
     rintro _ w ⟨v390, v391, v392, rfl, H⟩ a E
     refine nt<|?_
     refine ⟨⟨_, _, H, (subO_cons mm2 (subO_cons mm3 (subO_nil))), (sub_nil)⟩, ?_⟩
     refine ot_val E rfl (wn rfl) rfl rfl (fun w hW => (x_move E rfl rfl)) fun a E=>ot_val E rfl (wn rfl) rfl rfl (fun w hW => (x_ext E rfl rfl rfl)) fun a E=>ot_val E rfl (wn rfl) rfl rfl (fun w hW => (x_ext E rfl rfl rfl)) fun a E=>ot_op rfl<|?_
     obtain ⟨q393, x394, rfl⟩ := H.slform m0
     obtain ⟨q395, x396, rfl⟩ := H.slform mm1
     refine st_st (i := 1) E H (wn rfl) rfl (us := [(.slice q393 u277.1.Nodes.length x394), (.slice q395 u277.1.Turns.length x396)]) rfl rfl rfl rfl rfl sz41 rfl rfl fun w H=>nt<|?_
     refine ⟨⟨_, _, H, (subO_cons mm2 (subO_cons mm3 (subO_nil))), (sub_nil)⟩, ?_⟩
     refine ot_tail rfl<|?_
     obtain ⟨q397, x398, rfl⟩ := H.slform mm2
     refine st_st (i := 0) E H (wn rfl) rfl (us := (l_api_Result u277.2 (.slice q397 u277.2.Names.length x398))) rfl rfl rfl rfl rfl sz51 rfl rfl fun w H=>nt<|ot_nil<|?_
     clear hI
     exact q_then<|have H:=H.front 0 rfl;have H:=H.front 1 rfl;have H:=H.front 2 rfl;have H:=H.front 3 rfl;⟨p374, p387, (.slice q393 u277.1.Nodes.length x394), (.slice q395 u277.1.Turns.length x396), (.slice q397 u277.2.Names.length x398), u277.1.Nodes, u277.1.Turns, u277.2.Err, u277.2.Path, u277.2.Data, u277.2.Version, u277.2.Names, _, E.sel [1, 2, 3, 4] rfl, H, fun r hr => (t6 hr), mm3, mm4, m0, mm1, mm2, (t6 hr1), hm⟩
   ·refine al E H rfl rfl rfl rfl zr51 fun p399 w a H E=>nt<|?_
    refine ⟨⟨_, _, H, (subO_cons mm1 (subO_cons mm2 (subO_nil))), (sub_nil)⟩, ?_⟩
    refine ot_alt rfl rfl ?_ ?_
    ·refine x_cl E rfl rfl rfl rfl rfl cf42 (c_part_Do u6 (.slice q11 u6.Nodes.length x12) (.slice q13 u6.Turns.length x14) x272 H m0 mm1 (t3 hr1) hx278)<|?_
     rintro _ w ⟨v402, v403, v404, rfl, H⟩ a E
     refine nt<|?_
     refine ⟨⟨_, _, H, (subO_cons mm1 (subO_cons mm2 (subO_nil))), (sub_nil)⟩, ?_⟩
     refine ot_val E rfl (wn rfl) rfl rfl (fun w hW => (x_move E rfl rfl)) fun a E=>ot_val E rfl (wn rfl) rfl rfl (fun w hW => (x_ext E rfl rfl rfl)) fun a E=>ot_val E rfl (wn rfl) rfl rfl (fun w hW => (x_ext E rfl rfl rfl)) fun a E=>ot_op rfl<|al E H rfl rfl rfl rfl zr41 fun p405 w a H E=>nt<|?_
     refine ⟨⟨_, _, H, (subO_cons mm2 (subO_cons mm3 (subO_nil))), (sub_nil)⟩, ?_⟩
     refine ot_op rfl<|?_
     obtain ⟨q406, x407, rfl⟩ := H.slform m0
     obtain ⟨q408, x409, rfl⟩ := H.slform mm1
     refine st_st (i := 0) E H (wn rfl) rfl (us := [(.slice q406 u277.1.Nodes.length x407), (.slice q408 u277.1.Turns.length x409)]) rfl rfl rfl rfl rfl sz41 rfl rfl fun w H=>nt<|?_
     refine ⟨⟨_, _, H, (subO_cons mm2 (subO_cons mm3 (subO_nil))), (sub_nil)⟩, ?_⟩
     refine ot_tail rfl<|?_
     obtain ⟨q410, x411, rfl⟩ := H.slform mm2
     refine st_st (i := 1) E H (wn rfl) rfl (us := (l_api_Result u277.2 (.slice q410 u277.2.Names.length x411))) rfl rfl rfl rfl rfl sz51 rfl rfl fun w H=>nt<|ot_nil<|?_
     clear hI
     exact q_then<|have H:=H.front 1 rfl;have H:=H.front 1 rfl;have H:=H.front 2 rfl;have H:=H.front 3 rfl;⟨p405, p399, (.slice q406 u277.1.Nodes.length x407), (.slice q408 u277.1.Turns.length x409), (.slice q410 u277.2.Names.length x411), u277.1.Nodes, u277.1.Turns, u277.2.Err, u277.2.Path, u277.2.Data, u277.2.Version, u277.2.Names, _, E.sel [1, 2, 3, 4] rfl, H, fun r hr => (t6 hr), mm3, mm4, m0, mm1, mm2, (t6 hr1), hm⟩
    ·refine al E H rfl rfl rfl rfl zr41 fun p412 w a H E=>nt<|?_
     refine ⟨⟨_, _, H, (subO_cons mm2 (subO_cons mm3 (subO_nil))), (sub_nil)⟩, ?_⟩
     refine ot_op rfl<|x_cl E rfl rfl rfl rfl rfl cf42 (c_part_Do u6 (.slice q11 u6.Nodes.length x12) (.slice q13 u6.Turns.length x14) x272 H m0 mm1 (t3 hr1) hx278)<|?_
     rintro _ w ⟨v415, v416, v417, rfl, H⟩ a E
     refine nt<|?_
     refine ⟨⟨_, _, H, (subO_cons mm2 (subO_cons mm3 (subO_nil))), (sub_nil)⟩, ?_⟩
     refine ot_val E rfl (wn rfl) rfl rfl (fun w hW => (x_move E rfl rfl)) fun a E=>ot_val E rfl (wn rfl) rfl rfl (fun w hW => (x_ext E rfl rfl rfl)) fun a E=>ot_val E rfl (wn rfl) rfl rfl (fun w hW => (x_ext E rfl rfl rfl)) fun a E=>ot_op rfl<|?_
     obtain ⟨q418, x419, rfl⟩ := H.slform m0
     obtain ⟨q420, x421, rfl⟩ := H.slform mm1
     refine st_st (i := 0) E H (wn rfl) rfl (us := [(.slice q418 u277.1.Nodes.length x419), (.slice q420 u277.1.Turns.length x421)]) rfl rfl rfl rfl rfl sz41 rfl rfl fun w H=>nt<|?_
     refine ⟨⟨_, _, H, (subO_cons mm2 (subO_cons mm3 (subO_nil))), (sub_nil)⟩, ?_⟩
     refine ot_tail rfl<|?_
     obtain ⟨q422, x423, rfl⟩ := H.slform mm2
     refine st_st (i := 1) E H (wn rfl) rfl (us := (l_api_Result u277.2 (.slice q422 u277.2.Names.length x423))) rfl rfl rfl rfl rfl sz51 rfl rfl fun w H=>nt<|ot_nil<|?_
     clear hI
     exact q_then<|have H:=H.front 1 rfl;have H:=H.front 1 rfl;have H:=H.front 2 rfl;have H:=H.front 3 rfl;⟨p412, p399, (.slice q418 u277.1.Nodes.length x419), (.slice q420 u277.1.Turns.length x421), (.slice q422 u277.2.Names.length x423), u277.1.Nodes, u277.1.Turns, u277.2.Err, u277.2.Path, u277.2.Data, u277.2.Version, u277.2.Names, _, E.sel [1, 2, 3, 4] rfl, H, fun r hr => (t6 hr), mm3, mm4, m0, mm1, mm2, (t6 hr1), hm⟩
  ·clear E H hm
   rintro a w ⟨p15, p16, v17, v19, v25, l18, l20, x21, s22, s23, x24, l26, rs27, E, H, hs28, hr29, hr30, hr31, hr32, hr33, hr34, hm⟩
   unfold m_cantonlaw07_head_j1 at hm
   refine wp_seq_cut (fun a w => ∃ (p35 : Nat) (p36 : Nat) (v37 : Value) (v39 : Value) (v45 : Value) (l38 : (List S_api_Node)) (l40 : (List S_api_Turn)) (x41 : Int) (s42 : ByteArray) (s43 : ByteArray) (x44 : Int) (l46 : (List ByteArray)) (rs47 : List Rp), Env 114 a [(1, v4), (2, pt p10 0), (4, pt p16 0), (5, pt p35 0), (6, pt p36 0)] ∧ Sep w (Row 62 k_api_Part v4 u2 :: Blk p10 41 [(.slice q11 u6.Nodes.length x12), (.slice q13 u6.Turns.length x14)] :: Blk p16 51 [.int .i64 x21, .string s22, .string s23, .int .i64 x24, v25] :: Blk p35 41 [v37, v39] :: Blk p36 51 [.int .i64 x41, .string s42, .string s43, .int .i64 x44, v45] :: Fo) rs47 ∧ (∀ r, r ∈ rs → r ∈ rs47) ∧ rSl k_api_Node (.slice q11 u6.Nodes.length x12) u6.Nodes ∈ rs47 ∧ rSl k_api_Turn (.slice q13 u6.Turns.length x14) u6.Turns ∈ rs47 ∧ rSl kS v25 l26 ∈ rs47 ∧ rSl k_api_Node v37 l38 ∈ rs47 ∧ rSl k_api_Turn v39 l40 ∈ rs47 ∧ rSl kS v45 l46 ∈ rs47 ∧ rTab Tryz.prog ∈ rs47 ∧ m_cantonlaw07_head_j2 u6 u2 x21 l38 l40 x41 s42 s43 x44 l46 = some r) ?_ ?_
   ·refine bd hm fun x120 hx121 hm=>bd hm fun u125 hx126 hm=>?_
    have hI : Still [Row 62 k_api_Part v4 u2, Blk p15 41 [v17, v19]] [] { w with drawn := w.drawn + 1 } := ⟨_, _, H.kept (Kp.drawn _ w _), (subO_cons m0 (subO_cons mm2 (subO_nil))), (sub_nil)⟩
    refine wp_drawT _ (.go 0 0 (.go 1 0 (.go 2 0 (.go 3 0 (.alt3 4 (.go 5 0 (.go 6 0 (.go 7 0 (.alt 8 (.go 9 1 (.go 10 1 (.go 11 2 .nil))) 9 (.go 8 1 (.go 10 1 (.go 11 2 .nil))))))) 8 (.alt 4 (.go 5 0 (.go 6 0 (.go 7 0 (.go 9 1 (.go 10 1 (.go 11 2 .nil)))))) 9 (.go 4 1 (.go 5 0 (.go 6 0 (.go 7 0 (.go 10 1 (.go 11 2 .nil))))))) 9 (.alt 4 (.go 5 0 (.go 6 0 (.go 7 0 (.go 8 1 (.go 10 1 (.go 11 2 .nil)))))) 8 (.go 4 1 (.go 5 0 (.go 6 0 (.go 7 0 (.go 10 1 (.go 11 2 .nil)))))))))))) [11] mixedOk (by kernel_rfl) (fun _ _ _ h => False.elim h.2) hI<|have H:=H.kept (Kp.drawn _ w (w.drawn + 1));?_
    generalize ({ w with drawn := w.drawn + 1 } : World) = w at H hI ⊢
    replace hI : ∃ W, Still [Row 62 k_api_Part v4 u2, Blk p15 41 [v17, v19]] [] W := ⟨_, hI⟩
    obtain ⟨W0, hI⟩ := hI
    refine ot_val E rfl (wn rfl) rfl rfl (fun w hW => x_ld E rfl rfl (ib_ldN (us := [v17, v19]) mm1 rfl Tryz.underlying41 rfl sz41 w hW)) fun a E=>ot_val E rfl (wn rfl) rfl rfl (fun w hW => (x_move E rfl rfl)) fun a E=>?_
    obtain ⟨p198, x199, hx200⟩ := H.rowformNE (i := 0) rfl hx121
    refine ot_val E rfl (wn rfl) rfl rfl (fun w hW => x_ixRowV (d := k_api_Part) E hx200 rfl rfl rfl rfl Tryz.underlying59 sz62 hx121) fun a E=>ot_val E rfl (wn rfl) rfl rfl (fun w hW => x_ldRowNI (us := (l_api_Part x120)) E k_api_Part_flat hx200 hx121 m0 rfl rfl rfl Tryz.underlying62 rfl sz62 hW) fun a E=>?_
    refine ot_alt3 rfl rfl rfl ?_ ?_ ?_
    ·refine x_cl E rfl rfl rfl rfl rfl cf42 (c_part_Do (⟨l18, l20⟩ : S_api_Store) v17 v19 x120 H hr31 hr32 hr34 hx126)<|?_
     rintro _ w ⟨v203, v204, v205, rfl, H⟩ a E
     refine nt<|?_
     refine ⟨⟨_, _, H, (subO_cons m0 (subO_cons mm2 (subO_nil))), (sub_nil)⟩, ?_⟩
     refine ot_val E rfl (wn rfl) rfl rfl (fun w hW => (x_move E rfl rfl)) fun a E=>ot_val E rfl (wn rfl) rfl rfl (fun w hW => (x_ext E rfl rfl rfl)) fun a E=>ot_val E rfl (wn rfl) rfl rfl (fun w hW => (x_ext E rfl rfl rfl)) fun a E=>?_
     refine ot_alt rfl rfl ?_ ?_
     ·refine al E H rfl rfl rfl rfl zr41 fun p206 w a H E=>nt<|?_
      refine ⟨⟨_, _, H, (subO_cons mm1 (subO_cons mm3 (subO_nil))), (sub_nil)⟩, ?_⟩
      refine ot_op rfl<|al E H rfl rfl rfl rfl zr51 fun p207 w a H E=>nt<|?_
      refine ⟨⟨_, _, H, (subO_cons mm2 (subO_cons mm4 (subO_nil))), (sub_nil)⟩, ?_⟩
      refine ot_op rfl<|?_
      obtain ⟨q208, x209, rfl⟩ := H.slform m0
      obtain ⟨q210, x211, rfl⟩ := H.slform mm1
      refine st_st (i := 1) E H (wn rfl) rfl (us := [(.slice q208 u125.1.Nodes.length x209), (.slice q210 u125.1.Turns.length x211)]) rfl rfl rfl rfl rfl sz41 rfl rfl fun w H=>nt<|?_
      refine ⟨⟨_, _, H, (subO_cons mm2 (subO_cons mm4 (subO_nil))), (sub_nil)⟩, ?_⟩
      refine ot_tail rfl<|?_
      obtain ⟨q212, x213, rfl⟩ := H.slform mm2
      refine st_st (i := 0) E H (wn rfl) rfl (us := (l_api_Result u125.2 (.slice q212 u125.2.Names.length x213))) rfl rfl rfl rfl rfl sz51 rfl rfl fun w H=>nt<|ot_nil<|?_
      clear hI
      exact q_then<|have H:=H.drop 4;have H:=H.front 0 rfl;have H:=H.front 1 rfl;have H:=H.front 4 rfl;have H:=H.front 4 rfl;have H:=H.front 4 rfl;⟨p206, p207, (.slice q208 u125.1.Nodes.length x209), (.slice q210 u125.1.Turns.length x211), (.slice q212 u125.2.Names.length x213), u125.1.Nodes, u125.1.Turns, u125.2.Err, u125.2.Path, u125.2.Data, u125.2.Version, u125.2.Names, _, E.sel [1, 2, 4, 5, 6] rfl, H, fun r hr => (t3 (hs28 r hr)), (t3 hr29), (t3 hr30), (t3 hr33), m0, mm1, mm2, (t3 hr34), hm⟩
     ·refine al E H rfl rfl rfl rfl zr51 fun p214 w a H E=>nt<|?_
      refine ⟨⟨_, _, H, (subO_cons mm1 (subO_cons mm3 (subO_nil))), (sub_nil)⟩, ?_⟩
      refine ot_op rfl<|al E H rfl rfl rfl rfl zr41 fun p215 w a H E=>nt<|?_
      refine ⟨⟨_, _, H, (subO_cons mm2 (subO_cons mm4 (subO_nil))), (sub_nil)⟩, ?_⟩
      refine ot_op rfl<|?_
      obtain ⟨q216, x217, rfl⟩ := H.slform m0
      obtain ⟨q218, x219, rfl⟩ := H.slform mm1
      refine st_st (i := 0) E H (wn rfl) rfl (us := [(.slice q216 u125.1.Nodes.length x217), (.slice q218 u125.1.Turns.length x219)]) rfl rfl rfl rfl rfl sz41 rfl rfl fun w H=>nt<|?_
      refine ⟨⟨_, _, H, (subO_cons mm2 (subO_cons mm4 (subO_nil))), (sub_nil)⟩, ?_⟩
      refine ot_tail rfl<|?_
      obtain ⟨q220, x221, rfl⟩ := H.slform mm2
      refine st_st (i := 1) E H (wn rfl) rfl (us := (l_api_Result u125.2 (.slice q220 u125.2.Names.length x221))) rfl rfl rfl rfl rfl sz51 rfl rfl fun w H=>nt<|ot_nil<|?_
      clear hI
      exact q_then<|have H:=H.drop 4;have H:=H.front 1 rfl;have H:=H.front 1 rfl;have H:=H.front 4 rfl;have H:=H.front 4 rfl;have H:=H.front 4 rfl;⟨p215, p214, (.slice q216 u125.1.Nodes.length x217), (.slice q218 u125.1.Turns.length x219), (.slice q220 u125.2.Names.length x221), u125.1.Nodes, u125.1.Turns, u125.2.Err, u125.2.Path, u125.2.Data, u125.2.Version, u125.2.Names, _, E.sel [1, 2, 4, 5, 6] rfl, H, fun r hr => (t3 (hs28 r hr)), (t3 hr29), (t3 hr30), (t3 hr33), m0, mm1, mm2, (t3 hr34), hm⟩
    ·refine al E H rfl rfl rfl rfl zr41 fun p222 w a H E=>nt<|?_
     refine ⟨⟨_, _, H, (subO_cons mm1 (subO_cons mm3 (subO_nil))), (sub_nil)⟩, ?_⟩
     refine ot_alt rfl rfl ?_ ?_
     ·refine x_cl E rfl rfl rfl rfl rfl cf42 (c_part_Do (⟨l18, l20⟩ : S_api_Store) v17 v19 x120 H hr31 hr32 hr34 hx126)<|?_
      rintro _ w ⟨v225, v226, v227, rfl, H⟩ a E
      refine nt<|?_
      refine ⟨⟨_, _, H, (subO_cons mm1 (subO_cons mm3 (subO_nil))), (sub_nil)⟩, ?_⟩
      refine ot_val E rfl (wn rfl) rfl rfl (fun w hW => (x_move E rfl rfl)) fun a E=>ot_val E rfl (wn rfl) rfl rfl (fun w hW => (x_ext E rfl rfl rfl)) fun a E=>ot_val E rfl (wn rfl) rfl rfl (fun w hW => (x_ext E rfl rfl rfl)) fun a E=>ot_op rfl<|al E H rfl rfl rfl rfl zr51 fun p228 w a H E=>nt<|?_
      refine ⟨⟨_, _, H, (subO_cons mm2 (subO_cons mm4 (subO_nil))), (sub_nil)⟩, ?_⟩
      refine ot_op rfl<|?_
      obtain ⟨q229, x230, rfl⟩ := H.slform m0
      obtain ⟨q231, x232, rfl⟩ := H.slform mm1
      refine st_st (i := 1) E H (wn rfl) rfl (us := [(.slice q229 u125.1.Nodes.length x230), (.slice q231 u125.1.Turns.length x232)]) rfl rfl rfl rfl rfl sz41 rfl rfl fun w H=>nt<|?_
      refine ⟨⟨_, _, H, (subO_cons mm2 (subO_cons mm4 (subO_nil))), (sub_nil)⟩, ?_⟩
      refine ot_tail rfl<|?_
      obtain ⟨q233, x234, rfl⟩ := H.slform mm2
      refine st_st (i := 0) E H (wn rfl) rfl (us := (l_api_Result u125.2 (.slice q233 u125.2.Names.length x234))) rfl rfl rfl rfl rfl sz51 rfl rfl fun w H=>nt<|ot_nil<|?_
      clear hI
      exact q_then<|have H:=H.drop 4;have H:=H.front 0 rfl;have H:=H.front 1 rfl;have H:=H.front 4 rfl;have H:=H.front 4 rfl;have H:=H.front 4 rfl;⟨p222, p228, (.slice q229 u125.1.Nodes.length x230), (.slice q231 u125.1.Turns.length x232), (.slice q233 u125.2.Names.length x234), u125.1.Nodes, u125.1.Turns, u125.2.Err, u125.2.Path, u125.2.Data, u125.2.Version, u125.2.Names, _, E.sel [1, 2, 4, 5, 6] rfl, H, fun r hr => (t3 (hs28 r hr)), (t3 hr29), (t3 hr30), (t3 hr33), m0, mm1, mm2, (t3 hr34), hm⟩
     ·refine al E H rfl rfl rfl rfl zr51 fun p235 w a H E=>nt<|?_
      refine ⟨⟨_, _, H, (subO_cons mm2 (subO_cons mm4 (subO_nil))), (sub_nil)⟩, ?_⟩
      refine ot_op rfl<|x_cl E rfl rfl rfl rfl rfl cf42 (c_part_Do (⟨l18, l20⟩ : S_api_Store) v17 v19 x120 H hr31 hr32 hr34 hx126)<|?_
      rintro _ w ⟨v238, v239, v240, rfl, H⟩ a E
      refine nt<|?_
      refine ⟨⟨_, _, H, (subO_cons mm2 (subO_cons mm4 (subO_nil))), (sub_nil)⟩, ?_⟩
      refine ot_val E rfl (wn rfl) rfl rfl (fun w hW => (x_move E rfl rfl)) fun a E=>ot_val E rfl (wn rfl) rfl rfl (fun w hW => (x_ext E rfl rfl rfl)) fun a E=>ot_val E rfl (wn rfl) rfl rfl (fun w hW => (x_ext E rfl rfl rfl)) fun a E=>ot_op rfl<|?_
      obtain ⟨q241, x242, rfl⟩ := H.slform m0
      obtain ⟨q243, x244, rfl⟩ := H.slform mm1
      refine st_st (i := 1) E H (wn rfl) rfl (us := [(.slice q241 u125.1.Nodes.length x242), (.slice q243 u125.1.Turns.length x244)]) rfl rfl rfl rfl rfl sz41 rfl rfl fun w H=>nt<|?_
      refine ⟨⟨_, _, H, (subO_cons mm2 (subO_cons mm4 (subO_nil))), (sub_nil)⟩, ?_⟩
      refine ot_tail rfl<|?_
      obtain ⟨q245, x246, rfl⟩ := H.slform mm2
      refine st_st (i := 0) E H (wn rfl) rfl (us := (l_api_Result u125.2 (.slice q245 u125.2.Names.length x246))) rfl rfl rfl rfl rfl sz51 rfl rfl fun w H=>nt<|ot_nil<|?_
      clear hI
      exact q_then<|have H:=H.drop 4;have H:=H.front 0 rfl;have H:=H.front 1 rfl;have H:=H.front 4 rfl;have H:=H.front 4 rfl;have H:=H.front 4 rfl;⟨p222, p235, (.slice q241 u125.1.Nodes.length x242), (.slice q243 u125.1.Turns.length x244), (.slice q245 u125.2.Names.length x246), u125.1.Nodes, u125.1.Turns, u125.2.Err, u125.2.Path, u125.2.Data, u125.2.Version, u125.2.Names, _, E.sel [1, 2, 4, 5, 6] rfl, H, fun r hr => (t3 (hs28 r hr)), (t3 hr29), (t3 hr30), (t3 hr33), m0, mm1, mm2, (t3 hr34), hm⟩
    ·refine al E H rfl rfl rfl rfl zr51 fun p247 w a H E=>nt<|?_
     refine ⟨⟨_, _, H, (subO_cons mm1 (subO_cons mm3 (subO_nil))), (sub_nil)⟩, ?_⟩
     refine ot_alt rfl rfl ?_ ?_
     ·refine x_cl E rfl rfl rfl rfl rfl cf42 (c_part_Do (⟨l18, l20⟩ : S_api_Store) v17 v19 x120 H hr31 hr32 hr34 hx126)<|?_
      rintro _ w ⟨v250, v251, v252, rfl, H⟩ a E
      refine nt<|?_
      refine ⟨⟨_, _, H, (subO_cons mm1 (subO_cons mm3 (subO_nil))), (sub_nil)⟩, ?_⟩
      refine ot_val E rfl (wn rfl) rfl rfl (fun w hW => (x_move E rfl rfl)) fun a E=>ot_val E rfl (wn rfl) rfl rfl (fun w hW => (x_ext E rfl rfl rfl)) fun a E=>ot_val E rfl (wn rfl) rfl rfl (fun w hW => (x_ext E rfl rfl rfl)) fun a E=>ot_op rfl<|al E H rfl rfl rfl rfl zr41 fun p253 w a H E=>nt<|?_
      refine ⟨⟨_, _, H, (subO_cons mm2 (subO_cons mm4 (subO_nil))), (sub_nil)⟩, ?_⟩
      refine ot_op rfl<|?_
      obtain ⟨q254, x255, rfl⟩ := H.slform m0
      obtain ⟨q256, x257, rfl⟩ := H.slform mm1
      refine st_st (i := 0) E H (wn rfl) rfl (us := [(.slice q254 u125.1.Nodes.length x255), (.slice q256 u125.1.Turns.length x257)]) rfl rfl rfl rfl rfl sz41 rfl rfl fun w H=>nt<|?_
      refine ⟨⟨_, _, H, (subO_cons mm2 (subO_cons mm4 (subO_nil))), (sub_nil)⟩, ?_⟩
      refine ot_tail rfl<|?_
      obtain ⟨q258, x259, rfl⟩ := H.slform mm2
      refine st_st (i := 1) E H (wn rfl) rfl (us := (l_api_Result u125.2 (.slice q258 u125.2.Names.length x259))) rfl rfl rfl rfl rfl sz51 rfl rfl fun w H=>nt<|ot_nil<|?_
      clear hI
      exact q_then<|have H:=H.drop 4;have H:=H.front 1 rfl;have H:=H.front 1 rfl;have H:=H.front 4 rfl;have H:=H.front 4 rfl;have H:=H.front 4 rfl;⟨p253, p247, (.slice q254 u125.1.Nodes.length x255), (.slice q256 u125.1.Turns.length x257), (.slice q258 u125.2.Names.length x259), u125.1.Nodes, u125.1.Turns, u125.2.Err, u125.2.Path, u125.2.Data, u125.2.Version, u125.2.Names, _, E.sel [1, 2, 4, 5, 6] rfl, H, fun r hr => (t3 (hs28 r hr)), (t3 hr29), (t3 hr30), (t3 hr33), m0, mm1, mm2, (t3 hr34), hm⟩
     ·refine al E H rfl rfl rfl rfl zr41 fun p260 w a H E=>nt<|?_
      refine ⟨⟨_, _, H, (subO_cons mm2 (subO_cons mm4 (subO_nil))), (sub_nil)⟩, ?_⟩
      refine ot_op rfl<|x_cl E rfl rfl rfl rfl rfl cf42 (c_part_Do (⟨l18, l20⟩ : S_api_Store) v17 v19 x120 H hr31 hr32 hr34 hx126)<|?_
      rintro _ w ⟨v263, v264, v265, rfl, H⟩ a E
      refine nt<|?_
      refine ⟨⟨_, _, H, (subO_cons mm2 (subO_cons mm4 (subO_nil))), (sub_nil)⟩, ?_⟩
      refine ot_val E rfl (wn rfl) rfl rfl (fun w hW => (x_move E rfl rfl)) fun a E=>ot_val E rfl (wn rfl) rfl rfl (fun w hW => (x_ext E rfl rfl rfl)) fun a E=>ot_val E rfl (wn rfl) rfl rfl (fun w hW => (x_ext E rfl rfl rfl)) fun a E=>ot_op rfl<|?_
      obtain ⟨q266, x267, rfl⟩ := H.slform m0
      obtain ⟨q268, x269, rfl⟩ := H.slform mm1
      refine st_st (i := 0) E H (wn rfl) rfl (us := [(.slice q266 u125.1.Nodes.length x267), (.slice q268 u125.1.Turns.length x269)]) rfl rfl rfl rfl rfl sz41 rfl rfl fun w H=>nt<|?_
      refine ⟨⟨_, _, H, (subO_cons mm2 (subO_cons mm4 (subO_nil))), (sub_nil)⟩, ?_⟩
      refine ot_tail rfl<|?_
      obtain ⟨q270, x271, rfl⟩ := H.slform mm2
      refine st_st (i := 1) E H (wn rfl) rfl (us := (l_api_Result u125.2 (.slice q270 u125.2.Names.length x271))) rfl rfl rfl rfl rfl sz51 rfl rfl fun w H=>nt<|ot_nil<|?_
      clear hI
      exact q_then<|have H:=H.drop 4;have H:=H.front 1 rfl;have H:=H.front 1 rfl;have H:=H.front 4 rfl;have H:=H.front 4 rfl;have H:=H.front 4 rfl;⟨p260, p247, (.slice q266 u125.1.Nodes.length x267), (.slice q268 u125.1.Turns.length x269), (.slice q270 u125.2.Names.length x271), u125.1.Nodes, u125.1.Turns, u125.2.Err, u125.2.Path, u125.2.Data, u125.2.Version, u125.2.Names, _, E.sel [1, 2, 4, 5, 6] rfl, H, fun r hr => (t3 (hs28 r hr)), (t3 hr29), (t3 hr30), (t3 hr33), m0, mm1, mm2, (t3 hr34), hm⟩
   ·clear E H hm
    rintro a w ⟨p35, p36, v37, v39, v45, l38, l40, x41, s42, s43, x44, l46, rs47, E, H, hs48, hr49, hr50, hr51, hr52, hr53, hr54, hr55, hm⟩
    unfold m_cantonlaw07_head_j2 at hm
    refine sq<|sv E rfl rfl rfl (x_ldBN (i := 1) (us := [(.slice q11 u6.Nodes.length x12), (.slice q13 u6.Turns.length x14)]) E H rfl rfl rfl rfl Tryz.underlying41 rfl sz41) fun a E=>sv E rfl rfl rfl (x_build E rfl (E.evs rfl) (v := .agg z_api_Part.toArray) (by kernel_rfl)) fun a E=>bd hm fun u56 hx57 hm=>x_cl E rfl rfl rfl rfl rfl cf42 (c_part_Do u6 (.slice q11 u6.Nodes.length x12) (.slice q13 u6.Turns.length x14) (⟨0, (ByteArray.mk #[]), (ByteArray.mk #[]), (ByteArray.mk #[]), 0, 0, false⟩ : S_api_Part) H hr49 hr50 hr55 hx57)<|?_
    rintro _ w ⟨v58, v59, v60, rfl, H⟩ a E
    refine pr 3 E rfl fun a E=>al E H rfl rfl rfl rfl zr41 fun p61 w a H E=>al E H rfl rfl rfl rfl zr51 fun p62 w a H E=>?_
    obtain ⟨q63, x64, rfl⟩ := H.slform m0
    obtain ⟨q65, x66, rfl⟩ := H.slform mm1
    refine st_st (i := 1) E H (wn rfl) rfl (us := [(.slice q63 u56.1.Nodes.length x64), (.slice q65 u56.1.Turns.length x66)]) rfl rfl rfl rfl rfl sz41 rfl rfl fun w H=>?_
    obtain ⟨q67, x68, rfl⟩ := H.slform mm2
    refine st_st (i := 0) E H (wn rfl) rfl (us := (l_api_Result u56.2 (.slice q67 u56.2.Names.length x68))) rfl rfl rfl rfl rfl sz51 rfl rfl fun w H=>nx<|sv E rfl rfl rfl (x_ldBN (i := 5) (us := [v37, v39]) E H rfl rfl rfl rfl Tryz.underlying41 rfl sz41) fun a E=>?_
    obtain ⟨q69, x70, rfl⟩ := H.slform (t3 hr52)
    obtain ⟨q71, x72, rfl⟩ := H.slform (t3 hr53)
    refine st_bsO (e := 41) (d := k_api_Store) (cs := [(.slice q69 l38.length x70), (.slice q71 l40.length x72)]) (xs := [(⟨l38, l40⟩ : S_api_Store)]) E H (wn rfl) rfl rfl rfl (E.evs rfl) (by kernel_rfl) rfl rfl (fun ok hr => (Rows.single (d := k_api_Store) (cs := [(.slice q69 l38.length x70), (.slice q71 l40.length x72)]) (x := (⟨l38, l40⟩ : S_api_Store)) (k_api_Store_mk (hr _ (t3 hr52)) (hr _ (t3 hr53))))) fun v73 w a H E=>have H:=H.thaw (i := 0) rfl;bd hm fun u74 hx75 hm=>x_cl E rfl rfl rfl rfl rfl cf47 (c_part_Tree v73 ([(⟨l38, l40⟩ : S_api_Store)] : List S_api_Store) H m0 hx75)<|?_
    rintro _ w ⟨v76, rfl, H⟩ a E
    refine pr 5 E rfl fun a E=>nx<|pr 1 E rfl fun a E=>bd hm fun x77 hx78 hm=>?_
    obtain ⟨p79, x80, hx81⟩ := H.rowformNE (i := 2) rfl hx78
    refine sv E rfl rfl rfl (x_ixRowV (d := k_api_Part) E hx81 rfl rfl rfl rfl Tryz.underlying59 sz62 hx78) fun a E=>pr 1 E rfl fun a E=>sv E rfl rfl rfl (x_ldRowV (d := k_api_Part) (i := 2) (k := 0) E H k_api_Part_flat hx81 rfl rfl rfl hx78 rfl Tryz.underlying3 rfl) fun a E=>pr 2 E rfl fun a E=>cs hm (fun hb82 hm=>?_) fun hb82 hm=>?_
    ·refine pk 1 E (kc 53 rfl hb82) rfl fun a E=>bd hm fun x83 hx84 hm=>?_
     obtain ⟨p85, x86, hx87⟩ := H.rowformNE (i := 2) rfl hx84
     refine st_val E (ws' (d := 53) E rfl rfl rfl rfl hb82) rfl rfl (x_ixRowV (d := k_api_Part) E hx87 rfl rfl rfl rfl Tryz.underlying59 sz62 hx84) fun a E=>pk 1 E (kc 53 rfl hb82) rfl fun a E=>st_val E (ws' (d := 53) E rfl rfl rfl rfl hb82) rfl rfl (x_ldRowV (d := k_api_Part) (i := 2) (k := 1) E H k_api_Part_flat hx87 rfl rfl rfl hx84 rfl Tryz.underlying9 rfl) fun a E=>pk 3 E (kc 53 rfl hb82) rfl fun a E=>cs hm (fun hb88 hm=>?_) fun hb88 hm=>?_
     ·refine pk 1 E (kc 60 rfl hb88) rfl fun a E=>bd hm fun x89 hx90 hm=>?_
      obtain ⟨p91, x92, hx93⟩ := H.rowformNE (i := 2) rfl hx90
      refine st_val E (ws' (d := 60) E rfl rfl rfl rfl hb88) rfl rfl (x_ixRowV (d := k_api_Part) E hx93 rfl rfl rfl rfl Tryz.underlying59 sz62 hx90) fun a E=>pk 1 E (kc 60 rfl hb88) rfl fun a E=>st_val E (ws' (d := 60) E rfl rfl rfl rfl hb88) rfl rfl (x_ldRowV (d := k_api_Part) (i := 2) (k := 2) E H k_api_Part_flat hx93 rfl rfl rfl hx90 rfl Tryz.underlying9 rfl) fun a E=>pk 3 E (kc 60 rfl hb88) rfl fun a E=>cs hm (fun hb94 hm=>?_) fun hb94 hm=>?_
      ·refine pk 1 E (kc 67 rfl hb94) rfl fun a E=>bd hm fun x95 hx96 hm=>?_
       obtain ⟨p97, x98, hx99⟩ := H.rowformNE (i := 2) rfl hx96
       refine st_val E (ws' (d := 67) E rfl rfl rfl rfl hb94) rfl rfl (x_ixRowV (d := k_api_Part) E hx99 rfl rfl rfl rfl Tryz.underlying59 sz62 hx96) fun a E=>pk 1 E (kc 67 rfl hb94) rfl fun a E=>st_val E (ws' (d := 67) E rfl rfl rfl rfl hb94) rfl rfl (x_ldRowV (d := k_api_Part) (i := 2) (k := 1) E H k_api_Part_flat hx99 rfl rfl rfl hx96 rfl Tryz.underlying9 rfl) fun a E=>pk 3 E (kc 67 rfl hb94) rfl fun a E=>cs hm (fun hb100 hm=>?_) fun hb100 hm=>?_
       ·refine pk 1 E (kc 74 rfl hb100) rfl fun a E=>st_val E (ws' (d := 74) E rfl rfl rfl rfl hb100) rfl rfl (x_ldB (i := 4) E H rfl rfl rfl rfl Tryz.underlying27 rfl) fun a E=>pk 3 E (kc 74 rfl hb100) rfl fun a E=>cs hm (fun hb101 hm=>?_) fun hb101 hm=>?_
        ·refine pk 1 E (kc 79 rfl hb101) rfl fun a E=>st_val E (ws' (d := 79) E rfl rfl rfl rfl hb101) rfl rfl (x_ldB (i := 6) E H rfl rfl rfl rfl Tryz.underlying9 rfl) fun a E=>pk 3 E (kc 79 rfl hb101) rfl fun a E=>cs hm (fun hb102 hm=>?_) fun hb102 hm=>?_
         ·refine pk 1 E (kc 84 rfl hb102) rfl fun a E=>st_val E (ws' (d := 84) E rfl rfl rfl rfl hb102) rfl rfl (x_ldB (i := 0) E H rfl rfl rfl rfl Tryz.underlying27 rfl) fun a E=>pk 3 E (kc 84 rfl hb102) rfl fun a E=>cs hm (fun hb103 hm=>?_) fun hb103 hm=>?_
          ·refine pk 3 E (kc 89 rfl hb103) rfl fun a E=>cs hm (fun hb104 hm=>?_) fun hb104 hm=>?_
           ·refine pk 1 E (kc 92 rfl hb104) rfl fun a E=>st_val E (ws' (d := 92) E rfl rfl rfl rfl hb104) rfl rfl (x_lenS E H rfl rfl m0 Tryz.underlying22) fun a E=>pk 3 E (kc 92 rfl hb104) rfl fun a E=>cs hm (fun hb105 hm=>?_) fun hb105 hm=>?_
            ·refine pk 1 E (kc 97 rfl hb105) rfl fun a E=>bd hm fun x106 hx107 hm=>st_ixS E H (ws' (d := 97) E rfl rfl rfl rfl hb105) rfl rfl rfl rfl rfl m0 Tryz.underlying22 sz80 hx107 fun q108 a H E=>have H:=H.derive1 m0 (rAt (kI .i64) (q108.add 3) x106.Turn) (fun ok h => k_api_Node_at3 h);pk 1 E (kc 97 rfl hb105) rfl fun a E=>st_val E (ws' (d := 97) E rfl rfl rfl rfl hb105) rfl rfl (x_ldA E H rfl rfl m0 Tryz.underlying2 rfl) fun a E=>pk 3 E (kc 97 rfl hb105) rfl fun a E=>cs hm (fun hb109 hm=>?_) fun hb109 hm=>?_
             ·refine st_val E (ws' (d := 104) E rfl rfl rfl rfl hb109) rfl rfl (x_ldBN (i := 3) (us := [(.slice q11 u6.Nodes.length x12), (.slice q13 u6.Turns.length x14)]) E H rfl rfl rfl rfl Tryz.underlying41 rfl sz41) fun a E=>bd hm fun u110 hx111 hm=>st_call E (ws' (d := 104) E rfl rfl rfl rfl hb109) rfl rfl (x_call E rfl rfl (cf44 _)) (c_part_Right u6 (.slice q11 u6.Nodes.length x12) (.slice q13 u6.Turns.length x14) H (t7 hr49) (t7 hr50) hx111)<|?_
              rintro _ w ⟨rfl, H⟩ a E
              refine pk 2 E (kc 104 rfl hb109) rfl fun a E=>cs hm (fun hb112 hm=>?_) fun hb112 hm=>?_
              ·refine pk 1 E (kc 108 rfl hb112) rfl fun a E=>bd hm fun x113 hx114 hm=>?_
               obtain ⟨p115, x116, hx117⟩ := H.rowformNE (i := 2) rfl hx114
               refine st_val E (ws' (d := 108) E rfl rfl rfl rfl hb112) rfl rfl (x_ixRowV (d := k_api_Part) E hx117 rfl rfl rfl rfl Tryz.underlying59 sz62 hx114) fun a E=>st_val E (ws' (d := 108) E rfl rfl rfl rfl hb112) rfl rfl (x_ldRowNV (i := 2) E H k_api_Part_flat hx117 rfl rfl rfl hx114 (us := [.int .i64 x113.Kind, .string x113.Dir, .string x113.Path, .string x113.Data, .int .i64 x113.Version, .int .i64 x113.Owner, .bool x113.Turns]) rfl Tryz.underlying62 rfl sz62) fun a E=>bd hm fun u118 hx119 hm=>st_call E (ws' (d := 108) E rfl rfl rfl rfl hb112) rfl rfl (x_call E rfl rfl (cf38 _)) (c_part_May x113 H hx119)<|?_
               rintro _ w ⟨rfl, H⟩ a E
               refine pk 2 E (kc 108 rfl hb112) rfl fun a E=>nt<|wp_ret<|out1 E rfl rfl<|have H:=H.drop 0;have H:=H.drop 0;have H:=H.drop 0;have H:=H.drop 0;have H:=H.drop 0;?_
               refine have H:=H.drop 0;have H:=H.drop 0;?_
               cases hm
               exact ⟨rfl, H.reads (fun r hr => (t7 (hs48 r hr)))⟩
              ·refine pk 6 E (kc 108 rfl hb112) rfl fun a E=>nt<|wp_ret<|out1 E rfl rfl<|have H:=H.drop 0;have H:=H.drop 0;have H:=H.drop 0;have H:=H.drop 0;have H:=H.drop 0;?_
               refine have H:=H.drop 0;have H:=H.drop 0;?_
               cases hm
               exact ⟨rfl, H.reads (fun r hr => (t7 (hs48 r hr)))⟩
             ·refine pk 10 E (kc 104 rfl hb109) rfl fun a E=>nt<|wp_ret<|out1 E rfl rfl<|have H:=H.drop 0;have H:=H.drop 0;have H:=H.drop 0;have H:=H.drop 0;have H:=H.drop 0;?_
              refine have H:=H.drop 0;have H:=H.drop 0;?_
              cases hm
              exact ⟨rfl, H.reads (fun r hr => (t7 (hs48 r hr)))⟩
            ·refine pk 17 E (kc 97 rfl hb105) rfl fun a E=>nt<|wp_ret<|out1 E rfl rfl<|have H:=H.drop 0;have H:=H.drop 0;have H:=H.drop 0;have H:=H.drop 0;have H:=H.drop 0;?_
             refine have H:=H.drop 0;have H:=H.drop 0;?_
             cases hm
             exact ⟨rfl, H.reads (fun r hr => (t5 (hs48 r hr)))⟩
           ·refine pk 22 E (kc 92 rfl hb104) rfl fun a E=>nt<|wp_ret<|out1 E rfl rfl<|have H:=H.drop 0;have H:=H.drop 0;have H:=H.drop 0;have H:=H.drop 0;have H:=H.drop 0;?_
            refine have H:=H.drop 0;have H:=H.drop 0;?_
            cases hm
            exact ⟨rfl, H.reads (fun r hr => (t5 (hs48 r hr)))⟩
          ·refine pk 25 E (kc 89 rfl hb103) rfl fun a E=>nt<|wp_ret<|out1 E rfl rfl<|have H:=H.drop 0;have H:=H.drop 0;have H:=H.drop 0;have H:=H.drop 0;have H:=H.drop 0;?_
           refine have H:=H.drop 0;have H:=H.drop 0;?_
           cases hm
           exact ⟨rfl, H.reads (fun r hr => (t5 (hs48 r hr)))⟩
         ·refine pk 30 E (kc 84 rfl hb102) rfl fun a E=>nt<|wp_ret<|out1 E rfl rfl<|have H:=H.drop 0;have H:=H.drop 0;have H:=H.drop 0;have H:=H.drop 0;have H:=H.drop 0;?_
          refine have H:=H.drop 0;have H:=H.drop 0;?_
          cases hm
          exact ⟨rfl, H.reads (fun r hr => (t5 (hs48 r hr)))⟩
        ·refine pk 35 E (kc 79 rfl hb101) rfl fun a E=>nt<|wp_ret<|out1 E rfl rfl<|have H:=H.drop 0;have H:=H.drop 0;have H:=H.drop 0;have H:=H.drop 0;have H:=H.drop 0;?_
         refine have H:=H.drop 0;have H:=H.drop 0;?_
         cases hm
         exact ⟨rfl, H.reads (fun r hr => (t5 (hs48 r hr)))⟩
       ·refine pk 40 E (kc 74 rfl hb100) rfl fun a E=>nt<|wp_ret<|out1 E rfl rfl<|have H:=H.drop 0;have H:=H.drop 0;have H:=H.drop 0;have H:=H.drop 0;have H:=H.drop 0;?_
        refine have H:=H.drop 0;have H:=H.drop 0;?_
        cases hm
        exact ⟨rfl, H.reads (fun r hr => (t5 (hs48 r hr)))⟩
      ·refine pk 47 E (kc 67 rfl hb94) rfl fun a E=>nt<|wp_ret<|out1 E rfl rfl<|have H:=H.drop 0;have H:=H.drop 0;have H:=H.drop 0;have H:=H.drop 0;have H:=H.drop 0;?_
       refine have H:=H.drop 0;have H:=H.drop 0;?_
       cases hm
       exact ⟨rfl, H.reads (fun r hr => (t5 (hs48 r hr)))⟩
     ·refine pk 54 E (kc 60 rfl hb88) rfl fun a E=>nt<|wp_ret<|out1 E rfl rfl<|have H:=H.drop 0;have H:=H.drop 0;have H:=H.drop 0;have H:=H.drop 0;have H:=H.drop 0;?_
      refine have H:=H.drop 0;have H:=H.drop 0;?_
      cases hm
      exact ⟨rfl, H.reads (fun r hr => (t5 (hs48 r hr)))⟩
    ·refine pk 61 E (kc 53 rfl hb82) rfl fun a E=>nt<|wp_ret<|out1 E rfl rfl<|have H:=H.drop 0;have H:=H.drop 0;have H:=H.drop 0;have H:=H.drop 0;have H:=H.drop 0;?_
     refine have H:=H.drop 0;have H:=H.drop 0;?_
     cases hm
     exact ⟨rfl, H.reads (fun r hr => (t5 (hs48 r hr)))⟩

def m_cantonref07_Keep_j1 (rec_1 : Int → (List S_api_Node) → (List S_api_Turn) → Option S_api_Store) (l8 : (List S_api_Node)) (x14 : S_api_Node) (x6 : Int) (l19 : (List S_api_Turn)) : Option S_api_Store :=
  (ck (l8.length + ([(⟨x14.Path, x14.Data, x14.Version, 0, x14.Owner⟩ : S_api_Node)] : List S_api_Node).length ≤ LIM)).bind fun u25 => rec_1 (IntKind.i64.wrap (x6 + 1)) (l8 ++ ([(⟨x14.Path, x14.Data, x14.Version, 0, x14.Owner⟩ : S_api_Node)] : List S_api_Node)) l19
def m_cantonref07_Keep_l1 (l2 : List S_api_Node) : Nat → Int → (List S_api_Node) → (List S_api_Turn) → Option S_api_Store
  | 0, _, _, _ => none
  | k1 + 1, x6, l8, l10 =>
    if (decide (x6 < (l2.length : Int))) = true then ((idx l2 x6).bind fun x14 => if (x14.Turn != 0) = true then ((ck (l10.length + ([(⟨x14.Path, x14.Turn⟩ : S_api_Turn)] : List S_api_Turn).length ≤ LIM)).bind fun u31 => m_cantonref07_Keep_j1 (m_cantonref07_Keep_l1 l2 k1) l8 x14 x6 (l10 ++ ([(⟨x14.Path, x14.Turn⟩ : S_api_Turn)] : List S_api_Turn))) else (m_cantonref07_Keep_j1 (m_cantonref07_Keep_l1 l2 k1) l8 x14 x6 l10)) else (some ((⟨l8, l10⟩ : S_api_Store)))
def m_cantonref07_Keep (l2 : List S_api_Node) : Option S_api_Store :=
  m_cantonref07_Keep_l1 l2 (((l2.length : Int) - 0 : Int).toNat + 1) 0 [] []
theorem c_cantonref07_Keep {w : World} {Fo : List Ob} {rs : List Rp} (v1 : Value) (l2 : List S_api_Node) (H : Sep w (Fo) rs) (hr3 : rSl k_api_Node v1 l2 ∈ rs) {r : S_api_Store} (hm : m_cantonref07_Keep l2 = some r) :
    Calls Tryz.prog 51 [v1].toArray w (Ret fun v w' => ∃ (v5002 : Value) (v5003 : Value), .agg #[v5002, v5003] = v ∧ Sep w' (Fo) (rSl k_api_Node v5002 r.Nodes :: rSl k_api_Turn v5003 r.Turns :: rs)) := by
 unfold m_cantonref07_Keep at hm
 refine enter Tryz.func51 rfl Tryz.ntmps51 rfl fun a E =>?_
 simp only [enum, Nat.reduceAdd] at E
 refine sq<|al E H rfl rfl rfl rfl zr41 fun p4 w a H E=>nx<|al E H rfl rfl rfl rfl zr41 fun p5 w a H E=>nt<|wp_seq<|sq<|pr 1 E rfl fun a E=>nt<|?_
 refine wp_block<|wp_loop_g (fun k1 a w => ∃ (v7 : Value) (v9 : Value) (x6 : Int) (l8 : (List S_api_Node)) (l10 : (List S_api_Turn)) (rs11 : List Rp), Env 37 a [(0, v1), (2, pt p4 0), (3, pt p5 0), (4, .int .i64 x6)] ∧ Sep w (Blk p4 41 [.slice none 0 0, .slice none 0 0] :: Blk p5 41 [v7, v9] :: Row 80 k_api_Node v7 l8 :: Row 83 k_api_Turn v9 l10 :: Fo) rs11 ∧ (∀ r, r ∈ rs → r ∈ rs11) ∧ rSl k_api_Node v1 l2 ∈ rs11 ∧ m_cantonref07_Keep_l1 l2 k1 x6 l8 l10 = some r) (((l2.length : Int) - 0 : Int).toNat + 1) ?_ ?_
 ·exact have H:=H.nilRow 80 k_api_Node;have H:=H.nilRow 83 k_api_Turn;have H:=H.front 0 rfl;have H:=H.front 1 rfl;have H:=H.front 2 rfl;have H:=H.front 3 rfl;⟨(.slice none 0 0), (.slice none 0 0), 0, [], [], _, E.sel [0, 2, 3, 4] rfl, H, fun r hr => hr, hr3, hm⟩
 ·clear E H hm
  rintro k1 a w ⟨v7, v9, x6, l8, l10, rs11, E, H, hs12, hr13, hm⟩
  cases k1 with
  | zero => exact (none_some hm rfl).elim
  | succ k1 =>
   unfold m_cantonref07_Keep_l1 at hm
   refine wp_seq<|sq<|pr 2 E rfl fun a E=>sv E rfl rfl rfl (x_lenS E H rfl rfl hr13 Tryz.underlying22) fun a E=>pr 1 E rfl fun a E=>nt<|wif E hm rfl (fun hm=>?_) fun hm=>?_
   ·refine wp_skip<|q_then<|wp_seq<|wp_block<|sq<|pr 2 E rfl fun a E=>bd hm fun x14 hx15 hm=>st_ixS E H (wn rfl) rfl rfl rfl rfl rfl hr13 Tryz.underlying22 sz80 hx15 fun q16 a H E=>ldf k_api_Node_flat E H rfl rfl rfl rfl rfl m0 Tryz.underlying80 rfl sz80 fun a E=>?_
    refine al E H rfl rfl rfl rfl zr80 fun p17 w a H E=>st_st (i := 0) E H (wn rfl) rfl (us := (l_api_Node x14)) rfl rfl rfl rfl rfl sz80 rfl rfl fun w H=>nt<|wp_seq_cut (fun a w => ∃ (v18 : Value) (l19 : (List S_api_Turn)) (rs20 : List Rp), Env 37 a [(0, v1), (2, pt p4 0), (3, pt p5 0), (4, .int .i64 x6), (5, pt p17 0)] ∧ Sep w (Blk p4 41 [.slice none 0 0, .slice none 0 0] :: Blk p5 41 [v7, v18] :: Blk p17 80 (l_api_Node x14) :: Row 80 k_api_Node v7 l8 :: Row 83 k_api_Turn v18 l19 :: Fo) rs20 ∧ (∀ r, r ∈ rs → r ∈ rs20) ∧ rSl k_api_Node v1 l2 ∈ rs20 ∧ m_cantonref07_Keep_j1 (m_cantonref07_Keep_l1 l2 k1) l8 x14 x6 l19 = some r) ?_ ?_
    ·refine sq<|pr 1 E rfl fun a E=>lb E H 0 rfl rfl rfl rfl rfl rfl rfl Tryz.underlying2 rfl fun a E=>pr 1 E rfl fun a E=>nt<|wif E hm rfl (fun hm=>?_) fun hm=>?_
     ·refine wp_region_lit<|pr 1 E rfl fun a E=>lb E H 2 rfl rfl rfl rfl rfl rfl rfl Tryz.underlying39 rfl fun a E=>pr 1 E rfl fun a E=>lb E H 0 rfl rfl rfl rfl rfl rfl rfl Tryz.underlying9 rfl fun a E=>pr 1 E rfl fun a E=>lb E H 0 rfl rfl rfl rfl rfl rfl rfl Tryz.underlying2 rfl fun a E=>sv E rfl rfl rfl (x_build E rfl (E.evs rfl) (v := .agg #[.string x14.Path, .int .i64 x14.Turn]) (by kernel_rfl)) fun a E=>st_bsR (e := 83) (d := k_api_Turn) (cs := [.string x14.Path, .int .i64 x14.Turn]) (xs := [(⟨x14.Path, x14.Turn⟩ : S_api_Turn)]) E H (wn rfl) rfl rfl rfl (E.evs rfl) (by kernel_rfl) rfl (fun ok hr => (Rows.single (d := k_api_Turn) (cs := [.string x14.Path, .int .i64 x14.Turn]) (x := (⟨x14.Path, x14.Turn⟩ : S_api_Turn)) k_api_Turn_mk)) fun v29 w a H E=>?_
      refine bk hm fun hx32 hm=>st_append (i := 4) E H (wn rfl) rfl rfl rfl rfl rfl rfl (src_rd m0) Tryz.underlying39 inf83 rfl hx32 rfl fun v30 w a H E=>pr 1 E rfl fun a E=>?_
      obtain ⟨q33, x34, rfl⟩ := H.rowform (i := 4) rfl
      exact st_st (i := 2) E H (wn rfl) rfl (us := [(.slice q33 (l10 ++ ([(⟨x14.Path, x14.Turn⟩ : S_api_Turn)] : List S_api_Turn)).length x34)]) rfl rfl rfl rfl rfl sz39 rfl rfl fun w H=>nt<|have H:=H.front 4 rfl;have H:=H.front 4 rfl;have H:=H.front 2 rfl;have H:=H.front 4 rfl;have H:=H.front 4 rfl;⟨(.slice q33 (l10 ++ ([(⟨x14.Path, x14.Turn⟩ : S_api_Turn)] : List S_api_Turn)).length x34), l10 ++ ([(⟨x14.Path, x14.Turn⟩ : S_api_Turn)] : List S_api_Turn), _, E.sel [0, 2, 3, 4, 5] rfl, H, fun r hr => (t2 (hs12 r hr)), (t2 hr13), hm⟩
     ·exact wp_skip<|q_then<|have H:=H.front 4 rfl;have H:=H.front 4 rfl;have H:=H.front 2 rfl;have H:=H.front 4 rfl;have H:=H.front 4 rfl;⟨v9, l10, _, E.sel [0, 2, 3, 4, 5] rfl, H, fun r hr => (t1 (hs12 r hr)), (t1 hr13), hm⟩
    ·clear E H hm
     rintro a w ⟨v18, l19, rs20, E, H, hs21, hr22, hm⟩
     unfold m_cantonref07_Keep_j1 at hm
     refine sq<|pr 1 E rfl fun a E=>st_st (i := 2) E H (wn rfl) rfl (us := [.int .i64 0]) rfl rfl rfl rfl rfl sz2 rfl rfl fun w H=>nt<|wp_region_lit<|pr 1 E rfl fun a E=>lb E H 1 rfl rfl rfl rfl rfl rfl rfl Tryz.underlying22 rfl fun a E=>sv E rfl rfl rfl (x_ldBN (i := 2) (us := [.string x14.Path, .string x14.Data, .int .i64 x14.Version, .int .i64 0, .int .i64 x14.Owner]) E H rfl rfl rfl rfl Tryz.underlying80 rfl sz80) fun a E=>st_bsR (e := 80) (d := k_api_Node) (cs := [.string x14.Path, .string x14.Data, .int .i64 x14.Version, .int .i64 0, .int .i64 x14.Owner]) (xs := [(⟨x14.Path, x14.Data, x14.Version, 0, x14.Owner⟩ : S_api_Node)]) E H (wn rfl) rfl rfl rfl (E.evs rfl) (by kernel_rfl) rfl (fun ok hr => (Rows.single (d := k_api_Node) (cs := [.string x14.Path, .string x14.Data, .int .i64 x14.Version, .int .i64 0, .int .i64 x14.Owner]) (x := (⟨x14.Path, x14.Data, x14.Version, 0, x14.Owner⟩ : S_api_Node)) k_api_Node_mk)) fun v23 w a H E=>?_
     refine bk hm fun hx26 hm=>st_append (i := 3) E H (wn rfl) rfl rfl rfl rfl rfl rfl (src_rd m0) Tryz.underlying22 inf80 rfl hx26 rfl fun v24 w a H E=>pr 1 E rfl fun a E=>?_
     obtain ⟨q27, x28, rfl⟩ := H.rowform (i := 3) rfl
     exact st_st (i := 1) E H (wn rfl) rfl (us := [(.slice q27 (l8 ++ ([(⟨x14.Path, x14.Data, x14.Version, 0, x14.Owner⟩ : S_api_Node)] : List S_api_Node)).length x28)]) rfl rfl rfl rfl rfl sz22 rfl rfl fun w H=>wpList_nil<|q_blk<|q_then<|wp_region_lit<|pr 3 E rfl fun a E=>nt<|have H:=H.drop 2;⟨k1, Nat.lt_succ_self k1, (.slice q27 (l8 ++ ([(⟨x14.Path, x14.Data, x14.Version, 0, x14.Owner⟩ : S_api_Node)] : List S_api_Node)).length x28), v18, IntKind.i64.wrap (x6 + 1), l8 ++ ([(⟨x14.Path, x14.Data, x14.Version, 0, x14.Owner⟩ : S_api_Node)] : List S_api_Node), l19, _, E.sel [0, 2, 3, 4] rfl, H, fun r hr => (t1 (hs21 r hr)), (t1 hr22), hm⟩
   ·refine wp_exit<|q_thenX<|q_thenX<|q_hit<|q_then<|sq<|sv E rfl rfl rfl (x_ldBN (i := 1) (us := [v7, v9]) E H rfl rfl rfl rfl Tryz.underlying41 rfl sz41) fun a E=>?_
    obtain ⟨q35, x36, rfl⟩ := H.rowform (i := 2) rfl
    obtain ⟨q37, x38, rfl⟩ := H.rowform (i := 3) rfl
    refine st_st (i := 0) E H (wn rfl) rfl (us := [(.slice q35 l8.length x36), (.slice q37 l10.length x38)]) rfl rfl rfl rfl rfl sz41 rfl rfl fun w H=>nt<|wp_ret<|outR1 E rfl (rvBN (i := 0) (us := [(.slice q35 l8.length x36), (.slice q37 l10.length x38)]) H rfl rfl rfl Tryz.underlying41 rfl sz41)<|have H:=H.thaw (i := 2) rfl;have H:=H.thaw (i := 2) rfl;have H:=H.drop 0;have H:=H.drop 0;?_
    cases hm
    exact ⟨(.slice q35 l8.length x36), (.slice q37 l10.length x38), rfl, H.reads (sub_cons mm1 (sub_cons m0 (fun r hr => (t2 (hs12 r hr)))))⟩

def m_cantonref07_SameParts_l1 (l2 : List S_api_Part) (l4 : List S_api_Part) : Nat → Int → Option Bool
  | 0, _ => none
  | k1 + 1, x7 =>
    if (decide (x7 < (l2.length : Int))) = true then ((idx l2 x7).bind fun x14 => (idx l4 x7).bind fun x20 => if (!((x14.Kind == x20.Kind) && ((sEq x14.Dir x20.Dir) && ((sEq x14.Path x20.Path) && ((sEq x14.Data x20.Data) && ((x14.Version == x20.Version) && ((x14.Owner == x20.Owner) && (x14.Turns == x20.Turns)))))))) = true then (some (false)) else (m_cantonref07_SameParts_l1 l2 l4 k1 (IntKind.i64.wrap (x7 + 1)))) else (some (true))
def m_cantonref07_SameParts (l2 : List S_api_Part) (l4 : List S_api_Part) : Option Bool :=
  if ((l2.length : Int) != (l4.length : Int)) = true then (some (false)) else (m_cantonref07_SameParts_l1 l2 l4 (((l2.length : Int) - 0 : Int).toNat + 1) 0)
theorem c_cantonref07_SameParts {w : World} {Fo : List Ob} {rs : List Rp} (v1 : Value) (l2 : List S_api_Part) (v3 : Value) (l4 : List S_api_Part) (H : Sep w (Fo) rs) (hr5 : rSl k_api_Part v1 l2 ∈ rs) (hr6 : rSl k_api_Part v3 l4 ∈ rs) {r : Bool} (hm : m_cantonref07_SameParts l2 l4 = some r) :
    Calls Tryz.prog 49 [v1, v3].toArray w (Ret fun v w' => .bool r = v ∧ Sep w' (Fo) (rs)) := by
 unfold m_cantonref07_SameParts at hm
 refine enter Tryz.func49 rfl Tryz.ntmps49 rfl fun a E =>?_
 simp only [enum, Nat.reduceAdd] at E
 refine sq<|pr 1 E rfl fun a E=>nt<|wp_seq<|sq<|pr 1 E rfl fun a E=>sv E rfl rfl rfl (x_lenS E H rfl rfl hr5 Tryz.underlying59) fun a E=>pr 1 E rfl fun a E=>sv E rfl rfl rfl (x_lenS E H rfl rfl hr6 Tryz.underlying59) fun a E=>?_
 refine pr 1 E rfl fun a E=>nt<|wif E hm rfl (fun hm=>?_) fun hm=>?_
 ·refine sq<|pr 1 E rfl fun a E=>nt<|wp_ret<|q_thenR<|out1 E rfl rfl<|?_
  cases hm
  exact ⟨rfl, H.reads (fun r hr => hr)⟩
 ·refine wp_skip<|q_then<|wp_seq<|sq<|pr 1 E rfl fun a E=>nt<|wp_block<|wp_loop_g (fun k1 a w => ∃ (x7 : Int) (rs8 : List Rp), Env 26 a [(0, v1), (1, v3), (5, .int .i64 x7)] ∧ Sep w (Fo) rs8 ∧ (∀ r, r ∈ rs → r ∈ rs8) ∧ rSl k_api_Part v1 l2 ∈ rs8 ∧ rSl k_api_Part v3 l4 ∈ rs8 ∧ m_cantonref07_SameParts_l1 l2 l4 k1 x7 = some r) (((l2.length : Int) - 0 : Int).toNat + 1) ?_ ?_
  ·exact ⟨0, _, E.sel [0, 1, 5] rfl, H, fun r hr => hr, hr5, hr6, hm⟩
  ·clear E H hm
   rintro k1 a w ⟨x7, rs8, E, H, hs9, hr10, hr11, hm⟩
   cases k1 with
   | zero => exact (none_some hm rfl).elim
   | succ k1 =>
    unfold m_cantonref07_SameParts_l1 at hm
    refine wp_seq<|sq<|pr 2 E rfl fun a E=>sv E rfl rfl rfl (x_lenS E H rfl rfl hr10 Tryz.underlying59) fun a E=>pr 1 E rfl fun a E=>nt<|wif E hm rfl (fun hm=>?_) fun hm=>?_
    ·refine wp_skip<|q_then<|wp_seq<|wp_block<|wp_seq<|?_
     obtain ⟨u12, H⟩ := H.raw hr10
     obtain ⟨u13, H⟩ := H.raw (t1 hr11)
     refine dw [(0, 0), (1, 0), (2, 0), (3, 0), (4, 0), (5, 0), (6, 0), (7, 0), (8, 0)] [] [1, 0] H (by kernel_rfl) (fun _ _ _ h => False.elim h.2) fun w W0 hI H=>fn 2 E rfl fun a E=>bd hm fun x14 hx15 hm=>?_
     obtain ⟨q16, u19, hx17, hx18⟩ := dr_ixW (P := Tryz.prog) (k := .i64) hI (dr_mem (.head _)) Tryz.underlying59 sz62 hx15
     refine fr_val E rfl (wn rfl) rfl rfl (fun w hW=>x_ixA E rfl rfl rfl (hx17 w)) fun a E=>?_
     refine fr_val E rfl (wn rfl) rfl rfl (fun w hW=>x_ld E rfl rfl (ir_ldN (cs := [.int .i64 x14.Kind, .string x14.Dir, .string x14.Path, .string x14.Data, .int .i64 x14.Version, .int .i64 x14.Owner, .bool x14.Turns]) (DR.ir (dr_at hx18)) (fun _ _ _ h => k_api_Part_open h) Tryz.underlying62 rfl sz62 w hW)) fun a E=>?_
     refine fn 2 E rfl fun a E=>bd hm fun x20 hx21 hm=>?_
     obtain ⟨q22, u25, hx23, hx24⟩ := dr_ixW (P := Tryz.prog) (k := .i64) hI (dr_mem (.tail _ (.head _))) Tryz.underlying59 sz62 hx21
     refine fr_val E rfl (wn rfl) rfl rfl (fun w hW=>x_ixA E rfl rfl rfl (hx23 w)) fun a E=>?_
     refine fr_val E rfl (wn rfl) rfl rfl (fun w hW=>x_ld E rfl rfl (ir_ldN (cs := [.int .i64 x20.Kind, .string x20.Dir, .string x20.Path, .string x20.Data, .int .i64 x20.Version, .int .i64 x20.Owner, .bool x20.Turns]) (DR.ir (dr_at hx24)) (fun _ _ _ h => k_api_Part_open h) Tryz.underlying62 rfl sz62 w hW)) fun a E=>?_
     refine fr_val E rfl (wn rfl) rfl rfl (fun w hW=>(x_bin2 E rfl rfl rfl (v := .bool (!((x14.Kind == x20.Kind) && ((sEq x14.Dir x20.Dir) && ((sEq x14.Path x20.Path) && ((sEq x14.Data x20.Data) && ((x14.Version == x20.Version) && ((x14.Owner == x20.Owner) && (x14.Turns == x20.Turns))))))))) (ne_agg egt62 (eq_struct Tryz.underlying62 sih62 (eqf_cons (by rfl) (by kernel_rfl) (by kernel_rfl) (eq_int Tryz.underlying3) (eqf_cons (by rfl) (by kernel_rfl) (by kernel_rfl) (eq_string Tryz.underlying9) (eqf_cons (by rfl) (by kernel_rfl) (by kernel_rfl) (eq_string Tryz.underlying9) (eqf_cons (by rfl) (by kernel_rfl) (by kernel_rfl) (eq_string Tryz.underlying9) (eqf_cons (by rfl) (by kernel_rfl) (by kernel_rfl) (eq_int Tryz.underlying2) (eqf_cons (by rfl) (by kernel_rfl) (by kernel_rfl) (eq_int Tryz.underlying2) (eqf_last (by rfl) (by kernel_rfl) (by kernel_rfl) (eq_bool Tryz.underlying4)))))))))))) fun a E=>?_
     refine fr_nil<|?_
     clear hI
     refine q_then<|wif E hm rfl (fun hm=>?_) fun hm=>?_
     ·refine sq<|pr 1 E rfl fun a E=>nt<|wp_ret<|q_blkR<|q_thenR<|q_thenR<|q_blkR<|q_thenR<|?_
      refine out1 E rfl rfl<|?_
      cases hm
      exact ⟨rfl, H.reads (fun r hr => (t2 (hs9 r hr)))⟩
     ·exact wp_skip<|q_blk<|q_then<|wp_region_lit<|pr 3 E rfl fun a E=>nt<|⟨k1, Nat.lt_succ_self k1, IntKind.i64.wrap (x7 + 1), _, E.sel [0, 1, 5] rfl, H, fun r hr => (t2 (hs9 r hr)), (t2 hr10), (t2 hr11), hm⟩
    ·refine wp_exit<|q_thenX<|q_thenX<|q_hit<|q_then<|sq<|pr 1 E rfl fun a E=>nt<|wp_ret<|?_
     refine out1 E rfl rfl<|?_
     cases hm
     exact ⟨rfl, H.reads (hs9)⟩

def m_cantonref07_Tree_j1 (rec_5 : Int → Int → Int → Option ((List S_api_Node) × Bool)) (x55 : Int) (x65 : Int) (x66 : Int) : Option ((List S_api_Node) × Bool) :=
  rec_5 x65 (IntKind.i64.wrap (x55 + 1)) x66
def m_cantonref07_Tree_l5 (rec_4 : (List S_api_Node) → Int → Int → Int → Option ((List S_api_Node) × Bool)) (l2 : List S_api_Store) (x48 : Int) (x38 : S_api_Node) (l46 : (List S_api_Node)) : Nat → Int → Int → Int → Option ((List S_api_Node) × Bool)
  | 0, _, _, _ => none
  | k5 + 1, x54, x55, x56 =>
    (idx l2 x48).bind fun x61 => if (decide (x55 < (x61.Turns.length : Int))) = true then ((idx l2 x48).bind fun x72 => (idx x72.Turns x55).bind fun x82 => if (sEq x82.Dir x38.Path) = true then (if (x56 != 0) = true then (some (([] : List S_api_Node), false)) else ((idx l2 x48).bind fun x88 => (idx x88.Turns x55).bind fun x92 => m_cantonref07_Tree_j1 (m_cantonref07_Tree_l5 rec_4 l2 x48 x38 l46 k5) x55 (IntKind.i64.wrap (x54 + 1)) x92.Next)) else (m_cantonref07_Tree_j1 (m_cantonref07_Tree_l5 rec_4 l2 x48 x38 l46 k5) x55 x54 x56)) else (rec_4 l46 x54 (IntKind.i64.wrap (x48 + 1)) x56)
def m_cantonref07_Tree_l4 (rec_3 : (List S_api_Node) → Int → Int → Option ((List S_api_Node) × Bool)) (l2 : List S_api_Store) (x38 : S_api_Node) (x26 : Int) : Nat → (List S_api_Node) → Int → Int → Int → Option ((List S_api_Node) × Bool)
  | 0, _, _, _, _ => none
  | k4 + 1, l46, x47, x48, x49 =>
    if (decide (x48 < (l2.length : Int))) = true then (m_cantonref07_Tree_l5 (m_cantonref07_Tree_l4 rec_3 l2 x38 x26 k4) l2 x48 x38 l46 3002 x47 0 x49) else ((m_cantonref06_Put l46 (⟨x38.Path, x38.Data, x38.Version, x49, x38.Owner⟩ : S_api_Node)).bind fun u95 => rec_3 u95 x47 (IntKind.i64.wrap (x26 + 1)))
def m_cantonref07_Tree_l3 (rec_2 : (List S_api_Node) → Int → Int → Option ((List S_api_Node) × Bool)) (l2 : List S_api_Store) (x19 : Int) : Nat → (List S_api_Node) → Int → Int → Option ((List S_api_Node) × Bool)
  | 0, _, _, _ => none
  | k3 + 1, l24, x25, x26 =>
    (idx l2 x19).bind fun x30 => if (decide (x26 < (x30.Nodes.length : Int))) = true then ((idx l2 x19).bind fun x34 => (idx x34.Nodes x26).bind fun x38 => (m_cantonref06_Find l24 x38.Path).bind fun u42 => if u42.2 = true then (some (([] : List S_api_Node), false)) else (m_cantonref07_Tree_l4 (m_cantonref07_Tree_l3 rec_2 l2 x19 k3) l2 x38 x26 (((l2.length : Int) - 0 : Int).toNat + 1) l24 x25 0 0)) else ((idx l2 x19).bind fun x98 => rec_2 l24 (IntKind.i64.wrap (x25 - (x98.Turns.length : Int))) (IntKind.i64.wrap (x19 + 1)))
def m_cantonref07_Tree_j2 (l17 : (List S_api_Node)) (b102 : Bool) : Option ((List S_api_Node) × Bool) :=
  if b102 = true then (some (([] : List S_api_Node), false)) else (some (l17, true))
def m_cantonref07_Tree_l2 (l2 : List S_api_Store) : Nat → (List S_api_Node) → Int → Int → Option ((List S_api_Node) × Bool)
  | 0, _, _, _ => none
  | k2 + 1, l17, x18, x19 =>
    if (decide (x19 < (l2.length : Int))) = true then (m_cantonref07_Tree_l3 (m_cantonref07_Tree_l2 l2 k2) l2 x19 3002 l17 x18 0) else (if (x18 != 0) = true then (m_cantonref07_Tree_j2 l17 true) else ((m_cantonref06_Right l17).bind fun u107 => m_cantonref07_Tree_j2 l17 (!u107)))
def m_cantonref07_Tree_l1 (l2 : List S_api_Store) : Nat → Int → Option ((List S_api_Node) × Bool)
  | 0, _ => none
  | k1 + 1, x4 =>
    if (decide (x4 < (l2.length : Int))) = true then ((idx l2 x4).bind fun x8 => (m_cantonref07_Right x8).bind fun u14 => if (!u14) = true then (some (([] : List S_api_Node), false)) else (m_cantonref07_Tree_l1 l2 k1 (IntKind.i64.wrap (x4 + 1)))) else (m_cantonref07_Tree_l2 l2 (((l2.length : Int) - 0 : Int).toNat + 1) [] 0 0)
def m_cantonref07_Tree (l2 : List S_api_Store) : Option ((List S_api_Node) × Bool) :=
  m_cantonref07_Tree_l1 l2 (((l2.length : Int) - 0 : Int).toNat + 1) 0
theorem c_cantonref07_Tree {w : World} {Fo : List Ob} {rs : List Rp} (v1 : Value) (l2 : List S_api_Store) (H : Sep w (Fo) rs) (hr3 : rSl k_api_Store v1 l2 ∈ rs) {r : (List S_api_Node) × Bool} (hm : m_cantonref07_Tree l2 = some r) :
    Calls Tryz.prog 48 [v1].toArray w (Ret fun v w' => ∃ (v5001 : Value), .tuple #[v5001, .bool r.2] = v ∧ Sep w' (Fo) (rSl k_api_Node v5001 r.1 :: rs)) := by
 unfold m_cantonref07_Tree at hm
 refine enter Tryz.func48 rfl Tryz.ntmps48 rfl fun a E =>?_
 simp only [enum, Nat.reduceAdd] at E
 refine sq<|pr 2 E rfl fun a E=>nx<|pr 1 E rfl fun a E=>nx<|pr 1 E rfl fun a E=>nt<|wp_seq<|sq<|?_
 refine pr 1 E rfl fun a E=>nt<|wp_block<|wp_loop_g (fun k1 a w => ∃ (x4 : Int) (rs5 : List Rp), Env 121 a [(0, v1), (4, .slice none 0 0), (5, .int .i64 0), (6, .int .i64 x4)] ∧ Sep w (Fo) rs5 ∧ (∀ r, r ∈ rs → r ∈ rs5) ∧ rSl k_api_Store v1 l2 ∈ rs5 ∧ m_cantonref07_Tree_l1 l2 k1 x4 = some r) (((l2.length : Int) - 0 : Int).toNat + 1) ?_ ?_
 ·exact ⟨0, _, E.sel [0, 4, 5, 6] rfl, H, fun r hr => hr, hr3, hm⟩
 ·clear E H hm
  rintro k1 a w ⟨x4, rs5, E, H, hs6, hr7, hm⟩
  cases k1 with
  | zero => exact (none_some hm rfl).elim
  | succ k1 =>
   unfold m_cantonref07_Tree_l1 at hm
   refine wp_seq<|sq<|pr 2 E rfl fun a E=>sv E rfl rfl rfl (x_lenS E H rfl rfl hr7 Tryz.underlying72) fun a E=>pr 1 E rfl fun a E=>nt<|wif E hm rfl (fun hm=>?_) fun hm=>?_
   ·refine wp_skip<|q_then<|wp_seq<|wp_block<|sq<|pr 2 E rfl fun a E=>bd hm fun x8 hx9 hm=>st_ixS E H (wn rfl) rfl rfl rfl rfl rfl hr7 Tryz.underlying72 sz41 hx9 fun q10 a H E=>st_ldN E H (wn rfl) rfl rfl rfl rfl m0 Tryz.underlying41 rfl sz41 fun u11 a H E=>?_
    obtain ⟨_, hcs⟩ := H.rd (.head _)
    obtain ⟨v12, v13, rfl, -, -⟩ := k_api_Store_open hcs
    clear hcs
    refine have H:=H.derive1 m0 (rSl k_api_Node v12 x8.Nodes) (fun ok h => k_api_Store_get1 h);have H:=H.derive1 mm1 (rSl k_api_Turn v13 x8.Turns) (fun ok h => k_api_Store_get2 h);bd hm fun u14 hx15 hm=>x_cl E rfl rfl rfl rfl rfl cf45 (c_cantonref07_Right x8 v12 v13 H mm1 m0 hx15)<|?_
    rintro _ w ⟨rfl, H⟩ a E
    refine pr 1 E rfl fun a E=>nt<|wif E hm rfl (fun hm=>?_) fun hm=>?_
    ·refine sq<|pr 2 E rfl fun a E=>nt<|wp_ret<|q_blkR<|q_thenR<|q_thenR<|q_blkR<|q_thenR<|?_
     refine out2 E rfl rfl rfl<|have H:=H.nilSl k_api_Node;?_
     cases hm
     exact ⟨(.slice none 0 0), rfl, H.reads (sub_cons m0 (fun r hr => (t5 (hs6 r hr))))⟩
    ·exact wp_skip<|q_blk<|q_then<|wp_region_lit<|pr 3 E rfl fun a E=>nt<|⟨k1, Nat.lt_succ_self k1, IntKind.i64.wrap (x4 + 1), _, E.sel [0, 4, 5, 6] rfl, H, fun r hr => (t4 (hs6 r hr)), (t4 hr7), hm⟩
   ·refine wp_exit<|q_thenX<|q_thenX<|q_hit<|q_then<|wp_seq<|sq<|pr 1 E rfl fun a E=>nt<|?_
    refine wp_block<|wp_loop_g (fun k2 a w => ∃ (v16 : Value) (l17 : (List S_api_Node)) (x18 : Int) (x19 : Int) (rs20 : List Rp), Env 121 a [(0, v1), (4, v16), (5, .int .i64 x18), (7, .int .i64 x19)] ∧ Sep w (Row 80 k_api_Node v16 l17 :: Fo) rs20 ∧ (∀ r, r ∈ rs → r ∈ rs20) ∧ rSl k_api_Store v1 l2 ∈ rs20 ∧ m_cantonref07_Tree_l2 l2 k2 l17 x18 x19 = some r) (((l2.length : Int) - 0 : Int).toNat + 1) ?_ ?_
    ·exact have H:=H.nilRow 80 k_api_Node;⟨(.slice none 0 0), [], 0, 0, _, E.sel [0, 4, 5, 7] rfl, H, hs6, hr7, hm⟩
    ·clear E H hm
     rintro k2 a w ⟨v16, l17, x18, x19, rs20, E, H, hs21, hr22, hm⟩
     cases k2 with
     | zero => exact (none_some hm rfl).elim
     | succ k2 =>
      unfold m_cantonref07_Tree_l2 at hm
      refine wp_seq<|sq<|pr 2 E rfl fun a E=>sv E rfl rfl rfl (x_lenS E H rfl rfl hr22 Tryz.underlying72) fun a E=>pr 1 E rfl fun a E=>nt<|wif E hm rfl (fun hm=>?_) fun hm=>?_
      ·refine wp_skip<|q_then<|wp_seq<|wp_block<|wp_seq<|sq<|pr 1 E rfl fun a E=>nt<|wp_block<|wp_loop_g (fun k3 a w => ∃ (v23 : Value) (l24 : (List S_api_Node)) (x25 : Int) (x26 : Int) (rs27 : List Rp), Env 121 a [(0, v1), (4, v23), (5, .int .i64 x25), (7, .int .i64 x19), (8, .int .i64 x26)] ∧ Sep w (Row 80 k_api_Node v23 l24 :: Fo) rs27 ∧ (∀ r, r ∈ rs → r ∈ rs27) ∧ rSl k_api_Store v1 l2 ∈ rs27 ∧ m_cantonref07_Tree_l3 (m_cantonref07_Tree_l2 l2 k2) l2 x19 k3 l24 x25 x26 = some r) (3002) ?_ ?_
       ·exact ⟨v16, l17, x18, 0, _, E.sel [0, 4, 5, 7, 8] rfl, H, hs21, hr22, hm⟩
       ·clear E H hm
        rintro k3 a w ⟨v23, l24, x25, x26, rs27, E, H, hs28, hr29, hm⟩
        cases k3 with
        | zero => exact (none_some hm rfl).elim
        | succ k3 =>
         unfold m_cantonref07_Tree_l3 at hm
         refine wp_seq<|sq<|pr 3 E rfl fun a E=>bd hm fun x30 hx31 hm=>st_ixS E H (wn rfl) rfl rfl rfl rfl rfl hr29 Tryz.underlying72 sz41 hx31 fun q32 a H E=>have H:=H.derive1 m0 (rAt (kL k_api_Node) (q32.add 0) x30.Nodes) (fun ok h => k_api_Store_at0 h);pr 1 E rfl fun a E=>st_ldL E H (wn rfl) rfl rfl rfl rfl m0 Tryz.underlying22 rfl fun v33 a H E=>sv E rfl rfl rfl (x_lenS E H rfl rfl m0 Tryz.underlying22) fun a E=>?_
         refine pr 1 E rfl fun a E=>nt<|wif E hm rfl (fun hm=>?_) fun hm=>?_
         ·refine wp_skip<|q_then<|wp_seq<|wp_block<|sq<|pr 2 E rfl fun a E=>bd hm fun x34 hx35 hm=>st_ixS E H (wn rfl) rfl rfl rfl rfl rfl (t3 hr29) Tryz.underlying72 sz41 hx35 fun q36 a H E=>have H:=H.derive1 m0 (rAt (kL k_api_Node) (q36.add 0) x34.Nodes) (fun ok h => k_api_Store_at0 h);?_
          refine pr 1 E rfl fun a E=>st_ldL E H (wn rfl) rfl rfl rfl rfl m0 Tryz.underlying22 rfl fun v37 a H E=>pr 1 E rfl fun a E=>bd hm fun x38 hx39 hm=>st_ixS E H (wn rfl) rfl rfl rfl rfl rfl m0 Tryz.underlying22 sz80 hx39 fun q40 a H E=>ldf k_api_Node_flat E H rfl rfl rfl rfl rfl m0 Tryz.underlying80 rfl sz80 fun a E=>al E H rfl rfl rfl rfl zr80 fun p41 w a H E=>st_st (i := 0) E H (wn rfl) rfl (us := (l_api_Node x38)) rfl rfl rfl rfl rfl sz80 rfl rfl fun w H=>nx<|?_
          refine pr 2 E rfl fun a E=>lb E H 0 rfl rfl rfl rfl rfl rfl rfl Tryz.underlying9 rfl fun a E=>have H:=H.thaw (i := 1) rfl;bd hm fun u42 hx43 hm=>x_cl E rfl rfl rfl rfl rfl cf70 (c_cantonref06_Find v23 l24 x38.Path H m0 hx43)<|?_
          rintro _ w ⟨rfl, H⟩ a E
          refine pr 3 E rfl fun a E=>al E H rfl rfl rfl rfl zr80 fun p44 w a H E=>st_st (i := 0) E H (wn rfl) rfl (us := (l_api_Node u42.1)) rfl rfl rfl rfl rfl sz80 rfl rfl fun w H=>pr 1 E rfl fun a E=>nt<|wp_seq<|sq<|pr 1 E rfl fun a E=>nt<|wif E hm rfl (fun hm=>?_) fun hm=>?_
          ·refine sq<|pr 2 E rfl fun a E=>nt<|wp_ret<|q_thenR<|q_blkR<|q_thenR<|q_thenR<|q_blkR<|?_
           refine q_thenR<|q_blkR<|q_thenR<|q_thenR<|q_blkR<|q_thenR<|out2 E rfl rfl rfl<|have H:=H.nilSl k_api_Node;have H:=H.drop 0;?_
           refine have H:=H.drop 0;?_
           cases hm
           exact ⟨(.slice none 0 0), rfl, H.reads (sub_cons m0 (fun r hr => (t1 (t8 (hs28 r hr)))))⟩
          ·refine wp_skip<|q_then<|sq<|pr 1 E rfl fun a E=>st_st (i := 1) E H (wn rfl) rfl (us := [.int .i64 0]) rfl rfl rfl rfl rfl sz2 rfl rfl fun w H=>nt<|wp_seq<|sq<|pr 1 E rfl fun a E=>?_
           refine nt<|wp_block<|wp_loop_g (fun k4 a w => ∃ (v45 : Value) (l46 : (List S_api_Node)) (x47 : Int) (x48 : Int) (x49 : Int) (rs50 : List Rp), Env 121 a [(0, v1), (4, v45), (5, .int .i64 x47), (7, .int .i64 x19), (8, .int .i64 x26), (9, pt p41 0), (12, .int .i64 x48)] ∧ Sep w (Blk p41 80 [.string x38.Path, .string x38.Data, .int .i64 x38.Version, .int .i64 x49, .int .i64 x38.Owner] :: Fo) rs50 ∧ (∀ r, r ∈ rs → r ∈ rs50) ∧ rSl k_api_Store v1 l2 ∈ rs50 ∧ rSl k_api_Node v45 l46 ∈ rs50 ∧ m_cantonref07_Tree_l4 (m_cantonref07_Tree_l3 (m_cantonref07_Tree_l2 l2 k2) l2 x19 k3) l2 x38 x26 k4 l46 x47 x48 x49 = some r) (((l2.length : Int) - 0 : Int).toNat + 1) ?_ ?_
           ·exact have H:=H.drop 0;⟨v23, l24, x25, 0, 0, _, E.sel [0, 4, 5, 7, 8, 9, 12] rfl, H, fun r hr => (t8 (hs28 r hr)), (t8 hr29), m0, hm⟩
           ·clear E H hm
            rintro k4 a w ⟨v45, l46, x47, x48, x49, rs50, E, H, hs51, hr52, hr53, hm⟩
            cases k4 with
            | zero => exact (none_some hm rfl).elim
            | succ k4 =>
             unfold m_cantonref07_Tree_l4 at hm
             refine wp_seq<|sq<|pr 2 E rfl fun a E=>sv E rfl rfl rfl (x_lenS E H rfl rfl hr52 Tryz.underlying72) fun a E=>pr 1 E rfl fun a E=>nt<|wif E hm rfl (fun hm=>?_) fun hm=>?_
             ·refine wp_skip<|q_then<|wp_seq<|wp_block<|sq<|pr 1 E rfl fun a E=>nt<|wp_block<|wp_loop_g (fun k5 a w => ∃ (x54 : Int) (x55 : Int) (x56 : Int) (rs57 : List Rp), Env 121 a [(0, v1), (4, v45), (5, .int .i64 x54), (7, .int .i64 x19), (8, .int .i64 x26), (9, pt p41 0), (12, .int .i64 x48), (13, .int .i64 x55)] ∧ Sep w (Blk p41 80 [.string x38.Path, .string x38.Data, .int .i64 x38.Version, .int .i64 x56, .int .i64 x38.Owner] :: Fo) rs57 ∧ (∀ r, r ∈ rs → r ∈ rs57) ∧ rSl k_api_Store v1 l2 ∈ rs57 ∧ rSl k_api_Node v45 l46 ∈ rs57 ∧ m_cantonref07_Tree_l5 (m_cantonref07_Tree_l4 (m_cantonref07_Tree_l3 (m_cantonref07_Tree_l2 l2 k2) l2 x19 k3) l2 x38 x26 k4) l2 x48 x38 l46 k5 x54 x55 x56 = some r) (3002) ?_ ?_
              ·exact ⟨x47, 0, x49, _, E.sel [0, 4, 5, 7, 8, 9, 12, 13] rfl, H, hs51, hr52, hr53, hm⟩
              ·clear E H hm
               rintro k5 a w ⟨x54, x55, x56, rs57, E, H, hs58, hr59, hr60, hm⟩
               cases k5 with
               | zero => exact (none_some hm rfl).elim
               | succ k5 =>
                unfold m_cantonref07_Tree_l5 at hm
                refine wp_seq<|sq<|pr 3 E rfl fun a E=>bd hm fun x61 hx62 hm=>st_ixS E H (wn rfl) rfl rfl rfl rfl rfl hr59 Tryz.underlying72 sz41 hx62 fun q63 a H E=>have H:=H.derive1 m0 (rAt (kL k_api_Turn) (q63.add 1) x61.Turns) (fun ok h => k_api_Store_at1 h);pr 1 E rfl fun a E=>st_ldL E H (wn rfl) rfl rfl rfl rfl m0 Tryz.underlying39 rfl fun v64 a H E=>sv E rfl rfl rfl (x_lenS E H rfl rfl m0 Tryz.underlying39) fun a E=>?_
                refine pr 1 E rfl fun a E=>nt<|wif E hm rfl (fun hm=>?_) fun hm=>?_
                ·refine wp_skip<|q_then<|wp_seq_cut (fun a w => ∃ (x65 : Int) (x66 : Int) (rs67 : List Rp), Env 121 a [(0, v1), (4, v45), (5, .int .i64 x65), (7, .int .i64 x19), (8, .int .i64 x26), (9, pt p41 0), (12, .int .i64 x48), (13, .int .i64 x55)] ∧ Sep w (Blk p41 80 [.string x38.Path, .string x38.Data, .int .i64 x38.Version, .int .i64 x66, .int .i64 x38.Owner] :: Fo) rs67 ∧ (∀ r, r ∈ rs → r ∈ rs67) ∧ rSl k_api_Store v1 l2 ∈ rs67 ∧ rSl k_api_Node v45 l46 ∈ rs67 ∧ m_cantonref07_Tree_j1 (m_cantonref07_Tree_l5 (m_cantonref07_Tree_l4 (m_cantonref07_Tree_l3 (m_cantonref07_Tree_l2 l2 k2) l2 x19 k3) l2 x38 x26 k4) l2 x48 x38 l46 k5) x55 x65 x66 = some r) ?_ ?_
                 ·refine wp_block<|wp_seq<|?_
                  obtain ⟨u71, H⟩ := H.raw (t3 hr59)
                  refine dw [(0, 0), (1, 0), (2, 0), (3, 0), (4, 0), (5, 0), (6, 0), (7, 0), (8, 0), (9, 0), (10, 0), (11, 0)] [0] [0] H (by kernel_rfl) (fun _ _ _ h => False.elim h.2) fun w W0 hI H=>fn 2 E rfl fun a E=>bd hm fun x72 hx73 hm=>?_
                  obtain ⟨q74, u77, hx75, hx76⟩ := dr_ixW (P := Tryz.prog) (k := .i64) hI (dr_mem (.head _)) Tryz.underlying72 sz41 hx73
                  refine fr_val E rfl (wn rfl) rfl rfl (fun w hW=>x_ixA E rfl rfl rfl (hx75 w)) fun a E=>?_
                  have hx78 := dr_fld hx76 (fun _ _ _ h => k_api_Store_aw1 h)
                  refine fn 1 E rfl fun a E=>?_
                  obtain ⟨v79, hx80, hx81⟩ := dr_ldL (P := Tryz.prog) hI hx78 Tryz.underlying39 rfl
                  refine fr_val E rfl (wn rfl) rfl rfl (fun w hW=>x_ld E rfl rfl (hx80 w hW)) fun a E=>?_
                  refine fn 1 E rfl fun a E=>bd hm fun x82 hx83 hm=>?_
                  obtain ⟨q84, hx85, hx86⟩ := dr_ixS (P := Tryz.prog) (k := .i64) k_api_Turn_flat hI hx81 Tryz.underlying39 sz83 hx83
                  refine fr_val E rfl (wn rfl) rfl rfl (fun w hW=>x_ixA E rfl rfl rfl (hx85 w)) fun a E=>?_
                  have hx87 := dr_fld hx86 (fun _ _ _ h => k_api_Turn_aw0 h)
                  refine fn 1 E rfl fun a E=>fa E rfl (wn rfl) rfl rfl rfl rfl hx87 Tryz.underlying9 rfl fun a E=>fn 1 E rfl fun a E=>fb E rfl (wn rfl) rfl rfl rfl rfl m0 rfl Tryz.underlying9 rfl fun a E=>fn 1 E rfl fun a E=>fr_nil<|?_
                  clear hI
                  refine q_then<|wif E hm rfl (fun hm=>?_) fun hm=>?_
                  ·refine wp_seq<|sq<|pr 1 E rfl fun a E=>lb E H 0 rfl rfl rfl rfl rfl rfl rfl Tryz.underlying2 rfl fun a E=>pr 1 E rfl fun a E=>nt<|wif E hm rfl (fun hm=>?_) fun hm=>?_
                   ·refine sq<|pr 2 E rfl fun a E=>nt<|wp_ret<|q_thenR<|q_blkR<|q_thenR<|q_thenR<|q_blkR<|?_
                    refine q_blkR<|q_thenR<|q_thenR<|q_blkR<|q_thenR<|q_blkR<|q_thenR<|q_thenR<|q_blkR<|?_
                    refine q_thenR<|q_blkR<|q_thenR<|q_thenR<|q_blkR<|q_thenR<|out2 E rfl rfl rfl<|have H:=H.nilSl k_api_Node;have H:=H.drop 0;?_
                    cases hm
                    exact ⟨(.slice none 0 0), rfl, H.reads (sub_cons m0 (fun r hr => (t5 (hs58 r hr))))⟩
                   ·refine wp_skip<|q_then<|sq<|pr 2 E rfl fun a E=>bd hm fun x88 hx89 hm=>st_ixS E H (wn rfl) rfl rfl rfl rfl rfl (t4 hr59) Tryz.underlying72 sz41 hx89 fun q90 a H E=>have H:=H.derive1 m0 (rAt (kL k_api_Turn) (q90.add 1) x88.Turns) (fun ok h => k_api_Store_at1 h);pr 1 E rfl fun a E=>st_ldL E H (wn rfl) rfl rfl rfl rfl m0 Tryz.underlying39 rfl fun v91 a H E=>?_
                    refine pr 1 E rfl fun a E=>bd hm fun x92 hx93 hm=>st_ixS E H (wn rfl) rfl rfl rfl rfl rfl m0 Tryz.underlying39 sz83 hx93 fun q94 a H E=>have H:=H.derive1 m0 (rAt (kI .i64) (q94.add 1) x92.Next) (fun ok h => k_api_Turn_at1 h);pr 1 E rfl fun a E=>sv E rfl rfl rfl (x_ldA E H rfl rfl m0 Tryz.underlying2 rfl) fun a E=>pr 1 E rfl fun a E=>st_st (i := 0) E H (wn rfl) rfl (us := [.int .i64 x92.Next]) rfl rfl rfl rfl rfl sz2 rfl rfl fun w H=>nt<|?_
                    exact wp_region_lit<|pr 3 E rfl fun a E=>wpList_nil<|q_blk<|q_then<|⟨IntKind.i64.wrap (x54 + 1), x92.Next, _, E.sel [0, 4, 5, 7, 8, 9, 12, 13] rfl, H, fun r hr => (t1 (t8 (hs58 r hr))), (t1 (t8 hr59)), (t1 (t8 hr60)), hm⟩
                  ·exact wp_skip<|q_blk<|q_then<|⟨x54, x56, _, E.sel [0, 4, 5, 7, 8, 9, 12, 13] rfl, H, fun r hr => (t4 (hs58 r hr)), (t4 hr59), (t4 hr60), hm⟩
                 ·clear E H hm
                  rintro a w ⟨x65, x66, rs67, E, H, hs68, hr69, hr70, hm⟩
                  unfold m_cantonref07_Tree_j1 at hm
                  exact wp_region_lit<|pr 3 E rfl fun a E=>nt<|⟨k5, Nat.lt_succ_self k5, x65, IntKind.i64.wrap (x55 + 1), x66, _, E.sel [0, 4, 5, 7, 8, 9, 12, 13] rfl, H, hs68, hr69, hr70, hm⟩
                ·exact wp_exit<|q_thenX<|q_thenX<|q_hit<|q_blk<|q_then<|wp_region_lit<|pr 3 E rfl fun a E=>nt<|⟨k4, Nat.lt_succ_self k4, v45, l46, x54, IntKind.i64.wrap (x48 + 1), x56, _, E.sel [0, 4, 5, 7, 8, 9, 12] rfl, H, fun r hr => (t3 (hs58 r hr)), (t3 hr59), (t3 hr60), hm⟩
             ·refine wp_exit<|q_thenX<|q_thenX<|q_hit<|q_then<|wp_region_lit<|pr 1 E rfl fun a E=>sv E rfl rfl rfl (x_ldBN (i := 0) (us := [.string x38.Path, .string x38.Data, .int .i64 x38.Version, .int .i64 x49, .int .i64 x38.Owner]) E H rfl rfl rfl rfl Tryz.underlying80 rfl sz80) fun a E=>bd hm fun u95 hx96 hm=>?_
              refine x_cl E rfl rfl rfl rfl rfl cf93 (c_cantonref06_Put v45 l46 (⟨x38.Path, x38.Data, x38.Version, x49, x38.Owner⟩ : S_api_Node) H hr53 hx96)<|?_
              rintro _ w ⟨v97, rfl, H⟩ a E
              exact pr 1 E rfl fun a E=>wpList_nil<|q_blk<|q_then<|wp_region_lit<|pr 3 E rfl fun a E=>nt<|have H:=H.drop 1;⟨k3, Nat.lt_succ_self k3, v97, u95, x47, IntKind.i64.wrap (x26 + 1), _, E.sel [0, 4, 5, 7, 8] rfl, H, hs51, hr52, hm⟩
         ·refine wp_exit<|q_thenX<|q_thenX<|q_hit<|q_then<|wp_region_lit<|pr 3 E rfl fun a E=>bd hm fun x98 hx99 hm=>st_ixS E H (wn rfl) rfl rfl rfl rfl rfl (t3 hr29) Tryz.underlying72 sz41 hx99 fun q100 a H E=>?_
          refine have H:=H.derive1 m0 (rAt (kL k_api_Turn) (q100.add 1) x98.Turns) (fun ok h => k_api_Store_at1 h);pr 1 E rfl fun a E=>st_ldL E H (wn rfl) rfl rfl rfl rfl m0 Tryz.underlying39 rfl fun v101 a H E=>sv E rfl rfl rfl (x_lenS E H rfl rfl m0 Tryz.underlying39) fun a E=>pr 2 E rfl fun a E=>wpList_nil<|q_blk<|q_then<|wp_region_lit<|?_
          exact pr 3 E rfl fun a E=>nt<|⟨k2, Nat.lt_succ_self k2, v23, l24, IntKind.i64.wrap (x25 - (x98.Turns.length : Int)), IntKind.i64.wrap (x19 + 1), _, E.sel [0, 4, 5, 7] rfl, H, fun r hr => (t6 (hs28 r hr)), (t6 hr29), hm⟩
      ·refine wp_exit<|q_thenX<|q_thenX<|q_hit<|q_then<|wp_seq<|wp_seq_cut (fun a w => ∃ (b102 : Bool) (rs103 : List Rp), Env 121 a [(4, v16), (119, .bool b102)] ∧ Sep w (Fo) rs103 ∧ (∀ r, r ∈ rs → r ∈ rs103) ∧ rSl k_api_Node v16 l17 ∈ rs103 ∧ m_cantonref07_Tree_j2 l17 b102 = some r) ?_ ?_
       ·refine wp_region_lit<|pr 3 E rfl fun a E=>cs hm (fun hb106 hm=>?_) fun hb106 hm=>?_
        ·exact pk 4 E (kc 115 rfl hb106) rfl fun a E=>nt<|have H:=H.thaw (i := 0) rfl;⟨true, _, E.sel [4, 119] rfl, H, fun r hr => (t1 (hs21 r hr)), m0, hm⟩
        ·refine pk 1 E (kc 115 rfl hb106) rfl fun a E=>have H:=H.thaw (i := 0) rfl;bd hm fun u107 hx108 hm=>st_call E (ws' (d := 115) E rfl rfl rfl rfl hb106) rfl rfl (x_call E rfl rfl (cf35 _)) (c_cantonref06_Right v16 l17 H m0 hx108)<|?_
         rintro _ w ⟨rfl, H⟩ a E
         exact pk 2 E (kc 115 rfl hb106) rfl fun a E=>nt<|⟨!u107, _, E.sel [4, 119] rfl, H, fun r hr => (t1 (hs21 r hr)), m0, hm⟩
       ·clear E H hm
        rintro a w ⟨b102, rs103, E, H, hs104, hr105, hm⟩
        unfold m_cantonref07_Tree_j2 at hm
        refine wif E hm rfl (fun hm=>?_) fun hm=>?_
        ·refine sq<|pr 2 E rfl fun a E=>nt<|wp_ret<|q_thenR<|out2 E rfl rfl rfl<|have H:=H.nilSl k_api_Node;?_
         cases hm
         exact ⟨(.slice none 0 0), rfl, H.reads (sub_cons m0 (fun r hr => (t1 (hs104 r hr))))⟩
        ·refine wp_skip<|q_then<|sq<|pr 3 E rfl fun a E=>nt<|wp_ret<|out2 E rfl rfl rfl<|?_
         cases hm
         exact ⟨v16, rfl, H.reads (sub_cons hr105 (hs104))⟩

def m_cantonlaw07_PartSplits_j1 (u27 : Bool) (x4 : S_api_Store) (x7 : S_api_Store) (x1 : S_api_Op) (l3 : List S_api_Node) (b29 : Bool) : Option Bool :=
  if b29 = true then (some (u27)) else ((m_part_Tree ([x4, x7] : List S_api_Store)).bind fun u39 => (m_cantonref07_Tree ([x4, x7] : List S_api_Store)).bind fun u43 => if u27 = true then ((m_part_Of x1).bind fun u47 => (m_cantonref07_Of x1).bind fun u50 => (m_cantonref07_SameParts u47 u50).bind fun u53 => if u53 = true then ((m_part_Keep l3).bind fun u56 => (m_cantonref07_Keep l3).bind fun u60 => (m_cantonref07_Same u56 u60).bind fun u64 => if u64 = true then ((m_cantonref06_Same u39.1 u43.1).bind fun u67 => if u67 = true then (some (u39.2 == u43.2)) else (some (false))) else (some (false))) else (some (false))) else (some (false)))
def m_cantonlaw07_PartSplits (x1 : S_api_Op) (l3 : List S_api_Node) (x4 : S_api_Store) (x7 : S_api_Store) : Option Bool :=
  m_cantonlaw07_head.bind fun u27 => (m_cantonlaw06_GreatOp x1).bind fun u70 => if u70 = true then (m_cantonlaw07_PartSplits_j1 u27 x4 x7 x1 l3 true) else ((m_cantonlaw06_Great l3).bind fun u73 => if u73 = true then (m_cantonlaw07_PartSplits_j1 u27 x4 x7 x1 l3 true) else ((m_cantonlaw07_Great x4).bind fun u76 => if u76 = true then (m_cantonlaw07_PartSplits_j1 u27 x4 x7 x1 l3 true) else ((m_cantonlaw07_Great x7).bind fun u79 => m_cantonlaw07_PartSplits_j1 u27 x4 x7 x1 l3 u79)))
theorem c_cantonlaw07_PartSplits {w : World} {Fo : List Ob} {rs : List Rp} (x1 : S_api_Op) (v2 : Value) (l3 : List S_api_Node) (x4 : S_api_Store) (v5 : Value) (v6 : Value) (x7 : S_api_Store) (v8 : Value) (v9 : Value) (H : Sep w (Fo) rs) (hr10 : rSl k_api_Node v2 l3 ∈ rs) (hr11 : rSl k_api_Node v5 x4.Nodes ∈ rs) (hr12 : rSl k_api_Turn v6 x4.Turns ∈ rs) (hr13 : rSl k_api_Node v8 x7.Nodes ∈ rs) (hr14 : rSl k_api_Turn v9 x7.Turns ∈ rs) (hr15 : rTab Tryz.prog ∈ rs) {r : Bool} (hm : m_cantonlaw07_PartSplits x1 l3 x4 x7 = some r) :
    Calls Tryz.prog 9 [.agg (l_api_Op x1).toArray, v2, .agg #[v5, v6], .agg #[v8, v9]].toArray w (Ret fun v w' => .bool r = v ∧ Sep w' (Fo) (rs)) := by
 unfold m_cantonlaw07_PartSplits at hm
 refine enter Tryz.func9 rfl Tryz.ntmps9 rfl fun a E =>?_
 simp only [enum, Nat.reduceAdd] at E
 refine sq<|st_box E H (wn rfl) rfl rfl (cs := (l_api_Op x1)) rfl rfl rfl fun p16 w a H E=>?_
 obtain ⟨q18, x19, rfl⟩ := H.slform hr11
 obtain ⟨q20, x21, rfl⟩ := H.slform hr12
 refine st_box E H (wn rfl) rfl rfl (cs := [(.slice q18 x4.Nodes.length x19), (.slice q20 x4.Turns.length x21)]) rfl rfl rfl fun p17 w a H E=>?_
 obtain ⟨q23, x24, rfl⟩ := H.slform hr13
 obtain ⟨q25, x26, rfl⟩ := H.slform hr14
 refine st_box E H (wn rfl) rfl rfl (cs := [(.slice q23 x7.Nodes.length x24), (.slice q25 x7.Turns.length x26)]) rfl rfl rfl fun p22 w a H E=>pr 1 E rfl fun a E=>nx<|bd hm fun u27 hx28 hm=>x_cl E rfl rfl rfl rfl rfl cf40 (c_cantonlaw07_head H hr15 hx28)<|?_
 rintro _ w ⟨rfl, H⟩ a E
 refine pr 1 E rfl fun a E=>nt<|wp_seq<|wp_seq_cut (fun a w => ∃ (b29 : Bool) (rs30 : List Rp), Env 69 a [(1, v2), (4, pt p16 0), (6, pt p17 0), (7, pt p22 0), (9, .bool u27), (28, .bool b29)] ∧ Sep w (Blk p16 55 (l_api_Op x1) :: Blk p17 41 [(.slice q18 x4.Nodes.length x19), (.slice q20 x4.Turns.length x21)] :: Blk p22 41 [(.slice q23 x7.Nodes.length x24), (.slice q25 x7.Turns.length x26)] :: Fo) rs30 ∧ (∀ r, r ∈ rs → r ∈ rs30) ∧ rSl k_api_Node v2 l3 ∈ rs30 ∧ rSl k_api_Node (.slice q18 x4.Nodes.length x19) x4.Nodes ∈ rs30 ∧ rSl k_api_Turn (.slice q20 x4.Turns.length x21) x4.Turns ∈ rs30 ∧ rSl k_api_Node (.slice q23 x7.Nodes.length x24) x7.Nodes ∈ rs30 ∧ rSl k_api_Turn (.slice q25 x7.Turns.length x26) x7.Turns ∈ rs30 ∧ rTab Tryz.prog ∈ rs30 ∧ m_cantonlaw07_PartSplits_j1 u27 x4 x7 x1 l3 b29 = some r) ?_ ?_
 ·refine wp_region_lit<|sv E rfl rfl rfl (x_ldBN (i := 2) (us := (l_api_Op x1)) E H rfl rfl rfl rfl Tryz.underlying55 rfl sz55) fun a E=>bd hm fun u70 hx71 hm=>x_cl E rfl rfl rfl rfl rfl cf34 (c_cantonlaw06_GreatOp x1 H hx71)<|?_
  rintro _ w ⟨rfl, H⟩ a E
  refine pr 1 E rfl fun a E=>cs hm (fun hb72 hm=>?_) fun hb72 hm=>?_
  ·exact pk 11 E (kc 17 rfl hb72) rfl fun a E=>nt<|have H:=H.front 0 rfl;have H:=H.front 1 rfl;have H:=H.front 2 rfl;⟨true, _, E.sel [1, 4, 6, 7, 9, 28] rfl, H, fun r hr => hr, hr10, hr11, hr12, hr13, hr14, hr15, hm⟩
  ·refine pk 1 E (kc 17 rfl hb72) rfl fun a E=>bd hm fun u73 hx74 hm=>st_call E (ws' (d := 17) E rfl rfl rfl rfl hb72) rfl rfl (x_call E rfl rfl (cf15 _)) (c_cantonlaw06_Great v2 l3 H hr10 hx74)<|?_
   rintro _ w ⟨rfl, H⟩ a E
   refine pk 2 E (kc 17 rfl hb72) rfl fun a E=>cs hm (fun hb75 hm=>?_) fun hb75 hm=>?_
   ·exact pk 7 E (kc 21 rfl hb75) rfl fun a E=>nt<|have H:=H.front 0 rfl;have H:=H.front 1 rfl;have H:=H.front 2 rfl;⟨true, _, E.sel [1, 4, 6, 7, 9, 28] rfl, H, fun r hr => hr, hr10, hr11, hr12, hr13, hr14, hr15, hm⟩
   ·refine st_val E (ws' (d := 21) E rfl rfl rfl rfl hb75) rfl rfl (x_ldBN (i := 1) (us := [(.slice q18 x4.Nodes.length x19), (.slice q20 x4.Turns.length x21)]) E H rfl rfl rfl rfl Tryz.underlying41 rfl sz41) fun a E=>bd hm fun u76 hx77 hm=>st_call E (ws' (d := 21) E rfl rfl rfl rfl hb75) rfl rfl (x_call E rfl rfl (cf26 _)) (c_cantonlaw07_Great x4 (.slice q18 x4.Nodes.length x19) (.slice q20 x4.Turns.length x21) H hr11 hr12 hx77)<|?_
    rintro _ w ⟨rfl, H⟩ a E
    refine pk 2 E (kc 21 rfl hb75) rfl fun a E=>cs hm (fun hb78 hm=>?_) fun hb78 hm=>?_
    ·exact pk 3 E (kc 25 rfl hb78) rfl fun a E=>nt<|have H:=H.front 0 rfl;have H:=H.front 1 rfl;have H:=H.front 2 rfl;⟨true, _, E.sel [1, 4, 6, 7, 9, 28] rfl, H, fun r hr => hr, hr10, hr11, hr12, hr13, hr14, hr15, hm⟩
    ·refine st_val E (ws' (d := 25) E rfl rfl rfl rfl hb78) rfl rfl (x_ldBN (i := 0) (us := [(.slice q23 x7.Nodes.length x24), (.slice q25 x7.Turns.length x26)]) E H rfl rfl rfl rfl Tryz.underlying41 rfl sz41) fun a E=>bd hm fun u79 hx80 hm=>st_call E (ws' (d := 25) E rfl rfl rfl rfl hb78) rfl rfl (x_call E rfl rfl (cf26 _)) (c_cantonlaw07_Great x7 (.slice q23 x7.Nodes.length x24) (.slice q25 x7.Turns.length x26) H hr13 hr14 hx80)<|?_
     rintro _ w ⟨rfl, H⟩ a E
     exact pk 1 E (kc 25 rfl hb78) rfl fun a E=>nt<|have H:=H.front 0 rfl;have H:=H.front 1 rfl;have H:=H.front 2 rfl;⟨u79, _, E.sel [1, 4, 6, 7, 9, 28] rfl, H, fun r hr => hr, hr10, hr11, hr12, hr13, hr14, hr15, hm⟩
 ·clear E H hm
  rintro a w ⟨b29, rs30, E, H, hs31, hr32, hr33, hr34, hr35, hr36, hr37, hm⟩
  unfold m_cantonlaw07_PartSplits_j1 at hm
  refine wif E hm rfl (fun hm=>?_) fun hm=>?_
  ·refine sq<|pr 2 E rfl fun a E=>nt<|wp_ret<|q_thenR<|out1 E rfl rfl<|have H:=H.drop 0;have H:=H.drop 0;have H:=H.drop 0;?_
   cases hm
   exact ⟨rfl, H.reads (hs31)⟩
  ·refine wp_skip<|q_then<|sq<|sv E rfl rfl rfl (x_ldBN (i := 1) (us := [(.slice q18 x4.Nodes.length x19), (.slice q20 x4.Turns.length x21)]) E H rfl rfl rfl rfl Tryz.underlying41 rfl sz41) fun a E=>sv E rfl rfl rfl (x_ldBN (i := 2) (us := [(.slice q23 x7.Nodes.length x24), (.slice q25 x7.Turns.length x26)]) E H rfl rfl rfl rfl Tryz.underlying41 rfl sz41) fun a E=>st_bsO (e := 41) (d := k_api_Store) (cs := [(.slice q18 x4.Nodes.length x19), (.slice q20 x4.Turns.length x21), (.slice q23 x7.Nodes.length x24), (.slice q25 x7.Turns.length x26)]) (xs := [x4, x7]) E H (wn rfl) rfl rfl rfl (E.evs rfl) (by kernel_rfl) rfl rfl (fun ok hr => (Rows.append (Rows.single (d := k_api_Store) (cs := [(.slice q18 x4.Nodes.length x19), (.slice q20 x4.Turns.length x21)]) (x := x4) (k_api_Store_mk (hr _ hr33) (hr _ hr34))) (Rows.single (d := k_api_Store) (cs := [(.slice q23 x7.Nodes.length x24), (.slice q25 x7.Turns.length x26)]) (x := x7) (k_api_Store_mk (hr _ hr35) (hr _ hr36))))) fun v38 w a H E=>have H:=H.thaw (i := 0) rfl;bd hm fun u39 hx40 hm=>x_cl E rfl rfl rfl rfl rfl cf47 (c_part_Tree v38 ([x4, x7] : List S_api_Store) H m0 hx40)<|?_
   rintro _ w ⟨v41, rfl, H⟩ a E
   refine pr 5 E rfl fun a E=>nx<|sv E rfl rfl rfl (x_ldBN (i := 1) (us := [(.slice q18 x4.Nodes.length x19), (.slice q20 x4.Turns.length x21)]) E H rfl rfl rfl rfl Tryz.underlying41 rfl sz41) fun a E=>sv E rfl rfl rfl (x_ldBN (i := 2) (us := [(.slice q23 x7.Nodes.length x24), (.slice q25 x7.Turns.length x26)]) E H rfl rfl rfl rfl Tryz.underlying41 rfl sz41) fun a E=>st_bsO (e := 41) (d := k_api_Store) (cs := [(.slice q18 x4.Nodes.length x19), (.slice q20 x4.Turns.length x21), (.slice q23 x7.Nodes.length x24), (.slice q25 x7.Turns.length x26)]) (xs := [x4, x7]) E H (wn rfl) rfl rfl rfl (E.evs rfl) (by kernel_rfl) rfl rfl (fun ok hr => (Rows.append (Rows.single (d := k_api_Store) (cs := [(.slice q18 x4.Nodes.length x19), (.slice q20 x4.Turns.length x21)]) (x := x4) (k_api_Store_mk (hr _ (t2 hr33)) (hr _ (t2 hr34)))) (Rows.single (d := k_api_Store) (cs := [(.slice q23 x7.Nodes.length x24), (.slice q25 x7.Turns.length x26)]) (x := x7) (k_api_Store_mk (hr _ (t2 hr35)) (hr _ (t2 hr36)))))) fun v42 w a H E=>have H:=H.thaw (i := 0) rfl;bd hm fun u43 hx44 hm=>x_cl E rfl rfl rfl rfl rfl cf48 (c_cantonref07_Tree v42 ([x4, x7] : List S_api_Store) H m0 hx44)<|?_
   rintro _ w ⟨v45, rfl, H⟩ a E
   refine pr 5 E rfl fun a E=>nt<|wp_seq<|dw [(0, 0), (1, 0), (2, 0), (4, 0), (3, 1), (5, 1), (6, 1), (7, 0), (8, 0), (9, 0), (11, 0), (10, 1), (12, 1), (13, 1), (14, 0), (15, 0), (16, 0), (17, 0), (18, 1), (19, 0), (20, 0), (21, 0), (22, 0), (23, 0), (24, 0), (25, 2)] [0] [] H (by kernel_rfl) (fun _ _ _ h => False.elim h.2) fun w W0 hI H=>fn 2 E rfl fun a E=>cs hm (fun hb46 hm=>?_) fun hb46 hm=>?_
   ·refine fbn E (l_api_Op x1) rfl (ws' (d := 45) E rfl rfl rfl rfl hb46) rfl rfl rfl rfl m0 rfl Tryz.underlying55 rfl sz55 fun a E=>fbn E (l_api_Op x1) rfl (ws' (d := 45) E rfl rfl rfl rfl hb46) rfl rfl rfl rfl m0 rfl Tryz.underlying55 rfl sz55 fun a E=>fr_op rfl<|bd hm fun u47 hx48 hm=>st_call E (ws' (d := 45) E rfl rfl rfl rfl hb46) rfl rfl (x_call E rfl rfl (cf37 _)) (c_part_Of x1 H hx48)<|?_
    rintro _ w ⟨v49, rfl, H⟩ a E
    refine nt<|?_
    refine ⟨⟨_, _, H, (subO_cons mm1 (subO_nil)), (sub_nil)⟩, ?_⟩
    refine fr_op rfl<|bd hm fun u50 hx51 hm=>st_call E (ws' (d := 45) E rfl rfl rfl rfl hb46) rfl rfl (x_call E rfl rfl (cf50 _)) (c_cantonref07_Of x1 H hx51)<|?_
    rintro _ w ⟨v52, rfl, H⟩ a E
    refine nt<|?_
    refine ⟨⟨_, _, H, (subO_cons mm2 (subO_nil)), (sub_nil)⟩, ?_⟩
    refine fr_op rfl<|have H:=H.thaw (i := 1) rfl;have H:=H.thaw (i := 0) rfl;bd hm fun u53 hx54 hm=>st_call E (ws' (d := 45) E rfl rfl rfl rfl hb46) rfl rfl (x_call E rfl rfl (cf49 _)) (c_cantonref07_SameParts v49 u47 v52 u50 H mm1 m0 hx54)<|?_
    rintro _ w ⟨rfl, H⟩ a E
    refine nt<|?_
    refine ⟨⟨_, _, H, (subO_cons m0 (subO_nil)), (sub_nil)⟩, ?_⟩
    refine fk 2 E (kc 45 rfl hb46) rfl fun a E=>cs hm (fun hb55 hm=>?_) fun hb55 hm=>?_
    ·refine fk 2 E (kc 52 rfl hb55) rfl fun a E=>fr_op rfl<|bd hm fun u56 hx57 hm=>st_call E (ws' (d := 52) E rfl rfl rfl rfl hb55) rfl rfl (x_call E rfl rfl (cf39 _)) (c_part_Keep v2 l3 H (t6 hr32) hx57)<|?_
     rintro _ w ⟨v58, v59, rfl, H⟩ a E
     refine nt<|?_
     refine ⟨⟨_, _, H, (subO_cons m0 (subO_nil)), (sub_nil)⟩, ?_⟩
     refine fr_op rfl<|bd hm fun u60 hx61 hm=>st_call E (ws' (d := 52) E rfl rfl rfl rfl hb55) rfl rfl (x_call E rfl rfl (cf51 _)) (c_cantonref07_Keep v2 l3 H (t8 hr32) hx61)<|?_
     rintro _ w ⟨v62, v63, rfl, H⟩ a E
     refine nt<|?_
     refine ⟨⟨_, _, H, (subO_cons m0 (subO_nil)), (sub_nil)⟩, ?_⟩
     refine fr_op rfl<|bd hm fun u64 hx65 hm=>st_call E (ws' (d := 52) E rfl rfl rfl rfl hb55) rfl rfl (x_call E rfl rfl (cf30 _)) (c_cantonref07_Same u56 v58 v59 u60 v62 v63 H mm2 mm3 m0 mm1 hx65)<|?_
     rintro _ w ⟨rfl, H⟩ a E
     refine nt<|?_
     refine ⟨⟨_, _, H, (subO_cons m0 (subO_nil)), (sub_nil)⟩, ?_⟩
     refine fk 2 E (kc 52 rfl hb55) rfl fun a E=>cs hm (fun hb66 hm=>?_) fun hb66 hm=>?_
     ·refine fk 2 E (kc 59 rfl hb66) rfl fun a E=>fr_op rfl<|bd hm fun u67 hx68 hm=>st_call E (ws' (d := 59) E rfl rfl rfl rfl hb66) rfl rfl (x_call E rfl rfl (cf21 _)) (c_cantonref06_Same v41 u39.1 v45 u43.1 H (t2 mm6) mm6 hx68)<|?_
      rintro _ w ⟨rfl, H⟩ a E
      refine nt<|?_
      refine ⟨⟨_, _, H, (subO_cons m0 (subO_nil)), (sub_nil)⟩, ?_⟩
      refine fk 2 E (kc 59 rfl hb66) rfl fun a E=>cs hm (fun hb69 hm=>?_) fun hb69 hm=>?_
      ·refine fk 2 E (kc 64 rfl hb69) rfl fun a E=>fr_val E rfl (ws' (d := 64) E rfl rfl rfl rfl hb69) rfl rfl (fun w hW=>(x_bin2 E rfl rfl rfl (v := .bool (u39.2 == u43.2)) (by kernel_rfl))) fun a E=>?_
       refine fk 1 E (kc 64 rfl hb69) rfl fun a E=>fr_tail rfl<|pr 1 E rfl fun a E=>nt<|fr_nil<|?_
       clear hI
       refine q_then<|wp_ret<|out1 E rfl rfl<|have H:=H.drop 0;have H:=H.drop 0;have H:=H.drop 0;?_
       cases hm
       exact ⟨rfl, H.reads (fun r hr => (t2 (t8 (hs31 r hr))))⟩
      ·refine fk 4 E (kc 64 rfl hb69) rfl fun a E=>fr_tail rfl<|pr 1 E rfl fun a E=>nt<|fr_nil<|?_
       clear hI
       refine q_then<|wp_ret<|out1 E rfl rfl<|have H:=H.drop 0;have H:=H.drop 0;have H:=H.drop 0;?_
       cases hm
       exact ⟨rfl, H.reads (fun r hr => (t2 (t8 (hs31 r hr))))⟩
     ·refine fk 2 E (kc 59 rfl hb66) rfl fun a E=>fr_op rfl<|pk 1 E (kc 59 rfl hb66) rfl fun a E=>nt<|?_
      refine ⟨⟨_, _, H, (subO_cons m0 (subO_nil)), (sub_nil)⟩, ?_⟩
      refine fk 6 E (kc 59 rfl hb66) rfl fun a E=>fr_tail rfl<|pr 1 E rfl fun a E=>nt<|fr_nil<|?_
      clear hI
      refine q_then<|wp_ret<|out1 E rfl rfl<|have H:=H.drop 0;have H:=H.drop 0;have H:=H.drop 0;?_
      cases hm
      exact ⟨rfl, H.reads (fun r hr => (t2 (t8 (hs31 r hr))))⟩
    ·refine fk 2 E (kc 52 rfl hb55) rfl fun a E=>fr_op rfl<|pk 1 E (kc 52 rfl hb55) rfl fun a E=>nt<|?_
     refine ⟨⟨_, _, H, (subO_cons m0 (subO_nil)), (sub_nil)⟩, ?_⟩
     refine fr_op rfl<|pk 1 E (kc 52 rfl hb55) rfl fun a E=>nt<|?_
     refine ⟨⟨_, _, H, (subO_cons m0 (subO_nil)), (sub_nil)⟩, ?_⟩
     refine fr_op rfl<|pk 1 E (kc 52 rfl hb55) rfl fun a E=>nt<|?_
     refine ⟨⟨_, _, H, (subO_cons m0 (subO_nil)), (sub_nil)⟩, ?_⟩
     refine fk 4 E (kc 52 rfl hb55) rfl fun a E=>fr_op rfl<|pr 1 E rfl fun a E=>nt<|?_
     refine ⟨⟨_, _, H, (subO_cons m0 (subO_nil)), (sub_nil)⟩, ?_⟩
     refine fn 6 E rfl fun a E=>fr_tail rfl<|pr 1 E rfl fun a E=>nt<|fr_nil<|?_
     clear hI
     refine q_then<|wp_ret<|out1 E rfl rfl<|have H:=H.drop 0;have H:=H.drop 0;have H:=H.drop 0;?_
     cases hm
     exact ⟨rfl, H.reads (fun r hr => (t6 (hs31 r hr)))⟩
   ·refine fk 2 E (kc 45 rfl hb46) rfl fun a E=>fr_op rfl<|pk 1 E (kc 45 rfl hb46) rfl fun a E=>nt<|?_
    refine ⟨⟨_, _, H, (subO_cons m0 (subO_nil)), (sub_nil)⟩, ?_⟩
    refine fr_op rfl<|pk 1 E (kc 45 rfl hb46) rfl fun a E=>nt<|?_
    refine ⟨⟨_, _, H, (subO_cons m0 (subO_nil)), (sub_nil)⟩, ?_⟩
    refine fr_op rfl<|pk 1 E (kc 45 rfl hb46) rfl fun a E=>nt<|?_
    refine ⟨⟨_, _, H, (subO_cons m0 (subO_nil)), (sub_nil)⟩, ?_⟩
    refine fk 4 E (kc 45 rfl hb46) rfl fun a E=>fr_op rfl<|pr 1 E rfl fun a E=>nt<|?_
    refine ⟨⟨_, _, H, (subO_cons m0 (subO_nil)), (sub_nil)⟩, ?_⟩
    refine fr_op rfl<|pr 1 E rfl fun a E=>nt<|?_
    refine ⟨⟨_, _, H, (subO_cons m0 (subO_nil)), (sub_nil)⟩, ?_⟩
    refine fr_op rfl<|pr 1 E rfl fun a E=>nt<|?_
    refine ⟨⟨_, _, H, (subO_cons m0 (subO_nil)), (sub_nil)⟩, ?_⟩
    refine fn 4 E rfl fun a E=>fr_op rfl<|pr 1 E rfl fun a E=>nt<|?_
    refine ⟨⟨_, _, H, (subO_cons m0 (subO_nil)), (sub_nil)⟩, ?_⟩
    refine fn 6 E rfl fun a E=>fr_tail rfl<|pr 1 E rfl fun a E=>nt<|fr_nil<|?_
    clear hI
    refine q_then<|wp_ret<|out1 E rfl rfl<|have H:=H.drop 0;have H:=H.drop 0;have H:=H.drop 0;?_
    cases hm
    exact ⟨rfl, H.reads (fun r hr => (t4 (hs31 r hr)))⟩

end Go.Cb
