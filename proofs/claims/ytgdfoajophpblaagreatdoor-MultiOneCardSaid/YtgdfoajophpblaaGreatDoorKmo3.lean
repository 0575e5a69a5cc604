/- Functions of the program, walked: each comes to its plain function. -/
import Derived.Test.YtgdfoajophpblaaGreatDoorKmo2
import Derived.Test.YtgdfoajophpblaaGreatDoorN4mo
set_option linter.unusedVariables false
set_option linter.unusedSimpArgs false
set_option maxRecDepth 20000
set_option maxHeartbeats 1000000
namespace Go.Cb
open Go.Proofs Go.RowKit

def m_part_Do_j2 (x1 : S_api_Store) (l35 : (List S_api_Node)) (l37 : (List S_api_Turn)) (x38 : Int) (s39 : ByteArray) (s40 : ByteArray) (x41 : Int) (l43 : (List ByteArray)) : Option (S_api_Store × S_api_Result) :=
  if (x38 != 0) = true then (some (x1, (⟨x38, s39, s40, x41, l43⟩ : S_api_Result))) else (some ((⟨l35, l37⟩ : S_api_Store), (⟨x38, s39, s40, x41, l43⟩ : S_api_Result)))
def m_part_Do_j1 (x1 : S_api_Store) (x4 : S_api_Part) (b17 : Bool) : Option (S_api_Store × S_api_Result) :=
  if b17 = true then (some ((⟨[], []⟩ : S_api_Store), (⟨1, (ByteArray.mk #[]), (ByteArray.mk #[]), 0, []⟩ : S_api_Result))) else ((ck (x1.Nodes.length ≤ LIM)).bind fun u24 => (ck (x1.Turns.length ≤ LIM)).bind fun u27 => if (x4.Kind == 1) = true then ((m_part_work_guard x1.Nodes x1.Turns 0 (ByteArray.mk #[]) (ByteArray.mk #[]) 0 [] x4).bind fun u99 => m_part_Do_j2 x1 x1.Nodes x1.Turns u99.1 u99.2.1 u99.2.2.1 u99.2.2.2.1 u99.2.2.2.2) else (if (x4.Kind == 2) = true then ((m_part_work_put x1.Nodes x1.Turns 0 (ByteArray.mk #[]) (ByteArray.mk #[]) 0 [] x4).bind fun u93 => m_part_Do_j2 x1 u93.1 u93.2.1 u93.2.2.1 u93.2.2.2.1 u93.2.2.2.2.1 u93.2.2.2.2.2.1 u93.2.2.2.2.2.2) else (if (x4.Kind == 3) = true then ((m_part_work_remove x1.Nodes x1.Turns 0 (ByteArray.mk #[]) (ByteArray.mk #[]) 0 [] x4).bind fun u88 => m_part_Do_j2 x1 u88.1 x1.Turns u88.2.1 u88.2.2.1 u88.2.2.2.1 u88.2.2.2.2.1 u88.2.2.2.2.2) else (if (x4.Kind == 4) = true then ((m_part_work_empty x1.Nodes x1.Turns 0 (ByteArray.mk #[]) (ByteArray.mk #[]) 0 [] x4).bind fun u83 => m_part_Do_j2 x1 x1.Nodes u83.1 u83.2.1 u83.2.2.1 u83.2.2.2.1 u83.2.2.2.2.1 u83.2.2.2.2.2) else (if (x4.Kind == 5) = true then ((m_part_work_alter x1.Nodes x1.Turns 0 (ByteArray.mk #[]) (ByteArray.mk #[]) 0 [] x4).bind fun u79 => m_part_Do_j2 x1 u79.1 x1.Turns u79.2.1 u79.2.2.1 u79.2.2.2.1 u79.2.2.2.2.1 u79.2.2.2.2.2) else (if (x4.Kind == 6) = true then ((m_part_work_look x1.Nodes x1.Turns 0 (ByteArray.mk #[]) (ByteArray.mk #[]) 0 [] x4).bind fun u75 => m_part_Do_j2 x1 x1.Nodes x1.Turns u75.1 u75.2.1 u75.2.2.1 u75.2.2.2.1 u75.2.2.2.2) else (if (x4.Kind == 7) = true then ((m_part_work_read x1.Nodes x1.Turns 0 (ByteArray.mk #[]) (ByteArray.mk #[]) 0 [] x4).bind fun u71 => m_part_Do_j2 x1 x1.Nodes x1.Turns u71.1 u71.2.1 u71.2.2.1 u71.2.2.2.1 u71.2.2.2.2) else (if (x4.Kind == 8) = true then ((m_part_work_has x1.Nodes x1.Turns 0 (ByteArray.mk #[]) (ByteArray.mk #[]) 0 [] x4).bind fun u67 => m_part_Do_j2 x1 x1.Nodes x1.Turns u67.1 u67.2.1 u67.2.2.1 u67.2.2.2.1 u67.2.2.2.2) else (if (x4.Kind == 9) = true then ((m_part_work_names x1.Nodes x1.Turns 0 (ByteArray.mk #[]) (ByteArray.mk #[]) 0 [] x4).bind fun u63 => m_part_Do_j2 x1 x1.Nodes x1.Turns 0 (ByteArray.mk #[]) (ByteArray.mk #[]) 0 u63) else (if (x4.Kind == 10) = true then ((m_part_work_clear x1.Nodes x1.Turns 0 (ByteArray.mk #[]) (ByteArray.mk #[]) 0 [] x4).bind fun u58 => m_part_Do_j2 x1 u58.1 x1.Turns 0 (ByteArray.mk #[]) (ByteArray.mk #[]) 0 u58.2) else none))))))))))
def m_part_Do (x1 : S_api_Store) (x4 : S_api_Part) : Option (S_api_Store × S_api_Result) :=
  (m_part_Right x1).bind fun u102 => if (!u102) = true then (m_part_Do_j1 x1 x4 true) else ((m_part_May x4).bind fun u105 => m_part_Do_j1 x1 x4 (!u105))
theorem c_part_Do {w : World} {Fo : List Ob} {rs : List Rp} (x1 : S_api_Store) (v2 : Value) (v3 : Value) (x4 : S_api_Part) (H : Sep w (Fo) rs) (hr5 : rSl k_api_Node v2 x1.Nodes ∈ rs) (hr6 : rSl k_api_Turn v3 x1.Turns ∈ rs) (hr7 : rTab Tryz.prog ∈ rs) {r : S_api_Store × S_api_Result} (hm : m_part_Do x1 x4 = some r) :
    Calls Tryz.prog 42 [.agg #[v2, v3], .agg (l_api_Part x4).toArray].toArray w (Ret fun v w' => ∃ (v5002 : Value) (v5003 : Value) (v5005 : Value), .tuple #[.agg #[v5002, v5003], .agg (l_api_Result r.2 v5005).toArray] = v ∧ Sep w' (Fo) (rSl k_api_Node v5002 r.1.Nodes :: rSl k_api_Turn v5003 r.1.Turns :: rSl kS v5005 r.2.Names :: rs)) := by
 unfold m_part_Do at hm
 refine enter Tryz.func42 rfl Tryz.ntmps42 rfl fun a E =>?_
 simp only [enum, Nat.reduceAdd] at E
 refine sq<|?_
 obtain ⟨q9, x10, rfl⟩ := H.slform hr5
 obtain ⟨q11, x12, rfl⟩ := H.slform hr6
 refine st_box E H (wn rfl) rfl rfl (cs := [(.slice q9 x1.Nodes.length x10), (.slice q11 x1.Turns.length x12)]) rfl rfl rfl fun p8 w a H E=>st_box E H (wn rfl) rfl rfl (cs := (l_api_Part x4)) rfl rfl rfl fun p13 w a H E=>al E H rfl rfl rfl rfl zr41 fun p14 w a H E=>al E H rfl rfl rfl rfl zr51 fun p15 w a H E=>nx<|sv E rfl rfl rfl (x_build E rfl (E.evs rfl) (v := .agg #[.nilFunc, .func (.func 78) #[] #[], .func (.func 79) #[] #[], .func (.func 80) #[] #[], .func (.func 81) #[] #[], .func (.func 82) #[] #[], .func (.func 83) #[] #[], .func (.func 84) #[] #[], .func (.func 85) #[] #[], .func (.func 86) #[] #[], .func (.func 87) #[] #[]]) (by kernel_rfl)) fun a E=>al E H rfl rfl rfl rfl zr101 fun p16 w a H E=>st_st (i := 0) E H (wn rfl) rfl (us := [.nilFunc, .func (.func 78) #[] #[], .func (.func 79) #[] #[], .func (.func 80) #[] #[], .func (.func 81) #[] #[], .func (.func 82) #[] #[], .func (.func 83) #[] #[], .func (.func 84) #[] #[], .func (.func 85) #[] #[], .func (.func 86) #[] #[], .func (.func 87) #[] #[]]) rfl rfl rfl rfl rfl sz101 rfl rfl fun w H=>nt<|?_
 refine wp_seq<|wp_seq_cut (fun a w => ∃ (b17 : Bool) (rs18 : List Rp), Env 54 a [(2, pt p8 0), (3, pt p13 0), (4, pt p14 0), (5, pt p15 0), (6, pt p16 0), (16, .bool b17)] ∧ Sep w (Blk p8 41 [(.slice q9 x1.Nodes.length x10), (.slice q11 x1.Turns.length x12)] :: Blk p13 62 (l_api_Part x4) :: Blk p14 41 [.slice none 0 0, .slice none 0 0] :: Blk p15 51 z_api_Result :: Blk p16 101 [.nilFunc, .func (.func 78) #[] #[], .func (.func 79) #[] #[], .func (.func 80) #[] #[], .func (.func 81) #[] #[], .func (.func 82) #[] #[], .func (.func 83) #[] #[], .func (.func 84) #[] #[], .func (.func 85) #[] #[], .func (.func 86) #[] #[], .func (.func 87) #[] #[]] :: Fo) rs18 ∧ (∀ r, r ∈ rs → r ∈ rs18) ∧ rSl k_api_Node (.slice q9 x1.Nodes.length x10) x1.Nodes ∈ rs18 ∧ rSl k_api_Turn (.slice q11 x1.Turns.length x12) x1.Turns ∈ rs18 ∧ rTab Tryz.prog ∈ rs18 ∧ m_part_Do_j1 x1 x4 b17 = some r) ?_ ?_
 ·refine wp_region_lit<|sv E rfl rfl rfl (x_ldBN (i := 4) (us := [(.slice q9 x1.Nodes.length x10), (.slice q11 x1.Turns.length x12)]) E H rfl rfl rfl rfl Tryz.underlying41 rfl sz41) fun a E=>bd hm fun u102 hx103 hm=>x_cl E rfl rfl rfl rfl rfl cf44 (c_part_Right x1 (.slice q9 x1.Nodes.length x10) (.slice q11 x1.Turns.length x12) H hr5 hr6 hx103)<|?_
  rintro _ w ⟨rfl, H⟩ a E
  refine pr 2 E rfl fun a E=>cs hm (fun hb104 hm=>?_) fun hb104 hm=>?_
  ·exact pk 4 E (kc 12 rfl hb104) rfl fun a E=>nt<|have H:=H.front 0 rfl;have H:=H.front 1 rfl;have H:=H.front 2 rfl;have H:=H.front 3 rfl;have H:=H.front 4 rfl;⟨true, _, E.sel [2, 3, 4, 5, 6, 16] rfl, H, fun r hr => hr, hr5, hr6, hr7, hm⟩
  ·refine st_val E (ws' (d := 12) E rfl rfl rfl rfl hb104) rfl rfl (x_ldBN (i := 3) (us := (l_api_Part x4)) E H rfl rfl rfl rfl Tryz.underlying62 rfl sz62) fun a E=>bd hm fun u105 hx106 hm=>st_call E (ws' (d := 12) E rfl rfl rfl rfl hb104) rfl rfl (x_call E rfl rfl (cf38 _)) (c_part_May x4 H hx106)<|?_
   rintro _ w ⟨rfl, H⟩ a E
   exact pk 2 E (kc 12 rfl hb104) rfl fun a E=>nt<|have H:=H.front 0 rfl;have H:=H.front 1 rfl;have H:=H.front 2 rfl;have H:=H.front 3 rfl;have H:=H.front 4 rfl;⟨!u105, _, E.sel [2, 3, 4, 5, 6, 16] rfl, H, fun r hr => hr, hr5, hr6, hr7, hm⟩
 ·clear E H hm
  rintro a w ⟨b17, rs18, E, H, hs19, hr20, hr21, hr22, hm⟩
  unfold m_part_Do_j1 at hm
  refine wif E hm rfl (fun hm=>?_) fun hm=>?_
  ·refine sq<|sv E rfl rfl rfl (x_build E rfl (E.evs rfl) (v := .agg #[.slice none 0 0, .slice none 0 0]) (by kernel_rfl)) fun a E=>sv E rfl rfl rfl (x_build E rfl (E.evs rfl) (v := .agg #[.int .i64 1, .string (ByteArray.mk #[]), .string (ByteArray.mk #[]), .int .i64 0, .slice none 0 0]) (by kernel_rfl)) fun a E=>st_st (i := 2) E H (wn rfl) rfl (us := [.slice none 0 0, .slice none 0 0]) rfl rfl rfl rfl rfl sz41 rfl rfl fun w H=>st_st (i := 3) E H (wn rfl) rfl (us := [.int .i64 1, .string (ByteArray.mk #[]), .string (ByteArray.mk #[]), .int .i64 0, .slice none 0 0]) rfl rfl rfl rfl rfl sz51 rfl rfl fun w H=>nt<|wp_ret<|q_thenR<|outR2 E rfl (rvBN (i := 2) (us := [.slice none 0 0, .slice none 0 0]) H rfl rfl rfl Tryz.underlying41 rfl sz41) (rvBN (i := 3) (us := [.int .i64 1, .string (ByteArray.mk #[]), .string (ByteArray.mk #[]), .int .i64 0, .slice none 0 0]) H rfl rfl rfl Tryz.underlying51 rfl sz51)<|?_
   refine have H:=H.nilSl k_api_Node;have H:=H.nilSl k_api_Turn;have H:=H.nilSl kS;have H:=H.drop 0;have H:=H.drop 0;have H:=H.drop 0;have H:=H.drop 0;have H:=H.drop 0;?_
   cases hm
   exact ⟨(.slice none 0 0), (.slice none 0 0), (.slice none 0 0), rfl, H.reads (sub_cons mm2 (sub_cons mm1 (sub_cons m0 (fun r hr => (t3 (hs19 r hr))))))⟩
  ·refine wp_skip<|q_then<|wp_seq<|dw [(0, 0), (1, 0), (3, 0), (4, 0), (2, 1), (5, 1), (6, 0), (7, 0), (8, 1), (9, 2)] [0] [] H (by kernel_rfl) (fun _ _ _ h => False.elim h.2) fun w W0 hI H=>fn 1 E rfl fun a E=>fb E rfl (wn rfl) rfl rfl rfl rfl m0 rfl Tryz.underlying22 rfl fun a E=>fn 1 E rfl fun a E=>fb E rfl (wn rfl) rfl rfl rfl rfl m0 rfl Tryz.underlying39 rfl fun a E=>fr_op rfl<|?_
   refine bk hm fun hx25 hm=>st_call E (wn rfl) rfl rfl (x_call E rfl rfl (cf88 _)) (lib_slices_Clone_api_Node_api_Node_rd H hr20 hx25) fun v23 w H a E=>nt<|?_
   refine ⟨⟨_, _, H, (subO_cons mm1 (subO_nil)), (sub_nil)⟩, ?_⟩
   refine fr_op rfl<|bk hm fun hx28 hm=>st_call E (wn rfl) rfl rfl (x_call E rfl rfl (cf89 _)) (lib_slices_Clone_api_Turn_api_Turn_rd H hr21 hx28) fun v26 w H a E=>nt<|?_
   refine ⟨⟨_, _, H, (subO_cons mm2 (subO_nil)), (sub_nil)⟩, ?_⟩
   obtain ⟨q29, x30, rfl⟩ := H.rowform (i := 1) rfl
   obtain ⟨q31, x32, rfl⟩ := H.rowform (i := 0) rfl
   refine fr_val E rfl (wn rfl) rfl rfl (fun w hW=>(x_build E rfl (E.evs rfl) (v := .agg #[(.slice q29 x1.Nodes.length x30), (.slice q31 x1.Turns.length x32)]) (by kernel_rfl))) fun a E=>?_
   refine fr_val E rfl (wn rfl) rfl rfl (fun w hW=>(x_build E rfl (E.evs rfl) (v := .agg #[(.slice q29 x1.Nodes.length x30), (.slice q31 x1.Turns.length x32), .int .i64 0, .string (ByteArray.mk #[]), .string (ByteArray.mk #[]), .int .i64 0, .slice none 0 0]) (by kernel_rfl))) fun a E=>?_
   refine fr_op rfl<|st_box E H (wn rfl) rfl rfl (cs := [(.slice q29 x1.Nodes.length x30), (.slice q31 x1.Turns.length x32), .int .i64 0, .string (ByteArray.mk #[]), .string (ByteArray.mk #[]), .int .i64 0, .slice none 0 0]) rfl rfl rfl fun p33 w a H E=>nt<|?_
   refine ⟨⟨_, _, H, (subO_cons mm3 (subO_nil)), (sub_nil)⟩, ?_⟩
   refine fr_tail rfl<|pr 1 E rfl fun a E=>nt<|fr_nil<|?_
   clear hI
   refine q_then<|wp_seq<|wp_seq_cut (fun a w => ∃ (v34 : Value) (v36 : Value) (v42 : Value) (l35 : (List S_api_Node)) (l37 : (List S_api_Turn)) (x38 : Int) (s39 : ByteArray) (s40 : ByteArray) (x41 : Int) (l43 : (List ByteArray)) (rs44 : List Rp), Env 54 a [(2, pt p8 0), (4, pt p14 0), (5, pt p15 0), (7, pt p33 0)] ∧ Sep w (Blk p8 41 [(.slice q9 x1.Nodes.length x10), (.slice q11 x1.Turns.length x12)] :: Blk p14 41 [.slice none 0 0, .slice none 0 0] :: Blk p15 51 z_api_Result :: Blk p33 105 [v34, v36, .int .i64 x38, .string s39, .string s40, .int .i64 x41, v42] :: Row 80 k_api_Node v34 l35 :: Row 83 k_api_Turn v36 l37 :: Row 9 kS v42 l43 :: Fo) rs44 ∧ (∀ r, r ∈ rs → r ∈ rs44) ∧ rSl k_api_Node (.slice q9 x1.Nodes.length x10) x1.Nodes ∈ rs44 ∧ rSl k_api_Turn (.slice q11 x1.Turns.length x12) x1.Turns ∈ rs44 ∧ rTab Tryz.prog ∈ rs44 ∧ m_part_Do_j2 x1 l35 l37 x38 s39 s40 x41 l43 = some r) ?_ ?_
   ·refine dw [(0, 0), (1, 0), (2, 0), (3, 0), (4, 0), (5, 0), (6, 1)] [4, 7] [] H (by kernel_rfl) (fun _ _ _ h => False.elim h.2) fun w W0 hI H=>fn 1 E rfl fun a E=>fb E rfl (wn rfl) rfl rfl rfl rfl m0 rfl Tryz.underlying3 rfl fun a E=>cs hm (fun hb98 hm=>?_) fun hb98 hm=>?_
    ·refine fr_val E rfl (wn rfl) rfl rfl (fun w hW=>x_ixP (j := 1) E rfl rfl rfl hb98 rfl Tryz.underlying101 sz98) fun a E=>?_
     refine fb E rfl (wn rfl) rfl rfl rfl rfl mm1 rfl Tryz.underlying98 rfl fun a E=>fn 1 E rfl fun a E=>fbn E (l_api_Part x4) rfl (wn rfl) rfl rfl rfl rfl m0 rfl Tryz.underlying62 rfl sz62 fun a E=>fr_op rfl<|have H:=H.nilRow 9 kS;have H:=H.front 8 rfl;have H:=H.front 8 rfl;have H:=H.front 8 rfl;have H:=H.front 8 rfl;?_
     refine have H:=H.front 8 rfl;have H:=H.front 5 rfl;have H:=H.front 7 rfl;have H:=H.front 8 rfl;have H:=H.front 8 rfl;bd hm fun u99 hx100 hm=>st_call E (wn rfl) rfl rfl (x_callv E rfl rfl rfl (cf78 _)) (c_part_work_guard p33 (.slice q29 x1.Nodes.length x30) x1.Nodes (.slice q31 x1.Turns.length x32) x1.Turns 0 (ByteArray.mk #[]) (ByteArray.mk #[]) 0 (.slice none 0 0) [] x4 H hx100)<|?_
     rintro _ w ⟨v101, rfl, H⟩ a E
     refine nt<|?_
     refine ⟨⟨_, _, H, (subO_cons mm5 (subO_cons (t2 mm6) (subO_nil))), (sub_nil)⟩, ?_⟩
     refine fr_nil<|?_
     clear hI
     refine q_then<|have H:=H.drop 5;have H:=H.drop 7;have H:=H.front 3 rfl;have H:=H.front 3 rfl;have H:=H.front 3 rfl;have H:=H.front 3 rfl;have H:=H.front 6 rfl;have H:=H.front 6 rfl;?_
     exact have H:=H.front 6 rfl;⟨(.slice q29 x1.Nodes.length x30), (.slice q31 x1.Turns.length x32), v101, x1.Nodes, x1.Turns, u99.1, u99.2.1, u99.2.2.1, u99.2.2.2.1, u99.2.2.2.2, _, E.sel [2, 4, 5, 7] rfl, H, hs19, hr20, hr21, hr22, hm⟩
    ·refine cs hm (fun hb92 hm=>?_) fun hb92 hm=>?_
     ·refine fr_val E rfl (wn rfl) rfl rfl (fun w hW=>x_ixP (j := 2) E rfl rfl rfl hb92 rfl Tryz.underlying101 sz98) fun a E=>?_
      refine fb E rfl (wn rfl) rfl rfl rfl rfl mm1 rfl Tryz.underlying98 rfl fun a E=>fn 1 E rfl fun a E=>fbn E (l_api_Part x4) rfl (wn rfl) rfl rfl rfl rfl m0 rfl Tryz.underlying62 rfl sz62 fun a E=>fr_op rfl<|have H:=H.nilRow 9 kS;have H:=H.front 8 rfl;have H:=H.front 8 rfl;have H:=H.front 8 rfl;have H:=H.front 8 rfl;?_
      refine have H:=H.front 8 rfl;have H:=H.front 5 rfl;have H:=H.front 7 rfl;have H:=H.front 8 rfl;have H:=H.front 8 rfl;bd hm fun u93 hx94 hm=>st_call E (wn rfl) rfl rfl (x_callv E rfl rfl rfl (cf79 _)) (c_part_work_put p33 (.slice q29 x1.Nodes.length x30) x1.Nodes (.slice q31 x1.Turns.length x32) x1.Turns 0 (ByteArray.mk #[]) (ByteArray.mk #[]) 0 (.slice none 0 0) [] x4 H hr22 hx94)<|?_
      rintro _ w ⟨v95, v96, v97, rfl, H⟩ a E
      refine nt<|?_
      refine ⟨⟨_, _, H, (subO_cons mm5 (subO_cons (t2 mm6) (subO_nil))), (sub_nil)⟩, ?_⟩
      refine fr_nil<|?_
      clear hI
      refine q_then<|have H:=H.drop 5;have H:=H.drop 7;have H:=H.front 3 rfl;have H:=H.front 3 rfl;have H:=H.front 3 rfl;have H:=H.front 3 rfl;have H:=H.front 6 rfl;have H:=H.front 6 rfl;?_
      exact have H:=H.front 6 rfl;⟨v95, v96, v97, u93.1, u93.2.1, u93.2.2.1, u93.2.2.2.1, u93.2.2.2.2.1, u93.2.2.2.2.2.1, u93.2.2.2.2.2.2, _, E.sel [2, 4, 5, 7] rfl, H, hs19, hr20, hr21, hr22, hm⟩
     ·refine cs hm (fun hb87 hm=>?_) fun hb87 hm=>?_
      ·refine fr_val E rfl (wn rfl) rfl rfl (fun w hW=>x_ixP (j := 3) E rfl rfl rfl hb87 rfl Tryz.underlying101 sz98) fun a E=>?_
       refine fb E rfl (wn rfl) rfl rfl rfl rfl mm1 rfl Tryz.underlying98 rfl fun a E=>fn 1 E rfl fun a E=>fbn E (l_api_Part x4) rfl (wn rfl) rfl rfl rfl rfl m0 rfl Tryz.underlying62 rfl sz62 fun a E=>fr_op rfl<|have H:=H.nilRow 9 kS;have H:=H.front 8 rfl;have H:=H.front 8 rfl;have H:=H.front 8 rfl;have H:=H.front 8 rfl;?_
       refine have H:=H.front 8 rfl;have H:=H.front 5 rfl;have H:=H.front 7 rfl;have H:=H.front 8 rfl;have H:=H.front 8 rfl;bd hm fun u88 hx89 hm=>st_call E (wn rfl) rfl rfl (x_callv E rfl rfl rfl (cf80 _)) (c_part_work_remove p33 (.slice q29 x1.Nodes.length x30) x1.Nodes (.slice q31 x1.Turns.length x32) x1.Turns 0 (ByteArray.mk #[]) (ByteArray.mk #[]) 0 (.slice none 0 0) [] x4 H hx89)<|?_
       rintro _ w ⟨v90, v91, rfl, H⟩ a E
       refine nt<|?_
       refine ⟨⟨_, _, H, (subO_cons mm5 (subO_cons (t2 mm6) (subO_nil))), (sub_nil)⟩, ?_⟩
       refine fr_nil<|?_
       clear hI
       refine q_then<|have H:=H.drop 5;have H:=H.drop 7;have H:=H.front 3 rfl;have H:=H.front 3 rfl;have H:=H.front 3 rfl;have H:=H.front 3 rfl;have H:=H.front 6 rfl;have H:=H.front 6 rfl;?_
       exact have H:=H.front 6 rfl;⟨v90, (.slice q31 x1.Turns.length x32), v91, u88.1, x1.Turns, u88.2.1, u88.2.2.1, u88.2.2.2.1, u88.2.2.2.2.1, u88.2.2.2.2.2, _, E.sel [2, 4, 5, 7] rfl, H, hs19, hr20, hr21, hr22, hm⟩
      ·refine cs hm (fun hb82 hm=>?_) fun hb82 hm=>?_
       ·refine fr_val E rfl (wn rfl) rfl rfl (fun w hW=>x_ixP (j := 4) E rfl rfl rfl hb82 rfl Tryz.underlying101 sz98) fun a E=>?_
        refine fb E rfl (wn rfl) rfl rfl rfl rfl mm1 rfl Tryz.underlying98 rfl fun a E=>fn 1 E rfl fun a E=>fbn E (l_api_Part x4) rfl (wn rfl) rfl rfl rfl rfl m0 rfl Tryz.underlying62 rfl sz62 fun a E=>fr_op rfl<|have H:=H.nilRow 9 kS;have H:=H.front 8 rfl;have H:=H.front 8 rfl;have H:=H.front 8 rfl;have H:=H.front 8 rfl;?_
        refine have H:=H.front 8 rfl;have H:=H.front 5 rfl;have H:=H.front 7 rfl;have H:=H.front 8 rfl;have H:=H.front 8 rfl;bd hm fun u83 hx84 hm=>st_call E (wn rfl) rfl rfl (x_callv E rfl rfl rfl (cf81 _)) (c_part_work_empty p33 (.slice q29 x1.Nodes.length x30) x1.Nodes (.slice q31 x1.Turns.length x32) x1.Turns 0 (ByteArray.mk #[]) (ByteArray.mk #[]) 0 (.slice none 0 0) [] x4 H hx84)<|?_
        rintro _ w ⟨v85, v86, rfl, H⟩ a E
        refine nt<|?_
        refine ⟨⟨_, _, H, (subO_cons mm5 (subO_cons (t2 mm6) (subO_nil))), (sub_nil)⟩, ?_⟩
        refine fr_nil<|?_
        clear hI
        refine q_then<|have H:=H.drop 5;have H:=H.drop 7;have H:=H.front 3 rfl;have H:=H.front 3 rfl;have H:=H.front 3 rfl;have H:=H.front 3 rfl;have H:=H.front 6 rfl;have H:=H.front 6 rfl;?_
        exact have H:=H.front 6 rfl;⟨(.slice q29 x1.Nodes.length x30), v85, v86, x1.Nodes, u83.1, u83.2.1, u83.2.2.1, u83.2.2.2.1, u83.2.2.2.2.1, u83.2.2.2.2.2, _, E.sel [2, 4, 5, 7] rfl, H, hs19, hr20, hr21, hr22, hm⟩
       ·refine cs hm (fun hb78 hm=>?_) fun hb78 hm=>?_
        ·refine fr_val E rfl (wn rfl) rfl rfl (fun w hW=>x_ixP (j := 5) E rfl rfl rfl hb78 rfl Tryz.underlying101 sz98) fun a E=>?_
         refine fb E rfl (wn rfl) rfl rfl rfl rfl mm1 rfl Tryz.underlying98 rfl fun a E=>fn 1 E rfl fun a E=>fbn E (l_api_Part x4) rfl (wn rfl) rfl rfl rfl rfl m0 rfl Tryz.underlying62 rfl sz62 fun a E=>fr_op rfl<|have H:=H.nilRow 9 kS;have H:=H.front 8 rfl;have H:=H.front 8 rfl;have H:=H.front 8 rfl;have H:=H.front 8 rfl;?_
         refine have H:=H.front 8 rfl;have H:=H.front 5 rfl;have H:=H.front 7 rfl;have H:=H.front 8 rfl;have H:=H.front 8 rfl;bd hm fun u79 hx80 hm=>st_call E (wn rfl) rfl rfl (x_callv E rfl rfl rfl (cf82 _)) (c_part_work_alter p33 (.slice q29 x1.Nodes.length x30) x1.Nodes (.slice q31 x1.Turns.length x32) x1.Turns 0 (ByteArray.mk #[]) (ByteArray.mk #[]) 0 (.slice none 0 0) [] x4 H hx80)<|?_
         rintro _ w ⟨v81, rfl, H⟩ a E
         refine nt<|?_
         refine ⟨⟨_, _, H, (subO_cons mm5 (subO_cons (t2 mm6) (subO_nil))), (sub_nil)⟩, ?_⟩
         refine fr_nil<|?_
         clear hI
         refine q_then<|have H:=H.drop 5;have H:=H.drop 7;have H:=H.front 3 rfl;have H:=H.front 3 rfl;have H:=H.front 3 rfl;have H:=H.front 3 rfl;have H:=H.front 6 rfl;have H:=H.front 6 rfl;?_
         exact have H:=H.front 6 rfl;⟨(.slice q29 x1.Nodes.length x30), (.slice q31 x1.Turns.length x32), v81, u79.1, x1.Turns, u79.2.1, u79.2.2.1, u79.2.2.2.1, u79.2.2.2.2.1, u79.2.2.2.2.2, _, E.sel [2, 4, 5, 7] rfl, H, hs19, hr20, hr21, hr22, hm⟩
        ·refine cs hm (fun hb74 hm=>?_) fun hb74 hm=>?_
         ·refine fr_val E rfl (wn rfl) rfl rfl (fun w hW=>x_ixP (j := 6) E rfl rfl rfl hb74 rfl Tryz.underlying101 sz98) fun a E=>?_
          refine fb E rfl (wn rfl) rfl rfl rfl rfl mm1 rfl Tryz.underlying98 rfl fun a E=>fn 1 E rfl fun a E=>fbn E (l_api_Part x4) rfl (wn rfl) rfl rfl rfl rfl m0 rfl Tryz.underlying62 rfl sz62 fun a E=>fr_op rfl<|have H:=H.nilRow 9 kS;have H:=H.front 8 rfl;have H:=H.front 8 rfl;have H:=H.front 8 rfl;have H:=H.front 8 rfl;?_
          refine have H:=H.front 8 rfl;have H:=H.front 5 rfl;have H:=H.front 7 rfl;have H:=H.front 8 rfl;have H:=H.front 8 rfl;bd hm fun u75 hx76 hm=>st_call E (wn rfl) rfl rfl (x_callv E rfl rfl rfl (cf83 _)) (c_part_work_look p33 (.slice q29 x1.Nodes.length x30) x1.Nodes (.slice q31 x1.Turns.length x32) x1.Turns 0 (ByteArray.mk #[]) (ByteArray.mk #[]) 0 (.slice none 0 0) [] x4 H hx76)<|?_
          rintro _ w ⟨v77, rfl, H⟩ a E
          refine nt<|?_
          refine ⟨⟨_, _, H, (subO_cons mm5 (subO_cons (t2 mm6) (subO_nil))), (sub_nil)⟩, ?_⟩
          refine fr_nil<|?_
          clear hI
          refine q_then<|have H:=H.drop 5;have H:=H.drop 7;have H:=H.front 3 rfl;have H:=H.front 3 rfl;have H:=H.front 3 rfl;have H:=H.front 3 rfl;have H:=H.front 6 rfl;have H:=H.front 6 rfl;?_
          exact have H:=H.front 6 rfl;⟨(.slice q29 x1.Nodes.length x30), (.slice q31 x1.Turns.length x32), v77, x1.Nodes, x1.Turns, u75.1, u75.2.1, u75.2.2.1, u75.2.2.2.1, u75.2.2.2.2, _, E.sel [2, 4, 5, 7] rfl, H, hs19, hr20, hr21, hr22, hm⟩
         ·refine cs hm (fun hb70 hm=>?_) fun hb70 hm=>?_
          ·refine fr_val E rfl (wn rfl) rfl rfl (fun w hW=>x_ixP (j := 7) E rfl rfl rfl hb70 rfl Tryz.underlying101 sz98) fun a E=>?_
           refine fb E rfl (wn rfl) rfl rfl rfl rfl mm1 rfl Tryz.underlying98 rfl fun a E=>fn 1 E rfl fun a E=>fbn E (l_api_Part x4) rfl (wn rfl) rfl rfl rfl rfl m0 rfl Tryz.underlying62 rfl sz62 fun a E=>fr_op rfl<|have H:=H.nilRow 9 kS;have H:=H.front 8 rfl;have H:=H.front 8 rfl;have H:=H.front 8 rfl;have H:=H.front 8 rfl;?_
           refine have H:=H.front 8 rfl;have H:=H.front 5 rfl;have H:=H.front 7 rfl;have H:=H.front 8 rfl;have H:=H.front 8 rfl;bd hm fun u71 hx72 hm=>st_call E (wn rfl) rfl rfl (x_callv E rfl rfl rfl (cf84 _)) (c_part_work_read p33 (.slice q29 x1.Nodes.length x30) x1.Nodes (.slice q31 x1.Turns.length x32) x1.Turns 0 (ByteArray.mk #[]) (ByteArray.mk #[]) 0 (.slice none 0 0) [] x4 H hx72)<|?_
           rintro _ w ⟨v73, rfl, H⟩ a E
           refine nt<|?_
           refine ⟨⟨_, _, H, (subO_cons mm5 (subO_cons (t2 mm6) (subO_nil))), (sub_nil)⟩, ?_⟩
           refine fr_nil<|?_
           clear hI
           refine q_then<|have H:=H.drop 5;have H:=H.drop 7;have H:=H.front 3 rfl;have H:=H.front 3 rfl;have H:=H.front 3 rfl;have H:=H.front 3 rfl;have H:=H.front 6 rfl;have H:=H.front 6 rfl;?_
           exact have H:=H.front 6 rfl;⟨(.slice q29 x1.Nodes.length x30), (.slice q31 x1.Turns.length x32), v73, x1.Nodes, x1.Turns, u71.1, u71.2.1, u71.2.2.1, u71.2.2.2.1, u71.2.2.2.2, _, E.sel [2, 4, 5, 7] rfl, H, hs19, hr20, hr21, hr22, hm⟩
          ·refine cs hm (fun hb66 hm=>?_) fun hb66 hm=>?_
           ·refine fr_val E rfl (wn rfl) rfl rfl (fun w hW=>x_ixP (j := 8) E rfl rfl rfl hb66 rfl Tryz.underlying101 sz98) fun a E=>?_
            refine fb E rfl (wn rfl) rfl rfl rfl rfl mm1 rfl Tryz.underlying98 rfl fun a E=>fn 1 E rfl fun a E=>fbn E (l_api_Part x4) rfl (wn rfl) rfl rfl rfl rfl m0 rfl Tryz.underlying62 rfl sz62 fun a E=>fr_op rfl<|have H:=H.nilRow 9 kS;have H:=H.front 8 rfl;have H:=H.front 8 rfl;have H:=H.front 8 rfl;have H:=H.front 8 rfl;?_
            refine have H:=H.front 8 rfl;have H:=H.front 5 rfl;have H:=H.front 7 rfl;have H:=H.front 8 rfl;have H:=H.front 8 rfl;bd hm fun u67 hx68 hm=>st_call E (wn rfl) rfl rfl (x_callv E rfl rfl rfl (cf85 _)) (c_part_work_has p33 (.slice q29 x1.Nodes.length x30) x1.Nodes (.slice q31 x1.Turns.length x32) x1.Turns 0 (ByteArray.mk #[]) (ByteArray.mk #[]) 0 (.slice none 0 0) [] x4 H hx68)<|?_
            rintro _ w ⟨v69, rfl, H⟩ a E
            refine nt<|?_
            refine ⟨⟨_, _, H, (subO_cons mm5 (subO_cons (t2 mm6) (subO_nil))), (sub_nil)⟩, ?_⟩
            refine fr_nil<|?_
            clear hI
            refine q_then<|have H:=H.drop 5;have H:=H.drop 7;have H:=H.front 3 rfl;have H:=H.front 3 rfl;have H:=H.front 3 rfl;have H:=H.front 3 rfl;have H:=H.front 6 rfl;have H:=H.front 6 rfl;?_
            exact have H:=H.front 6 rfl;⟨(.slice q29 x1.Nodes.length x30), (.slice q31 x1.Turns.length x32), v69, x1.Nodes, x1.Turns, u67.1, u67.2.1, u67.2.2.1, u67.2.2.2.1, u67.2.2.2.2, _, E.sel [2, 4, 5, 7] rfl, H, hs19, hr20, hr21, hr22, hm⟩
           ·refine cs hm (fun hb62 hm=>?_) fun hb62 hm=>?_
            ·refine fr_val E rfl (wn rfl) rfl rfl (fun w hW=>x_ixP (j := 9) E rfl rfl rfl hb62 rfl Tryz.underlying101 sz98) fun a E=>?_
             refine fb E rfl (wn rfl) rfl rfl rfl rfl mm1 rfl Tryz.underlying98 rfl fun a E=>fn 1 E rfl fun a E=>fbn E (l_api_Part x4) rfl (wn rfl) rfl rfl rfl rfl m0 rfl Tryz.underlying62 rfl sz62 fun a E=>fr_op rfl<|have H:=H.nilRow 9 kS;have H:=H.front 8 rfl;have H:=H.front 8 rfl;have H:=H.front 8 rfl;have H:=H.front 8 rfl;?_
             refine have H:=H.front 8 rfl;have H:=H.front 5 rfl;have H:=H.front 7 rfl;have H:=H.front 8 rfl;have H:=H.front 8 rfl;bd hm fun u63 hx64 hm=>st_call E (wn rfl) rfl rfl (x_callv E rfl rfl rfl (cf86 _)) (c_part_work_names p33 (.slice q29 x1.Nodes.length x30) x1.Nodes (.slice q31 x1.Turns.length x32) x1.Turns 0 (ByteArray.mk #[]) (ByteArray.mk #[]) 0 (.slice none 0 0) [] x4 H hx64)<|?_
             rintro _ w ⟨v65, rfl, H⟩ a E
             refine nt<|?_
             refine ⟨⟨_, _, H, (subO_cons mm5 (subO_cons (t2 mm6) (subO_nil))), (sub_nil)⟩, ?_⟩
             refine fr_nil<|?_
             clear hI
             refine q_then<|have H:=H.drop 5;have H:=H.drop 7;have H:=H.front 3 rfl;have H:=H.front 3 rfl;have H:=H.front 3 rfl;have H:=H.front 3 rfl;have H:=H.front 6 rfl;have H:=H.front 6 rfl;?_
             exact have H:=H.front 6 rfl;⟨(.slice q29 x1.Nodes.length x30), (.slice q31 x1.Turns.length x32), v65, x1.Nodes, x1.Turns, 0, (ByteArray.mk #[]), (ByteArray.mk #[]), 0, u63, _, E.sel [2, 4, 5, 7] rfl, H, hs19, hr20, hr21, hr22, hm⟩
            ·refine cs hm (fun hb57 hm=>?_) fun hb57 hm=>?_
             ·refine fr_val E rfl (wn rfl) rfl rfl (fun w hW=>x_ixP (j := 10) E rfl rfl rfl hb57 rfl Tryz.underlying101 sz98) fun a E=>?_
              refine fb E rfl (wn rfl) rfl rfl rfl rfl mm1 rfl Tryz.underlying98 rfl fun a E=>fn 1 E rfl fun a E=>fbn E (l_api_Part x4) rfl (wn rfl) rfl rfl rfl rfl m0 rfl Tryz.underlying62 rfl sz62 fun a E=>fr_op rfl<|have H:=H.nilRow 9 kS;have H:=H.front 8 rfl;have H:=H.front 8 rfl;have H:=H.front 8 rfl;have H:=H.front 8 rfl;?_
              refine have H:=H.front 8 rfl;have H:=H.front 5 rfl;have H:=H.front 7 rfl;have H:=H.front 8 rfl;have H:=H.front 8 rfl;bd hm fun u58 hx59 hm=>st_call E (wn rfl) rfl rfl (x_callv E rfl rfl rfl (cf87 _)) (c_part_work_clear p33 (.slice q29 x1.Nodes.length x30) x1.Nodes (.slice q31 x1.Turns.length x32) x1.Turns 0 (ByteArray.mk #[]) (ByteArray.mk #[]) 0 (.slice none 0 0) [] x4 H hx59)<|?_
              rintro _ w ⟨v60, v61, rfl, H⟩ a E
              refine nt<|?_
              refine ⟨⟨_, _, H, (subO_cons mm5 (subO_cons (t2 mm6) (subO_nil))), (sub_nil)⟩, ?_⟩
              refine fr_nil<|?_
              clear hI
              refine q_then<|have H:=H.drop 5;have H:=H.drop 7;have H:=H.front 3 rfl;have H:=H.front 3 rfl;have H:=H.front 3 rfl;have H:=H.front 3 rfl;have H:=H.front 6 rfl;have H:=H.front 6 rfl;?_
              exact have H:=H.front 6 rfl;⟨v60, (.slice q31 x1.Turns.length x32), v61, u58.1, x1.Turns, 0, (ByteArray.mk #[]), (ByteArray.mk #[]), 0, u58.2, _, E.sel [2, 4, 5, 7] rfl, H, hs19, hr20, hr21, hr22, hm⟩
             ·exact (none_some hm rfl).elim
   ·clear E H hm
    rintro a w ⟨v34, v36, v42, l35, l37, x38, s39, s40, x41, l43, rs44, E, H, hs45, hr46, hr47, hr48, hm⟩
    unfold m_part_Do_j2 at hm
    refine sq<|pr 4 E rfl fun a E=>lb E H 3 rfl rfl rfl rfl rfl rfl rfl Tryz.underlying27 rfl fun a E=>pr 1 E rfl fun a E=>nt<|wif E hm rfl (fun hm=>?_) fun hm=>?_
    ·refine wp_seq<|dw [(0, 0), (1, 0), (2, 0), (3, 0), (4, 0), (5, 1), (6, 2)] [0, 3] [] H (by kernel_rfl) (fun _ _ _ h => False.elim h.2) fun w W0 hI H=>fbn E [(.slice q9 x1.Nodes.length x10), (.slice q11 x1.Turns.length x12)] rfl (wn rfl) rfl rfl rfl rfl m0 rfl Tryz.underlying41 rfl sz41 fun a E=>fn 3 E rfl fun a E=>fbn E [.int .i64 x38, .string s39, .string s40, .int .i64 x41, v42] rfl (wn rfl) rfl rfl rfl rfl mm1 rfl Tryz.underlying51 rfl sz51 fun a E=>fr_op rfl<|st_st (i := 1) E H (wn rfl) rfl (us := [(.slice q9 x1.Nodes.length x10), (.slice q11 x1.Turns.length x12)]) rfl rfl rfl rfl rfl sz41 rfl rfl fun w H=>nt<|?_
     refine ⟨⟨_, _, H, (subO_cons m0 (subO_cons mm3 (subO_nil))), (sub_nil)⟩, ?_⟩
     refine fr_tail rfl<|?_
     obtain ⟨q49, x50, rfl⟩ := H.rowform (i := 6) rfl
     refine st_st (i := 2) E H (wn rfl) rfl (us := [.int .i64 x38, .string s39, .string s40, .int .i64 x41, (.slice q49 l43.length x50)]) rfl rfl rfl rfl rfl sz51 rfl rfl fun w H=>nt<|fr_nil<|?_
     clear hI
     refine q_then<|wp_ret<|q_thenR<|outR2 E rfl (rvBN (i := 1) (us := [(.slice q9 x1.Nodes.length x10), (.slice q11 x1.Turns.length x12)]) H rfl rfl rfl Tryz.underlying41 rfl sz41) (rvBN (i := 2) (us := [.int .i64 x38, .string s39, .string s40, .int .i64 x41, (.slice q49 l43.length x50)]) H rfl rfl rfl Tryz.underlying51 rfl sz51)<|have H:=H.thaw (i := 6) rfl;have H:=H.drop 0;have H:=H.drop 0;have H:=H.drop 0;have H:=H.drop 0;?_
     refine have H:=H.drop 0;have H:=H.drop 0;?_
     cases hm
     exact ⟨(.slice q9 x1.Nodes.length x10), (.slice q11 x1.Turns.length x12), (.slice q49 l43.length x50), rfl, H.reads (sub_cons (t1 hr46) (sub_cons (t1 hr47) (sub_cons m0 (fun r hr => (t1 (hs45 r hr))))))⟩
    ·refine wp_skip<|q_then<|wp_seq<|dw [(0, 0), (1, 0), (2, 0), (3, 0), (4, 0), (5, 0), (6, 0), (7, 0), (8, 1), (9, 2)] [3] [] H (by kernel_rfl) (fun _ _ _ h => False.elim h.2) fun w W0 hI H=>fn 3 E rfl fun a E=>fbn E [v34, v36] rfl (wn rfl) rfl rfl rfl rfl m0 rfl Tryz.underlying41 rfl sz41 fun a E=>fn 3 E rfl fun a E=>fbn E [.int .i64 x38, .string s39, .string s40, .int .i64 x41, v42] rfl (wn rfl) rfl rfl rfl rfl m0 rfl Tryz.underlying51 rfl sz51 fun a E=>fr_op rfl<|?_
     obtain ⟨q51, x52, rfl⟩ := H.rowform (i := 4) rfl
     obtain ⟨q53, x54, rfl⟩ := H.rowform (i := 5) rfl
     refine st_st (i := 1) E H (wn rfl) rfl (us := [(.slice q51 l35.length x52), (.slice q53 l37.length x54)]) rfl rfl rfl rfl rfl sz41 rfl rfl fun w H=>nt<|?_
     refine ⟨⟨_, _, H, (subO_cons mm3 (subO_nil)), (sub_nil)⟩, ?_⟩
     refine fr_tail rfl<|?_
     obtain ⟨q55, x56, rfl⟩ := H.rowform (i := 6) rfl
     refine st_st (i := 2) E H (wn rfl) rfl (us := [.int .i64 x38, .string s39, .string s40, .int .i64 x41, (.slice q55 l43.length x56)]) rfl rfl rfl rfl rfl sz51 rfl rfl fun w H=>nt<|fr_nil<|?_
     clear hI
     refine q_then<|wp_ret<|outR2 E rfl (rvBN (i := 1) (us := [(.slice q51 l35.length x52), (.slice q53 l37.length x54)]) H rfl rfl rfl Tryz.underlying41 rfl sz41) (rvBN (i := 2) (us := [.int .i64 x38, .string s39, .string s40, .int .i64 x41, (.slice q55 l43.length x56)]) H rfl rfl rfl Tryz.underlying51 rfl sz51)<|have H:=H.thaw (i := 4) rfl;have H:=H.thaw (i := 4) rfl;have H:=H.thaw (i := 4) rfl;have H:=H.drop 0;have H:=H.drop 0;have H:=H.drop 0;?_
     refine have H:=H.drop 0;?_
     cases hm
     exact ⟨(.slice q51 l35.length x52), (.slice q53 l37.length x54), (.slice q55 l43.length x56), rfl, H.reads (sub_cons mm2 (sub_cons mm1 (sub_cons m0 (fun r hr => (t3 (hs45 r hr))))))⟩

def m_multi_All_l1 (l5 : List S_api_Piece) (x1 : S_api_Store) : Nat → (List S_api_Result) → Int → (List S_api_Node) → (List S_api_Turn) → Option (S_api_Store × (List S_api_Result) × Int × Int)
  | 0, _, _, _, _ => none
  | k1 + 1, l18, x19, l21, l23 =>
    if (decide (x19 < (l5.length : Int))) = true then ((idx l5 x19).bind fun x32 => (m_part_Do (⟨l21, l23⟩ : S_api_Store) x32.Part).bind fun u36 => if (u36.2.Err != 0) = true then (some (x1, [], u36.2.Err, x19)) else ((ck (l18.length + ([u36.2] : List S_api_Result).length ≤ LIM)).bind fun u51 => m_multi_All_l1 l5 x1 k1 (l18 ++ ([u36.2] : List S_api_Result)) (IntKind.i64.wrap (x19 + 1)) u36.1.Nodes u36.1.Turns)) else (some ((⟨l21, l23⟩ : S_api_Store), l18, 0, 0))
def m_multi_All (x1 : S_api_Store) (l5 : List S_api_Piece) : Option (S_api_Store × (List S_api_Result) × Int × Int) :=
  m_multi_All_l1 l5 x1 (((l5.length : Int) - 0 : Int).toNat + 1) [] 0 x1.Nodes x1.Turns
theorem c_multi_All {w : World} {Fo : List Ob} {rs : List Rp} (x1 : S_api_Store) (v2 : Value) (v3 : Value) (v4 : Value) (l5 : List S_api_Piece) (H : Sep w (Fo) rs) (hr6 : rSl k_api_Node v2 x1.Nodes ∈ rs) (hr7 : rSl k_api_Turn v3 x1.Turns ∈ rs) (hr8 : rSl k_api_Piece v4 l5 ∈ rs) (hr9 : rTab Tryz.prog ∈ rs) {r : S_api_Store × (List S_api_Result) × Int × Int} (hm : m_multi_All x1 l5 = some r) :
    Calls Tryz.prog 28 [.agg #[v2, v3], v4].toArray w (Ret fun v w' => ∃ (v5002 : Value) (v5003 : Value) (v5004 : Value), .tuple #[.agg #[v5002, v5003], v5004, .int .i64 r.2.2.1, .int .i64 r.2.2.2] = v ∧ Sep w' (Row 51 k_api_Result v5004 r.2.1 :: Fo) (rSl k_api_Node v5002 r.1.Nodes :: rSl k_api_Turn v5003 r.1.Turns :: rs)) := by
 unfold m_multi_All at hm
 refine enter Tryz.func28 rfl Tryz.ntmps28 rfl fun a E =>?_
 simp only [enum, Nat.reduceAdd] at E
 refine sq<|?_
 obtain ⟨q11, x12, rfl⟩ := H.slform hr6
 obtain ⟨q13, x14, rfl⟩ := H.slform hr7
 refine st_box E H (wn rfl) rfl rfl (cs := [(.slice q11 x1.Nodes.length x12), (.slice q13 x1.Turns.length x14)]) rfl rfl rfl fun p10 w a H E=>al E H rfl rfl rfl rfl zr41 fun p15 w a H E=>pr 3 E rfl fun a E=>nx<|sv E rfl rfl rfl (x_ldBN (i := 1) (us := [(.slice q11 x1.Nodes.length x12), (.slice q13 x1.Turns.length x14)]) E H rfl rfl rfl rfl Tryz.underlying41 rfl sz41) fun a E=>al E H rfl rfl rfl rfl zr41 fun p16 w a H E=>st_st (i := 0) E H (wn rfl) rfl (us := [(.slice q11 x1.Nodes.length x12), (.slice q13 x1.Turns.length x14)]) rfl rfl rfl rfl rfl sz41 rfl rfl fun w H=>nx<|pr 1 E rfl fun a E=>?_
 refine nt<|wp_seq<|sq<|pr 1 E rfl fun a E=>sv E rfl rfl rfl (x_lenS E H rfl rfl hr8 Tryz.underlying36) fun a E=>pr 1 E rfl fun a E=>nt<|wp_block<|wp_loop_g (fun k1 a w => ∃ (v17 : Value) (v20 : Value) (v22 : Value) (l18 : (List S_api_Result)) (x19 : Int) (l21 : (List S_api_Node)) (l23 : (List S_api_Turn)) (rs24 : List Rp), Env 44 a [(2, pt p10 0), (4, pt p15 0), (8, pt p16 0), (9, v17), (15, v4), (16, .int .i64 (l5.length : Int)), (17, .int .i64 x19)] ∧ Sep w (Blk p10 41 [(.slice q11 x1.Nodes.length x12), (.slice q13 x1.Turns.length x14)] :: Blk p15 41 [.slice none 0 0, .slice none 0 0] :: Blk p16 41 [v20, v22] :: Row 51 k_api_Result v17 l18 :: Fo) rs24 ∧ (∀ r, r ∈ rs → r ∈ rs24) ∧ rSl k_api_Piece v4 l5 ∈ rs24 ∧ rSl k_api_Node (.slice q11 x1.Nodes.length x12) x1.Nodes ∈ rs24 ∧ rSl k_api_Turn (.slice q13 x1.Turns.length x14) x1.Turns ∈ rs24 ∧ rSl k_api_Node v20 l21 ∈ rs24 ∧ rSl k_api_Turn v22 l23 ∈ rs24 ∧ rTab Tryz.prog ∈ rs24 ∧ m_multi_All_l1 l5 x1 k1 l18 x19 l21 l23 = some r) (((l5.length : Int) - 0 : Int).toNat + 1) ?_ ?_
 ·exact have H:=H.nilRow 51 k_api_Result;have H:=H.front 0 rfl;have H:=H.front 1 rfl;have H:=H.front 2 rfl;have H:=H.front 3 rfl;⟨(.slice none 0 0), (.slice q11 x1.Nodes.length x12), (.slice q13 x1.Turns.length x14), [], 0, x1.Nodes, x1.Turns, _, E.sel [2, 4, 8, 9, 15, 16, 17] rfl, H, fun r hr => hr, hr8, hr6, hr7, hr6, hr7, hr9, hm⟩
 ·clear E H hm
  rintro k1 a w ⟨v17, v20, v22, l18, x19, l21, l23, rs24, E, H, hs25, hr26, hr27, hr28, hr29, hr30, hr31, hm⟩
  cases k1 with
  | zero => exact (none_some hm rfl).elim
  | succ k1 =>
   unfold m_multi_All_l1 at hm
   refine sq<|pr 1 E rfl fun a E=>nt<|wp_seq<|wif E hm rfl (fun hm=>?_) fun hm=>?_
   ·refine wp_skip<|q_then<|wp_seq<|wp_block<|sq<|pr 1 E rfl fun a E=>bd hm fun x32 hx33 hm=>st_ixS E H (wn rfl) rfl rfl rfl rfl rfl hr26 Tryz.underlying36 sz64 hx33 fun q34 a H E=>ldf k_api_Piece_flat E H rfl rfl rfl rfl rfl m0 Tryz.underlying64 rfl sz64 fun a E=>?_
    refine al E H rfl rfl rfl rfl zr64 fun p35 w a H E=>pr 1 E rfl fun a E=>st_st (i := 0) E H (wn rfl) rfl (us := (l_api_Piece x32)) rfl rfl rfl rfl rfl sz64 rfl rfl fun w H=>nx<|sv E rfl rfl rfl (x_ldBN (i := 3) (us := [v20, v22]) E H rfl rfl rfl rfl Tryz.underlying41 rfl sz41) fun a E=>pr 1 E rfl fun a E=>sv E rfl rfl rfl (x_ldBN (i := 0) (us := (l_api_Part x32.Part)) E H rfl rfl rfl rfl Tryz.underlying62 rfl sz62) fun a E=>bd hm fun u36 hx37 hm=>x_cl E rfl rfl rfl rfl rfl cf42 (c_part_Do (⟨l21, l23⟩ : S_api_Store) v20 v22 x32.Part H (t1 hr29) (t1 hr30) (t1 hr31) hx37)<|?_
    rintro _ w ⟨v38, v39, v40, rfl, H⟩ a E
    refine pr 3 E rfl fun a E=>al E H rfl rfl rfl rfl zr41 fun p41 w a H E=>al E H rfl rfl rfl rfl zr51 fun p42 w a H E=>?_
    obtain ⟨q43, x44, rfl⟩ := H.slform m0
    obtain ⟨q45, x46, rfl⟩ := H.slform mm1
    refine st_st (i := 1) E H (wn rfl) rfl (us := [(.slice q43 u36.1.Nodes.length x44), (.slice q45 u36.1.Turns.length x46)]) rfl rfl rfl rfl rfl sz41 rfl rfl fun w H=>?_
    obtain ⟨q47, x48, rfl⟩ := H.slform mm2
    refine st_st (i := 0) E H (wn rfl) rfl (us := (l_api_Result u36.2 (.slice q47 u36.2.Names.length x48))) rfl rfl rfl rfl rfl sz51 rfl rfl fun w H=>nt<|wp_seq<|sq<|pr 1 E rfl fun a E=>lb E H 0 rfl rfl rfl rfl rfl rfl rfl Tryz.underlying27 rfl fun a E=>pr 1 E rfl fun a E=>nt<|wif E hm rfl (fun hm=>?_) fun hm=>?_
    ·refine wp_seq<|dw [(0, 0), (1, 0), (2, 0), (3, 0), (4, 1), (5, 1), (6, 1), (7, 2)] [0, 3] [] H (by kernel_rfl) (fun _ _ _ h => False.elim h.2) fun w W0 hI H=>fbn E [(.slice q11 x1.Nodes.length x12), (.slice q13 x1.Turns.length x14)] rfl (wn rfl) rfl rfl rfl rfl mm1 rfl Tryz.underlying41 rfl sz41 fun a E=>fn 1 E rfl fun a E=>fb E rfl (wn rfl) rfl rfl rfl rfl m0 rfl Tryz.underlying27 rfl fun a E=>fn 1 E rfl fun a E=>fr_op rfl<|st_st (i := 4) E H (wn rfl) rfl (us := [(.slice q11 x1.Nodes.length x12), (.slice q13 x1.Turns.length x14)]) rfl rfl rfl rfl rfl sz41 rfl rfl fun w H=>nt<|?_
     refine ⟨⟨_, _, H, (subO_cons m0 (subO_cons mm3 (subO_nil))), (sub_nil)⟩, ?_⟩
     refine fr_op rfl<|pr 1 E rfl fun a E=>nt<|?_
     refine ⟨⟨_, _, H, (subO_cons m0 (subO_cons mm3 (subO_nil))), (sub_nil)⟩, ?_⟩
     refine fr_op rfl<|pr 1 E rfl fun a E=>nt<|?_
     refine ⟨⟨_, _, H, (subO_cons m0 (subO_cons mm3 (subO_nil))), (sub_nil)⟩, ?_⟩
     refine fr_tail rfl<|pr 1 E rfl fun a E=>nt<|fr_nil<|?_
     clear hI
     refine q_then<|wp_ret<|q_thenR<|q_blkR<|q_thenR<|q_thenR<|q_blkR<|q_thenR<|outR4 E rfl (rvBN (i := 4) (us := [(.slice q11 x1.Nodes.length x12), (.slice q13 x1.Turns.length x14)]) H rfl rfl rfl Tryz.underlying41 rfl sz41) (rvT rfl) (rvT rfl) (rvT rfl)<|?_
     refine have H:=H.nilRow 51 k_api_Result;have H:=H.drop 1;have H:=H.drop 1;have H:=H.drop 1;have H:=H.drop 1;have H:=H.drop 1;have H:=H.drop 1;have H:=H.drop 1;?_
     cases hm
     exact ⟨(.slice q11 x1.Nodes.length x12), (.slice q13 x1.Turns.length x14), (.slice none 0 0), rfl, H.reads (sub_cons (t4 hr27) (sub_cons (t4 hr28) (fun r hr => (t4 (hs25 r hr)))))⟩
    ·refine wp_skip<|q_then<|sq<|sv E rfl rfl rfl (x_ldBN (i := 1) (us := [(.slice q43 u36.1.Nodes.length x44), (.slice q45 u36.1.Turns.length x46)]) E H rfl rfl rfl rfl Tryz.underlying41 rfl sz41) fun a E=>st_st (i := 5) E H (wn rfl) rfl (us := [(.slice q43 u36.1.Nodes.length x44), (.slice q45 u36.1.Turns.length x46)]) rfl rfl rfl rfl rfl sz41 rfl rfl fun w H=>nt<|wp_region_lit<|pr 1 E rfl fun a E=>sv E rfl rfl rfl (x_ldBN (i := 0) (us := (l_api_Result u36.2 (.slice q47 u36.2.Names.length x48))) E H rfl rfl rfl rfl Tryz.underlying51 rfl sz51) fun a E=>?_
     refine st_bsR (e := 51) (d := k_api_Result) (cs := [.int .i64 u36.2.Err, .string u36.2.Path, .string u36.2.Data, .int .i64 u36.2.Version, (.slice q47 u36.2.Names.length x48)]) (xs := [u36.2]) E H (wn rfl) rfl rfl rfl (E.evs rfl) (by kernel_rfl) rfl (fun ok hr => (Rows.single (d := k_api_Result) (cs := [.int .i64 u36.2.Err, .string u36.2.Path, .string u36.2.Data, .int .i64 u36.2.Version, (.slice q47 u36.2.Names.length x48)]) (x := u36.2) (k_api_Result_mk (hr _ mm2)))) fun v49 w a H E=>bk hm fun hx52 hm=>st_append (i := 6) E H (wn rfl) rfl rfl rfl rfl rfl rfl (src_rd m0) Tryz.underlying28 inf51 rfl hx52 rfl fun v50 w a H E=>pr 1 E rfl fun a E=>wpList_nil<|q_blk<|q_then<|wp_region_lit<|pr 2 E rfl fun a E=>?_
     exact nt<|have H:=H.drop 0;have H:=H.drop 0;have H:=H.drop 0;⟨k1, Nat.lt_succ_self k1, v50, (.slice q43 u36.1.Nodes.length x44), (.slice q45 u36.1.Turns.length x46), l18 ++ ([u36.2] : List S_api_Result), IntKind.i64.wrap (x19 + 1), u36.1.Nodes, u36.1.Turns, _, E.sel [2, 4, 8, 9, 15, 16, 17] rfl, H, fun r hr => (t5 (hs25 r hr)), (t5 hr26), (t5 hr27), (t5 hr28), mm1, mm2, (t5 hr31), hm⟩
   ·refine wp_exit<|q_thenX<|q_thenX<|q_hit<|q_then<|sq<|sv E rfl rfl rfl (x_ldBN (i := 2) (us := [v20, v22]) E H rfl rfl rfl rfl Tryz.underlying41 rfl sz41) fun a E=>pr 1 E rfl fun a E=>?_
    obtain ⟨q53, x54, rfl⟩ := H.slform hr29
    obtain ⟨q55, x56, rfl⟩ := H.slform hr30
    refine st_st (i := 1) E H (wn rfl) rfl (us := [(.slice q53 l21.length x54), (.slice q55 l23.length x56)]) rfl rfl rfl rfl rfl sz41 rfl rfl fun w H=>pr 3 E rfl fun a E=>nt<|wp_ret<|outR4 E rfl (rvBN (i := 1) (us := [(.slice q53 l21.length x54), (.slice q55 l23.length x56)]) H rfl rfl rfl Tryz.underlying41 rfl sz41) (rvT rfl) (rvT rfl) (rvT rfl)<|have H:=H.drop 0;have H:=H.drop 0;have H:=H.drop 0;?_
    cases hm
    exact ⟨(.slice q53 l21.length x54), (.slice q55 l23.length x56), v17, rfl, H.reads (sub_cons hr29 (sub_cons hr30 (hs25)))⟩

def m_nodes_New : Option (List S_api_Node) :=
  some (([(⟨(ByteArray.mk #[47]), (ByteArray.mk #[]), 0, 0, 0⟩ : S_api_Node)] : List S_api_Node))
theorem c_nodes_New {w : World} {Fo : List Ob} {rs : List Rp} (H : Sep w (Fo) rs) {r : (List S_api_Node)} (hm : m_nodes_New = some r) :
    Calls Tryz.prog 54 [].toArray w (Ret fun v w' => ∃ (v5001 : Value), v5001 = v ∧ Sep w' (Row 80 k_api_Node v5001 r :: Fo) (rs)) := by
 unfold m_nodes_New at hm
 refine enter Tryz.func54 rfl Tryz.ntmps54 rfl fun a E =>?_
 simp only [enum, Nat.reduceAdd] at E
 refine sq<|pr 1 E rfl fun a E=>nx<|sv E rfl rfl rfl (x_build E rfl (E.evs rfl) (v := .agg #[.string (ByteArray.mk #[47]), .string (ByteArray.mk #[]), .int .i64 0, .int .i64 0, .int .i64 0]) (by kernel_rfl)) fun a E=>st_bsO (e := 80) (d := k_api_Node) (cs := [.string (ByteArray.mk #[47]), .string (ByteArray.mk #[]), .int .i64 0, .int .i64 0, .int .i64 0]) (xs := [(⟨(ByteArray.mk #[47]), (ByteArray.mk #[]), 0, 0, 0⟩ : S_api_Node)]) E H (wn rfl) rfl rfl rfl (E.evs rfl) (by kernel_rfl) rfl rfl (fun ok hr => (Rows.single (d := k_api_Node) (cs := [.string (ByteArray.mk #[47]), .string (ByteArray.mk #[]), .int .i64 0, .int .i64 0, .int .i64 0]) (x := (⟨(ByteArray.mk #[47]), (ByteArray.mk #[]), 0, 0, 0⟩ : S_api_Node)) k_api_Node_mk)) fun v1 w a H E=>pr 1 E rfl fun a E=>nt<|wp_ret<|out1 E rfl rfl<|?_
 cases hm
 exact ⟨v1, rfl, H.reads (fun r hr => hr)⟩

def m_part_Keep_j1 (rec_1 : Int → (List S_api_Node) → (List S_api_Turn) → Option S_api_Store) (l8 : (List S_api_Node)) (x14 : S_api_Node) (x6 : Int) (l19 : (List S_api_Turn)) : Option S_api_Store :=
  (ck (l8.length + ([(⟨x14.Path, x14.Data, x14.Version, 0, x14.Owner⟩ : S_api_Node)] : List S_api_Node).length ≤ LIM)).bind fun u25 => rec_1 (IntKind.i64.wrap (x6 + 1)) (l8 ++ ([(⟨x14.Path, x14.Data, x14.Version, 0, x14.Owner⟩ : S_api_Node)] : List S_api_Node)) l19
def m_part_Keep_l1 (l2 : List S_api_Node) : Nat → Int → (List S_api_Node) → (List S_api_Turn) → Option S_api_Store
  | 0, _, _, _ => none
  | k1 + 1, x6, l8, l10 =>
    if (decide (x6 < (l2.length : Int))) = true then ((idx l2 x6).bind fun x14 => if (x14.Turn != 0) = true then ((ck (l10.length + ([(⟨x14.Path, x14.Turn⟩ : S_api_Turn)] : List S_api_Turn).length ≤ LIM)).bind fun u31 => m_part_Keep_j1 (m_part_Keep_l1 l2 k1) l8 x14 x6 (l10 ++ ([(⟨x14.Path, x14.Turn⟩ : S_api_Turn)] : List S_api_Turn))) else (m_part_Keep_j1 (m_part_Keep_l1 l2 k1) l8 x14 x6 l10)) else (some ((⟨l8, l10⟩ : S_api_Store)))
def m_part_Keep (l2 : List S_api_Node) : Option S_api_Store :=
  m_part_Keep_l1 l2 (((l2.length : Int) - 0 : Int).toNat + 1) 0 [] []
theorem c_part_Keep {w : World} {Fo : List Ob} {rs : List Rp} (v1 : Value) (l2 : List S_api_Node) (H : Sep w (Fo) rs) (hr3 : rSl k_api_Node v1 l2 ∈ rs) {r : S_api_Store} (hm : m_part_Keep l2 = some r) :
    Calls Tryz.prog 39 [v1].toArray w (Ret fun v w' => ∃ (v5002 : Value) (v5003 : Value), .agg #[v5002, v5003] = v ∧ Sep w' (Fo) (rSl k_api_Node v5002 r.Nodes :: rSl k_api_Turn v5003 r.Turns :: rs)) := by
 unfold m_part_Keep at hm
 refine enter Tryz.func39 rfl Tryz.ntmps39 rfl fun a E =>?_
 simp only [enum, Nat.reduceAdd] at E
 refine sq<|al E H rfl rfl rfl rfl zr41 fun p4 w a H E=>nx<|al E H rfl rfl rfl rfl zr41 fun p5 w a H E=>nt<|wp_seq<|sq<|pr 1 E rfl fun a E=>sv E rfl rfl rfl (x_lenS E H rfl rfl hr3 Tryz.underlying22) fun a E=>?_
 refine pr 1 E rfl fun a E=>nt<|wp_block<|wp_loop_g (fun k1 a w => ∃ (v7 : Value) (v9 : Value) (x6 : Int) (l8 : (List S_api_Node)) (l10 : (List S_api_Turn)) (rs11 : List Rp), Env 34 a [(2, pt p4 0), (3, pt p5 0), (6, v1), (7, .int .i64 (l2.length : Int)), (8, .int .i64 x6)] ∧ Sep w (Blk p4 41 [.slice none 0 0, .slice none 0 0] :: Blk p5 41 [v7, v9] :: Row 80 k_api_Node v7 l8 :: Row 83 k_api_Turn v9 l10 :: Fo) rs11 ∧ (∀ r, r ∈ rs → r ∈ rs11) ∧ rSl k_api_Node v1 l2 ∈ rs11 ∧ m_part_Keep_l1 l2 k1 x6 l8 l10 = some r) (((l2.length : Int) - 0 : Int).toNat + 1) ?_ ?_
 ·exact have H:=H.nilRow 80 k_api_Node;have H:=H.nilRow 83 k_api_Turn;have H:=H.front 0 rfl;have H:=H.front 1 rfl;have H:=H.front 2 rfl;have H:=H.front 3 rfl;⟨(.slice none 0 0), (.slice none 0 0), 0, [], [], _, E.sel [2, 3, 6, 7, 8] rfl, H, fun r hr => hr, hr3, hm⟩
 ·clear E H hm
  rintro k1 a w ⟨v7, v9, x6, l8, l10, rs11, E, H, hs12, hr13, hm⟩
  cases k1 with
  | zero => exact (none_some hm rfl).elim
  | succ k1 =>
   unfold m_part_Keep_l1 at hm
   refine sq<|pr 1 E rfl fun a E=>nt<|wp_seq<|wif E hm rfl (fun hm=>?_) fun hm=>?_
   ·refine wp_skip<|q_then<|wp_seq<|wp_block<|sq<|bd hm fun x14 hx15 hm=>st_ixS E H (wn rfl) rfl rfl rfl rfl rfl hr13 Tryz.underlying22 sz80 hx15 fun q16 a H E=>ldf k_api_Node_flat E H rfl rfl rfl rfl rfl m0 Tryz.underlying80 rfl sz80 fun a E=>al E H rfl rfl rfl rfl zr80 fun p17 w a H E=>?_
    refine st_st (i := 0) E H (wn rfl) rfl (us := (l_api_Node x14)) rfl rfl rfl rfl rfl sz80 rfl rfl fun w H=>nt<|wp_seq_cut (fun a w => ∃ (v18 : Value) (l19 : (List S_api_Turn)) (rs20 : List Rp), Env 34 a [(2, pt p4 0), (3, pt p5 0), (5, pt p17 0), (6, v1), (7, .int .i64 (l2.length : Int)), (8, .int .i64 x6)] ∧ Sep w (Blk p4 41 [.slice none 0 0, .slice none 0 0] :: Blk p5 41 [v7, v18] :: Blk p17 80 (l_api_Node x14) :: Row 80 k_api_Node v7 l8 :: Row 83 k_api_Turn v18 l19 :: Fo) rs20 ∧ (∀ r, r ∈ rs → r ∈ rs20) ∧ rSl k_api_Node v1 l2 ∈ rs20 ∧ m_part_Keep_j1 (m_part_Keep_l1 l2 k1) l8 x14 x6 l19 = some r) ?_ ?_
    ·refine sq<|pr 1 E rfl fun a E=>lb E H 0 rfl rfl rfl rfl rfl rfl rfl Tryz.underlying2 rfl fun a E=>pr 1 E rfl fun a E=>nt<|wif E hm rfl (fun hm=>?_) fun hm=>?_
     ·refine wp_region_lit<|pr 1 E rfl fun a E=>lb E H 2 rfl rfl rfl rfl rfl rfl rfl Tryz.underlying39 rfl fun a E=>pr 1 E rfl fun a E=>lb E H 0 rfl rfl rfl rfl rfl rfl rfl Tryz.underlying9 rfl fun a E=>pr 1 E rfl fun a E=>lb E H 0 rfl rfl rfl rfl rfl rfl rfl Tryz.underlying2 rfl fun a E=>sv E rfl rfl rfl (x_build E rfl (E.evs rfl) (v := .agg #[.string x14.Path, .int .i64 x14.Turn]) (by kernel_rfl)) fun a E=>st_bsR (e := 83) (d := k_api_Turn) (cs := [.string x14.Path, .int .i64 x14.Turn]) (xs := [(⟨x14.Path, x14.Turn⟩ : S_api_Turn)]) E H (wn rfl) rfl rfl rfl (E.evs rfl) (by kernel_rfl) rfl (fun ok hr => (Rows.single (d := k_api_Turn) (cs := [.string x14.Path, .int .i64 x14.Turn]) (x := (⟨x14.Path, x14.Turn⟩ : S_api_Turn)) k_api_Turn_mk)) fun v29 w a H E=>?_
      refine bk hm fun hx32 hm=>st_append (i := 4) E H (wn rfl) rfl rfl rfl rfl rfl rfl (src_rd m0) Tryz.underlying39 inf83 rfl hx32 rfl fun v30 w a H E=>pr 1 E rfl fun a E=>?_
      obtain ⟨q33, x34, rfl⟩ := H.rowform (i := 4) rfl
      exact st_st (i := 2) E H (wn rfl) rfl (us := [(.slice q33 (l10 ++ ([(⟨x14.Path, x14.Turn⟩ : S_api_Turn)] : List S_api_Turn)).length x34)]) rfl rfl rfl rfl rfl sz39 rfl rfl fun w H=>nt<|have H:=H.front 4 rfl;have H:=H.front 4 rfl;have H:=H.front 2 rfl;have H:=H.front 4 rfl;have H:=H.front 4 rfl;⟨(.slice q33 (l10 ++ ([(⟨x14.Path, x14.Turn⟩ : S_api_Turn)] : List S_api_Turn)).length x34), l10 ++ ([(⟨x14.Path, x14.Turn⟩ : S_api_Turn)] : List S_api_Turn), _, E.sel [2, 3, 5, 6, 7, 8] rfl, H, fun r hr => (t2 (hs12 r hr)), (t2 hr13), hm⟩
     ·exact wp_skip<|q_then<|have H:=H.front 4 rfl;have H:=H.front 4 rfl;have H:=H.front 2 rfl;have H:=H.front 4 rfl;have H:=H.front 4 rfl;⟨v9, l10, _, E.sel [2, 3, 5, 6, 7, 8] rfl, H, fun r hr => (t1 (hs12 r hr)), (t1 hr13), hm⟩
    ·clear E H hm
     rintro a w ⟨v18, l19, rs20, E, H, hs21, hr22, hm⟩
     unfold m_part_Keep_j1 at hm
     refine sq<|pr 1 E rfl fun a E=>st_st (i := 2) E H (wn rfl) rfl (us := [.int .i64 0]) rfl rfl rfl rfl rfl sz2 rfl rfl fun w H=>nt<|wp_region_lit<|pr 1 E rfl fun a E=>lb E H 1 rfl rfl rfl rfl rfl rfl rfl Tryz.underlying22 rfl fun a E=>sv E rfl rfl rfl (x_ldBN (i := 2) (us := [.string x14.Path, .string x14.Data, .int .i64 x14.Version, .int .i64 0, .int .i64 x14.Owner]) E H rfl rfl rfl rfl Tryz.underlying80 rfl sz80) fun a E=>st_bsR (e := 80) (d := k_api_Node) (cs := [.string x14.Path, .string x14.Data, .int .i64 x14.Version, .int .i64 0, .int .i64 x14.Owner]) (xs := [(⟨x14.Path, x14.Data, x14.Version, 0, x14.Owner⟩ : S_api_Node)]) E H (wn rfl) rfl rfl rfl (E.evs rfl) (by kernel_rfl) rfl (fun ok hr => (Rows.single (d := k_api_Node) (cs := [.string x14.Path, .string x14.Data, .int .i64 x14.Version, .int .i64 0, .int .i64 x14.Owner]) (x := (⟨x14.Path, x14.Data, x14.Version, 0, x14.Owner⟩ : S_api_Node)) k_api_Node_mk)) fun v23 w a H E=>?_
     refine bk hm fun hx26 hm=>st_append (i := 3) E H (wn rfl) rfl rfl rfl rfl rfl rfl (src_rd m0) Tryz.underlying22 inf80 rfl hx26 rfl fun v24 w a H E=>pr 1 E rfl fun a E=>?_
     obtain ⟨q27, x28, rfl⟩ := H.rowform (i := 3) rfl
     exact st_st (i := 1) E H (wn rfl) rfl (us := [(.slice q27 (l8 ++ ([(⟨x14.Path, x14.Data, x14.Version, 0, x14.Owner⟩ : S_api_Node)] : List S_api_Node)).length x28)]) rfl rfl rfl rfl rfl sz22 rfl rfl fun w H=>wpList_nil<|q_blk<|q_then<|wp_region_lit<|pr 2 E rfl fun a E=>nt<|have H:=H.drop 2;⟨k1, Nat.lt_succ_self k1, (.slice q27 (l8 ++ ([(⟨x14.Path, x14.Data, x14.Version, 0, x14.Owner⟩ : S_api_Node)] : List S_api_Node)).length x28), v18, IntKind.i64.wrap (x6 + 1), l8 ++ ([(⟨x14.Path, x14.Data, x14.Version, 0, x14.Owner⟩ : S_api_Node)] : List S_api_Node), l19, _, E.sel [2, 3, 6, 7, 8] rfl, H, fun r hr => (t1 (hs21 r hr)), (t1 hr22), hm⟩
   ·refine wp_exit<|q_thenX<|q_thenX<|q_hit<|q_then<|sq<|sv E rfl rfl rfl (x_ldBN (i := 1) (us := [v7, v9]) E H rfl rfl rfl rfl Tryz.underlying41 rfl sz41) fun a E=>?_
    obtain ⟨q35, x36, rfl⟩ := H.rowform (i := 2) rfl
    obtain ⟨q37, x38, rfl⟩ := H.rowform (i := 3) rfl
    refine st_st (i := 0) E H (wn rfl) rfl (us := [(.slice q35 l8.length x36), (.slice q37 l10.length x38)]) rfl rfl rfl rfl rfl sz41 rfl rfl fun w H=>nt<|wp_ret<|outR1 E rfl (rvBN (i := 0) (us := [(.slice q35 l8.length x36), (.slice q37 l10.length x38)]) H rfl rfl rfl Tryz.underlying41 rfl sz41)<|have H:=H.thaw (i := 2) rfl;have H:=H.thaw (i := 2) rfl;have H:=H.drop 0;have H:=H.drop 0;?_
    cases hm
    exact ⟨(.slice q35 l8.length x36), (.slice q37 l10.length x38), rfl, H.reads (sub_cons mm1 (sub_cons m0 (fun r hr => (t2 (hs12 r hr)))))⟩

def m_cantonlaw08_head : Option Bool :=
  m_nodes_New.bind fun u2 => (m_multi_Apply u2 ([(⟨1, (ByteArray.mk #[47, 97]), (ByteArray.mk #[]), 0, 0, false⟩ : S_api_Op), (⟨1, (ByteArray.mk #[47, 97, 47, 98]), (ByteArray.mk #[]), 0, 0, false⟩ : S_api_Op)] : List S_api_Op)).bind fun u8 => (m_multi_Apply u2 ([(⟨1, (ByteArray.mk #[47, 97]), (ByteArray.mk #[]), 0, 0, false⟩ : S_api_Op), (⟨1, (ByteArray.mk #[47, 97, 47, 98]), (ByteArray.mk #[]), 0, 0, false⟩ : S_api_Op), (⟨1, (ByteArray.mk #[47, 97]), (ByteArray.mk #[]), 0, 0, false⟩ : S_api_Op)] : List S_api_Op)).bind fun u16 => (m_multi_Of ([(⟨1, (ByteArray.mk #[47, 97]), (ByteArray.mk #[]), 0, 0, false⟩ : S_api_Op), (⟨1, (ByteArray.mk #[47, 97, 47, 98]), (ByteArray.mk #[]), 0, 0, false⟩ : S_api_Op)] : List S_api_Op)).bind fun u24 => (m_part_Keep u2).bind fun u27 => (m_multi_All u27 u24).bind fun u31 => if ((u8.1.length : Int) == 3) = true then (if (u8.2.Err == 0) = true then (if ((u8.2.Results.length : Int) == 2) = true then (if ((u16.1.length : Int) == 1) = true then (if (u16.2.Err == 61) = true then (if (u16.2.At == 2) = true then (if ((u24.length : Int) == 4) = true then ((idx u24 2).bind fun x48 => if (x48.Op == 1) = true then (if ((u31.2.1.length : Int) == 4) = true then (if (u31.2.2.1 == 0) = true then (if (u31.2.2.2 == 0) = true then ((m_multi_May ([] : List S_api_Op)).bind fun u55 => some (!u55)) else (some (false))) else (some (false))) else (some (false))) else (some (false))) else (some (false))) else (some (false))) else (some (false))) else (some (false))) else (some (false))) else (some (false))) else (some (false))
theorem c_cantonlaw08_head {w : World} {Fo : List Ob} {rs : List Rp} (H : Sep w (Fo) rs) (hr1 : rTab Tryz.prog ∈ rs) {r : Bool} (hm : m_cantonlaw08_head = some r) :
    Calls Tryz.prog 14 [].toArray w (Ret fun v w' => .bool r = v ∧ Sep w' (Fo) (rs)) := by
 unfold m_cantonlaw08_head at hm
 refine enter Tryz.func14 rfl Tryz.ntmps14 rfl fun a E =>?_
 simp only [enum, Nat.reduceAdd] at E
 refine sq<|pr 1 E rfl fun a E=>nx<|bd hm fun u2 hx3 hm=>x_cl E rfl rfl rfl rfl rfl cf54 (c_nodes_New H hx3)<|?_
 rintro _ w ⟨v4, rfl, H⟩ a E
 refine pr 1 E rfl fun a E=>nx<|sv E rfl rfl rfl (x_build E rfl (E.evs rfl) (v := .agg #[.int .i64 1, .string (ByteArray.mk #[47, 97]), .string (ByteArray.mk #[]), .int .i64 0, .int .i64 0, .bool false]) (by kernel_rfl)) fun a E=>al E H rfl rfl rfl rfl zr55 fun p5 w a H E=>st_st (i := 0) E H (wn rfl) rfl (us := [.int .i64 1, .string (ByteArray.mk #[47, 97]), .string (ByteArray.mk #[]), .int .i64 0, .int .i64 0, .bool false]) rfl rfl rfl rfl rfl sz55 rfl rfl fun w H=>nx<|sv E rfl rfl rfl (x_build E rfl (E.evs rfl) (v := .agg #[.int .i64 1, .string (ByteArray.mk #[47, 97, 47, 98]), .string (ByteArray.mk #[]), .int .i64 0, .int .i64 0, .bool false]) (by kernel_rfl)) fun a E=>al E H rfl rfl rfl rfl zr55 fun p6 w a H E=>st_st (i := 0) E H (wn rfl) rfl (us := [.int .i64 1, .string (ByteArray.mk #[47, 97, 47, 98]), .string (ByteArray.mk #[]), .int .i64 0, .int .i64 0, .bool false]) rfl rfl rfl rfl rfl sz55 rfl rfl fun w H=>?_
 refine nx<|pr 1 E rfl fun a E=>sv E rfl rfl rfl (x_ldBN (i := 1) (us := [.int .i64 1, .string (ByteArray.mk #[47, 97]), .string (ByteArray.mk #[]), .int .i64 0, .int .i64 0, .bool false]) E H rfl rfl rfl rfl Tryz.underlying55 rfl sz55) fun a E=>sv E rfl rfl rfl (x_ldBN (i := 0) (us := [.int .i64 1, .string (ByteArray.mk #[47, 97, 47, 98]), .string (ByteArray.mk #[]), .int .i64 0, .int .i64 0, .bool false]) E H rfl rfl rfl rfl Tryz.underlying55 rfl sz55) fun a E=>st_bsO (e := 55) (d := k_api_Op) (cs := [.int .i64 1, .string (ByteArray.mk #[47, 97]), .string (ByteArray.mk #[]), .int .i64 0, .int .i64 0, .bool false, .int .i64 1, .string (ByteArray.mk #[47, 97, 47, 98]), .string (ByteArray.mk #[]), .int .i64 0, .int .i64 0, .bool false]) (xs := [(⟨1, (ByteArray.mk #[47, 97]), (ByteArray.mk #[]), 0, 0, false⟩ : S_api_Op), (⟨1, (ByteArray.mk #[47, 97, 47, 98]), (ByteArray.mk #[]), 0, 0, false⟩ : S_api_Op)]) E H (wn rfl) rfl rfl rfl (E.evs rfl) (by kernel_rfl) rfl rfl (fun ok hr => (Rows.append (Rows.single (d := k_api_Op) (cs := [.int .i64 1, .string (ByteArray.mk #[47, 97]), .string (ByteArray.mk #[]), .int .i64 0, .int .i64 0, .bool false]) (x := (⟨1, (ByteArray.mk #[47, 97]), (ByteArray.mk #[]), 0, 0, false⟩ : S_api_Op)) k_api_Op_mk) (Rows.single (d := k_api_Op) (cs := [.int .i64 1, .string (ByteArray.mk #[47, 97, 47, 98]), .string (ByteArray.mk #[]), .int .i64 0, .int .i64 0, .bool false]) (x := (⟨1, (ByteArray.mk #[47, 97, 47, 98]), (ByteArray.mk #[]), 0, 0, false⟩ : S_api_Op)) k_api_Op_mk))) fun v7 w a H E=>have H:=H.thaw (i := 3) rfl;have H:=H.thaw (i := 0) rfl;bd hm fun u8 hx9 hm=>x_cl E rfl rfl rfl rfl rfl cf17 (c_multi_Apply v4 u2 v7 ([(⟨1, (ByteArray.mk #[47, 97]), (ByteArray.mk #[]), 0, 0, false⟩ : S_api_Op), (⟨1, (ByteArray.mk #[47, 97, 47, 98]), (ByteArray.mk #[]), 0, 0, false⟩ : S_api_Op)] : List S_api_Op) H mm1 m0 (t2 hr1) hx9)<|?_
 rintro _ w ⟨v10, v11, rfl, H⟩ a E
 refine pr 3 E rfl fun a E=>al E H rfl rfl rfl rfl zr30 fun p12 w a H E=>pr 1 E rfl fun a E=>?_
 obtain ⟨q13, x14, rfl⟩ := H.slform mm1
 refine st_st (i := 0) E H (wn rfl) rfl (us := (l_api_Done u8.2 (.slice q13 u8.2.Results.length x14))) rfl rfl rfl rfl rfl sz30 rfl rfl fun w H=>nx<|pr 1 E rfl fun a E=>sv E rfl rfl rfl (x_ldBN (i := 2) (us := [.int .i64 1, .string (ByteArray.mk #[47, 97]), .string (ByteArray.mk #[]), .int .i64 0, .int .i64 0, .bool false]) E H rfl rfl rfl rfl Tryz.underlying55 rfl sz55) fun a E=>sv E rfl rfl rfl (x_ldBN (i := 1) (us := [.int .i64 1, .string (ByteArray.mk #[47, 97, 47, 98]), .string (ByteArray.mk #[]), .int .i64 0, .int .i64 0, .bool false]) E H rfl rfl rfl rfl Tryz.underlying55 rfl sz55) fun a E=>sv E rfl rfl rfl (x_ldBN (i := 2) (us := [.int .i64 1, .string (ByteArray.mk #[47, 97]), .string (ByteArray.mk #[]), .int .i64 0, .int .i64 0, .bool false]) E H rfl rfl rfl rfl Tryz.underlying55 rfl sz55) fun a E=>st_bsO (e := 55) (d := k_api_Op) (cs := [.int .i64 1, .string (ByteArray.mk #[47, 97]), .string (ByteArray.mk #[]), .int .i64 0, .int .i64 0, .bool false, .int .i64 1, .string (ByteArray.mk #[47, 97, 47, 98]), .string (ByteArray.mk #[]), .int .i64 0, .int .i64 0, .bool false, .int .i64 1, .string (ByteArray.mk #[47, 97]), .string (ByteArray.mk #[]), .int .i64 0, .int .i64 0, .bool false]) (xs := [(⟨1, (ByteArray.mk #[47, 97]), (ByteArray.mk #[]), 0, 0, false⟩ : S_api_Op), (⟨1, (ByteArray.mk #[47, 97, 47, 98]), (ByteArray.mk #[]), 0, 0, false⟩ : S_api_Op), (⟨1, (ByteArray.mk #[47, 97]), (ByteArray.mk #[]), 0, 0, false⟩ : S_api_Op)]) E H (wn rfl) rfl rfl rfl (E.evs rfl) (by kernel_rfl) rfl rfl (fun ok hr => (Rows.append (Rows.append (Rows.single (d := k_api_Op) (cs := [.int .i64 1, .string (ByteArray.mk #[47, 97]), .string (ByteArray.mk #[]), .int .i64 0, .int .i64 0, .bool false]) (x := (⟨1, (ByteArray.mk #[47, 97]), (ByteArray.mk #[]), 0, 0, false⟩ : S_api_Op)) k_api_Op_mk) (Rows.single (d := k_api_Op) (cs := [.int .i64 1, .string (ByteArray.mk #[47, 97, 47, 98]), .string (ByteArray.mk #[]), .int .i64 0, .int .i64 0, .bool false]) (x := (⟨1, (ByteArray.mk #[47, 97, 47, 98]), (ByteArray.mk #[]), 0, 0, false⟩ : S_api_Op)) k_api_Op_mk)) (Rows.single (d := k_api_Op) (cs := [.int .i64 1, .string (ByteArray.mk #[47, 97]), .string (ByteArray.mk #[]), .int .i64 0, .int .i64 0, .bool false]) (x := (⟨1, (ByteArray.mk #[47, 97]), (ByteArray.mk #[]), 0, 0, false⟩ : S_api_Op)) k_api_Op_mk))) fun v15 w a H E=>have H:=H.thaw (i := 0) rfl;bd hm fun u16 hx17 hm=>?_
 refine x_cl E rfl rfl rfl rfl rfl cf17 (c_multi_Apply v4 u2 v15 ([(⟨1, (ByteArray.mk #[47, 97]), (ByteArray.mk #[]), 0, 0, false⟩ : S_api_Op), (⟨1, (ByteArray.mk #[47, 97, 47, 98]), (ByteArray.mk #[]), 0, 0, false⟩ : S_api_Op), (⟨1, (ByteArray.mk #[47, 97]), (ByteArray.mk #[]), 0, 0, false⟩ : S_api_Op)] : List S_api_Op) H mm4 m0 (t5 hr1) hx17)<|?_
 rintro _ w ⟨v18, v19, rfl, H⟩ a E
 refine pr 3 E rfl fun a E=>al E H rfl rfl rfl rfl zr30 fun p20 w a H E=>pr 1 E rfl fun a E=>?_
 obtain ⟨q21, x22, rfl⟩ := H.slform mm1
 refine st_st (i := 0) E H (wn rfl) rfl (us := (l_api_Done u16.2 (.slice q21 u16.2.Results.length x22))) rfl rfl rfl rfl rfl sz30 rfl rfl fun w H=>nx<|sv E rfl rfl rfl (x_ldBN (i := 3) (us := [.int .i64 1, .string (ByteArray.mk #[47, 97]), .string (ByteArray.mk #[]), .int .i64 0, .int .i64 0, .bool false]) E H rfl rfl rfl rfl Tryz.underlying55 rfl sz55) fun a E=>sv E rfl rfl rfl (x_ldBN (i := 2) (us := [.int .i64 1, .string (ByteArray.mk #[47, 97, 47, 98]), .string (ByteArray.mk #[]), .int .i64 0, .int .i64 0, .bool false]) E H rfl rfl rfl rfl Tryz.underlying55 rfl sz55) fun a E=>st_bsO (e := 55) (d := k_api_Op) (cs := [.int .i64 1, .string (ByteArray.mk #[47, 97]), .string (ByteArray.mk #[]), .int .i64 0, .int .i64 0, .bool false, .int .i64 1, .string (ByteArray.mk #[47, 97, 47, 98]), .string (ByteArray.mk #[]), .int .i64 0, .int .i64 0, .bool false]) (xs := [(⟨1, (ByteArray.mk #[47, 97]), (ByteArray.mk #[]), 0, 0, false⟩ : S_api_Op), (⟨1, (ByteArray.mk #[47, 97, 47, 98]), (ByteArray.mk #[]), 0, 0, false⟩ : S_api_Op)]) E H (wn rfl) rfl rfl rfl (E.evs rfl) (by kernel_rfl) rfl rfl (fun ok hr => (Rows.append (Rows.single (d := k_api_Op) (cs := [.int .i64 1, .string (ByteArray.mk #[47, 97]), .string (ByteArray.mk #[]), .int .i64 0, .int .i64 0, .bool false]) (x := (⟨1, (ByteArray.mk #[47, 97]), (ByteArray.mk #[]), 0, 0, false⟩ : S_api_Op)) k_api_Op_mk) (Rows.single (d := k_api_Op) (cs := [.int .i64 1, .string (ByteArray.mk #[47, 97, 47, 98]), .string (ByteArray.mk #[]), .int .i64 0, .int .i64 0, .bool false]) (x := (⟨1, (ByteArray.mk #[47, 97, 47, 98]), (ByteArray.mk #[]), 0, 0, false⟩ : S_api_Op)) k_api_Op_mk))) fun v23 w a H E=>have H:=H.thaw (i := 0) rfl;bd hm fun u24 hx25 hm=>x_cl E rfl rfl rfl rfl rfl cf24 (c_multi_Of v23 ([(⟨1, (ByteArray.mk #[47, 97]), (ByteArray.mk #[]), 0, 0, false⟩ : S_api_Op), (⟨1, (ByteArray.mk #[47, 97, 47, 98]), (ByteArray.mk #[]), 0, 0, false⟩ : S_api_Op)] : List S_api_Op) H m0 hx25)<|?_
 rintro _ w ⟨v26, rfl, H⟩ a E
 refine pr 1 E rfl fun a E=>nx<|pr 1 E rfl fun a E=>bd hm fun u27 hx28 hm=>x_cl E rfl rfl rfl rfl rfl cf39 (c_part_Keep v4 u2 H (t1 mm6) hx28)<|?_
 rintro _ w ⟨v29, v30, rfl, H⟩ a E
 refine pr 1 E rfl fun a E=>have H:=H.thaw (i := 0) rfl;bd hm fun u31 hx32 hm=>x_cl E rfl rfl rfl rfl rfl cf28 (c_multi_All u27 v29 v30 v26 u24 H mm1 mm2 m0 (t3 (t8 hr1)) hx32)<|?_
 rintro _ w ⟨v33, v34, v35, rfl, H⟩ a E
 refine pr 5 E rfl fun a E=>al E H rfl rfl rfl rfl zr41 fun p36 w a H E=>?_
 obtain ⟨q37, x38, rfl⟩ := H.slform m0
 obtain ⟨q39, x40, rfl⟩ := H.slform mm1
 refine st_st (i := 0) E H (wn rfl) rfl (us := [(.slice q37 u31.1.Nodes.length x38), (.slice q39 u31.1.Turns.length x40)]) rfl rfl rfl rfl rfl sz41 rfl rfl fun w H=>pr 3 E rfl fun a E=>nx<|pr 1 E rfl fun a E=>sv E rfl rfl rfl (x_lenS E H rfl rfl (t3 mm6) Tryz.underlying22) fun a E=>pr 2 E rfl fun a E=>cs hm (fun hb41 hm=>?_) fun hb41 hm=>?_
 ·refine pk 1 E (kc 49 rfl hb41) rfl fun a E=>st_val E (ws' (d := 49) E rfl rfl rfl rfl hb41) rfl rfl (x_ldB (i := 3) E H rfl rfl rfl rfl Tryz.underlying27 rfl) fun a E=>pk 3 E (kc 49 rfl hb41) rfl fun a E=>cs hm (fun hb42 hm=>?_) fun hb42 hm=>?_
  ·refine pk 1 E (kc 54 rfl hb42) rfl fun a E=>st_val E (ws' (d := 54) E rfl rfl rfl rfl hb42) rfl rfl (x_ldB (i := 3) E H rfl rfl rfl rfl Tryz.underlying28 rfl) fun a E=>st_val E (ws' (d := 54) E rfl rfl rfl rfl hb42) rfl rfl (x_lenS E H rfl rfl (t4 mm6) Tryz.underlying28) fun a E=>pk 3 E (kc 54 rfl hb42) rfl fun a E=>cs hm (fun hb43 hm=>?_) fun hb43 hm=>?_
   ·refine pk 1 E (kc 60 rfl hb43) rfl fun a E=>st_val E (ws' (d := 60) E rfl rfl rfl rfl hb43) rfl rfl (x_lenS E H rfl rfl mm6 Tryz.underlying22) fun a E=>pk 3 E (kc 60 rfl hb43) rfl fun a E=>cs hm (fun hb44 hm=>?_) fun hb44 hm=>?_
    ·refine pk 1 E (kc 65 rfl hb44) rfl fun a E=>st_val E (ws' (d := 65) E rfl rfl rfl rfl hb44) rfl rfl (x_ldB (i := 2) E H rfl rfl rfl rfl Tryz.underlying27 rfl) fun a E=>pk 3 E (kc 65 rfl hb44) rfl fun a E=>cs hm (fun hb45 hm=>?_) fun hb45 hm=>?_
     ·refine pk 1 E (kc 70 rfl hb45) rfl fun a E=>st_val E (ws' (d := 70) E rfl rfl rfl rfl hb45) rfl rfl (x_ldB (i := 2) E H rfl rfl rfl rfl Tryz.underlying3 rfl) fun a E=>pk 3 E (kc 70 rfl hb45) rfl fun a E=>cs hm (fun hb46 hm=>?_) fun hb46 hm=>?_
      ·refine pk 1 E (kc 75 rfl hb46) rfl fun a E=>st_val E (ws' (d := 75) E rfl rfl rfl rfl hb46) rfl rfl (x_lenS E H rfl rfl mm2 Tryz.underlying36) fun a E=>pk 3 E (kc 75 rfl hb46) rfl fun a E=>cs hm (fun hb47 hm=>?_) fun hb47 hm=>?_
       ·refine pk 1 E (kc 80 rfl hb47) rfl fun a E=>bd hm fun x48 hx49 hm=>st_ixS E H (ws' (d := 80) E rfl rfl rfl rfl hb47) rfl rfl rfl rfl rfl mm2 Tryz.underlying36 sz64 hx49 fun q50 a H E=>have H:=H.derive1 m0 (rAt (kI .i64) (q50.add 0) x48.Op) (fun ok h => k_api_Piece_at0 h);pk 1 E (kc 80 rfl hb47) rfl fun a E=>st_val E (ws' (d := 80) E rfl rfl rfl rfl hb47) rfl rfl (x_ldA E H rfl rfl m0 Tryz.underlying3 rfl) fun a E=>pk 3 E (kc 80 rfl hb47) rfl fun a E=>cs hm (fun hb51 hm=>?_) fun hb51 hm=>?_
        ·refine pk 1 E (kc 87 rfl hb51) rfl fun a E=>st_val E (ws' (d := 87) E rfl rfl rfl rfl hb51) rfl rfl (x_lenR (i := 1) E H rfl rfl rfl Tryz.underlying28) fun a E=>pk 3 E (kc 87 rfl hb51) rfl fun a E=>cs hm (fun hb52 hm=>?_) fun hb52 hm=>?_
         ·refine pk 4 E (kc 92 rfl hb52) rfl fun a E=>cs hm (fun hb53 hm=>?_) fun hb53 hm=>?_
          ·refine pk 4 E (kc 96 rfl hb53) rfl fun a E=>cs hm (fun hb54 hm=>?_) fun hb54 hm=>?_
           ·refine have H:=H.nilSl k_api_Op;bd hm fun u55 hx56 hm=>st_call E (ws' (d := 100) E rfl rfl rfl rfl hb54) rfl rfl (x_call E rfl rfl (cf19 _)) (c_multi_May (.slice none 0 0) ([] : List S_api_Op) H m0 hx56)<|?_
            rintro _ w ⟨rfl, H⟩ a E
            refine pk 3 E (kc 100 rfl hb54) rfl fun a E=>nt<|wp_ret<|out1 E rfl rfl<|have H:=H.drop 0;have H:=H.drop 0;have H:=H.drop 0;have H:=H.drop 0;have H:=H.drop 0;?_
            refine have H:=H.drop 0;?_
            cases hm
            exact ⟨rfl, H.reads (fun r hr => (t8 (t8 hr)))⟩
           ·refine pk 4 E (kc 100 rfl hb54) rfl fun a E=>nt<|wp_ret<|out1 E rfl rfl<|have H:=H.drop 0;have H:=H.drop 0;have H:=H.drop 0;have H:=H.drop 0;have H:=H.drop 0;?_
            refine have H:=H.drop 0;?_
            cases hm
            exact ⟨rfl, H.reads (fun r hr => (t7 (t8 hr)))⟩
          ·refine pk 8 E (kc 96 rfl hb53) rfl fun a E=>nt<|wp_ret<|out1 E rfl rfl<|have H:=H.drop 0;have H:=H.drop 0;have H:=H.drop 0;have H:=H.drop 0;have H:=H.drop 0;?_
           refine have H:=H.drop 0;?_
           cases hm
           exact ⟨rfl, H.reads (fun r hr => (t7 (t8 hr)))⟩
         ·refine pk 12 E (kc 92 rfl hb52) rfl fun a E=>nt<|wp_ret<|out1 E rfl rfl<|have H:=H.drop 0;have H:=H.drop 0;have H:=H.drop 0;have H:=H.drop 0;have H:=H.drop 0;?_
          refine have H:=H.drop 0;?_
          cases hm
          exact ⟨rfl, H.reads (fun r hr => (t7 (t8 hr)))⟩
        ·refine pk 17 E (kc 87 rfl hb51) rfl fun a E=>nt<|wp_ret<|out1 E rfl rfl<|have H:=H.drop 0;have H:=H.drop 0;have H:=H.drop 0;have H:=H.drop 0;have H:=H.drop 0;?_
         refine have H:=H.drop 0;?_
         cases hm
         exact ⟨rfl, H.reads (fun r hr => (t7 (t8 hr)))⟩
       ·refine pk 24 E (kc 80 rfl hb47) rfl fun a E=>nt<|wp_ret<|out1 E rfl rfl<|have H:=H.drop 0;have H:=H.drop 0;have H:=H.drop 0;have H:=H.drop 0;have H:=H.drop 0;?_
        refine have H:=H.drop 0;?_
        cases hm
        exact ⟨rfl, H.reads (fun r hr => (t5 (t8 hr)))⟩
      ·refine pk 29 E (kc 75 rfl hb46) rfl fun a E=>nt<|wp_ret<|out1 E rfl rfl<|have H:=H.drop 0;have H:=H.drop 0;have H:=H.drop 0;have H:=H.drop 0;have H:=H.drop 0;?_
       refine have H:=H.drop 0;?_
       cases hm
       exact ⟨rfl, H.reads (fun r hr => (t5 (t8 hr)))⟩
     ·refine pk 34 E (kc 70 rfl hb45) rfl fun a E=>nt<|wp_ret<|out1 E rfl rfl<|have H:=H.drop 0;have H:=H.drop 0;have H:=H.drop 0;have H:=H.drop 0;have H:=H.drop 0;?_
      refine have H:=H.drop 0;?_
      cases hm
      exact ⟨rfl, H.reads (fun r hr => (t5 (t8 hr)))⟩
    ·refine pk 39 E (kc 65 rfl hb44) rfl fun a E=>nt<|wp_ret<|out1 E rfl rfl<|have H:=H.drop 0;have H:=H.drop 0;have H:=H.drop 0;have H:=H.drop 0;have H:=H.drop 0;?_
     refine have H:=H.drop 0;?_
     cases hm
     exact ⟨rfl, H.reads (fun r hr => (t5 (t8 hr)))⟩
   ·refine pk 44 E (kc 60 rfl hb43) rfl fun a E=>nt<|wp_ret<|out1 E rfl rfl<|have H:=H.drop 0;have H:=H.drop 0;have H:=H.drop 0;have H:=H.drop 0;have H:=H.drop 0;?_
    refine have H:=H.drop 0;?_
    cases hm
    exact ⟨rfl, H.reads (fun r hr => (t5 (t8 hr)))⟩
  ·refine pk 50 E (kc 54 rfl hb42) rfl fun a E=>nt<|wp_ret<|out1 E rfl rfl<|have H:=H.drop 0;have H:=H.drop 0;have H:=H.drop 0;have H:=H.drop 0;have H:=H.drop 0;?_
   refine have H:=H.drop 0;?_
   cases hm
   exact ⟨rfl, H.reads (fun r hr => (t5 (t8 hr)))⟩
 ·refine pk 55 E (kc 49 rfl hb41) rfl fun a E=>nt<|wp_ret<|out1 E rfl rfl<|have H:=H.drop 0;have H:=H.drop 0;have H:=H.drop 0;have H:=H.drop 0;have H:=H.drop 0;?_
  refine have H:=H.drop 0;?_
  cases hm
  exact ⟨rfl, H.reads (fun r hr => (t5 (t8 hr)))⟩

def m_cantonlaw08_MultiOne_j2 (u16 : (List S_api_Node) × S_api_Result) (x4 : S_api_Op) (l2 : List S_api_Node) (x3 : S_api_Op) (u9 : Bool) (b31 : Bool) : Option Bool :=
  if b31 = true then (some (false)) else ((m_nodes_Apply u16.1 x4).bind fun u38 => (m_multi_Apply l2 ([x3, x4] : List S_api_Op)).bind fun u46 => if (u16.2.Err != 0) = true then (if u9 = true then (if (u46.2.Err == u16.2.Err) = true then (some (u46.2.At == 0)) else (some (false))) else (some (false))) else (if (u38.2.Err != 0) = true then (if u9 = true then (if (u46.2.Err == u38.2.Err) = true then (if (u46.2.At == 1) = true then ((m_cantonref06_Same u46.1 l2).bind fun u58 => some (u58)) else (some (false))) else (some (false))) else (some (false))) else (if u9 = true then (if (u46.2.Err == 0) = true then ((m_cantonref06_Same u46.1 u38.1).bind fun u63 => if u63 = true then (if ((u46.2.Results.length : Int) == 2) = true then ((idx u46.2.Results 1).bind fun x67 => (m_cantonref06_SameOne x67 u38.2).bind fun u78 => some (u78)) else (some (false))) else (some (false))) else (some (false))) else (some (false)))))
def m_cantonlaw08_MultiOne_j1 (x4 : S_api_Op) (l2 : List S_api_Node) (x3 : S_api_Op) (u9 : Bool) (b11 : Bool) : Option Bool :=
  if b11 = true then (some (u9)) else ((m_nodes_Apply l2 x3).bind fun u16 => (m_multi_Apply l2 ([x3] : List S_api_Op)).bind fun u24 => if (u24.2.Err != u16.2.Err) = true then (m_cantonlaw08_MultiOne_j2 u16 x4 l2 x3 u9 true) else ((m_cantonref06_Same u16.1 u24.1).bind fun u82 => if (!u82) = true then (m_cantonlaw08_MultiOne_j2 u16 x4 l2 x3 u9 true) else (if (u16.2.Err == 0) = true then (if ((u24.2.Results.length : Int) != 1) = true then (m_cantonlaw08_MultiOne_j2 u16 x4 l2 x3 u9 true) else ((idx u24.2.Results 0).bind fun x87 => (m_cantonref06_SameOne x87 u16.2).bind fun u98 => m_cantonlaw08_MultiOne_j2 u16 x4 l2 x3 u9 (!u98))) else (m_cantonlaw08_MultiOne_j2 u16 x4 l2 x3 u9 false))))
def m_cantonlaw08_MultiOne (l2 : List S_api_Node) (x3 : S_api_Op) (x4 : S_api_Op) : Option Bool :=
  m_cantonlaw08_head.bind fun u9 => (m_cantonlaw06_Great l2).bind fun u100 => if u100 = true then (m_cantonlaw08_MultiOne_j1 x4 l2 x3 u9 true) else ((m_cantonlaw06_GreatOp x3).bind fun u103 => if u103 = true then (m_cantonlaw08_MultiOne_j1 x4 l2 x3 u9 true) else ((m_cantonlaw06_GreatOp x4).bind fun u106 => if u106 = true then (m_cantonlaw08_MultiOne_j1 x4 l2 x3 u9 true) else ((m_cantonref06_Right l2).bind fun u109 => if (!u109) = true then (m_cantonlaw08_MultiOne_j1 x4 l2 x3 u9 true) else ((m_cantonref06_May x3).bind fun u112 => if (!u112) = true then (m_cantonlaw08_MultiOne_j1 x4 l2 x3 u9 true) else ((m_cantonref06_May x4).bind fun u115 => m_cantonlaw08_MultiOne_j1 x4 l2 x3 u9 (!u115))))))
theorem c_cantonlaw08_MultiOne {w : World} {Fo : List Ob} {rs : List Rp} (v1 : Value) (l2 : List S_api_Node) (x3 : S_api_Op) (x4 : S_api_Op) (H : Sep w (Fo) rs) (hr5 : rSl k_api_Node v1 l2 ∈ rs) (hr6 : rTab Tryz.prog ∈ rs) {r : Bool} (hm : m_cantonlaw08_MultiOne l2 x3 x4 = some r) :
    Calls Tryz.prog 6 [v1, .agg (l_api_Op x3).toArray, .agg (l_api_Op x4).toArray].toArray w (Ret fun v w' => .bool r = v ∧ Sep w' (Fo) (rs)) := by
 unfold m_cantonlaw08_MultiOne at hm
 refine enter Tryz.func6 rfl Tryz.ntmps6 rfl fun a E =>?_
 simp only [enum, Nat.reduceAdd] at E
 refine sq<|st_box E H (wn rfl) rfl rfl (cs := (l_api_Op x3)) rfl rfl rfl fun p7 w a H E=>st_box E H (wn rfl) rfl rfl (cs := (l_api_Op x4)) rfl rfl rfl fun p8 w a H E=>pr 1 E rfl fun a E=>nx<|bd hm fun u9 hx10 hm=>x_cl E rfl rfl rfl rfl rfl cf14 (c_cantonlaw08_head H hr6 hx10)<|?_
 rintro _ w ⟨rfl, H⟩ a E
 refine pr 1 E rfl fun a E=>nt<|wp_seq<|wp_seq_cut (fun a w => ∃ (b11 : Bool) (rs12 : List Rp), Env 163 a [(0, v1), (4, pt p7 0), (5, pt p8 0), (7, .bool u9), (41, .bool b11)] ∧ Sep w (Blk p7 55 (l_api_Op x3) :: Blk p8 55 (l_api_Op x4) :: Fo) rs12 ∧ (∀ r, r ∈ rs → r ∈ rs12) ∧ rSl k_api_Node v1 l2 ∈ rs12 ∧ rTab Tryz.prog ∈ rs12 ∧ m_cantonlaw08_MultiOne_j1 x4 l2 x3 u9 b11 = some r) ?_ ?_
 ·refine wp_region_lit<|pr 1 E rfl fun a E=>bd hm fun u100 hx101 hm=>x_cl E rfl rfl rfl rfl rfl cf15 (c_cantonlaw06_Great v1 l2 H hr5 hx101)<|?_
  rintro _ w ⟨rfl, H⟩ a E
  refine pr 1 E rfl fun a E=>cs hm (fun hb102 hm=>?_) fun hb102 hm=>?_
  ·exact pk 22 E (kc 19 rfl hb102) rfl fun a E=>nt<|have H:=H.front 0 rfl;have H:=H.front 1 rfl;⟨true, _, E.sel [0, 4, 5, 7, 41] rfl, H, fun r hr => hr, hr5, hr6, hm⟩
  ·refine st_val E (ws' (d := 19) E rfl rfl rfl rfl hb102) rfl rfl (x_ldBN (i := 1) (us := (l_api_Op x3)) E H rfl rfl rfl rfl Tryz.underlying55 rfl sz55) fun a E=>bd hm fun u103 hx104 hm=>st_call E (ws' (d := 19) E rfl rfl rfl rfl hb102) rfl rfl (x_call E rfl rfl (cf34 _)) (c_cantonlaw06_GreatOp x3 H hx104)<|?_
   rintro _ w ⟨rfl, H⟩ a E
   refine pk 2 E (kc 19 rfl hb102) rfl fun a E=>cs hm (fun hb105 hm=>?_) fun hb105 hm=>?_
   ·exact pk 18 E (kc 23 rfl hb105) rfl fun a E=>nt<|have H:=H.front 0 rfl;have H:=H.front 1 rfl;⟨true, _, E.sel [0, 4, 5, 7, 41] rfl, H, fun r hr => hr, hr5, hr6, hm⟩
   ·refine st_val E (ws' (d := 23) E rfl rfl rfl rfl hb105) rfl rfl (x_ldBN (i := 0) (us := (l_api_Op x4)) E H rfl rfl rfl rfl Tryz.underlying55 rfl sz55) fun a E=>bd hm fun u106 hx107 hm=>st_call E (ws' (d := 23) E rfl rfl rfl rfl hb105) rfl rfl (x_call E rfl rfl (cf34 _)) (c_cantonlaw06_GreatOp x4 H hx107)<|?_
    rintro _ w ⟨rfl, H⟩ a E
    refine pk 2 E (kc 23 rfl hb105) rfl fun a E=>cs hm (fun hb108 hm=>?_) fun hb108 hm=>?_
    ·exact pk 14 E (kc 27 rfl hb108) rfl fun a E=>nt<|have H:=H.front 0 rfl;have H:=H.front 1 rfl;⟨true, _, E.sel [0, 4, 5, 7, 41] rfl, H, fun r hr => hr, hr5, hr6, hm⟩
    ·refine pk 1 E (kc 27 rfl hb108) rfl fun a E=>bd hm fun u109 hx110 hm=>st_call E (ws' (d := 27) E rfl rfl rfl rfl hb108) rfl rfl (x_call E rfl rfl (cf35 _)) (c_cantonref06_Right v1 l2 H hr5 hx110)<|?_
     rintro _ w ⟨rfl, H⟩ a E
     refine pk 3 E (kc 27 rfl hb108) rfl fun a E=>cs hm (fun hb111 hm=>?_) fun hb111 hm=>?_
     ·exact pk 9 E (kc 32 rfl hb111) rfl fun a E=>nt<|have H:=H.front 0 rfl;have H:=H.front 1 rfl;⟨true, _, E.sel [0, 4, 5, 7, 41] rfl, H, fun r hr => hr, hr5, hr6, hm⟩
     ·refine st_val E (ws' (d := 32) E rfl rfl rfl rfl hb111) rfl rfl (x_ldBN (i := 1) (us := (l_api_Op x3)) E H rfl rfl rfl rfl Tryz.underlying55 rfl sz55) fun a E=>bd hm fun u112 hx113 hm=>st_call E (ws' (d := 32) E rfl rfl rfl rfl hb111) rfl rfl (x_call E rfl rfl (cf36 _)) (c_cantonref06_May x3 H hx113)<|?_
      rintro _ w ⟨rfl, H⟩ a E
      refine pk 3 E (kc 32 rfl hb111) rfl fun a E=>cs hm (fun hb114 hm=>?_) fun hb114 hm=>?_
      ·exact pk 4 E (kc 37 rfl hb114) rfl fun a E=>nt<|have H:=H.front 0 rfl;have H:=H.front 1 rfl;⟨true, _, E.sel [0, 4, 5, 7, 41] rfl, H, fun r hr => hr, hr5, hr6, hm⟩
      ·refine st_val E (ws' (d := 37) E rfl rfl rfl rfl hb114) rfl rfl (x_ldBN (i := 0) (us := (l_api_Op x4)) E H rfl rfl rfl rfl Tryz.underlying55 rfl sz55) fun a E=>bd hm fun u115 hx116 hm=>st_call E (ws' (d := 37) E rfl rfl rfl rfl hb114) rfl rfl (x_call E rfl rfl (cf36 _)) (c_cantonref06_May x4 H hx116)<|?_
       rintro _ w ⟨rfl, H⟩ a E
       exact pk 2 E (kc 37 rfl hb114) rfl fun a E=>nt<|have H:=H.front 0 rfl;have H:=H.front 1 rfl;⟨!u115, _, E.sel [0, 4, 5, 7, 41] rfl, H, fun r hr => hr, hr5, hr6, hm⟩
 ·clear E H hm
  rintro a w ⟨b11, rs12, E, H, hs13, hr14, hr15, hm⟩
  unfold m_cantonlaw08_MultiOne_j1 at hm
  refine wif E hm rfl (fun hm=>?_) fun hm=>?_
  ·refine sq<|pr 2 E rfl fun a E=>nt<|wp_ret<|q_thenR<|out1 E rfl rfl<|have H:=H.drop 0;have H:=H.drop 0;?_
   cases hm
   exact ⟨rfl, H.reads (hs13)⟩
  ·refine wp_skip<|q_then<|sq<|pr 1 E rfl fun a E=>sv E rfl rfl rfl (x_ldBN (i := 0) (us := (l_api_Op x3)) E H rfl rfl rfl rfl Tryz.underlying55 rfl sz55) fun a E=>bd hm fun u16 hx17 hm=>x_cl E rfl rfl rfl rfl rfl cf32 (c_nodes_Apply v1 l2 x3 H hr14 hr15 hx17)<|?_
   rintro _ w ⟨v18, v19, rfl, H⟩ a E
   refine pr 3 E rfl fun a E=>al E H rfl rfl rfl rfl zr51 fun p20 w a H E=>pr 1 E rfl fun a E=>?_
   obtain ⟨q21, x22, rfl⟩ := H.slform mm1
   refine st_st (i := 0) E H (wn rfl) rfl (us := (l_api_Result u16.2 (.slice q21 u16.2.Names.length x22))) rfl rfl rfl rfl rfl sz51 rfl rfl fun w H=>nx<|pr 1 E rfl fun a E=>sv E rfl rfl rfl (x_ldBN (i := 1) (us := (l_api_Op x3)) E H rfl rfl rfl rfl Tryz.underlying55 rfl sz55) fun a E=>st_bsO (e := 55) (d := k_api_Op) (cs := [.int .i64 x3.Kind, .string x3.Path, .string x3.Data, .int .i64 x3.Version, .int .i64 x3.Owner, .bool x3.Turns]) (xs := [x3]) E H (wn rfl) rfl rfl rfl (E.evs rfl) (by kernel_rfl) rfl rfl (fun ok hr => (Rows.single (d := k_api_Op) (cs := [.int .i64 x3.Kind, .string x3.Path, .string x3.Data, .int .i64 x3.Version, .int .i64 x3.Owner, .bool x3.Turns]) (x := x3) k_api_Op_mk)) fun v23 w a H E=>have H:=H.thaw (i := 0) rfl;bd hm fun u24 hx25 hm=>x_cl E rfl rfl rfl rfl rfl cf17 (c_multi_Apply v1 l2 v23 ([x3] : List S_api_Op) H (t3 hr14) m0 (t3 hr15) hx25)<|?_
   rintro _ w ⟨v26, v27, rfl, H⟩ a E
   refine pr 3 E rfl fun a E=>al E H rfl rfl rfl rfl zr30 fun p28 w a H E=>pr 1 E rfl fun a E=>?_
   obtain ⟨q29, x30, rfl⟩ := H.slform mm1
   refine st_st (i := 0) E H (wn rfl) rfl (us := (l_api_Done u24.2 (.slice q29 u24.2.Results.length x30))) rfl rfl rfl rfl rfl sz30 rfl rfl fun w H=>nt<|wp_seq<|wp_seq_cut (fun a w => ∃ (b31 : Bool) (rs32 : List Rp), Env 163 a [(0, v1), (4, pt p7 0), (5, pt p8 0), (7, .bool u9), (8, v18), (9, pt p20 0), (86, .bool b31)] ∧ Sep w (Blk p7 55 (l_api_Op x3) :: Blk p8 55 (l_api_Op x4) :: Blk p20 51 (l_api_Result u16.2 (.slice q21 u16.2.Names.length x22)) :: Fo) rs32 ∧ (∀ r, r ∈ rs → r ∈ rs32) ∧ rSl k_api_Node v1 l2 ∈ rs32 ∧ rSl k_api_Node v18 u16.1 ∈ rs32 ∧ rSl kS (.slice q21 u16.2.Names.length x22) u16.2.Names ∈ rs32 ∧ rTab Tryz.prog ∈ rs32 ∧ m_cantonlaw08_MultiOne_j2 u16 x4 l2 x3 u9 b31 = some r) ?_ ?_
   ·obtain ⟨u80, H⟩ := H.raw mm1
    refine dw [(0, 0), (1, 0), (2, 0), (3, 0), (4, 0), (5, 0), (6, 0), (7, 0), (8, 1), (9, 0), (10, 0), (11, 0), (12, 0), (13, 0), (14, 0), (15, 0), (16, 0), (17, 0), (18, 0), (19, 0), (20, 0), (21, 0), (22, 0), (23, 0), (24, 0), (25, 0), (26, 1), (27, 0), (28, 0), (29, 0), (30, 0)] [0, 1] [0] H (by kernel_rfl) (fun _ _ _ h => False.elim h.2) fun w W0 hI H=>fn 1 E rfl fun a E=>fb E rfl (wn rfl) rfl rfl rfl rfl m0 rfl Tryz.underlying27 rfl fun a E=>fn 1 E rfl fun a E=>fb E rfl (wn rfl) rfl rfl rfl rfl mm1 rfl Tryz.underlying27 rfl fun a E=>fn 2 E rfl fun a E=>cs hm (fun hb81 hm=>?_) fun hb81 hm=>?_
    ·refine fk 2 E (kc 61 rfl hb81) rfl fun a E=>fr_op rfl<|pk 1 E (kc 61 rfl hb81) rfl fun a E=>nt<|?_
     refine ⟨⟨_, _, H, (subO_cons m0 (subO_cons mm1 (subO_nil))), (sub_cons m0 (sub_nil))⟩, ?_⟩
     refine fk 17 E (kc 61 rfl hb81) rfl fun a E=>fr_op rfl<|pr 1 E rfl fun a E=>nt<|?_
     refine ⟨⟨_, _, H, (subO_cons m0 (subO_cons mm1 (subO_nil))), (sub_cons m0 (sub_nil))⟩, ?_⟩
     refine fn 4 E rfl fun a E=>fr_nil<|?_
     clear hI
     exact q_then<|have H:=H.drop 0;have H:=H.front 0 rfl;have H:=H.front 2 rfl;have H:=H.front 2 rfl;⟨true, _, E.sel [0, 4, 5, 7, 8, 9, 86] rfl, H, fun r hr => (t6 (hs13 r hr)), (t6 hr14), mm4, mm5, (t6 hr15), hm⟩
    ·refine fk 2 E (kc 61 rfl hb81) rfl fun a E=>fr_op rfl<|bd hm fun u82 hx83 hm=>st_call E (ws' (d := 61) E rfl rfl rfl rfl hb81) rfl rfl (x_call E rfl rfl (cf21 _)) (c_cantonref06_Same v18 u16.1 v26 u24.1 H mm4 mm1 hx83)<|?_
     rintro _ w ⟨rfl, H⟩ a E
     refine nt<|?_
     refine ⟨⟨_, _, H, (subO_cons m0 (subO_cons mm1 (subO_nil))), (sub_cons m0 (sub_nil))⟩, ?_⟩
     refine fk 3 E (kc 61 rfl hb81) rfl fun a E=>cs hm (fun hb84 hm=>?_) fun hb84 hm=>?_
     ·refine fk 14 E (kc 67 rfl hb84) rfl fun a E=>fr_op rfl<|pr 1 E rfl fun a E=>nt<|?_
      refine ⟨⟨_, _, H, (subO_cons m0 (subO_cons mm1 (subO_nil))), (sub_cons m0 (sub_nil))⟩, ?_⟩
      refine fk 4 E (kc 67 rfl hb84) rfl fun a E=>fr_nil<|?_
      clear hI
      exact q_then<|have H:=H.drop 0;have H:=H.front 0 rfl;have H:=H.front 2 rfl;have H:=H.front 2 rfl;⟨true, _, E.sel [0, 4, 5, 7, 8, 9, 86] rfl, H, fun r hr => (t6 (hs13 r hr)), (t6 hr14), mm4, mm5, (t6 hr15), hm⟩
     ·refine fk 1 E (kc 67 rfl hb84) rfl fun a E=>fb E rfl (ws' (d := 67) E rfl rfl rfl rfl hb84) rfl rfl rfl rfl mm1 rfl Tryz.underlying27 rfl fun a E=>fk 2 E (kc 67 rfl hb84) rfl fun a E=>cs hm (fun hb85 hm=>?_) fun hb85 hm=>?_
      ·refine fk 1 E (kc 71 rfl hb85) rfl fun a E=>fb E rfl (ws' (d := 71) E rfl rfl rfl rfl hb85) rfl rfl rfl rfl m0 rfl Tryz.underlying28 rfl fun a E=>fr_val E rfl (ws' (d := 71) E rfl rfl rfl rfl hb85) rfl rfl (fun w hW=>x_lenV E rfl rfl Tryz.underlying28) fun a E=>?_
       refine fk 2 E (kc 71 rfl hb85) rfl fun a E=>cs hm (fun hb86 hm=>?_) fun hb86 hm=>?_
       ·refine fk 5 E (kc 76 rfl hb86) rfl fun a E=>fr_op rfl<|pk 1 E (kc 76 rfl hb86) rfl fun a E=>nt<|?_
        refine ⟨⟨_, _, H, (subO_cons m0 (subO_cons mm1 (subO_nil))), (sub_cons m0 (sub_nil))⟩, ?_⟩
        refine fk 4 E (kc' (kc' (kc 76 rfl hb86) 71 rfl hb85) 67 rfl hb84) rfl fun a E=>fr_nil<|?_
        clear hI
        exact q_then<|have H:=H.drop 0;have H:=H.front 0 rfl;have H:=H.front 2 rfl;have H:=H.front 2 rfl;⟨true, _, E.sel [0, 4, 5, 7, 8, 9, 86] rfl, H, fun r hr => (t6 (hs13 r hr)), (t6 hr14), mm4, mm5, (t6 hr15), hm⟩
       ·refine fk 1 E (kc 76 rfl hb86) rfl fun a E=>fb E rfl (ws' (d := 76) E rfl rfl rfl rfl hb86) rfl rfl rfl rfl m0 rfl Tryz.underlying28 rfl fun a E=>bd hm fun x87 hx88 hm=>?_
        obtain ⟨q89, u92, hx90, hx91⟩ := dr_ixW (P := Tryz.prog) (k := .i64) hI (dr_mem (.head _)) Tryz.underlying28 sz51 hx88
        refine fr_val E rfl (ws' (d := 76) E rfl rfl rfl rfl hb86) rfl rfl (fun w hW=>x_ixA E rfl rfl rfl (hx90 w)) fun a E=>?_
        obtain ⟨_, hx94⟩ := dr_open hI hx91
        obtain ⟨v96, hx93, -⟩ := k_api_Result_open hx94
        have hx95 := hx91
        rw [hx93] at hx95
        have hx97 := dr_get hx95 (fun _ _ h => k_api_Result_get1 h)
        refine fr_val E rfl (ws' (d := 76) E rfl rfl rfl rfl hb86) rfl rfl (fun w hW=>x_ld E rfl rfl (ir_ldW (cs := [.int .i64 x87.Err, .string x87.Path, .string x87.Data, .int .i64 x87.Version, v96]) (DR.ir hx95) Tryz.underlying51 rfl sz51 w hW)) fun a E=>?_
        refine fbn E (l_api_Result u16.2 (.slice q21 u16.2.Names.length x22)) rfl (ws' (d := 76) E rfl rfl rfl rfl hb86) rfl rfl rfl rfl mm1 rfl Tryz.underlying51 rfl sz51 fun a E=>have H:=H.dr (sub_cons m0 (sub_nil)) hx97;fr_op rfl<|bd hm fun u98 hx99 hm=>st_call E (ws' (d := 76) E rfl rfl rfl rfl hb86) rfl rfl (x_call E rfl rfl (cf33 _)) (c_cantonref06_SameOne x87 v96 u16.2 (.slice q21 u16.2.Names.length x22) H m0 mm6 hx99)<|?_
        rintro _ w ⟨rfl, H⟩ a E
        refine nt<|?_
        refine ⟨⟨_, _, H, (subO_cons m0 (subO_cons mm1 (subO_nil))), (sub_cons mm1 (sub_nil))⟩, ?_⟩
        refine fk 4 E (kc' (kc' (kc 76 rfl hb86) 71 rfl hb85) 67 rfl hb84) rfl fun a E=>fr_nil<|?_
        clear hI
        exact q_then<|have H:=H.drop 0;have H:=H.front 0 rfl;have H:=H.front 2 rfl;have H:=H.front 2 rfl;⟨!u98, _, E.sel [0, 4, 5, 7, 8, 9, 86] rfl, H, fun r hr => (t7 (hs13 r hr)), (t7 hr14), mm5, mm6, (t7 hr15), hm⟩
      ·refine fk 10 E (kc 71 rfl hb85) rfl fun a E=>fr_op rfl<|pr 1 E rfl fun a E=>nt<|?_
       refine ⟨⟨_, _, H, (subO_cons m0 (subO_cons mm1 (subO_nil))), (sub_cons m0 (sub_nil))⟩, ?_⟩
       refine fk 4 E (kc' (kc 71 rfl hb85) 67 rfl hb84) rfl fun a E=>fr_nil<|?_
       clear hI
       exact q_then<|have H:=H.drop 0;have H:=H.front 0 rfl;have H:=H.front 2 rfl;have H:=H.front 2 rfl;⟨false, _, E.sel [0, 4, 5, 7, 8, 9, 86] rfl, H, fun r hr => (t6 (hs13 r hr)), (t6 hr14), mm4, mm5, (t6 hr15), hm⟩
   ·clear E H hm
    rintro a w ⟨b31, rs32, E, H, hs33, hr34, hr35, hr36, hr37, hm⟩
    unfold m_cantonlaw08_MultiOne_j2 at hm
    refine wif E hm rfl (fun hm=>?_) fun hm=>?_
    ·refine sq<|pr 1 E rfl fun a E=>nt<|wp_ret<|q_thenR<|out1 E rfl rfl<|have H:=H.drop 0;have H:=H.drop 0;have H:=H.drop 0;?_
     cases hm
     exact ⟨rfl, H.reads (hs33)⟩
    ·refine wp_skip<|q_then<|sq<|pr 1 E rfl fun a E=>sv E rfl rfl rfl (x_ldBN (i := 1) (us := (l_api_Op x4)) E H rfl rfl rfl rfl Tryz.underlying55 rfl sz55) fun a E=>bd hm fun u38 hx39 hm=>x_cl E rfl rfl rfl rfl rfl cf32 (c_nodes_Apply v18 u16.1 x4 H hr35 hr37 hx39)<|?_
     rintro _ w ⟨v40, v41, rfl, H⟩ a E
     refine pr 3 E rfl fun a E=>al E H rfl rfl rfl rfl zr51 fun p42 w a H E=>pr 1 E rfl fun a E=>?_
     obtain ⟨q43, x44, rfl⟩ := H.slform mm1
     refine st_st (i := 0) E H (wn rfl) rfl (us := (l_api_Result u38.2 (.slice q43 u38.2.Names.length x44))) rfl rfl rfl rfl rfl sz51 rfl rfl fun w H=>nx<|pr 1 E rfl fun a E=>sv E rfl rfl rfl (x_ldBN (i := 1) (us := (l_api_Op x3)) E H rfl rfl rfl rfl Tryz.underlying55 rfl sz55) fun a E=>sv E rfl rfl rfl (x_ldBN (i := 2) (us := (l_api_Op x4)) E H rfl rfl rfl rfl Tryz.underlying55 rfl sz55) fun a E=>st_bsO (e := 55) (d := k_api_Op) (cs := [.int .i64 x3.Kind, .string x3.Path, .string x3.Data, .int .i64 x3.Version, .int .i64 x3.Owner, .bool x3.Turns, .int .i64 x4.Kind, .string x4.Path, .string x4.Data, .int .i64 x4.Version, .int .i64 x4.Owner, .bool x4.Turns]) (xs := [x3, x4]) E H (wn rfl) rfl rfl rfl (E.evs rfl) (by kernel_rfl) rfl rfl (fun ok hr => (Rows.append (Rows.single (d := k_api_Op) (cs := [.int .i64 x3.Kind, .string x3.Path, .string x3.Data, .int .i64 x3.Version, .int .i64 x3.Owner, .bool x3.Turns]) (x := x3) k_api_Op_mk) (Rows.single (d := k_api_Op) (cs := [.int .i64 x4.Kind, .string x4.Path, .string x4.Data, .int .i64 x4.Version, .int .i64 x4.Owner, .bool x4.Turns]) (x := x4) k_api_Op_mk))) fun v45 w a H E=>have H:=H.thaw (i := 0) rfl;bd hm fun u46 hx47 hm=>x_cl E rfl rfl rfl rfl rfl cf17 (c_multi_Apply v1 l2 v45 ([x3, x4] : List S_api_Op) H (t3 hr34) m0 (t3 hr37) hx47)<|?_
     rintro _ w ⟨v48, v49, rfl, H⟩ a E
     refine pr 3 E rfl fun a E=>al E H rfl rfl rfl rfl zr30 fun p50 w a H E=>pr 1 E rfl fun a E=>?_
     obtain ⟨q51, x52, rfl⟩ := H.slform mm1
     refine st_st (i := 0) E H (wn rfl) rfl (us := (l_api_Done u46.2 (.slice q51 u46.2.Results.length x52))) rfl rfl rfl rfl rfl sz30 rfl rfl fun w H=>nt<|wp_seq<|sq<|pr 1 E rfl fun a E=>lb E H 4 rfl rfl rfl rfl rfl rfl rfl Tryz.underlying27 rfl fun a E=>pr 1 E rfl fun a E=>nt<|wif E hm rfl (fun hm=>?_) fun hm=>?_
     ·refine sq<|pr 2 E rfl fun a E=>cs hm (fun hb53 hm=>?_) fun hb53 hm=>?_
      ·refine pk 1 E (kc 105 rfl hb53) rfl fun a E=>st_val E (ws' (d := 105) E rfl rfl rfl rfl hb53) rfl rfl (x_ldB (i := 0) E H rfl rfl rfl rfl Tryz.underlying27 rfl) fun a E=>pk 1 E (kc 105 rfl hb53) rfl fun a E=>st_val E (ws' (d := 105) E rfl rfl rfl rfl hb53) rfl rfl (x_ldB (i := 4) E H rfl rfl rfl rfl Tryz.underlying27 rfl) fun a E=>pk 3 E (kc 105 rfl hb53) rfl fun a E=>cs hm (fun hb54 hm=>?_) fun hb54 hm=>?_
       ·refine pk 1 E (kc 112 rfl hb54) rfl fun a E=>st_val E (ws' (d := 112) E rfl rfl rfl rfl hb54) rfl rfl (x_ldB (i := 0) E H rfl rfl rfl rfl Tryz.underlying3 rfl) fun a E=>pk 3 E (kc 112 rfl hb54) rfl fun a E=>nt<|wp_ret<|q_thenR<|out1 E rfl rfl<|have H:=H.drop 0;have H:=H.drop 0;?_
        refine have H:=H.drop 0;have H:=H.drop 0;have H:=H.drop 0;?_
        cases hm
        exact ⟨rfl, H.reads (fun r hr => (t5 (hs33 r hr)))⟩
       ·refine pk 5 E (kc 112 rfl hb54) rfl fun a E=>nt<|wp_ret<|q_thenR<|out1 E rfl rfl<|have H:=H.drop 0;have H:=H.drop 0;have H:=H.drop 0;have H:=H.drop 0;?_
        refine have H:=H.drop 0;?_
        cases hm
        exact ⟨rfl, H.reads (fun r hr => (t5 (hs33 r hr)))⟩
      ·refine pk 12 E (kc 105 rfl hb53) rfl fun a E=>nt<|wp_ret<|q_thenR<|out1 E rfl rfl<|have H:=H.drop 0;have H:=H.drop 0;have H:=H.drop 0;have H:=H.drop 0;?_
       refine have H:=H.drop 0;?_
       cases hm
       exact ⟨rfl, H.reads (fun r hr => (t5 (hs33 r hr)))⟩
     ·refine wp_skip<|q_then<|wp_seq<|sq<|pr 1 E rfl fun a E=>lb E H 1 rfl rfl rfl rfl rfl rfl rfl Tryz.underlying27 rfl fun a E=>pr 1 E rfl fun a E=>nt<|wif E hm rfl (fun hm=>?_) fun hm=>?_
      ·refine sq<|pr 2 E rfl fun a E=>cs hm (fun hb55 hm=>?_) fun hb55 hm=>?_
       ·refine pk 1 E (kc 121 rfl hb55) rfl fun a E=>st_val E (ws' (d := 121) E rfl rfl rfl rfl hb55) rfl rfl (x_ldB (i := 0) E H rfl rfl rfl rfl Tryz.underlying27 rfl) fun a E=>pk 1 E (kc 121 rfl hb55) rfl fun a E=>st_val E (ws' (d := 121) E rfl rfl rfl rfl hb55) rfl rfl (x_ldB (i := 1) E H rfl rfl rfl rfl Tryz.underlying27 rfl) fun a E=>pk 3 E (kc 121 rfl hb55) rfl fun a E=>cs hm (fun hb56 hm=>?_) fun hb56 hm=>?_
        ·refine pk 1 E (kc 128 rfl hb56) rfl fun a E=>st_val E (ws' (d := 128) E rfl rfl rfl rfl hb56) rfl rfl (x_ldB (i := 0) E H rfl rfl rfl rfl Tryz.underlying3 rfl) fun a E=>pk 3 E (kc 128 rfl hb56) rfl fun a E=>cs hm (fun hb57 hm=>?_) fun hb57 hm=>?_
         ·refine pk 2 E (kc 133 rfl hb57) rfl fun a E=>bd hm fun u58 hx59 hm=>st_call E (ws' (d := 133) E rfl rfl rfl rfl hb57) rfl rfl (x_call E rfl rfl (cf21 _)) (c_cantonref06_Same v48 u46.1 v1 l2 H m0 (t5 hr34) hx59)<|?_
          rintro _ w ⟨rfl, H⟩ a E
          refine pk 2 E (kc 133 rfl hb57) rfl fun a E=>nt<|wp_ret<|q_thenR<|out1 E rfl rfl<|have H:=H.drop 0;have H:=H.drop 0;have H:=H.drop 0;have H:=H.drop 0;?_
          refine have H:=H.drop 0;?_
          cases hm
          exact ⟨rfl, H.reads (fun r hr => (t5 (hs33 r hr)))⟩
         ·refine pk 5 E (kc 133 rfl hb57) rfl fun a E=>nt<|wp_ret<|q_thenR<|out1 E rfl rfl<|have H:=H.drop 0;have H:=H.drop 0;have H:=H.drop 0;have H:=H.drop 0;?_
          refine have H:=H.drop 0;?_
          cases hm
          exact ⟨rfl, H.reads (fun r hr => (t5 (hs33 r hr)))⟩
        ·refine pk 10 E (kc 128 rfl hb56) rfl fun a E=>nt<|wp_ret<|q_thenR<|out1 E rfl rfl<|have H:=H.drop 0;have H:=H.drop 0;have H:=H.drop 0;have H:=H.drop 0;?_
         refine have H:=H.drop 0;?_
         cases hm
         exact ⟨rfl, H.reads (fun r hr => (t5 (hs33 r hr)))⟩
       ·refine pk 17 E (kc 121 rfl hb55) rfl fun a E=>nt<|wp_ret<|q_thenR<|out1 E rfl rfl<|have H:=H.drop 0;have H:=H.drop 0;have H:=H.drop 0;have H:=H.drop 0;?_
        refine have H:=H.drop 0;?_
        cases hm
        exact ⟨rfl, H.reads (fun r hr => (t5 (hs33 r hr)))⟩
      ·refine wp_skip<|q_then<|wp_seq<|?_
       obtain ⟨u60, H⟩ := H.raw mm1
       refine dw [(0, 0), (1, 0), (2, 0), (3, 0), (4, 0), (5, 0), (6, 0), (7, 0), (8, 0), (9, 1), (10, 0), (11, 0), (12, 0), (13, 0), (14, 0), (15, 0), (16, 0), (17, 0), (18, 0), (19, 0), (20, 0), (21, 0), (22, 0), (23, 1), (24, 0), (25, 2)] [0, 1] [0] H (by kernel_rfl) (fun _ _ _ h => False.elim h.2) fun w W0 hI H=>fn 2 E rfl fun a E=>cs hm (fun hb61 hm=>?_) fun hb61 hm=>?_
       ·refine fk 1 E (kc 139 rfl hb61) rfl fun a E=>fb E rfl (ws' (d := 139) E rfl rfl rfl rfl hb61) rfl rfl rfl rfl m0 rfl Tryz.underlying27 rfl fun a E=>fk 3 E (kc 139 rfl hb61) rfl fun a E=>cs hm (fun hb62 hm=>?_) fun hb62 hm=>?_
        ·refine fk 2 E (kc 144 rfl hb62) rfl fun a E=>fr_op rfl<|bd hm fun u63 hx64 hm=>st_call E (ws' (d := 144) E rfl rfl rfl rfl hb62) rfl rfl (x_call E rfl rfl (cf21 _)) (c_cantonref06_Same v48 u46.1 v40 u38.1 H mm1 mm4 hx64)<|?_
         rintro _ w ⟨rfl, H⟩ a E
         refine nt<|?_
         refine ⟨⟨_, _, H, (subO_cons m0 (subO_cons mm1 (subO_nil))), (sub_cons m0 (sub_nil))⟩, ?_⟩
         refine fk 2 E (kc 144 rfl hb62) rfl fun a E=>cs hm (fun hb65 hm=>?_) fun hb65 hm=>?_
         ·refine fk 1 E (kc 149 rfl hb65) rfl fun a E=>fb E rfl (ws' (d := 149) E rfl rfl rfl rfl hb65) rfl rfl rfl rfl m0 rfl Tryz.underlying28 rfl fun a E=>fr_val E rfl (ws' (d := 149) E rfl rfl rfl rfl hb65) rfl rfl (fun w hW=>x_lenV E rfl rfl Tryz.underlying28) fun a E=>?_
          refine fk 3 E (kc 149 rfl hb65) rfl fun a E=>cs hm (fun hb66 hm=>?_) fun hb66 hm=>?_
          ·refine fk 1 E (kc 155 rfl hb66) rfl fun a E=>fb E rfl (ws' (d := 155) E rfl rfl rfl rfl hb66) rfl rfl rfl rfl m0 rfl Tryz.underlying28 rfl fun a E=>bd hm fun x67 hx68 hm=>?_
           obtain ⟨q69, u72, hx70, hx71⟩ := dr_ixW (P := Tryz.prog) (k := .i64) hI (dr_mem (.head _)) Tryz.underlying28 sz51 hx68
           refine fr_val E rfl (ws' (d := 155) E rfl rfl rfl rfl hb66) rfl rfl (fun w hW=>x_ixA E rfl rfl rfl (hx70 w)) fun a E=>?_
           obtain ⟨_, hx74⟩ := dr_open hI hx71
           obtain ⟨v76, hx73, -⟩ := k_api_Result_open hx74
           have hx75 := hx71
           rw [hx73] at hx75
           have hx77 := dr_get hx75 (fun _ _ h => k_api_Result_get1 h)
           refine fr_val E rfl (ws' (d := 155) E rfl rfl rfl rfl hb66) rfl rfl (fun w hW=>x_ld E rfl rfl (ir_ldW (cs := [.int .i64 x67.Err, .string x67.Path, .string x67.Data, .int .i64 x67.Version, v76]) (DR.ir hx75) Tryz.underlying51 rfl sz51 w hW)) fun a E=>?_
           refine fbn E (l_api_Result u38.2 (.slice q43 u38.2.Names.length x44)) rfl (ws' (d := 155) E rfl rfl rfl rfl hb66) rfl rfl rfl rfl mm1 rfl Tryz.underlying51 rfl sz51 fun a E=>have H:=H.dr (sub_cons m0 (sub_nil)) hx77;fr_op rfl<|bd hm fun u78 hx79 hm=>st_call E (ws' (d := 155) E rfl rfl rfl rfl hb66) rfl rfl (x_call E rfl rfl (cf33 _)) (c_cantonref06_SameOne x67 v76 u38.2 (.slice q43 u38.2.Names.length x44) H m0 mm6 hx79)<|?_
           rintro _ w ⟨rfl, H⟩ a E
           refine nt<|?_
           refine ⟨⟨_, _, H, (subO_cons m0 (subO_cons mm1 (subO_nil))), (sub_cons mm1 (sub_nil))⟩, ?_⟩
           refine fk 1 E (kc 155 rfl hb66) rfl fun a E=>fr_tail rfl<|pr 1 E rfl fun a E=>nt<|fr_nil<|?_
           clear hI
           refine q_then<|wp_ret<|out1 E rfl rfl<|have H:=H.drop 0;have H:=H.drop 0;have H:=H.drop 0;have H:=H.drop 0;have H:=H.drop 0;?_
           cases hm
           exact ⟨rfl, H.reads (fun r hr => (t7 (hs33 r hr)))⟩
          ·refine fk 5 E (kc 155 rfl hb66) rfl fun a E=>fr_op rfl<|pk 1 E (kc 155 rfl hb66) rfl fun a E=>nt<|?_
           refine ⟨⟨_, _, H, (subO_cons m0 (subO_cons mm1 (subO_nil))), (sub_cons m0 (sub_nil))⟩, ?_⟩
           refine fk 1 E (kc 155 rfl hb66) rfl fun a E=>fr_tail rfl<|pr 1 E rfl fun a E=>nt<|fr_nil<|?_
           clear hI
           refine q_then<|wp_ret<|out1 E rfl rfl<|have H:=H.drop 0;have H:=H.drop 0;have H:=H.drop 0;have H:=H.drop 0;have H:=H.drop 0;?_
           cases hm
           exact ⟨rfl, H.reads (fun r hr => (t6 (hs33 r hr)))⟩
         ·refine fk 11 E (kc 149 rfl hb65) rfl fun a E=>fr_op rfl<|pr 1 E rfl fun a E=>nt<|?_
          refine ⟨⟨_, _, H, (subO_cons m0 (subO_cons mm1 (subO_nil))), (sub_cons m0 (sub_nil))⟩, ?_⟩
          refine fn 1 E rfl fun a E=>fr_tail rfl<|pr 1 E rfl fun a E=>nt<|fr_nil<|?_
          clear hI
          refine q_then<|wp_ret<|out1 E rfl rfl<|have H:=H.drop 0;have H:=H.drop 0;have H:=H.drop 0;have H:=H.drop 0;have H:=H.drop 0;?_
          cases hm
          exact ⟨rfl, H.reads (fun r hr => (t6 (hs33 r hr)))⟩
        ·refine fk 2 E (kc 144 rfl hb62) rfl fun a E=>fr_op rfl<|pk 1 E (kc 144 rfl hb62) rfl fun a E=>nt<|?_
         refine ⟨⟨_, _, H, (subO_cons m0 (subO_cons mm1 (subO_nil))), (sub_cons m0 (sub_nil))⟩, ?_⟩
         refine fk 13 E (kc 144 rfl hb62) rfl fun a E=>fr_op rfl<|pr 1 E rfl fun a E=>nt<|?_
         refine ⟨⟨_, _, H, (subO_cons m0 (subO_cons mm1 (subO_nil))), (sub_cons m0 (sub_nil))⟩, ?_⟩
         refine fn 1 E rfl fun a E=>fr_tail rfl<|pr 1 E rfl fun a E=>nt<|fr_nil<|?_
         clear hI
         refine q_then<|wp_ret<|out1 E rfl rfl<|have H:=H.drop 0;have H:=H.drop 0;have H:=H.drop 0;have H:=H.drop 0;have H:=H.drop 0;?_
         cases hm
         exact ⟨rfl, H.reads (fun r hr => (t6 (hs33 r hr)))⟩
       ·refine fk 7 E (kc 139 rfl hb61) rfl fun a E=>fr_op rfl<|pr 1 E rfl fun a E=>nt<|?_
        refine ⟨⟨_, _, H, (subO_cons m0 (subO_cons mm1 (subO_nil))), (sub_cons m0 (sub_nil))⟩, ?_⟩
        refine fn 13 E rfl fun a E=>fr_op rfl<|pr 1 E rfl fun a E=>nt<|?_
        refine ⟨⟨_, _, H, (subO_cons m0 (subO_cons mm1 (subO_nil))), (sub_cons m0 (sub_nil))⟩, ?_⟩
        refine fn 1 E rfl fun a E=>fr_tail rfl<|pr 1 E rfl fun a E=>nt<|fr_nil<|?_
        clear hI
        refine q_then<|wp_ret<|out1 E rfl rfl<|have H:=H.drop 0;have H:=H.drop 0;have H:=H.drop 0;have H:=H.drop 0;have H:=H.drop 0;?_
        cases hm
        exact ⟨rfl, H.reads (fun r hr => (t6 (hs33 r hr)))⟩

end Go.Cb
