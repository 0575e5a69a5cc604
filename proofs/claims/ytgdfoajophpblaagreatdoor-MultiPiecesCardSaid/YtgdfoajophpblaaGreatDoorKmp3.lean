/- Functions of the program, walked: each comes to its plain function. -/
import Derived.Test.YtgdfoajophpblaaGreatDoorKmp2
import Derived.Test.YtgdfoajophpblaaGreatDoorN4mp
set_option linter.unusedVariables false
set_option linter.unusedSimpArgs false
set_option maxRecDepth 20000
set_option maxHeartbeats 1000000
namespace Go.Cb
open Go.Proofs Go.RowKit

def m_part_Of_j1 (l11 : (List S_api_Part)) : Option (List S_api_Part) :=
  some (l11)
def m_part_Of (x1 : S_api_Op) : Option (List S_api_Part) :=
  (m_nodes_May x1).bind fun u3 => if (!u3) = true then (some ([])) else ((m_part_up x1.Path).bind fun u6 => if (x1.Kind == 1) = true then ((m_part_Of_2 2 u6 x1.Kind x1.Path x1.Data x1.Version x1.Owner x1.Turns).bind fun u14 => (m_part_up u6).bind fun u17 => (m_part_Of_1 ([(⟨1, u17, u6, (ByteArray.mk #[]), 0, 0, false⟩ : S_api_Part), (⟨u14.Kind, u14.Dir, u14.Path, x1.Data, u14.Version, x1.Owner, x1.Turns⟩ : S_api_Part)] : List S_api_Part) []).bind fun u20 => m_part_Of_j1 u20) else (if (x1.Kind == 2) = true then ((m_part_Of_4 3 u6 x1.Kind x1.Path x1.Data x1.Version x1.Owner x1.Turns).bind fun u23 => (m_part_Of_3 4 x1.Kind x1.Path x1.Data x1.Version x1.Owner x1.Turns).bind fun u25 => (m_part_Of_1 ([u23, u25] : List S_api_Part) []).bind fun u28 => m_part_Of_j1 u28) else (if (x1.Kind == 3) = true then ((m_part_Of_4 5 u6 x1.Kind x1.Path x1.Data x1.Version x1.Owner x1.Turns).bind fun u31 => (m_part_Of_1 ([(⟨u31.Kind, u31.Dir, u31.Path, x1.Data, u31.Version, u31.Owner, u31.Turns⟩ : S_api_Part)] : List S_api_Part) []).bind fun u35 => m_part_Of_j1 u35) else (if (x1.Kind == 4) = true then ((m_part_Of_4 6 u6 x1.Kind x1.Path x1.Data x1.Version x1.Owner x1.Turns).bind fun u38 => (m_part_Of_1 ([u38] : List S_api_Part) []).bind fun u41 => m_part_Of_j1 u41) else (if (x1.Kind == 5) = true then ((m_part_Of_2 7 u6 x1.Kind x1.Path x1.Data x1.Version x1.Owner x1.Turns).bind fun u44 => (m_part_Of_1 ([u44] : List S_api_Part) []).bind fun u47 => m_part_Of_j1 u47) else (if (x1.Kind == 6) = true then ((m_part_Of_2 8 u6 x1.Kind x1.Path x1.Data x1.Version x1.Owner x1.Turns).bind fun u50 => (m_part_Of_3 9 x1.Kind x1.Path x1.Data x1.Version x1.Owner x1.Turns).bind fun u52 => (m_part_Of_1 ([u50, u52] : List S_api_Part) []).bind fun u55 => m_part_Of_j1 u55) else (if (x1.Kind == 7) = true then ((m_part_Of_2 8 u6 x1.Kind x1.Path x1.Data x1.Version x1.Owner x1.Turns).bind fun u58 => (m_part_Of_3 10 x1.Kind x1.Path x1.Data x1.Version x1.Owner x1.Turns).bind fun u60 => (m_part_Of_1 ([u58, u60] : List S_api_Part) []).bind fun u63 => m_part_Of_j1 u63) else (m_part_Of_j1 []))))))))
theorem c_part_Of {w : World} {Fo : List Ob} {rs : List Rp} (x1 : S_api_Op) (H : Sep w (Fo) rs) {r : (List S_api_Part)} (hm : m_part_Of x1 = some r) :
    Calls Tryz.prog 37 [.agg (l_api_Op x1).toArray].toArray w (Ret fun v w' => ∃ (v5001 : Value), v5001 = v ∧ Sep w' (Row 62 k_api_Part v5001 r :: Fo) (rs)) := by
 unfold m_part_Of at hm
 refine enter Tryz.func37 rfl Tryz.ntmps37 rfl fun a E =>?_
 simp only [enum, Nat.reduceAdd] at E
 refine sq<|st_box E H (wn rfl) rfl rfl (cs := (l_api_Op x1)) rfl rfl rfl fun p2 w a H E=>pr 1 E rfl fun a E=>nt<|wp_seq<|sq<|sv E rfl rfl rfl (x_ldBN (i := 0) (us := (l_api_Op x1)) E H rfl rfl rfl rfl Tryz.underlying55 rfl sz55) fun a E=>bd hm fun u3 hx4 hm=>x_cl E rfl rfl rfl rfl rfl cf53 (c_nodes_May x1 H hx4)<|?_
 rintro _ w ⟨rfl, H⟩ a E
 refine pr 1 E rfl fun a E=>nt<|wif E hm rfl (fun hm=>?_) fun hm=>?_
 ·refine sq<|pr 1 E rfl fun a E=>nt<|wp_ret<|q_thenR<|out1 E rfl rfl<|have H:=H.nilRow 62 k_api_Part;have H:=H.drop 1;?_
  cases hm
  exact ⟨(.slice none 0 0), rfl, H.reads (fun r hr => hr)⟩
 ·refine wp_skip<|q_then<|sq<|al1 E H rfl rfl rfl rfl zr59 rfl fun p5 w a H E=>nx<|sv E rfl rfl rfl (x_func E rfl rfl rfl) fun a E=>pr 1 E rfl fun a E=>nx<|pr 1 E rfl fun a E=>?_
  refine lb E H 1 rfl rfl rfl rfl rfl rfl rfl Tryz.underlying9 rfl fun a E=>bd hm fun u6 hx7 hm=>x_cl E rfl rfl rfl rfl rfl cf73 (c_part_up x1.Path H hx7)<|?_
  rintro _ w ⟨rfl, H⟩ a E
  refine al1 E H rfl rfl rfl rfl zr9 rfl fun p8 w a H E=>st_st (i := 0) E H (wn rfl) rfl (us := [.string u6]) rfl rfl rfl rfl rfl sz9 rfl rfl fun w H=>nx<|sv E rfl rfl rfl (x_func E rfl rfl rfl) fun a E=>al1 E H rfl rfl rfl rfl zr96 rfl fun p9 w a H E=>st_st (i := 0) E H (wn rfl) rfl (us := [.func (.func 74) #[] #[pt p8 0, pt p2 0]]) rfl rfl rfl rfl rfl sz96 rfl rfl fun w H=>nx<|sv E rfl rfl rfl (x_func E rfl rfl rfl) fun a E=>pr 1 E rfl fun a E=>?_
  refine nx<|sv E rfl rfl rfl (x_func E rfl rfl rfl) fun a E=>pr 1 E rfl fun a E=>nt<|wp_seq_cut (fun a w => ∃ (v10 : Value) (l11 : (List S_api_Part)) (rs12 : List Rp), Env 97 a [(3, pt p5 0)] ∧ Sep w (Blk p5 59 [v10] :: Row 62 k_api_Part v10 l11 :: Fo) rs12 ∧ (∀ r, r ∈ rs → r ∈ rs12) ∧ m_part_Of_j1 l11 = some r) ?_ ?_
  ·refine sq<|pr 1 E rfl fun a E=>lb E H 3 rfl rfl rfl rfl rfl rfl rfl Tryz.underlying3 rfl fun a E=>nt<|wp_block<|sq<|pr 2 E rfl fun a E=>nt<|wif E hm rfl (fun hm=>?_) fun hm=>?_
   ·refine sq<|lb E H 0 rfl rfl rfl rfl rfl rfl rfl Tryz.underlying96 rfl fun a E=>have H:=H.front 2 rfl;have H:=H.front 1 rfl;have H:=H.front 3 rfl;have H:=H.front 3 rfl;bd hm fun u14 hx15 hm=>st_call E (wn rfl) rfl rfl (x_callv E rfl rfl rfl (cf74 _)) (c_part_Of_2 2 p8 u6 p2 x1.Kind x1.Path x1.Data x1.Version x1.Owner x1.Turns H hx15)<|?_
    rintro _ w ⟨rfl, H⟩ a E
    refine al E H rfl rfl rfl rfl zr62 fun p16 w a H E=>st_st (i := 0) E H (wn rfl) rfl (us := (l_api_Part u14)) rfl rfl rfl rfl rfl sz62 rfl rfl fun w H=>nt<|wp_seq<|dw [(0, 0), (1, 0), (2, 0), (3, 0), (4, 0), (5, 0), (6, 0), (7, 1), (8, 0), (9, 1), (10, 2), (11, 2)] [2] [] H (by kernel_rfl) (fun _ _ _ h => False.elim h.2) fun w W0 hI H=>fn 1 E rfl fun a E=>fb E rfl (wn rfl) rfl rfl rfl rfl m0 rfl Tryz.underlying9 rfl fun a E=>fn 1 E rfl fun a E=>fb E rfl (wn rfl) rfl rfl rfl rfl m0 rfl Tryz.underlying2 rfl fun a E=>?_
    refine fn 1 E rfl fun a E=>fb E rfl (wn rfl) rfl rfl rfl rfl m0 rfl Tryz.underlying4 rfl fun a E=>fn 1 E rfl fun a E=>fr_op rfl<|st_st (i := 0) E H (wn rfl) rfl (us := [.string x1.Data]) rfl rfl rfl rfl rfl sz9 rfl rfl fun w H=>nt<|?_
    refine ⟨⟨_, _, H, (subO_cons mm2 (subO_nil)), (sub_nil)⟩, ?_⟩
    refine fn 1 E rfl fun a E=>fr_op rfl<|st_st (i := 0) E H (wn rfl) rfl (us := [.int .i64 x1.Owner]) rfl rfl rfl rfl rfl sz2 rfl rfl fun w H=>nt<|?_
    refine ⟨⟨_, _, H, (subO_cons mm2 (subO_nil)), (sub_nil)⟩, ?_⟩
    refine fr_tail rfl<|pr 1 E rfl fun a E=>nt<|fr_tail rfl<|st_st (i := 0) E H (wn rfl) rfl (us := [.bool x1.Turns]) rfl rfl rfl rfl rfl sz4 rfl rfl fun w H=>nt<|fr_nil<|?_
    clear hI
    refine q_then<|dw [(0, 0), (1, 0), (3, 0), (5, 0), (2, 1), (4, 0), (6, 1), (7, 1)] [0, 1] [] H (by kernel_rfl) (fun _ _ _ h => False.elim h.2) fun w W0 hI H=>fn 1 E rfl fun a E=>fb E rfl (wn rfl) rfl rfl rfl rfl mm1 rfl Tryz.underlying9 rfl fun a E=>fb E rfl (wn rfl) rfl rfl rfl rfl mm1 rfl Tryz.underlying9 rfl fun a E=>fbn E [.int .i64 u14.Kind, .string u14.Dir, .string u14.Path, .string x1.Data, .int .i64 u14.Version, .int .i64 x1.Owner, .bool x1.Turns] rfl (wn rfl) rfl rfl rfl rfl m0 rfl Tryz.underlying62 rfl sz62 fun a E=>fr_op rfl<|bd hm fun u17 hx18 hm=>x_cl E rfl rfl rfl rfl rfl cf73 (c_part_up u6 H hx18)<|?_
    rintro _ w ⟨rfl, H⟩ a E
    refine nt<|?_
    refine ⟨⟨_, _, H, (subO_cons m0 (subO_cons mm1 (subO_nil))), (sub_nil)⟩, ?_⟩
    refine fr_val E rfl (wn rfl) rfl rfl (fun w hW=>(x_build E rfl (E.evs rfl) (v := .agg #[.int .i64 1, .string u17, .string u6, .string (ByteArray.mk #[]), .int .i64 0, .int .i64 0, .bool false]) (by kernel_rfl))) fun a E=>?_
    refine fr_op rfl<|st_bsO (e := 62) (d := k_api_Part) (cs := [.int .i64 1, .string u17, .string u6, .string (ByteArray.mk #[]), .int .i64 0, .int .i64 0, .bool false, .int .i64 u14.Kind, .string u14.Dir, .string u14.Path, .string x1.Data, .int .i64 u14.Version, .int .i64 x1.Owner, .bool x1.Turns]) (xs := [(⟨1, u17, u6, (ByteArray.mk #[]), 0, 0, false⟩ : S_api_Part), (⟨u14.Kind, u14.Dir, u14.Path, x1.Data, u14.Version, x1.Owner, x1.Turns⟩ : S_api_Part)]) E H (wn rfl) rfl rfl rfl (E.evs rfl) (by kernel_rfl) rfl rfl (fun ok hr => (Rows.append (Rows.single (d := k_api_Part) (cs := [.int .i64 1, .string u17, .string u6, .string (ByteArray.mk #[]), .int .i64 0, .int .i64 0, .bool false]) (x := (⟨1, u17, u6, (ByteArray.mk #[]), 0, 0, false⟩ : S_api_Part)) k_api_Part_mk) (Rows.single (d := k_api_Part) (cs := [.int .i64 u14.Kind, .string u14.Dir, .string u14.Path, .string x1.Data, .int .i64 u14.Version, .int .i64 x1.Owner, .bool x1.Turns]) (x := (⟨u14.Kind, u14.Dir, u14.Path, x1.Data, u14.Version, x1.Owner, x1.Turns⟩ : S_api_Part)) k_api_Part_mk))) fun v19 w a H E=>nt<|?_
    refine ⟨⟨_, _, H, (subO_cons mm1 (subO_cons mm2 (subO_nil))), (sub_nil)⟩, ?_⟩
    refine fr_op rfl<|have H:=H.thaw (i := 0) rfl;have H:=H.nilRow 62 k_api_Part;have H:=H.front 4 rfl;have H:=H.front 4 rfl;have H:=H.front 4 rfl;have H:=H.front 4 rfl;have H:=H.front 4 rfl;have H:=H.front 5 rfl;?_
    refine bd hm fun u20 hx21 hm=>st_call E (wn rfl) rfl rfl (x_callv E rfl rfl rfl (cf72 _)) (c_part_Of_1 v19 ([(⟨1, u17, u6, (ByteArray.mk #[]), 0, 0, false⟩ : S_api_Part), (⟨u14.Kind, u14.Dir, u14.Path, x1.Data, u14.Version, x1.Owner, x1.Turns⟩ : S_api_Part)] : List S_api_Part) p5 (.slice none 0 0) [] H m0 hx21)<|?_
    rintro _ w ⟨v22, rfl, H⟩ a E
    refine nt<|?_
    refine ⟨⟨_, _, H, (subO_cons mm2 (subO_cons mm3 (subO_nil))), (sub_nil)⟩, ?_⟩
    refine fr_nil<|?_
    clear hI
    exact q_blk<|q_then<|have H:=H.drop 2;have H:=H.drop 2;have H:=H.drop 2;have H:=H.drop 2;⟨v22, u20, _, E.sel [3] rfl, H, fun r hr => (t1 hr), hm⟩
   ·refine sq<|pr 2 E rfl fun a E=>nt<|wif E hm rfl (fun hm=>?_) fun hm=>?_
    ·refine wp_region_lit<|pr 2 E rfl fun a E=>have H:=H.front 2 rfl;have H:=H.front 3 rfl;have H:=H.front 3 rfl;have H:=H.front 3 rfl;bd hm fun u23 hx24 hm=>st_call E (wn rfl) rfl rfl (x_callv E rfl rfl rfl (cf76 _)) (c_part_Of_4 3 p9 p8 u6 p2 x1.Kind x1.Path x1.Data x1.Version x1.Owner x1.Turns H hx24)<|?_
     rintro _ w ⟨rfl, H⟩ a E
     refine pr 1 E rfl fun a E=>have H:=H.front 3 rfl;have H:=H.front 2 rfl;have H:=H.front 2 rfl;have H:=H.front 3 rfl;bd hm fun u25 hx26 hm=>st_call E (wn rfl) rfl rfl (x_callv E rfl rfl rfl (cf75 _)) (c_part_Of_3 4 p2 x1.Kind x1.Path x1.Data x1.Version x1.Owner x1.Turns H hx26)<|?_
     rintro _ w ⟨rfl, H⟩ a E
     refine st_bsO (e := 62) (d := k_api_Part) (cs := [.int .i64 u23.Kind, .string u23.Dir, .string u23.Path, .string u23.Data, .int .i64 u23.Version, .int .i64 u23.Owner, .bool u23.Turns, .int .i64 u25.Kind, .string u25.Dir, .string u25.Path, .string u25.Data, .int .i64 u25.Version, .int .i64 u25.Owner, .bool u25.Turns]) (xs := [u23, u25]) E H (wn rfl) rfl rfl rfl (E.evs rfl) (by kernel_rfl) rfl rfl (fun ok hr => (Rows.append (Rows.single (d := k_api_Part) (cs := [.int .i64 u23.Kind, .string u23.Dir, .string u23.Path, .string u23.Data, .int .i64 u23.Version, .int .i64 u23.Owner, .bool u23.Turns]) (x := u23) k_api_Part_mk) (Rows.single (d := k_api_Part) (cs := [.int .i64 u25.Kind, .string u25.Dir, .string u25.Path, .string u25.Data, .int .i64 u25.Version, .int .i64 u25.Owner, .bool u25.Turns]) (x := u25) k_api_Part_mk))) fun v27 w a H E=>have H:=H.thaw (i := 0) rfl;have H:=H.nilRow 62 k_api_Part;have H:=H.front 3 rfl;have H:=H.front 3 rfl;have H:=H.front 3 rfl;have H:=H.front 3 rfl;have H:=H.front 4 rfl;bd hm fun u28 hx29 hm=>?_
     refine st_call E (wn rfl) rfl rfl (x_callv E rfl rfl rfl (cf72 _)) (c_part_Of_1 v27 ([u23, u25] : List S_api_Part) p5 (.slice none 0 0) [] H m0 hx29)<|?_
     rintro _ w ⟨v30, rfl, H⟩ a E
     exact wpList_nil<|q_blk<|q_then<|have H:=H.drop 2;have H:=H.drop 2;have H:=H.drop 2;⟨v30, u28, _, E.sel [3] rfl, H, fun r hr => (t1 hr), hm⟩
    ·refine sq<|pr 2 E rfl fun a E=>nt<|wif E hm rfl (fun hm=>?_) fun hm=>?_
     ·refine sq<|pr 1 E rfl fun a E=>have H:=H.front 2 rfl;have H:=H.front 3 rfl;have H:=H.front 3 rfl;have H:=H.front 3 rfl;bd hm fun u31 hx32 hm=>st_call E (wn rfl) rfl rfl (x_callv E rfl rfl rfl (cf76 _)) (c_part_Of_4 5 p9 p8 u6 p2 x1.Kind x1.Path x1.Data x1.Version x1.Owner x1.Turns H hx32)<|?_
      rintro _ w ⟨rfl, H⟩ a E
      refine al E H rfl rfl rfl rfl zr62 fun p33 w a H E=>st_st (i := 0) E H (wn rfl) rfl (us := (l_api_Part u31)) rfl rfl rfl rfl rfl sz62 rfl rfl fun w H=>nx<|pr 1 E rfl fun a E=>lb E H 3 rfl rfl rfl rfl rfl rfl rfl Tryz.underlying9 rfl fun a E=>pr 1 E rfl fun a E=>st_st (i := 0) E H (wn rfl) rfl (us := [.string x1.Data]) rfl rfl rfl rfl rfl sz9 rfl rfl fun w H=>nt<|wp_region_lit<|?_
      refine pr 1 E rfl fun a E=>sv E rfl rfl rfl (x_ldBN (i := 0) (us := [.int .i64 u31.Kind, .string u31.Dir, .string u31.Path, .string x1.Data, .int .i64 u31.Version, .int .i64 u31.Owner, .bool u31.Turns]) E H rfl rfl rfl rfl Tryz.underlying62 rfl sz62) fun a E=>st_bsO (e := 62) (d := k_api_Part) (cs := [.int .i64 u31.Kind, .string u31.Dir, .string u31.Path, .string x1.Data, .int .i64 u31.Version, .int .i64 u31.Owner, .bool u31.Turns]) (xs := [(⟨u31.Kind, u31.Dir, u31.Path, x1.Data, u31.Version, u31.Owner, u31.Turns⟩ : S_api_Part)]) E H (wn rfl) rfl rfl rfl (E.evs rfl) (by kernel_rfl) rfl rfl (fun ok hr => (Rows.single (d := k_api_Part) (cs := [.int .i64 u31.Kind, .string u31.Dir, .string u31.Path, .string x1.Data, .int .i64 u31.Version, .int .i64 u31.Owner, .bool u31.Turns]) (x := (⟨u31.Kind, u31.Dir, u31.Path, x1.Data, u31.Version, u31.Owner, u31.Turns⟩ : S_api_Part)) k_api_Part_mk)) fun v34 w a H E=>have H:=H.thaw (i := 0) rfl;have H:=H.nilRow 62 k_api_Part;have H:=H.front 4 rfl;have H:=H.front 4 rfl;have H:=H.front 4 rfl;have H:=H.front 4 rfl;?_
      refine have H:=H.front 4 rfl;have H:=H.front 5 rfl;bd hm fun u35 hx36 hm=>st_call E (wn rfl) rfl rfl (x_callv E rfl rfl rfl (cf72 _)) (c_part_Of_1 v34 ([(⟨u31.Kind, u31.Dir, u31.Path, x1.Data, u31.Version, u31.Owner, u31.Turns⟩ : S_api_Part)] : List S_api_Part) p5 (.slice none 0 0) [] H m0 hx36)<|?_
      rintro _ w ⟨v37, rfl, H⟩ a E
      exact wpList_nil<|q_blk<|q_then<|have H:=H.drop 2;have H:=H.drop 2;have H:=H.drop 2;have H:=H.drop 2;⟨v37, u35, _, E.sel [3] rfl, H, fun r hr => (t1 hr), hm⟩
     ·refine sq<|pr 2 E rfl fun a E=>nt<|wif E hm rfl (fun hm=>?_) fun hm=>?_
      ·refine wp_region_lit<|pr 2 E rfl fun a E=>have H:=H.front 2 rfl;have H:=H.front 3 rfl;have H:=H.front 3 rfl;have H:=H.front 3 rfl;bd hm fun u38 hx39 hm=>st_call E (wn rfl) rfl rfl (x_callv E rfl rfl rfl (cf76 _)) (c_part_Of_4 6 p9 p8 u6 p2 x1.Kind x1.Path x1.Data x1.Version x1.Owner x1.Turns H hx39)<|?_
       rintro _ w ⟨rfl, H⟩ a E
       refine st_bsO (e := 62) (d := k_api_Part) (cs := [.int .i64 u38.Kind, .string u38.Dir, .string u38.Path, .string u38.Data, .int .i64 u38.Version, .int .i64 u38.Owner, .bool u38.Turns]) (xs := [u38]) E H (wn rfl) rfl rfl rfl (E.evs rfl) (by kernel_rfl) rfl rfl (fun ok hr => (Rows.single (d := k_api_Part) (cs := [.int .i64 u38.Kind, .string u38.Dir, .string u38.Path, .string u38.Data, .int .i64 u38.Version, .int .i64 u38.Owner, .bool u38.Turns]) (x := u38) k_api_Part_mk)) fun v40 w a H E=>have H:=H.thaw (i := 0) rfl;have H:=H.nilRow 62 k_api_Part;have H:=H.front 3 rfl;have H:=H.front 3 rfl;have H:=H.front 3 rfl;have H:=H.front 3 rfl;have H:=H.front 4 rfl;bd hm fun u41 hx42 hm=>?_
       refine st_call E (wn rfl) rfl rfl (x_callv E rfl rfl rfl (cf72 _)) (c_part_Of_1 v40 ([u38] : List S_api_Part) p5 (.slice none 0 0) [] H m0 hx42)<|?_
       rintro _ w ⟨v43, rfl, H⟩ a E
       exact wpList_nil<|q_blk<|q_then<|have H:=H.drop 2;have H:=H.drop 2;have H:=H.drop 2;⟨v43, u41, _, E.sel [3] rfl, H, fun r hr => (t1 hr), hm⟩
      ·refine sq<|pr 2 E rfl fun a E=>nt<|wif E hm rfl (fun hm=>?_) fun hm=>?_
       ·refine wp_region_lit<|pr 1 E rfl fun a E=>lb E H 0 rfl rfl rfl rfl rfl rfl rfl Tryz.underlying96 rfl fun a E=>have H:=H.front 2 rfl;have H:=H.front 1 rfl;have H:=H.front 3 rfl;have H:=H.front 3 rfl;bd hm fun u44 hx45 hm=>st_call E (wn rfl) rfl rfl (x_callv E rfl rfl rfl (cf74 _)) (c_part_Of_2 7 p8 u6 p2 x1.Kind x1.Path x1.Data x1.Version x1.Owner x1.Turns H hx45)<|?_
        rintro _ w ⟨rfl, H⟩ a E
        refine st_bsO (e := 62) (d := k_api_Part) (cs := [.int .i64 u44.Kind, .string u44.Dir, .string u44.Path, .string u44.Data, .int .i64 u44.Version, .int .i64 u44.Owner, .bool u44.Turns]) (xs := [u44]) E H (wn rfl) rfl rfl rfl (E.evs rfl) (by kernel_rfl) rfl rfl (fun ok hr => (Rows.single (d := k_api_Part) (cs := [.int .i64 u44.Kind, .string u44.Dir, .string u44.Path, .string u44.Data, .int .i64 u44.Version, .int .i64 u44.Owner, .bool u44.Turns]) (x := u44) k_api_Part_mk)) fun v46 w a H E=>have H:=H.thaw (i := 0) rfl;have H:=H.nilRow 62 k_api_Part;have H:=H.front 3 rfl;have H:=H.front 3 rfl;have H:=H.front 3 rfl;have H:=H.front 3 rfl;have H:=H.front 4 rfl;bd hm fun u47 hx48 hm=>?_
        refine st_call E (wn rfl) rfl rfl (x_callv E rfl rfl rfl (cf72 _)) (c_part_Of_1 v46 ([u44] : List S_api_Part) p5 (.slice none 0 0) [] H m0 hx48)<|?_
        rintro _ w ⟨v49, rfl, H⟩ a E
        exact wpList_nil<|q_blk<|q_then<|have H:=H.drop 2;have H:=H.drop 2;have H:=H.drop 2;⟨v49, u47, _, E.sel [3] rfl, H, fun r hr => (t1 hr), hm⟩
       ·refine sq<|pr 2 E rfl fun a E=>nt<|wif E hm rfl (fun hm=>?_) fun hm=>?_
        ·refine wp_region_lit<|pr 1 E rfl fun a E=>lb E H 0 rfl rfl rfl rfl rfl rfl rfl Tryz.underlying96 rfl fun a E=>have H:=H.front 2 rfl;have H:=H.front 1 rfl;have H:=H.front 3 rfl;have H:=H.front 3 rfl;bd hm fun u50 hx51 hm=>st_call E (wn rfl) rfl rfl (x_callv E rfl rfl rfl (cf74 _)) (c_part_Of_2 8 p8 u6 p2 x1.Kind x1.Path x1.Data x1.Version x1.Owner x1.Turns H hx51)<|?_
         rintro _ w ⟨rfl, H⟩ a E
         refine pr 1 E rfl fun a E=>have H:=H.front 3 rfl;have H:=H.front 3 rfl;have H:=H.front 2 rfl;have H:=H.front 3 rfl;bd hm fun u52 hx53 hm=>st_call E (wn rfl) rfl rfl (x_callv E rfl rfl rfl (cf75 _)) (c_part_Of_3 9 p2 x1.Kind x1.Path x1.Data x1.Version x1.Owner x1.Turns H hx53)<|?_
         rintro _ w ⟨rfl, H⟩ a E
         refine st_bsO (e := 62) (d := k_api_Part) (cs := [.int .i64 u50.Kind, .string u50.Dir, .string u50.Path, .string u50.Data, .int .i64 u50.Version, .int .i64 u50.Owner, .bool u50.Turns, .int .i64 u52.Kind, .string u52.Dir, .string u52.Path, .string u52.Data, .int .i64 u52.Version, .int .i64 u52.Owner, .bool u52.Turns]) (xs := [u50, u52]) E H (wn rfl) rfl rfl rfl (E.evs rfl) (by kernel_rfl) rfl rfl (fun ok hr => (Rows.append (Rows.single (d := k_api_Part) (cs := [.int .i64 u50.Kind, .string u50.Dir, .string u50.Path, .string u50.Data, .int .i64 u50.Version, .int .i64 u50.Owner, .bool u50.Turns]) (x := u50) k_api_Part_mk) (Rows.single (d := k_api_Part) (cs := [.int .i64 u52.Kind, .string u52.Dir, .string u52.Path, .string u52.Data, .int .i64 u52.Version, .int .i64 u52.Owner, .bool u52.Turns]) (x := u52) k_api_Part_mk))) fun v54 w a H E=>have H:=H.thaw (i := 0) rfl;have H:=H.nilRow 62 k_api_Part;have H:=H.front 3 rfl;have H:=H.front 3 rfl;have H:=H.front 3 rfl;have H:=H.front 3 rfl;have H:=H.front 4 rfl;bd hm fun u55 hx56 hm=>?_
         refine st_call E (wn rfl) rfl rfl (x_callv E rfl rfl rfl (cf72 _)) (c_part_Of_1 v54 ([u50, u52] : List S_api_Part) p5 (.slice none 0 0) [] H m0 hx56)<|?_
         rintro _ w ⟨v57, rfl, H⟩ a E
         exact wpList_nil<|q_blk<|q_then<|have H:=H.drop 2;have H:=H.drop 2;have H:=H.drop 2;⟨v57, u55, _, E.sel [3] rfl, H, fun r hr => (t1 hr), hm⟩
        ·refine sq<|pr 2 E rfl fun a E=>nt<|wif E hm rfl (fun hm=>?_) fun hm=>?_
         ·refine wp_region_lit<|pr 1 E rfl fun a E=>lb E H 0 rfl rfl rfl rfl rfl rfl rfl Tryz.underlying96 rfl fun a E=>have H:=H.front 2 rfl;have H:=H.front 1 rfl;have H:=H.front 3 rfl;have H:=H.front 3 rfl;bd hm fun u58 hx59 hm=>st_call E (wn rfl) rfl rfl (x_callv E rfl rfl rfl (cf74 _)) (c_part_Of_2 8 p8 u6 p2 x1.Kind x1.Path x1.Data x1.Version x1.Owner x1.Turns H hx59)<|?_
          rintro _ w ⟨rfl, H⟩ a E
          refine pr 1 E rfl fun a E=>have H:=H.front 3 rfl;have H:=H.front 3 rfl;have H:=H.front 2 rfl;have H:=H.front 3 rfl;bd hm fun u60 hx61 hm=>st_call E (wn rfl) rfl rfl (x_callv E rfl rfl rfl (cf75 _)) (c_part_Of_3 10 p2 x1.Kind x1.Path x1.Data x1.Version x1.Owner x1.Turns H hx61)<|?_
          rintro _ w ⟨rfl, H⟩ a E
          refine st_bsO (e := 62) (d := k_api_Part) (cs := [.int .i64 u58.Kind, .string u58.Dir, .string u58.Path, .string u58.Data, .int .i64 u58.Version, .int .i64 u58.Owner, .bool u58.Turns, .int .i64 u60.Kind, .string u60.Dir, .string u60.Path, .string u60.Data, .int .i64 u60.Version, .int .i64 u60.Owner, .bool u60.Turns]) (xs := [u58, u60]) E H (wn rfl) rfl rfl rfl (E.evs rfl) (by kernel_rfl) rfl rfl (fun ok hr => (Rows.append (Rows.single (d := k_api_Part) (cs := [.int .i64 u58.Kind, .string u58.Dir, .string u58.Path, .string u58.Data, .int .i64 u58.Version, .int .i64 u58.Owner, .bool u58.Turns]) (x := u58) k_api_Part_mk) (Rows.single (d := k_api_Part) (cs := [.int .i64 u60.Kind, .string u60.Dir, .string u60.Path, .string u60.Data, .int .i64 u60.Version, .int .i64 u60.Owner, .bool u60.Turns]) (x := u60) k_api_Part_mk))) fun v62 w a H E=>have H:=H.thaw (i := 0) rfl;have H:=H.nilRow 62 k_api_Part;have H:=H.front 3 rfl;have H:=H.front 3 rfl;have H:=H.front 3 rfl;have H:=H.front 3 rfl;have H:=H.front 4 rfl;bd hm fun u63 hx64 hm=>?_
          refine st_call E (wn rfl) rfl rfl (x_callv E rfl rfl rfl (cf72 _)) (c_part_Of_1 v62 ([u58, u60] : List S_api_Part) p5 (.slice none 0 0) [] H m0 hx64)<|?_
          rintro _ w ⟨v65, rfl, H⟩ a E
          exact wpList_nil<|q_blk<|q_then<|have H:=H.drop 2;have H:=H.drop 2;have H:=H.drop 2;⟨v65, u63, _, E.sel [3] rfl, H, fun r hr => (t1 hr), hm⟩
         ·exact wp_skip<|q_blk<|q_then<|have H:=H.nilRow 62 k_api_Part;have H:=H.drop 1;have H:=H.drop 1;have H:=H.drop 2;have H:=H.front 0 rfl;have H:=H.front 1 rfl;⟨(.slice none 0 0), [], _, E.sel [3] rfl, H, fun r hr => hr, hm⟩
  ·clear E H hm
   rintro a w ⟨v10, l11, rs12, E, H, hs13, hm⟩
   unfold m_part_Of_j1 at hm
   refine sq<|lb E H 0 rfl rfl rfl rfl rfl rfl rfl Tryz.underlying59 rfl fun a E=>pr 1 E rfl fun a E=>nt<|wp_ret<|out1 E rfl rfl<|have H:=H.drop 0;?_
   cases hm
   exact ⟨v10, rfl, H.reads (hs13)⟩

def m_multi_Of_l2 (rec_1 : (List S_api_Piece) → Int → Option (List S_api_Piece)) (u16 : (List S_api_Part)) (x8 : Int) : Nat → (List S_api_Piece) → Int → Option (List S_api_Piece)
  | 0, _, _ => none
  | k2 + 1, l20, x21 =>
    if (decide (x21 < (u16.length : Int))) = true then ((idx u16 x21).bind fun x25 => (ck (l20.length + ([(⟨x8, x25⟩ : S_api_Piece)] : List S_api_Piece).length ≤ LIM)).bind fun u33 => m_multi_Of_l2 rec_1 u16 x8 k2 (l20 ++ ([(⟨x8, x25⟩ : S_api_Piece)] : List S_api_Piece)) (IntKind.i64.wrap (x21 + 1))) else (rec_1 l20 (IntKind.i64.wrap (x8 + 1)))
def m_multi_Of_l1 (l2 : List S_api_Op) : Nat → (List S_api_Piece) → Int → Option (List S_api_Piece)
  | 0, _, _ => none
  | k1 + 1, l7, x8 =>
    if (decide (x8 < (l2.length : Int))) = true then ((idx l2 x8).bind fun x12 => (m_part_Of x12).bind fun u16 => m_multi_Of_l2 (m_multi_Of_l1 l2 k1) u16 x8 (((u16.length : Int) - 0 : Int).toNat + 1) l7 0) else (some (l7))
def m_multi_Of (l2 : List S_api_Op) : Option (List S_api_Piece) :=
  (m_multi_May l2).bind fun u4 => if (!u4) = true then (some ([])) else (m_multi_Of_l1 l2 (((l2.length : Int) - 0 : Int).toNat + 1) [] 0)
theorem c_multi_Of {w : World} {Fo : List Ob} {rs : List Rp} (v1 : Value) (l2 : List S_api_Op) (H : Sep w (Fo) rs) (hr3 : rSl k_api_Op v1 l2 ∈ rs) {r : (List S_api_Piece)} (hm : m_multi_Of l2 = some r) :
    Calls Tryz.prog 24 [v1].toArray w (Ret fun v w' => ∃ (v5001 : Value), v5001 = v ∧ Sep w' (Row 64 k_api_Piece v5001 r :: Fo) (rs)) := by
 unfold m_multi_Of at hm
 refine enter Tryz.func24 rfl Tryz.ntmps24 rfl fun a E =>?_
 simp only [enum, Nat.reduceAdd] at E
 refine sq<|pr 1 E rfl fun a E=>nt<|wp_seq<|sq<|pr 1 E rfl fun a E=>bd hm fun u4 hx5 hm=>x_cl E rfl rfl rfl rfl rfl cf19 (c_multi_May v1 l2 H hr3 hx5)<|?_
 rintro _ w ⟨rfl, H⟩ a E
 refine pr 1 E rfl fun a E=>nt<|wif E hm rfl (fun hm=>?_) fun hm=>?_
 ·refine sq<|pr 1 E rfl fun a E=>nt<|wp_ret<|q_thenR<|out1 E rfl rfl<|have H:=H.nilRow 64 k_api_Piece;?_
  cases hm
  exact ⟨(.slice none 0 0), rfl, H.reads (fun r hr => hr)⟩
 ·refine wp_skip<|q_then<|sq<|pr 1 E rfl fun a E=>nt<|wp_seq<|sq<|pr 1 E rfl fun a E=>sv E rfl rfl rfl (x_lenS E H rfl rfl hr3 Tryz.underlying23) fun a E=>?_
  refine pr 1 E rfl fun a E=>nt<|wp_block<|wp_loop_g (fun k1 a w => ∃ (v6 : Value) (l7 : (List S_api_Piece)) (x8 : Int) (rs9 : List Rp), Env 34 a [(3, v6), (11, v1), (12, .int .i64 (l2.length : Int)), (13, .int .i64 x8)] ∧ Sep w (Row 64 k_api_Piece v6 l7 :: Fo) rs9 ∧ (∀ r, r ∈ rs → r ∈ rs9) ∧ rSl k_api_Op v1 l2 ∈ rs9 ∧ m_multi_Of_l1 l2 k1 l7 x8 = some r) (((l2.length : Int) - 0 : Int).toNat + 1) ?_ ?_
  ·exact have H:=H.nilRow 64 k_api_Piece;⟨(.slice none 0 0), [], 0, _, E.sel [3, 11, 12, 13] rfl, H, fun r hr => hr, hr3, hm⟩
  ·clear E H hm
   rintro k1 a w ⟨v6, l7, x8, rs9, E, H, hs10, hr11, hm⟩
   cases k1 with
   | zero => exact (none_some hm rfl).elim
   | succ k1 =>
    unfold m_multi_Of_l1 at hm
    refine sq<|pr 1 E rfl fun a E=>nt<|wp_seq<|wif E hm rfl (fun hm=>?_) fun hm=>?_
    ·refine wp_skip<|q_then<|wp_seq<|wp_block<|sq<|pr 1 E rfl fun a E=>bd hm fun x12 hx13 hm=>st_ixS E H (wn rfl) rfl rfl rfl rfl rfl hr11 Tryz.underlying23 sz55 hx13 fun q14 a H E=>ldf k_api_Op_flat E H rfl rfl rfl rfl rfl m0 Tryz.underlying55 rfl sz55 fun a E=>?_
     refine al E H rfl rfl rfl rfl zr55 fun p15 w a H E=>pr 1 E rfl fun a E=>st_st (i := 0) E H (wn rfl) rfl (us := (l_api_Op x12)) rfl rfl rfl rfl rfl sz55 rfl rfl fun w H=>nx<|sv E rfl rfl rfl (x_ldBN (i := 0) (us := (l_api_Op x12)) E H rfl rfl rfl rfl Tryz.underlying55 rfl sz55) fun a E=>bd hm fun u16 hx17 hm=>x_cl E rfl rfl rfl rfl rfl cf37 (c_part_Of x12 H hx17)<|?_
     rintro _ w ⟨v18, rfl, H⟩ a E
     refine sv E rfl rfl rfl (x_lenR (i := 0) E H rfl rfl rfl Tryz.underlying59) fun a E=>pr 1 E rfl fun a E=>nt<|wp_block<|wp_loop_g (fun k2 a w => ∃ (v19 : Value) (l20 : (List S_api_Piece)) (x21 : Int) (rs22 : List Rp), Env 34 a [(3, v19), (4, .int .i64 x8), (11, v1), (12, .int .i64 (l2.length : Int)), (13, .int .i64 x8), (19, v18), (20, .int .i64 (u16.length : Int)), (21, .int .i64 x21)] ∧ Sep w (Row 64 k_api_Piece v19 l20 :: Row 62 k_api_Part v18 u16 :: Fo) rs22 ∧ (∀ r, r ∈ rs → r ∈ rs22) ∧ rSl k_api_Op v1 l2 ∈ rs22 ∧ m_multi_Of_l2 (m_multi_Of_l1 l2 k1) u16 x8 k2 l20 x21 = some r) (((u16.length : Int) - 0 : Int).toNat + 1) ?_ ?_
     ·exact have H:=H.drop 1;have H:=H.front 0 rfl;have H:=H.front 1 rfl;⟨v6, l7, 0, _, E.sel [3, 4, 11, 12, 13, 19, 20, 21] rfl, H, fun r hr => (t1 (hs10 r hr)), (t1 hr11), hm⟩
     ·clear E H hm
      rintro k2 a w ⟨v19, l20, x21, rs22, E, H, hs23, hr24, hm⟩
      cases k2 with
      | zero => exact (none_some hm rfl).elim
      | succ k2 =>
       unfold m_multi_Of_l2 at hm
       refine sq<|pr 1 E rfl fun a E=>nt<|wp_seq<|wif E hm rfl (fun hm=>?_) fun hm=>?_
       ·refine wp_skip<|q_then<|wp_seq<|wp_block<|sq<|bd hm fun x25 hx26 hm=>?_
        obtain ⟨p27, x28, hx29⟩ := H.rowformNE (i := 1) rfl hx26
        refine sv E rfl rfl rfl (x_ixRowV (d := k_api_Part) E hx29 rfl rfl rfl rfl Tryz.underlying59 sz62 hx26) fun a E=>sv E rfl rfl rfl (x_ldRowNV (i := 1) E H k_api_Part_flat hx29 rfl rfl rfl hx26 (us := [.int .i64 x25.Kind, .string x25.Dir, .string x25.Path, .string x25.Data, .int .i64 x25.Version, .int .i64 x25.Owner, .bool x25.Turns]) rfl Tryz.underlying62 rfl sz62) fun a E=>al E H rfl rfl rfl rfl zr62 fun p30 w a H E=>st_st (i := 0) E H (wn rfl) rfl (us := (l_api_Part x25)) rfl rfl rfl rfl rfl sz62 rfl rfl fun w H=>nt<|wp_region_lit<|pr 2 E rfl fun a E=>sv E rfl rfl rfl (x_ldBN (i := 0) (us := (l_api_Part x25)) E H rfl rfl rfl rfl Tryz.underlying62 rfl sz62) fun a E=>sv E rfl rfl rfl (x_build E rfl (E.evs rfl) (v := .agg #[.int .i64 x8, .int .i64 x25.Kind, .string x25.Dir, .string x25.Path, .string x25.Data, .int .i64 x25.Version, .int .i64 x25.Owner, .bool x25.Turns]) (by kernel_rfl)) fun a E=>?_
        refine st_bsR (e := 64) (d := k_api_Piece) (cs := [.int .i64 x8, .int .i64 x25.Kind, .string x25.Dir, .string x25.Path, .string x25.Data, .int .i64 x25.Version, .int .i64 x25.Owner, .bool x25.Turns]) (xs := [(⟨x8, x25⟩ : S_api_Piece)]) E H (wn rfl) rfl rfl rfl (E.evs rfl) (by kernel_rfl) rfl (fun ok hr => (Rows.single (d := k_api_Piece) (cs := [.int .i64 x8, .int .i64 x25.Kind, .string x25.Dir, .string x25.Path, .string x25.Data, .int .i64 x25.Version, .int .i64 x25.Owner, .bool x25.Turns]) (x := (⟨x8, x25⟩ : S_api_Piece)) k_api_Piece_mk)) fun v31 w a H E=>bk hm fun hx34 hm=>st_append (i := 1) E H (wn rfl) rfl rfl rfl rfl rfl rfl (src_rd m0) Tryz.underlying36 inf64 rfl hx34 rfl fun v32 w a H E=>pr 1 E rfl fun a E=>wpList_nil<|q_blk<|q_then<|wp_region_lit<|pr 2 E rfl fun a E=>?_
        exact nt<|have H:=H.drop 0;⟨k2, Nat.lt_succ_self k2, v32, l20 ++ ([(⟨x8, x25⟩ : S_api_Piece)] : List S_api_Piece), IntKind.i64.wrap (x21 + 1), _, E.sel [3, 4, 11, 12, 13, 19, 20, 21] rfl, H, fun r hr => (t1 (hs23 r hr)), (t1 hr24), hm⟩
       ·refine wp_exit<|q_thenX<|q_thenX<|q_hit<|q_blk<|q_then<|wp_region_lit<|pr 2 E rfl fun a E=>nt<|?_
        exact have H:=H.drop 1;⟨k1, Nat.lt_succ_self k1, v19, l20, IntKind.i64.wrap (x8 + 1), _, E.sel [3, 11, 12, 13] rfl, H, hs23, hr24, hm⟩
    ·refine wp_exit<|q_thenX<|q_thenX<|q_hit<|q_then<|sq<|pr 2 E rfl fun a E=>nt<|wp_ret<|?_
     refine out1 E rfl rfl<|?_
     cases hm
     exact ⟨v6, rfl, H.reads (hs10)⟩

def m_multi_All_l1 (l5 : List S_api_Piece) (x1 : S_api_Store) : Nat → (List S_api_Result) → Int → (List S_api_Node) → (List S_api_Turn) → Option (S_api_Store × (List S_api_Result) × Int × Int)
  | 0, _, _, _, _ => none
  | k1 + 1, l18, x19, l21, l23 =>
    if (decide (x19 < (l5.length : Int))) = true then ((idx l5 x19).bind fun x32 => (m_part_Do (⟨l21, l23⟩ : S_api_Store) x32.Part).bind fun u36 => if (u36.2.Err != 0) = true then (some (x1, [], u36.2.Err, x19)) else ((ck (l18.length + ([u36.2] : List S_api_Result).length ≤ LIM)).bind fun u51 => m_multi_All_l1 l5 x1 k1 (l18 ++ ([u36.2] : List S_api_Result)) (IntKind.i64.wrap (x19 + 1)) u36.1.Nodes u36.1.Turns)) else (some ((⟨l21, l23⟩ : S_api_Store), l18, 0, 0))
def m_multi_All (x1 : S_api_Store) (l5 : List S_api_Piece) : Option (S_api_Store × (List S_api_Result) × Int × Int) :=
  m_multi_All_l1 l5 x1 (((l5.length : Int) - 0 : Int).toNat + 1) [] 0 x1.Nodes x1.Turns
theorem c_multi_All {w : World} {Fo : List Ob} {rs : List Rp} (x1 : S_api_Store) (v2 : Value) (v3 : Value) (v4 : Value) (l5 : List S_api_Piece) (H : Sep w (Fo) rs) (hr6 : rSl k_api_Node v2 x1.Nodes ∈ rs) (hr7 : rSl k_api_Turn v3 x1.Turns ∈ rs) (hr8 : rSl k_api_Piece v4 l5 ∈ rs) (hr9 : rTab Tryz.prog ∈ rs) {r : S_api_Store × (List S_api_Result) × Int × Int} (hm : m_multi_All x1 l5 = some r) :
    Calls Tryz.prog 28 [.agg #[v2, v3], v4].toArray w (Ret fun v w' => ∃ (v5002 : Value) (v5003 : Value) (v5004 : Value), .tuple #[.agg #[v5002, v5003], v5004, .int .i64 r.2.2.1, .int .i64 r.2.2.2] = v ∧ Sep w' (Row 51 k_api_Result v5004 r.2.1 :: Fo) (rSl k_api_Node v5002 r.1.Nodes :: rSl k_api_Turn v5003 r.1.Turns :: rs)) := by
 unfold m_multi_All at hm
 refine enter Tryz.func28 rfl Tryz.ntmps28 rfl fun a E =>?_
 simp only [enum, Nat.reduceAdd] at E
 refine sq<|?_
 obtain ⟨q11, x12, rfl⟩ := H.slform hr6
 obtain ⟨q13, x14, rfl⟩ := H.slform hr7
 refine st_box E H (wn rfl) rfl rfl (cs := [(.slice q11 x1.Nodes.length x12), (.slice q13 x1.Turns.length x14)]) rfl rfl rfl fun p10 w a H E=>al E H rfl rfl rfl rfl zr41 fun p15 w a H E=>pr 3 E rfl fun a E=>nx<|sv E rfl rfl rfl (x_ldBN (i := 1) (us := [(.slice q11 x1.Nodes.length x12), (.slice q13 x1.Turns.length x14)]) E H rfl rfl rfl rfl Tryz.underlying41 rfl sz41) fun a E=>al E H rfl rfl rfl rfl zr41 fun p16 w a H E=>st_st (i := 0) E H (wn rfl) rfl (us := [(.slice q11 x1.Nodes.length x12), (.slice q13 x1.Turns.length x14)]) rfl rfl rfl rfl rfl sz41 rfl rfl fun w H=>nx<|pr 1 E rfl fun a E=>?_
 refine nt<|wp_seq<|sq<|pr 1 E rfl fun a E=>sv E rfl rfl rfl (x_lenS E H rfl rfl hr8 Tryz.underlying36) fun a E=>pr 1 E rfl fun a E=>nt<|wp_block<|wp_loop_g (fun k1 a w => ∃ (v17 : Value) (v20 : Value) (v22 : Value) (l18 : (List S_api_Result)) (x19 : Int) (l21 : (List S_api_Node)) (l23 : (List S_api_Turn)) (rs24 : List Rp), Env 44 a [(2, pt p10 0), (4, pt p15 0), (8, pt p16 0), (9, v17), (15, v4), (16, .int .i64 (l5.length : Int)), (17, .int .i64 x19)] ∧ Sep w (Blk p10 41 [(.slice q11 x1.Nodes.length x12), (.slice q13 x1.Turns.length x14)] :: Blk p15 41 [.slice none 0 0, .slice none 0 0] :: Blk p16 41 [v20, v22] :: Row 51 k_api_Result v17 l18 :: Fo) rs24 ∧ (∀ r, r ∈ rs → r ∈ rs24) ∧ rSl k_api_Piece v4 l5 ∈ rs24 ∧ rSl k_api_Node (.slice q11 x1.Nodes.length x12) x1.Nodes ∈ rs24 ∧ rSl k_api_Turn (.slice q13 x1.Turns.length x14) x1.Turns ∈ rs24 ∧ rSl k_api_Node v20 l21 ∈ rs24 ∧ rSl k_api_Turn v22 l23 ∈ rs24 ∧ rTab Tryz.prog ∈ rs24 ∧ m_multi_All_l1 l5 x1 k1 l18 x19 l21 l23 = some r) (((l5.length : Int) - 0 : Int).toNat + 1) ?_ ?_
 ·exact have H:=H.nilRow 51 k_api_Result;have H:=H.front 0 rfl;have H:=H.front 1 rfl;have H:=H.front 2 rfl;have H:=H.front 3 rfl;⟨(.slice none 0 0), (.slice q11 x1.Nodes.length x12), (.slice q13 x1.Turns.length x14), [], 0, x1.Nodes, x1.Turns, _, E.sel [2, 4, 8, 9, 15, 16, 17] rfl, H, fun r hr => hr, hr8, hr6, hr7, hr6, hr7, hr9, hm⟩
 ·clear E H hm
  rintro k1 a w ⟨v17, v20, v22, l18, x19, l21, l23, rs24, E, H, hs25, hr26, hr27, hr28, hr29, hr30, hr31, hm⟩
  cases k1 with
  | zero => exact (none_some hm rfl).elim
  | succ k1 =>
   unfold m_multi_All_l1 at hm
   refine sq<|pr 1 E rfl fun a E=>nt<|wp_seq<|wif E hm rfl (fun hm=>?_) fun hm=>?_
   ·refine wp_skip<|q_then<|wp_seq<|wp_block<|sq<|pr 1 E rfl fun a E=>bd hm fun x32 hx33 hm=>st_ixS E H (wn rfl) rfl rfl rfl rfl rfl hr26 Tryz.underlying36 sz64 hx33 fun q34 a H E=>ldf k_api_Piece_flat E H rfl rfl rfl rfl rfl m0 Tryz.underlying64 rfl sz64 fun a E=>?_
    refine al E H rfl rfl rfl rfl zr64 fun p35 w a H E=>pr 1 E rfl fun a E=>st_st (i := 0) E H (wn rfl) rfl (us := (l_api_Piece x32)) rfl rfl rfl rfl rfl sz64 rfl rfl fun w H=>nx<|sv E rfl rfl rfl (x_ldBN (i := 3) (us := [v20, v22]) E H rfl rfl rfl rfl Tryz.underlying41 rfl sz41) fun a E=>pr 1 E rfl fun a E=>sv E rfl rfl rfl (x_ldBN (i := 0) (us := (l_api_Part x32.Part)) E H rfl rfl rfl rfl Tryz.underlying62 rfl sz62) fun a E=>bd hm fun u36 hx37 hm=>x_cl E rfl rfl rfl rfl rfl cf42 (c_part_Do (⟨l21, l23⟩ : S_api_Store) v20 v22 x32.Part H (t1 hr29) (t1 hr30) (t1 hr31) hx37)<|?_
    rintro _ w ⟨v38, v39, v40, rfl, H⟩ a E
    refine pr 3 E rfl fun a E=>al E H rfl rfl rfl rfl zr41 fun p41 w a H E=>al E H rfl rfl rfl rfl zr51 fun p42 w a H E=>?_
    obtain ⟨q43, x44, rfl⟩ := H.slform m0
    obtain ⟨q45, x46, rfl⟩ := H.slform mm1
    refine st_st (i := 1) E H (wn rfl) rfl (us := [(.slice q43 u36.1.Nodes.length x44), (.slice q45 u36.1.Turns.length x46)]) rfl rfl rfl rfl rfl sz41 rfl rfl fun w H=>?_
    obtain ⟨q47, x48, rfl⟩ := H.slform mm2
    refine st_st (i := 0) E H (wn rfl) rfl (us := (l_api_Result u36.2 (.slice q47 u36.2.Names.length x48))) rfl rfl rfl rfl rfl sz51 rfl rfl fun w H=>nt<|wp_seq<|sq<|pr 1 E rfl fun a E=>lb E H 0 rfl rfl rfl rfl rfl rfl rfl Tryz.underlying27 rfl fun a E=>pr 1 E rfl fun a E=>nt<|wif E hm rfl (fun hm=>?_) fun hm=>?_
    ·refine wp_seq<|dw [(0, 0), (1, 0), (2, 0), (3, 0), (4, 1), (5, 1), (6, 1), (7, 2)] [0, 3] [] H (by kernel_rfl) (fun _ _ _ h => False.elim h.2) fun w W0 hI H=>fbn E [(.slice q11 x1.Nodes.length x12), (.slice q13 x1.Turns.length x14)] rfl (wn rfl) rfl rfl rfl rfl mm1 rfl Tryz.underlying41 rfl sz41 fun a E=>fn 1 E rfl fun a E=>fb E rfl (wn rfl) rfl rfl rfl rfl m0 rfl Tryz.underlying27 rfl fun a E=>fn 1 E rfl fun a E=>fr_op rfl<|st_st (i := 4) E H (wn rfl) rfl (us := [(.slice q11 x1.Nodes.length x12), (.slice q13 x1.Turns.length x14)]) rfl rfl rfl rfl rfl sz41 rfl rfl fun w H=>nt<|?_
     refine ⟨⟨_, _, H, (subO_cons m0 (subO_cons mm3 (subO_nil))), (sub_nil)⟩, ?_⟩
     refine fr_op rfl<|pr 1 E rfl fun a E=>nt<|?_
     refine ⟨⟨_, _, H, (subO_cons m0 (subO_cons mm3 (subO_nil))), (sub_nil)⟩, ?_⟩
     refine fr_op rfl<|pr 1 E rfl fun a E=>nt<|?_
     refine ⟨⟨_, _, H, (subO_cons m0 (subO_cons mm3 (subO_nil))), (sub_nil)⟩, ?_⟩
     refine fr_tail rfl<|pr 1 E rfl fun a E=>nt<|fr_nil<|?_
     clear hI
     refine q_then<|wp_ret<|q_thenR<|q_blkR<|q_thenR<|q_thenR<|q_blkR<|q_thenR<|outR4 E rfl (rvBN (i := 4) (us := [(.slice q11 x1.Nodes.length x12), (.slice q13 x1.Turns.length x14)]) H rfl rfl rfl Tryz.underlying41 rfl sz41) (rvT rfl) (rvT rfl) (rvT rfl)<|?_
     refine have H:=H.nilRow 51 k_api_Result;have H:=H.drop 1;have H:=H.drop 1;have H:=H.drop 1;have H:=H.drop 1;have H:=H.drop 1;have H:=H.drop 1;have H:=H.drop 1;?_
     cases hm
     exact ⟨(.slice q11 x1.Nodes.length x12), (.slice q13 x1.Turns.length x14), (.slice none 0 0), rfl, H.reads (sub_cons (t4 hr27) (sub_cons (t4 hr28) (fun r hr => (t4 (hs25 r hr)))))⟩
    ·refine wp_skip<|q_then<|sq<|sv E rfl rfl rfl (x_ldBN (i := 1) (us := [(.slice q43 u36.1.Nodes.length x44), (.slice q45 u36.1.Turns.length x46)]) E H rfl rfl rfl rfl Tryz.underlying41 rfl sz41) fun a E=>st_st (i := 5) E H (wn rfl) rfl (us := [(.slice q43 u36.1.Nodes.length x44), (.slice q45 u36.1.Turns.length x46)]) rfl rfl rfl rfl rfl sz41 rfl rfl fun w H=>nt<|wp_region_lit<|pr 1 E rfl fun a E=>sv E rfl rfl rfl (x_ldBN (i := 0) (us := (l_api_Result u36.2 (.slice q47 u36.2.Names.length x48))) E H rfl rfl rfl rfl Tryz.underlying51 rfl sz51) fun a E=>?_
     refine st_bsR (e := 51) (d := k_api_Result) (cs := [.int .i64 u36.2.Err, .string u36.2.Path, .string u36.2.Data, .int .i64 u36.2.Version, (.slice q47 u36.2.Names.length x48)]) (xs := [u36.2]) E H (wn rfl) rfl rfl rfl (E.evs rfl) (by kernel_rfl) rfl (fun ok hr => (Rows.single (d := k_api_Result) (cs := [.int .i64 u36.2.Err, .string u36.2.Path, .string u36.2.Data, .int .i64 u36.2.Version, (.slice q47 u36.2.Names.length x48)]) (x := u36.2) (k_api_Result_mk (hr _ mm2)))) fun v49 w a H E=>bk hm fun hx52 hm=>st_append (i := 6) E H (wn rfl) rfl rfl rfl rfl rfl rfl (src_rd m0) Tryz.underlying28 inf51 rfl hx52 rfl fun v50 w a H E=>pr 1 E rfl fun a E=>wpList_nil<|q_blk<|q_then<|wp_region_lit<|pr 2 E rfl fun a E=>?_
     exact nt<|have H:=H.drop 0;have H:=H.drop 0;have H:=H.drop 0;⟨k1, Nat.lt_succ_self k1, v50, (.slice q43 u36.1.Nodes.length x44), (.slice q45 u36.1.Turns.length x46), l18 ++ ([u36.2] : List S_api_Result), IntKind.i64.wrap (x19 + 1), u36.1.Nodes, u36.1.Turns, _, E.sel [2, 4, 8, 9, 15, 16, 17] rfl, H, fun r hr => (t5 (hs25 r hr)), (t5 hr26), (t5 hr27), (t5 hr28), mm1, mm2, (t5 hr31), hm⟩
   ·refine wp_exit<|q_thenX<|q_thenX<|q_hit<|q_then<|sq<|sv E rfl rfl rfl (x_ldBN (i := 2) (us := [v20, v22]) E H rfl rfl rfl rfl Tryz.underlying41 rfl sz41) fun a E=>pr 1 E rfl fun a E=>?_
    obtain ⟨q53, x54, rfl⟩ := H.slform hr29
    obtain ⟨q55, x56, rfl⟩ := H.slform hr30
    refine st_st (i := 1) E H (wn rfl) rfl (us := [(.slice q53 l21.length x54), (.slice q55 l23.length x56)]) rfl rfl rfl rfl rfl sz41 rfl rfl fun w H=>pr 3 E rfl fun a E=>nt<|wp_ret<|outR4 E rfl (rvBN (i := 1) (us := [(.slice q53 l21.length x54), (.slice q55 l23.length x56)]) H rfl rfl rfl Tryz.underlying41 rfl sz41) (rvT rfl) (rvT rfl) (rvT rfl)<|have H:=H.drop 0;have H:=H.drop 0;have H:=H.drop 0;?_
    cases hm
    exact ⟨(.slice q53 l21.length x54), (.slice q55 l23.length x56), v17, rfl, H.reads (sub_cons hr29 (sub_cons hr30 (hs25)))⟩

def m_nodes_New : Option (List S_api_Node) :=
  some (([(⟨(ByteArray.mk #[47]), (ByteArray.mk #[]), 0, 0, 0⟩ : S_api_Node)] : List S_api_Node))
theorem c_nodes_New {w : World} {Fo : List Ob} {rs : List Rp} (H : Sep w (Fo) rs) {r : (List S_api_Node)} (hm : m_nodes_New = some r) :
    Calls Tryz.prog 54 [].toArray w (Ret fun v w' => ∃ (v5001 : Value), v5001 = v ∧ Sep w' (Row 80 k_api_Node v5001 r :: Fo) (rs)) := by
 unfold m_nodes_New at hm
 refine enter Tryz.func54 rfl Tryz.ntmps54 rfl fun a E =>?_
 simp only [enum, Nat.reduceAdd] at E
 refine sq<|pr 1 E rfl fun a E=>nx<|sv E rfl rfl rfl (x_build E rfl (E.evs rfl) (v := .agg #[.string (ByteArray.mk #[47]), .string (ByteArray.mk #[]), .int .i64 0, .int .i64 0, .int .i64 0]) (by kernel_rfl)) fun a E=>st_bsO (e := 80) (d := k_api_Node) (cs := [.string (ByteArray.mk #[47]), .string (ByteArray.mk #[]), .int .i64 0, .int .i64 0, .int .i64 0]) (xs := [(⟨(ByteArray.mk #[47]), (ByteArray.mk #[]), 0, 0, 0⟩ : S_api_Node)]) E H (wn rfl) rfl rfl rfl (E.evs rfl) (by kernel_rfl) rfl rfl (fun ok hr => (Rows.single (d := k_api_Node) (cs := [.string (ByteArray.mk #[47]), .string (ByteArray.mk #[]), .int .i64 0, .int .i64 0, .int .i64 0]) (x := (⟨(ByteArray.mk #[47]), (ByteArray.mk #[]), 0, 0, 0⟩ : S_api_Node)) k_api_Node_mk)) fun v1 w a H E=>pr 1 E rfl fun a E=>nt<|wp_ret<|out1 E rfl rfl<|?_
 cases hm
 exact ⟨v1, rfl, H.reads (fun r hr => hr)⟩

def m_part_Keep_j1 (rec_1 : Int → (List S_api_Node) → (List S_api_Turn) → Option S_api_Store) (l8 : (List S_api_Node)) (x14 : S_api_Node) (x6 : Int) (l19 : (List S_api_Turn)) : Option S_api_Store :=
  (ck (l8.length + ([(⟨x14.Path, x14.Data, x14.Version, 0, x14.Owner⟩ : S_api_Node)] : List S_api_Node).length ≤ LIM)).bind fun u25 => rec_1 (IntKind.i64.wrap (x6 + 1)) (l8 ++ ([(⟨x14.Path, x14.Data, x14.Version, 0, x14.Owner⟩ : S_api_Node)] : List S_api_Node)) l19
def m_part_Keep_l1 (l2 : List S_api_Node) : Nat → Int → (List S_api_Node) → (List S_api_Turn) → Option S_api_Store
  | 0, _, _, _ => none
  | k1 + 1, x6, l8, l10 =>
    if (decide (x6 < (l2.length : Int))) = true then ((idx l2 x6).bind fun x14 => if (x14.Turn != 0) = true then ((ck (l10.length + ([(⟨x14.Path, x14.Turn⟩ : S_api_Turn)] : List S_api_Turn).length ≤ LIM)).bind fun u31 => m_part_Keep_j1 (m_part_Keep_l1 l2 k1) l8 x14 x6 (l10 ++ ([(⟨x14.Path, x14.Turn⟩ : S_api_Turn)] : List S_api_Turn))) else (m_part_Keep_j1 (m_part_Keep_l1 l2 k1) l8 x14 x6 l10)) else (some ((⟨l8, l10⟩ : S_api_Store)))
def m_part_Keep (l2 : List S_api_Node) : Option S_api_Store :=
  m_part_Keep_l1 l2 (((l2.length : Int) - 0 : Int).toNat + 1) 0 [] []
theorem c_part_Keep {w : World} {Fo : List Ob} {rs : List Rp} (v1 : Value) (l2 : List S_api_Node) (H : Sep w (Fo) rs) (hr3 : rSl k_api_Node v1 l2 ∈ rs) {r : S_api_Store} (hm : m_part_Keep l2 = some r) :
    Calls Tryz.prog 39 [v1].toArray w (Ret fun v w' => ∃ (v5002 : Value) (v5003 : Value), .agg #[v5002, v5003] = v ∧ Sep w' (Fo) (rSl k_api_Node v5002 r.Nodes :: rSl k_api_Turn v5003 r.Turns :: rs)) := by
 unfold m_part_Keep at hm
 refine enter Tryz.func39 rfl Tryz.ntmps39 rfl fun a E =>?_
 simp only [enum, Nat.reduceAdd] at E
 refine sq<|al E H rfl rfl rfl rfl zr41 fun p4 w a H E=>nx<|al E H rfl rfl rfl rfl zr41 fun p5 w a H E=>nt<|wp_seq<|sq<|pr 1 E rfl fun a E=>sv E rfl rfl rfl (x_lenS E H rfl rfl hr3 Tryz.underlying22) fun a E=>?_
 refine pr 1 E rfl fun a E=>nt<|wp_block<|wp_loop_g (fun k1 a w => ∃ (v7 : Value) (v9 : Value) (x6 : Int) (l8 : (List S_api_Node)) (l10 : (List S_api_Turn)) (rs11 : List Rp), Env 34 a [(2, pt p4 0), (3, pt p5 0), (6, v1), (7, .int .i64 (l2.length : Int)), (8, .int .i64 x6)] ∧ Sep w (Blk p4 41 [.slice none 0 0, .slice none 0 0] :: Blk p5 41 [v7, v9] :: Row 80 k_api_Node v7 l8 :: Row 83 k_api_Turn v9 l10 :: Fo) rs11 ∧ (∀ r, r ∈ rs → r ∈ rs11) ∧ rSl k_api_Node v1 l2 ∈ rs11 ∧ m_part_Keep_l1 l2 k1 x6 l8 l10 = some r) (((l2.length : Int) - 0 : Int).toNat + 1) ?_ ?_
 ·exact have H:=H.nilRow 80 k_api_Node;have H:=H.nilRow 83 k_api_Turn;have H:=H.front 0 rfl;have H:=H.front 1 rfl;have H:=H.front 2 rfl;have H:=H.front 3 rfl;⟨(.slice none 0 0), (.slice none 0 0), 0, [], [], _, E.sel [2, 3, 6, 7, 8] rfl, H, fun r hr => hr, hr3, hm⟩
 ·clear E H hm
  rintro k1 a w ⟨v7, v9, x6, l8, l10, rs11, E, H, hs12, hr13, hm⟩
  cases k1 with
  | zero => exact (none_some hm rfl).elim
  | succ k1 =>
   unfold m_part_Keep_l1 at hm
   refine sq<|pr 1 E rfl fun a E=>nt<|wp_seq<|wif E hm rfl (fun hm=>?_) fun hm=>?_
   ·refine wp_skip<|q_then<|wp_seq<|wp_block<|sq<|bd hm fun x14 hx15 hm=>st_ixS E H (wn rfl) rfl rfl rfl rfl rfl hr13 Tryz.underlying22 sz80 hx15 fun q16 a H E=>ldf k_api_Node_flat E H rfl rfl rfl rfl rfl m0 Tryz.underlying80 rfl sz80 fun a E=>al E H rfl rfl rfl rfl zr80 fun p17 w a H E=>?_
    refine st_st (i := 0) E H (wn rfl) rfl (us := (l_api_Node x14)) rfl rfl rfl rfl rfl sz80 rfl rfl fun w H=>nt<|wp_seq_cut (fun a w => ∃ (v18 : Value) (l19 : (List S_api_Turn)) (rs20 : List Rp), Env 34 a [(2, pt p4 0), (3, pt p5 0), (5, pt p17 0), (6, v1), (7, .int .i64 (l2.length : Int)), (8, .int .i64 x6)] ∧ Sep w (Blk p4 41 [.slice none 0 0, .slice none 0 0] :: Blk p5 41 [v7, v18] :: Blk p17 80 (l_api_Node x14) :: Row 80 k_api_Node v7 l8 :: Row 83 k_api_Turn v18 l19 :: Fo) rs20 ∧ (∀ r, r ∈ rs → r ∈ rs20) ∧ rSl k_api_Node v1 l2 ∈ rs20 ∧ m_part_Keep_j1 (m_part_Keep_l1 l2 k1) l8 x14 x6 l19 = some r) ?_ ?_
    ·refine sq<|pr 1 E rfl fun a E=>lb E H 0 rfl rfl rfl rfl rfl rfl rfl Tryz.underlying2 rfl fun a E=>pr 1 E rfl fun a E=>nt<|wif E hm rfl (fun hm=>?_) fun hm=>?_
     ·refine wp_region_lit<|pr 1 E rfl fun a E=>lb E H 2 rfl rfl rfl rfl rfl rfl rfl Tryz.underlying39 rfl fun a E=>pr 1 E rfl fun a E=>lb E H 0 rfl rfl rfl rfl rfl rfl rfl Tryz.underlying9 rfl fun a E=>pr 1 E rfl fun a E=>lb E H 0 rfl rfl rfl rfl rfl rfl rfl Tryz.underlying2 rfl fun a E=>sv E rfl rfl rfl (x_build E rfl (E.evs rfl) (v := .agg #[.string x14.Path, .int .i64 x14.Turn]) (by kernel_rfl)) fun a E=>st_bsR (e := 83) (d := k_api_Turn) (cs := [.string x14.Path, .int .i64 x14.Turn]) (xs := [(⟨x14.Path, x14.Turn⟩ : S_api_Turn)]) E H (wn rfl) rfl rfl rfl (E.evs rfl) (by kernel_rfl) rfl (fun ok hr => (Rows.single (d := k_api_Turn) (cs := [.string x14.Path, .int .i64 x14.Turn]) (x := (⟨x14.Path, x14.Turn⟩ : S_api_Turn)) k_api_Turn_mk)) fun v29 w a H E=>?_
      refine bk hm fun hx32 hm=>st_append (i := 4) E H (wn rfl) rfl rfl rfl rfl rfl rfl (src_rd m0) Tryz.underlying39 inf83 rfl hx32 rfl fun v30 w a H E=>pr 1 E rfl fun a E=>?_
      obtain ⟨q33, x34, rfl⟩ := H.rowform (i := 4) rfl
      exact st_st (i := 2) E H (wn rfl) rfl (us := [(.slice q33 (l10 ++ ([(⟨x14.Path, x14.Turn⟩ : S_api_Turn)] : List S_api_Turn)).length x34)]) rfl rfl rfl rfl rfl sz39 rfl rfl fun w H=>nt<|have H:=H.front 4 rfl;have H:=H.front 4 rfl;have H:=H.front 2 rfl;have H:=H.front 4 rfl;have H:=H.front 4 rfl;⟨(.slice q33 (l10 ++ ([(⟨x14.Path, x14.Turn⟩ : S_api_Turn)] : List S_api_Turn)).length x34), l10 ++ ([(⟨x14.Path, x14.Turn⟩ : S_api_Turn)] : List S_api_Turn), _, E.sel [2, 3, 5, 6, 7, 8] rfl, H, fun r hr => (t2 (hs12 r hr)), (t2 hr13), hm⟩
     ·exact wp_skip<|q_then<|have H:=H.front 4 rfl;have H:=H.front 4 rfl;have H:=H.front 2 rfl;have H:=H.front 4 rfl;have H:=H.front 4 rfl;⟨v9, l10, _, E.sel [2, 3, 5, 6, 7, 8] rfl, H, fun r hr => (t1 (hs12 r hr)), (t1 hr13), hm⟩
    ·clear E H hm
     rintro a w ⟨v18, l19, rs20, E, H, hs21, hr22, hm⟩
     unfold m_part_Keep_j1 at hm
     refine sq<|pr 1 E rfl fun a E=>st_st (i := 2) E H (wn rfl) rfl (us := [.int .i64 0]) rfl rfl rfl rfl rfl sz2 rfl rfl fun w H=>nt<|wp_region_lit<|pr 1 E rfl fun a E=>lb E H 1 rfl rfl rfl rfl rfl rfl rfl Tryz.underlying22 rfl fun a E=>sv E rfl rfl rfl (x_ldBN (i := 2) (us := [.string x14.Path, .string x14.Data, .int .i64 x14.Version, .int .i64 0, .int .i64 x14.Owner]) E H rfl rfl rfl rfl Tryz.underlying80 rfl sz80) fun a E=>st_bsR (e := 80) (d := k_api_Node) (cs := [.string x14.Path, .string x14.Data, .int .i64 x14.Version, .int .i64 0, .int .i64 x14.Owner]) (xs := [(⟨x14.Path, x14.Data, x14.Version, 0, x14.Owner⟩ : S_api_Node)]) E H (wn rfl) rfl rfl rfl (E.evs rfl) (by kernel_rfl) rfl (fun ok hr => (Rows.single (d := k_api_Node) (cs := [.string x14.Path, .string x14.Data, .int .i64 x14.Version, .int .i64 0, .int .i64 x14.Owner]) (x := (⟨x14.Path, x14.Data, x14.Version, 0, x14.Owner⟩ : S_api_Node)) k_api_Node_mk)) fun v23 w a H E=>?_
     refine bk hm fun hx26 hm=>st_append (i := 3) E H (wn rfl) rfl rfl rfl rfl rfl rfl (src_rd m0) Tryz.underlying22 inf80 rfl hx26 rfl fun v24 w a H E=>pr 1 E rfl fun a E=>?_
     obtain ⟨q27, x28, rfl⟩ := H.rowform (i := 3) rfl
     exact st_st (i := 1) E H (wn rfl) rfl (us := [(.slice q27 (l8 ++ ([(⟨x14.Path, x14.Data, x14.Version, 0, x14.Owner⟩ : S_api_Node)] : List S_api_Node)).length x28)]) rfl rfl rfl rfl rfl sz22 rfl rfl fun w H=>wpList_nil<|q_blk<|q_then<|wp_region_lit<|pr 2 E rfl fun a E=>nt<|have H:=H.drop 2;⟨k1, Nat.lt_succ_self k1, (.slice q27 (l8 ++ ([(⟨x14.Path, x14.Data, x14.Version, 0, x14.Owner⟩ : S_api_Node)] : List S_api_Node)).length x28), v18, IntKind.i64.wrap (x6 + 1), l8 ++ ([(⟨x14.Path, x14.Data, x14.Version, 0, x14.Owner⟩ : S_api_Node)] : List S_api_Node), l19, _, E.sel [2, 3, 6, 7, 8] rfl, H, fun r hr => (t1 (hs21 r hr)), (t1 hr22), hm⟩
   ·refine wp_exit<|q_thenX<|q_thenX<|q_hit<|q_then<|sq<|sv E rfl rfl rfl (x_ldBN (i := 1) (us := [v7, v9]) E H rfl rfl rfl rfl Tryz.underlying41 rfl sz41) fun a E=>?_
    obtain ⟨q35, x36, rfl⟩ := H.rowform (i := 2) rfl
    obtain ⟨q37, x38, rfl⟩ := H.rowform (i := 3) rfl
    refine st_st (i := 0) E H (wn rfl) rfl (us := [(.slice q35 l8.length x36), (.slice q37 l10.length x38)]) rfl rfl rfl rfl rfl sz41 rfl rfl fun w H=>nt<|wp_ret<|outR1 E rfl (rvBN (i := 0) (us := [(.slice q35 l8.length x36), (.slice q37 l10.length x38)]) H rfl rfl rfl Tryz.underlying41 rfl sz41)<|have H:=H.thaw (i := 2) rfl;have H:=H.thaw (i := 2) rfl;have H:=H.drop 0;have H:=H.drop 0;?_
    cases hm
    exact ⟨(.slice q35 l8.length x36), (.slice q37 l10.length x38), rfl, H.reads (sub_cons mm1 (sub_cons m0 (fun r hr => (t2 (hs12 r hr)))))⟩

def m_cantonlaw08_head : Option Bool :=
  m_nodes_New.bind fun u2 => (m_multi_Apply u2 ([(⟨1, (ByteArray.mk #[47, 97]), (ByteArray.mk #[]), 0, 0, false⟩ : S_api_Op), (⟨1, (ByteArray.mk #[47, 97, 47, 98]), (ByteArray.mk #[]), 0, 0, false⟩ : S_api_Op)] : List S_api_Op)).bind fun u8 => (m_multi_Apply u2 ([(⟨1, (ByteArray.mk #[47, 97]), (ByteArray.mk #[]), 0, 0, false⟩ : S_api_Op), (⟨1, (ByteArray.mk #[47, 97, 47, 98]), (ByteArray.mk #[]), 0, 0, false⟩ : S_api_Op), (⟨1, (ByteArray.mk #[47, 97]), (ByteArray.mk #[]), 0, 0, false⟩ : S_api_Op)] : List S_api_Op)).bind fun u16 => (m_multi_Of ([(⟨1, (ByteArray.mk #[47, 97]), (ByteArray.mk #[]), 0, 0, false⟩ : S_api_Op), (⟨1, (ByteArray.mk #[47, 97, 47, 98]), (ByteArray.mk #[]), 0, 0, false⟩ : S_api_Op)] : List S_api_Op)).bind fun u24 => (m_part_Keep u2).bind fun u27 => (m_multi_All u27 u24).bind fun u31 => if ((u8.1.length : Int) == 3) = true then (if (u8.2.Err == 0) = true then (if ((u8.2.Results.length : Int) == 2) = true then (if ((u16.1.length : Int) == 1) = true then (if (u16.2.Err == 61) = true then (if (u16.2.At == 2) = true then (if ((u24.length : Int) == 4) = true then ((idx u24 2).bind fun x48 => if (x48.Op == 1) = true then (if ((u31.2.1.length : Int) == 4) = true then (if (u31.2.2.1 == 0) = true then (if (u31.2.2.2 == 0) = true then ((m_multi_May ([] : List S_api_Op)).bind fun u55 => some (!u55)) else (some (false))) else (some (false))) else (some (false))) else (some (false))) else (some (false))) else (some (false))) else (some (false))) else (some (false))) else (some (false))) else (some (false))) else (some (false))
theorem c_cantonlaw08_head {w : World} {Fo : List Ob} {rs : List Rp} (H : Sep w (Fo) rs) (hr1 : rTab Tryz.prog ∈ rs) {r : Bool} (hm : m_cantonlaw08_head = some r) :
    Calls Tryz.prog 14 [].toArray w (Ret fun v w' => .bool r = v ∧ Sep w' (Fo) (rs)) := by
 unfold m_cantonlaw08_head at hm
 refine enter Tryz.func14 rfl Tryz.ntmps14 rfl fun a E =>?_
 simp only [enum, Nat.reduceAdd] at E
 refine sq<|pr 1 E rfl fun a E=>nx<|bd hm fun u2 hx3 hm=>x_cl E rfl rfl rfl rfl rfl cf54 (c_nodes_New H hx3)<|?_
 rintro _ w ⟨v4, rfl, H⟩ a E
 refine pr 1 E rfl fun a E=>nx<|sv E rfl rfl rfl (x_build E rfl (E.evs rfl) (v := .agg #[.int .i64 1, .string (ByteArray.mk #[47, 97]), .string (ByteArray.mk #[]), .int .i64 0, .int .i64 0, .bool false]) (by kernel_rfl)) fun a E=>al E H rfl rfl rfl rfl zr55 fun p5 w a H E=>st_st (i := 0) E H (wn rfl) rfl (us := [.int .i64 1, .string (ByteArray.mk #[47, 97]), .string (ByteArray.mk #[]), .int .i64 0, .int .i64 0, .bool false]) rfl rfl rfl rfl rfl sz55 rfl rfl fun w H=>nx<|sv E rfl rfl rfl (x_build E rfl (E.evs rfl) (v := .agg #[.int .i64 1, .string (ByteArray.mk #[47, 97, 47, 98]), .string (ByteArray.mk #[]), .int .i64 0, .int .i64 0, .bool false]) (by kernel_rfl)) fun a E=>al E H rfl rfl rfl rfl zr55 fun p6 w a H E=>st_st (i := 0) E H (wn rfl) rfl (us := [.int .i64 1, .string (ByteArray.mk #[47, 97, 47, 98]), .string (ByteArray.mk #[]), .int .i64 0, .int .i64 0, .bool false]) rfl rfl rfl rfl rfl sz55 rfl rfl fun w H=>?_
 refine nx<|pr 1 E rfl fun a E=>sv E rfl rfl rfl (x_ldBN (i := 1) (us := [.int .i64 1, .string (ByteArray.mk #[47, 97]), .string (ByteArray.mk #[]), .int .i64 0, .int .i64 0, .bool false]) E H rfl rfl rfl rfl Tryz.underlying55 rfl sz55) fun a E=>sv E rfl rfl rfl (x_ldBN (i := 0) (us := [.int .i64 1, .string (ByteArray.mk #[47, 97, 47, 98]), .string (ByteArray.mk #[]), .int .i64 0, .int .i64 0, .bool false]) E H rfl rfl rfl rfl Tryz.underlying55 rfl sz55) fun a E=>st_bsO (e := 55) (d := k_api_Op) (cs := [.int .i64 1, .string (ByteArray.mk #[47, 97]), .string (ByteArray.mk #[]), .int .i64 0, .int .i64 0, .bool false, .int .i64 1, .string (ByteArray.mk #[47, 97, 47, 98]), .string (ByteArray.mk #[]), .int .i64 0, .int .i64 0, .bool false]) (xs := [(⟨1, (ByteArray.mk #[47, 97]), (ByteArray.mk #[]), 0, 0, false⟩ : S_api_Op), (⟨1, (ByteArray.mk #[47, 97, 47, 98]), (ByteArray.mk #[]), 0, 0, false⟩ : S_api_Op)]) E H (wn rfl) rfl rfl rfl (E.evs rfl) (by kernel_rfl) rfl rfl (fun ok hr => (Rows.append (Rows.single (d := k_api_Op) (cs := [.int .i64 1, .string (ByteArray.mk #[47, 97]), .string (ByteArray.mk #[]), .int .i64 0, .int .i64 0, .bool false]) (x := (⟨1, (ByteArray.mk #[47, 97]), (ByteArray.mk #[]), 0, 0, false⟩ : S_api_Op)) k_api_Op_mk) (Rows.single (d := k_api_Op) (cs := [.int .i64 1, .string (ByteArray.mk #[47, 97, 47, 98]), .string (ByteArray.mk #[]), .int .i64 0, .int .i64 0, .bool false]) (x := (⟨1, (ByteArray.mk #[47, 97, 47, 98]), (ByteArray.mk #[]), 0, 0, false⟩ : S_api_Op)) k_api_Op_mk))) fun v7 w a H E=>have H:=H.thaw (i := 3) rfl;have H:=H.thaw (i := 0) rfl;bd hm fun u8 hx9 hm=>x_cl E rfl rfl rfl rfl rfl cf17 (c_multi_Apply v4 u2 v7 ([(⟨1, (ByteArray.mk #[47, 97]), (ByteArray.mk #[]), 0, 0, false⟩ : S_api_Op), (⟨1, (ByteArray.mk #[47, 97, 47, 98]), (ByteArray.mk #[]), 0, 0, false⟩ : S_api_Op)] : List S_api_Op) H mm1 m0 (t2 hr1) hx9)<|?_
 rintro _ w ⟨v10, v11, rfl, H⟩ a E
 refine pr 3 E rfl fun a E=>al E H rfl rfl rfl rfl zr30 fun p12 w a H E=>pr 1 E rfl fun a E=>?_
 obtain ⟨q13, x14, rfl⟩ := H.slform mm1
 refine st_st (i := 0) E H (wn rfl) rfl (us := (l_api_Done u8.2 (.slice q13 u8.2.Results.length x14))) rfl rfl rfl rfl rfl sz30 rfl rfl fun w H=>nx<|pr 1 E rfl fun a E=>sv E rfl rfl rfl (x_ldBN (i := 2) (us := [.int .i64 1, .string (ByteArray.mk #[47, 97]), .string (ByteArray.mk #[]), .int .i64 0, .int .i64 0, .bool false]) E H rfl rfl rfl rfl Tryz.underlying55 rfl sz55) fun a E=>sv E rfl rfl rfl (x_ldBN (i := 1) (us := [.int .i64 1, .string (ByteArray.mk #[47, 97, 47, 98]), .string (ByteArray.mk #[]), .int .i64 0, .int .i64 0, .bool false]) E H rfl rfl rfl rfl Tryz.underlying55 rfl sz55) fun a E=>sv E rfl rfl rfl (x_ldBN (i := 2) (us := [.int .i64 1, .string (ByteArray.mk #[47, 97]), .string (ByteArray.mk #[]), .int .i64 0, .int .i64 0, .bool false]) E H rfl rfl rfl rfl Tryz.underlying55 rfl sz55) fun a E=>st_bsO (e := 55) (d := k_api_Op) (cs := [.int .i64 1, .string (ByteArray.mk #[47, 97]), .string (ByteArray.mk #[]), .int .i64 0, .int .i64 0, .bool false, .int .i64 1, .string (ByteArray.mk #[47, 97, 47, 98]), .string (ByteArray.mk #[]), .int .i64 0, .int .i64 0, .bool false, .int .i64 1, .string (ByteArray.mk #[47, 97]), .string (ByteArray.mk #[]), .int .i64 0, .int .i64 0, .bool false]) (xs := [(⟨1, (ByteArray.mk #[47, 97]), (ByteArray.mk #[]), 0, 0, false⟩ : S_api_Op), (⟨1, (ByteArray.mk #[47, 97, 47, 98]), (ByteArray.mk #[]), 0, 0, false⟩ : S_api_Op), (⟨1, (ByteArray.mk #[47, 97]), (ByteArray.mk #[]), 0, 0, false⟩ : S_api_Op)]) E H (wn rfl) rfl rfl rfl (E.evs rfl) (by kernel_rfl) rfl rfl (fun ok hr => (Rows.append (Rows.append (Rows.single (d := k_api_Op) (cs := [.int .i64 1, .string (ByteArray.mk #[47, 97]), .string (ByteArray.mk #[]), .int .i64 0, .int .i64 0, .bool false]) (x := (⟨1, (ByteArray.mk #[47, 97]), (ByteArray.mk #[]), 0, 0, false⟩ : S_api_Op)) k_api_Op_mk) (Rows.single (d := k_api_Op) (cs := [.int .i64 1, .string (ByteArray.mk #[47, 97, 47, 98]), .string (ByteArray.mk #[]), .int .i64 0, .int .i64 0, .bool false]) (x := (⟨1, (ByteArray.mk #[47, 97, 47, 98]), (ByteArray.mk #[]), 0, 0, false⟩ : S_api_Op)) k_api_Op_mk)) (Rows.single (d := k_api_Op) (cs := [.int .i64 1, .string (ByteArray.mk #[47, 97]), .string (ByteArray.mk #[]), .int .i64 0, .int .i64 0, .bool false]) (x := (⟨1, (ByteArray.mk #[47, 97]), (ByteArray.mk #[]), 0, 0, false⟩ : S_api_Op)) k_api_Op_mk))) fun v15 w a H E=>have H:=H.thaw (i := 0) rfl;bd hm fun u16 hx17 hm=>?_
 refine x_cl E rfl rfl rfl rfl rfl cf17 (c_multi_Apply v4 u2 v15 ([(⟨1, (ByteArray.mk #[47, 97]), (ByteArray.mk #[]), 0, 0, false⟩ : S_api_Op), (⟨1, (ByteArray.mk #[47, 97, 47, 98]), (ByteArray.mk #[]), 0, 0, false⟩ : S_api_Op), (⟨1, (ByteArray.mk #[47, 97]), (ByteArray.mk #[]), 0, 0, false⟩ : S_api_Op)] : List S_api_Op) H mm4 m0 (t5 hr1) hx17)<|?_
 rintro _ w ⟨v18, v19, rfl, H⟩ a E
 refine pr 3 E rfl fun a E=>al E H rfl rfl rfl rfl zr30 fun p20 w a H E=>pr 1 E rfl fun a E=>?_
 obtain ⟨q21, x22, rfl⟩ := H.slform mm1
 refine st_st (i := 0) E H (wn rfl) rfl (us := (l_api_Done u16.2 (.slice q21 u16.2.Results.length x22))) rfl rfl rfl rfl rfl sz30 rfl rfl fun w H=>nx<|sv E rfl rfl rfl (x_ldBN (i := 3) (us := [.int .i64 1, .string (ByteArray.mk #[47, 97]), .string (ByteArray.mk #[]), .int .i64 0, .int .i64 0, .bool false]) E H rfl rfl rfl rfl Tryz.underlying55 rfl sz55) fun a E=>sv E rfl rfl rfl (x_ldBN (i := 2) (us := [.int .i64 1, .string (ByteArray.mk #[47, 97, 47, 98]), .string (ByteArray.mk #[]), .int .i64 0, .int .i64 0, .bool false]) E H rfl rfl rfl rfl Tryz.underlying55 rfl sz55) fun a E=>st_bsO (e := 55) (d := k_api_Op) (cs := [.int .i64 1, .string (ByteArray.mk #[47, 97]), .string (ByteArray.mk #[]), .int .i64 0, .int .i64 0, .bool false, .int .i64 1, .string (ByteArray.mk #[47, 97, 47, 98]), .string (ByteArray.mk #[]), .int .i64 0, .int .i64 0, .bool false]) (xs := [(⟨1, (ByteArray.mk #[47, 97]), (ByteArray.mk #[]), 0, 0, false⟩ : S_api_Op), (⟨1, (ByteArray.mk #[47, 97, 47, 98]), (ByteArray.mk #[]), 0, 0, false⟩ : S_api_Op)]) E H (wn rfl) rfl rfl rfl (E.evs rfl) (by kernel_rfl) rfl rfl (fun ok hr => (Rows.append (Rows.single (d := k_api_Op) (cs := [.int .i64 1, .string (ByteArray.mk #[47, 97]), .string (ByteArray.mk #[]), .int .i64 0, .int .i64 0, .bool false]) (x := (⟨1, (ByteArray.mk #[47, 97]), (ByteArray.mk #[]), 0, 0, false⟩ : S_api_Op)) k_api_Op_mk) (Rows.single (d := k_api_Op) (cs := [.int .i64 1, .string (ByteArray.mk #[47, 97, 47, 98]), .string (ByteArray.mk #[]), .int .i64 0, .int .i64 0, .bool false]) (x := (⟨1, (ByteArray.mk #[47, 97, 47, 98]), (ByteArray.mk #[]), 0, 0, false⟩ : S_api_Op)) k_api_Op_mk))) fun v23 w a H E=>have H:=H.thaw (i := 0) rfl;bd hm fun u24 hx25 hm=>x_cl E rfl rfl rfl rfl rfl cf24 (c_multi_Of v23 ([(⟨1, (ByteArray.mk #[47, 97]), (ByteArray.mk #[]), 0, 0, false⟩ : S_api_Op), (⟨1, (ByteArray.mk #[47, 97, 47, 98]), (ByteArray.mk #[]), 0, 0, false⟩ : S_api_Op)] : List S_api_Op) H m0 hx25)<|?_
 rintro _ w ⟨v26, rfl, H⟩ a E
 refine pr 1 E rfl fun a E=>nx<|pr 1 E rfl fun a E=>bd hm fun u27 hx28 hm=>x_cl E rfl rfl rfl rfl rfl cf39 (c_part_Keep v4 u2 H (t1 mm6) hx28)<|?_
 rintro _ w ⟨v29, v30, rfl, H⟩ a E
 refine pr 1 E rfl fun a E=>have H:=H.thaw (i := 0) rfl;bd hm fun u31 hx32 hm=>x_cl E rfl rfl rfl rfl rfl cf28 (c_multi_All u27 v29 v30 v26 u24 H mm1 mm2 m0 (t3 (t8 hr1)) hx32)<|?_
 rintro _ w ⟨v33, v34, v35, rfl, H⟩ a E
 refine pr 5 E rfl fun a E=>al E H rfl rfl rfl rfl zr41 fun p36 w a H E=>?_
 obtain ⟨q37, x38, rfl⟩ := H.slform m0
 obtain ⟨q39, x40, rfl⟩ := H.slform mm1
 refine st_st (i := 0) E H (wn rfl) rfl (us := [(.slice q37 u31.1.Nodes.length x38), (.slice q39 u31.1.Turns.length x40)]) rfl rfl rfl rfl rfl sz41 rfl rfl fun w H=>pr 3 E rfl fun a E=>nx<|pr 1 E rfl fun a E=>sv E rfl rfl rfl (x_lenS E H rfl rfl (t3 mm6) Tryz.underlying22) fun a E=>pr 2 E rfl fun a E=>cs hm (fun hb41 hm=>?_) fun hb41 hm=>?_
 ·refine pk 1 E (kc 49 rfl hb41) rfl fun a E=>st_val E (ws' (d := 49) E rfl rfl rfl rfl hb41) rfl rfl (x_ldB (i := 3) E H rfl rfl rfl rfl Tryz.underlying27 rfl) fun a E=>pk 3 E (kc 49 rfl hb41) rfl fun a E=>cs hm (fun hb42 hm=>?_) fun hb42 hm=>?_
  ·refine pk 1 E (kc 54 rfl hb42) rfl fun a E=>st_val E (ws' (d := 54) E rfl rfl rfl rfl hb42) rfl rfl (x_ldB (i := 3) E H rfl rfl rfl rfl Tryz.underlying28 rfl) fun a E=>st_val E (ws' (d := 54) E rfl rfl rfl rfl hb42) rfl rfl (x_lenS E H rfl rfl (t4 mm6) Tryz.underlying28) fun a E=>pk 3 E (kc 54 rfl hb42) rfl fun a E=>cs hm (fun hb43 hm=>?_) fun hb43 hm=>?_
   ·refine pk 1 E (kc 60 rfl hb43) rfl fun a E=>st_val E (ws' (d := 60) E rfl rfl rfl rfl hb43) rfl rfl (x_lenS E H rfl rfl mm6 Tryz.underlying22) fun a E=>pk 3 E (kc 60 rfl hb43) rfl fun a E=>cs hm (fun hb44 hm=>?_) fun hb44 hm=>?_
    ·refine pk 1 E (kc 65 rfl hb44) rfl fun a E=>st_val E (ws' (d := 65) E rfl rfl rfl rfl hb44) rfl rfl (x_ldB (i := 2) E H rfl rfl rfl rfl Tryz.underlying27 rfl) fun a E=>pk 3 E (kc 65 rfl hb44) rfl fun a E=>cs hm (fun hb45 hm=>?_) fun hb45 hm=>?_
     ·refine pk 1 E (kc 70 rfl hb45) rfl fun a E=>st_val E (ws' (d := 70) E rfl rfl rfl rfl hb45) rfl rfl (x_ldB (i := 2) E H rfl rfl rfl rfl Tryz.underlying3 rfl) fun a E=>pk 3 E (kc 70 rfl hb45) rfl fun a E=>cs hm (fun hb46 hm=>?_) fun hb46 hm=>?_
      ·refine pk 1 E (kc 75 rfl hb46) rfl fun a E=>st_val E (ws' (d := 75) E rfl rfl rfl rfl hb46) rfl rfl (x_lenS E H rfl rfl mm2 Tryz.underlying36) fun a E=>pk 3 E (kc 75 rfl hb46) rfl fun a E=>cs hm (fun hb47 hm=>?_) fun hb47 hm=>?_
       ·refine pk 1 E (kc 80 rfl hb47) rfl fun a E=>bd hm fun x48 hx49 hm=>st_ixS E H (ws' (d := 80) E rfl rfl rfl rfl hb47) rfl rfl rfl rfl rfl mm2 Tryz.underlying36 sz64 hx49 fun q50 a H E=>have H:=H.derive1 m0 (rAt (kI .i64) (q50.add 0) x48.Op) (fun ok h => k_api_Piece_at0 h);pk 1 E (kc 80 rfl hb47) rfl fun a E=>st_val E (ws' (d := 80) E rfl rfl rfl rfl hb47) rfl rfl (x_ldA E H rfl rfl m0 Tryz.underlying3 rfl) fun a E=>pk 3 E (kc 80 rfl hb47) rfl fun a E=>cs hm (fun hb51 hm=>?_) fun hb51 hm=>?_
        ·refine pk 1 E (kc 87 rfl hb51) rfl fun a E=>st_val E (ws' (d := 87) E rfl rfl rfl rfl hb51) rfl rfl (x_lenR (i := 1) E H rfl rfl rfl Tryz.underlying28) fun a E=>pk 3 E (kc 87 rfl hb51) rfl fun a E=>cs hm (fun hb52 hm=>?_) fun hb52 hm=>?_
         ·refine pk 4 E (kc 92 rfl hb52) rfl fun a E=>cs hm (fun hb53 hm=>?_) fun hb53 hm=>?_
          ·refine pk 4 E (kc 96 rfl hb53) rfl fun a E=>cs hm (fun hb54 hm=>?_) fun hb54 hm=>?_
           ·refine have H:=H.nilSl k_api_Op;bd hm fun u55 hx56 hm=>st_call E (ws' (d := 100) E rfl rfl rfl rfl hb54) rfl rfl (x_call E rfl rfl (cf19 _)) (c_multi_May (.slice none 0 0) ([] : List S_api_Op) H m0 hx56)<|?_
            rintro _ w ⟨rfl, H⟩ a E
            refine pk 3 E (kc 100 rfl hb54) rfl fun a E=>nt<|wp_ret<|out1 E rfl rfl<|have H:=H.drop 0;have H:=H.drop 0;have H:=H.drop 0;have H:=H.drop 0;have H:=H.drop 0;?_
            refine have H:=H.drop 0;?_
            cases hm
            exact ⟨rfl, H.reads (fun r hr => (t8 (t8 hr)))⟩
           ·refine pk 4 E (kc 100 rfl hb54) rfl fun a E=>nt<|wp_ret<|out1 E rfl rfl<|have H:=H.drop 0;have H:=H.drop 0;have H:=H.drop 0;have H:=H.drop 0;have H:=H.drop 0;?_
            refine have H:=H.drop 0;?_
            cases hm
            exact ⟨rfl, H.reads (fun r hr => (t7 (t8 hr)))⟩
          ·refine pk 8 E (kc 96 rfl hb53) rfl fun a E=>nt<|wp_ret<|out1 E rfl rfl<|have H:=H.drop 0;have H:=H.drop 0;have H:=H.drop 0;have H:=H.drop 0;have H:=H.drop 0;?_
           refine have H:=H.drop 0;?_
           cases hm
           exact ⟨rfl, H.reads (fun r hr => (t7 (t8 hr)))⟩
         ·refine pk 12 E (kc 92 rfl hb52) rfl fun a E=>nt<|wp_ret<|out1 E rfl rfl<|have H:=H.drop 0;have H:=H.drop 0;have H:=H.drop 0;have H:=H.drop 0;have H:=H.drop 0;?_
          refine have H:=H.drop 0;?_
          cases hm
          exact ⟨rfl, H.reads (fun r hr => (t7 (t8 hr)))⟩
        ·refine pk 17 E (kc 87 rfl hb51) rfl fun a E=>nt<|wp_ret<|out1 E rfl rfl<|have H:=H.drop 0;have H:=H.drop 0;have H:=H.drop 0;have H:=H.drop 0;have H:=H.drop 0;?_
         refine have H:=H.drop 0;?_
         cases hm
         exact ⟨rfl, H.reads (fun r hr => (t7 (t8 hr)))⟩
       ·refine pk 24 E (kc 80 rfl hb47) rfl fun a E=>nt<|wp_ret<|out1 E rfl rfl<|have H:=H.drop 0;have H:=H.drop 0;have H:=H.drop 0;have H:=H.drop 0;have H:=H.drop 0;?_
        refine have H:=H.drop 0;?_
        cases hm
        exact ⟨rfl, H.reads (fun r hr => (t5 (t8 hr)))⟩
      ·refine pk 29 E (kc 75 rfl hb46) rfl fun a E=>nt<|wp_ret<|out1 E rfl rfl<|have H:=H.drop 0;have H:=H.drop 0;have H:=H.drop 0;have H:=H.drop 0;have H:=H.drop 0;?_
       refine have H:=H.drop 0;?_
       cases hm
       exact ⟨rfl, H.reads (fun r hr => (t5 (t8 hr)))⟩
     ·refine pk 34 E (kc 70 rfl hb45) rfl fun a E=>nt<|wp_ret<|out1 E rfl rfl<|have H:=H.drop 0;have H:=H.drop 0;have H:=H.drop 0;have H:=H.drop 0;have H:=H.drop 0;?_
      refine have H:=H.drop 0;?_
      cases hm
      exact ⟨rfl, H.reads (fun r hr => (t5 (t8 hr)))⟩
    ·refine pk 39 E (kc 65 rfl hb44) rfl fun a E=>nt<|wp_ret<|out1 E rfl rfl<|have H:=H.drop 0;have H:=H.drop 0;have H:=H.drop 0;have H:=H.drop 0;have H:=H.drop 0;?_
     refine have H:=H.drop 0;?_
     cases hm
     exact ⟨rfl, H.reads (fun r hr => (t5 (t8 hr)))⟩
   ·refine pk 44 E (kc 60 rfl hb43) rfl fun a E=>nt<|wp_ret<|out1 E rfl rfl<|have H:=H.drop 0;have H:=H.drop 0;have H:=H.drop 0;have H:=H.drop 0;have H:=H.drop 0;?_
    refine have H:=H.drop 0;?_
    cases hm
    exact ⟨rfl, H.reads (fun r hr => (t5 (t8 hr)))⟩
  ·refine pk 50 E (kc 54 rfl hb42) rfl fun a E=>nt<|wp_ret<|out1 E rfl rfl<|have H:=H.drop 0;have H:=H.drop 0;have H:=H.drop 0;have H:=H.drop 0;have H:=H.drop 0;?_
   refine have H:=H.drop 0;?_
   cases hm
   exact ⟨rfl, H.reads (fun r hr => (t5 (t8 hr)))⟩
 ·refine pk 55 E (kc 49 rfl hb41) rfl fun a E=>nt<|wp_ret<|out1 E rfl rfl<|have H:=H.drop 0;have H:=H.drop 0;have H:=H.drop 0;have H:=H.drop 0;have H:=H.drop 0;?_
  refine have H:=H.drop 0;?_
  cases hm
  exact ⟨rfl, H.reads (fun r hr => (t5 (t8 hr)))⟩

def m_cantonlaw08_GreatOps_l1 (l2 : List S_api_Op) : Nat → Int → Option Bool
  | 0, _ => none
  | k1 + 1, x4 =>
    if (decide (x4 < (l2.length : Int))) = true then ((idx l2 x4).bind fun x8 => (m_cantonlaw06_GreatOp x8).bind fun u11 => if u11 = true then (some (true)) else (m_cantonlaw08_GreatOps_l1 l2 k1 (IntKind.i64.wrap (x4 + 1)))) else (some (false))
def m_cantonlaw08_GreatOps (l2 : List S_api_Op) : Option Bool :=
  if (decide ((l2.length : Int) > 40)) = true then (some (true)) else (m_cantonlaw08_GreatOps_l1 l2 (((l2.length : Int) - 0 : Int).toNat + 1) 0)
theorem c_cantonlaw08_GreatOps {w : World} {Fo : List Ob} {rs : List Rp} (v1 : Value) (l2 : List S_api_Op) (H : Sep w (Fo) rs) (hr3 : rSl k_api_Op v1 l2 ∈ rs) {r : Bool} (hm : m_cantonlaw08_GreatOps l2 = some r) :
    Calls Tryz.prog 16 [v1].toArray w (Ret fun v w' => .bool r = v ∧ Sep w' (Fo) (rs)) := by
 unfold m_cantonlaw08_GreatOps at hm
 refine enter Tryz.func16 rfl Tryz.ntmps16 rfl fun a E =>?_
 simp only [enum, Nat.reduceAdd] at E
 refine sq<|pr 1 E rfl fun a E=>nt<|wp_seq<|sq<|pr 1 E rfl fun a E=>sv E rfl rfl rfl (x_lenS E H rfl rfl hr3 Tryz.underlying23) fun a E=>pr 1 E rfl fun a E=>nt<|wif E hm rfl (fun hm=>?_) fun hm=>?_
 ·refine sq<|pr 1 E rfl fun a E=>nt<|wp_ret<|q_thenR<|out1 E rfl rfl<|?_
  cases hm
  exact ⟨rfl, H.reads (fun r hr => hr)⟩
 ·refine wp_skip<|q_then<|wp_seq<|sq<|pr 1 E rfl fun a E=>nt<|wp_block<|wp_loop_g (fun k1 a w => ∃ (x4 : Int) (rs5 : List Rp), Env 18 a [(0, v1), (3, .int .i64 x4)] ∧ Sep w (Fo) rs5 ∧ (∀ r, r ∈ rs → r ∈ rs5) ∧ rSl k_api_Op v1 l2 ∈ rs5 ∧ m_cantonlaw08_GreatOps_l1 l2 k1 x4 = some r) (((l2.length : Int) - 0 : Int).toNat + 1) ?_ ?_
  ·exact ⟨0, _, E.sel [0, 3] rfl, H, fun r hr => hr, hr3, hm⟩
  ·clear E H hm
   rintro k1 a w ⟨x4, rs5, E, H, hs6, hr7, hm⟩
   cases k1 with
   | zero => exact (none_some hm rfl).elim
   | succ k1 =>
    unfold m_cantonlaw08_GreatOps_l1 at hm
    refine wp_seq<|sq<|pr 2 E rfl fun a E=>sv E rfl rfl rfl (x_lenS E H rfl rfl hr7 Tryz.underlying23) fun a E=>pr 1 E rfl fun a E=>nt<|wif E hm rfl (fun hm=>?_) fun hm=>?_
    ·refine wp_skip<|q_then<|wp_seq<|wp_block<|sq<|pr 2 E rfl fun a E=>bd hm fun x8 hx9 hm=>st_ixS E H (wn rfl) rfl rfl rfl rfl rfl hr7 Tryz.underlying23 sz55 hx9 fun q10 a H E=>ldf k_api_Op_flat E H rfl rfl rfl rfl rfl m0 Tryz.underlying55 rfl sz55 fun a E=>?_
     refine bd hm fun u11 hx12 hm=>x_cl E rfl rfl rfl rfl rfl cf34 (c_cantonlaw06_GreatOp x8 H hx12)<|?_
     rintro _ w ⟨rfl, H⟩ a E
     refine nt<|wif E hm rfl (fun hm=>?_) fun hm=>?_
     ·refine sq<|pr 1 E rfl fun a E=>nt<|wp_ret<|q_blkR<|q_thenR<|q_thenR<|q_blkR<|q_thenR<|?_
      refine out1 E rfl rfl<|?_
      cases hm
      exact ⟨rfl, H.reads (fun r hr => (t1 (hs6 r hr)))⟩
     ·exact wp_skip<|q_blk<|q_then<|wp_region_lit<|pr 3 E rfl fun a E=>nt<|⟨k1, Nat.lt_succ_self k1, IntKind.i64.wrap (x4 + 1), _, E.sel [0, 3] rfl, H, fun r hr => (t1 (hs6 r hr)), (t1 hr7), hm⟩
    ·refine wp_exit<|q_thenX<|q_thenX<|q_hit<|q_then<|sq<|pr 1 E rfl fun a E=>nt<|wp_ret<|?_
     refine out1 E rfl rfl<|?_
     cases hm
     exact ⟨rfl, H.reads (hs6)⟩

def m_cantonref08_May_l1 (l2 : List S_api_Op) : Nat → Int → Option Bool
  | 0, _ => none
  | k1 + 1, x4 =>
    if (decide (x4 < (l2.length : Int))) = true then ((idx l2 x4).bind fun x8 => (m_cantonref06_May x8).bind fun u11 => if (!u11) = true then (some (false)) else (m_cantonref08_May_l1 l2 k1 (IntKind.i64.wrap (x4 + 1)))) else (if (decide ((l2.length : Int) ≥ 1)) = true then (some (decide ((l2.length : Int) ≤ 8))) else (some (false)))
def m_cantonref08_May (l2 : List S_api_Op) : Option Bool :=
  m_cantonref08_May_l1 l2 (((l2.length : Int) - 0 : Int).toNat + 1) 0
theorem c_cantonref08_May {w : World} {Fo : List Ob} {rs : List Rp} (v1 : Value) (l2 : List S_api_Op) (H : Sep w (Fo) rs) (hr3 : rSl k_api_Op v1 l2 ∈ rs) {r : Bool} (hm : m_cantonref08_May l2 = some r) :
    Calls Tryz.prog 20 [v1].toArray w (Ret fun v w' => .bool r = v ∧ Sep w' (Fo) (rs)) := by
 unfold m_cantonref08_May at hm
 refine enter Tryz.func20 rfl Tryz.ntmps20 rfl fun a E =>?_
 simp only [enum, Nat.reduceAdd] at E
 refine sq<|pr 1 E rfl fun a E=>nt<|wp_seq<|sq<|pr 1 E rfl fun a E=>nt<|wp_block<|wp_loop_g (fun k1 a w => ∃ (x4 : Int) (rs5 : List Rp), Env 24 a [(0, v1), (3, .int .i64 x4)] ∧ Sep w (Fo) rs5 ∧ (∀ r, r ∈ rs → r ∈ rs5) ∧ rSl k_api_Op v1 l2 ∈ rs5 ∧ m_cantonref08_May_l1 l2 k1 x4 = some r) (((l2.length : Int) - 0 : Int).toNat + 1) ?_ ?_
 ·exact ⟨0, _, E.sel [0, 3] rfl, H, fun r hr => hr, hr3, hm⟩
 ·clear E H hm
  rintro k1 a w ⟨x4, rs5, E, H, hs6, hr7, hm⟩
  cases k1 with
  | zero => exact (none_some hm rfl).elim
  | succ k1 =>
   unfold m_cantonref08_May_l1 at hm
   refine wp_seq<|sq<|pr 2 E rfl fun a E=>sv E rfl rfl rfl (x_lenS E H rfl rfl hr7 Tryz.underlying23) fun a E=>pr 1 E rfl fun a E=>nt<|wif E hm rfl (fun hm=>?_) fun hm=>?_
   ·refine wp_skip<|q_then<|wp_seq<|wp_block<|sq<|pr 2 E rfl fun a E=>bd hm fun x8 hx9 hm=>st_ixS E H (wn rfl) rfl rfl rfl rfl rfl hr7 Tryz.underlying23 sz55 hx9 fun q10 a H E=>ldf k_api_Op_flat E H rfl rfl rfl rfl rfl m0 Tryz.underlying55 rfl sz55 fun a E=>?_
    refine bd hm fun u11 hx12 hm=>x_cl E rfl rfl rfl rfl rfl cf36 (c_cantonref06_May x8 H hx12)<|?_
    rintro _ w ⟨rfl, H⟩ a E
    refine pr 1 E rfl fun a E=>nt<|wif E hm rfl (fun hm=>?_) fun hm=>?_
    ·refine sq<|pr 1 E rfl fun a E=>nt<|wp_ret<|q_blkR<|q_thenR<|q_thenR<|q_blkR<|q_thenR<|?_
     refine out1 E rfl rfl<|?_
     cases hm
     exact ⟨rfl, H.reads (fun r hr => (t1 (hs6 r hr)))⟩
    ·exact wp_skip<|q_blk<|q_then<|wp_region_lit<|pr 3 E rfl fun a E=>nt<|⟨k1, Nat.lt_succ_self k1, IntKind.i64.wrap (x4 + 1), _, E.sel [0, 3] rfl, H, fun r hr => (t1 (hs6 r hr)), (t1 hr7), hm⟩
   ·refine wp_exit<|q_thenX<|q_thenX<|q_hit<|q_then<|sq<|pr 1 E rfl fun a E=>sv E rfl rfl rfl (x_lenS E H rfl rfl hr7 Tryz.underlying23) fun a E=>pr 2 E rfl fun a E=>cs hm (fun hb13 hm=>?_) fun hb13 hm=>?_
    ·refine pk 1 E (kc 19 rfl hb13) rfl fun a E=>st_val E (ws' (d := 19) E rfl rfl rfl rfl hb13) rfl rfl (x_lenS E H rfl rfl hr7 Tryz.underlying23) fun a E=>pk 3 E (kc 19 rfl hb13) rfl fun a E=>nt<|wp_ret<|out1 E rfl rfl<|?_
     cases hm
     exact ⟨rfl, H.reads (hs6)⟩
    ·refine pk 5 E (kc 19 rfl hb13) rfl fun a E=>nt<|wp_ret<|out1 E rfl rfl<|?_
     cases hm
     exact ⟨rfl, H.reads (hs6)⟩

def m_cantonref07_Same_l1 (x1 : S_api_Store) (x4 : S_api_Store) : Nat → Int → Option Bool
  | 0, _ => none
  | k1 + 1, x28 =>
    if (decide (x28 < (x1.Turns.length : Int))) = true then ((idx x1.Turns x28).bind fun x37 => (idx x4.Turns x28).bind fun x43 => if (!((sEq x37.Dir x43.Dir) && (x37.Next == x43.Next))) = true then (some (false)) else (m_cantonref07_Same_l1 x1 x4 k1 (IntKind.i64.wrap (x28 + 1)))) else (some (true))
def m_cantonref07_Same_j1 (x1 : S_api_Store) (x4 : S_api_Store) (b21 : Bool) : Option Bool :=
  if b21 = true then (some (false)) else (m_cantonref07_Same_l1 x1 x4 (((x1.Turns.length : Int) - 0 : Int).toNat + 1) 0)
def m_cantonref07_Same (x1 : S_api_Store) (x4 : S_api_Store) : Option Bool :=
  (m_cantonref06_Same x1.Nodes x4.Nodes).bind fun u49 => if (!u49) = true then (m_cantonref07_Same_j1 x1 x4 true) else (m_cantonref07_Same_j1 x1 x4 ((x1.Turns.length : Int) != (x4.Turns.length : Int)))
theorem c_cantonref07_Same {w : World} {Fo : List Ob} {rs : List Rp} (x1 : S_api_Store) (v2 : Value) (v3 : Value) (x4 : S_api_Store) (v5 : Value) (v6 : Value) (H : Sep w (Fo) rs) (hr7 : rSl k_api_Node v2 x1.Nodes ∈ rs) (hr8 : rSl k_api_Turn v3 x1.Turns ∈ rs) (hr9 : rSl k_api_Node v5 x4.Nodes ∈ rs) (hr10 : rSl k_api_Turn v6 x4.Turns ∈ rs) {r : Bool} (hm : m_cantonref07_Same x1 x4 = some r) :
    Calls Tryz.prog 30 [.agg #[v2, v3], .agg #[v5, v6]].toArray w (Ret fun v w' => .bool r = v ∧ Sep w' (Fo) (rs)) := by
 unfold m_cantonref07_Same at hm
 refine enter Tryz.func30 rfl Tryz.ntmps30 rfl fun a E =>?_
 simp only [enum, Nat.reduceAdd] at E
 refine sq<|?_
 obtain ⟨q12, x13, rfl⟩ := H.slform hr7
 obtain ⟨q14, x15, rfl⟩ := H.slform hr8
 refine st_box E H (wn rfl) rfl rfl (cs := [(.slice q12 x1.Nodes.length x13), (.slice q14 x1.Turns.length x15)]) rfl rfl rfl fun p11 w a H E=>?_
 obtain ⟨q17, x18, rfl⟩ := H.slform hr9
 obtain ⟨q19, x20, rfl⟩ := H.slform hr10
 refine st_box E H (wn rfl) rfl rfl (cs := [(.slice q17 x4.Nodes.length x18), (.slice q19 x4.Turns.length x20)]) rfl rfl rfl fun p16 w a H E=>pr 1 E rfl fun a E=>nt<|wp_seq<|wp_seq_cut (fun a w => ∃ (b21 : Bool) (rs22 : List Rp), Env 39 a [(2, pt p11 0), (3, pt p16 0), (20, .bool b21)] ∧ Sep w (Blk p11 41 [(.slice q12 x1.Nodes.length x13), (.slice q14 x1.Turns.length x15)] :: Blk p16 41 [(.slice q17 x4.Nodes.length x18), (.slice q19 x4.Turns.length x20)] :: Fo) rs22 ∧ (∀ r, r ∈ rs → r ∈ rs22) ∧ rSl k_api_Node (.slice q12 x1.Nodes.length x13) x1.Nodes ∈ rs22 ∧ rSl k_api_Turn (.slice q14 x1.Turns.length x15) x1.Turns ∈ rs22 ∧ rSl k_api_Node (.slice q17 x4.Nodes.length x18) x4.Nodes ∈ rs22 ∧ rSl k_api_Turn (.slice q19 x4.Turns.length x20) x4.Turns ∈ rs22 ∧ m_cantonref07_Same_j1 x1 x4 b21 = some r) ?_ ?_
 ·refine wp_region_lit<|pr 1 E rfl fun a E=>lb E H 1 rfl rfl rfl rfl rfl rfl rfl Tryz.underlying22 rfl fun a E=>pr 1 E rfl fun a E=>lb E H 0 rfl rfl rfl rfl rfl rfl rfl Tryz.underlying22 rfl fun a E=>bd hm fun u49 hx50 hm=>x_cl E rfl rfl rfl rfl rfl cf21 (c_cantonref06_Same (.slice q12 x1.Nodes.length x13) x1.Nodes (.slice q17 x4.Nodes.length x18) x4.Nodes H hr7 hr9 hx50)<|?_
  rintro _ w ⟨rfl, H⟩ a E
  refine pr 2 E rfl fun a E=>cs hm (fun hb51 hm=>?_) fun hb51 hm=>?_
  ·exact pk 8 E (kc 12 rfl hb51) rfl fun a E=>nt<|have H:=H.front 0 rfl;have H:=H.front 1 rfl;⟨true, _, E.sel [2, 3, 20] rfl, H, fun r hr => hr, hr7, hr8, hr9, hr10, hm⟩
  ·refine pk 1 E (kc 12 rfl hb51) rfl fun a E=>st_val E (ws' (d := 12) E rfl rfl rfl rfl hb51) rfl rfl (x_ldB (i := 1) E H rfl rfl rfl rfl Tryz.underlying39 rfl) fun a E=>st_val E (ws' (d := 12) E rfl rfl rfl rfl hb51) rfl rfl (x_lenS E H rfl rfl hr8 Tryz.underlying39) fun a E=>pk 1 E (kc 12 rfl hb51) rfl fun a E=>st_val E (ws' (d := 12) E rfl rfl rfl rfl hb51) rfl rfl (x_ldB (i := 0) E H rfl rfl rfl rfl Tryz.underlying39 rfl) fun a E=>st_val E (ws' (d := 12) E rfl rfl rfl rfl hb51) rfl rfl (x_lenS E H rfl rfl hr10 Tryz.underlying39) fun a E=>pk 2 E (kc 12 rfl hb51) rfl fun a E=>nt<|have H:=H.front 0 rfl;?_
   exact have H:=H.front 1 rfl;⟨(x1.Turns.length : Int) != (x4.Turns.length : Int), _, E.sel [2, 3, 20] rfl, H, fun r hr => hr, hr7, hr8, hr9, hr10, hm⟩
 ·clear E H hm
  rintro a w ⟨b21, rs22, E, H, hs23, hr24, hr25, hr26, hr27, hm⟩
  unfold m_cantonref07_Same_j1 at hm
  refine wif E hm rfl (fun hm=>?_) fun hm=>?_
  ·refine sq<|pr 1 E rfl fun a E=>nt<|wp_ret<|q_thenR<|out1 E rfl rfl<|have H:=H.drop 0;have H:=H.drop 0;?_
   cases hm
   exact ⟨rfl, H.reads (hs23)⟩
  ·refine wp_skip<|q_then<|wp_seq<|sq<|pr 1 E rfl fun a E=>nt<|wp_block<|wp_loop_g (fun k1 a w => ∃ (x28 : Int) (rs29 : List Rp), Env 39 a [(2, pt p11 0), (3, pt p16 0), (5, .int .i64 x28)] ∧ Sep w (Blk p11 41 [(.slice q12 x1.Nodes.length x13), (.slice q14 x1.Turns.length x15)] :: Blk p16 41 [(.slice q17 x4.Nodes.length x18), (.slice q19 x4.Turns.length x20)] :: Fo) rs29 ∧ (∀ r, r ∈ rs → r ∈ rs29) ∧ rSl k_api_Node (.slice q12 x1.Nodes.length x13) x1.Nodes ∈ rs29 ∧ rSl k_api_Turn (.slice q14 x1.Turns.length x15) x1.Turns ∈ rs29 ∧ rSl k_api_Node (.slice q17 x4.Nodes.length x18) x4.Nodes ∈ rs29 ∧ rSl k_api_Turn (.slice q19 x4.Turns.length x20) x4.Turns ∈ rs29 ∧ m_cantonref07_Same_l1 x1 x4 k1 x28 = some r) (((x1.Turns.length : Int) - 0 : Int).toNat + 1) ?_ ?_
   ·exact ⟨0, _, E.sel [2, 3, 5] rfl, H, hs23, hr24, hr25, hr26, hr27, hm⟩
   ·clear E H hm
    rintro k1 a w ⟨x28, rs29, E, H, hs30, hr31, hr32, hr33, hr34, hm⟩
    cases k1 with
    | zero => exact (none_some hm rfl).elim
    | succ k1 =>
     unfold m_cantonref07_Same_l1 at hm
     refine wp_seq<|sq<|pr 2 E rfl fun a E=>lb E H 0 rfl rfl rfl rfl rfl rfl rfl Tryz.underlying39 rfl fun a E=>sv E rfl rfl rfl (x_lenS E H rfl rfl hr32 Tryz.underlying39) fun a E=>pr 1 E rfl fun a E=>nt<|wif E hm rfl (fun hm=>?_) fun hm=>?_
     ·refine wp_skip<|q_then<|wp_seq<|wp_block<|wp_seq<|?_
      obtain ⟨u35, H⟩ := H.raw hr32
      obtain ⟨u36, H⟩ := H.raw (t1 hr34)
      refine dw [(0, 0), (1, 0), (2, 0), (3, 0), (4, 0), (5, 0), (6, 0), (7, 0), (8, 0), (9, 0), (10, 0)] [0, 1] [1, 0] H (by kernel_rfl) (fun _ _ _ h => False.elim h.2) fun w W0 hI H=>fn 1 E rfl fun a E=>fb E rfl (wn rfl) rfl rfl rfl rfl m0 rfl Tryz.underlying39 rfl fun a E=>fn 1 E rfl fun a E=>bd hm fun x37 hx38 hm=>?_
      obtain ⟨q39, u42, hx40, hx41⟩ := dr_ixW (P := Tryz.prog) (k := .i64) hI (dr_mem (.head _)) Tryz.underlying39 sz83 hx38
      refine fr_val E rfl (wn rfl) rfl rfl (fun w hW=>x_ixA E rfl rfl rfl (hx40 w)) fun a E=>?_
      refine fr_val E rfl (wn rfl) rfl rfl (fun w hW=>x_ld E rfl rfl (ir_ldN (cs := [.string x37.Dir, .int .i64 x37.Next]) (DR.ir (dr_at hx41)) (fun _ _ _ h => k_api_Turn_open h) Tryz.underlying83 rfl sz83 w hW)) fun a E=>?_
      refine fn 1 E rfl fun a E=>fb E rfl (wn rfl) rfl rfl rfl rfl mm1 rfl Tryz.underlying39 rfl fun a E=>fn 1 E rfl fun a E=>bd hm fun x43 hx44 hm=>?_
      obtain ⟨q45, u48, hx46, hx47⟩ := dr_ixW (P := Tryz.prog) (k := .i64) hI (dr_mem (.tail _ (.head _))) Tryz.underlying39 sz83 hx44
      refine fr_val E rfl (wn rfl) rfl rfl (fun w hW=>x_ixA E rfl rfl rfl (hx46 w)) fun a E=>?_
      refine fr_val E rfl (wn rfl) rfl rfl (fun w hW=>x_ld E rfl rfl (ir_ldN (cs := [.string x43.Dir, .int .i64 x43.Next]) (DR.ir (dr_at hx47)) (fun _ _ _ h => k_api_Turn_open h) Tryz.underlying83 rfl sz83 w hW)) fun a E=>?_
      refine fr_val E rfl (wn rfl) rfl rfl (fun w hW=>(x_bin2 E rfl rfl rfl (v := .bool (!((sEq x37.Dir x43.Dir) && (x37.Next == x43.Next)))) (ne_agg egt83 (eq_struct Tryz.underlying83 sih83 (eqf_cons (by rfl) (by kernel_rfl) (by kernel_rfl) (eq_string Tryz.underlying9) (eqf_last (by rfl) (by kernel_rfl) (by kernel_rfl) (eq_int Tryz.underlying2))))))) fun a E=>?_
      refine fr_nil<|?_
      clear hI
      refine q_then<|wif E hm rfl (fun hm=>?_) fun hm=>?_
      ·refine sq<|pr 1 E rfl fun a E=>nt<|wp_ret<|q_blkR<|q_thenR<|q_thenR<|q_blkR<|q_thenR<|?_
       refine out1 E rfl rfl<|have H:=H.drop 0;have H:=H.drop 0;?_
       cases hm
       exact ⟨rfl, H.reads (fun r hr => (t2 (hs30 r hr)))⟩
      ·exact wp_skip<|q_blk<|q_then<|wp_region_lit<|pr 3 E rfl fun a E=>nt<|⟨k1, Nat.lt_succ_self k1, IntKind.i64.wrap (x28 + 1), _, E.sel [2, 3, 5] rfl, H, fun r hr => (t2 (hs30 r hr)), (t2 hr31), (t2 hr32), (t2 hr33), (t2 hr34), hm⟩
     ·refine wp_exit<|q_thenX<|q_thenX<|q_hit<|q_then<|sq<|pr 1 E rfl fun a E=>nt<|wp_ret<|?_
      refine out1 E rfl rfl<|have H:=H.drop 0;have H:=H.drop 0;?_
      cases hm
      exact ⟨rfl, H.reads (hs30)⟩

def m_cantonlaw08_MultiPieces_j2 (rec_2 : Int → Option Bool) (x32 : Int) (b38 : Bool) : Option Bool :=
  if b38 = true then (some (false)) else (rec_2 (IntKind.i64.wrap (x32 + 1)))
def m_cantonlaw08_MultiPieces_j3 (u8 : Bool) (u93 : S_api_Store × (List S_api_Result) × Int × Int) (u16 : (List S_api_Piece)) (u82 : (List S_api_Node) × S_api_Done) (b103 : Bool) : Option Bool :=
  if b103 = true then (some (false)) else (if u8 = true then (if (u93.2.2.1 == 0) = true then (if (u93.2.2.2 == 0) = true then (some (true)) else (if (u93.2.2.1 != 0) = true then (if (decide (u93.2.2.2 ≥ 0)) = true then (if (decide (u93.2.2.2 < (u16.length : Int))) = true then ((idx u16 u93.2.2.2).bind fun x116 => some (x116.Op == u82.2.At)) else (some (false))) else (some (false))) else (some (false)))) else (if (u93.2.2.1 != 0) = true then (if (decide (u93.2.2.2 ≥ 0)) = true then (if (decide (u93.2.2.2 < (u16.length : Int))) = true then ((idx u16 u93.2.2.2).bind fun x126 => some (x126.Op == u82.2.At)) else (some (false))) else (some (false))) else (some (false)))) else (some (false)))
def m_cantonlaw08_MultiPieces_l2 (u8 : Bool) (u16 : (List S_api_Piece)) (l4 : List S_api_Op) (l2 : List S_api_Node) (x19 : Int) : Nat → Int → Option Bool
  | 0, _ => none
  | k2 + 1, x32 =>
    if (decide (x32 < (u16.length : Int))) = true then ((idx u16 x32).bind fun x44 => if (decide (x44.Op < 0)) = true then (m_cantonlaw08_MultiPieces_j2 (m_cantonlaw08_MultiPieces_l2 u8 u16 l4 l2 x19 k2) x32 true) else ((idx u16 x32).bind fun x50 => if (decide (x50.Op ≥ (l4.length : Int))) = true then (m_cantonlaw08_MultiPieces_j2 (m_cantonlaw08_MultiPieces_l2 u8 u16 l4 l2 x19 k2) x32 true) else (if (decide (x32 > 0)) = true then ((idx u16 (IntKind.i64.wrap (x32 - 1))).bind fun x57 => (idx u16 x32).bind fun x62 => if (decide (x57.Op > x62.Op)) = true then (m_cantonlaw08_MultiPieces_j2 (m_cantonlaw08_MultiPieces_l2 u8 u16 l4 l2 x19 k2) x32 true) else ((idx u16 x32).bind fun x68 => (m_part_May x68.Part).bind fun u73 => m_cantonlaw08_MultiPieces_j2 (m_cantonlaw08_MultiPieces_l2 u8 u16 l4 l2 x19 k2) x32 (!u73))) else ((idx u16 x32).bind fun x75 => (m_part_May x75.Part).bind fun u80 => m_cantonlaw08_MultiPieces_j2 (m_cantonlaw08_MultiPieces_l2 u8 u16 l4 l2 x19 k2) x32 (!u80))))) else ((m_multi_Apply l2 l4).bind fun u82 => (m_part_Keep l2).bind fun u89 => (m_multi_All u89 u16).bind fun u93 => if ((u16.length : Int) != x19) = true then (m_cantonlaw08_MultiPieces_j3 u8 u93 u16 u82 true) else (if (u93.2.2.1 != u82.2.Err) = true then (m_cantonlaw08_MultiPieces_j3 u8 u93 u16 u82 true) else ((m_part_Keep u82.1).bind fun u135 => (m_cantonref07_Same u93.1 u135).bind fun u139 => m_cantonlaw08_MultiPieces_j3 u8 u93 u16 u82 (!u139))))
def m_cantonlaw08_MultiPieces_l1 (u8 : Bool) (u16 : (List S_api_Piece)) (l4 : List S_api_Op) (l2 : List S_api_Node) : Nat → Int → Int → Option Bool
  | 0, _, _ => none
  | k1 + 1, x19, x20 =>
    if (decide (x20 < (l4.length : Int))) = true then ((idx l4 x20).bind fun x26 => (m_part_Of x26).bind fun u29 => m_cantonlaw08_MultiPieces_l1 u8 u16 l4 l2 k1 (IntKind.i64.wrap (x19 + (u29.length : Int))) (IntKind.i64.wrap (x20 + 1))) else (m_cantonlaw08_MultiPieces_l2 u8 u16 l4 l2 x19 (((u16.length : Int) - 0 : Int).toNat + 1) 0)
def m_cantonlaw08_MultiPieces_j1 (u8 : Bool) (l4 : List S_api_Op) (l2 : List S_api_Node) (b10 : Bool) : Option Bool :=
  if b10 = true then (some (u8)) else ((m_multi_Of l4).bind fun u16 => m_cantonlaw08_MultiPieces_l1 u8 u16 l4 l2 (((l4.length : Int) - 0 : Int).toNat + 1) 0 0)
def m_cantonlaw08_MultiPieces (l2 : List S_api_Node) (l4 : List S_api_Op) : Option Bool :=
  m_cantonlaw08_head.bind fun u8 => (m_cantonlaw06_Great l2).bind fun u141 => if u141 = true then (m_cantonlaw08_MultiPieces_j1 u8 l4 l2 true) else ((m_cantonlaw08_GreatOps l4).bind fun u144 => if u144 = true then (m_cantonlaw08_MultiPieces_j1 u8 l4 l2 true) else ((m_cantonref06_Right l2).bind fun u147 => if (!u147) = true then (m_cantonlaw08_MultiPieces_j1 u8 l4 l2 true) else ((m_cantonref08_May l4).bind fun u150 => if (!u150) = true then (m_cantonlaw08_MultiPieces_j1 u8 l4 l2 true) else (m_cantonlaw08_MultiPieces_j1 u8 l4 l2 (decide ((IntKind.i64.wrap ((l2.length : Int) + (l4.length : Int))) > 512))))))
theorem c_cantonlaw08_MultiPieces {w : World} {Fo : List Ob} {rs : List Rp} (v1 : Value) (l2 : List S_api_Node) (v3 : Value) (l4 : List S_api_Op) (H : Sep w (Fo) rs) (hr5 : rSl k_api_Node v1 l2 ∈ rs) (hr6 : rSl k_api_Op v3 l4 ∈ rs) (hr7 : rTab Tryz.prog ∈ rs) {r : Bool} (hm : m_cantonlaw08_MultiPieces l2 l4 = some r) :
    Calls Tryz.prog 7 [v1, v3].toArray w (Ret fun v w' => .bool r = v ∧ Sep w' (Fo) (rs)) := by
 unfold m_cantonlaw08_MultiPieces at hm
 refine enter Tryz.func7 rfl Tryz.ntmps7 rfl fun a E =>?_
 simp only [enum, Nat.reduceAdd] at E
 refine sq<|pr 1 E rfl fun a E=>nx<|bd hm fun u8 hx9 hm=>x_cl E rfl rfl rfl rfl rfl cf14 (c_cantonlaw08_head H hr7 hx9)<|?_
 rintro _ w ⟨rfl, H⟩ a E
 refine pr 1 E rfl fun a E=>nt<|wp_seq<|wp_seq_cut (fun a w => ∃ (b10 : Bool) (rs11 : List Rp), Env 172 a [(0, v1), (1, v3), (5, .bool u8), (40, .bool b10)] ∧ Sep w (Fo) rs11 ∧ (∀ r, r ∈ rs → r ∈ rs11) ∧ rSl k_api_Node v1 l2 ∈ rs11 ∧ rSl k_api_Op v3 l4 ∈ rs11 ∧ rTab Tryz.prog ∈ rs11 ∧ m_cantonlaw08_MultiPieces_j1 u8 l4 l2 b10 = some r) ?_ ?_
 ·refine wp_region_lit<|pr 1 E rfl fun a E=>bd hm fun u141 hx142 hm=>x_cl E rfl rfl rfl rfl rfl cf15 (c_cantonlaw06_Great v1 l2 H hr5 hx142)<|?_
  rintro _ w ⟨rfl, H⟩ a E
  refine pr 1 E rfl fun a E=>cs hm (fun hb143 hm=>?_) fun hb143 hm=>?_
  ·exact pk 21 E (kc 19 rfl hb143) rfl fun a E=>nt<|⟨true, _, E.sel [0, 1, 5, 40] rfl, H, fun r hr => hr, hr5, hr6, hr7, hm⟩
  ·refine pk 1 E (kc 19 rfl hb143) rfl fun a E=>bd hm fun u144 hx145 hm=>st_call E (ws' (d := 19) E rfl rfl rfl rfl hb143) rfl rfl (x_call E rfl rfl (cf16 _)) (c_cantonlaw08_GreatOps v3 l4 H hr6 hx145)<|?_
   rintro _ w ⟨rfl, H⟩ a E
   refine pk 2 E (kc 19 rfl hb143) rfl fun a E=>cs hm (fun hb146 hm=>?_) fun hb146 hm=>?_
   ·exact pk 17 E (kc 23 rfl hb146) rfl fun a E=>nt<|⟨true, _, E.sel [0, 1, 5, 40] rfl, H, fun r hr => hr, hr5, hr6, hr7, hm⟩
   ·refine pk 1 E (kc 23 rfl hb146) rfl fun a E=>bd hm fun u147 hx148 hm=>st_call E (ws' (d := 23) E rfl rfl rfl rfl hb146) rfl rfl (x_call E rfl rfl (cf35 _)) (c_cantonref06_Right v1 l2 H hr5 hx148)<|?_
    rintro _ w ⟨rfl, H⟩ a E
    refine pk 3 E (kc 23 rfl hb146) rfl fun a E=>cs hm (fun hb149 hm=>?_) fun hb149 hm=>?_
    ·exact pk 12 E (kc 28 rfl hb149) rfl fun a E=>nt<|⟨true, _, E.sel [0, 1, 5, 40] rfl, H, fun r hr => hr, hr5, hr6, hr7, hm⟩
    ·refine pk 1 E (kc 28 rfl hb149) rfl fun a E=>bd hm fun u150 hx151 hm=>st_call E (ws' (d := 28) E rfl rfl rfl rfl hb149) rfl rfl (x_call E rfl rfl (cf20 _)) (c_cantonref08_May v3 l4 H hr6 hx151)<|?_
     rintro _ w ⟨rfl, H⟩ a E
     refine pk 3 E (kc 28 rfl hb149) rfl fun a E=>cs hm (fun hb152 hm=>?_) fun hb152 hm=>?_
     ·exact pk 7 E (kc 33 rfl hb152) rfl fun a E=>nt<|⟨true, _, E.sel [0, 1, 5, 40] rfl, H, fun r hr => hr, hr5, hr6, hr7, hm⟩
     ·exact pk 1 E (kc 33 rfl hb152) rfl fun a E=>st_val E (ws' (d := 33) E rfl rfl rfl rfl hb152) rfl rfl (x_lenS E H rfl rfl hr5 Tryz.underlying22) fun a E=>pk 1 E (kc 33 rfl hb152) rfl fun a E=>st_val E (ws' (d := 33) E rfl rfl rfl rfl hb152) rfl rfl (x_lenS E H rfl rfl hr6 Tryz.underlying23) fun a E=>pk 3 E (kc 33 rfl hb152) rfl fun a E=>nt<|⟨decide ((IntKind.i64.wrap ((l2.length : Int) + (l4.length : Int))) > 512), _, E.sel [0, 1, 5, 40] rfl, H, fun r hr => hr, hr5, hr6, hr7, hm⟩
 ·clear E H hm
  rintro a w ⟨b10, rs11, E, H, hs12, hr13, hr14, hr15, hm⟩
  unfold m_cantonlaw08_MultiPieces_j1 at hm
  refine wif E hm rfl (fun hm=>?_) fun hm=>?_
  ·refine sq<|pr 2 E rfl fun a E=>nt<|wp_ret<|q_thenR<|out1 E rfl rfl<|?_
   cases hm
   exact ⟨rfl, H.reads (hs12)⟩
  ·refine wp_skip<|q_then<|sq<|pr 1 E rfl fun a E=>bd hm fun u16 hx17 hm=>x_cl E rfl rfl rfl rfl rfl cf24 (c_multi_Of v3 l4 H hr14 hx17)<|?_
   rintro _ w ⟨v18, rfl, H⟩ a E
   refine pr 1 E rfl fun a E=>nx<|pr 1 E rfl fun a E=>nt<|wp_seq<|sq<|pr 1 E rfl fun a E=>nt<|wp_block<|wp_loop_g (fun k1 a w => ∃ (x19 : Int) (x20 : Int) (rs21 : List Rp), Env 172 a [(0, v1), (1, v3), (5, .bool u8), (6, v18), (7, .int .i64 x19), (8, .int .i64 x20)] ∧ Sep w (Row 64 k_api_Piece v18 u16 :: Fo) rs21 ∧ (∀ r, r ∈ rs → r ∈ rs21) ∧ rSl k_api_Node v1 l2 ∈ rs21 ∧ rSl k_api_Op v3 l4 ∈ rs21 ∧ rTab Tryz.prog ∈ rs21 ∧ m_cantonlaw08_MultiPieces_l1 u8 u16 l4 l2 k1 x19 x20 = some r) (((l4.length : Int) - 0 : Int).toNat + 1) ?_ ?_
   ·exact ⟨0, 0, _, E.sel [0, 1, 5, 6, 7, 8] rfl, H, hs12, hr13, hr14, hr15, hm⟩
   ·clear E H hm
    rintro k1 a w ⟨x19, x20, rs21, E, H, hs22, hr23, hr24, hr25, hm⟩
    cases k1 with
    | zero => exact (none_some hm rfl).elim
    | succ k1 =>
     unfold m_cantonlaw08_MultiPieces_l1 at hm
     refine wp_seq<|sq<|pr 2 E rfl fun a E=>sv E rfl rfl rfl (x_lenS E H rfl rfl hr24 Tryz.underlying23) fun a E=>pr 1 E rfl fun a E=>nt<|wif E hm rfl (fun hm=>?_) fun hm=>?_
     ·refine wp_skip<|q_then<|wp_seq<|wp_block<|wp_region_lit<|pr 3 E rfl fun a E=>bd hm fun x26 hx27 hm=>st_ixS E H (wn rfl) rfl rfl rfl rfl rfl hr24 Tryz.underlying23 sz55 hx27 fun q28 a H E=>ldf k_api_Op_flat E H rfl rfl rfl rfl rfl m0 Tryz.underlying55 rfl sz55 fun a E=>?_
      refine bd hm fun u29 hx30 hm=>x_cl E rfl rfl rfl rfl rfl cf37 (c_part_Of x26 H hx30)<|?_
      rintro _ w ⟨v31, rfl, H⟩ a E
      exact sv E rfl rfl rfl (x_lenR (i := 0) E H rfl rfl rfl Tryz.underlying59) fun a E=>pr 2 E rfl fun a E=>wpList_nil<|q_blk<|q_then<|wp_region_lit<|pr 3 E rfl fun a E=>nt<|have H:=H.drop 0;⟨k1, Nat.lt_succ_self k1, IntKind.i64.wrap (x19 + (u29.length : Int)), IntKind.i64.wrap (x20 + 1), _, E.sel [0, 1, 5, 6, 7, 8] rfl, H, fun r hr => (t1 (hs22 r hr)), (t1 hr23), (t1 hr24), (t1 hr25), hm⟩
     ·refine wp_exit<|q_thenX<|q_thenX<|q_hit<|q_then<|wp_seq<|sq<|pr 1 E rfl fun a E=>nt<|?_
      refine wp_block<|wp_loop_g (fun k2 a w => ∃ (x32 : Int) (rs33 : List Rp), Env 172 a [(0, v1), (1, v3), (5, .bool u8), (6, v18), (7, .int .i64 x19), (9, .int .i64 x32)] ∧ Sep w (Row 64 k_api_Piece v18 u16 :: Fo) rs33 ∧ (∀ r, r ∈ rs → r ∈ rs33) ∧ rSl k_api_Node v1 l2 ∈ rs33 ∧ rSl k_api_Op v3 l4 ∈ rs33 ∧ rTab Tryz.prog ∈ rs33 ∧ m_cantonlaw08_MultiPieces_l2 u8 u16 l4 l2 x19 k2 x32 = some r) (((u16.length : Int) - 0 : Int).toNat + 1) ?_ ?_
      ·exact ⟨0, _, E.sel [0, 1, 5, 6, 7, 9] rfl, H, hs22, hr23, hr24, hr25, hm⟩
      ·clear E H hm
       rintro k2 a w ⟨x32, rs33, E, H, hs34, hr35, hr36, hr37, hm⟩
       cases k2 with
       | zero => exact (none_some hm rfl).elim
       | succ k2 =>
        unfold m_cantonlaw08_MultiPieces_l2 at hm
        refine wp_seq<|sq<|pr 2 E rfl fun a E=>sv E rfl rfl rfl (x_lenR (i := 0) E H rfl rfl rfl Tryz.underlying36) fun a E=>pr 1 E rfl fun a E=>nt<|wif E hm rfl (fun hm=>?_) fun hm=>?_
        ·refine wp_skip<|q_then<|wp_seq<|wp_block<|wp_seq_cut (fun a w => ∃ (b38 : Bool) (rs39 : List Rp), Env 172 a [(0, v1), (1, v3), (5, .bool u8), (6, v18), (7, .int .i64 x19), (9, .int .i64 x32), (106, .bool b38)] ∧ Sep w (Row 64 k_api_Piece v18 u16 :: Fo) rs39 ∧ (∀ r, r ∈ rs → r ∈ rs39) ∧ rSl k_api_Node v1 l2 ∈ rs39 ∧ rSl k_api_Op v3 l4 ∈ rs39 ∧ rTab Tryz.prog ∈ rs39 ∧ m_cantonlaw08_MultiPieces_j2 (m_cantonlaw08_MultiPieces_l2 u8 u16 l4 l2 x19 k2) x32 b38 = some r) ?_ ?_
         ·refine have H:=H.dup hr36;dw [(0, 0), (1, 0), (2, 0), (3, 0), (4, 0), (5, 0), (6, 0), (7, 0), (8, 0), (9, 0), (10, 0), (11, 0), (12, 0), (13, 0), (14, 0), (15, 0), (16, 0), (17, 0), (18, 0), (19, 0), (20, 0), (21, 0), (22, 0), (23, 0), (24, 0), (25, 0), (26, 0), (27, 0), (28, 0), (29, 0), (30, 0), (31, 0), (32, 0), (33, 0), (34, 0), (35, 0), (36, 0), (37, 0), (38, 0), (39, 0), (40, 1), (41, 0), (42, 0)] [0] [0] H (by kernel_rfl) (fun _ _ _ h => False.elim h.2) fun w W0 hI H=>fn 2 E rfl fun a E=>bd hm fun x44 hx45 hm=>?_
          obtain ⟨p46, x47, hx48⟩ := H.rowformNE (i := 0) rfl hx45
          refine fr_val E rfl (wn rfl) rfl rfl (fun w hW=>x_ixRowV (d := k_api_Piece) E hx48 rfl rfl rfl rfl Tryz.underlying36 sz64 hx45) fun a E=>?_
          refine fn 1 E rfl fun a E=>fr_val E rfl (wn rfl) rfl rfl (fun w hW=>x_ldRowI (d := k_api_Piece) (k := 0) E k_api_Piece_flat hx48 hx45 m0 rfl rfl rfl Tryz.underlying3 rfl hW) fun a E=>?_
          refine fn 2 E rfl fun a E=>cs hm (fun hb49 hm=>?_) fun hb49 hm=>?_
          ·refine fk 33 E (kc 70 rfl hb49) rfl fun a E=>fr_op rfl<|pr 1 E rfl fun a E=>nt<|?_
           refine ⟨⟨_, _, H, (subO_cons m0 (subO_nil)), (sub_cons m0 (sub_nil))⟩, ?_⟩
           refine fn 2 E rfl fun a E=>fr_nil<|?_
           clear hI
           exact q_then<|⟨true, _, E.sel [0, 1, 5, 6, 7, 9, 106] rfl, H, fun r hr => (t1 (hs34 r hr)), (t1 hr35), m0, (t1 hr37), hm⟩
          ·refine fk 2 E (kc 70 rfl hb49) rfl fun a E=>bd hm fun x50 hx51 hm=>?_
           obtain ⟨p52, x53, hx54⟩ := H.rowformNE (i := 0) rfl hx51
           refine fr_val E rfl (ws' (d := 70) E rfl rfl rfl rfl hb49) rfl rfl (fun w hW=>x_ixRowV (d := k_api_Piece) E hx54 rfl rfl rfl rfl Tryz.underlying36 sz64 hx51) fun a E=>?_
           refine fk 1 E (kc 70 rfl hb49) rfl fun a E=>fr_val E rfl (ws' (d := 70) E rfl rfl rfl rfl hb49) rfl rfl (fun w hW=>x_ldRowI (d := k_api_Piece) (k := 0) E k_api_Piece_flat hx54 hx51 m0 rfl rfl rfl Tryz.underlying3 rfl hW) fun a E=>?_
           refine fk 1 E (kc 70 rfl hb49) rfl fun a E=>fr_val E rfl (ws' (d := 70) E rfl rfl rfl rfl hb49) rfl rfl (fun w hW=>x_lenB E rfl rfl (ir_len (DR.ir (dr_mem (.head _))) Tryz.underlying23 w hW)) fun a E=>?_
           refine fk 3 E (kc 70 rfl hb49) rfl fun a E=>cs hm (fun hb55 hm=>?_) fun hb55 hm=>?_
           ·refine fk 23 E (kc 80 rfl hb55) rfl fun a E=>fr_op rfl<|pr 1 E rfl fun a E=>nt<|?_
            refine ⟨⟨_, _, H, (subO_cons m0 (subO_nil)), (sub_cons m0 (sub_nil))⟩, ?_⟩
            refine fn 2 E rfl fun a E=>fr_nil<|?_
            clear hI
            exact q_then<|⟨true, _, E.sel [0, 1, 5, 6, 7, 9, 106] rfl, H, fun r hr => (t1 (hs34 r hr)), (t1 hr35), m0, (t1 hr37), hm⟩
           ·refine fk 3 E (kc 80 rfl hb55) rfl fun a E=>cs hm (fun hb56 hm=>?_) fun hb56 hm=>?_
            ·refine fk 3 E (kc 83 rfl hb56) rfl fun a E=>bd hm fun x57 hx58 hm=>?_
             obtain ⟨p59, x60, hx61⟩ := H.rowformNE (i := 0) rfl hx58
             refine fr_val E rfl (ws' (d := 83) E rfl rfl rfl rfl hb56) rfl rfl (fun w hW=>x_ixRowV (d := k_api_Piece) E hx61 rfl rfl rfl rfl Tryz.underlying36 sz64 hx58) fun a E=>?_
             refine fk 1 E (kc 83 rfl hb56) rfl fun a E=>fr_val E rfl (ws' (d := 83) E rfl rfl rfl rfl hb56) rfl rfl (fun w hW=>x_ldRowI (d := k_api_Piece) (k := 0) E k_api_Piece_flat hx61 hx58 m0 rfl rfl rfl Tryz.underlying3 rfl hW) fun a E=>?_
             refine fk 2 E (kc 83 rfl hb56) rfl fun a E=>bd hm fun x62 hx63 hm=>?_
             obtain ⟨p64, x65, hx66⟩ := H.rowformNE (i := 0) rfl hx63
             refine fr_val E rfl (ws' (d := 83) E rfl rfl rfl rfl hb56) rfl rfl (fun w hW=>x_ixRowV (d := k_api_Piece) E hx66 rfl rfl rfl rfl Tryz.underlying36 sz64 hx63) fun a E=>?_
             refine fk 1 E (kc 83 rfl hb56) rfl fun a E=>fr_val E rfl (ws' (d := 83) E rfl rfl rfl rfl hb56) rfl rfl (fun w hW=>x_ldRowI (d := k_api_Piece) (k := 0) E k_api_Piece_flat hx66 hx63 m0 rfl rfl rfl Tryz.underlying3 rfl hW) fun a E=>?_
             refine fk 4 E (kc' (kc 83 rfl hb56) 80 rfl hb55) rfl fun a E=>cs hm (fun hb67 hm=>?_) fun hb67 hm=>?_
             ·refine fk 5 E (kc 98 rfl hb67) rfl fun a E=>fr_op rfl<|pk 1 E (kc 98 rfl hb67) rfl fun a E=>nt<|?_
              refine ⟨⟨_, _, H, (subO_cons m0 (subO_nil)), (sub_cons m0 (sub_nil))⟩, ?_⟩
              refine fk 2 E (kc 98 rfl hb67) rfl fun a E=>fr_nil<|?_
              clear hI
              exact q_then<|⟨true, _, E.sel [0, 1, 5, 6, 7, 9, 106] rfl, H, fun r hr => (t1 (hs34 r hr)), (t1 hr35), m0, (t1 hr37), hm⟩
             ·refine fk 2 E (kc 98 rfl hb67) rfl fun a E=>bd hm fun x68 hx69 hm=>?_
              obtain ⟨p70, x71, hx72⟩ := H.rowformNE (i := 0) rfl hx69
              refine fr_val E rfl (ws' (d := 98) E rfl rfl rfl rfl hb67) rfl rfl (fun w hW=>x_ixRowV (d := k_api_Piece) E hx72 rfl rfl rfl rfl Tryz.underlying36 sz64 hx69) fun a E=>?_
              refine fk 1 E (kc 98 rfl hb67) rfl fun a E=>fr_val E rfl (ws' (d := 98) E rfl rfl rfl rfl hb67) rfl rfl (fun w hW=>x_ldRowNKI (k := 1) (us := (l_api_Part x68.Part)) E k_api_Piece_flat hx72 hx69 m0 rfl rfl rfl Tryz.underlying62 rfl sz62 hW) fun a E=>?_
              refine fr_op rfl<|bd hm fun u73 hx74 hm=>st_call E (ws' (d := 98) E rfl rfl rfl rfl hb67) rfl rfl (x_call E rfl rfl (cf38 _)) (c_part_May x68.Part H hx74)<|?_
              rintro _ w ⟨rfl, H⟩ a E
              refine nt<|?_
              refine ⟨⟨_, _, H, (subO_cons m0 (subO_nil)), (sub_cons m0 (sub_nil))⟩, ?_⟩
              refine fk 2 E (kc 98 rfl hb67) rfl fun a E=>fr_nil<|?_
              clear hI
              exact q_then<|⟨!u73, _, E.sel [0, 1, 5, 6, 7, 9, 106] rfl, H, fun r hr => (t1 (hs34 r hr)), (t1 hr35), m0, (t1 hr37), hm⟩
            ·refine fk 17 E (kc' (kc 83 rfl hb56) 80 rfl hb55) rfl fun a E=>bd hm fun x75 hx76 hm=>?_
             obtain ⟨p77, x78, hx79⟩ := H.rowformNE (i := 0) rfl hx76
             refine fr_val E rfl (ws E rfl rfl rfl rfl) rfl rfl (fun w hW=>x_ixRowV (d := k_api_Piece) E hx79 rfl rfl rfl rfl Tryz.underlying36 sz64 hx76) fun a E=>?_
             refine fn 1 E rfl fun a E=>fr_val E rfl (ws E rfl rfl rfl rfl) rfl rfl (fun w hW=>x_ldRowNKI (k := 1) (us := (l_api_Part x75.Part)) E k_api_Piece_flat hx79 hx76 m0 rfl rfl rfl Tryz.underlying62 rfl sz62 hW) fun a E=>?_
             refine fr_op rfl<|bd hm fun u80 hx81 hm=>st_call E (ws E rfl rfl rfl rfl) rfl rfl (x_call E rfl rfl (cf38 _)) (c_part_May x75.Part H hx81)<|?_
             rintro _ w ⟨rfl, H⟩ a E
             refine nt<|?_
             refine ⟨⟨_, _, H, (subO_cons m0 (subO_nil)), (sub_cons m0 (sub_nil))⟩, ?_⟩
             refine fn 2 E rfl fun a E=>fr_nil<|?_
             clear hI
             exact q_then<|⟨!u80, _, E.sel [0, 1, 5, 6, 7, 9, 106] rfl, H, fun r hr => (t1 (hs34 r hr)), (t1 hr35), m0, (t1 hr37), hm⟩
         ·clear E H hm
          rintro a w ⟨b38, rs39, E, H, hs40, hr41, hr42, hr43, hm⟩
          unfold m_cantonlaw08_MultiPieces_j2 at hm
          refine wif E hm rfl (fun hm=>?_) fun hm=>?_
          ·refine sq<|pr 1 E rfl fun a E=>nt<|wp_ret<|q_blkR<|q_thenR<|q_thenR<|q_blkR<|q_thenR<|?_
           refine out1 E rfl rfl<|have H:=H.drop 0;?_
           cases hm
           exact ⟨rfl, H.reads (hs40)⟩
          ·exact wp_skip<|q_blk<|q_then<|wp_region_lit<|pr 3 E rfl fun a E=>nt<|⟨k2, Nat.lt_succ_self k2, IntKind.i64.wrap (x32 + 1), _, E.sel [0, 1, 5, 6, 7, 9] rfl, H, hs40, hr41, hr42, hr43, hm⟩
        ·refine wp_exit<|q_thenX<|q_thenX<|q_hit<|q_then<|sq<|pr 2 E rfl fun a E=>bd hm fun u82 hx83 hm=>x_cl E rfl rfl rfl rfl rfl cf17 (c_multi_Apply v1 l2 v3 l4 H hr35 hr36 hr37 hx83)<|?_
         rintro _ w ⟨v84, v85, rfl, H⟩ a E
         refine pr 3 E rfl fun a E=>al E H rfl rfl rfl rfl zr30 fun p86 w a H E=>pr 1 E rfl fun a E=>?_
         obtain ⟨q87, x88, rfl⟩ := H.slform mm1
         refine st_st (i := 0) E H (wn rfl) rfl (us := (l_api_Done u82.2 (.slice q87 u82.2.Results.length x88))) rfl rfl rfl rfl rfl sz30 rfl rfl fun w H=>nx<|pr 1 E rfl fun a E=>bd hm fun u89 hx90 hm=>x_cl E rfl rfl rfl rfl rfl cf39 (c_part_Keep v1 l2 H (t2 hr35) hx90)<|?_
         rintro _ w ⟨v91, v92, rfl, H⟩ a E
         refine pr 1 E rfl fun a E=>have H:=H.thaw (i := 1) rfl;bd hm fun u93 hx94 hm=>x_cl E rfl rfl rfl rfl rfl cf28 (c_multi_All u89 v91 v92 v18 u16 H mm1 mm2 m0 (t5 hr37) hx94)<|?_
         rintro _ w ⟨v95, v96, v97, rfl, H⟩ a E
         refine pr 5 E rfl fun a E=>al E H rfl rfl rfl rfl zr41 fun p98 w a H E=>?_
         obtain ⟨q99, x100, rfl⟩ := H.slform m0
         obtain ⟨q101, x102, rfl⟩ := H.slform mm1
         refine st_st (i := 0) E H (wn rfl) rfl (us := [(.slice q99 u93.1.Nodes.length x100), (.slice q101 u93.1.Turns.length x102)]) rfl rfl rfl rfl rfl sz41 rfl rfl fun w H=>pr 3 E rfl fun a E=>nt<|wp_seq<|wp_seq_cut (fun a w => ∃ (b103 : Bool) (rs104 : List Rp), Env 172 a [(5, .bool u8), (6, v18), (11, pt p86 0), (14, .int .i64 u93.2.2.1), (15, .int .i64 u93.2.2.2), (138, .bool b103)] ∧ Sep w (Blk p86 30 (l_api_Done u82.2 (.slice q87 u82.2.Results.length x88)) :: Fo) rs104 ∧ (∀ r, r ∈ rs → r ∈ rs104) ∧ rSl k_api_Piece v18 u16 ∈ rs104 ∧ rSl k_api_Result (.slice q87 u82.2.Results.length x88) u82.2.Results ∈ rs104 ∧ rTab Tryz.prog ∈ rs104 ∧ m_cantonlaw08_MultiPieces_j3 u8 u93 u16 u82 b103 = some r) ?_ ?_
         ·refine dw [(0, 0), (1, 0), (2, 0), (3, 0), (4, 0), (5, 0), (6, 0), (7, 0), (8, 0), (9, 0), (10, 0), (11, 0), (12, 0), (13, 1), (14, 1), (15, 0), (16, 0)] [0, 2] [2] H (by kernel_rfl) (fun _ _ _ h => False.elim h.2) fun w W0 hI H=>fn 1 E rfl fun a E=>fr_val E rfl (wn rfl) rfl rfl (fun w hW=>x_lenB E rfl rfl (ir_len (DR.ir (dr_mem (.head _))) Tryz.underlying36 w hW)) fun a E=>?_
          refine fn 3 E rfl fun a E=>cs hm (fun hb133 hm=>?_) fun hb133 hm=>?_
          ·refine fk 8 E (kc 126 rfl hb133) rfl fun a E=>fr_op rfl<|pr 1 E rfl fun a E=>nt<|?_
           refine ⟨⟨_, _, H, (subO_cons m0 (subO_cons mm2 (subO_nil))), (sub_cons mm2 (sub_nil))⟩, ?_⟩
           refine fr_op rfl<|pr 1 E rfl fun a E=>nt<|?_
           refine ⟨⟨_, _, H, (subO_cons m0 (subO_cons mm2 (subO_nil))), (sub_cons mm2 (sub_nil))⟩, ?_⟩
           refine fn 2 E rfl fun a E=>fr_nil<|?_
           clear hI
           exact q_then<|have H:=H.drop 0;have H:=H.drop 0;⟨true, _, E.sel [5, 6, 11, 14, 15, 138] rfl, H, fun r hr => (t7 (hs34 r hr)), mm2, mm6, (t7 hr37), hm⟩
          ·refine fk 2 E (kc 126 rfl hb133) rfl fun a E=>fb E rfl (ws' (d := 126) E rfl rfl rfl rfl hb133) rfl rfl rfl rfl mm1 rfl Tryz.underlying27 rfl fun a E=>fk 3 E (kc 126 rfl hb133) rfl fun a E=>cs hm (fun hb134 hm=>?_) fun hb134 hm=>?_
           ·refine fk 2 E (kc 132 rfl hb134) rfl fun a E=>fr_op rfl<|pk 1 E (kc 132 rfl hb134) rfl fun a E=>nt<|?_
            refine ⟨⟨_, _, H, (subO_cons m0 (subO_cons mm2 (subO_nil))), (sub_cons mm2 (sub_nil))⟩, ?_⟩
            refine fr_op rfl<|pk 1 E (kc 132 rfl hb134) rfl fun a E=>nt<|?_
            refine ⟨⟨_, _, H, (subO_cons m0 (subO_cons mm2 (subO_nil))), (sub_cons mm2 (sub_nil))⟩, ?_⟩
            refine fk 2 E (kc 132 rfl hb134) rfl fun a E=>fr_nil<|?_
            clear hI
            exact q_then<|have H:=H.drop 0;have H:=H.drop 0;⟨true, _, E.sel [5, 6, 11, 14, 15, 138] rfl, H, fun r hr => (t7 (hs34 r hr)), mm2, mm6, (t7 hr37), hm⟩
           ·refine fbn E [(.slice q99 u93.1.Nodes.length x100), (.slice q101 u93.1.Turns.length x102)] rfl (ws' (d := 132) E rfl rfl rfl rfl hb134) rfl rfl rfl rfl m0 rfl Tryz.underlying41 rfl sz41 fun a E=>fk 1 E (kc 132 rfl hb134) rfl fun a E=>fr_op rfl<|bd hm fun u135 hx136 hm=>st_call E (ws' (d := 132) E rfl rfl rfl rfl hb134) rfl rfl (x_call E rfl rfl (cf39 _)) (c_part_Keep v84 u82.1 H mm5 hx136)<|?_
            rintro _ w ⟨v137, v138, rfl, H⟩ a E
            refine nt<|?_
            refine ⟨⟨_, _, H, (subO_cons m0 (subO_cons mm2 (subO_nil))), (sub_cons mm4 (sub_nil))⟩, ?_⟩
            refine fr_op rfl<|bd hm fun u139 hx140 hm=>st_call E (ws' (d := 132) E rfl rfl rfl rfl hb134) rfl rfl (x_call E rfl rfl (cf30 _)) (c_cantonref07_Same u93.1 (.slice q99 u93.1.Nodes.length x100) (.slice q101 u93.1.Turns.length x102) u135 v137 v138 H mm2 mm3 m0 mm1 hx140)<|?_
            rintro _ w ⟨rfl, H⟩ a E
            refine nt<|?_
            refine ⟨⟨_, _, H, (subO_cons m0 (subO_cons mm2 (subO_nil))), (sub_cons mm4 (sub_nil))⟩, ?_⟩
            refine fk 2 E (kc 132 rfl hb134) rfl fun a E=>fr_nil<|?_
            clear hI
            exact q_then<|have H:=H.drop 0;have H:=H.drop 0;⟨!u139, _, E.sel [5, 6, 11, 14, 15, 138] rfl, H, fun r hr => (t1 (t8 (hs34 r hr))), mm4, (t2 mm6), (t1 (t8 hr37)), hm⟩
         ·clear E H hm
          rintro a w ⟨b103, rs104, E, H, hs105, hr106, hr107, hr108, hm⟩
          unfold m_cantonlaw08_MultiPieces_j3 at hm
          refine wif E hm rfl (fun hm=>?_) fun hm=>?_
          ·refine sq<|pr 1 E rfl fun a E=>nt<|wp_ret<|q_thenR<|out1 E rfl rfl<|have H:=H.drop 0;?_
           cases hm
           exact ⟨rfl, H.reads (hs105)⟩
          ·refine wp_skip<|q_then<|wp_seq<|?_
           obtain ⟨u109, H⟩ := H.raw hr106
           refine have H:=H.dup (t1 hr106);dw [(0, 0), (1, 0), (2, 0), (3, 0), (4, 0), (5, 0), (6, 0), (7, 0), (8, 0), (9, 0), (10, 0), (11, 0), (12, 0), (13, 0), (14, 0), (15, 0), (16, 0), (17, 0), (18, 0), (19, 0), (20, 0), (21, 0), (22, 0), (23, 0), (24, 0), (25, 0), (26, 0), (27, 0), (28, 0), (29, 0), (30, 0), (31, 0), (32, 0), (33, 2)] [0] [0, 1] H (by kernel_rfl) (fun _ _ _ h => False.elim h.2) fun w W0 hI H=>fn 2 E rfl fun a E=>cs hm (fun hb110 hm=>?_) fun hb110 hm=>?_
           ·refine fk 3 E (kc 140 rfl hb110) rfl fun a E=>cs hm (fun hb111 hm=>?_) fun hb111 hm=>?_
            ·refine fk 4 E (kc' (kc 143 rfl hb111) 140 rfl hb110) rfl fun a E=>cs hm (fun hb112 hm=>?_) fun hb112 hm=>?_
             ·refine fk 24 E (kc' (kc 147 rfl hb112) 140 rfl hb110) rfl fun a E=>fr_tail rfl<|pr 1 E rfl fun a E=>nt<|fr_nil<|?_
              clear hI
              refine q_then<|wp_ret<|out1 E rfl rfl<|have H:=H.drop 0;?_
              cases hm
              exact ⟨rfl, H.reads (fun r hr => (t2 (hs105 r hr)))⟩
             ·refine fk 3 E (kc 147 rfl hb112) rfl fun a E=>cs hm (fun hb113 hm=>?_) fun hb113 hm=>?_
              ·refine fk 4 E (kc' (kc 150 rfl hb113) 147 rfl hb112) rfl fun a E=>cs hm (fun hb114 hm=>?_) fun hb114 hm=>?_
               ·refine fk 2 E (kc 154 rfl hb114) rfl fun a E=>fr_val E rfl (ws' (d := 154) E rfl rfl rfl rfl hb114) rfl rfl (fun w hW=>x_lenB E rfl rfl (ir_len (DR.ir (dr_mem (.head _))) Tryz.underlying36 w hW)) fun a E=>?_
                refine fk 3 E (kc' (kc 154 rfl hb114) 147 rfl hb112) rfl fun a E=>cs hm (fun hb115 hm=>?_) fun hb115 hm=>?_
                ·refine fk 2 E (kc 160 rfl hb115) rfl fun a E=>bd hm fun x116 hx117 hm=>?_
                 obtain ⟨q118, u121, hx119, hx120⟩ := dr_ixW (P := Tryz.prog) (k := .i64) hI (dr_mem (.tail _ (.head _))) Tryz.underlying36 sz64 hx117
                 refine fr_val E rfl (ws' (d := 160) E rfl rfl rfl rfl hb115) rfl rfl (fun w hW=>x_ixA E rfl rfl rfl (hx119 w)) fun a E=>?_
                 have hx122 := dr_fld hx120 (fun _ _ _ h => k_api_Piece_aw0 h)
                 refine fk 1 E (kc 160 rfl hb115) rfl fun a E=>fa E rfl (ws' (d := 160) E rfl rfl rfl rfl hb115) rfl rfl rfl rfl hx122 Tryz.underlying3 rfl fun a E=>fk 1 E (kc 160 rfl hb115) rfl fun a E=>fb E rfl (ws' (d := 160) E rfl rfl rfl rfl hb115) rfl rfl rfl rfl m0 rfl Tryz.underlying3 rfl fun a E=>fk 4 E (kc' (kc' (kc 160 rfl hb115) 147 rfl hb112) 140 rfl hb110) rfl fun a E=>fr_tail rfl<|pr 1 E rfl fun a E=>nt<|fr_nil<|?_
                 clear hI
                 refine q_then<|wp_ret<|out1 E rfl rfl<|have H:=H.drop 0;?_
                 cases hm
                 exact ⟨rfl, H.reads (fun r hr => (t2 (hs105 r hr)))⟩
                ·refine fk 11 E (kc' (kc' (kc 160 rfl hb115) 147 rfl hb112) 140 rfl hb110) rfl fun a E=>fr_tail rfl<|pr 1 E rfl fun a E=>nt<|fr_nil<|?_
                 clear hI
                 refine q_then<|wp_ret<|out1 E rfl rfl<|have H:=H.drop 0;?_
                 cases hm
                 exact ⟨rfl, H.reads (fun r hr => (t2 (hs105 r hr)))⟩
               ·refine fk 17 E (kc' (kc' (kc 154 rfl hb114) 147 rfl hb112) 140 rfl hb110) rfl fun a E=>fr_tail rfl<|pr 1 E rfl fun a E=>nt<|fr_nil<|?_
                clear hI
                refine q_then<|wp_ret<|out1 E rfl rfl<|have H:=H.drop 0;?_
                cases hm
                exact ⟨rfl, H.reads (fun r hr => (t2 (hs105 r hr)))⟩
              ·refine fk 21 E (kc' (kc' (kc 150 rfl hb113) 147 rfl hb112) 140 rfl hb110) rfl fun a E=>fr_tail rfl<|pr 1 E rfl fun a E=>nt<|fr_nil<|?_
               clear hI
               refine q_then<|wp_ret<|out1 E rfl rfl<|have H:=H.drop 0;?_
               cases hm
               exact ⟨rfl, H.reads (fun r hr => (t2 (hs105 r hr)))⟩
            ·refine fk 7 E (kc' (kc 143 rfl hb111) 140 rfl hb110) rfl fun a E=>cs hm (fun hb123 hm=>?_) fun hb123 hm=>?_
             ·refine fk 4 E (kc 150 rfl hb123) rfl fun a E=>cs hm (fun hb124 hm=>?_) fun hb124 hm=>?_
              ·refine fk 2 E (kc 154 rfl hb124) rfl fun a E=>fr_val E rfl (ws' (d := 154) E rfl rfl rfl rfl hb124) rfl rfl (fun w hW=>x_lenB E rfl rfl (ir_len (DR.ir (dr_mem (.head _))) Tryz.underlying36 w hW)) fun a E=>?_
               refine fk 3 E (kc 154 rfl hb124) rfl fun a E=>cs hm (fun hb125 hm=>?_) fun hb125 hm=>?_
               ·refine fk 2 E (kc 160 rfl hb125) rfl fun a E=>bd hm fun x126 hx127 hm=>?_
                obtain ⟨q128, u131, hx129, hx130⟩ := dr_ixW (P := Tryz.prog) (k := .i64) hI (dr_mem (.tail _ (.head _))) Tryz.underlying36 sz64 hx127
                refine fr_val E rfl (ws' (d := 160) E rfl rfl rfl rfl hb125) rfl rfl (fun w hW=>x_ixA E rfl rfl rfl (hx129 w)) fun a E=>?_
                have hx132 := dr_fld hx130 (fun _ _ _ h => k_api_Piece_aw0 h)
                refine fk 1 E (kc 160 rfl hb125) rfl fun a E=>fa E rfl (ws' (d := 160) E rfl rfl rfl rfl hb125) rfl rfl rfl rfl hx132 Tryz.underlying3 rfl fun a E=>fk 1 E (kc 160 rfl hb125) rfl fun a E=>fb E rfl (ws' (d := 160) E rfl rfl rfl rfl hb125) rfl rfl rfl rfl m0 rfl Tryz.underlying3 rfl fun a E=>fk 4 E (kc' (kc 160 rfl hb125) 140 rfl hb110) rfl fun a E=>fr_tail rfl<|pr 1 E rfl fun a E=>nt<|fr_nil<|?_
                clear hI
                refine q_then<|wp_ret<|out1 E rfl rfl<|have H:=H.drop 0;?_
                cases hm
                exact ⟨rfl, H.reads (fun r hr => (t2 (hs105 r hr)))⟩
               ·refine fk 11 E (kc' (kc 160 rfl hb125) 140 rfl hb110) rfl fun a E=>fr_tail rfl<|pr 1 E rfl fun a E=>nt<|fr_nil<|?_
                clear hI
                refine q_then<|wp_ret<|out1 E rfl rfl<|have H:=H.drop 0;?_
                cases hm
                exact ⟨rfl, H.reads (fun r hr => (t2 (hs105 r hr)))⟩
              ·refine fk 17 E (kc' (kc 154 rfl hb124) 140 rfl hb110) rfl fun a E=>fr_tail rfl<|pr 1 E rfl fun a E=>nt<|fr_nil<|?_
               clear hI
               refine q_then<|wp_ret<|out1 E rfl rfl<|have H:=H.drop 0;?_
               cases hm
               exact ⟨rfl, H.reads (fun r hr => (t2 (hs105 r hr)))⟩
             ·refine fk 21 E (kc' (kc 150 rfl hb123) 140 rfl hb110) rfl fun a E=>fr_tail rfl<|pr 1 E rfl fun a E=>nt<|fr_nil<|?_
              clear hI
              refine q_then<|wp_ret<|out1 E rfl rfl<|have H:=H.drop 0;?_
              cases hm
              exact ⟨rfl, H.reads (fun r hr => (t2 (hs105 r hr)))⟩
           ·refine fk 31 E (kc 140 rfl hb110) rfl fun a E=>fr_tail rfl<|pr 1 E rfl fun a E=>nt<|fr_nil<|?_
            clear hI
            refine q_then<|wp_ret<|out1 E rfl rfl<|have H:=H.drop 0;?_
            cases hm
            exact ⟨rfl, H.reads (fun r hr => (t2 (hs105 r hr)))⟩

end Go.Cb
