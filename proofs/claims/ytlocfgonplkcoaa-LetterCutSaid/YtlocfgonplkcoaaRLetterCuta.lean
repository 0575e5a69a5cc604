/- The law LetterCut is true at every input: the row, out of the walk and the pure law. -/
import Derived.Test.YtlocfgonplkcoaaRows
import Derived.Test.YtlocfgonplkcoaaL5a
set_option linter.unusedVariables false
set_option linter.unusedSimpArgs false
namespace Go.Proofs.Ytlocfgonplkcoaa
open Go.Cb Go.ChangeShapes Go.WideShapes Go.ChangeAt Go.RowKit
open Go.ChangeMaps (open_string shut_string)
theorem pure_LetterCut (a0 : S_api_Letter) (a1 : S_api_Letter) (a2 : S_api_Saved) (a3 : Int) (a4 : Int) (h0 : InI .i64 ((a0).Kind) ∧ (InI .i64 ((a0).View) ∧ (InI .i64 ((a0).Normal) ∧ (InI .i64 ((a0).Len) ∧ (InI .i64 ((a0).Stays) ∧ (InL (fun x => InS (x)) ((a0).Log) ∧ (InI .i64 ((a0).Num) ∧ (InS ((a0).Text))))))))) (h1 : InI .i64 ((a1).Kind) ∧ (InI .i64 ((a1).View) ∧ (InI .i64 ((a1).Normal) ∧ (InI .i64 ((a1).Len) ∧ (InI .i64 ((a1).Stays) ∧ (InL (fun x => InS (x)) ((a1).Log) ∧ (InI .i64 ((a1).Num) ∧ (InS ((a1).Text))))))))) (h2 : InI .i64 ((a2).View) ∧ (InI .i64 ((a2).Normal) ∧ (InL (fun x => InS (x)) ((a2).Log)))) (h3 : InI .u16 (a3)) (h4 : InI .u8 (a4)) : m_cantonlaw17_LetterCut a0 a1 a2 a3 a4 = some true := pure_lettercut a0 a1 a2 a3 a4 h0.2.2.2.2.2.1.1 h1.2.2.2.2.2.1.1 h2.2.2.1 h3 h4
theorem letterCut_own : ownKnob Try.prog.godebug = none := by kernel_rfl
theorem letterCut_laid : laidOutB Try.prog = true := by kernel_rfl
set_option maxRecDepth 100000 in
theorem letterCut_lifted (os : Os) (started : os.Started) (H : Type) (enc : TypeId × Value → H) :
    ReturnsInHanded {} Try.checked os 7 .any (Rows.letterCutSpec.pre6 enc Try.prog Try.f7 Rows.letterCutRow.domain false) (Rows.letterCutSpec.post enc Try.prog Try.f7 false true false false) := by
  refine returnsInHanded_of_change_sized (C := Try.checked) letterCut_own started (by kernel_rfl) Try.func7
    (ChangeSpec.witness6 (enc := enc) (C := Try.checked) false ⟨#[], #[.agg #[.int .i64 0, .int .i64 0, .int .i64 0, .int .i64 0, .int .i64 0, .slice none 0 0, .int .i64 0, .string ByteArray.empty], .agg #[.int .i64 0, .int .i64 0, .int .i64 0, .int .i64 0, .int .i64 0, .slice none 0 0, .int .i64 0, .string ByteArray.empty], .agg #[.int .i64 0, .int .i64 0, .slice none 0 0], .int .u16 0, .int .u8 0], []⟩ 8 (by kernel_rfl) (by kernel_rfl) (by kernel_rfl) (by kernel_rfl)) ?_
  intro W base args ds gs before hval0 hW hcnd hsz0 _
  have hsz : (DataW.weightsEach Try.prog (Try.f7.params.toList ++ Rows.letterCutSpec.plain.varTypes Try.prog) (ds ++ gs)).all (· ≤ reachBytes) = true := hsz0
  have hval : ∀ (j : Nat) t v, Try.f7.params[j]? = some t → args[j]? = some v → Value.okWide Try.prog W .any base t v := hval0
  have hW' := hW
  obtain ⟨p, q, hA0, hV, rfl, hfz, hnd⟩ := hW
  have hA : DataW.TrodAll enc Try.prog W 0 (fun _ => true) true Try.f7.params.toList args.toList ds p := hA0
  rw [Try.params7] at hA hval hsz
  obtain ⟨v0, vs0, d0, ds0, p0, q0, hargs, rfl, rfl, h0, r0⟩ := trodAll_cons hA
  obtain ⟨v1, vs1, d1, ds1, p1, q1, rfl, rfl, rfl, h1, r1⟩ := trodAll_cons r0
  obtain ⟨v2, vs2, d2, ds2, p2, q2, rfl, rfl, rfl, h2, r2⟩ := trodAll_cons r1
  obtain ⟨v3, vs3, d3, ds3, p3, q3, rfl, rfl, rfl, h3, r3⟩ := trodAll_cons r2
  obtain ⟨v4, vs4, d4, ds4, p4, q4, rfl, rfl, rfl, h4, r4⟩ := trodAll_cons r3
  obtain ⟨rfl, rfl, rfl⟩ := trodAll_nil r4
  obtain rfl : args = #[v0, v1, v2, v3, v4] := by cases args; simp_all
  obtain ⟨rfl, rfl⟩ := trodVars_none hV
  obtain ⟨ca0, rfl, hcs0⟩ := okWide_struct Try.underlying24 (hval 0 24 v0 rfl rfl)
  have k0 := h0
  have lt0 : ∀ x ∈ p0, x.block < W.heap.size := by obtain ⟨m, hm⟩ := k0; exact DataW.trod_lt m _ _ _ hm
  obtain ⟨fuel0, hf0⟩ := h0
  obtain ⟨x0, hR0, w0⟩ := (op_map (fun x : S_api_Letter => (x.Kind, (x.View, (x.Normal, (x.Len, (x.Stays, (x.Log, (x.Num, x.Text)))))))) (fun y => ⟨y.1, y.2.1, y.2.2.1, y.2.2.2.1, y.2.2.2.2.1, y.2.2.2.2.2.1, y.2.2.2.2.2.2.1, y.2.2.2.2.2.2.2⟩) (fun _ => rfl) (op_struct Try.underlying24 (by kernel_rfl) (opF_cons (by kernel_rfl) (by kernel_rfl) (op_int Try.underlying3) (opF_cons (by kernel_rfl) (by kernel_rfl) (op_int Try.underlying2) (opF_cons (by kernel_rfl) (by kernel_rfl) (op_int Try.underlying2) (opF_cons (by kernel_rfl) (by kernel_rfl) (op_int Try.underlying3) (opF_cons (by kernel_rfl) (by kernel_rfl) (op_int Try.underlying3) (opF_cons (by kernel_rfl) (by kernel_rfl) (op_slice Try.underlying22 (by kernel_rfl) (of_decide_eq_true (by kernel_rfl)) (op_string Try.underlying9)) (opF_cons (by kernel_rfl) (by kernel_rfl) (op_int Try.underlying2) (opF_one (by kernel_rfl) (by kernel_rfl) (op_string Try.underlying9))))))))))) hf0 (wt_each (j := 0) (t := 24) hsz rfl rfl)
  obtain ⟨sv0_1, he0, sl0_1⟩ := k_api_Letter_open hR0
  obtain rfl : ca0 = #[.int .i64 x0.Kind, .int .i64 x0.View, .int .i64 x0.Normal, .int .i64 x0.Len, .int .i64 x0.Stays, sv0_1, .int .i64 x0.Num, .string x0.Text] := by have h0 : ca0.toList = [.int .i64 x0.Kind, .int .i64 x0.View, .int .i64 x0.Normal, .int .i64 x0.Len, .int .i64 x0.Stays, sv0_1, .int .i64 x0.Num, .string x0.Text] := he0; rw [← Array.toArray_toList (xs := ca0), h0]
  obtain ⟨ca1, rfl, hcs1⟩ := okWide_struct Try.underlying24 (hval 1 24 v1 rfl rfl)
  have k1 := h1
  have lt1 : ∀ x ∈ p1, x.block < W.heap.size := by obtain ⟨m, hm⟩ := k1; exact DataW.trod_lt m _ _ _ hm
  obtain ⟨fuel1, hf1⟩ := h1
  obtain ⟨x1, hR1, w1⟩ := (op_map (fun x : S_api_Letter => (x.Kind, (x.View, (x.Normal, (x.Len, (x.Stays, (x.Log, (x.Num, x.Text)))))))) (fun y => ⟨y.1, y.2.1, y.2.2.1, y.2.2.2.1, y.2.2.2.2.1, y.2.2.2.2.2.1, y.2.2.2.2.2.2.1, y.2.2.2.2.2.2.2⟩) (fun _ => rfl) (op_struct Try.underlying24 (by kernel_rfl) (opF_cons (by kernel_rfl) (by kernel_rfl) (op_int Try.underlying3) (opF_cons (by kernel_rfl) (by kernel_rfl) (op_int Try.underlying2) (opF_cons (by kernel_rfl) (by kernel_rfl) (op_int Try.underlying2) (opF_cons (by kernel_rfl) (by kernel_rfl) (op_int Try.underlying3) (opF_cons (by kernel_rfl) (by kernel_rfl) (op_int Try.underlying3) (opF_cons (by kernel_rfl) (by kernel_rfl) (op_slice Try.underlying22 (by kernel_rfl) (of_decide_eq_true (by kernel_rfl)) (op_string Try.underlying9)) (opF_cons (by kernel_rfl) (by kernel_rfl) (op_int Try.underlying2) (opF_one (by kernel_rfl) (by kernel_rfl) (op_string Try.underlying9))))))))))) hf1 (wt_each (j := 1) (t := 24) hsz rfl rfl)
  obtain ⟨sv1_1, he1, sl1_1⟩ := k_api_Letter_open hR1
  obtain rfl : ca1 = #[.int .i64 x1.Kind, .int .i64 x1.View, .int .i64 x1.Normal, .int .i64 x1.Len, .int .i64 x1.Stays, sv1_1, .int .i64 x1.Num, .string x1.Text] := by have h0 : ca1.toList = [.int .i64 x1.Kind, .int .i64 x1.View, .int .i64 x1.Normal, .int .i64 x1.Len, .int .i64 x1.Stays, sv1_1, .int .i64 x1.Num, .string x1.Text] := he1; rw [← Array.toArray_toList (xs := ca1), h0]
  obtain ⟨ca2, rfl, hcs2⟩ := okWide_struct Try.underlying26 (hval 2 26 v2 rfl rfl)
  have k2 := h2
  have lt2 : ∀ x ∈ p2, x.block < W.heap.size := by obtain ⟨m, hm⟩ := k2; exact DataW.trod_lt m _ _ _ hm
  obtain ⟨fuel2, hf2⟩ := h2
  obtain ⟨x2, hR2, w2⟩ := (op_map (fun x : S_api_Saved => (x.View, (x.Normal, x.Log))) (fun y => ⟨y.1, y.2.1, y.2.2⟩) (fun _ => rfl) (op_struct Try.underlying26 (by kernel_rfl) (opF_cons (by kernel_rfl) (by kernel_rfl) (op_int Try.underlying2) (opF_cons (by kernel_rfl) (by kernel_rfl) (op_int Try.underlying2) (opF_one (by kernel_rfl) (by kernel_rfl) (op_slice Try.underlying22 (by kernel_rfl) (of_decide_eq_true (by kernel_rfl)) (op_string Try.underlying9))))))) hf2 (wt_each (j := 2) (t := 26) hsz rfl rfl)
  obtain ⟨sv2_1, he2, sl2_1⟩ := k_api_Saved_open hR2
  obtain rfl : ca2 = #[.int .i64 x2.View, .int .i64 x2.Normal, sv2_1] := by have h0 : ca2.toList = [.int .i64 x2.View, .int .i64 x2.Normal, sv2_1] := he2; rw [← Array.toArray_toList (xs := ca2), h0]
  obtain ⟨x3, rfl, rfl, rfl, y3⟩ := open_int Try.underlying57 (hval 3 57 v3 rfl rfl) h3
  have w3 : InI .u16 x3 := by
    have z := y3
    simp only [Lit.wf, Bool.and_eq_true, decide_eq_true_eq] at z
    exact z
  obtain ⟨x4, rfl, rfl, rfl, y4⟩ := open_int Try.underlying5 (hval 4 5 v4 rfl rfl) h4
  have w4 : InI .u8 x4 := by
    have z := y4
    simp only [Lit.wf, Bool.and_eq_true, decide_eq_true_eq] at z
    exact z
  clear hA0 hval0 hsz0 hsz
  have ST := sep_start W [rSl kS sv0_1 x0.Log, rSl kS sv1_1 x1.Log, rSl kS sv2_1 x2.Log] (by intro r hr; simp only [List.mem_cons, List.not_mem_nil, or_false] at hr; rcases hr with rfl | rfl | rfl; all_goals first | exact sl0_1 | exact sl1_1 | exact sl2_1)
  refine (c_cantonlaw17_LetterCut x0 sv0_1 x1 sv1_1 x2 sv2_1 x3 x4 ST (by simp) (by simp) (by simp) (pure_LetterCut x0 x1 x2 x3 x4 w0 w1 w2 w3 w4)).mono fun e W' he => ?_
  cases e with
  | returned v =>
    obtain ⟨rfl, hs⟩ := he
    have bel := sep_below hs
    exact ⟨_, rfl, _, _, _, [], _, [], hW', trodAll_mk1 (shut_bool Try.underlying4 _), (trodAll_cons_mk (Below.trod letterCut_laid (by kernel_rfl) (of_decide_eq_true (by kernel_rfl)) k0 bel lt0) (trodAll_cons_mk (Below.trod letterCut_laid (by kernel_rfl) (of_decide_eq_true (by kernel_rfl)) k1 bel lt1) (trodAll_cons_mk (Below.trod letterCut_laid (by kernel_rfl) (of_decide_eq_true (by kernel_rfl)) k2 bel lt2) (trodAll_cons_mk (shut_int Try.underlying57 y3) (trodAll_cons_mk (shut_int Try.underlying5 y4) trodAll_mk0))))), rfl, bel.frame _, fun h => by cases h⟩
  | _ => exact absurd he (by simp [Ret])
/-- The law LetterCut is true at every input. -/
theorem letterCut_holds : Rows.LetterCutSaid :=
  OpenClaim.holds_of_wide 7 Try.f7 rfl rfl rfl rfl rfl rfl rfl ⟨rfl, rfl, rfl, rfl, rfl⟩ rfl rfl rfl rfl rfl (by kernel_rfl) Try.func7 (by kernel_rfl)
    (of_decide_eq_true (by kernel_rfl)) (by unfold Func.isWrapper; first | (rw [if_pos (by decide +kernel)]; kernel_rfl) | (rw [if_neg (by decide +kernel)]; exact ⟨rfl, rfl⟩))
    (fun os started H enc _ => letterCut_lifted os started H enc)
end Go.Proofs.Ytlocfgonplkcoaa
