/- The law LetterMay is true at every input: the row, out of the walk and the pure law. -/
import Derived.Test.YtlocfgonplkcoaaRows
import Derived.Test.YtlocfgonplkcoaaL12m
set_option linter.unusedVariables false
set_option linter.unusedSimpArgs false
namespace Go.Proofs.Ytlocfgonplkcoaa
open Go.Cb Go.ChangeShapes Go.WideShapes Go.ChangeAt Go.RowKit
open Go.ChangeMaps (open_string shut_string)
theorem pure_LetterMay (a0 : S_api_Saved) (a1 : S_api_Answer) (h0 : (InI .i64 ((a0).View)) ∧ ((InI .i64 ((a0).Normal)) ∧ (InL (fun x => InS (x)) ((a0).Log)))) (h1 : (InI .i64 ((a1).Err)) ∧ ((InI .i64 ((a1).At)) ∧ ((True) ∧ ((InI .i64 ((a1).Epoch)) ∧ ((InL (fun x => (InI .i64 ((x).Err)) ∧ ((InS ((x).Path)) ∧ ((InS ((x).Data)) ∧ ((InI .i64 ((x).Version)) ∧ (InL (fun x => InS (x)) ((x).Names)))))) ((a1).Results)) ∧ (((InL (fun x => (InS ((x).Path)) ∧ ((InS ((x).Data)) ∧ ((InI .i64 ((x).Version)) ∧ ((InI .i64 ((x).Turn)) ∧ (InI .i64 ((x).Owner)))))) (((a1).Store).Nodes)) ∧ (InL (fun x => (InS ((x).Dir)) ∧ (InI .i64 ((x).Next))) (((a1).Store).Turns))) ∧ ((InL (fun x => (InI .i64 ((x).Num)) ∧ ((InI .i64 ((x).Kind)) ∧ ((InS ((x).Path)) ∧ (InI .i64 ((x).Watch))))) ((a1).Events)) ∧ ((InL (fun x => (InS ((x).Prefix)) ∧ ((InI .i64 ((x).Group)) ∧ ((InI .i64 ((x).Epoch)) ∧ (InI .i64 ((x).To))))) ((a1).Mounts)) ∧ (InL (fun x => InI .i64 (x)) ((a1).Wounded)))))))))) : m_cantonlaw17_LetterMay a0 a1 = some true := pure_may a0 a1 h0.2.2.1 ⟨h1.2.2.2.2.1.1, fun x hx => (h1.2.2.2.2.1.2 x hx).2.2.2.2.1, h1.2.2.2.2.2.1.1.1, h1.2.2.2.2.2.1.2.1, h1.2.2.2.2.2.2.1.1, h1.2.2.2.2.2.2.2.1.1, h1.2.2.2.2.2.2.2.2.1⟩
theorem letterMay_own : ownKnob Try.prog.godebug = none := by kernel_rfl
theorem letterMay_laid : laidOutB Try.prog = true := by kernel_rfl
set_option maxRecDepth 100000 in
theorem letterMay_lifted (os : Os) (started : os.Started) (H : Type) (enc : TypeId × Value → H) :
    ReturnsInHanded {} Try.checked os 8 .any (Rows.letterMaySpec.pre6 enc Try.prog Try.f8 Rows.letterMayRow.domain false) (Rows.letterMaySpec.post enc Try.prog Try.f8 false true false false) := by
  refine returnsInHanded_of_change_sized (C := Try.checked) letterMay_own started (by kernel_rfl) Try.func8
    (ChangeSpec.witness6 (enc := enc) (C := Try.checked) false ⟨#[], #[.agg #[.int .i64 0, .int .i64 0, .slice none 0 0], .agg #[.int .i64 0, .int .i64 0, .bool false, .int .i64 0, .slice none 0 0, .slice none 0 0, .slice none 0 0, .slice none 0 0, .slice none 0 0, .slice none 0 0]], []⟩ 8 (by kernel_rfl) (by kernel_rfl) (by kernel_rfl) (by kernel_rfl)) ?_
  intro W base args ds gs before hval0 hW hcnd hsz0 _
  have hsz : (DataW.weightsEach Try.prog (Try.f8.params.toList ++ Rows.letterMaySpec.plain.varTypes Try.prog) (ds ++ gs)).all (· ≤ reachBytes) = true := hsz0
  have hval : ∀ (j : Nat) t v, Try.f8.params[j]? = some t → args[j]? = some v → Value.okWide Try.prog W .any base t v := hval0
  have hW' := hW
  obtain ⟨p, q, hA0, hV, rfl, hfz, hnd⟩ := hW
  have hA : DataW.TrodAll enc Try.prog W 0 (fun _ => true) true Try.f8.params.toList args.toList ds p := hA0
  rw [Try.params8] at hA hval hsz
  obtain ⟨v0, vs0, d0, ds0, p0, q0, hargs, rfl, rfl, h0, r0⟩ := trodAll_cons hA
  obtain ⟨v1, vs1, d1, ds1, p1, q1, rfl, rfl, rfl, h1, r1⟩ := trodAll_cons r0
  obtain ⟨rfl, rfl, rfl⟩ := trodAll_nil r1
  obtain rfl : args = #[v0, v1] := by cases args; simp_all
  obtain ⟨rfl, rfl⟩ := trodVars_none hV
  obtain ⟨ca0, rfl, hcs0⟩ := okWide_struct Try.underlying26 (hval 0 26 v0 rfl rfl)
  have k0 := h0
  have lt0 : ∀ x ∈ p0, x.block < W.heap.size := by obtain ⟨m, hm⟩ := k0; exact DataW.trod_lt m _ _ _ hm
  obtain ⟨fuel0, hf0⟩ := h0
  obtain ⟨x0, hR0, w0⟩ := (op_map (fun x : S_api_Saved => (x.View, (x.Normal, x.Log))) (fun y => ⟨y.1, y.2.1, y.2.2⟩) (fun _ => rfl) (op_struct Try.underlying26 (by kernel_rfl) (opF_cons (by kernel_rfl) (by kernel_rfl) (op_int Try.underlying2) (opF_cons (by kernel_rfl) (by kernel_rfl) (op_int Try.underlying2) (opF_one (by kernel_rfl) (by kernel_rfl) (op_slice Try.underlying22 (by kernel_rfl) (of_decide_eq_true (by kernel_rfl)) (op_string Try.underlying9))))))) hf0 (wt_each (j := 0) (t := 26) hsz rfl rfl)
  obtain ⟨sv0_1, he0, sl0_1⟩ := k_api_Saved_open hR0
  obtain rfl : ca0 = #[.int .i64 x0.View, .int .i64 x0.Normal, sv0_1] := by have h0 : ca0.toList = [.int .i64 x0.View, .int .i64 x0.Normal, sv0_1] := he0; rw [← Array.toArray_toList (xs := ca0), h0]
  obtain ⟨ca1, rfl, hcs1⟩ := okWide_struct Try.underlying50 (hval 1 50 v1 rfl rfl)
  have k1 := h1
  have lt1 : ∀ x ∈ p1, x.block < W.heap.size := by obtain ⟨m, hm⟩ := k1; exact DataW.trod_lt m _ _ _ hm
  obtain ⟨fuel1, hf1⟩ := h1
  obtain ⟨x1, hR1, w1⟩ := (op_map (fun x : S_api_Answer => (x.Err, (x.At, (x.Yes, (x.Epoch, (x.Results, (x.Store, (x.Events, (x.Mounts, x.Wounded))))))))) (fun y => ⟨y.1, y.2.1, y.2.2.1, y.2.2.2.1, y.2.2.2.2.1, y.2.2.2.2.2.1, y.2.2.2.2.2.2.1, y.2.2.2.2.2.2.2.1, y.2.2.2.2.2.2.2.2⟩) (fun _ => rfl) (op_struct Try.underlying50 (by kernel_rfl) (opF_cons (by kernel_rfl) (by kernel_rfl) (op_int Try.underlying30) (opF_cons (by kernel_rfl) (by kernel_rfl) (op_int Try.underlying3) (opF_cons (by kernel_rfl) (by kernel_rfl) (op_bool Try.underlying4) (opF_cons (by kernel_rfl) (by kernel_rfl) (op_int Try.underlying2) (opF_cons (by kernel_rfl) (by kernel_rfl) (op_slice Try.underlying41 (by kernel_rfl) (of_decide_eq_true (by kernel_rfl)) (op_map (fun x : S_api_Result => (x.Err, (x.Path, (x.Data, (x.Version, x.Names))))) (fun y => ⟨y.1, y.2.1, y.2.2.1, y.2.2.2.1, y.2.2.2.2⟩) (fun _ => rfl) (op_struct Try.underlying62 (by kernel_rfl) (opF_cons (by kernel_rfl) (by kernel_rfl) (op_int Try.underlying30) (opF_cons (by kernel_rfl) (by kernel_rfl) (op_string Try.underlying9) (opF_cons (by kernel_rfl) (by kernel_rfl) (op_string Try.underlying9) (opF_cons (by kernel_rfl) (by kernel_rfl) (op_int Try.underlying2) (opF_one (by kernel_rfl) (by kernel_rfl) (op_slice Try.underlying22 (by kernel_rfl) (of_decide_eq_true (by kernel_rfl)) (op_string Try.underlying9)))))))))) (opF_cons (by kernel_rfl) (by kernel_rfl) (op_map (fun x : S_api_Store => (x.Nodes, x.Turns)) (fun y => ⟨y.1, y.2⟩) (fun _ => rfl) (op_struct Try.underlying45 (by kernel_rfl) (opF_cons (by kernel_rfl) (by kernel_rfl) (op_slice Try.underlying42 (by kernel_rfl) (of_decide_eq_true (by kernel_rfl)) (op_map (fun x : S_api_Node => (x.Path, (x.Data, (x.Version, (x.Turn, x.Owner))))) (fun y => ⟨y.1, y.2.1, y.2.2.1, y.2.2.2.1, y.2.2.2.2⟩) (fun _ => rfl) (op_struct Try.underlying64 (by kernel_rfl) (opF_cons (by kernel_rfl) (by kernel_rfl) (op_string Try.underlying9) (opF_cons (by kernel_rfl) (by kernel_rfl) (op_string Try.underlying9) (opF_cons (by kernel_rfl) (by kernel_rfl) (op_int Try.underlying2) (opF_cons (by kernel_rfl) (by kernel_rfl) (op_int Try.underlying2) (opF_one (by kernel_rfl) (by kernel_rfl) (op_int Try.underlying2))))))))) (opF_one (by kernel_rfl) (by kernel_rfl) (op_slice Try.underlying43 (by kernel_rfl) (of_decide_eq_true (by kernel_rfl)) (op_map (fun x : S_api_Turn => (x.Dir, x.Next)) (fun y => ⟨y.1, y.2⟩) (fun _ => rfl) (op_struct Try.underlying66 (by kernel_rfl) (opF_cons (by kernel_rfl) (by kernel_rfl) (op_string Try.underlying9) (opF_one (by kernel_rfl) (by kernel_rfl) (op_int Try.underlying2)))))))))) (opF_cons (by kernel_rfl) (by kernel_rfl) (op_slice Try.underlying46 (by kernel_rfl) (of_decide_eq_true (by kernel_rfl)) (op_map (fun x : S_api_Event => (x.Num, (x.Kind, (x.Path, x.Watch)))) (fun y => ⟨y.1, y.2.1, y.2.2.1, y.2.2.2⟩) (fun _ => rfl) (op_struct Try.underlying68 (by kernel_rfl) (opF_cons (by kernel_rfl) (by kernel_rfl) (op_int Try.underlying2) (opF_cons (by kernel_rfl) (by kernel_rfl) (op_int Try.underlying3) (opF_cons (by kernel_rfl) (by kernel_rfl) (op_string Try.underlying9) (opF_one (by kernel_rfl) (by kernel_rfl) (op_int Try.underlying2)))))))) (opF_cons (by kernel_rfl) (by kernel_rfl) (op_slice Try.underlying47 (by kernel_rfl) (of_decide_eq_true (by kernel_rfl)) (op_map (fun x : S_api_Mount => (x.Prefix, (x.Group, (x.Epoch, x.To)))) (fun y => ⟨y.1, y.2.1, y.2.2.1, y.2.2.2⟩) (fun _ => rfl) (op_struct Try.underlying70 (by kernel_rfl) (opF_cons (by kernel_rfl) (by kernel_rfl) (op_string Try.underlying9) (opF_cons (by kernel_rfl) (by kernel_rfl) (op_int Try.underlying3) (opF_cons (by kernel_rfl) (by kernel_rfl) (op_int Try.underlying2) (opF_one (by kernel_rfl) (by kernel_rfl) (op_int Try.underlying3)))))))) (opF_one (by kernel_rfl) (by kernel_rfl) (op_slice Try.underlying48 (by kernel_rfl) (of_decide_eq_true (by kernel_rfl)) (op_int Try.underlying2))))))))))))) hf1 (wt_each (j := 1) (t := 50) hsz rfl rfl)
  obtain ⟨sv1_1, sv1_2, sv1_3, sv1_4, sv1_5, sv1_6, he1, sl1_1, sl1_2, sl1_3, sl1_4, sl1_5, sl1_6⟩ := k_api_Answer_open hR1
  obtain rfl : ca1 = #[.int .i64 x1.Err, .int .i64 x1.At, .bool x1.Yes, .int .i64 x1.Epoch, sv1_1, sv1_2, sv1_3, sv1_4, sv1_5, sv1_6] := by have h0 : ca1.toList = [.int .i64 x1.Err, .int .i64 x1.At, .bool x1.Yes, .int .i64 x1.Epoch, sv1_1, sv1_2, sv1_3, sv1_4, sv1_5, sv1_6] := he1; rw [← Array.toArray_toList (xs := ca1), h0]
  clear hA0 hval0 hsz0 hsz
  have ST := sep_start W [rSl kS sv0_1 x0.Log, rSl k_api_Result sv1_1 x1.Results, rSl k_api_Node sv1_2 x1.Store.Nodes, rSl k_api_Turn sv1_3 x1.Store.Turns, rSl k_api_Event sv1_4 x1.Events, rSl k_api_Mount sv1_5 x1.Mounts, rSl (kI .i64) sv1_6 x1.Wounded] (by intro r hr; simp only [List.mem_cons, List.not_mem_nil, or_false] at hr; rcases hr with rfl | rfl | rfl | rfl | rfl | rfl | rfl; all_goals first | exact sl0_1 | exact sl1_1 | exact sl1_2 | exact sl1_3 | exact sl1_4 | exact sl1_5 | exact sl1_6)
  refine (c_cantonlaw17_LetterMay x0 sv0_1 x1 sv1_1 sv1_2 sv1_3 sv1_4 sv1_5 sv1_6 ST (by simp) (by simp) (by simp) (by simp) (by simp) (by simp) (by simp) (pure_LetterMay x0 x1 w0 w1)).mono fun e W' he => ?_
  cases e with
  | returned v =>
    obtain ⟨rfl, hs⟩ := he
    have bel := sep_below hs
    exact ⟨_, rfl, _, _, _, [], _, [], hW', trodAll_mk1 (shut_bool Try.underlying4 _), (trodAll_cons_mk (Below.trod letterMay_laid (by kernel_rfl) (of_decide_eq_true (by kernel_rfl)) k0 bel lt0) (trodAll_cons_mk (Below.trod letterMay_laid (by kernel_rfl) (of_decide_eq_true (by kernel_rfl)) k1 bel lt1) trodAll_mk0)), rfl, bel.frame _, fun h => by cases h⟩
  | _ => exact absurd he (by simp [Ret])
/-- The law LetterMay is true at every input. -/
theorem letterMay_holds : Rows.LetterMaySaid :=
  OpenClaim.holds_of_wide 8 Try.f8 rfl rfl rfl rfl rfl rfl rfl ⟨rfl, rfl, rfl, rfl, rfl⟩ rfl rfl rfl rfl rfl (by kernel_rfl) Try.func8 (by kernel_rfl)
    (of_decide_eq_true (by kernel_rfl)) (by unfold Func.isWrapper; first | (rw [if_pos (by decide +kernel)]; kernel_rfl) | (rw [if_neg (by decide +kernel)]; exact ⟨rfl, rfl⟩))
    (fun os started H enc _ => letterMay_lifted os started H enc)
end Go.Proofs.Ytlocfgonplkcoaa
