/- The law LetterWhole is true at every input: the row, out of the walk and the pure law. -/
import Derived.Test.YtlocfgonplkcoaaRows
import Derived.Test.YtlocfgonplkcoaaL11wc
set_option linter.unusedVariables false
set_option linter.unusedSimpArgs false
namespace Go.Proofs.Ytlocfgonplkcoaa
open Go.Cb Go.ChangeShapes Go.WideShapes Go.ChangeAt Go.RowKit
open Go.ChangeMaps (open_string shut_string)
theorem pure_LetterWhole (a0 : S_api_Answer) (a1 : (List Int)) (a2 : Int) (a3 : Int) (h0 : (InI .i64 ((a0).Err)) ∧ ((InI .i64 ((a0).At)) ∧ ((True) ∧ ((InI .i64 ((a0).Epoch)) ∧ ((InL (fun x => (InI .i64 ((x).Err)) ∧ ((InS ((x).Path)) ∧ ((InS ((x).Data)) ∧ ((InI .i64 ((x).Version)) ∧ (InL (fun x => InS (x)) ((x).Names)))))) ((a0).Results)) ∧ (((InL (fun x => (InS ((x).Path)) ∧ ((InS ((x).Data)) ∧ ((InI .i64 ((x).Version)) ∧ ((InI .i64 ((x).Turn)) ∧ (InI .i64 ((x).Owner)))))) (((a0).Store).Nodes)) ∧ (InL (fun x => (InS ((x).Dir)) ∧ (InI .i64 ((x).Next))) (((a0).Store).Turns))) ∧ ((InL (fun x => (InI .i64 ((x).Num)) ∧ ((InI .i64 ((x).Kind)) ∧ ((InS ((x).Path)) ∧ (InI .i64 ((x).Watch))))) ((a0).Events)) ∧ ((InL (fun x => (InS ((x).Prefix)) ∧ ((InI .i64 ((x).Group)) ∧ ((InI .i64 ((x).Epoch)) ∧ (InI .i64 ((x).To))))) ((a0).Mounts)) ∧ (InL (fun x => InI .i64 (x)) ((a0).Wounded)))))))))) (h1 : InL (fun x => InI .u8 (x)) (a1)) (h2 : InI .u16 (a2)) (h3 : InI .u8 (a3)) : m_cantonlaw17_LetterWhole a0 a1 a2 a3 = some true := pure_whole a0 a1 a2 a3 ⟨h0.2.2.2.2.1.1, fun x hx => (h0.2.2.2.2.1.2 x hx).2.2.2.2.1, h0.2.2.2.2.2.1.1.1, h0.2.2.2.2.2.1.2.1, h0.2.2.2.2.2.2.1.1, h0.2.2.2.2.2.2.2.1.1, h0.2.2.2.2.2.2.2.2.1⟩ (Bs.of h1) h2 h3
theorem letterWhole_own : ownKnob Try.prog.godebug = none := by kernel_rfl
theorem letterWhole_laid : laidOutB Try.prog = true := by kernel_rfl
set_option maxRecDepth 100000 in
theorem letterWhole_lifted (os : Os) (started : os.Started) (H : Type) (enc : TypeId × Value → H) :
    ReturnsInHanded {} Try.checked os 6 .any (Rows.letterWholeSpec.pre6 enc Try.prog Try.f6 Rows.letterWholeRow.domain false) (Rows.letterWholeSpec.post enc Try.prog Try.f6 false true false false) := by
  refine returnsInHanded_of_change_sized (C := Try.checked) letterWhole_own started (by kernel_rfl) Try.func6
    (ChangeSpec.witness6 (enc := enc) (C := Try.checked) false ⟨#[], #[.agg #[.int .i64 0, .int .i64 0, .bool false, .int .i64 0, .slice none 0 0, .slice none 0 0, .slice none 0 0, .slice none 0 0, .slice none 0 0, .slice none 0 0], .slice none 0 0, .int .u16 0, .int .u8 0], []⟩ 8 (by kernel_rfl) (by kernel_rfl) (by kernel_rfl) (by kernel_rfl)) ?_
  intro W base args ds gs before hval0 hW hcnd hsz0 _
  have hsz : (DataW.weightsEach Try.prog (Try.f6.params.toList ++ Rows.letterWholeSpec.plain.varTypes Try.prog) (ds ++ gs)).all (· ≤ reachBytes) = true := hsz0
  have hval : ∀ (j : Nat) t v, Try.f6.params[j]? = some t → args[j]? = some v → Value.okWide Try.prog W .any base t v := hval0
  have hW' := hW
  obtain ⟨p, q, hA0, hV, rfl, hfz, hnd⟩ := hW
  have hA : DataW.TrodAll enc Try.prog W 0 (fun _ => true) true Try.f6.params.toList args.toList ds p := hA0
  rw [Try.params6] at hA hval hsz
  obtain ⟨v0, vs0, d0, ds0, p0, q0, hargs, rfl, rfl, h0, r0⟩ := trodAll_cons hA
  obtain ⟨v1, vs1, d1, ds1, p1, q1, rfl, rfl, rfl, h1, r1⟩ := trodAll_cons r0
  obtain ⟨v2, vs2, d2, ds2, p2, q2, rfl, rfl, rfl, h2, r2⟩ := trodAll_cons r1
  obtain ⟨v3, vs3, d3, ds3, p3, q3, rfl, rfl, rfl, h3, r3⟩ := trodAll_cons r2
  obtain ⟨rfl, rfl, rfl⟩ := trodAll_nil r3
  obtain rfl : args = #[v0, v1, v2, v3] := by cases args; simp_all
  obtain ⟨rfl, rfl⟩ := trodVars_none hV
  obtain ⟨ca0, rfl, hcs0⟩ := okWide_struct Try.underlying50 (hval 0 50 v0 rfl rfl)
  have k0 := h0
  have lt0 : ∀ x ∈ p0, x.block < W.heap.size := by obtain ⟨m, hm⟩ := k0; exact DataW.trod_lt m _ _ _ hm
  obtain ⟨fuel0, hf0⟩ := h0
  obtain ⟨x0, hR0, w0⟩ := (op_map (fun x : S_api_Answer => (x.Err, (x.At, (x.Yes, (x.Epoch, (x.Results, (x.Store, (x.Events, (x.Mounts, x.Wounded))))))))) (fun y => ⟨y.1, y.2.1, y.2.2.1, y.2.2.2.1, y.2.2.2.2.1, y.2.2.2.2.2.1, y.2.2.2.2.2.2.1, y.2.2.2.2.2.2.2.1, y.2.2.2.2.2.2.2.2⟩) (fun _ => rfl) (op_struct Try.underlying50 (by kernel_rfl) (opF_cons (by kernel_rfl) (by kernel_rfl) (op_int Try.underlying30) (opF_cons (by kernel_rfl) (by kernel_rfl) (op_int Try.underlying3) (opF_cons (by kernel_rfl) (by kernel_rfl) (op_bool Try.underlying4) (opF_cons (by kernel_rfl) (by kernel_rfl) (op_int Try.underlying2) (opF_cons (by kernel_rfl) (by kernel_rfl) (op_slice Try.underlying41 (by kernel_rfl) (of_decide_eq_true (by kernel_rfl)) (op_map (fun x : S_api_Result => (x.Err, (x.Path, (x.Data, (x.Version, x.Names))))) (fun y => ⟨y.1, y.2.1, y.2.2.1, y.2.2.2.1, y.2.2.2.2⟩) (fun _ => rfl) (op_struct Try.underlying62 (by kernel_rfl) (opF_cons (by kernel_rfl) (by kernel_rfl) (op_int Try.underlying30) (opF_cons (by kernel_rfl) (by kernel_rfl) (op_string Try.underlying9) (opF_cons (by kernel_rfl) (by kernel_rfl) (op_string Try.underlying9) (opF_cons (by kernel_rfl) (by kernel_rfl) (op_int Try.underlying2) (opF_one (by kernel_rfl) (by kernel_rfl) (op_slice Try.underlying22 (by kernel_rfl) (of_decide_eq_true (by kernel_rfl)) (op_string Try.underlying9)))))))))) (opF_cons (by kernel_rfl) (by kernel_rfl) (op_map (fun x : S_api_Store => (x.Nodes, x.Turns)) (fun y => ⟨y.1, y.2⟩) (fun _ => rfl) (op_struct Try.underlying45 (by kernel_rfl) (opF_cons (by kernel_rfl) (by kernel_rfl) (op_slice Try.underlying42 (by kernel_rfl) (of_decide_eq_true (by kernel_rfl)) (op_map (fun x : S_api_Node => (x.Path, (x.Data, (x.Version, (x.Turn, x.Owner))))) (fun y => ⟨y.1, y.2.1, y.2.2.1, y.2.2.2.1, y.2.2.2.2⟩) (fun _ => rfl) (op_struct Try.underlying64 (by kernel_rfl) (opF_cons (by kernel_rfl) (by kernel_rfl) (op_string Try.underlying9) (opF_cons (by kernel_rfl) (by kernel_rfl) (op_string Try.underlying9) (opF_cons (by kernel_rfl) (by kernel_rfl) (op_int Try.underlying2) (opF_cons (by kernel_rfl) (by kernel_rfl) (op_int Try.underlying2) (opF_one (by kernel_rfl) (by kernel_rfl) (op_int Try.underlying2))))))))) (opF_one (by kernel_rfl) (by kernel_rfl) (op_slice Try.underlying43 (by kernel_rfl) (of_decide_eq_true (by kernel_rfl)) (op_map (fun x : S_api_Turn => (x.Dir, x.Next)) (fun y => ⟨y.1, y.2⟩) (fun _ => rfl) (op_struct Try.underlying66 (by kernel_rfl) (opF_cons (by kernel_rfl) (by kernel_rfl) (op_string Try.underlying9) (opF_one (by kernel_rfl) (by kernel_rfl) (op_int Try.underlying2)))))))))) (opF_cons (by kernel_rfl) (by kernel_rfl) (op_slice Try.underlying46 (by kernel_rfl) (of_decide_eq_true (by kernel_rfl)) (op_map (fun x : S_api_Event => (x.Num, (x.Kind, (x.Path, x.Watch)))) (fun y => ⟨y.1, y.2.1, y.2.2.1, y.2.2.2⟩) (fun _ => rfl) (op_struct Try.underlying68 (by kernel_rfl) (opF_cons (by kernel_rfl) (by kernel_rfl) (op_int Try.underlying2) (opF_cons (by kernel_rfl) (by kernel_rfl) (op_int Try.underlying3) (opF_cons (by kernel_rfl) (by kernel_rfl) (op_string Try.underlying9) (opF_one (by kernel_rfl) (by kernel_rfl) (op_int Try.underlying2)))))))) (opF_cons (by kernel_rfl) (by kernel_rfl) (op_slice Try.underlying47 (by kernel_rfl) (of_decide_eq_true (by kernel_rfl)) (op_map (fun x : S_api_Mount => (x.Prefix, (x.Group, (x.Epoch, x.To)))) (fun y => ⟨y.1, y.2.1, y.2.2.1, y.2.2.2⟩) (fun _ => rfl) (op_struct Try.underlying70 (by kernel_rfl) (opF_cons (by kernel_rfl) (by kernel_rfl) (op_string Try.underlying9) (opF_cons (by kernel_rfl) (by kernel_rfl) (op_int Try.underlying3) (opF_cons (by kernel_rfl) (by kernel_rfl) (op_int Try.underlying2) (opF_one (by kernel_rfl) (by kernel_rfl) (op_int Try.underlying3)))))))) (opF_one (by kernel_rfl) (by kernel_rfl) (op_slice Try.underlying48 (by kernel_rfl) (of_decide_eq_true (by kernel_rfl)) (op_int Try.underlying2))))))))))))) hf0 (wt_each (j := 0) (t := 50) hsz rfl rfl)
  obtain ⟨sv0_1, sv0_2, sv0_3, sv0_4, sv0_5, sv0_6, he0, sl0_1, sl0_2, sl0_3, sl0_4, sl0_5, sl0_6⟩ := k_api_Answer_open hR0
  obtain rfl : ca0 = #[.int .i64 x0.Err, .int .i64 x0.At, .bool x0.Yes, .int .i64 x0.Epoch, sv0_1, sv0_2, sv0_3, sv0_4, sv0_5, sv0_6] := by have h0 : ca0.toList = [.int .i64 x0.Err, .int .i64 x0.At, .bool x0.Yes, .int .i64 x0.Epoch, sv0_1, sv0_2, sv0_3, sv0_4, sv0_5, sv0_6] := he0; rw [← Array.toArray_toList (xs := ca0), h0]
  obtain ⟨a1, len1, cap1, rfl⟩ := okWide_slice Try.underlying27 (hval 1 27 v1 rfl rfl)
  have k1 := h1
  have lt1 : ∀ x ∈ p1, x.block < W.heap.size := by obtain ⟨m, hm⟩ := k1; exact DataW.trod_lt m _ _ _ hm
  obtain ⟨fuel1, hf1⟩ := h1
  obtain ⟨x1, ⟨u1, e1, sl1⟩, w1⟩ := (op_slice Try.underlying27 (by kernel_rfl) (of_decide_eq_true (by kernel_rfl)) (op_int Try.underlying5)) hf1 (wt_each (j := 1) (t := 27) hsz rfl rfl)
  obtain rfl : u1 = .slice a1 len1 cap1 := by cases e1; rfl
  obtain ⟨x2, rfl, rfl, rfl, y2⟩ := open_int Try.underlying57 (hval 2 57 v2 rfl rfl) h2
  have w2 : InI .u16 x2 := by
    have z := y2
    simp only [Lit.wf, Bool.and_eq_true, decide_eq_true_eq] at z
    exact z
  obtain ⟨x3, rfl, rfl, rfl, y3⟩ := open_int Try.underlying5 (hval 3 5 v3 rfl rfl) h3
  have w3 : InI .u8 x3 := by
    have z := y3
    simp only [Lit.wf, Bool.and_eq_true, decide_eq_true_eq] at z
    exact z
  clear hA0 hval0 hsz0 hsz
  have ST := sep_start W [rSl k_api_Result sv0_1 x0.Results, rSl k_api_Node sv0_2 x0.Store.Nodes, rSl k_api_Turn sv0_3 x0.Store.Turns, rSl k_api_Event sv0_4 x0.Events, rSl k_api_Mount sv0_5 x0.Mounts, rSl (kI .i64) sv0_6 x0.Wounded, rSl (kI .u8) (.slice a1 len1 cap1) x1] (by intro r hr; simp only [List.mem_cons, List.not_mem_nil, or_false] at hr; rcases hr with rfl | rfl | rfl | rfl | rfl | rfl | rfl; all_goals first | exact sl0_1 | exact sl0_2 | exact sl0_3 | exact sl0_4 | exact sl0_5 | exact sl0_6 | exact sl1)
  refine (c_cantonlaw17_LetterWhole x0 sv0_1 sv0_2 sv0_3 sv0_4 sv0_5 sv0_6 _ x1 x2 x3 ST (by simp) (by simp) (by simp) (by simp) (by simp) (by simp) (by simp) (pure_LetterWhole x0 x1 x2 x3 w0 w1 w2 w3)).mono fun e W' he => ?_
  cases e with
  | returned v =>
    obtain ⟨rfl, hs⟩ := he
    have bel := sep_below hs
    exact ⟨_, rfl, _, _, _, [], _, [], hW', trodAll_mk1 (shut_bool Try.underlying4 _), (trodAll_cons_mk (Below.trod letterWhole_laid (by kernel_rfl) (of_decide_eq_true (by kernel_rfl)) k0 bel lt0) (trodAll_cons_mk (Below.trod letterWhole_laid (by kernel_rfl) (of_decide_eq_true (by kernel_rfl)) k1 bel lt1) (trodAll_cons_mk (shut_int Try.underlying57 y2) (trodAll_cons_mk (shut_int Try.underlying5 y3) trodAll_mk0)))), rfl, bel.frame _, fun h => by cases h⟩
  | _ => exact absurd he (by simp [Ret])
/-- The law LetterWhole is true at every input. -/
theorem letterWhole_holds : Rows.LetterWholeSaid :=
  OpenClaim.holds_of_wide 6 Try.f6 rfl rfl rfl rfl rfl rfl rfl ⟨rfl, rfl, rfl, rfl, rfl⟩ rfl rfl rfl rfl rfl (by kernel_rfl) Try.func6 (by kernel_rfl)
    (of_decide_eq_true (by kernel_rfl)) (by unfold Func.isWrapper; first | (rw [if_pos (by decide +kernel)]; kernel_rfl) | (rw [if_neg (by decide +kernel)]; exact ⟨rfl, rfl⟩))
    (fun os started H enc _ => letterWhole_lifted os started H enc)
end Go.Proofs.Ytlocfgonplkcoaa
