/- The law LetterBack is true at every input: the row, out of the walk and the pure law. -/
import Derived.Test.YtlocfgonplkcoaaRows
import Derived.Test.YtlocfgonplkcoaaL5a
set_option linter.unusedVariables false
set_option linter.unusedSimpArgs false
namespace Go.Proofs.Ytlocfgonplkcoaa
open Go.Cb Go.ChangeShapes Go.WideShapes Go.ChangeAt Go.RowKit
open Go.ChangeMaps (open_string shut_string)
theorem pure_LetterBack (a0 : S_api_Letter) (a1 : S_api_Saved) (a2 : (List Int)) (h0 : InI .i64 ((a0).Kind) ∧ (InI .i64 ((a0).View) ∧ (InI .i64 ((a0).Normal) ∧ (InI .i64 ((a0).Len) ∧ (InI .i64 ((a0).Stays) ∧ (InL (fun x => InS (x)) ((a0).Log) ∧ (InI .i64 ((a0).Num) ∧ (InS ((a0).Text))))))))) (h1 : InI .i64 ((a1).View) ∧ (InI .i64 ((a1).Normal) ∧ (InL (fun x => InS (x)) ((a1).Log)))) (h2 : InL (fun x => InI .u8 (x)) (a2)) : m_cantonlaw17_LetterBack a0 a1 a2 = some true := pure_letterback a0 a1 a2 h0.2.2.2.2.2.1.1 h1.2.2.1 (Bs.of h2)
theorem letterBack_own : ownKnob Try.prog.godebug = none := by kernel_rfl
theorem letterBack_laid : laidOutB Try.prog = true := by kernel_rfl
set_option maxRecDepth 100000 in
theorem letterBack_lifted (os : Os) (started : os.Started) (H : Type) (enc : TypeId × Value → H) :
    ReturnsInHanded {} Try.checked os 5 .any (Rows.letterBackSpec.pre6 enc Try.prog Try.f5 Rows.letterBackRow.domain false) (Rows.letterBackSpec.post enc Try.prog Try.f5 false true false false) := by
  refine returnsInHanded_of_change_sized (C := Try.checked) letterBack_own started (by kernel_rfl) Try.func5
    (ChangeSpec.witness6 (enc := enc) (C := Try.checked) false ⟨#[], #[.agg #[.int .i64 0, .int .i64 0, .int .i64 0, .int .i64 0, .int .i64 0, .slice none 0 0, .int .i64 0, .string ByteArray.empty], .agg #[.int .i64 0, .int .i64 0, .slice none 0 0], .slice none 0 0], []⟩ 8 (by kernel_rfl) (by kernel_rfl) (by kernel_rfl) (by kernel_rfl)) ?_
  intro W base args ds gs before hval0 hW hcnd hsz0 _
  have hsz : (DataW.weightsEach Try.prog (Try.f5.params.toList ++ Rows.letterBackSpec.plain.varTypes Try.prog) (ds ++ gs)).all (· ≤ reachBytes) = true := hsz0
  have hval : ∀ (j : Nat) t v, Try.f5.params[j]? = some t → args[j]? = some v → Value.okWide Try.prog W .any base t v := hval0
  have hW' := hW
  obtain ⟨p, q, hA0, hV, rfl, hfz, hnd⟩ := hW
  have hA : DataW.TrodAll enc Try.prog W 0 (fun _ => true) true Try.f5.params.toList args.toList ds p := hA0
  rw [Try.params5] at hA hval hsz
  obtain ⟨v0, vs0, d0, ds0, p0, q0, hargs, rfl, rfl, h0, r0⟩ := trodAll_cons hA
  obtain ⟨v1, vs1, d1, ds1, p1, q1, rfl, rfl, rfl, h1, r1⟩ := trodAll_cons r0
  obtain ⟨v2, vs2, d2, ds2, p2, q2, rfl, rfl, rfl, h2, r2⟩ := trodAll_cons r1
  obtain ⟨rfl, rfl, rfl⟩ := trodAll_nil r2
  obtain rfl : args = #[v0, v1, v2] := by cases args; simp_all
  obtain ⟨rfl, rfl⟩ := trodVars_none hV
  obtain ⟨ca0, rfl, hcs0⟩ := okWide_struct Try.underlying24 (hval 0 24 v0 rfl rfl)
  have k0 := h0
  have lt0 : ∀ x ∈ p0, x.block < W.heap.size := by obtain ⟨m, hm⟩ := k0; exact DataW.trod_lt m _ _ _ hm
  obtain ⟨fuel0, hf0⟩ := h0
  obtain ⟨x0, hR0, w0⟩ := (op_map (fun x : S_api_Letter => (x.Kind, (x.View, (x.Normal, (x.Len, (x.Stays, (x.Log, (x.Num, x.Text)))))))) (fun y => ⟨y.1, y.2.1, y.2.2.1, y.2.2.2.1, y.2.2.2.2.1, y.2.2.2.2.2.1, y.2.2.2.2.2.2.1, y.2.2.2.2.2.2.2⟩) (fun _ => rfl) (op_struct Try.underlying24 (by kernel_rfl) (opF_cons (by kernel_rfl) (by kernel_rfl) (op_int Try.underlying3) (opF_cons (by kernel_rfl) (by kernel_rfl) (op_int Try.underlying2) (opF_cons (by kernel_rfl) (by kernel_rfl) (op_int Try.underlying2) (opF_cons (by kernel_rfl) (by kernel_rfl) (op_int Try.underlying3) (opF_cons (by kernel_rfl) (by kernel_rfl) (op_int Try.underlying3) (opF_cons (by kernel_rfl) (by kernel_rfl) (op_slice Try.underlying22 (by kernel_rfl) (of_decide_eq_true (by kernel_rfl)) (op_string Try.underlying9)) (opF_cons (by kernel_rfl) (by kernel_rfl) (op_int Try.underlying2) (opF_one (by kernel_rfl) (by kernel_rfl) (op_string Try.underlying9))))))))))) hf0 (wt_each (j := 0) (t := 24) hsz rfl rfl)
  obtain ⟨sv0_1, he0, sl0_1⟩ := k_api_Letter_open hR0
  obtain rfl : ca0 = #[.int .i64 x0.Kind, .int .i64 x0.View, .int .i64 x0.Normal, .int .i64 x0.Len, .int .i64 x0.Stays, sv0_1, .int .i64 x0.Num, .string x0.Text] := by have h0 : ca0.toList = [.int .i64 x0.Kind, .int .i64 x0.View, .int .i64 x0.Normal, .int .i64 x0.Len, .int .i64 x0.Stays, sv0_1, .int .i64 x0.Num, .string x0.Text] := he0; rw [← Array.toArray_toList (xs := ca0), h0]
  obtain ⟨ca1, rfl, hcs1⟩ := okWide_struct Try.underlying26 (hval 1 26 v1 rfl rfl)
  have k1 := h1
  have lt1 : ∀ x ∈ p1, x.block < W.heap.size := by obtain ⟨m, hm⟩ := k1; exact DataW.trod_lt m _ _ _ hm
  obtain ⟨fuel1, hf1⟩ := h1
  obtain ⟨x1, hR1, w1⟩ := (op_map (fun x : S_api_Saved => (x.View, (x.Normal, x.Log))) (fun y => ⟨y.1, y.2.1, y.2.2⟩) (fun _ => rfl) (op_struct Try.underlying26 (by kernel_rfl) (opF_cons (by kernel_rfl) (by kernel_rfl) (op_int Try.underlying2) (opF_cons (by kernel_rfl) (by kernel_rfl) (op_int Try.underlying2) (opF_one (by kernel_rfl) (by kernel_rfl) (op_slice Try.underlying22 (by kernel_rfl) (of_decide_eq_true (by kernel_rfl)) (op_string Try.underlying9))))))) hf1 (wt_each (j := 1) (t := 26) hsz rfl rfl)
  obtain ⟨sv1_1, he1, sl1_1⟩ := k_api_Saved_open hR1
  obtain rfl : ca1 = #[.int .i64 x1.View, .int .i64 x1.Normal, sv1_1] := by have h0 : ca1.toList = [.int .i64 x1.View, .int .i64 x1.Normal, sv1_1] := he1; rw [← Array.toArray_toList (xs := ca1), h0]
  obtain ⟨a2, len2, cap2, rfl⟩ := okWide_slice Try.underlying27 (hval 2 27 v2 rfl rfl)
  have k2 := h2
  have lt2 : ∀ x ∈ p2, x.block < W.heap.size := by obtain ⟨m, hm⟩ := k2; exact DataW.trod_lt m _ _ _ hm
  obtain ⟨fuel2, hf2⟩ := h2
  obtain ⟨x2, ⟨u2, e2, sl2⟩, w2⟩ := (op_slice Try.underlying27 (by kernel_rfl) (of_decide_eq_true (by kernel_rfl)) (op_int Try.underlying5)) hf2 (wt_each (j := 2) (t := 27) hsz rfl rfl)
  obtain rfl : u2 = .slice a2 len2 cap2 := by cases e2; rfl
  clear hA0 hval0 hsz0 hsz
  have ST := sep_start W [rSl kS sv0_1 x0.Log, rSl kS sv1_1 x1.Log, rSl (kI .u8) (.slice a2 len2 cap2) x2] (by intro r hr; simp only [List.mem_cons, List.not_mem_nil, or_false] at hr; rcases hr with rfl | rfl | rfl; all_goals first | exact sl0_1 | exact sl1_1 | exact sl2)
  refine (c_cantonlaw17_LetterBack x0 sv0_1 x1 sv1_1 _ x2 ST (by simp) (by simp) (by simp) (pure_LetterBack x0 x1 x2 w0 w1 w2)).mono fun e W' he => ?_
  cases e with
  | returned v =>
    obtain ⟨rfl, hs⟩ := he
    have bel := sep_below hs
    exact ⟨_, rfl, _, _, _, [], _, [], hW', trodAll_mk1 (shut_bool Try.underlying4 _), (trodAll_cons_mk (Below.trod letterBack_laid (by kernel_rfl) (of_decide_eq_true (by kernel_rfl)) k0 bel lt0) (trodAll_cons_mk (Below.trod letterBack_laid (by kernel_rfl) (of_decide_eq_true (by kernel_rfl)) k1 bel lt1) (trodAll_cons_mk (Below.trod letterBack_laid (by kernel_rfl) (of_decide_eq_true (by kernel_rfl)) k2 bel lt2) trodAll_mk0))), rfl, bel.frame _, fun h => by cases h⟩
  | _ => exact absurd he (by simp [Ret])
/-- The law LetterBack is true at every input. -/
theorem letterBack_holds : Rows.LetterBackSaid :=
  OpenClaim.holds_of_wide 5 Try.f5 rfl rfl rfl rfl rfl rfl rfl ⟨rfl, rfl, rfl, rfl, rfl⟩ rfl rfl rfl rfl rfl (by kernel_rfl) Try.func5 (by kernel_rfl)
    (of_decide_eq_true (by kernel_rfl)) (by unfold Func.isWrapper; first | (rw [if_pos (by decide +kernel)]; kernel_rfl) | (rw [if_neg (by decide +kernel)]; exact ⟨rfl, rfl⟩))
    (fun os started H enc _ => letterBack_lifted os started H enc)
end Go.Proofs.Ytlocfgonplkcoaa
