/- The law PostDoubles is true at every input: the row, out of the walk and the pure law. -/
import Derived.Test.YtbjpjbopfhbkmaaRows
import Derived.Test.YtbjpjbopfhbkmaaP1
set_option linter.unusedVariables false
set_option linter.unusedSimpArgs false
namespace Go.Proofs.Ytbjpjbopfhbkmaa
open Go.Cb Go.ChangeShapes Go.WideShapes Go.ChangeAt Go.RowKit
open Go.ChangeMaps (open_string shut_string)
theorem pure_PostDoubles (a0 : (List S_api_Mail)) (a1 : Int) (a2 : Int) (h0 : InL (fun x => (InI .i64 ((x).From)) ∧ ((InI .i64 ((x).To)) ∧ (InS ((x).Data)))) (a0)) (h1 : InI .u8 (a1)) (h2 : InI .u8 (a2)) : m_cantonlaw19_PostDoubles a0 a1 a2 = some true := pure_doubles a0 a1 a2 (u8_of h1) (u8_of h2)
theorem postDoubles_own : ownKnob Try.prog.godebug = none := by kernel_rfl
theorem postDoubles_laid : laidOutB Try.prog = true := by kernel_rfl
set_option maxRecDepth 100000 in
theorem postDoubles_lifted (os : Os) (started : os.Started) (H : Type) (enc : TypeId × Value → H) :
    ReturnsInHanded {} Try.checked os 6 .any (Rows.postDoublesSpec.pre6 enc Try.prog Try.f6 Rows.postDoublesRow.domain false) (Rows.postDoublesSpec.post enc Try.prog Try.f6 false true false false) := by
  refine returnsInHanded_of_change_sized (C := Try.checked) postDoubles_own started (by kernel_rfl) Try.func6
    (ChangeSpec.witness6 (enc := enc) (C := Try.checked) false ⟨#[], #[.slice none 0 0, .int .u8 0, .int .u8 0], []⟩ 8 (by kernel_rfl) (by kernel_rfl) (by kernel_rfl) (by kernel_rfl)) ?_
  intro W base args ds gs before hval0 hW hcnd hsz0 _
  have hsz : (DataW.weightsEach Try.prog (Try.f6.params.toList ++ Rows.postDoublesSpec.plain.varTypes Try.prog) (ds ++ gs)).all (· ≤ reachBytes) = true := hsz0
  have hval : ∀ (j : Nat) t v, Try.f6.params[j]? = some t → args[j]? = some v → Value.okWide Try.prog W .any base t v := hval0
  have hW' := hW
  obtain ⟨p, q, hA0, hV, rfl, hfz, hnd⟩ := hW
  have hA : DataW.TrodAll enc Try.prog W 0 (fun _ => true) true Try.f6.params.toList args.toList ds p := hA0
  rw [Try.params6] at hA hval hsz
  obtain ⟨v0, vs0, d0, ds0, p0, q0, hargs, rfl, rfl, h0, r0⟩ := trodAll_cons hA
  obtain ⟨v1, vs1, d1, ds1, p1, q1, rfl, rfl, rfl, h1, r1⟩ := trodAll_cons r0
  obtain ⟨v2, vs2, d2, ds2, p2, q2, rfl, rfl, rfl, h2, r2⟩ := trodAll_cons r1
  obtain ⟨rfl, rfl, rfl⟩ := trodAll_nil r2
  obtain rfl : args = #[v0, v1, v2] := by cases args; simp_all
  obtain ⟨rfl, rfl⟩ := trodVars_none hV
  obtain ⟨a0, len0, cap0, rfl⟩ := okWide_slice Try.underlying27 (hval 0 27 v0 rfl rfl)
  have k0 := h0
  have lt0 : ∀ x ∈ p0, x.block < W.heap.size := by obtain ⟨m, hm⟩ := k0; exact DataW.trod_lt m _ _ _ hm
  obtain ⟨fuel0, hf0⟩ := h0
  obtain ⟨x0, ⟨u0, e0, sl0⟩, w0⟩ := (op_slice Try.underlying27 (by kernel_rfl) (of_decide_eq_true (by kernel_rfl)) (op_map (fun x : S_api_Mail => (x.From, (x.To, x.Data))) (fun y => ⟨y.1, y.2.1, y.2.2⟩) (fun _ => rfl) (op_struct Try.underlying32 (by kernel_rfl) (opF_cons (by kernel_rfl) (by kernel_rfl) (op_int Try.underlying3) (opF_cons (by kernel_rfl) (by kernel_rfl) (op_int Try.underlying3) (opF_one (by kernel_rfl) (by kernel_rfl) (op_string Try.underlying9))))))) hf0 (wt_each (j := 0) (t := 27) hsz rfl rfl)
  obtain rfl : u0 = .slice a0 len0 cap0 := by cases e0; rfl
  obtain ⟨x1, rfl, rfl, rfl, y1⟩ := open_int Try.underlying5 (hval 1 5 v1 rfl rfl) h1
  have w1 : InI .u8 x1 := by
    have z := y1
    simp only [Lit.wf, Bool.and_eq_true, decide_eq_true_eq] at z
    exact z
  obtain ⟨x2, rfl, rfl, rfl, y2⟩ := open_int Try.underlying5 (hval 2 5 v2 rfl rfl) h2
  have w2 : InI .u8 x2 := by
    have z := y2
    simp only [Lit.wf, Bool.and_eq_true, decide_eq_true_eq] at z
    exact z
  clear hA0 hval0 hsz0 hsz
  have ST := sep_start W [rSl k_api_Mail (.slice a0 len0 cap0) x0] (by intro r hr; simp only [List.mem_cons, List.not_mem_nil, or_false] at hr; rcases hr with rfl; all_goals first | exact sl0)
  refine (c_cantonlaw19_PostDoubles _ x0 x1 x2 ST (by simp) (pure_PostDoubles x0 x1 x2 w0 w1 w2)).mono fun e W' he => ?_
  cases e with
  | returned v =>
    obtain ⟨rfl, hs⟩ := he
    have bel := sep_below hs
    exact ⟨_, rfl, _, _, _, [], _, [], hW', trodAll_mk1 (shut_bool Try.underlying4 _), (trodAll_cons_mk (Below.trod postDoubles_laid (by kernel_rfl) (of_decide_eq_true (by kernel_rfl)) k0 bel lt0) (trodAll_cons_mk (shut_int Try.underlying5 y1) (trodAll_cons_mk (shut_int Try.underlying5 y2) trodAll_mk0))), rfl, bel.frame _, fun h => by cases h⟩
  | _ => exact absurd he (by simp [Ret])
/-- The law PostDoubles is true at every input. -/
theorem postDoubles_holds : Rows.PostDoublesSaid :=
  OpenClaim.holds_of_wide 6 Try.f6 rfl rfl rfl rfl rfl rfl rfl ⟨rfl, rfl, rfl, rfl, rfl⟩ rfl rfl rfl rfl rfl (by kernel_rfl) Try.func6 (by kernel_rfl)
    (of_decide_eq_true (by kernel_rfl)) (by unfold Func.isWrapper; first | (rw [if_pos (by decide +kernel)]; kernel_rfl) | (rw [if_neg (by decide +kernel)]; exact ⟨rfl, rfl⟩))
    (fun os started H enc _ => postDoubles_lifted os started H enc)
end Go.Proofs.Ytbjpjbopfhbkmaa
