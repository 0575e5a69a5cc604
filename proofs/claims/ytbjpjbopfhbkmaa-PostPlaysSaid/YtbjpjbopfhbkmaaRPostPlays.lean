/- The law PostPlays is true at every input: the row, out of the walk and the pure law. -/
import Derived.Test.YtbjpjbopfhbkmaaRows
import Derived.Test.YtbjpjbopfhbkmaaP2
set_option linter.unusedVariables false
set_option linter.unusedSimpArgs false
namespace Go.Proofs.Ytbjpjbopfhbkmaa
open Go.Cb Go.ChangeShapes Go.WideShapes Go.ChangeAt Go.RowKit
open Go.ChangeMaps (open_string shut_string)
theorem pure_PostPlays (a0 : (List S_cantonlaw19_Op)) (h0 : InL (fun x => (InI .i64 ((x).What)) ∧ (((InI .i64 (((x).M).From)) ∧ ((InI .i64 (((x).M).To)) ∧ (InS (((x).M).Data)))) ∧ (InI .i64 ((x).At)))) (a0)) : m_cantonlaw19_PostPlays a0 = some true := pure_plays a0 h0.1
theorem postPlays_own : ownKnob Try.prog.godebug = none := by kernel_rfl
theorem postPlays_laid : laidOutB Try.prog = true := by kernel_rfl
set_option maxRecDepth 100000 in
theorem postPlays_lifted (os : Os) (started : os.Started) (H : Type) (enc : TypeId × Value → H) :
    ReturnsInHanded {} Try.checked os 3 .any (Rows.postPlaysSpec.pre6 enc Try.prog Try.f3 Rows.postPlaysRow.domain false) (Rows.postPlaysSpec.post enc Try.prog Try.f3 false true false false) := by
  refine returnsInHanded_of_change_sized (C := Try.checked) postPlays_own started (by kernel_rfl) Try.func3
    (ChangeSpec.witness6 (enc := enc) (C := Try.checked) false ⟨#[], #[.slice none 0 0], []⟩ 8 (by kernel_rfl) (by kernel_rfl) (by kernel_rfl) (by kernel_rfl)) ?_
  intro W base args ds gs before hval0 hW hcnd hsz0 _
  have hsz : (DataW.weightsEach Try.prog (Try.f3.params.toList ++ Rows.postPlaysSpec.plain.varTypes Try.prog) (ds ++ gs)).all (· ≤ reachBytes) = true := hsz0
  have hval : ∀ (j : Nat) t v, Try.f3.params[j]? = some t → args[j]? = some v → Value.okWide Try.prog W .any base t v := hval0
  have hW' := hW
  obtain ⟨p, q, hA0, hV, rfl, hfz, hnd⟩ := hW
  have hA : DataW.TrodAll enc Try.prog W 0 (fun _ => true) true Try.f3.params.toList args.toList ds p := hA0
  rw [Try.params3] at hA hval hsz
  obtain ⟨v0, vs0, d0, ds0, p0, q0, hargs, rfl, rfl, h0, r0⟩ := trodAll_cons hA
  obtain ⟨rfl, rfl, rfl⟩ := trodAll_nil r0
  obtain rfl : args = #[v0] := by cases args; simp_all
  obtain ⟨rfl, rfl⟩ := trodVars_none hV
  obtain ⟨a0, len0, cap0, rfl⟩ := okWide_slice Try.underlying22 (hval 0 22 v0 rfl rfl)
  have k0 := h0
  have lt0 : ∀ x ∈ p0, x.block < W.heap.size := by obtain ⟨m, hm⟩ := k0; exact DataW.trod_lt m _ _ _ hm
  obtain ⟨fuel0, hf0⟩ := h0
  obtain ⟨x0, ⟨u0, e0, sl0⟩, w0⟩ := (op_slice Try.underlying22 (by kernel_rfl) (of_decide_eq_true (by kernel_rfl)) (op_map (fun x : S_cantonlaw19_Op => (x.What, (x.M, x.At))) (fun y => ⟨y.1, y.2.1, y.2.2⟩) (fun _ => rfl) (op_struct Try.underlying34 (by kernel_rfl) (opF_cons (by kernel_rfl) (by kernel_rfl) (op_int Try.underlying3) (opF_cons (by kernel_rfl) (by kernel_rfl) (op_map (fun x : S_api_Mail => (x.From, (x.To, x.Data))) (fun y => ⟨y.1, y.2.1, y.2.2⟩) (fun _ => rfl) (op_struct Try.underlying32 (by kernel_rfl) (opF_cons (by kernel_rfl) (by kernel_rfl) (op_int Try.underlying3) (opF_cons (by kernel_rfl) (by kernel_rfl) (op_int Try.underlying3) (opF_one (by kernel_rfl) (by kernel_rfl) (op_string Try.underlying9)))))) (opF_one (by kernel_rfl) (by kernel_rfl) (op_int Try.underlying3))))))) hf0 (wt_each (j := 0) (t := 22) hsz rfl rfl)
  obtain rfl : u0 = .slice a0 len0 cap0 := by cases e0; rfl
  clear hA0 hval0 hsz0 hsz
  have ST := sep_start W [rSl k_cantonlaw19_Op (.slice a0 len0 cap0) x0] (by intro r hr; simp only [List.mem_cons, List.not_mem_nil, or_false] at hr; rcases hr with rfl; all_goals first | exact sl0)
  refine (c_cantonlaw19_PostPlays _ x0 ST (by simp) (pure_PostPlays x0 w0)).mono fun e W' he => ?_
  cases e with
  | returned v =>
    obtain ⟨rfl, hs⟩ := he
    have bel := sep_below hs
    exact ⟨_, rfl, _, _, _, [], _, [], hW', trodAll_mk1 (shut_bool Try.underlying4 _), (trodAll_cons_mk (Below.trod postPlays_laid (by kernel_rfl) (of_decide_eq_true (by kernel_rfl)) k0 bel lt0) trodAll_mk0), rfl, bel.frame _, fun h => by cases h⟩
  | _ => exact absurd he (by simp [Ret])
/-- The law PostPlays is true at every input. -/
theorem postPlays_holds : Rows.PostPlaysSaid :=
  OpenClaim.holds_of_wide 3 Try.f3 rfl rfl rfl rfl rfl rfl rfl ⟨rfl, rfl, rfl, rfl, rfl⟩ rfl rfl rfl rfl rfl (by kernel_rfl) Try.func3 (by kernel_rfl)
    (of_decide_eq_true (by kernel_rfl)) (by unfold Func.isWrapper; first | (rw [if_pos (by decide +kernel)]; kernel_rfl) | (rw [if_neg (by decide +kernel)]; exact ⟨rfl, rfl⟩))
    (fun os started H enc _ => postPlays_lifted os started H enc)
end Go.Proofs.Ytbjpjbopfhbkmaa
