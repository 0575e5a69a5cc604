/- The law PackStays is true at every input: the row, out of the walk and the pure law. -/
import Derived.Test.YtbjpjbopfhbkmaaRows
import Derived.Test.YtbjpjbopfhbkmaaQ4
set_option linter.unusedVariables false
set_option linter.unusedSimpArgs false
namespace Go.Proofs.Ytbjpjbopfhbkmaa
open Go.Cb Go.ChangeShapes Go.WideShapes Go.ChangeAt Go.RowKit
open Go.ChangeMaps (open_string shut_string)
theorem pure_PackStays (a0 : (List Int)) (a1 : (List S_cantonlaw02_Item)) (h0 : InL (fun x => InI .u8 (x)) (a0)) (h1 : InL (fun x => InI .i64 ((x).What) ∧ (InI .i64 ((x).N) ∧ (InS ((x).S) ∧ (InL (fun x => InS (x)) ((x).L))))) (a1)) : m_cantonlaw02_PackStays a0 a1 = some true := pure_stays a0 a1 h0 h1
theorem packStays_own : ownKnob Try.prog.godebug = none := by kernel_rfl
theorem packStays_laid : laidOutB Try.prog = true := by kernel_rfl
set_option maxRecDepth 100000 in
theorem packStays_lifted (os : Os) (started : os.Started) (H : Type) (enc : TypeId × Value → H) :
    ReturnsInHanded {} Try.checked os 12 .any (Rows.packStaysSpec.pre6 enc Try.prog Try.f12 Rows.packStaysRow.domain false) (Rows.packStaysSpec.post enc Try.prog Try.f12 false true false false) := by
  refine returnsInHanded_of_change_sized (C := Try.checked) packStays_own started (by kernel_rfl) Try.func12
    (ChangeSpec.witness6 (enc := enc) (C := Try.checked) false ⟨#[], #[.slice none 0 0, .slice none 0 0], []⟩ 8 (by kernel_rfl) (by kernel_rfl) (by kernel_rfl) (by kernel_rfl)) ?_
  intro W base args ds gs before hval0 hW hcnd hsz0 _
  have hsz : (DataW.weightsEach Try.prog (Try.f12.params.toList ++ Rows.packStaysSpec.plain.varTypes Try.prog) (ds ++ gs)).all (· ≤ reachBytes) = true := hsz0
  have hval : ∀ (j : Nat) t v, Try.f12.params[j]? = some t → args[j]? = some v → Value.okWide Try.prog W .any base t v := hval0
  have hW' := hW
  obtain ⟨p, q, hA0, hV, rfl, hfz, hnd⟩ := hW
  have hA : DataW.TrodAll enc Try.prog W 0 (fun _ => true) true Try.f12.params.toList args.toList ds p := hA0
  rw [Try.params12] at hA hval hsz
  obtain ⟨v0, vs0, d0, ds0, p0, q0, hargs, rfl, rfl, h0, r0⟩ := trodAll_cons hA
  obtain ⟨v1, vs1, d1, ds1, p1, q1, rfl, rfl, rfl, h1, r1⟩ := trodAll_cons r0
  obtain ⟨rfl, rfl, rfl⟩ := trodAll_nil r1
  obtain rfl : args = #[v0, v1] := by cases args; simp_all
  obtain ⟨rfl, rfl⟩ := trodVars_none hV
  obtain ⟨a0, len0, cap0, rfl⟩ := okWide_slice Try.underlying46 (hval 0 46 v0 rfl rfl)
  have k0 := h0
  have lt0 : ∀ x ∈ p0, x.block < W.heap.size := by obtain ⟨m, hm⟩ := k0; exact DataW.trod_lt m _ _ _ hm
  obtain ⟨fuel0, hf0⟩ := h0
  obtain ⟨x0, ⟨u0, e0, sl0⟩, w0⟩ := (op_slice Try.underlying46 (by kernel_rfl) (of_decide_eq_true (by kernel_rfl)) (op_int Try.underlying5)) hf0 (wt_each (j := 0) (t := 46) hsz rfl rfl)
  obtain rfl : u0 = .slice a0 len0 cap0 := by cases e0; rfl
  obtain ⟨a1, len1, cap1, rfl⟩ := okWide_slice Try.underlying63 (hval 1 63 v1 rfl rfl)
  have k1 := h1
  have lt1 : ∀ x ∈ p1, x.block < W.heap.size := by obtain ⟨m, hm⟩ := k1; exact DataW.trod_lt m _ _ _ hm
  obtain ⟨fuel1, hf1⟩ := h1
  obtain ⟨x1, ⟨u1, e1, sl1⟩, w1⟩ := (op_slice Try.underlying63 (by kernel_rfl) (of_decide_eq_true (by kernel_rfl)) (op_map (fun x : S_cantonlaw02_Item => (x.What, (x.N, (x.S, x.L)))) (fun y => ⟨y.1, y.2.1, y.2.2.1, y.2.2.2⟩) (fun _ => rfl) (op_struct Try.underlying70 (by kernel_rfl) (opF_cons (by kernel_rfl) (by kernel_rfl) (op_int Try.underlying3) (opF_cons (by kernel_rfl) (by kernel_rfl) (op_int Try.underlying2) (opF_cons (by kernel_rfl) (by kernel_rfl) (op_string Try.underlying9) (opF_one (by kernel_rfl) (by kernel_rfl) (op_slice Try.underlying68 (by kernel_rfl) (of_decide_eq_true (by kernel_rfl)) (op_string Try.underlying9))))))))) hf1 (wt_each (j := 1) (t := 63) hsz rfl rfl)
  obtain rfl : u1 = .slice a1 len1 cap1 := by cases e1; rfl
  clear hA0 hval0 hsz0 hsz
  have ST := sep_start W [rSl (kI .u8) (.slice a0 len0 cap0) x0, rSl k_cantonlaw02_Item (.slice a1 len1 cap1) x1] (by intro r hr; simp only [List.mem_cons, List.not_mem_nil, or_false] at hr; rcases hr with rfl | rfl; all_goals first | exact sl0 | exact sl1)
  refine (c_cantonlaw02_PackStays _ x0 _ x1 ST (by simp) (by simp) (pure_PackStays x0 x1 w0 w1)).mono fun e W' he => ?_
  cases e with
  | returned v =>
    obtain ⟨rfl, hs⟩ := he
    have bel := sep_below hs
    exact ⟨_, rfl, _, _, _, [], _, [], hW', trodAll_mk1 (shut_bool Try.underlying4 _), (trodAll_cons_mk (Below.trod packStays_laid (by kernel_rfl) (of_decide_eq_true (by kernel_rfl)) k0 bel lt0) (trodAll_cons_mk (Below.trod packStays_laid (by kernel_rfl) (of_decide_eq_true (by kernel_rfl)) k1 bel lt1) trodAll_mk0)), rfl, bel.frame _, fun h => by cases h⟩
  | _ => exact absurd he (by simp [Ret])
/-- The law PackStays is true at every input. -/
theorem packStays_holds : Rows.PackStaysSaid :=
  OpenClaim.holds_of_wide 12 Try.f12 rfl rfl rfl rfl rfl rfl rfl ⟨rfl, rfl, rfl, rfl, rfl⟩ rfl rfl rfl rfl rfl (by kernel_rfl) Try.func12 (by kernel_rfl)
    (of_decide_eq_true (by kernel_rfl)) (by unfold Func.isWrapper; first | (rw [if_pos (by decide +kernel)]; kernel_rfl) | (rw [if_neg (by decide +kernel)]; exact ⟨rfl, rfl⟩))
    (fun os started H enc _ => packStays_lifted os started H enc)
end Go.Proofs.Ytbjpjbopfhbkmaa
