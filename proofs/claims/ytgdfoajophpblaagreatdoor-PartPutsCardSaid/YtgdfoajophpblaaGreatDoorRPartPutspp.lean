/- The law PartPuts is true at every input: the row, out of the walk and the pure law. -/
import Derived.Test.YtgdfoajophpblaaGreatDoorCards
import Derived.SevenTiedAt
import Derived.Test.YtgdfoajophpblaaGreatDoorTie
import Derived.Test.YtgdfoajophpblaaGreatDoorQLpp
import Derived.Test.YtgdfoajophpblaaGreatDoorVApp
set_option linter.unusedVariables false
set_option linter.unusedSimpArgs false
namespace Go.Proofs.YtgdfoajophpblaaGreatDoor
open Go.Cb Go.ChangeShapes Go.WideShapes Go.ChangeAt Go.RowKit
open Go.ChangeMaps (open_string shut_string)
theorem pure_PartPuts (a0 : S_api_Store) (a1 : S_api_Part) (h0 : (InL (fun x => (InS ((x).Path)) ∧ ((InS ((x).Data)) ∧ ((InI .i64 ((x).Version)) ∧ ((InI .i64 ((x).Turn)) ∧ (InI .i64 ((x).Owner)))))) ((a0).Nodes)) ∧ (InL (fun x => (InS ((x).Dir)) ∧ (InI .i64 ((x).Next))) ((a0).Turns))) (h1 : (InI .i64 ((a1).Kind)) ∧ ((InS ((a1).Dir)) ∧ ((InS ((a1).Path)) ∧ ((InS ((a1).Data)) ∧ ((InI .i64 ((a1).Version)) ∧ ((InI .i64 ((a1).Owner)) ∧ (True))))))) : m_cantonlaw07_PartPuts a0 a1 = some true := pure_pputs a0 a1 h0.1.1
theorem partPuts_own : ownKnob Tryz.prog.godebug = none := by kernel_rfl
theorem partPuts_laid : laidOutB Tryz.prog = true := by kernel_rfl
set_option maxRecDepth 100000 in
theorem partPuts_lifted (os : Os) (started : os.Started) (H : Type) (enc : TypeId × Value → H) :
    ReturnsInHanded {} Tryz.checked os 12 .any (fun w args => (Rows.partPutsSpec.pre enc Tryz.prog Tryz.f12 Rows.partPutsRow.domain false w args ∧ laidMet Tryz.prog laidL w) ∧ sizedMet enc Tryz.prog Tryz.f12 (OpenSpec.ofChange Rows.partPutsSpec) false w args) (Rows.partPutsSpec.post enc Tryz.prog Tryz.f12 false true false false) := by
  refine returnsInHanded_of_change_and (C := Tryz.checked) (X := fun w _ => laidMet Tryz.prog laidL w) (fun _ _ _ hh h => h.of_heap hh) partPuts_own started (by kernel_rfl) Tryz.func12
    (ChangeSpec.witness_at (enc := enc) (C := Tryz.checked) (os := os) (X := fun w _ => laidMet Tryz.prog laidL w) false (laidWorld os) #[.agg #[.slice none 0 0, .slice none 0 0], .agg #[.int .i64 0, .string ByteArray.empty, .string ByteArray.empty, .string ByteArray.empty, .int .i64 0, .int .i64 0, .bool false]] 8 rfl (by kernel_rfl) (by kernel_rfl) (by kernel_rfl) (by kernel_rfl) (by kernel_rfl) (laidWorld_met os _)) ?_
  intro W base args ds gs before hval0 hW hcnd hsz0 hL _
  have hsz : (DataW.weightsEach Tryz.prog (Tryz.f12.params.toList ++ Rows.partPutsSpec.plain.varTypes Tryz.prog) (ds ++ gs)).all (· ≤ reachBytes) = true := hsz0
  have hval : ∀ (j : Nat) t v, Tryz.f12.params[j]? = some t → args[j]? = some v → Value.okWide Tryz.prog W .any base t v := hval0
  have hW' := hW
  obtain ⟨p, q, hA0, hV, rfl, hfz, hnd⟩ := hW
  have hA : DataW.TrodAll enc Tryz.prog W 0 (fun _ => true) true Tryz.f12.params.toList args.toList ds p := hA0
  rw [Tryz.params12] at hA hval hsz
  obtain ⟨v0, vs0, d0, ds0, p0, q0, hargs, rfl, rfl, h0, r0⟩ := trodAll_cons hA
  obtain ⟨v1, vs1, d1, ds1, p1, q1, rfl, rfl, rfl, h1, r1⟩ := trodAll_cons r0
  obtain ⟨rfl, rfl, rfl⟩ := trodAll_nil r1
  obtain rfl : args = #[v0, v1] := by cases args; simp_all
  obtain ⟨rfl, rfl⟩ := trodVars_none hV
  obtain ⟨ca0, rfl, hcs0⟩ := okWide_struct Tryz.underlying41 (hval 0 41 v0 rfl rfl)
  have k0 := h0
  have lt0 : ∀ x ∈ p0, x.block < W.heap.size := by obtain ⟨m, hm⟩ := k0; exact DataW.trod_lt m _ _ _ hm
  obtain ⟨fuel0, hf0⟩ := h0
  obtain ⟨x0, hR0, w0⟩ := (op_map (fun x : S_api_Store => (x.Nodes, x.Turns)) (fun y => ⟨y.1, y.2⟩) (fun _ => rfl) (op_struct Tryz.underlying41 (by kernel_rfl) (opF_cons (by kernel_rfl) (by kernel_rfl) (op_slice Tryz.underlying22 (by kernel_rfl) (of_decide_eq_true (by kernel_rfl)) (op_map (fun x : S_api_Node => (x.Path, (x.Data, (x.Version, (x.Turn, x.Owner))))) (fun y => ⟨y.1, y.2.1, y.2.2.1, y.2.2.2.1, y.2.2.2.2⟩) (fun _ => rfl) (op_struct Tryz.underlying80 (by kernel_rfl) (opF_cons (by kernel_rfl) (by kernel_rfl) (op_string Tryz.underlying9) (opF_cons (by kernel_rfl) (by kernel_rfl) (op_string Tryz.underlying9) (opF_cons (by kernel_rfl) (by kernel_rfl) (op_int Tryz.underlying2) (opF_cons (by kernel_rfl) (by kernel_rfl) (op_int Tryz.underlying2) (opF_one (by kernel_rfl) (by kernel_rfl) (op_int Tryz.underlying2))))))))) (opF_one (by kernel_rfl) (by kernel_rfl) (op_slice Tryz.underlying39 (by kernel_rfl) (of_decide_eq_true (by kernel_rfl)) (op_map (fun x : S_api_Turn => (x.Dir, x.Next)) (fun y => ⟨y.1, y.2⟩) (fun _ => rfl) (op_struct Tryz.underlying83 (by kernel_rfl) (opF_cons (by kernel_rfl) (by kernel_rfl) (op_string Tryz.underlying9) (opF_one (by kernel_rfl) (by kernel_rfl) (op_int Tryz.underlying2)))))))))) hf0 (wt_each (j := 0) (t := 41) hsz rfl rfl)
  obtain ⟨sv0_1, sv0_2, he0, sl0_1, sl0_2⟩ := k_api_Store_open hR0
  obtain rfl : ca0 = #[sv0_1, sv0_2] := by have h0 : ca0.toList = [sv0_1, sv0_2] := he0; rw [← Array.toArray_toList (xs := ca0), h0]
  obtain ⟨ca1, rfl, hcs1⟩ := okWide_struct Tryz.underlying62 (hval 1 62 v1 rfl rfl)
  have k1 := h1
  have lt1 : ∀ x ∈ p1, x.block < W.heap.size := by obtain ⟨m, hm⟩ := k1; exact DataW.trod_lt m _ _ _ hm
  obtain ⟨fuel1, hf1⟩ := h1
  obtain ⟨x1, hR1, w1⟩ := (op_map (fun x : S_api_Part => (x.Kind, (x.Dir, (x.Path, (x.Data, (x.Version, (x.Owner, x.Turns))))))) (fun y => ⟨y.1, y.2.1, y.2.2.1, y.2.2.2.1, y.2.2.2.2.1, y.2.2.2.2.2.1, y.2.2.2.2.2.2⟩) (fun _ => rfl) (op_struct Tryz.underlying62 (by kernel_rfl) (opF_cons (by kernel_rfl) (by kernel_rfl) (op_int Tryz.underlying3) (opF_cons (by kernel_rfl) (by kernel_rfl) (op_string Tryz.underlying9) (opF_cons (by kernel_rfl) (by kernel_rfl) (op_string Tryz.underlying9) (opF_cons (by kernel_rfl) (by kernel_rfl) (op_string Tryz.underlying9) (opF_cons (by kernel_rfl) (by kernel_rfl) (op_int Tryz.underlying2) (opF_cons (by kernel_rfl) (by kernel_rfl) (op_int Tryz.underlying2) (opF_one (by kernel_rfl) (by kernel_rfl) (op_bool Tryz.underlying4)))))))))) hf1 (wt_each (j := 1) (t := 62) hsz rfl rfl)
  have he1 := k_api_Part_open hR1
  obtain rfl : ca1 = #[.int .i64 x1.Kind, .string x1.Dir, .string x1.Path, .string x1.Data, .int .i64 x1.Version, .int .i64 x1.Owner, .bool x1.Turns] := by have h0 : ca1.toList = [.int .i64 x1.Kind, .string x1.Dir, .string x1.Path, .string x1.Data, .int .i64 x1.Version, .int .i64 x1.Owner, .bool x1.Turns] := he1; rw [← Array.toArray_toList (xs := ca1), h0]
  clear hA0 hval0 hsz0 hsz
  have ST := sep_start W [rSl k_api_Node sv0_1 x0.Nodes, rSl k_api_Turn sv0_2 x0.Turns, rTab Tryz.prog] (by intro r hr; simp only [List.mem_cons, List.not_mem_nil, or_false] at hr; rcases hr with rfl | rfl | rfl; all_goals first | exact sl0_1 | exact sl0_2 | exact tab_met hL)
  refine (c_cantonlaw07_PartPuts x0 sv0_1 sv0_2 x1 ST (by simp) (by simp) (by simp) (pure_PartPuts x0 x1 w0 w1)).mono fun e W' he => ?_
  cases e with
  | returned v =>
    obtain ⟨rfl, hs⟩ := he
    have bel := sep_below hs
    exact ⟨_, rfl, _, _, _, [], _, [], hW', trodAll_mk1 (shut_bool Tryz.underlying4 _), (trodAll_cons_mk (Below.trod partPuts_laid (by kernel_rfl) (of_decide_eq_true (by kernel_rfl)) k0 bel lt0) (trodAll_cons_mk (Below.trod partPuts_laid (by kernel_rfl) (of_decide_eq_true (by kernel_rfl)) k1 bel lt1) trodAll_mk0)), rfl, bel.frame _, fun h => by cases h⟩
  | _ => exact absurd he (by simp [Ret])
/-- The law PartPuts is true at every input. -/
theorem partPuts_holds : Rows.PartPutsSaid :=
  OpenClaim.holds_of_wide 12 Tryz.f12 rfl rfl rfl rfl rfl rfl rfl ⟨rfl, rfl, rfl, rfl, rfl⟩ rfl rfl rfl rfl rfl (by kernel_rfl) Tryz.func12 (by kernel_rfl)
    (of_decide_eq_true (by kernel_rfl)) (by unfold Func.isWrapper; first | (rw [if_pos (by decide +kernel)]; kernel_rfl) | (rw [if_neg (by decide +kernel)]; exact ⟨rfl, rfl⟩))
    (fun os started H enc _ => partPuts_lifted os started H enc)
/-- THE TIED CARD of the law PartPuts holds. -/
theorem partPuts_card_holds : Rows.PartPutsCardSaid :=
  Claim7.holds_tied_plain_at .later [] [.data, .data, .data] true (true, "f3919e2ea0a777e168f7d4a744d6cfd609973f42c9815fab069d0cbf9dd6140f") false
    partPuts_holds (fun _ h => by cases h) (by kernel_rfl) (fun _ h => by cases h) partPuts_row_tie rfl ⟨rfl, rfl⟩ (by kernel_rfl) rfl
    (fun f fn hf hfn => by
      obtain rfl : f = 12 := Option.some.inj ((show Tryz.prog.funcNamed "canton/cantonlaw07.PartPuts" = some 12 by kernel_rfl).symm.trans hf) |>.symm
      obtain rfl : fn = Tryz.f12 := (Option.some.inj (Tryz.func12.symm.trans hfn)).symm
      exact ⟨by kernel_rfl, fun j t ht => by
        rw [Tryz.params12] at ht
        have h3 : t = 41 ∨ t = 62 := by
          rcases j with _ | j
          · obtain rfl : t = 41 := by simpa using ht.symm
            simp
          rcases j with _ | j
          · obtain rfl : t = 62 := by simpa using ht.symm
            simp
          simp at ht
        rcases h3 with rfl | rfl
        · exact (show Tryz.prog.wantsStandIn 41 = false by kernel_rfl)
        · exact (show Tryz.prog.wantsStandIn 62 = false by kernel_rfl)⟩)
    (by kernel_rfl)
end Go.Proofs.YtgdfoajophpblaaGreatDoor
