/- The law PartDirs is true at every input: the row, out of the walk and the pure law. -/
import Derived.Test.YtgdfoajophpblaaGreatDoorCards
import Derived.SevenTiedAt
import Derived.Test.YtgdfoajophpblaaGreatDoorTie
import Derived.Test.YtgdfoajophpblaaGreatDoorQLpd
import Derived.Test.YtgdfoajophpblaaGreatDoorVBpd
set_option linter.unusedVariables false
set_option linter.unusedSimpArgs false
namespace Go.Proofs.YtgdfoajophpblaaGreatDoor
open Go.Cb Go.ChangeShapes Go.WideShapes Go.ChangeAt Go.RowKit
open Go.ChangeMaps (open_string shut_string)
theorem pure_PartDirs (a0 : S_api_Op) (a1 : ByteArray) (h0 : (InI .i64 ((a0).Kind)) ∧ ((InS ((a0).Path)) ∧ ((InS ((a0).Data)) ∧ ((InI .i64 ((a0).Version)) ∧ ((InI .i64 ((a0).Owner)) ∧ (True)))))) (h1 : InS (a1)) : m_cantonlaw07_PartDirs a0 a1 = some true := pure_pdirs a0 a1
theorem partDirs_own : ownKnob Tryz.prog.godebug = none := by kernel_rfl
theorem partDirs_laid : laidOutB Tryz.prog = true := by kernel_rfl
set_option maxRecDepth 100000 in
theorem partDirs_lifted (os : Os) (started : os.Started) (H : Type) (enc : TypeId × Value → H) :
    ReturnsInHanded {} Tryz.checked os 13 .any (fun w args => (Rows.partDirsSpec.pre enc Tryz.prog Tryz.f13 Rows.partDirsRow.domain false w args ∧ laidMet Tryz.prog laidL w) ∧ sizedMet enc Tryz.prog Tryz.f13 (OpenSpec.ofChange Rows.partDirsSpec) false w args) (Rows.partDirsSpec.post enc Tryz.prog Tryz.f13 false true false false) := by
  refine returnsInHanded_of_change_and (C := Tryz.checked) (X := fun w _ => laidMet Tryz.prog laidL w) (fun _ _ _ hh h => h.of_heap hh) partDirs_own started (by kernel_rfl) Tryz.func13
    (ChangeSpec.witness_at (enc := enc) (C := Tryz.checked) (os := os) (X := fun w _ => laidMet Tryz.prog laidL w) false (laidWorld os) #[.agg #[.int .i64 0, .string ByteArray.empty, .string ByteArray.empty, .int .i64 0, .int .i64 0, .bool false], .string ByteArray.empty] 8 rfl (by kernel_rfl) (by kernel_rfl) (by kernel_rfl) (by kernel_rfl) (by kernel_rfl) (laidWorld_met os _)) ?_
  intro W base args ds gs before hval0 hW hcnd hsz0 hL _
  have hsz : (DataW.weightsEach Tryz.prog (Tryz.f13.params.toList ++ Rows.partDirsSpec.plain.varTypes Tryz.prog) (ds ++ gs)).all (· ≤ reachBytes) = true := hsz0
  have hval : ∀ (j : Nat) t v, Tryz.f13.params[j]? = some t → args[j]? = some v → Value.okWide Tryz.prog W .any base t v := hval0
  have hW' := hW
  obtain ⟨p, q, hA0, hV, rfl, hfz, hnd⟩ := hW
  have hA : DataW.TrodAll enc Tryz.prog W 0 (fun _ => true) true Tryz.f13.params.toList args.toList ds p := hA0
  rw [Tryz.params13] at hA hval hsz
  obtain ⟨v0, vs0, d0, ds0, p0, q0, hargs, rfl, rfl, h0, r0⟩ := trodAll_cons hA
  obtain ⟨v1, vs1, d1, ds1, p1, q1, rfl, rfl, rfl, h1, r1⟩ := trodAll_cons r0
  obtain ⟨rfl, rfl, rfl⟩ := trodAll_nil r1
  obtain rfl : args = #[v0, v1] := by cases args; simp_all
  obtain ⟨rfl, rfl⟩ := trodVars_none hV
  obtain ⟨ca0, rfl, hcs0⟩ := okWide_struct Tryz.underlying55 (hval 0 55 v0 rfl rfl)
  have k0 := h0
  have lt0 : ∀ x ∈ p0, x.block < W.heap.size := by obtain ⟨m, hm⟩ := k0; exact DataW.trod_lt m _ _ _ hm
  obtain ⟨fuel0, hf0⟩ := h0
  obtain ⟨x0, hR0, w0⟩ := (op_map (fun x : S_api_Op => (x.Kind, (x.Path, (x.Data, (x.Version, (x.Owner, x.Turns)))))) (fun y => ⟨y.1, y.2.1, y.2.2.1, y.2.2.2.1, y.2.2.2.2.1, y.2.2.2.2.2⟩) (fun _ => rfl) (op_struct Tryz.underlying55 (by kernel_rfl) (opF_cons (by kernel_rfl) (by kernel_rfl) (op_int Tryz.underlying3) (opF_cons (by kernel_rfl) (by kernel_rfl) (op_string Tryz.underlying9) (opF_cons (by kernel_rfl) (by kernel_rfl) (op_string Tryz.underlying9) (opF_cons (by kernel_rfl) (by kernel_rfl) (op_int Tryz.underlying2) (opF_cons (by kernel_rfl) (by kernel_rfl) (op_int Tryz.underlying2) (opF_one (by kernel_rfl) (by kernel_rfl) (op_bool Tryz.underlying4))))))))) hf0 (wt_each (j := 0) (t := 55) hsz rfl rfl)
  have he0 := k_api_Op_open hR0
  obtain rfl : ca0 = #[.int .i64 x0.Kind, .string x0.Path, .string x0.Data, .int .i64 x0.Version, .int .i64 x0.Owner, .bool x0.Turns] := by have h0 : ca0.toList = [.int .i64 x0.Kind, .string x0.Path, .string x0.Data, .int .i64 x0.Version, .int .i64 x0.Owner, .bool x0.Turns] := he0; rw [← Array.toArray_toList (xs := ca0), h0]
  obtain ⟨x1, rfl, rfl, rfl, y1⟩ := open_string Tryz.underlying9 (hval 1 9 v1 rfl rfl) h1
  have w1 : InS x1 := by
    have z := sized_string hsz (j := 1) (t := 9) rfl rfl
    rw [Array.length_toList] at z
    exact z
  clear hA0 hval0 hsz0 hsz
  have ST := sep_start W [rTab Tryz.prog] (by intro r hr; simp only [List.mem_cons, List.not_mem_nil, or_false] at hr; rcases hr with rfl; all_goals first | exact tab_met hL)
  refine (c_cantonlaw07_PartDirs x0 x1 ST (by simp) (pure_PartDirs x0 x1 w0 w1)).mono fun e W' he => ?_
  cases e with
  | returned v =>
    obtain ⟨rfl, hs⟩ := he
    have bel := sep_below hs
    exact ⟨_, rfl, _, _, _, [], _, [], hW', trodAll_mk1 (shut_bool Tryz.underlying4 _), (trodAll_cons_mk (Below.trod partDirs_laid (by kernel_rfl) (of_decide_eq_true (by kernel_rfl)) k0 bel lt0) (trodAll_cons_mk (shut_string Tryz.underlying9 y1) trodAll_mk0)), rfl, bel.frame _, fun h => by cases h⟩
  | _ => exact absurd he (by simp [Ret])
/-- The law PartDirs is true at every input. -/
theorem partDirs_holds : Rows.PartDirsSaid :=
  OpenClaim.holds_of_wide 13 Tryz.f13 rfl rfl rfl rfl rfl rfl rfl ⟨rfl, rfl, rfl, rfl, rfl⟩ rfl rfl rfl rfl rfl (by kernel_rfl) Tryz.func13 (by kernel_rfl)
    (of_decide_eq_true (by kernel_rfl)) (by unfold Func.isWrapper; first | (rw [if_pos (by decide +kernel)]; kernel_rfl) | (rw [if_neg (by decide +kernel)]; exact ⟨rfl, rfl⟩))
    (fun os started H enc _ => partDirs_lifted os started H enc)
/-- THE TIED CARD of the law PartDirs holds. -/
theorem partDirs_card_holds : Rows.PartDirsCardSaid :=
  Claim7.holds_tied_plain_at .later [] [.data, .data, .data] true (true, "f3919e2ea0a777e168f7d4a744d6cfd609973f42c9815fab069d0cbf9dd6140f") false
    partDirs_holds (fun _ h => by cases h) (by kernel_rfl) (fun _ h => by cases h) partDirs_row_tie rfl ⟨rfl, rfl⟩ (by kernel_rfl) rfl
    (fun f fn hf hfn => by
      obtain rfl : f = 13 := Option.some.inj ((show Tryz.prog.funcNamed "canton/cantonlaw07.PartDirs" = some 13 by kernel_rfl).symm.trans hf) |>.symm
      obtain rfl : fn = Tryz.f13 := (Option.some.inj (Tryz.func13.symm.trans hfn)).symm
      exact ⟨by kernel_rfl, fun j t ht => by
        rw [Tryz.params13] at ht
        have h3 : t = 55 ∨ t = 9 := by
          rcases j with _ | j
          · obtain rfl : t = 55 := by simpa using ht.symm
            simp
          rcases j with _ | j
          · obtain rfl : t = 9 := by simpa using ht.symm
            simp
          simp at ht
        rcases h3 with rfl | rfl
        · exact (show Tryz.prog.wantsStandIn 55 = false by kernel_rfl)
        · exact (show Tryz.prog.wantsStandIn 9 = false by kernel_rfl)⟩)
    (by kernel_rfl)
end Go.Proofs.YtgdfoajophpblaaGreatDoor
