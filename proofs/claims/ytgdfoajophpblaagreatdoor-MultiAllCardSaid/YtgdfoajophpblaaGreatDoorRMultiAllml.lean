/- The law MultiAll is true at every input: the row, out of the walk and the pure law. -/
import Derived.Test.YtgdfoajophpblaaGreatDoorCards
import Derived.SevenTiedAt
import Derived.Test.YtgdfoajophpblaaGreatDoorTie
import Derived.Test.YtgdfoajophpblaaGreatDoorQLml
import Derived.Test.YtgdfoajophpblaaGreatDoorU6ml
set_option linter.unusedVariables false
set_option linter.unusedSimpArgs false
namespace Go.Proofs.YtgdfoajophpblaaGreatDoor
open Go.Cb Go.ChangeShapes Go.WideShapes Go.ChangeAt Go.RowKit
open Go.ChangeMaps (open_string shut_string)
theorem pure_MultiAll (a0 : S_api_Store) (a1 : (List S_api_Piece)) (h0 : (InL (fun x => (InS ((x).Path)) ∧ ((InS ((x).Data)) ∧ ((InI .i64 ((x).Version)) ∧ ((InI .i64 ((x).Turn)) ∧ (InI .i64 ((x).Owner)))))) ((a0).Nodes)) ∧ (InL (fun x => (InS ((x).Dir)) ∧ (InI .i64 ((x).Next))) ((a0).Turns))) (h1 : InL (fun x => (InI .i64 ((x).Op)) ∧ ((InI .i64 (((x).Part).Kind)) ∧ ((InS (((x).Part).Dir)) ∧ ((InS (((x).Part).Path)) ∧ ((InS (((x).Part).Data)) ∧ ((InI .i64 (((x).Part).Version)) ∧ ((InI .i64 (((x).Part).Owner)) ∧ (True)))))))) (a1)) : m_cantonlaw08_MultiAll a0 a1 = some true := pure_mall a0 a1 h0.1.1
theorem multiAll_own : ownKnob Tryz.prog.godebug = none := by kernel_rfl
theorem multiAll_laid : laidOutB Tryz.prog = true := by kernel_rfl
set_option maxRecDepth 100000 in
theorem multiAll_lifted (os : Os) (started : os.Started) (H : Type) (enc : TypeId × Value → H) :
    ReturnsInHanded {} Tryz.checked os 4 .any (fun w args => (Rows.multiAllSpec.pre enc Tryz.prog Tryz.f4 Rows.multiAllRow.domain false w args ∧ laidMet Tryz.prog laidL w) ∧ sizedMet enc Tryz.prog Tryz.f4 (OpenSpec.ofChange Rows.multiAllSpec) false w args) (Rows.multiAllSpec.post enc Tryz.prog Tryz.f4 false true false false) := by
  refine returnsInHanded_of_change_and (C := Tryz.checked) (X := fun w _ => laidMet Tryz.prog laidL w) (fun _ _ _ hh h => h.of_heap hh) multiAll_own started (by kernel_rfl) Tryz.func4
    (ChangeSpec.witness_at (enc := enc) (C := Tryz.checked) (os := os) (X := fun w _ => laidMet Tryz.prog laidL w) false (laidWorld os) #[.agg #[.slice none 0 0, .slice none 0 0], .slice none 0 0] 8 rfl (by kernel_rfl) (by kernel_rfl) (by kernel_rfl) (by kernel_rfl) (by kernel_rfl) (laidWorld_met os _)) ?_
  intro W base args ds gs before hval0 hW hcnd hsz0 hL _
  have hsz : (DataW.weightsEach Tryz.prog (Tryz.f4.params.toList ++ Rows.multiAllSpec.plain.varTypes Tryz.prog) (ds ++ gs)).all (· ≤ reachBytes) = true := hsz0
  have hval : ∀ (j : Nat) t v, Tryz.f4.params[j]? = some t → args[j]? = some v → Value.okWide Tryz.prog W .any base t v := hval0
  have hW' := hW
  obtain ⟨p, q, hA0, hV, rfl, hfz, hnd⟩ := hW
  have hA : DataW.TrodAll enc Tryz.prog W 0 (fun _ => true) true Tryz.f4.params.toList args.toList ds p := hA0
  rw [Tryz.params4] at hA hval hsz
  obtain ⟨v0, vs0, d0, ds0, p0, q0, hargs, rfl, rfl, h0, r0⟩ := trodAll_cons hA
  obtain ⟨v1, vs1, d1, ds1, p1, q1, rfl, rfl, rfl, h1, r1⟩ := trodAll_cons r0
  obtain ⟨rfl, rfl, rfl⟩ := trodAll_nil r1
  obtain rfl : args = #[v0, v1] := by cases args; simp_all
  obtain ⟨rfl, rfl⟩ := trodVars_none hV
  obtain ⟨ca0, rfl, hcs0⟩ := okWide_struct Tryz.underlying41 (hval 0 41 v0 rfl rfl)
  have k0 := h0
  have lt0 : ∀ x ∈ p0, x.block < W.heap.size := by obtain ⟨m, hm⟩ := k0; exact DataW.trod_lt m _ _ _ hm
  obtain ⟨fuel0, hf0⟩ := h0
  obtain ⟨x0, hR0, w0⟩ := (op_map (fun x : S_api_Store => (x.Nodes, x.Turns)) (fun y => ⟨y.1, y.2⟩) (fun _ => rfl) (op_struct Tryz.underlying41 (by kernel_rfl) (opF_cons (by kernel_rfl) (by kernel_rfl) (op_slice Tryz.underlying22 (by kernel_rfl) (of_decide_eq_true (by kernel_rfl)) (op_map (fun x : S_api_Node => (x.Path, (x.Data, (x.Version, (x.Turn, x.Owner))))) (fun y => ⟨y.1, y.2.1, y.2.2.1, y.2.2.2.1, y.2.2.2.2⟩) (fun _ => rfl) (op_struct Tryz.underlying80 (by kernel_rfl) (opF_cons (by kernel_rfl) (by kernel_rfl) (op_string Tryz.underlying9) (opF_cons (by kernel_rfl) (by kernel_rfl) (op_string Tryz.underlying9) (opF_cons (by kernel_rfl) (by kernel_rfl) (op_int Tryz.underlying2) (opF_cons (by kernel_rfl) (by kernel_rfl) (op_int Tryz.underlying2) (opF_one (by kernel_rfl) (by kernel_rfl) (op_int Tryz.underlying2))))))))) (opF_one (by kernel_rfl) (by kernel_rfl) (op_slice Tryz.underlying39 (by kernel_rfl) (of_decide_eq_true (by kernel_rfl)) (op_map (fun x : S_api_Turn => (x.Dir, x.Next)) (fun y => ⟨y.1, y.2⟩) (fun _ => rfl) (op_struct Tryz.underlying83 (by kernel_rfl) (opF_cons (by kernel_rfl) (by kernel_rfl) (op_string Tryz.underlying9) (opF_one (by kernel_rfl) (by kernel_rfl) (op_int Tryz.underlying2)))))))))) hf0 (wt_each (j := 0) (t := 41) hsz rfl rfl)
  obtain ⟨sv0_1, sv0_2, he0, sl0_1, sl0_2⟩ := k_api_Store_open hR0
  obtain rfl : ca0 = #[sv0_1, sv0_2] := by have h0 : ca0.toList = [sv0_1, sv0_2] := he0; rw [← Array.toArray_toList (xs := ca0), h0]
  obtain ⟨a1, len1, cap1, rfl⟩ := okWide_slice Tryz.underlying36 (hval 1 36 v1 rfl rfl)
  have k1 := h1
  have lt1 : ∀ x ∈ p1, x.block < W.heap.size := by obtain ⟨m, hm⟩ := k1; exact DataW.trod_lt m _ _ _ hm
  obtain ⟨fuel1, hf1⟩ := h1
  obtain ⟨x1, ⟨u1, e1, sl1⟩, w1⟩ := (op_slice Tryz.underlying36 (by kernel_rfl) (of_decide_eq_true (by kernel_rfl)) (op_map (fun x : S_api_Piece => (x.Op, x.Part)) (fun y => ⟨y.1, y.2⟩) (fun _ => rfl) (op_struct Tryz.underlying64 (by kernel_rfl) (opF_cons (by kernel_rfl) (by kernel_rfl) (op_int Tryz.underlying3) (opF_one (by kernel_rfl) (by kernel_rfl) (op_map (fun x : S_api_Part => (x.Kind, (x.Dir, (x.Path, (x.Data, (x.Version, (x.Owner, x.Turns))))))) (fun y => ⟨y.1, y.2.1, y.2.2.1, y.2.2.2.1, y.2.2.2.2.1, y.2.2.2.2.2.1, y.2.2.2.2.2.2⟩) (fun _ => rfl) (op_struct Tryz.underlying62 (by kernel_rfl) (opF_cons (by kernel_rfl) (by kernel_rfl) (op_int Tryz.underlying3) (opF_cons (by kernel_rfl) (by kernel_rfl) (op_string Tryz.underlying9) (opF_cons (by kernel_rfl) (by kernel_rfl) (op_string Tryz.underlying9) (opF_cons (by kernel_rfl) (by kernel_rfl) (op_string Tryz.underlying9) (opF_cons (by kernel_rfl) (by kernel_rfl) (op_int Tryz.underlying2) (opF_cons (by kernel_rfl) (by kernel_rfl) (op_int Tryz.underlying2) (opF_one (by kernel_rfl) (by kernel_rfl) (op_bool Tryz.underlying4))))))))))))))) hf1 (wt_each (j := 1) (t := 36) hsz rfl rfl)
  obtain rfl : u1 = .slice a1 len1 cap1 := by cases e1; rfl
  clear hA0 hval0 hsz0 hsz
  have ST := sep_start W [rSl k_api_Node sv0_1 x0.Nodes, rSl k_api_Turn sv0_2 x0.Turns, rSl k_api_Piece (.slice a1 len1 cap1) x1, rTab Tryz.prog] (by intro r hr; simp only [List.mem_cons, List.not_mem_nil, or_false] at hr; rcases hr with rfl | rfl | rfl | rfl; all_goals first | exact sl0_1 | exact sl0_2 | exact sl1 | exact tab_met hL)
  refine (c_cantonlaw08_MultiAll x0 sv0_1 sv0_2 _ x1 ST (by simp) (by simp) (by simp) (by simp) (pure_MultiAll x0 x1 w0 w1)).mono fun e W' he => ?_
  cases e with
  | returned v =>
    obtain ⟨rfl, hs⟩ := he
    have bel := sep_below hs
    exact ⟨_, rfl, _, _, _, [], _, [], hW', trodAll_mk1 (shut_bool Tryz.underlying4 _), (trodAll_cons_mk (Below.trod multiAll_laid (by kernel_rfl) (of_decide_eq_true (by kernel_rfl)) k0 bel lt0) (trodAll_cons_mk (Below.trod multiAll_laid (by kernel_rfl) (of_decide_eq_true (by kernel_rfl)) k1 bel lt1) trodAll_mk0)), rfl, bel.frame _, fun h => by cases h⟩
  | _ => exact absurd he (by simp [Ret])
/-- The law MultiAll is true at every input. -/
theorem multiAll_holds : Rows.MultiAllSaid :=
  OpenClaim.holds_of_wide 4 Tryz.f4 rfl rfl rfl rfl rfl rfl rfl ⟨rfl, rfl, rfl, rfl, rfl⟩ rfl rfl rfl rfl rfl (by kernel_rfl) Tryz.func4 (by kernel_rfl)
    (of_decide_eq_true (by kernel_rfl)) (by unfold Func.isWrapper; first | (rw [if_pos (by decide +kernel)]; kernel_rfl) | (rw [if_neg (by decide +kernel)]; exact ⟨rfl, rfl⟩))
    (fun os started H enc _ => multiAll_lifted os started H enc)
/-- THE TIED CARD of the law MultiAll holds. -/
theorem multiAll_card_holds : Rows.MultiAllCardSaid :=
  Claim7.holds_tied_plain_at .later [] [.data, .data, .data] true (true, "f3919e2ea0a777e168f7d4a744d6cfd609973f42c9815fab069d0cbf9dd6140f") false
    multiAll_holds (fun _ h => by cases h) (by kernel_rfl) (fun _ h => by cases h) multiAll_row_tie rfl ⟨rfl, rfl⟩ (by kernel_rfl) rfl
    (fun f fn hf hfn => by
      obtain rfl : f = 4 := Option.some.inj ((show Tryz.prog.funcNamed "canton/cantonlaw08.MultiAll" = some 4 by kernel_rfl).symm.trans hf) |>.symm
      obtain rfl : fn = Tryz.f4 := (Option.some.inj (Tryz.func4.symm.trans hfn)).symm
      exact ⟨by kernel_rfl, fun j t ht => by
        rw [Tryz.params4] at ht
        have h3 : t = 41 ∨ t = 36 := by
          rcases j with _ | j
          · obtain rfl : t = 41 := by simpa using ht.symm
            simp
          rcases j with _ | j
          · obtain rfl : t = 36 := by simpa using ht.symm
            simp
          simp at ht
        rcases h3 with rfl | rfl
        · exact (show Tryz.prog.wantsStandIn 41 = false by kernel_rfl)
        · exact (show Tryz.prog.wantsStandIn 36 = false by kernel_rfl)⟩)
    (by kernel_rfl)
end Go.Proofs.YtgdfoajophpblaaGreatDoor
