/- The law PartSplits is true at every input: the row, out of the walk and the pure law. -/
import Derived.Test.YtgdfoajophpblaaGreatDoorCards
import Derived.SevenTiedAt
import Derived.Test.YtgdfoajophpblaaGreatDoorTie
import Derived.Test.YtgdfoajophpblaaGreatDoorQLpx
import Derived.Test.YtgdfoajophpblaaGreatDoorVEpx
set_option linter.unusedVariables false
set_option linter.unusedSimpArgs false
namespace Go.Proofs.YtgdfoajophpblaaGreatDoor
open Go.Cb Go.ChangeShapes Go.WideShapes Go.ChangeAt Go.RowKit
open Go.ChangeMaps (open_string shut_string)
theorem pure_PartSplits (a0 : S_api_Op) (a1 : (List S_api_Node)) (a2 : S_api_Store) (a3 : S_api_Store) (h0 : (InI .i64 ((a0).Kind)) ∧ ((InS ((a0).Path)) ∧ ((InS ((a0).Data)) ∧ ((InI .i64 ((a0).Version)) ∧ ((InI .i64 ((a0).Owner)) ∧ (True)))))) (h1 : InL (fun x => (InS ((x).Path)) ∧ ((InS ((x).Data)) ∧ ((InI .i64 ((x).Version)) ∧ ((InI .i64 ((x).Turn)) ∧ (InI .i64 ((x).Owner)))))) (a1)) (h2 : (InL (fun x => (InS ((x).Path)) ∧ ((InS ((x).Data)) ∧ ((InI .i64 ((x).Version)) ∧ ((InI .i64 ((x).Turn)) ∧ (InI .i64 ((x).Owner)))))) ((a2).Nodes)) ∧ (InL (fun x => (InS ((x).Dir)) ∧ (InI .i64 ((x).Next))) ((a2).Turns))) (h3 : (InL (fun x => (InS ((x).Path)) ∧ ((InS ((x).Data)) ∧ ((InI .i64 ((x).Version)) ∧ ((InI .i64 ((x).Turn)) ∧ (InI .i64 ((x).Owner)))))) ((a3).Nodes)) ∧ (InL (fun x => (InS ((x).Dir)) ∧ (InI .i64 ((x).Next))) ((a3).Turns))) : m_cantonlaw07_PartSplits a0 a1 a2 a3 = some true := pure_psplits a0 a1 a2 a3 h1.1 h2.1.1 h3.1.1
theorem partSplits_own : ownKnob Tryz.prog.godebug = none := by kernel_rfl
theorem partSplits_laid : laidOutB Tryz.prog = true := by kernel_rfl
set_option maxRecDepth 100000 in
theorem partSplits_lifted (os : Os) (started : os.Started) (H : Type) (enc : TypeId × Value → H) :
    ReturnsInHanded {} Tryz.checked os 9 .any (fun w args => (Rows.partSplitsSpec.pre enc Tryz.prog Tryz.f9 Rows.partSplitsRow.domain false w args ∧ laidMet Tryz.prog laidL w) ∧ sizedMet enc Tryz.prog Tryz.f9 (OpenSpec.ofChange Rows.partSplitsSpec) false w args) (Rows.partSplitsSpec.post enc Tryz.prog Tryz.f9 false true false false) := by
  refine returnsInHanded_of_change_and (C := Tryz.checked) (X := fun w _ => laidMet Tryz.prog laidL w) (fun _ _ _ hh h => h.of_heap hh) partSplits_own started (by kernel_rfl) Tryz.func9
    (ChangeSpec.witness_at (enc := enc) (C := Tryz.checked) (os := os) (X := fun w _ => laidMet Tryz.prog laidL w) false (laidWorld os) #[.agg #[.int .i64 0, .string ByteArray.empty, .string ByteArray.empty, .int .i64 0, .int .i64 0, .bool false], .slice none 0 0, .agg #[.slice none 0 0, .slice none 0 0], .agg #[.slice none 0 0, .slice none 0 0]] 8 rfl (by kernel_rfl) (by kernel_rfl) (by kernel_rfl) (by kernel_rfl) (by kernel_rfl) (laidWorld_met os _)) ?_
  intro W base args ds gs before hval0 hW hcnd hsz0 hL _
  have hsz : (DataW.weightsEach Tryz.prog (Tryz.f9.params.toList ++ Rows.partSplitsSpec.plain.varTypes Tryz.prog) (ds ++ gs)).all (· ≤ reachBytes) = true := hsz0
  have hval : ∀ (j : Nat) t v, Tryz.f9.params[j]? = some t → args[j]? = some v → Value.okWide Tryz.prog W .any base t v := hval0
  have hW' := hW
  obtain ⟨p, q, hA0, hV, rfl, hfz, hnd⟩ := hW
  have hA : DataW.TrodAll enc Tryz.prog W 0 (fun _ => true) true Tryz.f9.params.toList args.toList ds p := hA0
  rw [Tryz.params9] at hA hval hsz
  obtain ⟨v0, vs0, d0, ds0, p0, q0, hargs, rfl, rfl, h0, r0⟩ := trodAll_cons hA
  obtain ⟨v1, vs1, d1, ds1, p1, q1, rfl, rfl, rfl, h1, r1⟩ := trodAll_cons r0
  obtain ⟨v2, vs2, d2, ds2, p2, q2, rfl, rfl, rfl, h2, r2⟩ := trodAll_cons r1
  obtain ⟨v3, vs3, d3, ds3, p3, q3, rfl, rfl, rfl, h3, r3⟩ := trodAll_cons r2
  obtain ⟨rfl, rfl, rfl⟩ := trodAll_nil r3
  obtain rfl : args = #[v0, v1, v2, v3] := by cases args; simp_all
  obtain ⟨rfl, rfl⟩ := trodVars_none hV
  obtain ⟨ca0, rfl, hcs0⟩ := okWide_struct Tryz.underlying55 (hval 0 55 v0 rfl rfl)
  have k0 := h0
  have lt0 : ∀ x ∈ p0, x.block < W.heap.size := by obtain ⟨m, hm⟩ := k0; exact DataW.trod_lt m _ _ _ hm
  obtain ⟨fuel0, hf0⟩ := h0
  obtain ⟨x0, hR0, w0⟩ := (op_map (fun x : S_api_Op => (x.Kind, (x.Path, (x.Data, (x.Version, (x.Owner, x.Turns)))))) (fun y => ⟨y.1, y.2.1, y.2.2.1, y.2.2.2.1, y.2.2.2.2.1, y.2.2.2.2.2⟩) (fun _ => rfl) (op_struct Tryz.underlying55 (by kernel_rfl) (opF_cons (by kernel_rfl) (by kernel_rfl) (op_int Tryz.underlying3) (opF_cons (by kernel_rfl) (by kernel_rfl) (op_string Tryz.underlying9) (opF_cons (by kernel_rfl) (by kernel_rfl) (op_string Tryz.underlying9) (opF_cons (by kernel_rfl) (by kernel_rfl) (op_int Tryz.underlying2) (opF_cons (by kernel_rfl) (by kernel_rfl) (op_int Tryz.underlying2) (opF_one (by kernel_rfl) (by kernel_rfl) (op_bool Tryz.underlying4))))))))) hf0 (wt_each (j := 0) (t := 55) hsz rfl rfl)
  have he0 := k_api_Op_open hR0
  obtain rfl : ca0 = #[.int .i64 x0.Kind, .string x0.Path, .string x0.Data, .int .i64 x0.Version, .int .i64 x0.Owner, .bool x0.Turns] := by have h0 : ca0.toList = [.int .i64 x0.Kind, .string x0.Path, .string x0.Data, .int .i64 x0.Version, .int .i64 x0.Owner, .bool x0.Turns] := he0; rw [← Array.toArray_toList (xs := ca0), h0]
  obtain ⟨a1, len1, cap1, rfl⟩ := okWide_slice Tryz.underlying22 (hval 1 22 v1 rfl rfl)
  have k1 := h1
  have lt1 : ∀ x ∈ p1, x.block < W.heap.size := by obtain ⟨m, hm⟩ := k1; exact DataW.trod_lt m _ _ _ hm
  obtain ⟨fuel1, hf1⟩ := h1
  obtain ⟨x1, ⟨u1, e1, sl1⟩, w1⟩ := (op_slice Tryz.underlying22 (by kernel_rfl) (of_decide_eq_true (by kernel_rfl)) (op_map (fun x : S_api_Node => (x.Path, (x.Data, (x.Version, (x.Turn, x.Owner))))) (fun y => ⟨y.1, y.2.1, y.2.2.1, y.2.2.2.1, y.2.2.2.2⟩) (fun _ => rfl) (op_struct Tryz.underlying80 (by kernel_rfl) (opF_cons (by kernel_rfl) (by kernel_rfl) (op_string Tryz.underlying9) (opF_cons (by kernel_rfl) (by kernel_rfl) (op_string Tryz.underlying9) (opF_cons (by kernel_rfl) (by kernel_rfl) (op_int Tryz.underlying2) (opF_cons (by kernel_rfl) (by kernel_rfl) (op_int Tryz.underlying2) (opF_one (by kernel_rfl) (by kernel_rfl) (op_int Tryz.underlying2))))))))) hf1 (wt_each (j := 1) (t := 22) hsz rfl rfl)
  obtain rfl : u1 = .slice a1 len1 cap1 := by cases e1; rfl
  obtain ⟨ca2, rfl, hcs2⟩ := okWide_struct Tryz.underlying41 (hval 2 41 v2 rfl rfl)
  have k2 := h2
  have lt2 : ∀ x ∈ p2, x.block < W.heap.size := by obtain ⟨m, hm⟩ := k2; exact DataW.trod_lt m _ _ _ hm
  obtain ⟨fuel2, hf2⟩ := h2
  obtain ⟨x2, hR2, w2⟩ := (op_map (fun x : S_api_Store => (x.Nodes, x.Turns)) (fun y => ⟨y.1, y.2⟩) (fun _ => rfl) (op_struct Tryz.underlying41 (by kernel_rfl) (opF_cons (by kernel_rfl) (by kernel_rfl) (op_slice Tryz.underlying22 (by kernel_rfl) (of_decide_eq_true (by kernel_rfl)) (op_map (fun x : S_api_Node => (x.Path, (x.Data, (x.Version, (x.Turn, x.Owner))))) (fun y => ⟨y.1, y.2.1, y.2.2.1, y.2.2.2.1, y.2.2.2.2⟩) (fun _ => rfl) (op_struct Tryz.underlying80 (by kernel_rfl) (opF_cons (by kernel_rfl) (by kernel_rfl) (op_string Tryz.underlying9) (opF_cons (by kernel_rfl) (by kernel_rfl) (op_string Tryz.underlying9) (opF_cons (by kernel_rfl) (by kernel_rfl) (op_int Tryz.underlying2) (opF_cons (by kernel_rfl) (by kernel_rfl) (op_int Tryz.underlying2) (opF_one (by kernel_rfl) (by kernel_rfl) (op_int Tryz.underlying2))))))))) (opF_one (by kernel_rfl) (by kernel_rfl) (op_slice Tryz.underlying39 (by kernel_rfl) (of_decide_eq_true (by kernel_rfl)) (op_map (fun x : S_api_Turn => (x.Dir, x.Next)) (fun y => ⟨y.1, y.2⟩) (fun _ => rfl) (op_struct Tryz.underlying83 (by kernel_rfl) (opF_cons (by kernel_rfl) (by kernel_rfl) (op_string Tryz.underlying9) (opF_one (by kernel_rfl) (by kernel_rfl) (op_int Tryz.underlying2)))))))))) hf2 (wt_each (j := 2) (t := 41) hsz rfl rfl)
  obtain ⟨sv2_1, sv2_2, he2, sl2_1, sl2_2⟩ := k_api_Store_open hR2
  obtain rfl : ca2 = #[sv2_1, sv2_2] := by have h0 : ca2.toList = [sv2_1, sv2_2] := he2; rw [← Array.toArray_toList (xs := ca2), h0]
  obtain ⟨ca3, rfl, hcs3⟩ := okWide_struct Tryz.underlying41 (hval 3 41 v3 rfl rfl)
  have k3 := h3
  have lt3 : ∀ x ∈ p3, x.block < W.heap.size := by obtain ⟨m, hm⟩ := k3; exact DataW.trod_lt m _ _ _ hm
  obtain ⟨fuel3, hf3⟩ := h3
  obtain ⟨x3, hR3, w3⟩ := (op_map (fun x : S_api_Store => (x.Nodes, x.Turns)) (fun y => ⟨y.1, y.2⟩) (fun _ => rfl) (op_struct Tryz.underlying41 (by kernel_rfl) (opF_cons (by kernel_rfl) (by kernel_rfl) (op_slice Tryz.underlying22 (by kernel_rfl) (of_decide_eq_true (by kernel_rfl)) (op_map (fun x : S_api_Node => (x.Path, (x.Data, (x.Version, (x.Turn, x.Owner))))) (fun y => ⟨y.1, y.2.1, y.2.2.1, y.2.2.2.1, y.2.2.2.2⟩) (fun _ => rfl) (op_struct Tryz.underlying80 (by kernel_rfl) (opF_cons (by kernel_rfl) (by kernel_rfl) (op_string Tryz.underlying9) (opF_cons (by kernel_rfl) (by kernel_rfl) (op_string Tryz.underlying9) (opF_cons (by kernel_rfl) (by kernel_rfl) (op_int Tryz.underlying2) (opF_cons (by kernel_rfl) (by kernel_rfl) (op_int Tryz.underlying2) (opF_one (by kernel_rfl) (by kernel_rfl) (op_int Tryz.underlying2))))))))) (opF_one (by kernel_rfl) (by kernel_rfl) (op_slice Tryz.underlying39 (by kernel_rfl) (of_decide_eq_true (by kernel_rfl)) (op_map (fun x : S_api_Turn => (x.Dir, x.Next)) (fun y => ⟨y.1, y.2⟩) (fun _ => rfl) (op_struct Tryz.underlying83 (by kernel_rfl) (opF_cons (by kernel_rfl) (by kernel_rfl) (op_string Tryz.underlying9) (opF_one (by kernel_rfl) (by kernel_rfl) (op_int Tryz.underlying2)))))))))) hf3 (wt_each (j := 3) (t := 41) hsz rfl rfl)
  obtain ⟨sv3_1, sv3_2, he3, sl3_1, sl3_2⟩ := k_api_Store_open hR3
  obtain rfl : ca3 = #[sv3_1, sv3_2] := by have h0 : ca3.toList = [sv3_1, sv3_2] := he3; rw [← Array.toArray_toList (xs := ca3), h0]
  clear hA0 hval0 hsz0 hsz
  have ST := sep_start W [rSl k_api_Node (.slice a1 len1 cap1) x1, rSl k_api_Node sv2_1 x2.Nodes, rSl k_api_Turn sv2_2 x2.Turns, rSl k_api_Node sv3_1 x3.Nodes, rSl k_api_Turn sv3_2 x3.Turns, rTab Tryz.prog] (by intro r hr; simp only [List.mem_cons, List.not_mem_nil, or_false] at hr; rcases hr with rfl | rfl | rfl | rfl | rfl | rfl; all_goals first | exact sl1 | exact sl2_1 | exact sl2_2 | exact sl3_1 | exact sl3_2 | exact tab_met hL)
  refine (c_cantonlaw07_PartSplits x0 _ x1 x2 sv2_1 sv2_2 x3 sv3_1 sv3_2 ST (by simp) (by simp) (by simp) (by simp) (by simp) (by simp) (pure_PartSplits x0 x1 x2 x3 w0 w1 w2 w3)).mono fun e W' he => ?_
  cases e with
  | returned v =>
    obtain ⟨rfl, hs⟩ := he
    have bel := sep_below hs
    exact ⟨_, rfl, _, _, _, [], _, [], hW', trodAll_mk1 (shut_bool Tryz.underlying4 _), (trodAll_cons_mk (Below.trod partSplits_laid (by kernel_rfl) (of_decide_eq_true (by kernel_rfl)) k0 bel lt0) (trodAll_cons_mk (Below.trod partSplits_laid (by kernel_rfl) (of_decide_eq_true (by kernel_rfl)) k1 bel lt1) (trodAll_cons_mk (Below.trod partSplits_laid (by kernel_rfl) (of_decide_eq_true (by kernel_rfl)) k2 bel lt2) (trodAll_cons_mk (Below.trod partSplits_laid (by kernel_rfl) (of_decide_eq_true (by kernel_rfl)) k3 bel lt3) trodAll_mk0)))), rfl, bel.frame _, fun h => by cases h⟩
  | _ => exact absurd he (by simp [Ret])
/-- The law PartSplits is true at every input. -/
theorem partSplits_holds : Rows.PartSplitsSaid :=
  OpenClaim.holds_of_wide 9 Tryz.f9 rfl rfl rfl rfl rfl rfl rfl ⟨rfl, rfl, rfl, rfl, rfl⟩ rfl rfl rfl rfl rfl (by kernel_rfl) Tryz.func9 (by kernel_rfl)
    (of_decide_eq_true (by kernel_rfl)) (by unfold Func.isWrapper; first | (rw [if_pos (by decide +kernel)]; kernel_rfl) | (rw [if_neg (by decide +kernel)]; exact ⟨rfl, rfl⟩))
    (fun os started H enc _ => partSplits_lifted os started H enc)
/-- THE TIED CARD of the law PartSplits holds. -/
theorem partSplits_card_holds : Rows.PartSplitsCardSaid :=
  Claim7.holds_tied_plain_at .later [] [.data, .data, .data] true (true, "f3919e2ea0a777e168f7d4a744d6cfd609973f42c9815fab069d0cbf9dd6140f") false
    partSplits_holds (fun _ h => by cases h) (by kernel_rfl) (fun _ h => by cases h) partSplits_row_tie rfl ⟨rfl, rfl⟩ (by kernel_rfl) rfl
    (fun f fn hf hfn => by
      obtain rfl : f = 9 := Option.some.inj ((show Tryz.prog.funcNamed "canton/cantonlaw07.PartSplits" = some 9 by kernel_rfl).symm.trans hf) |>.symm
      obtain rfl : fn = Tryz.f9 := (Option.some.inj (Tryz.func9.symm.trans hfn)).symm
      exact ⟨by kernel_rfl, fun j t ht => by
        rw [Tryz.params9] at ht
        have h3 : t = 55 ∨ t = 22 ∨ t = 41 := by
          rcases j with _ | j
          · obtain rfl : t = 55 := by simpa using ht.symm
            simp
          rcases j with _ | j
          · obtain rfl : t = 22 := by simpa using ht.symm
            simp
          rcases j with _ | j
          · obtain rfl : t = 41 := by simpa using ht.symm
            simp
          rcases j with _ | j
          · obtain rfl : t = 41 := by simpa using ht.symm
            simp
          simp at ht
        rcases h3 with rfl | rfl | rfl
        · exact (show Tryz.prog.wantsStandIn 55 = false by kernel_rfl)
        · exact (show Tryz.prog.wantsStandIn 22 = false by kernel_rfl)
        · exact (show Tryz.prog.wantsStandIn 41 = false by kernel_rfl)⟩)
    (by kernel_rfl)
end Go.Proofs.YtgdfoajophpblaaGreatDoor
