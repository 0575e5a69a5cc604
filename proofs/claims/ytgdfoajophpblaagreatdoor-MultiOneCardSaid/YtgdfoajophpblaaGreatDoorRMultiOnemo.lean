/- The law MultiOne is true at every input: the row, out of the walk and the pure law. -/
import Derived.Test.YtgdfoajophpblaaGreatDoorCards
import Derived.SevenTiedAt
import Derived.Test.YtgdfoajophpblaaGreatDoorTie
import Derived.Test.YtgdfoajophpblaaGreatDoorQLmo
import Derived.Test.YtgdfoajophpblaaGreatDoorU4mo
set_option linter.unusedVariables false
set_option linter.unusedSimpArgs false
namespace Go.Proofs.YtgdfoajophpblaaGreatDoor
open Go.Cb Go.ChangeShapes Go.WideShapes Go.ChangeAt Go.RowKit
open Go.ChangeMaps (open_string shut_string)
theorem pure_MultiOne (a0 : (List S_api_Node)) (a1 : S_api_Op) (a2 : S_api_Op) (h0 : InL (fun x => (InS ((x).Path)) ∧ ((InS ((x).Data)) ∧ ((InI .i64 ((x).Version)) ∧ ((InI .i64 ((x).Turn)) ∧ (InI .i64 ((x).Owner)))))) (a0)) (h1 : (InI .i64 ((a1).Kind)) ∧ ((InS ((a1).Path)) ∧ ((InS ((a1).Data)) ∧ ((InI .i64 ((a1).Version)) ∧ ((InI .i64 ((a1).Owner)) ∧ (True)))))) (h2 : (InI .i64 ((a2).Kind)) ∧ ((InS ((a2).Path)) ∧ ((InS ((a2).Data)) ∧ ((InI .i64 ((a2).Version)) ∧ ((InI .i64 ((a2).Owner)) ∧ (True)))))) : m_cantonlaw08_MultiOne a0 a1 a2 = some true := pure_mone a0 a1 a2 h0.1
theorem multiOne_own : ownKnob Tryz.prog.godebug = none := by kernel_rfl
theorem multiOne_laid : laidOutB Tryz.prog = true := by kernel_rfl
set_option maxRecDepth 100000 in
theorem multiOne_lifted (os : Os) (started : os.Started) (H : Type) (enc : TypeId × Value → H) :
    ReturnsInHanded {} Tryz.checked os 6 .any (fun w args => (Rows.multiOneSpec.pre enc Tryz.prog Tryz.f6 Rows.multiOneRow.domain false w args ∧ laidMet Tryz.prog laidL w) ∧ sizedMet enc Tryz.prog Tryz.f6 (OpenSpec.ofChange Rows.multiOneSpec) false w args) (Rows.multiOneSpec.post enc Tryz.prog Tryz.f6 false true false false) := by
  refine returnsInHanded_of_change_and (C := Tryz.checked) (X := fun w _ => laidMet Tryz.prog laidL w) (fun _ _ _ hh h => h.of_heap hh) multiOne_own started (by kernel_rfl) Tryz.func6
    (ChangeSpec.witness_at (enc := enc) (C := Tryz.checked) (os := os) (X := fun w _ => laidMet Tryz.prog laidL w) false (laidWorld os) #[.slice none 0 0, .agg #[.int .i64 0, .string ByteArray.empty, .string ByteArray.empty, .int .i64 0, .int .i64 0, .bool false], .agg #[.int .i64 0, .string ByteArray.empty, .string ByteArray.empty, .int .i64 0, .int .i64 0, .bool false]] 8 rfl (by kernel_rfl) (by kernel_rfl) (by kernel_rfl) (by kernel_rfl) (by kernel_rfl) (laidWorld_met os _)) ?_
  intro W base args ds gs before hval0 hW hcnd hsz0 hL _
  have hsz : (DataW.weightsEach Tryz.prog (Tryz.f6.params.toList ++ Rows.multiOneSpec.plain.varTypes Tryz.prog) (ds ++ gs)).all (· ≤ reachBytes) = true := hsz0
  have hval : ∀ (j : Nat) t v, Tryz.f6.params[j]? = some t → args[j]? = some v → Value.okWide Tryz.prog W .any base t v := hval0
  have hW' := hW
  obtain ⟨p, q, hA0, hV, rfl, hfz, hnd⟩ := hW
  have hA : DataW.TrodAll enc Tryz.prog W 0 (fun _ => true) true Tryz.f6.params.toList args.toList ds p := hA0
  rw [Tryz.params6] at hA hval hsz
  obtain ⟨v0, vs0, d0, ds0, p0, q0, hargs, rfl, rfl, h0, r0⟩ := trodAll_cons hA
  obtain ⟨v1, vs1, d1, ds1, p1, q1, rfl, rfl, rfl, h1, r1⟩ := trodAll_cons r0
  obtain ⟨v2, vs2, d2, ds2, p2, q2, rfl, rfl, rfl, h2, r2⟩ := trodAll_cons r1
  obtain ⟨rfl, rfl, rfl⟩ := trodAll_nil r2
  obtain rfl : args = #[v0, v1, v2] := by cases args; simp_all
  obtain ⟨rfl, rfl⟩ := trodVars_none hV
  obtain ⟨a0, len0, cap0, rfl⟩ := okWide_slice Tryz.underlying22 (hval 0 22 v0 rfl rfl)
  have k0 := h0
  have lt0 : ∀ x ∈ p0, x.block < W.heap.size := by obtain ⟨m, hm⟩ := k0; exact DataW.trod_lt m _ _ _ hm
  obtain ⟨fuel0, hf0⟩ := h0
  obtain ⟨x0, ⟨u0, e0, sl0⟩, w0⟩ := (op_slice Tryz.underlying22 (by kernel_rfl) (of_decide_eq_true (by kernel_rfl)) (op_map (fun x : S_api_Node => (x.Path, (x.Data, (x.Version, (x.Turn, x.Owner))))) (fun y => ⟨y.1, y.2.1, y.2.2.1, y.2.2.2.1, y.2.2.2.2⟩) (fun _ => rfl) (op_struct Tryz.underlying80 (by kernel_rfl) (opF_cons (by kernel_rfl) (by kernel_rfl) (op_string Tryz.underlying9) (opF_cons (by kernel_rfl) (by kernel_rfl) (op_string Tryz.underlying9) (opF_cons (by kernel_rfl) (by kernel_rfl) (op_int Tryz.underlying2) (opF_cons (by kernel_rfl) (by kernel_rfl) (op_int Tryz.underlying2) (opF_one (by kernel_rfl) (by kernel_rfl) (op_int Tryz.underlying2))))))))) hf0 (wt_each (j := 0) (t := 22) hsz rfl rfl)
  obtain rfl : u0 = .slice a0 len0 cap0 := by cases e0; rfl
  obtain ⟨ca1, rfl, hcs1⟩ := okWide_struct Tryz.underlying55 (hval 1 55 v1 rfl rfl)
  have k1 := h1
  have lt1 : ∀ x ∈ p1, x.block < W.heap.size := by obtain ⟨m, hm⟩ := k1; exact DataW.trod_lt m _ _ _ hm
  obtain ⟨fuel1, hf1⟩ := h1
  obtain ⟨x1, hR1, w1⟩ := (op_map (fun x : S_api_Op => (x.Kind, (x.Path, (x.Data, (x.Version, (x.Owner, x.Turns)))))) (fun y => ⟨y.1, y.2.1, y.2.2.1, y.2.2.2.1, y.2.2.2.2.1, y.2.2.2.2.2⟩) (fun _ => rfl) (op_struct Tryz.underlying55 (by kernel_rfl) (opF_cons (by kernel_rfl) (by kernel_rfl) (op_int Tryz.underlying3) (opF_cons (by kernel_rfl) (by kernel_rfl) (op_string Tryz.underlying9) (opF_cons (by kernel_rfl) (by kernel_rfl) (op_string Tryz.underlying9) (opF_cons (by kernel_rfl) (by kernel_rfl) (op_int Tryz.underlying2) (opF_cons (by kernel_rfl) (by kernel_rfl) (op_int Tryz.underlying2) (opF_one (by kernel_rfl) (by kernel_rfl) (op_bool Tryz.underlying4))))))))) hf1 (wt_each (j := 1) (t := 55) hsz rfl rfl)
  have he1 := k_api_Op_open hR1
  obtain rfl : ca1 = #[.int .i64 x1.Kind, .string x1.Path, .string x1.Data, .int .i64 x1.Version, .int .i64 x1.Owner, .bool x1.Turns] := by have h0 : ca1.toList = [.int .i64 x1.Kind, .string x1.Path, .string x1.Data, .int .i64 x1.Version, .int .i64 x1.Owner, .bool x1.Turns] := he1; rw [← Array.toArray_toList (xs := ca1), h0]
  obtain ⟨ca2, rfl, hcs2⟩ := okWide_struct Tryz.underlying55 (hval 2 55 v2 rfl rfl)
  have k2 := h2
  have lt2 : ∀ x ∈ p2, x.block < W.heap.size := by obtain ⟨m, hm⟩ := k2; exact DataW.trod_lt m _ _ _ hm
  obtain ⟨fuel2, hf2⟩ := h2
  obtain ⟨x2, hR2, w2⟩ := (op_map (fun x : S_api_Op => (x.Kind, (x.Path, (x.Data, (x.Version, (x.Owner, x.Turns)))))) (fun y => ⟨y.1, y.2.1, y.2.2.1, y.2.2.2.1, y.2.2.2.2.1, y.2.2.2.2.2⟩) (fun _ => rfl) (op_struct Tryz.underlying55 (by kernel_rfl) (opF_cons (by kernel_rfl) (by kernel_rfl) (op_int Tryz.underlying3) (opF_cons (by kernel_rfl) (by kernel_rfl) (op_string Tryz.underlying9) (opF_cons (by kernel_rfl) (by kernel_rfl) (op_string Tryz.underlying9) (opF_cons (by kernel_rfl) (by kernel_rfl) (op_int Tryz.underlying2) (opF_cons (by kernel_rfl) (by kernel_rfl) (op_int Tryz.underlying2) (opF_one (by kernel_rfl) (by kernel_rfl) (op_bool Tryz.underlying4))))))))) hf2 (wt_each (j := 2) (t := 55) hsz rfl rfl)
  have he2 := k_api_Op_open hR2
  obtain rfl : ca2 = #[.int .i64 x2.Kind, .string x2.Path, .string x2.Data, .int .i64 x2.Version, .int .i64 x2.Owner, .bool x2.Turns] := by have h0 : ca2.toList = [.int .i64 x2.Kind, .string x2.Path, .string x2.Data, .int .i64 x2.Version, .int .i64 x2.Owner, .bool x2.Turns] := he2; rw [← Array.toArray_toList (xs := ca2), h0]
  clear hA0 hval0 hsz0 hsz
  have ST := sep_start W [rSl k_api_Node (.slice a0 len0 cap0) x0, rTab Tryz.prog] (by intro r hr; simp only [List.mem_cons, List.not_mem_nil, or_false] at hr; rcases hr with rfl | rfl; all_goals first | exact sl0 | exact tab_met hL)
  refine (c_cantonlaw08_MultiOne _ x0 x1 x2 ST (by simp) (by simp) (pure_MultiOne x0 x1 x2 w0 w1 w2)).mono fun e W' he => ?_
  cases e with
  | returned v =>
    obtain ⟨rfl, hs⟩ := he
    have bel := sep_below hs
    exact ⟨_, rfl, _, _, _, [], _, [], hW', trodAll_mk1 (shut_bool Tryz.underlying4 _), (trodAll_cons_mk (Below.trod multiOne_laid (by kernel_rfl) (of_decide_eq_true (by kernel_rfl)) k0 bel lt0) (trodAll_cons_mk (Below.trod multiOne_laid (by kernel_rfl) (of_decide_eq_true (by kernel_rfl)) k1 bel lt1) (trodAll_cons_mk (Below.trod multiOne_laid (by kernel_rfl) (of_decide_eq_true (by kernel_rfl)) k2 bel lt2) trodAll_mk0))), rfl, bel.frame _, fun h => by cases h⟩
  | _ => exact absurd he (by simp [Ret])
/-- The law MultiOne is true at every input. -/
theorem multiOne_holds : Rows.MultiOneSaid :=
  OpenClaim.holds_of_wide 6 Tryz.f6 rfl rfl rfl rfl rfl rfl rfl ⟨rfl, rfl, rfl, rfl, rfl⟩ rfl rfl rfl rfl rfl (by kernel_rfl) Tryz.func6 (by kernel_rfl)
    (of_decide_eq_true (by kernel_rfl)) (by unfold Func.isWrapper; first | (rw [if_pos (by decide +kernel)]; kernel_rfl) | (rw [if_neg (by decide +kernel)]; exact ⟨rfl, rfl⟩))
    (fun os started H enc _ => multiOne_lifted os started H enc)
/-- THE TIED CARD of the law MultiOne holds. -/
theorem multiOne_card_holds : Rows.MultiOneCardSaid :=
  Claim7.holds_tied_plain_at .later [] [.data, .data, .data] true (true, "f3919e2ea0a777e168f7d4a744d6cfd609973f42c9815fab069d0cbf9dd6140f") false
    multiOne_holds (fun _ h => by cases h) (by kernel_rfl) (fun _ h => by cases h) multiOne_row_tie rfl ⟨rfl, rfl⟩ (by kernel_rfl) rfl
    (fun f fn hf hfn => by
      obtain rfl : f = 6 := Option.some.inj ((show Tryz.prog.funcNamed "canton/cantonlaw08.MultiOne" = some 6 by kernel_rfl).symm.trans hf) |>.symm
      obtain rfl : fn = Tryz.f6 := (Option.some.inj (Tryz.func6.symm.trans hfn)).symm
      exact ⟨by kernel_rfl, fun j t ht => by
        rw [Tryz.params6] at ht
        have h3 : t = 22 ∨ t = 55 := by
          rcases j with _ | j
          · obtain rfl : t = 22 := by simpa using ht.symm
            simp
          rcases j with _ | j
          · obtain rfl : t = 55 := by simpa using ht.symm
            simp
          rcases j with _ | j
          · obtain rfl : t = 55 := by simpa using ht.symm
            simp
          simp at ht
        rcases h3 with rfl | rfl
        · exact (show Tryz.prog.wantsStandIn 22 = false by kernel_rfl)
        · exact (show Tryz.prog.wantsStandIn 55 = false by kernel_rfl)⟩)
    (by kernel_rfl)
end Go.Proofs.YtgdfoajophpblaaGreatDoor
