/- The law MultiPieces is true at every input: the row, out of the walk and the pure law. -/
import Derived.Test.YtgdfoajophpblaaGreatDoorCards
import Derived.SevenTiedAt
import Derived.Test.YtgdfoajophpblaaGreatDoorTie
import Derived.Test.YtgdfoajophpblaaGreatDoorQLmp
import Derived.Test.YtgdfoajophpblaaGreatDoorUAmp
set_option linter.unusedVariables false
set_option linter.unusedSimpArgs false
namespace Go.Proofs.YtgdfoajophpblaaGreatDoor
open Go.Cb Go.ChangeShapes Go.WideShapes Go.ChangeAt Go.RowKit
open Go.ChangeMaps (open_string shut_string)
theorem pure_MultiPieces (a0 : (List S_api_Node)) (a1 : (List S_api_Op)) (h0 : InL (fun x => (InS ((x).Path)) ∧ ((InS ((x).Data)) ∧ ((InI .i64 ((x).Version)) ∧ ((InI .i64 ((x).Turn)) ∧ (InI .i64 ((x).Owner)))))) (a0)) (h1 : InL (fun x => (InI .i64 ((x).Kind)) ∧ ((InS ((x).Path)) ∧ ((InS ((x).Data)) ∧ ((InI .i64 ((x).Version)) ∧ ((InI .i64 ((x).Owner)) ∧ (True)))))) (a1)) : m_cantonlaw08_MultiPieces a0 a1 = some true := pure_mpieces a0 a1 h0.1
theorem multiPieces_own : ownKnob Tryz.prog.godebug = none := by kernel_rfl
theorem multiPieces_laid : laidOutB Tryz.prog = true := by kernel_rfl
set_option maxRecDepth 100000 in
theorem multiPieces_lifted (os : Os) (started : os.Started) (H : Type) (enc : TypeId × Value → H) :
    ReturnsInHanded {} Tryz.checked os 7 .any (fun w args => (Rows.multiPiecesSpec.pre enc Tryz.prog Tryz.f7 Rows.multiPiecesRow.domain false w args ∧ laidMet Tryz.prog laidL w) ∧ sizedMet enc Tryz.prog Tryz.f7 (OpenSpec.ofChange Rows.multiPiecesSpec) false w args) (Rows.multiPiecesSpec.post enc Tryz.prog Tryz.f7 false true false false) := by
  refine returnsInHanded_of_change_and (C := Tryz.checked) (X := fun w _ => laidMet Tryz.prog laidL w) (fun _ _ _ hh h => h.of_heap hh) multiPieces_own started (by kernel_rfl) Tryz.func7
    (ChangeSpec.witness_at (enc := enc) (C := Tryz.checked) (os := os) (X := fun w _ => laidMet Tryz.prog laidL w) false (laidWorld os) #[.slice none 0 0, .slice none 0 0] 8 rfl (by kernel_rfl) (by kernel_rfl) (by kernel_rfl) (by kernel_rfl) (by kernel_rfl) (laidWorld_met os _)) ?_
  intro W base args ds gs before hval0 hW hcnd hsz0 hL _
  have hsz : (DataW.weightsEach Tryz.prog (Tryz.f7.params.toList ++ Rows.multiPiecesSpec.plain.varTypes Tryz.prog) (ds ++ gs)).all (· ≤ reachBytes) = true := hsz0
  have hval : ∀ (j : Nat) t v, Tryz.f7.params[j]? = some t → args[j]? = some v → Value.okWide Tryz.prog W .any base t v := hval0
  have hW' := hW
  obtain ⟨p, q, hA0, hV, rfl, hfz, hnd⟩ := hW
  have hA : DataW.TrodAll enc Tryz.prog W 0 (fun _ => true) true Tryz.f7.params.toList args.toList ds p := hA0
  rw [Tryz.params7] at hA hval hsz
  obtain ⟨v0, vs0, d0, ds0, p0, q0, hargs, rfl, rfl, h0, r0⟩ := trodAll_cons hA
  obtain ⟨v1, vs1, d1, ds1, p1, q1, rfl, rfl, rfl, h1, r1⟩ := trodAll_cons r0
  obtain ⟨rfl, rfl, rfl⟩ := trodAll_nil r1
  obtain rfl : args = #[v0, v1] := by cases args; simp_all
  obtain ⟨rfl, rfl⟩ := trodVars_none hV
  obtain ⟨a0, len0, cap0, rfl⟩ := okWide_slice Tryz.underlying22 (hval 0 22 v0 rfl rfl)
  have k0 := h0
  have lt0 : ∀ x ∈ p0, x.block < W.heap.size := by obtain ⟨m, hm⟩ := k0; exact DataW.trod_lt m _ _ _ hm
  obtain ⟨fuel0, hf0⟩ := h0
  obtain ⟨x0, ⟨u0, e0, sl0⟩, w0⟩ := (op_slice Tryz.underlying22 (by kernel_rfl) (of_decide_eq_true (by kernel_rfl)) (op_map (fun x : S_api_Node => (x.Path, (x.Data, (x.Version, (x.Turn, x.Owner))))) (fun y => ⟨y.1, y.2.1, y.2.2.1, y.2.2.2.1, y.2.2.2.2⟩) (fun _ => rfl) (op_struct Tryz.underlying80 (by kernel_rfl) (opF_cons (by kernel_rfl) (by kernel_rfl) (op_string Tryz.underlying9) (opF_cons (by kernel_rfl) (by kernel_rfl) (op_string Tryz.underlying9) (opF_cons (by kernel_rfl) (by kernel_rfl) (op_int Tryz.underlying2) (opF_cons (by kernel_rfl) (by kernel_rfl) (op_int Tryz.underlying2) (opF_one (by kernel_rfl) (by kernel_rfl) (op_int Tryz.underlying2))))))))) hf0 (wt_each (j := 0) (t := 22) hsz rfl rfl)
  obtain rfl : u0 = .slice a0 len0 cap0 := by cases e0; rfl
  obtain ⟨a1, len1, cap1, rfl⟩ := okWide_slice Tryz.underlying23 (hval 1 23 v1 rfl rfl)
  have k1 := h1
  have lt1 : ∀ x ∈ p1, x.block < W.heap.size := by obtain ⟨m, hm⟩ := k1; exact DataW.trod_lt m _ _ _ hm
  obtain ⟨fuel1, hf1⟩ := h1
  obtain ⟨x1, ⟨u1, e1, sl1⟩, w1⟩ := (op_slice Tryz.underlying23 (by kernel_rfl) (of_decide_eq_true (by kernel_rfl)) (op_map (fun x : S_api_Op => (x.Kind, (x.Path, (x.Data, (x.Version, (x.Owner, x.Turns)))))) (fun y => ⟨y.1, y.2.1, y.2.2.1, y.2.2.2.1, y.2.2.2.2.1, y.2.2.2.2.2⟩) (fun _ => rfl) (op_struct Tryz.underlying55 (by kernel_rfl) (opF_cons (by kernel_rfl) (by kernel_rfl) (op_int Tryz.underlying3) (opF_cons (by kernel_rfl) (by kernel_rfl) (op_string Tryz.underlying9) (opF_cons (by kernel_rfl) (by kernel_rfl) (op_string Tryz.underlying9) (opF_cons (by kernel_rfl) (by kernel_rfl) (op_int Tryz.underlying2) (opF_cons (by kernel_rfl) (by kernel_rfl) (op_int Tryz.underlying2) (opF_one (by kernel_rfl) (by kernel_rfl) (op_bool Tryz.underlying4)))))))))) hf1 (wt_each (j := 1) (t := 23) hsz rfl rfl)
  obtain rfl : u1 = .slice a1 len1 cap1 := by cases e1; rfl
  clear hA0 hval0 hsz0 hsz
  have ST := sep_start W [rSl k_api_Node (.slice a0 len0 cap0) x0, rSl k_api_Op (.slice a1 len1 cap1) x1, rTab Tryz.prog] (by intro r hr; simp only [List.mem_cons, List.not_mem_nil, or_false] at hr; rcases hr with rfl | rfl | rfl; all_goals first | exact sl0 | exact sl1 | exact tab_met hL)
  refine (c_cantonlaw08_MultiPieces _ x0 _ x1 ST (by simp) (by simp) (by simp) (pure_MultiPieces x0 x1 w0 w1)).mono fun e W' he => ?_
  cases e with
  | returned v =>
    obtain ⟨rfl, hs⟩ := he
    have bel := sep_below hs
    exact ⟨_, rfl, _, _, _, [], _, [], hW', trodAll_mk1 (shut_bool Tryz.underlying4 _), (trodAll_cons_mk (Below.trod multiPieces_laid (by kernel_rfl) (of_decide_eq_true (by kernel_rfl)) k0 bel lt0) (trodAll_cons_mk (Below.trod multiPieces_laid (by kernel_rfl) (of_decide_eq_true (by kernel_rfl)) k1 bel lt1) trodAll_mk0)), rfl, bel.frame _, fun h => by cases h⟩
  | _ => exact absurd he (by simp [Ret])
/-- The law MultiPieces is true at every input. -/
theorem multiPieces_holds : Rows.MultiPiecesSaid :=
  OpenClaim.holds_of_wide 7 Tryz.f7 rfl rfl rfl rfl rfl rfl rfl ⟨rfl, rfl, rfl, rfl, rfl⟩ rfl rfl rfl rfl rfl (by kernel_rfl) Tryz.func7 (by kernel_rfl)
    (of_decide_eq_true (by kernel_rfl)) (by unfold Func.isWrapper; first | (rw [if_pos (by decide +kernel)]; kernel_rfl) | (rw [if_neg (by decide +kernel)]; exact ⟨rfl, rfl⟩))
    (fun os started H enc _ => multiPieces_lifted os started H enc)
/-- THE TIED CARD of the law MultiPieces holds. -/
theorem multiPieces_card_holds : Rows.MultiPiecesCardSaid :=
  Claim7.holds_tied_plain_at .later [] [.data, .data, .data] true (true, "f3919e2ea0a777e168f7d4a744d6cfd609973f42c9815fab069d0cbf9dd6140f") false
    multiPieces_holds (fun _ h => by cases h) (by kernel_rfl) (fun _ h => by cases h) multiPieces_row_tie rfl ⟨rfl, rfl⟩ (by kernel_rfl) rfl
    (fun f fn hf hfn => by
      obtain rfl : f = 7 := Option.some.inj ((show Tryz.prog.funcNamed "canton/cantonlaw08.MultiPieces" = some 7 by kernel_rfl).symm.trans hf) |>.symm
      obtain rfl : fn = Tryz.f7 := (Option.some.inj (Tryz.func7.symm.trans hfn)).symm
      exact ⟨by kernel_rfl, fun j t ht => by
        rw [Tryz.params7] at ht
        have h3 : t = 22 ∨ t = 23 := by
          rcases j with _ | j
          · obtain rfl : t = 22 := by simpa using ht.symm
            simp
          rcases j with _ | j
          · obtain rfl : t = 23 := by simpa using ht.symm
            simp
          simp at ht
        rcases h3 with rfl | rfl
        · exact (show Tryz.prog.wantsStandIn 22 = false by kernel_rfl)
        · exact (show Tryz.prog.wantsStandIn 23 = false by kernel_rfl)⟩)
    (by kernel_rfl)
end Go.Proofs.YtgdfoajophpblaaGreatDoor
