/- The law NodesTurns is true at every input: the row, out of the walk and the pure law. -/
import Derived.Test.YtidapdacihcckaaDoorCards
import Derived.SevenTiedAt
import Derived.Test.YtidapdacihcckaaDoorTie
import Derived.Test.YtidapdacihcckaaDoorQLtu
import Derived.Test.YtidapdacihcckaaDoorQ14tu
set_option linter.unusedVariables false
set_option linter.unusedSimpArgs false
namespace Go.Proofs.YtidapdacihcckaaDoor
open Go.Cb Go.ChangeShapes Go.WideShapes Go.ChangeAt Go.RowKit
open Go.ChangeMaps (open_string shut_string)
theorem pure_NodesTurns (a0 : (List S_api_Node)) (a1 : ByteArray) (a2 : (List S_api_Op)) (h0 : InL (fun x => (InS ((x).Path)) ∧ ((InS ((x).Data)) ∧ ((InI .i64 ((x).Version)) ∧ ((InI .i64 ((x).Turn)) ∧ (InI .i64 ((x).Owner)))))) (a0)) (h1 : InS (a1)) (h2 : InL (fun x => (InI .i64 ((x).Kind)) ∧ ((InS ((x).Path)) ∧ ((InS ((x).Data)) ∧ ((InI .i64 ((x).Version)) ∧ ((InI .i64 ((x).Owner)) ∧ (True)))))) (a2)) : m_cantonlaw06_NodesTurns a0 a1 a2 = some true := pure_turns a0 a1 a2 h0.1 h2.1
theorem nodesTurns_own : ownKnob Tryd.prog.godebug = none := by kernel_rfl
theorem nodesTurns_laid : laidOutB Tryd.prog = true := by kernel_rfl
set_option maxRecDepth 100000 in
theorem nodesTurns_lifted (os : Os) (started : os.Started) (H : Type) (enc : TypeId × Value → H) :
    ReturnsInHanded {} Tryd.checked os 6 .any (fun w args => (Rows.nodesTurnsSpec.pre enc Tryd.prog Tryd.f6 Rows.nodesTurnsRow.domain false w args ∧ laidMet Tryd.prog laidL w) ∧ sizedMet enc Tryd.prog Tryd.f6 (OpenSpec.ofChange Rows.nodesTurnsSpec) false w args) (Rows.nodesTurnsSpec.post enc Tryd.prog Tryd.f6 false true false false) := by
  refine returnsInHanded_of_change_and (C := Tryd.checked) (X := fun w _ => laidMet Tryd.prog laidL w) (fun _ _ _ hh h => h.of_heap hh) nodesTurns_own started (by kernel_rfl) Tryd.func6
    (ChangeSpec.witness_at (enc := enc) (C := Tryd.checked) (os := os) (X := fun w _ => laidMet Tryd.prog laidL w) false (laidWorld os) #[.slice none 0 0, .string ByteArray.empty, .slice none 0 0] 8 rfl (by kernel_rfl) (by kernel_rfl) (by kernel_rfl) (by kernel_rfl) (by kernel_rfl) (laidWorld_met os _)) ?_
  intro W base args ds gs before hval0 hW hcnd hsz0 hL _
  have hsz : (DataW.weightsEach Tryd.prog (Tryd.f6.params.toList ++ Rows.nodesTurnsSpec.plain.varTypes Tryd.prog) (ds ++ gs)).all (· ≤ reachBytes) = true := hsz0
  have hval : ∀ (j : Nat) t v, Tryd.f6.params[j]? = some t → args[j]? = some v → Value.okWide Tryd.prog W .any base t v := hval0
  have hW' := hW
  obtain ⟨p, q, hA0, hV, rfl, hfz, hnd⟩ := hW
  have hA : DataW.TrodAll enc Tryd.prog W 0 (fun _ => true) true Tryd.f6.params.toList args.toList ds p := hA0
  rw [Tryd.params6] at hA hval hsz
  obtain ⟨v0, vs0, d0, ds0, p0, q0, hargs, rfl, rfl, h0, r0⟩ := trodAll_cons hA
  obtain ⟨v1, vs1, d1, ds1, p1, q1, rfl, rfl, rfl, h1, r1⟩ := trodAll_cons r0
  obtain ⟨v2, vs2, d2, ds2, p2, q2, rfl, rfl, rfl, h2, r2⟩ := trodAll_cons r1
  obtain ⟨rfl, rfl, rfl⟩ := trodAll_nil r2
  obtain rfl : args = #[v0, v1, v2] := by cases args; simp_all
  obtain ⟨rfl, rfl⟩ := trodVars_none hV
  obtain ⟨a0, len0, cap0, rfl⟩ := okWide_slice Tryd.underlying22 (hval 0 22 v0 rfl rfl)
  have k0 := h0
  have lt0 : ∀ x ∈ p0, x.block < W.heap.size := by obtain ⟨m, hm⟩ := k0; exact DataW.trod_lt m _ _ _ hm
  obtain ⟨fuel0, hf0⟩ := h0
  obtain ⟨x0, ⟨u0, e0, sl0⟩, w0⟩ := (op_slice Tryd.underlying22 (by kernel_rfl) (of_decide_eq_true (by kernel_rfl)) (op_map (fun x : S_api_Node => (x.Path, (x.Data, (x.Version, (x.Turn, x.Owner))))) (fun y => ⟨y.1, y.2.1, y.2.2.1, y.2.2.2.1, y.2.2.2.2⟩) (fun _ => rfl) (op_struct Tryd.underlying39 (by kernel_rfl) (opF_cons (by kernel_rfl) (by kernel_rfl) (op_string Tryd.underlying9) (opF_cons (by kernel_rfl) (by kernel_rfl) (op_string Tryd.underlying9) (opF_cons (by kernel_rfl) (by kernel_rfl) (op_int Tryd.underlying2) (opF_cons (by kernel_rfl) (by kernel_rfl) (op_int Tryd.underlying2) (opF_one (by kernel_rfl) (by kernel_rfl) (op_int Tryd.underlying2))))))))) hf0 (wt_each (j := 0) (t := 22) hsz rfl rfl)
  obtain rfl : u0 = .slice a0 len0 cap0 := by cases e0; rfl
  obtain ⟨x1, rfl, rfl, rfl, y1⟩ := open_string Tryd.underlying9 (hval 1 9 v1 rfl rfl) h1
  have w1 : InS x1 := by
    have z := sized_string hsz (j := 1) (t := 9) rfl rfl
    rw [Array.length_toList] at z
    exact z
  obtain ⟨a2, len2, cap2, rfl⟩ := okWide_slice Tryd.underlying44 (hval 2 44 v2 rfl rfl)
  have k2 := h2
  have lt2 : ∀ x ∈ p2, x.block < W.heap.size := by obtain ⟨m, hm⟩ := k2; exact DataW.trod_lt m _ _ _ hm
  obtain ⟨fuel2, hf2⟩ := h2
  obtain ⟨x2, ⟨u2, e2, sl2⟩, w2⟩ := (op_slice Tryd.underlying44 (by kernel_rfl) (of_decide_eq_true (by kernel_rfl)) (op_map (fun x : S_api_Op => (x.Kind, (x.Path, (x.Data, (x.Version, (x.Owner, x.Turns)))))) (fun y => ⟨y.1, y.2.1, y.2.2.1, y.2.2.2.1, y.2.2.2.2.1, y.2.2.2.2.2⟩) (fun _ => rfl) (op_struct Tryd.underlying24 (by kernel_rfl) (opF_cons (by kernel_rfl) (by kernel_rfl) (op_int Tryd.underlying3) (opF_cons (by kernel_rfl) (by kernel_rfl) (op_string Tryd.underlying9) (opF_cons (by kernel_rfl) (by kernel_rfl) (op_string Tryd.underlying9) (opF_cons (by kernel_rfl) (by kernel_rfl) (op_int Tryd.underlying2) (opF_cons (by kernel_rfl) (by kernel_rfl) (op_int Tryd.underlying2) (opF_one (by kernel_rfl) (by kernel_rfl) (op_bool Tryd.underlying4)))))))))) hf2 (wt_each (j := 2) (t := 44) hsz rfl rfl)
  obtain rfl : u2 = .slice a2 len2 cap2 := by cases e2; rfl
  clear hA0 hval0 hsz0 hsz
  have ST := sep_start W [rSl k_api_Node (.slice a0 len0 cap0) x0, rSl k_api_Op (.slice a2 len2 cap2) x2, rTab Tryd.prog] (by intro r hr; simp only [List.mem_cons, List.not_mem_nil, or_false] at hr; rcases hr with rfl | rfl | rfl; all_goals first | exact sl0 | exact sl2 | exact tab_met hL)
  refine (c_cantonlaw06_NodesTurns _ x0 x1 _ x2 ST (by simp) (by simp) (by simp) (pure_NodesTurns x0 x1 x2 w0 w1 w2)).mono fun e W' he => ?_
  cases e with
  | returned v =>
    obtain ⟨rfl, hs⟩ := he
    have bel := sep_below hs
    exact ⟨_, rfl, _, _, _, [], _, [], hW', trodAll_mk1 (shut_bool Tryd.underlying4 _), (trodAll_cons_mk (Below.trod nodesTurns_laid (by kernel_rfl) (of_decide_eq_true (by kernel_rfl)) k0 bel lt0) (trodAll_cons_mk (shut_string Tryd.underlying9 y1) (trodAll_cons_mk (Below.trod nodesTurns_laid (by kernel_rfl) (of_decide_eq_true (by kernel_rfl)) k2 bel lt2) trodAll_mk0))), rfl, bel.frame _, fun h => by cases h⟩
  | _ => exact absurd he (by simp [Ret])
/-- The law NodesTurns is true at every input. -/
theorem nodesTurns_holds : Rows.NodesTurnsSaid :=
  OpenClaim.holds_of_wide 6 Tryd.f6 rfl rfl rfl rfl rfl rfl rfl ⟨rfl, rfl, rfl, rfl, rfl⟩ rfl rfl rfl rfl rfl (by kernel_rfl) Tryd.func6 (by kernel_rfl)
    (of_decide_eq_true (by kernel_rfl)) (by unfold Func.isWrapper; first | (rw [if_pos (by decide +kernel)]; kernel_rfl) | (rw [if_neg (by decide +kernel)]; exact ⟨rfl, rfl⟩))
    (fun os started H enc _ => nodesTurns_lifted os started H enc)
/-- THE TIED CARD of the law NodesTurns holds. -/
theorem nodesTurns_card_holds : Rows.NodesTurnsCardSaid :=
  Claim7.holds_tied_plain_at .later [] [.data, .data, .data] true (true, "dd59aed65b1fcea1b13a2e11f0f6825f5795f01d617c47256c00544f94f2d4ca") false
    nodesTurns_holds (fun _ h => by cases h) (by kernel_rfl) (fun _ h => by cases h) nodesTurns_row_tie rfl ⟨rfl, rfl⟩ (by kernel_rfl) rfl
    (fun f fn hf hfn => by
      obtain rfl : f = 6 := Option.some.inj ((show Tryd.prog.funcNamed "canton/cantonlaw06.NodesTurns" = some 6 by kernel_rfl).symm.trans hf) |>.symm
      obtain rfl : fn = Tryd.f6 := (Option.some.inj (Tryd.func6.symm.trans hfn)).symm
      exact ⟨by kernel_rfl, fun j t ht => by
        rw [Tryd.params6] at ht
        have h3 : t = 22 ∨ t = 9 ∨ t = 44 := by
          rcases j with _ | j
          · obtain rfl : t = 22 := by simpa using ht.symm
            simp
          rcases j with _ | j
          · obtain rfl : t = 9 := by simpa using ht.symm
            simp
          rcases j with _ | j
          · obtain rfl : t = 44 := by simpa using ht.symm
            simp
          simp at ht
        rcases h3 with rfl | rfl | rfl
        · exact (show Tryd.prog.wantsStandIn 22 = false by kernel_rfl)
        · exact (show Tryd.prog.wantsStandIn 9 = false by kernel_rfl)
        · exact (show Tryd.prog.wantsStandIn 44 = false by kernel_rfl)⟩)
    (by kernel_rfl)
end Go.Proofs.YtidapdacihcckaaDoor
