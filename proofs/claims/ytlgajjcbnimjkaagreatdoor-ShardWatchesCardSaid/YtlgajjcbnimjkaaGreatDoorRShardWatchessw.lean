/- The law ShardWatches is true at every input: the row, out of the walk and the pure law. -/
import Derived.Test.YtlgajjcbnimjkaaGreatDoorCards
import Derived.SevenTiedAt
import Derived.Test.YtlgajjcbnimjkaaGreatDoorTie
import Derived.Test.YtlgajjcbnimjkaaGreatDoorQLsw
import Derived.Test.YtlgajjcbnimjkaaGreatDoorRfShardWatchessw
import Derived.Test.YtlgajjcbnimjkaaGreatDoorW5sw
set_option linter.unusedVariables false
set_option linter.unusedSimpArgs false
namespace Go.Proofs.YtlgajjcbnimjkaaGreatDoor
open Go.Cb Go.ChangeShapes Go.WideShapes Go.ChangeAt Go.RowKit
open Go.ChangeMaps (open_string shut_string)
theorem Cr(a0:(List dE))(h0:InL (fun x=>(InI .i64 ((x).Kind))∧((InS ((x).Path))∧((InS ((x).Data))∧((InI .i64 ((x).Version))∧((InI .i64 ((x).Owner))∧(True)))))) (a0)):jV a0=some true:=Jf a0
theorem Ey:ownKnob Tryz.prog.godebug=none:=by kernel_rfl
theorem Cs:laidOutB Tryz.prog=true:=by kernel_rfl
set_option maxRecDepth 100000 in
theorem Z8(os:Os)(started:os.Started)(H:Type)(enc:TypeId×Value→H) :
    ReturnsInHanded {} Tryz.checked os 3 .any (fun w args=>(Rows.shardWatchesSpec.pre enc Tryz.prog Tryz.f3 Rows.shardWatchesRow.domain false w args∧laidMet Tryz.prog Ga w)∧sizedMet enc Tryz.prog Tryz.f3 (OpenSpec.ofChange Rows.shardWatchesSpec) false w args) (Rows.shardWatchesSpec.post enc Tryz.prog Tryz.f3 false true false false):=by
  refine returnsInHanded_of_change_and (C:=Tryz.checked) (X:=fun w _=>laidMet Tryz.prog Ga w) (fun _ _ _ hh h=>h.of_heap hh) Ey started (by kernel_rfl) Tryz.func3
    (ChangeSpec.witness_at (enc:=enc) (C:=Tryz.checked) (os:=os) (X:=fun w _=>laidMet Tryz.prog Ga w) false (laidWorld os) #[.slice none 0 0] 8 rfl (by kernel_rfl) (by kernel_rfl) (by kernel_rfl) (by kernel_rfl) (by kernel_rfl) (Iw os _)) ?_
  intro W base args ds gs before hval0 hW hcnd hsz0 hL _
  have hsz:(DataW.weightsEach Tryz.prog (Tryz.f3.params.toList ++ Rows.shardWatchesSpec.plain.varTypes Tryz.prog) (ds ++ gs)).all (· ≤ reachBytes)=true:=hsz0
  have hval:∀ (j:Nat) t v,Tryz.f3.params[j]? =some t→args[j]? =some v→Value.okWide Tryz.prog W .any base t v:=hval0
  have hW':=hW
  obtain ⟨p,q,hA0,hV,rfl,hfz,hnd⟩:=hW
  have hA:DataW.TrodAll enc Tryz.prog W 0 (fun _=>true) true Tryz.f3.params.toList args.toList ds p:=hA0
  rw [Tryz.params3] at hA hval hsz
  obtain ⟨v0,vs0,d0,ds0,p0,q0,hargs,rfl,rfl,h0,r0⟩:=trodAll_cons hA
  obtain ⟨rfl,rfl,rfl⟩:=trodAll_nil r0
  obtain rfl:args= #[v0]:=by cases args;simp_all
  obtain ⟨rfl,rfl⟩:=trodVars_none hV
  obtain ⟨a0,len0,cap0,rfl⟩:=okWide_slice Tryz.underlying22 (hval 0 22 v0 rfl rfl)
  have k0:=h0
  have lt0:∀ x ∈ p0,x.block < W.heap.size:=by obtain ⟨m,hm⟩:=k0;exact DataW.trod_lt m _ _ _ hm
  obtain ⟨fuel0,hf0⟩:=h0
  obtain ⟨x0,⟨u0,e0,sl0⟩,w0⟩:=(Ug Tryz.underlying22 (by kernel_rfl) (of_decide_eq_true (by kernel_rfl)) (AY (fun x:dE=>(x.Kind,(x.Path,(x.Data,(x.Version,(x.Owner,x.Turns)))))) (fun y=>⟨y.1,y.2.1,y.2.2.1,y.2.2.2.1,y.2.2.2.2.1,y.2.2.2.2.2⟩) (fun _=>rfl) (Rh Tryz.underlying45 (by kernel_rfl) (K1 (by kernel_rfl) (by kernel_rfl) (Kg Tryz.underlying3) (K1 (by kernel_rfl) (by kernel_rfl) (Hw Tryz.underlying9) (K1 (by kernel_rfl) (by kernel_rfl) (Hw Tryz.underlying9) (K1 (by kernel_rfl) (by kernel_rfl) (Kg Tryz.underlying2) (K1 (by kernel_rfl) (by kernel_rfl) (Kg Tryz.underlying2) (Yi (by kernel_rfl) (by kernel_rfl) (Yh Tryz.underlying4)))))))))) hf0 (Yj (j:=0) (t:=22) hsz rfl rfl)
  obtain rfl:u0= .slice a0 len0 cap0:=by cases e0;rfl
  clear hA0 hval0 hsz0 hsz
  have ST:=Ri W [rSl sX (.slice a0 len0 cap0) x0,x4 Tryz.prog] (by intro r hr;simp only [List.mem_cons,List.not_mem_nil,or_false] at hr;rcases hr with rfl | rfl;all_goals first | exact sl0 | exact Zf hL)
  refine (I2 ST (by simp) (by simp) (Cr x0 w0)).mono fun e W' he=>?_
  cases e with
  | returned v=>
    obtain ⟨rfl,hs⟩:=he
    have bel:=Rj hs
    exact ⟨_,rfl,_,_,_,[],_,[],hW',trodAll_mk1 (shut_bool Tryz.underlying4 _),(trodAll_cons_mk (Below.trod Cs (by kernel_rfl) (of_decide_eq_true (by kernel_rfl)) k0 bel lt0) trodAll_mk0),rfl,bel.frame _,fun h=>by cases h⟩
  | _=>exact absurd he (by simp [Ret])
set_option maxHeartbeats 40000000 in
/-- The law ShardWatches is true at every input. -/
theorem shardWatches_holds:Rows.ShardWatchesSaid:=
  OpenClaim.holds_of_wide 3 Tryz.f3 rfl rfl rfl rfl rfl rfl rfl ⟨rfl,rfl,rfl,rfl,rfl⟩ rfl rfl rfl rfl rfl (by as_aux_lemma=>kernel_rfl) Tryz.func3 Ai
    (of_decide_eq_true (by as_aux_lemma=>kernel_rfl)) (by unfold Func.isWrapper;first | (rw [if_pos (by decide +kernel)];kernel_rfl) | (rw [if_neg (by decide +kernel)];exact ⟨rfl,rfl⟩))
    (fun os started H enc _=>Z8 os started H enc)
set_option maxHeartbeats 40000000 in
/-- THE TIED CARD of the law ShardWatches holds. -/
theorem shardWatches_card_holds:Rows.ShardWatchesCardSaid:=
  Claim7.holds_tied_plain_at .later [] [.data,.data,.data] true (true, "b3f3f221ddcc8f76910a317fcd8cc9acece0e0313dc59813852428ed9d599460") false
    shardWatches_holds (fun _ h=>by cases h) (by as_aux_lemma=>kernel_rfl) (fun _ h=>by cases h) shardWatches_row_tie rfl ⟨rfl,rfl⟩ (by as_aux_lemma=>kernel_rfl) rfl
    (fun f fn hf hfn=>by
      obtain rfl:f=3:=Option.some.inj ((show Tryz.prog.funcNamed "canton/cantonlaw13.ShardWatches" =some 3 by as_aux_lemma=>kernel_rfl).symm.trans hf) |>.symm
      obtain rfl:fn=Tryz.f3:=(Option.some.inj (Tryz.func3.symm.trans hfn)).symm
      exact ⟨by as_aux_lemma=>kernel_rfl,fun j t ht=>by
        rw [Tryz.params3] at ht
        have h3:t=22:=by
          rcases j with _ | j
          · obtain rfl:t=22:=by simpa using ht.symm
            simp
          simp at ht
        rcases h3 with rfl
        · exact (show Tryz.prog.wantsStandIn 22=false by as_aux_lemma=>kernel_rfl)⟩)
    (by as_aux_lemma=>kernel_rfl)
end Go.Proofs.YtlgajjcbnimjkaaGreatDoor
