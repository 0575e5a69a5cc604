/- The law ShardRuns is true at every input: the row, out of the walk and the pure law. -/
import Derived.Test.YteakhlfapjaodaaGreatDoorCards
import Derived.SevenTiedAt
import Derived.Test.YteakhlfapjaodaaGreatDoorTie
import Derived.Test.YteakhlfapjaodaaGreatDoorQLsr
import Derived.Test.YteakhlfapjaodaaGreatDoorRfShardRunssr
import Derived.Test.YteakhlfapjaodaaGreatDoorD5rsr
set_option linter.unusedVariables false
set_option linter.unusedSimpArgs false
namespace Go.Proofs.YteakhlfapjaodaaGreatDoor
open Go.Cb Go.ChangeShapes Go.WideShapes Go.ChangeAt Go.RowKit
open Go.ChangeMaps (open_string shut_string)
theorem Kf(a0:aF)(a1:(List bV))(a2:Int)(h0:(InL (fun x=>(InS ((x).Path))∧((InS ((x).Data))∧((InI .i64 ((x).Version))∧((InI .i64 ((x).Turn))∧(InI .i64 ((x).Owner)))))) ((a0).Nodes))∧(InL (fun x=>(InS ((x).Dir))∧(InI .i64 ((x).Next))) ((a0).Turns)))(h1:InL (fun x=>(InI .i64 ((x).Op))∧((InI .i64 (((x).Part).Kind))∧((InS (((x).Part).Dir))∧((InS (((x).Part).Path))∧((InS (((x).Part).Data))∧((InI .i64 (((x).Part).Version))∧((InI .i64 (((x).Part).Owner))∧(True)))))))) (a1))(h2:InI .i64 (a2)):mU a0 a1 a2=some true:=Sx a0 a1 a2 h0.1.1 h0.2.1
theorem Lv:ownKnob Tryz.prog.godebug=none:=by kernel_rfl
theorem Z1:laidOutB Tryz.prog=true:=by kernel_rfl
set_option maxRecDepth 100000 in
theorem Gu(os:Os)(started:os.Started)(H:Type)(enc:TypeId×Value→H) :
    ReturnsInHanded {} Tryz.checked os 3 .any (fun w args=>(Rows.shardRunsSpec.pre enc Tryz.prog Tryz.f3 Rows.shardRunsRow.domain false w args∧laidMet Tryz.prog Ic w)∧sizedMet enc Tryz.prog Tryz.f3 (OpenSpec.ofChange Rows.shardRunsSpec) false w args) (Rows.shardRunsSpec.post enc Tryz.prog Tryz.f3 false true false false):=by
  refine returnsInHanded_of_change_and (C:=Tryz.checked) (X:=fun w _=>laidMet Tryz.prog Ic w) (fun _ _ _ hh h=>h.of_heap hh) Lv started (by kernel_rfl) Tryz.func3
    (ChangeSpec.witness_at (enc:=enc) (C:=Tryz.checked) (os:=os) (X:=fun w _=>laidMet Tryz.prog Ic w) false (laidWorld os) #[.agg #[.slice none 0 0,.slice none 0 0],.slice none 0 0,.int .i64 0] 8 rfl (by kernel_rfl) (by kernel_rfl) (by kernel_rfl) (by kernel_rfl) (by kernel_rfl) (Lj os _)) ?_
  intro W base args ds gs before hval0 hW hcnd hsz0 hL _
  have hsz:(DataW.weightsEach Tryz.prog (Tryz.f3.params.toList ++ Rows.shardRunsSpec.plain.varTypes Tryz.prog) (ds ++ gs)).all (· ≤ reachBytes)=true:=hsz0
  have hval:∀ (j:Nat) t v,Tryz.f3.params[j]? =some t→args[j]? =some v→Value.okWide Tryz.prog W .any base t v:=hval0
  have hW':=hW
  obtain ⟨p,q,hA0,hV,rfl,hfz,hnd⟩:=hW
  have hA:DataW.TrodAll enc Tryz.prog W 0 (fun _=>true) true Tryz.f3.params.toList args.toList ds p:=hA0
  rw [Tryz.params3] at hA hval hsz
  obtain ⟨v0,vs0,d0,ds0,p0,q0,hargs,rfl,rfl,h0,r0⟩:=trodAll_cons hA
  obtain ⟨v1,vs1,d1,ds1,p1,q1,rfl,rfl,rfl,h1,r1⟩:=trodAll_cons r0
  obtain ⟨v2,vs2,d2,ds2,p2,q2,rfl,rfl,rfl,h2,r2⟩:=trodAll_cons r1
  obtain ⟨rfl,rfl,rfl⟩:=trodAll_nil r2
  obtain rfl:args= #[v0,v1,v2]:=by cases args;simp_all
  obtain ⟨rfl,rfl⟩:=trodVars_none hV
  obtain ⟨ca0,rfl,hcs0⟩:=okWide_struct Tryz.underlying25 (hval 0 25 v0 rfl rfl)
  have k0:=h0
  have lt0:∀ x ∈ p0,x.block < W.heap.size:=by obtain ⟨m,hm⟩:=k0;exact DataW.trod_lt m _ _ _ hm
  obtain ⟨fuel0,hf0⟩:=h0
  obtain ⟨x0,hR0,w0⟩:=(Bo (fun x:aF=>(x.Nodes,x.Turns)) (fun y=>⟨y.1,y.2⟩) (fun _=>rfl) (G9 Tryz.underlying25 (by kernel_rfl) (qX (by kernel_rfl) (by kernel_rfl) (Ff Tryz.underlying22 (by kernel_rfl) (of_decide_eq_true (by kernel_rfl)) (Bo (fun x:aD=>(x.Path,(x.Data,(x.Version,(x.Turn,x.Owner))))) (fun y=>⟨y.1,y.2.1,y.2.2.1,y.2.2.2.1,y.2.2.2.2⟩) (fun _=>rfl) (G9 Tryz.underlying107 (by kernel_rfl) (qX (by kernel_rfl) (by kernel_rfl) (A9 Tryz.underlying9) (qX (by kernel_rfl) (by kernel_rfl) (A9 Tryz.underlying9) (qX (by kernel_rfl) (by kernel_rfl) (G8 Tryz.underlying2) (qX (by kernel_rfl) (by kernel_rfl) (G8 Tryz.underlying2) (U7 (by kernel_rfl) (by kernel_rfl) (G8 Tryz.underlying2))))))))) (U7 (by kernel_rfl) (by kernel_rfl) (Ff Tryz.underlying23 (by kernel_rfl) (of_decide_eq_true (by kernel_rfl)) (Bo (fun x:aJ=>(x.Dir,x.Next)) (fun y=>⟨y.1,y.2⟩) (fun _=>rfl) (G9 Tryz.underlying89 (by kernel_rfl) (qX (by kernel_rfl) (by kernel_rfl) (A9 Tryz.underlying9) (U7 (by kernel_rfl) (by kernel_rfl) (G8 Tryz.underlying2)))))))))) hf0 (Qe (j:=0) (t:=25) hsz rfl rfl)
  obtain ⟨sv0_1,sv0_2,he0,sl0_1,sl0_2⟩:=M4 hR0
  obtain rfl:ca0= #[sv0_1,sv0_2]:=by have h0:ca0.toList= [sv0_1,sv0_2]:=he0;rw [← Array.toArray_toList (xs:=ca0),h0]
  obtain ⟨a1,len1,cap1,rfl⟩:=okWide_slice Tryz.underlying26 (hval 1 26 v1 rfl rfl)
  have k1:=h1
  have lt1:∀ x ∈ p1,x.block < W.heap.size:=by obtain ⟨m,hm⟩:=k1;exact DataW.trod_lt m _ _ _ hm
  obtain ⟨fuel1,hf1⟩:=h1
  obtain ⟨x1,⟨u1,e1,sl1⟩,w1⟩:=(Ff Tryz.underlying26 (by kernel_rfl) (of_decide_eq_true (by kernel_rfl)) (Bo (fun x:bV=>(x.Op,x.Part)) (fun y=>⟨y.1,y.2⟩) (fun _=>rfl) (G9 Tryz.underlying99 (by kernel_rfl) (qX (by kernel_rfl) (by kernel_rfl) (G8 Tryz.underlying3) (U7 (by kernel_rfl) (by kernel_rfl) (Bo (fun x:aQ=>(x.Kind,(x.Dir,(x.Path,(x.Data,(x.Version,(x.Owner,x.Turns))))))) (fun y=>⟨y.1,y.2.1,y.2.2.1,y.2.2.2.1,y.2.2.2.2.1,y.2.2.2.2.2.1,y.2.2.2.2.2.2⟩) (fun _=>rfl) (G9 Tryz.underlying97 (by kernel_rfl) (qX (by kernel_rfl) (by kernel_rfl) (G8 Tryz.underlying3) (qX (by kernel_rfl) (by kernel_rfl) (A9 Tryz.underlying9) (qX (by kernel_rfl) (by kernel_rfl) (A9 Tryz.underlying9) (qX (by kernel_rfl) (by kernel_rfl) (A9 Tryz.underlying9) (qX (by kernel_rfl) (by kernel_rfl) (G8 Tryz.underlying2) (qX (by kernel_rfl) (by kernel_rfl) (G8 Tryz.underlying2) (U7 (by kernel_rfl) (by kernel_rfl) (Yo Tryz.underlying4))))))))))))))) hf1 (Qe (j:=1) (t:=26) hsz rfl rfl)
  obtain rfl:u1= .slice a1 len1 cap1:=by cases e1;rfl
  obtain ⟨x2,rfl,rfl,rfl,y2⟩:=open_int Tryz.underlying2 (hval 2 2 v2 rfl rfl) h2
  have w2:InI .i64 x2:=by
    have z:=y2
    simp only [Lit.wf,Bool.and_eq_true,decide_eq_true_eq] at z
    exact z
  clear hA0 hval0 hsz0 hsz
  have ST:=Ta W [rSl aB sv0_1 x0.Nodes,rSl aC sv0_2 x0.Turns,rSl bN (.slice a1 len1 cap1) x1,y7 Tryz.prog] (by intro r hr;simp only [List.mem_cons,List.not_mem_nil,or_false] at hr;rcases hr with rfl | rfl | rfl | rfl;all_goals first | exact sl0_1 | exact sl0_2 | exact sl1 | exact Zy hL)
  refine (O4 ST (by simp) (by simp) (by simp) (by simp) (Kf x0 x1 x2 w0 w1 w2)).mono fun e W' he=>?_
  cases e with
  | returned v=>
    obtain ⟨rfl,hs⟩:=he
    have bel:=Tc hs
    exact ⟨_,rfl,_,_,_,[],_,[],hW',trodAll_mk1 (shut_bool Tryz.underlying4 _),(trodAll_cons_mk (Below.trod Z1 (by kernel_rfl) (of_decide_eq_true (by kernel_rfl)) k0 bel lt0) (trodAll_cons_mk (Below.trod Z1 (by kernel_rfl) (of_decide_eq_true (by kernel_rfl)) k1 bel lt1) (trodAll_cons_mk (shut_int Tryz.underlying2 y2) trodAll_mk0))),rfl,bel.frame _,fun h=>by cases h⟩
  | _=>exact absurd he (by simp [Ret])
set_option maxHeartbeats 40000000 in
/-- The law ShardRuns is true at every input. -/
theorem shardRuns_holds:Rows.ShardRunsSaid:=
  OpenClaim.holds_of_wide 3 Tryz.f3 rfl rfl rfl rfl rfl rfl rfl ⟨rfl,rfl,rfl,rfl,rfl⟩ rfl rfl rfl rfl rfl (by as_aux_lemma=>kernel_rfl) Tryz.func3 Ie
    (of_decide_eq_true (by as_aux_lemma=>kernel_rfl)) (by unfold Func.isWrapper;first | (rw [if_pos (by decide +kernel)];kernel_rfl) | (rw [if_neg (by decide +kernel)];exact ⟨rfl,rfl⟩))
    (fun os started H enc _=>Gu os started H enc)
set_option maxHeartbeats 40000000 in
/-- THE TIED CARD of the law ShardRuns holds. -/
theorem shardRuns_card_holds:Rows.ShardRunsCardSaid:=
  Claim7.holds_tied_plain_at .later [] [.data,.data,.data] true (true, "da42a9d1bc9c293812b3729625ef3243b95bf2ffd826cb751e7fab4e7ea82861") false
    shardRuns_holds (fun _ h=>by cases h) (by as_aux_lemma=>kernel_rfl) (fun _ h=>by cases h) shardRuns_row_tie rfl ⟨rfl,rfl⟩ (by as_aux_lemma=>kernel_rfl) rfl
    (fun f fn hf hfn=>by
      obtain rfl:f=3:=Option.some.inj ((show Tryz.prog.funcNamed "canton/cantonlaw13.ShardRuns" =some 3 by as_aux_lemma=>kernel_rfl).symm.trans hf) |>.symm
      obtain rfl:fn=Tryz.f3:=(Option.some.inj (Tryz.func3.symm.trans hfn)).symm
      exact ⟨by as_aux_lemma=>kernel_rfl,fun j t ht=>by
        rw [Tryz.params3] at ht
        have h3:t=25∨t=26∨t=2:=by
          rcases j with _ | j
          · obtain rfl:t=25:=by simpa using ht.symm
            simp
          rcases j with _ | j
          · obtain rfl:t=26:=by simpa using ht.symm
            simp
          rcases j with _ | j
          · obtain rfl:t=2:=by simpa using ht.symm
            simp
          simp at ht
        rcases h3 with rfl | rfl | rfl
        · exact (show Tryz.prog.wantsStandIn 25=false by as_aux_lemma=>kernel_rfl)
        · exact (show Tryz.prog.wantsStandIn 26=false by as_aux_lemma=>kernel_rfl)
        · exact (show Tryz.prog.wantsStandIn 2=false by as_aux_lemma=>kernel_rfl)⟩)
    (by as_aux_lemma=>kernel_rfl)
end Go.Proofs.YteakhlfapjaodaaGreatDoor
