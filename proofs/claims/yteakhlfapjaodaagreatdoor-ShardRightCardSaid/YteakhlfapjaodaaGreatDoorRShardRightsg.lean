/- The law ShardRight is true at every input: the row, out of the walk and the pure law. -/
import Derived.Test.YteakhlfapjaodaaGreatDoorCards
import Derived.SevenTiedAt
import Derived.Test.YteakhlfapjaodaaGreatDoorTie
import Derived.Test.YteakhlfapjaodaaGreatDoorQLsg
import Derived.Test.YteakhlfapjaodaaGreatDoorRfShardRightsg
import Derived.Test.YteakhlfapjaodaaGreatDoorECsg
set_option linter.unusedVariables false
set_option linter.unusedSimpArgs false
namespace Go.Proofs.YteakhlfapjaodaaGreatDoor
open Go.Cb Go.ChangeShapes Go.WideShapes Go.ChangeAt Go.RowKit
open Go.ChangeMaps (open_string shut_string)
theorem Pj(a0:aR)(a1:(List aF))(a2:(List aK))(h0:(InL (fun x=>(InS ((x).Path))∧((InS ((x).Data))∧((InI .i64 ((x).Version))∧((InI .i64 ((x).Turn))∧(InI .i64 ((x).Owner)))))) ((a0).Nodes))∧(InL (fun x=>(InS ((x).Dir))∧(InI .i64 ((x).Next))) ((a0).Turns)))(h1:InL (fun x=>(InS ((x).Prefix))∧((InI .i64 ((x).Epoch))∧(InI .i64 ((x).State)))) (a1))(h2:InL (fun x=>(InI .i64 ((x).Kind))∧((InI .i64 ((x).Id))∧((InI .i64 ((x).Txn))∧((InI .i64 ((x).Age))∧((True)∧((InL (fun x=>(InI .i64 ((x).Op))∧((InI .i64 (((x).Part).Kind))∧((InS (((x).Part).Dir))∧((InS (((x).Part).Path))∧((InS (((x).Part).Data))∧((InI .i64 (((x).Part).Version))∧((InI .i64 (((x).Part).Owner))∧(True)))))))) ((x).Pieces))∧((InS ((x).Prefix))∧((InI .i64 ((x).Epoch))∧((InI .i64 ((x).To))∧(((InL (fun x=>(InS ((x).Path))∧((InS ((x).Data))∧((InI .i64 ((x).Version))∧((InI .i64 ((x).Turn))∧(InI .i64 ((x).Owner)))))) (((x).Store).Nodes))∧(InL (fun x=>(InS ((x).Dir))∧(InI .i64 ((x).Next))) (((x).Store).Turns)))∧((InL (fun x=>InS (x)) ((x).Gone))∧((InI .i64 (((x).Watch).Session))∧((InI .i64 (((x).Watch).Num))∧((InS (((x).Watch).Path))∧(True))))))))))))))) (a2)):pC a0 a1 a2=some true:=Ww a0 a1 a2 h0.1.1 h0.2.1 h1.1 (fun x hx=>(h2.2 x hx).2.2.2.2.2.2.2.2.2.1.1.1)
theorem Qp:ownKnob Tryz.prog.godebug=none:=by kernel_rfl
theorem R5:laidOutB Tryz.prog=true:=by kernel_rfl
set_option maxRecDepth 100000 in
theorem Ku(os:Os)(started:os.Started)(H:Type)(enc:TypeId×Value→H) :
    ReturnsInHanded {} Tryz.checked os 6 .any (fun w args=>(Rows.shardRightSpec.pre enc Tryz.prog Tryz.f6 Rows.shardRightRow.domain false w args∧laidMet Tryz.prog On w)∧sizedMet enc Tryz.prog Tryz.f6 (OpenSpec.ofChange Rows.shardRightSpec) false w args) (Rows.shardRightSpec.post enc Tryz.prog Tryz.f6 false true false false):=by
  refine returnsInHanded_of_change_and (C:=Tryz.checked) (X:=fun w _=>laidMet Tryz.prog On w) (fun _ _ _ hh h=>h.of_heap hh) Qp started (by kernel_rfl) Tryz.func6
    (ChangeSpec.witness_at (enc:=enc) (C:=Tryz.checked) (os:=os) (X:=fun w _=>laidMet Tryz.prog On w) false (laidWorld os) #[.agg #[.slice none 0 0,.slice none 0 0],.slice none 0 0,.slice none 0 0] 8 rfl (by kernel_rfl) (by kernel_rfl) (by kernel_rfl) (by kernel_rfl) (by kernel_rfl) (Rv os _)) ?_
  intro W base args ds gs before hval0 hW hcnd hsz0 hL _
  have hsz:(DataW.weightsEach Tryz.prog (Tryz.f6.params.toList ++ Rows.shardRightSpec.plain.varTypes Tryz.prog) (ds ++ gs)).all (· ≤ reachBytes)=true:=hsz0
  have hval:∀ (j:Nat) t v,Tryz.f6.params[j]? =some t→args[j]? =some v→Value.okWide Tryz.prog W .any base t v:=hval0
  have hW':=hW
  obtain ⟨p,q,hA0,hV,rfl,hfz,hnd⟩:=hW
  have hA:DataW.TrodAll enc Tryz.prog W 0 (fun _=>true) true Tryz.f6.params.toList args.toList ds p:=hA0
  rw [Tryz.params6] at hA hval hsz
  obtain ⟨v0,vs0,d0,ds0,p0,q0,hargs,rfl,rfl,h0,r0⟩:=trodAll_cons hA
  obtain ⟨v1,vs1,d1,ds1,p1,q1,rfl,rfl,rfl,h1,r1⟩:=trodAll_cons r0
  obtain ⟨v2,vs2,d2,ds2,p2,q2,rfl,rfl,rfl,h2,r2⟩:=trodAll_cons r1
  obtain ⟨rfl,rfl,rfl⟩:=trodAll_nil r2
  obtain rfl:args= #[v0,v1,v2]:=by cases args;simp_all
  obtain ⟨rfl,rfl⟩:=trodVars_none hV
  obtain ⟨ca0,rfl,hcs0⟩:=okWide_struct Tryz.underlying25 (hval 0 25 v0 rfl rfl)
  have k0:=h0
  have lt0:∀ x ∈ p0,x.block < W.heap.size:=by obtain ⟨m,hm⟩:=k0;exact DataW.trod_lt m _ _ _ hm
  obtain ⟨fuel0,hf0⟩:=h0
  obtain ⟨x0,hR0,w0⟩:=(F9 (fun x:aR=>(x.Nodes,x.Turns)) (fun y=>⟨y.1,y.2⟩) (fun _=>rfl) (vI Tryz.underlying25 (by kernel_rfl) (eL (by kernel_rfl) (by kernel_rfl) (G1 Tryz.underlying22 (by kernel_rfl) (of_decide_eq_true (by kernel_rfl)) (F9 (fun x:aH=>(x.Path,(x.Data,(x.Version,(x.Turn,x.Owner))))) (fun y=>⟨y.1,y.2.1,y.2.2.1,y.2.2.2.1,y.2.2.2.2⟩) (fun _=>rfl) (vI Tryz.underlying107 (by kernel_rfl) (eL (by kernel_rfl) (by kernel_rfl) (rS Tryz.underlying9) (eL (by kernel_rfl) (by kernel_rfl) (rS Tryz.underlying9) (eL (by kernel_rfl) (by kernel_rfl) (pV Tryz.underlying2) (eL (by kernel_rfl) (by kernel_rfl) (pV Tryz.underlying2) (q7 (by kernel_rfl) (by kernel_rfl) (pV Tryz.underlying2))))))))) (q7 (by kernel_rfl) (by kernel_rfl) (G1 Tryz.underlying23 (by kernel_rfl) (of_decide_eq_true (by kernel_rfl)) (F9 (fun x:aL=>(x.Dir,x.Next)) (fun y=>⟨y.1,y.2⟩) (fun _=>rfl) (vI Tryz.underlying89 (by kernel_rfl) (eL (by kernel_rfl) (by kernel_rfl) (rS Tryz.underlying9) (q7 (by kernel_rfl) (by kernel_rfl) (pV Tryz.underlying2)))))))))) hf0 (Pn (j:=0) (t:=25) hsz rfl rfl)
  obtain ⟨sv0_1,sv0_2,he0,sl0_1,sl0_2⟩:=N2 hR0
  obtain rfl:ca0= #[sv0_1,sv0_2]:=by have h0:ca0.toList= [sv0_1,sv0_2]:=he0;rw [← Array.toArray_toList (xs:=ca0),h0]
  obtain ⟨a1,len1,cap1,rfl⟩:=okWide_slice Tryz.underlying32 (hval 1 32 v1 rfl rfl)
  have k1:=h1
  have lt1:∀ x ∈ p1,x.block < W.heap.size:=by obtain ⟨m,hm⟩:=k1;exact DataW.trod_lt m _ _ _ hm
  obtain ⟨fuel1,hf1⟩:=h1
  obtain ⟨x1,⟨u1,e1,sl1⟩,w1⟩:=(G1 Tryz.underlying32 (by kernel_rfl) (of_decide_eq_true (by kernel_rfl)) (F9 (fun x:aF=>(x.Prefix,(x.Epoch,x.State))) (fun y=>⟨y.1,y.2.1,y.2.2⟩) (fun _=>rfl) (vI Tryz.underlying31 (by kernel_rfl) (eL (by kernel_rfl) (by kernel_rfl) (rS Tryz.underlying9) (eL (by kernel_rfl) (by kernel_rfl) (pV Tryz.underlying2) (q7 (by kernel_rfl) (by kernel_rfl) (pV Tryz.underlying3))))))) hf1 (Pn (j:=1) (t:=32) hsz rfl rfl)
  obtain rfl:u1= .slice a1 len1 cap1:=by cases e1;rfl
  obtain ⟨a2,len2,cap2,rfl⟩:=okWide_slice Tryz.underlying54 (hval 2 54 v2 rfl rfl)
  have k2:=h2
  have lt2:∀ x ∈ p2,x.block < W.heap.size:=by obtain ⟨m,hm⟩:=k2;exact DataW.trod_lt m _ _ _ hm
  obtain ⟨fuel2,hf2⟩:=h2
  obtain ⟨x2,⟨u2,e2,sl2⟩,w2⟩:=(G1 Tryz.underlying54 (by kernel_rfl) (of_decide_eq_true (by kernel_rfl)) (F9 (fun x:aK=>(x.Kind,(x.Id,(x.Txn,(x.Age,(x.Yes,(x.Pieces,(x.Prefix,(x.Epoch,(x.To,(x.Store,(x.Gone,x.Watch)))))))))))) (fun y=>⟨y.1,y.2.1,y.2.2.1,y.2.2.2.1,y.2.2.2.2.1,y.2.2.2.2.2.1,y.2.2.2.2.2.2.1,y.2.2.2.2.2.2.2.1,y.2.2.2.2.2.2.2.2.1,y.2.2.2.2.2.2.2.2.2.1,y.2.2.2.2.2.2.2.2.2.2.1,y.2.2.2.2.2.2.2.2.2.2.2⟩) (fun _=>rfl) (vI Tryz.underlying37 (by kernel_rfl) (eL (by kernel_rfl) (by kernel_rfl) (pV Tryz.underlying3) (eL (by kernel_rfl) (by kernel_rfl) (pV Tryz.underlying2) (eL (by kernel_rfl) (by kernel_rfl) (pV Tryz.underlying2) (eL (by kernel_rfl) (by kernel_rfl) (pV Tryz.underlying2) (eL (by kernel_rfl) (by kernel_rfl) (Pm Tryz.underlying4) (eL (by kernel_rfl) (by kernel_rfl) (G1 Tryz.underlying26 (by kernel_rfl) (of_decide_eq_true (by kernel_rfl)) (F9 (fun x:cR=>(x.Op,x.Part)) (fun y=>⟨y.1,y.2⟩) (fun _=>rfl) (vI Tryz.underlying99 (by kernel_rfl) (eL (by kernel_rfl) (by kernel_rfl) (pV Tryz.underlying3) (q7 (by kernel_rfl) (by kernel_rfl) (F9 (fun x:bF=>(x.Kind,(x.Dir,(x.Path,(x.Data,(x.Version,(x.Owner,x.Turns))))))) (fun y=>⟨y.1,y.2.1,y.2.2.1,y.2.2.2.1,y.2.2.2.2.1,y.2.2.2.2.2.1,y.2.2.2.2.2.2⟩) (fun _=>rfl) (vI Tryz.underlying97 (by kernel_rfl) (eL (by kernel_rfl) (by kernel_rfl) (pV Tryz.underlying3) (eL (by kernel_rfl) (by kernel_rfl) (rS Tryz.underlying9) (eL (by kernel_rfl) (by kernel_rfl) (rS Tryz.underlying9) (eL (by kernel_rfl) (by kernel_rfl) (rS Tryz.underlying9) (eL (by kernel_rfl) (by kernel_rfl) (pV Tryz.underlying2) (eL (by kernel_rfl) (by kernel_rfl) (pV Tryz.underlying2) (q7 (by kernel_rfl) (by kernel_rfl) (Pm Tryz.underlying4))))))))))))))) (eL (by kernel_rfl) (by kernel_rfl) (rS Tryz.underlying9) (eL (by kernel_rfl) (by kernel_rfl) (pV Tryz.underlying2) (eL (by kernel_rfl) (by kernel_rfl) (pV Tryz.underlying3) (eL (by kernel_rfl) (by kernel_rfl) (F9 (fun x:aR=>(x.Nodes,x.Turns)) (fun y=>⟨y.1,y.2⟩) (fun _=>rfl) (vI Tryz.underlying25 (by kernel_rfl) (eL (by kernel_rfl) (by kernel_rfl) (G1 Tryz.underlying22 (by kernel_rfl) (of_decide_eq_true (by kernel_rfl)) (F9 (fun x:aH=>(x.Path,(x.Data,(x.Version,(x.Turn,x.Owner))))) (fun y=>⟨y.1,y.2.1,y.2.2.1,y.2.2.2.1,y.2.2.2.2⟩) (fun _=>rfl) (vI Tryz.underlying107 (by kernel_rfl) (eL (by kernel_rfl) (by kernel_rfl) (rS Tryz.underlying9) (eL (by kernel_rfl) (by kernel_rfl) (rS Tryz.underlying9) (eL (by kernel_rfl) (by kernel_rfl) (pV Tryz.underlying2) (eL (by kernel_rfl) (by kernel_rfl) (pV Tryz.underlying2) (q7 (by kernel_rfl) (by kernel_rfl) (pV Tryz.underlying2))))))))) (q7 (by kernel_rfl) (by kernel_rfl) (G1 Tryz.underlying23 (by kernel_rfl) (of_decide_eq_true (by kernel_rfl)) (F9 (fun x:aL=>(x.Dir,x.Next)) (fun y=>⟨y.1,y.2⟩) (fun _=>rfl) (vI Tryz.underlying89 (by kernel_rfl) (eL (by kernel_rfl) (by kernel_rfl) (rS Tryz.underlying9) (q7 (by kernel_rfl) (by kernel_rfl) (pV Tryz.underlying2)))))))))) (eL (by kernel_rfl) (by kernel_rfl) (G1 Tryz.underlying33 (by kernel_rfl) (of_decide_eq_true (by kernel_rfl)) (rS Tryz.underlying9)) (q7 (by kernel_rfl) (by kernel_rfl) (F9 (fun x:aO=>(x.Session,(x.Num,(x.Path,x.Deep)))) (fun y=>⟨y.1,y.2.1,y.2.2.1,y.2.2.2⟩) (fun _=>rfl) (vI Tryz.underlying35 (by kernel_rfl) (eL (by kernel_rfl) (by kernel_rfl) (pV Tryz.underlying2) (eL (by kernel_rfl) (by kernel_rfl) (pV Tryz.underlying2) (eL (by kernel_rfl) (by kernel_rfl) (rS Tryz.underlying9) (q7 (by kernel_rfl) (by kernel_rfl) (Pm Tryz.underlying4)))))))))))))))))))))) hf2 (Pn (j:=2) (t:=54) hsz rfl rfl)
  obtain rfl:u2= .slice a2 len2 cap2:=by cases e2;rfl
  clear hA0 hval0 hsz0 hsz
  have ST:=AA W [rSl aB sv0_1 x0.Nodes,rSl aC sv0_2 x0.Turns,rSl aN (.slice a1 len1 cap1) x1,rSl tI (.slice a2 len2 cap2) x2,N5 Tryz.prog] (by intro r hr;simp only [List.mem_cons,List.not_mem_nil,or_false] at hr;rcases hr with rfl | rfl | rfl | rfl | rfl;all_goals first | exact sl0_1 | exact sl0_2 | exact sl1 | exact sl2 | exact HQ hL)
  refine (Bc ST (by simp) (by simp) (by simp) (by simp) (by simp) (Pj x0 x1 x2 w0 w1 w2)).mono fun e W' he=>?_
  cases e with
  | returned v=>
    obtain ⟨rfl,hs⟩:=he
    have bel:=AB hs
    exact ⟨_,rfl,_,_,_,[],_,[],hW',trodAll_mk1 (shut_bool Tryz.underlying4 _),(trodAll_cons_mk (Below.trod R5 (by kernel_rfl) (of_decide_eq_true (by kernel_rfl)) k0 bel lt0) (trodAll_cons_mk (Below.trod R5 (by kernel_rfl) (of_decide_eq_true (by kernel_rfl)) k1 bel lt1) (trodAll_cons_mk (Below.trod R5 (by kernel_rfl) (of_decide_eq_true (by kernel_rfl)) k2 bel lt2) trodAll_mk0))),rfl,bel.frame _,fun h=>by cases h⟩
  | _=>exact absurd he (by simp [Ret])
set_option maxHeartbeats 40000000 in
/-- The law ShardRight is true at every input. -/
theorem shardRight_holds:Rows.ShardRightSaid:=
  OpenClaim.holds_of_wide 6 Tryz.f6 rfl rfl rfl rfl rfl rfl rfl ⟨rfl,rfl,rfl,rfl,rfl⟩ rfl rfl rfl rfl rfl (by as_aux_lemma=>kernel_rfl) Tryz.func6 Ml
    (of_decide_eq_true (by as_aux_lemma=>kernel_rfl)) (by unfold Func.isWrapper;first | (rw [if_pos (by decide +kernel)];kernel_rfl) | (rw [if_neg (by decide +kernel)];exact ⟨rfl,rfl⟩))
    (fun os started H enc _=>Ku os started H enc)
set_option maxHeartbeats 40000000 in
/-- THE TIED CARD of the law ShardRight holds. -/
theorem shardRight_card_holds:Rows.ShardRightCardSaid:=
  Claim7.holds_tied_plain_at .later [] [.data,.data,.data] true (true, "da42a9d1bc9c293812b3729625ef3243b95bf2ffd826cb751e7fab4e7ea82861") false
    shardRight_holds (fun _ h=>by cases h) (by as_aux_lemma=>kernel_rfl) (fun _ h=>by cases h) shardRight_row_tie rfl ⟨rfl,rfl⟩ (by as_aux_lemma=>kernel_rfl) rfl
    (fun f fn hf hfn=>by
      obtain rfl:f=6:=Option.some.inj ((show Tryz.prog.funcNamed "canton/cantonlaw13.ShardRight" =some 6 by as_aux_lemma=>kernel_rfl).symm.trans hf) |>.symm
      obtain rfl:fn=Tryz.f6:=(Option.some.inj (Tryz.func6.symm.trans hfn)).symm
      exact ⟨by as_aux_lemma=>kernel_rfl,fun j t ht=>by
        rw [Tryz.params6] at ht
        have h3:t=25∨t=32∨t=54:=by
          rcases j with _ | j
          · obtain rfl:t=25:=by simpa using ht.symm
            simp
          rcases j with _ | j
          · obtain rfl:t=32:=by simpa using ht.symm
            simp
          rcases j with _ | j
          · obtain rfl:t=54:=by simpa using ht.symm
            simp
          simp at ht
        rcases h3 with rfl | rfl | rfl
        · exact (show Tryz.prog.wantsStandIn 25=false by as_aux_lemma=>kernel_rfl)
        · exact (show Tryz.prog.wantsStandIn 32=false by as_aux_lemma=>kernel_rfl)
        · exact (show Tryz.prog.wantsStandIn 54=false by as_aux_lemma=>kernel_rfl)⟩)
    (by as_aux_lemma=>kernel_rfl)
end Go.Proofs.YteakhlfapjaodaaGreatDoor
