/- The law ShardMoves is true at every input: the row, out of the walk and the pure law. -/
import Derived.Test.YtppeaaolgckfcaaGreatDoorCards
import Derived.SevenTiedAt
import Derived.Test.YtppeaaolgckfcaaGreatDoorTie
import Derived.Test.YtppeaaolgckfcaaGreatDoorQLsm
import Derived.Test.YtppeaaolgckfcaaGreatDoorRfShardMovessm
import Derived.Test.YtppeaaolgckfcaaGreatDoorEJsm
set_option linter.unusedVariables false
set_option linter.unusedSimpArgs false
namespace Go.Proofs.YtppeaaolgckfcaaGreatDoor
open Go.Cb Go.ChangeShapes Go.WideShapes Go.ChangeAt Go.RowKit
open Go.ChangeMaps (open_string shut_string)
abbrev in_1:aK->Prop:=fun x=>(InI .i64 ((x).Kind))∧((InI .i64 ((x).Id))∧((InI .i64 ((x).Txn))∧((InI .i64 ((x).Age))∧((True)∧((InL (fun x=>(InI .i64 ((x).Op))∧((InI .i64 (((x).Part).Kind))∧((InS (((x).Part).Dir))∧((InS (((x).Part).Path))∧((InS (((x).Part).Data))∧((InI .i64 (((x).Part).Version))∧((InI .i64 (((x).Part).Owner))∧(True)))))))) ((x).Pieces))∧((InS ((x).Prefix))∧((InI .i64 ((x).Epoch))∧((InI .i64 ((x).To))∧(((InL (fun x=>(InS ((x).Path))∧((InS ((x).Data))∧((InI .i64 ((x).Version))∧((InI .i64 ((x).Turn))∧(InI .i64 ((x).Owner)))))) (((x).Store).Nodes))∧(InL (fun x=>(InS ((x).Dir))∧(InI .i64 ((x).Next))) (((x).Store).Turns)))∧((InL (fun x=>InS (x)) ((x).Gone))∧((InI .i64 (((x).Watch).Session))∧((InI .i64 (((x).Watch).Num))∧((InS (((x).Watch).Path))∧(True))))))))))))))
theorem rd_1:Go.Cb.Op Tryz.prog qC 47 in_1:=vK (fun x:aK=>(x.Kind,(x.Id,(x.Txn,(x.Age,(x.Yes,(x.Pieces,(x.Prefix,(x.Epoch,(x.To,(x.Store,(x.Gone,x.Watch)))))))))))) (fun y=>⟨y.1,y.2.1,y.2.2.1,y.2.2.2.1,y.2.2.2.2.1,y.2.2.2.2.2.1,y.2.2.2.2.2.2.1,y.2.2.2.2.2.2.2.1,y.2.2.2.2.2.2.2.2.1,y.2.2.2.2.2.2.2.2.2.1,y.2.2.2.2.2.2.2.2.2.2.1,y.2.2.2.2.2.2.2.2.2.2.2⟩) (fun _=>rfl) (mD Tryz.underlying47 (by kernel_rfl) (cF (by kernel_rfl) (by kernel_rfl) (gU Tryz.underlying3) (cF (by kernel_rfl) (by kernel_rfl) (gU Tryz.underlying2) (cF (by kernel_rfl) (by kernel_rfl) (gU Tryz.underlying2) (cF (by kernel_rfl) (by kernel_rfl) (gU Tryz.underlying2) (cF (by kernel_rfl) (by kernel_rfl) (Dv Tryz.underlying4) (cF (by kernel_rfl) (by kernel_rfl) (vX Tryz.underlying42 (by kernel_rfl) (of_decide_eq_true (by kernel_rfl)) (vK (fun x:dE=>(x.Op,x.Part)) (fun y=>⟨y.1,y.2⟩) (fun _=>rfl) (mD Tryz.underlying146 (by kernel_rfl) (cF (by kernel_rfl) (by kernel_rfl) (gU Tryz.underlying3) (rR (by kernel_rfl) (by kernel_rfl) (vK (fun x:bL=>(x.Kind,(x.Dir,(x.Path,(x.Data,(x.Version,(x.Owner,x.Turns))))))) (fun y=>⟨y.1,y.2.1,y.2.2.1,y.2.2.2.1,y.2.2.2.2.1,y.2.2.2.2.2.1,y.2.2.2.2.2.2⟩) (fun _=>rfl) (mD Tryz.underlying144 (by kernel_rfl) (cF (by kernel_rfl) (by kernel_rfl) (gU Tryz.underlying3) (cF (by kernel_rfl) (by kernel_rfl) (iQ Tryz.underlying9) (cF (by kernel_rfl) (by kernel_rfl) (iQ Tryz.underlying9) (cF (by kernel_rfl) (by kernel_rfl) (iQ Tryz.underlying9) (cF (by kernel_rfl) (by kernel_rfl) (gU Tryz.underlying2) (cF (by kernel_rfl) (by kernel_rfl) (gU Tryz.underlying2) (rR (by kernel_rfl) (by kernel_rfl) (Dv Tryz.underlying4))))))))))))))) (cF (by kernel_rfl) (by kernel_rfl) (iQ Tryz.underlying9) (cF (by kernel_rfl) (by kernel_rfl) (gU Tryz.underlying2) (cF (by kernel_rfl) (by kernel_rfl) (gU Tryz.underlying3) (cF (by kernel_rfl) (by kernel_rfl) (vK (fun x:aG=>(x.Nodes,x.Turns)) (fun y=>⟨y.1,y.2⟩) (fun _=>rfl) (mD Tryz.underlying25 (by kernel_rfl) (cF (by kernel_rfl) (by kernel_rfl) (vX Tryz.underlying22 (by kernel_rfl) (of_decide_eq_true (by kernel_rfl)) (vK (fun x:aH=>(x.Path,(x.Data,(x.Version,(x.Turn,x.Owner))))) (fun y=>⟨y.1,y.2.1,y.2.2.1,y.2.2.2.1,y.2.2.2.2⟩) (fun _=>rfl) (mD Tryz.underlying80 (by kernel_rfl) (cF (by kernel_rfl) (by kernel_rfl) (iQ Tryz.underlying9) (cF (by kernel_rfl) (by kernel_rfl) (iQ Tryz.underlying9) (cF (by kernel_rfl) (by kernel_rfl) (gU Tryz.underlying2) (cF (by kernel_rfl) (by kernel_rfl) (gU Tryz.underlying2) (rR (by kernel_rfl) (by kernel_rfl) (gU Tryz.underlying2))))))))) (rR (by kernel_rfl) (by kernel_rfl) (vX Tryz.underlying23 (by kernel_rfl) (of_decide_eq_true (by kernel_rfl)) (vK (fun x:aQ=>(x.Dir,x.Next)) (fun y=>⟨y.1,y.2⟩) (fun _=>rfl) (mD Tryz.underlying71 (by kernel_rfl) (cF (by kernel_rfl) (by kernel_rfl) (iQ Tryz.underlying9) (rR (by kernel_rfl) (by kernel_rfl) (gU Tryz.underlying2)))))))))) (cF (by kernel_rfl) (by kernel_rfl) (vX Tryz.underlying43 (by kernel_rfl) (of_decide_eq_true (by kernel_rfl)) (iQ Tryz.underlying9)) (rR (by kernel_rfl) (by kernel_rfl) (vK (fun x:aR=>(x.Session,(x.Num,(x.Path,x.Deep)))) (fun y=>⟨y.1,y.2.1,y.2.2.1,y.2.2.2⟩) (fun _=>rfl) (mD Tryz.underlying45 (by kernel_rfl) (cF (by kernel_rfl) (by kernel_rfl) (gU Tryz.underlying2) (cF (by kernel_rfl) (by kernel_rfl) (gU Tryz.underlying2) (cF (by kernel_rfl) (by kernel_rfl) (iQ Tryz.underlying9) (rR (by kernel_rfl) (by kernel_rfl) (Dv Tryz.underlying4))))))))))))))))))))
theorem Tv(a0:aG)(a1:(List aF))(a2:(List aK))(a3:ByteArray)(a4:(List aK))(h0:(InL (fun x=>(InS ((x).Path))∧((InS ((x).Data))∧((InI .i64 ((x).Version))∧((InI .i64 ((x).Turn))∧(InI .i64 ((x).Owner)))))) ((a0).Nodes))∧(InL (fun x=>(InS ((x).Dir))∧(InI .i64 ((x).Next))) ((a0).Turns)))(h1:InL (fun x=>(InS ((x).Prefix))∧((InI .i64 ((x).Epoch))∧(InI .i64 ((x).State)))) (a1))(h2:InL in_1 (a2))(h3:InS (a3))(h4:InL in_1 (a4)):qA a0 a1 a2 a3 a4=some true:=BH a0 a1 a2 a3 a4 h0.1.1 h0.2.1 h1.1 (fun x hx=>(h2.2 x hx).2.2.2.2.2.2.2.2.2.1.1.1) (fun x hx=>(h4.2 x hx).2.2.2.2.2.2.2.2.2.1.1.1)
theorem Uz:ownKnob Tryz.prog.godebug=none:=by kernel_rfl
theorem O4:laidOutB Tryz.prog=true:=by kernel_rfl
set_option maxRecDepth 100000 in
theorem Pd(os:Os)(started:os.Started)(H:Type)(enc:TypeId×Value→H) :
    ReturnsInHanded {} Tryz.checked os 3 .any (fun w args=>(Rows.shardMovesSpec.pre enc Tryz.prog Tryz.f3 Rows.shardMovesRow.domain false w args∧laidMet Tryz.prog Sw w)∧sizedMet enc Tryz.prog Tryz.f3 (OpenSpec.ofChange Rows.shardMovesSpec) false w args) (Rows.shardMovesSpec.post enc Tryz.prog Tryz.f3 false true false false):=by
  refine returnsInHanded_of_change_and (C:=Tryz.checked) (X:=fun w _=>laidMet Tryz.prog Sw w) (fun _ _ _ hh h=>h.of_heap hh) Uz started (by kernel_rfl) Tryz.func3
    (ChangeSpec.witness_at (enc:=enc) (C:=Tryz.checked) (os:=os) (X:=fun w _=>laidMet Tryz.prog Sw w) false (laidWorld os) #[.agg #[.slice none 0 0,.slice none 0 0],.slice none 0 0,.slice none 0 0,.string ByteArray.empty,.slice none 0 0] 8 rfl (by kernel_rfl) (by kernel_rfl) (by kernel_rfl) (by kernel_rfl) (by kernel_rfl) (Wg os _)) ?_
  intro W base args ds gs before hval0 hW hcnd hsz0 hL _
  have hsz:(DataW.weightsEach Tryz.prog (Tryz.f3.params.toList ++ Rows.shardMovesSpec.plain.varTypes Tryz.prog) (ds ++ gs)).all (· ≤ reachBytes)=true:=hsz0
  have hval:∀ (j:Nat) t v,Tryz.f3.params[j]? =some t→args[j]? =some v→Value.okWide Tryz.prog W .any base t v:=hval0
  have hW':=hW
  obtain ⟨p,q,hA0,hV,rfl,hfz,hnd⟩:=hW
  have hA:DataW.TrodAll enc Tryz.prog W 0 (fun _=>true) true Tryz.f3.params.toList args.toList ds p:=hA0
  rw [Tryz.params3] at hA hval hsz
  obtain ⟨v0,vs0,d0,ds0,p0,q0,hargs,rfl,rfl,h0,r0⟩:=trodAll_cons hA
  obtain ⟨v1,vs1,d1,ds1,p1,q1,rfl,rfl,rfl,h1,r1⟩:=trodAll_cons r0
  obtain ⟨v2,vs2,d2,ds2,p2,q2,rfl,rfl,rfl,h2,r2⟩:=trodAll_cons r1
  obtain ⟨v3,vs3,d3,ds3,p3,q3,rfl,rfl,rfl,h3,r3⟩:=trodAll_cons r2
  obtain ⟨v4,vs4,d4,ds4,p4,q4,rfl,rfl,rfl,h4,r4⟩:=trodAll_cons r3
  obtain ⟨rfl,rfl,rfl⟩:=trodAll_nil r4
  obtain rfl:args= #[v0,v1,v2,v3,v4]:=by cases args;simp_all
  obtain ⟨rfl,rfl⟩:=trodVars_none hV
  obtain ⟨ca0,rfl,hcs0⟩:=okWide_struct Tryz.underlying25 (hval 0 25 v0 rfl rfl)
  have k0:=h0
  have lt0:∀ x ∈ p0,x.block < W.heap.size:=by obtain ⟨m,hm⟩:=k0;exact DataW.trod_lt m _ _ _ hm
  obtain ⟨fuel0,hf0⟩:=h0
  obtain ⟨x0,hR0,w0⟩:=(vK (fun x:aG=>(x.Nodes,x.Turns)) (fun y=>⟨y.1,y.2⟩) (fun _=>rfl) (mD Tryz.underlying25 (by kernel_rfl) (cF (by kernel_rfl) (by kernel_rfl) (vX Tryz.underlying22 (by kernel_rfl) (of_decide_eq_true (by kernel_rfl)) (vK (fun x:aH=>(x.Path,(x.Data,(x.Version,(x.Turn,x.Owner))))) (fun y=>⟨y.1,y.2.1,y.2.2.1,y.2.2.2.1,y.2.2.2.2⟩) (fun _=>rfl) (mD Tryz.underlying80 (by kernel_rfl) (cF (by kernel_rfl) (by kernel_rfl) (iQ Tryz.underlying9) (cF (by kernel_rfl) (by kernel_rfl) (iQ Tryz.underlying9) (cF (by kernel_rfl) (by kernel_rfl) (gU Tryz.underlying2) (cF (by kernel_rfl) (by kernel_rfl) (gU Tryz.underlying2) (rR (by kernel_rfl) (by kernel_rfl) (gU Tryz.underlying2))))))))) (rR (by kernel_rfl) (by kernel_rfl) (vX Tryz.underlying23 (by kernel_rfl) (of_decide_eq_true (by kernel_rfl)) (vK (fun x:aQ=>(x.Dir,x.Next)) (fun y=>⟨y.1,y.2⟩) (fun _=>rfl) (mD Tryz.underlying71 (by kernel_rfl) (cF (by kernel_rfl) (by kernel_rfl) (iQ Tryz.underlying9) (rR (by kernel_rfl) (by kernel_rfl) (gU Tryz.underlying2)))))))))) hf0 (Nk (j:=0) (t:=25) hsz rfl rfl)
  obtain ⟨sv0_1,sv0_2,he0,sl0_1,sl0_2⟩:=X2 hR0
  obtain rfl:ca0= #[sv0_1,sv0_2]:=by have h0:ca0.toList= [sv0_1,sv0_2]:=he0;rw [← Array.toArray_toList (xs:=ca0),h0]
  obtain ⟨a1,len1,cap1,rfl⟩:=okWide_slice Tryz.underlying26 (hval 1 26 v1 rfl rfl)
  have k1:=h1
  have lt1:∀ x ∈ p1,x.block < W.heap.size:=by obtain ⟨m,hm⟩:=k1;exact DataW.trod_lt m _ _ _ hm
  obtain ⟨fuel1,hf1⟩:=h1
  obtain ⟨x1,⟨u1,e1,sl1⟩,w1⟩:=(vX Tryz.underlying26 (by kernel_rfl) (of_decide_eq_true (by kernel_rfl)) (vK (fun x:aF=>(x.Prefix,(x.Epoch,x.State))) (fun y=>⟨y.1,y.2.1,y.2.2⟩) (fun _=>rfl) (mD Tryz.underlying52 (by kernel_rfl) (cF (by kernel_rfl) (by kernel_rfl) (iQ Tryz.underlying9) (cF (by kernel_rfl) (by kernel_rfl) (gU Tryz.underlying2) (rR (by kernel_rfl) (by kernel_rfl) (gU Tryz.underlying3))))))) hf1 (Nk (j:=1) (t:=26) hsz rfl rfl)
  obtain rfl:u1= .slice a1 len1 cap1:=by cases e1;rfl
  obtain ⟨a2,len2,cap2,rfl⟩:=okWide_slice Tryz.underlying27 (hval 2 27 v2 rfl rfl)
  have k2:=h2
  have lt2:∀ x ∈ p2,x.block < W.heap.size:=by obtain ⟨m,hm⟩:=k2;exact DataW.trod_lt m _ _ _ hm
  obtain ⟨fuel2,hf2⟩:=h2
  obtain ⟨x2,⟨u2,e2,sl2⟩,w2⟩:=(vX Tryz.underlying27 (by kernel_rfl) (of_decide_eq_true (by kernel_rfl)) rd_1) hf2 (Nk (j:=2) (t:=27) hsz rfl rfl)
  obtain rfl:u2= .slice a2 len2 cap2:=by cases e2;rfl
  obtain ⟨x3,rfl,rfl,rfl,y3⟩:=open_string Tryz.underlying9 (hval 3 9 v3 rfl rfl) h3
  have w3:InS x3:=by
    have z:=sized_string hsz (j:=3) (t:=9) rfl rfl
    rw [Array.length_toList] at z
    exact z
  obtain ⟨a4,len4,cap4,rfl⟩:=okWide_slice Tryz.underlying27 (hval 4 27 v4 rfl rfl)
  have k4:=h4
  have lt4:∀ x ∈ p4,x.block < W.heap.size:=by obtain ⟨m,hm⟩:=k4;exact DataW.trod_lt m _ _ _ hm
  obtain ⟨fuel4,hf4⟩:=h4
  obtain ⟨x4,⟨u4,e4,sl4⟩,w4⟩:=(vX Tryz.underlying27 (by kernel_rfl) (of_decide_eq_true (by kernel_rfl)) rd_1) hf4 (Nk (j:=4) (t:=27) hsz rfl rfl)
  obtain rfl:u4= .slice a4 len4 cap4:=by cases e4;rfl
  clear hA0 hval0 hsz0 hsz
  have ST:=EY W [rSl aB sv0_1 x0.Nodes,rSl aC sv0_2 x0.Turns,rSl aO (.slice a1 len1 cap1) x1,rSl qC (.slice a2 len2 cap2) x2,rSl qC (.slice a4 len4 cap4) x4,Z2 Tryz.prog] (by intro r hr;simp only [List.mem_cons,List.not_mem_nil,or_false] at hr;rcases hr with rfl | rfl | rfl | rfl | rfl | rfl;all_goals first | exact sl0_1 | exact sl0_2 | exact sl1 | exact sl2 | exact sl4 | exact NG hL)
  refine (Et ST (by simp) (by simp) (by simp) (by simp) (by simp) (by simp) (Tv x0 x1 x2 x3 x4 w0 w1 w2 w3 w4)).mono fun e W' he=>?_
  cases e with
  | returned v=>
    obtain ⟨rfl,hs⟩:=he
    have bel:=EZ hs
    exact ⟨_,rfl,_,_,_,[],_,[],hW',trodAll_mk1 (shut_bool Tryz.underlying4 _),(trodAll_cons_mk (Below.trod O4 (by kernel_rfl) (of_decide_eq_true (by kernel_rfl)) k0 bel lt0) (trodAll_cons_mk (Below.trod O4 (by kernel_rfl) (of_decide_eq_true (by kernel_rfl)) k1 bel lt1) (trodAll_cons_mk (Below.trod O4 (by kernel_rfl) (of_decide_eq_true (by kernel_rfl)) k2 bel lt2) (trodAll_cons_mk (shut_string Tryz.underlying9 y3) (trodAll_cons_mk (Below.trod O4 (by kernel_rfl) (of_decide_eq_true (by kernel_rfl)) k4 bel lt4) trodAll_mk0))))),rfl,bel.frame _,fun h=>by cases h⟩
  | _=>exact absurd he (by simp [Ret])
set_option maxHeartbeats 40000000 in
/-- The law ShardMoves is true at every input. -/
theorem shardMoves_holds:Rows.ShardMovesSaid:=
  OpenClaim.holds_of_wide 3 Tryz.f3 rfl rfl rfl rfl rfl rfl rfl ⟨rfl,rfl,rfl,rfl,rfl⟩ rfl rfl rfl rfl rfl (by as_aux_lemma=>kernel_rfl) Tryz.func3 Qq
    (of_decide_eq_true (by as_aux_lemma=>kernel_rfl)) (by unfold Func.isWrapper;first | (rw [if_pos (by decide +kernel)];kernel_rfl) | (rw [if_neg (by decide +kernel)];exact ⟨rfl,rfl⟩))
    (fun os started H enc _=>Pd os started H enc)
set_option maxHeartbeats 40000000 in
/-- THE TIED CARD of the law ShardMoves holds. -/
theorem shardMoves_card_holds:Rows.ShardMovesCardSaid:=
  Claim7.holds_tied_plain_at .later [] [.data,.data,.data] true (true, "4620abafc9e7d2a28c87c13e549c4cdf5155a3f78c2a3aa7f991054c3c245a3b") false
    shardMoves_holds (fun _ h=>by cases h) (by as_aux_lemma=>kernel_rfl) (fun _ h=>by cases h) shardMoves_row_tie rfl ⟨rfl,rfl⟩ (by as_aux_lemma=>kernel_rfl) rfl
    (fun f fn hf hfn=>by
      obtain rfl:f=3:=Option.some.inj ((show Tryz.prog.funcNamed "canton/cantonlaw13.ShardMoves" =some 3 by as_aux_lemma=>kernel_rfl).symm.trans hf) |>.symm
      obtain rfl:fn=Tryz.f3:=(Option.some.inj (Tryz.func3.symm.trans hfn)).symm
      exact ⟨by as_aux_lemma=>kernel_rfl,fun j t ht=>by
        rw [Tryz.params3] at ht
        have h3:t=25∨t=26∨t=27∨t=9:=by
          rcases j with _ | j
          · obtain rfl:t=25:=by simpa using ht.symm
            simp
          rcases j with _ | j
          · obtain rfl:t=26:=by simpa using ht.symm
            simp
          rcases j with _ | j
          · obtain rfl:t=27:=by simpa using ht.symm
            simp
          rcases j with _ | j
          · obtain rfl:t=9:=by simpa using ht.symm
            simp
          rcases j with _ | j
          · obtain rfl:t=27:=by simpa using ht.symm
            simp
          simp at ht
        rcases h3 with rfl | rfl | rfl | rfl
        · exact (show Tryz.prog.wantsStandIn 25=false by as_aux_lemma=>kernel_rfl)
        · exact (show Tryz.prog.wantsStandIn 26=false by as_aux_lemma=>kernel_rfl)
        · exact (show Tryz.prog.wantsStandIn 27=false by as_aux_lemma=>kernel_rfl)
        · exact (show Tryz.prog.wantsStandIn 9=false by as_aux_lemma=>kernel_rfl)⟩)
    (by as_aux_lemma=>kernel_rfl)
end Go.Proofs.YtppeaaolgckfcaaGreatDoor
