/- The law ShardLate is true at every input: the row, out of the walk and the pure law. -/
import Derived.Test.YtpbgbliikifjjaaGreatDoorCards
import Derived.SevenTiedAt
import Derived.Test.YtpbgbliikifjjaaGreatDoorTie
import Derived.Test.YtpbgbliikifjjaaGreatDoorQLsl
import Derived.Test.YtpbgbliikifjjaaGreatDoorRfShardLatesl
import Derived.Test.YtpbgbliikifjjaaGreatDoorD6sl
set_option linter.unusedVariables false
set_option linter.unusedSimpArgs false
namespace Go.Proofs.YtpbgbliikifjjaaGreatDoor
open Go.Cb Go.ChangeShapes Go.WideShapes Go.ChangeAt Go.RowKit
open Go.ChangeMaps (open_string shut_string)
theorem Hm(a0:(List dH))(a1:Int)(a2:Bool)(h0:InL (fun x=>(InI .i64 ((x).Kind))∧((InS ((x).Path))∧((InS ((x).Data))∧((InI .i64 ((x).Version))∧((InI .i64 ((x).Owner))∧(True)))))) (a0))(h1:InI .i64 (a1))(h2:True):lZ a0 a1 a2=some true:=Rd a0 a1 a2
theorem Iz:ownKnob Tryz.prog.godebug=none:=by kernel_rfl
theorem Hn:laidOutB Tryz.prog=true:=by kernel_rfl
set_option maxRecDepth 100000 in
theorem Ej(os:Os)(started:os.Started)(H:Type)(enc:TypeId×Value→H) :
    ReturnsInHanded {} Tryz.checked os 5 .any (fun w args=>(Rows.shardLateSpec.pre enc Tryz.prog Tryz.f5 Rows.shardLateRow.domain false w args∧laidMet Tryz.prog Fm w)∧sizedMet enc Tryz.prog Tryz.f5 (OpenSpec.ofChange Rows.shardLateSpec) false w args) (Rows.shardLateSpec.post enc Tryz.prog Tryz.f5 false true false false):=by
  refine returnsInHanded_of_change_and (C:=Tryz.checked) (X:=fun w _=>laidMet Tryz.prog Fm w) (fun _ _ _ hh h=>h.of_heap hh) Iz started (by kernel_rfl) Tryz.func5
    (ChangeSpec.witness_at (enc:=enc) (C:=Tryz.checked) (os:=os) (X:=fun w _=>laidMet Tryz.prog Fm w) false (laidWorld os) #[.slice none 0 0,.int .i64 0,.bool false] 8 rfl (by kernel_rfl) (by kernel_rfl) (by kernel_rfl) (by kernel_rfl) (by kernel_rfl) (Iq os _)) ?_
  intro W base args ds gs before hval0 hW hcnd hsz0 hL _
  have hsz:(DataW.weightsEach Tryz.prog (Tryz.f5.params.toList ++ Rows.shardLateSpec.plain.varTypes Tryz.prog) (ds ++ gs)).all (· ≤ reachBytes)=true:=hsz0
  have hval:∀ (j:Nat) t v,Tryz.f5.params[j]? =some t→args[j]? =some v→Value.okWide Tryz.prog W .any base t v:=hval0
  have hW':=hW
  obtain ⟨p,q,hA0,hV,rfl,hfz,hnd⟩:=hW
  have hA:DataW.TrodAll enc Tryz.prog W 0 (fun _=>true) true Tryz.f5.params.toList args.toList ds p:=hA0
  rw [Tryz.params5] at hA hval hsz
  obtain ⟨v0,vs0,d0,ds0,p0,q0,hargs,rfl,rfl,h0,r0⟩:=trodAll_cons hA
  obtain ⟨v1,vs1,d1,ds1,p1,q1,rfl,rfl,rfl,h1,r1⟩:=trodAll_cons r0
  obtain ⟨v2,vs2,d2,ds2,p2,q2,rfl,rfl,rfl,h2,r2⟩:=trodAll_cons r1
  obtain ⟨rfl,rfl,rfl⟩:=trodAll_nil r2
  obtain rfl:args= #[v0,v1,v2]:=by cases args;simp_all
  obtain ⟨rfl,rfl⟩:=trodVars_none hV
  obtain ⟨a0,len0,cap0,rfl⟩:=okWide_slice Tryz.underlying58 (hval 0 58 v0 rfl rfl)
  have k0:=h0
  have lt0:∀ x ∈ p0,x.block < W.heap.size:=by obtain ⟨m,hm⟩:=k0;exact DataW.trod_lt m _ _ _ hm
  obtain ⟨fuel0,hf0⟩:=h0
  obtain ⟨x0,⟨u0,e0,sl0⟩,w0⟩:=(Uk Tryz.underlying58 (by kernel_rfl) (of_decide_eq_true (by kernel_rfl)) (AW (fun x:dH=>(x.Kind,(x.Path,(x.Data,(x.Version,(x.Owner,x.Turns)))))) (fun y=>⟨y.1,y.2.1,y.2.2.1,y.2.2.2.1,y.2.2.2.2.1,y.2.2.2.2.2⟩) (fun _=>rfl) (Ri Tryz.underlying60 (by kernel_rfl) (I7 (by kernel_rfl) (by kernel_rfl) (Jz Tryz.underlying3) (I7 (by kernel_rfl) (by kernel_rfl) (Hr Tryz.underlying9) (I7 (by kernel_rfl) (by kernel_rfl) (Hr Tryz.underlying9) (I7 (by kernel_rfl) (by kernel_rfl) (Jz Tryz.underlying2) (I7 (by kernel_rfl) (by kernel_rfl) (Jz Tryz.underlying2) (Yb (by kernel_rfl) (by kernel_rfl) (Ya Tryz.underlying4)))))))))) hf0 (Yc (j:=0) (t:=58) hsz rfl rfl)
  obtain rfl:u0= .slice a0 len0 cap0:=by cases e0;rfl
  obtain ⟨x1,rfl,rfl,rfl,y1⟩:=open_int Tryz.underlying2 (hval 1 2 v1 rfl rfl) h1
  have w1:InI .i64 x1:=by
    have z:=y1
    simp only [Lit.wf,Bool.and_eq_true,decide_eq_true_eq] at z
    exact z
  obtain ⟨x2,rfl,rfl,rfl⟩:=open_bool Tryz.underlying4 (hval 2 4 v2 rfl rfl) h2
  have w2:True:=trivial
  clear hA0 hval0 hsz0 hsz
  have ST:=Rj W [rSl rE (.slice a0 len0 cap0) x0,u7 Tryz.prog] (by intro r hr;simp only [List.mem_cons,List.not_mem_nil,or_false] at hr;rcases hr with rfl | rfl;all_goals first | exact sl0 | exact Zf hL)
  refine (L3 ST (by simp) (by simp) (Hm x0 x1 x2 w0 w1 w2)).mono fun e W' he=>?_
  cases e with
  | returned v=>
    obtain ⟨rfl,hs⟩:=he
    have bel:=Rk hs
    exact ⟨_,rfl,_,_,_,[],_,[],hW',trodAll_mk1 (shut_bool Tryz.underlying4 _),(trodAll_cons_mk (Below.trod Hn (by kernel_rfl) (of_decide_eq_true (by kernel_rfl)) k0 bel lt0) (trodAll_cons_mk (shut_int Tryz.underlying2 y1) (trodAll_cons_mk (shut_bool Tryz.underlying4 _) trodAll_mk0))),rfl,bel.frame _,fun h=>by cases h⟩
  | _=>exact absurd he (by simp [Ret])
set_option maxHeartbeats 40000000 in
/-- The law ShardLate is true at every input. -/
theorem shardLate_holds:Rows.ShardLateSaid:=
  OpenClaim.holds_of_wide 5 Tryz.f5 rfl rfl rfl rfl rfl rfl rfl ⟨rfl,rfl,rfl,rfl,rfl⟩ rfl rfl rfl rfl rfl (by as_aux_lemma=>kernel_rfl) Tryz.func5 Fp
    (of_decide_eq_true (by as_aux_lemma=>kernel_rfl)) (by unfold Func.isWrapper;first | (rw [if_pos (by decide +kernel)];kernel_rfl) | (rw [if_neg (by decide +kernel)];exact ⟨rfl,rfl⟩))
    (fun os started H enc _=>Ej os started H enc)
set_option maxHeartbeats 40000000 in
/-- THE TIED CARD of the law ShardLate holds. -/
theorem shardLate_card_holds:Rows.ShardLateCardSaid:=
  Claim7.holds_tied_plain_at .later [] [.data,.data,.data] true (true, "34fd1bf5b41da56c9aabd9c06c66e103b895e910d8e1121a49763afe95df31e3") false
    shardLate_holds (fun _ h=>by cases h) (by as_aux_lemma=>kernel_rfl) (fun _ h=>by cases h) shardLate_row_tie rfl ⟨rfl,rfl⟩ (by as_aux_lemma=>kernel_rfl) rfl
    (fun f fn hf hfn=>by
      obtain rfl:f=5:=Option.some.inj ((show Tryz.prog.funcNamed "canton/cantonlaw13.ShardLate" =some 5 by as_aux_lemma=>kernel_rfl).symm.trans hf) |>.symm
      obtain rfl:fn=Tryz.f5:=(Option.some.inj (Tryz.func5.symm.trans hfn)).symm
      exact ⟨by as_aux_lemma=>kernel_rfl,fun j t ht=>by
        rw [Tryz.params5] at ht
        have h3:t=58∨t=2∨t=4:=by
          rcases j with _ | j
          · obtain rfl:t=58:=by simpa using ht.symm
            simp
          rcases j with _ | j
          · obtain rfl:t=2:=by simpa using ht.symm
            simp
          rcases j with _ | j
          · obtain rfl:t=4:=by simpa using ht.symm
            simp
          simp at ht
        rcases h3 with rfl | rfl | rfl
        · exact (show Tryz.prog.wantsStandIn 58=false by as_aux_lemma=>kernel_rfl)
        · exact (show Tryz.prog.wantsStandIn 2=false by as_aux_lemma=>kernel_rfl)
        · exact (show Tryz.prog.wantsStandIn 4=false by as_aux_lemma=>kernel_rfl)⟩)
    (by as_aux_lemma=>kernel_rfl)
end Go.Proofs.YtpbgbliikifjjaaGreatDoor
