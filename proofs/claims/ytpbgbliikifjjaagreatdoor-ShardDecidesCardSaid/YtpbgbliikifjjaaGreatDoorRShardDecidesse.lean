/- The law ShardDecides is true at every input: the row, out of the walk and the pure law. -/
import Derived.Test.YtpbgbliikifjjaaGreatDoorCards
import Derived.SevenTiedAt
import Derived.Test.YtpbgbliikifjjaaGreatDoorTie
import Derived.Test.YtpbgbliikifjjaaGreatDoorQLse
import Derived.Test.YtpbgbliikifjjaaGreatDoorRfShardDecidesse
import Derived.Test.YtpbgbliikifjjaaGreatDoorD1se
set_option linter.unusedVariables false
set_option linter.unusedSimpArgs false
namespace Go.Proofs.YtpbgbliikifjjaaGreatDoor
open Go.Cb Go.ChangeShapes Go.WideShapes Go.ChangeAt Go.RowKit
open Go.ChangeMaps (open_string shut_string)
theorem T9(a0:Int)(a1:(List Bool))(a2:(List Int))(h0:InI .i64 (a0))(h1:InL (fun x=>True) (a1))(h2:InL (fun x=>InI .u8 (x)) (a2)):iC a0 a1 a2=some true:=Dt a0 a1 a2 h2
theorem Aj:ownKnob Tryz.prog.godebug=none:=by kernel_rfl
theorem x7:laidOutB Tryz.prog=true:=by kernel_rfl
set_option maxRecDepth 100000 in
theorem N4(os:Os)(started:os.Started)(H:Type)(enc:TypeId×Value→H) :
    ReturnsInHanded {} Tryz.checked os 4 .any (fun w args=>(Rows.shardDecidesSpec.pre enc Tryz.prog Tryz.f4 Rows.shardDecidesRow.domain false w args∧laidMet Tryz.prog Bn w)∧sizedMet enc Tryz.prog Tryz.f4 (OpenSpec.ofChange Rows.shardDecidesSpec) false w args) (Rows.shardDecidesSpec.post enc Tryz.prog Tryz.f4 false true false false):=by
  refine returnsInHanded_of_change_and (C:=Tryz.checked) (X:=fun w _=>laidMet Tryz.prog Bn w) (fun _ _ _ hh h=>h.of_heap hh) Aj started (by kernel_rfl) Tryz.func4
    (ChangeSpec.witness_at (enc:=enc) (C:=Tryz.checked) (os:=os) (X:=fun w _=>laidMet Tryz.prog Bn w) false (laidWorld os) #[.int .i64 0,.slice none 0 0,.slice none 0 0] 8 rfl (by kernel_rfl) (by kernel_rfl) (by kernel_rfl) (by kernel_rfl) (by kernel_rfl) (Dk os _)) ?_
  intro W base args ds gs before hval0 hW hcnd hsz0 hL _
  have hsz:(DataW.weightsEach Tryz.prog (Tryz.f4.params.toList ++ Rows.shardDecidesSpec.plain.varTypes Tryz.prog) (ds ++ gs)).all (· ≤ reachBytes)=true:=hsz0
  have hval:∀ (j:Nat) t v,Tryz.f4.params[j]? =some t→args[j]? =some v→Value.okWide Tryz.prog W .any base t v:=hval0
  have hW':=hW
  obtain ⟨p,q,hA0,hV,rfl,hfz,hnd⟩:=hW
  have hA:DataW.TrodAll enc Tryz.prog W 0 (fun _=>true) true Tryz.f4.params.toList args.toList ds p:=hA0
  rw [Tryz.params4] at hA hval hsz
  obtain ⟨v0,vs0,d0,ds0,p0,q0,hargs,rfl,rfl,h0,r0⟩:=trodAll_cons hA
  obtain ⟨v1,vs1,d1,ds1,p1,q1,rfl,rfl,rfl,h1,r1⟩:=trodAll_cons r0
  obtain ⟨v2,vs2,d2,ds2,p2,q2,rfl,rfl,rfl,h2,r2⟩:=trodAll_cons r1
  obtain ⟨rfl,rfl,rfl⟩:=trodAll_nil r2
  obtain rfl:args= #[v0,v1,v2]:=by cases args;simp_all
  obtain ⟨rfl,rfl⟩:=trodVars_none hV
  obtain ⟨x0,rfl,rfl,rfl,y0⟩:=open_int Tryz.underlying2 (hval 0 2 v0 rfl rfl) h0
  have w0:InI .i64 x0:=by
    have z:=y0
    simp only [Lit.wf,Bool.and_eq_true,decide_eq_true_eq] at z
    exact z
  obtain ⟨a1,len1,cap1,rfl⟩:=okWide_slice Tryz.underlying54 (hval 1 54 v1 rfl rfl)
  have k1:=h1
  have lt1:∀ x ∈ p1,x.block < W.heap.size:=by obtain ⟨m,hm⟩:=k1;exact DataW.trod_lt m _ _ _ hm
  obtain ⟨fuel1,hf1⟩:=h1
  obtain ⟨x1,⟨u1,e1,sl1⟩,w1⟩:=(Ew Tryz.underlying54 (by kernel_rfl) (of_decide_eq_true (by kernel_rfl)) (Np Tryz.underlying4)) hf1 (Hb (j:=1) (t:=54) hsz rfl rfl)
  obtain rfl:u1= .slice a1 len1 cap1:=by cases e1;rfl
  obtain ⟨a2,len2,cap2,rfl⟩:=okWide_slice Tryz.underlying55 (hval 2 55 v2 rfl rfl)
  have k2:=h2
  have lt2:∀ x ∈ p2,x.block < W.heap.size:=by obtain ⟨m,hm⟩:=k2;exact DataW.trod_lt m _ _ _ hm
  obtain ⟨fuel2,hf2⟩:=h2
  obtain ⟨x2,⟨u2,e2,sl2⟩,w2⟩:=(Ew Tryz.underlying55 (by kernel_rfl) (of_decide_eq_true (by kernel_rfl)) (Px Tryz.underlying5)) hf2 (Hb (j:=2) (t:=55) hsz rfl rfl)
  obtain rfl:u2= .slice a2 len2 cap2:=by cases e2;rfl
  clear hA0 hval0 hsz0 hsz
  have ST:=Jn W [rSl kB (.slice a1 len1 cap1) x1,rSl (kI .u8) (.slice a2 len2 cap2) x2,xU Tryz.prog] (by intro r hr;simp only [List.mem_cons,List.not_mem_nil,or_false] at hr;rcases hr with rfl | rfl | rfl;all_goals first | exact sl1 | exact sl2 | exact Ov hL)
  refine (w9 ST (by simp) (by simp) (by simp) (T9 x0 x1 x2 w0 w1 w2)).mono fun e W' he=>?_
  cases e with
  | returned v=>
    obtain ⟨rfl,hs⟩:=he
    have bel:=Jo hs
    exact ⟨_,rfl,_,_,_,[],_,[],hW',trodAll_mk1 (shut_bool Tryz.underlying4 _),(trodAll_cons_mk (shut_int Tryz.underlying2 y0) (trodAll_cons_mk (Below.trod x7 (by kernel_rfl) (of_decide_eq_true (by kernel_rfl)) k1 bel lt1) (trodAll_cons_mk (Below.trod x7 (by kernel_rfl) (of_decide_eq_true (by kernel_rfl)) k2 bel lt2) trodAll_mk0))),rfl,bel.frame _,fun h=>by cases h⟩
  | _=>exact absurd he (by simp [Ret])
set_option maxHeartbeats 40000000 in
/-- The law ShardDecides is true at every input. -/
theorem shardDecides_holds:Rows.ShardDecidesSaid:=
  OpenClaim.holds_of_wide 4 Tryz.f4 rfl rfl rfl rfl rfl rfl rfl ⟨rfl,rfl,rfl,rfl,rfl⟩ rfl rfl rfl rfl rfl (by as_aux_lemma=>kernel_rfl) Tryz.func4 O7
    (of_decide_eq_true (by as_aux_lemma=>kernel_rfl)) (by unfold Func.isWrapper;first | (rw [if_pos (by decide +kernel)];kernel_rfl) | (rw [if_neg (by decide +kernel)];exact ⟨rfl,rfl⟩))
    (fun os started H enc _=>N4 os started H enc)
set_option maxHeartbeats 40000000 in
/-- THE TIED CARD of the law ShardDecides holds. -/
theorem shardDecides_card_holds:Rows.ShardDecidesCardSaid:=
  Claim7.holds_tied_plain_at .later [] [.data,.data,.data] true (true, "34fd1bf5b41da56c9aabd9c06c66e103b895e910d8e1121a49763afe95df31e3") false
    shardDecides_holds (fun _ h=>by cases h) (by as_aux_lemma=>kernel_rfl) (fun _ h=>by cases h) shardDecides_row_tie rfl ⟨rfl,rfl⟩ (by as_aux_lemma=>kernel_rfl) rfl
    (fun f fn hf hfn=>by
      obtain rfl:f=4:=Option.some.inj ((show Tryz.prog.funcNamed "canton/cantonlaw13.ShardDecides" =some 4 by as_aux_lemma=>kernel_rfl).symm.trans hf) |>.symm
      obtain rfl:fn=Tryz.f4:=(Option.some.inj (Tryz.func4.symm.trans hfn)).symm
      exact ⟨by as_aux_lemma=>kernel_rfl,fun j t ht=>by
        rw [Tryz.params4] at ht
        have h3:t=2∨t=54∨t=55:=by
          rcases j with _ | j
          · obtain rfl:t=2:=by simpa using ht.symm
            simp
          rcases j with _ | j
          · obtain rfl:t=54:=by simpa using ht.symm
            simp
          rcases j with _ | j
          · obtain rfl:t=55:=by simpa using ht.symm
            simp
          simp at ht
        rcases h3 with rfl | rfl | rfl
        · exact (show Tryz.prog.wantsStandIn 2=false by as_aux_lemma=>kernel_rfl)
        · exact (show Tryz.prog.wantsStandIn 54=false by as_aux_lemma=>kernel_rfl)
        · exact (show Tryz.prog.wantsStandIn 55=false by as_aux_lemma=>kernel_rfl)⟩)
    (by as_aux_lemma=>kernel_rfl)
end Go.Proofs.YtpbgbliikifjjaaGreatDoor
