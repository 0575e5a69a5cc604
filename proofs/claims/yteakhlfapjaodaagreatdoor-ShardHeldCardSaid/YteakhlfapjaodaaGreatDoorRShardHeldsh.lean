/- The law ShardHeld is true at every input: the row, out of the walk and the pure law. -/
import Derived.Test.YteakhlfapjaodaaGreatDoorCards
import Derived.SevenTiedAt
import Derived.Test.YteakhlfapjaodaaGreatDoorTie
import Derived.Test.YteakhlfapjaodaaGreatDoorQLsh
import Derived.Test.YteakhlfapjaodaaGreatDoorRfShardHeldsh
import Derived.Test.YteakhlfapjaodaaGreatDoorEGsh
set_option linter.unusedVariables false
set_option linter.unusedSimpArgs false
namespace Go.Proofs.YteakhlfapjaodaaGreatDoor
open Go.Cb Go.ChangeShapes Go.WideShapes Go.ChangeAt Go.RowKit
open Go.ChangeMaps (open_string shut_string)
theorem Uc(a0:aK)(a1:(List aF))(a2:aI)(a3:(List aI))(a4:Bool)(h0:(InL (fun x=>(InS ((x).Path))∧((InS ((x).Data))∧((InI .i64 ((x).Version))∧((InI .i64 ((x).Turn))∧(InI .i64 ((x).Owner)))))) ((a0).Nodes))∧(InL (fun x=>(InS ((x).Dir))∧(InI .i64 ((x).Next))) ((a0).Turns)))(h1:InL (fun x=>(InS ((x).Prefix))∧((InI .i64 ((x).Epoch))∧(InI .i64 ((x).State)))) (a1))(h2:(InI .i64 ((a2).Kind))∧((InI .i64 ((a2).Id))∧((InI .i64 ((a2).Txn))∧((InI .i64 ((a2).Age))∧((True)∧((InL (fun x=>(InI .i64 ((x).Op))∧((InI .i64 (((x).Part).Kind))∧((InS (((x).Part).Dir))∧((InS (((x).Part).Path))∧((InS (((x).Part).Data))∧((InI .i64 (((x).Part).Version))∧((InI .i64 (((x).Part).Owner))∧(True)))))))) ((a2).Pieces))∧((InS ((a2).Prefix))∧((InI .i64 ((a2).Epoch))∧((InI .i64 ((a2).To))∧(((InL (fun x=>(InS ((x).Path))∧((InS ((x).Data))∧((InI .i64 ((x).Version))∧((InI .i64 ((x).Turn))∧(InI .i64 ((x).Owner)))))) (((a2).Store).Nodes))∧(InL (fun x=>(InS ((x).Dir))∧(InI .i64 ((x).Next))) (((a2).Store).Turns)))∧((InL (fun x=>InS (x)) ((a2).Gone))∧((InI .i64 (((a2).Watch).Session))∧((InI .i64 (((a2).Watch).Num))∧((InS (((a2).Watch).Path))∧(True)))))))))))))))(h3:InL (fun x=>(InI .i64 ((x).Kind))∧((InI .i64 ((x).Id))∧((InI .i64 ((x).Txn))∧((InI .i64 ((x).Age))∧((True)∧((InL (fun x=>(InI .i64 ((x).Op))∧((InI .i64 (((x).Part).Kind))∧((InS (((x).Part).Dir))∧((InS (((x).Part).Path))∧((InS (((x).Part).Data))∧((InI .i64 (((x).Part).Version))∧((InI .i64 (((x).Part).Owner))∧(True)))))))) ((x).Pieces))∧((InS ((x).Prefix))∧((InI .i64 ((x).Epoch))∧((InI .i64 ((x).To))∧(((InL (fun x=>(InS ((x).Path))∧((InS ((x).Data))∧((InI .i64 ((x).Version))∧((InI .i64 ((x).Turn))∧(InI .i64 ((x).Owner)))))) (((x).Store).Nodes))∧(InL (fun x=>(InS ((x).Dir))∧(InI .i64 ((x).Next))) (((x).Store).Turns)))∧((InL (fun x=>InS (x)) ((x).Gone))∧((InI .i64 (((x).Watch).Session))∧((InI .i64 (((x).Watch).Num))∧((InS (((x).Watch).Path))∧(True))))))))))))))) (a3))(h4:True):qH a0 a1 a2 a3 a4=some true:=DS a0 a1 a2 a3 a4 h0.1.1 h0.2.1 h1.1 h2.2.2.2.2.2.2.2.2.2.1.1.1 (fun x hx=>(h3.2 x hx).2.2.2.2.2.2.2.2.2.1.1.1)
theorem Vn:ownKnob Tryz.prog.godebug=none:=by kernel_rfl
theorem Q3:laidOutB Tryz.prog=true:=by kernel_rfl
set_option maxRecDepth 100000 in
theorem Pz(os:Os)(started:os.Started)(H:Type)(enc:TypeId×Value→H) :
    ReturnsInHanded {} Tryz.checked os 4 .any (fun w args=>(Rows.shardHeldSpec.pre enc Tryz.prog Tryz.f4 Rows.shardHeldRow.domain false w args∧laidMet Tryz.prog Rj w)∧sizedMet enc Tryz.prog Tryz.f4 (OpenSpec.ofChange Rows.shardHeldSpec) false w args) (Rows.shardHeldSpec.post enc Tryz.prog Tryz.f4 false true false false):=by
  refine returnsInHanded_of_change_and (C:=Tryz.checked) (X:=fun w _=>laidMet Tryz.prog Rj w) (fun _ _ _ hh h=>h.of_heap hh) Vn started (by kernel_rfl) Tryz.func4
    (ChangeSpec.witness_at (enc:=enc) (C:=Tryz.checked) (os:=os) (X:=fun w _=>laidMet Tryz.prog Rj w) false (laidWorld os) #[.agg #[.slice none 0 0,.slice none 0 0],.slice none 0 0,.agg #[.int .i64 0,.int .i64 0,.int .i64 0,.int .i64 0,.bool false,.slice none 0 0,.string ByteArray.empty,.int .i64 0,.int .i64 0,.slice none 0 0,.slice none 0 0,.slice none 0 0,.int .i64 0,.int .i64 0,.string ByteArray.empty,.bool false],.slice none 0 0,.bool false] 8 rfl (by kernel_rfl) (by kernel_rfl) (by kernel_rfl) (by kernel_rfl) (by kernel_rfl) (Ve os _)) ?_
  intro W base args ds gs before hval0 hW hcnd hsz0 hL _
  have hsz:(DataW.weightsEach Tryz.prog (Tryz.f4.params.toList ++ Rows.shardHeldSpec.plain.varTypes Tryz.prog) (ds ++ gs)).all (· ≤ reachBytes)=true:=hsz0
  have hval:∀ (j:Nat) t v,Tryz.f4.params[j]? =some t→args[j]? =some v→Value.okWide Tryz.prog W .any base t v:=hval0
  have hW':=hW
  obtain ⟨p,q,hA0,hV,rfl,hfz,hnd⟩:=hW
  have hA:DataW.TrodAll enc Tryz.prog W 0 (fun _=>true) true Tryz.f4.params.toList args.toList ds p:=hA0
  rw [Tryz.params4] at hA hval hsz
  obtain ⟨v0,vs0,d0,ds0,p0,q0,hargs,rfl,rfl,h0,r0⟩:=trodAll_cons hA
  obtain ⟨v1,vs1,d1,ds1,p1,q1,rfl,rfl,rfl,h1,r1⟩:=trodAll_cons r0
  obtain ⟨v2,vs2,d2,ds2,p2,q2,rfl,rfl,rfl,h2,r2⟩:=trodAll_cons r1
  obtain ⟨v3,vs3,d3,ds3,p3,q3,rfl,rfl,rfl,h3,r3⟩:=trodAll_cons r2
  obtain ⟨v4,vs4,d4,ds4,p4,q4,rfl,rfl,rfl,h4,r4⟩:=trodAll_cons r3
  obtain ⟨rfl,rfl,rfl⟩:=trodAll_nil r4
  obtain rfl:args= #[v0,v1,v2,v3,v4]:=by cases args;simp_all
  obtain ⟨rfl,rfl⟩:=trodVars_none hV
  obtain ⟨ca0,rfl,hcs0⟩:=okWide_struct Tryz.underlying25 (hval 0 25 v0 rfl rfl)
  have k0:=h0
  have lt0:∀ x ∈ p0,x.block < W.heap.size:=by obtain ⟨m,hm⟩:=k0;exact DataW.trod_lt m _ _ _ hm
  obtain ⟨fuel0,hf0⟩:=h0
  obtain ⟨x0,hR0,w0⟩:=(uK (fun x:aK=>(x.Nodes,x.Turns)) (fun y=>⟨y.1,y.2⟩) (fun _=>rfl) (lI Tryz.underlying25 (by kernel_rfl) (bZ (by kernel_rfl) (by kernel_rfl) (xK Tryz.underlying22 (by kernel_rfl) (of_decide_eq_true (by kernel_rfl)) (uK (fun x:aG=>(x.Path,(x.Data,(x.Version,(x.Turn,x.Owner))))) (fun y=>⟨y.1,y.2.1,y.2.2.1,y.2.2.2.1,y.2.2.2.2⟩) (fun _=>rfl) (lI Tryz.underlying107 (by kernel_rfl) (bZ (by kernel_rfl) (by kernel_rfl) (iB Tryz.underlying9) (bZ (by kernel_rfl) (by kernel_rfl) (iB Tryz.underlying9) (bZ (by kernel_rfl) (by kernel_rfl) (gB Tryz.underlying2) (bZ (by kernel_rfl) (by kernel_rfl) (gB Tryz.underlying2) (qR (by kernel_rfl) (by kernel_rfl) (gB Tryz.underlying2))))))))) (qR (by kernel_rfl) (by kernel_rfl) (xK Tryz.underlying23 (by kernel_rfl) (of_decide_eq_true (by kernel_rfl)) (uK (fun x:aM=>(x.Dir,x.Next)) (fun y=>⟨y.1,y.2⟩) (fun _=>rfl) (lI Tryz.underlying89 (by kernel_rfl) (bZ (by kernel_rfl) (by kernel_rfl) (iB Tryz.underlying9) (qR (by kernel_rfl) (by kernel_rfl) (gB Tryz.underlying2)))))))))) hf0 (Me (j:=0) (t:=25) hsz rfl rfl)
  obtain ⟨sv0_1,sv0_2,he0,sl0_1,sl0_2⟩:=T8 hR0
  obtain rfl:ca0= #[sv0_1,sv0_2]:=by have h0:ca0.toList= [sv0_1,sv0_2]:=he0;rw [← Array.toArray_toList (xs:=ca0),h0]
  obtain ⟨a1,len1,cap1,rfl⟩:=okWide_slice Tryz.underlying32 (hval 1 32 v1 rfl rfl)
  have k1:=h1
  have lt1:∀ x ∈ p1,x.block < W.heap.size:=by obtain ⟨m,hm⟩:=k1;exact DataW.trod_lt m _ _ _ hm
  obtain ⟨fuel1,hf1⟩:=h1
  obtain ⟨x1,⟨u1,e1,sl1⟩,w1⟩:=(xK Tryz.underlying32 (by kernel_rfl) (of_decide_eq_true (by kernel_rfl)) (uK (fun x:aF=>(x.Prefix,(x.Epoch,x.State))) (fun y=>⟨y.1,y.2.1,y.2.2⟩) (fun _=>rfl) (lI Tryz.underlying31 (by kernel_rfl) (bZ (by kernel_rfl) (by kernel_rfl) (iB Tryz.underlying9) (bZ (by kernel_rfl) (by kernel_rfl) (gB Tryz.underlying2) (qR (by kernel_rfl) (by kernel_rfl) (gB Tryz.underlying3))))))) hf1 (Me (j:=1) (t:=32) hsz rfl rfl)
  obtain rfl:u1= .slice a1 len1 cap1:=by cases e1;rfl
  obtain ⟨ca2,rfl,hcs2⟩:=okWide_struct Tryz.underlying37 (hval 2 37 v2 rfl rfl)
  have k2:=h2
  have lt2:∀ x ∈ p2,x.block < W.heap.size:=by obtain ⟨m,hm⟩:=k2;exact DataW.trod_lt m _ _ _ hm
  obtain ⟨fuel2,hf2⟩:=h2
  obtain ⟨x2,hR2,w2⟩:=(uK (fun x:aI=>(x.Kind,(x.Id,(x.Txn,(x.Age,(x.Yes,(x.Pieces,(x.Prefix,(x.Epoch,(x.To,(x.Store,(x.Gone,x.Watch)))))))))))) (fun y=>⟨y.1,y.2.1,y.2.2.1,y.2.2.2.1,y.2.2.2.2.1,y.2.2.2.2.2.1,y.2.2.2.2.2.2.1,y.2.2.2.2.2.2.2.1,y.2.2.2.2.2.2.2.2.1,y.2.2.2.2.2.2.2.2.2.1,y.2.2.2.2.2.2.2.2.2.2.1,y.2.2.2.2.2.2.2.2.2.2.2⟩) (fun _=>rfl) (lI Tryz.underlying37 (by kernel_rfl) (bZ (by kernel_rfl) (by kernel_rfl) (gB Tryz.underlying3) (bZ (by kernel_rfl) (by kernel_rfl) (gB Tryz.underlying2) (bZ (by kernel_rfl) (by kernel_rfl) (gB Tryz.underlying2) (bZ (by kernel_rfl) (by kernel_rfl) (gB Tryz.underlying2) (bZ (by kernel_rfl) (by kernel_rfl) (Cw Tryz.underlying4) (bZ (by kernel_rfl) (by kernel_rfl) (xK Tryz.underlying26 (by kernel_rfl) (of_decide_eq_true (by kernel_rfl)) (uK (fun x:cJ=>(x.Op,x.Part)) (fun y=>⟨y.1,y.2⟩) (fun _=>rfl) (lI Tryz.underlying99 (by kernel_rfl) (bZ (by kernel_rfl) (by kernel_rfl) (gB Tryz.underlying3) (qR (by kernel_rfl) (by kernel_rfl) (uK (fun x:bE=>(x.Kind,(x.Dir,(x.Path,(x.Data,(x.Version,(x.Owner,x.Turns))))))) (fun y=>⟨y.1,y.2.1,y.2.2.1,y.2.2.2.1,y.2.2.2.2.1,y.2.2.2.2.2.1,y.2.2.2.2.2.2⟩) (fun _=>rfl) (lI Tryz.underlying97 (by kernel_rfl) (bZ (by kernel_rfl) (by kernel_rfl) (gB Tryz.underlying3) (bZ (by kernel_rfl) (by kernel_rfl) (iB Tryz.underlying9) (bZ (by kernel_rfl) (by kernel_rfl) (iB Tryz.underlying9) (bZ (by kernel_rfl) (by kernel_rfl) (iB Tryz.underlying9) (bZ (by kernel_rfl) (by kernel_rfl) (gB Tryz.underlying2) (bZ (by kernel_rfl) (by kernel_rfl) (gB Tryz.underlying2) (qR (by kernel_rfl) (by kernel_rfl) (Cw Tryz.underlying4))))))))))))))) (bZ (by kernel_rfl) (by kernel_rfl) (iB Tryz.underlying9) (bZ (by kernel_rfl) (by kernel_rfl) (gB Tryz.underlying2) (bZ (by kernel_rfl) (by kernel_rfl) (gB Tryz.underlying3) (bZ (by kernel_rfl) (by kernel_rfl) (uK (fun x:aK=>(x.Nodes,x.Turns)) (fun y=>⟨y.1,y.2⟩) (fun _=>rfl) (lI Tryz.underlying25 (by kernel_rfl) (bZ (by kernel_rfl) (by kernel_rfl) (xK Tryz.underlying22 (by kernel_rfl) (of_decide_eq_true (by kernel_rfl)) (uK (fun x:aG=>(x.Path,(x.Data,(x.Version,(x.Turn,x.Owner))))) (fun y=>⟨y.1,y.2.1,y.2.2.1,y.2.2.2.1,y.2.2.2.2⟩) (fun _=>rfl) (lI Tryz.underlying107 (by kernel_rfl) (bZ (by kernel_rfl) (by kernel_rfl) (iB Tryz.underlying9) (bZ (by kernel_rfl) (by kernel_rfl) (iB Tryz.underlying9) (bZ (by kernel_rfl) (by kernel_rfl) (gB Tryz.underlying2) (bZ (by kernel_rfl) (by kernel_rfl) (gB Tryz.underlying2) (qR (by kernel_rfl) (by kernel_rfl) (gB Tryz.underlying2))))))))) (qR (by kernel_rfl) (by kernel_rfl) (xK Tryz.underlying23 (by kernel_rfl) (of_decide_eq_true (by kernel_rfl)) (uK (fun x:aM=>(x.Dir,x.Next)) (fun y=>⟨y.1,y.2⟩) (fun _=>rfl) (lI Tryz.underlying89 (by kernel_rfl) (bZ (by kernel_rfl) (by kernel_rfl) (iB Tryz.underlying9) (qR (by kernel_rfl) (by kernel_rfl) (gB Tryz.underlying2)))))))))) (bZ (by kernel_rfl) (by kernel_rfl) (xK Tryz.underlying33 (by kernel_rfl) (of_decide_eq_true (by kernel_rfl)) (iB Tryz.underlying9)) (qR (by kernel_rfl) (by kernel_rfl) (uK (fun x:aP=>(x.Session,(x.Num,(x.Path,x.Deep)))) (fun y=>⟨y.1,y.2.1,y.2.2.1,y.2.2.2⟩) (fun _=>rfl) (lI Tryz.underlying35 (by kernel_rfl) (bZ (by kernel_rfl) (by kernel_rfl) (gB Tryz.underlying2) (bZ (by kernel_rfl) (by kernel_rfl) (gB Tryz.underlying2) (bZ (by kernel_rfl) (by kernel_rfl) (iB Tryz.underlying9) (qR (by kernel_rfl) (by kernel_rfl) (Cw Tryz.underlying4))))))))))))))))))))) hf2 (Me (j:=2) (t:=37) hsz rfl rfl)
  obtain ⟨sv2_1,sv2_2,sv2_3,sv2_4,he2,sl2_1,sl2_2,sl2_3,sl2_4⟩:=sE hR2
  obtain rfl:ca2= #[.int .i64 x2.Kind,.int .i64 x2.Id,.int .i64 x2.Txn,.int .i64 x2.Age,.bool x2.Yes,sv2_1,.string x2.Prefix,.int .i64 x2.Epoch,.int .i64 x2.To,sv2_2,sv2_3,sv2_4,.int .i64 x2.Watch.Session,.int .i64 x2.Watch.Num,.string x2.Watch.Path,.bool x2.Watch.Deep]:=by have h0:ca2.toList= [.int .i64 x2.Kind,.int .i64 x2.Id,.int .i64 x2.Txn,.int .i64 x2.Age,.bool x2.Yes,sv2_1,.string x2.Prefix,.int .i64 x2.Epoch,.int .i64 x2.To,sv2_2,sv2_3,sv2_4,.int .i64 x2.Watch.Session,.int .i64 x2.Watch.Num,.string x2.Watch.Path,.bool x2.Watch.Deep]:=he2;rw [← Array.toArray_toList (xs:=ca2),h0]
  obtain ⟨a3,len3,cap3,rfl⟩:=okWide_slice Tryz.underlying54 (hval 3 54 v3 rfl rfl)
  have k3:=h3
  have lt3:∀ x ∈ p3,x.block < W.heap.size:=by obtain ⟨m,hm⟩:=k3;exact DataW.trod_lt m _ _ _ hm
  obtain ⟨fuel3,hf3⟩:=h3
  obtain ⟨x3,⟨u3,e3,sl3⟩,w3⟩:=(xK Tryz.underlying54 (by kernel_rfl) (of_decide_eq_true (by kernel_rfl)) (uK (fun x:aI=>(x.Kind,(x.Id,(x.Txn,(x.Age,(x.Yes,(x.Pieces,(x.Prefix,(x.Epoch,(x.To,(x.Store,(x.Gone,x.Watch)))))))))))) (fun y=>⟨y.1,y.2.1,y.2.2.1,y.2.2.2.1,y.2.2.2.2.1,y.2.2.2.2.2.1,y.2.2.2.2.2.2.1,y.2.2.2.2.2.2.2.1,y.2.2.2.2.2.2.2.2.1,y.2.2.2.2.2.2.2.2.2.1,y.2.2.2.2.2.2.2.2.2.2.1,y.2.2.2.2.2.2.2.2.2.2.2⟩) (fun _=>rfl) (lI Tryz.underlying37 (by kernel_rfl) (bZ (by kernel_rfl) (by kernel_rfl) (gB Tryz.underlying3) (bZ (by kernel_rfl) (by kernel_rfl) (gB Tryz.underlying2) (bZ (by kernel_rfl) (by kernel_rfl) (gB Tryz.underlying2) (bZ (by kernel_rfl) (by kernel_rfl) (gB Tryz.underlying2) (bZ (by kernel_rfl) (by kernel_rfl) (Cw Tryz.underlying4) (bZ (by kernel_rfl) (by kernel_rfl) (xK Tryz.underlying26 (by kernel_rfl) (of_decide_eq_true (by kernel_rfl)) (uK (fun x:cJ=>(x.Op,x.Part)) (fun y=>⟨y.1,y.2⟩) (fun _=>rfl) (lI Tryz.underlying99 (by kernel_rfl) (bZ (by kernel_rfl) (by kernel_rfl) (gB Tryz.underlying3) (qR (by kernel_rfl) (by kernel_rfl) (uK (fun x:bE=>(x.Kind,(x.Dir,(x.Path,(x.Data,(x.Version,(x.Owner,x.Turns))))))) (fun y=>⟨y.1,y.2.1,y.2.2.1,y.2.2.2.1,y.2.2.2.2.1,y.2.2.2.2.2.1,y.2.2.2.2.2.2⟩) (fun _=>rfl) (lI Tryz.underlying97 (by kernel_rfl) (bZ (by kernel_rfl) (by kernel_rfl) (gB Tryz.underlying3) (bZ (by kernel_rfl) (by kernel_rfl) (iB Tryz.underlying9) (bZ (by kernel_rfl) (by kernel_rfl) (iB Tryz.underlying9) (bZ (by kernel_rfl) (by kernel_rfl) (iB Tryz.underlying9) (bZ (by kernel_rfl) (by kernel_rfl) (gB Tryz.underlying2) (bZ (by kernel_rfl) (by kernel_rfl) (gB Tryz.underlying2) (qR (by kernel_rfl) (by kernel_rfl) (Cw Tryz.underlying4))))))))))))))) (bZ (by kernel_rfl) (by kernel_rfl) (iB Tryz.underlying9) (bZ (by kernel_rfl) (by kernel_rfl) (gB Tryz.underlying2) (bZ (by kernel_rfl) (by kernel_rfl) (gB Tryz.underlying3) (bZ (by kernel_rfl) (by kernel_rfl) (uK (fun x:aK=>(x.Nodes,x.Turns)) (fun y=>⟨y.1,y.2⟩) (fun _=>rfl) (lI Tryz.underlying25 (by kernel_rfl) (bZ (by kernel_rfl) (by kernel_rfl) (xK Tryz.underlying22 (by kernel_rfl) (of_decide_eq_true (by kernel_rfl)) (uK (fun x:aG=>(x.Path,(x.Data,(x.Version,(x.Turn,x.Owner))))) (fun y=>⟨y.1,y.2.1,y.2.2.1,y.2.2.2.1,y.2.2.2.2⟩) (fun _=>rfl) (lI Tryz.underlying107 (by kernel_rfl) (bZ (by kernel_rfl) (by kernel_rfl) (iB Tryz.underlying9) (bZ (by kernel_rfl) (by kernel_rfl) (iB Tryz.underlying9) (bZ (by kernel_rfl) (by kernel_rfl) (gB Tryz.underlying2) (bZ (by kernel_rfl) (by kernel_rfl) (gB Tryz.underlying2) (qR (by kernel_rfl) (by kernel_rfl) (gB Tryz.underlying2))))))))) (qR (by kernel_rfl) (by kernel_rfl) (xK Tryz.underlying23 (by kernel_rfl) (of_decide_eq_true (by kernel_rfl)) (uK (fun x:aM=>(x.Dir,x.Next)) (fun y=>⟨y.1,y.2⟩) (fun _=>rfl) (lI Tryz.underlying89 (by kernel_rfl) (bZ (by kernel_rfl) (by kernel_rfl) (iB Tryz.underlying9) (qR (by kernel_rfl) (by kernel_rfl) (gB Tryz.underlying2)))))))))) (bZ (by kernel_rfl) (by kernel_rfl) (xK Tryz.underlying33 (by kernel_rfl) (of_decide_eq_true (by kernel_rfl)) (iB Tryz.underlying9)) (qR (by kernel_rfl) (by kernel_rfl) (uK (fun x:aP=>(x.Session,(x.Num,(x.Path,x.Deep)))) (fun y=>⟨y.1,y.2.1,y.2.2.1,y.2.2.2⟩) (fun _=>rfl) (lI Tryz.underlying35 (by kernel_rfl) (bZ (by kernel_rfl) (by kernel_rfl) (gB Tryz.underlying2) (bZ (by kernel_rfl) (by kernel_rfl) (gB Tryz.underlying2) (bZ (by kernel_rfl) (by kernel_rfl) (iB Tryz.underlying9) (qR (by kernel_rfl) (by kernel_rfl) (Cw Tryz.underlying4)))))))))))))))))))))) hf3 (Me (j:=3) (t:=54) hsz rfl rfl)
  obtain rfl:u3= .slice a3 len3 cap3:=by cases e3;rfl
  obtain ⟨x4,rfl,rfl,rfl⟩:=open_bool Tryz.underlying4 (hval 4 4 v4 rfl rfl) h4
  have w4:True:=trivial
  clear hA0 hval0 hsz0 hsz
  have ST:=DX W [rSl aB sv0_1 x0.Nodes,rSl aC sv0_2 x0.Turns,rSl aO (.slice a1 len1 cap1) x1,rSl bN sv2_1 x2.Pieces,rSl aB sv2_2 x2.Store.Nodes,rSl aC sv2_3 x2.Store.Turns,rSl kS sv2_4 x2.Gone,rSl rU (.slice a3 len3 cap3) x3,U5 Tryz.prog] (by intro r hr;simp only [List.mem_cons,List.not_mem_nil,or_false] at hr;rcases hr with rfl | rfl | rfl | rfl | rfl | rfl | rfl | rfl | rfl;all_goals first | exact sl0_1 | exact sl0_2 | exact sl1 | exact sl2_1 | exact sl2_2 | exact sl2_3 | exact sl2_4 | exact sl3 | exact LV hL)
  refine (Dz ST (by simp) (by simp) (by simp) (by simp) (by simp) (by simp) (by simp) (by simp) (by simp) (Uc x0 x1 x2 x3 x4 w0 w1 w2 w3 w4)).mono fun e W' he=>?_
  cases e with
  | returned v=>
    obtain ⟨rfl,hs⟩:=he
    have bel:=DY hs
    exact ⟨_,rfl,_,_,_,[],_,[],hW',trodAll_mk1 (shut_bool Tryz.underlying4 _),(trodAll_cons_mk (Below.trod Q3 (by kernel_rfl) (of_decide_eq_true (by kernel_rfl)) k0 bel lt0) (trodAll_cons_mk (Below.trod Q3 (by kernel_rfl) (of_decide_eq_true (by kernel_rfl)) k1 bel lt1) (trodAll_cons_mk (Below.trod Q3 (by kernel_rfl) (of_decide_eq_true (by kernel_rfl)) k2 bel lt2) (trodAll_cons_mk (Below.trod Q3 (by kernel_rfl) (of_decide_eq_true (by kernel_rfl)) k3 bel lt3) (trodAll_cons_mk (shut_bool Tryz.underlying4 _) trodAll_mk0))))),rfl,bel.frame _,fun h=>by cases h⟩
  | _=>exact absurd he (by simp [Ret])
set_option maxHeartbeats 40000000 in
/-- The law ShardHeld is true at every input. -/
theorem shardHeld_holds:Rows.ShardHeldSaid:=
  OpenClaim.holds_of_wide 4 Tryz.f4 rfl rfl rfl rfl rfl rfl rfl ⟨rfl,rfl,rfl,rfl,rfl⟩ rfl rfl rfl rfl rfl (by as_aux_lemma=>kernel_rfl) Tryz.func4 Rk
    (of_decide_eq_true (by as_aux_lemma=>kernel_rfl)) (by unfold Func.isWrapper;first | (rw [if_pos (by decide +kernel)];kernel_rfl) | (rw [if_neg (by decide +kernel)];exact ⟨rfl,rfl⟩))
    (fun os started H enc _=>Pz os started H enc)
set_option maxHeartbeats 40000000 in
/-- THE TIED CARD of the law ShardHeld holds. -/
theorem shardHeld_card_holds:Rows.ShardHeldCardSaid:=
  Claim7.holds_tied_plain_at .later [] [.data,.data,.data] true (true, "da42a9d1bc9c293812b3729625ef3243b95bf2ffd826cb751e7fab4e7ea82861") false
    shardHeld_holds (fun _ h=>by cases h) (by as_aux_lemma=>kernel_rfl) (fun _ h=>by cases h) shardHeld_row_tie rfl ⟨rfl,rfl⟩ (by as_aux_lemma=>kernel_rfl) rfl
    (fun f fn hf hfn=>by
      obtain rfl:f=4:=Option.some.inj ((show Tryz.prog.funcNamed "canton/cantonlaw13.ShardHeld" =some 4 by as_aux_lemma=>kernel_rfl).symm.trans hf) |>.symm
      obtain rfl:fn=Tryz.f4:=(Option.some.inj (Tryz.func4.symm.trans hfn)).symm
      exact ⟨by as_aux_lemma=>kernel_rfl,fun j t ht=>by
        rw [Tryz.params4] at ht
        have h3:t=25∨t=32∨t=37∨t=54∨t=4:=by
          rcases j with _ | j
          · obtain rfl:t=25:=by simpa using ht.symm
            simp
          rcases j with _ | j
          · obtain rfl:t=32:=by simpa using ht.symm
            simp
          rcases j with _ | j
          · obtain rfl:t=37:=by simpa using ht.symm
            simp
          rcases j with _ | j
          · obtain rfl:t=54:=by simpa using ht.symm
            simp
          rcases j with _ | j
          · obtain rfl:t=4:=by simpa using ht.symm
            simp
          simp at ht
        rcases h3 with rfl | rfl | rfl | rfl | rfl
        · exact (show Tryz.prog.wantsStandIn 25=false by as_aux_lemma=>kernel_rfl)
        · exact (show Tryz.prog.wantsStandIn 32=false by as_aux_lemma=>kernel_rfl)
        · exact (show Tryz.prog.wantsStandIn 37=false by as_aux_lemma=>kernel_rfl)
        · exact (show Tryz.prog.wantsStandIn 54=false by as_aux_lemma=>kernel_rfl)
        · exact (show Tryz.prog.wantsStandIn 4=false by as_aux_lemma=>kernel_rfl)⟩)
    (by as_aux_lemma=>kernel_rfl)
end Go.Proofs.YteakhlfapjaodaaGreatDoor
