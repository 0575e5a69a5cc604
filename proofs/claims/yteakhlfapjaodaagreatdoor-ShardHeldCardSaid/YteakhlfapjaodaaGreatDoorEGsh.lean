/- ShardHeld, plainly: the law. -/
import Derived.Test.YteakhlfapjaodaaGreatDoorEFsh
set_option linter.unusedVariables false
set_option linter.unusedSimpArgs false
namespace Go.Cb
open Go.Proofs Go.RowKit

section
variable (a:List Nd) (b:List Tn) (r:List Rg) (d:List Hd) (f:List Wat) (g:List Ses) (x:List (Int×Ans)) (y:List (Int×Txn)) (z:List (Int×Ans)) {c:Cmd}
theorem do2(hr:eE c=some true)(k:c.Kind=2):bY a b r d f g x y z c=(jQ a b r d y c).bind λu=>some (u.1,a,b,r,u.2.1,f,g,x,u.2.2,z):=by
 rw [Sg _ _ _ _ _ _ _ _ _ hr (by omega),decide_eq_false (by omega),Bool.false_and];unfold jN;rw [iN (by simp),iP (by simpa using k)]
theorem do3(hr:eE c=some true)(k:c.Kind=3):bY a b r d f g x y z c=(pQ a b d f g y c).bind λu=>some (u.1,u.2.1,u.2.2.1,r,u.2.2.2.1,u.2.2.2.2.1,u.2.2.2.2.2.1,x,u.2.2.2.2.2.2,z):=by
 rw [Sg _ _ _ _ _ _ _ _ _ hr (by omega),decide_eq_false (by omega),Bool.false_and];unfold jN;rw [iN (by simp),iN (by simp [k]),iP (by simpa using k)]
end
abbrev S9 (c:Cmd):Cmd:=⟨2,c.Id,c.Txn,c.Age,c.Yes,c.Pieces,c.Prefix,c.Epoch,c.To,c.Store,c.Gone,c.Watch⟩
abbrev Ci (s:Sto) (l:List Pie):Ans:=⟨(fI s 0 s [] l).2.2.1,(fI s 0 s [] l).2.2.2,(fI s 0 s [] l).2.2.1 == 0,0,(fI s 0 s [] l).2.1,⟨[],[]⟩,[],[],[]⟩
theorem BP{s:Sto}{l:List Pie}(S:cI s)(hn:s.Nodes.length <= 50000)(ht:s.Turns.length <= 50000)(hl:l.length <= 1000)(hm:∀ p ∈ l,tW p.Part=true):(fI s 0 s [] l).2.2.1=0->(fI s 0 s [] l).2.1.length=l.length/\∀ x ∈ (fI s 0 s [] l).2.1,Ha x:=λe=>by
 obtain ⟨_,_,_,a,b⟩:=(Bn s l S hn ht hl hm).2 e;exact ⟨a,b⟩
theorem BQ(s0:Sto):∀ (l:List Pie) (i:Nat) (s:Sto) (acc:List Res),(fI s0 i s acc l).2.2.1 ≠ 0->(fI s0 i s acc l).2.1= []
 | [],_,_,_,h=>absurd rfl h
 | p::l,i,s,acc,h=>by
  unfold fI at h ⊢;split
  ·rfl
  rename_i c;rw [iN c] at h;exact BQ s0 l _ _ _ h
theorem JP(c:Cmd)(hr:eE (S9 c)=some true)(C:Ae (S9 c))(ds:List BY)(hds:ds.length <= 60)(hd:∀ d ∈ ds,∃ p ∈ c.Pieces,p.Part.Dir=d)(yes:Bool)(cmds:List Cmd){s:Sto}(S:cI s)(hn:s.Nodes.length <= 3000)(ht:s.Turns.length <= 3000)(u43:Ans×List Nd×List Tn×List Rg×List Hd×List Wat×List Ses×List (Int×Ans)×List (Int×Txn)×List (Int×Ans))(hu:u43.1=Ci s c.Pieces)
  {n:Nat} {σ:Sh} (I:Inv n σ) (hn5:n <= 49000) (hv:dA σ.y c.Txn=some ⟨false,c.Pieces,Ci s c.Pieces⟩) (hs:∀ p ∈ c.Pieces,rX (bl p.Part.Dir) s σ.s) (k:Nat) (i:Int) (hi:¬ i < cmds.length) :
  cV cmds true c u43 s ds yes (k+1) i σ.s.Nodes σ.s.Turns σ.r σ.h σ.w.Watches σ.w.Sessions σ.x σ.y σ.z=some true:=by
 have sn:=I.sn;have st:=I.st;have cl:c.Pieces.length <= 16:=C.len;have may:∀ p ∈ c.Pieces,tW p.Part=true:=C.may;unfold cV;rw [iN (by simpa using hi),Ys σ.s (by omega) (by omega)];simp only [bS];rw [JO S I.s (by omega) (by omega) (by omega) (by omega) ds (by omega) (λd h=>by
  obtain ⟨p,p1,p2⟩:=hd d h;rw [← p2];exact hs p p1)]
 simp only [bS];rw [iN (by simp),do2 _ _ _ _ _ _ _ _ _ hr rfl];obtain ⟨a,h',y',q1,q2⟩:=Mw I (by omega) C;rw [q1];simp only [bS];have q3:a=Ci s c.Pieces/\h'=σ.h/\y'=σ.y:=by
  rcases q2 with ⟨v,v1,v2,v3,v4⟩ | ⟨v1,_⟩ | ⟨v1,_⟩
  ·rw [show (S9 c).Txn=c.Txn from rfl,hv] at v1;cases v1;rcases v4 with ⟨o,_⟩ | ⟨_,o⟩
   ·cases o
   exact ⟨o,v2,v3⟩
  ·rw [show (S9 c).Txn=c.Txn from rfl,hv] at v1;cases v1
  rw [show (S9 c).Txn=c.Txn from rfl,hv] at v1;cases v1
 obtain ⟨rfl,rfl,rfl⟩:=q3;have sm:KH (Ci s c.Pieces):=by
  by_cases e:(fI s 0 s [] c.Pieces).2.2.1=0
  ·obtain ⟨x1,x2⟩:=BP S (by omega) (by omega) (by omega) may e;exact ⟨by simp only;omega,λx hx=>(x2 x hx).1,by simp,by simp,by simp,by simp,rfl⟩
  have:=BQ s c.Pieces 0 s [] e;exact ⟨by simp only;rw [this];simp,λx hx=>(by simp only at hx;rw [this] at hx;simp at hx),by simp,by simp,by simp,by simp,rfl⟩
 rw [hu,UB _ sm];simp only [bS];rw [iN (by simp)];have fr:eE (Dq 3 0 c.Txn 0 yes [])=some true:=by
  rw [RJ 3 0 c.Txn 0 yes [] (by omega) (by omega) (by simp)];unfold DB;rw [show nQ c.Txn=true from C.txn];rfl
 obtain ⟨b,b1,b2⟩:=Bo (Dq 3 0 c.Txn 0 yes []) (by simp) (by simp) (by simp) (by simp);rw [fr] at b1;cases b1;have F:=b2 rfl;rw [show (⟨3,0,c.Txn,0,yes,[],(ByteArray.mk #[]),0,0,(⟨[],[]⟩:aK),[],(⟨0,0,(ByteArray.mk #[]),false⟩:aP)⟩:aI)=Dq 3 0 c.Txn 0 yes [] from rfl,do3 _ _ _ _ _ _ _ _ _ fr rfl];obtain ⟨a2,s',h2,u,y2,f1,_,_,f2⟩:=Zh I (by omega) F;rw [f1];simp only [bS];have f3:a2=okA/\s'=if yes=true/\(Ci s c.Pieces).Yes=true then G6 σ.s c.Pieces else σ.s:=by
  rcases f2 with ⟨_,_,_,g⟩ | ⟨e,_,_,g⟩
  ·rcases g with ⟨g,_⟩ | ⟨v,g,o,_⟩
   ·rw [show (Dq 3 0 c.Txn 0 yes []).Txn=c.Txn from rfl,hv] at g;cases g
   rw [show (Dq 3 0 c.Txn 0 yes []).Txn=c.Txn from rfl,hv] at g;cases g;cases o
  refine ⟨e,?_⟩;rcases g with ⟨g,_⟩ | ⟨v,g,_,o⟩
  ·rw [show (Dq 3 0 c.Txn 0 yes []).Txn=c.Txn from rfl,hv] at g;cases g
  rw [show (Dq 3 0 c.Txn 0 yes []).Txn=c.Txn from rfl,hv] at g;cases g;exact o
 obtain ⟨rfl,hs'⟩:=f3;obtain ⟨q1,q2,q3⟩:=Ty σ.s c.Pieces I.s may;have sl:s'.Nodes.length <= 60000/\s'.Turns.length <= 60000:=by
  rw [hs'];split
  ·exact ⟨by omega,by omega⟩
  exact ⟨by omega,by omega⟩
 rw [Ys s' (by omega) (by omega)];simp only [bS];rw [iN (by simp)];have j5t:¬ (yes=true/\(Ci s c.Pieces).Yes=true)->∀ w:List Hd×List Wat×List Ses×List (Int×Ans)×List (Int×Txn)×List (Int×Ans),∀ N T R,gI true (okA,N,T,R,w) s' σ.s c u43 true=some true:=λh w N T R=>by
  unfold gI;rw [iP rfl,iP rfl,iP (by rfl),hs',iN h,Ub _ (by omega) (by omega)];rfl
 cases yes with
 | false=>
  rw [iP (by rfl)];exact j5t (by simp) _ _ _ _
 | true=>
  rw [iN (by simp)];by_cases e:(fI s 0 s [] c.Pieces).2.2.1=0
  ·have ye:(Ci s c.Pieces).Yes=true:=by simpa using e
   have loc:=Sn s σ.s c.Pieces 0 s σ.s [] S I.s may hs;have e2:(fI σ.s 0 σ.s [] c.Pieces).2.2.1=0:=by rw [← loc];exact e
   rw [show ((fI s 0 s [] c.Pieces).2.2.1 == 0)=true from by simpa using e];unfold gI;rw [iN (by simp),(Bn σ.s c.Pieces I.s (by omega) (by omega) (by omega) may).1];simp only [bS,if_true];rw [iP (by simpa using e2),hs',iP ⟨rfl,ye⟩,show G6 σ.s c.Pieces=(fI σ.s 0 σ.s [] c.Pieces).1 from by unfold G6;rw [iN (by simpa using e2)]];have le:(fI σ.s 0 σ.s [] c.Pieces).1.Nodes.length <= 60000/\(fI σ.s 0 σ.s [] c.Pieces).1.Turns.length <= 60000:=by
    rw [hs',iP ⟨rfl,ye⟩,show G6 σ.s c.Pieces=(fI σ.s 0 σ.s [] c.Pieces).1 from by unfold G6;rw [iN (by simpa using e2)]] at sl;exact sl
   rw [Ub _ (by omega) (by omega)];simp only [bS,if_true];rw [hu,← loc];obtain ⟨x1,x2⟩:=BP S (by omega) (by omega) (by omega) may e;rw [Jc _ (by omega) (λx hx=>(x2 x hx).1)];rfl
  have ye:(Ci s c.Pieces).Yes=false:=by simpa using e
  rw [show ((fI s 0 s [] c.Pieces).2.2.1 == 0)=false from by simpa using e];exact j5t (by rw [ye];simp) _ _ _ _
theorem Zo(c:Cmd)(hr:eE (S9 c)=some true)(C:Ae (S9 c))(ds:List BY)(hds:ds.length <= 60)(hd:∀ d ∈ ds,∃ p ∈ c.Pieces,p.Part.Dir=d)(yes:Bool)(cmds:List Cmd)(hl:cmds.length <= 60)(hc:∀ c ∈ cmds,Bp c){s:Sto}(S:cI s)(hn:s.Nodes.length <= 3000)(ht:s.Turns.length <= 3000)(u43:Ans×List Nd×List Tn×List Rg×List Hd×List Wat×List Ses×List (Int×Ans)×List (Int×Txn)×List (Int×Ans))(hu:u43.1=Ci s c.Pieces):∀ (m i:Nat) (σ:Sh),i <= cmds.length->cmds.length+1 <= i+m->Inv (4000+600 * i) σ->DN σ->dA σ.y c.Txn=some ⟨false,c.Pieces,Ci s c.Pieces⟩->(∀ p ∈ c.Pieces,rX (bl p.Part.Dir) s σ.s)->
  cV cmds true c u43 s ds yes m (i:Int) σ.s.Nodes σ.s.Turns σ.r σ.h σ.w.Watches σ.w.Sessions σ.x σ.y σ.z=some true
 | 0,i,σ,_,h,_,_,_,_=>by omega
 | m+1,i,σ,h0,h,I,H,hv,hs=>by
  by_cases hi:i < cmds.length
  ·unfold cV;rw [iP (by simpa using hi),bU hi];simp only [bS];have j3:∀ τ:Sh,Inv (4000+600 * (i+1)) τ->DN τ->dA τ.y c.Txn=some ⟨false,c.Pieces,Ci s c.Pieces⟩->(∀ p ∈ c.Pieces,rX (bl p.Part.Dir) s τ.s)->kG (cV cmds true c u43 s ds yes m) (i:Int) τ.s.Nodes τ.s.Turns τ.r τ.h τ.w.Watches τ.w.Sessions τ.x τ.y τ.z=some true:=λτ a1 a2 a3 a4=>by
    unfold kG;rw [gV (by omega)];exact Zo c hr C ds hds hd yes cmds hl hc S hn ht u43 hu m (i+1) τ (by omega) (by omega) a1 a2 a3 a4
   have skip:fD (cV cmds true c u43 s ds yes m) (i:Int) cmds σ.s.Nodes σ.s.Turns σ.r σ.h σ.w.Watches σ.w.Sessions σ.x σ.y σ.z false=some true:=by
    unfold fD;rw [iN (by simp)];exact j3 σ (I.mono (by omega)) H hv hs
   have go:((cmds[i]).Txn ≠ c.Txn∨((cmds[i]).Kind ≠ 3/\(cmds[i]).Kind ≠ 2))->fD (cV cmds true c u43 s ds yes m) (i:Int) cmds σ.s.Nodes σ.s.Turns σ.r σ.h σ.w.Watches σ.w.Sessions σ.x σ.y σ.z true=some true:=λhk=>by
    unfold fD;rw [iP rfl,bU hi];simp only [bS];have sm:=hc _ (List.getElem_mem hi);obtain ⟨a,τ,d1,d2,_⟩:=KG I (by omega) cmds[i] sm;obtain ⟨a',τ',e1,e2⟩:=NP I (by omega) cmds[i] sm;rw [d1] at e1;obtain ⟨rfl,rfl⟩:=Zn e1;rw [show bY σ.s.Nodes σ.s.Turns σ.r σ.h σ.w.Watches σ.w.Sessions σ.x σ.y σ.z cmds[i]=doS σ cmds[i] from rfl,d1];simp only [bS];obtain ⟨g1,g2,g3⟩:=GT I d2 H e2 hv rfl hk;exact j3 τ (d2.mono (by omega)) g1 g2 (λp hp=>(hs p hp).trans (g3 p hp))
   by_cases t:(cmds[i]).Txn=c.Txn
   ·rw [iN (by simpa using t)];by_cases k3:(cmds[i]).Kind=3
    ·rw [iN (by simpa using k3)];exact skip
    rw [iP (by simpa using k3)];by_cases k2:(cmds[i]).Kind=2
    ·rw [show ((cmds[i]).Kind != 2)=false from by simpa using k2];exact skip
    rw [show ((cmds[i]).Kind != 2)=true from by simpa using k2];exact go (.inr ⟨k3,k2⟩)
   rw [iP (by simpa using t)];exact go (.inl t)
  exact JP c hr C ds hds hd yes cmds S hn ht u43 hu I (by omega) hv hs m _ (by simpa using hi)
theorem DS(s:Sto)(l:List Rg)(c:Cmd)(cmds:List Cmd)(yes:Bool)(hn:s.Nodes.length <= 140737488351232)(ht:s.Turns.length <= 140737488351232)(hl:l.length <= 140737488351232)(hc:DP c)(hcs:∀ c ∈ cmds,DP c):qH s l c cmds yes=some true:=by
 unfold qH;rw [IZ];simp only [bS];rcases SD s l hn ht hl with h | ⟨h,S,R⟩
 ·rw [h];rfl
 rw [h];simp only [bS,Ol];have j1t:fE cmds true c yes (s.Nodes,s.Turns,l) true=some true:=by unfold fE;rw [iP rfl]
 obtain ⟨b,g1,g2⟩:=Uu s hn;rw [g1];simp only [bS];cases b with
 | true=>rw [iP (by trivial),j1t]
 | false=>
  obtain ⟨_,s1,s2⟩:=g2 rfl;rw [iN (by simp)];obtain ⟨b,g3⟩:=DO l;rw [g3];simp only [bS];cases b with
  | true=>rw [iP (by trivial),j1t]
  | false=>
   rw [iN (by simp)];obtain ⟨b,g4,g5⟩:=DQ cmds hcs;rw [g4];simp only [bS];cases b with
   | true=>rw [iP (by trivial),j1t]
   | false=>
    obtain ⟨c1,c2⟩:=g5 rfl;rw [iN (by simp)];obtain ⟨b,g6,g7⟩:=Og c hc;rw [g6];simp only [bS];cases b with
    | true=>exact j1t
    | false=>
     obtain ⟨sc,pl,_⟩:=g7 rfl;have I:=US S R s1 s2;unfold fE;rw [iN (by simp)];simp only;obtain ⟨ds,ds1,ds2,ds3⟩:=GU c.Pieces (by omega);obtain ⟨b,hr,hC⟩:=Bo (S9 c) sc.p sc.g sc.n sc.t;have none_held:∀ a:Ans,gJ cmds true c (a,s.Nodes,s.Turns,l,[],[],[],[],[],[]) ds yes true=some true:=λa=>by
      unfold gJ uU;rw [iP rfl,iP rfl];rfl
     cases b with
     | false=>
      rw [Zi _ _ _ _ _ _ _ _ _ hr,ds1];simp only [bS];rw [iP (by rfl)];exact none_held _
     | true=>
      have C:=hC rfl;rw [do2 _ _ _ _ _ _ _ _ _ hr rfl];obtain ⟨a,h',y',q1,q2⟩:=Mw (σ:=sh0 s l) I (by omega) C;rw [show jQ s.Nodes s.Turns l ([]:List aU) ([]:List (Int×fJ)) (S9 c)=some (a,h',y') from q1];simp only [bS];rw [ds1];simp only [bS];rcases q2 with ⟨v,v1,_⟩ | ⟨_,rfl,rfl,⟨e,e1,e2⟩,_⟩ | ⟨g,w0,T,rfl,ae,_⟩
      ·simp [dA] at v1
      ·rcases e1 with rfl | rfl | ⟨_,q⟩
       ·rw [iN (by simp [e2]),iP (by simp [e2])];exact none_held _
       ·rw [iN (by simp [e2]),iN (by simp [e2]),show (a.Err == 132)=true from by simp [e2]];exact none_held _
       simp at q
      have ge:=Pw s c.Pieces 0 s [];have ar:a=Ci s c.Pieces:=ae;have er:a.Err=(fI s 0 s [] c.Pieces).2.2.1:=by rw [ar]
      unfold Ew at ge;rw [iN (by simp;omega),iN (by simp;omega),show (a.Err == 132)=false from by simp;omega];unfold gJ;rw [iN (by simp)];simp only;rw [Ys s (by omega) (by omega)];simp only [bS];obtain ⟨a',τ,d1,d2,_⟩:=KG I (by omega) (S9 c) ⟨sc.p,sc.g,sc.n,sc.t⟩;have dq:doS (sh0 s l) (S9 c)=Lx a ⟨s,l,h',⟨[],[]⟩,[],hY [] c.Txn ⟨false,c.Pieces,a⟩,[]⟩:=by
       rw [doS,do2 _ _ _ _ _ _ _ _ _ hr rfl,show jQ (sh0 s l).s.Nodes (sh0 s l).s.Turns (sh0 s l).r (sh0 s l).h (sh0 s l).y (S9 c)=_ from q1];rfl
      rw [dq] at d1;obtain ⟨rfl,rfl⟩:=Zn d1;refine Zo c hr C ds (by omega) ds3 yes cmds c1 c2 S (by omega) (by omega) _ ar _ 0 (⟨s,l,h',⟨[],[]⟩,[],hY [] c.Txn ⟨false,c.Pieces,a⟩,[]⟩:Sh) (by omega) (by omega) (d2.mono (by omega)) ⟨λt v gv ov p hp=>?_,λx hx=>?_⟩ ?_ (λp _=>.refl _ _)
      ·by_cases e:t=c.Txn
       ·subst e;rw [show (⟨s,l,h',⟨[],[]⟩,[],hY [] c.Txn ⟨false,c.Pieces,a⟩,[]⟩:Sh).y=hY [] c.Txn ⟨false,c.Pieces,a⟩ from rfl,pJ] at gv;cases gv;exact T.all _ (Py hp)
       rw [show (⟨s,l,h',⟨[],[]⟩,[],hY [] c.Txn ⟨false,c.Pieces,a⟩,[]⟩:Sh).y=hY [] c.Txn ⟨false,c.Pieces,a⟩ from rfl,kE _ e] at gv;simp [dA] at gv
      ·rcases T.new x hx with q | ⟨d,q,rfl⟩
       ·simp at q
       exact Pu R w0 d q
      rw [show (⟨s,l,h',⟨[],[]⟩,[],hY [] c.Txn ⟨false,c.Pieces,a⟩,[]⟩:Sh).y=hY [] c.Txn ⟨false,c.Pieces,a⟩ from rfl,pJ,ar]
end Go.Cb
