/- A shard, plainly: what each kind of command comes to. -/
import Derived.Test.YtppeaaolgckfcaaGreatDoorE7sm
set_option linter.unusedVariables false
set_option linter.unusedSimpArgs false
namespace Go.Cb
open Go.Proofs Go.RowKit

structure Sh where
 s:Sto
 r:List Rg
 h:List Hd
 w:bC
 x:List (Int×aX)
 y:List (Int×gI)
 z:List (Int×aX)
structure Inv (n:Nat) (σ:Sh):Prop where
 s:cV σ.s
 sn:σ.s.Nodes.length <= n
 st:σ.s.Turns.length <= n
 r:dW σ.r
 h:Js σ.h
 hl:σ.h.length <= n
 w:rN σ.w
 wl:σ.w.Sessions.length <= n
 x:σ.x.length <= 512
 y:σ.y.length <= 128
 z:σ.z.length <= 128
 tx:∀ t v,dN σ.y t=some v->v.pieces_.length <= 16/\∀ p ∈ v.pieces_,yQ p.Part=true
abbrev Ans:=aX
abbrev Txn:=gI
abbrev okA:Ans:=⟨0,0,false,0,[],(⟨[],[]⟩:Sto),[],[],[]⟩
theorem jW(e:Int):dR e=some (oW e):=rfl
def uT(l:List Pie):List BY:=tU (xZ (l.map λp=>p.Part.Dir))
theorem My(l:List Pie):(uT l).length <= l.length:=Nat.le_trans (KE _) (by simp)
theorem HP{α:Type}(l:List (Int×α)){i j:Int}(v:α)(h:dN l j=none){u:α}(g:dN l i=some u):dN (lX l j v) i=some u:=by
 by_cases e:i=j
 ·subst e;rw [h] at g;cases g
 rw [qH _ e];exact g
section
variable {n:Nat} {σ:Sh} (I:Inv n σ) (hn:n <= 50000) {c:Cmd} (C:Du c)
include I hn C
/-! ### run -/
theorem TS:∃ a s' u,zA σ.s.Nodes σ.s.Turns σ.r σ.h σ.w.Watches σ.w.Sessions c=some (a,s'.Nodes,s'.Turns,u.Watches,u.Sessions)/\rN u/\u.Sessions.length=σ.w.Sessions.length/\
  ((∃ e,(e=131∨e=132)/\a=oW e/\s'=σ.s)∨(xX σ.r (uT c.Pieces)=0/\(∀ d ∈ uT c.Pieces,Fx σ.h (bl d)=false)/\a=EF σ.s c.Pieces/\s'=Bc σ.s c.Pieces)):=by
 have hp:=C.len;have dl:=My c.Pieces;have sn:=I.sn;have st:=I.st;have hl:=I.hl;have wl:=I.wl;unfold zA uK uJ;rw [CH _ (by omega)];simp only [bS];rw [show tU (xZ (c.Pieces.map λp=>p.Part.Dir))=uT c.Pieces from rfl,EM _ _ (by omega) (by omega),Zy I.r _ (by omega)];simp only [bS];by_cases e:xX σ.r (uT c.Pieces)=0
 ·rw [iP (by simpa using e)];cases hd:(uT c.Pieces).any λd=>Fx σ.h (bl d) with
  | true=>
   rw [iP (by trivial),iP (by rfl),jW];exact ⟨_,σ.s,σ.w,rfl,I.w,rfl,.inl ⟨131,.inl rfl,rfl,rfl⟩⟩
  | false=>
   rw [iN (by simp),iN (by simpa using e)];obtain ⟨u,u1,u2,u3⟩:=CN σ.s c.Pieces I.s (by omega) (by omega) (by omega) C.may I.w (by omega);rw [u1];exact ⟨_,_,u,rfl,u2,u3,.inr ⟨e,λd h=>by simpa using List.any_eq_false.1 hd d h,rfl,rfl⟩⟩
 rw [iN (by simpa using e),iN (by simp),iP (by simpa using e),jW];refine ⟨_,σ.s,σ.w,rfl,I.w,rfl,.inl ⟨_,?_,rfl,rfl⟩⟩;unfold xX at e ⊢
 repeat' split at e
 all_goals first | exact absurd rfl e | (repeat' split) <;> simp_all
/-! ### prepare -/
theorem CO:∃ a h' y',tR σ.s.Nodes σ.s.Turns σ.r σ.h σ.y c=some (a,h',y')/\
    ((∃ v,dN σ.y c.Txn=some v/\h'=σ.h/\y'=σ.y/\((v.over_=true/\a=oW 133)∨(v.over_=false/\a=v.a_)))∨
     (dN σ.y c.Txn=none/\h'=σ.h/\y'=σ.y/\(∃ e,(e=131∨e=132∨(e=2/\σ.y.length=128))/\a.Err=e)/\a.Yes=false/\a.Wounded.length <= 1000000/\a= { oW a.Err with Wounded:=a.Wounded })∨
     (dN σ.y c.Txn=none/\xX σ.r (uT c.Pieces)=0/\Fy σ.h c.Txn c.Age (uT c.Pieces) h'/\y'=lX σ.y c.Txn ⟨false,c.Pieces,a⟩/\a= ⟨(mX σ.s 0 σ.s [] c.Pieces).2.2.1,(mX σ.s 0 σ.s [] c.Pieces).2.2.2,(mX σ.s 0 σ.s [] c.Pieces).2.2.1 == 0,0,(mX σ.s 0 σ.s [] c.Pieces).2.1,⟨[],[]⟩,[],[],[]⟩/\σ.y.length < 128)):=by
  have hp:=C.len
  have dl:=My c.Pieces
  have sn:=I.sn
  have st:=I.st
  have hl:=I.hl
  have yl:=I.y
  unfold tR U7 mlk
  rw [iP (E3 C.txn)]
  simp only [Option.map_some,bS]
  unfold uM
  cases g:dN σ.y c.Txn with
  | some v=>
    rw [iP (by rfl)]
    simp only [Option.getD_some]
    cases ov:v.over_ with
    | true=>rw [iP (by trivial),jW];exact ⟨_,_,_,rfl,.inl ⟨v,rfl,rfl,rfl,.inl ⟨ov,rfl⟩⟩⟩
    | false=>rw [iN (by simp)];exact ⟨_,_,_,rfl,.inl ⟨v,rfl,rfl,rfl,.inr ⟨ov,rfl⟩⟩⟩
  | none=>
    rw [iN (by simp),CH _ (by omega)]
    simp only [bS]
    rw [show tU (xZ (c.Pieces.map λp=>p.Part.Dir))=uT c.Pieces from rfl,Zy I.r _ (by omega)]
    simp only [bS]
    have wc:xX σ.r (uT c.Pieces)=0∨xX σ.r (uT c.Pieces)=131∨xX σ.r (uT c.Pieces)=132:=by
      unfold xX
      split
      · exact .inr (.inr rfl)
      · split
        · exact .inr (.inl rfl)
        · exact .inl rfl
    unfold pY pX
    by_cases e:xX σ.r (uT c.Pieces)=0
    · rw [iP (by simpa using e)]
      by_cases f:σ.y.length=128
      · rw [iP (by simp [f]),iP (by rfl),jW]
        exact ⟨_,_,_,rfl,.inr (.inl ⟨by trivial,rfl,rfl,⟨2,.inr (.inr ⟨rfl,f⟩),rfl⟩,rfl,by simp,rfl⟩)⟩
      · rw [iN (by simp;omega),iN (by simpa using e)]
        rcases Zz I.h (by omega) C.txn C.age (uT c.Pieces) (by omega) (OH C.may) with ⟨H,W,t1,t2⟩ | ⟨H,t1,t2⟩
        · rw [t1]
          simp only [bS]
          rw [iP (by rfl)]
          exact ⟨_,_,_,rfl,.inr (.inl ⟨by trivial,rfl,rfl,⟨131,.inl rfl,rfl⟩,rfl,t2,rfl⟩)⟩
        · rw [t1]
          simp only [bS]
          rw [iN (by simp),show (⟨σ.s.Nodes,σ.s.Turns⟩:Sto)=σ.s from rfl,(Pu σ.s c.Pieces I.s (by omega) (by omega) (by omega) C.may).1]
          simp only [bS]
          unfold uL mpt
          rw [iP ⟨E3 C.txn,by simp [maxLen];omega⟩]
          exact ⟨_,_,_,rfl,.inr (.inr ⟨by trivial,e,t2,rfl,rfl,by omega⟩)⟩
    · rw [iN (by simpa using e),iN (by simp),iP (by simpa using e),jW]
      refine ⟨_,_,_,rfl,.inr (.inl ⟨by trivial,rfl,rfl,⟨xX σ.r (uT c.Pieces),?_,rfl⟩,rfl,by simp,rfl⟩)⟩
      rcases wc with h | h | h
      · exact absurd h e
      · exact .inl h
      · exact .inr (.inl h)
/-! ### finish -/
abbrev Jt:Txn:=⟨true,[],oW 0⟩
theorem HQ:∃ a s' h' u y',uG σ.s.Nodes σ.s.Turns σ.h σ.w.Watches σ.w.Sessions σ.y c=some (a,s'.Nodes,s'.Turns,h',u.Watches,u.Sessions,y')/\rN u/\u.Sessions.length=σ.w.Sessions.length/\
    ((s'=σ.s/\h'=σ.h/\y'=σ.y/\((dN σ.y c.Txn=none/\(a=oW 62∨a=oW 2))∨∃ v,dN σ.y c.Txn=some v/\v.over_=true/\a=okA))∨
     (a=okA/\h'=σ.h.filter (λx=>!(x.Txn == c.Txn))/\y'=lX σ.y c.Txn Jt/\((dN σ.y c.Txn=none/\c.Yes=false/\s'=σ.s/\σ.y.length < 128)∨∃ v,dN σ.y c.Txn=some v/\v.over_=false/\s'=if c.Yes=true/\v.a_.Yes=true then Bc σ.s v.pieces_ else σ.s))):=by
  have sn:=I.sn
  have st:=I.st
  have hl:=I.hl
  have yl:=I.y
  have wl:=I.wl
  unfold uG U7 mlk
  rw [iP (E3 C.txn)]
  simp only [Option.map_some,bS]
  unfold vF
  cases g:dN σ.y c.Txn with
  | none=>
    rw [iP (by rfl)]
    unfold nI
    cases ye:c.Yes with
    | true=>
      rw [iP (by trivial),jW]
      exact ⟨_,σ.s,_,σ.w,_,rfl,I.w,rfl,.inl ⟨rfl,rfl,rfl,.inl ⟨rfl,.inl rfl⟩⟩⟩
    | false=>
      rw [iN (by simp),iP (by rfl)]
      unfold nH mpt
      by_cases f:σ.y.length=128
      · rw [iP (by simp [f]),jW]
        exact ⟨_,σ.s,_,σ.w,_,rfl,I.w,rfl,.inl ⟨rfl,rfl,rfl,.inl ⟨rfl,.inr rfl⟩⟩⟩
      · rw [iN (by simp;omega),iN (by simp [Ck]),iP ⟨E3 C.txn,by simp [maxLen];omega⟩,CL _ _ (by omega)]
        simp only [bS]
        rw [iN (by simp [ye])]
        unfold nG nF
        rw [iN (by simp)]
        exact ⟨_,σ.s,_,σ.w,_,rfl,I.w,rfl,.inr ⟨rfl,rfl,rfl,.inl ⟨by trivial,by trivial,rfl,by omega⟩⟩⟩
  | some v=>
    rw [iN (by simp)]
    unfold nI
    simp only [Option.isSome_some,Option.getD_some]
    rw [iN (by simp),iN (by simp)]
    unfold nH mpt
    rw [iN (by simp)]
    cases ov:v.over_ with
    | true=>
      rw [iP (by trivial)]
      exact ⟨_,σ.s,_,σ.w,_,rfl,I.w,rfl,.inl ⟨rfl,rfl,rfl,.inr ⟨v,rfl,ov,rfl⟩⟩⟩
    | false=>
      rw [iN (by simp),iP ⟨E3 C.txn,by simp [maxLen];omega⟩,CL _ _ (by omega)]
      simp only [bS]
      unfold nG nF
      by_cases q:c.Yes=true/\v.a_.Yes=true
      · obtain ⟨t1,t2⟩:=I.tx _ _ g
        obtain ⟨u,u1,u2,u3⟩:=CN σ.s v.pieces_ I.s (by omega) (by omega) (by omega) t2 I.w (by omega)
        rw [iP q.1,iP q.2,u1]
        exact ⟨_,_,_,u,_,rfl,u2,u3,.inr ⟨rfl,rfl,rfl,.inr ⟨v,rfl,ov,by rw [iP q]⟩⟩⟩
      · have fin:∀ b:Bool,¬ (c.Yes=true/\b=true)->∀ k:Option (Ans×List Nd×List Tn×List Hd×List Wat×List Ses×List (Int×Txn)),(if c.Yes=true then if b=true then k else some (okA,σ.s.Nodes,σ.s.Turns,σ.h.filter (λx=>!(x.Txn == c.Txn)),σ.w.Watches,σ.w.Sessions,lX σ.y c.Txn Jt) else if false=true then k else some (okA,σ.s.Nodes,σ.s.Turns,σ.h.filter (λx=>!(x.Txn == c.Txn)),σ.w.Watches,σ.w.Sessions,lX σ.y c.Txn Jt))=some (okA,σ.s.Nodes,σ.s.Turns,σ.h.filter (λx=>!(x.Txn == c.Txn)),σ.w.Watches,σ.w.Sessions,lX σ.y c.Txn Jt):=λb hb k=>by
          cases hy:c.Yes with
          | false=>rw [iN (by simp),iN (by simp)]
          | true=>
            rw [iP (by trivial),iN (λh=>hb ⟨hy,h⟩)]
        refine ⟨_,σ.s,_,σ.w,_,(fin v.a_.Yes q _),I.w,rfl,.inr ⟨rfl,rfl,rfl,.inr ⟨v,rfl,ov,by rw [iN q]⟩⟩⟩
/-! ### decide -/
theorem HR:∃ a z',uE σ.z c=some (a,z')/\z'.length <= 128:=by
 have _:=hn;have zl:=I.z;unfold uE U7 mlk;rw [iP (E3 C.txn)];simp only [Option.map_some,bS];unfold vE qV mpt Wr mlk;rw [iP (E3 C.txn)];simp only [Option.map_some,bS];cases g:dN σ.z c.Txn with
 | some v=>rw [iN (by simp)];exact ⟨_,_,rfl,zl⟩
 | none=>
  rw [iP (by rfl)];by_cases f:σ.z.length=128
  ·rw [iP (by simp [f]),jW];exact ⟨_,_,rfl,zl⟩
  rw [iN (by simp;omega),iP ⟨E3 C.txn,by simp [maxLen];omega⟩];simp only [bS];rw [iP (E3 C.txn)];exact ⟨_,_,rfl,by rw [C9,g];simp;omega⟩
/-! ### freeze, drop, install -/
abbrev Cg (e:Int) (l:List Rg) (p:BY) (s:Sto):Ans:=⟨0,0,false,e,[],(⟨s.Nodes.filter (inN l (bl p)),s.Turns.filter (inT l (bl p))⟩:Sto),[],[],[]⟩
theorem Mz:∃ a r',lT σ.s.Nodes σ.s.Turns σ.r σ.h c=some (a,r')/\dW r'/\
    ((r'=σ.r/\∃ e,(e=131∨e=132∨e=133)/\a=oW e)∨
     (r'=σ.r/\a=Cg c.Epoch σ.r c.Prefix σ.s/\∃ x ∈ σ.r,bX x=bl c.Prefix/\x.State=2/\x.Epoch=c.Epoch)∨
     (r'=eD σ.r ⟨c.Prefix,c.Epoch,2⟩/\a=Cg c.Epoch r' c.Prefix σ.s/\(σ.h.any λx=>atP r' (bl c.Prefix) (jD x))=false/\dK (bl c.Prefix)=true/\stR σ.r (bl c.Prefix)=1)):=by
  have _:=C
  have sn:=I.sn
  have st:=I.st
  have hl:=I.hl
  unfold lT nK nJ qZ
  have frz:∃ a r',((wD σ.r c.Prefix).bind λu242=>if (!u242.2)=true then ((dR 132).bind λu245=>some (u245,σ.r)) else ((lP u242.1 c.Prefix).bind λu254=>(idx u242.1 u254).bind λx256=>if (x256.Epoch != c.Epoch)=true then ((dR 133).bind λu263=>some (u263,σ.r)) else ((pV σ.h u242.1 c.Prefix).bind λu271=>if u271=true then ((dR 131).bind λu273=>some (u273,σ.r)) else ((lR u242.1 c.Prefix).bind λu45=>(wW (⟨σ.s.Nodes,σ.s.Turns⟩:aG) u242.1 c.Prefix).bind λu60=>some ((⟨0,0,false,u45.1.Epoch,[],(⟨u60.1,u60.2.1⟩:aG),[],[],[]⟩:aX),u242.1)))))=some (a,r')/\dW r'/\((r'=σ.r/\∃ e,(e=131∨e=132∨e=133)/\a=oW e)∨
     (r'=σ.r/\a=Cg c.Epoch σ.r c.Prefix σ.s/\∃ x ∈ σ.r,bX x=bl c.Prefix/\x.State=2/\x.Epoch=c.Epoch)∨
     (r'=eD σ.r ⟨c.Prefix,c.Epoch,2⟩/\a=Cg c.Epoch r' c.Prefix σ.s/\(σ.h.any λx=>atP r' (bl c.Prefix) (jD x))=false/\dK (bl c.Prefix)=true/\stR σ.r (bl c.Prefix)=1)):=by
    rcases HK I.r c.Prefix with f | ⟨i,hi,f1,f2,f3,f4,f5⟩
    · rw [f]
      simp only [bS]
      rw [iP (by rfl),jW]
      exact ⟨_,_,rfl,I.r,.inl ⟨rfl,132,.inr (.inl rfl),rfl⟩⟩
    · rw [f3]
      simp only [bS]
      rw [iN (by simp),Re f4]
      simp only [bS]
      have me:(⟨c.Prefix,(σ.r[i]).Epoch,2⟩:Rg) ∈ eD σ.r ⟨c.Prefix,(σ.r[i]).Epoch,2⟩:=VX.2 (.inl rfl)
      have rs:=Mx f4 me
      rcases C7 f4 (bl c.Prefix) with ⟨_,e⟩ | ⟨j,hj,e1,e2⟩
      · rw [show bl c.Prefix=bX (⟨c.Prefix,(σ.r[i]).Epoch,2⟩:Rg) from rfl,rs] at e;cases e
      · rw [show bl c.Prefix=bX (⟨c.Prefix,(σ.r[i]).Epoch,2⟩:Rg) from rfl,rs] at e2
        have e3:=Option.some.inj e2
        rw [e1,bY hj,← e3]
        simp only [bS]
        by_cases ep:(σ.r[i]).Epoch=c.Epoch
        · rw [iN (by simpa using ep)]
          rw [ep] at f4 me ⊢
          rw [Rh f4 _ (by omega)]
          simp only [bS]
          cases hh:σ.h.any λx=>atP (eD σ.r ⟨c.Prefix,c.Epoch,2⟩) (bl c.Prefix) (jD x) with
          | true=>
            rw [iP (by trivial),jW]
            exact ⟨_,_,rfl,I.r,.inl ⟨rfl,131,.inl rfl,rfl⟩⟩
          | false=>
            rw [iN (by simp)]
            rcases Es f4 c.Prefix with ⟨_,q⟩ | ⟨x,q1,q2,q3⟩
            · exact absurd rfl (q _ me)
            · have xe:x= ⟨c.Prefix,c.Epoch,2⟩:=Er f4.sort q1 me q2
              rw [q3]
              simp only [bS]
              rw [show (⟨σ.s.Nodes,σ.s.Turns⟩:Sto)=σ.s from rfl,Bd f4 c.Prefix I.s (by omega) (by omega),xe]
              refine ⟨_,_,rfl,f4,.inr (.inr ⟨rfl,rfl,hh,f5,?_⟩)⟩
              have ri:vC σ.r (bl c.Prefix)=some σ.r[i]:=by
                rcases f1 with ⟨q,_⟩ | ⟨m,q,hm,a,b⟩
                · omega
                · have:m=i:=by omega
                  subst this
                  exact Dz I.r (List.getElem_mem hi) a b
              unfold stR;rw [ri];exact f2
        · rw [iP (by simpa using ep),jW]
          exact ⟨_,_,rfl,I.r,.inl ⟨rfl,133,.inr (.inr rfl),rfl⟩⟩
  rcases Es I.r c.Prefix with ⟨f,q⟩ | ⟨x,q1,q2,q3⟩
  · rw [f]
    simp only [bS]
    rw [iP (by rfl),iP (by trivial)]
    exact frz
  · rw [q3]
    simp only [bS]
    by_cases s2:x.State=2
    · rw [iN (by simpa using s2)]
      by_cases ep:x.Epoch=c.Epoch
      · rw [iN (by simpa using ep),show (⟨σ.s.Nodes,σ.s.Turns⟩:Sto)=σ.s from rfl,Bd I.r c.Prefix I.s (by omega) (by omega)]
        refine ⟨_,_,rfl,I.r,.inr (.inl ⟨rfl,?_,x,q1,q2,s2,ep⟩)⟩
        simp only [ep]
      · rw [iP (by simpa using ep)]
        exact frz
    · rw [iP (by simpa using s2),iP (by trivial)]
      exact frz
theorem CP:∃ s' r',nC σ.s.Nodes σ.s.Turns σ.r c=some (s'.Nodes,s'.Turns,r')/\dW r'/\
  ((s'=σ.s/\r'=σ.r)∨(s'= ⟨σ.s.Nodes.filter (λx=>!inN σ.r (bl c.Prefix) x),σ.s.Turns.filter λx=>!inT σ.r (bl c.Prefix) x⟩/\r'=eD σ.r ⟨c.Prefix,c.Epoch,3⟩/\∃ x ∈ σ.r,bX x=bl c.Prefix/\x.State=2/\x.Epoch=c.Epoch)):=by
 have _:=C;have sn:=I.sn;have st:=I.st;unfold nC pD;rcases OI I.r c.Prefix c.Epoch with f | ⟨x,f1,f2,f3,f4,f5⟩
 ·rw [f];simp only [bS];rw [iN (by simp)];exact ⟨σ.s,_,rfl,I.r,.inl ⟨rfl,rfl⟩⟩
 rw [f4];simp only [bS];rw [iP (by trivial),show (⟨σ.s.Nodes,σ.s.Turns⟩:Sto)=σ.s from rfl,Bd I.r c.Prefix I.s (by omega) (by omega)];refine ⟨⟨_,_⟩,_,rfl,f5,.inr ⟨rfl,rfl,x,List.mem_of_find?_eq_some f1,?_,f2,f3⟩⟩;have:=List.find?_some f1;exact of_decide_eq_true this
theorem OY{l:List Nd}(h:∀ x ∈ l,pnB x=true)(d:l.Pairwise (λa b=>key a ≠ key b)):(srtN l).all pnB=true/\(srtN l).Pairwise (key · < key ·):=by
 have _:=I;have _:=hn;have _:=C;have hp:=srt_perm l;refine ⟨List.all_eq_true.2 λx hx=>h x (hp.mem_iff.1 hx),?_⟩;have nd:(srtN l).Pairwise (λa b=>key a ≠ key b):=(hp.pairwise_iff (λh=>h.symm)).2 d;exact ((srt_sorted l).and nd).imp λh=>Ic h.1 (λe=>h.2 e.symm)
theorem OZ{l:List Tn}(h:∀ x ∈ l,ptB x=true)(d:l.Pairwise (λa b=>cG a ≠ cG b)):(Tn.srtN l).all ptB=true/\(Tn.srtN l).Pairwise (cG · < cG ·):=by
 have _:=I;have _:=hn;have _:=C;have hp:=Tn.srt_perm l;refine ⟨List.all_eq_true.2 λx hx=>h x (hp.mem_iff.1 hx),?_⟩;have nd:(Tn.srtN l).Pairwise (λa b=>cG a ≠ cG b):=(hp.pairwise_iff (λh=>h.symm)).2 d;exact ((Tn.srt_sorted l).and nd).imp λh=>Ic h.1 (λe=>h.2 e.symm)
/-- what of two stores, parted by ranges, is one's and another's. -/
def Ju(r:List Rg)(p:List UInt8)(s t:Sto):Sto:=⟨srtN (s.Nodes.filter (λx=>!inN r p x) ++ t.Nodes.filter (inN r p)),Tn.srtN (s.Turns.filter (λx=>!inT r p x) ++ t.Turns.filter (inT r p))⟩
theorem TT(r:List Rg)(p:List UInt8){s t:Sto}(S:cV s)(T:cV t):cV (Ju r p s t)/\(Ju r p s t).Nodes.length <= s.Nodes.length+t.Nodes.length/\(Ju r p s t).Turns.length <= s.Turns.length+t.Turns.length:=by
 have a:=cV.filt S (λx=>!inN r p x) (λx=>!inT r p x);have b:=cV.filt T (inN r p) (inT r p);obtain ⟨n1,n2⟩:=OY I hn C (l:=s.Nodes.filter (λx=>!inN r p x) ++ t.Nodes.filter (inN r p)) (λx hx=>by
  rcases List.mem_append.1 hx with h | h
  ·exact List.all_eq_true.1 a.nodes x h
  exact List.all_eq_true.1 b.nodes x h) (List.pairwise_append.2 ⟨a.nsort.imp λh=>uR h,b.nsort.imp λh=>uR h,λx hx y hy e=>by
  have h1:=(List.mem_filter.1 hx).2;have h2:=(List.mem_filter.1 hy).2;unfold inN at h1 h2;rw [e,h2] at h1;cases h1⟩)
 obtain ⟨t1,t2⟩:=OZ I hn C (l:=s.Turns.filter (λx=>!inT r p x) ++ t.Turns.filter (inT r p)) (λx hx=>by
  rcases List.mem_append.1 hx with h | h
  ·exact List.all_eq_true.1 a.turns x h
  exact List.all_eq_true.1 b.turns x h) (List.pairwise_append.2 ⟨a.tsort.imp λh=>uR h,b.tsort.imp λh=>uR h,λx hx y hy e=>by
  have h1:=(List.mem_filter.1 hx).2;have h2:=(List.mem_filter.1 hy).2;unfold inT at h1 h2;rw [e,h2] at h1;cases h1⟩)
 refine ⟨⟨n1,n2,t1,t2⟩,?_,?_⟩
 ·unfold Ju;rw [srt_len,List.length_append];exact Nat.add_le_add (List.length_filter_le _ _) (List.length_filter_le _ _)
 unfold Ju;rw [Tn.srt_len,List.length_append];exact Nat.add_le_add (List.length_filter_le _ _) (List.length_filter_le _ _)
theorem Tr:∃ a s' r',kK σ.s.Nodes σ.s.Turns σ.r σ.h c=some (a,s'.Nodes,s'.Turns,r')/\dW r'/\
  ((s'=σ.s/\r'=σ.r/\(∃ e,(e=0∨e=2∨e=131)/\a=oW e))∨(a=okA/\s'=Ju r' (bl c.Prefix) σ.s c.Store/\(σ.h.any λx=>atP r' (bl c.Prefix) (jD x))=false/\(σ.h.any λx=>!Fw σ.r r' (jD x))=false/\mU σ.r c.Prefix c.Epoch=some (eD σ.r ⟨c.Prefix,c.Epoch,1⟩,true)/\(∀ x ∈ eD σ.r ⟨c.Prefix,c.Epoch,1⟩,x ∈ r')/\(∀ x ∈ r',x ∈ eD σ.r ⟨c.Prefix,c.Epoch,1⟩∨(x.Epoch=0/\x.State=3/\∃ p ∈ c.Gone,bX x=bl p))/\xR (eD σ.r ⟨c.Prefix,c.Epoch,1⟩) c.Gone=some r')):=by
 have sn:=I.sn;have st:=I.st;have hl:=I.hl;have cn:=C.sn;have ct:=C.st;unfold kK;have j1:∃ a s' r',iC c σ.s.Nodes σ.s.Turns σ.r σ.h false=some (a,s'.Nodes,s'.Turns,r')/\dW r'/\
  ((s'=σ.s/\r'=σ.r/\(∃ e,(e=0∨e=2∨e=131)/\a=oW e))∨(a=okA/\s'=Ju r' (bl c.Prefix) σ.s c.Store/\(σ.h.any λx=>atP r' (bl c.Prefix) (jD x))=false/\(σ.h.any λx=>!Fw σ.r r' (jD x))=false/\mU σ.r c.Prefix c.Epoch=some (eD σ.r ⟨c.Prefix,c.Epoch,1⟩,true)/\(∀ x ∈ eD σ.r ⟨c.Prefix,c.Epoch,1⟩,x ∈ r')/\(∀ x ∈ r',x ∈ eD σ.r ⟨c.Prefix,c.Epoch,1⟩∨(x.Epoch=0/\x.State=3/\∃ p ∈ c.Gone,bX x=bl p))/\xR (eD σ.r ⟨c.Prefix,c.Epoch,1⟩) c.Gone=some r')):=by
  unfold iC;rw [iN (by simp)];rcases EK I.r c.Prefix c.Epoch with f | ⟨f,f2,f3⟩
  ·rw [f];simp only [bS];rw [iN (by simp)];unfold jU jT;rw [iP (by rfl),iP (by rfl),jW];exact ⟨_,σ.s,_,rfl,I.r,.inl ⟨rfl,rfl,2,.inr (.inl rfl),rfl⟩⟩
  rw [f];simp only [bS];obtain ⟨l,g1,g2,g3,g4⟩:=OJ c.Gone C.gone (λp hp=>by
   obtain ⟨ps,k,e,_⟩:=Oe (C.gin p hp).1;unfold dK;rw [e];rfl) _ f2
  rw [iP (by trivial),g1];simp only [bS];unfold jU jT;rw [iN (by simp)];by_cases l32:l.length <= 32
  ·rw [iN (by simp;omega)];have R:dW l:=⟨g2.all,g2.sort,l32⟩
   rw [Rh R _ (by omega)];simp only [bS];unfold mO;cases hh:σ.h.any λx=>atP l (bl c.Prefix) (jD x) with
   | true=>
    rw [iP (by trivial),iP (by trivial),jW];exact ⟨_,σ.s,_,rfl,I.r,.inl ⟨rfl,rfl,131,.inr (.inr rfl),rfl⟩⟩
   | false=>
    rw [iN (by simp),Vx I.r R _ (by omega)];simp only [bS];cases oo:σ.h.any λx=>!Fw σ.r l (jD x) with
    | true=>
     rw [iP (by trivial),jW];exact ⟨_,σ.s,_,rfl,I.r,.inl ⟨rfl,rfl,131,.inr (.inr rfl),rfl⟩⟩
    | false=>
     rw [iN (by simp),show (⟨σ.s.Nodes,σ.s.Turns⟩:Sto)=σ.s from rfl,Bd R c.Prefix I.s (by omega) (by omega)];simp only [bS];unfold pW;rw [Bd R c.Prefix C.store (by omega) (by omega)];simp only [bS];have n1:=List.length_filter_le (λx=>!inN l (bl c.Prefix) x) σ.s.Nodes;have n2:=List.length_filter_le (inN l (bl c.Prefix)) c.Store.Nodes;have n3:=List.length_filter_le (λx=>!inT l (bl c.Prefix) x) σ.s.Turns;have n4:=List.length_filter_le (inT l (bl c.Prefix)) c.Store.Turns;rw [dJ (Nat.le_trans (Nat.add_le_add n1 n2) (by simp only [LIM];omega)),dJ (Nat.le_trans (Nat.add_le_add n3 n4) (by simp only [LIM];omega)),dJ (by rw [List.length_append];omega),dJ (by rw [List.length_append];omega)];exact ⟨_,Ju l (bl c.Prefix) σ.s c.Store,_,rfl,R,.inr ⟨rfl,rfl,hh,oo,by trivial,g3,g4,by rfl⟩⟩
  rw [iP (by simp;omega),jW];exact ⟨_,σ.s,_,rfl,I.r,.inl ⟨rfl,rfl,2,.inr (.inl rfl),rfl⟩⟩
 rcases Es I.r c.Prefix with ⟨f,q⟩ | ⟨x,q1,q2,q3⟩
 ·rw [f];simp only [bS];rw [iN (by simp)];exact j1
 rw [q3];simp only [bS];rw [iP (by trivial)];by_cases ep:x.Epoch ≥ c.Epoch
 ·rw [decide_eq_true ep];unfold iC;rw [iP (by trivial)];exact ⟨_,σ.s,_,rfl,I.r,.inl ⟨rfl,rfl,0,.inl rfl,rfl⟩⟩
 rw [decide_eq_false ep];exact j1
/-! ### watches -/
theorem U5{w:bC}(u:bC)(l:List Ev)(e:Int):mP w.Watches w.Sessions u l e=some (if e=0 then { okA with Events:=l } else oW e,if e=0 then u.Watches else w.Watches,if e=0 then u.Sessions else w.Sessions):=by
 have _:=I;have _:=hn;have _:=C;unfold mP;by_cases h:e=0
 ·rw [iN (by simpa using h),iP h,iP h,iP h]
 rw [iP (by simpa using h),iN h,iN h,iN h,jW];rfl
theorem KL:∃ a u,vS σ.w.Watches σ.w.Sessions c=some (a,u.Watches,u.Sessions)/\rN u/\u.Sessions.length <= σ.w.Sessions.length+1/\a.Results= []/\a.Events.length <= 8/\a= { oW a.Err with Events:=a.Events }:=by
 unfold vS wY;rw [show (⟨σ.w.Watches,σ.w.Sessions⟩:bC)=σ.w from rfl];rcases TL I.w (by have:=I.wl;omega) c.Watch with ⟨u,e,h1,h2⟩ | ⟨u,h1,h2,h3⟩
 ·rw [h1];simp only [bS];rw [U5 I hn C];exact ⟨oW e,σ.w,by simp [h2],I.w,by omega,rfl,by simp,rfl⟩
 rw [h1];simp only [bS];rw [U5 I hn C];exact ⟨okA,u,rfl,h2,h3,rfl,by simp,rfl⟩
theorem EN:∃ a u,tP σ.w.Watches σ.w.Sessions c=some (a,u.Watches,u.Sessions)/\rN u/\u.Sessions.length <= σ.w.Sessions.length+1/\a.Results= []/\a.Events.length <= 8/\a= { oW a.Err with Events:=a.Events }:=by
 unfold tP uI;rw [show (⟨σ.w.Watches,σ.w.Sessions⟩:bC)=σ.w from rfl];rcases KH I.w (by have:=I.wl;omega) c.Watch.Session c.Watch.Num with ⟨u,e,h1,h2⟩ | ⟨u,h1,h2,h3⟩
 ·rw [h1];simp only [bS];rw [U5 I hn C];exact ⟨oW e,σ.w,by simp [h2],I.w,by omega,rfl,by simp,rfl⟩
 rw [h1];simp only [bS];rw [U5 I hn C];exact ⟨okA,u,rfl,h2,by rw [h3];omega,rfl,by simp,rfl⟩
theorem PA:∃ a u,xT σ.w.Watches σ.w.Sessions c=some (a,u.Watches,u.Sessions)/\rN u/\u.Sessions.length <= σ.w.Sessions.length+1/\a.Results= []/\a.Events.length <= 8/\a= { oW a.Err with Events:=a.Events }:=by
 unfold xT;rw [show (⟨σ.w.Watches,σ.w.Sessions⟩:bC)=σ.w from rfl];rcases OR I.w (by have:=I.wl;omega) c.Watch.Session c.Epoch with ⟨u,l,e,h1,h2⟩ | ⟨u,l,h1,h2,h3,h4⟩
 ·rw [h1];simp only [bS];rw [U5 I hn C];exact ⟨oW e,σ.w,by simp [h2],I.w,by omega,rfl,by simp,rfl⟩
 rw [h1];simp only [bS];rw [U5 I hn C];exact ⟨{ okA with Events:=l },u,rfl,h2,by omega,rfl,h4,rfl⟩
end
end Go.Cb
