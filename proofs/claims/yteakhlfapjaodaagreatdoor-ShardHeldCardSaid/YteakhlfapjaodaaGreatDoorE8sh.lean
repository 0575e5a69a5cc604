/- A shard, plainly: what each kind of command comes to. -/
import Derived.Test.YteakhlfapjaodaaGreatDoorE7sh
set_option linter.unusedVariables false
set_option linter.unusedSimpArgs false
namespace Go.Cb
open Go.Proofs Go.RowKit

structure Sh where
 s:Sto
 r:List Rg
 h:List Hd
 w:aY
 x:List (Int×aW)
 y:List (Int×fJ)
 z:List (Int×aW)
structure Inv (n:Nat) (σ:Sh):Prop where
 s:cI σ.s
 sn:σ.s.Nodes.length <= n
 st:σ.s.Turns.length <= n
 r:eX σ.r
 h:Et σ.h
 hl:σ.h.length <= n
 w:qP σ.w
 wl:σ.w.Sessions.length <= n
 x:σ.x.length <= 512
 y:σ.y.length <= 128
 z:σ.z.length <= 128
 tx:∀ t v,dA σ.y t=some v->v.pieces_.length <= 16/\∀ p ∈ v.pieces_,tW p.Part=true
abbrev Ans:=aW
abbrev Txn:=fJ
abbrev okA:Ans:=⟨0,0,false,0,[],(⟨[],[]⟩:Sto),[],[],[]⟩
theorem kD(e:Int):dK e=some (rW e):=rfl
def uJ(l:List Pie):List BY:=tB (wY (l.map λp=>p.Part.Dir))
theorem Lw(l:List Pie):(uJ l).length <= l.length:=Nat.le_trans (JC _) (by simp)
theorem GP{α:Type}(l:List (Int×α)){i j:Int}(v:α)(h:dA l j=none){u:α}(g:dA l i=some u):dA (hY l j v) i=some u:=by
 by_cases e:i=j
 ·subst e;rw [h] at g;cases g
 rw [kE _ e];exact g
section
variable {n:Nat} {σ:Sh} (I:Inv n σ) (hn:n <= 50000) {c:Cmd} (C:Ae c)
include I hn C
/-! ### run -/
theorem RZ:∃ a s' u,xX σ.s.Nodes σ.s.Turns σ.r σ.h σ.w.Watches σ.w.Sessions c=some (a,s'.Nodes,s'.Turns,u.Watches,u.Sessions)/\qP u/\u.Sessions.length=σ.w.Sessions.length/\
  ((∃ e,(e=131∨e=132)/\a=rW e/\s'=σ.s)∨(xY σ.r (uJ c.Pieces)=0/\(∀ d ∈ uJ c.Pieces,Cv σ.h (bl d)=false)/\a=DC σ.s c.Pieces/\s'=G6 σ.s c.Pieces)):=by
 have hp:=C.len;have dl:=Lw c.Pieces;have sn:=I.sn;have st:=I.st;have hl:=I.hl;have wl:=I.wl;unfold xX tR tQ;rw [BH _ (by omega)];simp only [bS];rw [show tB (wY (c.Pieces.map λp=>p.Part.Dir))=uJ c.Pieces from rfl,DJ _ _ (by omega) (by omega),Ze I.r _ (by omega)];simp only [bS];by_cases e:xY σ.r (uJ c.Pieces)=0
 ·rw [iP (by simpa using e)];cases hd:(uJ c.Pieces).any λd=>Cv σ.h (bl d) with
  | true=>
   rw [iP (by trivial),iP (by rfl),kD];exact ⟨_,σ.s,σ.w,rfl,I.w,rfl,.inl ⟨131,.inl rfl,rfl,rfl⟩⟩
  | false=>
   rw [iN (by simp),iN (by simpa using e)];obtain ⟨u,u1,u2,u3⟩:=BM σ.s c.Pieces I.s (by omega) (by omega) (by omega) C.may I.w (by omega);rw [u1];exact ⟨_,_,u,rfl,u2,u3,.inr ⟨e,λd h=>by simpa using List.any_eq_false.1 hd d h,rfl,rfl⟩⟩
 rw [iN (by simpa using e),iN (by simp),iP (by simpa using e),kD];refine ⟨_,σ.s,σ.w,rfl,I.w,rfl,.inl ⟨_,?_,rfl,rfl⟩⟩;unfold xY at e ⊢
 repeat' split at e
 all_goals first | exact absurd rfl e | (repeat' split) <;> simp_all
/-! ### prepare -/
theorem Mw:∃ a h' y',jQ σ.s.Nodes σ.s.Turns σ.r σ.h σ.y c=some (a,h',y')/\
    ((∃ v,dA σ.y c.Txn=some v/\h'=σ.h/\y'=σ.y/\((v.over_=true/\a=rW 133)∨(v.over_=false/\a=v.a_)))∨
     (dA σ.y c.Txn=none/\h'=σ.h/\y'=σ.y/\(∃ e,(e=131∨e=132∨(e=2/\σ.y.length=128))/\a.Err=e)/\a.Yes=false/\a.Wounded.length <= 1000000/\a= { rW a.Err with Wounded:=a.Wounded })∨
     (dA σ.y c.Txn=none/\xY σ.r (uJ c.Pieces)=0/\Eu σ.h c.Txn c.Age (uJ c.Pieces) h'/\y'=hY σ.y c.Txn ⟨false,c.Pieces,a⟩/\a= ⟨(fI σ.s 0 σ.s [] c.Pieces).2.2.1,(fI σ.s 0 σ.s [] c.Pieces).2.2.2,(fI σ.s 0 σ.s [] c.Pieces).2.2.1 == 0,0,(fI σ.s 0 σ.s [] c.Pieces).2.1,⟨[],[]⟩,[],[],[]⟩/\σ.y.length < 128)):=by
  have hp:=C.len
  have dl:=Lw c.Pieces
  have sn:=I.sn
  have st:=I.st
  have hl:=I.hl
  have yl:=I.y
  unfold jQ Q5 mlk
  rw [iP (A8 C.txn)]
  simp only [Option.map_some,bS]
  unfold tT
  cases g:dA σ.y c.Txn with
  | some v=>
    rw [iP (by rfl)]
    simp only [Option.getD_some]
    cases ov:v.over_ with
    | true=>rw [iP (by trivial),kD];exact ⟨_,_,_,rfl,.inl ⟨v,rfl,rfl,rfl,.inl ⟨ov,rfl⟩⟩⟩
    | false=>rw [iN (by simp)];exact ⟨_,_,_,rfl,.inl ⟨v,rfl,rfl,rfl,.inr ⟨ov,rfl⟩⟩⟩
  | none=>
    rw [iN (by simp),BH _ (by omega)]
    simp only [bS]
    rw [show tB (wY (c.Pieces.map λp=>p.Part.Dir))=uJ c.Pieces from rfl,Ze I.r _ (by omega)]
    simp only [bS]
    have wc:xY σ.r (uJ c.Pieces)=0∨xY σ.r (uJ c.Pieces)=131∨xY σ.r (uJ c.Pieces)=132:=by
      unfold xY
      split
      · exact .inr (.inr rfl)
      · split
        · exact .inr (.inl rfl)
        · exact .inl rfl
    unfold pF pE
    by_cases e:xY σ.r (uJ c.Pieces)=0
    · rw [iP (by simpa using e)]
      by_cases f:σ.y.length=128
      · rw [iP (by simp [f]),iP (by rfl),kD]
        exact ⟨_,_,_,rfl,.inr (.inl ⟨by trivial,rfl,rfl,⟨2,.inr (.inr ⟨rfl,f⟩),rfl⟩,rfl,by simp,rfl⟩)⟩
      · rw [iN (by simp;omega),iN (by simpa using e)]
        rcases Zf I.h (by omega) C.txn C.age (uJ c.Pieces) (by omega) (MV C.may) with ⟨H,W,t1,t2⟩ | ⟨H,t1,t2⟩
        · rw [t1]
          simp only [bS]
          rw [iP (by rfl)]
          exact ⟨_,_,_,rfl,.inr (.inl ⟨by trivial,rfl,rfl,⟨131,.inl rfl,rfl⟩,rfl,t2,rfl⟩)⟩
        · rw [t1]
          simp only [bS]
          rw [iN (by simp),show (⟨σ.s.Nodes,σ.s.Turns⟩:Sto)=σ.s from rfl,(Bn σ.s c.Pieces I.s (by omega) (by omega) (by omega) C.may).1]
          simp only [bS]
          unfold tS mpt
          rw [iP ⟨A8 C.txn,by simp [maxLen];omega⟩]
          exact ⟨_,_,_,rfl,.inr (.inr ⟨by trivial,e,t2,rfl,rfl,by omega⟩)⟩
    · rw [iN (by simpa using e),iN (by simp),iP (by simpa using e),kD]
      refine ⟨_,_,_,rfl,.inr (.inl ⟨by trivial,rfl,rfl,⟨xY σ.r (uJ c.Pieces),?_,rfl⟩,rfl,by simp,rfl⟩)⟩
      rcases wc with h | h | h
      · exact absurd h e
      · exact .inl h
      · exact .inr (.inl h)
/-! ### finish -/
abbrev Is:Txn:=⟨true,[],rW 0⟩
theorem Zh:∃ a s' h' u y',pQ σ.s.Nodes σ.s.Turns σ.h σ.w.Watches σ.w.Sessions σ.y c=some (a,s'.Nodes,s'.Turns,h',u.Watches,u.Sessions,y')/\qP u/\u.Sessions.length=σ.w.Sessions.length/\
    ((s'=σ.s/\h'=σ.h/\y'=σ.y/\((dA σ.y c.Txn=none/\(a=rW 62∨a=rW 2))∨∃ v,dA σ.y c.Txn=some v/\v.over_=true/\a=okA))∨
     (a=okA/\h'=σ.h.filter (λx=>!(x.Txn == c.Txn))/\y'=hY σ.y c.Txn Is/\((dA σ.y c.Txn=none/\c.Yes=false/\s'=σ.s/\σ.y.length < 128)∨∃ v,dA σ.y c.Txn=some v/\v.over_=false/\s'=if c.Yes=true/\v.a_.Yes=true then G6 σ.s v.pieces_ else σ.s))):=by
  have sn:=I.sn
  have st:=I.st
  have hl:=I.hl
  have yl:=I.y
  have wl:=I.wl
  unfold pQ Q5 mlk
  rw [iP (A8 C.txn)]
  simp only [Option.map_some,bS]
  unfold uE
  cases g:dA σ.y c.Txn with
  | none=>
    rw [iP (by rfl)]
    unfold mK
    cases ye:c.Yes with
    | true=>
      rw [iP (by trivial),kD]
      exact ⟨_,σ.s,_,σ.w,_,rfl,I.w,rfl,.inl ⟨rfl,rfl,rfl,.inl ⟨rfl,.inl rfl⟩⟩⟩
    | false=>
      rw [iN (by simp),iP (by rfl)]
      unfold mJ mpt
      by_cases f:σ.y.length=128
      · rw [iP (by simp [f]),kD]
        exact ⟨_,σ.s,_,σ.w,_,rfl,I.w,rfl,.inl ⟨rfl,rfl,rfl,.inl ⟨rfl,.inr rfl⟩⟩⟩
      · rw [iN (by simp;omega),iN (by simp [Bd]),iP ⟨A8 C.txn,by simp [maxLen];omega⟩,BL _ _ (by omega)]
        simp only [bS]
        rw [iN (by simp [ye])]
        unfold mI mH
        rw [iN (by simp)]
        exact ⟨_,σ.s,_,σ.w,_,rfl,I.w,rfl,.inr ⟨rfl,rfl,rfl,.inl ⟨by trivial,by trivial,rfl,by omega⟩⟩⟩
  | some v=>
    rw [iN (by simp)]
    unfold mK
    simp only [Option.isSome_some,Option.getD_some]
    rw [iN (by simp),iN (by simp)]
    unfold mJ mpt
    rw [iN (by simp)]
    cases ov:v.over_ with
    | true=>
      rw [iP (by trivial)]
      exact ⟨_,σ.s,_,σ.w,_,rfl,I.w,rfl,.inl ⟨rfl,rfl,rfl,.inr ⟨v,rfl,ov,rfl⟩⟩⟩
    | false=>
      rw [iN (by simp),iP ⟨A8 C.txn,by simp [maxLen];omega⟩,BL _ _ (by omega)]
      simp only [bS]
      unfold mI mH
      by_cases q:c.Yes=true/\v.a_.Yes=true
      · obtain ⟨t1,t2⟩:=I.tx _ _ g
        obtain ⟨u,u1,u2,u3⟩:=BM σ.s v.pieces_ I.s (by omega) (by omega) (by omega) t2 I.w (by omega)
        rw [iP q.1,iP q.2,u1]
        exact ⟨_,_,_,u,_,rfl,u2,u3,.inr ⟨rfl,rfl,rfl,.inr ⟨v,rfl,ov,by rw [iP q]⟩⟩⟩
      · have fin:∀ b:Bool,¬ (c.Yes=true/\b=true)->∀ k:Option (Ans×List Nd×List Tn×List Hd×List Wat×List Ses×List (Int×Txn)),(if c.Yes=true then if b=true then k else some (okA,σ.s.Nodes,σ.s.Turns,σ.h.filter (λx=>!(x.Txn == c.Txn)),σ.w.Watches,σ.w.Sessions,hY σ.y c.Txn Is) else if false=true then k else some (okA,σ.s.Nodes,σ.s.Turns,σ.h.filter (λx=>!(x.Txn == c.Txn)),σ.w.Watches,σ.w.Sessions,hY σ.y c.Txn Is))=some (okA,σ.s.Nodes,σ.s.Turns,σ.h.filter (λx=>!(x.Txn == c.Txn)),σ.w.Watches,σ.w.Sessions,hY σ.y c.Txn Is):=λb hb k=>by
          cases hy:c.Yes with
          | false=>rw [iN (by simp),iN (by simp)]
          | true=>
            rw [iP (by trivial),iN (λh=>hb ⟨hy,h⟩)]
        refine ⟨_,σ.s,_,σ.w,_,(fin v.a_.Yes q _),I.w,rfl,.inr ⟨rfl,rfl,rfl,.inr ⟨v,rfl,ov,by rw [iN q]⟩⟩⟩
/-! ### decide -/
theorem GQ:∃ a z',tK σ.z c=some (a,z')/\z'.length <= 128:=by
 have _:=hn;have zl:=I.z;unfold tK Q5 mlk;rw [iP (A8 C.txn)];simp only [Option.map_some,bS];unfold uD pY mpt Vq mlk;rw [iP (A8 C.txn)];simp only [Option.map_some,bS];cases g:dA σ.z c.Txn with
 | some v=>rw [iN (by simp)];exact ⟨_,_,rfl,zl⟩
 | none=>
  rw [iP (by rfl)];by_cases f:σ.z.length=128
  ·rw [iP (by simp [f]),kD];exact ⟨_,_,rfl,zl⟩
  rw [iN (by simp;omega),iP ⟨A8 C.txn,by simp [maxLen];omega⟩];simp only [bS];rw [iP (A8 C.txn)];exact ⟨_,_,rfl,by rw [w5,g];simp;omega⟩
/-! ### freeze, drop, install -/
abbrev DK (e:Int) (l:List Rg) (p:BY) (s:Sto):Ans:=⟨0,0,false,e,[],(⟨s.Nodes.filter (inN l (bl p)),s.Turns.filter (inT l (bl p))⟩:Sto),[],[],[]⟩
theorem Va:∃ a r',tN σ.s.Nodes σ.s.Turns σ.r σ.h c=some (a,r')/\eX r'/\
    ((r'=σ.r/\∃ e,(e=131∨e=132∨e=133)/\a=rW e)∨
     (r'=σ.r/\a=DK c.Epoch σ.r c.Prefix σ.s/\∃ x ∈ σ.r,bV x=bl c.Prefix/\x.State=2/\x.Epoch=c.Epoch)∨
     (r'=fU σ.r ⟨c.Prefix,c.Epoch,2⟩/\a=DK c.Epoch r' c.Prefix σ.s/\(σ.h.any λx=>atP r' (bl c.Prefix) (gW x))=false/\eR (bl c.Prefix)=true/\stR σ.r (bl c.Prefix)=1)):=by
  have _:=C
  have sn:=I.sn
  have st:=I.st
  have hl:=I.hl
  unfold tN qD qC uF
  have frz:∃ a r',((vC σ.r c.Prefix).bind λu242=>if (!u242.2)=true then ((dK 132).bind λu245=>some (u245,σ.r)) else ((mT u242.1 c.Prefix).bind λu254=>(idx u242.1 u254).bind λx256=>if (x256.Epoch != c.Epoch)=true then ((dK 133).bind λu263=>some (u263,σ.r)) else ((pC σ.h u242.1 c.Prefix).bind λu271=>if u271=true then ((dK 131).bind λu273=>some (u273,σ.r)) else ((kX u242.1 c.Prefix).bind λu45=>(vR (⟨σ.s.Nodes,σ.s.Turns⟩:aK) u242.1 c.Prefix).bind λu60=>some ((⟨0,0,false,u45.1.Epoch,[],(⟨u60.1,u60.2.1⟩:aK),[],[],[]⟩:aW),u242.1)))))=some (a,r')/\eX r'/\((r'=σ.r/\∃ e,(e=131∨e=132∨e=133)/\a=rW e)∨
     (r'=σ.r/\a=DK c.Epoch σ.r c.Prefix σ.s/\∃ x ∈ σ.r,bV x=bl c.Prefix/\x.State=2/\x.Epoch=c.Epoch)∨
     (r'=fU σ.r ⟨c.Prefix,c.Epoch,2⟩/\a=DK c.Epoch r' c.Prefix σ.s/\(σ.h.any λx=>atP r' (bl c.Prefix) (gW x))=false/\eR (bl c.Prefix)=true/\stR σ.r (bl c.Prefix)=1)):=by
    rcases GH I.r c.Prefix with f | ⟨i,hi,f1,f2,f3,f4,f5⟩
    · rw [f]
      simp only [bS]
      rw [iP (by rfl),kD]
      exact ⟨_,_,rfl,I.r,.inl ⟨rfl,132,.inr (.inl rfl),rfl⟩⟩
    · rw [f3]
      simp only [bS]
      rw [iN (by simp),Yu f4]
      simp only [bS]
      have me:(⟨c.Prefix,(σ.r[i]).Epoch,2⟩:Rg) ∈ fU σ.r ⟨c.Prefix,(σ.r[i]).Epoch,2⟩:=UC.2 (.inl rfl)
      have rs:=GJ f4 me
      rcases Q1 f4 (bl c.Prefix) with ⟨_,e⟩ | ⟨j,hj,e1,e2⟩
      · rw [show bl c.Prefix=bV (⟨c.Prefix,(σ.r[i]).Epoch,2⟩:Rg) from rfl,rs] at e;cases e
      · rw [show bl c.Prefix=bV (⟨c.Prefix,(σ.r[i]).Epoch,2⟩:Rg) from rfl,rs] at e2
        have e3:=Option.some.inj e2
        rw [e1,bU hj,← e3]
        simp only [bS]
        by_cases ep:(σ.r[i]).Epoch=c.Epoch
        · rw [iN (by simpa using ep)]
          rw [ep] at f4 me ⊢
          rw [Yx f4 _ (by omega)]
          simp only [bS]
          cases hh:σ.h.any λx=>atP (fU σ.r ⟨c.Prefix,c.Epoch,2⟩) (bl c.Prefix) (gW x) with
          | true=>
            rw [iP (by trivial),kD]
            exact ⟨_,_,rfl,I.r,.inl ⟨rfl,131,.inl rfl,rfl⟩⟩
          | false=>
            rw [iN (by simp)]
            rcases Pt f4 c.Prefix with ⟨_,q⟩ | ⟨x,q1,q2,q3⟩
            · exact absurd rfl (q _ me)
            · have xe:x= ⟨c.Prefix,c.Epoch,2⟩:=Sc f4.sort q1 me q2
              rw [q3]
              simp only [bS]
              rw [show (⟨σ.s.Nodes,σ.s.Turns⟩:Sto)=σ.s from rfl,Lv f4 c.Prefix I.s (by omega) (by omega),xe]
              refine ⟨_,_,rfl,f4,.inr (.inr ⟨rfl,rfl,hh,f5,?_⟩)⟩
              have ri:xN σ.r (bl c.Prefix)=some σ.r[i]:=by
                rcases f1 with ⟨q,_⟩ | ⟨m,q,hm,a,b⟩
                · omega
                · have:m=i:=by omega
                  subst this
                  exact Hb I.r (List.getElem_mem hi) a b
              unfold stR;rw [ri];exact f2
        · rw [iP (by simpa using ep),kD]
          exact ⟨_,_,rfl,I.r,.inl ⟨rfl,133,.inr (.inr rfl),rfl⟩⟩
  rcases Pt I.r c.Prefix with ⟨f,q⟩ | ⟨x,q1,q2,q3⟩
  · rw [f]
    simp only [bS]
    rw [iP (by rfl),iP (by trivial)]
    exact frz
  · rw [q3]
    simp only [bS]
    by_cases s2:x.State=2
    · rw [iN (by simpa using s2)]
      by_cases ep:x.Epoch=c.Epoch
      · rw [iN (by simpa using ep),show (⟨σ.s.Nodes,σ.s.Turns⟩:Sto)=σ.s from rfl,Lv I.r c.Prefix I.s (by omega) (by omega)]
        refine ⟨_,_,rfl,I.r,.inr (.inl ⟨rfl,?_,x,q1,q2,s2,ep⟩)⟩
        simp only [ep]
      · rw [iP (by simpa using ep)]
        exact frz
    · rw [iP (by simpa using s2),iP (by trivial)]
      exact frz
theorem BN:∃ s' r',wL σ.s.Nodes σ.s.Turns σ.r c=some (s'.Nodes,s'.Turns,r')/\eX r'/\
  ((s'=σ.s/\r'=σ.r)∨(s'= ⟨σ.s.Nodes.filter (λx=>!inN σ.r (bl c.Prefix) x),σ.s.Turns.filter λx=>!inT σ.r (bl c.Prefix) x⟩/\r'=fU σ.r ⟨c.Prefix,c.Epoch,3⟩/\∃ x ∈ σ.r,bV x=bl c.Prefix/\x.State=2/\x.Epoch=c.Epoch)):=by
 have _:=C;have sn:=I.sn;have st:=I.st;unfold wL sL;rcases MW I.r c.Prefix c.Epoch with f | ⟨x,f1,f2,f3,f4,f5⟩
 ·rw [f];simp only [bS];rw [iN (by simp)];exact ⟨σ.s,_,rfl,I.r,.inl ⟨rfl,rfl⟩⟩
 rw [f4];simp only [bS];rw [iP (by trivial),show (⟨σ.s.Nodes,σ.s.Turns⟩:Sto)=σ.s from rfl,Lv I.r c.Prefix I.s (by omega) (by omega)];refine ⟨⟨_,_⟩,_,rfl,f5,.inr ⟨rfl,rfl,x,List.mem_of_find?_eq_some f1,?_,f2,f3⟩⟩;have:=List.find?_some f1;exact of_decide_eq_true this
theorem NL{l:List Nd}(h:∀ x ∈ l,pnB x=true)(d:l.Pairwise (λa b=>key a ≠ key b)):(srtN l).all pnB=true/\(srtN l).Pairwise (key · < key ·):=by
 have _:=I;have _:=hn;have _:=C;have hp:=srt_perm l;refine ⟨List.all_eq_true.2 λx hx=>h x (hp.mem_iff.1 hx),?_⟩;have nd:(srtN l).Pairwise (λa b=>key a ≠ key b):=(hp.pairwise_iff (λh=>h.symm)).2 d;exact ((srt_sorted l).and nd).imp λh=>Rx h.1 (λe=>h.2 e.symm)
theorem NM{l:List Tn}(h:∀ x ∈ l,ptB x=true)(d:l.Pairwise (λa b=>cX a ≠ cX b)):(Tn.srtN l).all ptB=true/\(Tn.srtN l).Pairwise (cX · < cX ·):=by
 have _:=I;have _:=hn;have _:=C;have hp:=Tn.srt_perm l;refine ⟨List.all_eq_true.2 λx hx=>h x (hp.mem_iff.1 hx),?_⟩;have nd:(Tn.srtN l).Pairwise (λa b=>cX a ≠ cX b):=(hp.pairwise_iff (λh=>h.symm)).2 d;exact ((Tn.srt_sorted l).and nd).imp λh=>Rx h.1 (λe=>h.2 e.symm)
/-- what of two stores, parted by ranges, is one's and another's. -/
def Dr(r:List Rg)(p:List UInt8)(s t:Sto):Sto:=⟨srtN (s.Nodes.filter (λx=>!inN r p x) ++ t.Nodes.filter (inN r p)),Tn.srtN (s.Turns.filter (λx=>!inT r p x) ++ t.Turns.filter (inT r p))⟩
theorem SA(r:List Rg)(p:List UInt8){s t:Sto}(S:cI s)(T:cI t):cI (Dr r p s t)/\(Dr r p s t).Nodes.length <= s.Nodes.length+t.Nodes.length/\(Dr r p s t).Turns.length <= s.Turns.length+t.Turns.length:=by
 have a:=cI.filt S (λx=>!inN r p x) (λx=>!inT r p x);have b:=cI.filt T (inN r p) (inT r p);obtain ⟨n1,n2⟩:=NL I hn C (l:=s.Nodes.filter (λx=>!inN r p x) ++ t.Nodes.filter (inN r p)) (λx hx=>by
  rcases List.mem_append.1 hx with h | h
  ·exact List.all_eq_true.1 a.nodes x h
  exact List.all_eq_true.1 b.nodes x h) (List.pairwise_append.2 ⟨a.nsort.imp λh=>tV h,b.nsort.imp λh=>tV h,λx hx y hy e=>by
  have h1:=(List.mem_filter.1 hx).2;have h2:=(List.mem_filter.1 hy).2;unfold inN at h1 h2;rw [e,h2] at h1;cases h1⟩)
 obtain ⟨t1,t2⟩:=NM I hn C (l:=s.Turns.filter (λx=>!inT r p x) ++ t.Turns.filter (inT r p)) (λx hx=>by
  rcases List.mem_append.1 hx with h | h
  ·exact List.all_eq_true.1 a.turns x h
  exact List.all_eq_true.1 b.turns x h) (List.pairwise_append.2 ⟨a.tsort.imp λh=>tV h,b.tsort.imp λh=>tV h,λx hx y hy e=>by
  have h1:=(List.mem_filter.1 hx).2;have h2:=(List.mem_filter.1 hy).2;unfold inT at h1 h2;rw [e,h2] at h1;cases h1⟩)
 refine ⟨⟨n1,n2,t1,t2⟩,?_,?_⟩
 ·unfold Dr;rw [srt_len,List.length_append];exact Nat.add_le_add (List.length_filter_le _ _) (List.length_filter_le _ _)
 unfold Dr;rw [Tn.srt_len,List.length_append];exact Nat.add_le_add (List.length_filter_le _ _) (List.length_filter_le _ _)
theorem Sf:∃ a s' r',sO σ.s.Nodes σ.s.Turns σ.r σ.h c=some (a,s'.Nodes,s'.Turns,r')/\eX r'/\
  ((s'=σ.s/\r'=σ.r/\(∃ e,(e=0∨e=2∨e=131)/\a=rW e))∨(a=okA/\s'=Dr r' (bl c.Prefix) σ.s c.Store/\(σ.h.any λx=>atP r' (bl c.Prefix) (gW x))=false/\(σ.h.any λx=>!Es σ.r r' (gW x))=false/\qN σ.r c.Prefix c.Epoch=some (fU σ.r ⟨c.Prefix,c.Epoch,1⟩,true)/\(∀ x ∈ fU σ.r ⟨c.Prefix,c.Epoch,1⟩,x ∈ r')/\(∀ x ∈ r',x ∈ fU σ.r ⟨c.Prefix,c.Epoch,1⟩∨(x.Epoch=0/\x.State=3/\∃ p ∈ c.Gone,bV x=bl p))/\yW (fU σ.r ⟨c.Prefix,c.Epoch,1⟩) c.Gone=some r')):=by
 have sn:=I.sn;have st:=I.st;have hl:=I.hl;have cn:=C.sn;have ct:=C.st;unfold sO;have j1:∃ a s' r',jA c σ.s.Nodes σ.s.Turns σ.r σ.h false=some (a,s'.Nodes,s'.Turns,r')/\eX r'/\
  ((s'=σ.s/\r'=σ.r/\(∃ e,(e=0∨e=2∨e=131)/\a=rW e))∨(a=okA/\s'=Dr r' (bl c.Prefix) σ.s c.Store/\(σ.h.any λx=>atP r' (bl c.Prefix) (gW x))=false/\(σ.h.any λx=>!Es σ.r r' (gW x))=false/\qN σ.r c.Prefix c.Epoch=some (fU σ.r ⟨c.Prefix,c.Epoch,1⟩,true)/\(∀ x ∈ fU σ.r ⟨c.Prefix,c.Epoch,1⟩,x ∈ r')/\(∀ x ∈ r',x ∈ fU σ.r ⟨c.Prefix,c.Epoch,1⟩∨(x.Epoch=0/\x.State=3/\∃ p ∈ c.Gone,bV x=bl p))/\yW (fU σ.r ⟨c.Prefix,c.Epoch,1⟩) c.Gone=some r')):=by
  unfold jA;rw [iN (by simp)];rcases DI I.r c.Prefix c.Epoch with f | ⟨f,f2,f3⟩
  ·rw [f];simp only [bS];rw [iN (by simp)];unfold lV lU;rw [iP (by rfl),iP (by rfl),kD];exact ⟨_,σ.s,_,rfl,I.r,.inl ⟨rfl,rfl,2,.inr (.inl rfl),rfl⟩⟩
  rw [f];simp only [bS];obtain ⟨l,g1,g2,g3,g4⟩:=MX c.Gone C.gone (λp hp=>by
   obtain ⟨ps,k,e,_⟩:=Ms (C.gin p hp).1;unfold eR;rw [e];rfl) _ f2
  rw [iP (by trivial),g1];simp only [bS];unfold lV lU;rw [iN (by simp)];by_cases l32:l.length <= 32
  ·rw [iN (by simp;omega)];have R:eX l:=⟨g2.all,g2.sort,l32⟩
   rw [Yx R _ (by omega)];simp only [bS];unfold pD;cases hh:σ.h.any λx=>atP l (bl c.Prefix) (gW x) with
   | true=>
    rw [iP (by trivial),iP (by trivial),kD];exact ⟨_,σ.s,_,rfl,I.r,.inl ⟨rfl,rfl,131,.inr (.inr rfl),rfl⟩⟩
   | false=>
    rw [iN (by simp),GK I.r R _ (by omega)];simp only [bS];cases oo:σ.h.any λx=>!Es σ.r l (gW x) with
    | true=>
     rw [iP (by trivial),kD];exact ⟨_,σ.s,_,rfl,I.r,.inl ⟨rfl,rfl,131,.inr (.inr rfl),rfl⟩⟩
    | false=>
     rw [iN (by simp),show (⟨σ.s.Nodes,σ.s.Turns⟩:Sto)=σ.s from rfl,Lv R c.Prefix I.s (by omega) (by omega)];simp only [bS];unfold tO;rw [Lv R c.Prefix C.store (by omega) (by omega)];simp only [bS];have n1:=List.length_filter_le (λx=>!inN l (bl c.Prefix) x) σ.s.Nodes;have n2:=List.length_filter_le (inN l (bl c.Prefix)) c.Store.Nodes;have n3:=List.length_filter_le (λx=>!inT l (bl c.Prefix) x) σ.s.Turns;have n4:=List.length_filter_le (inT l (bl c.Prefix)) c.Store.Turns;rw [dJ (Nat.le_trans (Nat.add_le_add n1 n2) (by simp only [LIM];omega)),dJ (Nat.le_trans (Nat.add_le_add n3 n4) (by simp only [LIM];omega)),dJ (by rw [List.length_append];omega),dJ (by rw [List.length_append];omega)];exact ⟨_,Dr l (bl c.Prefix) σ.s c.Store,_,rfl,R,.inr ⟨rfl,rfl,hh,oo,by trivial,g3,g4,by rfl⟩⟩
  rw [iP (by simp;omega),kD];exact ⟨_,σ.s,_,rfl,I.r,.inl ⟨rfl,rfl,2,.inr (.inl rfl),rfl⟩⟩
 rcases Pt I.r c.Prefix with ⟨f,q⟩ | ⟨x,q1,q2,q3⟩
 ·rw [f];simp only [bS];rw [iN (by simp)];exact j1
 rw [q3];simp only [bS];rw [iP (by trivial)];by_cases ep:x.Epoch ≥ c.Epoch
 ·rw [decide_eq_true ep];unfold jA;rw [iP (by trivial)];exact ⟨_,σ.s,_,rfl,I.r,.inl ⟨rfl,rfl,0,.inl rfl,rfl⟩⟩
 rw [decide_eq_false ep];exact j1
/-! ### watches -/
theorem Q2{w:aY}(u:aY)(l:List Ev)(e:Int):lW w.Watches w.Sessions u l e=some (if e=0 then { okA with Events:=l } else rW e,if e=0 then u.Watches else w.Watches,if e=0 then u.Sessions else w.Sessions):=by
 have _:=I;have _:=hn;have _:=C;unfold lW;by_cases h:e=0
 ·rw [iN (by simpa using h),iP h,iP h,iP h]
 rw [iP (by simpa using h),iN h,iN h,iN h,kD];rfl
theorem JK:∃ a u,uT σ.w.Watches σ.w.Sessions c=some (a,u.Watches,u.Sessions)/\qP u/\u.Sessions.length <= σ.w.Sessions.length+1/\a.Results= []/\a.Events.length <= 8/\a= { rW a.Err with Events:=a.Events }:=by
 unfold uT vS;rw [show (⟨σ.w.Watches,σ.w.Sessions⟩:aY)=σ.w from rfl];rcases RR I.w (by have:=I.wl;omega) c.Watch with ⟨u,e,h1,h2⟩ | ⟨u,h1,h2,h3⟩
 ·rw [h1];simp only [bS];rw [Q2 I hn C];exact ⟨rW e,σ.w,by simp [h2],I.w,by omega,rfl,by simp,rfl⟩
 rw [h1];simp only [bS];rw [Q2 I hn C];exact ⟨okA,u,rfl,h2,h3,rfl,by simp,rfl⟩
theorem DL:∃ a u,sR σ.w.Watches σ.w.Sessions c=some (a,u.Watches,u.Sessions)/\qP u/\u.Sessions.length <= σ.w.Sessions.length+1/\a.Results= []/\a.Events.length <= 8/\a= { rW a.Err with Events:=a.Events }:=by
 unfold sR tP;rw [show (⟨σ.w.Watches,σ.w.Sessions⟩:aY)=σ.w from rfl];rcases JG I.w (by have:=I.wl;omega) c.Watch.Session c.Watch.Num with ⟨u,e,h1,h2⟩ | ⟨u,h1,h2,h3⟩
 ·rw [h1];simp only [bS];rw [Q2 I hn C];exact ⟨rW e,σ.w,by simp [h2],I.w,by omega,rfl,by simp,rfl⟩
 rw [h1];simp only [bS];rw [Q2 I hn C];exact ⟨okA,u,rfl,h2,by rw [h3];omega,rfl,by simp,rfl⟩
theorem NN:∃ a u,wO σ.w.Watches σ.w.Sessions c=some (a,u.Watches,u.Sessions)/\qP u/\u.Sessions.length <= σ.w.Sessions.length+1/\a.Results= []/\a.Events.length <= 8/\a= { rW a.Err with Events:=a.Events }:=by
 unfold wO;rw [show (⟨σ.w.Watches,σ.w.Sessions⟩:aY)=σ.w from rfl];rcases NF I.w (by have:=I.wl;omega) c.Watch.Session c.Epoch with ⟨u,l,e,h1,h2⟩ | ⟨u,l,h1,h2,h3,h4⟩
 ·rw [h1];simp only [bS];rw [Q2 I hn C];exact ⟨rW e,σ.w,by simp [h2],I.w,by omega,rfl,by simp,rfl⟩
 rw [h1];simp only [bS];rw [Q2 I hn C];exact ⟨{ okA with Events:=l },u,rfl,h2,by omega,rfl,h4,rfl⟩
end
end Go.Cb
