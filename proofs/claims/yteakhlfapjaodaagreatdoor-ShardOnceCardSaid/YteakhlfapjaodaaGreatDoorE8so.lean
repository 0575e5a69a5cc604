/- A shard, plainly: what each kind of command comes to. -/
import Derived.Test.YteakhlfapjaodaaGreatDoorE7so
set_option linter.unusedVariables false
set_option linter.unusedSimpArgs false
namespace Go.Cb
open Go.Proofs Go.RowKit

structure Sh where
  s:Sto
  r:List Rg
  h:List Hd
  w:aT
  x:List (Int×aX)
  y:List (Int×fS)
  z:List (Int×aX)
structure Inv (n:Nat) (σ:Sh):Prop where
  s:eK σ.s
  sn:σ.s.Nodes.length <= n
  st:σ.s.Turns.length <= n
  r:fP σ.r
  h:Fq σ.h
  hl:σ.h.length <= n
  w:pE σ.w
  wl:σ.w.Sessions.length <= n
  x:σ.x.length <= 512
  y:σ.y.length <= 128
  z:σ.z.length <= 128
  tx:∀ t v,cZ σ.y t=some v->v.pieces_.length <= 16/\∀ p ∈ v.pieces_,v8 p.Part=true
abbrev Ans:=aX
abbrev Txn:=fS
abbrev okA:Ans:=⟨0,0,false,0,[],(⟨[],[]⟩:Sto),[],[],[]⟩
theorem kE(e:Int):dH e=some (rV e):=rfl
def yX(l:List Pie):List ByteArray:=rZ (wU (l.map λ p=>p.Part.Dir))
theorem Iq(l:List Pie):(yX l).length <= l.length:=Nat.le_trans (EW _) (by simp)
theorem CT{α:Type}(l:List (Int×α)){i j:Int}(v:α)(h:cZ l j=none){u:α}(g:cZ l i=some u):cZ (kZ l j v) i=some u:=by
  by_cases e:i=j
  · subst e;rw [h] at g;cases g
  · rw [tT _ e];exact g
section
variable {n:Nat} {σ:Sh} (I:Inv n σ) (hn:n <= 50000) {c:Cmd} (C:Q9 c)
include I hn C
/-! ### run -/
theorem NV:∃ a s' u,wT σ.s.Nodes σ.s.Turns σ.r σ.h σ.w.Watches σ.w.Sessions c=some (a,s'.Nodes,s'.Turns,u.Watches,u.Sessions)/\pE u/\u.Sessions.length=σ.w.Sessions.length/\
    ((∃ e,(e=131∨e=132)/\a=rV e/\s'=σ.s)∨(xV σ.r (yX c.Pieces)=0/\(∀ d ∈ yX c.Pieces,Fp σ.h (bl d)=false)/\a=Uz σ.s c.Pieces/\s'=Cz σ.s c.Pieces)):=by
  have hp:=C.len
  have dl:=Iq c.Pieces
  have sn:=I.sn
  have st:=I.st
  have hl:=I.hl
  have wl:=I.wl
  unfold wT sO sN
  rw [Xi _ (by omega)]
  simp only [bS]
  rw [show rZ (wU (c.Pieces.map λ p=>p.Part.Dir))=yX c.Pieces from rfl,Zi _ _ (by omega) (by omega),Vl I.r _ (by omega)]
  simp only [bS]
  by_cases e:xV σ.r (yX c.Pieces)=0
  · rw [iP (by simpa using e)]
    cases hd:(yX c.Pieces).any λ d=>Fp σ.h (bl d) with
    | true=>
      rw [iP (by trivial),iP (by rfl),kE]
      exact ⟨_,σ.s,σ.w,rfl,I.w,rfl,.inl ⟨131,.inl rfl,rfl,rfl⟩⟩
    | false=>
      rw [iN (by simp),iN (by simpa using e)]
      obtain ⟨u,u1,u2,u3⟩:=Xp σ.s c.Pieces I.s (by omega) (by omega) (by omega) C.may I.w (by omega)
      rw [u1]
      exact ⟨_,_,u,rfl,u2,u3,.inr ⟨e,λ d h=>by simpa using List.any_eq_false.1 hd d h,rfl,rfl⟩⟩
  · rw [iN (by simpa using e),iN (by simp),iP (by simpa using e),kE]
    refine ⟨_,σ.s,σ.w,rfl,I.w,rfl,.inl ⟨_,?_,rfl,rfl⟩⟩
    unfold xV at e ⊢
    repeat' split at e
    all_goals first | exact absurd rfl e | (repeat' split) <;> simp_all
/-! ### prepare -/
theorem JJ:∃ a h' y',rR σ.s.Nodes σ.s.Turns σ.r σ.h σ.y c=some (a,h',y')/\
    ((∃ v,cZ σ.y c.Txn=some v/\h'=σ.h/\y'=σ.y/\((v.over_=true/\a=rV 133)∨(v.over_=false/\a=v.a_)))∨
     (cZ σ.y c.Txn=none/\h'=σ.h/\y'=σ.y/\(∃ e,(e=131∨e=132∨(e=2/\σ.y.length=128))/\a.Err=e)/\a.Yes=false/\a.Wounded.length <= 1000000/\a= { rV a.Err with Wounded:=a.Wounded })∨
     (cZ σ.y c.Txn=none/\xV σ.r (yX c.Pieces)=0/\Fr σ.h c.Txn c.Age (yX c.Pieces) h'/\y'=kZ σ.y c.Txn ⟨false,c.Pieces,a⟩/\a= ⟨(mN σ.s 0 σ.s [] c.Pieces).2.2.1,(mN σ.s 0 σ.s [] c.Pieces).2.2.2,(mN σ.s 0 σ.s [] c.Pieces).2.2.1 == 0,0,(mN σ.s 0 σ.s [] c.Pieces).2.1,⟨[],[]⟩,[],[],[]⟩/\σ.y.length < 128)):=by
  have hp:=C.len
  have dl:=Iq c.Pieces
  have sn:=I.sn
  have st:=I.st
  have hl:=I.hl
  have yl:=I.y
  unfold rR K7 mlk
  rw [iP (zI C.txn)]
  simp only [Option.map_some,bS]
  unfold sQ
  cases g:cZ σ.y c.Txn with
  | some v=>
    rw [iP (by rfl)]
    simp only [Option.getD_some]
    cases ov:v.over_ with
    | true=>rw [iP (by trivial),kE];exact ⟨_,_,_,rfl,.inl ⟨v,rfl,rfl,rfl,.inl ⟨ov,rfl⟩⟩⟩
    | false=>rw [iN (by simp)];exact ⟨_,_,_,rfl,.inl ⟨v,rfl,rfl,rfl,.inr ⟨ov,rfl⟩⟩⟩
  | none=>
    rw [iN (by simp),Xi _ (by omega)]
    simp only [bS]
    rw [show rZ (wU (c.Pieces.map λ p=>p.Part.Dir))=yX c.Pieces from rfl,Vl I.r _ (by omega)]
    simp only [bS]
    have wc:xV σ.r (yX c.Pieces)=0∨xV σ.r (yX c.Pieces)=131∨xV σ.r (yX c.Pieces)=132:=by
      unfold xV
      split
      · exact .inr (.inr rfl)
      · split
        · exact .inr (.inl rfl)
        · exact .inl rfl
    unfold oN oM
    by_cases e:xV σ.r (yX c.Pieces)=0
    · rw [iP (by simpa using e)]
      by_cases f:σ.y.length=128
      · rw [iP (by simp [f]),iP (by rfl),kE]
        exact ⟨_,_,_,rfl,.inr (.inl ⟨by trivial,rfl,rfl,⟨2,.inr (.inr ⟨rfl,f⟩),rfl⟩,rfl,by simp,rfl⟩)⟩
      · rw [iN (by simp;omega),iN (by simpa using e)]
        rcases Vm I.h (by omega) C.txn C.age (yX c.Pieces) (by omega) (IQ C.may) with ⟨H,W,t1,t2⟩ | ⟨H,t1,t2⟩
        · rw [t1]
          simp only [bS]
          rw [iP (by rfl)]
          exact ⟨_,_,_,rfl,.inr (.inl ⟨by trivial,rfl,rfl,⟨131,.inl rfl,rfl⟩,rfl,t2,rfl⟩)⟩
        · rw [t1]
          simp only [bS]
          rw [iN (by simp),show (⟨σ.s.Nodes,σ.s.Turns⟩:Sto)=σ.s from rfl,(Cy σ.s c.Pieces I.s (by omega) (by omega) (by omega) C.may).1]
          simp only [bS]
          unfold sP mpt
          rw [iP ⟨zI C.txn,by simp [maxLen];omega⟩]
          exact ⟨_,_,_,rfl,.inr (.inr ⟨by trivial,e,t2,rfl,rfl,by omega⟩)⟩
    · rw [iN (by simpa using e),iN (by simp),iP (by simpa using e),kE]
      refine ⟨_,_,_,rfl,.inr (.inl ⟨by trivial,rfl,rfl,⟨xV σ.r (yX c.Pieces),?_,rfl⟩,rfl,by simp,rfl⟩)⟩
      rcases wc with h | h | h
      · exact absurd h e
      · exact .inl h
      · exact .inr (.inl h)
/-! ### finish -/
abbrev Jq:Txn:=⟨true,[],rV 0⟩
theorem NW:∃ a s' h' u y',sI σ.s.Nodes σ.s.Turns σ.h σ.w.Watches σ.w.Sessions σ.y c=some (a,s'.Nodes,s'.Turns,h',u.Watches,u.Sessions,y')/\pE u/\u.Sessions.length=σ.w.Sessions.length/\
    ((s'=σ.s/\h'=σ.h/\y'=σ.y/\((cZ σ.y c.Txn=none/\(a=rV 62∨a=rV 2))∨∃ v,cZ σ.y c.Txn=some v/\v.over_=true/\a=okA))∨
     (a=okA/\h'=σ.h.filter (λ x=>!(x.Txn == c.Txn))/\y'=kZ σ.y c.Txn Jq/\((cZ σ.y c.Txn=none/\c.Yes=false/\s'=σ.s/\σ.y.length < 128)∨∃ v,cZ σ.y c.Txn=some v/\v.over_=false/\s'=if c.Yes=true/\v.a_.Yes=true then Cz σ.s v.pieces_ else σ.s))):=by
  have sn:=I.sn
  have st:=I.st
  have hl:=I.hl
  have yl:=I.y
  have wl:=I.wl
  unfold sI K7 mlk
  rw [iP (zI C.txn)]
  simp only [Option.map_some,bS]
  unfold tB
  cases g:cZ σ.y c.Txn with
  | none=>
    rw [iP (by rfl)]
    unfold lT
    cases ye:c.Yes with
    | true=>
      rw [iP (by trivial),kE]
      exact ⟨_,σ.s,_,σ.w,_,rfl,I.w,rfl,.inl ⟨rfl,rfl,rfl,.inl ⟨rfl,.inl rfl⟩⟩⟩
    | false=>
      rw [iN (by simp),iP (by rfl)]
      unfold lR mpt
      by_cases f:σ.y.length=128
      · rw [iP (by simp [f]),kE]
        exact ⟨_,σ.s,_,σ.w,_,rfl,I.w,rfl,.inl ⟨rfl,rfl,rfl,.inl ⟨rfl,.inr rfl⟩⟩⟩
      · rw [iN (by simp;omega),iN (by simp [U8]),iP ⟨zI C.txn,by simp [maxLen];omega⟩,Xn _ _ (by omega)]
        simp only [bS]
        rw [iN (by simp [ye])]
        unfold lQ lP
        rw [iN (by simp)]
        exact ⟨_,σ.s,_,σ.w,_,rfl,I.w,rfl,.inr ⟨rfl,rfl,rfl,.inl ⟨by trivial,by trivial,rfl,by omega⟩⟩⟩
  | some v=>
    rw [iN (by simp)]
    unfold lT
    simp only [Option.isSome_some,Option.getD_some]
    rw [iN (by simp),iN (by simp)]
    unfold lR mpt
    rw [iN (by simp)]
    cases ov:v.over_ with
    | true=>
      rw [iP (by trivial)]
      exact ⟨_,σ.s,_,σ.w,_,rfl,I.w,rfl,.inl ⟨rfl,rfl,rfl,.inr ⟨v,rfl,ov,rfl⟩⟩⟩
    | false=>
      rw [iN (by simp),iP ⟨zI C.txn,by simp [maxLen];omega⟩,Xn _ _ (by omega)]
      simp only [bS]
      unfold lQ lP
      by_cases q:c.Yes=true/\v.a_.Yes=true
      · obtain ⟨t1,t2⟩:=I.tx _ _ g
        obtain ⟨u,u1,u2,u3⟩:=Xp σ.s v.pieces_ I.s (by omega) (by omega) (by omega) t2 I.w (by omega)
        rw [iP q.1,iP q.2,u1]
        exact ⟨_,_,_,u,_,rfl,u2,u3,.inr ⟨rfl,rfl,rfl,.inr ⟨v,rfl,ov,by rw [iP q]⟩⟩⟩
      · have fin:∀ b:Bool,¬ (c.Yes=true/\b=true)->∀ k:Option (Ans×List Nd×List Tn×List Hd×List Wat×List Ses×List (Int×Txn)),(if c.Yes=true then if b=true then k else some (okA,σ.s.Nodes,σ.s.Turns,σ.h.filter (λ x=>!(x.Txn == c.Txn)),σ.w.Watches,σ.w.Sessions,kZ σ.y c.Txn Jq) else if false=true then k else some (okA,σ.s.Nodes,σ.s.Turns,σ.h.filter (λ x=>!(x.Txn == c.Txn)),σ.w.Watches,σ.w.Sessions,kZ σ.y c.Txn Jq))=some (okA,σ.s.Nodes,σ.s.Turns,σ.h.filter (λ x=>!(x.Txn == c.Txn)),σ.w.Watches,σ.w.Sessions,kZ σ.y c.Txn Jq):=λ b hb k=>by
          cases hy:c.Yes with
          | false=>rw [iN (by simp),iN (by simp)]
          | true=>
            rw [iP (by trivial),iN (λ h=>hb ⟨hy,h⟩)]
        refine ⟨_,σ.s,_,σ.w,_,(fin v.a_.Yes q _),I.w,rfl,.inr ⟨rfl,rfl,rfl,.inr ⟨v,rfl,ov,by rw [iN q]⟩⟩⟩
/-! ### decide -/
theorem NX:∃ a z',sG σ.z c=some (a,z')/\z'.length <= 128:=by
  have _:=hn
  have zl:=I.z
  unfold sG K7 mlk
  rw [iP (zI C.txn)]
  simp only [Option.map_some,bS]
  unfold tA pH mpt Ru mlk
  rw [iP (zI C.txn)]
  simp only [Option.map_some,bS]
  cases g:cZ σ.z c.Txn with
  | some v=>rw [iN (by simp)];exact ⟨_,_,rfl,zl⟩
  | none=>
    rw [iP (by rfl)]
    by_cases f:σ.z.length=128
    · rw [iP (by simp [f]),kE];exact ⟨_,_,rfl,zl⟩
    · rw [iN (by simp;omega),iP ⟨zI C.txn,by simp [maxLen];omega⟩]
      simp only [bS]
      rw [iP (zI C.txn)]
      exact ⟨_,_,rfl,by rw [yY,g];simp;omega⟩
/-! ### freeze, drop, install -/
abbrev Zj (e:Int) (l:List Rg) (p:ByteArray) (s:Sto):Ans:=⟨0,0,false,e,[],(⟨s.Nodes.filter (inN l (bl p)),s.Turns.filter (inT l (bl p))⟩:Sto),[],[],[]⟩
theorem CU:∃ a r',sK σ.s.Nodes σ.s.Turns σ.r σ.h c=some (a,r')/\fP r'/\
    ((r'=σ.r/\∃ e,(e=131∨e=132∨e=133)/\a=rV e)∨
     (r'=σ.r/\a=Zj c.Epoch σ.r c.Prefix σ.s/\∃ x ∈ σ.r,bW x=bl c.Prefix/\x.State=2/\x.Epoch=c.Epoch)∨
     (r'=iD σ.r ⟨c.Prefix,c.Epoch,2⟩/\a=Zj c.Epoch r' c.Prefix σ.s/\(σ.h.any λ x=>atP r' (bl c.Prefix) (kN x))=false/\eX (bl c.Prefix)=true/\stR σ.r (bl c.Prefix)=1)):=by
  have _:=C
  have sn:=I.sn
  have st:=I.st
  have hl:=I.hl
  unfold sK pM pL tC
  have frz:∃ a r',((tZ σ.r c.Prefix).bind λ u242=>if (!u242.2)=true then ((dH 132).bind λ u245=>some (u245,σ.r)) else ((mE u242.1 c.Prefix).bind λ u254=>(idx u242.1 u254).bind λ x256=>if (x256.Epoch != c.Epoch)=true then ((dH 133).bind λ u263=>some (u263,σ.r)) else ((oK σ.h u242.1 c.Prefix).bind λ u271=>if u271=true then ((dH 131).bind λ u273=>some (u273,σ.r)) else ((jW u242.1 c.Prefix).bind λ u45=>(uO (⟨σ.s.Nodes,σ.s.Turns⟩:aR) u242.1 c.Prefix).bind λ u60=>some ((⟨0,0,false,u45.1.Epoch,[],(⟨u60.1,u60.2.1⟩:aR),[],[],[]⟩:aX),u242.1)))))=some (a,r')/\fP r'/\((r'=σ.r/\∃ e,(e=131∨e=132∨e=133)/\a=rV e)∨
     (r'=σ.r/\a=Zj c.Epoch σ.r c.Prefix σ.s/\∃ x ∈ σ.r,bW x=bl c.Prefix/\x.State=2/\x.Epoch=c.Epoch)∨
     (r'=iD σ.r ⟨c.Prefix,c.Epoch,2⟩/\a=Zj c.Epoch r' c.Prefix σ.s/\(σ.h.any λ x=>atP r' (bl c.Prefix) (kN x))=false/\eX (bl c.Prefix)=true/\stR σ.r (bl c.Prefix)=1)):=by
    rcases CJ I.r c.Prefix with f | ⟨i,hi,f1,f2,f3,f4,f5⟩
    · rw [f]
      simp only [bS]
      rw [iP (by rfl),kE]
      exact ⟨_,_,rfl,I.r,.inl ⟨rfl,132,.inr (.inl rfl),rfl⟩⟩
    · rw [f3]
      simp only [bS]
      rw [iN (by simp),Vb f4]
      simp only [bS]
      have me:(⟨c.Prefix,(σ.r[i]).Epoch,2⟩:Rg) ∈ iD σ.r ⟨c.Prefix,(σ.r[i]).Epoch,2⟩:=QB.2 (.inl rfl)
      have rs:=CN f4 me
      rcases K3 f4 (bl c.Prefix) with ⟨_,e⟩ | ⟨j,hj,e1,e2⟩
      · rw [show bl c.Prefix=bW (⟨c.Prefix,(σ.r[i]).Epoch,2⟩:Rg) from rfl,rs] at e;cases e
      · rw [show bl c.Prefix=bW (⟨c.Prefix,(σ.r[i]).Epoch,2⟩:Rg) from rfl,rs] at e2
        have e3:=Option.some.inj e2
        rw [e1,bV hj,← e3]
        simp only [bS]
        by_cases ep:(σ.r[i]).Epoch=c.Epoch
        · rw [iN (by simpa using ep)]
          rw [ep] at f4 me ⊢
          rw [Ve f4 _ (by omega)]
          simp only [bS]
          cases hh:σ.h.any λ x=>atP (iD σ.r ⟨c.Prefix,c.Epoch,2⟩) (bl c.Prefix) (kN x) with
          | true=>
            rw [iP (by trivial),kE]
            exact ⟨_,_,rfl,I.r,.inl ⟨rfl,131,.inl rfl,rfl⟩⟩
          | false=>
            rw [iN (by simp)]
            rcases Mk f4 c.Prefix with ⟨_,q⟩ | ⟨x,q1,q2,q3⟩
            · exact absurd rfl (q _ me)
            · have xe:x= ⟨c.Prefix,c.Epoch,2⟩:=CM f4.sort q1 me q2
              rw [q3]
              simp only [bS]
              rw [show (⟨σ.s.Nodes,σ.s.Turns⟩:Sto)=σ.s from rfl,Ip f4 c.Prefix I.s (by omega) (by omega),xe]
              refine ⟨_,_,rfl,f4,.inr (.inr ⟨rfl,rfl,hh,f5,?_⟩)⟩
              have ri:H9 σ.r (bl c.Prefix)=some σ.r[i]:=by
                rcases f1 with ⟨q,_⟩ | ⟨m,q,hm,a,b⟩
                · omega
                · have:m=i:=by omega
                  subst this
                  exact Xm I.r (List.getElem_mem hi) a b
              unfold stR;rw [ri];exact f2
        · rw [iP (by simpa using ep),kE]
          exact ⟨_,_,rfl,I.r,.inl ⟨rfl,133,.inr (.inr rfl),rfl⟩⟩
  rcases Mk I.r c.Prefix with ⟨f,q⟩ | ⟨x,q1,q2,q3⟩
  · rw [f]
    simp only [bS]
    rw [iP (by rfl),iP (by trivial)]
    exact frz
  · rw [q3]
    simp only [bS]
    by_cases s2:x.State=2
    · rw [iN (by simpa using s2)]
      by_cases ep:x.Epoch=c.Epoch
      · rw [iN (by simpa using ep),show (⟨σ.s.Nodes,σ.s.Turns⟩:Sto)=σ.s from rfl,Ip I.r c.Prefix I.s (by omega) (by omega)]
        refine ⟨_,_,rfl,I.r,.inr (.inl ⟨rfl,?_,x,q1,q2,s2,ep⟩)⟩
        simp only [ep]
      · rw [iP (by simpa using ep)]
        exact frz
    · rw [iP (by simpa using s2),iP (by trivial)]
      exact frz
theorem JK:∃ s' r',vD σ.s.Nodes σ.s.Turns σ.r c=some (s'.Nodes,s'.Turns,r')/\fP r'/\
    ((s'=σ.s/\r'=σ.r)∨(s'= ⟨σ.s.Nodes.filter (λ x=>!inN σ.r (bl c.Prefix) x),σ.s.Turns.filter λ x=>!inT σ.r (bl c.Prefix) x⟩/\r'=iD σ.r ⟨c.Prefix,c.Epoch,3⟩/\∃ x ∈ σ.r,bW x=bl c.Prefix/\x.State=2/\x.Epoch=c.Epoch)):=by
  have _:=C
  have sn:=I.sn
  have st:=I.st
  unfold vD rJ
  rcases IU I.r c.Prefix c.Epoch with f | ⟨x,f1,f2,f3,f4,f5⟩
  · rw [f]
    simp only [bS]
    rw [iN (by simp)]
    exact ⟨σ.s,_,rfl,I.r,.inl ⟨rfl,rfl⟩⟩
  · rw [f4]
    simp only [bS]
    rw [iP (by trivial),show (⟨σ.s.Nodes,σ.s.Turns⟩:Sto)=σ.s from rfl,Ip I.r c.Prefix I.s (by omega) (by omega)]
    refine ⟨⟨_,_⟩,_,rfl,f5,.inr ⟨rfl,rfl,x,List.mem_of_find?_eq_some f1,?_,f2,f3⟩⟩
    have:=List.find?_some f1
    exact of_decide_eq_true this
theorem JL{l:List Nd}(h:∀ x ∈ l,pnB x=true)(d:l.Pairwise (λ a b=>key a ≠ key b)):(srtN l).all pnB=true/\(srtN l).Pairwise (key · < key ·):=by
  have _:=I
  have _:=hn
  have _:=C
  have hp:=srt_perm l
  refine ⟨List.all_eq_true.2 λ x hx=>h x (hp.mem_iff.1 hx),?_⟩
  have nd:(srtN l).Pairwise (λ a b=>key a ≠ key b):=(hp.pairwise_iff (λ h=>h.symm)).2 d
  exact ((srt_sorted l).and nd).imp λ h=>Ol h.1 (λ e=>h.2 e.symm)
theorem JM{l:List Tn}(h:∀ x ∈ l,ptB x=true)(d:l.Pairwise (λ a b=>dA a ≠ dA b)):(Tn.srtN l).all ptB=true/\(Tn.srtN l).Pairwise (dA · < dA ·):=by
  have _:=I
  have _:=hn
  have _:=C
  have hp:=Tn.srt_perm l
  refine ⟨List.all_eq_true.2 λ x hx=>h x (hp.mem_iff.1 hx),?_⟩
  have nd:(Tn.srtN l).Pairwise (λ a b=>dA a ≠ dA b):=(hp.pairwise_iff (λ h=>h.symm)).2 d
  exact ((Tn.srt_sorted l).and nd).imp λ h=>Ol h.1 (λ e=>h.2 e.symm)
/-- what of two stores, parted by ranges, is one's and another's. -/
def Ir(r:List Rg)(p:List UInt8)(s t:Sto):Sto:=⟨srtN (s.Nodes.filter (λ x=>!inN r p x) ++ t.Nodes.filter (inN r p)),Tn.srtN (s.Turns.filter (λ x=>!inT r p x) ++ t.Turns.filter (inT r p))⟩
theorem NY(r:List Rg)(p:List UInt8){s t:Sto}(S:eK s)(T:eK t):eK (Ir r p s t)/\(Ir r p s t).Nodes.length <= s.Nodes.length+t.Nodes.length/\(Ir r p s t).Turns.length <= s.Turns.length+t.Turns.length:=by
  have a:=eK.filt S (λ x=>!inN r p x) (λ x=>!inT r p x)
  have b:=eK.filt T (inN r p) (inT r p)
  obtain ⟨n1,n2⟩:=JL I hn C (l:=s.Nodes.filter (λ x=>!inN r p x) ++ t.Nodes.filter (inN r p)) (λ x hx=>by
    rcases List.mem_append.1 hx with h | h
    · exact List.all_eq_true.1 a.nodes x h
    · exact List.all_eq_true.1 b.nodes x h) (List.pairwise_append.2 ⟨a.nsort.imp λ h=>vW h,b.nsort.imp λ h=>vW h,λ x hx y hy e=>by
      have h1:=(List.mem_filter.1 hx).2
      have h2:=(List.mem_filter.1 hy).2
      unfold inN at h1 h2
      rw [e,h2] at h1;cases h1⟩)
  obtain ⟨t1,t2⟩:=JM I hn C (l:=s.Turns.filter (λ x=>!inT r p x) ++ t.Turns.filter (inT r p)) (λ x hx=>by
    rcases List.mem_append.1 hx with h | h
    · exact List.all_eq_true.1 a.turns x h
    · exact List.all_eq_true.1 b.turns x h) (List.pairwise_append.2 ⟨a.tsort.imp λ h=>vW h,b.tsort.imp λ h=>vW h,λ x hx y hy e=>by
      have h1:=(List.mem_filter.1 hx).2
      have h2:=(List.mem_filter.1 hy).2
      unfold inT at h1 h2
      rw [e,h2] at h1;cases h1⟩)
  refine ⟨⟨n1,n2,t1,t2⟩,?_,?_⟩
  · unfold Ir
    rw [srt_len,List.length_append]
    exact Nat.add_le_add (List.length_filter_le _ _) (List.length_filter_le _ _)
  · unfold Ir
    rw [Tn.srt_len,List.length_append]
    exact Nat.add_le_add (List.length_filter_le _ _) (List.length_filter_le _ _)
theorem Zk:∃ a s' r',rM σ.s.Nodes σ.s.Turns σ.r σ.h c=some (a,s'.Nodes,s'.Turns,r')/\fP r'/\
    ((s'=σ.s/\r'=σ.r/\(∃ e,(e=0∨e=2∨e=131)/\a=rV e))∨(a=okA/\s'=Ir r' (bl c.Prefix) σ.s c.Store/\(σ.h.any λ x=>atP r' (bl c.Prefix) (kN x))=false/\(σ.h.any λ x=>!Jl σ.r r' (kN x))=false/\pV σ.r c.Prefix c.Epoch=some (iD σ.r ⟨c.Prefix,c.Epoch,1⟩,true)/\(∀ x ∈ iD σ.r ⟨c.Prefix,c.Epoch,1⟩,x ∈ r')/\(∀ x ∈ r',x ∈ iD σ.r ⟨c.Prefix,c.Epoch,1⟩∨(x.Epoch=0/\x.State=3/\∃ p ∈ c.Gone,bW x=bl p))/\xQ (iD σ.r ⟨c.Prefix,c.Epoch,1⟩) c.Gone=some r')):=by
  have sn:=I.sn
  have st:=I.st
  have hl:=I.hl
  have cn:=C.sn
  have ct:=C.st
  unfold rM
  have j1:∃ a s' r',iI c σ.s.Nodes σ.s.Turns σ.r σ.h false=some (a,s'.Nodes,s'.Turns,r')/\fP r'/\
    ((s'=σ.s/\r'=σ.r/\(∃ e,(e=0∨e=2∨e=131)/\a=rV e))∨(a=okA/\s'=Ir r' (bl c.Prefix) σ.s c.Store/\(σ.h.any λ x=>atP r' (bl c.Prefix) (kN x))=false/\(σ.h.any λ x=>!Jl σ.r r' (kN x))=false/\pV σ.r c.Prefix c.Epoch=some (iD σ.r ⟨c.Prefix,c.Epoch,1⟩,true)/\(∀ x ∈ iD σ.r ⟨c.Prefix,c.Epoch,1⟩,x ∈ r')/\(∀ x ∈ r',x ∈ iD σ.r ⟨c.Prefix,c.Epoch,1⟩∨(x.Epoch=0/\x.State=3/\∃ p ∈ c.Gone,bW x=bl p))/\xQ (iD σ.r ⟨c.Prefix,c.Epoch,1⟩) c.Gone=some r')):=by
    unfold iI
    rw [iN (by simp)]
    rcases Zh I.r c.Prefix c.Epoch with f | ⟨f,f2,f3⟩
    · rw [f]
      simp only [bS]
      rw [iN (by simp)]
      unfold lD lC
      rw [iP (by rfl),iP (by rfl),kE]
      exact ⟨_,σ.s,_,rfl,I.r,.inl ⟨rfl,rfl,2,.inr (.inl rfl),rfl⟩⟩
    · rw [f]
      simp only [bS]
      obtain ⟨l,g1,g2,g3,g4⟩:=IV c.Gone C.gone (λ p hp=>by
        obtain ⟨ps,k,e,_⟩:=Jk (C.gin p hp).1
        unfold eX;rw [e];rfl) _ f2
      rw [iP (by trivial),g1]
      simp only [bS]
      unfold lD lC
      rw [iN (by simp)]
      by_cases l32:l.length <= 32
      · rw [iN (by simp;omega)]
        have R:fP l:=⟨g2.all,g2.sort,l32⟩
        rw [Ve R _ (by omega)]
        simp only [bS]
        unfold oL
        cases hh:σ.h.any λ x=>atP l (bl c.Prefix) (kN x) with
        | true=>
          rw [iP (by trivial),iP (by trivial),kE]
          exact ⟨_,σ.s,_,rfl,I.r,.inl ⟨rfl,rfl,131,.inr (.inr rfl),rfl⟩⟩
        | false=>
          rw [iN (by simp),CO I.r R _ (by omega)]
          simp only [bS]
          cases oo:σ.h.any λ x=>!Jl σ.r l (kN x) with
          | true=>
            rw [iP (by trivial),kE]
            exact ⟨_,σ.s,_,rfl,I.r,.inl ⟨rfl,rfl,131,.inr (.inr rfl),rfl⟩⟩
          | false=>
            rw [iN (by simp),show (⟨σ.s.Nodes,σ.s.Turns⟩:Sto)=σ.s from rfl,Ip R c.Prefix I.s (by omega) (by omega)]
            simp only [bS]
            unfold sL
            rw [Ip R c.Prefix C.store (by omega) (by omega)]
            simp only [bS]
            have n1:=List.length_filter_le (λ x=>!inN l (bl c.Prefix) x) σ.s.Nodes
            have n2:=List.length_filter_le (inN l (bl c.Prefix)) c.Store.Nodes
            have n3:=List.length_filter_le (λ x=>!inT l (bl c.Prefix) x) σ.s.Turns
            have n4:=List.length_filter_le (inT l (bl c.Prefix)) c.Store.Turns
            rw [dO (Nat.le_trans (Nat.add_le_add n1 n2) (by simp only [LIM];omega)),dO (Nat.le_trans (Nat.add_le_add n3 n4) (by simp only [LIM];omega)),dO (by rw [List.length_append];omega),dO (by rw [List.length_append];omega)]
            exact ⟨_,Ir l (bl c.Prefix) σ.s c.Store,_,rfl,R,.inr ⟨rfl,rfl,hh,oo,by trivial,g3,g4,by rfl⟩⟩
      · rw [iP (by simp;omega),kE]
        exact ⟨_,σ.s,_,rfl,I.r,.inl ⟨rfl,rfl,2,.inr (.inl rfl),rfl⟩⟩
  rcases Mk I.r c.Prefix with ⟨f,q⟩ | ⟨x,q1,q2,q3⟩
  · rw [f]
    simp only [bS]
    rw [iN (by simp)]
    exact j1
  · rw [q3]
    simp only [bS]
    rw [iP (by trivial)]
    by_cases ep:x.Epoch ≥ c.Epoch
    · rw [decide_eq_true ep]
      unfold iI
      rw [iP (by trivial)]
      exact ⟨_,σ.s,_,rfl,I.r,.inl ⟨rfl,rfl,0,.inl rfl,rfl⟩⟩
    · rw [decide_eq_false ep]
      exact j1
/-! ### watches -/
theorem K4{w:aT}(u:aT)(l:List Ev)(e:Int):lE w.Watches w.Sessions u l e=some (if e=0 then { okA with Events:=l } else rV e,if e=0 then u.Watches else w.Watches,if e=0 then u.Sessions else w.Sessions):=by
  have _:=I
  have _:=hn
  have _:=C
  unfold lE
  by_cases h:e=0
  · rw [iN (by simpa using h),iP h,iP h,iP h]
  · rw [iP (by simpa using h),iN h,iN h,iN h,kE];rfl
theorem FF:∃ a u,tP σ.w.Watches σ.w.Sessions c=some (a,u.Watches,u.Sessions)/\pE u/\u.Sessions.length <= σ.w.Sessions.length+1/\a.Results= []/\a.Events.length <= 8/\a= { rV a.Err with Events:=a.Events }:=by
  unfold tP uP
  rw [show (⟨σ.w.Watches,σ.w.Sessions⟩:aT)=σ.w from rfl]
  rcases NO I.w (by have:=I.wl;omega) c.Watch with ⟨u,e,h1,h2⟩ | ⟨u,h1,h2,h3⟩
  · rw [h1]
    simp only [bS]
    rw [K4 I hn C]
    exact ⟨rV e,σ.w,by simp [h2],I.w,by omega,rfl,by simp,rfl⟩
  · rw [h1]
    simp only [bS]
    rw [K4 I hn C]
    exact ⟨okA,u,rfl,h2,h3,rfl,by simp,rfl⟩
theorem Zl:∃ a u,rP σ.w.Watches σ.w.Sessions c=some (a,u.Watches,u.Sessions)/\pE u/\u.Sessions.length <= σ.w.Sessions.length+1/\a.Results= []/\a.Events.length <= 8/\a= { rV a.Err with Events:=a.Events }:=by
  unfold rP sM
  rw [show (⟨σ.w.Watches,σ.w.Sessions⟩:aT)=σ.w from rfl]
  rcases FA I.w (by have:=I.wl;omega) c.Watch.Session c.Watch.Num with ⟨u,e,h1,h2⟩ | ⟨u,h1,h2,h3⟩
  · rw [h1]
    simp only [bS]
    rw [K4 I hn C]
    exact ⟨rV e,σ.w,by simp [h2],I.w,by omega,rfl,by simp,rfl⟩
  · rw [h1]
    simp only [bS]
    rw [K4 I hn C]
    exact ⟨okA,u,rfl,h2,by rw [h3];omega,rfl,by simp,rfl⟩
theorem JN:∃ a u,vF σ.w.Watches σ.w.Sessions c=some (a,u.Watches,u.Sessions)/\pE u/\u.Sessions.length <= σ.w.Sessions.length+1/\a.Results= []/\a.Events.length <= 8/\a= { rV a.Err with Events:=a.Events }:=by
  unfold vF
  rw [show (⟨σ.w.Watches,σ.w.Sessions⟩:aT)=σ.w from rfl]
  rcases JD I.w (by have:=I.wl;omega) c.Watch.Session c.Epoch with ⟨u,l,e,h1,h2⟩ | ⟨u,l,h1,h2,h3,h4⟩
  · rw [h1]
    simp only [bS]
    rw [K4 I hn C]
    exact ⟨rV e,σ.w,by simp [h2],I.w,by omega,rfl,by simp,rfl⟩
  · rw [h1]
    simp only [bS]
    rw [K4 I hn C]
    exact ⟨{ okA with Events:=l },u,rfl,h2,by omega,rfl,h4,rfl⟩
end
end Go.Cb
