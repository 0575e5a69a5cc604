/- What is too much; a shard that begins; answers that are alike. -/
import Derived.Test.YtppeaaolgckfcaaGreatDoorE9sm
import Derived.Test.YtppeaaolgckfcaaGreatDoorKsm4
set_option linter.unusedVariables false
set_option linter.unusedSimpArgs false
namespace Go.Cb
open Go.Proofs Go.RowKit

/-! ### what is too much -/
theorem EO(l:List Rg):∃ b,vV l=some b:=by
 have main:∀ (k i:Nat) (n:Int),1 <= k->0 <= n->(n < 3000->(l.length:Int) <= n/\l.length+2 <= i+k)->∃ b,oK l k n (i:Int)=some b:=by
  intro k
  induction k with
  | zero=>intro i n h;omega
  | succ k ih=>
   intro i n _ h0 h;unfold oK sT;by_cases hi:i < l.length
   ·rw [iP (by simpa using hi)];by_cases hn:n < 3000
    ·obtain ⟨a,b⟩:=h hn;rw [iP (by simpa using hn),bY hi];simp only [bS];rw [w64 (n:=n+min _ 3000) (by omega) (by omega),hP (by omega)];exact ih (i+1) _ (by omega) (by omega) (λ_=>⟨by omega,by omega⟩)
    rw [iN (by simpa using hn)];exact ⟨_,rfl⟩
   rw [iN (by simpa using hi)];exact ⟨_,rfl⟩
 unfold vV;exact main 3002 0 _ (by omega) (by omega) (λh=>⟨Int.le_refl _,by omega⟩)
theorem BF(c:Cmd)(hn:c.Store.Nodes.length <= 140737488351232):∃ b,vU c=some b/\(b=false->J9 c/\c.Pieces.length <= 60/\c.Store.Nodes.length <= 1666):=by
 have j1:∀ n:Int,(n < 3000->(c.Gone.length:Int) <= n)->∃ b,oI c n=some b/\(b=false->J9 c/\c.Pieces.length <= 60/\c.Store.Nodes.length <= 1666):=λn h=>by
  have yes:∃ b,some true=some b/\(b=false->J9 c/\c.Pieces.length <= 60/\c.Store.Nodes.length <= 1666):=⟨true,rfl,λh=>by cases h⟩
  unfold oI;by_cases h3:n ≥ 3000
  ·rw [iP (by simpa using h3)];exact yes
  rw [iN (by simpa using h3)];split
  ·exact yes
  split
  ·exact yes
  obtain ⟨b,h1,h2⟩:=Uy c.Pieces;rw [h1];simp only [bS];cases b with
  | true=>rw [iP (by trivial)];exact yes
  | false=>
   rw [iN (by simp)];obtain ⟨d,g1,g2⟩:=Vr c.Store hn;rw [g1];refine ⟨d,rfl,λe=>?_⟩;obtain ⟨_,a,b⟩:=g2 e;have p:=(h2 rfl).1;have g:=h (by omega);exact ⟨⟨by omega,by omega,by omega,by omega⟩,p,a⟩
 have main:∀ (k i:Nat) (n:Int),1 <= k->0 <= n->(n < 3000->(c.Gone.length:Int) <= n/\c.Gone.length+2 <= i+k)->∃ b,oJ c k n (i:Int)=some b/\(b=false->J9 c/\c.Pieces.length <= 60/\c.Store.Nodes.length <= 1666):=by
  intro k
  induction k with
  | zero=>intro i n h;omega
  | succ k ih=>
   intro i n _ h0 h;unfold oJ;by_cases hi:i < c.Gone.length
   ·rw [iP (by simpa using hi)];by_cases hn:n < 3000
    ·obtain ⟨a,b⟩:=h hn;rw [iP (by simpa using hn),bY hi];simp only [bS];rw [w64 (n:=n+min _ 3000) (by omega) (by omega),hP (by omega)];exact ih (i+1) _ (by omega) (by omega) (λ_=>⟨by omega,by omega⟩)
    rw [iN (by simpa using hn)];exact j1 n λq=>absurd q hn
   rw [iN (by simpa using hi)];exact j1 n λq=>(h q).1
 unfold vU;exact main 3002 0 _ (by omega) (by omega) (λh=>⟨Int.le_refl _,by omega⟩)
def EP(c:Cmd):Prop:=c.Store.Nodes.length <= 140737488351232
theorem Ts(l:List Cmd)(hc:∀ c ∈ l,EP c):∃ b,sC l=some b/\(b=false->l.length <= 60/\∀ c ∈ l,J9 c):=by
 unfold sC;by_cases h:l.length <= 60
 ·rw [iN (by simp;omega)];obtain ⟨r,h1,h2⟩:=zF (λk i (n:Int)=>hY l k n i) (n:=l.length) (k:=((l.length:Int) - 0:Int).toNat+1) (λi n=>0 <= n/\n <= 600/\∀ j (h:j < l.length),j < i->J9 l[j]) (λb=>b=false->l.length <= 60/\∀ c ∈ l,J9 c) 0 (qR _) ⟨by omega,by omega,λj h hj=>by omega⟩ (by
   rintro k i n hi ⟨P0,P1,P2⟩ ih;unfold hY sS;rw [iP (by simpa using hi),bY hi];simp only [bS];obtain ⟨b,g1,g2⟩:=BF l[i] (hc _ (List.getElem_mem hi));rw [g1];simp only [bS];cases b with
   | true=>rw [iP (by trivial),iP (by trivial)];exact ⟨true,rfl,λh=>by cases h⟩
   | false=>
    obtain ⟨s1,s2,s3⟩:=g2 rfl;rw [iN (by simp),w64 (n:=n+1) (by omega) (by omega),w64 (n:=2 * ((l[i]).Pieces.length:Int)) (by omega) (by omega),w64 (n:=n+1+2 * ((l[i]).Pieces.length:Int)) (by omega) (by omega),w64 (n:=n+1+2 * ((l[i]).Pieces.length:Int)+((l[i]).Store.Nodes.length:Int)) (by omega) (by omega)];by_cases g:n+1+2 * ((l[i]).Pieces.length:Int)+((l[i]).Store.Nodes.length:Int) > 600
    ·rw [iP (by simpa using g)];exact ⟨true,rfl,λh=>by cases h⟩
    rw [iN (by simpa using g),hP (by omega)];refine ih _ ⟨by omega,by omega,λj h hj=>?_⟩;by_cases e:j=i
    ·subst e;exact s1
    exact P2 j h (by omega)) (by
   rintro k n ⟨_,_,P2⟩;unfold hY;rw [iN (by simp)];refine ⟨false,rfl,λ_=>⟨h,λc hc=>?_⟩⟩;obtain ⟨j,hj,rfl⟩:=List.mem_iff_getElem.1 hc;exact P2 j hj hj)
  exact ⟨r,h1,h2⟩
 rw [iP (by simp;omega)];exact ⟨true,rfl,λh=>by cases h⟩
/-! ### a shard that begins -/
theorem TV(s:Sto)(l:List Rg)(hn:s.Nodes.length <= 140737488351232)(ht:s.Turns.length <= 140737488351232)(hl:l.length <= 140737488351232):sR s l=some none∨(sR s l=some (some (s.Nodes,s.Turns,l))/\cV s/\dW l):=by
 unfold sR zM;obtain ⟨b,h1,h2⟩:=H9 s hn ht;rw [h1];simp only [bS];cases b with
 | false=>exact .inl (by rw [iP (by rfl),iP (by trivial)])
 | true=>
  obtain ⟨d,g1,g2⟩:=Kf l hl;rw [iN (by simp),g1];simp only [bS];cases d with
  | false=>exact .inl (by rw [iP (by rfl)])
  | true=>exact .inr ⟨by rw [iN (by simp)],h2.1 rfl,g2.1 rfl⟩
abbrev sh0 (s:Sto) (l:List Rg):Sh:=⟨s,l,[],⟨[],[]⟩,[],[],[]⟩
theorem WQ{s:Sto}{l:List Rg}(S:cV s)(R:dW l)(hn:s.Nodes.length <= 1666)(ht:s.Turns.length < 3000):Inv 3000 (sh0 s l):=
 ⟨S,by simp only;omega,by simp only;omega,R,⟨by simp,List.Pairwise.nil,by simp⟩,by simp,⟨by simp,by simp,by simp,by simp,List.Pairwise.nil,by simp⟩,by simp,by simp,by simp,by simp,λt v h=>by simp [dN] at h⟩
/-! ### alike -/
theorem PC(l:List Ev)(hl:l.length <= 1000000):pZ l l=some true:=by
 unfold pZ;rw [iN (by simp)];obtain ⟨r,h,rfl⟩:=zF (λk i (_:Unit)=>iD l l k i) (n:=l.length) (k:=((l.length:Int) - 0:Int).toNat+1) (λ_ _=>True) (λr=>r=true) () (qR _) trivial (by
  intro k i _ hi _ ih;unfold iD;rw [iP (by simpa using hi),bY hi];simp only [bS];rw [iN (by simp [oU]),hP (by omega)];exact ih () trivial) (by
  intro k _ _;unfold iD;rw [iN (by simp)];exact ⟨true,rfl,rfl⟩)
 exact h
theorem KM(l:List Int)(hl:l.length <= 1000000):sU l l=some true:=by
 unfold sU;rw [iN (by simp)];obtain ⟨r,h,rfl⟩:=zF (λk i (_:Unit)=>jC l l k i) (n:=l.length) (k:=((l.length:Int) - 0:Int).toNat+1) (λ_ _=>True) (λr=>r=true) () (qR _) trivial (by
  intro k i _ hi _ ih;unfold jC;rw [iP (by simpa using hi),bY hi];simp only [bS];rw [iN (by simp),hP (by omega)];exact ih () trivial) (by
  intro k _ _;unfold jC;rw [iN (by simp)];exact ⟨true,rfl,rfl⟩)
 exact h
structure VW (a:Ans):Prop where
 r:a.Results.length <= 1000000
 n:∀ x ∈ a.Results,x.Names.length <= 1000000
 s:a.Store.Nodes.length <= 1000000
 t:a.Store.Turns.length <= 1000000
 e:a.Events.length <= 1000000
 w:a.Wounded.length <= 1000000
 m:a.Mounts= []
theorem Oi(s:Sto)(hn:s.Nodes.length <= 1000000)(ht:s.Turns.length <= 1000000):lO s s=some true:=by rw [KA _ _ hn ht];simp
theorem VV(a:Ans)(S:VW a):xU a a=some true:=by
 unfold xU kM;rw [iN (by simp),iN (by simp),iN (by simp),iN (by simp),iN (by simp),S.m,show ((([]:List D4).length:Int) - 0:Int).toNat+1=1 from rfl];unfold tS;rw [iN (by rw [S.m];simp),Wo _ S.r S.n];simp only [bS];rw [iP (by trivial),Oi _ S.s S.t];simp only [bS];rw [iP (by trivial),PC _ S.e];simp only [bS];rw [iP (by trivial),KM _ S.w];rfl
theorem AJ{a b:Ans}{σ τ:Sh}(h:Na a σ=Na b τ):a=b/\σ=τ:=by
 obtain ⟨⟨n1,t1⟩,r1,h1,⟨w1,s1⟩,x1,y1,z1⟩:=σ;obtain ⟨⟨n2,t2⟩,r2,h2,⟨w2,s2⟩,x2,y2,z2⟩:=τ;simp only [Na,Option.some.injEq,Prod.mk.injEq] at h;obtain ⟨rfl,rfl,rfl,rfl,rfl,rfl,rfl,rfl,rfl,rfl⟩:=h;exact ⟨rfl,rfl⟩
end Go.Cb
