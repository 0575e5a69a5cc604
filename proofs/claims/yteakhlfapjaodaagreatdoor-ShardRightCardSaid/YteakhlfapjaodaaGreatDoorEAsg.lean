/- What is too much; a shard that begins; answers that are alike. -/
import Derived.Test.YteakhlfapjaodaaGreatDoorE9sg
import Derived.Test.YteakhlfapjaodaaGreatDoorKsg4
import Derived.Test.YteakhlfapjaodaaGreatDoorAsg2
set_option linter.unusedVariables false
set_option linter.unusedSimpArgs false
namespace Go.Cb
open Go.Proofs Go.RowKit

/-! ### what is too much -/
theorem Zt(l:List Rg):∃ b,uH l=some b:=by
 have main:∀ (k i:Nat) (n:Int),1 <= k->0 <= n->(n < 3000->(l.length:Int) <= n/\l.length+2 <= i+k)->∃ b,nJ l k n (i:Int)=some b:=by
  intro k
  induction k with
  | zero=>intro i n h;omega
  | succ k ih=>
   intro i n _ h0 h;unfold nJ rI;by_cases hi:i < l.length
   ·rw [iP (by simpa using hi)];by_cases hn:n < 3000
    ·obtain ⟨a,b⟩:=h hn;rw [iP (by simpa using hn),bT hi];simp only [bS];rw [w64 (n:=n+min _ 3000) (by omega) (by omega),gL (by omega)];exact ih (i+1) _ (by omega) (by omega) (λ_=>⟨by omega,by omega⟩)
    rw [iN (by simpa using hn)];exact ⟨_,rfl⟩
   rw [iN (by simpa using hi)];exact ⟨_,rfl⟩
 unfold uH;exact main 3002 0 _ (by omega) (by omega) (λh=>⟨Int.le_refl _,by omega⟩)
theorem Wv(c:Cmd)(hn:c.Store.Nodes.length <= 140737488351232):∃ b,uF c=some b/\(b=false->Ak c/\c.Pieces.length <= 60/\c.Store.Nodes.length <= 1666):=by
 have j1:∀ n:Int,(n < 3000->(c.Gone.length:Int) <= n)->∃ b,nH c n=some b/\(b=false->Ak c/\c.Pieces.length <= 60/\c.Store.Nodes.length <= 1666):=λn h=>by
  have yes:∃ b,some true=some b/\(b=false->Ak c/\c.Pieces.length <= 60/\c.Store.Nodes.length <= 1666):=⟨true,rfl,λh=>by cases h⟩
  unfold nH;by_cases h3:n ≥ 3000
  ·rw [iP (by simpa using h3)];exact yes
  rw [iN (by simpa using h3)];split
  ·exact yes
  split
  ·exact yes
  obtain ⟨b,h1,h2⟩:=Qo c.Pieces;rw [h1];simp only [bS];cases b with
  | true=>rw [iP (by trivial)];exact yes
  | false=>
   rw [iN (by simp)];obtain ⟨d,g1,g2⟩:=Rj c.Store hn;rw [g1];refine ⟨d,rfl,λe=>?_⟩;obtain ⟨_,a,b⟩:=g2 e;have p:=(h2 rfl).1;have g:=h (by omega);exact ⟨⟨by omega,by omega,by omega,by omega⟩,p,a⟩
 have main:∀ (k i:Nat) (n:Int),1 <= k->0 <= n->(n < 3000->(c.Gone.length:Int) <= n/\c.Gone.length+2 <= i+k)->∃ b,nI c k n (i:Int)=some b/\(b=false->Ak c/\c.Pieces.length <= 60/\c.Store.Nodes.length <= 1666):=by
  intro k
  induction k with
  | zero=>intro i n h;omega
  | succ k ih=>
   intro i n _ h0 h;unfold nI;by_cases hi:i < c.Gone.length
   ·rw [iP (by simpa using hi)];by_cases hn:n < 3000
    ·obtain ⟨a,b⟩:=h hn;rw [iP (by simpa using hn),bT hi];simp only [bS];rw [w64 (n:=n+min _ 3000) (by omega) (by omega),gL (by omega)];exact ih (i+1) _ (by omega) (by omega) (λ_=>⟨by omega,by omega⟩)
    rw [iN (by simpa using hn)];exact j1 n λq=>absurd q hn
   rw [iN (by simpa using hi)];exact j1 n λq=>(h q).1
 unfold uF;exact main 3002 0 _ (by omega) (by omega) (λh=>⟨Int.le_refl _,by omega⟩)
def GA(c:Cmd):Prop:=c.Store.Nodes.length <= 140737488351232
theorem Zu(l:List Cmd)(hc:∀ c ∈ l,GA c):∃ b,uG l=some b/\(b=false->l.length <= 60/\∀ c ∈ l,Ak c):=by
 unfold uG;by_cases h:l.length <= 60
 ·rw [iN (by simp;omega)];obtain ⟨r,h1,h2⟩:=sH (λk i (n:Int)=>gV l k n i) (n:=l.length) (k:=((l.length:Int) - 0:Int).toNat+1) (λi n=>0 <= n/\n <= 600/\∀ j (h:j < l.length),j < i->Ak l[j]) (λb=>b=false->l.length <= 60/\∀ c ∈ l,Ak c) 0 (lH _) ⟨by omega,by omega,λj h hj=>by omega⟩ (by
   rintro k i n hi ⟨P0,P1,P2⟩ ih;unfold gV rH;rw [iP (by simpa using hi),bT hi];simp only [bS];obtain ⟨b,g1,g2⟩:=Wv l[i] (hc _ (List.getElem_mem hi));rw [g1];simp only [bS];cases b with
   | true=>rw [iP (by trivial),iP (by trivial)];exact ⟨true,rfl,λh=>by cases h⟩
   | false=>
    obtain ⟨s1,s2,s3⟩:=g2 rfl;rw [iN (by simp),w64 (n:=n+1) (by omega) (by omega),w64 (n:=2 * ((l[i]).Pieces.length:Int)) (by omega) (by omega),w64 (n:=n+1+2 * ((l[i]).Pieces.length:Int)) (by omega) (by omega),w64 (n:=n+1+2 * ((l[i]).Pieces.length:Int)+((l[i]).Store.Nodes.length:Int)) (by omega) (by omega)];by_cases g:n+1+2 * ((l[i]).Pieces.length:Int)+((l[i]).Store.Nodes.length:Int) > 600
    ·rw [iP (by simpa using g)];exact ⟨true,rfl,λh=>by cases h⟩
    rw [iN (by simpa using g),gL (by omega)];refine ih _ ⟨by omega,by omega,λj h hj=>?_⟩;by_cases e:j=i
    ·subst e;exact s1
    exact P2 j h (by omega)) (by
   rintro k n ⟨_,_,P2⟩;unfold gV;rw [iN (by simp)];refine ⟨false,rfl,λ_=>⟨h,λc hc=>?_⟩⟩;obtain ⟨j,hj,rfl⟩:=List.mem_iff_getElem.1 hc;exact P2 j hj hj)
  exact ⟨r,h1,h2⟩
 rw [iP (by simp;omega)];exact ⟨true,rfl,λh=>by cases h⟩
/-! ### a shard that begins -/
theorem NZ(s:Sto)(l:List Rg)(hn:s.Nodes.length <= 140737488351232)(ht:s.Turns.length <= 140737488351232)(hl:l.length <= 140737488351232):xS s l=some none∨(xS s l=some (some (s.Nodes,s.Turns,l))/\eK s/\fK l):=by
 unfold xS w6;obtain ⟨b,h1,h2⟩:=I5 s hn ht;rw [h1];simp only [bS];cases b with
 | false=>exact .inl (by rw [iP (by rfl),iP (by trivial)])
 | true=>
  obtain ⟨d,g1,g2⟩:=Gd l hl;rw [iN (by simp),g1];simp only [bS];cases d with
  | false=>exact .inl (by rw [iP (by rfl)])
  | true=>exact .inr ⟨by rw [iN (by simp)],h2.1 rfl,g2.1 rfl⟩
abbrev sh0 (s:Sto) (l:List Rg):Sh:=⟨s,l,[],⟨[],[]⟩,[],[],[]⟩
theorem QN{s:Sto}{l:List Rg}(S:eK s)(R:fK l)(hn:s.Nodes.length <= 1666)(ht:s.Turns.length < 3000):Inv 3000 (sh0 s l):=
 ⟨S,by simp only;omega,by simp only;omega,R,⟨by simp,List.Pairwise.nil,by simp⟩,by simp,⟨by simp,by simp,by simp,by simp,List.Pairwise.nil,by simp⟩,by simp,by simp,by simp,by simp,λt v h=>by simp [dH] at h⟩
/-! ### alike -/
theorem Zv(w:aV)(h1:w.Watches.length <= 1000000)(h2:w.Sessions.length <= 1000000)(h3:∀ s ∈ w.Sessions,s.Events.length <= 8):oI w.Watches w.Sessions=some w:=by
 unfold oI tF;rw [dK (by simp only [LIM];omega),dK (by simp only [LIM];omega)];obtain ⟨r,h,rfl⟩:=sH (λk i (l:List Ses)=>jF w.Sessions w.Watches k i l) (n:=w.Sessions.length) (k:=((w.Sessions.length:Int) - 0:Int).toNat+1) (λ_ l=>l=w.Sessions) (λr=>r=w) w.Sessions (lH _) rfl (by
  rintro k i _ hi rfl ih;unfold jF;rw [iP (by simpa using hi),bT hi];simp only [bS];have:=h3 _ (List.getElem_mem hi);rw [dK (by simp only [LIM];omega),gL (by omega),Int.toNat_natCast];refine ih _ ?_;rw [show ({ w.Sessions[i] with Events:=(w.Sessions[i]).Events }:Ses)=w.Sessions[i] from rfl];exact List.set_getElem_self hi) (by
  rintro k _ rfl;unfold jF;rw [iN (by simp)];exact ⟨w,rfl,rfl⟩)
 exact h
theorem oK.watched {w:aV} (W:oK w) (h:w.Sessions.length <= 1000000):oI w.Watches w.Sessions=some w:=Zv w (by have:=W.wl;omega) h (λs hs=>(W.so s hs).len)
end Go.Cb
