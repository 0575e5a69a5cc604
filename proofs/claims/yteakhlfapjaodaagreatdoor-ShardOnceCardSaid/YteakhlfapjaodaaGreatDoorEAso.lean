/- What is too much; a shard that begins; answers that are alike. -/
import Derived.Test.YteakhlfapjaodaaGreatDoorE9so
import Derived.Test.YteakhlfapjaodaaGreatDoorKso4
set_option linter.unusedVariables false
set_option linter.unusedSimpArgs false
namespace Go.Cb
open Go.Proofs Go.RowKit

/-! ### what is too much -/
theorem Zn(l:List Rg):∃ b,tR l=some b:=by
  have main:∀ (k i:Nat) (n:Int),1 <= k->0 <= n->(n < 3000->(l.length:Int) <= n/\l.length+2 <= i+k)->∃ b,mT l k n (i:Int)=some b:=by
    intro k
    induction k with
    | zero=>intro i n h;omega
    | succ k ih=>
      intro i n _ h0 h
      unfold mT qT
      by_cases hi:i < l.length
      · rw [iP (by simpa using hi)]
        by_cases hn:n < 3000
        · obtain ⟨a,b⟩:=h hn
          rw [iP (by simpa using hn),bV hi]
          simp only [bS]
          rw [w64 (n:=n+min _ 3000) (by omega) (by omega),gU (by omega)]
          exact ih (i+1) _ (by omega) (by omega) (λ _=>⟨by omega,by omega⟩)
        · rw [iN (by simpa using hn)];exact ⟨_,rfl⟩
      · rw [iN (by simpa using hi)];exact ⟨_,rfl⟩
  unfold tR
  exact main 3002 0 _ (by omega) (by omega) (λ h=>⟨Int.le_refl _,by omega⟩)
theorem Lc(c:Cmd)(hn:c.Store.Nodes.length <= 140737488351232):∃ b,qH c=some b/\(b=false->M5 c/\c.Pieces.length <= 60/\c.Store.Nodes.length <= 1666):=by
  have j1:∀ n:Int,(n < 3000->(c.Gone.length:Int) <= n)->∃ b,mR c n=some b/\(b=false->M5 c/\c.Pieces.length <= 60/\c.Store.Nodes.length <= 1666):=λ n h=>by
    have yes:∃ b,some true=some b/\(b=false->M5 c/\c.Pieces.length <= 60/\c.Store.Nodes.length <= 1666):=⟨true,rfl,λ h=>by cases h⟩
    unfold mR
    by_cases h3:n ≥ 3000
    · rw [iP (by simpa using h3)];exact yes
    · rw [iN (by simpa using h3)]
      split
      · exact yes
      · split
        · exact yes
        · obtain ⟨b,h1,h2⟩:=Qb c.Pieces
          rw [h1]
          simp only [bS]
          cases b with
          | true=>rw [iP (by trivial)];exact yes
          | false=>
            rw [iN (by simp)]
            obtain ⟨d,g1,g2⟩:=Qv c.Store hn
            rw [g1]
            refine ⟨d,rfl,λ e=>?_⟩
            obtain ⟨_,a,b⟩:=g2 e
            have p:=(h2 rfl).1
            have g:=h (by omega)
            exact ⟨⟨by omega,by omega,by omega,by omega⟩,p,a⟩
  have main:∀ (k i:Nat) (n:Int),1 <= k->0 <= n->(n < 3000->(c.Gone.length:Int) <= n/\c.Gone.length+2 <= i+k)->∃ b,mS c k n (i:Int)=some b/\(b=false->M5 c/\c.Pieces.length <= 60/\c.Store.Nodes.length <= 1666):=by
    intro k
    induction k with
    | zero=>intro i n h;omega
    | succ k ih=>
      intro i n _ h0 h
      unfold mS
      by_cases hi:i < c.Gone.length
      · rw [iP (by simpa using hi)]
        by_cases hn:n < 3000
        · obtain ⟨a,b⟩:=h hn
          rw [iP (by simpa using hn),bV hi]
          simp only [bS]
          rw [w64 (n:=n+min _ 3000) (by omega) (by omega),gU (by omega)]
          exact ih (i+1) _ (by omega) (by omega) (λ _=>⟨by omega,by omega⟩)
        · rw [iN (by simpa using hn)];exact j1 n λ q=>absurd q hn
      · rw [iN (by simpa using hi)];exact j1 n λ q=>(h q).1
  unfold qH
  exact main 3002 0 _ (by omega) (by omega) (λ h=>⟨Int.le_refl _,by omega⟩)
def Zo(c:Cmd):Prop:=c.Store.Nodes.length <= 140737488351232
theorem Zp(l:List Cmd)(hc:∀ c ∈ l,Zo c):∃ b,tQ l=some b/\(b=false->l.length <= 60/\∀ c ∈ l,M5 c):=by
  unfold tQ
  by_cases h:l.length <= 60
  · rw [iN (by simp;omega)]
    obtain ⟨r,h1,h2⟩:=xA (λ k i (n:Int)=>gI l k n i) (n:=l.length) (k:=((l.length:Int) - 0:Int).toNat+1) (λ i n=>0 <= n/\n <= 600/\∀ j (h:j < l.length),j < i->M5 l[j]) (λ b=>b=false->l.length <= 60/\∀ c ∈ l,M5 c) 0 (pD _) ⟨by omega,by omega,λ j h hj=>by omega⟩ (by
      rintro k i n hi ⟨P0,P1,P2⟩ ih
      unfold gI qS
      rw [iP (by simpa using hi),bV hi]
      simp only [bS]
      obtain ⟨b,g1,g2⟩:=Lc l[i] (hc _ (List.getElem_mem hi))
      rw [g1]
      simp only [bS]
      cases b with
      | true=>rw [iP (by trivial),iP (by trivial)];exact ⟨true,rfl,λ h=>by cases h⟩
      | false=>
        obtain ⟨s1,s2,s3⟩:=g2 rfl
        rw [iN (by simp),w64 (n:=n+1) (by omega) (by omega),w64 (n:=2 * ((l[i]).Pieces.length:Int)) (by omega) (by omega),w64 (n:=n+1+2 * ((l[i]).Pieces.length:Int)) (by omega) (by omega),w64 (n:=n+1+2 * ((l[i]).Pieces.length:Int)+((l[i]).Store.Nodes.length:Int)) (by omega) (by omega)]
        by_cases g:n+1+2 * ((l[i]).Pieces.length:Int)+((l[i]).Store.Nodes.length:Int) > 600
        · rw [iP (by simpa using g)];exact ⟨true,rfl,λ h=>by cases h⟩
        · rw [iN (by simpa using g),gU (by omega)]
          refine ih _ ⟨by omega,by omega,λ j h hj=>?_⟩
          by_cases e:j=i
          · subst e;exact s1
          · exact P2 j h (by omega)) (by
      rintro k n ⟨_,_,P2⟩
      unfold gI
      rw [iN (by simp)]
      refine ⟨false,rfl,λ _=>⟨h,λ c hc=>?_⟩⟩
      obtain ⟨j,hj,rfl⟩:=List.mem_iff_getElem.1 hc
      exact P2 j hj hj)
    exact ⟨r,h1,h2⟩
  · rw [iP (by simp;omega)];exact ⟨true,rfl,λ h=>by cases h⟩
/-! ### a shard that begins -/
theorem OB(s:Sto)(l:List Rg)(hn:s.Nodes.length <= 140737488351232)(ht:s.Turns.length <= 140737488351232)(hl:l.length <= 140737488351232):xB s l=some none∨(xB s l=some (some (s.Nodes,s.Turns,l))/\eK s/\fP l):=by
  unfold xB s9
  obtain ⟨b,h1,h2⟩:=H8 s hn ht
  rw [h1]
  simp only [bS]
  cases b with
  | false=>exact .inl (by rw [iP (by rfl),iP (by trivial)])
  | true=>
    obtain ⟨d,g1,g2⟩:=Gd l hl
    rw [iN (by simp),g1]
    simp only [bS]
    cases d with
    | false=>exact .inl (by rw [iP (by rfl)])
    | true=>exact .inr ⟨by rw [iN (by simp)],h2.1 rfl,g2.1 rfl⟩
abbrev sh0 (s:Sto) (l:List Rg):Sh:=⟨s,l,[],⟨[],[]⟩,[],[],[]⟩
theorem QR{s:Sto}{l:List Rg}(S:eK s)(R:fP l)(hn:s.Nodes.length <= 1666)(ht:s.Turns.length < 3000):Inv 3000 (sh0 s l):=
  ⟨S,by simp only;omega,by simp only;omega,R,⟨by simp,List.Pairwise.nil,by simp⟩,by simp,⟨by simp,by simp,by simp,by simp,List.Pairwise.nil,by simp⟩,by simp,by simp,by simp,by simp,λ t v h=>by simp [cZ] at h⟩
/-! ### alike -/
theorem Xq(l:List Ev)(hl:l.length <= 1000000):lH l l=some true:=by
  unfold lH
  rw [iN (by simp)]
  obtain ⟨r,h,rfl⟩:=xA (λ k i (_:Unit)=>gL l l k i) (n:=l.length) (k:=((l.length:Int) - 0:Int).toNat+1) (λ _ _=>True) (λ r=>r=true) () (pD _) trivial (by
    intro k i _ hi _ ih
    unfold gL
    rw [iP (by simpa using hi),bV hi]
    simp only [bS]
    rw [iN (by simp [qV]),gU (by omega)]
    exact ih () trivial) (by
    intro k _ _
    unfold gL
    rw [iN (by simp)]
    exact ⟨true,rfl,rfl⟩)
  exact h
theorem FG(l:List Int)(hl:l.length <= 1000000):qU l l=some true:=by
  unfold qU
  rw [iN (by simp)]
  obtain ⟨r,h,rfl⟩:=xA (λ k i (_:Unit)=>hJ l l k i) (n:=l.length) (k:=((l.length:Int) - 0:Int).toNat+1) (λ _ _=>True) (λ r=>r=true) () (pD _) trivial (by
    intro k i _ hi _ ih
    unfold hJ
    rw [iP (by simpa using hi),bV hi]
    simp only [bS]
    rw [iN (by simp),gU (by omega)]
    exact ih () trivial) (by
    intro k _ _
    unfold hJ
    rw [iN (by simp)]
    exact ⟨true,rfl,rfl⟩)
  exact h
structure Ou (a:Ans):Prop where
  r:a.Results.length <= 1000000
  n:∀ x ∈ a.Results,x.Names.length <= 1000000
  s:a.Store.Nodes.length <= 1000000
  t:a.Store.Turns.length <= 1000000
  e:a.Events.length <= 1000000
  w:a.Wounded.length <= 1000000
  m:a.Mounts= []
theorem Xr(s:Sto)(hn:s.Nodes.length <= 1000000)(ht:s.Turns.length <= 1000000):oE s s=some true:=by rw [ES _ _ hn ht];simp
theorem PZ(a:Ans)(S:Ou a):vG a a=some true:=by
  unfold vG iZ
  rw [iN (by simp),iN (by simp),iN (by simp),iN (by simp),iN (by simp),S.m,show ((([]:List zA).length:Int) - 0:Int).toNat+1=1 from rfl]
  unfold rS
  rw [iN (by rw [S.m];simp),Rq _ S.r S.n]
  simp only [bS]
  rw [iP (by trivial),Xr _ S.s S.t]
  simp only [bS]
  rw [iP (by trivial),Xq _ S.e]
  simp only [bS]
  rw [iP (by trivial),FG _ S.w]
  rfl
theorem Zq(w:aT)(h1:w.Watches.length <= 1000000)(h2:w.Sessions.length <= 1000000)(h3:∀ s ∈ w.Sessions,s.Events.length <= 8):lG w.Watches w.Sessions=some w:=by
  unfold lG sS
  rw [dO (by simp only [LIM];omega),dO (by simp only [LIM];omega)]
  obtain ⟨r,h,rfl⟩:=xA (λ k i (l:List Ses)=>iK w.Sessions w.Watches k i l) (n:=w.Sessions.length) (k:=((w.Sessions.length:Int) - 0:Int).toNat+1) (λ _ l=>l=w.Sessions) (λ r=>r=w) w.Sessions (pD _) rfl (by
    rintro k i _ hi rfl ih
    unfold iK
    rw [iP (by simpa using hi),bV hi]
    simp only [bS]
    have:=h3 _ (List.getElem_mem hi)
    rw [dO (by simp only [LIM];omega),gU (by omega),Int.toNat_natCast]
    refine ih _ ?_
    rw [show ({ w.Sessions[i] with Events:=(w.Sessions[i]).Events }:Ses)=w.Sessions[i] from rfl]
    exact List.set_getElem_self hi) (by
    rintro k _ rfl
    unfold iK
    rw [iN (by simp)]
    exact ⟨w,rfl,rfl⟩)
  exact h
theorem pE.watched {w:aT} (W:pE w) (h:w.Sessions.length <= 1000000):lG w.Watches w.Sessions=some w:=Zq w (by have:=W.wl;omega) h (λ s hs=>(W.so s hs).len)
theorem QA(w:aT)(h1:w.Watches.length <= 1000000)(h2:w.Sessions.length <= 1000000)(h3:∀ s ∈ w.Sessions,s.Events.length <= 8):vH w w=some true:=by
  unfold vH rT
  rw [iN (by simp),iN (by simp)]
  have l2:fH w w (((w.Sessions.length:Int) - 0:Int).toNat+1) 0=some true:=by
    obtain ⟨r,h,rfl⟩:=xA (λ k i (_:Unit)=>fH w w k i) (n:=w.Sessions.length) (k:=((w.Sessions.length:Int) - 0:Int).toNat+1) (λ _ _=>True) (λ r=>r=true) () (pD _) trivial (by
      intro k i _ hi _ ih
      unfold fH nR
      have:=h3 _ (List.getElem_mem hi)
      rw [iP (by simpa using hi),bV hi]
      simp only [bS]
      rw [iN (by simp),iN (by simp),Xq _ (by omega)]
      simp only [bS]
      rw [iN (by simp),gU (by omega)]
      exact ih () trivial) (by
      intro k _ _
      unfold fH
      rw [iN (by simp)]
      exact ⟨true,rfl,rfl⟩)
    exact h
  obtain ⟨r,h,rfl⟩:=xA (λ k i (_:Unit)=>lI w w k i) (n:=w.Watches.length) (k:=((w.Watches.length:Int) - 0:Int).toNat+1) (λ _ _=>True) (λ r=>r=true) () (pD _) trivial (by
    intro k i _ hi _ ih
    unfold lI
    rw [iP (by simpa using hi),bV hi]
    simp only [bS]
    rw [iN (by simp [qV]),gU (by omega)]
    exact ih () trivial) (by
    intro k _ _
    unfold lI
    rw [iN (by simp)]
    exact ⟨true,l2,rfl⟩)
  exact h
theorem FH{a b:Ans}{σ τ:Sh}(h:Qc a σ=Qc b τ):a=b/\σ=τ:=by
  obtain ⟨⟨n1,t1⟩,r1,h1,⟨w1,s1⟩,x1,y1,z1⟩:=σ
  obtain ⟨⟨n2,t2⟩,r2,h2,⟨w2,s2⟩,x2,y2,z2⟩:=τ
  simp only [Qc,Option.some.injEq,Prod.mk.injEq] at h
  obtain ⟨rfl,rfl,rfl,rfl,rfl,rfl,rfl,rfl,rfl,rfl⟩:=h
  exact ⟨rfl,rfl⟩
end Go.Cb
