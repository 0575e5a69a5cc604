/- ShardOnce, plainly: a command of an Id, done once more, has the answer that it had. -/
import Derived.Test.YteakhlfapjaodaaGreatDoorEAso
import Derived.Test.YteakhlfapjaodaaGreatDoorKso4
set_option linter.unusedVariables false
set_option linter.unusedSimpArgs false
namespace Go.Cb
open Go.Proofs Go.RowKit

theorem Xs{n:Nat}{σ:Sh}(I:Inv n σ)(hn:n <= 49000){c:Cmd}(hr:gE c=some true)(C:Q9 c)(k:c.Kind=1∨c.Kind=8∨c.Kind=9∨c.Kind=10):∃ a τ,doS σ c=Qc a τ/\Da σ.x c.Id a τ.x (τ=σ) (Ou a):=by
  have hn5:n <= 50000:=by omega
  have wd:∀ (a:Ans) (u:aT),Jr (σ:=σ) a u->Ou a:=λ a u h=>by
    obtain ⟨_,_,h3,h4,h5⟩:=h
    rw [h5]
    exact ⟨by simp,by simp,by simp,by simp,by simp only;omega,by simp,rfl⟩
  have lift:∀ (a:Ans) (u:aT) (x':List (Int×Ans)),Da σ.x c.Id a x' (u=σ.w) (Jr (σ:=σ) a u)->Da σ.x c.Id a x' ((⟨σ.s,σ.r,σ.h,u,x',σ.y,σ.z⟩:Sh)=σ) (Ou a):=λ a u x' h=>by
    rcases h with ⟨h1,rfl,rfl⟩ | ⟨h1,h2,h3,h4,rfl,rfl⟩ | ⟨h1,h2,h3,h4⟩
    · exact .inl ⟨h1,rfl,rfl⟩
    · exact .inr (.inl ⟨h1,h2,h3,h4,rfl,rfl⟩)
    · exact .inr (.inr ⟨h1,h2,h3,wd a u h4⟩)
  rcases k with k | k | k | k
  · rw [doS,do1 _ _ _ _ _ _ _ _ _ hr k]
    obtain ⟨a,s',u,x',h1,h2⟩:=Vo I hn5 C
    rw [h1]
    refine ⟨a,⟨s',σ.r,σ.h,u,x',σ.y,σ.z⟩,rfl,?_⟩
    rcases h2 with ⟨p1,rfl,rfl,rfl⟩ | ⟨p1,p2,p3,p4,rfl,rfl,rfl⟩ | ⟨p1,p2,p3,_,_,p4⟩
    · exact .inl ⟨p1,rfl,rfl⟩
    · exact .inr (.inl ⟨p1,p2,p3,p4,rfl,rfl⟩)
    · refine .inr (.inr ⟨p1,p2,p3,?_⟩)
      rcases p4 with ⟨e,_,rfl,_⟩ | ⟨_,_,rfl,_⟩
      · exact ⟨by simp,by simp,by simp,by simp,by simp,by simp,rfl⟩
      · have cl:=C.len
        obtain ⟨_,m2⟩:=Cy σ.s c.Pieces I.s (by have:=I.sn;omega) (by have:=I.st;omega) (by omega) C.may
        unfold Uz
        by_cases e:(mN σ.s 0 σ.s [] c.Pieces).2.2.1=0
        · obtain ⟨_,_,_,g4,g5⟩:=m2 e
          rw [iN (by simpa using e)]
          exact ⟨by simp only;omega,λ x hx=>(g5 x hx).1,by simp,by simp,by simp,by simp,rfl⟩
        · rw [iP e]
          exact ⟨by simp,by simp,by simp,by simp,by simp,by simp,rfl⟩
  · rw [doS,do8 _ _ _ _ _ _ _ _ _ hr k]
    obtain ⟨a,u,x',h1,h2⟩:=Vp I hn5 C
    rw [h1]
    exact ⟨a,⟨σ.s,σ.r,σ.h,u,x',σ.y,σ.z⟩,rfl,lift a u x' h2⟩
  · rw [doS,do9 _ _ _ _ _ _ _ _ _ hr k]
    obtain ⟨a,u,x',h1,h2⟩:=Vq I hn5 C
    rw [h1]
    exact ⟨a,⟨σ.s,σ.r,σ.h,u,x',σ.y,σ.z⟩,rfl,lift a u x' h2⟩
  · rw [doS,NZ _ _ _ _ _ _ _ _ _ hr k]
    obtain ⟨a,u,x',h1,h2⟩:=Vr I hn5 C
    rw [h1]
    exact ⟨a,⟨σ.s,σ.r,σ.h,u,x',σ.y,σ.z⟩,rfl,lift a u x' h2⟩
abbrev R1 (c:Cmd) (q:Int):Cmd:=⟨q,max c.Id 1,c.Txn,c.Age,c.Yes,c.Pieces,c.Prefix,c.Epoch,c.To,c.Store,c.Gone,c.Watch⟩
theorem Xt(cmds:List Cmd)(hl:cmds.length <= 60)(hc:∀ c ∈ cmds,M5 c)(c:Cmd)(q:Int)(k:q=1∨q=8∨q=9∨q=10)(hr:gE (R1 c q)=some true)(C:Q9 (R1 c q))(v:Ans×List Nd×List Tn×List Rg×List Hd×List Wat×List Ses×List (Int×Ans)×List (Int×Txn)×List (Int×Ans))(S:Ou v.1):∀ (m i:Nat) (σ:Sh),i <= cmds.length->cmds.length+1 <= i+m->Inv (4000+600 * i) σ->cZ σ.x (max c.Id 1)=some v.1->
    jK cmds q c true v m (i:Int) σ.s.Nodes σ.s.Turns σ.r σ.h σ.w.Watches σ.w.Sessions σ.x σ.y σ.z=some true
  | 0,i,σ,_,h,_,_=>by omega
  | m+1,i,σ,h0,h,I,g=>by
    unfold jK
    by_cases hi:i < cmds.length
    · rw [iP (by simpa using hi),bV hi]
      simp only [bS]
      obtain ⟨a,τ,d1,d2,d3⟩:=FZ I (by omega) cmds[i] (hc _ (List.getElem_mem hi))
      rw [show bZ σ.s.Nodes σ.s.Turns σ.r σ.h σ.w.Watches σ.w.Sessions σ.x σ.y σ.z cmds[i]=doS σ cmds[i] from rfl,d1]
      simp only [bS]
      rw [gU (by omega)]
      exact Xt cmds hl hc c q k hr C v S m (i+1) τ (by omega) (by omega) (d2.mono (by omega)) (d3.ids _ _ g)
    · have sn:=I.sn
      have st:=I.st
      have wl:=I.wl
      rw [iN (by simpa using hi),CG σ.s (by omega) (by omega)]
      simp only [bS]
      rw [I.w.watched (by omega)]
      simp only [bS]
      obtain ⟨a,τ,d1,d2⟩:=Xs I (by omega) hr C k
      rw [show bZ σ.s.Nodes σ.s.Turns σ.r σ.h σ.w.Watches σ.w.Sessions σ.x σ.y σ.z (⟨q,max c.Id 1,c.Txn,c.Age,c.Yes,c.Pieces,c.Prefix,c.Epoch,c.To,c.Store,c.Gone,c.Watch⟩:aK)=doS σ (R1 c q) from rfl,d1]
      simp only [bS,if_true]
      have e:a=v.1/\τ=σ:=by
        rcases d2 with ⟨e1,_,e2⟩ | ⟨e1,_⟩ | ⟨e1,_⟩
        · rw [show (R1 c q).Id=max c.Id 1 from rfl,g] at e1
          exact ⟨(Option.some.inj e1).symm,e2⟩
        · rw [show (R1 c q).Id=max c.Id 1 from rfl,g] at e1;cases e1
        · rw [show (R1 c q).Id=max c.Id 1 from rfl,g] at e1;cases e1
      obtain ⟨rfl,rfl⟩:=e
      rw [PZ _ S]
      simp only [bS,if_true]
      rw [CG τ.s (by omega) (by omega)]
      simp only [bS]
      rw [Xr _ (by omega) (by omega)]
      simp only [bS,if_true]
      rw [I.w.watched (by omega)]
      simp only [bS]
      rw [QA _ (by have:=I.w.wl;omega) (by omega) (λ s hs=>(I.w.so s hs).len)]
      rfl
theorem JQ(cmds:List Cmd)(hl:cmds.length <= 60)(hc:∀ c ∈ cmds,M5 c)(c:Cmd)(sc:M5 c){s:Sto}{l:List Rg}(I:Inv 3000 (sh0 s l))(q:Int)(k:q=1∨q=8∨q=9∨q=10):jL cmds c true (s.Nodes,s.Turns,l) q=some true:=by
  unfold jL
  have d0:bZ s.Nodes s.Turns l ([]:List aV) ([]:List aP) ([]:List aE) [] [] [] (⟨q,max c.Id 1,c.Txn,c.Age,c.Yes,c.Pieces,c.Prefix,c.Epoch,c.To,c.Store,c.Gone,c.Watch⟩:aK)=doS (sh0 s l) (R1 c q):=rfl
  rw [d0]
  have sm:M5 (R1 c q):=⟨sc.p,sc.g,sc.n,sc.t⟩
  obtain ⟨b,hr,hC⟩:=Lb (R1 c q) sm.p sm.g sm.n sm.t
  cases b with
  | false=>
    rw [doS,CV _ _ _ _ _ _ _ _ _ hr]
    simp only [bS]
    rw [iP (by rfl)]
    rfl
  | true=>
    have C:=hC rfl
    obtain ⟨a,τ,d1,d2⟩:=Xs I (by omega) hr C k
    obtain ⟨a',τ',e1,e2,e3⟩:=FZ I (by omega) (R1 c q) sm
    rw [d1] at e1
    obtain ⟨rfl,rfl⟩:=FH e1
    rw [d1]
    simp only [bS]
    have j3t:∀ v,gB cmds q c true v true=some true:=λ v=>by unfold gB;rw [iP rfl]
    by_cases f1:a.Err=1
    · rw [iP (by simpa using f1),j3t]
    rw [iN (by simpa using f1)]
    by_cases f2:a.Err=131
    · rw [iP (by simpa using f2),j3t]
    rw [iN (by simpa using f2)]
    by_cases f3:a.Err=132
    · rw [show (a.Err == 132)=true from by simpa using f3,j3t]
    rw [show (a.Err == 132)=false from by simpa using f3]
    unfold gB
    rw [iN (by simp)]
    have id0:(R1 c q).Id ≠ 0:=by show max c.Id 1 ≠ 0;omega
    rcases d2 with ⟨g,_⟩ | ⟨_,_,g,_⟩ | ⟨_,_,g1,g2⟩
    · simp [cZ] at g
    · simp at g
    · have kx:cZ τ.x (max c.Id 1)=some a:=by
        rw [g1]
        unfold zQ
        rw [iP ⟨id0,f2,f3⟩]
        exact wA _ _ _
      exact Xt cmds hl hc c q k hr C _ g2 _ 0 τ (by omega) (by omega) (e2.mono (by omega)) kx
theorem Zr(s:Sto)(l:List Rg)(c:Cmd)(cmds:List Cmd)(hn:s.Nodes.length <= 140737488351232)(ht:s.Turns.length <= 140737488351232)(hl:l.length <= 140737488351232)(hc:Zo c)(hcs:∀ c ∈ cmds,Zo c):pQ s l c cmds=some true:=by
  unfold pQ
  rw [ET]
  simp only [bS]
  rcases OB s l hn ht hl with h | ⟨h,S,R⟩
  · rw [h];rfl
  · rw [h]
    simp only [bS,Lh]
    have j1t:eU cmds c true (s.Nodes,s.Turns,l) true=some true:=by unfold eU;rw [iP rfl]
    obtain ⟨b,g1,g2⟩:=Qv s hn
    rw [g1]
    simp only [bS]
    cases b with
    | true=>rw [iP (by trivial),j1t]
    | false=>
      obtain ⟨_,s1,s2⟩:=g2 rfl
      rw [iN (by simp)]
      obtain ⟨b,g3⟩:=Zn l
      rw [g3]
      simp only [bS]
      cases b with
      | true=>rw [iP (by trivial),j1t]
      | false=>
        rw [iN (by simp)]
        obtain ⟨b,g4,g5⟩:=Zp cmds hcs
        rw [g4]
        simp only [bS]
        cases b with
        | true=>rw [iP (by trivial),j1t]
        | false=>
          obtain ⟨c1,c2⟩:=g5 rfl
          rw [iN (by simp)]
          obtain ⟨b,g6,g7⟩:=Lc c hc
          rw [g6]
          simp only [bS]
          cases b with
          | true=>exact j1t
          | false=>
            obtain ⟨sc,_⟩:=g7 rfl
            have I:=QR S R s1 s2
            have j2:=λ q k=>JQ cmds c1 c2 c sc I q k
            unfold eU jM
            rw [iN (by simp)]
            by_cases k8:c.Kind=8
            · rw [iN (by simpa using k8),iN (by simp)]
              exact j2 _ (.inr (.inl k8))
            · rw [iP (by simpa using k8)]
              by_cases k9:c.Kind=9
              · rw [iN (by simpa using k9),iN (by simp)]
                exact j2 _ (.inr (.inr (.inl k9)))
              · rw [iP (by simpa using k9)]
                by_cases k10:c.Kind=10
                · rw [iN (by simpa using k10)]
                  exact j2 _ (.inr (.inr (.inr k10)))
                · rw [iP (by simpa using k10)]
                  exact j2 1 (.inl rfl)
end Go.Cb
