/- ShardWatches, plainly: a watch of all is told of each thing that is done, in order. -/
import Derived.Test.YtlgajjcbnimjkaaGreatDoorW4sw
import Derived.Test.YtlgajjcbnimjkaaGreatDoorDPsw
import Derived.Test.YtlgajjcbnimjkaaGreatDoorKsw4
set_option linter.unusedVariables false
set_option linter.unusedSimpArgs false
namespace Go.Cb
open Go.Proofs Go.RowKit

theorem Mm(s0:Sto):∀ (l:List Pie) (i:Nat) (s:Sto) (acc:List Res),gM s→(∀ p ∈ l,rR p.Part=true)→(eE s0 i s acc l).2.2.1=0→gM (eE s0 i s acc l).1∧(eE s0 i s acc l).1.Nodes.length ≤ s.Nodes.length+l.length∧(eE s0 i s acc l).1.Turns.length ≤ s.Turns.length+l.length
  | [],i,s,acc,S,_,_=>⟨S,by simp [eE],by simp [eE]⟩
  | p::l,i,s,acc,S,hm,h=>by
    unfold eE at h ⊢
    by_cases c:(doP s p.Part).2.Err=0
    · rw [if_neg (by simpa using c)] at h ⊢
      obtain ⟨g1,g2,g3,_⟩:=Ty s p.Part S (hm p (by simp))
      obtain ⟨a1,a2,a3⟩:=Mm s0 l (i+1) _ _ g1 (fun q hq=>hm q (by simp [hq])) h
      refine ⟨a1,?_,?_⟩ <;> simp only [List.length_cons] <;> omega
    · rw [if_pos (by simpa using c)] at h
      exact absurd h c
theorem AN(s:Sto)(l:List Pie)(S:gM s)(hm:∀ p ∈ l,rR p.Part=true):gM (wZ s l)∧(wZ s l).Nodes.length ≤ s.Nodes.length+l.length∧(wZ s l).Turns.length ≤ s.Turns.length+l.length:=by
  unfold wZ
  split
  · exact ⟨S,by omega,by omega⟩
  · rename_i h
    exact Mm s l 0 s [] S hm (by simpa using h)
/-- what is told, as events behind a number. -/
def evN(n:Int)(l:List (Int×ByteArray)):List Ev:=l.mapIdx fun i x=>⟨n+1+i,x.1,x.2,1⟩
theorem FL{n:Int}(h0:0 ≤ n){l:List (Int×ByteArray)}(h1:n+l.length ≤ 281474976710656)(h2:l.length ≤ 3)(hk:∀ x ∈ l,1 ≤ x.1∧x.1 ≤ 3)(hp:∀ x ∈ l,dQ (bl x.2)=true):pC (n+l.length) (evN n l):=by
  refine ⟨by simp [evN];omega,by simp [evN];omega,h1,fun j h=>?_,fun e he=>?_⟩
  · simp only [evN,List.getElem_mapIdx,List.length_mapIdx]
    omega
  · unfold evN at he
    obtain ⟨i,hi,rfl⟩:=List.mem_mapIdx.1 he
    have a:=hk _ (List.getElem_mem hi)
    exact ⟨a.1,by simp only;omega,hp _ (List.getElem_mem hi),rfl⟩
theorem Mn{n:Int}{E:List Ev}(H:pC n E):E.filter (fun x=>!decide (x.Num ≤ n))= []:=by
  rw [List.filter_eq_nil_iff]
  intro x hx
  obtain ⟨j,hj,rfl⟩:=List.mem_iff_getElem.1 hx
  have:=H.num j hj
  simp
  omega
theorem Wx(n:Int)(l:List (Int×ByteArray)):(evN n l).filter (fun x=>!decide (x.Num ≤ n))=evN n l:=by
  rw [List.filter_eq_self]
  intro x hx
  obtain ⟨i,hi,rfl⟩:=List.mem_mapIdx.1 hx
  simp
  omega
abbrev FM:=Int→Int→(List aF)→(List aI)→(List aH)→(List aM)→(List aJ)→(List aC)→(List ((Int)×aE))→(List ((Int)×bJ))→(List ((Int)×aE))→Option Bool
theorem Mo(rec_1:FM)(n:Int)(i:Nat)(o:Op1)(ans:aE)(s:Sto)(z:Bool×Int×List Ev)(H:pC z.2.1 z.2.2)(m:Nat)(hm:m ≤ 1000000000)(h0:0 ≤ n)(h1:n ≤ 1000000)(hi:i ≤ 1000)(F:List Ev)
    (room:m ≤ 3→z.1=true∧z.2.1=n+m∧z.2.2.filter (fun x=>!decide (x.Num ≤ n))=F∧F.length=m)
    (kind:m=1→o.Kind ≠ 7→∃ p,F= [⟨n+1,o.Kind,p,1⟩])
    (more:m ≤ 3→rec_1 (n+m) ((i+1:Nat):Int) s.Nodes s.Turns (nH 1) [] [w1] [⟨1,n+m,F⟩] [] [] []=some true) :
    dR rec_1 n (i:Int) o (ans,s.Nodes,s.Turns,nH 1,[],wsB z.1,[⟨1,z.2.1,z.2.2⟩],[],[],[]) true (m:Int)=some true:=by
  unfold dR
  have e:max (IntKind.i64.wrap ((IntKind.i64.wrap (n+(m:Int))) - (m:Int))) 0=n:=by
    rw [w64 (n:=n+(m:Int)) (by omega) (by omega),w64 (by omega) (by omega)]
    omega
  rw [e,show (⟨10,0,0,0,false,[],(ByteArray.mk #[]),n,0,(⟨[],[]⟩:aW),[],(⟨1,0,(ByteArray.mk #[]),false⟩:aJ)⟩:aV)=Wq n from rfl,AL _ _ _ _ _ _ n h0 (by omega) z H]
  simp only [Option.bind_some]
  by_cases c:m > 3
  · rw [if_pos (by simp;omega)]
  · obtain ⟨r1,r2,r3,r4⟩:=room (by omega)
    have mo:=more (by omega)
    rw [if_neg (by simp;omega),if_neg (by simp),r1,r2,r3,r4]
    have fin:bZ rec_1 n (m:Int) (i:Int) (Wr F,s.Nodes,s.Turns,nH 1,[],wsB true,[⟨1,n+(m:Int),F⟩],[],[],[]) false=some true:=by
      unfold bZ
      rw [if_neg (by simp),w64 (n:=n+(m:Int)) (by omega) (by omega),oA (by omega)]
      exact mo
    unfold iT
    rw [if_neg (by simp)]
    by_cases d:m=1
    · rw [if_pos (by simp;omega)]
      by_cases k:o.Kind=7
      · rw [if_neg (by simp [k]),fin]
      · obtain ⟨p,hp⟩:=kind d k
        have ix:idx (Wr F,s.Nodes,s.Turns,nH 1,([]:List aM),wsB true,([⟨1,n+(m:Int),F⟩]:List Ses),([]:List (Int×aE)),([]:List (Int×bJ)),([]:List (Int×aE))).1.Events 0=some (⟨n+1,o.Kind,p,1⟩:Ev):=by simp only [hp];rfl
        rw [if_pos (by simpa using k),ix]
        simp only [Option.bind_some]
        rw [if_neg (by rw [w64 (n:=n+(m:Int)) (by omega) (by omega)];simp;omega),fin]
        by_cases k1:o.Kind=1
        · simp [k1]
        · by_cases k2:o.Kind=2
          · simp [k2]
          · by_cases k3:o.Kind=3
            · simp [k3,fin]
            · simp [k1,k2,k3]
    · rw [if_neg (by simp;omega),fin]
theorem Rd(rec_1:FM)(n:Int)(i:Nat)(o:Op1)(hv:o.Version < 281474976710656)(s:Sto)(S:gM s)(hn:s.Nodes.length ≤ 1000)(ht:s.Turns.length ≤ 1000)(E:List Ev)(H:pC n E)(h3:E.length ≤ 3)(h0:0 ≤ n)(h1:n ≤ 1000000)(hi:i ≤ 1000)
    (more:∀ (s':Sto) (n':Int) (F:List Ev),gM s'→s'.Nodes.length ≤ s.Nodes.length+2→s'.Turns.length ≤ s.Turns.length+2→pC n' F→F.length ≤ 3→n ≤ n'→n' ≤ n+3→rec_1 n' ((i+1:Nat):Int) s'.Nodes s'.Turns (nH 1) [] [w1] [⟨1,n',F⟩] [] [] []=some true) :
    dS rec_1 n (i:Int) o true s.Nodes s.Turns (nH 1) [] [w1] [⟨1,n,E⟩] [] [] [] false=some true:=by
  unfold dS
  rw [if_neg (by simp),Qq [o] (by simp)]
  simp only [Option.bind_some]
  have hc:=Rc [o] (fun q hq=>by rw [List.mem_singleton.1 hq];exact hv) 0 (by omega) (by omega)
  obtain ⟨m1,m2,_⟩:=Ip hc
  have pl:(bX [o]).length ≤ 2:=by
    rw [E9]
    split
    · rw [List.length_map]
      unfold eQ
      repeat' split
      all_goals simp
    · simp
  rw [show (⟨1,0,0,0,false,bX [o],(ByteArray.mk #[]),0,0,(⟨[],[]⟩:aW),[],(⟨0,0,(ByteArray.mk #[]),false⟩:aJ)⟩:aV)=I4 1 0 0 0 false (bX [o]) from rfl]
  have dr:=FJ (e:=1) (by omega) (by omega) s (bX [o]) S (by omega) (by omega) 0 0 false hc (true,n,E) H (by simp only;omega) [] []
  rw [show wsB (true,n,E).1= [w1] from rfl] at dr
  simp only at dr
  rw [dr]
  simp only [Option.bind_some]
  have so:=AN s (bX [o]) S m1
  -- nothing told
  have none0:∀ ans,qC s (bX [o]) (true,n,E)=(true,n,E)→dR rec_1 n (i:Int) o (ans,(wZ s (bX [o])).Nodes,(wZ s (bX [o])).Turns,nH 1,[],wsB (qC s (bX [o]) (true,n,E)).1,[⟨1,(qC s (bX [o]) (true,n,E)).2.1,(qC s (bX [o]) (true,n,E)).2.2⟩],[],[],[]) true 0=some true:=by
    intro ans hw
    refine Mo rec_1 n i o ans _ (qC s (bX [o]) (true,n,E)) (by rw [hw];exact H) 0 (by omega) h0 h1 hi [] (fun _=>?_) (fun h=>by cases h) (fun _=>?_)
    · rw [hw]
      exact ⟨rfl,by simp,Mn H,rfl⟩
    · have:=more (wZ s (bX [o])) n [] so.1 (by omega) (by omega) ⟨by simp,by simpa using h0,H.top,fun j h=>by simp at h,fun e he=>by simp at he⟩ (by simp) (by omega) (by omega)
      simpa using this
  cases hb:qA o with
  | false=>
    have p0:bX [o]= []:=by rw [E9,hb];simp
    have hw:qC s (bX [o]) (true,n,E)=(true,n,E):=by rw [p0];rfl
    have n0:=none0 (B9 s (bX [o])) hw
    rw [if_neg (by rw [p0];simp)]
    unfold fL
    rw [if_neg (by simp)]
    exact n0
  | true=>
    have pp:0 < (bX [o]).length:=by
      rw [E9,if_pos hb,List.length_map]
      unfold eQ
      repeat' split
      all_goals simp
    rw [if_pos (by simp;omega)]
    by_cases e:(eE s 0 s [] (bX [o])).2.2.1=0
    · obtain ⟨t1,t2,t3,t4⟩:=AM s o hb e
      have ha:B9 s (bX [o])= ⟨0,0,false,0,(eE s 0 s [] (bX [o])).2.1,⟨[],[]⟩,[],[],[]⟩:=by unfold B9;rw [if_neg (by simpa using e)]
      have hw:qC s (bX [o]) (true,n,E)=mD (true,n,E) (fW (bX [o]) (eE s 0 s [] (bX [o])).2.1):=by unfold qC;rw [if_neg (by simpa using e)]
      have mk:=(Dj s (bX [o]) S (by omega) (by omega) (by omega) m1).2 e
      have tl:=Iq (bX [o]) (eE s 0 s [] (bX [o])).2.1 mk.2.2.2.2
      have tk:=On (bX [o]) (eE s 0 s [] (bX [o])).2.1
      have ev:=Ht (fW (bX [o]) (eE s 0 s [] (bX [o])).2.1) (true,n,E) H (by simp only;omega) tk
      have fin:∀ ans,dR rec_1 n (i:Int) o (ans,(wZ s (bX [o])).Nodes,(wZ s (bX [o])).Turns,nH 1,[],wsB (qC s (bX [o]) (true,n,E)).1,[⟨1,(qC s (bX [o]) (true,n,E)).2.1,(qC s (bX [o]) (true,n,E)).2.2⟩],[],[],[]) true ((oX o (eE s 0 s [] (bX [o])).2.1:Nat):Int)=some true:=by
        intro ans
        have hr:oX o (eE s 0 s [] (bX [o])).2.1 ≤ 3→mD (true,n,E) (fW (bX [o]) (eE s 0 s [] (bX [o])).2.1)=(true,n+(oX o (eE s 0 s [] (bX [o])).2.1:Nat),E ++ evN n (fW (bX [o]) (eE s 0 s [] (bX [o])).2.1)):=by
          intro h
          rw [Ir _ _ _ (by omega) t2,t1]
          rfl
        refine Mo rec_1 n i o ans _ (qC s (bX [o]) (true,n,E)) (by rw [hw];exact ev.1) _ (by omega) h0 h1 hi (evN n (fW (bX [o]) (eE s 0 s [] (bX [o])).2.1)) (fun h=>?_) (fun h h7=>?_) (fun h=>?_)
        · rw [hw,hr h]
          refine ⟨rfl,rfl,?_,by simp [evN,t1]⟩
          rw [List.filter_append,Mn H,Wx]
          rfl
        · have k3:o.Kind=1∨o.Kind=2∨o.Kind=3:=by
            by_cases q:o.Kind=1∨o.Kind=2∨o.Kind=3
            · exact q
            · exfalso
              unfold oX at h
              rw [if_neg q,if_neg h7] at h
              cases h
          obtain ⟨p,hp⟩:=t3 k3
          rw [hp]
          exact ⟨p,by simp [evN]⟩
        · have:=more (wZ s (bX [o])) (n+(oX o (eE s 0 s [] (bX [o])).2.1:Nat)) (evN n (fW (bX [o]) (eE s 0 s [] (bX [o])).2.1)) so.1 (by omega) (by omega) (by
            have:=FL h0 (l:=fW (bX [o]) (eE s 0 s [] (bX [o])).2.1) (by omega) (by omega) tk t2
            rw [t1] at this
            exact this) (by simp [evN];omega) (by omega) (by omega)
          exact this
      unfold fL
      rw [if_pos (by rw [ha];rfl)]
      have j6t:(o.Kind=1∨o.Kind=2∨o.Kind=3)→eT rec_1 n (i:Int) o (B9 s (bX [o]),(wZ s (bX [o])).Nodes,(wZ s (bX [o])).Turns,nH 1,[],wsB (qC s (bX [o]) (true,n,E)).1,[⟨1,(qC s (bX [o]) (true,n,E)).2.1,(qC s (bX [o]) (true,n,E)).2.2⟩],[],[],[]) true true=some true:=by
        intro h
        unfold eT
        rw [if_pos rfl]
        have f:=fin (B9 s (bX [o]))
        rw [show oX o (eE s 0 s [] (bX [o])).2.1=1 from by unfold oX;rw [if_pos h]] at f
        exact f
      by_cases k1:o.Kind=1
      · rw [if_pos (by simpa using k1),show (o.Kind == 1)=true from by simpa using k1]
        exact j6t (.inl k1)
      · rw [if_neg (by simpa using k1)]
        by_cases k2:o.Kind=2
        · rw [if_pos (by simpa using k2),show (o.Kind == 2)=true from by simpa using k2]
          exact j6t (.inr (.inl k2))
        · rw [if_neg (by simpa using k2)]
          by_cases k3:o.Kind=3
          · rw [show (o.Kind == 3)=true from by simpa using k3]
            exact j6t (.inr (.inr k3))
          · rw [show (o.Kind == 3)=false from by simpa using k3]
            unfold eT
            rw [if_neg (by simp)]
            have f:=fin (B9 s (bX [o]))
            by_cases k7:o.Kind=7
            · obtain ⟨a,b,hab⟩:=t4 k7
              have i1:idx (B9 s (bX [o])).Results 1=some b:=by rw [ha];simp only;rw [hab];rfl
              rw [if_pos (by simpa using k7)]
              simp only [i1,Option.bind_some]
              rw [show oX o (eE s 0 s [] (bX [o])).2.1=b.Names.length from by unfold oX;rw [if_neg (by omega),if_pos k7,hab];rfl] at f
              exact f
            · rw [if_neg (by simpa using k7)]
              rw [show oX o (eE s 0 s [] (bX [o])).2.1=0 from by unfold oX;rw [if_neg (by omega),if_neg k7]] at f
              exact f
    · have ha:(B9 s (bX [o])).Err ≠ 0:=by unfold B9;rw [if_pos e];exact e
      have hw:qC s (bX [o]) (true,n,E)=(true,n,E):=by unfold qC;rw [if_pos e]
      have n0:=none0 (B9 s (bX [o])) hw
      unfold fL
      rw [if_neg (by simpa using ha)]
      exact n0
theorem Mp(l:List Op1)(hl:l.length ≤ 40)(u:aE×(List aF)×(List aI)×(List aH)×(List aM)×(List aJ)×(List aC)×(List ((Int)×aE))×(List ((Int)×bJ))×(List ((Int)×aE)))(hu:u.1.Err=0):∀ (k i:Nat) (n:Int) (s:Sto) (E:List Ev),i ≤ l.length→l.length+1 ≤ i+k→gM s→s.Nodes.length ≤ 1+2 * i→s.Turns.length ≤ 2 * i→pC n E→E.length ≤ 3→0 ≤ n→n ≤ 3 * i→
    cI true l u k n (i:Int) s.Nodes s.Turns (nH 1) [] [w1] [⟨1,n,E⟩] [] [] []=some true
  | 0,i,n,s,E,_,h,_,_,_,_,_,_,_=>by omega
  | k+1,i,n,s,E,hi0,h,S,hn,ht,H,h3,h0,h1=>by
    unfold cI
    by_cases hi:i < l.length
    · rw [if_pos (by simpa using hi),eR hi]
      simp only [Option.bind_some]
      have up:dS (cI true l u k) n (i:Int) l[i] true s.Nodes s.Turns (nH 1) [] [w1] [⟨1,n,E⟩] [] [] [] true=some true:=by
        unfold dS
        rw [if_pos rfl]
      have st:(l[i]).Version < 281474976710656→dS (cI true l u k) n (i:Int) l[i] true s.Nodes s.Turns (nH 1) [] [w1] [⟨1,n,E⟩] [] [] [] false=some true:=by
        intro hv
        refine Rd _ n i l[i] hv s S (by omega) (by omega) E H h3 h0 (by omega) (by omega) fun s' n' F a1 a2 a3 a4 a5 a6 a7=>?_
        exact Mp l hl u hu k (i+1) n' s' F (by omega) (by omega) a1 (by omega) (by omega) a4 a5 (by omega) (by omega)
      rw [up]
      by_cases v:(l[i]).Version ≥ 281474976710656
      · rw [decide_eq_true v,up]
        repeat' split
        all_goals rfl
      · rw [decide_eq_false v,st (by omega)]
        repeat' split
        all_goals rfl
    · rw [if_neg (by simpa using hi),if_pos rfl,hu]
      rfl
set_option maxRecDepth 100000 in
theorem Nj:eA V7 [] Ql ([]:List aM) ([]:List aJ) ([]:List aC) [] [] [] (⟨8,0,0,0,false,[],(ByteArray.mk #[]),0,0,(⟨[],[]⟩:aW),[],(⟨1,1,(ByteArray.mk #[47]),true⟩:aJ)⟩:aV)=some (JU 0,V7,[],Ql,[],[w1],[⟨1,0,[]⟩],[],[],[]):=by kernel_rfl
theorem Jf(l:List Op1):jV l=some true:=by
  unfold jV
  rw [Vv,EX]
  simp only [Option.bind_some,Do]
  by_cases h:(l.length:Int) > 40
  · rw [if_pos (by simpa using h)]
  · rw [if_neg (by simpa using h),Nj]
    simp only [Option.bind_some]
    exact Mp l (by omega) _ rfl _ 0 0 (⟨V7,[]⟩:Sto) [] (by omega) (by omega) Ww (by simp) (by simp) ⟨by simp,by simp,by simp,fun j h=>by simp at h,fun e he=>by simp at he⟩ (by simp) (by omega) (by simp)
end Go.Cb
