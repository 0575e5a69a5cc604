/- A shard that one watches, plainly: what pieces tell, what runs, what is taken. -/
import Derived.Test.YtlgajjcbnimjkaaGreatDoorW1sw
import Derived.Test.YtlgajjcbnimjkaaGreatDoorU8sw
set_option linter.unusedVariables false
set_option linter.unusedSimpArgs false
namespace Go.Cb
open Go.Proofs Go.RowKit

/-- what happened to a path that may be none. -/
def B8(z:Bool×Int×List Ev)(k:Int)(p:ByteArray):Bool×Int×List Ev:=if dQ (bl p)=true then tI z k p else z
theorem Hs(z:Bool×Int×List Ev)(H:pC z.2.1 z.2.2)(hn:z.2.1 < 281474976710656){k:Int}{p:ByteArray}(hk:1 ≤ k∧k ≤ 3) :
    fF (wsB z.1) [⟨1,z.2.1,z.2.2⟩] k p=some (wsB (B8 z k p).1,[⟨1,(B8 z k p).2.1,(B8 z k p).2.2⟩])∧pC (B8 z k p).2.1 (B8 z k p).2.2∧(B8 z k p).2.1 ≤ z.2.1+1∧z.2.1 ≤ (B8 z k p).2.1:=by
  unfold B8
  by_cases h:dQ (bl p)=true
  · rw [if_pos h]
    refine ⟨AK z H hn hk h,(Om H hn hk h).1,(Om H hn hk h).2,?_⟩
    unfold tI
    repeat' split
    all_goals first | omega | (simp only;omega)
  · rw [if_neg h]
    refine ⟨?_,H,by omega,by omega⟩
    unfold fF zH
    rw [Hr H]
    simp only [Option.bind_some]
    rw [if_neg (by simp),if_neg (by simp;omega),if_neg (by simp;omega),vY,show dQ (bl p)=false from by simpa using h]
    simp only [Option.bind_some]
    unfold mG
    rw [if_pos (by rfl)]
    rfl
/-- what a piece tells. -/
def fB(p:Pt1)(r:Res):List (Int×ByteArray):=
  if p.Kind=2 then [(1,r.Path)] else if p.Kind=3 then [(2,p.Path)] else if p.Kind=5 then [(3,p.Path)]
  else if p.Kind=10 then r.Names.map fun n=>(2,(os2 (uQ (bl p.Path) (bl n))).1) else []
def mD(z:Bool×Int×List Ev)(l:List (Int×ByteArray)):Bool×Int×List Ev:=l.foldl (fun z x=>B8 z x.1 x.2) z
theorem Ht:∀ (l:List (Int×ByteArray)) (z:Bool×Int×List Ev),pC z.2.1 z.2.2→z.2.1+l.length < 281474976710656→(∀ x ∈ l,1 ≤ x.1∧x.1 ≤ 3)→pC (mD z l).2.1 (mD z l).2.2∧(mD z l).2.1 ≤ z.2.1+l.length
  | [],z,H,_,_=>⟨H,by simp [mD]⟩
  | x::l,z,H,hn,hk=>by
    have h1:=Hs z H (by simp at hn;omega) (p:=x.2) (hk x (by simp))
    have h2:=Ht l (B8 z x.1 x.2) h1.2.1 (by simp at hn;omega) (fun y hy=>hk y (by simp [hy]))
    refine ⟨h2.1,?_⟩
    have:mD z (x::l)=mD (B8 z x.1 x.2) l:=rfl
    rw [this]
    simp
    omega
theorem Ue(p:Pt1)(r:Res):∀ x ∈ fB p r,1 ≤ x.1∧x.1 ≤ 3:=by
  intro x hx
  unfold fB at hx
  repeat' split at hx
  all_goals first | (simp only [List.mem_singleton] at hx;subst hx;simp) | (obtain ⟨n,_,rfl⟩:=List.mem_map.1 hx;simp) | simp at hx
theorem Mk(rec_1:Int→List Wat→List Ses→Option (List Wat×List Ses))(x:Int)(r:Res)(p:Pie)(hr:r.Names.length ≤ 1000000)(hn:∀ n ∈ r.Names,(bl n).length ≤ 12):∀ (k i:Nat) (z:Bool×Int×List Ev),pC z.2.1 z.2.2→z.2.1+r.Names.length < 281474976710656+i→i ≤ r.Names.length→r.Names.length+1 ≤ i+k→
    kX rec_1 x r p k (i:Int) (wsB z.1) [⟨1,z.2.1,z.2.2⟩]=rec_1 (IntKind.i64.wrap (x+1)) (wsB (mD z ((r.Names.drop i).map fun n=>(2,(os2 (uQ (bl p.Part.Path) (bl n))).1))).1) [⟨1,(mD z ((r.Names.drop i).map fun n=>(2,(os2 (uQ (bl p.Part.Path) (bl n))).1))).2.1,(mD z ((r.Names.drop i).map fun n=>(2,(os2 (uQ (bl p.Part.Path) (bl n))).1))).2.2⟩]
  | 0,i,z,_,_,_,h=>by omega
  | k+1,i,z,H,hz,h0,h=>by
    unfold kX eW
    by_cases hi:i < r.Names.length
    · rw [if_pos (by simpa using hi),eR hi]
      simp only [Option.bind_some]
      have:=hn _ (List.getElem_mem hi)
      rw [Hn _ _ (by omega)]
      simp only [Option.bind_some]
      obtain ⟨g1,g2,g3,g4⟩:=Hs z H (by omega) (k:=2) (p:=(os2 (uQ (bl p.Part.Path) (bl r.Names[i]))).1) (by omega)
      rw [g1]
      simp only [Option.bind_some]
      rw [oA (by omega),Mk rec_1 x r p hr hn k (i+1) _ g2 (by omega) (by omega) (by omega),List.drop_eq_getElem_cons hi]
      rfl
    · rw [if_neg (by simpa using hi),List.drop_eq_nil_of_le (by omega)]
      rfl
def fW:List Pie→List Res→List (Int×ByteArray)
  | p::l,r::rs=>fB p.Part r ++ fW l rs
  | _,_=>[]
theorem Wp(z:Bool×Int×List Ev)(a b:List (Int×ByteArray)):mD z (a ++ b)=mD (mD z a) b:=by simp [mD]
theorem Ml(l:List Pie)(r:List Res)(hl:l.length ≤ 1000000)(hr:r.length=l.length)(hn:∀ x ∈ r,J8 x):∀ (k i:Nat) (z:Bool×Int×List Ev),pC z.2.1 z.2.2→z.2.1+1000001 * (l.length - i:Nat) < 281474976710656→i ≤ l.length→l.length+1 ≤ i+k→
    eJ l r k (i:Int) (wsB z.1) [⟨1,z.2.1,z.2.2⟩]=some (wsB (mD z (fW (l.drop i) (r.drop i))).1,[⟨1,(mD z (fW (l.drop i) (r.drop i))).2.1,(mD z (fW (l.drop i) (r.drop i))).2.2⟩])
  | 0,i,z,_,_,_,h=>by omega
  | k+1,i,z,H,hz,h0,h=>by
    unfold eJ
    by_cases hi:i < l.length
    · have hi':i < r.length:=by omega
      rw [if_pos (by simpa using hi),eR hi,eR hi',List.drop_eq_getElem_cons hi,List.drop_eq_getElem_cons hi']
      simp only [Option.bind_some]
      have nk:=hn _ (List.getElem_mem hi')
      have tl:(fB (l[i]).Part r[i]).length ≤ 1000000:=by
        unfold fB
        repeat' split
        all_goals first | (simp;done) | (rw [List.length_map];exact nk.1)
      have st:=Ht (fB (l[i]).Part r[i]) z H (by omega) (Ue _ _)
      have ih:=Ml l r hl hr hn k (i+1) (mD z (fB (l[i]).Part r[i])) st.1 (by omega) (by omega) (by omega)
      rw [show fW (l[i]::l.drop (i+1)) (r[i]::r.drop (i+1))=fB (l[i]).Part r[i] ++ fW (l.drop (i+1)) (r.drop (i+1)) from rfl,Wp]
      have fin:∀ (k1:Int) (p1:ByteArray),1 ≤ k1∧k1 ≤ 3→fB (l[i]).Part r[i]= [(k1,p1)]→((fF (wsB z.1) [⟨1,z.2.1,z.2.2⟩] k1 p1).bind fun u59=>eW (eJ l r k) (i:Int) u59.1 u59.2)=some (wsB (mD (mD z (fB (l[i]).Part r[i])) (fW (l.drop (i+1)) (r.drop (i+1)))).1,[⟨1,(mD (mD z (fB (l[i]).Part r[i])) (fW (l.drop (i+1)) (r.drop (i+1)))).2.1,(mD (mD z (fB (l[i]).Part r[i])) (fW (l.drop (i+1)) (r.drop (i+1)))).2.2⟩]):=by
        intro k1 p1 hk e
        obtain ⟨g1,_⟩:=Hs z H (by omega) (k:=k1) (p:=p1) hk
        rw [g1]
        simp only [Option.bind_some]
        unfold eW
        rw [oA (by omega),← ih,e]
        rfl
      by_cases c2:(l[i]).Part.Kind=2
      · rw [if_pos (by simpa using c2)]
        exact fin 1 _ (by omega) (by unfold fB;rw [if_pos c2])
      · rw [if_neg (by simpa using c2)]
        by_cases c3:(l[i]).Part.Kind=3
        · rw [if_pos (by simpa using c3)]
          exact fin 2 _ (by omega) (by unfold fB;rw [if_neg c2,if_pos c3])
        · rw [if_neg (by simpa using c3)]
          by_cases c5:(l[i]).Part.Kind=5
          · rw [if_pos (by simpa using c5)]
            exact fin 3 _ (by omega) (by unfold fB;rw [if_neg c2,if_neg c3,if_pos c5])
          · rw [if_neg (by simpa using c5)]
            by_cases c10:(l[i]).Part.Kind=10
            · rw [if_pos (by simpa using c10)]
              refine (Mk _ (i:Int) r[i] l[i] nk.1 nk.2 _ 0 z H (by have:=nk.1;omega) (by omega) (by omega)).trans ?_
              rw [oA (by omega),← ih,List.drop_zero]
              have e:fB (l[i]).Part r[i]=(r[i]).Names.map fun n=>(2,(os2 (uQ (bl (l[i]).Part.Path) (bl n))).1):=by unfold fB;rw [if_neg c2,if_neg c3,if_neg c5,if_pos c10]
              rw [e]
            · rw [if_neg (by simpa using c10)]
              unfold eW
              have e:fB (l[i]).Part r[i]= []:=by unfold fB;rw [if_neg c2,if_neg c3,if_neg c5,if_neg c10]
              rw [oA (by omega)]
              rw [e] at ih ⊢
              exact ih
    · rw [if_neg (by simpa using hi),List.drop_eq_nil_of_le (by omega)]
      rfl
theorem JX(l:List Pie)(r:List Res)(hl:l.length ≤ 100)(hr:r.length=l.length)(hn:∀ x ∈ r,J8 x)(z:Bool×Int×List Ev)(H:pC z.2.1 z.2.2)(hz:z.2.1 ≤ 1000000000) :
    qW (wsB z.1) [⟨1,z.2.1,z.2.2⟩] l r=some (wsB (mD z (fW l r)).1,[⟨1,(mD z (fW l r)).2.1,(mD z (fW l r)).2.2⟩]):=by
  unfold qW
  exact Ml l r (by omega) hr hn _ 0 z H (by omega) (by omega) (by omega)
theorem On:∀ (l:List Pie) (r:List Res),∀ x ∈ fW l r,1 ≤ x.1∧x.1 ≤ 3
  | [],_,x,hx=>by simp [fW] at hx
  | _::_,[],x,hx=>by simp [fW] at hx
  | p::l,r::rs,x,hx=>by
    rcases List.mem_append.1 (show x ∈ fB p.Part r ++ fW l rs from hx) with h | h
    · exact Ue _ _ x h
    · exact On l rs x h
theorem Iq:∀ (l:List Pie) (r:List Res),(∀ x ∈ r,J8 x)→(fW l r).length ≤ 1000000 * l.length
  | [],_,_=>by simp [fW]
  | _::_,[],_=>by simp [fW]
  | p::l,r::rs,hn=>by
    have h1:=Iq l rs fun x hx=>hn x (by simp [hx])
    have h2:(fB p.Part r).length ≤ 1000000:=by
      unfold fB
      repeat' split
      all_goals first | (simp;done) | (rw [List.length_map];exact (hn r (by simp)).1)
    rw [show fW (p::l) (r::rs)=fB p.Part r ++ fW l rs from rfl,List.length_append,List.length_cons]
    omega
/-- what is told while there is room stays, in order. -/
theorem Ir:∀ (l:List (Int×ByteArray)) (n:Int) (E:List Ev),E.length+l.length ≤ 7→(∀ x ∈ l,dQ (bl x.2)=true)→mD (true,n,E) l=(true,n+l.length,E ++ l.mapIdx fun i x=>⟨n+1+i,x.1,x.2,1⟩)
  | [],n,E,_,_=>by simp [mD]
  | x::l,n,E,h,hp=>by
    have e:B8 (true,n,E) x.1 x.2=(true,n+1,E ++ [⟨n+1,x.1,x.2,1⟩]):=by
      unfold B8
      rw [if_pos (hp x (by simp)),Ud,if_pos (by simp at h;omega)]
    rw [show mD (true,n,E) (x::l)=mD (B8 (true,n,E) x.1 x.2) l from rfl,e,Ir l _ _ (by simp at h ⊢;omega) (fun y hy=>hp y (by simp [hy]))]
    simp only [List.length_cons,List.mapIdx_cons,List.append_assoc,List.singleton_append,Prod.mk.injEq,true_and]
    refine ⟨by omega,?_⟩
    congr 2
    · simp
    · congr 1
      funext i y
      congr 1
      omega
end Go.Cb
