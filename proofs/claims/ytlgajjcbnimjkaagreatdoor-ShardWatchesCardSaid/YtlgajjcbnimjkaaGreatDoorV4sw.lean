/- Plain laws of elder seats, at this one. -/
import Derived.Test.YtlgajjcbnimjkaaGreatDoorV3sw
import Derived.Test.YtlgajjcbnimjkaaGreatDoorKsw2
set_option linter.unusedVariables false
set_option linter.unusedSimpArgs false
namespace Go.Cb
open Go.Proofs Go.RowKit

def nW(l:List Tn)(d:List UInt8):Int:=match l.find? (gEq dU d) with
  | none=>0
  | some t=>t.Next
def qB(l:List Tn)(d:List UInt8)(n:Int):List Tn:=if n=0 then l.filter (fun t=>!gEq dU d t) else l.filter (gLt dU d) ++ ⟨mk d,n⟩::l.filter (gGt dU d)
theorem FG{x:Tn}{d:List UInt8}(h:dU x=d)(n:Int):({ x with Next:=n }:Tn)= ⟨mk d,n⟩:=by
  subst h;cases x;simp [dU,Bu]
theorem Bg(l:List Tn)(d:List UInt8)(hs:l.Pairwise (dU · < dU ·)):l.filter (fun t=>!gEq dU d t)=l.filter (gLt dU d) ++ l.filter (gGt dU d):=by
  induction l with
  | nil=>rfl
  | cons x l ih=>
    obtain ⟨h1,h2⟩:=List.pairwise_cons.1 hs
    rw [List.filter_cons,List.filter_cons,List.filter_cons,ih h2]
    by_cases a:dU x < d
    · have b:=w7 a
      rw [if_pos (by simp [gEq,b]),if_pos (by simp [gLt,a]),if_neg (by simp [gGt,gLt,a])];rfl
    · have e:l.filter (gLt dU d)= []:=List.filter_eq_nil_iff.2 fun y hy=>by
        have:=h1 y hy
        simp only [gLt,decide_eq_true_eq]
        exact fun h=>a (wY this h)
      rw [if_neg (by simp [gLt,a]:¬ gLt dU d x=true),e]
      by_cases b:dU x=d
      · rw [if_neg (by simp [gEq,b]),if_neg (by simp [gGt,gEq,b])]
      · rw [if_pos (by simp [gEq,b]),if_pos (by simp [gGt,gLt,gEq,a,b])];rfl
theorem Ca{α:Type}(a:List α)(x y:α)(b:List α):(a ++ x::b).set a.length y=a ++ y::b:=by simp
theorem Ik{α:Type}(a:List α)(x:α)(b:List α):(a ++ x::b).eraseIdx a.length=a ++ b:=by
  rw [List.eraseIdx_append_of_length_le (Nat.le_refl _)];simp
theorem W3(l:List Tn)(s:ByteArray)(hlen:l.length ≤ 100000)(hs:l.Pairwise (dU · < dU ·)) :
    ∃ i:Nat,∃ b:Bool,cO l s=some ((i:Int),b)∧i=(l.filter (gLt dU (bl s))).length∧i ≤ l.length∧
      (l.filter (gLt dU (bl s)) ++ l.filter (gGt dU (bl s))).length ≤ l.length∧
      ((b=true∧∃ x,dU x=bl s∧nW l (bl s)=x.Next∧x ∈ l∧l=l.filter (gLt dU (bl s)) ++ x::l.filter (gGt dU (bl s)))∨
       (b=false∧nW l (bl s)=0∧l=l.filter (gLt dU (bl s)) ++ l.filter (gGt dU (bl s))∧l.take i ++ (⟨s,0⟩:Tn)::l.drop i=l.filter (gLt dU (bl s)) ++ ⟨s,0⟩::l.filter (gGt dU (bl s)))):=by
  obtain ⟨i,h1,h2,h3,h4⟩:=FE l s (by omega) hs
  have hi:i=(l.filter (gLt dU (bl s))).length:=by rw [← h3,List.length_take];omega
  refine ⟨i,_,h2,hi,h1,?_,?_⟩
  · rw [← Bg l _ hs];exact List.length_filter_le _ _
  · rcases h4 with ⟨x,a,b,c,d,e⟩ | ⟨a,b⟩
    · refine .inl ⟨by rw [c];rfl,x,b,by unfold nW;rw [c],e,?_⟩
      rw [← a,← h3,List.take_append_drop]
    · refine .inr ⟨by rw [b];rfl,by unfold nW;rw [b],?_,by rw [h3,a]⟩
      rw [← a,← h3,List.take_append_drop]
theorem Tt(A B:List Tn)(y:Tn)(b:Bool)(hA:A.length ≤ 1000000):kV ((A.length:Int),b) (A ++ y::B)=some (y.Next,if y.Next=0 then A ++ B else A ++ y::B):=by
  unfold kV nO vB
  have hi:A.length < (A ++ y::B).length:=by simp
  have hg:(A ++ y::B)[A.length]=y:=by simp
  simp only [Int.toNat_natCast]
  rw [eR hi,hg]
  simp only [Option.bind_some]
  rw [eR (by simp)]
  simp only [Option.bind_some,List.getElem_set_self]
  by_cases c:y.Next=0
  · rw [if_pos (by simpa using c),if_pos c,gL ⟨by omega,by simp;omega,by rw [w64 (by omega) (by omega)]⟩,Ca,Ik]
  · rw [if_neg (by simpa using c),if_neg c,Ca]
theorem Yc(A B:List Tn)(y:Tn)(b:Bool)(hA:A.length ≤ 1000000):mN ((A.length:Int),b) (A ++ y::B)=some (y.Next,A ++ B):=by
  unfold mN pU xZ
  have hi:A.length < (A ++ y::B).length:=by simp
  have hg:(A ++ y::B)[A.length]=y:=by simp
  simp only [Int.toNat_natCast]
  rw [eR hi,hg]
  simp only [Option.bind_some]
  rw [eR (by simp)]
  simp only [Option.bind_some,List.getElem_set_self]
  rw [if_pos (by rfl),gL ⟨by omega,by simp;omega,by rw [w64 (by omega) (by omega)]⟩,Ca,Ik]
theorem Yd(A B:List Tn)(y:Tn)(b:Bool)(hA:A.length ≤ 1000000)(hn:0 ≤ y.Next∧y.Next ≤ 10000):kW ((A.length:Int),b) (A ++ y::B)=some (y.Next,A ++ { y with Next:=y.Next+1 }::B):=by
  unfold kW nP vC
  have hi:A.length < (A ++ y::B).length:=by simp
  have hg:(A ++ y::B)[A.length]=y:=by simp
  simp only [Int.toNat_natCast]
  rw [eR hi,hg]
  simp only [Option.bind_some]
  rw [w64 (by omega) (by omega),eR (by simp)]
  simp only [Option.bind_some,List.getElem_set_self]
  rw [if_neg (by simp;omega),Ca]
theorem Tu(l:List Tn)(s:ByteArray)(hlen:l.length ≤ 100000)(hs:l.Pairwise (dU · < dU ·))(hn:∀ y ∈ l,y.Next ≠ 0):qR l s=some (nW l (bl s),l):=by
  obtain ⟨i,z,h1,h2,h2',h3,h4⟩:=W3 l s hlen hs
  unfold qR
  rw [h1]
  simp only [Option.bind_some]
  rcases h4 with ⟨rfl,y,hy,ht,hm,hl⟩ | ⟨rfl,ht,hl,hd⟩
  · rw [if_neg (by simp),h2]
    conv=>lhs;arg 2;rw [hl]
    rw [Tt _ _ _ _ (by omega),ht,if_neg (hn _ hm),← hl]
  · rw [if_pos (by rfl),gL (by omega),Int.toNat_natCast,hd,h2,Tt _ _ _ _ (by omega),ht,if_pos rfl,← hl]
theorem Tv(l:List Tn)(s:ByteArray)(hlen:l.length ≤ 100000)(hs:l.Pairwise (dU · < dU ·)):tA l s=some (nW l (bl s),qB l (bl s) 0):=by
  obtain ⟨i,z,h1,h2,h2',h3,h4⟩:=W3 l s hlen hs
  unfold tA qB
  rw [h1,if_pos rfl,Bg l _ hs]
  simp only [Option.bind_some]
  rcases h4 with ⟨rfl,y,hy,ht,hm,hl⟩ | ⟨rfl,ht,hl,hd⟩
  · rw [if_neg (by simp),h2]
    conv=>lhs;arg 2;rw [hl]
    rw [Yc _ _ _ _ (by omega),ht]
  · rw [if_pos (by rfl),gL (by omega),Int.toNat_natCast,hd,h2,Yc _ _ _ _ (by omega),ht]
theorem Tw(l:List Tn)(s:ByteArray)(hlen:l.length ≤ 100000)(hs:l.Pairwise (dU · < dU ·))(hn:∀ y ∈ l,1 ≤ y.Next∧y.Next ≤ 10000):qS l s=some (nW l (bl s),qB l (bl s) (nW l (bl s)+1)):=by
  obtain ⟨i,z,h1,h2,h2',h3,h4⟩:=W3 l s hlen hs
  unfold qS qB
  rw [h1]
  simp only [Option.bind_some]
  rcases h4 with ⟨rfl,y,hy,ht,hm,hl⟩ | ⟨rfl,ht,hl,hd⟩
  · have hny:=hn _ hm
    rw [if_neg (by simp),h2,ht,if_neg (by omega)]
    conv=>lhs;arg 2;rw [hl]
    rw [Yd _ _ _ _ (by omega) (by omega),FG hy]
  · rw [if_pos (by rfl),gL (by omega),Int.toNat_natCast,hd,h2,Yd _ _ _ _ (by omega) (by simp),ht,if_neg (by decide),Bu]
def pop(p:Pt1):Op1:=⟨0,p.Path,mk [],0,0,p.Turns⟩
def Mg(s:Sto)(p:Pt1):Sto×Res:=
  match B7 (pop p) (upP (bl p.Path)) (nW s.Turns (upP (bl p.Path))) with
  | none=>(s,res 66)
  | some q=>if (s.Nodes.find? (isK q)).isSome=true then (s,res 61) else
    (⟨I3 ⟨mk q,p.Data,0,0,p.Owner⟩ s.Nodes,if p.Turns=true then qB s.Turns (upP (bl p.Path)) (nW s.Turns (upP (bl p.Path))+1) else s.Turns⟩,{ res 0 with Path:=mk q })
theorem Gp{s:Sto}(S:gM s):∀ y ∈ s.Turns,1 ≤ y.Next∧y.Next ≤ 10000:=fun y hy=>by
  have:=List.all_eq_true.1 S.turns y hy
  simp [ptB] at this
  omega
theorem Il{l:List Nd}{x:Nd}(hs:l.Pairwise (key · < key ·))(hn:l.find? (isK (key x))=none):l.filter (gLt key (key x)) ++ x::l.filter (gGt key (key x))=I3 x l:=by
  unfold I3
  congr 2
  refine List.filter_congr fun y hy=>?_
  have:=MO.1 hn y hy
  simp [gGt,gLt,gEq,ltB,this]
theorem Oi(s:Sto)(p:Pt1)(q d:List UInt8)(b:Bool)(hlen:s.Nodes.length ≤ 100000)(hlt:s.Turns.length ≤ 100000)(S:gM s) :
    nQ s.Nodes p 0 em 0 [] (mk d,b) (mk q) s.Turns=some (if (s.Nodes.find? (isK q)).isSome=true then (s.Nodes,s.Turns,61,em,em,0,[]) else (I3 ⟨mk q,p.Data,0,0,p.Owner⟩ s.Nodes,(if p.Turns=true then qB s.Turns d (nW s.Turns d+1) else s.Turns),0,mk q,em,0,[])):=by
  unfold nQ qU gC
  obtain ⟨i,h1,h2,h3,h4⟩:=Tm s.Nodes (mk q) (by omega) S.nsort
  rw [h2]
  rw [gV] at h3 h4 ⊢
  simp only [Option.bind_some]
  rcases h4 with ⟨x,_,hk,hf,hi,_⟩ | ⟨hd,hf⟩
  · rw [hf];rfl
  · rw [hf]
    simp only [Option.isSome_none,Bool.false_eq_true,if_false,Int.toNat_natCast]
    have e:s.Nodes.take i ++ (⟨mk q,p.Data,0,0,p.Owner⟩:Nd)::s.Nodes.drop i=I3 ⟨mk q,p.Data,0,0,p.Owner⟩ s.Nodes:=by
      rw [h3,hd]
      exact Il (x:=(⟨mk q,p.Data,0,0,p.Owner⟩:Nd)) S.nsort hf
    cases hT:p.Turns with
    | true=>
      rw [if_pos rfl,if_pos rfl,Tw _ _ hlt S.tsort (Gp S),gV]
      simp only [Option.bind_some]
      rw [gL (by omega),e]
    | false=>
      rw [if_neg (by simp),if_neg (by simp),gL (by omega),e]
def Wl(s:Sto)(p:Pt1):List Nd×List Tn×Int×ByteArray×ByteArray×Int×List ByteArray:=
  match B7 (pop p) (upP (bl p.Path)) (nW s.Turns (upP (bl p.Path))) with
  | none=>(s.Nodes,s.Turns,66,em,em,0,[])
  | some q=>if (s.Nodes.find? (isK q)).isSome=true then (s.Nodes,s.Turns,61,em,em,0,[]) else
    (I3 ⟨mk q,p.Data,0,0,p.Owner⟩ s.Nodes,(if p.Turns=true then qB s.Turns (upP (bl p.Path)) (nW s.Turns (upP (bl p.Path))+1) else s.Turns),0,mk q,em,0,[])
theorem AF(s:Sto)(p:Pt1)(q:List UInt8)(hq:jB (bl p.Path)=some q)(hlen:s.Nodes.length ≤ 100000)(hlt:s.Turns.length ≤ 100000)(S:gM s) :
    uG s.Nodes s.Turns 0 em 0 [] p=some (Wl s p):=by
  unfold uG Wl
  have hu:upP (bl p.Path)=q:=by unfold upP;rw [hq];rfl
  rw [N6,hq,hu,show (os2 (some q))=(mk q,true) from rfl]
  simp only [Option.bind_some]
  cases hT:p.Turns with
  | false=>
    have hn:B7 (pop p) q (nW s.Turns q)=some (bl p.Path):=by unfold B7;rw [if_neg (by simp [pop,hT])];rfl
    have:=Oi s p (bl p.Path) q true hlen hlt S
    rw [Bu,hT] at this
    rw [if_neg (by simp),hn,this]
    simp only [Bu]
  | true=>
    have hn:B7 (pop p) q (nW s.Turns q)=(Et (wX (bl p.Path)) (nW s.Turns q)).map (fun s=>(uQ q s).getD []):=by unfold B7;rw [if_pos (by simp [pop,hT])];rfl
    rw [if_pos rfl,hn,Tu _ _ hlt S.tsort (fun y hy=>by have:=Gp S y hy;omega),Hm,gV]
    simp only [Option.bind_some]
    rw [Nb _ _ (by rw [gV];have:=Ma (bl p.Path);omega),gV]
    simp only [Option.bind_some]
    cases hm:Et (wX (bl p.Path)) (nW s.Turns q) with
    | none=>
      rw [Hn _ _ (by simp [os2,gV])]
      simp only [Option.bind_some,Option.map_none]
      rw [if_pos (by rfl)]
      rfl
    | some t=>
      obtain ⟨t1,t2,t3⟩:=Oa hm
      have tl:=Sy t1
      rw [show (os2 (some t))=(mk t,true) from rfl]
      simp only
      rw [Hn _ _ (by rw [gV];omega),gV,gV]
      simp only [Option.bind_some,Option.map_some]
      have:=Oi s p ((uQ q t).getD []) q true hlen hlt S
      rw [hT] at this
      rw [if_neg (by simp),show (os2 (uQ q t)).1=mk ((uQ q t).getD []) from by cases uQ q t <;> rfl,this]
      simp
def doP(s:Sto)(p:Pt1):Sto×Res:=
  if p.Kind=2 then Mg s p
  else if p.Kind=4 then if s.Nodes.any (uR (bl p.Path))=true then (s,res 64) else (⟨s.Nodes,qB s.Turns (bl p.Path) 0⟩,res 0)
  else if p.Kind=9 then (s,{ res 0 with Names:=(s.Nodes.filter (uR (bl p.Path))).map yQ })
  else if p.Kind=10 then (⟨s.Nodes.filter (fun x=>!sF (bl p.Path) p.Owner x),s.Turns⟩,{ res 0 with Names:=(s.Nodes.filter (sF (bl p.Path) p.Owner)).map yQ })
  else if (ndS s.Nodes p).2 ≠ 0 then (s,res (ndS s.Nodes p).2)
  else if p.Kind=1 then (s,res (if (ndS s.Nodes p).1.Owner ≠ 0 then 65 else 0))
  else if p.Kind=3 then (⟨s.Nodes.filter (fun y=>!isK (bl p.Path) y),s.Turns⟩,res 0)
  else if p.Kind=5 then if (ndS s.Nodes p).1.Version=281474976710656 then (s,res 2) else (⟨upd s.Nodes (bl p.Path) (Qt p),s.Turns⟩,{ res 0 with Version:=(ndS s.Nodes p).1.Version+1 })
  else if p.Kind=6 then (s,{ res 0 with Version:=(ndS s.Nodes p).1.Version })
  else if p.Kind=7 then (s,{ res 0 with Data:=(ndS s.Nodes p).1.Data,Version:=(ndS s.Nodes p).1.Version })
  else (s,res 0)
theorem L8{p:Pt1}(h:rR p=true):sR p.Path p.Data p.Version (-1) p.Owner=true∧bl p.Dir=E8 p∧(1 ≤ p.Kind∧p.Kind ≤ 10)∧(p.Kind=2→bl p.Path ≠ [47]):=by
  unfold rR at h
  simp only [Bool.and_eq_true,Bool.or_eq_true,decide_eq_true_eq,Bool.not_eq_true',decide_eq_false_iff_not] at h
  exact ⟨h.1.1.1,h.1.1.2,h.1.2,fun k=>h.2.resolve_left (fun h'=>h' k)⟩
theorem N8{p:Pt1}(h:rR p=true):dQ (bl p.Path)=true:=by
  have:=(L8 h).1
  unfold sR at this
  simp only [Bool.and_eq_true] at this
  exact this.1.1.1
theorem Q3{p:Pt1}(h:rR p=true)(hk:p.Kind=2):∃ q,jB (bl p.Path)=some q:=by
  have h1:=N8 h
  have h2:=(L8 h).2.2.2 hk
  unfold dQ at h1
  obtain ⟨ps,hp⟩:=Option.isSome_iff_exists.1 h1
  rcases List.eq_nil_or_concat ps with rfl | ⟨qs,t,rfl⟩
  · exact absurd ((mH _ _).1 hp).1 h2
  · unfold jB
    rw [hp]
    exact ⟨nG (qs.concat t).dropLast,by simp⟩
theorem Im{s:Sto}(S:gM s):∀ x ∈ s.Nodes,0 ≤ x.Version∧x.Version ≤ 281474976710656:=fun x hx=>by
  have:=List.all_eq_true.1 S.nodes x hx
  simp [pnB,sR] at this
  omega
theorem Tx(s:Sto)(p:Pt1)(hlen:s.Nodes.length ≤ 100000)(hlt:s.Turns.length ≤ 100000)(S:gM s)(hm:rR p=true):F6 s p=some (doP s p):=by
  unfold F6 zF
  obtain ⟨b,h1,h2⟩:=Be s (by omega) (by omega)
  have hs:=S.nsort
  have hn:s.Nodes.length ≤ 1000000:=by omega
  rw [h1,h2.2 S]
  simp only [Option.bind_some]
  rw [if_neg (by simp),Gn,hm]
  simp only [Option.bind_some]
  rw [if_neg (by simp),gL (by simp [LIM];omega),gL (by simp [LIM];omega)]
  unfold doP iZ
  have hk:=(L8 hm).2.2.1
  have kk:p.Kind=1∨p.Kind=2∨p.Kind=3∨p.Kind=4∨p.Kind=5∨p.Kind=6∨p.Kind=7∨p.Kind=8∨p.Kind=9∨p.Kind=10:=by omega
  rcases kk with c | c | c | c | c | c | c | c | c | c
  all_goals simp only [c,Int.reduceBEq,Int.reduceEq,Bool.false_eq_true,if_true,if_false,beq_self_eq_true,Int.reduceNeg]
  · rw [Tp _ [] _ hn hs]
    simp only [Option.bind_some]
    by_cases e:(ndS s.Nodes p).2=0
    · by_cases o:(ndS s.Nodes p).1.Owner=0
      · simp [e,o];rfl
      · simp [e,o];rfl
    · rw [if_pos e,if_pos (by simpa using e),if_pos e];rfl
  · obtain ⟨q,hq⟩:=Q3 hm c
    rw [AF s p q hq hlen hlt S]
    unfold Wl Mg
    simp only [Option.bind_some]
    cases B7 (pop p) (upP (bl p.Path)) (nW s.Turns (upP (bl p.Path))) with
    | none=>rfl
    | some q=>
      simp only
      by_cases e:(s.Nodes.find? (isK q)).isSome=true
      · rw [if_pos e,if_pos e];rfl
      · rw [if_neg e,if_neg e];rfl
  · rw [Qs _ [] _ hn hs]
    simp only [Option.bind_some]
    by_cases e:(ndS s.Nodes p).2=0
    · simp [e];rfl
    · rw [if_pos (by simpa using e),if_pos e];rfl
  · unfold vA wD gC
    simp only [Option.bind_some]
    rw [AE _ _ hn]
    simp only [Option.bind_some]
    by_cases e:s.Nodes.any (uR (bl p.Path))=true
    · rw [if_pos e,if_pos e];rfl
    · rw [if_neg e,if_neg e,Tv _ _ hlt S.tsort];rfl
  · rw [Tq _ [] _ hn hs (Im S)]
    simp only [Option.bind_some]
    by_cases e:(ndS s.Nodes p).2=0
    · simp only [e,ne_eq,not_true_eq_false,if_false]
      by_cases v:(ndS s.Nodes p).1.Version=281474976710656
      · rw [if_pos v,if_pos v];rfl
      · rw [if_neg v,if_neg v];rfl
    · rw [if_pos e,if_pos e]
      simp only
      rw [if_pos (by simpa using e)];rfl
  · rw [Wj _ [] _ hn hs]
    simp only [Option.bind_some]
    by_cases e:(ndS s.Nodes p).2=0
    · simp only [e,ne_eq,not_true_eq_false,if_false,bne_self_eq_false,Bool.false_eq_true];rfl
    · rw [if_pos (by simpa using e),if_pos e,if_pos e];rfl
  · rw [Wk _ [] _ hn hs]
    simp only [Option.bind_some]
    by_cases e:(ndS s.Nodes p).2=0
    · simp only [e,ne_eq,not_true_eq_false,if_false,bne_self_eq_false,Bool.false_eq_true];rfl
    · rw [if_pos (by simpa using e),if_pos e,if_pos e,if_pos e];rfl
  · rw [AD _ [] _ hn hs]
    simp only [Option.bind_some]
    by_cases e:(ndS s.Nodes p).2=0
    · simp [e];rfl
    · rw [if_pos (by simpa using e),if_pos e];rfl
  · rw [Tr _ [] _ hn];rfl
  · rw [Ts _ [] _ (by omega)];rfl
end Go.Cb
