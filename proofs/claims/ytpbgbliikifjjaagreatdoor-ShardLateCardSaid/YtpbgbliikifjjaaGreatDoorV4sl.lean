/- Plain laws of elder seats, at this one. -/
import Derived.Test.YtpbgbliikifjjaaGreatDoorV3sl
import Derived.Test.YtpbgbliikifjjaaGreatDoorKsl2
set_option linter.unusedVariables false
set_option linter.unusedSimpArgs false
namespace Go.Cb
open Go.Proofs Go.RowKit

def oR(l:List Tn)(d:List UInt8):Int:=match l.find? (gEq dM d) with
  | none=>0
  | some t=>t.Next
def pU(l:List Tn)(d:List UInt8)(n:Int):List Tn:=if n=0 then l.filter (fun t=>!gEq dM d t) else l.filter (gLt dM d) ++ ⟨mk d,n⟩::l.filter (gGt dM d)
theorem FD{x:Tn}{d:List UInt8}(h:dM x=d)(n:Int):({ x with Next:=n }:Tn)= ⟨mk d,n⟩:=by
  subst h;cases x;simp [dM,Bk]
theorem Aw(l:List Tn)(d:List UInt8)(hs:l.Pairwise (dM · < dM ·)):l.filter (fun t=>!gEq dM d t)=l.filter (gLt dM d) ++ l.filter (gGt dM d):=by
  induction l with
  | nil=>rfl
  | cons x l ih=>
    obtain ⟨h1,h2⟩:=List.pairwise_cons.1 hs
    rw [List.filter_cons,List.filter_cons,List.filter_cons,ih h2]
    by_cases a:dM x < d
    · have b:=s5 a
      rw [if_pos (by simp [gEq,b]),if_pos (by simp [gLt,a]),if_neg (by simp [gGt,gLt,a])];rfl
    · have e:l.filter (gLt dM d)= []:=List.filter_eq_nil_iff.2 fun y hy=>by
        have:=h1 y hy
        simp only [gLt,decide_eq_true_eq]
        exact fun h=>a (wQ this h)
      rw [if_neg (by simp [gLt,a]:¬ gLt dM d x=true),e]
      by_cases b:dM x=d
      · rw [if_neg (by simp [gEq,b]),if_neg (by simp [gGt,gEq,b])]
      · rw [if_pos (by simp [gEq,b]),if_pos (by simp [gGt,gLt,gEq,a,b])];rfl
theorem Bo{α:Type}(a:List α)(x y:α)(b:List α):(a ++ x::b).set a.length y=a ++ y::b:=by simp
theorem Ie{α:Type}(a:List α)(x:α)(b:List α):(a ++ x::b).eraseIdx a.length=a ++ b:=by
  rw [List.eraseIdx_append_of_length_le (Nat.le_refl _)];simp
theorem V2(l:List Tn)(s:ByteArray)(hlen:l.length ≤ 100000)(hs:l.Pairwise (dM · < dM ·)) :
    ∃ i:Nat,∃ b:Bool,cM l s=some ((i:Int),b)∧i=(l.filter (gLt dM (bl s))).length∧i ≤ l.length∧
      (l.filter (gLt dM (bl s)) ++ l.filter (gGt dM (bl s))).length ≤ l.length∧
      ((b=true∧∃ x,dM x=bl s∧oR l (bl s)=x.Next∧x ∈ l∧l=l.filter (gLt dM (bl s)) ++ x::l.filter (gGt dM (bl s)))∨
       (b=false∧oR l (bl s)=0∧l=l.filter (gLt dM (bl s)) ++ l.filter (gGt dM (bl s))∧l.take i ++ (⟨s,0⟩:Tn)::l.drop i=l.filter (gLt dM (bl s)) ++ ⟨s,0⟩::l.filter (gGt dM (bl s)))):=by
  obtain ⟨i,h1,h2,h3,h4⟩:=FB l s (by omega) hs
  have hi:i=(l.filter (gLt dM (bl s))).length:=by rw [← h3,List.length_take];omega
  refine ⟨i,_,h2,hi,h1,?_,?_⟩
  · rw [← Aw l _ hs];exact List.length_filter_le _ _
  · rcases h4 with ⟨x,a,b,c,d,e⟩ | ⟨a,b⟩
    · refine .inl ⟨by rw [c];rfl,x,b,by unfold oR;rw [c],e,?_⟩
      rw [← a,← h3,List.take_append_drop]
    · refine .inr ⟨by rw [b];rfl,by unfold oR;rw [b],?_,by rw [h3,a]⟩
      rw [← a,← h3,List.take_append_drop]
theorem Tw(A B:List Tn)(y:Tn)(b:Bool)(hA:A.length ≤ 1000000):kV ((A.length:Int),b) (A ++ y::B)=some (y.Next,if y.Next=0 then A ++ B else A ++ y::B):=by
  unfold kV nO uS
  have hi:A.length < (A ++ y::B).length:=by simp
  have hg:(A ++ y::B)[A.length]=y:=by simp
  simp only [Int.toNat_natCast]
  rw [dV hi,hg]
  simp only [Option.bind_some]
  rw [dV (by simp)]
  simp only [Option.bind_some,List.getElem_set_self]
  by_cases c:y.Next=0
  · rw [if_pos (by simpa using c),if_pos c,fZ ⟨by omega,by simp;omega,by rw [w64 (by omega) (by omega)]⟩,Bo,Ie]
  · rw [if_neg (by simpa using c),if_neg c,Bo]
theorem Xw(A B:List Tn)(y:Tn)(b:Bool)(hA:A.length ≤ 1000000):mM ((A.length:Int),b) (A ++ y::B)=some (y.Next,A ++ B):=by
  unfold mM pL xS
  have hi:A.length < (A ++ y::B).length:=by simp
  have hg:(A ++ y::B)[A.length]=y:=by simp
  simp only [Int.toNat_natCast]
  rw [dV hi,hg]
  simp only [Option.bind_some]
  rw [dV (by simp)]
  simp only [Option.bind_some,List.getElem_set_self]
  rw [if_pos (by rfl),fZ ⟨by omega,by simp;omega,by rw [w64 (by omega) (by omega)]⟩,Bo,Ie]
theorem Xx(A B:List Tn)(y:Tn)(b:Bool)(hA:A.length ≤ 1000000)(hn:0 ≤ y.Next∧y.Next ≤ 10000):kW ((A.length:Int),b) (A ++ y::B)=some (y.Next,A ++ { y with Next:=y.Next+1 }::B):=by
  unfold kW nP uT
  have hi:A.length < (A ++ y::B).length:=by simp
  have hg:(A ++ y::B)[A.length]=y:=by simp
  simp only [Int.toNat_natCast]
  rw [dV hi,hg]
  simp only [Option.bind_some]
  rw [w64 (by omega) (by omega),dV (by simp)]
  simp only [Option.bind_some,List.getElem_set_self]
  rw [if_neg (by simp;omega),Bo]
theorem Tx(l:List Tn)(s:ByteArray)(hlen:l.length ≤ 100000)(hs:l.Pairwise (dM · < dM ·))(hn:∀ y ∈ l,y.Next ≠ 0):qI l s=some (oR l (bl s),l):=by
  obtain ⟨i,z,h1,h2,h2',h3,h4⟩:=V2 l s hlen hs
  unfold qI
  rw [h1]
  simp only [Option.bind_some]
  rcases h4 with ⟨rfl,y,hy,ht,hm,hl⟩ | ⟨rfl,ht,hl,hd⟩
  · rw [if_neg (by simp),h2]
    conv=>lhs;arg 2;rw [hl]
    rw [Tw _ _ _ _ (by omega),ht,if_neg (hn _ hm),← hl]
  · rw [if_pos (by rfl),fZ (by omega),Int.toNat_natCast,hd,h2,Tw _ _ _ _ (by omega),ht,if_pos rfl,← hl]
theorem Ty(l:List Tn)(s:ByteArray)(hlen:l.length ≤ 100000)(hs:l.Pairwise (dM · < dM ·)):sQ l s=some (oR l (bl s),pU l (bl s) 0):=by
  obtain ⟨i,z,h1,h2,h2',h3,h4⟩:=V2 l s hlen hs
  unfold sQ pU
  rw [h1,if_pos rfl,Aw l _ hs]
  simp only [Option.bind_some]
  rcases h4 with ⟨rfl,y,hy,ht,hm,hl⟩ | ⟨rfl,ht,hl,hd⟩
  · rw [if_neg (by simp),h2]
    conv=>lhs;arg 2;rw [hl]
    rw [Xw _ _ _ _ (by omega),ht]
  · rw [if_pos (by rfl),fZ (by omega),Int.toNat_natCast,hd,h2,Xw _ _ _ _ (by omega),ht]
theorem Tz(l:List Tn)(s:ByteArray)(hlen:l.length ≤ 100000)(hs:l.Pairwise (dM · < dM ·))(hn:∀ y ∈ l,1 ≤ y.Next∧y.Next ≤ 10000):qJ l s=some (oR l (bl s),pU l (bl s) (oR l (bl s)+1)):=by
  obtain ⟨i,z,h1,h2,h2',h3,h4⟩:=V2 l s hlen hs
  unfold qJ pU
  rw [h1]
  simp only [Option.bind_some]
  rcases h4 with ⟨rfl,y,hy,ht,hm,hl⟩ | ⟨rfl,ht,hl,hd⟩
  · have hny:=hn _ hm
    rw [if_neg (by simp),h2,ht,if_neg (by omega)]
    conv=>lhs;arg 2;rw [hl]
    rw [Xx _ _ _ _ (by omega) (by omega),FD hy]
  · rw [if_pos (by rfl),fZ (by omega),Int.toNat_natCast,hd,h2,Xx _ _ _ _ (by omega) (by simp),ht,if_neg (by decide),Bk]
def pop(p:Pt1):Op1:=⟨0,p.Path,mk [],0,0,p.Turns⟩
def Qw(s:Sto)(p:Pt1):Sto×Res:=
  match D9 (pop p) (upP (bl p.Path)) (oR s.Turns (upP (bl p.Path))) with
  | none=>(s,res 66)
  | some q=>if (s.Nodes.find? (isK q)).isSome=true then (s,res 61) else
    (⟨G3 ⟨mk q,p.Data,0,0,p.Owner⟩ s.Nodes,if p.Turns=true then pU s.Turns (upP (bl p.Path)) (oR s.Turns (upP (bl p.Path))+1) else s.Turns⟩,{ res 0 with Path:=mk q })
theorem Gd{s:Sto}(S:jX s):∀ y ∈ s.Turns,1 ≤ y.Next∧y.Next ≤ 10000:=fun y hy=>by
  have:=List.all_eq_true.1 S.turns y hy
  simp [ptB] at this
  omega
theorem Ig{l:List Nd}{x:Nd}(hs:l.Pairwise (key · < key ·))(hn:l.find? (isK (key x))=none):l.filter (gLt key (key x)) ++ x::l.filter (gGt key (key x))=G3 x l:=by
  unfold G3
  congr 2
  refine List.filter_congr fun y hy=>?_
  have:=MH.1 hn y hy
  simp [gGt,gLt,gEq,ltB,this]
theorem Od(s:Sto)(p:Pt1)(q d:List UInt8)(b:Bool)(hlen:s.Nodes.length ≤ 100000)(hlt:s.Turns.length ≤ 100000)(S:jX s) :
    nQ s.Nodes p 0 em 0 [] (mk d,b) (mk q) s.Turns=some (if (s.Nodes.find? (isK q)).isSome=true then (s.Nodes,s.Turns,61,em,em,0,[]) else (G3 ⟨mk q,p.Data,0,0,p.Owner⟩ s.Nodes,(if p.Turns=true then pU s.Turns d (oR s.Turns d+1) else s.Turns),0,mk q,em,0,[])):=by
  unfold nQ qL fQ
  obtain ⟨i,h1,h2,h3,h4⟩:=Tr s.Nodes (mk q) (by omega) S.nsort
  rw [h2]
  rw [iF] at h3 h4 ⊢
  simp only [Option.bind_some]
  rcases h4 with ⟨x,_,hk,hf,hi,_⟩ | ⟨hd,hf⟩
  · rw [hf];rfl
  · rw [hf]
    simp only [Option.isSome_none,Bool.false_eq_true,if_false,Int.toNat_natCast]
    have e:s.Nodes.take i ++ (⟨mk q,p.Data,0,0,p.Owner⟩:Nd)::s.Nodes.drop i=G3 ⟨mk q,p.Data,0,0,p.Owner⟩ s.Nodes:=by
      rw [h3,hd]
      exact Ig (x:=(⟨mk q,p.Data,0,0,p.Owner⟩:Nd)) S.nsort hf
    cases hT:p.Turns with
    | true=>
      rw [if_pos rfl,if_pos rfl,Tz _ _ hlt S.tsort (Gd S),iF]
      simp only [Option.bind_some]
      rw [fZ (by omega),e]
    | false=>
      rw [if_neg (by simp),if_neg (by simp),fZ (by omega),e]
def Wj(s:Sto)(p:Pt1):List Nd×List Tn×Int×ByteArray×ByteArray×Int×List ByteArray:=
  match D9 (pop p) (upP (bl p.Path)) (oR s.Turns (upP (bl p.Path))) with
  | none=>(s.Nodes,s.Turns,66,em,em,0,[])
  | some q=>if (s.Nodes.find? (isK q)).isSome=true then (s.Nodes,s.Turns,61,em,em,0,[]) else
    (G3 ⟨mk q,p.Data,0,0,p.Owner⟩ s.Nodes,(if p.Turns=true then pU s.Turns (upP (bl p.Path)) (oR s.Turns (upP (bl p.Path))+1) else s.Turns),0,mk q,em,0,[])
theorem AG(s:Sto)(p:Pt1)(q:List UInt8)(hq:iV (bl p.Path)=some q)(hlen:s.Nodes.length ≤ 100000)(hlt:s.Turns.length ≤ 100000)(S:jX s) :
    uB s.Nodes s.Turns 0 em 0 [] p=some (Wj s p):=by
  unfold uB Wj
  have hu:upP (bl p.Path)=q:=by unfold upP;rw [hq];rfl
  rw [M5,hq,hu,show (os2 (some q))=(mk q,true) from rfl]
  simp only [Option.bind_some]
  cases hT:p.Turns with
  | false=>
    have hn:D9 (pop p) q (oR s.Turns q)=some (bl p.Path):=by unfold D9;rw [if_neg (by simp [pop,hT])];rfl
    have:=Od s p (bl p.Path) q true hlen hlt S
    rw [Bk,hT] at this
    rw [if_neg (by simp),hn,this]
    simp only [Bk]
  | true=>
    have hn:D9 (pop p) q (oR s.Turns q)=(Ee (wP (bl p.Path)) (oR s.Turns q)).map (fun s=>(D8 q s).getD []):=by unfold D9;rw [if_pos (by simp [pop,hT])];rfl
    rw [if_pos rfl,hn,Tx _ _ hlt S.tsort (fun y hy=>by have:=Gd S y hy;omega),He,iF]
    simp only [Option.bind_some]
    rw [Mu _ _ (by rw [iF];have:=Ly (bl p.Path);omega),iF]
    simp only [Option.bind_some]
    cases hm:Ee (wP (bl p.Path)) (oR s.Turns q) with
    | none=>
      rw [Hf _ _ (by simp [os2,iF])]
      simp only [Option.bind_some,Option.map_none]
      rw [if_pos (by rfl)]
      rfl
    | some t=>
      obtain ⟨t1,t2,t3⟩:=Nu hm
      have tl:=Tc t1
      rw [show (os2 (some t))=(mk t,true) from rfl]
      simp only
      rw [Hf _ _ (by rw [iF];omega),iF,iF]
      simp only [Option.bind_some,Option.map_some]
      have:=Od s p ((D8 q t).getD []) q true hlen hlt S
      rw [hT] at this
      rw [if_neg (by simp),show (os2 (D8 q t)).1=mk ((D8 q t).getD []) from by cases D8 q t <;> rfl,this]
      simp
def doP(s:Sto)(p:Pt1):Sto×Res:=
  if p.Kind=2 then Qw s p
  else if p.Kind=4 then if s.Nodes.any (vR (bl p.Path))=true then (s,res 64) else (⟨s.Nodes,pU s.Turns (bl p.Path) 0⟩,res 0)
  else if p.Kind=9 then (s,{ res 0 with Names:=(s.Nodes.filter (vR (bl p.Path))).map s6 })
  else if p.Kind=10 then (⟨s.Nodes.filter (fun x=>!sY (bl p.Path) p.Owner x),s.Turns⟩,{ res 0 with Names:=(s.Nodes.filter (sY (bl p.Path) p.Owner)).map s6 })
  else if (ndS s.Nodes p).2 ≠ 0 then (s,res (ndS s.Nodes p).2)
  else if p.Kind=1 then (s,res (if (ndS s.Nodes p).1.Owner ≠ 0 then 65 else 0))
  else if p.Kind=3 then (⟨s.Nodes.filter (fun y=>!isK (bl p.Path) y),s.Turns⟩,res 0)
  else if p.Kind=5 then if (ndS s.Nodes p).1.Version=281474976710656 then (s,res 2) else (⟨upd s.Nodes (bl p.Path) (Qv p),s.Turns⟩,{ res 0 with Version:=(ndS s.Nodes p).1.Version+1 })
  else if p.Kind=6 then (s,{ res 0 with Version:=(ndS s.Nodes p).1.Version })
  else if p.Kind=7 then (s,{ res 0 with Data:=(ndS s.Nodes p).1.Data,Version:=(ndS s.Nodes p).1.Version })
  else (s,res 0)
theorem K5{p:Pt1}(h:tM p=true):sK p.Path p.Data p.Version (-1) p.Owner=true∧bl p.Dir=E1 p∧(1 ≤ p.Kind∧p.Kind ≤ 10)∧(p.Kind=2→bl p.Path ≠ [47]):=by
  unfold tM at h
  simp only [Bool.and_eq_true,Bool.or_eq_true,decide_eq_true_eq,Bool.not_eq_true',decide_eq_false_iff_not] at h
  exact ⟨h.1.1.1,h.1.1.2,h.1.2,fun k=>h.2.resolve_left (fun h'=>h' k)⟩
theorem Ih{p:Pt1}(h:tM p=true):fB (bl p.Path)=true:=by
  have:=(K5 h).1
  unfold sK at this
  simp only [Bool.and_eq_true] at this
  exact this.1.1.1
theorem Ct{p:Pt1}(h:tM p=true)(hk:p.Kind=2):∃ q,iV (bl p.Path)=some q:=by
  have h1:=Ih h
  have h2:=(K5 h).2.2.2 hk
  unfold fB at h1
  obtain ⟨ps,hp⟩:=Option.isSome_iff_exists.1 h1
  rcases List.eq_nil_or_concat ps with rfl | ⟨qs,t,rfl⟩
  · exact absurd ((mG _ _).1 hp).1 h2
  · unfold iV
    rw [hp]
    exact ⟨nZ (qs.concat t).dropLast,by simp⟩
theorem Ii{s:Sto}(S:jX s):∀ x ∈ s.Nodes,0 ≤ x.Version∧x.Version ≤ 281474976710656:=fun x hx=>by
  have:=List.all_eq_true.1 S.nodes x hx
  simp [pnB,sK] at this
  omega
theorem Ua(s:Sto)(p:Pt1)(hlen:s.Nodes.length ≤ 100000)(hlt:s.Turns.length ≤ 100000)(S:jX s)(hm:tM p=true):E8 s p=some (doP s p):=by
  unfold E8 yX
  obtain ⟨b,h1,h2⟩:=Au s (by omega) (by omega)
  have hs:=S.nsort
  have hn:s.Nodes.length ≤ 1000000:=by omega
  rw [h1,h2.2 S]
  simp only [Option.bind_some]
  rw [if_neg (by simp),Gc,hm]
  simp only [Option.bind_some]
  rw [if_neg (by simp),fZ (by simp [LIM];omega),fZ (by simp [LIM];omega)]
  unfold doP iQ
  have hk:=(K5 hm).2.2.1
  have kk:p.Kind=1∨p.Kind=2∨p.Kind=3∨p.Kind=4∨p.Kind=5∨p.Kind=6∨p.Kind=7∨p.Kind=8∨p.Kind=9∨p.Kind=10:=by omega
  rcases kk with c | c | c | c | c | c | c | c | c | c
  all_goals simp only [c,Int.reduceBEq,Int.reduceEq,Bool.false_eq_true,if_true,if_false,beq_self_eq_true,Int.reduceNeg]
  · rw [Ts _ [] _ hn hs]
    simp only [Option.bind_some]
    by_cases e:(ndS s.Nodes p).2=0
    · by_cases o:(ndS s.Nodes p).1.Owner=0
      · simp [e,o];rfl
      · simp [e,o];rfl
    · rw [if_pos e,if_pos (by simpa using e),if_pos e];rfl
  · obtain ⟨q,hq⟩:=Ct hm c
    rw [AG s p q hq hlen hlt S]
    unfold Wj Qw
    simp only [Option.bind_some]
    cases D9 (pop p) (upP (bl p.Path)) (oR s.Turns (upP (bl p.Path))) with
    | none=>rfl
    | some q=>
      simp only
      by_cases e:(s.Nodes.find? (isK q)).isSome=true
      · rw [if_pos e,if_pos e];rfl
      · rw [if_neg e,if_neg e];rfl
  · rw [Qu _ [] _ hn hs]
    simp only [Option.bind_some]
    by_cases e:(ndS s.Nodes p).2=0
    · simp [e];rfl
    · rw [if_pos (by simpa using e),if_pos e];rfl
  · unfold uR vW fQ
    simp only [Option.bind_some]
    rw [AF _ _ hn]
    simp only [Option.bind_some]
    by_cases e:s.Nodes.any (vR (bl p.Path))=true
    · rw [if_pos e,if_pos e];rfl
    · rw [if_neg e,if_neg e,Ty _ _ hlt S.tsort];rfl
  · rw [Tt _ [] _ hn hs (Ii S)]
    simp only [Option.bind_some]
    by_cases e:(ndS s.Nodes p).2=0
    · simp only [e,ne_eq,not_true_eq_false,if_false]
      by_cases v:(ndS s.Nodes p).1.Version=281474976710656
      · rw [if_pos v,if_pos v];rfl
      · rw [if_neg v,if_neg v];rfl
    · rw [if_pos e,if_pos e]
      simp only
      rw [if_pos (by simpa using e)];rfl
  · rw [Wh _ [] _ hn hs]
    simp only [Option.bind_some]
    by_cases e:(ndS s.Nodes p).2=0
    · simp only [e,ne_eq,not_true_eq_false,if_false,bne_self_eq_false,Bool.false_eq_true];rfl
    · rw [if_pos (by simpa using e),if_pos e,if_pos e];rfl
  · rw [Wi _ [] _ hn hs]
    simp only [Option.bind_some]
    by_cases e:(ndS s.Nodes p).2=0
    · simp only [e,ne_eq,not_true_eq_false,if_false,bne_self_eq_false,Bool.false_eq_true];rfl
    · rw [if_pos (by simpa using e),if_pos e,if_pos e,if_pos e];rfl
  · rw [AE _ [] _ hn hs]
    simp only [Option.bind_some]
    by_cases e:(ndS s.Nodes p).2=0
    · simp [e];rfl
    · rw [if_pos (by simpa using e),if_pos e];rfl
  · rw [Tu _ [] _ hn];rfl
  · rw [Tv _ [] _ (by omega)];rfl
end Go.Cb
