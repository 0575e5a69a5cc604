/- Parts and their directories, plainly: a part changes nothing of another directory, and asks nothing of one. -/
import Derived.Test.YteakhlfapjaodaaGreatDoorE9sh
set_option linter.unusedVariables false
set_option linter.unusedSimpArgs false
namespace Go.Cb
open Go.Proofs Go.RowKit

theorem Px{α:Type}(κ:α->List UInt8):∀ {a b:List α},a.Pairwise (κ · < κ ·)->b.Pairwise (κ · < κ ·)->(∀ x,x ∈ a ↔ x ∈ b)->a=b
 | [],[],_,_,_=>rfl
 | [],y::b,_,_,h=>by have:=(h y).2 (by simp);simp at this
 | x::a,[],_,_,h=>by have:=(h x).1 (by simp);simp at this
 | x::a,y::b,ha,hb,h=>by
  obtain ⟨a1,a2⟩:=List.pairwise_cons.1 ha;obtain ⟨b1,b2⟩:=List.pairwise_cons.1 hb;have e:x=y:=by
   rcases List.mem_cons.1 ((h x).1 (by simp)) with e | e
   ·exact e
   rcases List.mem_cons.1 ((h y).2 (by simp)) with f | f
   ·exact f.symm
   exact absurd (b1 x e) (Ii (a1 y f))
  subst e;congr 1;refine Px κ a2 b2 λz=>⟨λhz=>?_,λhz=>?_⟩
  ·rcases List.mem_cons.1 ((h z).1 (by simp [hz])) with e | e
   ·subst e;exact absurd (a1 z hz) (F1 _)
   exact e
  rcases List.mem_cons.1 ((h z).2 (by simp [hz])) with e | e
  ·subst e;exact absurd (b1 z hz) (F1 _)
  exact e
/-! ### what is of a directory -/
def hmB(d:List UInt8)(x:Nd):Bool:=decide (upP (key x)=d)
def tdB(d:List UInt8)(t:Tn):Bool:=decide (cX t=d)
/-- two stores have the same of a directory. -/
structure rX (d:List UInt8) (s t:Sto):Prop where
 n:∀ x,upP (key x)=d->(x ∈ s.Nodes ↔ x ∈ t.Nodes)
 t:∀ x,cX x=d->(x ∈ s.Turns ↔ x ∈ t.Turns)
theorem rX.refl (d:List UInt8) (s:Sto):rX d s s:=⟨λ_ _=>Iff.rfl,λ_ _=>Iff.rfl⟩
theorem rX.symm {d:List UInt8} {s t:Sto} (h:rX d s t):rX d t s:=⟨λx e=>(h.n x e).symm,λx e=>(h.t x e).symm⟩
theorem rX.trans {d:List UInt8} {s t u:Sto} (h:rX d s t) (k:rX d t u):rX d s u:=⟨λx e=>(h.n x e).trans (k.n x e),λx e=>(h.t x e).trans (k.t x e)⟩
theorem rX.nodes {d:List UInt8} {s t:Sto} (h:rX d s t) (S:cI s) (T:cI t):s.Nodes.filter (hmB d)=t.Nodes.filter (hmB d):=by
 refine Px key (S.nsort.sublist List.filter_sublist) (T.nsort.sublist List.filter_sublist) λx=>?_;rw [List.mem_filter,List.mem_filter];constructor
 ·rintro ⟨a,b⟩;exact ⟨(h.n x (of_decide_eq_true b)).1 a,b⟩
 rintro ⟨a,b⟩;exact ⟨(h.n x (of_decide_eq_true b)).2 a,b⟩
theorem rX.turns {d:List UInt8} {s t:Sto} (h:rX d s t) (S:cI s) (T:cI t):s.Turns.filter (tdB d)=t.Turns.filter (tdB d):=by
 refine Px cX (S.tsort.sublist List.filter_sublist) (T.tsort.sublist List.filter_sublist) λx=>?_;rw [List.mem_filter,List.mem_filter];constructor
 ·rintro ⟨a,b⟩;exact ⟨(h.t x (of_decide_eq_true b)).1 a,b⟩
 rintro ⟨a,b⟩;exact ⟨(h.t x (of_decide_eq_true b)).2 a,b⟩
theorem Ex{α:Type}(l:List α)(p q:α->Bool)(h:∀ x,p x=true->q x=true):(l.filter q).find? p=l.find? p:=by
 rw [List.find?_filter];congr 1;funext x;cases hp:p x with
 | true=>rw [h x hp];rfl
 | false=>simp
theorem rX.find {d:List UInt8} {s t:Sto} (h:rX d s t) (S:cI s) (T:cI t) {p:List UInt8} (hp:upP p=d):s.Nodes.find? (isK p)=t.Nodes.find? (isK p):=by
 have e:∀ x,isK p x=true->hmB d x=true:=λx hx=>by
  have:key x=p:=of_decide_eq_true hx;unfold hmB;rw [this,hp];simp
 rw [← Ex s.Nodes _ _ e,← Ex t.Nodes _ _ e,h.nodes S T]
theorem rX.turn {d:List UInt8} {s t:Sto} (h:rX d s t) (S:cI s) (T:cI t):pH s.Turns d=pH t.Turns d:=by
 unfold pH;rw [← Ex s.Turns (gEq cX d) (tdB d) (λx hx=>hx),← Ex t.Turns (gEq cX d) (tdB d) (λx hx=>hx),h.turns S T]
theorem Si{d:List UInt8}{x:Nd}(h:rS d x=true):upP (key x)=d:=by
 have:lZ (key x)=some d:=of_decide_eq_true h;unfold upP;rw [this];rfl
theorem rX.kids {d:List UInt8} {s t:Sto} (h:rX d s t) (S:cI s) (T:cI t) (f:Nd->Bool) (hf:∀ x,f x=true->rS d x=true):s.Nodes.filter f=t.Nodes.filter f:=by
 have e:∀ l:List Nd,l.filter f=(l.filter (hmB d)).filter f:=λl=>by
  rw [List.filter_filter];refine List.filter_congr λx _=>?_;cases c:f x with
  | false=>rfl
  | true=>rw [show hmB d x=true from decide_eq_true (Si (hf x c))];rfl
 rw [e s.Nodes,e t.Nodes,h.nodes S T]
/-! ### a part's directory -/
theorem GR{p:Pt1}(hm:tW p=true):bl p.Dir=yE p:=(Az hm).2.1
theorem Tz{l:List Nd}{x y:Nd}:y ∈ Aa x l ↔ y=x∨y ∈ l:=by
 unfold Aa;rw [List.mem_append,List.mem_cons,List.mem_filter,List.mem_filter];constructor
 ·rintro (⟨a,_⟩ | rfl | ⟨a,_⟩)
  ·exact .inr a
  ·exact .inl rfl
  exact .inr a
 rintro (rfl | a)
 ·exact .inr (.inl rfl)
 by_cases c:ltB (key x) y=true
 ·exact .inl ⟨a,c⟩
 exact .inr (.inr ⟨a,by simpa using c⟩)
theorem Db{l:List Tn}{d:List UInt8}{n:Int}{t:Tn}:t ∈ tA l d n ↔ (t ∈ l/\cX t ≠ d)∨(t= ⟨mk d,n⟩/\n ≠ 0):=by
 unfold tA;by_cases h:n=0
 ·rw [iP h,List.mem_filter];constructor
  ·rintro ⟨a,b⟩;exact .inl ⟨a,by simpa [gEq] using b⟩
  rintro (⟨a,b⟩ | ⟨_,b⟩)
  ·exact ⟨a,by simpa [gEq] using b⟩
  exact absurd h b
 rw [iN h,List.mem_append,List.mem_cons,List.mem_filter,List.mem_filter];constructor
 ·rintro (⟨a,b⟩ | rfl | ⟨a,b⟩)
  ·exact .inl ⟨a,tV (by simpa [gLt] using b)⟩
  ·exact .inr ⟨rfl,h⟩
  exact .inl ⟨a,by simp [gGt,gEq] at b;exact b.2⟩
 rintro (⟨a,b⟩ | ⟨rfl,_⟩)
 ·by_cases c:cX t < d
  ·exact .inl ⟨a,by simpa [gLt] using c⟩
  exact .inr (.inr ⟨a,by simp [gGt,gLt,gEq,c,b]⟩)
 exact .inr (.inl rfl)
theorem Ua{l:List Nd}{p:List UInt8}{f:Nd->Nd}{y:Nd}:y ∈ upd l p f ↔ ∃ z ∈ l,y=if isK p z then f z else z:=by
 unfold upd;rw [List.mem_map];constructor
 ·rintro ⟨z,a,b⟩;exact ⟨z,a,b.symm⟩
 rintro ⟨z,a,b⟩;exact ⟨z,a,b.symm⟩
/-- a part changes nothing of another directory. -/
theorem Ly{s:Sto}{p:Pt1}(S:cI s)(hm:tW p=true){d:List UInt8}(hd:bl p.Dir ≠ d):rX d s (doP s p).1:=by
 have dp:=GR hm;unfold doP Pr;by_cases k2:p.Kind=2
 ·rw [iP k2];have dd:bl p.Dir=upP (bl p.Path):=by rw [dp];unfold yE;rw [iN (by omega)]
  split
  ·exact .refl _ _
  rename_i q hq;split
  ·exact .refl _ _
  obtain ⟨u,hu⟩:=Bk hm k2;have uu:upP (bl p.Path)=u:=by unfold upP;rw [hu];rfl
  rw [uu] at hq;have qp:=(Fv (o:=pop p) hu hq).1;have uq:upP q=u:=by unfold upP;rw [qp];rfl
  refine ⟨λx e=>?_,λx e=>?_⟩
  ·simp only;rw [Tz];constructor
   ·exact .inr
   rintro (rfl | a)
   ·exact absurd (by rw [dd,uu,← uq];exact e) hd
   exact a
  simp only;split
  ·rw [Db];have:cX x ≠ upP (bl p.Path):=λe'=>hd (by rw [dd,← e',e]);constructor
   ·exact λa=>.inl ⟨a,this⟩
   rintro (⟨a,_⟩ | ⟨rfl,_⟩)
   ·exact a
   exact absurd (jP _) this
  exact Iff.rfl
 rw [iN k2];by_cases k4:p.Kind=4
 ·have dd:bl p.Dir=bl p.Path:=by rw [dp];unfold yE;rw [iP (.inl k4)]
  rw [iP k4];split
  ·exact .refl _ _
  refine ⟨λx e=>Iff.rfl,λx e=>?_⟩;simp only;rw [Db];have:cX x ≠ bl p.Path:=λe'=>hd (by rw [dd,← e',e]);constructor
  ·exact λa=>.inl ⟨a,this⟩
  rintro (⟨a,_⟩ | ⟨_,a⟩)
  ·exact a
  exact absurd rfl a
 rw [iN k4];by_cases k9:p.Kind=9
 ·rw [iP k9];exact .refl _ _
 rw [iN k9];by_cases k10:p.Kind=10
 ·have dd:bl p.Dir=bl p.Path:=by rw [dp];unfold yE;rw [iP (.inr (.inr k10))]
  rw [iP k10];refine ⟨λx e=>?_,λx e=>Iff.rfl⟩;simp only;rw [List.mem_filter];constructor
  ·refine λa=>⟨a,?_⟩
   cases c:vH (bl p.Path) p.Owner x with
   | false=>rfl
   | true=>
    unfold vH at c;rw [Bool.and_eq_true] at c;exact absurd (by rw [dd,← Si c.2,e]) hd
  exact λa=>a.1
 rw [iN k10];have dd:bl p.Dir=upP (bl p.Path):=by rw [dp];unfold yE;rw [iN (by omega)]
 have nk:∀ x:Nd,upP (key x)=d->isK (bl p.Path) x=false:=λx e=>by
  cases c:isK (bl p.Path) x with
  | false=>rfl
  | true=>
   have:key x=bl p.Path:=of_decide_eq_true c;exact absurd (by rw [dd,← this,e]) hd
 split
 ·exact .refl _ _
 split
 ·exact .refl _ _
 split
 ·refine ⟨λx e=>?_,λx e=>Iff.rfl⟩;simp only;rw [List.mem_filter,nk x e];simp
 split
 ·split
  ·exact .refl _ _
  refine ⟨λx e=>?_,λx e=>Iff.rfl⟩;simp only;rw [Ua];constructor
  ·exact λa=>⟨x,a,by rw [nk x e];rfl⟩
  rintro ⟨z,a,b⟩;cases c:isK (bl p.Path) z with
  | false=>rw [c] at b;rw [b];exact a
  | true=>
   rw [c,iP rfl] at b;have:key x=key z:=by rw [b];rfl
   have:=nk x e;rw [show isK (bl p.Path) x=isK (bl p.Path) z from by unfold isK;rw [‹key x=key z›],c] at this;cases this
 split
 ·exact .refl _ _
 split
 ·exact .refl _ _
 exact .refl _ _
/-- a part asks but what is of its directory. -/
theorem GS{s t:Sto}{p:Pt1}(S:cI s)(T:cI t)(hm:tW p=true)(h:rX (bl p.Dir) s t):(doP s p).2=(doP t p).2/\rX (bl p.Dir) (doP s p).1 (doP t p).1:=by
 have dp:=GR hm;unfold doP Pr;by_cases k2:p.Kind=2
 ·have dd:bl p.Dir=upP (bl p.Path):=by rw [dp];unfold yE;rw [iN (by omega)]
  rw [iP k2,iP k2,← dd,h.turn S T];cases hq:Ab (pop p) (bl p.Dir) (pH t.Turns (bl p.Dir)) with
  | none=>exact ⟨rfl,h⟩
  | some q=>
   simp only;obtain ⟨u,hu⟩:=Bk hm k2;have uu:bl p.Dir=u:=by rw [dd];unfold upP;rw [hu];rfl
   rw [uu] at hq;have qp:=(Fv (o:=pop p) hu hq).1;have uq:upP q=bl p.Dir:=by rw [uu];unfold upP;rw [qp];rfl
   rw [h.find S T uq];split
   ·exact ⟨rfl,h⟩
   refine ⟨rfl,⟨λx e=>?_,λx e=>?_⟩⟩
   ·simp only;rw [Tz,Tz,h.n x e]
   simp only;split
   ·rw [Db,Db,h.t x e]
   exact h.t x e
 rw [iN k2,iN k2];by_cases k4:p.Kind=4
 ·have dd:bl p.Dir=bl p.Path:=by rw [dp];unfold yE;rw [iP (.inl k4)]
  rw [iP k4,iP k4];have an:s.Nodes.any (rS (bl p.Path))=t.Nodes.any (rS (bl p.Path)):=by
   have e:∀ l:List Nd,l.any (rS (bl p.Path))= !(l.filter (rS (bl p.Path))).isEmpty:=λl=>by
    cases c:l.any (rS (bl p.Path)) with
    | false=>
     rw [List.filter_eq_nil_iff.2 λx hx=>List.any_eq_false.1 c x hx];rfl
    | true=>
     obtain ⟨x,a,b⟩:=List.any_eq_true.1 c;cases f:l.filter (rS (bl p.Path)) with
     | nil=>exact absurd b (List.filter_eq_nil_iff.1 f x a)
     | cons _ _=>rfl
   rw [e,e,(show rX (bl p.Path) s t from dd ▸ h).kids S T _ λx hx=>hx]
  rw [an];split
  ·exact ⟨rfl,h⟩
  refine ⟨rfl,⟨h.n,λx e=>?_⟩⟩;simp only;rw [Db,Db,h.t x e]
 rw [iN k4,iN k4];by_cases k9:p.Kind=9
 ·have dd:bl p.Dir=bl p.Path:=by rw [dp];unfold yE;rw [iP (.inr (.inl k9))]
  rw [iP k9,iP k9];exact ⟨by simp only [(show rX (bl p.Path) s t from dd ▸ h).kids S T _ λx hx=>hx],h⟩
 rw [iN k9,iN k9];by_cases k10:p.Kind=10
 ·have dd:bl p.Dir=bl p.Path:=by rw [dp];unfold yE;rw [iP (.inr (.inr k10))]
  rw [iP k10,iP k10];have hk:=(show rX (bl p.Path) s t from dd ▸ h).kids S T (vH (bl p.Path) p.Owner) λx hx=>by
   unfold vH at hx;rw [Bool.and_eq_true] at hx;exact hx.2
  refine ⟨by simp only [hk],⟨λx e=>?_,h.t⟩⟩;simp only;rw [List.mem_filter,List.mem_filter,h.n x e]
 rw [iN k10,iN k10];have dd:bl p.Dir=upP (bl p.Path):=by rw [dp];unfold yE;rw [iN (by omega)]
 have nd:ndS s.Nodes p=ndS t.Nodes p:=by
  unfold ndS;rw [h.find S T dd.symm]
 rw [nd];split
 ·exact ⟨rfl,h⟩
 split
 ·exact ⟨rfl,h⟩
 split
 ·refine ⟨rfl,⟨λx e=>?_,h.t⟩⟩;simp only;rw [List.mem_filter,List.mem_filter,h.n x e]
 split
 ·split
  ·exact ⟨rfl,h⟩
  refine ⟨rfl,⟨λx e=>?_,h.t⟩⟩;simp only;rw [Ua,Ua];have hz:∀ z:Nd,(x=if isK (bl p.Path) z then Ym p z else z)->upP (key z)=bl p.Dir:=λz b=>by
   rw [← e,b];split
   ·rfl
   rfl
  constructor
  ·rintro ⟨z,a,b⟩;exact ⟨z,(h.n z (hz z b)).1 a,b⟩
  rintro ⟨z,a,b⟩;exact ⟨z,(h.n z (hz z b)).2 a,b⟩
 split
 ·exact ⟨rfl,h⟩
 split
 ·exact ⟨rfl,h⟩
 exact ⟨rfl,h⟩
/-! ### pieces -/
theorem Sj(s0:Sto)(d:List UInt8):∀ (l:List Pie) (i:Nat) (s:Sto) (acc:List Res),cI s->(∀ p ∈ l,tW p.Part=true)->(∀ p ∈ l,bl p.Part.Dir ≠ d)->(fI s0 i s acc l).2.2.1=0->rX d s (fI s0 i s acc l).1
 | [],i,s,acc,S,_,_,_=>.refl _ _
 | p::l,i,s,acc,S,hm,hd,h=>by
  unfold fI at h ⊢;by_cases c:(doP s p.Part).2.Err=0
  ·rw [iN (by simpa using c)] at h ⊢;obtain ⟨g1,_⟩:=Lr s p.Part S (hm p (by simp));exact (Ly S (hm p (by simp)) (hd p (by simp))).trans (Sj s0 d l (i+1) _ _ g1 (λq hq=>hm q (by simp [hq])) (λq hq=>hd q (by simp [hq])) h)
  rw [iP (by simpa using c)] at h;exact absurd h c
theorem Sk{s:Sto}{l:List Pie}(S:cI s)(hm:∀ p ∈ l,tW p.Part=true){d:List UInt8}(hd:∀ p ∈ l,bl p.Part.Dir ≠ d):rX d s (G6 s l):=by
 unfold G6;split
 ·exact .refl _ _
 rename_i h;exact Sj s d l 0 s [] S hm hd (by simpa using h)
/-- pieces answer alike at stores that have the same of their directories. -/
theorem Sn(s0 t0:Sto):∀ (l:List Pie) (i:Nat) (s t:Sto) (acc:List Res),cI s->cI t->(∀ p ∈ l,tW p.Part=true)->(∀ p ∈ l,rX (bl p.Part.Dir) s t)->(fI s0 i s acc l).2=(fI t0 i t acc l).2
 | [],i,s,t,acc,_,_,_,_=>rfl
 | p::l,i,s,t,acc,S,T,hm,hd=>by
  unfold fI;have m:=hm p (by simp);obtain ⟨h1,h2⟩:=GS S T m (hd p (by simp));rw [h1];split
  ·rfl
  refine Sn s0 t0 l (i+1) _ _ _ (Lr s p.Part S m).1 (Lr t p.Part T m).1 (λq hq=>hm q (by simp [hq])) λq hq=>?_;by_cases e:bl q.Part.Dir=bl p.Part.Dir
  ·rw [e];exact h2
  have f1:=Ly S m (d:=bl q.Part.Dir) (λe'=>e e'.symm);have f2:=Ly T m (d:=bl q.Part.Dir) (λe'=>e e'.symm);exact f1.symm.trans ((hd q (by simp [hq])).trans f2)
end Go.Cb
