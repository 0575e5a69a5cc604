/- Parts and their directories, plainly: a part changes nothing of another directory, and asks nothing of one. -/
import Derived.Test.YtppeaaolgckfcaaGreatDoorE9sm
set_option linter.unusedVariables false
set_option linter.unusedSimpArgs false
namespace Go.Cb
open Go.Proofs Go.RowKit

theorem Ab{α:Type}(κ:α->List UInt8):∀ {a b:List α},a.Pairwise (κ · < κ ·)->b.Pairwise (κ · < κ ·)->(∀ x,x ∈ a ↔ x ∈ b)->a=b
 | [],[],_,_,_=>rfl
 | [],y::b,_,_,h=>by have:=(h y).2 (by simp);simp at this
 | x::a,[],_,_,h=>by have:=(h x).1 (by simp);simp at this
 | x::a,y::b,ha,hb,h=>by
  obtain ⟨a1,a2⟩:=List.pairwise_cons.1 ha;obtain ⟨b1,b2⟩:=List.pairwise_cons.1 hb;have e:x=y:=by
   rcases List.mem_cons.1 ((h x).1 (by simp)) with e | e
   ·exact e
   rcases List.mem_cons.1 ((h y).2 (by simp)) with f | f
   ·exact f.symm
   exact absurd (b1 x e) (Jj (a1 y f))
  subst e;congr 1;refine Ab κ a2 b2 λz=>⟨λhz=>?_,λhz=>?_⟩
  ·rcases List.mem_cons.1 ((h z).1 (by simp [hz])) with e | e
   ·subst e;exact absurd (a1 z hz) (I6 _)
   exact e
  rcases List.mem_cons.1 ((h z).2 (by simp [hz])) with e | e
  ·subst e;exact absurd (b1 z hz) (I6 _)
  exact e
/-! ### what is of a directory -/
def hmB(d:List UInt8)(x:Nd):Bool:=decide (upP (key x)=d)
def tdB(d:List UInt8)(t:Tn):Bool:=decide (cG t=d)
/-- two stores have the same of a directory. -/
structure O3 (d:List UInt8) (s t:Sto):Prop where
 n:∀ x,upP (key x)=d->(x ∈ s.Nodes ↔ x ∈ t.Nodes)
 t:∀ x,cG x=d->(x ∈ s.Turns ↔ x ∈ t.Turns)
theorem O3.refl (d:List UInt8) (s:Sto):O3 d s s:=⟨λ_ _=>Iff.rfl,λ_ _=>Iff.rfl⟩
theorem O3.symm {d:List UInt8} {s t:Sto} (h:O3 d s t):O3 d t s:=⟨λx e=>(h.n x e).symm,λx e=>(h.t x e).symm⟩
theorem O3.trans {d:List UInt8} {s t u:Sto} (h:O3 d s t) (k:O3 d t u):O3 d s u:=⟨λx e=>(h.n x e).trans (k.n x e),λx e=>(h.t x e).trans (k.t x e)⟩
theorem O3.nodes {d:List UInt8} {s t:Sto} (h:O3 d s t) (S:cV s) (T:cV t):s.Nodes.filter (hmB d)=t.Nodes.filter (hmB d):=by
 refine Ab key (S.nsort.sublist List.filter_sublist) (T.nsort.sublist List.filter_sublist) λx=>?_;rw [List.mem_filter,List.mem_filter];constructor
 ·rintro ⟨a,b⟩;exact ⟨(h.n x (of_decide_eq_true b)).1 a,b⟩
 rintro ⟨a,b⟩;exact ⟨(h.n x (of_decide_eq_true b)).2 a,b⟩
theorem O3.turns {d:List UInt8} {s t:Sto} (h:O3 d s t) (S:cV s) (T:cV t):s.Turns.filter (tdB d)=t.Turns.filter (tdB d):=by
 refine Ab cG (S.tsort.sublist List.filter_sublist) (T.tsort.sublist List.filter_sublist) λx=>?_;rw [List.mem_filter,List.mem_filter];constructor
 ·rintro ⟨a,b⟩;exact ⟨(h.t x (of_decide_eq_true b)).1 a,b⟩
 rintro ⟨a,b⟩;exact ⟨(h.t x (of_decide_eq_true b)).2 a,b⟩
theorem Vz{α:Type}(l:List α)(p q:α->Bool)(h:∀ x,p x=true->q x=true):(l.filter q).find? p=l.find? p:=by
 rw [List.find?_filter];congr 1;funext x;cases hp:p x with
 | true=>rw [h x hp];rfl
 | false=>simp
theorem O3.find {d:List UInt8} {s t:Sto} (h:O3 d s t) (S:cV s) (T:cV t) {p:List UInt8} (hp:upP p=d):s.Nodes.find? (isK p)=t.Nodes.find? (isK p):=by
 have e:∀ x,isK p x=true->hmB d x=true:=λx hx=>by
  have:key x=p:=of_decide_eq_true hx;unfold hmB;rw [this,hp];simp
 rw [← Vz s.Nodes _ _ e,← Vz t.Nodes _ _ e,h.nodes S T]
theorem EQ{d:List UInt8}{x:Nd}(h:C6 d x=true):upP (key x)=d:=by
 have:lE (key x)=some d:=of_decide_eq_true h;unfold upP;rw [this];rfl
/-! ### a part's directory -/
theorem TW{p:Pt1}(hm:yQ p=true):bl p.Dir=O2 p:=(Ca hm).2.1
theorem PG{l:List Nd}{x y:Nd}:y ∈ Ba x l ↔ y=x∨y ∈ l:=by
 unfold Ba;rw [List.mem_append,List.mem_cons,List.mem_filter,List.mem_filter];constructor
 ·rintro (⟨a,_⟩ | rfl | ⟨a,_⟩)
  ·exact .inr a
  ·exact .inl rfl
  exact .inr a
 rintro (rfl | a)
 ·exact .inr (.inl rfl)
 by_cases c:ltB (key x) y=true
 ·exact .inl ⟨a,c⟩
 exact .inr (.inr ⟨a,by simpa using c⟩)
theorem CR{l:List Tn}{d:List UInt8}{n:Int}{t:Tn}:t ∈ tT l d n ↔ (t ∈ l/\cG t ≠ d)∨(t= ⟨mk d,n⟩/\n ≠ 0):=by
 unfold tT;by_cases h:n=0
 ·rw [iP h,List.mem_filter];constructor
  ·rintro ⟨a,b⟩;exact .inl ⟨a,by simpa [gEq] using b⟩
  rintro (⟨a,b⟩ | ⟨_,b⟩)
  ·exact ⟨a,by simpa [gEq] using b⟩
  exact absurd h b
 rw [iN h,List.mem_append,List.mem_cons,List.mem_filter,List.mem_filter];constructor
 ·rintro (⟨a,b⟩ | rfl | ⟨a,b⟩)
  ·exact .inl ⟨a,uR (by simpa [gLt] using b)⟩
  ·exact .inr ⟨rfl,h⟩
  exact .inl ⟨a,by simp [gGt,gEq] at b;exact b.2⟩
 rintro (⟨a,b⟩ | ⟨rfl,_⟩)
 ·by_cases c:cG t < d
  ·exact .inl ⟨a,by simpa [gLt] using c⟩
  exact .inr (.inr ⟨a,by simp [gGt,gLt,gEq,c,b]⟩)
 exact .inr (.inl rfl)
theorem PH{l:List Nd}{p:List UInt8}{f:Nd->Nd}{y:Nd}:y ∈ upd l p f ↔ ∃ z ∈ l,y=if isK p z then f z else z:=by
 unfold upd;rw [List.mem_map];constructor
 ·rintro ⟨z,a,b⟩;exact ⟨z,a,b.symm⟩
 rintro ⟨z,a,b⟩;exact ⟨z,a,b.symm⟩
/-- a part changes nothing of another directory. -/
theorem HT{s:Sto}{p:Pt1}(S:cV s)(hm:yQ p=true){d:List UInt8}(hd:bl p.Dir ≠ d):O3 d s (doP s p).1:=by
 have dp:=TW hm;unfold doP Ux;by_cases k2:p.Kind=2
 ·rw [iP k2];have dd:bl p.Dir=upP (bl p.Path):=by rw [dp];unfold O2;rw [iN (by omega)]
  split
  ·exact .refl _ _
  rename_i q hq;split
  ·exact .refl _ _
  obtain ⟨u,hu⟩:=Gw hm k2;have uu:upP (bl p.Path)=u:=by unfold upP;rw [hu];rfl
  rw [uu] at hq;have qp:=(Pq (o:=pop p) hu hq).1;have uq:upP q=u:=by unfold upP;rw [qp];rfl
  refine ⟨λx e=>?_,λx e=>?_⟩
  ·simp only;rw [PG];constructor
   ·exact .inr
   rintro (rfl | a)
   ·exact absurd (by rw [dd,uu,← uq];exact e) hd
   exact a
  simp only;split
  ·rw [CR];have:cG x ≠ upP (bl p.Path):=λe'=>hd (by rw [dd,← e',e]);constructor
   ·exact λa=>.inl ⟨a,this⟩
   rintro (⟨a,_⟩ | ⟨rfl,_⟩)
   ·exact a
   exact absurd (iV _) this
  exact Iff.rfl
 rw [iN k2];by_cases k4:p.Kind=4
 ·have dd:bl p.Dir=bl p.Path:=by rw [dp];unfold O2;rw [iP (.inl k4)]
  rw [iP k4];split
  ·exact .refl _ _
  refine ⟨λx e=>Iff.rfl,λx e=>?_⟩;simp only;rw [CR];have:cG x ≠ bl p.Path:=λe'=>hd (by rw [dd,← e',e]);constructor
  ·exact λa=>.inl ⟨a,this⟩
  rintro (⟨a,_⟩ | ⟨_,a⟩)
  ·exact a
  exact absurd rfl a
 rw [iN k4];by_cases k9:p.Kind=9
 ·rw [iP k9];exact .refl _ _
 rw [iN k9];by_cases k10:p.Kind=10
 ·have dd:bl p.Dir=bl p.Path:=by rw [dp];unfold O2;rw [iP (.inr (.inr k10))]
  rw [iP k10];refine ⟨λx e=>?_,λx e=>Iff.rfl⟩;simp only;rw [List.mem_filter];constructor
  ·refine λa=>⟨a,?_⟩
   cases c:yP (bl p.Path) p.Owner x with
   | false=>rfl
   | true=>
    unfold yP at c;rw [Bool.and_eq_true] at c;exact absurd (by rw [dd,← EQ c.2,e]) hd
  exact λa=>a.1
 rw [iN k10];have dd:bl p.Dir=upP (bl p.Path):=by rw [dp];unfold O2;rw [iN (by omega)]
 have nk:∀ x:Nd,upP (key x)=d->isK (bl p.Path) x=false:=λx e=>by
  cases c:isK (bl p.Path) x with
  | false=>rfl
  | true=>
   have:key x=bl p.Path:=of_decide_eq_true c;exact absurd (by rw [dd,← this,e]) hd
 split
 ·exact .refl _ _
 split
 ·exact .refl _ _
 split
 ·refine ⟨λx e=>?_,λx e=>Iff.rfl⟩;simp only;rw [List.mem_filter,nk x e];simp
 split
 ·split
  ·exact .refl _ _
  refine ⟨λx e=>?_,λx e=>Iff.rfl⟩;simp only;rw [PH];constructor
  ·exact λa=>⟨x,a,by rw [nk x e];rfl⟩
  rintro ⟨z,a,b⟩;cases c:isK (bl p.Path) z with
  | false=>rw [c] at b;rw [b];exact a
  | true=>
   rw [c,iP rfl] at b;have:key x=key z:=by rw [b];rfl
   have:=nk x e;rw [show isK (bl p.Path) x=isK (bl p.Path) z from by unfold isK;rw [‹key x=key z›],c] at this;cases this
 split
 ·exact .refl _ _
 split
 ·exact .refl _ _
 exact .refl _ _
/-! ### pieces -/
theorem Tt(s0:Sto)(d:List UInt8):∀ (l:List Pie) (i:Nat) (s:Sto) (acc:List Res),cV s->(∀ p ∈ l,yQ p.Part=true)->(∀ p ∈ l,bl p.Part.Dir ≠ d)->(mX s0 i s acc l).2.2.1=0->O3 d s (mX s0 i s acc l).1
 | [],i,s,acc,S,_,_,_=>.refl _ _
 | p::l,i,s,acc,S,hm,hd,h=>by
  unfold mX at h ⊢;by_cases c:(doP s p.Part).2.Err=0
  ·rw [iN (by simpa using c)] at h ⊢;obtain ⟨g1,_⟩:=Zl s p.Part S (hm p (by simp));exact (HT S (hm p (by simp)) (hd p (by simp))).trans (Tt s0 d l (i+1) _ _ g1 (λq hq=>hm q (by simp [hq])) (λq hq=>hd q (by simp [hq])) h)
  rw [iP (by simpa using c)] at h;exact absurd h c
theorem Tu{s:Sto}{l:List Pie}(S:cV s)(hm:∀ p ∈ l,yQ p.Part=true){d:List UInt8}(hd:∀ p ∈ l,bl p.Part.Dir ≠ d):O3 d s (Bc s l):=by
 unfold Bc;split
 ·exact .refl _ _
 rename_i h;exact Tt s d l 0 s [] S hm hd (by simpa using h)
end Go.Cb
