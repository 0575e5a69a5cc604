/- A shard, plainly: what may be a command; pieces that are done, and told. -/
import Derived.Test.YteakhlfapjaodaaGreatDoorE6sh
import Derived.Test.YteakhlfapjaodaaGreatDoorPsh1
set_option linter.unusedVariables false
set_option linter.unusedSimpArgs false
namespace Go.Cb
open Go.Proofs Go.RowKit

/-! ### what may be a command -/
def Hc(s:BY):Bool:=decide (bl s= []) || eR (bl s)
structure Ae (c:Cmd):Prop where
 kind:1 <= c.Kind/\c.Kind <= 13
 pie:Bm 0 c.Pieces=true
 len:c.Pieces.length <= 16
 id:nQ c.Id=true
 txn:nQ c.Txn=true
 age:nQ c.Age=true
 epoch:nQ c.Epoch=true
 prefix_:Hc c.Prefix=true
 gone:c.Gone.length <= 32
 gin:∀ p ∈ c.Gone,inS (bl p) (bl c.Prefix)=true/\bl p ≠ bl c.Prefix
 store:cI c.Store
 sn:c.Store.Nodes.length <= 512
 st:c.Store.Turns.length <= 512
theorem Ir(s:BY):tJ s=some (Hc s):=by
 unfold tJ Hc;rw [nY,nB,emp];by_cases c:bl s= []
 ·rw [iP (by simpa using c)];simp [c]
 rw [iN (by simpa using c)];simp [c]
theorem Bo(c:Cmd)(h1:c.Pieces.length <= 1000000)(h2:c.Gone.length <= 1000000)(h3:c.Store.Nodes.length <= 140737488351232)(h4:c.Store.Turns.length <= 140737488351232):∃ b,eE c=some b/\(b=true->Ae c):=by
 unfold eE;rw [show gF c (((c.Pieces.length:Int) - 0:Int).toNat+1) 0 0=_ from Ps c h1 _ 0 0 (by omega) (by omega),List.drop_zero];cases pk:Bm 0 c.Pieces with
 | false=>rw [iN (by simp)];exact ⟨false,rfl,λh=>by cases h⟩
 | true=>
  rw [iP (by trivial)];have no:∃ b,some false=some b/\(b=true->Ae c):=⟨false,rfl,λh=>by cases h⟩
  refine vT (λk i (_:Unit)=>eV c k i) (n:=c.Gone.length) (λi _=>∀ j (h:j < c.Gone.length),j < i->inS (bl c.Gone[j]) (bl c.Prefix)=true/\bl c.Gone[j] ≠ bl c.Prefix) (λb=>b=true->Ae c) () (nM _) (λj h hj=>by omega) ?_ ?_
  ·intro k i _ hi P ih;unfold eV oZ;rw [iP (by simpa using hi),bU hi];simp only [bS];rw [Lt];simp only [bS];cases g:inS (bl c.Gone[i]) (bl c.Prefix) with
   | false=>rw [iP (by rfl),iP (by trivial)];exact no
   | true=>
    rw [iN (by simp),nY];by_cases e:bl c.Gone[i]=bl c.Prefix
    ·rw [iP (by simpa using e),iP (by trivial)];exact no
    rw [iN (by simpa using e)];have nx:∀ b:Bool,∃ r,(if b=true then some false else eV c k (IntKind.i64.wrap ((i:Int)+1)))=some r/\(r=true->Ae c):=λb=>by
     cases b with
     | true=>rw [iP (by trivial)];exact no
     | false=>
      rw [iN (by simp),gV (by omega)];refine ih () λj h hj=>?_;by_cases q:j=i
      ·subst q;exact ⟨g,e⟩
      exact P j h (by omega)
    by_cases h0:0 < i
    ·rw [iP (by simpa using h0),DD h0 (by omega),bU (show i - 1 < c.Gone.length by omega)];exact nx _
    rw [iN (by simpa using h0)];exact nx false
  intro k _ P;unfold eV;rw [iN (by simp)];have j4:∀ b,eU c (decide ((c.Pieces.length:Int) <= 16))=some b->(b=true->c.Pieces.length <= 16/\nQ c.Id=true/\nQ c.Txn=true/\nQ c.Age=true/\nQ c.Epoch=true/\Hc c.Prefix=true/\c.Gone.length <= 32/\cI c.Store/\c.Store.Nodes.length <= 512/\c.Store.Turns.length <= 512):=by
   intro b hb hbt;subst hbt;unfold eU iL at hb;rw [Ls _ (by simp),Ir,Ir] at hb;simp only [bS] at hb;obtain ⟨u,u1,u2⟩:=N5 c.Store h3 h4;rw [u1] at hb;simp only [bS] at hb;by_cases c1:c.Pieces.length <= 16
   ·rw [iP (by simp;omega)] at hb;by_cases c2:([c.Id,c.Txn,c.Age,c.Epoch,c.Watch.Session,c.Watch.Num]:List Int).all nQ=true
    ·rw [iP c2] at hb;by_cases c3:Hc c.Prefix=true
     ·rw [iP c3] at hb;by_cases c4:Hc c.Watch.Path=true
      ·rw [iP c4] at hb;by_cases c5:c.Gone.length <= 32
       ·rw [iP (by simp;omega)] at hb;by_cases c6:u=true
        ·rw [iP c6] at hb;by_cases c7:c.Store.Nodes.length <= 512
         ·rw [iP (by simp;omega)] at hb;simp only [List.all_cons,List.all_nil,Bool.and_true,Bool.and_eq_true] at c2;exact ⟨c1,c2.1,c2.2.1,c2.2.2.1,c2.2.2.2.1,c3,c5,u2.1 c6,c7,by simp at hb;omega⟩
         rw [iN (by simp;omega)] at hb;cases hb
        rw [iN c6] at hb;cases hb
       rw [iN (by simp;omega)] at hb;cases hb
      rw [iN c4] at hb;simp at hb
     rw [iN c3] at hb;simp at hb
    rw [iN c2] at hb;simp at hb
   rw [iN (by simp;omega)] at hb;simp at hb
  have tot:∀ q,∃ b,eU c q=some b:=λq=>by
   unfold eU iL;rw [Ls _ (by simp),Ir,Ir];simp only [bS];obtain ⟨u,u1,_⟩:=N5 c.Store h3 h4;rw [u1];simp only [bS]
   repeat' split
   all_goals exact ⟨_,rfl⟩
  have nof:∃ b,eU c false=some b/\(b=true->Ae c):=by
   unfold eU iL;rw [iN (by simp),iN (by simp)];exact no
  by_cases k1:1 <= c.Kind
  ·by_cases k2:c.Kind <= 13
   ·rw [iP (decide_eq_true k1),iP (decide_eq_true k2)];split
    ·split
     ·obtain ⟨b,hb⟩:=tot (decide ((c.Pieces.length:Int) <= 16));refine ⟨b,hb,λh=>?_⟩;obtain ⟨a1,a2,a3,a4,a5,a6,a7,a8,a9,a10⟩:=j4 b hb h;exact ⟨⟨k1,k2⟩,pk,a1,a2,a3,a4,a5,a6,a7,λp hp=>by
       obtain ⟨j,hj,rfl⟩:=List.mem_iff_getElem.1 hp;exact P j hj hj,a8,a9,a10⟩
     exact nof
    exact nof
   rw [iP (decide_eq_true k1),iN (by simpa using k2)];exact nof
  rw [iN (by simpa using k1)];exact nof
theorem Ae.may {c:Cmd} (H:Ae c):∀ p ∈ c.Pieces,tW p.Part=true:=λp hp=>(Uw _ 0 H.pie p hp).1
/-! ### pieces that are done -/
theorem Zg(s0:Sto):∀ (l:List Pie) (i:Nat) (s:Sto) (acc:List Res),cI s->(∀ p ∈ l,tW p.Part=true)->(fI s0 i s acc l).2.2.1=0->cI (fI s0 i s acc l).1/\(fI s0 i s acc l).1.Nodes.length <= s.Nodes.length+l.length/\(fI s0 i s acc l).1.Turns.length <= s.Turns.length+l.length
 | [],i,s,acc,S,_,_=>⟨S,by simp [fI],by simp [fI]⟩
 | p::l,i,s,acc,S,hm,h=>by
  unfold fI at h ⊢;by_cases c:(doP s p.Part).2.Err=0
  ·rw [iN (by simpa using c)] at h ⊢;obtain ⟨g1,g2,g3,_⟩:=Lr s p.Part S (hm p (by simp));obtain ⟨a1,a2,a3⟩:=Zg s0 l (i+1) _ _ g1 (λq hq=>hm q (by simp [hq])) h;refine ⟨a1,?_,?_⟩ <;> simp only [List.length_cons] <;> omega
  rw [iP (by simpa using c)] at h;exact absurd h c
theorem Ty(s:Sto)(l:List Pie)(S:cI s)(hm:∀ p ∈ l,tW p.Part=true):cI (G6 s l)/\(G6 s l).Nodes.length <= s.Nodes.length+l.length/\(G6 s l).Turns.length <= s.Turns.length+l.length:=by
 unfold G6;split
 ·exact ⟨S,by omega,by omega⟩
 rename_i h;exact Zg s l 0 s [] S hm (by simpa using h)
theorem BM(s:Sto)(l:List Pie)(S:cI s)(hn:s.Nodes.length <= 50000)(ht:s.Turns.length <= 50000)(hl:l.length <= 1000)(hm:∀ p ∈ l,tW p.Part=true){w:aY}(W:qP w)(hw:w.Sessions.length <= 900000) :
  ∃ u,tX s.Nodes s.Turns w.Watches w.Sessions l=some (DC s l,(G6 s l).Nodes,(G6 s l).Turns,u.Watches,u.Sessions)/\qP u/\u.Sessions.length=w.Sessions.length:=by
 unfold tX DC G6;obtain ⟨h1,h2⟩:=Bn s l S hn ht hl hm;rw [show (⟨s.Nodes,s.Turns⟩:Sto)=s from rfl,h1];simp only [bS];by_cases e:(fI s 0 s [] l).2.2.1=0
 ·obtain ⟨_,_,_,g4,g5⟩:=h2 e;obtain ⟨u,u1,u2,u3⟩:=JJ W hw l _ (by omega) g4 g5;rw [iN (by simpa using e),iN (by simpa using e),iN (by simpa using e),u1];exact ⟨u,rfl,u2,u3⟩
 rw [iP (by simpa using e),iP e,iP e];exact ⟨w,rfl,W,rfl⟩
end Go.Cb
