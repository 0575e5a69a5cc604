/- A shard, plainly: what may be a command; pieces that are done, and told. -/
import Derived.Test.YtppeaaolgckfcaaGreatDoorE6sm
import Derived.Test.YtppeaaolgckfcaaGreatDoorPsm1
set_option linter.unusedVariables false
set_option linter.unusedSimpArgs false
namespace Go.Cb
open Go.Proofs Go.RowKit

/-! ### what may be a command -/
def W1(s:BY):Bool:=decide (bl s= []) || dK (bl s)
structure Du (c:Cmd):Prop where
 kind:1 <= c.Kind/\c.Kind <= 13
 pie:Fu 0 c.Pieces=true
 len:c.Pieces.length <= 16
 id:rH c.Id=true
 txn:rH c.Txn=true
 age:rH c.Age=true
 epoch:rH c.Epoch=true
 prefix_:W1 c.Prefix=true
 gone:c.Gone.length <= 32
 gin:∀ p ∈ c.Gone,inS (bl p) (bl c.Prefix)=true/\bl p ≠ bl c.Prefix
 store:cV c.Store
 sn:c.Store.Nodes.length <= 512
 st:c.Store.Turns.length <= 512
theorem Ce(s:BY):yC s=some (W1 s):=by
 unfold yC W1;rw [oU,mR,emp];by_cases c:bl s= []
 ·rw [iP (by simpa using c)];simp [c]
 rw [iN (by simpa using c)];simp [c]
theorem Gy(c:Cmd)(h1:c.Pieces.length <= 1000000)(h2:c.Gone.length <= 1000000)(h3:c.Store.Nodes.length <= 140737488351232)(h4:c.Store.Turns.length <= 140737488351232):∃ b,fE c=some b/\(b=true->Du c):=by
 unfold fE;rw [show gW c (((c.Pieces.length:Int) - 0:Int).toNat+1) 0 0=_ from Rd c h1 _ 0 0 (by omega) (by omega),List.drop_zero];cases pk:Fu 0 c.Pieces with
 | false=>rw [iN (by simp)];exact ⟨false,rfl,λh=>by cases h⟩
 | true=>
  rw [iP (by trivial)];have no:∃ b,some false=some b/\(b=true->Du c):=⟨false,rfl,λh=>by cases h⟩
  refine zF (λk i (_:Unit)=>fL c k i) (n:=c.Gone.length) (λi _=>∀ j (h:j < c.Gone.length),j < i->inS (bl c.Gone[j]) (bl c.Prefix)=true/\bl c.Gone[j] ≠ bl c.Prefix) (λb=>b=true->Du c) () (qR _) (λj h hj=>by omega) ?_ ?_
  ·intro k i _ hi P ih;unfold fL pS;rw [iP (by simpa using hi),bY hi];simp only [bS];rw [Fv];simp only [bS];cases g:inS (bl c.Gone[i]) (bl c.Prefix) with
   | false=>rw [iP (by rfl),iP (by trivial)];exact no
   | true=>
    rw [iN (by simp),oU];by_cases e:bl c.Gone[i]=bl c.Prefix
    ·rw [iP (by simpa using e),iP (by trivial)];exact no
    rw [iN (by simpa using e)];have nx:∀ b:Bool,∃ r,(if b=true then some false else fL c k (IntKind.i64.wrap ((i:Int)+1)))=some r/\(r=true->Du c):=λb=>by
     cases b with
     | true=>rw [iP (by trivial)];exact no
     | false=>
      rw [iN (by simp),hP (by omega)];refine ih () λj h hj=>?_;by_cases q:j=i
      ·subst q;exact ⟨g,e⟩
      exact P j h (by omega)
    by_cases h0:0 < i
    ·rw [iP (by simpa using h0),Zp h0 (by omega),bY (show i - 1 < c.Gone.length by omega)];exact nx _
    rw [iN (by simpa using h0)];exact nx false
  intro k _ P;unfold fL;rw [iN (by simp)];have j4:∀ b,fK c (decide ((c.Pieces.length:Int) <= 16))=some b->(b=true->c.Pieces.length <= 16/\rH c.Id=true/\rH c.Txn=true/\rH c.Age=true/\rH c.Epoch=true/\W1 c.Prefix=true/\c.Gone.length <= 32/\cV c.Store/\c.Store.Nodes.length <= 512/\c.Store.Turns.length <= 512):=by
   intro b hb hbt;subst hbt;unfold fK jG at hb;rw [Mu _ (by simp),Ce,Ce] at hb;simp only [bS] at hb;obtain ⟨u,u1,u2⟩:=H9 c.Store h3 h4;rw [u1] at hb;simp only [bS] at hb;by_cases c1:c.Pieces.length <= 16
   ·rw [iP (by simp;omega)] at hb;by_cases c2:([c.Id,c.Txn,c.Age,c.Epoch,c.Watch.Session,c.Watch.Num]:List Int).all rH=true
    ·rw [iP c2] at hb;by_cases c3:W1 c.Prefix=true
     ·rw [iP c3] at hb;by_cases c4:W1 c.Watch.Path=true
      ·rw [iP c4] at hb;by_cases c5:c.Gone.length <= 32
       ·rw [iP (by simp;omega)] at hb;by_cases c6:u=true
        ·rw [iP c6] at hb;by_cases c7:c.Store.Nodes.length <= 512
         ·rw [iP (by simp;omega)] at hb;simp only [List.all_cons,List.all_nil,Bool.and_true,Bool.and_eq_true] at c2;exact ⟨c1,c2.1,c2.2.1,c2.2.2.1,c2.2.2.2.1,c3,c5,u2.1 c6,c7,by simp at hb;omega⟩
         rw [iN (by simp;omega)] at hb;cases hb
        rw [iN c6] at hb;cases hb
       rw [iN (by simp;omega)] at hb;cases hb
      rw [iN c4] at hb;simp at hb
     rw [iN c3] at hb;simp at hb
    rw [iN c2] at hb;simp at hb
   rw [iN (by simp;omega)] at hb;simp at hb
  have tot:∀ q,∃ b,fK c q=some b:=λq=>by
   unfold fK jG;rw [Mu _ (by simp),Ce,Ce];simp only [bS];obtain ⟨u,u1,_⟩:=H9 c.Store h3 h4;rw [u1];simp only [bS]
   repeat' split
   all_goals exact ⟨_,rfl⟩
  have nof:∃ b,fK c false=some b/\(b=true->Du c):=by
   unfold fK jG;rw [iN (by simp),iN (by simp)];exact no
  by_cases k1:1 <= c.Kind
  ·by_cases k2:c.Kind <= 13
   ·rw [iP (decide_eq_true k1),iP (decide_eq_true k2)];split
    ·split
     ·obtain ⟨b,hb⟩:=tot (decide ((c.Pieces.length:Int) <= 16));refine ⟨b,hb,λh=>?_⟩;obtain ⟨a1,a2,a3,a4,a5,a6,a7,a8,a9,a10⟩:=j4 b hb h;exact ⟨⟨k1,k2⟩,pk,a1,a2,a3,a4,a5,a6,a7,λp hp=>by
       obtain ⟨j,hj,rfl⟩:=List.mem_iff_getElem.1 hp;exact P j hj hj,a8,a9,a10⟩
     exact nof
    exact nof
   rw [iP (decide_eq_true k1),iN (by simpa using k2)];exact nof
  rw [iN (by simpa using k1)];exact nof
theorem Du.may {c:Cmd} (H:Du c):∀ p ∈ c.Pieces,yQ p.Part=true:=λp hp=>(Vt _ 0 H.pie p hp).1
/-! ### pieces that are done -/
theorem AA(s0:Sto):∀ (l:List Pie) (i:Nat) (s:Sto) (acc:List Res),cV s->(∀ p ∈ l,yQ p.Part=true)->(mX s0 i s acc l).2.2.1=0->cV (mX s0 i s acc l).1/\(mX s0 i s acc l).1.Nodes.length <= s.Nodes.length+l.length/\(mX s0 i s acc l).1.Turns.length <= s.Turns.length+l.length
 | [],i,s,acc,S,_,_=>⟨S,by simp [mX],by simp [mX]⟩
 | p::l,i,s,acc,S,hm,h=>by
  unfold mX at h ⊢;by_cases c:(doP s p.Part).2.Err=0
  ·rw [iN (by simpa using c)] at h ⊢;obtain ⟨g1,g2,g3,_⟩:=Zl s p.Part S (hm p (by simp));obtain ⟨a1,a2,a3⟩:=AA s0 l (i+1) _ _ g1 (λq hq=>hm q (by simp [hq])) h;refine ⟨a1,?_,?_⟩ <;> simp only [List.length_cons] <;> omega
  rw [iP (by simpa using c)] at h;exact absurd h c
theorem CM(s:Sto)(l:List Pie)(S:cV s)(hm:∀ p ∈ l,yQ p.Part=true):cV (Bc s l)/\(Bc s l).Nodes.length <= s.Nodes.length+l.length/\(Bc s l).Turns.length <= s.Turns.length+l.length:=by
 unfold Bc;split
 ·exact ⟨S,by omega,by omega⟩
 rename_i h;exact AA s l 0 s [] S hm (by simpa using h)
theorem CN(s:Sto)(l:List Pie)(S:cV s)(hn:s.Nodes.length <= 50000)(ht:s.Turns.length <= 50000)(hl:l.length <= 1000)(hm:∀ p ∈ l,yQ p.Part=true){w:bC}(W:rN w)(hw:w.Sessions.length <= 900000) :
  ∃ u,uV s.Nodes s.Turns w.Watches w.Sessions l=some (EF s l,(Bc s l).Nodes,(Bc s l).Turns,u.Watches,u.Sessions)/\rN u/\u.Sessions.length=w.Sessions.length:=by
 unfold uV EF Bc;obtain ⟨h1,h2⟩:=Pu s l S hn ht hl hm;rw [show (⟨s.Nodes,s.Turns⟩:Sto)=s from rfl,h1];simp only [bS];by_cases e:(mX s 0 s [] l).2.2.1=0
 ·obtain ⟨_,_,_,g4,g5⟩:=h2 e;obtain ⟨u,u1,u2,u3⟩:=KK W hw l _ (by omega) g4 g5;rw [iN (by simpa using e),iN (by simpa using e),iN (by simpa using e),u1];exact ⟨u,rfl,u2,u3⟩
 rw [iP (by simpa using e),iP e,iP e];exact ⟨w,rfl,W,rfl⟩
end Go.Cb
