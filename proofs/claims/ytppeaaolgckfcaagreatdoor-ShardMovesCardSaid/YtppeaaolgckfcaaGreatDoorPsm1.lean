/- The plain laws. -/
import Derived.Test.YtppeaaolgckfcaaGreatDoorKsm1
import Derived.Test.YtppeaaolgckfcaaGreatDoorKsm2
import Derived.Test.YtppeaaolgckfcaaGreatDoorKsm4
import Derived.Test.YtppeaaolgckfcaaGreatDoorKsm3
import Derived.Sort.Walk0
import Derived.ChangeKeysEq
set_option linter.unusedVariables false
set_option linter.unusedSimpArgs false
namespace Go.Cb
open Go.Proofs Go.RowKit
theorem w64{n:Int}(h:-9223372036854775808 <= n)(h':n <= 9223372036854775807):IntKind.i64.wrap n=n:=IntWalk.i64_in n ⟨h,h'⟩
theorem dJ{α:Type}{p:Prop} [Decidable p] (h:p) (f:Unit->Option α):(ck p).bind f=f ():=by simp [ck,h]
theorem bY{α:Type}{l:List α}{i:Nat}(h:i < l.length):idx l (i:Int)=some l[i]:=by simp [idx,h]
theorem DV{α β:Type}{l:List α}{i:Nat}{x:α}(h:l[i]? =some x)(f:α->Option β):(idx l (i:Int)).bind f=f x:=by simp [idx,h]
def bl(s:BY):List UInt8:=s.data.toList
theorem dl(s:BY):s.data.toList=bl s:=rfl
theorem Yx{s:BY}{i:Nat}(h:i < (bl s).length):idx s.data.toList (i:Int)=some (bl s)[i]:=bY h
def mk(l:List UInt8):BY:=⟨l.toArray⟩
theorem iV(l:List UInt8):bl (mk l)=l:=rfl
theorem Fr(s:BY):mk (bl s)=s:=by cases s;simp [mk,bl]
theorem Q7{s t:BY}(h:bl s=bl t):s=t:=by rw [← Fr s,h,Fr]
theorem V9(s t:BY):bl (s ++ t)=bl s ++ bl t:=by simp [bl,ByteArray.data_append]
theorem dY(s:BY):s.size=(bl s).length:=by simp [bl]
theorem r6(s:BY)(i j:Nat):bl (s.extract i j)=((bl s).take j).drop i:=by
 unfold bl;rw [ByteArray.data_extract];simp [Array.toList_extract,List.extract_eq_take_drop,List.drop_take]
theorem Hz(x y:BY):sEq x y=true ↔ x=y:=by
 unfold sEq;rw [ByteArray.toList_eq,ByteArray.toList_eq,beq_iff_eq];constructor
 ·intro h;cases x;cases y;simp at h;simp [h]
 rintro rfl;rfl
theorem oU(x y:BY):sEq x y=decide (bl x=bl y):=by
 rw [Bool.eq_iff_iff,Hz];simp only [decide_eq_true_eq];exact ⟨λh=>by rw [h],Q7⟩
theorem Eo(x y:BY):sLt x y=decide (bl x < bl y):=by
 unfold sLt;rw [Go.Proofs.bytesLess_eq,ByteArray.toList_eq,ByteArray.toList_eq];rfl

def Ep(c:UInt8):Bool:=(decide (97 <= c.toNat) && decide (c.toNat <= 122)) || (decide (48 <= c.toNat) && decide (c.toNat <= 57)) || decide (c.toNat=45)
def gS(l:List UInt8):Bool:=!l.isEmpty && decide (l.length <= 12) && l.all Ep
def letters:BY:=⟨#[97,98,99,100,101,102,103,104,105,106,107,108,109,110,111,112,113,114,115,116,117,118,119,120,121,122,48,49,50,51,52,53,54,55,56,57,45]⟩
theorem JG:∀ r:Fin 128,K3 (r.val:Int)=some (!Ep (UInt8.ofNat r.val)):=by decide +kernel
theorem JH:∀ (i:Fin 3) (c:Fin 128),ixB (letters.extract (i.val+2) 37) ((c.val:Int)+128)= -1:=by decide +kernel
theorem BA:∀ i:Fin 37,((letters.data.toList[i.val]!).toNat < 128):=by decide +kernel
theorem JI(x:Int)(h:128 <= x):∃ (n:Fin 3) (c:Fin 128),(Utf8.encode x).size=n.val+2/\(Utf8.encode x).data.toList[n.val+1]? =some (UInt8.ofNat (c.val+128)):=by
 unfold Utf8.encode;generalize hc:(if Utf8.valid x=true then x.toNat else Utf8.runeError)=c;have h128:128 <= c:=by
  rw [← hc];split
  ·omega
  decide
 simp only;rw [iN (by omega)];split
 ·exact ⟨0,⟨c % 64,by omega⟩,rfl,by simp [Nat.add_comm]⟩
 split
 ·exact ⟨1,⟨c % 64,by omega⟩,rfl,by simp [Nat.add_comm]⟩
 exact ⟨2,⟨c % 64,by omega⟩,rfl,by simp [Nat.add_comm]⟩
theorem GH(r:Int)(h:128 <= r):K3 r=some true:=by
 have key:vL letters r=some (-1):=by
  unfold vL sI;rw [iP (by simp;omega),show decide (r < 128)=false from by simp;omega];simp only [Bool.false_eq_true,if_false];by_cases e:r=65533
  ·subst e;kernel_rfl
  rw [iN (by simp;exact e)];have hv:∃ b,pQ r=some b:=by
   unfold pQ mZ mY;split <;> (try split) <;> (try split) <;> (try split) <;> exact ⟨_,rfl⟩
  obtain ⟨b,hb⟩:=hv;rw [hb];simp only [bS];split
  ·rfl
  obtain ⟨n,c,hs,hl⟩:=JI r h;have hn:=n.isLt;have hcl:=c.isLt;unfold wP;have e1:IntKind.i64.wrap (((Utf8.encode r).size:Int) - 1)=((n.val+1:Nat):Int):=by rw [hs,w64 (by omega) (by omega)];omega
  rw [e1];have e2:(letters.size:Int)=37:=rfl;rw [iP (by rw [e2];simp;omega)];have hll:n.val+1 < letters.data.toList.length:=by show n.val+1 < 37;omega
  rw [bY hll];simp only [bS];rw [DV hl];have e3:(UInt8.ofNat (c.val+128)).toNat=c.val+128:=by simp;omega
  rw [e3];have h7:=BA ⟨n.val+1,by omega⟩;rw [getElem!_pos letters.data.toList (n.val+1) hll] at h7;rw [iP (by simp only [bne_iff_ne,ne_eq];omega)];have e4:IntKind.i64.wrap (((n.val+1:Nat):Int)+1)=((n.val+2:Nat):Int):=by rw [w64 (by omega) (by omega)];omega
  rw [e4,dJ (by rw [e2];omega),DV hl,e3];have e5:mE (letters.extract ((n.val+2:Nat):Int).toNat letters.size) (((c.val+128:Nat)):Int)=some (-1):=by
   show some (ixB (letters.extract (n.val+2) 37) (((c.val+128:Nat)):Int))=_;rw [show (((c.val+128:Nat)):Int)=(c.val:Int)+128 from by omega,JH n c]
  rw [e5];rfl
 show (sJ letters r).bind _=_;unfold sJ;rw [key];rfl
theorem NV{s:BY}{i:Nat}{c:UInt8}(h:(bl s)[i]? =some c)(hc:c.toNat < 128):Utf8.decode s i=(c.toNat,1):=by
 have hg:s.get! i=c:=by
  obtain ⟨hi,hx⟩:=List.getElem?_eq_some_iff.1 h;cases s with | mk d=>
  show d[i]! =c;rw [getElem!_pos d i (by simpa [bl] using hi)];exact hx
 unfold Utf8.decode;simp only [Nat.add_zero,hg];rw [iP hc]
theorem JJ{s:BY}{i:Nat}{c:UInt8}(h:(bl s)[i]? =some c)(hc:128 <= c.toNat):128 <= (Utf8.decode s i).1:=by
 have hg:s.get! i=c:=by
  obtain ⟨hi,hx⟩:=List.getElem?_eq_some_iff.1 h;cases s with | mk d=>
  show d[i]! =c;rw [getElem!_pos d i (by simpa [bl] using hi)];exact hx
 unfold Utf8.decode;simp only [Nat.add_zero,hg];rw [iN (by omega)];have e:Utf8.runeError=65533:=rfl;split
 ·split
  ·simp;omega
  show 128 <= Utf8.runeError;rw [e];omega
 split
 ·split
  ·rename_i h;simp at h;simp;omega
  show 128 <= Utf8.runeError;rw [e];omega
 split
 ·split
  ·rename_i h;simp at h;simp;omega
  show 128 <= Utf8.runeError;rw [e];omega
 show 128 <= Utf8.runeError;rw [e];omega
theorem JK{c:UInt8}(h:128 <= c.toNat):Ep c=false:=by simp [Ep];omega
theorem GI(s:BY):∀ (k i:Nat),i <= (bl s).length->(bl s).length+1 <= i+k->∃ v:Int,oC s true k i=some v/\(decide (v ≥ 0)= !((bl s).drop i).all Ep)
 | 0,i,h0,h=>by omega
 | k+1,i,h0,h=>by
  unfold oC;by_cases hi:i < (bl s).length
  ·rw [iP (by rw [dY];simpa using hi)];have hx:(bl s)[i]? =some (bl s)[i]:=List.getElem?_eq_getElem hi;have hd:(bl s).drop i=(bl s)[i]::(bl s).drop (i+1):=List.drop_eq_getElem_cons hi;by_cases hc:((bl s)[i]).toNat < 128
   ·rw [NV hx hc];have:=JG ⟨_,hc⟩;simp only at this;rw [this];simp only [bS,UInt8.ofNat_toNat];by_cases hl:Ep (bl s)[i]=true
    ·rw [hl];simp only [Bool.not_true,Bool.false_beq,Bool.not_true,Bool.false_eq_true,if_false];obtain ⟨v,h1,h2⟩:=GI s k (i+1) (by omega) (by omega);exact ⟨v,h1,by rw [h2,hd,List.all_cons,hl,Bool.true_and]⟩
    simp only [Bool.not_eq_true] at hl;rw [hl];exact ⟨_,rfl,by rw [hd,List.all_cons,hl];simp⟩
   rw [GH _ (by have:=JJ hx (by omega);omega)];exact ⟨_,rfl,by rw [hd,List.all_cons,JK (by omega)];simp⟩
  rw [iN (by rw [dY];simpa using hi)];exact ⟨_,rfl,by rw [List.drop_eq_nil_of_le (by omega)];rfl⟩
theorem emp:bl (ByteArray.mk #[])= []:=rfl
theorem Gu:bl (ByteArray.mk #[47])= [47]:=rfl
theorem Nx(s:BY):D5 s=some (gS (bl s)):=by
 unfold D5 wQ w6 w5;obtain ⟨v,h1,h2⟩:=GI s (s.size+2) 0 (by omega) (by rw [dY];omega);rw [h1];simp only [bS,h2,List.drop_zero,Bool.not_not,oU,emp];unfold gS;have e:(s.size:Int) <= 12 ↔ (bl s).length <= 12:=by rw [dY];omega
 by_cases h0:bl s= []
 ·rw [iN (by simp [h0])];simp [h0]
 rw [iP (by simp [h0])];have h0':(bl s).isEmpty=false:=by cases hz:bl s with | nil=>exact absurd hz h0 | cons _ _=>rfl
 by_cases h1:(bl s).length <= 12
 ·rw [iP (by simp only [decide_eq_true_eq];exact e.2 h1)];simp [h0',h1]
 rw [iN (by simp only [decide_eq_true_eq];exact λh=>h1 (e.1 h))];simp [h0',h1]
theorem Yy(s:BY)(hs:(bl s).length <= 100000000):∀ (k i:Nat),i <= (bl s).length->(bl s).length+1 <= i+k->fH s k (i:Int)=some (((bl s).drop i).all Ep && (decide (1 <= (bl s).length) && decide ((bl s).length <= 12)))
 | 0,i,h0,h=>by omega
 | k+1,i,h0,h=>by
  unfold fH;by_cases hi:i < (bl s).length
  ·rw [iP (by rw [dY];simp;simpa using hi),Yx hi];have hd:(bl s).drop i=(bl s)[i]::(bl s).drop (i+1):=List.drop_eq_getElem_cons hi;have ih:=Yy s hs k (i+1) (by omega) (by omega);have e1:IntKind.i64.wrap ((i:Int)+1)=((i+1:Nat):Int):=by rw [w64 (by omega) (by omega)];omega
   simp only [bS];rw [hd,List.all_cons];generalize (bl s)[i]=c;by_cases hl:Ep c=true
   ·rw [hl,Bool.true_and,← ih,← e1];simp [Ep] at hl;unfold gZ;by_cases a1:c.toNat=45
    ·rw [iN (by simp;omega)];rfl
    rw [iP (by simp;omega)];by_cases a2:c.toNat < 97
    ·rw [iP (by simp;omega),iN (by simp;omega),show decide ((c.toNat:Int) > 57)=false from by simp;omega];rfl
    rw [iN (by simp;omega),iN (by simp;omega)];rfl
   simp only [Bool.not_eq_true] at hl;rw [hl,Bool.false_and];simp [Ep] at hl;unfold gZ;rw [iP (by simp;omega)];by_cases a2:c.toNat < 97
   ·rw [iP (by simp;omega)];by_cases a3:c.toNat < 48
    ·rw [iP (by simp;omega)];rfl
    rw [iN (by simp;omega),show decide ((c.toNat:Int) > 57)=true from by simp;omega];rfl
   rw [iN (by simp;omega),iP (by simp;omega),iN (by simp;omega),show decide ((c.toNat:Int) > 57)=true from by simp;omega];rfl
  rw [iN (by rw [dY];simp;simpa using hi),List.drop_eq_nil_of_le (by omega),dY];simp only [List.all_nil,Bool.true_and];by_cases h1:1 <= (bl s).length
  ·rw [iP (by simp only [decide_eq_true_eq];omega),decide_eq_true h1,Bool.true_and];congr 1;rw [Bool.eq_iff_iff];simp only [decide_eq_true_eq];omega
  rw [iN (by simp only [decide_eq_true_eq];omega),decide_eq_false h1];rfl
theorem JL(s:BY)(hs:(bl s).length <= 100000000):xE s=some (gS (bl s)):=by
 unfold xE;have:=Yy s hs (((s.size:Int) - 0:Int).toNat+1) 0 (by omega) (by rw [dY];omega);refine this.trans ?_;unfold gS;have:decide (1 <= (bl s).length)= !(bl s).isEmpty:=by cases bl s <;> simp
 rw [List.drop_zero,this,Bool.and_comm]
def iO:List UInt8->List (List UInt8)
 | []=>[[]]
 | c::r=>if c=47 then []::iO r else (c::(iO r).head!)::(iO r).tail
theorem c47{c:UInt8}(h:c ≠ 47):c.toNat ≠ 47:=λe=>h (UInt8.toNat_inj.1 e)
theorem NW(r:List UInt8):iO (47::r)= []::iO r:=by rw [iO,iP rfl]
theorem GJ{c:UInt8}(h:c ≠ 47)(r:List UInt8):iO (c::r)=(c::(iO r).head!)::(iO r).tail:=by rw [iO,iN h]
theorem BT(l:List UInt8):iO l ≠ []:=by
 cases l with
 | nil=>simp [iO]
 | cons c r=>unfold iO;split <;> simp
/-- what lies ahead of the first '/', what lies behind. -/
theorem G9:∀ (l:List UInt8),47 ∉ l->iO l= [l]
 | [],_=>rfl
 | c::r,h=>by
  simp at h;rw [GJ (λe=>h.1 e.symm),G9 r h.2];rfl
theorem Aa:∀ (a b:List UInt8),47 ∉ a->iO (a ++ 47::b)=a::iO b
 | [],b,_=>NW b
 | c::r,b,h=>by
  simp at h;show iO (c::(r ++ 47::b))=_;rw [GJ (λe=>h.1 e.symm),Aa r b h.2];rfl
theorem Qx(l:List UInt8):47 ∉ l∨∃ a b,l=a ++ 47::b/\47 ∉ a:=by
 induction l with
 | nil=>exact .inl (by simp)
 | cons c r ih=>
  by_cases hc:c=47
  ·exact .inr ⟨[],r,by rw [hc];rfl,by simp⟩
  rcases ih with h | ⟨a,b,rfl,h⟩
  ·exact .inl (by simp;exact ⟨λe=>hc e.symm,h⟩)
  exact .inr ⟨c::a,b,rfl,by simp;exact ⟨λe=>hc e.symm,h⟩⟩
def fV(ps:List (List UInt8)):List UInt8:=ps.flatMap (47::·)
def oV(ps:List (List UInt8)):List UInt8:=if ps= [] then [47] else fV ps
theorem Ia{l:List UInt8}(h:gS l=true):47 ∉ l:=by
 intro hm;unfold gS at h;simp at h;have:=h.2 47 hm;simp [Ep] at this
theorem Dy{l:List UInt8}(h:gS l=true):l ≠ []:=by
 rintro rfl;simp [gS] at h
theorem Ji:∀ (a:List UInt8) (ps:List (List UInt8)),47 ∉ a->(∀ p ∈ ps,47 ∉ p)->iO (a ++ fV ps)=a::ps
 | a,[],h,_=>by simp [fV,G9 a h]
 | a,p::ps,h,hp=>by
  show iO (a ++ (47::(p ++ fV ps)))=_;rw [Aa a _ h,Ji p ps (hp p (by simp)) λq hq=>hp q (by simp [hq])]
theorem Qy:∀ (n:Nat) (l:List UInt8),l.length <= n->fV (iO l)=47::l
 | n,l,hn=>by
  rcases Qx l with h | ⟨a,b,rfl,h⟩
  ·rw [G9 l h];simp [fV]
  ·simp at hn;rw [Aa a b h];cases n with
   | zero=>omega
   | succ n=>
    have:=Qy n b (by omega);show (47::a) ++ fV (iO b)=_;rw [this];simp

def parts:List UInt8->Option (List (List UInt8))
 | []=>none
 | c::r=>if c=47 then (if r= [] then some [] else if (iO r).all gS=true/\(iO r).length <= 6 then some (iO r) else none) else none
theorem iR(p:List UInt8)(ps:List (List UInt8)):parts p=some ps ↔ p=oV ps/\ps.all gS=true/\ps.length <= 6:=by
 constructor
 ·intro h;cases p with
  | nil=>cases h
  | cons c r=>
   rw [parts] at h;by_cases hc:c=47
   ·subst hc;rw [iP rfl] at h;by_cases hr:r= []
    ·rw [iP hr] at h;cases h;subst hr;exact ⟨rfl,rfl,by simp⟩
    rw [iN hr] at h;by_cases h2:(iO r).all gS=true/\(iO r).length <= 6
    ·rw [iP h2] at h;cases h;refine ⟨?_,h2.1,h2.2⟩;unfold oV;rw [iN (BT r),Qy _ r (Nat.le_refl _)]
    rw [iN h2] at h;cases h
   rw [iN hc] at h;cases h
 rintro ⟨rfl,h1,h2⟩;cases ps with
 | nil=>rfl
 | cons t ts=>
  have h1':∀ q ∈ t::ts,gS q=true:=by simpa using h1
  have ht:iO (t ++ fV ts)=t::ts:=Ji t ts (Ia (h1' t (by simp))) λq hq=>Ia (h1' q (by simp [hq]));have hne:t ++ fV ts ≠ []:=by
   intro e;exact Dy (h1' t (by simp)) (List.append_eq_nil_iff.1 e).1
  rw [show oV (t::ts)=47::(t ++ fV ts) from rfl,parts,iP rfl,iN hne,ht,iP ⟨h1,h2⟩]
def spl(p:BY):List BY×Bool:=match parts (bl p) with
 | some ps=>(ps.map mk,true)
 | none=>([],false)

theorem SU(s:BY):mG s (ByteArray.mk #[47])=some (match bl s with | []=>(s,false) | c::r=>if c=47 then (mk r,true) else (s,false)):=by
 unfold mG jQ jP;have e1:((ByteArray.mk #[47]).size:Int)=1:=rfl;rw [e1];have hs:=dY s;cases hb:bl s with
 | nil=>
  rw [hb] at hs;rw [iN (by rw [hs];simp)];rfl
 | cons c r=>
  rw [hb] at hs;simp at hs;rw [iP (by rw [hs];simp only [decide_eq_true_eq];omega),dJ (by rw [hs];omega)];have e2:bl (s.extract 0 (1:Int).toNat)= [c]:=by rw [r6,hb];rfl
  simp only [bS];rw [oU,e2,Gu];by_cases hc:c=47
  ·subst hc;rw [iN (by simp),dJ (by rw [hs];omega)];have e3:s.extract (1:Int).toNat s.size=mk r:=by
    apply Q7;rw [r6,hb,iV,hs];simp
   simp only [bS,e3];rfl
  rw [iP (by simp;exact hc)];simp only [bS];rw [iN hc]
theorem JM{s:BY}(h:47 ∉ bl s):mE s 47=some (-1):=by
 show some (ixB s 47)=_;congr 1;unfold ixB;have:(List.range s.size).find? (λi=>s[i]! == (47:Int).toNat.toUInt8)=none:=by
  rw [List.find?_eq_none];intro i hi;simp only [List.mem_range] at hi;intro hx;apply h;have hi':i < (bl s).length:=by rw [← dY];exact hi
  have hx:s[i]! =47:=by simpa using hx
  rw [getElem!_pos s i hi] at hx;have:(bl s)[i]=47:=hx;rw [← this];exact List.getElem_mem _
 rw [this]
theorem JN{s:BY}{a b:List UInt8}(hs:bl s=a ++ 47::b)(h:47 ∉ a):mE s 47=some (a.length:Int):=by
 show some (ixB s 47)=_;congr 1;unfold ixB;have hl:a.length < s.size:=by rw [dY,hs];simp
 have hat:∀ i (hi:i < s.size),s[i]! =(a ++ 47::b)[i]'(by rw [← hs,← dY];exact hi):=λi hi=>by
  rw [getElem!_pos s i hi];have:(bl s)[i]'(by rw [← dY];exact hi)=(a ++ 47::b)[i]'(by rw [← hs,← dY];exact hi):=by simp only [hs]
  exact this
 have:(List.range s.size).find? (λi=>s[i]! == (47:Int).toNat.toUInt8)=some a.length:=by
  rw [List.find?_range_eq_some];refine ⟨?_,List.mem_range.2 hl,λj hj=>?_⟩
  ·rw [hat _ hl];simp
  rw [hat _ (by omega),List.getElem_append_left hj];simp;intro e;exact h (e ▸ List.getElem_mem _)
 rw [this]

theorem Qz:∀ (k:Nat) (s:BY) (acc:List BY),acc.length <= 6->(bl s).length+1 <= k->rL k s acc=some (match bl s with
  | []=>if acc= [] then ([],false) else (acc,true)
  | c::r=>if c=47 then (if (iO r).all gS=true/\acc.length+(iO r).length <= 6 then (acc ++ (iO r).map mk,true) else ([],false)) else ([],false))
 | 0,s,acc,_,h=>by omega
 | k+1,s,acc,ha,h=>by
  unfold rL;rw [oU,emp];cases hb:bl s with
  | nil=>
   rw [iN (by simp)];cases acc with
   | nil=>rfl
   | cons x xs=>rw [iP (by simp),iN (by simp)]
  | cons c r=>
   rw [iP (by simp),SU s,hb];simp only [bS];by_cases hc:c=47
   ·subst hc;simp only [if_true,Bool.not_true,Bool.false_eq_true,if_false];have htl:1 <= (iO r).length:=by have:=BT r;cases h:iO r with | nil=>exact absurd h this | cons _ _=>simp
    by_cases h6:acc.length=6
    ·rw [iP (by simp;omega),iN (by rintro ⟨_,h⟩;omega)];rfl
    rw [iN (by simp;omega)];have hrs:(mk r).size=r.length:=by rw [dY,iV]
    have hlen:(bl s).length=r.length+1:=by rw [hb];simp
    rcases Qx r with hns | ⟨a,b,rfl,hns⟩
    ·rw [JM (by rw [iV];exact hns)];simp only [bS];rw [iP (by decide)];unfold yB;rw [hrs,dJ (by omega),Nx,r6,iV];simp only [bS,Int.toNat_natCast,List.take_length,List.drop_zero];rw [G9 r hns];cases hp:gS r
     ·simp [hp,tZ]
     rw [iN (by simp),dJ (by omega),dJ (by simp [LIM];omega),dJ (by omega)];have e1:bl ((mk r).extract r.length r.length)= []:=by rw [r6,iV];simp
     rw [Qz k _ _ (by simp;omega) (by rw [e1];simp;omega),e1];have e2:(mk r).extract 0 r.length=mk r:=by apply Q7;rw [r6,iV];simp
     simp only [];rw [iN (by simp),iP ⟨by simp [hp],by simp;omega⟩,e2];rfl
    rw [JN (s:=mk (a ++ 47::b)) (a:=a) (b:=b) (iV _) hns];simp only [bS];rw [iN (by simp)];unfold yB;have hal:(a ++ 47::b).length=a.length+b.length+1:=by simp;omega
    rw [hrs,dJ (by omega),Nx,r6,iV];simp only [bS,Int.toNat_natCast,List.drop_zero];rw [List.take_left,Aa a b hns];cases hp:gS a
    ·simp [hp,tZ]
    rw [iN (by simp),dJ (by omega),dJ (by simp [LIM];omega),dJ (by omega)];have e1:bl ((mk (a ++ 47::b)).extract a.length (a ++ 47::b).length)=47::b:=by rw [r6,iV,List.take_length,List.drop_left]
    rw [Qz k _ _ (by simp;omega) (by rw [e1];simp;omega),e1];have e2:(mk (a ++ 47::b)).extract 0 a.length=mk a:=by apply Q7;rw [r6,iV,List.take_left,iV];rfl
    simp only [if_true,e2,List.length_append,List.length_cons,List.length_nil,List.all_cons,hp,Bool.true_and,List.map_cons];by_cases hq:(iO b).all gS=true/\acc.length+1+(iO b).length <= 6
    ·rw [iP (by exact hq),iP ⟨hq.1,by omega⟩];simp
    rw [iN (by exact hq),iN (λh=>hq ⟨h.1,by omega⟩)]
   simp only [iN hc];rw [iP (by simp)];rfl
theorem Rb(s:BY):F2 s=some (spl s):=by
 unfold F2;rw [oU,Gu];by_cases h1:bl s= [47]
 ·rw [iP (by simp [h1])];unfold spl;rw [h1];rfl
 rw [iN (by simp [h1]),Qz _ s [] (by simp) (by rw [dY];omega)];unfold spl;cases hb:bl s with
 | nil=>rfl
 | cons c r=>
  simp only [parts,List.length_nil,Nat.zero_add,List.nil_append];by_cases hc:c=47
  ·subst hc;have hr:r ≠ []:=by rintro rfl;exact h1 hb
   rw [iP rfl,iP rfl,iN hr];by_cases hq:(iO r).all gS=true/\(iO r).length <= 6
   ·rw [iP hq,iP hq]
   rw [iN hq,iN hq]
  rw [iN hc,iN hc]
theorem Mq(s:BY)(hs:(bl s).length <= 100000000):∀ (k:Nat) (acc:List BY) (f i:Nat) (a b:List UInt8),acc.length <= 6->f <= i->i <= (bl s).length->(bl s).length+2 <= i+k->(bl s).drop f=a ++ b->a.length=i - f->47 ∉ a->
  eJ s k acc (f:Int) (i:Int)=some (if (iO (a ++ b)).all gS=true/\acc.length+(iO (a ++ b)).length <= 6 then (acc ++ (iO (a ++ b)).map mk,true) else ([],false))
 | 0,acc,f,i,a,b,_,_,_,h,_,_,_=>by omega
 | k+1,acc,f,i,a,b,ha,hfi,hil,h,hd,hal,hns=>by
  unfold eJ;rw [iP (by rw [dY];simp only [decide_eq_true_eq];omega)];have hbd:(bl s).drop i=b:=by
   have:(bl s).drop i=((bl s).drop f).drop (i - f):=by rw [List.drop_drop];congr 1;omega
   rw [this,hd,← hal,List.drop_left]
  have e1:IntKind.i64.wrap ((i:Int)+1)=((i+1:Nat):Int):=by rw [w64 (by omega) (by omega)];omega
  have hpart:bl (s.extract f i)=a:=by
   rw [r6,List.drop_take,hd,← hal,List.take_left]
  have hex:s.extract f i=mk a:=by apply Q7;rw [hpart,iV]
  -- at the end of a part
  have fin:∀ (b':List UInt8),(b=47::b'∨(b= []/\i=(bl s).length))->oE (eJ s k) (i:Int) (f:Int) s acc=some (if (iO (a ++ b)).all gS=true/\acc.length+(iO (a ++ b)).length <= 6 then (acc ++ (iO (a ++ b)).map mk,true) else ([],false)):=by
   intro b' hb;unfold oE sK oD;have c1:(0:Int) <= (f:Int)/\(f:Int) <= (i:Int)/\(i:Int) <= (s.size:Int):=by rw [dY];omega
   rw [dJ c1];simp only [Int.toNat_natCast];rw [JL _ (by rw [hpart];omega),hpart];simp only [bS];have htk:iO (a ++ b)=a::(if b= [] then [] else iO b')/\(b= []->i=(bl s).length):=by
    rcases hb with rfl | ⟨rfl,h2⟩
    ·rw [Aa a b' hns,iN (by simp)];exact ⟨rfl,λh=>by cases h⟩
    rw [List.append_nil,G9 a hns,iP rfl];exact ⟨rfl,λ_=>h2⟩
   cases hp:gS a
   ·rw [iP (by simp),iP trivial,iN];rintro ⟨h,_⟩;rw [htk.1] at h;simp [hp] at h
   rw [iN (by simp)];by_cases h6:acc.length=6
   ·rw [iP (by simp;omega),iN];rintro ⟨_,h⟩;rw [htk.1] at h;simp at h;omega
   rw [iN (by simp;omega),dJ c1,dJ (by simp [LIM];omega),e1];rw [hex];rcases hb with rfl | ⟨rfl,h2⟩
   ·have hil2:i < (bl s).length:=by
     have:=congrArg List.length hbd;simp at this;omega
    have hd2:(bl s).drop (i+1)= [] ++ b':=by
     rw [← List.drop_drop,hbd];rfl
    rw [Mq s hs k (acc ++ [mk a]) (i+1) (i+1) [] b' (by simp;omega) (Nat.le_refl _) (by omega) (by omega) hd2 (by simp) (by simp)];rw [Aa a b' hns];simp only [List.nil_append,List.length_append,List.length_cons,List.length_nil,List.all_cons,hp,Bool.true_and,List.map_cons];by_cases hq:(iO b').all gS=true/\acc.length+1+(iO b').length <= 6
    ·rw [iP (by exact hq),iP ⟨hq.1,by omega⟩];simp
    rw [iN (by exact hq),iN (λh=>hq ⟨h.1,by omega⟩)]
   rw [htk.1,iP rfl,iP ⟨by simp [hp],by simp;omega⟩];cases k with
   | zero=>omega
   | succ k=>
    unfold eJ;rw [iN (by rw [dY];simp only [decide_eq_true_eq];omega)];rfl
  by_cases hi:i < (bl s).length
  ·rw [iP (by rw [dY];simp only [decide_eq_true_eq];omega),Yx hi];simp only [bS];have hb:b=(bl s)[i]::(bl s).drop (i+1):=by rw [← hbd];exact List.drop_eq_getElem_cons hi
   generalize (bl s)[i]=c at hb;by_cases hc:c=47
   ·subst hc;rw [iN (by decide)];exact fin _ (.inl hb)
   rw [iP (by have:=c47 hc;simp only [bne_iff_ne,ne_eq];omega)];unfold oD;rw [e1,Mq s hs k acc f (i+1) (a ++ [c]) ((bl s).drop (i+1)) ha (by omega) (by omega) (by omega) (by rw [hd,hb];simp) (by simp;omega) (by simp;exact ⟨hns,λe=>hc e.symm⟩)];rw [hb];simp only [List.append_assoc,List.singleton_append]
  rw [iN (by rw [dY];simp only [decide_eq_true_eq];omega)];have hb:b= []:=by rw [← hbd,List.drop_eq_nil_of_le (by omega)]
  exact fin [] (.inr ⟨hb,by omega⟩)
theorem Fs(s:BY)(hs:(bl s).length <= 100000000):mF s=some (spl s):=by
 unfold mF sL;rw [oU,oU,Gu,emp];by_cases h1:bl s= [47]
 ·rw [iP (by simp [h1])];unfold spl;rw [h1];rfl
 rw [iN (by simp [h1])];unfold spl;cases hb:bl s with
 | nil=>rw [iP (by simp)];rfl
 | cons c r=>
  have hl:(bl s).length=r.length+1:=by rw [hb];simp
  rw [iN (by simp),show (0:Int)=((0:Nat):Int) from rfl,DV (x:=c) (by rw [dl,hb];rfl)];simp only [parts];by_cases hc:c=47
  ·subst hc;have hr:r ≠ []:=by rintro rfl;exact h1 hb
   rw [iN (by decide),iP rfl,iN hr];have:=Mq s hs (((s.size:Int) - 1:Int).toNat+2) [] 1 1 [] r (by simp) (Nat.le_refl _) (by rw [hl];omega) (by have:=dY s;omega) (by rw [hb];rfl) (by simp) (by simp);rw [show (1:Int)=((1:Nat):Int) from rfl];refine this.trans ?_;simp only [List.nil_append,List.length_nil,Nat.zero_add];by_cases hq:(iO r).all gS=true/\(iO r).length <= 6
   ·rw [iP hq,iP hq]
   rw [iN hq,iN hq]
  have hb:((c.toNat:Int) != 47)=true:=by have:=c47 hc;simp only [bne_iff_ne,ne_eq];omega
  rw [hb,iP rfl,iN hc]
def lE(p:List UInt8):Option (List UInt8):=match parts p with
 | some ps=>if ps= [] then none else some (oV ps.dropLast)
 | none=>none
def J7(p:List UInt8):List UInt8:=match parts p with
 | some ps=>ps.getLast?.getD []
 | none=>[]
def os2(o:Option (List UInt8)):BY×Bool:=match o with
 | some q=>(mk q,true)
 | none=>(mk [],false)
theorem Bx(ps qs:List (List UInt8)):fV (ps ++ qs)=fV ps ++ fV qs:=by simp [fV]
theorem Ag{p:List UInt8}{ps:List (List UInt8)}(h:parts p=some ps):p.length <= 78:=by
 obtain ⟨rfl,h1,h2⟩:=(iR p ps).1 h;have key:∀ qs:List (List UInt8),qs.all gS=true->(fV qs).length <= 13 * qs.length:=by
  intro qs
  induction qs with
  | nil=>intro _;simp [fV]
  | cons t ts ih=>
   intro h;simp at h;have h3:t.length <= 12:=by have:=h.1;simp [gS] at this;exact this.1.2
   have h4:=ih (by simpa using h.2);show (47::(t ++ fV ts)).length <= _;simp;omega
 unfold oV;split
 ·simp
 have:=key ps h1;omega
theorem BU(s:BY)(a b:List UInt8)(hs:bl s=a ++ 47::b)(hb:47 ∉ b)(hl:(bl s).length <= 1000):∀ (k i:Nat),i < (bl s).length->a.length <= i->i+1 <= k->eV s k 47 (i:Int)=some (a.length:Int)
 | 0,i,_,_,h=>by omega
 | k+1,i,hi,hai,h=>by
  unfold eV;rw [iP (by simp),Yx hi];simp only [bS];by_cases e:i=a.length
  ·have:(bl s)[i]=47:=by subst e;simp [hs]
   rw [this,iP (by decide),e]
  have hne:(bl s)[i] ≠ 47:=by
   have h2:(bl s)[i]? =b[i - a.length - 1]? :=by
    rw [hs,List.getElem?_append_right hai,show i - a.length=(i - a.length - 1)+1 from by omega,List.getElem?_cons_succ];rfl
   rw [List.getElem?_eq_getElem hi] at h2;intro e2;rw [e2] at h2;exact hb (List.mem_of_getElem? h2.symm)
  rw [iN (by have:=c47 hne;simp only [beq_iff_eq];omega),show IntKind.i64.wrap ((i:Int) - 1)=((i - 1:Nat):Int) from by rw [w64 (by omega) (by omega)];omega];exact BU s a b hs hb hl k (i - 1) (by omega) (by omega) (by omega)
theorem GK(s:BY):R3 s=some (match parts (bl s) with
  | some ps=>if ps= [] then (mk [],mk [],false) else (mk (oV ps.dropLast),mk (ps.getLast?.getD []),true)
  | none=>(mk [],mk [],false)):=by
 unfold R3 gM;rw [Rb];simp only [bS];unfold spl;cases hp:parts (bl s) with
 | none=>simp only [Bool.not_false,if_true];rfl
 | some ps=>
  simp only [Bool.not_true,Bool.false_eq_true,if_false];obtain ⟨h0,h1,h2⟩:=(iR _ ps).1 hp;rw [oU,Gu];rcases List.eq_nil_or_concat ps with rfl | ⟨qs,t,rfl⟩
  ·have:bl s= [47]:=h0;rw [this];rfl
  rw [List.concat_eq_append] at *;have ht:gS t=true:=by simp at h1;exact h1.2
  have hb:bl s=fV qs ++ 47::t:=by rw [h0];unfold oV;rw [iN (by simp),Bx];simp [fV]
  have hne:bl s ≠ [47]:=by
   rw [hb];intro e;have:=congrArg List.length e;have:=List.length_pos_iff.2 (Dy ht);simp at *;omega
  have hl:=Ag hp;rw [decide_eq_false hne];unfold K4 vD jX;have hsz:=dY s;have hlen:(bl s).length=(fV qs).length+t.length+1:=by rw [hb];simp;omega
  have e1:IntKind.i64.wrap ((s.size:Int) - 1)=(((bl s).length - 1:Nat):Int):=by rw [hsz,w64 (by omega) (by omega)];omega
  rw [e1,BU s (fV qs) t hb (Ia ht) (by omega) _ _ (by omega) (by omega) (by omega)];simp only [bS,Bool.false_eq_true,if_false];have e2:IntKind.i64.wrap (((fV qs).length:Int)+1)=(((fV qs).length+1:Nat):Int):=by rw [w64 (by omega) (by omega)];omega
  rw [e2,dJ (by omega),dJ (by omega)];rw [iN (by simp)];congr 1;have e3:(s.extract 0 (max ((fV qs).length:Int) 1).toNat)=mk (oV (qs ++ [t]).dropLast):=by
   apply Q7;rw [r6,iV,hb,List.drop_zero,List.dropLast_concat];unfold oV;cases qs with
   | nil=>rfl
   | cons q qs=>
    rw [iN (by simp)];have:(max ((fV (q::qs)).length:Int) 1).toNat=(fV (q::qs)).length:=by
     have:1 <= (fV (q::qs)).length:=by simp [fV]
     omega
    rw [this,List.take_left]
  have e4:(s.extract (((fV qs).length+1:Nat):Int).toNat s.size)=mk ((qs ++ [t]).getLast?.getD []):=by
   apply Q7;rw [r6,iV,hsz,List.take_length,hb,Int.toNat_natCast,show fV qs ++ 47::t=(fV qs ++ [47]) ++ t from by simp,show (fV qs).length+1=(fV qs ++ [47]).length from by simp,List.drop_left];simp
  rw [e3,e4]
theorem Ft(s:BY):uZ s=some (os2 (lE (bl s))):=by
 unfold uZ lE;rw [GK];cases parts (bl s) with
 | none=>rfl
 | some ps=>
  simp only [bS];by_cases h:ps= []
  ·rw [iP h,iP h];rfl
  rw [iN h,iN h];rfl
theorem Ut(s:BY):D6 s=some (mk (J7 (bl s))):=by
 unfold D6 J7;rw [GK];cases parts (bl s) with
 | none=>rfl
 | some ps=>
  simp only [bS];by_cases h:ps= []
  ·rw [iP h,h];rfl
  rw [iN h]
def Az(p s:List UInt8):Option (List UInt8):=match parts p with
 | some ps=>if gS s=true/\ps.length < 6 then some (oV (ps ++ [s])) else none
 | none=>none
theorem NX(s:BY)(x:List UInt8)(c:UInt8)(hc:c ≠ 47)(hs:bl s=x ++ [c])(hl:(bl s).length <= 1000):iY s (ByteArray.mk #[47])=some s:=by
 unfold iY mT nV;have e0:((ByteArray.mk #[47]).size:Int)=1:=rfl;have hsz:=dY s;have hlen:(bl s).length=x.length+1:=by rw [hs];simp
 have e1:IntKind.i64.wrap ((s.size:Int) - 1)=((x.length:Nat):Int):=by rw [w64 (by omega) (by omega)];omega
 rw [e0,e1,iP (by simp only [decide_eq_true_eq];omega),dJ (by omega)];simp only [bS,Int.toNat_natCast];rw [oU,r6,hsz,List.take_length,hs,List.drop_left,Gu,iN (by simp;exact hc)];rfl
theorem GL(s:BY)(hs:bl s= [47]):iY s (ByteArray.mk #[47])=some (mk []):=by
 have:s=mk [47]:=by apply Q7;rw [hs,iV]
 subst this;show iY (mk [47]) (ByteArray.mk #[47])=some (mk []);kernel_rfl
theorem Vj{s:BY}{ps:List (List UInt8)}(hp:parts (bl s)=some ps):∃ t,iY s (ByteArray.mk #[47])=some t/\bl t=fV ps:=by
 obtain ⟨h0,h1,h2⟩:=(iR _ ps).1 hp;rcases List.eq_nil_or_concat ps with rfl | ⟨qs,t,rfl⟩
 ·exact ⟨_,GL s h0,rfl⟩
 rw [List.concat_eq_append] at *;have ht:gS t=true:=by simp at h1;exact h1.2
 rcases List.eq_nil_or_concat t with rfl | ⟨u,c,rfl⟩
 ·exact absurd rfl (Dy ht)
 rw [List.concat_eq_append] at *;have hb:bl s=(fV qs ++ 47::u) ++ [c]:=by rw [h0];unfold oV;rw [iN (by simp),Bx];simp [fV]
 refine ⟨s,NX s _ c ?_ hb (by have:=Ag hp;omega),?_⟩
 ·intro e;exact Ia ht (by simp [e])
 rw [h0];unfold oV;rw [iN (by simp)]
theorem Uu(p s:BY)(hs:(bl s).length <= 100000000):L9 p s=some (os2 (Az (bl p) (bl s))):=by
 unfold L9 zG Az;rw [Rb];simp only [bS];unfold spl;cases hp:parts (bl p) with
 | none=>simp only [Bool.not_false,if_true];rfl
 | some ps=>
  obtain ⟨t,ht,hb⟩:=Vj hp;have hl:=Ag hp;have h6:=((iR _ _).1 hp).2.2;simp only [Bool.not_true,Bool.false_eq_true,if_false];rw [Nx];simp only [bS];cases hs':gS (bl s) with
  | false=>rw [iP (by simp),iP trivial,iN (by simp)];rfl
  | true=>
   simp only [Bool.not_true,Bool.false_eq_true,if_false];by_cases h:ps.length=6
   ·rw [iP (by simp;omega),iN (by omega)];rfl
   rw [iN (by simp;omega),iP (by refine ⟨trivial,?_⟩;omega),ht];have hcl:(fV ps).length <= 1000:=by
    have:=((iR _ _).1 hp).1;unfold oV at this;split at this
    ·rename_i e;subst e;simp [fV]
    rw [← this];omega
   have z1:t.size=(fV ps).length:=by rw [dY,hb]
   have z2:(ByteArray.mk #[47]).size=1:=rfl;have z3:(t ++ ByteArray.mk #[47]).size=(fV ps).length+1:=by rw [dY,V9,hb,Gu];simp
   have z4:=dY s;simp only [bS];rw [dJ (by omega),dJ (by omega)];show some (_,true)=some (mk _,true);congr 2;apply Q7;rw [V9,V9,hb,Gu,iV];unfold oV;rw [iN (by simp),Bx];simp [fV]
def H8(n:Nat):List UInt8:=[UInt8.ofNat (48+n / 1000 % 10),UInt8.ofNat (48+n / 100 % 10),UInt8.ofNat (48+n / 10 % 10),UInt8.ofNat (48+n % 10)]
theorem JO(n:Nat)(h:n <= 9999):Lib.itoa (10000+(n:Int))=49::H8 n:=by
 unfold Lib.itoa;rw [iN (by omega),show (10000+(n:Int)).toNat=10000+n from by omega];have st:∀ u:Nat,¬ u < 10->Lib.decDigits u=Lib.decDigits (u / 10) ++ [UInt8.ofNat (48+u % 10)]:=λu hu=>by rw [Lib.decDigits,dif_neg hu]
 rw [st _ (by omega),st _ (by omega),st _ (by omega),st _ (by omega),Lib.decDigits,dif_pos (by omega)];have d1:(10000+n) / 10 / 10 / 10 / 10=1:=by omega
 have d2:(10000+n) / 10 / 10 / 10 % 10=n / 1000 % 10:=by omega
 have d3:(10000+n) / 10 / 10 % 10=n / 100 % 10:=by omega
 have d4:(10000+n) / 10 % 10=n / 10 % 10:=by omega
 have d5:(10000+n) % 10=n % 10:=by omega
 rw [d1,d2,d3,d4,d5];rfl
def Rc(s:List UInt8)(n:Int):Option (List UInt8):=if 0 <= n/\n <= 9999/\gS (s ++ H8 n.toNat)=true then some (s ++ H8 n.toNat) else none
theorem BB(s:BY)(n:Int)(hs:(bl s).length <= 100000000):B3 s n=some (os2 (Rc (bl s) n)):=by
 unfold B3 xG Rc;by_cases h0:n < 0
 ·rw [iP (by simpa using h0),iP rfl,iN (by omega)];rfl
 rw [iN (by simpa using h0)];by_cases h1:n > 9999
 ·rw [iP (by simpa using h1),iN (by omega)];rfl
 rw [iN (by simpa using h1)];obtain ⟨m,rfl⟩:∃ m:Nat,n=(m:Int):=⟨n.toNat,by omega⟩
 have e1:IntKind.i64.wrap (10000+(m:Int))=10000+(m:Int):=w64 (by omega) (by omega);have e2:ByteArray.mk (Lib.itoa (10000+(m:Int))).toArray=mk (49::H8 m):=by rw [JO m (by omega)];rfl
 rw [e1,dJ (by omega),e2];have z1:(mk (49::H8 m)).size=5:=rfl;rw [z1,dJ (by decide)];have e3:bl ((mk (49::H8 m)).extract (1:Int).toNat 5)=H8 m:=by rw [r6,iV];rfl
 have z2:((mk (49::H8 m)).extract (1:Int).toNat 5).size=4:=by rw [dY,e3];rfl
 have z3:=dY s;rw [z2,dJ (by omega),Nx,V9,e3];simp only [bS,Int.toNat_natCast];have e4:s ++ (mk (49::H8 m)).extract (1:Int).toNat 5=mk (bl s ++ H8 m):=by apply Q7;rw [V9,e3,iV]
 cases hp:gS (bl s ++ H8 m) with
 | false=>rw [iP (by rfl),iN (by simp)];rfl
 | true=>rw [iN (by simp),iP ⟨by omega,by omega,rfl⟩,e4];rfl
theorem BV(l:List BY)(hl:l.length <= 6)(hp:∀ x ∈ l,(bl x).length <= 12):∀ (k i:Nat) (s:BY),i <= l.length->l.length+1 <= i+k->(bl s).length <= 13 * i->oY l k s (i:Int)=some (mk (bl s ++ fV ((l.drop i).map bl)))
 | 0,i,s,h0,h,_=>by omega
 | k+1,i,s,h0,h,hs=>by
  unfold oY;by_cases hi:i < l.length
  ·have z1:=dY s;have z2:(ByteArray.mk #[47]).size=1:=rfl;have z3:(s ++ ByteArray.mk #[47]).size=(bl s).length+1:=by rw [dY,V9,Gu];simp
   have z4:=dY l[i];have z5:=hp l[i] (List.getElem_mem _);rw [iP (by simpa using hi),dJ (by omega),bY hi];simp only [bS];rw [dJ (by omega),show IntKind.i64.wrap ((i:Int)+1)=((i+1:Nat):Int) from by rw [w64 (by omega) (by omega)];omega];rw [BV l hl hp k (i+1) _ (by omega) (by omega) (by rw [V9,V9,Gu];simp;omega),V9,V9,Gu,List.drop_eq_getElem_cons hi,List.map_cons];simp only [fV,List.flatMap_cons,List.append_assoc,List.singleton_append,List.cons_append,List.nil_append]
  rw [iN (by simpa using hi),List.drop_eq_nil_of_le (by omega)];simp [fV,Fr]
theorem JP(l:List (List UInt8))(hl:l.length <= 6)(hp:∀ x ∈ l,x.length <= 12):xF (l.map mk)=some (mk (oV l)):=by
 unfold xF oV;by_cases h:l= []
 ·subst h;rfl
 have hlen:l.length ≠ 0:=λe=>h (List.length_eq_zero_iff.1 e);rw [iN (by simp;exact h),iN h];have:=BV (l.map mk) (by simpa using hl) (by simpa [iV] using hp) ((((l.map mk).length:Int) - 0:Int).toNat+1) 0 (ByteArray.mk #[]) (by omega) (by omega) (by simp [emp]);refine this.trans ?_;rw [emp,List.drop_zero,List.map_map];congr 2;simp;rw [show bl ∘ mk=id from by funext x;rfl,List.map_id]
theorem Yz{l:List UInt8}(h:gS l=true):l.length <= 12:=by simp [gS] at h;exact h.1.2
theorem DW(s:BY)(hs:(bl s).length <= 100000000):uA s=some (os2 (lE (bl s))):=by
 unfold uA qT lE;rw [Fs s hs];simp only [bS];unfold spl;cases hp:parts (bl s) with
 | none=>simp only [Bool.not_false,if_true];rfl
 | some ps=>
  obtain ⟨h0,h1,h2⟩:=(iR _ ps).1 hp;simp only [Bool.not_true,Bool.false_eq_true,if_false,List.length_map];by_cases h:ps= []
  ·subst h;rfl
  have hlen:ps.length ≠ 0:=λe=>h (List.length_eq_zero_iff.1 e);rw [iN (by simp;exact h),iN h,show IntKind.i64.wrap ((ps.length:Int) - 1)=((ps.length - 1:Nat):Int) from by rw [w64 (by omega) (by omega)];omega,dJ (by omega)];have h1':∀ q ∈ ps,gS q=true:=by simpa using h1
  rw [Int.toNat_natCast,← List.map_take,← List.dropLast_eq_take,JP _ (by rw [List.length_dropLast];omega) λx hx=>Yz (h1' x (List.dropLast_subset _ hx))];rfl
def inS(p q:List UInt8):Bool:=match parts p,parts q with
 | some l,some k=>k.isPrefixOf l
 | _,_=>false
theorem LG:∀ (n:Nat) (k l:List (List UInt8)) (i:Nat),k.length <= l.length->l.length <= 6->i <= k.length->k.length+1 <= i+n->rS n (l.map mk) (k.map mk) (i:Int)=some ((k.drop i).isPrefixOf (l.drop i))
 | 0,k,l,i,_,_,_,h=>by omega
 | n+1,k,l,i,hkl,hl6,hi0,h=>by
  unfold rS;by_cases hi:i < k.length
  ·rw [iP (by simpa using hi),bY (by simpa using hi)];simp only [bS];rw [bY (by simp;omega)];simp only [bS,List.getElem_map];rw [oU,iV,iV,List.drop_eq_getElem_cons hi,List.drop_eq_getElem_cons (show i < l.length by omega),List.isPrefixOf];by_cases e:k[i]=l[i]
   ·rw [iN (by simp [e]),show IntKind.i64.wrap ((i:Int)+1)=((i+1:Nat):Int) from by rw [w64 (by omega) (by omega)];omega,LG n k l (i+1) hkl hl6 (by omega) (by omega),e];simp
   rw [iP (by simp [e])];simp [e]
  rw [iN (by simpa using hi),List.drop_eq_nil_of_le (show k.length <= i by omega)];simp
theorem VR(p q:BY)(hp':(bl p).length <= 100000000)(hq':(bl q).length <= 100000000):zR p q=some (inS (bl p) (bl q)):=by
 unfold zR rT inS;rw [Fs p hp',Fs q hq'];simp only [bS];unfold spl;cases hp:parts (bl p) with
 | none=>simp only [Bool.not_false,if_true]
 | some l=>
  simp only [Bool.not_true,Bool.false_eq_true,if_false];cases hq:parts (bl q) with
  | none=>simp only [Bool.not_false,if_true]
  | some k=>
   have h6:=((iR _ _).1 hp).2.2;have h6':=((iR _ _).1 hq).2.2;simp only [Bool.not_true,Bool.false_eq_true,if_false,List.length_map];by_cases h:k.length > l.length
   ·rw [iP (by simp;omega)];cases hc:k.isPrefixOf l with
    | false=>rfl
    | true=>
     have:=(List.isPrefixOf_iff_prefix.1 hc).length_le;omega
   rw [iN (by simp;omega)];exact LG _ k l 0 (by omega) h6 (by omega) (by omega)
abbrev Nd:=aH
def key(x:Nd):List UInt8:=bl x.Path
theorem I6(a:List UInt8):¬ a < a:=List.lt_irrefl a
theorem E1{a b c:List UInt8}(h:a < b)(k:b < c):a < c:=List.lt_trans h k
theorem SV(a b:List UInt8):a < b∨a=b∨b < a:=by
 rcases Decidable.em (a < b) with h | h
 ·exact .inl h
 rcases Decidable.em (b < a) with k | k
 ·exact .inr (.inr k)
 exact .inr (.inl (List.le_antisymm (List.not_lt.1 k) (List.not_lt.1 h)))
theorem Jj{a b:List UInt8}(h:a < b):¬ b < a:=λk=>I6 _ (E1 h k)
theorem uR{a b:List UInt8}(h:a < b):a ≠ b:=λe=>I6 b (e ▸ h)
theorem Za(a:List UInt8){b c:List UInt8}(h:b < c):a ++ b < a ++ c:=by
 induction a with
 | nil=>exact h
 | cons x a ih=>exact List.Lex.cons ih
theorem GM(a:List UInt8){b:List UInt8}(h:b ≠ []):a < a ++ b:=by
 have:=Za a (b:=[]) (c:=b) (by cases b with | nil=>exact absurd rfl h | cons x b=>exact List.Lex.nil);simpa using this
theorem Tg(s t:BY):Extern.BytealgCompare.cmp s t=if bl s < bl t then -1 else if bl s=bl t then 0 else 1:=by
 have hs:=dY s;have ht:=dY t;have hat:∀ (u:BY) (i:Nat) (hi:i < (bl u).length),u[i]! =(bl u)[i]:=λu i hi=>by
  rw [getElem!_pos u i (by rw [dY];exact hi)];rfl
 unfold Extern.BytealgCompare.cmp;cases hf:(List.range (min s.size t.size)).find? (λi=>s[i]! != t[i]!) with
 | some i=>
  rw [List.find?_range_eq_some] at hf;obtain ⟨h1,h2,h3⟩:=hf;rw [List.mem_range] at h2;have hi1:i < (bl s).length:=by omega
  have hi2:i < (bl t).length:=by omega
  rw [hat s i hi1,hat t i hi2] at h1;have hne:(bl s)[i] ≠ (bl t)[i]:=by simpa using h1
  have hpre:(bl s).take i=(bl t).take i:=by
   apply List.ext_getElem?;intro j;rw [List.getElem?_take,List.getElem?_take];by_cases hj:j < i
   ·rw [iP hj,iP hj];have:=h3 j hj;rw [hat s j (by omega),hat t j (by omega)] at this;have:(bl s)[j]=(bl t)[j]:=by simpa using this
    rw [List.getElem?_eq_getElem (by omega),List.getElem?_eq_getElem (by omega),this]
   rw [iN hj,iN hj]
  have es:bl s=(bl s).take i ++ (bl s)[i]::(bl s).drop (i+1):=by rw [← List.drop_eq_getElem_cons hi1,List.take_append_drop]
  have et:bl t=(bl s).take i ++ (bl t)[i]::(bl t).drop (i+1):=by rw [hpre,← List.drop_eq_getElem_cons hi2,List.take_append_drop]
  have heq:bl s ≠ bl t:=λe=>hne (by simp only [e]);simp only;rw [hat s i hi1,hat t i hi2];rcases UInt8.lt_or_lt_of_ne hne with h | h
  ·have:bl s < bl t:=by
    rw [es,et];exact Za _ (List.Lex.rel h)
   rw [iP h,iP this]
  have:bl t < bl s:=by
   rw [es,et];exact Za _ (List.Lex.rel h)
  rw [iN (λh'=>absurd (UInt8.lt_trans h h') (UInt8.lt_irrefl _)),iN (Jj this),iN heq]
 | none=>
  rw [List.find?_eq_none] at hf;have hall:∀ j,j < (bl s).length->j < (bl t).length->(bl s)[j]? =(bl t)[j]? :=λj h1 h2=>by
   have:=hf j (List.mem_range.2 (by omega));rw [hat s j h1,hat t j h2] at this;have:(bl s)[j]=(bl t)[j]:=by simpa using this
   rw [List.getElem?_eq_getElem h1,List.getElem?_eq_getElem h2,this]
  simp only;rw [hs,ht];by_cases h1:(bl s).length < (bl t).length
  ·have e:bl t=bl s ++ (bl t).drop (bl s).length:=by
    conv=>lhs;rw [← List.take_append_drop (bl s).length (bl t)]
    congr 1;apply List.ext_getElem?;intro j;rw [List.getElem?_take];by_cases hj:j < (bl s).length
    ·rw [iP hj,hall j hj (by omega)]
    rw [iN hj,List.getElem?_eq_none (by omega)]
   have:bl s < bl t:=by
    rw [e];exact GM _ (by intro h;have:=congrArg List.length h;simp at this;omega)
   rw [iP h1,iP this]
  rw [iN h1];by_cases h2:(bl s).length > (bl t).length
  ·have e:bl s=bl t ++ (bl s).drop (bl t).length:=by
    conv=>lhs;rw [← List.take_append_drop (bl t).length (bl s)]
    congr 1;apply List.ext_getElem?;intro j;rw [List.getElem?_take];by_cases hj:j < (bl t).length
    ·rw [iP hj,hall j (by omega) hj]
    rw [iN hj,List.getElem?_eq_none (by omega)]
   have:bl t < bl s:=by
    rw [e];exact GM _ (by intro h;have:=congrArg List.length h;simp at this;omega)
   rw [iP h2,iN (Jj this),iN (λe=>I6 _ (e ▸ this))]
  have e:bl s=bl t:=by
   apply List.ext_getElem?;intro j;by_cases hj:j < (bl s).length
   ·exact hall j hj (by omega)
   rw [List.getElem?_eq_none (by omega),List.getElem?_eq_none (by omega)]
  rw [iN h2,e,iN (I6 _),iP rfl]
theorem JQ(n:Nat)(h:n < 2 ^ 40):IntKind.i64.wrap (vB .u64 (IntKind.u64.wrap (IntKind.i64.wrap (n:Int))) 1)=((n / 2:Nat):Int):=by
 rw [w64 (n:=(n:Int)) (by omega) (by omega),show IntKind.u64.wrap (n:Int)=(n:Int) from by unfold IntKind.wrap;simp [IntKind.bits,IntKind.signed];omega];unfold vB;rw [show IntKind.u64.bits=64 from rfl,show min (1:Int).toNat 64=1 from rfl,Int.fdiv_eq_ediv_of_nonneg _ (by decide)];rw [w64 (by omega) (by omega)];omega
def zNd:Nd:=⟨mk [],mk [],0,0,0⟩
def isK(p:List UInt8)(x:Nd):Bool:=decide (key x=p)
theorem WK{α:Type}(o:Option α):o=none∨∃ x,o=some x:=by cases o with | none=>exact .inl rfl | some x=>exact .inr ⟨x,rfl⟩
def SW(x:Nd):Prop:=(bl x.Data).length <= 256/\0 <= x.Version/\x.Version <= 281474976710656/\0 <= x.Turn/\x.Turn <= 10000/\0 <= x.Owner/\x.Owner <= 1099511627776/\(x.Owner ≠ 0->x.Turn=0)
structure WN (l:List Nd):Prop where
 root:∃ r t,l=r::t/\key r= [47]/\r.Owner=0
 len:l.length <= 512
 ok:∀ x ∈ l,SW x
 sorted:l.Pairwise (key · < key ·)
 up:∀ x ∈ l,key x ≠ [47]->∃ q,lE (key x)=some q/\∃ u ∈ l,key u=q/\u.Owner=0
def Sm(l:List Nd):Prop:=∀ x ∈ l,(key x).length <= 100000000
theorem DX{l:List Nd}(h:l.Pairwise (key · < key ·)){x y:Nd}(hx:x ∈ l)(hy:y ∈ l)(e:key x=key y):x=y:=by
 obtain ⟨i,hi,rfl⟩:=List.mem_iff_getElem.1 hx;obtain ⟨j,hj,rfl⟩:=List.mem_iff_getElem.1 hy;have h:=List.pairwise_iff_getElem.1 h;rcases Nat.lt_trichotomy i j with c | c | c
 ·exact absurd e (uR (h i j hi hj c))
 ·subst c;rfl
 exact absurd e.symm (uR (h j i hj hi c))
theorem JR{l:List Nd}{p:List UInt8}{x:Nd}(h:l.find? (isK p)=some x):x ∈ l/\key x=p:=
 ⟨List.mem_of_find?_eq_some h,by have:=List.find?_some h;simpa [isK] using this⟩
theorem JS{l:List Nd}(h:l.Pairwise (key · < key ·)){x:Nd}(hx:x ∈ l):l.find? (isK (key x))=some x:=by
 cases hf:l.find? (isK (key x)) with
 | none=>
  have:=List.find?_eq_none.1 hf x hx;simp [isK] at this
 | some y=>
  have:=JR hf;rw [DX h this.1 hx this.2]
theorem WS{l:List Nd}{p:List UInt8}:l.find? (isK p)=none ↔ ∀ x ∈ l,key x ≠ p:=by
 rw [List.find?_eq_none];simp [isK]
theorem Mr{p q:List UInt8}(h:lE p=some q):∃ ps t,parts p=some (ps ++ [t])/\q=oV ps/\parts q=some ps:=by
 unfold lE at h;cases hp:parts p with
 | none=>rw [hp] at h;cases h
 | some ps=>
  rw [hp] at h;simp only at h;split at h
  ·cases h
  rename_i hne;cases h;obtain ⟨h0,h1,h2⟩:=(iR _ ps).1 hp;rcases List.eq_nil_or_concat ps with e | ⟨qs,t,rfl⟩
  ·exact absurd e hne
  rw [List.concat_eq_append] at *;refine ⟨qs,t,rfl,by rw [List.dropLast_concat],?_⟩;rw [List.dropLast_concat];exact (iR _ _).2 ⟨rfl,by simp at h1 ⊢;exact h1.1,by simp at h2;omega⟩
theorem DY:parts [47]=some []:=rfl
theorem WN.sm {l:List Nd} (T:WN l):Sm l:=λx hx=>by
 by_cases h:key x= [47]
 ·rw [h];decide
 obtain ⟨q,hq,_⟩:=T.up x hx h;obtain ⟨ps,t,h1,_⟩:=Mr hq;have:=Ag h1;omega
abbrev Op1:=fO
def dK(p:List UInt8):Bool:=(parts p).isSome
abbrev Res:=dA
def res(e:Int):Res:=⟨e,mk [],mk [],0,[]⟩
def C6(p:List UInt8)(x:Nd):Bool:=decide (lE (key x)=some p)
theorem Zb{l:List Nd}(h:l.Pairwise (key · < key ·)){i:Nat}(hi:i < l.length):l.eraseIdx i=l.filter (λy=>!isK (key l[i]) y):=by
 have hs:=List.pairwise_iff_getElem.1 h;have e:l=l.take i ++ l[i]::l.drop (i+1):=by rw [← List.drop_eq_getElem_cons hi,List.take_append_drop]
 rw [List.eraseIdx_eq_take_drop_succ];obtain ⟨p,hp⟩:∃ p,p=key l[i]:=⟨_,rfl⟩
 rw [← hp];have e2:l.filter (λy=>!isK p y)=(l.take i ++ l[i]::l.drop (i+1)).filter (λy=>!isK p y):=by rw [← e]
 rw [e2,List.filter_append,List.filter_cons,iN (by simp [isK,hp])];congr 1
 ·refine (List.filter_eq_self.2 λy hy=>?_).symm;obtain ⟨j,hj,rfl⟩:=List.mem_take_iff_getElem.1 hy;have:=uR (hs j i (by omega) hi (by omega));simpa [isK,hp] using this
 refine (List.filter_eq_self.2 λy hy=>?_).symm;obtain ⟨j,hj,rfl⟩:=List.mem_drop_iff_getElem.1 hy;have:=uR (hs i (i+1+j) hi (by omega) (by omega));simpa [isK,hp] using this.symm
def upd(l:List Nd)(p:List UInt8)(f:Nd->Nd):List Nd:=l.map λz=>if isK p z then f z else z
theorem NY{l:List Nd}(h:l.Pairwise (key · < key ·)){i:Nat}(hi:i < l.length)(f:Nd->Nd):l.set i (f l[i])=upd l (key l[i]) f:=by
 have hs:=List.pairwise_iff_getElem.1 h;unfold upd;apply List.ext_getElem (by simp);intro j h1 h2;simp at h1;rw [List.getElem_map,List.getElem_set];by_cases e:i=j
 ·subst e;rw [iP rfl,iP (by simp [isK])]
 rw [iN e,iN];rw [isK];simp only [decide_eq_true_eq];rcases Nat.lt_or_gt_of_ne e with c | c
 ·exact (uR (hs i j hi h1 c)).symm
 exact uR (hs j i h1 hi c)
def W7(x:Nd):BY:=mk (J7 (key x))
def yP(p:List UInt8)(w:Int)(x:Nd):Bool:=(x.Owner == w) && C6 p x
theorem Jk{l:List Nd}{f:Nd->Bool}{i:Nat}(hi:i < l.length):(l.take (i+1)).filter f=(l.take i).filter f ++ if f l[i]=true then [l[i]] else []:=by
 rw [List.take_add_one,List.getElem?_eq_getElem hi,List.filter_append];congr 1;simp [List.filter_cons]
def ltB(p:List UInt8)(y:Nd):Bool:=decide (key y < p)
def Ba(x:Nd)(l:List Nd):List Nd:=l.filter (ltB (key x)) ++ x::l.filter (λy=>!ltB (key x) y)
theorem NZ(l:List Nd)(p:List UInt8)(f:Nd->Nd):(upd l p f).length=l.length:=by simp [upd]
theorem BW{p:List UInt8}{f:Nd->Nd}(hf:∀ z,key (f z)=key z)(z:Nd):key (if isK p z then f z else z)=key z:=by split <;> simp [hf]
def Cr(o:Op1)(q:List UInt8)(t:Int):Option (List UInt8):=if o.Turns=true then (Rc (J7 (bl o.Path)) t).map (λs=>(Az q s).getD []) else some (bl o.Path)
theorem BX{s:List UInt8}{n:Int}{t:List UInt8}(h:Rc s n=some t):gS t=true/\t=s ++ H8 n.toNat/\0 <= n/\n <= 9999:=by
 unfold Rc at h;split at h
 ·rename_i h1;cases h;exact ⟨h1.2.2,rfl,h1.1,h1.2.1⟩
 cases h
theorem Zc(p:List UInt8):(J7 p).length <= 12:=by
 unfold J7;cases hp:parts p with
 | none=>simp
 | some ps=>
  obtain ⟨h0,h1,h2⟩:=(iR _ ps).1 hp;rcases List.eq_nil_or_concat ps with rfl | ⟨qs,t,rfl⟩
  ·simp
  rw [List.concat_eq_append] at *;have ht:gS t=true:=by simp at h1;exact h1.2
  simpa using Yz ht
theorem WT{x y:Nd}{l:List Nd}:y ∈ Ba x l ↔ y=x∨y ∈ l:=by
 unfold Ba;rw [List.mem_append,List.mem_cons,List.mem_filter,List.mem_filter];constructor
 ·rintro (h | h | h)
  ·exact .inr h.1
  ·exact .inl h
  exact .inr h.1
 rintro (h | h)
 ·exact .inr (.inl h)
 cases hc:ltB (key x) y with
 | true=>exact .inl ⟨h,rfl⟩
 | false=>exact .inr (.inr ⟨h,rfl⟩)
theorem GN{α:Type}(l:List α)(f:α->Bool):(l.filter f).length+(l.filter (λy=>!f y)).length=l.length:=by
 induction l with
 | nil=>rfl
 | cons x l ih=>
  rw [List.filter_cons,List.filter_cons];cases f x <;> simp <;> omega
theorem OA(x:Nd)(l:List Nd):(Ba x l).length=l.length+1:=by
 unfold Ba;have:=GN l (ltB (key x));rw [List.length_append,List.length_cons];omega
theorem WU{l:List Nd}{p:List UInt8}{f:Nd->Nd}{y:Nd}:y ∈ upd l p f ↔ ∃ z ∈ l,y=if isK p z then f z else z:=by
 unfold upd;rw [List.mem_map];exact ⟨λ⟨z,h1,h2⟩=>⟨z,h1,h2.symm⟩,λ⟨z,h1,h2⟩=>⟨z,h1,h2.symm⟩⟩
theorem Ib{p q:List UInt8}(h:lE p=some q):∃ ps t,parts p=some (ps ++ [t])/\q=oV ps/\parts q=some ps/\J7 p=t/\gS t=true/\ps.all gS=true/\ps.length <= 5:=by
 obtain ⟨ps,t,h1,h2,h3⟩:=Mr h;obtain ⟨_,h5,h6⟩:=(iR _ _).1 h1;refine ⟨ps,t,h1,h2,h3,?_,?_,?_,?_⟩
 ·unfold J7;rw [h1];simp
 ·simp at h5;exact h5.2
 ·simp at h5 ⊢;exact h5.1
 simp at h6;omega
theorem BC{q:List UInt8}{ps:List (List UInt8)}(hq:parts q=some ps)(h5:ps.length <= 5){t:List UInt8}(ht:gS t=true):Az q t=some (oV (ps ++ [t]))/\lE (oV (ps ++ [t]))=some q/\J7 (oV (ps ++ [t]))=t/\parts (oV (ps ++ [t]))=some (ps ++ [t]):=by
 obtain ⟨h1,h2,h3⟩:=(iR _ _).1 hq;have hp:parts (oV (ps ++ [t]))=some (ps ++ [t]):=(iR _ _).2 ⟨rfl,by simp at h2 ⊢;exact ⟨h2,ht⟩,by simp;omega⟩;refine ⟨?_,?_,?_,hp⟩
 ·unfold Az;rw [hq];simp only;rw [iP ⟨ht,by omega⟩]
 ·unfold lE;rw [hp];simp only;rw [iN (by simp),List.dropLast_concat,h1]
 unfold J7;rw [hp];simp
/-- the path of what is created lies in the parent. -/
theorem Pq{o:Op1}{q p:List UInt8}(hq:lE (bl o.Path)=some q){t:Int}(hn:Cr o q t=some p):lE p=some q/\(o.Turns=true->0 <= t/\t <= 9999/\∃ ps,parts q=some ps/\p=oV (ps ++ [J7 (bl o.Path) ++ H8 t.toNat])):=by
 unfold Cr at hn;cases hT:o.Turns with
 | false=>
  rw [hT] at hn;simp only [Bool.false_eq_true,if_false,Option.some.injEq] at hn;subst hn;exact ⟨hq,λh=>by cases h⟩
 | true=>
  rw [hT] at hn;simp only [if_true] at hn;obtain ⟨s,hs,rfl⟩:=Option.map_eq_some_iff.1 hn;obtain ⟨h1,h2,h3,h4⟩:=BX hs;obtain ⟨ps,t',_,_,h5,_,_,_,h6⟩:=Ib hq;obtain ⟨j1,j2,_,_⟩:=BC h5 h6 h1;rw [j1];exact ⟨j2,λ_=>⟨h3,h4,ps,h5,by rw [h2];rfl⟩⟩
theorem hP{i:Nat}(h:i <= 4611686018427387904):IntKind.i64.wrap ((i:Int)+1)=((i+1:Nat):Int):=by rw [w64 (by omega) (by omega)];omega
theorem DZ{l:List Nd}(hs:l.Pairwise (key · < key ·))(p:List UInt8){f:Nd->Nd}(hf:∀ z,key (f z)=key z):(upd l p f).Pairwise (key · < key ·):=by
 unfold upd;rw [List.pairwise_map];exact hs.imp λ{a b} h=>by rw [BW hf,BW hf];exact h
theorem Uv(s:BY)(hp:(bl s).length <= 100000000):mH s=some (dK (bl s)):=by
 unfold mH;rw [Fs s hp];simp only [bS];unfold spl dK;cases parts (bl s) <;> rfl
theorem JT(s:BY):sEq s (ByteArray.mk #[47])=decide (bl s= [47]):=oU _ _
theorem Jl(l:List Nd)(k:Nat)(n i:Int)(hn:5000 <= n):hU l (k+1) n i=some true:=by
 unfold hU oF;rw [show decide (n ≥ 5000)=true from by simpa using hn,show decide (n < 5000)=false from by simp;omega];simp
theorem Zd(l:List Nd)(hlen:l.length <= 1666):∀ (k i:Nat) (n:Int),0 <= n->n <= 20000->i <= l.length->l.length+2 <= i+k->∃ b,hU l k n (i:Int)=some b/\(b=false->∀ j (h:j < l.length),i <= j->(key l[j]).length < 5000)
 | 0,i,n,_,_,_,h=>by omega
 | k+1,i,n,h0,h1,hi0,h=>by
  by_cases hn:n < 5000
  ·by_cases hi:i < l.length
   ·unfold hU;rw [iP (by simpa using hi),iP (by simpa using hn),bY hi];simp only [bS];have e1:IntKind.i64.wrap ((i:Int)+1)=((i+1:Nat):Int):=by rw [w64 (by omega) (by omega)];omega
    have z1:=dY (l[i]).Path;rw [e1,w64 (n:=n+_) (by omega) (by omega),w64 (by omega) (by omega)];by_cases hp:(key l[i]).length < 5000
    ·obtain ⟨b,h2,h3⟩:=Zd l hlen k (i+1) (n+(min ((l[i]).Path.size:Int) 5000)+(min ((l[i]).Data.size:Int) 5000)) (by omega) (by omega) (by omega) (by omega);refine ⟨b,h2,λhb j hj hij=>?_⟩;by_cases e:i=j
     ·subst e;exact hp
     exact h3 hb j hj (by omega)
    cases k with
    | zero=>omega
    | succ k=>
     have hp:5000 <= (bl (l[i]).Path).length:=by unfold key at hp;omega
     rw [Jl l k _ _ (by omega)];exact ⟨true,rfl,λh=>by cases h⟩
   unfold hU oF;rw [iN (by simpa using hi)];exact ⟨_,rfl,λ_ j hj hij=>by omega⟩
  rw [Jl l k _ _ (by omega)];exact ⟨true,rfl,λh=>by cases h⟩
theorem JU(l:List Nd)(hlen:l.length <= 140737488351232):∃ b,vM l=some b/\(b=false->l.length <= 1666/\Sm l):=by
 unfold vM;have e:IntKind.i64.wrap (3 * (l.length:Int))=3 * (l.length:Int):=w64 (by omega) (by omega);rw [e];by_cases h:l.length <= 1666
 ·obtain ⟨b,h1,h2⟩:=Zd l h 5002 0 (3 * (l.length:Int)) (by omega) (by omega) (by omega) (by omega);refine ⟨b,h1,λhb=>⟨h,λx hx=>?_⟩⟩;obtain ⟨j,hj,rfl⟩:=List.mem_iff_getElem.1 hx;have:=h2 hb j hj (by omega);omega
 rw [Jl l 5001 _ _ (by omega)];exact ⟨true,rfl,λh=>by cases h⟩
theorem VS(x y:Nd):((sEq x.Path y.Path) && ((sEq x.Data y.Data) && ((x.Version == y.Version) && ((x.Turn == y.Turn) && (x.Owner == y.Owner)))))=decide (x=y):=by
 rw [Bool.eq_iff_iff];cases x;cases y;simp [Hz]
theorem BZ(a b:List Nd)(h:a.length=b.length)(hl:a.length <= 1000000):∀ (k i:Nat),i <= a.length->a.length+1 <= i+k->pA a b k (i:Int)=some (decide (a.drop i=b.drop i))
 | 0,i,_,h=>by omega
 | k+1,i,h0,hk=>by
  unfold pA;by_cases hi:i < a.length
  ·have hi':i < b.length:=by omega
   rw [iP (by simpa using hi),bY hi];simp only [bS];rw [bY hi'];simp only [bS];rw [VS,List.drop_eq_getElem_cons hi,List.drop_eq_getElem_cons hi'];by_cases e:a[i]=b[i]
   ·rw [iN (by simp [e]),show IntKind.i64.wrap ((i:Int)+1)=((i+1:Nat):Int) from by rw [w64 (by omega) (by omega)];omega,BZ a b h hl k (i+1) (by omega) (by omega),e];congr 1;exact decide_eq_decide.2 ⟨λh=>by rw [h],λh=>(List.cons.inj h).2⟩
   rw [iP (by simp [e]),decide_eq_false (λh=>e (List.cons.inj h).1)]
  rw [iN (by simpa using hi),List.drop_eq_nil_of_le (by omega),List.drop_eq_nil_of_le (by omega)];rfl
theorem OB(a b:List Nd)(hl:a.length <= 1000000):xI a b=some (decide (a=b)):=by
 unfold xI;by_cases h:a.length=b.length
 ·rw [iN (by simp;omega)];refine (BZ a b h hl (((a.length:Int) - 0:Int).toNat+1) 0 (by omega) (by omega)).trans ?_;simp
 rw [iP (by simp;omega)];congr 1;exact (decide_eq_false λe=>h (by rw [e])).symm
theorem Ze(a b:List BY)(h:a.length=b.length)(hl:a.length <= 1000000):∀ (k i:Nat),i <= a.length->a.length+1 <= i+k->oZ a b k (i:Int)=some (decide (a.drop i=b.drop i))
 | 0,i,_,h=>by omega
 | k+1,i,h0,hk=>by
  unfold oZ;by_cases hi:i < a.length
  ·have hi':i < b.length:=by omega
   rw [iP (by simpa using hi),bY hi];simp only [bS];rw [bY hi'];simp only [bS];rw [List.drop_eq_getElem_cons hi,List.drop_eq_getElem_cons hi'];have es:sEq a[i] b[i]=decide (a[i]=b[i]):=by rw [Bool.eq_iff_iff,Hz];simp
   rw [es];by_cases e:a[i]=b[i]
   ·rw [iN (by simp [e]),show IntKind.i64.wrap ((i:Int)+1)=((i+1:Nat):Int) from by rw [w64 (by omega) (by omega)];omega,Ze a b h hl k (i+1) (by omega) (by omega),e];congr 1;exact decide_eq_decide.2 ⟨λh=>by rw [h],λh=>(List.cons.inj h).2⟩
   rw [iP (by simp [e]),decide_eq_false (λh=>e (List.cons.inj h).1)]
  rw [iN (by simpa using hi),List.drop_eq_nil_of_le (by omega),List.drop_eq_nil_of_le (by omega)];rfl
theorem JV(a b:List BY)(hl:a.length <= 1000000):xH a b=some (decide (a=b)):=by
 unfold xH;by_cases h:a.length=b.length
 ·rw [iN (by simp;omega)];refine (Ze a b h hl (((a.length:Int) - 0:Int).toNat+1) 0 (by omega) (by omega)).trans ?_;simp
 rw [iP (by simp;omega)];congr 1;exact (decide_eq_false λe=>h (by rw [e])).symm
theorem EA(x y:Res)(hl:x.Names.length <= 1000000):tF x y=some (decide (x=y)):=by
 unfold tF;rw [JV _ _ hl];obtain ⟨e,p,d,v,n⟩:=x;obtain ⟨e',p',d',v',n'⟩:=y;simp only [bS,dA.mk.injEq];have es:∀ s t:BY,sEq s t=decide (s=t):=λs t=>by rw [Bool.eq_iff_iff,Hz];simp
 rw [es,es];by_cases h1:e=e'
 ·rw [iP (by simpa using h1)];by_cases h2:p=p'
  ·rw [iP (by simpa using h2)];by_cases h3:d=d'
   ·rw [iP (by simpa using h3)];by_cases h4:v=v'
    ·rw [iP (by simpa using h4)];simp [h1,h2,h3,h4]
    rw [iN (by simpa using h4),decide_eq_false (λh=>h4 h.2.2.2.1)]
   rw [iN (by simpa using h3),decide_eq_false (λh=>h3 h.2.2.1)]
  rw [iN (by simpa using h2),decide_eq_false (λh=>h2 h.2.1)]
 rw [iN (by simpa using h1),decide_eq_false (λh=>h1 h.1)]
abbrev Pie:=dE
abbrev Tn:=aQ
abbrev Sto:=aG
abbrev Pt1:=bL
def cG(t:Tn):List UInt8:=bl t.Dir
theorem Ic{a b:List UInt8}(h:¬ a < b)(k:a ≠ b):b < a:=by
 rcases SV a b with h' | h' | h'
 ·exact absurd h' h
 ·exact absurd h' k
 exact h'
section
variable {α:Type} (κ:α->List UInt8)
def gLt(p:List UInt8)(x:α):Bool:=decide (κ x < p)
def gEq(p:List UInt8)(x:α):Bool:=decide (κ x=p)
def gGt(p:List UInt8)(x:α):Bool:=!gLt κ p x && !gEq κ p x
theorem Zf(l:List α)(p:List UInt8)(i:Nat)(hs:l.Pairwise (κ · < κ ·))(h1:i <= l.length)(h3:∀ j (h:j < l.length),j < i->κ l[j] < p)(h4:∀ j (h:j < l.length),i <= j->¬ κ l[j] < p) :
  l.take i=l.filter (gLt κ p)/\((∃ x,l.drop i=x::l.filter (gGt κ p)/\κ x=p/\l.find? (gEq κ p)=some x/\l[i]? =some x/\x ∈ l)∨(l.drop i=l.filter (gGt κ p)/\l.find? (gEq κ p)=none/\l[i]?.map κ ≠ some p)):=by
 have hp:=List.pairwise_iff_getElem.1 hs;have e:∀ g:α->Bool,l.filter g=(l.take i).filter g ++ (l.drop i).filter g:=λg=>by rw [← List.filter_append,List.take_append_drop]
 have ht:∀ y ∈ l.take i,κ y < p:=λy hy=>by
  obtain ⟨m,hm,rfl⟩:=List.mem_take_iff_getElem.1 hy;exact h3 m (by omega) (by omega)
 have hd:∀ y ∈ l.drop i,¬ κ y < p:=λy hy=>by
  obtain ⟨m,hm,rfl⟩:=List.mem_drop_iff_getElem.1 hy;exact h4 _ (by omega) (by omega)
 have t1:(l.take i).filter (gLt κ p)=l.take i:=List.filter_eq_self.2 λy hy=>by simpa [gLt] using ht y hy
 have t2:(l.drop i).filter (gLt κ p)= []:=List.filter_eq_nil_iff.2 λy hy=>by simpa [gLt] using hd y hy
 have t3:(l.take i).filter (gGt κ p)= []:=List.filter_eq_nil_iff.2 λy hy=>by simp [gGt,gLt,ht y hy]
 refine ⟨by rw [e,t1,t2,List.append_nil],?_⟩;rw [e (gGt κ p),t3,List.nil_append];by_cases hi:i < l.length
 ·by_cases hk:κ l[i]=p
  ·refine .inl ⟨l[i],?_,hk,?_,List.getElem?_eq_getElem hi,List.getElem_mem hi⟩
   ·rw [List.drop_eq_getElem_cons hi,List.filter_cons,iN (by simp [gGt,gEq,hk])];congr 1;refine (List.filter_eq_self.2 λy hy=>?_).symm;obtain ⟨m,hm,rfl⟩:=List.mem_drop_iff_getElem.1 hy;have:=hp i (i+1+m) hi (by omega) (by omega);rw [hk] at this;simp [gGt,gLt,gEq,Jj this,(uR this).symm]
   rw [List.find?_eq_some_iff_append];refine ⟨by simpa [gEq] using hk,l.take i,l.drop (i+1),?_,λy hy=>by simpa [gEq] using uR (ht y hy)⟩;rw [← List.drop_eq_getElem_cons hi,List.take_append_drop]
  have hne:∀ y ∈ l.drop i,κ y ≠ p:=λy hy=>by
   obtain ⟨m,hm,rfl⟩:=List.mem_drop_iff_getElem.1 hy;rcases Nat.eq_zero_or_pos m with rfl | hm0
   ·simpa using hk
   have h5:=Ic (h4 i hi (Nat.le_refl _)) hk;exact (uR (E1 h5 (hp i (i+m) hi (by omega) (by omega)))).symm
  refine .inr ⟨?_,?_,by rw [List.getElem?_eq_getElem hi];simpa using hk⟩
  ·exact (List.filter_eq_self.2 λy hy=>by simp [gGt,gLt,gEq,hd y hy,hne y hy]).symm
  rw [List.find?_eq_none];intro y hy;rw [← List.take_append_drop i l] at hy;rcases List.mem_append.1 hy with h | h
  ·simpa [gEq] using uR (ht y h)
  simpa [gEq] using hne y h
 refine .inr ⟨?_,?_,by rw [List.getElem?_eq_none (by omega)];simp⟩
 ·rw [List.drop_eq_nil_of_le (by omega)];rfl
 rw [List.find?_eq_none];intro y hy;have:l.take i=l:=List.take_of_length_le (by omega);rw [← this] at hy;simpa [gEq] using uR (ht y hy)
end
theorem mR(s:BY):gM s=some (dK (bl s)):=by
 unfold gM;rw [Rb];simp only [bS];unfold spl dK;cases parts (bl s) <;> rfl
theorem Jm(x a b:Int):yL x a b=some (decide (a <= x/\x <= b)):=by
 unfold yL;by_cases h:x ≥ a
 ·rw [iP (by simpa using h)];congr 1;exact decide_eq_decide.2 ⟨λh'=>⟨h,h'⟩,λh'=>h'.2⟩
 rw [iN (by simpa using h),decide_eq_false (λh'=>h h'.1)]
def yI(p d:BY)(v least o:Int):Bool:=dK (bl p) && decide ((bl d).length <= 256) && decide (least <= v/\v <= 281474976710656) && decide (0 <= o/\o <= 1099511627776)
theorem Vk(p d:BY)(v least o:Int):A2 p d v least o=some (yI p d v least o):=by
 unfold A2 yI;rw [mR];simp only [bS];have z:=dY d;cases dK (bl p) with
 | false=>rw [iN (by simp)];simp
 | true=>
  rw [iP rfl];by_cases h:(bl d).length <= 256
  ·rw [iP (decide_eq_true (by omega)),Jm,decide_eq_true h];simp only [bS];cases decide (least <= v/\v <= 281474976710656) with
   | false=>rw [iN (by simp)];simp
   | true=>rw [iP rfl,Jm];simp
  rw [iN (by rw [decide_eq_false (by omega)];simp),decide_eq_false h];simp
def pnB(x:Nd):Bool:=decide (x.Turn=0) && yI x.Path x.Data x.Version 0 x.Owner
def ptB(t:Tn):Bool:=dK (cG t) && decide (1 <= t.Next/\t.Next <= 10000)
theorem GO(x:Nd):F5 x=some (!pnB x):=by
 unfold F5 pnB;by_cases h:x.Turn=0
 ·rw [iN (by simpa using h),Vk,decide_eq_true h];simp
 rw [iP (by simpa using h),decide_eq_false h];simp
theorem GP(t:Tn):F6 t=some (!ptB t):=by
 unfold F6 ptB;rw [mR,show bl t.Dir=cG t from rfl];simp only [bS];cases dK (cG t) with
 | false=>rw [iP (by rfl)];simp
 | true=>rw [iN (by simp),Jm];simp
theorem CA(l:List Nd)(hl:l.length <= 140737488351232):∀ (k i:Nat),i <= l.length->l.length+1 <= i+k->∃ v:Int,eH l k (i:Int)=some v/\decide (v ≥ 0)= !(l.drop i).all pnB
 | 0,i,_,h=>by omega
 | k+1,i,h0,h=>by
  unfold eH;by_cases hi:i < l.length
  ·rw [iP (by simpa using hi),bY hi,List.drop_eq_getElem_cons hi];simp only [bS,GO,List.all_cons];cases hm:pnB l[i] with
   | false=>rw [iP (by rfl)];exact ⟨_,rfl,by simp⟩
   | true=>
    rw [iN (by simp),hP (by omega)];obtain ⟨v,h1,h2⟩:=CA l hl k (i+1) (by omega) (by omega);exact ⟨v,h1,by rw [h2];simp⟩
  rw [iN (by simpa using hi),List.drop_eq_nil_of_le (by omega)];exact ⟨-1,rfl,by simp⟩
theorem CB(l:List Tn)(hl:l.length <= 140737488351232):∀ (k i:Nat),i <= l.length->l.length+1 <= i+k->∃ v:Int,eI l k (i:Int)=some v/\decide (v ≥ 0)= !(l.drop i).all ptB
 | 0,i,_,h=>by omega
 | k+1,i,h0,h=>by
  unfold eI;by_cases hi:i < l.length
  ·rw [iP (by simpa using hi),bY hi,List.drop_eq_getElem_cons hi];simp only [bS,GP,List.all_cons];cases hm:ptB l[i] with
   | false=>rw [iP (by rfl)];exact ⟨_,rfl,by simp⟩
   | true=>
    rw [iN (by simp),hP (by omega)];obtain ⟨v,h1,h2⟩:=CB l hl k (i+1) (by omega) (by omega);exact ⟨v,h1,by rw [h2];simp⟩
  rw [iN (by simpa using hi),List.drop_eq_nil_of_le (by omega)];exact ⟨-1,rfl,by simp⟩
theorem Gv{α:Type}(κ:α->List UInt8)(l:List α):(∀ j (h:j < l.length),0 < j->κ (l[j - 1]'(by omega)) < κ l[j]) ↔ l.Pairwise (κ · < κ ·):=by
 constructor
 ·intro h;rw [List.pairwise_iff_getElem];intro i j hi hj hij
  induction j with
  | zero=>omega
  | succ j ih=>
   have h1:=h (j+1) hj (by omega);simp only [Nat.add_sub_cancel] at h1;rcases Nat.lt_or_ge i j with c | c
   ·exact E1 (ih (by omega) c) h1
   obtain rfl:i=j:=by omega
   exact h1
 intro h j hj h0;exact List.pairwise_iff_getElem.1 h (j - 1) j (by omega) hj (by omega)
theorem CC(l:List Nd)(hl:l.length <= 140737488351232):∀ (k i:Nat),i <= l.length->l.length+1 <= i+k->∃ b,fZ l k (i:Int)=some b/\(b=true ↔ ∀ j (h:j < l.length),i <= j->0 < j->key (l[j - 1]'(by omega)) < key l[j])
 | 0,i,_,h=>by omega
 | k+1,i,h0,h=>by
  unfold fZ oQ;by_cases hi:i < l.length
  ·rw [iP (by simpa using hi),hP (by omega)];obtain ⟨b,h1,h2⟩:=CC l hl k (i+1) (by omega) (by omega);by_cases h00:i=0
   ·subst h00;rw [iN (by simp),iN (by simp),h1];refine ⟨b,rfl,h2.trans ⟨λH j hj hij h0=>H j hj (by omega) h0,λH j hj hij h0=>H j hj (by omega) h0⟩⟩
   rw [iP (decide_eq_true (by omega)),show IntKind.i64.wrap ((i:Int) - 1)=((i - 1:Nat):Int) from by rw [w64 (by omega) (by omega)];omega,bY (show i - 1 < l.length by omega)];simp only [bS];rw [bY hi];simp only [bS,F3];rw [Eo,show bl (l[i - 1]'(by omega)).Path=key (l[i - 1]'(by omega)) from rfl,show bl (l[i]).Path=key l[i] from rfl];by_cases c:key (l[i - 1]'(by omega)) < key l[i]
   ·rw [decide_eq_true c,iN (by simp),h1];refine ⟨b,rfl,h2.trans ⟨λH j hj hij h0=>?_,λH j hj hij h0=>H j hj (by omega) h0⟩⟩;rcases Nat.lt_or_ge i j with d | d
    ·exact H j hj (by omega) h0
    obtain rfl:i=j:=by omega
    exact c
   rw [decide_eq_false c,iP (by rfl)];exact ⟨false,rfl,λh=>by simp at h,λH=>absurd (H i hi (Nat.le_refl _) (by omega)) c⟩
  rw [iN (by simpa using hi)];exact ⟨true,rfl,λ_ j hj hij=>by omega,λ_=>rfl⟩
theorem Zg(l:List Tn)(hl:l.length <= 140737488351232):∀ (k i:Nat),i <= l.length->l.length+1 <= i+k->∃ b,gA l k (i:Int)=some b/\(b=true ↔ ∀ j (h:j < l.length),i <= j->0 < j->cG (l[j - 1]'(by omega)) < cG l[j])
 | 0,i,_,h=>by omega
 | k+1,i,h0,h=>by
  unfold gA oR;by_cases hi:i < l.length
  ·rw [iP (by simpa using hi),hP (by omega)];obtain ⟨b,h1,h2⟩:=Zg l hl k (i+1) (by omega) (by omega);by_cases h00:i=0
   ·subst h00;rw [iN (by simp),iN (by simp),h1];refine ⟨b,rfl,h2.trans ⟨λH j hj hij h0=>H j hj (by omega) h0,λH j hj hij h0=>H j hj (by omega) h0⟩⟩
   rw [iP (decide_eq_true (by omega)),show IntKind.i64.wrap ((i:Int) - 1)=((i - 1:Nat):Int) from by rw [w64 (by omega) (by omega)];omega,bY (show i - 1 < l.length by omega)];simp only [bS];rw [bY hi];simp only [bS,F4];rw [Eo,show bl (l[i - 1]'(by omega)).Dir=cG (l[i - 1]'(by omega)) from rfl,show bl (l[i]).Dir=cG l[i] from rfl];by_cases c:cG (l[i - 1]'(by omega)) < cG l[i]
   ·rw [decide_eq_true c,iN (by simp),h1];refine ⟨b,rfl,h2.trans ⟨λH j hj hij h0=>?_,λH j hj hij h0=>H j hj (by omega) h0⟩⟩;rcases Nat.lt_or_ge i j with d | d
    ·exact H j hj (by omega) h0
    obtain rfl:i=j:=by omega
    exact c
   rw [decide_eq_false c,iP (by rfl)];exact ⟨false,rfl,λh=>by simp at h,λH=>absurd (H i hi (Nat.le_refl _) (by omega)) c⟩
  rw [iN (by simpa using hi)];exact ⟨true,rfl,λ_ j hj hij=>by omega,λ_=>rfl⟩
structure cV (s:Sto):Prop where
 nodes:s.Nodes.all pnB=true
 nsort:s.Nodes.Pairwise (key · < key ·)
 turns:s.Turns.all ptB=true
 tsort:s.Turns.Pairwise (cG · < cG ·)
theorem H9(s:Sto)(hn:s.Nodes.length <= 140737488351232)(ht:s.Turns.length <= 140737488351232):∃ b,sN s=some b/\(b=true ↔ cV s):=by
 unfold sN jK jL lL lM wU wV;obtain ⟨v,a1,a2⟩:=CA s.Nodes hn (((s.Nodes.length:Int) - 0:Int).toNat+1) 0 (by omega) (by omega);obtain ⟨u,b1,b2⟩:=CB s.Turns ht (((s.Turns.length:Int) - 0:Int).toNat+1) 0 (by omega) (by omega);obtain ⟨c,c1,c2⟩:=CC s.Nodes hn (((s.Nodes.length:Int) - 0:Int).toNat+1) 0 (by omega) (by omega);obtain ⟨d,d1,d2⟩:=Zg s.Turns ht (((s.Turns.length:Int) - 0:Int).toNat+1) 0 (by omega) (by omega);rw [show eH s.Nodes (((s.Nodes.length:Int) - 0:Int).toNat+1) 0=some v from a1,show eI s.Turns (((s.Turns.length:Int) - 0:Int).toNat+1) 0=some u from b1,
  show fZ s.Nodes (((s.Nodes.length:Int) - 0:Int).toNat+1) 0=some c from c1,show gA s.Turns (((s.Turns.length:Int) - 0:Int).toNat+1) 0=some d from d1]
 simp only [bS];rw [a2,b2,List.drop_zero,List.drop_zero];have e1:c=true ↔ s.Nodes.Pairwise (key · < key ·):=c2.trans ⟨λH=>(Gv key _).1 λj h h0=>H j h (by omega) h0,λH j h _ h0=>(Gv key _).2 H j h h0⟩;have e2:d=true ↔ s.Turns.Pairwise (cG · < cG ·):=d2.trans ⟨λH=>(Gv cG _).1 λj h h0=>H j h (by omega) h0,λH j h _ h0=>(Gv cG _).2 H j h h0⟩;cases f1:s.Nodes.all pnB with
 | false=>exact ⟨false,by simp,λh=>by simp at h,λH=>by rw [H.nodes] at f1;cases f1⟩
 | true=>
  cases f2:s.Turns.all ptB with
  | false=>exact ⟨false,by simp,λh=>by simp at h,λH=>by rw [H.turns] at f2;cases f2⟩
  | true=>
   cases c with
   | false=>exact ⟨false,by simp,λh=>by simp at h,λH=>e1.2 H.nsort⟩
   | true=>
    cases d with
    | false=>exact ⟨false,by simp,λh=>by simp at h,λH=>e2.2 H.tsort⟩
    | true=>exact ⟨true,by simp,λ_=>⟨f1,e1.1 rfl,f2,e2.1 rfl⟩,λ_=>rfl⟩
def upP(p:List UInt8):List UInt8:=(lE p).getD [47]
theorem SX(s:BY):P4 s=some (mk (upP (bl s))):=by
 unfold P4 upP;rw [Ft];simp only [bS];cases lE (bl s) <;> rfl
def O2(p:Pt1):List UInt8:=if p.Kind=4∨p.Kind=9∨p.Kind=10 then bl p.Path else upP (bl p.Path)
def yQ(p:Pt1):Bool:=yI p.Path p.Data p.Version (-1) p.Owner && decide (bl p.Dir=O2 p) && decide (1 <= p.Kind/\p.Kind <= 10) && (decide (p.Kind ≠ 2) || !decide (bl p.Path= [47]))
theorem Ny(p:Pt1)(s:BY)(hs:bl s=O2 p):A3 p s=some (yQ p):=by
 unfold A3 yQ;rw [Vk,oU,hs];simp only [bS];cases yI p.Path p.Data p.Version (-1) p.Owner with
 | false=>rw [iN (by simp)];simp
 | true=>
  rw [iP rfl];cases decide (bl p.Dir=O2 p) with
  | false=>rw [iN (by simp)];simp
  | true=>
   rw [iP rfl];by_cases a:p.Kind ≥ 1
   ·rw [iP (decide_eq_true a)];by_cases b:p.Kind <= 10
    ·rw [iP (decide_eq_true b),decide_eq_true (show 1 <= p.Kind/\p.Kind <= 10 from ⟨a,b⟩)];by_cases c:p.Kind=2
     ·rw [iN (by simpa using c),JT];simp [c]
     rw [iP (by simpa using c)];simp [c]
    rw [iN (by rw [decide_eq_false b];simp),decide_eq_false (λh=>b h.2)];simp
   rw [iN (by rw [decide_eq_false a];simp),decide_eq_false (λh=>a h.1)];simp
theorem Th(p:Pt1):S7 p=some (yQ p):=by
 unfold S7 A4;rw [SX];simp only [bS];by_cases a:p.Kind=4
 ·rw [iP (by simpa using a),iP trivial,Ny p _ (by unfold O2;rw [iP (.inl a)])]
 rw [iN (by simpa using a)];by_cases b:p.Kind=9
 ·rw [iP (by simpa using b),iP trivial,Ny p _ (by unfold O2;rw [iP (.inr (.inl b))])]
 rw [iN (by simpa using b)];by_cases c:p.Kind=10
 ·rw [iP (by simpa using c),Ny p _ (by unfold O2;rw [iP (.inr (.inr c))])]
 rw [iN (by simpa using c),Ny p _ (by rw [iV];unfold O2;rw [iN (by simp [a,b,c])])]
theorem GQ(x:Nd)(s:BY):vN x s=some (if key x < bl s then -1 else if key x=bl s then 0 else 1):=by
 show some (Extern.BytealgCompare.cmp x.Path s)=_;rw [Tg];rfl
theorem GR(x:Tn)(s:BY):xJ x s=some (if cG x < bl s then -1 else if cG x=bl s then 0 else 1):=by
 show some (Extern.BytealgCompare.cmp x.Dir s)=_;rw [Tg];rfl
theorem Zh(l:List Nd)(s:BY)(hlen:l.length <= 1000000)(hs:∀ i j (hi:i < l.length) (hj:j < l.length),i < j->key l[i] < key l[j]):∀ (k lo hi:Nat),lo <= hi->hi <= l.length->hi+1 <= lo+k->(∀ j (h:j < l.length),j < lo->key l[j] < bl s)->(∀ j (h:j < l.length),hi <= j->¬ key l[j] < bl s)->
  ∃ i,i <= l.length/\cK l s k (lo:Int) (hi:Int)=some ((i:Int),decide (l[i]?.map key=some (bl s)))/\(∀ j (h:j < l.length),j < i->key l[j] < bl s)/\(∀ j (h:j < l.length),i <= j->¬ key l[j] < bl s)
 | 0,lo,hi,_,_,h,_,_=>by omega
 | k+1,lo,hi,hlh,hhi,h,hlo,hup=>by
  unfold cK;by_cases hl:lo < hi
  ·rw [iP (by simpa using hl),show IntKind.i64.wrap ((lo:Int)+(hi:Int))=IntKind.i64.wrap ((lo+hi:Nat):Int) from by rw [Int.natCast_add],JQ _ (by omega)];have hm:(lo+hi) / 2 < l.length:=by omega
   rw [bY hm];simp only [bS];rw [GQ];simp only [bS];by_cases hk:key l[(lo+hi) / 2] < bl s
   ·rw [iP hk,iP (by decide),show IntKind.i64.wrap ((((lo+hi) / 2:Nat):Int)+1)=(((lo+hi) / 2+1:Nat):Int) from by rw [w64 (by omega) (by omega)];omega];refine Zh l s hlen hs k ((lo+hi) / 2+1) hi (by omega) hhi (by omega) (λj hj hjl=>?_) hup;by_cases e:j=(lo+hi) / 2
    ·subst e;exact hk
    exact E1 (hs j _ hj hm (by omega)) hk
   rw [iN hk,iN (by split <;> decide)];refine Zh l s hlen hs k lo ((lo+hi) / 2) (by omega) (by omega) (by omega) hlo (λj hj hjl=>?_);by_cases e:(lo+hi) / 2=j
   ·subst e;exact hk
   exact λh'=>hk (E1 (hs _ j hm hj (by omega)) h')
  rw [iN (by simpa using hl)];have e:lo=hi:=by omega
  subst e;refine ⟨lo,hhi,?_,hlo,hup⟩;by_cases hl2:lo < l.length
  ·rw [iP (by simpa using hl2),bY hl2];simp only [bS];rw [GQ];simp only [bS];rw [iN (hup lo hl2 (Nat.le_refl _)),List.getElem?_eq_getElem hl2];by_cases hk:key l[lo]=bl s <;> simp [hk]
  rw [iN (by simpa using hl2),List.getElem?_eq_none (by omega)];simp
theorem Zi(l:List Tn)(s:BY)(hlen:l.length <= 1000000)(hs:∀ i j (hi:i < l.length) (hj:j < l.length),i < j->cG l[i] < cG l[j]):∀ (k lo hi:Nat),lo <= hi->hi <= l.length->hi+1 <= lo+k->(∀ j (h:j < l.length),j < lo->cG l[j] < bl s)->(∀ j (h:j < l.length),hi <= j->¬ cG l[j] < bl s)->
  ∃ i,i <= l.length/\cL l s k (lo:Int) (hi:Int)=some ((i:Int),decide (l[i]?.map cG=some (bl s)))/\(∀ j (h:j < l.length),j < i->cG l[j] < bl s)/\(∀ j (h:j < l.length),i <= j->¬ cG l[j] < bl s)
 | 0,lo,hi,_,_,h,_,_=>by omega
 | k+1,lo,hi,hlh,hhi,h,hlo,hup=>by
  unfold cL;by_cases hl:lo < hi
  ·rw [iP (by simpa using hl),show IntKind.i64.wrap ((lo:Int)+(hi:Int))=IntKind.i64.wrap ((lo+hi:Nat):Int) from by rw [Int.natCast_add],JQ _ (by omega)];have hm:(lo+hi) / 2 < l.length:=by omega
   rw [bY hm];simp only [bS];rw [GR];simp only [bS];by_cases hk:cG l[(lo+hi) / 2] < bl s
   ·rw [iP hk,iP (by decide),show IntKind.i64.wrap ((((lo+hi) / 2:Nat):Int)+1)=(((lo+hi) / 2+1:Nat):Int) from by rw [w64 (by omega) (by omega)];omega];refine Zi l s hlen hs k ((lo+hi) / 2+1) hi (by omega) hhi (by omega) (λj hj hjl=>?_) hup;by_cases e:j=(lo+hi) / 2
    ·subst e;exact hk
    exact E1 (hs j _ hj hm (by omega)) hk
   rw [iN hk,iN (by split <;> decide)];refine Zi l s hlen hs k lo ((lo+hi) / 2) (by omega) (by omega) (by omega) hlo (λj hj hjl=>?_);by_cases e:(lo+hi) / 2=j
   ·subst e;exact hk
   exact λh'=>hk (E1 (hs _ j hm hj (by omega)) h')
  rw [iN (by simpa using hl)];have e:lo=hi:=by omega
  subst e;refine ⟨lo,hhi,?_,hlo,hup⟩;by_cases hl2:lo < l.length
  ·rw [iP (by simpa using hl2),bY hl2];simp only [bS];rw [GR];simp only [bS];rw [iN (hup lo hl2 (Nat.le_refl _)),List.getElem?_eq_getElem hl2];by_cases hk:cG l[lo]=bl s <;> simp [hk]
  rw [iN (by simpa using hl2),List.getElem?_eq_none (by omega)];simp
theorem GS(l:List Nd)(s:BY)(hlen:l.length <= 1000000)(hs:l.Pairwise (key · < key ·)) :
  ∃ i:Nat,i <= l.length/\oM l s=some ((i:Int),(l.find? (isK (bl s))).isSome)/\l.take i=l.filter (gLt key (bl s))/\
   ((∃ x,l.drop i=x::l.filter (gGt key (bl s))/\key x=bl s/\l.find? (isK (bl s))=some x/\l[i]? =some x/\x ∈ l)∨(l.drop i=l.filter (gGt key (bl s))/\l.find? (isK (bl s))=none)):=by
 obtain ⟨i,h1,h2,h3,h4⟩:=Zh l s hlen (List.pairwise_iff_getElem.1 hs) (((l.length:Int) - 0:Int).toNat+1) 0 l.length (by omega) (Nat.le_refl _) (by omega) (λj _ h=>by omega) (λj h h'=>by omega);obtain ⟨g1,g2⟩:=Zf key l (bl s) i hs h1 h3 h4;refine ⟨i,h1,?_,g1,?_⟩
 ·unfold oM gB;rw [show cK l s (((l.length:Int) - 0:Int).toNat+1) 0 (l.length:Int)=_ from h2];simp only [bS];rcases g2 with ⟨x,_,hk,hf,hi,_⟩ | ⟨_,hf,hi⟩
  ·rw [hi,show l.find? (isK (bl s))=some x from hf];simp [hk]
  rw [decide_eq_false hi,show l.find? (isK (bl s))=none from hf];rfl
 rcases g2 with ⟨x,a,b,c,d,e⟩ | ⟨a,b,_⟩
 ·exact .inl ⟨x,a,b,c,d,e⟩
 exact .inr ⟨a,b⟩
theorem SY(l:List Tn)(s:BY)(hlen:l.length <= 1000000)(hs:l.Pairwise (cG · < cG ·)) :
  ∃ i:Nat,i <= l.length/\cU l s=some ((i:Int),(l.find? (gEq cG (bl s))).isSome)/\l.take i=l.filter (gLt cG (bl s))/\
   ((∃ x,l.drop i=x::l.filter (gGt cG (bl s))/\cG x=bl s/\l.find? (gEq cG (bl s))=some x/\l[i]? =some x/\x ∈ l)∨(l.drop i=l.filter (gGt cG (bl s))/\l.find? (gEq cG (bl s))=none)):=by
 obtain ⟨i,h1,h2,h3,h4⟩:=Zi l s hlen (List.pairwise_iff_getElem.1 hs) (((l.length:Int) - 0:Int).toNat+1) 0 l.length (by omega) (Nat.le_refl _) (by omega) (λj _ h=>by omega) (λj h h'=>by omega);obtain ⟨g1,g2⟩:=Zf cG l (bl s) i hs h1 h3 h4;refine ⟨i,h1,?_,g1,?_⟩
 ·unfold cU;rw [show cL l s (((l.length:Int) - 0:Int).toNat+1) 0 (l.length:Int)=_ from h2];rcases g2 with ⟨x,_,hk,hf,hi,_⟩ | ⟨_,hf,hi⟩
  ·rw [hi,hf];simp [hk]
  rw [decide_eq_false hi,hf];rfl
 rcases g2 with ⟨x,a,b,c,d,e⟩ | ⟨a,b,_⟩
 ·exact .inl ⟨x,a,b,c,d,e⟩
 exact .inr ⟨a,b⟩
def SZ(p:Pt1)(x:Nd):Bool:=(decide (p.Kind=3) || decide (p.Kind=5) || decide (p.Kind=6)) && decide (0 <= p.Version) && decide (p.Version ≠ x.Version)
def ndS(l:List Nd)(p:Pt1):Nd×Int:=match l.find? (isK (bl p.Path)) with
 | none=>(zNd,62)
 | some x=>if SZ p x=true then (x,63) else (x,0)
theorem Bz(l:List Nd)(t:List Tn)(p:Pt1)(hlen:l.length <= 1000000)(hs:l.Pairwise (key · < key ·)) :
  (∃ e,(e=62∨e=63)/\(ndS l p).2=e/\jR l 0 (ByteArray.mk #[]) (ByteArray.mk #[]) 0 [] p=some ((-1),e,ByteArray.mk #[],ByteArray.mk #[],0,[]))∨
  (∃ i:Nat,∃ hi:i < l.length,(ndS l p).2=0/\(ndS l p).1=l[i]/\key l[i]=bl p.Path/\l.find? (isK (bl p.Path))=some l[i]/\jR l 0 (ByteArray.mk #[]) (ByteArray.mk #[]) 0 [] p=some ((i:Int),0,ByteArray.mk #[],ByteArray.mk #[],0,[])/\oM l p.Path=some ((i:Int),true)):=by
 obtain ⟨i,h1,h2,h3,h4⟩:=GS l p.Path hlen hs;unfold jR rV rU vO ndS iM;rw [h2];simp only [bS];rcases h4 with ⟨x,_,hk,hf,hi,_⟩ | ⟨_,hf⟩
 ·obtain ⟨hi',rfl⟩:=List.getElem?_eq_some_iff.1 hi;rw [hf];simp only [Option.isSome_some,Bool.not_true,Bool.false_eq_true,if_false];rw [bY hi'];simp only [bS];unfold SZ;by_cases a:p.Kind=3∨p.Kind=5∨p.Kind=6
  ·by_cases b:0 <= p.Version
   ·by_cases c:p.Version=(l[i]).Version
    ·refine .inr ⟨i,hi',?_,?_,hk,rfl,?_,?_⟩
     ·simp [c]
     ·simp [c]
     ·rcases a with a | a | a <;> simp [a,c,show 0 <= (l[i]).Version from c ▸ b]
     first | rfl | (rw [h2,hf];rfl)
    refine .inl ⟨63,.inr rfl,?_,?_⟩
    ·rcases a with a | a | a <;> simp [a,b,c]
    rcases a with a | a | a <;> simp [a,b,c]
   refine .inr ⟨i,hi',?_,?_,hk,rfl,?_,?_⟩
   ·simp [b]
   ·simp [b]
   ·rcases a with a | a | a <;> simp [a,b]
   first | rfl | (rw [h2,hf];rfl)
  refine .inr ⟨i,hi',?_,?_,hk,rfl,?_,?_⟩
  ·simp [show p.Kind ≠ 3 from λh=>a (.inl h),show p.Kind ≠ 5 from λh=>a (.inr (.inl h)),show p.Kind ≠ 6 from λh=>a (.inr (.inr h))]
  ·simp [show p.Kind ≠ 3 from λh=>a (.inl h),show p.Kind ≠ 5 from λh=>a (.inr (.inl h)),show p.Kind ≠ 6 from λh=>a (.inr (.inr h))]
  ·simp [show p.Kind ≠ 3 from λh=>a (.inl h),show p.Kind ≠ 5 from λh=>a (.inr (.inl h)),show p.Kind ≠ 6 from λh=>a (.inr (.inr h))]
  first | rfl | (rw [h2,hf];rfl)
 rw [hf];refine .inl ⟨62,.inl rfl,rfl,?_⟩;simp
abbrev em:BY:=ByteArray.mk #[]
theorem GT(l:List Nd)(t:List Tn)(p:Pt1)(hlen:l.length <= 1000000)(hs:l.Pairwise (key · < key ·)) :
  yV l 0 em em 0 [] p=some ((if (ndS l p).2 ≠ 0 then (ndS l p).2 else if (ndS l p).1.Owner ≠ 0 then 65 else 0),em,em,0,[]):=by
 unfold yV uB;rcases Bz l t p hlen hs with ⟨e,he,h1,h2⟩ | ⟨i,hi,h1,h2,h3,h4,h5,h6⟩
 ·rw [h2];simp only [bS];rw [iN (by simp),iN (by simp),h1,iP (by omega)]
 rw [h5];simp only [bS];rw [iP (decide_eq_true (by omega)),bY hi,h1,iN (by simp),h2];simp only [bS];by_cases c:(l[i]).Owner=0
 ·rw [iN (by simpa using c),iN (by simpa using c)]
 rw [iP (by simpa using c),iP c];rfl
theorem OC(l:List Nd)(t:List Tn)(p:Pt1)(hlen:l.length <= 1000000)(hs:l.Pairwise (key · < key ·)) :
  B4 l 0 em em 0 [] p=some ((ndS l p).2,em,em,0,[]):=by
 unfold B4;rcases Bz l t p hlen hs with ⟨e,he,h1,h2⟩ | ⟨i,hi,h1,h2,h3,h4,h5,h6⟩
 ·rw [h2,h1];rfl
 rw [h5,h1];rfl
theorem JW(l:List Nd)(t:List Tn)(p:Pt1)(hlen:l.length <= 1000000)(hs:l.Pairwise (key · < key ·)) :
  zS l 0 em em 0 [] p=some ((ndS l p).2,em,em,(if (ndS l p).2 ≠ 0 then 0 else (ndS l p).1.Version),[]):=by
 unfold zS;rcases Bz l t p hlen hs with ⟨e,he,h1,h2⟩ | ⟨i,hi,h1,h2,h3,h4,h5,h6⟩
 ·rw [h2];simp only [bS];rw [iN (by simp),h1,iP (by omega)]
 rw [h5];simp only [bS];rw [iP (decide_eq_true (by omega)),bY hi,h1,iN (by simp),h2];simp only [bS]
theorem JX(l:List Nd)(t:List Tn)(p:Pt1)(hlen:l.length <= 1000000)(hs:l.Pairwise (key · < key ·)) :
  zT l 0 em em 0 [] p=some ((ndS l p).2,em,(if (ndS l p).2 ≠ 0 then em else (ndS l p).1.Data),(if (ndS l p).2 ≠ 0 then 0 else (ndS l p).1.Version),[]):=by
 unfold zT;rcases Bz l t p hlen hs with ⟨e,he,h1,h2⟩ | ⟨i,hi,h1,h2,h3,h4,h5,h6⟩
 ·rw [h2];simp only [bS];rw [iN (by simp),h1,iP (by omega),iP (by omega)]
 rw [h5];simp only [bS];rw [iP (decide_eq_true (by omega)),bY hi,h1,iN (by simp),iN (by simp),h2];simp only [bS]
theorem EB(l:List Nd)(t:List Tn)(p:Pt1)(hlen:l.length <= 1000000)(hs:l.Pairwise (key · < key ·)) :
  xK l 0 em em 0 [] p=some ((if (ndS l p).2 ≠ 0 then l else l.filter (λy=>!isK (bl p.Path) y)),(ndS l p).2,em,em,0,[]):=by
 unfold xK;rcases Bz l t p hlen hs with ⟨e,he,h1,h2⟩ | ⟨i,hi,h1,h2,h3,h4,h5,h6⟩
 ·rw [h2];simp only [bS];rw [iN (by simp),h1,iP (by omega)]
 rw [h5];simp only [bS];rw [iP (decide_eq_true (by omega)),h6,h1,iN (by simp)];simp only [bS];rw [dJ ⟨by omega,by omega,by rw [w64 (by omega) (by omega)]⟩,Int.toNat_natCast,Zb hs hi,h3]
def EC(p:Pt1)(x:Nd):Nd:={ x with Data:=p.Data,Version:=x.Version+1 }
theorem GU(l:List Nd)(t:List Tn)(p:Pt1)(hlen:l.length <= 1000000)(hs:l.Pairwise (key · < key ·))(hv:∀ x ∈ l,0 <= x.Version/\x.Version <= 281474976710656) :
  yT l 0 em em 0 [] p=some (if (ndS l p).2 ≠ 0 then (l,(ndS l p).2,em,em,0,[]) else if (ndS l p).1.Version=281474976710656 then (l,2,em,em,0,[]) else (upd l (bl p.Path) (EC p),0,em,em,(ndS l p).1.Version+1,[])):=by
 unfold yT;rcases Bz l t p hlen hs with ⟨e,he,h1,h2⟩ | ⟨i,hi,h1,h2,h3,h4,h5,h6⟩
 ·rw [h2];simp only [bS];rw [iP (by simp),h1,iP (by omega)]
 rw [h5];simp only [bS];rw [iN (by rw [decide_eq_false (by omega)];simp),bY hi,h1,iN (by simp),h2];simp only [bS];by_cases c:(l[i]).Version=281474976710656
 ·rw [iP (by simpa using c),iP c];rfl
 have:=hv _ (List.getElem_mem hi);rw [iN (by simpa using c),iN c,w64 (by omega) (by omega)];simp only [Int.toNat_natCast,List.set_set];rw [← h3,← NY hs hi (EC p)];rfl
theorem Zj(x:Nd)(b:BY):D9 x b=some (C6 (bl b) x):=by
 unfold D9 C6;rw [Ft,show bl x.Path=key x from rfl];simp only [bS];cases h:lE (key x) with
 | none=>rw [iN (by simp [os2])];simp
 | some q=>rw [iP (by simp [os2]),oU];simp [os2,iV];rfl
theorem CD(l:List Nd)(b:BY)(hlen:l.length <= 1000000):∀ (k j:Nat),j <= l.length->l.length+1 <= j+k->∃ z:Int,dZ l b k (j:Int)=some z/\decide (z ≥ 0)=(l.drop j).any (C6 (bl b))
 | 0,j,_,h=>by omega
 | k+1,j,h0,h=>by
  unfold dZ;by_cases hj:j < l.length
  ·rw [iP (by simpa using hj),bY hj];simp only [bS];rw [Zj];simp only [bS];rw [List.drop_eq_getElem_cons hj,List.any_cons];cases hc:C6 (bl b) l[j] with
   | true=>rw [iP rfl];exact ⟨_,rfl,by simp⟩
   | false=>
    rw [iN (by simp),hP (by omega)];obtain ⟨z,h1,h2⟩:=CD l b hlen k (j+1) (by omega) (by omega);exact ⟨z,h1,by rw [h2,Bool.false_or]⟩
  rw [iN (by simpa using hj),List.drop_eq_nil_of_le (by omega)];exact ⟨_,rfl,rfl⟩
theorem OD(l:List Nd)(b:BY)(hlen:l.length <= 1000000):gE l b=some (l.any (C6 (bl b))):=by
 unfold gE jZ;obtain ⟨z,h1,h2⟩:=CD l b hlen (((l.length:Int) - 0:Int).toNat+1) 0 (by omega) (by omega);rw [show dZ l b (((l.length:Int) - 0:Int).toNat+1) 0=some z from h1];simp only [bS];rw [h2,List.drop_zero]
theorem Ms(l:List Nd)(u:Int×BY×BY×BY×Int×Int×Bool)(hlen:l.length <= 1000000):∀ (k j:Nat) (acc:List BY),j <= l.length->l.length+1 <= j+k->acc.length <= j->lN l u k (j:Int) acc=some (acc ++ ((l.drop j).filter (C6 (bl u.2.2.1))).map W7)
 | 0,j,acc,_,h,_=>by omega
 | k+1,j,acc,h0,h,ha=>by
  unfold lN uC;by_cases hj:j < l.length
  ·rw [iP (by simpa using hj),bY hj];simp only [bS];rw [Zj,hP (by omega)];simp only [bS];rw [List.drop_eq_getElem_cons hj,List.filter_cons];cases hc:C6 (bl u.2.2.1) l[j] with
   | true=>
    rw [iP rfl,iP rfl,Ut];simp only [bS];rw [dJ (by simp [LIM];omega),Ms l u hlen k (j+1) _ (by omega) (by omega) (by simp;omega),show mk (J7 (bl (l[j]).Path))=W7 l[j] from rfl];simp
   | false=>
    rw [iN (by simp),iN (by simp),Ms l u hlen k (j+1) _ (by omega) (by omega) (by omega)]
  rw [iN (by simpa using hj),List.drop_eq_nil_of_le (by omega),List.filter_nil,List.map_nil,List.append_nil]
theorem GV(l:List Nd)(t:List Tn)(p:Pt1)(hlen:l.length <= 1000000):yW l [] p=some ((l.filter (C6 (bl p.Path))).map W7):=by
 unfold yW I5;simp only [bS];refine (Ms l _ hlen (((l.length:Int) - 0:Int).toNat+1) 0 [] (by omega) (by omega) (by simp)).trans ?_;simp
theorem Vl(x:Nd)(w:Int)(r5:BY)(acc:List BY)(ha:acc.length <= 1000000):rW x w r5 acc=some (yP (bl r5) w x,if yP (bl r5) w x=true then acc ++ [W7 x] else acc):=by
 unfold rW sP sO yP;by_cases h:x.Owner=w
 ·rw [iP (by simpa using h),Zj];simp only [bS];rw [show (x.Owner == w)=true from by simpa using h,Bool.true_and];cases hc:C6 (bl r5) x with
  | true=>
   rw [iP rfl,iP rfl,Ut];simp only [bS];rw [dJ (by simp [LIM];omega)];rfl
  | false=>rw [iN (by simp),iN (by simp)]
 rw [iN (by simpa using h),iN (by simp),show (x.Owner == w)=false from by simpa using h,Bool.false_and,iN (by simp)]
theorem Zk(l:List Nd)(w:Int)(r5:BY)(acc:List BY)(ha:acc.length <= 500000)(hlen:l.length <= 500000):∀ (k j:Nat),j <= l.length->l.length+1 <= j+k->(∀ m (h:m < l.length),m < j->yP (bl r5) w l[m]=false)->
  (∃ i:Nat,∃ hi:i < l.length,dD l w r5 k (j:Int) acc=some ((i:Int),acc ++ [W7 l[i]])/\yP (bl r5) w l[i]=true/\∀ m (h:m < l.length),m < i->yP (bl r5) w l[m]=false)∨(dD l w r5 k (j:Int) acc=some (-1,acc)/\∀ m (h:m < l.length),yP (bl r5) w l[m]=false)
 | 0,j,_,h,_=>by omega
 | k+1,j,h0,h,hb=>by
  unfold dD;by_cases hj:j < l.length
  ·rw [iP (by simpa using hj),bY hj];simp only [bS];rw [Vl _ _ _ _ (by omega)];simp only [bS];cases hc:yP (bl r5) w l[j] with
   | true=>exact .inl ⟨j,hj,by rw [iP rfl,iP rfl],hc,λm h hm=>hb m h hm⟩
   | false=>
    rw [iN (by simp),iN (by simp),hP (by omega)];refine Zk l w r5 acc ha hlen k (j+1) (by omega) (by omega) λm h hm=>?_;by_cases e:m=j
    ·subst e;exact hc
    exact hb m h (by omega)
  rw [iN (by simpa using hj)];exact .inr ⟨rfl,λm h=>hb m h (by omega)⟩
theorem Uw(l0:List Nd)(w:Int)(r5:BY)(hlen:l0.length <= 500000):∀ (k i j:Nat) (l:List Nd) (acc:List BY),l.length=l0.length->i <= j->j <= l0.length->l0.length+1 <= j+k->acc.length <= j->l.take i=(l0.take j).filter (λx=>!yP (bl r5) w x)->l.drop j=l0.drop j->
  dP w r5 k l (i:Int) (j:Int) acc=some (l0.filter (λx=>!yP (bl r5) w x),acc ++ ((l0.drop j).filter (yP (bl r5) w)).map W7)
 | 0,i,j,l,acc,_,_,_,h,_,_,_=>by omega
 | k+1,i,j,l,acc,hl,hij,hj0,h,ha,ht,hd=>by
  unfold dP gN;by_cases hj:j < l.length
  ·have hj':j < l0.length:=by omega
   have hjx:l[j]=l0[j]:=by
    have h1:l[j]? =l0[j]? :=by
     have:=congrArg (λz:List Nd=>z[0]?) hd;simpa [List.getElem?_drop] using this
    rw [List.getElem?_eq_getElem hj,List.getElem?_eq_getElem hj'] at h1;exact Option.some.inj h1
   rw [iP (by simpa using hj),bY hj];simp only [bS];rw [hjx];rw [Vl _ _ _ _ (by omega)];simp only [bS];have hd':l0.drop j=l0[j]::l0.drop (j+1):=List.drop_eq_getElem_cons hj';cases hc:yP (bl r5) w l0[j] with
   | false=>
    rw [iP (by rfl),bY (show i < l.length by omega)];simp only [bS,Int.toNat_natCast];rw [iN (by simp),hP (show i <= 4611686018427387904 by omega),hP (show j <= 4611686018427387904 by omega)];rw [Uw l0 w r5 hlen k (i+1) (j+1) (l.set i l0[j]) acc (by simpa using hl) (by omega) (by omega) (by omega) (by omega) ?_ ?_]
    ·rw [hd',List.filter_cons,iN (by simp [hc])]
    ·rw [Jk hj',hc,← ht,List.take_add_one];rw [List.getElem?_set_self (by omega),List.take_set_of_le (by omega)];simp
    rw [List.drop_set_of_lt (by omega),← List.drop_drop,hd,← List.drop_drop]
   | true=>
    rw [iN (by simp),iP rfl,hP (show j <= 4611686018427387904 by omega)];rw [Uw l0 w r5 hlen k i (j+1) l _ hl (by omega) (by omega) (by omega) (by simp;omega) ?_ ?_]
    ·rw [hd',List.filter_cons,iP (by simp [hc])];simp
    ·rw [Jk hj',hc,ht];simp
    rw [← List.drop_drop,hd,← List.drop_drop]
  have hje:j=l0.length:=by omega
  subst hje;rw [iN (by simpa using hj),dJ (by omega)];have hti:l.take i=l0.filter (λx=>!yP (bl r5) w x):=by rw [ht,List.take_length]
  simp only [Int.toNat_natCast];rw [dJ (by rw [List.length_append,List.length_take,List.length_replicate];omega)];have:(l.take i ++ List.replicate (l.length - i) (⟨⟨#[]⟩,⟨#[]⟩,0,0,0⟩:Nd)).take i=l.take i:=by
   rw [List.take_append_of_le_length (by rw [List.length_take];omega),List.take_take,Nat.min_self]
  rw [this,hti,List.drop_length];simp
theorem GW(l:List Nd)(t:List Tn)(p:Pt1)(hlen:l.length <= 500000):yU l [] p=some (l.filter (λx=>!yP (bl p.Path) p.Owner x),(l.filter (yP (bl p.Path) p.Owner)).map W7):=by
 unfold yU I5;simp only [bS];unfold kV jY;rcases Zk l p.Owner p.Path [] (by simp) hlen (((l.length:Int) - 0:Int).toNat+1) 0 (by omega) (by omega) (λm h hm=>by omega) with ⟨j,hj,h1,h2,h3⟩ | ⟨h1,h3⟩
 ·rw [show dD l p.Owner p.Path (((l.length:Int) - 0:Int).toNat+1) 0 []=some ((j:Int),[] ++ [W7 l[j]]) from h1];simp only [bS];rw [iN (by simp only [beq_iff_eq];omega),hP (by omega)];have htk:(l.take j).filter (λx=>!yP (bl p.Path) p.Owner x)=l.take j:=List.filter_eq_self.2 λy hy=>by
   obtain ⟨m,hm,rfl⟩:=List.mem_take_iff_getElem.1 hy;rw [h3 m (by omega) (by omega)];rfl
  have htk2:(l.take j).filter (yP (bl p.Path) p.Owner)= []:=List.filter_eq_nil_iff.2 λy hy=>by
   obtain ⟨m,hm,rfl⟩:=List.mem_take_iff_getElem.1 hy;rw [h3 m (by omega) (by omega)];simp
  rw [Uw l p.Owner p.Path hlen _ j (j+1) l _ rfl (by omega) (by omega) (by omega) (by simp) ?_ rfl]
  ·simp only [bS];have:l.filter (yP (bl p.Path) p.Owner)=l[j]::(l.drop (j+1)).filter (yP (bl p.Path) p.Owner):=by
    have e:∀ f:Nd->Bool,l.filter f=(l.take j).filter f ++ (l[j]::l.drop (j+1)).filter f:=λf=>by rw [← List.filter_append,← List.drop_eq_getElem_cons hj,List.take_append_drop]
    rw [e,htk2,List.filter_cons,iP h2];rfl
   rw [this];rfl
  rw [Jk hj,htk,h2];simp
 rw [show dD l p.Owner p.Path (((l.length:Int) - 0:Int).toNat+1) 0 []=some (-1,[]) from h1];simp only [bS];have f1:l.filter (λx=>!yP (bl p.Path) p.Owner x)=l:=List.filter_eq_self.2 λy hy=>by
  obtain ⟨m,hm,rfl⟩:=List.mem_iff_getElem.1 hy;rw [h3 m hm];rfl
 have f2:l.filter (yP (bl p.Path) p.Owner)= []:=List.filter_eq_nil_iff.2 λy hy=>by
  obtain ⟨m,hm,rfl⟩:=List.mem_iff_getElem.1 hy;rw [h3 m hm];simp
 rw [f1,f2];rfl
def uS(l:List Tn)(d:List UInt8):Int:=match l.find? (gEq cG d) with
 | none=>0
 | some t=>t.Next
def tT(l:List Tn)(d:List UInt8)(n:Int):List Tn:=if n=0 then l.filter (λt=>!gEq cG d t) else l.filter (gLt cG d) ++ ⟨mk d,n⟩::l.filter (gGt cG d)
theorem TA{x:Tn}{d:List UInt8}(h:cG x=d)(n:Int):({ x with Next:=n }:Tn)= ⟨mk d,n⟩:=by
 subst h;cases x;simp [cG,Fr]
theorem Mt(l:List Tn)(d:List UInt8)(hs:l.Pairwise (cG · < cG ·)):l.filter (λt=>!gEq cG d t)=l.filter (gLt cG d) ++ l.filter (gGt cG d):=by
 induction l with
 | nil=>rfl
 | cons x l ih=>
  obtain ⟨h1,h2⟩:=List.pairwise_cons.1 hs;rw [List.filter_cons,List.filter_cons,List.filter_cons,ih h2];by_cases a:cG x < d
  ·have b:=uR a;rw [iP (by simp [gEq,b]),iP (by simp [gLt,a]),iN (by simp [gGt,gLt,a])];rfl
  have e:l.filter (gLt cG d)= []:=List.filter_eq_nil_iff.2 λy hy=>by
   have:=h1 y hy;simp only [gLt,decide_eq_true_eq];exact λh=>a (E1 this h)
  rw [iN (by simp [gLt,a]:¬ gLt cG d x=true),e];by_cases b:cG x=d
  ·rw [iN (by simp [gEq,b]),iN (by simp [gGt,gEq,b])]
  rw [iP (by simp [gEq,b]),iP (by simp [gGt,gLt,gEq,a,b])];rfl
theorem Nz{α:Type}(a:List α)(x y:α)(b:List α):(a ++ x::b).set a.length y=a ++ y::b:=by simp
theorem Vm{α:Type}(a:List α)(x:α)(b:List α):(a ++ x::b).eraseIdx a.length=a ++ b:=by
 rw [List.eraseIdx_append_of_length_le (Nat.le_refl _)];simp
theorem Jo(l:List Tn)(s:BY)(hlen:l.length <= 100000)(hs:l.Pairwise (cG · < cG ·)) :
    ∃ i:Nat,∃ b:Bool,cU l s=some ((i:Int),b)/\i=(l.filter (gLt cG (bl s))).length/\i <= l.length/\
      (l.filter (gLt cG (bl s)) ++ l.filter (gGt cG (bl s))).length <= l.length/\
      ((b=true/\∃ x,cG x=bl s/\uS l (bl s)=x.Next/\x ∈ l/\l=l.filter (gLt cG (bl s)) ++ x::l.filter (gGt cG (bl s)))∨
       (b=false/\uS l (bl s)=0/\l=l.filter (gLt cG (bl s)) ++ l.filter (gGt cG (bl s))/\l.take i ++ (⟨s,0⟩:Tn)::l.drop i=l.filter (gLt cG (bl s)) ++ ⟨s,0⟩::l.filter (gGt cG (bl s)))):=by
  obtain ⟨i,h1,h2,h3,h4⟩:=SY l s (by omega) hs
  have hi:i=(l.filter (gLt cG (bl s))).length:=by rw [← h3,List.length_take];omega
  refine ⟨i,_,h2,hi,h1,?_,?_⟩
  · rw [← Mt l _ hs];exact List.length_filter_le _ _
  · rcases h4 with ⟨x,a,b,c,d,e⟩ | ⟨a,b⟩
    · refine .inl ⟨by rw [c];rfl,x,b,by unfold uS;rw [c],e,?_⟩
      rw [← a,← h3,List.take_append_drop]
    · refine .inr ⟨by rw [b];rfl,by unfold uS;rw [b],?_,by rw [h3,a]⟩
      rw [← a,← h3,List.take_append_drop]
theorem GX(A B:List Tn)(y:Tn)(b:Bool)(hA:A.length <= 1000000):pB ((A.length:Int),b) (A ++ y::B)=some (y.Next,if y.Next=0 then A ++ B else A ++ y::B):=by
 unfold pB tG E8;have hi:A.length < (A ++ y::B).length:=by simp
 have hg:(A ++ y::B)[A.length]=y:=by simp
 simp only [Int.toNat_natCast];rw [bY hi,hg];simp only [bS];rw [bY (by simp)];simp only [bS,List.getElem_set_self];by_cases c:y.Next=0
 ·rw [iP (by simpa using c),iP c,dJ ⟨by omega,by simp;omega,by rw [w64 (by omega) (by omega)]⟩,Nz,Vm]
 rw [iN (by simpa using c),iN c,Nz]
theorem LH(A B:List Tn)(y:Tn)(b:Bool)(hA:A.length <= 1000000):rX ((A.length:Int),b) (A ++ y::B)=some (y.Next,A ++ B):=by
 unfold rX vP M8;have hi:A.length < (A ++ y::B).length:=by simp
 have hg:(A ++ y::B)[A.length]=y:=by simp
 simp only [Int.toNat_natCast];rw [bY hi,hg];simp only [bS];rw [bY (by simp)];simp only [bS,List.getElem_set_self];rw [iP (by rfl),dJ ⟨by omega,by simp;omega,by rw [w64 (by omega) (by omega)]⟩,Nz,Vm]
theorem LI(A B:List Tn)(y:Tn)(b:Bool)(hA:A.length <= 1000000)(hn:0 <= y.Next/\y.Next <= 10000):pC ((A.length:Int),b) (A ++ y::B)=some (y.Next,A ++ { y with Next:=y.Next+1 }::B):=by
 unfold pC tH E9;have hi:A.length < (A ++ y::B).length:=by simp
 have hg:(A ++ y::B)[A.length]=y:=by simp
 simp only [Int.toNat_natCast];rw [bY hi,hg];simp only [bS];rw [w64 (by omega) (by omega),bY (by simp)];simp only [bS,List.getElem_set_self];rw [iN (by simp;omega),Nz]
theorem GY(l:List Tn)(s:BY)(hlen:l.length <= 100000)(hs:l.Pairwise (cG · < cG ·))(hn:∀ y ∈ l,y.Next ≠ 0):xL l s=some (uS l (bl s),l):=by
 obtain ⟨i,z,h1,h2,h2',h3,h4⟩:=Jo l s hlen hs;unfold xL;rw [h1];simp only [bS];rcases h4 with ⟨rfl,y,hy,ht,hm,hl⟩ | ⟨rfl,ht,hl,hd⟩
 ·rw [iN (by simp),h2]
  conv=>lhs;arg 2;rw [hl]
  rw [GX _ _ _ _ (by omega),ht,iN (hn _ hm),← hl]
 rw [iP (by rfl),dJ (by omega),Int.toNat_natCast,hd,h2,GX _ _ _ _ (by omega),ht,iP rfl,← hl]
theorem GZ(l:List Tn)(s:BY)(hlen:l.length <= 100000)(hs:l.Pairwise (cG · < cG ·)):zU l s=some (uS l (bl s),tT l (bl s) 0):=by
 obtain ⟨i,z,h1,h2,h2',h3,h4⟩:=Jo l s hlen hs;unfold zU tT;rw [h1,iP rfl,Mt l _ hs];simp only [bS];rcases h4 with ⟨rfl,y,hy,ht,hm,hl⟩ | ⟨rfl,ht,hl,hd⟩
 ·rw [iN (by simp),h2]
  conv=>lhs;arg 2;rw [hl]
  rw [LH _ _ _ _ (by omega),ht]
 rw [iP (by rfl),dJ (by omega),Int.toNat_natCast,hd,h2,LH _ _ _ _ (by omega),ht]
theorem HA(l:List Tn)(s:BY)(hlen:l.length <= 100000)(hs:l.Pairwise (cG · < cG ·))(hn:∀ y ∈ l,1 <= y.Next/\y.Next <= 10000):xM l s=some (uS l (bl s),tT l (bl s) (uS l (bl s)+1)):=by
 obtain ⟨i,z,h1,h2,h2',h3,h4⟩:=Jo l s hlen hs;unfold xM tT;rw [h1];simp only [bS];rcases h4 with ⟨rfl,y,hy,ht,hm,hl⟩ | ⟨rfl,ht,hl,hd⟩
 ·have hny:=hn _ hm;rw [iN (by simp),h2,ht,iN (by omega)]
  conv=>lhs;arg 2;rw [hl]
  rw [LI _ _ _ _ (by omega) (by omega),TA hy]
 rw [iP (by rfl),dJ (by omega),Int.toNat_natCast,hd,h2,LI _ _ _ _ (by omega) (by simp),ht,iN (by decide),Fr]
def pop(p:Pt1):Op1:=⟨0,p.Path,mk [],0,0,p.Turns⟩
def Ux(s:Sto)(p:Pt1):Sto×Res:=
 match Cr (pop p) (upP (bl p.Path)) (uS s.Turns (upP (bl p.Path))) with
 | none=>(s,res 66)
 | some q=>if (s.Nodes.find? (isK q)).isSome=true then (s,res 61) else
  (⟨Ba ⟨mk q,p.Data,0,0,p.Owner⟩ s.Nodes,if p.Turns=true then tT s.Turns (upP (bl p.Path)) (uS s.Turns (upP (bl p.Path))+1) else s.Turns⟩,{ res 0 with Path:=mk q })
theorem Ti{s:Sto}(S:cV s):∀ y ∈ s.Turns,1 <= y.Next/\y.Next <= 10000:=λy hy=>by
 have:=List.all_eq_true.1 S.turns y hy;simp [ptB] at this;omega
theorem Vn{l:List Nd}{x:Nd}(hs:l.Pairwise (key · < key ·))(hn:l.find? (isK (key x))=none):l.filter (gLt key (key x)) ++ x::l.filter (gGt key (key x))=Ba x l:=by
 unfold Ba;congr 2;refine List.filter_congr λy hy=>?_;have:=WS.1 hn y hy;simp [gGt,gLt,gEq,ltB,this]
theorem CE(s:Sto)(p:Pt1)(q d:List UInt8)(b:Bool)(hlen:s.Nodes.length <= 100000)(hlt:s.Turns.length <= 100000)(S:cV s) :
  tI s.Nodes p 0 em 0 [] (mk d,b) (mk q) s.Turns=some (if (s.Nodes.find? (isK q)).isSome=true then (s.Nodes,s.Turns,61,em,em,0,[]) else (Ba ⟨mk q,p.Data,0,0,p.Owner⟩ s.Nodes,(if p.Turns=true then tT s.Turns d (uS s.Turns d+1) else s.Turns),0,mk q,em,0,[])):=by
 unfold tI xN iM;obtain ⟨i,h1,h2,h3,h4⟩:=GS s.Nodes (mk q) (by omega) S.nsort;rw [h2];rw [iV] at h3 h4 ⊢;simp only [bS];rcases h4 with ⟨x,_,hk,hf,hi,_⟩ | ⟨hd,hf⟩
 ·rw [hf];rfl
 rw [hf];simp only [Option.isSome_none,Bool.false_eq_true,if_false,Int.toNat_natCast];have e:s.Nodes.take i ++ (⟨mk q,p.Data,0,0,p.Owner⟩:Nd)::s.Nodes.drop i=Ba ⟨mk q,p.Data,0,0,p.Owner⟩ s.Nodes:=by
  rw [h3,hd];exact Vn (x:=(⟨mk q,p.Data,0,0,p.Owner⟩:Nd)) S.nsort hf
 cases hT:p.Turns with
 | true=>
  rw [iP rfl,iP rfl,HA _ _ hlt S.tsort (Ti S),iV];simp only [bS];rw [dJ (by omega),e]
 | false=>
  rw [iN (by simp),iN (by simp),dJ (by omega),e]
def JY(s:Sto)(p:Pt1):List Nd×List Tn×Int×BY×BY×Int×List BY:=
 match Cr (pop p) (upP (bl p.Path)) (uS s.Turns (upP (bl p.Path))) with
 | none=>(s.Nodes,s.Turns,66,em,em,0,[])
 | some q=>if (s.Nodes.find? (isK q)).isSome=true then (s.Nodes,s.Turns,61,em,em,0,[]) else
  (Ba ⟨mk q,p.Data,0,0,p.Owner⟩ s.Nodes,(if p.Turns=true then tT s.Turns (upP (bl p.Path)) (uS s.Turns (upP (bl p.Path))+1) else s.Turns),0,mk q,em,0,[])
theorem OE(s:Sto)(p:Pt1)(q:List UInt8)(hq:lE (bl p.Path)=some q)(hlen:s.Nodes.length <= 100000)(hlt:s.Turns.length <= 100000)(S:cV s) :
  B5 s.Nodes s.Turns 0 em 0 [] p=some (JY s p):=by
 unfold B5 JY;have hu:upP (bl p.Path)=q:=by unfold upP;rw [hq];rfl
 rw [Ft,hq,hu,show (os2 (some q))=(mk q,true) from rfl];simp only [bS];cases hT:p.Turns with
 | false=>
  have hn:Cr (pop p) q (uS s.Turns q)=some (bl p.Path):=by unfold Cr;rw [iN (by simp [pop,hT])];rfl
  have:=CE s p (bl p.Path) q true hlen hlt S;rw [Fr,hT] at this;rw [iN (by simp),hn,this];simp only [Fr]
 | true=>
  have hn:Cr (pop p) q (uS s.Turns q)=(Rc (J7 (bl p.Path)) (uS s.Turns q)).map (λs=>(Az q s).getD []):=by unfold Cr;rw [iP (by simp [pop,hT])];rfl
  rw [iP rfl,hn,GY _ _ hlt S.tsort (λy hy=>by have:=Ti S y hy;omega),Ut,iV];simp only [bS];rw [BB _ _ (by rw [iV];have:=Zc (bl p.Path);omega),iV];simp only [bS];cases hm:Rc (J7 (bl p.Path)) (uS s.Turns q) with
  | none=>
   rw [Uu _ _ (by simp [os2,iV])];simp only [bS,Option.map_none];rw [iP (by rfl)];rfl
  | some t=>
   obtain ⟨t1,t2,t3⟩:=BX hm;have tl:=Yz t1;rw [show (os2 (some t))=(mk t,true) from rfl];simp only;rw [Uu _ _ (by rw [iV];omega),iV,iV];simp only [bS,Option.map_some];have:=CE s p ((Az q t).getD []) q true hlen hlt S;rw [hT] at this;rw [iN (by simp),show (os2 (Az q t)).1=mk ((Az q t).getD []) from by cases Az q t <;> rfl,this];simp
def doP(s:Sto)(p:Pt1):Sto×Res:=
 if p.Kind=2 then Ux s p
 else if p.Kind=4 then if s.Nodes.any (C6 (bl p.Path))=true then (s,res 64) else (⟨s.Nodes,tT s.Turns (bl p.Path) 0⟩,res 0)
 else if p.Kind=9 then (s,{ res 0 with Names:=(s.Nodes.filter (C6 (bl p.Path))).map W7 })
 else if p.Kind=10 then (⟨s.Nodes.filter (λx=>!yP (bl p.Path) p.Owner x),s.Turns⟩,{ res 0 with Names:=(s.Nodes.filter (yP (bl p.Path) p.Owner)).map W7 })
 else if (ndS s.Nodes p).2 ≠ 0 then (s,res (ndS s.Nodes p).2)
 else if p.Kind=1 then (s,res (if (ndS s.Nodes p).1.Owner ≠ 0 then 65 else 0))
 else if p.Kind=3 then (⟨s.Nodes.filter (λy=>!isK (bl p.Path) y),s.Turns⟩,res 0)
 else if p.Kind=5 then if (ndS s.Nodes p).1.Version=281474976710656 then (s,res 2) else (⟨upd s.Nodes (bl p.Path) (EC p),s.Turns⟩,{ res 0 with Version:=(ndS s.Nodes p).1.Version+1 })
 else if p.Kind=6 then (s,{ res 0 with Version:=(ndS s.Nodes p).1.Version })
 else if p.Kind=7 then (s,{ res 0 with Data:=(ndS s.Nodes p).1.Data,Version:=(ndS s.Nodes p).1.Version })
 else (s,res 0)
theorem Ca{p:Pt1}(h:yQ p=true):yI p.Path p.Data p.Version (-1) p.Owner=true/\bl p.Dir=O2 p/\(1 <= p.Kind/\p.Kind <= 10)/\(p.Kind=2->bl p.Path ≠ [47]):=by
 unfold yQ at h;simp only [Bool.and_eq_true,Bool.or_eq_true,decide_eq_true_eq,Bool.not_eq_true',decide_eq_false_iff_not] at h;exact ⟨h.1.1.1,h.1.1.2,h.1.2,λk=>h.2.resolve_left (λh'=>h' k)⟩
theorem Vo{p:Pt1}(h:yQ p=true):dK (bl p.Path)=true:=by
 have:=(Ca h).1;unfold yI at this;simp only [Bool.and_eq_true] at this;exact this.1.1.1
theorem Gw{p:Pt1}(h:yQ p=true)(hk:p.Kind=2):∃ q,lE (bl p.Path)=some q:=by
 have h1:=Vo h;have h2:=(Ca h).2.2.2 hk;unfold dK at h1;obtain ⟨ps,hp⟩:=Option.isSome_iff_exists.1 h1;rcases List.eq_nil_or_concat ps with rfl | ⟨qs,t,rfl⟩
 ·exact absurd ((iR _ _).1 hp).1 h2
 unfold lE;rw [hp];exact ⟨oV (qs.concat t).dropLast,by simp⟩
theorem Vp{s:Sto}(S:cV s):∀ x ∈ s.Nodes,0 <= x.Version/\x.Version <= 281474976710656:=λx hx=>by
 have:=List.all_eq_true.1 S.nodes x hx;simp [pnB,yI] at this;omega
theorem HB(s:Sto)(p:Pt1)(hlen:s.Nodes.length <= 100000)(hlt:s.Turns.length <= 100000)(S:cV s)(hm:yQ p=true):Cz s p=some (doP s p):=by
 unfold Cz P7;obtain ⟨b,h1,h2⟩:=H9 s (by omega) (by omega);have hs:=S.nsort;have hn:s.Nodes.length <= 1000000:=by omega
 rw [h1,h2.2 S];simp only [bS];rw [iN (by simp),Th,hm];simp only [bS];rw [iN (by simp),dJ (by simp [LIM];omega),dJ (by simp [LIM];omega)];unfold doP mM;have hk:=(Ca hm).2.2.1;have kk:p.Kind=1∨p.Kind=2∨p.Kind=3∨p.Kind=4∨p.Kind=5∨p.Kind=6∨p.Kind=7∨p.Kind=8∨p.Kind=9∨p.Kind=10:=by omega
 rcases kk with c | c | c | c | c | c | c | c | c | c
 all_goals simp only [c,Int.reduceBEq,Int.reduceEq,Bool.false_eq_true,if_true,if_false,beq_self_eq_true,Int.reduceNeg]
 ·rw [GT _ [] _ hn hs];simp only [bS];by_cases e:(ndS s.Nodes p).2=0
  ·by_cases o:(ndS s.Nodes p).1.Owner=0
   ·simp [e,o];rfl
   simp [e,o];rfl
  rw [iP e,iP (by simpa using e),iP e];rfl
 ·obtain ⟨q,hq⟩:=Gw hm c;rw [OE s p q hq hlen hlt S];unfold JY Ux;simp only [bS];cases Cr (pop p) (upP (bl p.Path)) (uS s.Turns (upP (bl p.Path))) with
  | none=>rfl
  | some q=>
   simp only;by_cases e:(s.Nodes.find? (isK q)).isSome=true
   ·rw [iP e,iP e];rfl
   rw [iN e,iN e];rfl
 ·rw [EB _ [] _ hn hs];simp only [bS];by_cases e:(ndS s.Nodes p).2=0
  ·simp [e];rfl
  rw [iP (by simpa using e),iP e];rfl
 ·unfold E7 I5 iM;simp only [bS];rw [OD _ _ hn];simp only [bS];by_cases e:s.Nodes.any (C6 (bl p.Path))=true
  ·rw [iP e,iP e];rfl
  rw [iN e,iN e,GZ _ _ hlt S.tsort];rfl
 ·rw [GU _ [] _ hn hs (Vp S)];simp only [bS];by_cases e:(ndS s.Nodes p).2=0
  ·simp only [e,ne_eq,not_true_eq_false,if_false];by_cases v:(ndS s.Nodes p).1.Version=281474976710656
   ·rw [iP v,iP v];rfl
   rw [iN v,iN v];rfl
  rw [iP e,iP e];simp only;rw [iP (by simpa using e)];rfl
 ·rw [JW _ [] _ hn hs];simp only [bS];by_cases e:(ndS s.Nodes p).2=0
  ·simp only [e,ne_eq,not_true_eq_false,if_false,bne_self_eq_false,Bool.false_eq_true];rfl
  rw [iP (by simpa using e),iP e,iP e];rfl
 ·rw [JX _ [] _ hn hs];simp only [bS];by_cases e:(ndS s.Nodes p).2=0
  ·simp only [e,ne_eq,not_true_eq_false,if_false,bne_self_eq_false,Bool.false_eq_true];rfl
  rw [iP (by simpa using e),iP e,iP e,iP e];rfl
 ·rw [OC _ [] _ hn hs];simp only [bS];by_cases e:(ndS s.Nodes p).2=0
  ·simp [e];rfl
  rw [iP (by simpa using e),iP e];rfl
 ·rw [GV _ [] _ hn];rfl
 rw [GW _ [] _ (by omega)];rfl
theorem ife(c b:Bool):(if c=true then some b else some false)=some (c && b):=by cases c <;> rfl
structure SmS (s:Sto):Prop where
 sm:Sm s.Nodes
 smt:∀ t ∈ s.Turns,(cG t).length <= 100000000
 len:s.Nodes.length <= 90000
 lent:s.Turns.length <= 90000
theorem JZ(x:Nd)(hp:(key x).length <= 100000000):xO x=some (pnB x):=by
 unfold xO pnB yI;rw [Uv _ hp];simp only [bS,ife];congr 1;rw [Bool.eq_iff_iff];simp only [Bool.and_eq_true,decide_eq_true_eq,beq_iff_eq];rw [dY];constructor
 ·rintro ⟨h1,h2,h3,h4,h5,h6,h7⟩;exact ⟨h7,⟨⟨h1,by omega⟩,by omega⟩,by omega⟩
 rintro ⟨h7,⟨⟨h1,h2⟩,h3⟩,h4⟩;exact ⟨h1,by omega,by omega,by omega,by omega,by omega,h7⟩
theorem Tj(s:Sto)(hs:SmS s):∀ (k i:Nat),i <= s.Turns.length->s.Turns.length+1 <= i+k->∃ b,fD s k (i:Int)=some b/\(b=true ↔ ∀ j (h:j < s.Turns.length),i <= j->ptB s.Turns[j]=true/\(0 < j->cG (s.Turns[j - 1]'(by omega)) < cG s.Turns[j]))
 | 0,i,_,h=>by omega
 | k+1,i,h0,h=>by
  have hl:=hs.lent;unfold fD jE;by_cases hi:i < s.Turns.length
  ·rw [iP (by simpa using hi),bY hi];simp only [bS];rw [Uv _ (hs.smt _ (List.getElem_mem hi)),hP (by omega)];simp only [bS,if_true,Bool.false_eq_true,if_false];obtain ⟨b,h1,h2⟩:=Tj s hs k (i+1) (by omega) (by omega);have bad:∀ P:Prop,¬ (ptB s.Turns[i]=true/\(0 < i->cG (s.Turns[i - 1]'(by omega)) < cG s.Turns[i]))->∃ b,some false=some b/\(b=true ↔ ∀ j (h:j < s.Turns.length),i <= j->ptB s.Turns[j]=true/\(0 < j->cG (s.Turns[j - 1]'(by omega)) < cG s.Turns[j])):=λ_ H=>⟨false,rfl,λh=>by simp at h,λH'=>absurd (H' i hi (Nat.le_refl _)) H⟩
   have good:(ptB s.Turns[i]=true/\(0 < i->cG (s.Turns[i - 1]'(by omega)) < cG s.Turns[i]))->∃ b,fD s k ((i+1:Nat):Int)=some b/\(b=true ↔ ∀ j (h:j < s.Turns.length),i <= j->ptB s.Turns[j]=true/\(0 < j->cG (s.Turns[j - 1]'(by omega)) < cG s.Turns[j])):=λH=>by
    refine ⟨b,h1,h2.trans ⟨λH' j hj hij=>?_,λH' j hj hij=>H' j hj (by omega)⟩⟩;rcases Nat.lt_or_ge i j with d | d
    ·exact H' j hj (by omega)
    obtain rfl:i=j:=by omega
    exact H
   have e0:bl (s.Turns[i]).Dir=cG s.Turns[i]:=rfl;rw [e0];by_cases a:dK (cG s.Turns[i])=true
   ·rw [iN (by rw [a];simp)];by_cases n1:(s.Turns[i]).Next < 1
    ·rw [iP (by simpa using n1)];exact bad True λH=>by have:=H.1;simp [ptB] at this;omega
    rw [iN (by simpa using n1)];by_cases n2:(s.Turns[i]).Next > 10000
    ·rw [iP (by simpa using n2)];exact bad True λH=>by have:=H.1;simp [ptB] at this;omega
    rw [iN (by simpa using n2)];have ok:ptB s.Turns[i]=true:=by simp [ptB,a];omega
    by_cases z:i=0
    ·subst z;rw [iN (by simp)];exact good ⟨ok,λh=>by omega⟩
    rw [iP (decide_eq_true (by omega)),show IntKind.i64.wrap ((i:Int) - 1)=((i - 1:Nat):Int) from by rw [w64 (by omega) (by omega)];omega,bY (show i - 1 < s.Turns.length by omega)];simp only [bS];rw [Eo,show bl (s.Turns[i - 1]'(by omega)).Dir=cG (s.Turns[i - 1]'(by omega)) from rfl,e0];by_cases c:cG (s.Turns[i - 1]'(by omega)) < cG s.Turns[i]
    ·rw [decide_eq_true c,iN (by simp)];exact good ⟨ok,λ_=>c⟩
    rw [decide_eq_false c,iP (by rfl)];exact bad True λH=>c (H.2 (by omega))
   rw [iP (by simpa using a)];exact bad True λH=>by have:=H.1;simp [ptB] at this;exact a this.1
  rw [iN (by simpa using hi)];exact ⟨true,rfl,λ_ j hj hij=>by omega,λ_=>rfl⟩
theorem Tk(s:Sto)(hs:SmS s):∀ (k i:Nat),i <= s.Nodes.length->s.Nodes.length+1 <= i+k->∃ b,gJ s k (i:Int)=some b/\(b=true ↔ (∀ j (h:j < s.Nodes.length),i <= j->pnB s.Nodes[j]=true/\(0 < j->key (s.Nodes[j - 1]'(by omega)) < key s.Nodes[j]))/\(∀ j (h:j < s.Turns.length),0 <= j->ptB s.Turns[j]=true/\(0 < j->cG (s.Turns[j - 1]'(by omega)) < cG s.Turns[j])))
 | 0,i,_,h=>by omega
 | k+1,i,h0,h=>by
  have hl:=hs.len;unfold gJ oG;by_cases hi:i < s.Nodes.length
  ·rw [iP (by simpa using hi),bY hi];simp only [bS];rw [JZ _ (hs.sm _ (List.getElem_mem hi)),hP (by omega)];simp only [bS,if_true,Bool.false_eq_true,if_false];obtain ⟨b,h1,h2⟩:=Tk s hs k (i+1) (by omega) (by omega);by_cases a:pnB s.Nodes[i]=true
   ·rw [iN (by rw [a];simp)];have good:(0 < i->key (s.Nodes[i - 1]'(by omega)) < key s.Nodes[i])->∃ b,gJ s k ((i+1:Nat):Int)=some b/\(b=true ↔ (∀ j (h:j < s.Nodes.length),i <= j->pnB s.Nodes[j]=true/\(0 < j->key (s.Nodes[j - 1]'(by omega)) < key s.Nodes[j]))/\(∀ j (h:j < s.Turns.length),0 <= j->ptB s.Turns[j]=true/\(0 < j->cG (s.Turns[j - 1]'(by omega)) < cG s.Turns[j]))):=λH=>by
     refine ⟨b,h1,h2.trans ⟨λH'=>⟨λj hj hij=>?_,H'.2⟩,λH'=>⟨λj hj hij=>H'.1 j hj (by omega),H'.2⟩⟩⟩;rcases Nat.lt_or_ge i j with d | d
     ·exact H'.1 j hj (by omega)
     obtain rfl:i=j:=by omega
     exact ⟨a,H⟩
    by_cases z:i=0
    ·subst z;rw [iN (by simp)];exact good λh=>by omega
    rw [iP (decide_eq_true (by omega)),show IntKind.i64.wrap ((i:Int) - 1)=((i - 1:Nat):Int) from by rw [w64 (by omega) (by omega)];omega,bY (show i - 1 < s.Nodes.length by omega)];simp only [bS];rw [Eo,show bl (s.Nodes[i - 1]'(by omega)).Path=key (s.Nodes[i - 1]'(by omega)) from rfl,show bl (s.Nodes[i]).Path=key s.Nodes[i] from rfl];by_cases c:key (s.Nodes[i - 1]'(by omega)) < key s.Nodes[i]
    ·rw [decide_eq_true c,iN (by simp)];exact good λ_=>c
    rw [decide_eq_false c,iP (by rfl)];exact ⟨false,rfl,λh=>by simp at h,λH=>absurd ((H.1 i hi (Nat.le_refl _)).2 (by omega)) c⟩
   rw [iP (by simpa using a)];exact ⟨false,rfl,λh=>by simp at h,λH=>absurd (H.1 i hi (Nat.le_refl _)).1 a⟩
  rw [iN (by simpa using hi)];obtain ⟨b,h1,h2⟩:=Tj s hs (((s.Turns.length:Int) - 0:Int).toNat+1) 0 (by omega) (by omega);exact ⟨b,h1,h2.trans ⟨λH=>⟨λj hj hij=>by omega,H⟩,λH=>H.2⟩⟩
theorem Oa{α:Type}(l:List α)(f:α->Bool):l.all f=true ↔ ∀ j (h:j < l.length),f l[j]=true:=by
 rw [List.all_eq_true];constructor
 ·intro H j h;exact H _ (List.getElem_mem h)
 intro H x hx;obtain ⟨j,hj,rfl⟩:=List.mem_iff_getElem.1 hx;exact H j hj
theorem ED(s:Sto)(hs:SmS s):∃ b,w8 s=some b/\(b=true ↔ cV s):=by
 obtain ⟨b,h1,h2⟩:=Tk s hs (((s.Nodes.length:Int) - 0:Int).toNat+1) 0 (by omega) (by omega);refine ⟨b,h1,h2.trans ⟨λH=>⟨?_,?_,?_,?_⟩,λH=>⟨λj hj _=>⟨?_,?_⟩,λj hj _=>⟨?_,?_⟩⟩⟩⟩
 ·exact (Oa _ _).2 λj hj=>(H.1 j hj (by omega)).1
 ·exact (Gv key _).1 λj hj h0=>(H.1 j hj (by omega)).2 h0
 ·exact (Oa _ _).2 λj hj=>(H.2 j hj (by omega)).1
 ·exact (Gv cG _).1 λj hj h0=>(H.2 j hj (by omega)).2 h0
 ·exact (Oa _ _).1 H.nodes j hj
 ·exact (Gv key _).2 H.nsort j hj
 ·exact (Oa _ _).1 H.turns j hj
 exact (Gv cG _).2 H.tsort j hj
theorem OG(s:BY)(hp:(bl s).length <= 100000000):zV s=some (mk (upP (bl s))):=by
 unfold zV upP;rw [DW _ hp];simp only [bS];cases lE (bl s) <;> rfl
theorem Cs{α:Type}(κ:α->List UInt8)(l:List α)(d:List UInt8)(x:α)(hx:κ x=d)(hs:l.Pairwise (κ · < κ ·)):(l.filter (gLt κ d) ++ x::l.filter (gGt κ d)).Pairwise (κ · < κ ·):=by
 have g:∀ y ∈ l.filter (gGt κ d),d < κ y:=λy hy=>by
  have h1:=(List.mem_filter.1 hy).2;simp only [gGt,gLt,gEq,Bool.and_eq_true,Bool.not_eq_true',decide_eq_false_iff_not] at h1;exact Ic h1.1 h1.2
 have f:∀ y ∈ l.filter (gLt κ d),κ y < d:=λy hy=>by
  have h1:=(List.mem_filter.1 hy).2;simpa [gLt] using h1
 refine List.pairwise_append.2 ⟨hs.filter _,List.pairwise_cons.2 ⟨λy hy=>hx ▸ g y hy,hs.filter _⟩,λa ha b hb=>?_⟩;rcases List.mem_cons.1 hb with rfl | hb
 ·exact hx ▸ f a ha
 exact E1 (f a ha) (g b hb)
theorem Ie{l:List Tn}(hs:l.Pairwise (cG · < cG ·))(d:List UInt8)(n:Int):(tT l d n).Pairwise (cG · < cG ·):=by
 unfold tT;split
 ·exact hs.filter _
 exact Cs cG l d _ rfl hs
theorem Pr{l:List Tn}{d:List UInt8}{n:Int}{t:Tn}(h:t ∈ tT l d n):t ∈ l∨(t= ⟨mk d,n⟩/\n ≠ 0):=by
 unfold tT at h;split at h
 ·exact .inl (List.mem_filter.1 h).1
 rcases List.mem_append.1 h with h | h
 ·exact .inl (List.mem_filter.1 h).1
 rcases List.mem_cons.1 h with h | h
 ·exact .inr ⟨h,by assumption⟩
 exact .inl (List.mem_filter.1 h).1
theorem Tl{α:Type}(κ:α->List UInt8)(l:List α)(d:List UInt8):(l.filter (gLt κ d)).length+(l.filter (gGt κ d)).length <= l.length:=by
 induction l with
 | nil=>simp
 | cons x l ih=>
  rw [List.filter_cons,List.filter_cons];by_cases a:κ x < d
  ·rw [iP (by simpa [gLt] using a),iN (by simp [gGt,gLt,a])];simp;omega
  rw [iN (by simpa [gLt] using a)];split <;> simp <;> omega
theorem Ps(l:List Tn)(d:List UInt8)(n:Int):(tT l d n).length <= l.length+1:=by
 unfold tT;split
 ·have:=List.length_filter_le (λt=>!gEq cG d t) l;omega
 have:=Tl cG l d;simp;omega
theorem EE{l:List Nd}{x:Nd}(hs:l.Pairwise (key · < key ·))(hn:l.find? (isK (key x))=none):(Ba x l).Pairwise (key · < key ·):=by
 rw [← Vn hs hn];exact Cs key l _ x rfl hs
theorem cV.mk' {s:Sto} {l:List Nd} (S:cV s) (h1:∀ x ∈ l,pnB x=true) (h2:l.Pairwise (key · < key ·)):cV ⟨l,s.Turns⟩:=⟨List.all_eq_true.2 h1,h2,S.turns,S.tsort⟩
theorem Zl(s:Sto)(p:Pt1)(S:cV s)(hm:yQ p=true):cV (doP s p).1/\(doP s p).1.Nodes.length <= s.Nodes.length+1/\(doP s p).1.Turns.length <= s.Turns.length+1/\(doP s p).2.Names.length <= s.Nodes.length:=by
 have hS:cV s/\s.Nodes.length <= s.Nodes.length+1/\s.Turns.length <= s.Turns.length+1/\([]:List BY).length <= s.Nodes.length:=⟨S,by omega,by omega,by simp⟩
 have hN:=λx hx=>List.all_eq_true.1 S.nodes x hx;have hfl:∀ f:Nd->Bool,cV ⟨s.Nodes.filter f,s.Turns⟩:=λf=>S.mk' (λx hx=>hN x (List.mem_filter.1 hx).1) (S.nsort.filter _);have hf:=(Ca hm).1;unfold yI at hf;simp only [Bool.and_eq_true,decide_eq_true_eq] at hf;unfold doP;split
 ·rename_i c;obtain ⟨q,hq⟩:=Gw hm c;have hu:upP (bl p.Path)=q:=by unfold upP;rw [hq];rfl
  unfold Ux;rw [hu];cases hn:Cr (pop p) q (uS s.Turns q) with
  | none=>exact hS
  | some t=>
   obtain ⟨n1,n2⟩:=Pq (o:=pop p) hq hn;simp only;split
   ·exact hS
   rename_i hne;have hfn:s.Nodes.find? (isK t)=none:=by
    rcases WK (s.Nodes.find? (isK t)) with h | ⟨x,h⟩
    ·exact h
    rw [h] at hne;exact absurd rfl hne
   obtain ⟨ps,a,hp1,_⟩:=Ib n1;have tok:dK t=true:=by unfold dK;rw [hp1];rfl
   obtain ⟨_,_,_,_,hp2,_⟩:=Ib hq;have qok:dK q=true:=by unfold dK;rw [hp2];rfl
   have hns:cV ⟨Ba ⟨mk t,p.Data,0,0,p.Owner⟩ s.Nodes,s.Turns⟩:=S.mk' (λx hx=>by
     rcases WT.1 hx with rfl | hx
     ·unfold pnB yI;simp only [iV,tok];simp;exact ⟨hf.1.1.2,hf.2⟩
     exact hN x hx) (EE (x:=(⟨mk t,p.Data,0,0,p.Owner⟩:Nd)) S.nsort hfn)
   have hil:=OA (⟨mk t,p.Data,0,0,p.Owner⟩:Nd) s.Nodes;cases hT:p.Turns with
   | false=>exact ⟨hns,by simp only;omega,by simp,by simp [res]⟩
   | true=>
    have n3:=n2 hT;refine ⟨⟨hns.nodes,hns.nsort,List.all_eq_true.2 λy hy=>?_,Ie S.tsort _ _⟩,by simp only;omega,Ps _ _ _,by simp [res]⟩;rcases Pr hy with hy | ⟨rfl,_⟩
    ·exact List.all_eq_true.1 S.turns y hy
    unfold ptB;simp only [cG,iV,qok,Bool.true_and,decide_eq_true_eq];omega
 split
 ·split
  ·exact hS
  refine ⟨⟨S.nodes,S.nsort,List.all_eq_true.2 λy hy=>?_,Ie S.tsort (bl p.Path) 0⟩,by simp,Ps s.Turns (bl p.Path) 0,by simp [res]⟩;rcases Pr (show y ∈ tT s.Turns (bl p.Path) 0 from hy) with hy | ⟨rfl,h⟩
  ·exact List.all_eq_true.1 S.turns y hy
  exact absurd rfl h
 split
 ·exact ⟨S,by simp,by simp,by simp only [List.length_map];exact List.length_filter_le _ _⟩
 split
 ·exact ⟨hfl _,Nat.le_succ_of_le (List.length_filter_le _ _),by simp,by simp only [List.length_map];exact List.length_filter_le _ _⟩
 split
 ·exact hS
 rename_i e0;split
 ·exact hS
 split
 ·exact ⟨hfl _,Nat.le_succ_of_le (List.length_filter_le _ _),by simp,by simp [res]⟩
 split
 ·split
  ·exact hS
  rename_i hv;refine ⟨S.mk' (λx hx=>?_) (DZ S.nsort _ (λz=>rfl)),by simp only [NZ];omega,by simp,by simp [res]⟩;obtain ⟨z,hz,rfl⟩:=WU.1 hx;have hzb:=hN z hz;split
  ·rename_i hk;have hkz:key z=bl p.Path:=by simpa [isK] using hk
   have hnd:ndS s.Nodes p=(z,0):=by
    have h1:=JS S.nsort hz;rw [hkz] at h1;unfold ndS at e0 ⊢;rw [h1] at e0 ⊢;simp only at e0 ⊢;split at e0
    ·exact absurd (show (63:Int) ≠ 0 by decide) e0
    rw [iN (by assumption)]
   rw [hnd] at hv;have h2:=Vp S z hz;simp only at hv;have he:pnB (EC p z)=(decide (z.Turn=0) && yI z.Path p.Data (z.Version+1) 0 z.Owner):=rfl;rw [he];unfold pnB at hzb;unfold yI at hzb ⊢;simp only [Bool.and_eq_true,decide_eq_true_eq] at hzb ⊢;exact ⟨hzb.1,⟨⟨hzb.2.1.1.1,by omega⟩,by omega⟩,hzb.2.2⟩
  exact hzb
 split
 ·exact hS
 split
 ·exact hS
 exact hS
theorem Bb{p:List UInt8}(h:dK p=true):p.length <= 78:=by
 unfold dK at h;obtain ⟨ps,hp⟩:=Option.isSome_iff_exists.1 h;exact Ag hp
theorem cV.sms {s:Sto} (S:cV s) (h1:s.Nodes.length <= 90000) (h2:s.Turns.length <= 90000):SmS s:=by
 refine ⟨λx hx=>?_,λt ht=>?_,h1,h2⟩
 ·have:=List.all_eq_true.1 S.nodes x hx;unfold pnB yI at this;simp only [Bool.and_eq_true] at this;have:=Bb this.2.1.1.1;have e:(bl x.Path).length=(key x).length:=rfl;omega
 have:=List.all_eq_true.1 S.turns t ht;unfold ptB at this;simp only [Bool.and_eq_true] at this;have:=Bb this.1;omega
theorem Pt(a:List Res)(hl:a.length <= 1000000)(hn:∀ r ∈ a,r.Names.length <= 1000000):∀ (k i:Nat),i <= a.length->a.length+1 <= i+k->mA a a k (i:Int)=some true
 | 0,i,_,h=>by omega
 | k+1,i,h0,h=>by
  unfold mA;by_cases hi:i < a.length
  ·rw [iP (by simpa using hi),bY hi];simp only [bS];rw [EA _ _ (hn _ (List.getElem_mem hi)),decide_eq_true rfl];simp only [bS];rw [iN (by simp),hP (by omega)];exact Pt a hl hn k (i+1) (by omega) (by omega)
  rw [iN (by simpa using hi)]
theorem Wo(a:List Res)(hl:a.length <= 1000000)(hn:∀ r ∈ a,r.Names.length <= 1000000):sQ a a=some true:=by
 unfold sQ;rw [iN (by simp)];exact Pt a hl hn (((a.length:Int) - 0:Int).toNat+1) 0 (by omega) (by omega)
theorem Gx(s:Sto)(k:Nat)(n i:Int)(hn:3000 <= n):jF s (k+1) n i=some true:=by
 unfold jF oH;rw [iN (show ¬ decide (n < 3000)=true by simpa using hn),iP (decide_eq_true hn)];split <;> rfl
theorem Vq(s:Sto)(hn:s.Nodes.length <= 140737488351232)(hl:s.Turns.length < 3000):∀ (k i:Nat) (n:Int),0 <= n->n <= 6000->i <= s.Turns.length->s.Turns.length+2 <= i+k->∃ b,jF s k n (i:Int)=some b/\(b=false->(∀ j (h:j < s.Turns.length),i <= j->(cG s.Turns[j]).length < 3000)/\s.Nodes.length <= 1666/\Sm s.Nodes)
 | 0,i,n,_,_,_,h=>by omega
 | k+1,i,n,n0,n1,hi,h=>by
  by_cases c:3000 <= n
  ·rw [Gx s k n i c];exact ⟨true,rfl,λh=>by cases h⟩
  unfold jF;by_cases hj:i < s.Turns.length
  ·rw [iP (by simpa using hj),iP (by simp;omega),bY hj];simp only [bS];have z:((s.Turns[i]).Dir.size:Int)=((cG s.Turns[i]).length:Int):=by rw [dY];rfl
   rw [z,w64 (by omega) (by omega),hP (by omega)];by_cases d:(cG s.Turns[i]).length < 3000
   ·obtain ⟨b,h1,h2⟩:=Vq s hn hl k (i+1) (n+min ((cG s.Turns[i]).length:Int) 3000) (by omega) (by omega) (by omega) (by omega);refine ⟨b,h1,λhb=>⟨λj hj hij=>?_,(h2 hb).2⟩⟩;rcases Nat.lt_or_ge i j with e | e
    ·exact (h2 hb).1 j hj (by omega)
    obtain rfl:i=j:=by omega
    exact d
   obtain ⟨k',rfl⟩:∃ k',k=k'+1:=⟨k - 1,by omega⟩
   rw [Gx s k' _ _ (by omega)];exact ⟨true,rfl,λh=>by cases h⟩
  rw [iN (by simpa using hj)];unfold oH;rw [iN (by simp;omega)];obtain ⟨b,h1,h2⟩:=JU s.Nodes hn;rw [h1];exact ⟨b,rfl,λhb=>⟨λj hj hij=>by omega,h2 hb⟩⟩
theorem Vr(s:Sto)(hn:s.Nodes.length <= 140737488351232):∃ b,rY s=some b/\(b=false->SmS s/\s.Nodes.length <= 1666/\s.Turns.length < 3000):=by
 unfold rY;by_cases h:s.Turns.length < 3000
 ·obtain ⟨b,h1,h2⟩:=Vq s hn h 3002 0 (s.Turns.length:Int) (by omega) (by omega) (by omega) (by omega);refine ⟨b,h1,λhb=>?_⟩;obtain ⟨g1,g2,g3⟩:=h2 hb;refine ⟨⟨g3,λt ht=>?_,by omega,by omega⟩,g2,h⟩;obtain ⟨j,hj,rfl⟩:=List.mem_iff_getElem.1 ht;have:=g1 j hj (by omega);omega
 rw [Gx s 3001 _ _ (by omega)];exact ⟨true,rfl,λh=>by cases h⟩
theorem Zm(p:Pt1):∃ b,qU p=some b/\(b=false->(bl p.Dir).length <= 3000/\(bl p.Path).length <= 3000/\(bl p.Data).length <= 3000):=by
 unfold qU;have a:=dY p.Dir;have b:=dY p.Path;have c:=dY p.Data;by_cases h1:(p.Dir.size:Int) > 3000
 ·rw [iP (decide_eq_true h1)];exact ⟨true,rfl,λh=>by cases h⟩
 rw [iN (by simpa using h1)];by_cases h2:(p.Path.size:Int) > 3000
 ·rw [iP (decide_eq_true h2)];exact ⟨true,rfl,λh=>by cases h⟩
 rw [iN (by simpa using h2)];refine ⟨_,rfl,λh=>?_⟩;simp only [decide_eq_false_iff_not] at h;omega
def SmP(l:List Pie):Prop:=∀ x ∈ l,(bl x.Part.Path).length <= 3000
theorem Ig(l:List Pie)(hl:l.length <= 60):∀ (k i:Nat),i <= l.length->l.length+1 <= i+k->∃ b,jH l k (i:Int)=some b/\(b=false->∀ j (h:j < l.length),i <= j->(bl (l[j]).Part.Path).length <= 3000)
 | 0,i,_,h=>by omega
 | k+1,i,h0,h=>by
  unfold jH;by_cases hi:i < l.length
  ·rw [iP (by simpa using hi),bY hi];simp only [bS];obtain ⟨b,h1,h2⟩:=Zm (l[i]).Part;rw [h1];simp only [bS];cases b with
   | true=>rw [iP rfl];exact ⟨true,rfl,λh=>by cases h⟩
   | false=>
    rw [iN (by simp),hP (by omega)];obtain ⟨b',h3,h4⟩:=Ig l hl k (i+1) (by omega) (by omega);refine ⟨b',h3,λhb j hj hij=>?_⟩;rcases Nat.lt_or_ge i j with c | c
    ·exact h4 hb j hj (by omega)
    obtain rfl:i=j:=by omega
    exact (h2 rfl).2.1
  rw [iN (by simpa using hi)];exact ⟨false,rfl,λ_ j hj hij=>by omega⟩
theorem Uy(l:List Pie):∃ b,oS l=some b/\(b=false->l.length <= 60/\SmP l):=by
 unfold oS;by_cases h:l.length <= 60
 ·rw [iN (by simp;omega)];obtain ⟨b,h1,h2⟩:=Ig l h (((l.length:Int) - 0:Int).toNat+1) 0 (by omega) (by omega);refine ⟨b,h1,λhb=>⟨h,λo ho=>?_⟩⟩;obtain ⟨j,hj,rfl⟩:=List.mem_iff_getElem.1 ho;exact h2 hb j hj (by omega)
 rw [iP (by simp;omega)];exact ⟨true,rfl,λh=>by cases h⟩
theorem Zn(a b:Sto)(h:a.Turns.length=b.Turns.length)(hl:a.Turns.length <= 1000000):∀ (k i:Nat),i <= a.Turns.length->a.Turns.length+1 <= i+k->mN a b k (i:Int)=some (decide (a.Turns.drop i=b.Turns.drop i))
 | 0,i,_,h=>by omega
 | k+1,i,h0,hk=>by
  unfold mN;by_cases hi:i < a.Turns.length
  ·have hi':i < b.Turns.length:=by omega
   rw [iP (by simpa using hi),bY hi,bY hi',List.drop_eq_getElem_cons hi,List.drop_eq_getElem_cons hi'];simp only [bS];have e:((sEq (a.Turns[i]).Dir (b.Turns[i]).Dir) && ((a.Turns[i]).Next == (b.Turns[i]).Next))=decide (a.Turns[i]=b.Turns[i]):=by
    rw [Bool.eq_iff_iff];simp only [Bool.and_eq_true,Hz,beq_iff_eq,decide_eq_true_eq];constructor
    ·rintro ⟨h1,h2⟩;cases hx:a.Turns[i];cases hy:b.Turns[i];simp only [hx,hy] at h1 h2;rw [h1,h2]
    intro h;rw [h];exact ⟨rfl,rfl⟩
   rw [e];by_cases c:a.Turns[i]=b.Turns[i]
   ·rw [decide_eq_true c,iN (by simp),hP (by omega),Zn a b h hl k (i+1) (by omega) (by omega)];exact congrArg some (decide_eq_decide.2 ⟨λh=>by rw [c,h],λh=>(List.cons.inj h).2⟩)
   rw [decide_eq_false c,iP (by rfl)];exact congrArg some (decide_eq_false λh=>c (List.cons.inj h).1).symm
  rw [iN (by simpa using hi),List.drop_eq_nil_of_le (by omega),List.drop_eq_nil_of_le (by omega)];rfl
theorem KA(a b:Sto)(hn:a.Nodes.length <= 1000000)(hl:a.Turns.length <= 1000000):lO a b=some (decide (a=b)):=by
 unfold lO tJ;rw [OB _ _ hn];simp only [bS];have ext:a=b ↔ a.Nodes=b.Nodes/\a.Turns=b.Turns:=by
  constructor
  ·rintro rfl;exact ⟨rfl,rfl⟩
  cases a;cases b;rintro ⟨h1,h2⟩;simp only at h1 h2;rw [h1,h2]
 by_cases h1:a.Nodes=b.Nodes
 ·rw [decide_eq_true h1,iN (by simp)];by_cases h2:a.Turns.length=b.Turns.length
  ·rw [iN (by simp;omega),show mN a b (((a.Turns.length:Int) - 0:Int).toNat+1) 0=some (decide (a.Turns.drop 0=b.Turns.drop 0)) from Zn a b h2 hl _ 0 (by omega) (by omega)];congr 1;exact decide_eq_decide.2 ((show a.Turns.drop 0=b.Turns.drop 0 ↔ a.Turns=b.Turns by simp).trans ⟨λh=>ext.2 ⟨h1,h⟩,λh=>(ext.1 h).2⟩)
  rw [iP (by simp;omega),decide_eq_false (λh=>h2 (by rw [h]))]
 rw [decide_eq_false h1,iP (by rfl),iP trivial,decide_eq_false (λh=>h1 (by rw [h]))]
theorem HC{p q:List UInt8}(h:lE p=some q):dK p=true/\dK q=true/\p ≠ [47]:=by
 obtain ⟨ps,t,h1,h2,h3,_⟩:=Ib h;refine ⟨by unfold dK;rw [h1];rfl,by unfold dK;rw [h3];rfl,λe=>?_⟩;rw [e,DY] at h1;simp at h1
theorem TB(p:List UInt8):dK (upP p)=true:=by
 unfold upP;cases h:lE p with
 | none=>rfl
 | some q=>exact (HC h).2.1
set_option maxRecDepth 100000 in
theorem KB:Q6=some true:=by kernel_rfl
theorem TC{n:Int}(h:-9223372036854775808 <= n)(h':n <= 9223372036854775807):IntKind.i64.wrap n=n:=IntWalk.i64_in n ⟨h,h'⟩
theorem WL{i:Nat}(h:i <= 1000000000):IntKind.i64.wrap ((i:Int)+1)=((i+1:Nat):Int):=by rw [TC (by omega) (by omega)];omega
theorem WM{α:Type}{l:List α}{i:Nat}(h:i < l.length):idx l (i:Int)=some l[i]:=by simp [idx,h]
def rH(n:Int):Bool:=decide (0 <= n) && decide (n <= 281474976710656)
theorem Vs(l:List Int)(hl:l.length <= 1000000):∀ (k i:Nat),i <= l.length->l.length+1 <= i+k->mI l k (i:Int)=some ((l.drop i).all rH)
 | 0,i,_,h=>by omega
 | k+1,i,h0,h=>by
  unfold mI;by_cases hi:i < l.length
  ·rw [iP (by simpa using hi),WM hi,List.drop_eq_getElem_cons hi];simp only [bS,List.all_cons];have ih:=Vs l hl k (i+1) (by omega) (by omega);unfold rH at ih ⊢;by_cases h1:l[i] < 0
   ·rw [iP (by simpa using h1),decide_eq_false (show ¬ 0 <= l[i] by omega)];simp [rZ]
   rw [iN (by simpa using h1),decide_eq_true (show 0 <= l[i] by omega)];unfold rZ;by_cases h2:l[i] > 281474976710656
   ·rw [iP (by simpa using h2),decide_eq_false (show ¬ l[i] <= 281474976710656 by omega)];simp
   rw [iN (by simpa using h2),decide_eq_true (show l[i] <= 281474976710656 by omega),WL (by omega),ih];simp
  rw [iN (by simpa using hi),List.drop_eq_nil_of_le (by omega)];rfl
theorem Mu(l:List Int)(hl:l.length <= 1000000):zX l=some (l.all rH):=by
 unfold zX;exact Vs l hl _ 0 (by omega) (by omega)
theorem HD{n:Int}(h:0 <= n)(h':n <= 281474976710656):rH n=true:=by simp [rH,h,h']
theorem Zo:sN (⟨[],[]⟩:aG)=some true:=by kernel_rfl
theorem KC{n:Int}(h1:0 <= n)(h2:n <= 281474976710656):(kyI .i64).ok n=true:=by
 simp only [kyI,Lit.wf,Bool.and_eq_true,decide_eq_true_eq];have a:IntKind.i64.min= -9223372036854775808:=by decide
 have b:IntKind.i64.max=9223372036854775807:=by decide
 omega
abbrev Cmd:=aK
def Fu:Int->List Pie->Bool
 | _,[]=>true
 | last,x::l=>decide (last <= x.Op) && (decide (x.Op < 8) && (yQ x.Part && (decide (x.Part.Version < 281474976710656) && Fu x.Op l)))
theorem Rd(c:Cmd)(hl:c.Pieces.length <= 1000000):∀ (k i:Nat) (last:Int),i <= c.Pieces.length->c.Pieces.length+1 <= i+k->gW c k last (i:Int)=if Fu last (c.Pieces.drop i)=true then fL c (((c.Gone.length:Int) - 0:Int).toNat+1) 0 else some false
 | 0,i,last,_,h=>by omega
 | k+1,i,last,h0,h=>by
  unfold gW;by_cases hi:i < c.Pieces.length
  ·rw [iP (by simpa using hi),bY hi,List.drop_eq_getElem_cons hi];simp only [bS];unfold Fu pR;by_cases a:(c.Pieces[i]).Op < last
   ·rw [iP (by simpa using a),decide_eq_false (by omega)];simp
   rw [iN (by simpa using a),decide_eq_true (show last <= (c.Pieces[i]).Op by omega)];by_cases b:(c.Pieces[i]).Op < 8
   ·rw [iN (by simp;omega),decide_eq_true b,Th];simp only [bS];cases m:yQ (c.Pieces[i]).Part with
    | false=>rw [iP (by rfl)];simp
    | true=>
     rw [iN (by simp)];by_cases v:(c.Pieces[i]).Part.Version < 281474976710656
     ·rw [iN (by simp;omega),decide_eq_true v,hP (by omega),Rd c hl k (i+1) _ (by omega) (by omega)];simp
     rw [iP (by simp;omega),decide_eq_false v];simp
   rw [iP (by simp;omega),decide_eq_false b];simp
  rw [iN (by simpa using hi),List.drop_eq_nil_of_le (by omega)];simp [Fu]
section
variable (a:List Nd) (b:List Tn) (c:List aF) (d:List aY) (f:List aR) (g:List aI) (x:List (Int×aX)) (y:List (Int×gI)) (z:List (Int×aX))
abbrev oW (e:Int):aX:=⟨e,0,false,0,[],(⟨[],[]⟩:aG),[],[],[]⟩
end
/-! ### the directories of pieces -/
theorem CG(l:List Pie)(hl:l.length <= 1000000):∀ (k i:Nat) (acc:List BY),i <= l.length->l.length+1 <= i+k->acc.length=i->yG l k acc (i:Int)=some (tU (xZ (acc ++ (l.drop i).map λp=>p.Part.Dir)))
 | 0,i,acc,_,h,_=>by omega
 | k+1,i,acc,h0,h,ha=>by
  unfold yG;by_cases hi:i < l.length
  ·rw [iP (by simpa using hi),bY hi];simp only [bS];rw [dJ (by simp [LIM];omega),hP (by omega),CG l hl k (i+1) _ (by omega) (by omega) (by simp [ha]),List.drop_eq_getElem_cons hi,List.map_cons,List.append_assoc,List.singleton_append]
  rw [iN (by simpa using hi),dJ (by omega),dJ (by rw [Fk];omega),List.drop_eq_nil_of_le (by omega)];simp
theorem CH(l:List Pie)(hl:l.length <= 1000000):G7 l=some (tU (xZ (l.map λp=>p.Part.Dir))):=by
 unfold G7;exact (CG l hl _ 0 [] (by omega) (by omega) rfl).trans (by simp)
theorem BD{α:Type} [Inhabited α] [DecidableEq α] {zs:List α} {x:α} (h:x ∈ Lib.compact zs):x ∈ zs:=by
 unfold Lib.compact Lib.compactUpTo at h;obtain ⟨i,hi,rfl⟩:=List.mem_map.1 h;have hi':i < zs.length:=List.mem_range.1 (List.mem_filter.1 hi).1;simp [getElem!_pos,hi']
theorem KD{L:List BY}{d:BY}(h:d ∈ tU (xZ L)):d ∈ L:=by
 unfold tU xZ at h;rw [Ci] at h;obtain ⟨s,hs,rfl⟩:=List.mem_map.1 h;have h2:=(An _).mem_iff.1 (BD hs);obtain ⟨t,ht,rfl⟩:=List.mem_map.1 h2;exact ht
theorem KE(L:List BY):(tU (xZ L)).length <= L.length:=by
 unfold tU;rw [List.length_map];refine Nat.le_trans ?_ (Nat.le_of_eq (show ((xZ L).map toL).length=L.length by rw [List.length_map,Fk]));unfold Lib.compact Lib.compactUpTo;rw [List.length_map];exact Nat.le_trans (List.length_filter_le _ _) (by simp)
/-! ### the root's range -/
/-! ### nobody watches -/
def Oc(r:Res):Prop:=r.Names.length <= 1000000/\∀ n ∈ r.Names,(bl n).length <= 12
/-! ### all of a list of pieces -/
theorem HE(x:Nd):(bl (W7 x)).length <= 12:=by
 show (bl (mk (J7 (bl x.Path)))).length <= 12;rw [iV];exact Zc _
theorem HF(s:Sto)(p:Pt1):∀ n ∈ (doP s p).2.Names,(bl n).length <= 12:=by
 have key:∀ (f:Nd->Bool) (n:BY),n ∈ (s.Nodes.filter f).map W7->(bl n).length <= 12:=λf n hn=>by
  obtain ⟨x,_,rfl⟩:=List.mem_map.1 hn;exact HE x
 intro n hn;unfold doP Ux at hn
 repeat' split at hn
 all_goals first | exact key _ n hn | exact absurd hn (by simp [res])
def mX(s0:Sto):Nat->Sto->List Res->List Pie->Sto×List Res×Int×Int
 | _,s,acc,[]=>(s,acc,0,0)
 | i,s,acc,p::l=>if (doP s p.Part).2.Err ≠ 0 then (s0,[],(doP s p.Part).2.Err,(i:Int)) else mX s0 (i+1) (doP s p.Part).1 (acc ++ [(doP s p.Part).2]) l
theorem HG(s0:Sto)(l:List Pie)(hl:l.length <= 1000)(hm:∀ p ∈ l,yQ p.Part=true):∀ (k i:Nat) (s:Sto) (acc:List Res),cV s->s.Nodes.length <= 50000+i->s.Turns.length <= 50000+i->i <= l.length->l.length+1 <= i+k->acc.length=i->(∀ x ∈ acc,Oc x)->
  zH l s0 k acc (i:Int) s.Nodes s.Turns=some (mX s0 i s acc (l.drop i))/\((mX s0 i s acc (l.drop i)).2.2.1=0->cV (mX s0 i s acc (l.drop i)).1/\(mX s0 i s acc (l.drop i)).1.Nodes.length <= 51000/\(mX s0 i s acc (l.drop i)).1.Turns.length <= 51000/\(mX s0 i s acc (l.drop i)).2.1.length=l.length/\∀ x ∈ (mX s0 i s acc (l.drop i)).2.1,Oc x)
 | 0,i,s,acc,_,_,_,_,h,_,_=>by omega
 | k+1,i,s,acc,S,hn,ht,h0,h,ha,hx=>by
  unfold zH;by_cases hi:i < l.length
  ·rw [iP (by simpa using hi),bY hi,List.drop_eq_getElem_cons hi];simp only [bS];have m:=hm _ (List.getElem_mem hi);rw [show (⟨s.Nodes,s.Turns⟩:Sto)=s from rfl,HB s _ (by omega) (by omega) S m];simp only [bS];unfold mX;by_cases e:(doP s (l[i]).Part).2.Err=0
   ·obtain ⟨g1,g2,g3,g4⟩:=Zl s (l[i]).Part S m;rw [iN (by simpa using e),iN (by simpa using e),dJ (by simp [LIM];omega),hP (by omega)];exact HG s0 l hl hm k (i+1) _ _ g1 (by omega) (by omega) (by omega) (by omega) (by simp [ha]) (λx h'=>by
     rcases List.mem_append.1 h' with h' | h'
     ·exact hx x h'
     rw [List.mem_singleton.1 h'];exact ⟨by omega,HF _ _⟩)
   rw [iP (by simpa using e),iP e];exact ⟨rfl,λh=>absurd h e⟩
  rw [iN (by simpa using hi),List.drop_eq_nil_of_le (by omega)];unfold mX;exact ⟨rfl,λ_=>⟨S,by simp only;omega,by simp only;omega,by simp only;omega,hx⟩⟩
theorem Pu(s:Sto)(l:List Pie)(S:cV s)(hn:s.Nodes.length <= 50000)(ht:s.Turns.length <= 50000)(hl:l.length <= 1000)(hm:∀ p ∈ l,yQ p.Part=true) :
  M1 s l=some (mX s 0 s [] l)/\((mX s 0 s [] l).2.2.1=0->cV (mX s 0 s [] l).1/\(mX s 0 s [] l).1.Nodes.length <= 51000/\(mX s 0 s [] l).1.Turns.length <= 51000/\(mX s 0 s [] l).2.1.length=l.length/\∀ x ∈ (mX s 0 s [] l).2.1,Oc x):=by
 unfold M1;exact HG s l hl hm _ 0 s [] S (by omega) (by omega) (by omega) (by omega) rfl (by simp)
theorem Vt:∀ (l:List Pie) (last:Int),Fu last l=true->∀ p ∈ l,yQ p.Part=true/\p.Part.Version < 281474976710656
 | [],_,_,p,hp=>by simp at hp
 | x::l,last,h,p,hp=>by
  unfold Fu at h;simp only [Bool.and_eq_true,decide_eq_true_eq] at h;rcases List.mem_cons.1 hp with rfl | hp
  ·exact ⟨h.2.2.1,h.2.2.2.1⟩
  exact Vt l _ h.2.2.2.2 p hp
theorem OH{l:List Pie}(h:∀ p ∈ l,yQ p.Part=true):∀ d ∈ tU (xZ (l.map λp=>p.Part.Dir)),dK (bl d)=true:=by
 intro d hd;obtain ⟨p,hp,rfl⟩:=List.mem_map.1 (KD hd);have m:=h p hp;rw [(Ca m).2.1];have q:=Vo m;unfold O2;split
 ·exact q
 unfold upP;cases hq:lE (bl p.Part.Path) with
 | none=>rfl
 | some q'=>
  obtain ⟨ps,t,h1,h2,h3,_⟩:=Ib hq;unfold dK;rw [show (some q').getD [47]=q' from rfl,h3];rfl
/-! ### nobody holds -/
/-- what all of the pieces come to, as an answer and a store. -/
def EF(s:Sto)(l:List Pie):aX:=if (mX s 0 s [] l).2.2.1 ≠ 0 then ⟨(mX s 0 s [] l).2.2.1,(mX s 0 s [] l).2.2.2,false,0,[],⟨[],[]⟩,[],[],[]⟩ else ⟨0,0,false,0,(mX s 0 s [] l).2.1,⟨[],[]⟩,[],[],[]⟩
def Bc(s:Sto)(l:List Pie):Sto:=if (mX s 0 s [] l).2.2.1 ≠ 0 then s else (mX s 0 s [] l).1
theorem Tm(s:Sto)(h1:s.Nodes.length <= 1000000)(h2:s.Turns.length <= 1000000):hC s.Nodes s.Turns=some s:=by
 unfold hC;rw [dJ (by simp [LIM];omega),dJ (by simp [LIM];omega)]
end Go.Cb
