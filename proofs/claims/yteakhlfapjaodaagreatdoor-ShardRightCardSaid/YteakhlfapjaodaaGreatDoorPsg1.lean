/- The plain laws. -/
import Derived.Test.YteakhlfapjaodaaGreatDoorKsg1
import Derived.Test.YteakhlfapjaodaaGreatDoorAsg2
import Derived.Test.YteakhlfapjaodaaGreatDoorKsg2
import Derived.Test.YteakhlfapjaodaaGreatDoorKsg4
import Derived.Test.YteakhlfapjaodaaGreatDoorKsg3
import Derived.Sort.Walk0
import Derived.ChangeKeysEq
set_option linter.unusedVariables false
set_option linter.unusedSimpArgs false
namespace Go.Cb
open Go.Proofs Go.RowKit
theorem w64{n:Int}(h:-9223372036854775808 <= n)(h':n <= 9223372036854775807):IntKind.i64.wrap n=n:=IntWalk.i64_in n ⟨h,h'⟩
theorem dK{α:Type}{p:Prop} [Decidable p] (h:p) (f:Unit->Option α):(ck p).bind f=f ():=by simp [ck,h]
theorem bT{α:Type}{l:List α}{i:Nat}(h:i < l.length):idx l (i:Int)=some l[i]:=by simp [idx,h]
theorem Za{α β:Type}{l:List α}{i:Nat}{x:α}(h:l[i]? =some x)(f:α->Option β):(idx l (i:Int)).bind f=f x:=by simp [idx,h]
def bl(s:BY):List UInt8:=s.data.toList
theorem dl(s:BY):s.data.toList=bl s:=rfl
theorem Uw{s:BY}{i:Nat}(h:i < (bl s).length):idx s.data.toList (i:Int)=some (bl s)[i]:=bT h
def mk(l:List UInt8):BY:=⟨l.toArray⟩
theorem lG(l:List UInt8):bl (mk l)=l:=rfl
theorem Fe(s:BY):mk (bl s)=s:=by cases s;simp [mk,bl]
theorem I4{s t:BY}(h:bl s=bl t):s=t:=by rw [← Fe s,h,Fe]
theorem Ip(s t:BY):bl (s ++ t)=bl s ++ bl t:=by simp [bl,ByteArray.data_append]
theorem eC(s:BY):s.size=(bl s).length:=by simp [bl]
theorem yK(s:BY)(i j:Nat):bl (s.extract i j)=((bl s).take j).drop i:=by
  unfold bl
  rw [ByteArray.data_extract]
  simp [Array.toList_extract,List.extract_eq_take_drop,List.drop_take]
theorem IF(x y:BY):sEq x y=true ↔ x=y:=by
  unfold sEq
  rw [ByteArray.toList_eq,ByteArray.toList_eq,beq_iff_eq]
  constructor
  · intro h;cases x;cases y;simp at h;simp [h]
  · rintro rfl;rfl
theorem qG(x y:BY):sEq x y=decide (bl x=bl y):=by
  rw [Bool.eq_iff_iff,IF]
  simp only [decide_eq_true_eq]
  exact ⟨λ h=>by rw [h],I4⟩
theorem Z4(x y:BY):sLt x y=decide (bl x < bl y):=by
  unfold sLt
  rw [Go.Proofs.bytesLess_eq,ByteArray.toList_eq,ByteArray.toList_eq]
  rfl

def Bd(c:UInt8):Bool:=(decide (97 <= c.toNat) && decide (c.toNat <= 122)) || (decide (48 <= c.toNat) && decide (c.toNat <= 57)) || decide (c.toNat=45)
def gO(l:List UInt8):Bool:=!l.isEmpty && decide (l.length <= 12) && l.all Bd
def letters:BY:=⟨#[97,98,99,100,101,102,103,104,105,106,107,108,109,110,111,112,113,114,115,116,117,118,119,120,121,122,48,49,50,51,52,53,54,55,56,57,45]⟩
theorem EC:∀ r:Fin 128,B3 (r.val:Int)=some (!Bd (UInt8.ofNat r.val)):=by decide +kernel
theorem ED:∀ (i:Fin 3) (c:Fin 128),ixB (letters.extract (i.val+2) 37) ((c.val:Int)+128)= -1:=by decide +kernel
theorem Wn:∀ i:Fin 37,((letters.data.toList[i.val]!).toNat < 128):=by decide +kernel
theorem EE(x:Int)(h:128 <= x):∃ (n:Fin 3) (c:Fin 128),(Utf8.encode x).size=n.val+2/\(Utf8.encode x).data.toList[n.val+1]? =some (UInt8.ofNat (c.val+128)):=by
  unfold Utf8.encode
  generalize hc:(if Utf8.valid x=true then x.toNat else Utf8.runeError)=c
  have h128:128 <= c:=by
    rw [← hc];split
    · omega
    · decide
  simp only
  rw [iN (by omega)]
  split
  · exact ⟨0,⟨c % 64,by omega⟩,rfl,by simp [Nat.add_comm]⟩
  · split
    · exact ⟨1,⟨c % 64,by omega⟩,rfl,by simp [Nat.add_comm]⟩
    · exact ⟨2,⟨c % 64,by omega⟩,rfl,by simp [Nat.add_comm]⟩
theorem BH(r:Int)(h:128 <= r):B3 r=some true:=by
  have key:tW letters r=some (-1):=by
    unfold tW rA
    rw [iP (by simp;omega),show decide (r < 128)=false from by simp;omega]
    simp only [Bool.false_eq_true,if_false]
    by_cases e:r=65533
    · subst e;kernel_rfl
    · rw [iN (by simp;exact e)]
      have hv:∃ b,oR r=some b:=by
        unfold oR mC mB
        split <;> (try split) <;> (try split) <;> (try split) <;> exact ⟨_,rfl⟩
      obtain ⟨b,hb⟩:=hv
      rw [hb]
      simp only [bS]
      split
      · rfl
      · obtain ⟨n,c,hs,hl⟩:=EE r h
        have hn:=n.isLt
        have hcl:=c.isLt
        unfold vA
        have e1:IntKind.i64.wrap (((Utf8.encode r).size:Int) - 1)=((n.val+1:Nat):Int):=by rw [hs,w64 (by omega) (by omega)];omega
        rw [e1]
        have e2:(letters.size:Int)=37:=rfl
        rw [iP (by rw [e2];simp;omega)]
        have hll:n.val+1 < letters.data.toList.length:=by show n.val+1 < 37;omega
        rw [bT hll]
        simp only [bS]
        rw [Za hl]
        have e3:(UInt8.ofNat (c.val+128)).toNat=c.val+128:=by simp;omega
        rw [e3]
        have h7:=Wn ⟨n.val+1,by omega⟩
        rw [getElem!_pos letters.data.toList (n.val+1) hll] at h7
        rw [iP (by simp only [bne_iff_ne,ne_eq];omega)]
        have e4:IntKind.i64.wrap (((n.val+1:Nat):Int)+1)=((n.val+2:Nat):Int):=by rw [w64 (by omega) (by omega)];omega
        rw [e4,dK (by rw [e2];omega),Za hl,e3]
        have e5:lI (letters.extract ((n.val+2:Nat):Int).toNat letters.size) (((c.val+128:Nat)):Int)=some (-1):=by
          show some (ixB (letters.extract (n.val+2) 37) (((c.val+128:Nat)):Int))=_
          rw [show (((c.val+128:Nat)):Int)=(c.val:Int)+128 from by omega,ED n c]
        rw [e5]
        rfl
  show (rB letters r).bind _=_
  unfold rB
  rw [key]
  rfl
theorem IG{s:BY}{i:Nat}{c:UInt8}(h:(bl s)[i]? =some c)(hc:c.toNat < 128):Utf8.decode s i=(c.toNat,1):=by
  have hg:s.get! i=c:=by
    obtain ⟨hi,hx⟩:=List.getElem?_eq_some_iff.1 h
    cases s with | mk d=>
    show d[i]! =c
    rw [getElem!_pos d i (by simpa [bl] using hi)]
    exact hx
  unfold Utf8.decode
  simp only [Nat.add_zero,hg]
  rw [iP hc]
theorem EF{s:BY}{i:Nat}{c:UInt8}(h:(bl s)[i]? =some c)(hc:128 <= c.toNat):128 <= (Utf8.decode s i).1:=by
  have hg:s.get! i=c:=by
    obtain ⟨hi,hx⟩:=List.getElem?_eq_some_iff.1 h
    cases s with | mk d=>
    show d[i]! =c
    rw [getElem!_pos d i (by simpa [bl] using hi)]
    exact hx
  unfold Utf8.decode
  simp only [Nat.add_zero,hg]
  rw [iN (by omega)]
  have e:Utf8.runeError=65533:=rfl
  split
  · split
    · simp;omega
    · show 128 <= Utf8.runeError;rw [e];omega
  · split
    · split
      · rename_i h;simp at h;simp;omega
      · show 128 <= Utf8.runeError;rw [e];omega
    · split
      · split
        · rename_i h;simp at h;simp;omega
        · show 128 <= Utf8.runeError;rw [e];omega
      · show 128 <= Utf8.runeError;rw [e];omega
theorem EG{c:UInt8}(h:128 <= c.toNat):Bd c=false:=by simp [Bd];omega
theorem BI(s:BY):∀ (k i:Nat),i <= (bl s).length->(bl s).length+1 <= i+k->∃ v:Int,nB s true k i=some v/\(decide (v ≥ 0)= !((bl s).drop i).all Bd)
  | 0,i,h0,h=>by omega
  | k+1,i,h0,h=>by
    unfold nB
    by_cases hi:i < (bl s).length
    · rw [iP (by rw [eC];simpa using hi)]
      have hx:(bl s)[i]? =some (bl s)[i]:=List.getElem?_eq_getElem hi
      have hd:(bl s).drop i=(bl s)[i]::(bl s).drop (i+1):=List.drop_eq_getElem_cons hi
      by_cases hc:((bl s)[i]).toNat < 128
      · rw [IG hx hc]
        have:=EC ⟨_,hc⟩
        simp only at this
        rw [this]
        simp only [bS,UInt8.ofNat_toNat]
        by_cases hl:Bd (bl s)[i]=true
        · rw [hl]
          simp only [Bool.not_true,Bool.false_beq,Bool.not_true,Bool.false_eq_true,if_false]
          obtain ⟨v,h1,h2⟩:=BI s k (i+1) (by omega) (by omega)
          exact ⟨v,h1,by rw [h2,hd,List.all_cons,hl,Bool.true_and]⟩
        · simp only [Bool.not_eq_true] at hl
          rw [hl]
          exact ⟨_,rfl,by rw [hd,List.all_cons,hl];simp⟩
      · rw [BH _ (by have:=EF hx (by omega);omega)]
        exact ⟨_,rfl,by rw [hd,List.all_cons,EG (by omega)];simp⟩
    · rw [iN (by rw [eC];simpa using hi)]
      exact ⟨_,rfl,by rw [List.drop_eq_nil_of_le (by omega)];rfl⟩
theorem emp:bl (ByteArray.mk #[])= []:=rfl
theorem Mq:bl (ByteArray.mk #[47])= [47]:=rfl
theorem Jm(s:BY):zO s=some (gO (bl s)):=by
  unfold zO vB yO yN
  obtain ⟨v,h1,h2⟩:=BI s (s.size+2) 0 (by omega) (by rw [eC];omega)
  rw [h1]
  simp only [bS,h2,List.drop_zero,Bool.not_not,qG,emp]
  unfold gO
  have e:(s.size:Int) <= 12 ↔ (bl s).length <= 12:=by rw [eC];omega
  by_cases h0:bl s= []
  · rw [iN (by simp [h0])];simp [h0]
  · rw [iP (by simp [h0])]
    have h0':(bl s).isEmpty=false:=by cases hz:bl s with | nil=>exact absurd hz h0 | cons _ _=>rfl
    by_cases h1:(bl s).length <= 12
    · rw [iP (by simp only [decide_eq_true_eq];exact e.2 h1)];simp [h0',h1]
    · rw [iN (by simp only [decide_eq_true_eq];exact λ h=>h1 (e.1 h))];simp [h0',h1]
theorem Ux(s:BY)(hs:(bl s).length <= 100000000):∀ (k i:Nat),i <= (bl s).length->(bl s).length+1 <= i+k->eY s k (i:Int)=some (((bl s).drop i).all Bd && (decide (1 <= (bl s).length) && decide ((bl s).length <= 12)))
  | 0,i,h0,h=>by omega
  | k+1,i,h0,h=>by
    unfold eY
    by_cases hi:i < (bl s).length
    · rw [iP (by rw [eC];simp;simpa using hi),Uw hi]
      have hd:(bl s).drop i=(bl s)[i]::(bl s).drop (i+1):=List.drop_eq_getElem_cons hi
      have ih:=Ux s hs k (i+1) (by omega) (by omega)
      have e1:IntKind.i64.wrap ((i:Int)+1)=((i+1:Nat):Int):=by rw [w64 (by omega) (by omega)];omega
      simp only [bS]
      rw [hd,List.all_cons]
      generalize (bl s)[i]=c
      by_cases hl:Bd c=true
      · rw [hl,Bool.true_and,← ih,← e1]
        simp [Bd] at hl
        unfold gP
        by_cases a1:c.toNat=45
        · rw [iN (by simp;omega)];rfl
        · rw [iP (by simp;omega)]
          by_cases a2:c.toNat < 97
          · rw [iP (by simp;omega),iN (by simp;omega),show decide ((c.toNat:Int) > 57)=false from by simp;omega];rfl
          · rw [iN (by simp;omega),iN (by simp;omega)];rfl
      · simp only [Bool.not_eq_true] at hl
        rw [hl,Bool.false_and]
        simp [Bd] at hl
        unfold gP
        rw [iP (by simp;omega)]
        by_cases a2:c.toNat < 97
        · rw [iP (by simp;omega)]
          by_cases a3:c.toNat < 48
          · rw [iP (by simp;omega)];rfl
          · rw [iN (by simp;omega),show decide ((c.toNat:Int) > 57)=true from by simp;omega];rfl
        · rw [iN (by simp;omega),iP (by simp;omega),iN (by simp;omega),show decide ((c.toNat:Int) > 57)=true from by simp;omega];rfl
    · rw [iN (by rw [eC];simp;simpa using hi),List.drop_eq_nil_of_le (by omega),eC]
      simp only [List.all_nil,Bool.true_and]
      by_cases h1:1 <= (bl s).length
      · rw [iP (by simp only [decide_eq_true_eq];omega),decide_eq_true h1,Bool.true_and]
        congr 1
        rw [Bool.eq_iff_iff]
        simp only [decide_eq_true_eq]
        omega
      · rw [iN (by simp only [decide_eq_true_eq];omega),decide_eq_false h1];rfl
theorem EH(s:BY)(hs:(bl s).length <= 100000000):vM s=some (gO (bl s)):=by
  unfold vM
  have:=Ux s hs (((s.size:Int) - 0:Int).toNat+1) 0 (by omega) (by rw [eC];omega)
  refine this.trans ?_
  unfold gO
  have:decide (1 <= (bl s).length)= !(bl s).isEmpty:=by cases bl s <;> simp
  rw [List.drop_zero,this,Bool.and_comm]
def iC:List UInt8->List (List UInt8)
  | []=>[[]]
  | c::r=>if c=47 then []::iC r else (c::(iC r).head!)::(iC r).tail
theorem c47{c:UInt8}(h:c ≠ 47):c.toNat ≠ 47:=λ e=>h (UInt8.toNat_inj.1 e)
theorem II(r:List UInt8):iC (47::r)= []::iC r:=by rw [iC,iP rfl]
theorem BJ{c:UInt8}(h:c ≠ 47)(r:List UInt8):iC (c::r)=(c::(iC r).head!)::(iC r).tail:=by rw [iC,iN h]
theorem Xi(l:List UInt8):iC l ≠ []:=by
  cases l with
  | nil=>simp [iC]
  | cons c r=>unfold iC;split <;> simp
/-- what lies ahead of the first '/', what lies behind. -/
theorem w7:∀ (l:List UInt8),47 ∉ l->iC l= [l]
  | [],_=>rfl
  | c::r,h=>by
    simp at h
    rw [BJ (λ e=>h.1 e.symm),w7 r h.2]
    rfl
theorem O4:∀ (a b:List UInt8),47 ∉ a->iC (a ++ 47::b)=a::iC b
  | [],b,_=>II b
  | c::r,b,h=>by
    simp at h
    show iC (c::(r ++ 47::b))=_
    rw [BJ (λ e=>h.1 e.symm),O4 r b h.2]
    rfl
theorem Mr(l:List UInt8):47 ∉ l∨∃ a b,l=a ++ 47::b/\47 ∉ a:=by
  induction l with
  | nil=>exact .inl (by simp)
  | cons c r ih=>
    by_cases hc:c=47
    · exact .inr ⟨[],r,by rw [hc];rfl,by simp⟩
    · rcases ih with h | ⟨a,b,rfl,h⟩
      · exact .inl (by simp;exact ⟨λ e=>hc e.symm,h⟩)
      · exact .inr ⟨c::a,b,rfl,by simp;exact ⟨λ e=>hc e.symm,h⟩⟩
def fZ(ps:List (List UInt8)):List UInt8:=ps.flatMap (47::·)
def pT(ps:List (List UInt8)):List UInt8:=if ps= [] then [47] else fZ ps
theorem Ec{l:List UInt8}(h:gO l=true):47 ∉ l:=by
  intro hm
  unfold gO at h
  simp at h
  have:=h.2 47 hm
  simp [Bd] at this
theorem Ao{l:List UInt8}(h:gO l=true):l ≠ []:=by
  rintro rfl
  simp [gO] at h
theorem Ff:∀ (a:List UInt8) (ps:List (List UInt8)),47 ∉ a->(∀ p ∈ ps,47 ∉ p)->iC (a ++ fZ ps)=a::ps
  | a,[],h,_=>by simp [fZ,w7 a h]
  | a,p::ps,h,hp=>by
    show iC (a ++ (47::(p ++ fZ ps)))=_
    rw [O4 a _ h,Ff p ps (hp p (by simp)) λ q hq=>hp q (by simp [hq])]
theorem Ms:∀ (n:Nat) (l:List UInt8),l.length <= n->fZ (iC l)=47::l
  | n,l,hn=>by
    rcases Mr l with h | ⟨a,b,rfl,h⟩
    · rw [w7 l h];simp [fZ]
    · simp at hn
      rw [O4 a b h]
      cases n with
      | zero=>omega
      | succ n=>
        have:=Ms n b (by omega)
        show (47::a) ++ fZ (iC b)=_
        rw [this];simp

def parts:List UInt8->Option (List (List UInt8))
  | []=>none
  | c::r=>if c=47 then (if r= [] then some [] else if (iC r).all gO=true/\(iC r).length <= 6 then some (iC r) else none) else none
theorem kY(p:List UInt8)(ps:List (List UInt8)):parts p=some ps ↔ p=pT ps/\ps.all gO=true/\ps.length <= 6:=by
  constructor
  · intro h
    cases p with
    | nil=>cases h
    | cons c r=>
      rw [parts] at h
      by_cases hc:c=47
      · subst hc
        rw [iP rfl] at h
        by_cases hr:r= []
        · rw [iP hr] at h
          cases h
          subst hr
          exact ⟨rfl,rfl,by simp⟩
        · rw [iN hr] at h
          by_cases h2:(iC r).all gO=true/\(iC r).length <= 6
          · rw [iP h2] at h
            cases h
            refine ⟨?_,h2.1,h2.2⟩
            unfold pT
            rw [iN (Xi r),Ms _ r (Nat.le_refl _)]
          · rw [iN h2] at h;cases h
      · rw [iN hc] at h;cases h
  · rintro ⟨rfl,h1,h2⟩
    cases ps with
    | nil=>rfl
    | cons t ts=>
      have h1':∀ q ∈ t::ts,gO q=true:=by simpa using h1
      have ht:iC (t ++ fZ ts)=t::ts:=Ff t ts (Ec (h1' t (by simp))) λ q hq=>Ec (h1' q (by simp [hq]))
      have hne:t ++ fZ ts ≠ []:=by
        intro e
        exact Ao (h1' t (by simp)) (List.append_eq_nil_iff.1 e).1
      rw [show pT (t::ts)=47::(t ++ fZ ts) from rfl,parts,iP rfl,iN hne,ht,iP ⟨h1,h2⟩]
def spl(p:BY):List BY×Bool:=match parts (bl p) with
  | some ps=>(ps.map mk,true)
  | none=>([],false)

theorem MW(s:BY):lJ s (ByteArray.mk #[47])=some (match bl s with | []=>(s,false) | c::r=>if c=47 then (mk r,true) else (s,false)):=by
  unfold lJ jA iZ
  have e1:((ByteArray.mk #[47]).size:Int)=1:=rfl
  rw [e1]
  have hs:=eC s
  cases hb:bl s with
  | nil=>
    rw [hb] at hs
    rw [iN (by rw [hs];simp)]
    rfl
  | cons c r=>
    rw [hb] at hs
    simp at hs
    rw [iP (by rw [hs];simp only [decide_eq_true_eq];omega),dK (by rw [hs];omega)]
    have e2:bl (s.extract 0 (1:Int).toNat)= [c]:=by rw [yK,hb];rfl
    simp only [bS]
    rw [qG,e2,Mq]
    by_cases hc:c=47
    · subst hc
      rw [iN (by simp),dK (by rw [hs];omega)]
      have e3:s.extract (1:Int).toNat s.size=mk r:=by
        apply I4
        rw [yK,hb,lG,hs]
        simp
      simp only [bS,e3]
      rfl
    · rw [iP (by simp;exact hc)]
      simp only [bS]
      rw [iN hc]
theorem EI{s:BY}(h:47 ∉ bl s):lI s 47=some (-1):=by
  show some (ixB s 47)=_
  congr 1
  unfold ixB
  have:(List.range s.size).find? (λ i=>s[i]! == (47:Int).toNat.toUInt8)=none:=by
    rw [List.find?_eq_none]
    intro i hi
    simp only [List.mem_range] at hi
    intro hx
    apply h
    have hi':i < (bl s).length:=by rw [← eC];exact hi
    have hx:s[i]! =47:=by simpa using hx
    rw [getElem!_pos s i hi] at hx
    have:(bl s)[i]=47:=hx
    rw [← this]
    exact List.getElem_mem _
  rw [this]
theorem EJ{s:BY}{a b:List UInt8}(hs:bl s=a ++ 47::b)(h:47 ∉ a):lI s 47=some (a.length:Int):=by
  show some (ixB s 47)=_
  congr 1
  unfold ixB
  have hl:a.length < s.size:=by rw [eC,hs];simp
  have hat:∀ i (hi:i < s.size),s[i]! =(a ++ 47::b)[i]'(by rw [← hs,← eC];exact hi):=λ i hi=>by
    rw [getElem!_pos s i hi]
    have:(bl s)[i]'(by rw [← eC];exact hi)=(a ++ 47::b)[i]'(by rw [← hs,← eC];exact hi):=by simp only [hs]
    exact this
  have:(List.range s.size).find? (λ i=>s[i]! == (47:Int).toNat.toUInt8)=some a.length:=by
    rw [List.find?_range_eq_some]
    refine ⟨?_,List.mem_range.2 hl,λ j hj=>?_⟩
    · rw [hat _ hl];simp
    · rw [hat _ (by omega),List.getElem_append_left hj]
      simp
      intro e
      exact h (e ▸ List.getElem_mem _)
  rw [this]

theorem Mt:∀ (k:Nat) (s:BY) (acc:List BY),acc.length <= 6->(bl s).length+1 <= k->qK k s acc=some (match bl s with
    | []=>if acc= [] then ([],false) else (acc,true)
    | c::r=>if c=47 then (if (iC r).all gO=true/\acc.length+(iC r).length <= 6 then (acc ++ (iC r).map mk,true) else ([],false)) else ([],false))
  | 0,s,acc,_,h=>by omega
  | k+1,s,acc,ha,h=>by
    unfold qK
    rw [qG,emp]
    cases hb:bl s with
    | nil=>
      rw [iN (by simp)]
      cases acc with
      | nil=>rfl
      | cons x xs=>rw [iP (by simp),iN (by simp)]
    | cons c r=>
      rw [iP (by simp),MW s,hb]
      simp only [bS]
      by_cases hc:c=47
      · subst hc
        simp only [if_true,Bool.not_true,Bool.false_eq_true,if_false]
        have htl:1 <= (iC r).length:=by have:=Xi r;cases h:iC r with | nil=>exact absurd h this | cons _ _=>simp
        by_cases h6:acc.length=6
        · rw [iP (by simp;omega),iN (by rintro ⟨_,h⟩;omega)];rfl
        · rw [iN (by simp;omega)]
          have hrs:(mk r).size=r.length:=by rw [eC,lG]
          have hlen:(bl s).length=r.length+1:=by rw [hb];simp
          rcases Mr r with hns | ⟨a,b,rfl,hns⟩
          · rw [EI (by rw [lG];exact hns)]
            simp only [bS]
            rw [iP (by decide)]
            unfold wH
            rw [hrs,dK (by omega),Jm,yK,lG]
            simp only [bS,Int.toNat_natCast,List.take_length,List.drop_zero]
            rw [w7 r hns]
            cases hp:gO r
            · simp [hp,sP]
            · rw [iN (by simp),dK (by omega),dK (by simp [LIM];omega),dK (by omega)]
              have e1:bl ((mk r).extract r.length r.length)= []:=by rw [yK,lG];simp
              rw [Mt k _ _ (by simp;omega) (by rw [e1];simp;omega),e1]
              have e2:(mk r).extract 0 r.length=mk r:=by apply I4;rw [yK,lG];simp
              simp only []
              rw [iN (by simp),iP ⟨by simp [hp],by simp;omega⟩,e2]
              rfl
          · rw [EJ (s:=mk (a ++ 47::b)) (a:=a) (b:=b) (lG _) hns]
            simp only [bS]
            rw [iN (by simp)]
            unfold wH
            have hal:(a ++ 47::b).length=a.length+b.length+1:=by simp;omega
            rw [hrs,dK (by omega),Jm,yK,lG]
            simp only [bS,Int.toNat_natCast,List.drop_zero]
            rw [List.take_left,O4 a b hns]
            cases hp:gO a
            · simp [hp,sP]
            · rw [iN (by simp),dK (by omega),dK (by simp [LIM];omega),dK (by omega)]
              have e1:bl ((mk (a ++ 47::b)).extract a.length (a ++ 47::b).length)=47::b:=by rw [yK,lG,List.take_length,List.drop_left]
              rw [Mt k _ _ (by simp;omega) (by rw [e1];simp;omega),e1]
              have e2:(mk (a ++ 47::b)).extract 0 a.length=mk a:=by apply I4;rw [yK,lG,List.take_left,lG];rfl
              simp only [if_true,e2,List.length_append,List.length_cons,List.length_nil,List.all_cons,hp,Bool.true_and,List.map_cons]
              by_cases hq:(iC b).all gO=true/\acc.length+1+(iC b).length <= 6
              · rw [iP (by exact hq),iP ⟨hq.1,by omega⟩];simp
              · rw [iN (by exact hq),iN (λ h=>hq ⟨h.1,by omega⟩)]
      · simp only [iN hc]
        rw [iP (by simp)]
        rfl
theorem Mu(s:BY):r4 s=some (spl s):=by
  unfold r4
  rw [qG,Mq]
  by_cases h1:bl s= [47]
  · rw [iP (by simp [h1])]
    unfold spl
    rw [h1];rfl
  · rw [iN (by simp [h1]),Mt _ s [] (by simp) (by rw [eC];omega)]
    unfold spl
    cases hb:bl s with
    | nil=>rfl
    | cons c r=>
      simp only [parts,List.length_nil,Nat.zero_add,List.nil_append]
      by_cases hc:c=47
      · subst hc
        have hr:r ≠ []:=by rintro rfl;exact h1 hb
        rw [iP rfl,iP rfl,iN hr]
        by_cases hq:(iC r).all gO=true/\(iC r).length <= 6
        · rw [iP hq,iP hq]
        · rw [iN hq,iN hq]
      · rw [iN hc,iN hc]
theorem Iq(s:BY)(hs:(bl s).length <= 100000000):∀ (k:Nat) (acc:List BY) (f i:Nat) (a b:List UInt8),acc.length <= 6->f <= i->i <= (bl s).length->(bl s).length+2 <= i+k->(bl s).drop f=a ++ b->a.length=i - f->47 ∉ a->
    eA s k acc (f:Int) (i:Int)=some (if (iC (a ++ b)).all gO=true/\acc.length+(iC (a ++ b)).length <= 6 then (acc ++ (iC (a ++ b)).map mk,true) else ([],false))
  | 0,acc,f,i,a,b,_,_,_,h,_,_,_=>by omega
  | k+1,acc,f,i,a,b,ha,hfi,hil,h,hd,hal,hns=>by
    unfold eA
    rw [iP (by rw [eC];simp only [decide_eq_true_eq];omega)]
    have hbd:(bl s).drop i=b:=by
      have:(bl s).drop i=((bl s).drop f).drop (i - f):=by rw [List.drop_drop];congr 1;omega
      rw [this,hd,← hal,List.drop_left]
    have e1:IntKind.i64.wrap ((i:Int)+1)=((i+1:Nat):Int):=by rw [w64 (by omega) (by omega)];omega
    have hpart:bl (s.extract f i)=a:=by
      rw [yK,List.drop_take,hd,← hal,List.take_left]
    have hex:s.extract f i=mk a:=by apply I4;rw [hpart,lG]
    -- at the end of a part
    have fin:∀ (b':List UInt8),(b=47::b'∨(b= []/\i=(bl s).length))->nD (eA s k) (i:Int) (f:Int) s acc=some (if (iC (a ++ b)).all gO=true/\acc.length+(iC (a ++ b)).length <= 6 then (acc ++ (iC (a ++ b)).map mk,true) else ([],false)):=by
      intro b' hb
      unfold nD rC nC
      have c1:(0:Int) <= (f:Int)/\(f:Int) <= (i:Int)/\(i:Int) <= (s.size:Int):=by rw [eC];omega
      rw [dK c1]
      simp only [Int.toNat_natCast]
      rw [EH _ (by rw [hpart];omega),hpart]
      simp only [bS]
      have htk:iC (a ++ b)=a::(if b= [] then [] else iC b')/\(b= []->i=(bl s).length):=by
        rcases hb with rfl | ⟨rfl,h2⟩
        · rw [O4 a b' hns,iN (by simp)];exact ⟨rfl,λ h=>by cases h⟩
        · rw [List.append_nil,w7 a hns,iP rfl];exact ⟨rfl,λ _=>h2⟩
      cases hp:gO a
      · rw [iP (by simp),iP trivial,iN]
        rintro ⟨h,_⟩
        rw [htk.1] at h
        simp [hp] at h
      · rw [iN (by simp)]
        by_cases h6:acc.length=6
        · rw [iP (by simp;omega),iN]
          rintro ⟨_,h⟩
          rw [htk.1] at h
          simp at h;omega
        · rw [iN (by simp;omega),dK c1,dK (by simp [LIM];omega),e1]
          rw [hex]
          rcases hb with rfl | ⟨rfl,h2⟩
          · have hil2:i < (bl s).length:=by
              have:=congrArg List.length hbd
              simp at this;omega
            have hd2:(bl s).drop (i+1)= [] ++ b':=by
              rw [← List.drop_drop,hbd];rfl
            rw [Iq s hs k (acc ++ [mk a]) (i+1) (i+1) [] b' (by simp;omega) (Nat.le_refl _) (by omega) (by omega) hd2 (by simp) (by simp)]
            rw [O4 a b' hns]
            simp only [List.nil_append,List.length_append,List.length_cons,List.length_nil,List.all_cons,hp,Bool.true_and,List.map_cons]
            by_cases hq:(iC b').all gO=true/\acc.length+1+(iC b').length <= 6
            · rw [iP (by exact hq),iP ⟨hq.1,by omega⟩];simp
            · rw [iN (by exact hq),iN (λ h=>hq ⟨h.1,by omega⟩)]
          · rw [htk.1,iP rfl,iP ⟨by simp [hp],by simp;omega⟩]
            cases k with
            | zero=>omega
            | succ k=>
              unfold eA
              rw [iN (by rw [eC];simp only [decide_eq_true_eq];omega)]
              rfl
    by_cases hi:i < (bl s).length
    · rw [iP (by rw [eC];simp only [decide_eq_true_eq];omega),Uw hi]
      simp only [bS]
      have hb:b=(bl s)[i]::(bl s).drop (i+1):=by rw [← hbd];exact List.drop_eq_getElem_cons hi
      generalize (bl s)[i]=c at hb
      by_cases hc:c=47
      · subst hc
        rw [iN (by decide)]
        exact fin _ (.inl hb)
      · rw [iP (by have:=c47 hc;simp only [bne_iff_ne,ne_eq];omega)]
        unfold nC
        rw [e1,Iq s hs k acc f (i+1) (a ++ [c]) ((bl s).drop (i+1)) ha (by omega) (by omega) (by omega) (by rw [hd,hb];simp) (by simp;omega) (by simp;exact ⟨hns,λ e=>hc e.symm⟩)]
        rw [hb]
        simp only [List.append_assoc,List.singleton_append]
    · rw [iN (by rw [eC];simp only [decide_eq_true_eq];omega)]
      have hb:b= []:=by rw [← hbd,List.drop_eq_nil_of_le (by omega)]
      exact fin [] (.inr ⟨hb,by omega⟩)
theorem BK(s:BY)(hs:(bl s).length <= 100000000):tX s=some (spl s):=by
  unfold tX rD
  rw [qG,qG,Mq,emp]
  by_cases h1:bl s= [47]
  · rw [iP (by simp [h1])]
    unfold spl
    rw [h1];rfl
  · rw [iN (by simp [h1])]
    unfold spl
    cases hb:bl s with
    | nil=>rw [iP (by simp)];rfl
    | cons c r=>
      have hl:(bl s).length=r.length+1:=by rw [hb];simp
      rw [iN (by simp),show (0:Int)=((0:Nat):Int) from rfl,Za (x:=c) (by rw [dl,hb];rfl)]
      simp only [parts]
      by_cases hc:c=47
      · subst hc
        have hr:r ≠ []:=by rintro rfl;exact h1 hb
        rw [iN (by decide),iP rfl,iN hr]
        have:=Iq s hs (((s.size:Int) - 1:Int).toNat+2) [] 1 1 [] r (by simp) (Nat.le_refl _) (by rw [hl];omega) (by have:=eC s;omega) (by rw [hb];rfl) (by simp) (by simp)
        rw [show (1:Int)=((1:Nat):Int) from rfl]
        refine this.trans ?_
        simp only [List.nil_append,List.length_nil,Nat.zero_add]
        by_cases hq:(iC r).all gO=true/\(iC r).length <= 6
        · rw [iP hq,iP hq]
        · rw [iN hq,iN hq]
      · have hb:((c.toNat:Int) != 47)=true:=by have:=c47 hc;simp only [bne_iff_ne,ne_eq];omega
        rw [hb,iP rfl,iN hc]
def pU(p:List UInt8):Option (List UInt8):=match parts p with
  | some ps=>if ps= [] then none else some (pT ps.dropLast)
  | none=>none
def A7(p:List UInt8):List UInt8:=match parts p with
  | some ps=>ps.getLast?.getD []
  | none=>[]
def os2(o:Option (List UInt8)):BY×Bool:=match o with
  | some q=>(mk q,true)
  | none=>(mk [],false)
theorem V5(ps qs:List (List UInt8)):fZ (ps ++ qs)=fZ ps ++ fZ qs:=by simp [fZ]
theorem O7{p:List UInt8}{ps:List (List UInt8)}(h:parts p=some ps):p.length <= 78:=by
  obtain ⟨rfl,h1,h2⟩:=(kY p ps).1 h
  have key:∀ qs:List (List UInt8),qs.all gO=true->(fZ qs).length <= 13 * qs.length:=by
    intro qs
    induction qs with
    | nil=>intro _;simp [fZ]
    | cons t ts ih=>
      intro h
      simp at h
      have h3:t.length <= 12:=by have:=h.1;simp [gO] at this;exact this.1.2
      have h4:=ih (by simpa using h.2)
      show (47::(t ++ fZ ts)).length <= _
      simp;omega
  unfold pT
  split
  · simp
  · have:=key ps h1;omega
theorem Xj(s:BY)(a b:List UInt8)(hs:bl s=a ++ 47::b)(hb:47 ∉ b)(hl:(bl s).length <= 1000):∀ (k i:Nat),i < (bl s).length->a.length <= i->i+1 <= k->eM s k 47 (i:Int)=some (a.length:Int)
  | 0,i,_,_,h=>by omega
  | k+1,i,hi,hai,h=>by
    unfold eM
    rw [iP (by simp),Uw hi]
    simp only [bS]
    by_cases e:i=a.length
    · have:(bl s)[i]=47:=by subst e;simp [hs]
      rw [this,iP (by decide),e]
    · have hne:(bl s)[i] ≠ 47:=by
        have h2:(bl s)[i]? =b[i - a.length - 1]? :=by
          rw [hs,List.getElem?_append_right hai,show i - a.length=(i - a.length - 1)+1 from by omega,List.getElem?_cons_succ]
          rfl
        rw [List.getElem?_eq_getElem hi] at h2
        intro e2
        rw [e2] at h2
        exact hb (List.mem_of_getElem? h2.symm)
      rw [iN (by have:=c47 hne;simp only [beq_iff_eq];omega),show IntKind.i64.wrap ((i:Int) - 1)=((i - 1:Nat):Int) from by rw [w64 (by omega) (by omega)];omega]
      exact Xj s a b hs hb hl k (i - 1) (by omega) (by omega) (by omega)
theorem BL(s:BY):J2 s=some (match parts (bl s) with
    | some ps=>if ps= [] then (mk [],mk [],false) else (mk (pT ps.dropLast),mk (ps.getLast?.getD []),true)
    | none=>(mk [],mk [],false)):=by
  unfold J2 gH
  rw [Mu]
  simp only [bS]
  unfold spl
  cases hp:parts (bl s) with
  | none=>simp only [Bool.not_false,if_true];rfl
  | some ps=>
    simp only [Bool.not_true,Bool.false_eq_true,if_false]
    obtain ⟨h0,h1,h2⟩:=(kY _ ps).1 hp
    rw [qG,Mq]
    rcases List.eq_nil_or_concat ps with rfl | ⟨qs,t,rfl⟩
    · have:bl s= [47]:=h0
      rw [this];rfl
    · rw [List.concat_eq_append] at *
      have ht:gO t=true:=by simp at h1;exact h1.2
      have hb:bl s=fZ qs ++ 47::t:=by rw [h0];unfold pT;rw [iN (by simp),V5];simp [fZ]
      have hne:bl s ≠ [47]:=by
        rw [hb]
        intro e
        have:=congrArg List.length e
        have:=List.length_pos_iff.2 (Ao ht)
        simp at *
        omega
      have hl:=O7 hp
      rw [decide_eq_false hne]
      unfold B4 tP jH
      have hsz:=eC s
      have hlen:(bl s).length=(fZ qs).length+t.length+1:=by rw [hb];simp;omega
      have e1:IntKind.i64.wrap ((s.size:Int) - 1)=(((bl s).length - 1:Nat):Int):=by rw [hsz,w64 (by omega) (by omega)];omega
      rw [e1,Xj s (fZ qs) t hb (Ec ht) (by omega) _ _ (by omega) (by omega) (by omega)]
      simp only [bS,Bool.false_eq_true,if_false]
      have e2:IntKind.i64.wrap (((fZ qs).length:Int)+1)=(((fZ qs).length+1:Nat):Int):=by rw [w64 (by omega) (by omega)];omega
      rw [e2,dK (by omega),dK (by omega)]
      rw [iN (by simp)]
      congr 1
      have e3:(s.extract 0 (max ((fZ qs).length:Int) 1).toNat)=mk (pT (qs ++ [t]).dropLast):=by
        apply I4
        rw [yK,lG,hb,List.drop_zero,List.dropLast_concat]
        unfold pT
        cases qs with
        | nil=>rfl
        | cons q qs=>
          rw [iN (by simp)]
          have:(max ((fZ (q::qs)).length:Int) 1).toNat=(fZ (q::qs)).length:=by
            have:1 <= (fZ (q::qs)).length:=by simp [fZ]
            omega
          rw [this,List.take_left]
      have e4:(s.extract (((fZ qs).length+1:Nat):Int).toNat s.size)=mk ((qs ++ [t]).getLast?.getD []):=by
        apply I4
        rw [yK,lG,hsz,List.take_length,hb,Int.toNat_natCast,show fZ qs ++ 47::t=(fZ qs ++ [47]) ++ t from by simp,show (fZ qs).length+1=(fZ qs ++ [47]).length from by simp,List.drop_left]
        simp
      rw [e3,e4]
theorem Bz(s:BY):tK s=some (os2 (pU (bl s))):=by
  unfold tK pU
  rw [BL]
  cases parts (bl s) with
  | none=>rfl
  | some ps=>
    simp only [bS]
    by_cases h:ps= []
    · rw [iP h,iP h];rfl
    · rw [iN h,iN h];rfl
theorem Qk(s:BY):zP s=some (mk (A7 (bl s))):=by
  unfold zP A7
  rw [BL]
  cases parts (bl s) with
  | none=>rfl
  | some ps=>
    simp only [bS]
    by_cases h:ps= []
    · rw [iP h,h];rfl
    · rw [iN h]
def R2(p s:List UInt8):Option (List UInt8):=match parts p with
  | some ps=>if gO s=true/\ps.length < 6 then some (pT (ps ++ [s])) else none
  | none=>none
theorem IJ(s:BY)(x:List UInt8)(c:UInt8)(hc:c ≠ 47)(hs:bl s=x ++ [c])(hl:(bl s).length <= 1000):iI s (ByteArray.mk #[47])=some s:=by
  unfold iI lY mQ
  have e0:((ByteArray.mk #[47]).size:Int)=1:=rfl
  have hsz:=eC s
  have hlen:(bl s).length=x.length+1:=by rw [hs];simp
  have e1:IntKind.i64.wrap ((s.size:Int) - 1)=((x.length:Nat):Int):=by rw [w64 (by omega) (by omega)];omega
  rw [e0,e1,iP (by simp only [decide_eq_true_eq];omega),dK (by omega)]
  simp only [bS,Int.toNat_natCast]
  rw [qG,yK,hsz,List.take_length,hs,List.drop_left,Mq,iN (by simp;exact hc)]
  rfl
theorem BM(s:BY)(hs:bl s= [47]):iI s (ByteArray.mk #[47])=some (mk []):=by
  have:s=mk [47]:=by apply I4;rw [hs,lG]
  subst this
  show iI (mk [47]) (ByteArray.mk #[47])=some (mk [])
  kernel_rfl
theorem Qz{s:BY}{ps:List (List UInt8)}(hp:parts (bl s)=some ps):∃ t,iI s (ByteArray.mk #[47])=some t/\bl t=fZ ps:=by
  obtain ⟨h0,h1,h2⟩:=(kY _ ps).1 hp
  rcases List.eq_nil_or_concat ps with rfl | ⟨qs,t,rfl⟩
  · exact ⟨_,BM s h0,rfl⟩
  · rw [List.concat_eq_append] at *
    have ht:gO t=true:=by simp at h1;exact h1.2
    rcases List.eq_nil_or_concat t with rfl | ⟨u,c,rfl⟩
    · exact absurd rfl (Ao ht)
    · rw [List.concat_eq_append] at *
      have hb:bl s=(fZ qs ++ 47::u) ++ [c]:=by rw [h0];unfold pT;rw [iN (by simp),V5];simp [fZ]
      refine ⟨s,IJ s _ c ?_ hb (by have:=O7 hp;omega),?_⟩
      · intro e
        exact Ec ht (by simp [e])
      · rw [h0];unfold pT;rw [iN (by simp)]
theorem Ql(p s:BY)(hs:(bl s).length <= 100000000):D2 p s=some (os2 (R2 (bl p) (bl s))):=by
  unfold D2 xU R2
  rw [Mu]
  simp only [bS]
  unfold spl
  cases hp:parts (bl p) with
  | none=>simp only [Bool.not_false,if_true];rfl
  | some ps=>
    obtain ⟨t,ht,hb⟩:=Qz hp
    have hl:=O7 hp
    have h6:=((kY _ _).1 hp).2.2
    simp only [Bool.not_true,Bool.false_eq_true,if_false]
    rw [Jm]
    simp only [bS]
    cases hs':gO (bl s) with
    | false=>rw [iP (by simp),iP trivial,iN (by simp)];rfl
    | true=>
      simp only [Bool.not_true,Bool.false_eq_true,if_false]
      by_cases h:ps.length=6
      · rw [iP (by simp;omega),iN (by omega)];rfl
      · rw [iN (by simp;omega),iP (by refine ⟨trivial,?_⟩;omega),ht]
        have hcl:(fZ ps).length <= 1000:=by
          have:=((kY _ _).1 hp).1
          unfold pT at this
          split at this
          · rename_i e;subst e;simp [fZ]
          · rw [← this];omega
        have z1:t.size=(fZ ps).length:=by rw [eC,hb]
        have z2:(ByteArray.mk #[47]).size=1:=rfl
        have z3:(t ++ ByteArray.mk #[47]).size=(fZ ps).length+1:=by rw [eC,Ip,hb,Mq];simp
        have z4:=eC s
        simp only [bS]
        rw [dK (by omega),dK (by omega)]
        show some (_,true)=some (mk _,true)
        congr 2
        apply I4
        rw [Ip,Ip,hb,Mq,lG]
        unfold pT
        rw [iN (by simp),V5]
        simp [fZ]
def w8(n:Nat):List UInt8:=[UInt8.ofNat (48+n / 1000 % 10),UInt8.ofNat (48+n / 100 % 10),UInt8.ofNat (48+n / 10 % 10),UInt8.ofNat (48+n % 10)]
theorem EK(n:Nat)(h:n <= 9999):Lib.itoa (10000+(n:Int))=49::w8 n:=by
  unfold Lib.itoa
  rw [iN (by omega),show (10000+(n:Int)).toNat=10000+n from by omega]
  have st:∀ u:Nat,¬ u < 10->Lib.decDigits u=Lib.decDigits (u / 10) ++ [UInt8.ofNat (48+u % 10)]:=λ u hu=>by rw [Lib.decDigits,dif_neg hu]
  rw [st _ (by omega),st _ (by omega),st _ (by omega),st _ (by omega),Lib.decDigits,dif_pos (by omega)]
  have d1:(10000+n) / 10 / 10 / 10 / 10=1:=by omega
  have d2:(10000+n) / 10 / 10 / 10 % 10=n / 1000 % 10:=by omega
  have d3:(10000+n) / 10 / 10 % 10=n / 100 % 10:=by omega
  have d4:(10000+n) / 10 % 10=n / 10 % 10:=by omega
  have d5:(10000+n) % 10=n % 10:=by omega
  rw [d1,d2,d3,d4,d5]
  rfl
def Mv(s:List UInt8)(n:Int):Option (List UInt8):=if 0 <= n/\n <= 9999/\gO (s ++ w8 n.toNat)=true then some (s ++ w8 n.toNat) else none
theorem Wo(s:BY)(n:Int)(hs:(bl s).length <= 100000000):zD s n=some (os2 (Mv (bl s) n)):=by
  unfold zD vN Mv
  by_cases h0:n < 0
  · rw [iP (by simpa using h0),iP rfl,iN (by omega)];rfl
  · rw [iN (by simpa using h0)]
    by_cases h1:n > 9999
    · rw [iP (by simpa using h1),iN (by omega)];rfl
    · rw [iN (by simpa using h1)]
      obtain ⟨m,rfl⟩:∃ m:Nat,n=(m:Int):=⟨n.toNat,by omega⟩
      have e1:IntKind.i64.wrap (10000+(m:Int))=10000+(m:Int):=w64 (by omega) (by omega)
      have e2:ByteArray.mk (Lib.itoa (10000+(m:Int))).toArray=mk (49::w8 m):=by rw [EK m (by omega)];rfl
      rw [e1,dK (by omega),e2]
      have z1:(mk (49::w8 m)).size=5:=rfl
      rw [z1,dK (by decide)]
      have e3:bl ((mk (49::w8 m)).extract (1:Int).toNat 5)=w8 m:=by rw [yK,lG];rfl
      have z2:((mk (49::w8 m)).extract (1:Int).toNat 5).size=4:=by rw [eC,e3];rfl
      have z3:=eC s
      rw [z2,dK (by omega),Jm,Ip,e3]
      simp only [bS,Int.toNat_natCast]
      have e4:s ++ (mk (49::w8 m)).extract (1:Int).toNat 5=mk (bl s ++ w8 m):=by apply I4;rw [Ip,e3,lG]
      cases hp:gO (bl s ++ w8 m) with
      | false=>rw [iP (by rfl),iN (by simp)];rfl
      | true=>rw [iN (by simp),iP ⟨by omega,by omega,rfl⟩,e4];rfl
theorem BN{l:List UInt8}(h:gO l=true):l.length <= 12:=by simp [gO] at h;exact h.1.2
def inS(p q:List UInt8):Bool:=match parts p,parts q with
  | some l,some k=>k.isPrefixOf l
  | _,_=>false
abbrev Nd:=aH
def key(x:Nd):List UInt8:=bl x.Path
theorem O8(a:List UInt8):¬ a < a:=List.lt_irrefl a
theorem zT{a b c:List UInt8}(h:a < b)(k:b < c):a < c:=List.lt_trans h k
theorem MX(a b:List UInt8):a < b∨a=b∨b < a:=by
  rcases Decidable.em (a < b) with h | h
  · exact .inl h
  · rcases Decidable.em (b < a) with k | k
    · exact .inr (.inr k)
    · exact .inr (.inl (List.le_antisymm (List.not_lt.1 k) (List.not_lt.1 h)))
theorem Mw{a b:List UInt8}(h:a < b):¬ b < a:=λ k=>O8 _ (zT h k)
theorem wT{a b:List UInt8}(h:a < b):a ≠ b:=λ e=>O8 b (e ▸ h)
theorem Uy(a:List UInt8){b c:List UInt8}(h:b < c):a ++ b < a ++ c:=by
  induction a with
  | nil=>exact h
  | cons x a ih=>exact List.Lex.cons ih
theorem BO(a:List UInt8){b:List UInt8}(h:b ≠ []):a < a ++ b:=by
  have:=Uy a (b:=[]) (c:=b) (by cases b with | nil=>exact absurd rfl h | cons x b=>exact List.Lex.nil)
  simpa using this
theorem Oz(s t:BY):Extern.BytealgCompare.cmp s t=if bl s < bl t then -1 else if bl s=bl t then 0 else 1:=by
  have hs:=eC s
  have ht:=eC t
  have hat:∀ (u:BY) (i:Nat) (hi:i < (bl u).length),u[i]! =(bl u)[i]:=λ u i hi=>by
    rw [getElem!_pos u i (by rw [eC];exact hi)];rfl
  unfold Extern.BytealgCompare.cmp
  cases hf:(List.range (min s.size t.size)).find? (λ i=>s[i]! != t[i]!) with
  | some i=>
    rw [List.find?_range_eq_some] at hf
    obtain ⟨h1,h2,h3⟩:=hf
    rw [List.mem_range] at h2
    have hi1:i < (bl s).length:=by omega
    have hi2:i < (bl t).length:=by omega
    rw [hat s i hi1,hat t i hi2] at h1
    have hne:(bl s)[i] ≠ (bl t)[i]:=by simpa using h1
    have hpre:(bl s).take i=(bl t).take i:=by
      apply List.ext_getElem?
      intro j
      rw [List.getElem?_take,List.getElem?_take]
      by_cases hj:j < i
      · rw [iP hj,iP hj]
        have:=h3 j hj
        rw [hat s j (by omega),hat t j (by omega)] at this
        have:(bl s)[j]=(bl t)[j]:=by simpa using this
        rw [List.getElem?_eq_getElem (by omega),List.getElem?_eq_getElem (by omega),this]
      · rw [iN hj,iN hj]
    have es:bl s=(bl s).take i ++ (bl s)[i]::(bl s).drop (i+1):=by rw [← List.drop_eq_getElem_cons hi1,List.take_append_drop]
    have et:bl t=(bl s).take i ++ (bl t)[i]::(bl t).drop (i+1):=by rw [hpre,← List.drop_eq_getElem_cons hi2,List.take_append_drop]
    have heq:bl s ≠ bl t:=λ e=>hne (by simp only [e])
    simp only
    rw [hat s i hi1,hat t i hi2]
    rcases UInt8.lt_or_lt_of_ne hne with h | h
    · have:bl s < bl t:=by
        rw [es,et];exact Uy _ (List.Lex.rel h)
      rw [iP h,iP this]
    · have:bl t < bl s:=by
        rw [es,et];exact Uy _ (List.Lex.rel h)
      rw [iN (λ h'=>absurd (UInt8.lt_trans h h') (UInt8.lt_irrefl _)),iN (Mw this),iN heq]
  | none=>
    rw [List.find?_eq_none] at hf
    have hall:∀ j,j < (bl s).length->j < (bl t).length->(bl s)[j]? =(bl t)[j]? :=λ j h1 h2=>by
      have:=hf j (List.mem_range.2 (by omega))
      rw [hat s j h1,hat t j h2] at this
      have:(bl s)[j]=(bl t)[j]:=by simpa using this
      rw [List.getElem?_eq_getElem h1,List.getElem?_eq_getElem h2,this]
    simp only
    rw [hs,ht]
    by_cases h1:(bl s).length < (bl t).length
    · have e:bl t=bl s ++ (bl t).drop (bl s).length:=by
        conv=>lhs;rw [← List.take_append_drop (bl s).length (bl t)]
        congr 1
        apply List.ext_getElem?
        intro j
        rw [List.getElem?_take]
        by_cases hj:j < (bl s).length
        · rw [iP hj,hall j hj (by omega)]
        · rw [iN hj,List.getElem?_eq_none (by omega)]
      have:bl s < bl t:=by
        rw [e];exact BO _ (by intro h;have:=congrArg List.length h;simp at this;omega)
      rw [iP h1,iP this]
    · rw [iN h1]
      by_cases h2:(bl s).length > (bl t).length
      · have e:bl s=bl t ++ (bl s).drop (bl t).length:=by
          conv=>lhs;rw [← List.take_append_drop (bl t).length (bl s)]
          congr 1
          apply List.ext_getElem?
          intro j
          rw [List.getElem?_take]
          by_cases hj:j < (bl t).length
          · rw [iP hj,hall j (by omega) hj]
          · rw [iN hj,List.getElem?_eq_none (by omega)]
        have:bl t < bl s:=by
          rw [e];exact BO _ (by intro h;have:=congrArg List.length h;simp at this;omega)
        rw [iP h2,iN (Mw this),iN (λ e=>O8 _ (e ▸ this))]
      · have e:bl s=bl t:=by
          apply List.ext_getElem?
          intro j
          by_cases hj:j < (bl s).length
          · exact hall j hj (by omega)
          · rw [List.getElem?_eq_none (by omega),List.getElem?_eq_none (by omega)]
        rw [iN h2,e,iN (O8 _),iP rfl]
theorem EM(n:Nat)(h:n < 2 ^ 40):IntKind.i64.wrap (tM .u64 (IntKind.u64.wrap (IntKind.i64.wrap (n:Int))) 1)=((n / 2:Nat):Int):=by
  rw [w64 (n:=(n:Int)) (by omega) (by omega),show IntKind.u64.wrap (n:Int)=(n:Int) from by unfold IntKind.wrap;simp [IntKind.bits,IntKind.signed];omega]
  unfold tM
  rw [show IntKind.u64.bits=64 from rfl,show min (1:Int).toNat 64=1 from rfl,Int.fdiv_eq_ediv_of_nonneg _ (by decide)]
  rw [w64 (by omega) (by omega)]
  omega
def zNd:Nd:=⟨mk [],mk [],0,0,0⟩
def isK(p:List UInt8)(x:Nd):Bool:=decide (key x=p)
theorem QF{α:Type}(o:Option α):o=none∨∃ x,o=some x:=by cases o with | none=>exact .inl rfl | some x=>exact .inr ⟨x,rfl⟩
def MY(x:Nd):Prop:=(bl x.Data).length <= 256/\0 <= x.Version/\x.Version <= 281474976710656/\0 <= x.Turn/\x.Turn <= 10000/\0 <= x.Owner/\x.Owner <= 1099511627776/\(x.Owner ≠ 0->x.Turn=0)
structure QJ (l:List Nd):Prop where
  root:∃ r t,l=r::t/\key r= [47]/\r.Owner=0
  len:l.length <= 512
  ok:∀ x ∈ l,MY x
  sorted:l.Pairwise (key · < key ·)
  up:∀ x ∈ l,key x ≠ [47]->∃ q,pU (key x)=some q/\∃ u ∈ l,key u=q/\u.Owner=0
def Sm(l:List Nd):Prop:=∀ x ∈ l,(key x).length <= 100000000
theorem Zb{l:List Nd}(h:l.Pairwise (key · < key ·)){x y:Nd}(hx:x ∈ l)(hy:y ∈ l)(e:key x=key y):x=y:=by
  obtain ⟨i,hi,rfl⟩:=List.mem_iff_getElem.1 hx
  obtain ⟨j,hj,rfl⟩:=List.mem_iff_getElem.1 hy
  have h:=List.pairwise_iff_getElem.1 h
  rcases Nat.lt_trichotomy i j with c | c | c
  · exact absurd e (wT (h i j hi hj c))
  · subst c;rfl
  · exact absurd e.symm (wT (h j i hj hi c))
theorem EN{l:List Nd}{p:List UInt8}{x:Nd}(h:l.find? (isK p)=some x):x ∈ l/\key x=p:=
  ⟨List.mem_of_find?_eq_some h,by have:=List.find?_some h;simpa [isK] using this⟩
theorem EO{l:List Nd}(h:l.Pairwise (key · < key ·)){x:Nd}(hx:x ∈ l):l.find? (isK (key x))=some x:=by
  cases hf:l.find? (isK (key x)) with
  | none=>
    have:=List.find?_eq_none.1 hf x hx
    simp [isK] at this
  | some y=>
    have:=EN hf
    rw [Zb h this.1 hx this.2]
theorem QQ{l:List Nd}{p:List UInt8}:l.find? (isK p)=none ↔ ∀ x ∈ l,key x ≠ p:=by
  rw [List.find?_eq_none];simp [isK]
theorem Ir{p q:List UInt8}(h:pU p=some q):∃ ps t,parts p=some (ps ++ [t])/\q=pT ps/\parts q=some ps:=by
  unfold pU at h
  cases hp:parts p with
  | none=>rw [hp] at h;cases h
  | some ps=>
    rw [hp] at h
    simp only at h
    split at h
    · cases h
    · rename_i hne
      cases h
      obtain ⟨h0,h1,h2⟩:=(kY _ ps).1 hp
      rcases List.eq_nil_or_concat ps with e | ⟨qs,t,rfl⟩
      · exact absurd e hne
      · rw [List.concat_eq_append] at *
        refine ⟨qs,t,rfl,by rw [List.dropLast_concat],?_⟩
        rw [List.dropLast_concat]
        exact (kY _ _).2 ⟨rfl,by simp at h1 ⊢;exact h1.1,by simp at h2;omega⟩
theorem QJ.sm {l:List Nd} (T:QJ l):Sm l:=λ x hx=>by
  by_cases h:key x= [47]
  · rw [h];decide
  · obtain ⟨q,hq,_⟩:=T.up x hx h
    obtain ⟨ps,t,h1,_⟩:=Ir hq
    have:=O7 h1;omega
abbrev Op1:=fC
def eJ(p:List UInt8):Bool:=(parts p).isSome
abbrev Res:=eG
def res(e:Int):Res:=⟨e,mk [],mk [],0,[]⟩
def w9(p:List UInt8)(x:Nd):Bool:=decide (pU (key x)=some p)
theorem Uz{l:List Nd}(h:l.Pairwise (key · < key ·)){i:Nat}(hi:i < l.length):l.eraseIdx i=l.filter (λ y=>!isK (key l[i]) y):=by
  have hs:=List.pairwise_iff_getElem.1 h
  have e:l=l.take i ++ l[i]::l.drop (i+1):=by rw [← List.drop_eq_getElem_cons hi,List.take_append_drop]
  rw [List.eraseIdx_eq_take_drop_succ]
  obtain ⟨p,hp⟩:∃ p,p=key l[i]:=⟨_,rfl⟩
  rw [← hp]
  have e2:l.filter (λ y=>!isK p y)=(l.take i ++ l[i]::l.drop (i+1)).filter (λ y=>!isK p y):=by rw [← e]
  rw [e2,List.filter_append,List.filter_cons,iN (by simp [isK,hp])]
  congr 1
  · refine (List.filter_eq_self.2 λ y hy=>?_).symm
    obtain ⟨j,hj,rfl⟩:=List.mem_take_iff_getElem.1 hy
    have:=wT (hs j i (by omega) hi (by omega))
    simpa [isK,hp] using this
  · refine (List.filter_eq_self.2 λ y hy=>?_).symm
    obtain ⟨j,hj,rfl⟩:=List.mem_drop_iff_getElem.1 hy
    have:=wT (hs i (i+1+j) hi (by omega) (by omega))
    simpa [isK,hp] using this.symm
def upd(l:List Nd)(p:List UInt8)(f:Nd->Nd):List Nd:=l.map λ z=>if isK p z then f z else z
theorem IK{l:List Nd}(h:l.Pairwise (key · < key ·)){i:Nat}(hi:i < l.length)(f:Nd->Nd):l.set i (f l[i])=upd l (key l[i]) f:=by
  have hs:=List.pairwise_iff_getElem.1 h
  unfold upd
  apply List.ext_getElem (by simp)
  intro j h1 h2
  simp at h1
  rw [List.getElem_map,List.getElem_set]
  by_cases e:i=j
  · subst e;rw [iP rfl,iP (by simp [isK])]
  · rw [iN e,iN]
    rw [isK]
    simp only [decide_eq_true_eq]
    rcases Nat.lt_or_gt_of_ne e with c | c
    · exact (wT (hs i j hi h1 c)).symm
    · exact wT (hs j i h1 hi c)
def M7(x:Nd):BY:=mk (A7 (key x))
def yL(p:List UInt8)(w:Int)(x:Nd):Bool:=(x.Owner == w) && w9 p x
theorem Fg{l:List Nd}{f:Nd->Bool}{i:Nat}(hi:i < l.length):(l.take (i+1)).filter f=(l.take i).filter f ++ if f l[i]=true then [l[i]] else []:=by
  rw [List.take_add_one,List.getElem?_eq_getElem hi,List.filter_append]
  congr 1
  simp [List.filter_cons]
def ltB(p:List UInt8)(y:Nd):Bool:=decide (key y < p)
def Z9(x:Nd)(l:List Nd):List Nd:=l.filter (ltB (key x)) ++ x::l.filter (λ y=>!ltB (key x) y)
theorem IL(l:List Nd)(p:List UInt8)(f:Nd->Nd):(upd l p f).length=l.length:=by simp [upd]
theorem Xk{p:List UInt8}{f:Nd->Nd}(hf:∀ z,key (f z)=key z)(z:Nd):key (if isK p z then f z else z)=key z:=by split <;> simp [hf]
def W8(o:Op1)(q:List UInt8)(t:Int):Option (List UInt8):=if o.Turns=true then (Mv (A7 (bl o.Path)) t).map (λ s=>(R2 q s).getD []) else some (bl o.Path)
theorem Xl{s:List UInt8}{n:Int}{t:List UInt8}(h:Mv s n=some t):gO t=true/\t=s ++ w8 n.toNat/\0 <= n/\n <= 9999:=by
  unfold Mv at h
  split at h
  · rename_i h1
    cases h
    exact ⟨h1.2.2,rfl,h1.1,h1.2.1⟩
  · cases h
theorem Va(p:List UInt8):(A7 p).length <= 12:=by
  unfold A7
  cases hp:parts p with
  | none=>simp
  | some ps=>
    obtain ⟨h0,h1,h2⟩:=(kY _ ps).1 hp
    rcases List.eq_nil_or_concat ps with rfl | ⟨qs,t,rfl⟩
    · simp
    · rw [List.concat_eq_append] at *
      have ht:gO t=true:=by simp at h1;exact h1.2
      simpa using BN ht
theorem QR{x y:Nd}{l:List Nd}:y ∈ Z9 x l ↔ y=x∨y ∈ l:=by
  unfold Z9
  rw [List.mem_append,List.mem_cons,List.mem_filter,List.mem_filter]
  constructor
  · rintro (h | h | h)
    · exact .inr h.1
    · exact .inl h
    · exact .inr h.1
  · rintro (h | h)
    · exact .inr (.inl h)
    · cases hc:ltB (key x) y with
      | true=>exact .inl ⟨h,rfl⟩
      | false=>exact .inr (.inr ⟨h,rfl⟩)
theorem BP{α:Type}(l:List α)(f:α->Bool):(l.filter f).length+(l.filter (λ y=>!f y)).length=l.length:=by
  induction l with
  | nil=>rfl
  | cons x l ih=>
    rw [List.filter_cons,List.filter_cons]
    cases f x <;> simp <;> omega
theorem IM(x:Nd)(l:List Nd):(Z9 x l).length=l.length+1:=by
  unfold Z9
  have:=BP l (ltB (key x))
  rw [List.length_append,List.length_cons];omega
theorem QS{l:List Nd}{p:List UInt8}{f:Nd->Nd}{y:Nd}:y ∈ upd l p f ↔ ∃ z ∈ l,y=if isK p z then f z else z:=by
  unfold upd
  rw [List.mem_map]
  exact ⟨λ ⟨z,h1,h2⟩=>⟨z,h1,h2.symm⟩,λ ⟨z,h1,h2⟩=>⟨z,h1,h2.symm⟩⟩
theorem Jo{p q:List UInt8}(h:pU p=some q):∃ ps t,parts p=some (ps ++ [t])/\q=pT ps/\parts q=some ps/\A7 p=t/\gO t=true/\ps.all gO=true/\ps.length <= 5:=by
  obtain ⟨ps,t,h1,h2,h3⟩:=Ir h
  obtain ⟨_,h5,h6⟩:=(kY _ _).1 h1
  refine ⟨ps,t,h1,h2,h3,?_,?_,?_,?_⟩
  · unfold A7;rw [h1];simp
  · simp at h5;exact h5.2
  · simp at h5 ⊢;exact h5.1
  · simp at h6;omega
theorem Wp{q:List UInt8}{ps:List (List UInt8)}(hq:parts q=some ps)(h5:ps.length <= 5){t:List UInt8}(ht:gO t=true):R2 q t=some (pT (ps ++ [t]))/\pU (pT (ps ++ [t]))=some q/\A7 (pT (ps ++ [t]))=t/\parts (pT (ps ++ [t]))=some (ps ++ [t]):=by
  obtain ⟨h1,h2,h3⟩:=(kY _ _).1 hq
  have hp:parts (pT (ps ++ [t]))=some (ps ++ [t]):=(kY _ _).2 ⟨rfl,by simp at h2 ⊢;exact ⟨h2,ht⟩,by simp;omega⟩
  refine ⟨?_,?_,?_,hp⟩
  · unfold R2;rw [hq];simp only;rw [iP ⟨ht,by omega⟩]
  · unfold pU;rw [hp];simp only;rw [iN (by simp),List.dropLast_concat,h1]
  · unfold A7;rw [hp];simp
/-- the path of what is created lies in the parent. -/
theorem Wq{o:Op1}{q p:List UInt8}(hq:pU (bl o.Path)=some q){t:Int}(hn:W8 o q t=some p):pU p=some q/\(o.Turns=true->0 <= t/\t <= 9999/\∃ ps,parts q=some ps/\p=pT (ps ++ [A7 (bl o.Path) ++ w8 t.toNat])):=by
  unfold W8 at hn
  cases hT:o.Turns with
  | false=>
    rw [hT] at hn
    simp only [Bool.false_eq_true,if_false,Option.some.injEq] at hn
    subst hn
    exact ⟨hq,λ h=>by cases h⟩
  | true=>
    rw [hT] at hn
    simp only [if_true] at hn
    obtain ⟨s,hs,rfl⟩:=Option.map_eq_some_iff.1 hn
    obtain ⟨h1,h2,h3,h4⟩:=Xl hs
    obtain ⟨ps,t',_,_,h5,_,_,_,h6⟩:=Jo hq
    obtain ⟨j1,j2,_,_⟩:=Wp h5 h6 h1
    rw [j1]
    exact ⟨j2,λ _=>⟨h3,h4,ps,h5,by rw [h2];rfl⟩⟩
theorem gL{i:Nat}(h:i <= 4611686018427387904):IntKind.i64.wrap ((i:Int)+1)=((i+1:Nat):Int):=by rw [w64 (by omega) (by omega)];omega
theorem Zc{l:List Nd}(hs:l.Pairwise (key · < key ·))(p:List UInt8){f:Nd->Nd}(hf:∀ z,key (f z)=key z):(upd l p f).Pairwise (key · < key ·):=by
  unfold upd
  rw [List.pairwise_map]
  exact hs.imp λ {a b} h=>by rw [Xk hf,Xk hf];exact h
theorem Qm(s:BY)(hp:(bl s).length <= 100000000):gQ s=some (eJ (bl s)):=by
  unfold gQ
  rw [BK s hp]
  simp only [bS]
  unfold spl eJ
  cases parts (bl s) <;> rfl
theorem EP(s:BY):sEq s (ByteArray.mk #[47])=decide (bl s= [47]):=qG _ _
theorem Fh(l:List Nd)(k:Nat)(n i:Int)(hn:5000 <= n):gT l (k+1) n i=some true:=by
  unfold gT nE
  rw [show decide (n ≥ 5000)=true from by simpa using hn,show decide (n < 5000)=false from by simp;omega]
  simp
theorem Vb(l:List Nd)(hlen:l.length <= 1666):∀ (k i:Nat) (n:Int),0 <= n->n <= 20000->i <= l.length->l.length+2 <= i+k->∃ b,gT l k n (i:Int)=some b/\(b=false->∀ j (h:j < l.length),i <= j->(key l[j]).length < 5000)
  | 0,i,n,_,_,_,h=>by omega
  | k+1,i,n,h0,h1,hi0,h=>by
    by_cases hn:n < 5000
    · by_cases hi:i < l.length
      · unfold gT
        rw [iP (by simpa using hi),iP (by simpa using hn),bT hi]
        simp only [bS]
        have e1:IntKind.i64.wrap ((i:Int)+1)=((i+1:Nat):Int):=by rw [w64 (by omega) (by omega)];omega
        have z1:=eC (l[i]).Path
        rw [e1,w64 (n:=n+_) (by omega) (by omega),w64 (by omega) (by omega)]
        by_cases hp:(key l[i]).length < 5000
        · obtain ⟨b,h2,h3⟩:=Vb l hlen k (i+1) (n+(min ((l[i]).Path.size:Int) 5000)+(min ((l[i]).Data.size:Int) 5000)) (by omega) (by omega) (by omega) (by omega)
          refine ⟨b,h2,λ hb j hj hij=>?_⟩
          by_cases e:i=j
          · subst e;exact hp
          · exact h3 hb j hj (by omega)
        · cases k with
          | zero=>omega
          | succ k=>
            have hp:5000 <= (bl (l[i]).Path).length:=by unfold key at hp;omega
            rw [Fh l k _ _ (by omega)]
            exact ⟨true,rfl,λ h=>by cases h⟩
      · unfold gT nE
        rw [iN (by simpa using hi)]
        exact ⟨_,rfl,λ _ j hj hij=>by omega⟩
    · rw [Fh l k _ _ (by omega)]
      exact ⟨true,rfl,λ h=>by cases h⟩
theorem EQ(l:List Nd)(hlen:l.length <= 140737488351232):∃ b,tY l=some b/\(b=false->l.length <= 1666/\Sm l):=by
  unfold tY
  have e:IntKind.i64.wrap (3 * (l.length:Int))=3 * (l.length:Int):=w64 (by omega) (by omega)
  rw [e]
  by_cases h:l.length <= 1666
  · obtain ⟨b,h1,h2⟩:=Vb l h 5002 0 (3 * (l.length:Int)) (by omega) (by omega) (by omega) (by omega)
    refine ⟨b,h1,λ hb=>⟨h,λ x hx=>?_⟩⟩
    obtain ⟨j,hj,rfl⟩:=List.mem_iff_getElem.1 hx
    have:=h2 hb j hj (by omega)
    omega
  · rw [Fh l 5001 _ _ (by omega)]
    exact ⟨true,rfl,λ h=>by cases h⟩
abbrev Pie:=cR
abbrev Tn:=aL
abbrev Sto:=aR
abbrev Pt1:=bF
def cI(t:Tn):List UInt8:=bl t.Dir
theorem Pa{a b:List UInt8}(h:¬ a < b)(k:a ≠ b):b < a:=by
  rcases MX a b with h' | h' | h'
  · exact absurd h' h
  · exact absurd h' k
  · exact h'
section
variable {α:Type} (κ:α->List UInt8)
def gLt(p:List UInt8)(x:α):Bool:=decide (κ x < p)
def gEq(p:List UInt8)(x:α):Bool:=decide (κ x=p)
def gGt(p:List UInt8)(x:α):Bool:=!gLt κ p x && !gEq κ p x
theorem Vc(l:List α)(p:List UInt8)(i:Nat)(hs:l.Pairwise (κ · < κ ·))(h1:i <= l.length)(h3:∀ j (h:j < l.length),j < i->κ l[j] < p)(h4:∀ j (h:j < l.length),i <= j->¬ κ l[j] < p) :
    l.take i=l.filter (gLt κ p)/\((∃ x,l.drop i=x::l.filter (gGt κ p)/\κ x=p/\l.find? (gEq κ p)=some x/\l[i]? =some x/\x ∈ l)∨(l.drop i=l.filter (gGt κ p)/\l.find? (gEq κ p)=none/\l[i]?.map κ ≠ some p)):=by
  have hp:=List.pairwise_iff_getElem.1 hs
  have e:∀ g:α->Bool,l.filter g=(l.take i).filter g ++ (l.drop i).filter g:=λ g=>by rw [← List.filter_append,List.take_append_drop]
  have ht:∀ y ∈ l.take i,κ y < p:=λ y hy=>by
    obtain ⟨m,hm,rfl⟩:=List.mem_take_iff_getElem.1 hy
    exact h3 m (by omega) (by omega)
  have hd:∀ y ∈ l.drop i,¬ κ y < p:=λ y hy=>by
    obtain ⟨m,hm,rfl⟩:=List.mem_drop_iff_getElem.1 hy
    exact h4 _ (by omega) (by omega)
  have t1:(l.take i).filter (gLt κ p)=l.take i:=List.filter_eq_self.2 λ y hy=>by simpa [gLt] using ht y hy
  have t2:(l.drop i).filter (gLt κ p)= []:=List.filter_eq_nil_iff.2 λ y hy=>by simpa [gLt] using hd y hy
  have t3:(l.take i).filter (gGt κ p)= []:=List.filter_eq_nil_iff.2 λ y hy=>by simp [gGt,gLt,ht y hy]
  refine ⟨by rw [e,t1,t2,List.append_nil],?_⟩
  rw [e (gGt κ p),t3,List.nil_append]
  by_cases hi:i < l.length
  · by_cases hk:κ l[i]=p
    · refine .inl ⟨l[i],?_,hk,?_,List.getElem?_eq_getElem hi,List.getElem_mem hi⟩
      · rw [List.drop_eq_getElem_cons hi,List.filter_cons,iN (by simp [gGt,gEq,hk])]
        congr 1
        refine (List.filter_eq_self.2 λ y hy=>?_).symm
        obtain ⟨m,hm,rfl⟩:=List.mem_drop_iff_getElem.1 hy
        have:=hp i (i+1+m) hi (by omega) (by omega)
        rw [hk] at this
        simp [gGt,gLt,gEq,Mw this,(wT this).symm]
      · rw [List.find?_eq_some_iff_append]
        refine ⟨by simpa [gEq] using hk,l.take i,l.drop (i+1),?_,λ y hy=>by simpa [gEq] using wT (ht y hy)⟩
        rw [← List.drop_eq_getElem_cons hi,List.take_append_drop]
    · have hne:∀ y ∈ l.drop i,κ y ≠ p:=λ y hy=>by
        obtain ⟨m,hm,rfl⟩:=List.mem_drop_iff_getElem.1 hy
        rcases Nat.eq_zero_or_pos m with rfl | hm0
        · simpa using hk
        · have h5:=Pa (h4 i hi (Nat.le_refl _)) hk
          exact (wT (zT h5 (hp i (i+m) hi (by omega) (by omega)))).symm
      refine .inr ⟨?_,?_,by rw [List.getElem?_eq_getElem hi];simpa using hk⟩
      · exact (List.filter_eq_self.2 λ y hy=>by simp [gGt,gLt,gEq,hd y hy,hne y hy]).symm
      · rw [List.find?_eq_none]
        intro y hy
        rw [← List.take_append_drop i l] at hy
        rcases List.mem_append.1 hy with h | h
        · simpa [gEq] using wT (ht y h)
        · simpa [gEq] using hne y h
  · refine .inr ⟨?_,?_,by rw [List.getElem?_eq_none (by omega)];simp⟩
    · rw [List.drop_eq_nil_of_le (by omega)];rfl
    · rw [List.find?_eq_none]
      intro y hy
      have:l.take i=l:=List.take_of_length_le (by omega)
      rw [← this] at hy
      simpa [gEq] using wT (ht y hy)
end
theorem mZ(s:BY):gH s=some (eJ (bl s)):=by
  unfold gH
  rw [Mu]
  simp only [bS]
  unfold spl eJ
  cases parts (bl s) <;> rfl
theorem Fi(x a b:Int):wY x a b=some (decide (a <= x/\x <= b)):=by
  unfold wY
  by_cases h:x ≥ a
  · rw [iP (by simpa using h)]
    congr 1
    exact decide_eq_decide.2 ⟨λ h'=>⟨h,h'⟩,λ h'=>h'.2⟩
  · rw [iN (by simpa using h),decide_eq_false (λ h'=>h h'.1)]
def wU(p d:BY)(v least o:Int):Bool:=eJ (bl p) && decide ((bl d).length <= 256) && decide (least <= v/\v <= 281474976710656) && decide (0 <= o/\o <= 1099511627776)
theorem Rb(p d:BY)(v least o:Int):yT p d v least o=some (wU p d v least o):=by
  unfold yT wU
  rw [mZ]
  simp only [bS]
  have z:=eC d
  cases eJ (bl p) with
  | false=>rw [iN (by simp)];simp
  | true=>
    rw [iP rfl]
    by_cases h:(bl d).length <= 256
    · rw [iP (decide_eq_true (by omega)),Fi,decide_eq_true h]
      simp only [bS]
      cases decide (least <= v/\v <= 281474976710656) with
      | false=>rw [iN (by simp)];simp
      | true=>rw [iP rfl,Fi];simp
    · rw [iN (by rw [decide_eq_false (by omega)];simp),decide_eq_false h];simp
def pnB(x:Nd):Bool:=decide (x.Turn=0) && wU x.Path x.Data x.Version 0 x.Owner
def ptB(t:Tn):Bool:=eJ (cI t) && decide (1 <= t.Next/\t.Next <= 10000)
theorem BQ(x:Nd):r8 x=some (!pnB x):=by
  unfold r8 pnB
  by_cases h:x.Turn=0
  · rw [iN (by simpa using h),Rb,decide_eq_true h];simp
  · rw [iP (by simpa using h),decide_eq_false h];simp
theorem BR(t:Tn):r9 t=some (!ptB t):=by
  unfold r9 ptB
  rw [mZ,show bl t.Dir=cI t from rfl]
  simp only [bS]
  cases eJ (cI t) with
  | false=>rw [iP (by rfl)];simp
  | true=>rw [iN (by simp),Fi];simp
theorem Xm(l:List Nd)(hl:l.length <= 140737488351232):∀ (k i:Nat),i <= l.length->l.length+1 <= i+k->∃ v:Int,dX l k (i:Int)=some v/\decide (v ≥ 0)= !(l.drop i).all pnB
  | 0,i,_,h=>by omega
  | k+1,i,h0,h=>by
    unfold dX
    by_cases hi:i < l.length
    · rw [iP (by simpa using hi),bT hi,List.drop_eq_getElem_cons hi]
      simp only [bS,BQ,List.all_cons]
      cases hm:pnB l[i] with
      | false=>rw [iP (by rfl)];exact ⟨_,rfl,by simp⟩
      | true=>
        rw [iN (by simp),gL (by omega)]
        obtain ⟨v,h1,h2⟩:=Xm l hl k (i+1) (by omega) (by omega)
        exact ⟨v,h1,by rw [h2];simp⟩
    · rw [iN (by simpa using hi),List.drop_eq_nil_of_le (by omega)]
      exact ⟨-1,rfl,by simp⟩
theorem Xn(l:List Tn)(hl:l.length <= 140737488351232):∀ (k i:Nat),i <= l.length->l.length+1 <= i+k->∃ v:Int,dY l k (i:Int)=some v/\decide (v ≥ 0)= !(l.drop i).all ptB
  | 0,i,_,h=>by omega
  | k+1,i,h0,h=>by
    unfold dY
    by_cases hi:i < l.length
    · rw [iP (by simpa using hi),bT hi,List.drop_eq_getElem_cons hi]
      simp only [bS,BR,List.all_cons]
      cases hm:ptB l[i] with
      | false=>rw [iP (by rfl)];exact ⟨_,rfl,by simp⟩
      | true=>
        rw [iN (by simp),gL (by omega)]
        obtain ⟨v,h1,h2⟩:=Xn l hl k (i+1) (by omega) (by omega)
        exact ⟨v,h1,by rw [h2];simp⟩
    · rw [iN (by simpa using hi),List.drop_eq_nil_of_le (by omega)]
      exact ⟨-1,rfl,by simp⟩
theorem Da{α:Type}(κ:α->List UInt8)(l:List α):(∀ j (h:j < l.length),0 < j->κ (l[j - 1]'(by omega)) < κ l[j]) ↔ l.Pairwise (κ · < κ ·):=by
  constructor
  · intro h
    rw [List.pairwise_iff_getElem]
    intro i j hi hj hij
    induction j with
    | zero=>omega
    | succ j ih=>
      have h1:=h (j+1) hj (by omega)
      simp only [Nat.add_sub_cancel] at h1
      rcases Nat.lt_or_ge i j with c | c
      · exact zT (ih (by omega) c) h1
      · obtain rfl:i=j:=by omega
        exact h1
  · intro h j hj h0
    exact List.pairwise_iff_getElem.1 h (j - 1) j (by omega) hj (by omega)
theorem Xo(l:List Nd)(hl:l.length <= 140737488351232):∀ (k i:Nat),i <= l.length->l.length+1 <= i+k->∃ b,fR l k (i:Int)=some b/\(b=true ↔ ∀ j (h:j < l.length),i <= j->0 < j->key (l[j - 1]'(by omega)) < key l[j])
  | 0,i,_,h=>by omega
  | k+1,i,h0,h=>by
    unfold fR nV
    by_cases hi:i < l.length
    · rw [iP (by simpa using hi),gL (by omega)]
      obtain ⟨b,h1,h2⟩:=Xo l hl k (i+1) (by omega) (by omega)
      by_cases h00:i=0
      · subst h00
        rw [iN (by simp),iN (by simp),h1]
        refine ⟨b,rfl,h2.trans ⟨λ H j hj hij h0=>H j hj (by omega) h0,λ H j hj hij h0=>H j hj (by omega) h0⟩⟩
      · rw [iP (decide_eq_true (by omega)),show IntKind.i64.wrap ((i:Int) - 1)=((i - 1:Nat):Int) from by rw [w64 (by omega) (by omega)];omega,bT (show i - 1 < l.length by omega)]
        simp only [bS]
        rw [bT hi]
        simp only [bS,r6]
        rw [Z4,show bl (l[i - 1]'(by omega)).Path=key (l[i - 1]'(by omega)) from rfl,show bl (l[i]).Path=key l[i] from rfl]
        by_cases c:key (l[i - 1]'(by omega)) < key l[i]
        · rw [decide_eq_true c,iN (by simp),h1]
          refine ⟨b,rfl,h2.trans ⟨λ H j hj hij h0=>?_,λ H j hj hij h0=>H j hj (by omega) h0⟩⟩
          rcases Nat.lt_or_ge i j with d | d
          · exact H j hj (by omega) h0
          · obtain rfl:i=j:=by omega
            exact c
        · rw [decide_eq_false c,iP (by rfl)]
          exact ⟨false,rfl,λ h=>by simp at h,λ H=>absurd (H i hi (Nat.le_refl _) (by omega)) c⟩
    · rw [iN (by simpa using hi)]
      exact ⟨true,rfl,λ _ j hj hij=>by omega,λ _=>rfl⟩
theorem Vd(l:List Tn)(hl:l.length <= 140737488351232):∀ (k i:Nat),i <= l.length->l.length+1 <= i+k->∃ b,fS l k (i:Int)=some b/\(b=true ↔ ∀ j (h:j < l.length),i <= j->0 < j->cI (l[j - 1]'(by omega)) < cI l[j])
  | 0,i,_,h=>by omega
  | k+1,i,h0,h=>by
    unfold fS nW
    by_cases hi:i < l.length
    · rw [iP (by simpa using hi),gL (by omega)]
      obtain ⟨b,h1,h2⟩:=Vd l hl k (i+1) (by omega) (by omega)
      by_cases h00:i=0
      · subst h00
        rw [iN (by simp),iN (by simp),h1]
        refine ⟨b,rfl,h2.trans ⟨λ H j hj hij h0=>H j hj (by omega) h0,λ H j hj hij h0=>H j hj (by omega) h0⟩⟩
      · rw [iP (decide_eq_true (by omega)),show IntKind.i64.wrap ((i:Int) - 1)=((i - 1:Nat):Int) from by rw [w64 (by omega) (by omega)];omega,bT (show i - 1 < l.length by omega)]
        simp only [bS]
        rw [bT hi]
        simp only [bS,r7]
        rw [Z4,show bl (l[i - 1]'(by omega)).Dir=cI (l[i - 1]'(by omega)) from rfl,show bl (l[i]).Dir=cI l[i] from rfl]
        by_cases c:cI (l[i - 1]'(by omega)) < cI l[i]
        · rw [decide_eq_true c,iN (by simp),h1]
          refine ⟨b,rfl,h2.trans ⟨λ H j hj hij h0=>?_,λ H j hj hij h0=>H j hj (by omega) h0⟩⟩
          rcases Nat.lt_or_ge i j with d | d
          · exact H j hj (by omega) h0
          · obtain rfl:i=j:=by omega
            exact c
        · rw [decide_eq_false c,iP (by rfl)]
          exact ⟨false,rfl,λ h=>by simp at h,λ H=>absurd (H i hi (Nat.le_refl _) (by omega)) c⟩
    · rw [iN (by simpa using hi)]
      exact ⟨true,rfl,λ _ j hj hij=>by omega,λ _=>rfl⟩
structure eK (s:Sto):Prop where
  nodes:s.Nodes.all pnB=true
  nsort:s.Nodes.Pairwise (key · < key ·)
  turns:s.Turns.all ptB=true
  tsort:s.Turns.Pairwise (cI · < cI ·)
theorem I5(s:Sto)(hn:s.Nodes.length <= 140737488351232)(ht:s.Turns.length <= 140737488351232):∃ b,sQ s=some b/\(b=true ↔ eK s):=by
  unfold sQ iT iU kM kN vD vE
  obtain ⟨v,a1,a2⟩:=Xm s.Nodes hn (((s.Nodes.length:Int) - 0:Int).toNat+1) 0 (by omega) (by omega)
  obtain ⟨u,b1,b2⟩:=Xn s.Turns ht (((s.Turns.length:Int) - 0:Int).toNat+1) 0 (by omega) (by omega)
  obtain ⟨c,c1,c2⟩:=Xo s.Nodes hn (((s.Nodes.length:Int) - 0:Int).toNat+1) 0 (by omega) (by omega)
  obtain ⟨d,d1,d2⟩:=Vd s.Turns ht (((s.Turns.length:Int) - 0:Int).toNat+1) 0 (by omega) (by omega)
  rw [show dX s.Nodes (((s.Nodes.length:Int) - 0:Int).toNat+1) 0=some v from a1,show dY s.Turns (((s.Turns.length:Int) - 0:Int).toNat+1) 0=some u from b1,
    show fR s.Nodes (((s.Nodes.length:Int) - 0:Int).toNat+1) 0=some c from c1,show fS s.Turns (((s.Turns.length:Int) - 0:Int).toNat+1) 0=some d from d1]
  simp only [bS]
  rw [a2,b2,List.drop_zero,List.drop_zero]
  have e1:c=true ↔ s.Nodes.Pairwise (key · < key ·):=c2.trans ⟨λ H=>(Da key _).1 λ j h h0=>H j h (by omega) h0,λ H j h _ h0=>(Da key _).2 H j h h0⟩
  have e2:d=true ↔ s.Turns.Pairwise (cI · < cI ·):=d2.trans ⟨λ H=>(Da cI _).1 λ j h h0=>H j h (by omega) h0,λ H j h _ h0=>(Da cI _).2 H j h h0⟩
  cases f1:s.Nodes.all pnB with
  | false=>exact ⟨false,by simp,λ h=>by simp at h,λ H=>by rw [H.nodes] at f1;cases f1⟩
  | true=>
    cases f2:s.Turns.all ptB with
    | false=>exact ⟨false,by simp,λ h=>by simp at h,λ H=>by rw [H.turns] at f2;cases f2⟩
    | true=>
      cases c with
      | false=>exact ⟨false,by simp,λ h=>by simp at h,λ H=>e1.2 H.nsort⟩
      | true=>
        cases d with
        | false=>exact ⟨false,by simp,λ h=>by simp at h,λ H=>e2.2 H.tsort⟩
        | true=>exact ⟨true,by simp,λ _=>⟨f1,e1.1 rfl,f2,e2.1 rfl⟩,λ _=>rfl⟩
def upP(p:List UInt8):List UInt8:=(pU p).getD [47]
theorem MZ(s:BY):G3 s=some (mk (upP (bl s))):=by
  unfold G3 upP
  rw [Bz]
  simp only [bS]
  cases pU (bl s) <;> rfl
def Ai(p:Pt1):List UInt8:=if p.Kind=4∨p.Kind=9∨p.Kind=10 then bl p.Path else upP (bl p.Path)
def x6(p:Pt1):Bool:=wU p.Path p.Data p.Version (-1) p.Owner && decide (bl p.Dir=Ai p) && decide (1 <= p.Kind/\p.Kind <= 10) && (decide (p.Kind ≠ 2) || !decide (bl p.Path= [47]))
theorem Jp(p:Pt1)(s:BY)(hs:bl s=Ai p):yU p s=some (x6 p):=by
  unfold yU x6
  rw [Rb,qG,hs]
  simp only [bS]
  cases wU p.Path p.Data p.Version (-1) p.Owner with
  | false=>rw [iN (by simp)];simp
  | true=>
    rw [iP rfl]
    cases decide (bl p.Dir=Ai p) with
    | false=>rw [iN (by simp)];simp
    | true=>
      rw [iP rfl]
      by_cases a:p.Kind ≥ 1
      · rw [iP (decide_eq_true a)]
        by_cases b:p.Kind <= 10
        · rw [iP (decide_eq_true b),decide_eq_true (show 1 <= p.Kind/\p.Kind <= 10 from ⟨a,b⟩)]
          by_cases c:p.Kind=2
          · rw [iN (by simpa using c),EP];simp [c]
          · rw [iP (by simpa using c)];simp [c]
        · rw [iN (by rw [decide_eq_false b];simp),decide_eq_false (λ h=>b h.2)];simp
      · rw [iN (by rw [decide_eq_false a];simp),decide_eq_false (λ h=>a h.1)];simp
theorem Pb(p:Pt1):K1 p=some (x6 p):=by
  unfold K1 yV
  rw [MZ]
  simp only [bS]
  by_cases a:p.Kind=4
  · rw [iP (by simpa using a),iP trivial,Jp p _ (by unfold Ai;rw [iP (.inl a)])]
  · rw [iN (by simpa using a)]
    by_cases b:p.Kind=9
    · rw [iP (by simpa using b),iP trivial,Jp p _ (by unfold Ai;rw [iP (.inr (.inl b))])]
    · rw [iN (by simpa using b)]
      by_cases c:p.Kind=10
      · rw [iP (by simpa using c),Jp p _ (by unfold Ai;rw [iP (.inr (.inr c))])]
      · rw [iN (by simpa using c),Jp p _ (by rw [lG];unfold Ai;rw [iN (by simp [a,b,c])])]
theorem BS(x:Nd)(s:BY):tZ x s=some (if key x < bl s then -1 else if key x=bl s then 0 else 1):=by
  show some (Extern.BytealgCompare.cmp x.Path s)=_
  rw [Oz];rfl
theorem BT(x:Tn)(s:BY):vO x s=some (if cI x < bl s then -1 else if cI x=bl s then 0 else 1):=by
  show some (Extern.BytealgCompare.cmp x.Dir s)=_
  rw [Oz];rfl
theorem Ve(l:List Nd)(s:BY)(hlen:l.length <= 1000000)(hs:∀ i j (hi:i < l.length) (hj:j < l.length),i < j->key l[i] < key l[j]):∀ (k lo hi:Nat),lo <= hi->hi <= l.length->hi+1 <= lo+k->(∀ j (h:j < l.length),j < lo->key l[j] < bl s)->(∀ j (h:j < l.length),hi <= j->¬ key l[j] < bl s)->
    ∃ i,i <= l.length/\cB l s k (lo:Int) (hi:Int)=some ((i:Int),decide (l[i]?.map key=some (bl s)))/\(∀ j (h:j < l.length),j < i->key l[j] < bl s)/\(∀ j (h:j < l.length),i <= j->¬ key l[j] < bl s)
  | 0,lo,hi,_,_,h,_,_=>by omega
  | k+1,lo,hi,hlh,hhi,h,hlo,hup=>by
    unfold cB
    by_cases hl:lo < hi
    · rw [iP (by simpa using hl),show IntKind.i64.wrap ((lo:Int)+(hi:Int))=IntKind.i64.wrap ((lo+hi:Nat):Int) from by rw [Int.natCast_add],EM _ (by omega)]
      have hm:(lo+hi) / 2 < l.length:=by omega
      rw [bT hm]
      simp only [bS]
      rw [BS]
      simp only [bS]
      by_cases hk:key l[(lo+hi) / 2] < bl s
      · rw [iP hk,iP (by decide),show IntKind.i64.wrap ((((lo+hi) / 2:Nat):Int)+1)=(((lo+hi) / 2+1:Nat):Int) from by rw [w64 (by omega) (by omega)];omega]
        refine Ve l s hlen hs k ((lo+hi) / 2+1) hi (by omega) hhi (by omega) (λ j hj hjl=>?_) hup
        by_cases e:j=(lo+hi) / 2
        · subst e;exact hk
        · exact zT (hs j _ hj hm (by omega)) hk
      · rw [iN hk,iN (by split <;> decide)]
        refine Ve l s hlen hs k lo ((lo+hi) / 2) (by omega) (by omega) (by omega) hlo (λ j hj hjl=>?_)
        by_cases e:(lo+hi) / 2=j
        · subst e;exact hk
        · exact λ h'=>hk (zT (hs _ j hm hj (by omega)) h')
    · rw [iN (by simpa using hl)]
      have e:lo=hi:=by omega
      subst e
      refine ⟨lo,hhi,?_,hlo,hup⟩
      by_cases hl2:lo < l.length
      · rw [iP (by simpa using hl2),bT hl2]
        simp only [bS]
        rw [BS]
        simp only [bS]
        rw [iN (hup lo hl2 (Nat.le_refl _)),List.getElem?_eq_getElem hl2]
        by_cases hk:key l[lo]=bl s <;> simp [hk]
      · rw [iN (by simpa using hl2),List.getElem?_eq_none (by omega)]
        simp
theorem Vf(l:List Tn)(s:BY)(hlen:l.length <= 1000000)(hs:∀ i j (hi:i < l.length) (hj:j < l.length),i < j->cI l[i] < cI l[j]):∀ (k lo hi:Nat),lo <= hi->hi <= l.length->hi+1 <= lo+k->(∀ j (h:j < l.length),j < lo->cI l[j] < bl s)->(∀ j (h:j < l.length),hi <= j->¬ cI l[j] < bl s)->
    ∃ i,i <= l.length/\cC l s k (lo:Int) (hi:Int)=some ((i:Int),decide (l[i]?.map cI=some (bl s)))/\(∀ j (h:j < l.length),j < i->cI l[j] < bl s)/\(∀ j (h:j < l.length),i <= j->¬ cI l[j] < bl s)
  | 0,lo,hi,_,_,h,_,_=>by omega
  | k+1,lo,hi,hlh,hhi,h,hlo,hup=>by
    unfold cC
    by_cases hl:lo < hi
    · rw [iP (by simpa using hl),show IntKind.i64.wrap ((lo:Int)+(hi:Int))=IntKind.i64.wrap ((lo+hi:Nat):Int) from by rw [Int.natCast_add],EM _ (by omega)]
      have hm:(lo+hi) / 2 < l.length:=by omega
      rw [bT hm]
      simp only [bS]
      rw [BT]
      simp only [bS]
      by_cases hk:cI l[(lo+hi) / 2] < bl s
      · rw [iP hk,iP (by decide),show IntKind.i64.wrap ((((lo+hi) / 2:Nat):Int)+1)=(((lo+hi) / 2+1:Nat):Int) from by rw [w64 (by omega) (by omega)];omega]
        refine Vf l s hlen hs k ((lo+hi) / 2+1) hi (by omega) hhi (by omega) (λ j hj hjl=>?_) hup
        by_cases e:j=(lo+hi) / 2
        · subst e;exact hk
        · exact zT (hs j _ hj hm (by omega)) hk
      · rw [iN hk,iN (by split <;> decide)]
        refine Vf l s hlen hs k lo ((lo+hi) / 2) (by omega) (by omega) (by omega) hlo (λ j hj hjl=>?_)
        by_cases e:(lo+hi) / 2=j
        · subst e;exact hk
        · exact λ h'=>hk (zT (hs _ j hm hj (by omega)) h')
    · rw [iN (by simpa using hl)]
      have e:lo=hi:=by omega
      subst e
      refine ⟨lo,hhi,?_,hlo,hup⟩
      by_cases hl2:lo < l.length
      · rw [iP (by simpa using hl2),bT hl2]
        simp only [bS]
        rw [BT]
        simp only [bS]
        rw [iN (hup lo hl2 (Nat.le_refl _)),List.getElem?_eq_getElem hl2]
        by_cases hk:cI l[lo]=bl s <;> simp [hk]
      · rw [iN (by simpa using hl2),List.getElem?_eq_none (by omega)]
        simp
theorem BU(l:List Nd)(s:BY)(hlen:l.length <= 1000000)(hs:l.Pairwise (key · < key ·)) :
    ∃ i:Nat,i <= l.length/\nO l s=some ((i:Int),(l.find? (isK (bl s))).isSome)/\l.take i=l.filter (gLt key (bl s))/\
      ((∃ x,l.drop i=x::l.filter (gGt key (bl s))/\key x=bl s/\l.find? (isK (bl s))=some x/\l[i]? =some x/\x ∈ l)∨(l.drop i=l.filter (gGt key (bl s))/\l.find? (isK (bl s))=none)):=by
  obtain ⟨i,h1,h2,h3,h4⟩:=Ve l s hlen (List.pairwise_iff_getElem.1 hs) (((l.length:Int) - 0:Int).toNat+1) 0 l.length (by omega) (Nat.le_refl _) (by omega) (λ j _ h=>by omega) (λ j h h'=>by omega)
  obtain ⟨g1,g2⟩:=Vc key l (bl s) i hs h1 h3 h4
  refine ⟨i,h1,?_,g1,?_⟩
  · unfold nO fT
    rw [show cB l s (((l.length:Int) - 0:Int).toNat+1) 0 (l.length:Int)=_ from h2]
    simp only [bS]
    rcases g2 with ⟨x,_,hk,hf,hi,_⟩ | ⟨_,hf,hi⟩
    · rw [hi,show l.find? (isK (bl s))=some x from hf];simp [hk]
    · rw [decide_eq_false hi,show l.find? (isK (bl s))=none from hf];rfl
  · rcases g2 with ⟨x,a,b,c,d,e⟩ | ⟨a,b,_⟩
    · exact .inl ⟨x,a,b,c,d,e⟩
    · exact .inr ⟨a,b⟩
theorem NA(l:List Tn)(s:BY)(hlen:l.length <= 1000000)(hs:l.Pairwise (cI · < cI ·)) :
    ∃ i:Nat,i <= l.length/\cG l s=some ((i:Int),(l.find? (gEq cI (bl s))).isSome)/\l.take i=l.filter (gLt cI (bl s))/\
      ((∃ x,l.drop i=x::l.filter (gGt cI (bl s))/\cI x=bl s/\l.find? (gEq cI (bl s))=some x/\l[i]? =some x/\x ∈ l)∨(l.drop i=l.filter (gGt cI (bl s))/\l.find? (gEq cI (bl s))=none)):=by
  obtain ⟨i,h1,h2,h3,h4⟩:=Vf l s hlen (List.pairwise_iff_getElem.1 hs) (((l.length:Int) - 0:Int).toNat+1) 0 l.length (by omega) (Nat.le_refl _) (by omega) (λ j _ h=>by omega) (λ j h h'=>by omega)
  obtain ⟨g1,g2⟩:=Vc cI l (bl s) i hs h1 h3 h4
  refine ⟨i,h1,?_,g1,?_⟩
  · unfold cG
    rw [show cC l s (((l.length:Int) - 0:Int).toNat+1) 0 (l.length:Int)=_ from h2]
    rcases g2 with ⟨x,_,hk,hf,hi,_⟩ | ⟨_,hf,hi⟩
    · rw [hi,hf];simp [hk]
    · rw [decide_eq_false hi,hf];rfl
  · rcases g2 with ⟨x,a,b,c,d,e⟩ | ⟨a,b,_⟩
    · exact .inl ⟨x,a,b,c,d,e⟩
    · exact .inr ⟨a,b⟩
def NB(p:Pt1)(x:Nd):Bool:=(decide (p.Kind=3) || decide (p.Kind=5) || decide (p.Kind=6)) && decide (0 <= p.Version) && decide (p.Version ≠ x.Version)
def ndS(l:List Nd)(p:Pt1):Nd×Int:=match l.find? (isK (bl p.Path)) with
  | none=>(zNd,62)
  | some x=>if NB p x=true then (x,63) else (x,0)
theorem V6(l:List Nd)(t:List Tn)(p:Pt1)(hlen:l.length <= 1000000)(hs:l.Pairwise (key · < key ·)) :
    (∃ e,(e=62∨e=63)/\(ndS l p).2=e/\jB l 0 (ByteArray.mk #[]) (ByteArray.mk #[]) 0 [] p=some ((-1),e,ByteArray.mk #[],ByteArray.mk #[],0,[]))∨
    (∃ i:Nat,∃ hi:i < l.length,(ndS l p).2=0/\(ndS l p).1=l[i]/\key l[i]=bl p.Path/\l.find? (isK (bl p.Path))=some l[i]/\jB l 0 (ByteArray.mk #[]) (ByteArray.mk #[]) 0 [] p=some ((i:Int),0,ByteArray.mk #[],ByteArray.mk #[],0,[])/\nO l p.Path=some ((i:Int),true)):=by
  obtain ⟨i,h1,h2,h3,h4⟩:=BU l p.Path hlen hs
  unfold jB qP qO uA ndS iB
  rw [h2]
  simp only [bS]
  rcases h4 with ⟨x,_,hk,hf,hi,_⟩ | ⟨_,hf⟩
  · obtain ⟨hi',rfl⟩:=List.getElem?_eq_some_iff.1 hi
    rw [hf]
    simp only [Option.isSome_some,Bool.not_true,Bool.false_eq_true,if_false]
    rw [bT hi']
    simp only [bS]
    unfold NB
    by_cases a:p.Kind=3∨p.Kind=5∨p.Kind=6
    · by_cases b:0 <= p.Version
      · by_cases c:p.Version=(l[i]).Version
        · refine .inr ⟨i,hi',?_,?_,hk,rfl,?_,?_⟩
          · simp [c]
          · simp [c]
          · rcases a with a | a | a <;> simp [a,c,show 0 <= (l[i]).Version from c ▸ b]
          · first | rfl | (rw [h2,hf];rfl)
        · refine .inl ⟨63,.inr rfl,?_,?_⟩
          · rcases a with a | a | a <;> simp [a,b,c]
          · rcases a with a | a | a <;> simp [a,b,c]
      · refine .inr ⟨i,hi',?_,?_,hk,rfl,?_,?_⟩
        · simp [b]
        · simp [b]
        · rcases a with a | a | a <;> simp [a,b]
        · first | rfl | (rw [h2,hf];rfl)
    · refine .inr ⟨i,hi',?_,?_,hk,rfl,?_,?_⟩
      · simp [show p.Kind ≠ 3 from λ h=>a (.inl h),show p.Kind ≠ 5 from λ h=>a (.inr (.inl h)),show p.Kind ≠ 6 from λ h=>a (.inr (.inr h))]
      · simp [show p.Kind ≠ 3 from λ h=>a (.inl h),show p.Kind ≠ 5 from λ h=>a (.inr (.inl h)),show p.Kind ≠ 6 from λ h=>a (.inr (.inr h))]
      · simp [show p.Kind ≠ 3 from λ h=>a (.inl h),show p.Kind ≠ 5 from λ h=>a (.inr (.inl h)),show p.Kind ≠ 6 from λ h=>a (.inr (.inr h))]
      · first | rfl | (rw [h2,hf];rfl)
  · rw [hf]
    refine .inl ⟨62,.inl rfl,rfl,?_⟩
    simp
abbrev em:BY:=ByteArray.mk #[]
theorem BV(l:List Nd)(t:List Tn)(p:Pt1)(hlen:l.length <= 1000000)(hs:l.Pairwise (key · < key ·)) :
    xE l 0 em em 0 [] p=some ((if (ndS l p).2 ≠ 0 then (ndS l p).2 else if (ndS l p).1.Owner ≠ 0 then 65 else 0),em,em,0,[]):=by
  unfold xE sR
  rcases V6 l t p hlen hs with ⟨e,he,h1,h2⟩ | ⟨i,hi,h1,h2,h3,h4,h5,h6⟩
  · rw [h2]
    simp only [bS]
    rw [iN (by simp),iN (by simp),h1,iP (by omega)]
  · rw [h5]
    simp only [bS]
    rw [iP (decide_eq_true (by omega)),bT hi,h1,iN (by simp),h2]
    simp only [bS]
    by_cases c:(l[i]).Owner=0
    · rw [iN (by simpa using c),iN (by simpa using c)]
    · rw [iP (by simpa using c),iP c];rfl
theorem IP(l:List Nd)(t:List Tn)(p:Pt1)(hlen:l.length <= 1000000)(hs:l.Pairwise (key · < key ·)) :
    zE l 0 em em 0 [] p=some ((ndS l p).2,em,em,0,[]):=by
  unfold zE
  rcases V6 l t p hlen hs with ⟨e,he,h1,h2⟩ | ⟨i,hi,h1,h2,h3,h4,h5,h6⟩
  · rw [h2,h1];rfl
  · rw [h5,h1];rfl
theorem ER(l:List Nd)(t:List Tn)(p:Pt1)(hlen:l.length <= 1000000)(hs:l.Pairwise (key · < key ·)) :
    yC l 0 em em 0 [] p=some ((ndS l p).2,em,em,(if (ndS l p).2 ≠ 0 then 0 else (ndS l p).1.Version),[]):=by
  unfold yC
  rcases V6 l t p hlen hs with ⟨e,he,h1,h2⟩ | ⟨i,hi,h1,h2,h3,h4,h5,h6⟩
  · rw [h2]
    simp only [bS]
    rw [iN (by simp),h1,iP (by omega)]
  · rw [h5]
    simp only [bS]
    rw [iP (decide_eq_true (by omega)),bT hi,h1,iN (by simp),h2]
    simp only [bS]
theorem ES(l:List Nd)(t:List Tn)(p:Pt1)(hlen:l.length <= 1000000)(hs:l.Pairwise (key · < key ·)) :
    yD l 0 em em 0 [] p=some ((ndS l p).2,em,(if (ndS l p).2 ≠ 0 then em else (ndS l p).1.Data),(if (ndS l p).2 ≠ 0 then 0 else (ndS l p).1.Version),[]):=by
  unfold yD
  rcases V6 l t p hlen hs with ⟨e,he,h1,h2⟩ | ⟨i,hi,h1,h2,h3,h4,h5,h6⟩
  · rw [h2]
    simp only [bS]
    rw [iN (by simp),h1,iP (by omega),iP (by omega)]
  · rw [h5]
    simp only [bS]
    rw [iP (decide_eq_true (by omega)),bT hi,h1,iN (by simp),iN (by simp),h2]
    simp only [bS]
theorem Zd(l:List Nd)(t:List Tn)(p:Pt1)(hlen:l.length <= 1000000)(hs:l.Pairwise (key · < key ·)) :
    vP l 0 em em 0 [] p=some ((if (ndS l p).2 ≠ 0 then l else l.filter (λ y=>!isK (bl p.Path) y)),(ndS l p).2,em,em,0,[]):=by
  unfold vP
  rcases V6 l t p hlen hs with ⟨e,he,h1,h2⟩ | ⟨i,hi,h1,h2,h3,h4,h5,h6⟩
  · rw [h2]
    simp only [bS]
    rw [iN (by simp),h1,iP (by omega)]
  · rw [h5]
    simp only [bS]
    rw [iP (decide_eq_true (by omega)),h6,h1,iN (by simp)]
    simp only [bS]
    rw [dK ⟨by omega,by omega,by rw [w64 (by omega) (by omega)]⟩,Int.toNat_natCast,Uz hs hi,h3]
def Ze(p:Pt1)(x:Nd):Nd:={ x with Data:=p.Data,Version:=x.Version+1 }
theorem BW(l:List Nd)(t:List Tn)(p:Pt1)(hlen:l.length <= 1000000)(hs:l.Pairwise (key · < key ·))(hv:∀ x ∈ l,0 <= x.Version/\x.Version <= 281474976710656) :
    xC l 0 em em 0 [] p=some (if (ndS l p).2 ≠ 0 then (l,(ndS l p).2,em,em,0,[]) else if (ndS l p).1.Version=281474976710656 then (l,2,em,em,0,[]) else (upd l (bl p.Path) (Ze p),0,em,em,(ndS l p).1.Version+1,[])):=by
  unfold xC
  rcases V6 l t p hlen hs with ⟨e,he,h1,h2⟩ | ⟨i,hi,h1,h2,h3,h4,h5,h6⟩
  · rw [h2]
    simp only [bS]
    rw [iP (by simp),h1,iP (by omega)]
  · rw [h5]
    simp only [bS]
    rw [iN (by rw [decide_eq_false (by omega)];simp),bT hi,h1,iN (by simp),h2]
    simp only [bS]
    by_cases c:(l[i]).Version=281474976710656
    · rw [iP (by simpa using c),iP c];rfl
    · have:=hv _ (List.getElem_mem hi)
      rw [iN (by simpa using c),iN c,w64 (by omega) (by omega)]
      simp only [Int.toNat_natCast,List.set_set]
      rw [← h3,← IK hs hi (Ze p)]
      rfl
theorem Vg(x:Nd)(b:BY):zS x b=some (w9 (bl b) x):=by
  unfold zS w9
  rw [Bz,show bl x.Path=key x from rfl]
  simp only [bS]
  cases h:pU (key x) with
  | none=>rw [iN (by simp [os2])];simp
  | some q=>rw [iP (by simp [os2]),qG];simp [os2,lG];rfl
theorem Xp(l:List Nd)(b:BY)(hlen:l.length <= 1000000):∀ (k j:Nat),j <= l.length->l.length+1 <= j+k->∃ z:Int,dR l b k (j:Int)=some z/\decide (z ≥ 0)=(l.drop j).any (w9 (bl b))
  | 0,j,_,h=>by omega
  | k+1,j,h0,h=>by
    unfold dR
    by_cases hj:j < l.length
    · rw [iP (by simpa using hj),bT hj]
      simp only [bS]
      rw [Vg]
      simp only [bS]
      rw [List.drop_eq_getElem_cons hj,List.any_cons]
      cases hc:w9 (bl b) l[j] with
      | true=>rw [iP rfl];exact ⟨_,rfl,by simp⟩
      | false=>
        rw [iN (by simp),gL (by omega)]
        obtain ⟨z,h1,h2⟩:=Xp l b hlen k (j+1) (by omega) (by omega)
        exact ⟨z,h1,by rw [h2,Bool.false_or]⟩
    · rw [iN (by simpa using hj),List.drop_eq_nil_of_le (by omega)]
      exact ⟨_,rfl,rfl⟩
theorem IQ(l:List Nd)(b:BY)(hlen:l.length <= 1000000):fX l b=some (l.any (w9 (bl b))):=by
  unfold fX jJ
  obtain ⟨z,h1,h2⟩:=Xp l b hlen (((l.length:Int) - 0:Int).toNat+1) 0 (by omega) (by omega)
  rw [show dR l b (((l.length:Int) - 0:Int).toNat+1) 0=some z from h1]
  simp only [bS]
  rw [h2,List.drop_zero]
theorem Is(l:List Nd)(u:Int×BY×BY×BY×Int×Int×Bool)(hlen:l.length <= 1000000):∀ (k j:Nat) (acc:List BY),j <= l.length->l.length+1 <= j+k->acc.length <= j->kO l u k (j:Int) acc=some (acc ++ ((l.drop j).filter (w9 (bl u.2.2.1))).map M7)
  | 0,j,acc,_,h,_=>by omega
  | k+1,j,acc,h0,h,ha=>by
    unfold kO sS
    by_cases hj:j < l.length
    · rw [iP (by simpa using hj),bT hj]
      simp only [bS]
      rw [Vg,gL (by omega)]
      simp only [bS]
      rw [List.drop_eq_getElem_cons hj,List.filter_cons]
      cases hc:w9 (bl u.2.2.1) l[j] with
      | true=>
        rw [iP rfl,iP rfl,Qk]
        simp only [bS]
        rw [dK (by simp [LIM];omega),Is l u hlen k (j+1) _ (by omega) (by omega) (by simp;omega),show mk (A7 (bl (l[j]).Path))=M7 l[j] from rfl]
        simp
      | false=>
        rw [iN (by simp),iN (by simp),Is l u hlen k (j+1) _ (by omega) (by omega) (by omega)]
    · rw [iN (by simpa using hj),List.drop_eq_nil_of_le (by omega),List.filter_nil,List.map_nil,List.append_nil]
theorem BX(l:List Nd)(t:List Tn)(p:Pt1)(hlen:l.length <= 1000000):xF l [] p=some ((l.filter (w9 (bl p.Path))).map M7):=by
  unfold xF y6
  simp only [bS]
  refine (Is l _ hlen (((l.length:Int) - 0:Int).toNat+1) 0 [] (by omega) (by omega) (by simp)).trans ?_
  simp
theorem Rc(x:Nd)(w:Int)(r5:BY)(acc:List BY)(ha:acc.length <= 1000000):qQ x w r5 acc=some (yL (bl r5) w x,if yL (bl r5) w x=true then acc ++ [M7 x] else acc):=by
  unfold qQ rG rF yL
  by_cases h:x.Owner=w
  · rw [iP (by simpa using h),Vg]
    simp only [bS]
    rw [show (x.Owner == w)=true from by simpa using h,Bool.true_and]
    cases hc:w9 (bl r5) x with
    | true=>
      rw [iP rfl,iP rfl,Qk]
      simp only [bS]
      rw [dK (by simp [LIM];omega)]
      rfl
    | false=>rw [iN (by simp),iN (by simp)]
  · rw [iN (by simpa using h),iN (by simp),show (x.Owner == w)=false from by simpa using h,Bool.false_and,iN (by simp)]
theorem Vh(l:List Nd)(w:Int)(r5:BY)(acc:List BY)(ha:acc.length <= 500000)(hlen:l.length <= 500000):∀ (k j:Nat),j <= l.length->l.length+1 <= j+k->(∀ m (h:m < l.length),m < j->yL (bl r5) w l[m]=false)->
    (∃ i:Nat,∃ hi:i < l.length,cQ l w r5 k (j:Int) acc=some ((i:Int),acc ++ [M7 l[i]])/\yL (bl r5) w l[i]=true/\∀ m (h:m < l.length),m < i->yL (bl r5) w l[m]=false)∨(cQ l w r5 k (j:Int) acc=some (-1,acc)/\∀ m (h:m < l.length),yL (bl r5) w l[m]=false)
  | 0,j,_,h,_=>by omega
  | k+1,j,h0,h,hb=>by
    unfold cQ
    by_cases hj:j < l.length
    · rw [iP (by simpa using hj),bT hj]
      simp only [bS]
      rw [Rc _ _ _ _ (by omega)]
      simp only [bS]
      cases hc:yL (bl r5) w l[j] with
      | true=>exact .inl ⟨j,hj,by rw [iP rfl,iP rfl],hc,λ m h hm=>hb m h hm⟩
      | false=>
        rw [iN (by simp),iN (by simp),gL (by omega)]
        refine Vh l w r5 acc ha hlen k (j+1) (by omega) (by omega) λ m h hm=>?_
        by_cases e:m=j
        · subst e;exact hc
        · exact hb m h (by omega)
    · rw [iN (by simpa using hj)]
      exact .inr ⟨rfl,λ m h=>hb m h (by omega)⟩
theorem Qn(l0:List Nd)(w:Int)(r5:BY)(hlen:l0.length <= 500000):∀ (k i j:Nat) (l:List Nd) (acc:List BY),l.length=l0.length->i <= j->j <= l0.length->l0.length+1 <= j+k->acc.length <= j->l.take i=(l0.take j).filter (λ x=>!yL (bl r5) w x)->l.drop j=l0.drop j->
    dE w r5 k l (i:Int) (j:Int) acc=some (l0.filter (λ x=>!yL (bl r5) w x),acc ++ ((l0.drop j).filter (yL (bl r5) w)).map M7)
  | 0,i,j,l,acc,_,_,_,h,_,_,_=>by omega
  | k+1,i,j,l,acc,hl,hij,hj0,h,ha,ht,hd=>by
    unfold dE gI
    by_cases hj:j < l.length
    · have hj':j < l0.length:=by omega
      have hjx:l[j]=l0[j]:=by
        have h1:l[j]? =l0[j]? :=by
          have:=congrArg (λ z:List Nd=>z[0]?) hd
          simpa [List.getElem?_drop] using this
        rw [List.getElem?_eq_getElem hj,List.getElem?_eq_getElem hj'] at h1
        exact Option.some.inj h1
      rw [iP (by simpa using hj),bT hj]
      simp only [bS]
      rw [hjx]
      rw [Rc _ _ _ _ (by omega)]
      simp only [bS]
      have hd':l0.drop j=l0[j]::l0.drop (j+1):=List.drop_eq_getElem_cons hj'
      cases hc:yL (bl r5) w l0[j] with
      | false=>
        rw [iP (by rfl),bT (show i < l.length by omega)]
        simp only [bS,Int.toNat_natCast]
        rw [iN (by simp),gL (show i <= 4611686018427387904 by omega),gL (show j <= 4611686018427387904 by omega)]
        rw [Qn l0 w r5 hlen k (i+1) (j+1) (l.set i l0[j]) acc (by simpa using hl) (by omega) (by omega) (by omega) (by omega) ?_ ?_]
        · rw [hd',List.filter_cons,iN (by simp [hc])]
        · rw [Fg hj',hc,← ht,List.take_add_one]
          rw [List.getElem?_set_self (by omega),List.take_set_of_le (by omega)]
          simp
        · rw [List.drop_set_of_lt (by omega),← List.drop_drop,hd,← List.drop_drop]
      | true=>
        rw [iN (by simp),iP rfl,gL (show j <= 4611686018427387904 by omega)]
        rw [Qn l0 w r5 hlen k i (j+1) l _ hl (by omega) (by omega) (by omega) (by simp;omega) ?_ ?_]
        · rw [hd',List.filter_cons,iP (by simp [hc])];simp
        · rw [Fg hj',hc,ht];simp
        · rw [← List.drop_drop,hd,← List.drop_drop]
    · have hje:j=l0.length:=by omega
      subst hje
      rw [iN (by simpa using hj),dK (by omega)]
      have hti:l.take i=l0.filter (λ x=>!yL (bl r5) w x):=by rw [ht,List.take_length]
      simp only [Int.toNat_natCast]
      rw [dK (by rw [List.length_append,List.length_take,List.length_replicate];omega)]
      have:(l.take i ++ List.replicate (l.length - i) (⟨⟨#[]⟩,⟨#[]⟩,0,0,0⟩:Nd)).take i=l.take i:=by
        rw [List.take_append_of_le_length (by rw [List.length_take];omega),List.take_take,Nat.min_self]
      rw [this,hti,List.drop_length]
      simp
theorem BZ(l:List Nd)(t:List Tn)(p:Pt1)(hlen:l.length <= 500000):xD l [] p=some (l.filter (λ x=>!yL (bl p.Path) p.Owner x),(l.filter (yL (bl p.Path) p.Owner)).map M7):=by
  unfold xD y6
  simp only [bS]
  unfold jU jI
  rcases Vh l p.Owner p.Path [] (by simp) hlen (((l.length:Int) - 0:Int).toNat+1) 0 (by omega) (by omega) (λ m h hm=>by omega) with ⟨j,hj,h1,h2,h3⟩ | ⟨h1,h3⟩
  · rw [show cQ l p.Owner p.Path (((l.length:Int) - 0:Int).toNat+1) 0 []=some ((j:Int),[] ++ [M7 l[j]]) from h1]
    simp only [bS]
    rw [iN (by simp only [beq_iff_eq];omega),gL (by omega)]
    have htk:(l.take j).filter (λ x=>!yL (bl p.Path) p.Owner x)=l.take j:=List.filter_eq_self.2 λ y hy=>by
      obtain ⟨m,hm,rfl⟩:=List.mem_take_iff_getElem.1 hy
      rw [h3 m (by omega) (by omega)];rfl
    have htk2:(l.take j).filter (yL (bl p.Path) p.Owner)= []:=List.filter_eq_nil_iff.2 λ y hy=>by
      obtain ⟨m,hm,rfl⟩:=List.mem_take_iff_getElem.1 hy
      rw [h3 m (by omega) (by omega)];simp
    rw [Qn l p.Owner p.Path hlen _ j (j+1) l _ rfl (by omega) (by omega) (by omega) (by simp) ?_ rfl]
    · simp only [bS]
      have:l.filter (yL (bl p.Path) p.Owner)=l[j]::(l.drop (j+1)).filter (yL (bl p.Path) p.Owner):=by
        have e:∀ f:Nd->Bool,l.filter f=(l.take j).filter f ++ (l[j]::l.drop (j+1)).filter f:=λ f=>by rw [← List.filter_append,← List.drop_eq_getElem_cons hj,List.take_append_drop]
        rw [e,htk2,List.filter_cons,iP h2]
        rfl
      rw [this]
      rfl
    · rw [Fg hj,htk,h2];simp
  · rw [show cQ l p.Owner p.Path (((l.length:Int) - 0:Int).toNat+1) 0 []=some (-1,[]) from h1]
    simp only [bS]
    have f1:l.filter (λ x=>!yL (bl p.Path) p.Owner x)=l:=List.filter_eq_self.2 λ y hy=>by
      obtain ⟨m,hm,rfl⟩:=List.mem_iff_getElem.1 hy
      rw [h3 m hm];rfl
    have f2:l.filter (yL (bl p.Path) p.Owner)= []:=List.filter_eq_nil_iff.2 λ y hy=>by
      obtain ⟨m,hm,rfl⟩:=List.mem_iff_getElem.1 hy
      rw [h3 m hm];simp
    rw [f1,f2]
    rfl
def tG(l:List Tn)(d:List UInt8):Int:=match l.find? (gEq cI d) with
  | none=>0
  | some t=>t.Next
def uV(l:List Tn)(d:List UInt8)(n:Int):List Tn:=if n=0 then l.filter (λ t=>!gEq cI d t) else l.filter (gLt cI d) ++ ⟨mk d,n⟩::l.filter (gGt cI d)
theorem NC{x:Tn}{d:List UInt8}(h:cI x=d)(n:Int):({ x with Next:=n }:Tn)= ⟨mk d,n⟩:=by
  subst h;cases x;simp [cI,Fe]
theorem It(l:List Tn)(d:List UInt8)(hs:l.Pairwise (cI · < cI ·)):l.filter (λ t=>!gEq cI d t)=l.filter (gLt cI d) ++ l.filter (gGt cI d):=by
  induction l with
  | nil=>rfl
  | cons x l ih=>
    obtain ⟨h1,h2⟩:=List.pairwise_cons.1 hs
    rw [List.filter_cons,List.filter_cons,List.filter_cons,ih h2]
    by_cases a:cI x < d
    · have b:=wT a
      rw [iP (by simp [gEq,b]),iP (by simp [gLt,a]),iN (by simp [gGt,gLt,a])];rfl
    · have e:l.filter (gLt cI d)= []:=List.filter_eq_nil_iff.2 λ y hy=>by
        have:=h1 y hy
        simp only [gLt,decide_eq_true_eq]
        exact λ h=>a (zT this h)
      rw [iN (by simp [gLt,a]:¬ gLt cI d x=true),e]
      by_cases b:cI x=d
      · rw [iN (by simp [gEq,b]),iN (by simp [gGt,gEq,b])]
      · rw [iP (by simp [gEq,b]),iP (by simp [gGt,gLt,gEq,a,b])];rfl
theorem Jq{α:Type}(a:List α)(x y:α)(b:List α):(a ++ x::b).set a.length y=a ++ y::b:=by simp
theorem Rd{α:Type}(a:List α)(x:α)(b:List α):(a ++ x::b).eraseIdx a.length=a ++ b:=by
  rw [List.eraseIdx_append_of_length_le (Nat.le_refl _)];simp
theorem Fj(l:List Tn)(s:BY)(hlen:l.length <= 100000)(hs:l.Pairwise (cI · < cI ·)) :
    ∃ i:Nat,∃ b:Bool,cG l s=some ((i:Int),b)/\i=(l.filter (gLt cI (bl s))).length/\i <= l.length/\
      (l.filter (gLt cI (bl s)) ++ l.filter (gGt cI (bl s))).length <= l.length/\
      ((b=true/\∃ x,cI x=bl s/\tG l (bl s)=x.Next/\x ∈ l/\l=l.filter (gLt cI (bl s)) ++ x::l.filter (gGt cI (bl s)))∨
       (b=false/\tG l (bl s)=0/\l=l.filter (gLt cI (bl s)) ++ l.filter (gGt cI (bl s))/\l.take i ++ (⟨s,0⟩:Tn)::l.drop i=l.filter (gLt cI (bl s)) ++ ⟨s,0⟩::l.filter (gGt cI (bl s)))):=by
  obtain ⟨i,h1,h2,h3,h4⟩:=NA l s (by omega) hs
  have hi:i=(l.filter (gLt cI (bl s))).length:=by rw [← h3,List.length_take];omega
  refine ⟨i,_,h2,hi,h1,?_,?_⟩
  · rw [← It l _ hs];exact List.length_filter_le _ _
  · rcases h4 with ⟨x,a,b,c,d,e⟩ | ⟨a,b⟩
    · refine .inl ⟨by rw [c];rfl,x,b,by unfold tG;rw [c],e,?_⟩
      rw [← a,← h3,List.take_append_drop]
    · refine .inr ⟨by rw [b];rfl,by unfold tG;rw [b],?_,by rw [h3,a]⟩
      rw [← a,← h3,List.take_append_drop]
theorem CA(A B:List Tn)(y:Tn)(b:Bool)(hA:A.length <= 1000000):oC ((A.length:Int),b) (A ++ y::B)=some (y.Next,if y.Next=0 then A ++ B else A ++ y::B):=by
  unfold oC rT q5
  have hi:A.length < (A ++ y::B).length:=by simp
  have hg:(A ++ y::B)[A.length]=y:=by simp
  simp only [Int.toNat_natCast]
  rw [bT hi,hg]
  simp only [bS]
  rw [bT (by simp)]
  simp only [bS,List.getElem_set_self]
  by_cases c:y.Next=0
  · rw [iP (by simpa using c),iP c,dK ⟨by omega,by simp;omega,by rw [w64 (by omega) (by omega)]⟩,Jq,Rd]
  · rw [iN (by simpa using c),iN c,Jq]
theorem FW(A B:List Tn)(y:Tn)(b:Bool)(hA:A.length <= 1000000):qR ((A.length:Int),b) (A ++ y::B)=some (y.Next,A ++ B):=by
  unfold qR uB E1
  have hi:A.length < (A ++ y::B).length:=by simp
  have hg:(A ++ y::B)[A.length]=y:=by simp
  simp only [Int.toNat_natCast]
  rw [bT hi,hg]
  simp only [bS]
  rw [bT (by simp)]
  simp only [bS,List.getElem_set_self]
  rw [iP (by rfl),dK ⟨by omega,by simp;omega,by rw [w64 (by omega) (by omega)]⟩,Jq,Rd]
theorem FX(A B:List Tn)(y:Tn)(b:Bool)(hA:A.length <= 1000000)(hn:0 <= y.Next/\y.Next <= 10000):oD ((A.length:Int),b) (A ++ y::B)=some (y.Next,A ++ { y with Next:=y.Next+1 }::B):=by
  unfold oD rU q6
  have hi:A.length < (A ++ y::B).length:=by simp
  have hg:(A ++ y::B)[A.length]=y:=by simp
  simp only [Int.toNat_natCast]
  rw [bT hi,hg]
  simp only [bS]
  rw [w64 (by omega) (by omega),bT (by simp)]
  simp only [bS,List.getElem_set_self]
  rw [iN (by simp;omega),Jq]
theorem CB(l:List Tn)(s:BY)(hlen:l.length <= 100000)(hs:l.Pairwise (cI · < cI ·))(hn:∀ y ∈ l,y.Next ≠ 0):vQ l s=some (tG l (bl s),l):=by
  obtain ⟨i,z,h1,h2,h2',h3,h4⟩:=Fj l s hlen hs
  unfold vQ
  rw [h1]
  simp only [bS]
  rcases h4 with ⟨rfl,y,hy,ht,hm,hl⟩ | ⟨rfl,ht,hl,hd⟩
  · rw [iN (by simp),h2]
    conv=>lhs;arg 2;rw [hl]
    rw [CA _ _ _ _ (by omega),ht,iN (hn _ hm),← hl]
  · rw [iP (by rfl),dK (by omega),Int.toNat_natCast,hd,h2,CA _ _ _ _ (by omega),ht,iP rfl,← hl]
theorem CC(l:List Tn)(s:BY)(hlen:l.length <= 100000)(hs:l.Pairwise (cI · < cI ·)):yE l s=some (tG l (bl s),uV l (bl s) 0):=by
  obtain ⟨i,z,h1,h2,h2',h3,h4⟩:=Fj l s hlen hs
  unfold yE uV
  rw [h1,iP rfl,It l _ hs]
  simp only [bS]
  rcases h4 with ⟨rfl,y,hy,ht,hm,hl⟩ | ⟨rfl,ht,hl,hd⟩
  · rw [iN (by simp),h2]
    conv=>lhs;arg 2;rw [hl]
    rw [FW _ _ _ _ (by omega),ht]
  · rw [iP (by rfl),dK (by omega),Int.toNat_natCast,hd,h2,FW _ _ _ _ (by omega),ht]
theorem CD(l:List Tn)(s:BY)(hlen:l.length <= 100000)(hs:l.Pairwise (cI · < cI ·))(hn:∀ y ∈ l,1 <= y.Next/\y.Next <= 10000):vR l s=some (tG l (bl s),uV l (bl s) (tG l (bl s)+1)):=by
  obtain ⟨i,z,h1,h2,h2',h3,h4⟩:=Fj l s hlen hs
  unfold vR uV
  rw [h1]
  simp only [bS]
  rcases h4 with ⟨rfl,y,hy,ht,hm,hl⟩ | ⟨rfl,ht,hl,hd⟩
  · have hny:=hn _ hm
    rw [iN (by simp),h2,ht,iN (by omega)]
    conv=>lhs;arg 2;rw [hl]
    rw [FX _ _ _ _ (by omega) (by omega),NC hy]
  · rw [iP (by rfl),dK (by omega),Int.toNat_natCast,hd,h2,FX _ _ _ _ (by omega) (by simp),ht,iN (by decide),Fe]
def pop(p:Pt1):Op1:=⟨0,p.Path,mk [],0,0,p.Turns⟩
def Vi(s:Sto)(p:Pt1):Sto×Res:=
  match W8 (pop p) (upP (bl p.Path)) (tG s.Turns (upP (bl p.Path))) with
  | none=>(s,res 66)
  | some q=>if (s.Nodes.find? (isK q)).isSome=true then (s,res 61) else
    (⟨Z9 ⟨mk q,p.Data,0,0,p.Owner⟩ s.Nodes,if p.Turns=true then uV s.Turns (upP (bl p.Path)) (tG s.Turns (upP (bl p.Path))+1) else s.Turns⟩,{ res 0 with Path:=mk q })
theorem Pc{s:Sto}(S:eK s):∀ y ∈ s.Turns,1 <= y.Next/\y.Next <= 10000:=λ y hy=>by
  have:=List.all_eq_true.1 S.turns y hy
  simp [ptB] at this
  omega
theorem Re{l:List Nd}{x:Nd}(hs:l.Pairwise (key · < key ·))(hn:l.find? (isK (key x))=none):l.filter (gLt key (key x)) ++ x::l.filter (gGt key (key x))=Z9 x l:=by
  unfold Z9
  congr 2
  refine List.filter_congr λ y hy=>?_
  have:=QQ.1 hn y hy
  simp [gGt,gLt,gEq,ltB,this]
theorem Xq(s:Sto)(p:Pt1)(q d:List UInt8)(b:Bool)(hlen:s.Nodes.length <= 100000)(hlt:s.Turns.length <= 100000)(S:eK s) :
    rV s.Nodes p 0 em 0 [] (mk d,b) (mk q) s.Turns=some (if (s.Nodes.find? (isK q)).isSome=true then (s.Nodes,s.Turns,61,em,em,0,[]) else (Z9 ⟨mk q,p.Data,0,0,p.Owner⟩ s.Nodes,(if p.Turns=true then uV s.Turns d (tG s.Turns d+1) else s.Turns),0,mk q,em,0,[])):=by
  unfold rV vS iB
  obtain ⟨i,h1,h2,h3,h4⟩:=BU s.Nodes (mk q) (by omega) S.nsort
  rw [h2]
  rw [lG] at h3 h4 ⊢
  simp only [bS]
  rcases h4 with ⟨x,_,hk,hf,hi,_⟩ | ⟨hd,hf⟩
  · rw [hf];rfl
  · rw [hf]
    simp only [Option.isSome_none,Bool.false_eq_true,if_false,Int.toNat_natCast]
    have e:s.Nodes.take i ++ (⟨mk q,p.Data,0,0,p.Owner⟩:Nd)::s.Nodes.drop i=Z9 ⟨mk q,p.Data,0,0,p.Owner⟩ s.Nodes:=by
      rw [h3,hd]
      exact Re (x:=(⟨mk q,p.Data,0,0,p.Owner⟩:Nd)) S.nsort hf
    cases hT:p.Turns with
    | true=>
      rw [iP rfl,iP rfl,CD _ _ hlt S.tsort (Pc S),lG]
      simp only [bS]
      rw [dK (by omega),e]
    | false=>
      rw [iN (by simp),iN (by simp),dK (by omega),e]
def ET(s:Sto)(p:Pt1):List Nd×List Tn×Int×BY×BY×Int×List BY:=
  match W8 (pop p) (upP (bl p.Path)) (tG s.Turns (upP (bl p.Path))) with
  | none=>(s.Nodes,s.Turns,66,em,em,0,[])
  | some q=>if (s.Nodes.find? (isK q)).isSome=true then (s.Nodes,s.Turns,61,em,em,0,[]) else
    (Z9 ⟨mk q,p.Data,0,0,p.Owner⟩ s.Nodes,(if p.Turns=true then uV s.Turns (upP (bl p.Path)) (tG s.Turns (upP (bl p.Path))+1) else s.Turns),0,mk q,em,0,[])
theorem IU(s:Sto)(p:Pt1)(q:List UInt8)(hq:pU (bl p.Path)=some q)(hlen:s.Nodes.length <= 100000)(hlt:s.Turns.length <= 100000)(S:eK s) :
    zF s.Nodes s.Turns 0 em 0 [] p=some (ET s p):=by
  unfold zF ET
  have hu:upP (bl p.Path)=q:=by unfold upP;rw [hq];rfl
  rw [Bz,hq,hu,show (os2 (some q))=(mk q,true) from rfl]
  simp only [bS]
  cases hT:p.Turns with
  | false=>
    have hn:W8 (pop p) q (tG s.Turns q)=some (bl p.Path):=by unfold W8;rw [iN (by simp [pop,hT])];rfl
    have:=Xq s p (bl p.Path) q true hlen hlt S
    rw [Fe,hT] at this
    rw [iN (by simp),hn,this]
    simp only [Fe]
  | true=>
    have hn:W8 (pop p) q (tG s.Turns q)=(Mv (A7 (bl p.Path)) (tG s.Turns q)).map (λ s=>(R2 q s).getD []):=by unfold W8;rw [iP (by simp [pop,hT])];rfl
    rw [iP rfl,hn,CB _ _ hlt S.tsort (λ y hy=>by have:=Pc S y hy;omega),Qk,lG]
    simp only [bS]
    rw [Wo _ _ (by rw [lG];have:=Va (bl p.Path);omega),lG]
    simp only [bS]
    cases hm:Mv (A7 (bl p.Path)) (tG s.Turns q) with
    | none=>
      rw [Ql _ _ (by simp [os2,lG])]
      simp only [bS,Option.map_none]
      rw [iP (by rfl)]
      rfl
    | some t=>
      obtain ⟨t1,t2,t3⟩:=Xl hm
      have tl:=BN t1
      rw [show (os2 (some t))=(mk t,true) from rfl]
      simp only
      rw [Ql _ _ (by rw [lG];omega),lG,lG]
      simp only [bS,Option.map_some]
      have:=Xq s p ((R2 q t).getD []) q true hlen hlt S
      rw [hT] at this
      rw [iN (by simp),show (os2 (R2 q t)).1=mk ((R2 q t).getD []) from by cases R2 q t <;> rfl,this]
      simp
def doP(s:Sto)(p:Pt1):Sto×Res:=
  if p.Kind=2 then Vi s p
  else if p.Kind=4 then if s.Nodes.any (w9 (bl p.Path))=true then (s,res 64) else (⟨s.Nodes,uV s.Turns (bl p.Path) 0⟩,res 0)
  else if p.Kind=9 then (s,{ res 0 with Names:=(s.Nodes.filter (w9 (bl p.Path))).map M7 })
  else if p.Kind=10 then (⟨s.Nodes.filter (λ x=>!yL (bl p.Path) p.Owner x),s.Turns⟩,{ res 0 with Names:=(s.Nodes.filter (yL (bl p.Path) p.Owner)).map M7 })
  else if (ndS s.Nodes p).2 ≠ 0 then (s,res (ndS s.Nodes p).2)
  else if p.Kind=1 then (s,res (if (ndS s.Nodes p).1.Owner ≠ 0 then 65 else 0))
  else if p.Kind=3 then (⟨s.Nodes.filter (λ y=>!isK (bl p.Path) y),s.Turns⟩,res 0)
  else if p.Kind=5 then if (ndS s.Nodes p).1.Version=281474976710656 then (s,res 2) else (⟨upd s.Nodes (bl p.Path) (Ze p),s.Turns⟩,{ res 0 with Version:=(ndS s.Nodes p).1.Version+1 })
  else if p.Kind=6 then (s,{ res 0 with Version:=(ndS s.Nodes p).1.Version })
  else if p.Kind=7 then (s,{ res 0 with Data:=(ndS s.Nodes p).1.Data,Version:=(ndS s.Nodes p).1.Version })
  else (s,res 0)
theorem Be{p:Pt1}(h:x6 p=true):wU p.Path p.Data p.Version (-1) p.Owner=true/\bl p.Dir=Ai p/\(1 <= p.Kind/\p.Kind <= 10)/\(p.Kind=2->bl p.Path ≠ [47]):=by
  unfold x6 at h
  simp only [Bool.and_eq_true,Bool.or_eq_true,decide_eq_true_eq,Bool.not_eq_true',decide_eq_false_iff_not] at h
  exact ⟨h.1.1.1,h.1.1.2,h.1.2,λ k=>h.2.resolve_left (λ h'=>h' k)⟩
theorem Rf{p:Pt1}(h:x6 p=true):eJ (bl p.Path)=true:=by
  have:=(Be h).1
  unfold wU at this
  simp only [Bool.and_eq_true] at this
  exact this.1.1.1
theorem Lh{p:Pt1}(h:x6 p=true)(hk:p.Kind=2):∃ q,pU (bl p.Path)=some q:=by
  have h1:=Rf h
  have h2:=(Be h).2.2.2 hk
  unfold eJ at h1
  obtain ⟨ps,hp⟩:=Option.isSome_iff_exists.1 h1
  rcases List.eq_nil_or_concat ps with rfl | ⟨qs,t,rfl⟩
  · exact absurd ((kY _ _).1 hp).1 h2
  · unfold pU
    rw [hp]
    exact ⟨pT (qs.concat t).dropLast,by simp⟩
theorem Rh{s:Sto}(S:eK s):∀ x ∈ s.Nodes,0 <= x.Version/\x.Version <= 281474976710656:=λ x hx=>by
  have:=List.all_eq_true.1 S.nodes x hx
  simp [pnB,wU] at this
  omega
theorem CE(s:Sto)(p:Pt1)(hlen:s.Nodes.length <= 100000)(hlt:s.Turns.length <= 100000)(S:eK s)(hm:x6 p=true):Z1 s p=some (doP s p):=by
  unfold Z1 G6
  obtain ⟨b,h1,h2⟩:=I5 s (by omega) (by omega)
  have hs:=S.nsort
  have hn:s.Nodes.length <= 1000000:=by omega
  rw [h1,h2.2 S]
  simp only [bS]
  rw [iN (by simp),Pb,hm]
  simp only [bS]
  rw [iN (by simp),dK (by simp [LIM];omega),dK (by simp [LIM];omega)]
  unfold doP lR
  have hk:=(Be hm).2.2.1
  have kk:p.Kind=1∨p.Kind=2∨p.Kind=3∨p.Kind=4∨p.Kind=5∨p.Kind=6∨p.Kind=7∨p.Kind=8∨p.Kind=9∨p.Kind=10:=by omega
  rcases kk with c | c | c | c | c | c | c | c | c | c
  all_goals simp only [c,Int.reduceBEq,Int.reduceEq,Bool.false_eq_true,if_true,if_false,beq_self_eq_true,Int.reduceNeg]
  · rw [BV _ [] _ hn hs]
    simp only [bS]
    by_cases e:(ndS s.Nodes p).2=0
    · by_cases o:(ndS s.Nodes p).1.Owner=0
      · simp [e,o];rfl
      · simp [e,o];rfl
    · rw [iP e,iP (by simpa using e),iP e];rfl
  · obtain ⟨q,hq⟩:=Lh hm c
    rw [IU s p q hq hlen hlt S]
    unfold ET Vi
    simp only [bS]
    cases W8 (pop p) (upP (bl p.Path)) (tG s.Turns (upP (bl p.Path))) with
    | none=>rfl
    | some q=>
      simp only
      by_cases e:(s.Nodes.find? (isK q)).isSome=true
      · rw [iP e,iP e];rfl
      · rw [iN e,iN e];rfl
  · rw [Zd _ [] _ hn hs]
    simp only [bS]
    by_cases e:(ndS s.Nodes p).2=0
    · simp [e];rfl
    · rw [iP (by simpa using e),iP e];rfl
  · unfold q4 y6 iB
    simp only [bS]
    rw [IQ _ _ hn]
    simp only [bS]
    by_cases e:s.Nodes.any (w9 (bl p.Path))=true
    · rw [iP e,iP e];rfl
    · rw [iN e,iN e,CC _ _ hlt S.tsort];rfl
  · rw [BW _ [] _ hn hs (Rh S)]
    simp only [bS]
    by_cases e:(ndS s.Nodes p).2=0
    · simp only [e,ne_eq,not_true_eq_false,if_false]
      by_cases v:(ndS s.Nodes p).1.Version=281474976710656
      · rw [iP v,iP v];rfl
      · rw [iN v,iN v];rfl
    · rw [iP e,iP e]
      simp only
      rw [iP (by simpa using e)];rfl
  · rw [ER _ [] _ hn hs]
    simp only [bS]
    by_cases e:(ndS s.Nodes p).2=0
    · simp only [e,ne_eq,not_true_eq_false,if_false,bne_self_eq_false,Bool.false_eq_true];rfl
    · rw [iP (by simpa using e),iP e,iP e];rfl
  · rw [ES _ [] _ hn hs]
    simp only [bS]
    by_cases e:(ndS s.Nodes p).2=0
    · simp only [e,ne_eq,not_true_eq_false,if_false,bne_self_eq_false,Bool.false_eq_true];rfl
    · rw [iP (by simpa using e),iP e,iP e,iP e];rfl
  · rw [IP _ [] _ hn hs]
    simp only [bS]
    by_cases e:(ndS s.Nodes p).2=0
    · simp [e];rfl
    · rw [iP (by simpa using e),iP e];rfl
  · rw [BX _ [] _ hn];rfl
  · rw [BZ _ [] _ (by omega)];rfl
theorem ife(c b:Bool):(if c=true then some b else some false)=some (c && b):=by cases c <;> rfl
structure SmS (s:Sto):Prop where
  sm:Sm s.Nodes
  smt:∀ t ∈ s.Turns,(cI t).length <= 100000000
  len:s.Nodes.length <= 90000
  lent:s.Turns.length <= 90000
theorem EU(x:Nd)(hp:(key x).length <= 100000000):vT x=some (pnB x):=by
  unfold vT pnB wU
  rw [Qm _ hp]
  simp only [bS,ife]
  congr 1
  rw [Bool.eq_iff_iff]
  simp only [Bool.and_eq_true,decide_eq_true_eq,beq_iff_eq]
  rw [eC]
  constructor
  · rintro ⟨h1,h2,h3,h4,h5,h6,h7⟩
    exact ⟨h7,⟨⟨h1,by omega⟩,by omega⟩,by omega⟩
  · rintro ⟨h7,⟨⟨h1,h2⟩,h3⟩,h4⟩
    exact ⟨h1,by omega,by omega,by omega,by omega,by omega,h7⟩
theorem Pd(s:Sto)(hs:SmS s):∀ (k i:Nat),i <= s.Turns.length->s.Turns.length+1 <= i+k->∃ b,eU s k (i:Int)=some b/\(b=true ↔ ∀ j (h:j < s.Turns.length),i <= j->ptB s.Turns[j]=true/\(0 < j->cI (s.Turns[j - 1]'(by omega)) < cI s.Turns[j]))
  | 0,i,_,h=>by omega
  | k+1,i,h0,h=>by
    have hl:=hs.lent
    unfold eU iM
    by_cases hi:i < s.Turns.length
    · rw [iP (by simpa using hi),bT hi]
      simp only [bS]
      rw [Qm _ (hs.smt _ (List.getElem_mem hi)),gL (by omega)]
      simp only [bS,if_true,Bool.false_eq_true,if_false]
      obtain ⟨b,h1,h2⟩:=Pd s hs k (i+1) (by omega) (by omega)
      have bad:∀ P:Prop,¬ (ptB s.Turns[i]=true/\(0 < i->cI (s.Turns[i - 1]'(by omega)) < cI s.Turns[i]))->∃ b,some false=some b/\(b=true ↔ ∀ j (h:j < s.Turns.length),i <= j->ptB s.Turns[j]=true/\(0 < j->cI (s.Turns[j - 1]'(by omega)) < cI s.Turns[j])):=λ _ H=>⟨false,rfl,λ h=>by simp at h,λ H'=>absurd (H' i hi (Nat.le_refl _)) H⟩
      have good:(ptB s.Turns[i]=true/\(0 < i->cI (s.Turns[i - 1]'(by omega)) < cI s.Turns[i]))->∃ b,eU s k ((i+1:Nat):Int)=some b/\(b=true ↔ ∀ j (h:j < s.Turns.length),i <= j->ptB s.Turns[j]=true/\(0 < j->cI (s.Turns[j - 1]'(by omega)) < cI s.Turns[j])):=λ H=>by
        refine ⟨b,h1,h2.trans ⟨λ H' j hj hij=>?_,λ H' j hj hij=>H' j hj (by omega)⟩⟩
        rcases Nat.lt_or_ge i j with d | d
        · exact H' j hj (by omega)
        · obtain rfl:i=j:=by omega
          exact H
      have e0:bl (s.Turns[i]).Dir=cI s.Turns[i]:=rfl
      rw [e0]
      by_cases a:eJ (cI s.Turns[i])=true
      · rw [iN (by rw [a];simp)]
        by_cases n1:(s.Turns[i]).Next < 1
        · rw [iP (by simpa using n1)]
          exact bad True λ H=>by have:=H.1;simp [ptB] at this;omega
        · rw [iN (by simpa using n1)]
          by_cases n2:(s.Turns[i]).Next > 10000
          · rw [iP (by simpa using n2)]
            exact bad True λ H=>by have:=H.1;simp [ptB] at this;omega
          · rw [iN (by simpa using n2)]
            have ok:ptB s.Turns[i]=true:=by simp [ptB,a];omega
            by_cases z:i=0
            · subst z
              rw [iN (by simp)]
              exact good ⟨ok,λ h=>by omega⟩
            · rw [iP (decide_eq_true (by omega)),show IntKind.i64.wrap ((i:Int) - 1)=((i - 1:Nat):Int) from by rw [w64 (by omega) (by omega)];omega,bT (show i - 1 < s.Turns.length by omega)]
              simp only [bS]
              rw [Z4,show bl (s.Turns[i - 1]'(by omega)).Dir=cI (s.Turns[i - 1]'(by omega)) from rfl,e0]
              by_cases c:cI (s.Turns[i - 1]'(by omega)) < cI s.Turns[i]
              · rw [decide_eq_true c,iN (by simp)]
                exact good ⟨ok,λ _=>c⟩
              · rw [decide_eq_false c,iP (by rfl)]
                exact bad True λ H=>c (H.2 (by omega))
      · rw [iP (by simpa using a)]
        exact bad True λ H=>by have:=H.1;simp [ptB] at this;exact a this.1
    · rw [iN (by simpa using hi)]
      exact ⟨true,rfl,λ _ j hj hij=>by omega,λ _=>rfl⟩
theorem Pe(s:Sto)(hs:SmS s):∀ (k i:Nat),i <= s.Nodes.length->s.Nodes.length+1 <= i+k->∃ b,gD s k (i:Int)=some b/\(b=true ↔ (∀ j (h:j < s.Nodes.length),i <= j->pnB s.Nodes[j]=true/\(0 < j->key (s.Nodes[j - 1]'(by omega)) < key s.Nodes[j]))/\(∀ j (h:j < s.Turns.length),0 <= j->ptB s.Turns[j]=true/\(0 < j->cI (s.Turns[j - 1]'(by omega)) < cI s.Turns[j])))
  | 0,i,_,h=>by omega
  | k+1,i,h0,h=>by
    have hl:=hs.len
    unfold gD nF
    by_cases hi:i < s.Nodes.length
    · rw [iP (by simpa using hi),bT hi]
      simp only [bS]
      rw [EU _ (hs.sm _ (List.getElem_mem hi)),gL (by omega)]
      simp only [bS,if_true,Bool.false_eq_true,if_false]
      obtain ⟨b,h1,h2⟩:=Pe s hs k (i+1) (by omega) (by omega)
      by_cases a:pnB s.Nodes[i]=true
      · rw [iN (by rw [a];simp)]
        have good:(0 < i->key (s.Nodes[i - 1]'(by omega)) < key s.Nodes[i])->∃ b,gD s k ((i+1:Nat):Int)=some b/\(b=true ↔ (∀ j (h:j < s.Nodes.length),i <= j->pnB s.Nodes[j]=true/\(0 < j->key (s.Nodes[j - 1]'(by omega)) < key s.Nodes[j]))/\(∀ j (h:j < s.Turns.length),0 <= j->ptB s.Turns[j]=true/\(0 < j->cI (s.Turns[j - 1]'(by omega)) < cI s.Turns[j]))):=λ H=>by
          refine ⟨b,h1,h2.trans ⟨λ H'=>⟨λ j hj hij=>?_,H'.2⟩,λ H'=>⟨λ j hj hij=>H'.1 j hj (by omega),H'.2⟩⟩⟩
          rcases Nat.lt_or_ge i j with d | d
          · exact H'.1 j hj (by omega)
          · obtain rfl:i=j:=by omega
            exact ⟨a,H⟩
        by_cases z:i=0
        · subst z
          rw [iN (by simp)]
          exact good λ h=>by omega
        · rw [iP (decide_eq_true (by omega)),show IntKind.i64.wrap ((i:Int) - 1)=((i - 1:Nat):Int) from by rw [w64 (by omega) (by omega)];omega,bT (show i - 1 < s.Nodes.length by omega)]
          simp only [bS]
          rw [Z4,show bl (s.Nodes[i - 1]'(by omega)).Path=key (s.Nodes[i - 1]'(by omega)) from rfl,show bl (s.Nodes[i]).Path=key s.Nodes[i] from rfl]
          by_cases c:key (s.Nodes[i - 1]'(by omega)) < key s.Nodes[i]
          · rw [decide_eq_true c,iN (by simp)]
            exact good λ _=>c
          · rw [decide_eq_false c,iP (by rfl)]
            exact ⟨false,rfl,λ h=>by simp at h,λ H=>absurd ((H.1 i hi (Nat.le_refl _)).2 (by omega)) c⟩
      · rw [iP (by simpa using a)]
        exact ⟨false,rfl,λ h=>by simp at h,λ H=>absurd (H.1 i hi (Nat.le_refl _)).1 a⟩
    · rw [iN (by simpa using hi)]
      obtain ⟨b,h1,h2⟩:=Pd s hs (((s.Turns.length:Int) - 0:Int).toNat+1) 0 (by omega) (by omega)
      exact ⟨b,h1,h2.trans ⟨λ H=>⟨λ j hj hij=>by omega,H⟩,λ H=>H.2⟩⟩
theorem Jr{α:Type}(l:List α)(f:α->Bool):l.all f=true ↔ ∀ j (h:j < l.length),f l[j]=true:=by
  rw [List.all_eq_true]
  constructor
  · intro H j h;exact H _ (List.getElem_mem h)
  · intro H x hx
    obtain ⟨j,hj,rfl⟩:=List.mem_iff_getElem.1 hx
    exact H j hj
theorem Zf(s:Sto)(hs:SmS s):∃ b,yP s=some b/\(b=true ↔ eK s):=by
  obtain ⟨b,h1,h2⟩:=Pe s hs (((s.Nodes.length:Int) - 0:Int).toNat+1) 0 (by omega) (by omega)
  refine ⟨b,h1,h2.trans ⟨λ H=>⟨?_,?_,?_,?_⟩,λ H=>⟨λ j hj _=>⟨?_,?_⟩,λ j hj _=>⟨?_,?_⟩⟩⟩⟩
  · exact (Jr _ _).2 λ j hj=>(H.1 j hj (by omega)).1
  · exact (Da key _).1 λ j hj h0=>(H.1 j hj (by omega)).2 h0
  · exact (Jr _ _).2 λ j hj=>(H.2 j hj (by omega)).1
  · exact (Da cI _).1 λ j hj h0=>(H.2 j hj (by omega)).2 h0
  · exact (Jr _ _).1 H.nodes j hj
  · exact (Da key _).2 H.nsort j hj
  · exact (Jr _ _).1 H.turns j hj
  · exact (Da cI _).2 H.tsort j hj
theorem W9{α:Type}(κ:α->List UInt8)(l:List α)(d:List UInt8)(x:α)(hx:κ x=d)(hs:l.Pairwise (κ · < κ ·)):(l.filter (gLt κ d) ++ x::l.filter (gGt κ d)).Pairwise (κ · < κ ·):=by
  have g:∀ y ∈ l.filter (gGt κ d),d < κ y:=λ y hy=>by
    have h1:=(List.mem_filter.1 hy).2
    simp only [gGt,gLt,gEq,Bool.and_eq_true,Bool.not_eq_true',decide_eq_false_iff_not] at h1
    exact Pa h1.1 h1.2
  have f:∀ y ∈ l.filter (gLt κ d),κ y < d:=λ y hy=>by
    have h1:=(List.mem_filter.1 hy).2
    simpa [gLt] using h1
  refine List.pairwise_append.2 ⟨hs.filter _,List.pairwise_cons.2 ⟨λ y hy=>hx ▸ g y hy,hs.filter _⟩,λ a ha b hb=>?_⟩
  rcases List.mem_cons.1 hb with rfl | hb
  · exact hx ▸ f a ha
  · exact zT (f a ha) (g b hb)
theorem Ed{l:List Tn}(hs:l.Pairwise (cI · < cI ·))(d:List UInt8)(n:Int):(uV l d n).Pairwise (cI · < cI ·):=by
  unfold uV
  split
  · exact hs.filter _
  · exact W9 cI l d _ rfl hs
theorem Li{l:List Tn}{d:List UInt8}{n:Int}{t:Tn}(h:t ∈ uV l d n):t ∈ l∨(t= ⟨mk d,n⟩/\n ≠ 0):=by
  unfold uV at h
  split at h
  · exact .inl (List.mem_filter.1 h).1
  · rcases List.mem_append.1 h with h | h
    · exact .inl (List.mem_filter.1 h).1
    · rcases List.mem_cons.1 h with h | h
      · exact .inr ⟨h,by assumption⟩
      · exact .inl (List.mem_filter.1 h).1
theorem Pf{α:Type}(κ:α->List UInt8)(l:List α)(d:List UInt8):(l.filter (gLt κ d)).length+(l.filter (gGt κ d)).length <= l.length:=by
  induction l with
  | nil=>simp
  | cons x l ih=>
    rw [List.filter_cons,List.filter_cons]
    by_cases a:κ x < d
    · rw [iP (by simpa [gLt] using a),iN (by simp [gGt,gLt,a])];simp;omega
    · rw [iN (by simpa [gLt] using a)]
      split <;> simp <;> omega
theorem Lj(l:List Tn)(d:List UInt8)(n:Int):(uV l d n).length <= l.length+1:=by
  unfold uV
  split
  · have:=List.length_filter_le (λ t=>!gEq cI d t) l;omega
  · have:=Pf cI l d
    simp;omega
theorem Zg{l:List Nd}{x:Nd}(hs:l.Pairwise (key · < key ·))(hn:l.find? (isK (key x))=none):(Z9 x l).Pairwise (key · < key ·):=by
  rw [← Re hs hn]
  exact W9 key l _ x rfl hs
theorem eK.mk' {s:Sto} {l:List Nd} (S:eK s) (h1:∀ x ∈ l,pnB x=true) (h2:l.Pairwise (key · < key ·)):eK ⟨l,s.Turns⟩:=⟨List.all_eq_true.2 h1,h2,S.turns,S.tsort⟩
theorem CG(s:Sto)(p:Pt1)(S:eK s)(hm:x6 p=true):eK (doP s p).1/\(doP s p).1.Nodes.length <= s.Nodes.length+1/\(doP s p).1.Turns.length <= s.Turns.length+1/\(doP s p).2.Names.length <= s.Nodes.length:=by
  have hS:eK s/\s.Nodes.length <= s.Nodes.length+1/\s.Turns.length <= s.Turns.length+1/\([]:List BY).length <= s.Nodes.length:=⟨S,by omega,by omega,by simp⟩
  have hN:=λ x hx=>List.all_eq_true.1 S.nodes x hx
  have hfl:∀ f:Nd->Bool,eK ⟨s.Nodes.filter f,s.Turns⟩:=λ f=>S.mk' (λ x hx=>hN x (List.mem_filter.1 hx).1) (S.nsort.filter _)
  have hf:=(Be hm).1
  unfold wU at hf
  simp only [Bool.and_eq_true,decide_eq_true_eq] at hf
  unfold doP
  split
  · rename_i c
    obtain ⟨q,hq⟩:=Lh hm c
    have hu:upP (bl p.Path)=q:=by unfold upP;rw [hq];rfl
    unfold Vi
    rw [hu]
    cases hn:W8 (pop p) q (tG s.Turns q) with
    | none=>exact hS
    | some t=>
      obtain ⟨n1,n2⟩:=Wq (o:=pop p) hq hn
      simp only
      split
      · exact hS
      · rename_i hne
        have hfn:s.Nodes.find? (isK t)=none:=by
          rcases QF (s.Nodes.find? (isK t)) with h | ⟨x,h⟩
          · exact h
          · rw [h] at hne;exact absurd rfl hne
        obtain ⟨ps,a,hp1,_⟩:=Jo n1
        have tok:eJ t=true:=by unfold eJ;rw [hp1];rfl
        obtain ⟨_,_,_,_,hp2,_⟩:=Jo hq
        have qok:eJ q=true:=by unfold eJ;rw [hp2];rfl
        have hns:eK ⟨Z9 ⟨mk t,p.Data,0,0,p.Owner⟩ s.Nodes,s.Turns⟩:=S.mk' (λ x hx=>by
            rcases QR.1 hx with rfl | hx
            · unfold pnB wU
              simp only [lG,tok]
              simp
              exact ⟨hf.1.1.2,hf.2⟩
            · exact hN x hx) (Zg (x:=(⟨mk t,p.Data,0,0,p.Owner⟩:Nd)) S.nsort hfn)
        have hil:=IM (⟨mk t,p.Data,0,0,p.Owner⟩:Nd) s.Nodes
        cases hT:p.Turns with
        | false=>exact ⟨hns,by simp only;omega,by simp,by simp [res]⟩
        | true=>
          have n3:=n2 hT
          refine ⟨⟨hns.nodes,hns.nsort,List.all_eq_true.2 λ y hy=>?_,Ed S.tsort _ _⟩,by simp only;omega,Lj _ _ _,by simp [res]⟩
          rcases Li hy with hy | ⟨rfl,_⟩
          · exact List.all_eq_true.1 S.turns y hy
          · unfold ptB
            simp only [cI,lG,qok,Bool.true_and,decide_eq_true_eq]
            omega
  split
  · split
    · exact hS
    · refine ⟨⟨S.nodes,S.nsort,List.all_eq_true.2 λ y hy=>?_,Ed S.tsort (bl p.Path) 0⟩,by simp,Lj s.Turns (bl p.Path) 0,by simp [res]⟩
      rcases Li (show y ∈ uV s.Turns (bl p.Path) 0 from hy) with hy | ⟨rfl,h⟩
      · exact List.all_eq_true.1 S.turns y hy
      · exact absurd rfl h
  split
  · exact ⟨S,by simp,by simp,by simp only [List.length_map];exact List.length_filter_le _ _⟩
  split
  · exact ⟨hfl _,Nat.le_succ_of_le (List.length_filter_le _ _),by simp,by simp only [List.length_map];exact List.length_filter_le _ _⟩
  split
  · exact hS
  rename_i e0
  split
  · exact hS
  split
  · exact ⟨hfl _,Nat.le_succ_of_le (List.length_filter_le _ _),by simp,by simp [res]⟩
  split
  · split
    · exact hS
    · rename_i hv
      refine ⟨S.mk' (λ x hx=>?_) (Zc S.nsort _ (λ z=>rfl)),by simp only [IL];omega,by simp,by simp [res]⟩
      obtain ⟨z,hz,rfl⟩:=QS.1 hx
      have hzb:=hN z hz
      split
      · rename_i hk
        have hkz:key z=bl p.Path:=by simpa [isK] using hk
        have hnd:ndS s.Nodes p=(z,0):=by
          have h1:=EO S.nsort hz
          rw [hkz] at h1
          unfold ndS at e0 ⊢
          rw [h1] at e0 ⊢
          simp only at e0 ⊢
          split at e0
          · exact absurd (show (63:Int) ≠ 0 by decide) e0
          · rw [iN (by assumption)]
        rw [hnd] at hv
        have h2:=Rh S z hz
        simp only at hv
        have he:pnB (Ze p z)=(decide (z.Turn=0) && wU z.Path p.Data (z.Version+1) 0 z.Owner):=rfl
        rw [he]
        unfold pnB at hzb
        unfold wU at hzb ⊢
        simp only [Bool.and_eq_true,decide_eq_true_eq] at hzb ⊢
        exact ⟨hzb.1,⟨⟨hzb.2.1.1.1,by omega⟩,by omega⟩,hzb.2.2⟩
      · exact hzb
  split
  · exact hS
  split
  · exact hS
  · exact hS
theorem Fk{p:List UInt8}(h:eJ p=true):p.length <= 78:=by
  unfold eJ at h
  obtain ⟨ps,hp⟩:=Option.isSome_iff_exists.1 h
  exact O7 hp
theorem eK.sms {s:Sto} (S:eK s) (h1:s.Nodes.length <= 90000) (h2:s.Turns.length <= 90000):SmS s:=by
  refine ⟨λ x hx=>?_,λ t ht=>?_,h1,h2⟩
  · have:=List.all_eq_true.1 S.nodes x hx
    unfold pnB wU at this
    simp only [Bool.and_eq_true] at this
    have:=Fk this.2.1.1.1
    have e:(bl x.Path).length=(key x).length:=rfl
    omega
  · have:=List.all_eq_true.1 S.turns t ht
    unfold ptB at this
    simp only [Bool.and_eq_true] at this
    have:=Fk this.1
    omega
theorem Db(s:Sto)(k:Nat)(n i:Int)(hn:3000 <= n):iO s (k+1) n i=some true:=by
  unfold iO nG
  rw [iN (show ¬ decide (n < 3000)=true by simpa using hn),iP (decide_eq_true hn)]
  split <;> rfl
theorem Ri(s:Sto)(hn:s.Nodes.length <= 140737488351232)(hl:s.Turns.length < 3000):∀ (k i:Nat) (n:Int),0 <= n->n <= 6000->i <= s.Turns.length->s.Turns.length+2 <= i+k->∃ b,iO s k n (i:Int)=some b/\(b=false->(∀ j (h:j < s.Turns.length),i <= j->(cI s.Turns[j]).length < 3000)/\s.Nodes.length <= 1666/\Sm s.Nodes)
  | 0,i,n,_,_,_,h=>by omega
  | k+1,i,n,n0,n1,hi,h=>by
    by_cases c:3000 <= n
    · rw [Db s k n i c]
      exact ⟨true,rfl,λ h=>by cases h⟩
    · unfold iO
      by_cases hj:i < s.Turns.length
      · rw [iP (by simpa using hj),iP (by simp;omega),bT hj]
        simp only [bS]
        have z:((s.Turns[i]).Dir.size:Int)=((cI s.Turns[i]).length:Int):=by rw [eC];rfl
        rw [z,w64 (by omega) (by omega),gL (by omega)]
        by_cases d:(cI s.Turns[i]).length < 3000
        · obtain ⟨b,h1,h2⟩:=Ri s hn hl k (i+1) (n+min ((cI s.Turns[i]).length:Int) 3000) (by omega) (by omega) (by omega) (by omega)
          refine ⟨b,h1,λ hb=>⟨λ j hj hij=>?_,(h2 hb).2⟩⟩
          rcases Nat.lt_or_ge i j with e | e
          · exact (h2 hb).1 j hj (by omega)
          · obtain rfl:i=j:=by omega
            exact d
        · obtain ⟨k',rfl⟩:∃ k',k=k'+1:=⟨k - 1,by omega⟩
          rw [Db s k' _ _ (by omega)]
          exact ⟨true,rfl,λ h=>by cases h⟩
      · rw [iN (by simpa using hj)]
        unfold nG
        rw [iN (by simp;omega)]
        obtain ⟨b,h1,h2⟩:=EQ s.Nodes hn
        rw [h1]
        exact ⟨b,rfl,λ hb=>⟨λ j hj hij=>by omega,h2 hb⟩⟩
theorem Rj(s:Sto)(hn:s.Nodes.length <= 140737488351232):∃ b,qS s=some b/\(b=false->SmS s/\s.Nodes.length <= 1666/\s.Turns.length < 3000):=by
  unfold qS
  by_cases h:s.Turns.length < 3000
  · obtain ⟨b,h1,h2⟩:=Ri s hn h 3002 0 (s.Turns.length:Int) (by omega) (by omega) (by omega) (by omega)
    refine ⟨b,h1,λ hb=>?_⟩
    obtain ⟨g1,g2,g3⟩:=h2 hb
    refine ⟨⟨g3,λ t ht=>?_,by omega,by omega⟩,g2,h⟩
    obtain ⟨j,hj,rfl⟩:=List.mem_iff_getElem.1 ht
    have:=g1 j hj (by omega)
    omega
  · rw [Db s 3001 _ _ (by omega)]
    exact ⟨true,rfl,λ h=>by cases h⟩
theorem Vj(p:Pt1):∃ b,pW p=some b/\(b=false->(bl p.Dir).length <= 3000/\(bl p.Path).length <= 3000/\(bl p.Data).length <= 3000):=by
  unfold pW
  have a:=eC p.Dir
  have b:=eC p.Path
  have c:=eC p.Data
  by_cases h1:(p.Dir.size:Int) > 3000
  · rw [iP (decide_eq_true h1)];exact ⟨true,rfl,λ h=>by cases h⟩
  · rw [iN (by simpa using h1)]
    by_cases h2:(p.Path.size:Int) > 3000
    · rw [iP (decide_eq_true h2)];exact ⟨true,rfl,λ h=>by cases h⟩
    · rw [iN (by simpa using h2)]
      refine ⟨_,rfl,λ h=>?_⟩
      simp only [decide_eq_false_iff_not] at h
      omega
def SmP(l:List Pie):Prop:=∀ x ∈ l,(bl x.Part.Path).length <= 3000
theorem Ee(l:List Pie)(hl:l.length <= 60):∀ (k i:Nat),i <= l.length->l.length+1 <= i+k->∃ b,iR l k (i:Int)=some b/\(b=false->∀ j (h:j < l.length),i <= j->(bl (l[j]).Part.Path).length <= 3000)
  | 0,i,_,h=>by omega
  | k+1,i,h0,h=>by
    unfold iR
    by_cases hi:i < l.length
    · rw [iP (by simpa using hi),bT hi]
      simp only [bS]
      obtain ⟨b,h1,h2⟩:=Vj (l[i]).Part
      rw [h1]
      simp only [bS]
      cases b with
      | true=>rw [iP rfl];exact ⟨true,rfl,λ h=>by cases h⟩
      | false=>
        rw [iN (by simp),gL (by omega)]
        obtain ⟨b',h3,h4⟩:=Ee l hl k (i+1) (by omega) (by omega)
        refine ⟨b',h3,λ hb j hj hij=>?_⟩
        rcases Nat.lt_or_ge i j with c | c
        · exact h4 hb j hj (by omega)
        · obtain rfl:i=j:=by omega
          exact (h2 rfl).2.1
    · rw [iN (by simpa using hi)]
      exact ⟨false,rfl,λ _ j hj hij=>by omega⟩
theorem Qo(l:List Pie):∃ b,nX l=some b/\(b=false->l.length <= 60/\SmP l):=by
  unfold nX
  by_cases h:l.length <= 60
  · rw [iN (by simp;omega)]
    obtain ⟨b,h1,h2⟩:=Ee l h (((l.length:Int) - 0:Int).toNat+1) 0 (by omega) (by omega)
    refine ⟨b,h1,λ hb=>⟨h,λ o ho=>?_⟩⟩
    obtain ⟨j,hj,rfl⟩:=List.mem_iff_getElem.1 ho
    exact h2 hb j hj (by omega)
  · rw [iP (by simp;omega)]
    exact ⟨true,rfl,λ h=>by cases h⟩
set_option maxRecDepth 100000 in
theorem EV:I3=some true:=by kernel_rfl
theorem QG{n:Int}(h:-9223372036854775808 <= n)(h':n <= 9223372036854775807):IntKind.i64.wrap n=n:=IntWalk.i64_in n ⟨h,h'⟩
theorem QH{i:Nat}(h:i <= 1000000000):IntKind.i64.wrap ((i:Int)+1)=((i+1:Nat):Int):=by rw [QG (by omega) (by omega)];omega
theorem QI{α:Type}{l:List α}{i:Nat}(h:i < l.length):idx l (i:Int)=some l[i]:=by simp [idx,h]
def wA(n:Int):Bool:=decide (0 <= n) && decide (n <= 281474976710656)
theorem Rk(l:List Int)(hl:l.length <= 1000000):∀ (k i:Nat),i <= l.length->l.length+1 <= i+k->lK l k (i:Int)=some ((l.drop i).all wA)
  | 0,i,_,h=>by omega
  | k+1,i,h0,h=>by
    unfold lK
    by_cases hi:i < l.length
    · rw [iP (by simpa using hi),QI hi,List.drop_eq_getElem_cons hi]
      simp only [bS,List.all_cons]
      have ih:=Rk l hl k (i+1) (by omega) (by omega)
      unfold wA at ih ⊢
      by_cases h1:l[i] < 0
      · rw [iP (by simpa using h1),decide_eq_false (show ¬ 0 <= l[i] by omega)]
        simp [qT]
      · rw [iN (by simpa using h1),decide_eq_true (show 0 <= l[i] by omega)]
        unfold qT
        by_cases h2:l[i] > 281474976710656
        · rw [iP (by simpa using h2),decide_eq_false (show ¬ l[i] <= 281474976710656 by omega)];simp
        · rw [iN (by simpa using h2),decide_eq_true (show l[i] <= 281474976710656 by omega),QH (by omega),ih];simp
    · rw [iN (by simpa using hi),List.drop_eq_nil_of_le (by omega)];rfl
theorem Rl(l:List Int)(hl:l.length <= 1000000):yH l=some (l.all wA):=by
  unfold yH
  exact Rk l hl _ 0 (by omega) (by omega)
theorem EW{n:Int}(h1:0 <= n)(h2:n <= 281474976710656):(kyI .i64).ok n=true:=by
  simp only [kyI,Lit.wf,Bool.and_eq_true,decide_eq_true_eq]
  have a:IntKind.i64.min= -9223372036854775808:=by decide
  have b:IntKind.i64.max=9223372036854775807:=by decide
  omega
abbrev Cmd:=aK
def Ca:Int->List Pie->Bool
  | _,[]=>true
  | last,x::l=>decide (last <= x.Op) && (decide (x.Op < 8) && (x6 x.Part && (decide (x.Part.Version < 281474976710656) && Ca x.Op l)))
theorem Vk(c:Cmd)(hl:c.Pieces.length <= 1000000):∀ (k i:Nat) (last:Int),i <= c.Pieces.length->c.Pieces.length+1 <= i+k->hB c k last (i:Int)=if Ca last (c.Pieces.drop i)=true then fM c (((c.Gone.length:Int) - 0:Int).toNat+1) 0 else some false
  | 0,i,last,_,h=>by omega
  | k+1,i,last,h0,h=>by
    unfold hB
    by_cases hi:i < c.Pieces.length
    · rw [iP (by simpa using hi),bT hi,List.drop_eq_getElem_cons hi]
      simp only [bS]
      unfold Ca oT
      by_cases a:(c.Pieces[i]).Op < last
      · rw [iP (by simpa using a),decide_eq_false (by omega)];simp
      · rw [iN (by simpa using a),decide_eq_true (show last <= (c.Pieces[i]).Op by omega)]
        by_cases b:(c.Pieces[i]).Op < 8
        · rw [iN (by simp;omega),decide_eq_true b,Pb]
          simp only [bS]
          cases m:x6 (c.Pieces[i]).Part with
          | false=>rw [iP (by rfl)];simp
          | true=>
            rw [iN (by simp)]
            by_cases v:(c.Pieces[i]).Part.Version < 281474976710656
            · rw [iN (by simp;omega),decide_eq_true v,gL (by omega),Vk c hl k (i+1) _ (by omega) (by omega)]
              simp
            · rw [iP (by simp;omega),decide_eq_false v];simp
        · rw [iP (by simp;omega),decide_eq_false b];simp
    · rw [iN (by simpa using hi),List.drop_eq_nil_of_le (by omega)]
      simp [Ca]
section
variable (a:List Nd) (b:List Tn) (c:List aF) (d:List aQ) (f:List aO) (g:List aE) (x:List (Int×aX)) (y:List (Int×gC)) (z:List (Int×aX))
abbrev sG (e:Int):aX:=⟨e,0,false,0,[],(⟨[],[]⟩:aR),[],[],[]⟩
end
/-! ### the directories of pieces -/
theorem Xr(l:List Pie)(hl:l.length <= 1000000):∀ (k i:Nat) (acc:List BY),i <= l.length->l.length+1 <= i+k->acc.length=i->wP l k acc (i:Int)=some (sM (xK (acc ++ (l.drop i).map λ p=>p.Part.Dir)))
  | 0,i,acc,_,h,_=>by omega
  | k+1,i,acc,h0,h,ha=>by
    unfold wP
    by_cases hi:i < l.length
    · rw [iP (by simpa using hi),bT hi]
      simp only [bS]
      rw [dK (by simp [LIM];omega),gL (by omega),Xr l hl k (i+1) _ (by omega) (by omega) (by simp [ha]),List.drop_eq_getElem_cons hi,List.map_cons,List.append_assoc,List.singleton_append]
    · rw [iN (by simpa using hi),dK (by omega),dK (by rw [Bs];omega),List.drop_eq_nil_of_le (by omega)]
      simp
theorem Xs(l:List Pie)(hl:l.length <= 1000000):w4 l=some (sM (xK (l.map λ p=>p.Part.Dir))):=by
  unfold w4
  exact (Xr l hl _ 0 [] (by omega) (by omega) rfl).trans (by simp)
theorem Wr{α:Type} [Inhabited α] [DecidableEq α] {zs:List α} {x:α} (h:x ∈ Lib.compact zs):x ∈ zs:=by
  unfold Lib.compact Lib.compactUpTo at h
  obtain ⟨i,hi,rfl⟩:=List.mem_map.1 h
  have hi':i < zs.length:=List.mem_range.1 (List.mem_filter.1 hi).1
  simp [getElem!_pos,hi']
theorem EX{L:List BY}{d:BY}(h:d ∈ sM (xK L)):d ∈ L:=by
  unfold sM xK at h
  rw [Cg] at h
  obtain ⟨s,hs,rfl⟩:=List.mem_map.1 h
  have h2:=(Ad _).mem_iff.1 (Wr hs)
  obtain ⟨t,ht,rfl⟩:=List.mem_map.1 h2
  exact ht
theorem EY(L:List BY):(sM (xK L)).length <= L.length:=by
  unfold sM
  rw [List.length_map]
  refine Nat.le_trans ?_ (Nat.le_of_eq (show ((xK L).map toL).length=L.length by rw [List.length_map,Bs]))
  unfold Lib.compact Lib.compactUpTo
  rw [List.length_map]
  exact Nat.le_trans (List.length_filter_le _ _) (by simp)
/-! ### the root's range -/
/-! ### nobody watches -/
def Js(r:Res):Prop:=r.Names.length <= 1000000/\∀ n ∈ r.Names,(bl n).length <= 12
/-! ### all of a list of pieces -/
theorem CH(x:Nd):(bl (M7 x)).length <= 12:=by
  show (bl (mk (A7 (bl x.Path)))).length <= 12
  rw [lG]
  exact Va _
theorem CI(s:Sto)(p:Pt1):∀ n ∈ (doP s p).2.Names,(bl n).length <= 12:=by
  have key:∀ (f:Nd->Bool) (n:BY),n ∈ (s.Nodes.filter f).map M7->(bl n).length <= 12:=λ f n hn=>by
    obtain ⟨x,_,rfl⟩:=List.mem_map.1 hn
    exact CH x
  intro n hn
  unfold doP Vi at hn
  repeat' split at hn
  all_goals first | exact key _ n hn | exact absurd hn (by simp [res])
def nR(s0:Sto):Nat->Sto->List Res->List Pie->Sto×List Res×Int×Int
  | _,s,acc,[]=>(s,acc,0,0)
  | i,s,acc,p::l=>if (doP s p.Part).2.Err ≠ 0 then (s0,[],(doP s p.Part).2.Err,(i:Int)) else nR s0 (i+1) (doP s p.Part).1 (acc ++ [(doP s p.Part).2]) l
theorem CJ(s0:Sto)(l:List Pie)(hl:l.length <= 1000)(hm:∀ p ∈ l,x6 p.Part=true):∀ (k i:Nat) (s:Sto) (acc:List Res),eK s->s.Nodes.length <= 50000+i->s.Turns.length <= 50000+i->i <= l.length->l.length+1 <= i+k->acc.length=i->(∀ x ∈ acc,Js x)->
    xV l s0 k acc (i:Int) s.Nodes s.Turns=some (nR s0 i s acc (l.drop i))/\((nR s0 i s acc (l.drop i)).2.2.1=0->eK (nR s0 i s acc (l.drop i)).1/\(nR s0 i s acc (l.drop i)).1.Nodes.length <= 51000/\(nR s0 i s acc (l.drop i)).1.Turns.length <= 51000/\(nR s0 i s acc (l.drop i)).2.1.length=l.length/\∀ x ∈ (nR s0 i s acc (l.drop i)).2.1,Js x)
  | 0,i,s,acc,_,_,_,_,h,_,_=>by omega
  | k+1,i,s,acc,S,hn,ht,h0,h,ha,hx=>by
    unfold xV
    by_cases hi:i < l.length
    · rw [iP (by simpa using hi),bT hi,List.drop_eq_getElem_cons hi]
      simp only [bS]
      have m:=hm _ (List.getElem_mem hi)
      rw [show (⟨s.Nodes,s.Turns⟩:Sto)=s from rfl,CE s _ (by omega) (by omega) S m]
      simp only [bS]
      unfold nR
      by_cases e:(doP s (l[i]).Part).2.Err=0
      · obtain ⟨g1,g2,g3,g4⟩:=CG s (l[i]).Part S m
        rw [iN (by simpa using e),iN (by simpa using e),dK (by simp [LIM];omega),gL (by omega)]
        exact CJ s0 l hl hm k (i+1) _ _ g1 (by omega) (by omega) (by omega) (by omega) (by simp [ha]) (λ x h'=>by
          rcases List.mem_append.1 h' with h' | h'
          · exact hx x h'
          · rw [List.mem_singleton.1 h'];exact ⟨by omega,CI _ _⟩)
      · rw [iP (by simpa using e),iP e]
        exact ⟨rfl,λ h=>absurd h e⟩
    · rw [iN (by simpa using hi),List.drop_eq_nil_of_le (by omega)]
      unfold nR
      exact ⟨rfl,λ _=>⟨S,by simp only;omega,by simp only;omega,by simp only;omega,hx⟩⟩
theorem Lk(s:Sto)(l:List Pie)(S:eK s)(hn:s.Nodes.length <= 50000)(ht:s.Turns.length <= 50000)(hl:l.length <= 1000)(hm:∀ p ∈ l,x6 p.Part=true) :
    D3 s l=some (nR s 0 s [] l)/\((nR s 0 s [] l).2.2.1=0->eK (nR s 0 s [] l).1/\(nR s 0 s [] l).1.Nodes.length <= 51000/\(nR s 0 s [] l).1.Turns.length <= 51000/\(nR s 0 s [] l).2.1.length=l.length/\∀ x ∈ (nR s 0 s [] l).2.1,Js x):=by
  unfold D3
  exact CJ s l hl hm _ 0 s [] S (by omega) (by omega) (by omega) (by omega) rfl (by simp)
theorem Rm:∀ (l:List Pie) (last:Int),Ca last l=true->∀ p ∈ l,x6 p.Part=true/\p.Part.Version < 281474976710656
  | [],_,_,p,hp=>by simp at hp
  | x::l,last,h,p,hp=>by
    unfold Ca at h
    simp only [Bool.and_eq_true,decide_eq_true_eq] at h
    rcases List.mem_cons.1 hp with rfl | hp
    · exact ⟨h.2.2.1,h.2.2.2.1⟩
    · exact Rm l _ h.2.2.2.2 p hp
theorem IV{l:List Pie}(h:∀ p ∈ l,x6 p.Part=true):∀ d ∈ sM (xK (l.map λ p=>p.Part.Dir)),eJ (bl d)=true:=by
  intro d hd
  obtain ⟨p,hp,rfl⟩:=List.mem_map.1 (EX hd)
  have m:=h p hp
  rw [(Be m).2.1]
  have q:=Rf m
  unfold Ai
  split
  · exact q
  · unfold upP
    cases hq:pU (bl p.Part.Path) with
    | none=>rfl
    | some q'=>
      obtain ⟨ps,t,h1,h2,h3,_⟩:=Jo hq
      unfold eJ
      rw [show (some q').getD [47]=q' from rfl,h3]
      rfl
/-! ### nobody holds -/
/-- what all of the pieces come to, as an answer and a store. -/
def Zh(s:Sto)(l:List Pie):aX:=if (nR s 0 s [] l).2.2.1 ≠ 0 then ⟨(nR s 0 s [] l).2.2.1,(nR s 0 s [] l).2.2.2,false,0,[],⟨[],[]⟩,[],[],[]⟩ else ⟨0,0,false,0,(nR s 0 s [] l).2.1,⟨[],[]⟩,[],[],[]⟩
def Dc(s:Sto)(l:List Pie):Sto:=if (nR s 0 s [] l).2.2.1 ≠ 0 then s else (nR s 0 s [] l).1
theorem ND(s:Sto)(h1:s.Nodes.length <= 1000000)(h2:s.Turns.length <= 1000000):qX s.Nodes s.Turns=some s:=by
  unfold qX
  rw [dK (by simp [LIM];omega),dK (by simp [LIM];omega)]
end Go.Cb
