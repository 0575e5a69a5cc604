/- The plain laws. -/
import Derived.Test.YteakhlfapjaodaaGreatDoorAso2
import Derived.Test.YteakhlfapjaodaaGreatDoorKso1
import Derived.Test.YteakhlfapjaodaaGreatDoorKso2
import Derived.Test.YteakhlfapjaodaaGreatDoorKso4
import Derived.Test.YteakhlfapjaodaaGreatDoorKso3
import Derived.Sort.Walk0
import Derived.ChangeKeysEq
set_option linter.unusedVariables false
set_option linter.unusedSimpArgs false
namespace Go.Cb
open Go.Proofs Go.RowKit
theorem w64{n:Int}(h:-9223372036854775808 <= n)(h':n <= 9223372036854775807):IntKind.i64.wrap n=n:=IntWalk.i64_in n ⟨h,h'⟩
theorem dO{α:Type}{p:Prop} [Decidable p] (h:p) (f:Unit->Option α):(ck p).bind f=f ():=by simp [ck,h]
theorem bV{α:Type}{l:List α}{i:Nat}(h:i < l.length):idx l (i:Int)=some l[i]:=by simp [idx,h]
theorem FT{α β:Type}{l:List α}{i:Nat}{x:α}(h:l[i]? =some x)(f:α->Option β):(idx l (i:Int)).bind f=f x:=by simp [idx,h]
def bl(s:ByteArray):List UInt8:=s.data.toList
theorem dl(s:ByteArray):s.data.toList=bl s:=rfl
theorem MZ{s:ByteArray}{i:Nat}(h:i < (bl s).length):idx s.data.toList (i:Int)=some (bl s)[i]:=bV h
def mk(l:List UInt8):ByteArray:=⟨l.toArray⟩
theorem kY(l:List UInt8):bl (mk l)=l:=rfl
theorem Fe(s:ByteArray):mk (bl s)=s:=by cases s;simp [mk,bl]
theorem L8{s t:ByteArray}(h:bl s=bl t):s=t:=by rw [← Fe s,h,Fe]
theorem Ii(s t:ByteArray):bl (s ++ t)=bl s ++ bl t:=by simp [bl,ByteArray.data_append]
theorem gC(s:ByteArray):s.size=(bl s).length:=by simp [bl]
theorem yW(s:ByteArray)(i j:Nat):bl (s.extract i j)=((bl s).take j).drop i:=by
  unfold bl
  rw [ByteArray.data_extract]
  simp [Array.toList_extract,List.extract_eq_take_drop,List.drop_take]
theorem Dz(x y:ByteArray):sEq x y=true ↔ x=y:=by
  unfold sEq
  rw [ByteArray.toList_eq,ByteArray.toList_eq,beq_iff_eq]
  constructor
  · intro h;cases x;cases y;simp at h;simp [h]
  · rintro rfl;rfl
theorem qV(x y:ByteArray):sEq x y=decide (bl x=bl y):=by
  rw [Bool.eq_iff_iff,Dz]
  simp only [decide_eq_true_eq]
  exact ⟨λ h=>by rw [h],L8⟩
theorem Oj(x y:ByteArray):sLt x y=decide (bl x < bl y):=by
  unfold sLt
  rw [Go.Proofs.bytesLess_eq,ByteArray.toList_eq,ByteArray.toList_eq]
  rfl

def Md(c:UInt8):Bool:=(decide (97 <= c.toNat) && decide (c.toNat <= 122)) || (decide (48 <= c.toNat) && decide (c.toNat <= 57)) || decide (c.toNat=45)
def iL(l:List UInt8):Bool:=!l.isEmpty && decide (l.length <= 12) && l.all Md
def letters:ByteArray:=⟨#[97,98,99,100,101,102,103,104,105,106,107,108,109,110,111,112,113,114,115,116,117,118,119,120,121,122,48,49,50,51,52,53,54,55,56,57,45]⟩
theorem EA:∀ r:Fin 128,A5 (r.val:Int)=some (!Md (UInt8.ofNat r.val)):=by decide +kernel
theorem EB:∀ (i:Fin 3) (c:Fin 128),ixB (letters.extract (i.val+2) 37) ((c.val:Int)+128)= -1:=by decide +kernel
theorem We:∀ i:Fin 37,((letters.data.toList[i.val]!).toNat < 128):=by decide +kernel
theorem EC(x:Int)(h:128 <= x):∃ (n:Fin 3) (c:Fin 128),(Utf8.encode x).size=n.val+2/\(Utf8.encode x).data.toList[n.val+1]? =some (UInt8.ofNat (c.val+128)):=by
  unfold Utf8.encode
  generalize hc:(if Utf8.valid x=true then x.toNat else Utf8.runeError)=c
  have h128:128 <= c:=by
    rw [← hc];split
    · omega
    · decide
  simp only
  rw [iN (by omega)]
  split
  · exact ⟨0,⟨c % 64,by omega⟩,rfl,by simp [Nat.add_comm]⟩
  · split
    · exact ⟨1,⟨c % 64,by omega⟩,rfl,by simp [Nat.add_comm]⟩
    · exact ⟨2,⟨c % 64,by omega⟩,rfl,by simp [Nat.add_comm]⟩
theorem BE(r:Int)(h:128 <= r):A5 r=some true:=by
  have key:tI letters r=some (-1):=by
    unfold tI qM
    rw [iP (by simp;omega),show decide (r < 128)=false from by simp;omega]
    simp only [Bool.false_eq_true,if_false]
    by_cases e:r=65533
    · subst e;kernel_rfl
    · rw [iN (by simp;exact e)]
      have hv:∃ b,oD r=some b:=by
        unfold oD lN lM
        split <;> (try split) <;> (try split) <;> (try split) <;> exact ⟨_,rfl⟩
      obtain ⟨b,hb⟩:=hv
      rw [hb]
      simp only [bS]
      split
      · rfl
      · obtain ⟨n,c,hs,hl⟩:=EC r h
        have hn:=n.isLt
        have hcl:=c.isLt
        unfold uJ
        have e1:IntKind.i64.wrap (((Utf8.encode r).size:Int) - 1)=((n.val+1:Nat):Int):=by rw [hs,w64 (by omega) (by omega)];omega
        rw [e1]
        have e2:(letters.size:Int)=37:=rfl
        rw [iP (by rw [e2];simp;omega)]
        have hll:n.val+1 < letters.data.toList.length:=by show n.val+1 < 37;omega
        rw [bV hll]
        simp only [bS]
        rw [FT hl]
        have e3:(UInt8.ofNat (c.val+128)).toNat=c.val+128:=by simp;omega
        rw [e3]
        have h7:=We ⟨n.val+1,by omega⟩
        rw [getElem!_pos letters.data.toList (n.val+1) hll] at h7
        rw [iP (by simp only [bne_iff_ne,ne_eq];omega)]
        have e4:IntKind.i64.wrap (((n.val+1:Nat):Int)+1)=((n.val+2:Nat):Int):=by rw [w64 (by omega) (by omega)];omega
        rw [e4,dO (by rw [e2];omega),FT hl,e3]
        have e5:kQ (letters.extract ((n.val+2:Nat):Int).toNat letters.size) (((c.val+128:Nat)):Int)=some (-1):=by
          show some (ixB (letters.extract (n.val+2) 37) (((c.val+128:Nat)):Int))=_
          rw [show (((c.val+128:Nat)):Int)=(c.val:Int)+128 from by omega,EB n c]
        rw [e5]
        rfl
  show (qN letters r).bind _=_
  unfold qN
  rw [key]
  rfl
theorem ID{s:ByteArray}{i:Nat}{c:UInt8}(h:(bl s)[i]? =some c)(hc:c.toNat < 128):Utf8.decode s i=(c.toNat,1):=by
  have hg:s.get! i=c:=by
    obtain ⟨hi,hx⟩:=List.getElem?_eq_some_iff.1 h
    cases s with | mk d=>
    show d[i]! =c
    rw [getElem!_pos d i (by simpa [bl] using hi)]
    exact hx
  unfold Utf8.decode
  simp only [Nat.add_zero,hg]
  rw [iP hc]
theorem ED{s:ByteArray}{i:Nat}{c:UInt8}(h:(bl s)[i]? =some c)(hc:128 <= c.toNat):128 <= (Utf8.decode s i).1:=by
  have hg:s.get! i=c:=by
    obtain ⟨hi,hx⟩:=List.getElem?_eq_some_iff.1 h
    cases s with | mk d=>
    show d[i]! =c
    rw [getElem!_pos d i (by simpa [bl] using hi)]
    exact hx
  unfold Utf8.decode
  simp only [Nat.add_zero,hg]
  rw [iN (by omega)]
  have e:Utf8.runeError=65533:=rfl
  split
  · split
    · simp;omega
    · show 128 <= Utf8.runeError;rw [e];omega
  · split
    · split
      · rename_i h;simp at h;simp;omega
      · show 128 <= Utf8.runeError;rw [e];omega
    · split
      · split
        · rename_i h;simp at h;simp;omega
        · show 128 <= Utf8.runeError;rw [e];omega
      · show 128 <= Utf8.runeError;rw [e];omega
theorem EE{c:UInt8}(h:128 <= c.toNat):Md c=false:=by simp [Md];omega
theorem BF(s:ByteArray):∀ (k i:Nat),i <= (bl s).length->(bl s).length+1 <= i+k->∃ v:Int,mO s true k i=some v/\(decide (v ≥ 0)= !((bl s).drop i).all Md)
  | 0,i,h0,h=>by omega
  | k+1,i,h0,h=>by
    unfold mO
    by_cases hi:i < (bl s).length
    · rw [iP (by rw [gC];simpa using hi)]
      have hx:(bl s)[i]? =some (bl s)[i]:=List.getElem?_eq_getElem hi
      have hd:(bl s).drop i=(bl s)[i]::(bl s).drop (i+1):=List.drop_eq_getElem_cons hi
      by_cases hc:((bl s)[i]).toNat < 128
      · rw [ID hx hc]
        have:=EA ⟨_,hc⟩
        simp only at this
        rw [this]
        simp only [bS,UInt8.ofNat_toNat]
        by_cases hl:Md (bl s)[i]=true
        · rw [hl]
          simp only [Bool.not_true,Bool.false_beq,Bool.not_true,Bool.false_eq_true,if_false]
          obtain ⟨v,h1,h2⟩:=BF s k (i+1) (by omega) (by omega)
          exact ⟨v,h1,by rw [h2,hd,List.all_cons,hl,Bool.true_and]⟩
        · simp only [Bool.not_eq_true] at hl
          rw [hl]
          exact ⟨_,rfl,by rw [hd,List.all_cons,hl];simp⟩
      · rw [BE _ (by have:=ED hx (by omega);omega)]
        exact ⟨_,rfl,by rw [hd,List.all_cons,EE (by omega)];simp⟩
    · rw [iN (by rw [gC];simpa using hi)]
      exact ⟨_,rfl,by rw [List.drop_eq_nil_of_le (by omega)];rfl⟩
theorem emp:bl (ByteArray.mk #[])= []:=rfl
theorem Pw:bl (ByteArray.mk #[47])= [47]:=rfl
theorem Jf(s:ByteArray):zB s=some (iL (bl s)):=by
  unfold zB uK xX xW
  obtain ⟨v,h1,h2⟩:=BF s (s.size+2) 0 (by omega) (by rw [gC];omega)
  rw [h1]
  simp only [bS,h2,List.drop_zero,Bool.not_not,qV,emp]
  unfold iL
  have e:(s.size:Int) <= 12 ↔ (bl s).length <= 12:=by rw [gC];omega
  by_cases h0:bl s= []
  · rw [iN (by simp [h0])];simp [h0]
  · rw [iP (by simp [h0])]
    have h0':(bl s).isEmpty=false:=by cases hz:bl s with | nil=>exact absurd hz h0 | cons _ _=>rfl
    by_cases h1:(bl s).length <= 12
    · rw [iP (by simp only [decide_eq_true_eq];exact e.2 h1)];simp [h0',h1]
    · rw [iN (by simp only [decide_eq_true_eq];exact λ h=>h1 (e.1 h))];simp [h0',h1]
def mH:List UInt8->List (List UInt8)
  | []=>[[]]
  | c::r=>if c=47 then []::mH r else (c::(mH r).head!)::(mH r).tail
theorem c47{c:UInt8}(h:c ≠ 47):c.toNat ≠ 47:=λ e=>h (UInt8.toNat_inj.1 e)
theorem IE(r:List UInt8):mH (47::r)= []::mH r:=by rw [mH,iP rfl]
theorem BG{c:UInt8}(h:c ≠ 47)(r:List UInt8):mH (c::r)=(c::(mH r).head!)::(mH r).tail:=by rw [mH,iN h]
theorem Wx(l:List UInt8):mH l ≠ []:=by
  cases l with
  | nil=>simp [mH]
  | cons c r=>unfold mH;split <;> simp
/-- what lies ahead of the first '/', what lies behind. -/
theorem G9:∀ (l:List UInt8),47 ∉ l->mH l= [l]
  | [],_=>rfl
  | c::r,h=>by
    simp at h
    rw [BG (λ e=>h.1 e.symm),G9 r h.2]
    rfl
theorem Ay:∀ (a b:List UInt8),47 ∉ a->mH (a ++ 47::b)=a::mH b
  | [],b,_=>IE b
  | c::r,b,h=>by
    simp at h
    show mH (c::(r ++ 47::b))=_
    rw [BG (λ e=>h.1 e.symm),Ay r b h.2]
    rfl
theorem Me(l:List UInt8):47 ∉ l∨∃ a b,l=a ++ 47::b/\47 ∉ a:=by
  induction l with
  | nil=>exact .inl (by simp)
  | cons c r ih=>
    by_cases hc:c=47
    · exact .inr ⟨[],r,by rw [hc];rfl,by simp⟩
    · rcases ih with h | ⟨a,b,rfl,h⟩
      · exact .inl (by simp;exact ⟨λ e=>hc e.symm,h⟩)
      · exact .inr ⟨c::a,b,rfl,by simp;exact ⟨λ e=>hc e.symm,h⟩⟩
def fQ(ps:List (List UInt8)):List UInt8:=ps.flatMap (47::·)
def pB(ps:List (List UInt8)):List UInt8:=if ps= [] then [47] else fQ ps
theorem Ea{l:List UInt8}(h:iL l=true):47 ∉ l:=by
  intro hm
  unfold iL at h
  simp at h
  have:=h.2 47 hm
  simp [Md] at this
theorem Aj{l:List UInt8}(h:iL l=true):l ≠ []:=by
  rintro rfl
  simp [iL] at h
theorem Ff:∀ (a:List UInt8) (ps:List (List UInt8)),47 ∉ a->(∀ p ∈ ps,47 ∉ p)->mH (a ++ fQ ps)=a::ps
  | a,[],h,_=>by simp [fQ,G9 a h]
  | a,p::ps,h,hp=>by
    show mH (a ++ (47::(p ++ fQ ps)))=_
    rw [Ay a _ h,Ff p ps (hp p (by simp)) λ q hq=>hp q (by simp [hq])]
theorem Mf:∀ (n:Nat) (l:List UInt8),l.length <= n->fQ (mH l)=47::l
  | n,l,hn=>by
    rcases Me l with h | ⟨a,b,rfl,h⟩
    · rw [G9 l h];simp [fQ]
    · simp at hn
      rw [Ay a b h]
      cases n with
      | zero=>omega
      | succ n=>
        have:=Mf n b (by omega)
        show (47::a) ++ fQ (mH b)=_
        rw [this];simp

def parts:List UInt8->Option (List (List UInt8))
  | []=>none
  | c::r=>if c=47 then (if r= [] then some [] else if (mH r).all iL=true/\(mH r).length <= 6 then some (mH r) else none) else none
theorem jZ(p:List UInt8)(ps:List (List UInt8)):parts p=some ps ↔ p=pB ps/\ps.all iL=true/\ps.length <= 6:=by
  constructor
  · intro h
    cases p with
    | nil=>cases h
    | cons c r=>
      rw [parts] at h
      by_cases hc:c=47
      · subst hc
        rw [iP rfl] at h
        by_cases hr:r= []
        · rw [iP hr] at h
          cases h
          subst hr
          exact ⟨rfl,rfl,by simp⟩
        · rw [iN hr] at h
          by_cases h2:(mH r).all iL=true/\(mH r).length <= 6
          · rw [iP h2] at h
            cases h
            refine ⟨?_,h2.1,h2.2⟩
            unfold pB
            rw [iN (Wx r),Mf _ r (Nat.le_refl _)]
          · rw [iN h2] at h;cases h
      · rw [iN hc] at h;cases h
  · rintro ⟨rfl,h1,h2⟩
    cases ps with
    | nil=>rfl
    | cons t ts=>
      have h1':∀ q ∈ t::ts,iL q=true:=by simpa using h1
      have ht:mH (t ++ fQ ts)=t::ts:=Ff t ts (Ea (h1' t (by simp))) λ q hq=>Ea (h1' q (by simp [hq]))
      have hne:t ++ fQ ts ≠ []:=by
        intro e
        exact Aj (h1' t (by simp)) (List.append_eq_nil_iff.1 e).1
      rw [show pB (t::ts)=47::(t ++ fQ ts) from rfl,parts,iP rfl,iN hne,ht,iP ⟨h1,h2⟩]
def spl(p:ByteArray):List ByteArray×Bool:=match parts (bl p) with
  | some ps=>(ps.map mk,true)
  | none=>([],false)

theorem NA(s:ByteArray):kT s (ByteArray.mk #[47])=some (match bl s with | []=>(s,false) | c::r=>if c=47 then (mk r,true) else (s,false)):=by
  unfold kT iF iE
  have e1:((ByteArray.mk #[47]).size:Int)=1:=rfl
  rw [e1]
  have hs:=gC s
  cases hb:bl s with
  | nil=>
    rw [hb] at hs
    rw [iN (by rw [hs];simp)]
    rfl
  | cons c r=>
    rw [hb] at hs
    simp at hs
    rw [iP (by rw [hs];simp only [decide_eq_true_eq];omega),dO (by rw [hs];omega)]
    have e2:bl (s.extract 0 (1:Int).toNat)= [c]:=by rw [yW,hb];rfl
    simp only [bS]
    rw [qV,e2,Pw]
    by_cases hc:c=47
    · subst hc
      rw [iN (by simp),dO (by rw [hs];omega)]
      have e3:s.extract (1:Int).toNat s.size=mk r:=by
        apply L8
        rw [yW,hb,kY,hs]
        simp
      simp only [bS,e3]
      rfl
    · rw [iP (by simp;exact hc)]
      simp only [bS]
      rw [iN hc]
theorem EF{s:ByteArray}(h:47 ∉ bl s):kQ s 47=some (-1):=by
  show some (ixB s 47)=_
  congr 1
  unfold ixB
  have:(List.range s.size).find? (λ i=>s[i]! == (47:Int).toNat.toUInt8)=none:=by
    rw [List.find?_eq_none]
    intro i hi
    simp only [List.mem_range] at hi
    intro hx
    apply h
    have hi':i < (bl s).length:=by rw [← gC];exact hi
    have hx:s[i]! =47:=by simpa using hx
    rw [getElem!_pos s i hi] at hx
    have:(bl s)[i]=47:=hx
    rw [← this]
    exact List.getElem_mem _
  rw [this]
theorem EG{s:ByteArray}{a b:List UInt8}(hs:bl s=a ++ 47::b)(h:47 ∉ a):kQ s 47=some (a.length:Int):=by
  show some (ixB s 47)=_
  congr 1
  unfold ixB
  have hl:a.length < s.size:=by rw [gC,hs];simp
  have hat:∀ i (hi:i < s.size),s[i]! =(a ++ 47::b)[i]'(by rw [← hs,← gC];exact hi):=λ i hi=>by
    rw [getElem!_pos s i hi]
    have:(bl s)[i]'(by rw [← gC];exact hi)=(a ++ 47::b)[i]'(by rw [← hs,← gC];exact hi):=by simp only [hs]
    exact this
  have:(List.range s.size).find? (λ i=>s[i]! == (47:Int).toNat.toUInt8)=some a.length:=by
    rw [List.find?_range_eq_some]
    refine ⟨?_,List.mem_range.2 hl,λ j hj=>?_⟩
    · rw [hat _ hl];simp
    · rw [hat _ (by omega),List.getElem_append_left hj]
      simp
      intro e
      exact h (e ▸ List.getElem_mem _)
  rw [this]

theorem Mg:∀ (k:Nat) (s:ByteArray) (acc:List ByteArray),acc.length <= 6->(bl s).length+1 <= k->pU k s acc=some (match bl s with
    | []=>if acc= [] then ([],false) else (acc,true)
    | c::r=>if c=47 then (if (mH r).all iL=true/\acc.length+(mH r).length <= 6 then (acc ++ (mH r).map mk,true) else ([],false)) else ([],false))
  | 0,s,acc,_,h=>by omega
  | k+1,s,acc,ha,h=>by
    unfold pU
    rw [qV,emp]
    cases hb:bl s with
    | nil=>
      rw [iN (by simp)]
      cases acc with
      | nil=>rfl
      | cons x xs=>rw [iP (by simp),iN (by simp)]
    | cons c r=>
      rw [iP (by simp),NA s,hb]
      simp only [bS]
      by_cases hc:c=47
      · subst hc
        simp only [if_true,Bool.not_true,Bool.false_eq_true,if_false]
        have htl:1 <= (mH r).length:=by have:=Wx r;cases h:mH r with | nil=>exact absurd h this | cons _ _=>simp
        by_cases h6:acc.length=6
        · rw [iP (by simp;omega),iN (by rintro ⟨_,h⟩;omega)];rfl
        · rw [iN (by simp;omega)]
          have hrs:(mk r).size=r.length:=by rw [gC,kY]
          have hlen:(bl s).length=r.length+1:=by rw [hb];simp
          rcases Me r with hns | ⟨a,b,rfl,hns⟩
          · rw [EF (by rw [kY];exact hns)]
            simp only [bS]
            rw [iP (by decide)]
            unfold vO
            rw [hrs,dO (by omega),Jf,yW,kY]
            simp only [bS,Int.toNat_natCast,List.take_length,List.drop_zero]
            rw [G9 r hns]
            cases hp:iL r
            · simp [hp,sC]
            · rw [iN (by simp),dO (by omega),dO (by simp [LIM];omega),dO (by omega)]
              have e1:bl ((mk r).extract r.length r.length)= []:=by rw [yW,kY];simp
              rw [Mg k _ _ (by simp;omega) (by rw [e1];simp;omega),e1]
              have e2:(mk r).extract 0 r.length=mk r:=by apply L8;rw [yW,kY];simp
              simp only []
              rw [iN (by simp),iP ⟨by simp [hp],by simp;omega⟩,e2]
              rfl
          · rw [EG (s:=mk (a ++ 47::b)) (a:=a) (b:=b) (kY _) hns]
            simp only [bS]
            rw [iN (by simp)]
            unfold vO
            have hal:(a ++ 47::b).length=a.length+b.length+1:=by simp;omega
            rw [hrs,dO (by omega),Jf,yW,kY]
            simp only [bS,Int.toNat_natCast,List.drop_zero]
            rw [List.take_left,Ay a b hns]
            cases hp:iL a
            · simp [hp,sC]
            · rw [iN (by simp),dO (by omega),dO (by simp [LIM];omega),dO (by omega)]
              have e1:bl ((mk (a ++ 47::b)).extract a.length (a ++ 47::b).length)=47::b:=by rw [yW,kY,List.take_length,List.drop_left]
              rw [Mg k _ _ (by simp;omega) (by rw [e1];simp;omega),e1]
              have e2:(mk (a ++ 47::b)).extract 0 a.length=mk a:=by apply L8;rw [yW,kY,List.take_left,kY];rfl
              simp only [if_true,e2,List.length_append,List.length_cons,List.length_nil,List.all_cons,hp,Bool.true_and,List.map_cons]
              by_cases hq:(mH b).all iL=true/\acc.length+1+(mH b).length <= 6
              · rw [iP (by exact hq),iP ⟨hq.1,by omega⟩];simp
              · rw [iN (by exact hq),iN (λ h=>hq ⟨h.1,by omega⟩)]
      · simp only [iN hc]
        rw [iP (by simp)]
        rfl
theorem Mh(s:ByteArray):zT s=some (spl s):=by
  unfold zT
  rw [qV,Pw]
  by_cases h1:bl s= [47]
  · rw [iP (by simp [h1])]
    unfold spl
    rw [h1];rfl
  · rw [iN (by simp [h1]),Mg _ s [] (by simp) (by rw [gC];omega)]
    unfold spl
    cases hb:bl s with
    | nil=>rfl
    | cons c r=>
      simp only [parts,List.length_nil,Nat.zero_add,List.nil_append]
      by_cases hc:c=47
      · subst hc
        have hr:r ≠ []:=by rintro rfl;exact h1 hb
        rw [iP rfl,iP rfl,iN hr]
        by_cases hq:(mH r).all iL=true/\(mH r).length <= 6
        · rw [iP hq,iP hq]
        · rw [iN hq,iN hq]
      · rw [iN hc,iN hc]
def pC(p:List UInt8):Option (List UInt8):=match parts p with
  | some ps=>if ps= [] then none else some (pB ps.dropLast)
  | none=>none
def z8(p:List UInt8):List UInt8:=match parts p with
  | some ps=>ps.getLast?.getD []
  | none=>[]
def os2(o:Option (List UInt8)):ByteArray×Bool:=match o with
  | some q=>(mk q,true)
  | none=>(mk [],false)
theorem U1(ps qs:List (List UInt8)):fQ (ps ++ qs)=fQ ps ++ fQ qs:=by simp [fQ]
theorem W7{p:List UInt8}{ps:List (List UInt8)}(h:parts p=some ps):p.length <= 78:=by
  obtain ⟨rfl,h1,h2⟩:=(jZ p ps).1 h
  have key:∀ qs:List (List UInt8),qs.all iL=true->(fQ qs).length <= 13 * qs.length:=by
    intro qs
    induction qs with
    | nil=>intro _;simp [fQ]
    | cons t ts ih=>
      intro h
      simp at h
      have h3:t.length <= 12:=by have:=h.1;simp [iL] at this;exact this.1.2
      have h4:=ih (by simpa using h.2)
      show (47::(t ++ fQ ts)).length <= _
      simp;omega
  unfold pB
  split
  · simp
  · have:=key ps h1;omega
theorem Wy(s:ByteArray)(a b:List UInt8)(hs:bl s=a ++ 47::b)(hb:47 ∉ b)(hl:(bl s).length <= 1000):∀ (k i:Nat),i < (bl s).length->a.length <= i->i+1 <= k->eB s k 47 (i:Int)=some (a.length:Int)
  | 0,i,_,_,h=>by omega
  | k+1,i,hi,hai,h=>by
    unfold eB
    rw [iP (by simp),MZ hi]
    simp only [bS]
    by_cases e:i=a.length
    · have:(bl s)[i]=47:=by subst e;simp [hs]
      rw [this,iP (by decide),e]
    · have hne:(bl s)[i] ≠ 47:=by
        have h2:(bl s)[i]? =b[i - a.length - 1]? :=by
          rw [hs,List.getElem?_append_right hai,show i - a.length=(i - a.length - 1)+1 from by omega,List.getElem?_cons_succ]
          rfl
        rw [List.getElem?_eq_getElem hi] at h2
        intro e2
        rw [e2] at h2
        exact hb (List.mem_of_getElem? h2.symm)
      rw [iN (by have:=c47 hne;simp only [beq_iff_eq];omega),show IntKind.i64.wrap ((i:Int) - 1)=((i - 1:Nat):Int) from by rw [w64 (by omega) (by omega)];omega]
      exact Wy s a b hs hb hl k (i - 1) (by omega) (by omega) (by omega)
theorem BH(s:ByteArray):I5 s=some (match parts (bl s) with
    | some ps=>if ps= [] then (mk [],mk [],false) else (mk (pB ps.dropLast),mk (ps.getLast?.getD []),true)
    | none=>(mk [],mk [],false)):=by
  unfold I5 fU
  rw [Mh]
  simp only [bS]
  unfold spl
  cases hp:parts (bl s) with
  | none=>simp only [Bool.not_false,if_true];rfl
  | some ps=>
    simp only [Bool.not_true,Bool.false_eq_true,if_false]
    obtain ⟨h0,h1,h2⟩:=(jZ _ ps).1 hp
    rw [qV,Pw]
    rcases List.eq_nil_or_concat ps with rfl | ⟨qs,t,rfl⟩
    · have:bl s= [47]:=h0
      rw [this];rfl
    · rw [List.concat_eq_append] at *
      have ht:iL t=true:=by simp at h1;exact h1.2
      have hb:bl s=fQ qs ++ 47::t:=by rw [h0];unfold pB;rw [iN (by simp),U1];simp [fQ]
      have hne:bl s ≠ [47]:=by
        rw [hb]
        intro e
        have:=congrArg List.length e
        have:=List.length_pos_iff.2 (Aj ht)
        simp at *
        omega
      have hl:=W7 hp
      rw [decide_eq_false hne]
      unfold A6 sZ iM
      have hsz:=gC s
      have hlen:(bl s).length=(fQ qs).length+t.length+1:=by rw [hb];simp;omega
      have e1:IntKind.i64.wrap ((s.size:Int) - 1)=(((bl s).length - 1:Nat):Int):=by rw [hsz,w64 (by omega) (by omega)];omega
      rw [e1,Wy s (fQ qs) t hb (Ea ht) (by omega) _ _ (by omega) (by omega) (by omega)]
      simp only [bS,Bool.false_eq_true,if_false]
      have e2:IntKind.i64.wrap (((fQ qs).length:Int)+1)=(((fQ qs).length+1:Nat):Int):=by rw [w64 (by omega) (by omega)];omega
      rw [e2,dO (by omega),dO (by omega)]
      rw [iN (by simp)]
      congr 1
      have e3:(s.extract 0 (max ((fQ qs).length:Int) 1).toNat)=mk (pB (qs ++ [t]).dropLast):=by
        apply L8
        rw [yW,kY,hb,List.drop_zero,List.dropLast_concat]
        unfold pB
        cases qs with
        | nil=>rfl
        | cons q qs=>
          rw [iN (by simp)]
          have:(max ((fQ (q::qs)).length:Int) 1).toNat=(fQ (q::qs)).length:=by
            have:1 <= (fQ (q::qs)).length:=by simp [fQ]
            omega
          rw [this,List.take_left]
      have e4:(s.extract (((fQ qs).length+1:Nat):Int).toNat s.size)=mk ((qs ++ [t]).getLast?.getD []):=by
        apply L8
        rw [yW,kY,hsz,List.take_length,hb,Int.toNat_natCast,show fQ qs ++ 47::t=(fQ qs ++ [47]) ++ t from by simp,show (fQ qs).length+1=(fQ qs ++ [47]).length from by simp,List.drop_left]
        simp
      rw [e3,e4]
theorem Bu(s:ByteArray):sW s=some (os2 (pC (bl s))):=by
  unfold sW pC
  rw [BH]
  cases parts (bl s) with
  | none=>rfl
  | some ps=>
    simp only [bS]
    by_cases h:ps= []
    · rw [iP h,iP h];rfl
    · rw [iN h,iN h];rfl
theorem Px(s:ByteArray):zC s=some (mk (z8 (bl s))):=by
  unfold zC z8
  rw [BH]
  cases parts (bl s) with
  | none=>rfl
  | some ps=>
    simp only [bS]
    by_cases h:ps= []
    · rw [iP h,h];rfl
    · rw [iN h]
def Q6(p s:List UInt8):Option (List UInt8):=match parts p with
  | some ps=>if iL s=true/\ps.length < 6 then some (pB (ps ++ [s])) else none
  | none=>none
theorem IF(s:ByteArray)(x:List UInt8)(c:UInt8)(hc:c ≠ 47)(hs:bl s=x ++ [c])(hl:(bl s).length <= 1000):gZ s (ByteArray.mk #[47])=some s:=by
  unfold gZ lJ mD
  have e0:((ByteArray.mk #[47]).size:Int)=1:=rfl
  have hsz:=gC s
  have hlen:(bl s).length=x.length+1:=by rw [hs];simp
  have e1:IntKind.i64.wrap ((s.size:Int) - 1)=((x.length:Nat):Int):=by rw [w64 (by omega) (by omega)];omega
  rw [e0,e1,iP (by simp only [decide_eq_true_eq];omega),dO (by omega)]
  simp only [bS,Int.toNat_natCast]
  rw [qV,yW,hsz,List.take_length,hs,List.drop_left,Pw,iN (by simp;exact hc)]
  rfl
theorem BI(s:ByteArray)(hs:bl s= [47]):gZ s (ByteArray.mk #[47])=some (mk []):=by
  have:s=mk [47]:=by apply L8;rw [hs,kY]
  subst this
  show gZ (mk [47]) (ByteArray.mk #[47])=some (mk [])
  kernel_rfl
theorem Qn{s:ByteArray}{ps:List (List UInt8)}(hp:parts (bl s)=some ps):∃ t,gZ s (ByteArray.mk #[47])=some t/\bl t=fQ ps:=by
  obtain ⟨h0,h1,h2⟩:=(jZ _ ps).1 hp
  rcases List.eq_nil_or_concat ps with rfl | ⟨qs,t,rfl⟩
  · exact ⟨_,BI s h0,rfl⟩
  · rw [List.concat_eq_append] at *
    have ht:iL t=true:=by simp at h1;exact h1.2
    rcases List.eq_nil_or_concat t with rfl | ⟨u,c,rfl⟩
    · exact absurd rfl (Aj ht)
    · rw [List.concat_eq_append] at *
      have hb:bl s=(fQ qs ++ 47::u) ++ [c]:=by rw [h0];unfold pB;rw [iN (by simp),U1];simp [fQ]
      refine ⟨s,IF s _ c ?_ hb (by have:=W7 hp;omega),?_⟩
      · intro e
        exact Ea ht (by simp [e])
      · rw [h0];unfold pB;rw [iN (by simp)]
theorem Py(p s:ByteArray)(hs:(bl s).length <= 100000000):C6 p s=some (os2 (Q6 (bl p) (bl s))):=by
  unfold C6 xC Q6
  rw [Mh]
  simp only [bS]
  unfold spl
  cases hp:parts (bl p) with
  | none=>simp only [Bool.not_false,if_true];rfl
  | some ps=>
    obtain ⟨t,ht,hb⟩:=Qn hp
    have hl:=W7 hp
    have h6:=((jZ _ _).1 hp).2.2
    simp only [Bool.not_true,Bool.false_eq_true,if_false]
    rw [Jf]
    simp only [bS]
    cases hs':iL (bl s) with
    | false=>rw [iP (by simp),iP trivial,iN (by simp)];rfl
    | true=>
      simp only [Bool.not_true,Bool.false_eq_true,if_false]
      by_cases h:ps.length=6
      · rw [iP (by simp;omega),iN (by omega)];rfl
      · rw [iN (by simp;omega),iP (by refine ⟨trivial,?_⟩;omega),ht]
        have hcl:(fQ ps).length <= 1000:=by
          have:=((jZ _ _).1 hp).1
          unfold pB at this
          split at this
          · rename_i e;subst e;simp [fQ]
          · rw [← this];omega
        have z1:t.size=(fQ ps).length:=by rw [gC,hb]
        have z2:(ByteArray.mk #[47]).size=1:=rfl
        have z3:(t ++ ByteArray.mk #[47]).size=(fQ ps).length+1:=by rw [gC,Ii,hb,Pw];simp
        have z4:=gC s
        simp only [bS]
        rw [dO (by omega),dO (by omega)]
        show some (_,true)=some (mk _,true)
        congr 2
        apply L8
        rw [Ii,Ii,hb,Pw,kY]
        unfold pB
        rw [iN (by simp),U1]
        simp [fQ]
def u7(n:Nat):List UInt8:=[UInt8.ofNat (48+n / 1000 % 10),UInt8.ofNat (48+n / 100 % 10),UInt8.ofNat (48+n / 10 % 10),UInt8.ofNat (48+n % 10)]
theorem EH(n:Nat)(h:n <= 9999):Lib.itoa (10000+(n:Int))=49::u7 n:=by
  unfold Lib.itoa
  rw [iN (by omega),show (10000+(n:Int)).toNat=10000+n from by omega]
  have st:∀ u:Nat,¬ u < 10->Lib.decDigits u=Lib.decDigits (u / 10) ++ [UInt8.ofNat (48+u % 10)]:=λ u hu=>by rw [Lib.decDigits,dif_neg hu]
  rw [st _ (by omega),st _ (by omega),st _ (by omega),st _ (by omega),Lib.decDigits,dif_pos (by omega)]
  have d1:(10000+n) / 10 / 10 / 10 / 10=1:=by omega
  have d2:(10000+n) / 10 / 10 / 10 % 10=n / 1000 % 10:=by omega
  have d3:(10000+n) / 10 / 10 % 10=n / 100 % 10:=by omega
  have d4:(10000+n) / 10 % 10=n / 10 % 10:=by omega
  have d5:(10000+n) % 10=n % 10:=by omega
  rw [d1,d2,d3,d4,d5]
  rfl
def Mi(s:List UInt8)(n:Int):Option (List UInt8):=if 0 <= n/\n <= 9999/\iL (s ++ u7 n.toNat)=true then some (s ++ u7 n.toNat) else none
theorem Wf(s:ByteArray)(n:Int)(hs:(bl s).length <= 100000000):yN s n=some (os2 (Mi (bl s) n)):=by
  unfold yN uT Mi
  by_cases h0:n < 0
  · rw [iP (by simpa using h0),iP rfl,iN (by omega)];rfl
  · rw [iN (by simpa using h0)]
    by_cases h1:n > 9999
    · rw [iP (by simpa using h1),iN (by omega)];rfl
    · rw [iN (by simpa using h1)]
      obtain ⟨m,rfl⟩:∃ m:Nat,n=(m:Int):=⟨n.toNat,by omega⟩
      have e1:IntKind.i64.wrap (10000+(m:Int))=10000+(m:Int):=w64 (by omega) (by omega)
      have e2:ByteArray.mk (Lib.itoa (10000+(m:Int))).toArray=mk (49::u7 m):=by rw [EH m (by omega)];rfl
      rw [e1,dO (by omega),e2]
      have z1:(mk (49::u7 m)).size=5:=rfl
      rw [z1,dO (by decide)]
      have e3:bl ((mk (49::u7 m)).extract (1:Int).toNat 5)=u7 m:=by rw [yW,kY];rfl
      have z2:((mk (49::u7 m)).extract (1:Int).toNat 5).size=4:=by rw [gC,e3];rfl
      have z3:=gC s
      rw [z2,dO (by omega),Jf,Ii,e3]
      simp only [bS,Int.toNat_natCast]
      have e4:s ++ (mk (49::u7 m)).extract (1:Int).toNat 5=mk (bl s ++ u7 m):=by apply L8;rw [Ii,e3,kY]
      cases hp:iL (bl s ++ u7 m) with
      | false=>rw [iP (by rfl),iN (by simp)];rfl
      | true=>rw [iN (by simp),iP ⟨by omega,by omega,rfl⟩,e4];rfl
theorem BJ{l:List UInt8}(h:iL l=true):l.length <= 12:=by simp [iL] at h;exact h.1.2
def inS(p q:List UInt8):Bool:=match parts p,parts q with
  | some l,some k=>k.isPrefixOf l
  | _,_=>false
abbrev Nd:=aG
def key(x:Nd):List UInt8:=bl x.Path
theorem O5(a:List UInt8):¬ a < a:=List.lt_irrefl a
theorem zG{a b c:List UInt8}(h:a < b)(k:b < c):a < c:=List.lt_trans h k
theorem NB(a b:List UInt8):a < b∨a=b∨b < a:=by
  rcases Decidable.em (a < b) with h | h
  · exact .inl h
  · rcases Decidable.em (b < a) with k | k
    · exact .inr (.inr k)
    · exact .inr (.inl (List.le_antisymm (List.not_lt.1 k) (List.not_lt.1 h)))
theorem Mj{a b:List UInt8}(h:a < b):¬ b < a:=λ k=>O5 _ (zG h k)
theorem vW{a b:List UInt8}(h:a < b):a ≠ b:=λ e=>O5 b (e ▸ h)
theorem Uk(a:List UInt8){b c:List UInt8}(h:b < c):a ++ b < a ++ c:=by
  induction a with
  | nil=>exact h
  | cons x a ih=>exact List.Lex.cons ih
theorem BK(a:List UInt8){b:List UInt8}(h:b ≠ []):a < a ++ b:=by
  have:=Uk a (b:=[]) (c:=b) (by cases b with | nil=>exact absurd rfl h | cons x b=>exact List.Lex.nil)
  simpa using this
theorem Ok(s t:ByteArray):Extern.BytealgCompare.cmp s t=if bl s < bl t then -1 else if bl s=bl t then 0 else 1:=by
  have hs:=gC s
  have ht:=gC t
  have hat:∀ (u:ByteArray) (i:Nat) (hi:i < (bl u).length),u[i]! =(bl u)[i]:=λ u i hi=>by
    rw [getElem!_pos u i (by rw [gC];exact hi)];rfl
  unfold Extern.BytealgCompare.cmp
  cases hf:(List.range (min s.size t.size)).find? (λ i=>s[i]! != t[i]!) with
  | some i=>
    rw [List.find?_range_eq_some] at hf
    obtain ⟨h1,h2,h3⟩:=hf
    rw [List.mem_range] at h2
    have hi1:i < (bl s).length:=by omega
    have hi2:i < (bl t).length:=by omega
    rw [hat s i hi1,hat t i hi2] at h1
    have hne:(bl s)[i] ≠ (bl t)[i]:=by simpa using h1
    have hpre:(bl s).take i=(bl t).take i:=by
      apply List.ext_getElem?
      intro j
      rw [List.getElem?_take,List.getElem?_take]
      by_cases hj:j < i
      · rw [iP hj,iP hj]
        have:=h3 j hj
        rw [hat s j (by omega),hat t j (by omega)] at this
        have:(bl s)[j]=(bl t)[j]:=by simpa using this
        rw [List.getElem?_eq_getElem (by omega),List.getElem?_eq_getElem (by omega),this]
      · rw [iN hj,iN hj]
    have es:bl s=(bl s).take i ++ (bl s)[i]::(bl s).drop (i+1):=by rw [← List.drop_eq_getElem_cons hi1,List.take_append_drop]
    have et:bl t=(bl s).take i ++ (bl t)[i]::(bl t).drop (i+1):=by rw [hpre,← List.drop_eq_getElem_cons hi2,List.take_append_drop]
    have heq:bl s ≠ bl t:=λ e=>hne (by simp only [e])
    simp only
    rw [hat s i hi1,hat t i hi2]
    rcases UInt8.lt_or_lt_of_ne hne with h | h
    · have:bl s < bl t:=by
        rw [es,et];exact Uk _ (List.Lex.rel h)
      rw [iP h,iP this]
    · have:bl t < bl s:=by
        rw [es,et];exact Uk _ (List.Lex.rel h)
      rw [iN (λ h'=>absurd (UInt8.lt_trans h h') (UInt8.lt_irrefl _)),iN (Mj this),iN heq]
  | none=>
    rw [List.find?_eq_none] at hf
    have hall:∀ j,j < (bl s).length->j < (bl t).length->(bl s)[j]? =(bl t)[j]? :=λ j h1 h2=>by
      have:=hf j (List.mem_range.2 (by omega))
      rw [hat s j h1,hat t j h2] at this
      have:(bl s)[j]=(bl t)[j]:=by simpa using this
      rw [List.getElem?_eq_getElem h1,List.getElem?_eq_getElem h2,this]
    simp only
    rw [hs,ht]
    by_cases h1:(bl s).length < (bl t).length
    · have e:bl t=bl s ++ (bl t).drop (bl s).length:=by
        conv=>lhs;rw [← List.take_append_drop (bl s).length (bl t)]
        congr 1
        apply List.ext_getElem?
        intro j
        rw [List.getElem?_take]
        by_cases hj:j < (bl s).length
        · rw [iP hj,hall j hj (by omega)]
        · rw [iN hj,List.getElem?_eq_none (by omega)]
      have:bl s < bl t:=by
        rw [e];exact BK _ (by intro h;have:=congrArg List.length h;simp at this;omega)
      rw [iP h1,iP this]
    · rw [iN h1]
      by_cases h2:(bl s).length > (bl t).length
      · have e:bl s=bl t ++ (bl s).drop (bl t).length:=by
          conv=>lhs;rw [← List.take_append_drop (bl t).length (bl s)]
          congr 1
          apply List.ext_getElem?
          intro j
          rw [List.getElem?_take]
          by_cases hj:j < (bl t).length
          · rw [iP hj,hall j (by omega) hj]
          · rw [iN hj,List.getElem?_eq_none (by omega)]
        have:bl t < bl s:=by
          rw [e];exact BK _ (by intro h;have:=congrArg List.length h;simp at this;omega)
        rw [iP h2,iN (Mj this),iN (λ e=>O5 _ (e ▸ this))]
      · have e:bl s=bl t:=by
          apply List.ext_getElem?
          intro j
          by_cases hj:j < (bl s).length
          · exact hall j hj (by omega)
          · rw [List.getElem?_eq_none (by omega),List.getElem?_eq_none (by omega)]
        rw [iN h2,e,iN (O5 _),iP rfl]
theorem EI(n:Nat)(h:n < 2 ^ 40):IntKind.i64.wrap (sY .u64 (IntKind.u64.wrap (IntKind.i64.wrap (n:Int))) 1)=((n / 2:Nat):Int):=by
  rw [w64 (n:=(n:Int)) (by omega) (by omega),show IntKind.u64.wrap (n:Int)=(n:Int) from by unfold IntKind.wrap;simp [IntKind.bits,IntKind.signed];omega]
  unfold sY
  rw [show IntKind.u64.bits=64 from rfl,show min (1:Int).toNat 64=1 from rfl,Int.fdiv_eq_ediv_of_nonneg _ (by decide)]
  rw [w64 (by omega) (by omega)]
  omega
def zNd:Nd:=⟨mk [],mk [],0,0,0⟩
def isK(p:List UInt8)(x:Nd):Bool:=decide (key x=p)
theorem QK{α:Type}(o:Option α):o=none∨∃ x,o=some x:=by cases o with | none=>exact .inl rfl | some x=>exact .inr ⟨x,rfl⟩
def NC(x:Nd):Prop:=(bl x.Data).length <= 256/\0 <= x.Version/\x.Version <= 281474976710656/\0 <= x.Turn/\x.Turn <= 10000/\0 <= x.Owner/\x.Owner <= 1099511627776/\(x.Owner ≠ 0->x.Turn=0)
structure QO (l:List Nd):Prop where
  root:∃ r t,l=r::t/\key r= [47]/\r.Owner=0
  len:l.length <= 512
  ok:∀ x ∈ l,NC x
  sorted:l.Pairwise (key · < key ·)
  up:∀ x ∈ l,key x ≠ [47]->∃ q,pC (key x)=some q/\∃ u ∈ l,key u=q/\u.Owner=0
def Sm(l:List Nd):Prop:=∀ x ∈ l,(key x).length <= 100000000
theorem Yw{l:List Nd}(h:l.Pairwise (key · < key ·)){x y:Nd}(hx:x ∈ l)(hy:y ∈ l)(e:key x=key y):x=y:=by
  obtain ⟨i,hi,rfl⟩:=List.mem_iff_getElem.1 hx
  obtain ⟨j,hj,rfl⟩:=List.mem_iff_getElem.1 hy
  have h:=List.pairwise_iff_getElem.1 h
  rcases Nat.lt_trichotomy i j with c | c | c
  · exact absurd e (vW (h i j hi hj c))
  · subst c;rfl
  · exact absurd e.symm (vW (h j i hj hi c))
theorem EJ{l:List Nd}{p:List UInt8}{x:Nd}(h:l.find? (isK p)=some x):x ∈ l/\key x=p:=
  ⟨List.mem_of_find?_eq_some h,by have:=List.find?_some h;simpa [isK] using this⟩
theorem EK{l:List Nd}(h:l.Pairwise (key · < key ·)){x:Nd}(hx:x ∈ l):l.find? (isK (key x))=some x:=by
  cases hf:l.find? (isK (key x)) with
  | none=>
    have:=List.find?_eq_none.1 hf x hx
    simp [isK] at this
  | some y=>
    have:=EJ hf
    rw [Yw h this.1 hx this.2]
theorem QS{l:List Nd}{p:List UInt8}:l.find? (isK p)=none ↔ ∀ x ∈ l,key x ≠ p:=by
  rw [List.find?_eq_none];simp [isK]
theorem Ij{p q:List UInt8}(h:pC p=some q):∃ ps t,parts p=some (ps ++ [t])/\q=pB ps/\parts q=some ps:=by
  unfold pC at h
  cases hp:parts p with
  | none=>rw [hp] at h;cases h
  | some ps=>
    rw [hp] at h
    simp only at h
    split at h
    · cases h
    · rename_i hne
      cases h
      obtain ⟨h0,h1,h2⟩:=(jZ _ ps).1 hp
      rcases List.eq_nil_or_concat ps with e | ⟨qs,t,rfl⟩
      · exact absurd e hne
      · rw [List.concat_eq_append] at *
        refine ⟨qs,t,rfl,by rw [List.dropLast_concat],?_⟩
        rw [List.dropLast_concat]
        exact (jZ _ _).2 ⟨rfl,by simp at h1 ⊢;exact h1.1,by simp at h2;omega⟩
theorem QO.sm {l:List Nd} (T:QO l):Sm l:=λ x hx=>by
  by_cases h:key x= [47]
  · rw [h];decide
  · obtain ⟨q,hq,_⟩:=T.up x hx h
    obtain ⟨ps,t,h1,_⟩:=Ij hq
    have:=W7 h1;omega
abbrev Op1:=eQ
def eX(p:List UInt8):Bool:=(parts p).isSome
abbrev Res:=cN
def res(e:Int):Res:=⟨e,mk [],mk [],0,[]⟩
def u9(p:List UInt8)(x:Nd):Bool:=decide (pC (key x)=some p)
theorem Ul{l:List Nd}(h:l.Pairwise (key · < key ·)){i:Nat}(hi:i < l.length):l.eraseIdx i=l.filter (λ y=>!isK (key l[i]) y):=by
  have hs:=List.pairwise_iff_getElem.1 h
  have e:l=l.take i ++ l[i]::l.drop (i+1):=by rw [← List.drop_eq_getElem_cons hi,List.take_append_drop]
  rw [List.eraseIdx_eq_take_drop_succ]
  obtain ⟨p,hp⟩:∃ p,p=key l[i]:=⟨_,rfl⟩
  rw [← hp]
  have e2:l.filter (λ y=>!isK p y)=(l.take i ++ l[i]::l.drop (i+1)).filter (λ y=>!isK p y):=by rw [← e]
  rw [e2,List.filter_append,List.filter_cons,iN (by simp [isK,hp])]
  congr 1
  · refine (List.filter_eq_self.2 λ y hy=>?_).symm
    obtain ⟨j,hj,rfl⟩:=List.mem_take_iff_getElem.1 hy
    have:=vW (hs j i (by omega) hi (by omega))
    simpa [isK,hp] using this
  · refine (List.filter_eq_self.2 λ y hy=>?_).symm
    obtain ⟨j,hj,rfl⟩:=List.mem_drop_iff_getElem.1 hy
    have:=vW (hs i (i+1+j) hi (by omega) (by omega))
    simpa [isK,hp] using this.symm
def upd(l:List Nd)(p:List UInt8)(f:Nd->Nd):List Nd:=l.map λ z=>if isK p z then f z else z
theorem IG{l:List Nd}(h:l.Pairwise (key · < key ·)){i:Nat}(hi:i < l.length)(f:Nd->Nd):l.set i (f l[i])=upd l (key l[i]) f:=by
  have hs:=List.pairwise_iff_getElem.1 h
  unfold upd
  apply List.ext_getElem (by simp)
  intro j h1 h2
  simp at h1
  rw [List.getElem_map,List.getElem_set]
  by_cases e:i=j
  · subst e;rw [iP rfl,iP (by simp [isK])]
  · rw [iN e,iN]
    rw [isK]
    simp only [decide_eq_true_eq]
    rcases Nat.lt_or_gt_of_ne e with c | c
    · exact (vW (hs i j hi h1 c)).symm
    · exact vW (hs j i h1 hi c)
def M4(x:Nd):ByteArray:=mk (z8 (key x))
def xU(p:List UInt8)(w:Int)(x:Nd):Bool:=(x.Owner == w) && u9 p x
theorem Fg{l:List Nd}{f:Nd->Bool}{i:Nat}(hi:i < l.length):(l.take (i+1)).filter f=(l.take i).filter f ++ if f l[i]=true then [l[i]] else []:=by
  rw [List.take_add_one,List.getElem?_eq_getElem hi,List.filter_append]
  congr 1
  simp [List.filter_cons]
def ltB(p:List UInt8)(y:Nd):Bool:=decide (key y < p)
def Y9(x:Nd)(l:List Nd):List Nd:=l.filter (ltB (key x)) ++ x::l.filter (λ y=>!ltB (key x) y)
theorem II(l:List Nd)(p:List UInt8)(f:Nd->Nd):(upd l p f).length=l.length:=by simp [upd]
theorem Wz{p:List UInt8}{f:Nd->Nd}(hf:∀ z,key (f z)=key z)(z:Nd):key (if isK p z then f z else z)=key z:=by split <;> simp [hf]
def V6(o:Op1)(q:List UInt8)(t:Int):Option (List UInt8):=if o.Turns=true then (Mi (z8 (bl o.Path)) t).map (λ s=>(Q6 q s).getD []) else some (bl o.Path)
theorem Xa{s:List UInt8}{n:Int}{t:List UInt8}(h:Mi s n=some t):iL t=true/\t=s ++ u7 n.toNat/\0 <= n/\n <= 9999:=by
  unfold Mi at h
  split at h
  · rename_i h1
    cases h
    exact ⟨h1.2.2,rfl,h1.1,h1.2.1⟩
  · cases h
theorem Um(p:List UInt8):(z8 p).length <= 12:=by
  unfold z8
  cases hp:parts p with
  | none=>simp
  | some ps=>
    obtain ⟨h0,h1,h2⟩:=(jZ _ ps).1 hp
    rcases List.eq_nil_or_concat ps with rfl | ⟨qs,t,rfl⟩
    · simp
    · rw [List.concat_eq_append] at *
      have ht:iL t=true:=by simp at h1;exact h1.2
      simpa using BJ ht
theorem QT{x y:Nd}{l:List Nd}:y ∈ Y9 x l ↔ y=x∨y ∈ l:=by
  unfold Y9
  rw [List.mem_append,List.mem_cons,List.mem_filter,List.mem_filter]
  constructor
  · rintro (h | h | h)
    · exact .inr h.1
    · exact .inl h
    · exact .inr h.1
  · rintro (h | h)
    · exact .inr (.inl h)
    · cases hc:ltB (key x) y with
      | true=>exact .inl ⟨h,rfl⟩
      | false=>exact .inr (.inr ⟨h,rfl⟩)
theorem BL{α:Type}(l:List α)(f:α->Bool):(l.filter f).length+(l.filter (λ y=>!f y)).length=l.length:=by
  induction l with
  | nil=>rfl
  | cons x l ih=>
    rw [List.filter_cons,List.filter_cons]
    cases f x <;> simp <;> omega
theorem IJ(x:Nd)(l:List Nd):(Y9 x l).length=l.length+1:=by
  unfold Y9
  have:=BL l (ltB (key x))
  rw [List.length_append,List.length_cons];omega
theorem QU{l:List Nd}{p:List UInt8}{f:Nd->Nd}{y:Nd}:y ∈ upd l p f ↔ ∃ z ∈ l,y=if isK p z then f z else z:=by
  unfold upd
  rw [List.mem_map]
  exact ⟨λ ⟨z,h1,h2⟩=>⟨z,h1,h2.symm⟩,λ ⟨z,h1,h2⟩=>⟨z,h1,h2.symm⟩⟩
theorem Jg{p q:List UInt8}(h:pC p=some q):∃ ps t,parts p=some (ps ++ [t])/\q=pB ps/\parts q=some ps/\z8 p=t/\iL t=true/\ps.all iL=true/\ps.length <= 5:=by
  obtain ⟨ps,t,h1,h2,h3⟩:=Ij h
  obtain ⟨_,h5,h6⟩:=(jZ _ _).1 h1
  refine ⟨ps,t,h1,h2,h3,?_,?_,?_,?_⟩
  · unfold z8;rw [h1];simp
  · simp at h5;exact h5.2
  · simp at h5 ⊢;exact h5.1
  · simp at h6;omega
theorem Wg{q:List UInt8}{ps:List (List UInt8)}(hq:parts q=some ps)(h5:ps.length <= 5){t:List UInt8}(ht:iL t=true):Q6 q t=some (pB (ps ++ [t]))/\pC (pB (ps ++ [t]))=some q/\z8 (pB (ps ++ [t]))=t/\parts (pB (ps ++ [t]))=some (ps ++ [t]):=by
  obtain ⟨h1,h2,h3⟩:=(jZ _ _).1 hq
  have hp:parts (pB (ps ++ [t]))=some (ps ++ [t]):=(jZ _ _).2 ⟨rfl,by simp at h2 ⊢;exact ⟨h2,ht⟩,by simp;omega⟩
  refine ⟨?_,?_,?_,hp⟩
  · unfold Q6;rw [hq];simp only;rw [iP ⟨ht,by omega⟩]
  · unfold pC;rw [hp];simp only;rw [iN (by simp),List.dropLast_concat,h1]
  · unfold z8;rw [hp];simp
/-- the path of what is created lies in the parent. -/
theorem Wh{o:Op1}{q p:List UInt8}(hq:pC (bl o.Path)=some q){t:Int}(hn:V6 o q t=some p):pC p=some q/\(o.Turns=true->0 <= t/\t <= 9999/\∃ ps,parts q=some ps/\p=pB (ps ++ [z8 (bl o.Path) ++ u7 t.toNat])):=by
  unfold V6 at hn
  cases hT:o.Turns with
  | false=>
    rw [hT] at hn
    simp only [Bool.false_eq_true,if_false,Option.some.injEq] at hn
    subst hn
    exact ⟨hq,λ h=>by cases h⟩
  | true=>
    rw [hT] at hn
    simp only [if_true] at hn
    obtain ⟨s,hs,rfl⟩:=Option.map_eq_some_iff.1 hn
    obtain ⟨h1,h2,h3,h4⟩:=Xa hs
    obtain ⟨ps,t',_,_,h5,_,_,_,h6⟩:=Jg hq
    obtain ⟨j1,j2,_,_⟩:=Wg h5 h6 h1
    rw [j1]
    exact ⟨j2,λ _=>⟨h3,h4,ps,h5,by rw [h2];rfl⟩⟩
theorem gU{i:Nat}(h:i <= 4611686018427387904):IntKind.i64.wrap ((i:Int)+1)=((i+1:Nat):Int):=by rw [w64 (by omega) (by omega)];omega
theorem Yx{l:List Nd}(hs:l.Pairwise (key · < key ·))(p:List UInt8){f:Nd->Nd}(hf:∀ z,key (f z)=key z):(upd l p f).Pairwise (key · < key ·):=by
  unfold upd
  rw [List.pairwise_map]
  exact hs.imp λ {a b} h=>by rw [Wz hf,Wz hf];exact h
theorem EM(s:ByteArray):sEq s (ByteArray.mk #[47])=decide (bl s= [47]):=qV _ _
theorem Fh(l:List Nd)(k:Nat)(n i:Int)(hn:5000 <= n):gG l (k+1) n i=some true:=by
  unfold gG mP
  rw [show decide (n ≥ 5000)=true from by simpa using hn,show decide (n < 5000)=false from by simp;omega]
  simp
theorem Un(l:List Nd)(hlen:l.length <= 1666):∀ (k i:Nat) (n:Int),0 <= n->n <= 20000->i <= l.length->l.length+2 <= i+k->∃ b,gG l k n (i:Int)=some b/\(b=false->∀ j (h:j < l.length),i <= j->(key l[j]).length < 5000)
  | 0,i,n,_,_,_,h=>by omega
  | k+1,i,n,h0,h1,hi0,h=>by
    by_cases hn:n < 5000
    · by_cases hi:i < l.length
      · unfold gG
        rw [iP (by simpa using hi),iP (by simpa using hn),bV hi]
        simp only [bS]
        have e1:IntKind.i64.wrap ((i:Int)+1)=((i+1:Nat):Int):=by rw [w64 (by omega) (by omega)];omega
        have z1:=gC (l[i]).Path
        rw [e1,w64 (n:=n+_) (by omega) (by omega),w64 (by omega) (by omega)]
        by_cases hp:(key l[i]).length < 5000
        · obtain ⟨b,h2,h3⟩:=Un l hlen k (i+1) (n+(min ((l[i]).Path.size:Int) 5000)+(min ((l[i]).Data.size:Int) 5000)) (by omega) (by omega) (by omega) (by omega)
          refine ⟨b,h2,λ hb j hj hij=>?_⟩
          by_cases e:i=j
          · subst e;exact hp
          · exact h3 hb j hj (by omega)
        · cases k with
          | zero=>omega
          | succ k=>
            have hp:5000 <= (bl (l[i]).Path).length:=by unfold key at hp;omega
            rw [Fh l k _ _ (by omega)]
            exact ⟨true,rfl,λ h=>by cases h⟩
      · unfold gG mP
        rw [iN (by simpa using hi)]
        exact ⟨_,rfl,λ _ j hj hij=>by omega⟩
    · rw [Fh l k _ _ (by omega)]
      exact ⟨true,rfl,λ h=>by cases h⟩
theorem EN(l:List Nd)(hlen:l.length <= 140737488351232):∃ b,tJ l=some b/\(b=false->l.length <= 1666/\Sm l):=by
  unfold tJ
  have e:IntKind.i64.wrap (3 * (l.length:Int))=3 * (l.length:Int):=w64 (by omega) (by omega)
  rw [e]
  by_cases h:l.length <= 1666
  · obtain ⟨b,h1,h2⟩:=Un l h 5002 0 (3 * (l.length:Int)) (by omega) (by omega) (by omega) (by omega)
    refine ⟨b,h1,λ hb=>⟨h,λ x hx=>?_⟩⟩
    obtain ⟨j,hj,rfl⟩:=List.mem_iff_getElem.1 hx
    have:=h2 hb j hj (by omega)
    omega
  · rw [Fh l 5001 _ _ (by omega)]
    exact ⟨true,rfl,λ h=>by cases h⟩
theorem PX(x y:Nd):((sEq x.Path y.Path) && ((sEq x.Data y.Data) && ((x.Version == y.Version) && ((x.Turn == y.Turn) && (x.Owner == y.Owner)))))=decide (x=y):=by
  rw [Bool.eq_iff_iff]
  cases x;cases y
  simp [Dz]
theorem Xb(a b:List Nd)(h:a.length=b.length)(hl:a.length <= 1000000):∀ (k i:Nat),i <= a.length->a.length+1 <= i+k->nJ a b k (i:Int)=some (decide (a.drop i=b.drop i))
  | 0,i,_,h=>by omega
  | k+1,i,h0,hk=>by
    unfold nJ
    by_cases hi:i < a.length
    · have hi':i < b.length:=by omega
      rw [iP (by simpa using hi),bV hi]
      simp only [bS]
      rw [bV hi']
      simp only [bS]
      rw [PX,List.drop_eq_getElem_cons hi,List.drop_eq_getElem_cons hi']
      by_cases e:a[i]=b[i]
      · rw [iN (by simp [e]),show IntKind.i64.wrap ((i:Int)+1)=((i+1:Nat):Int) from by rw [w64 (by omega) (by omega)];omega,Xb a b h hl k (i+1) (by omega) (by omega),e]
        congr 1
        exact decide_eq_decide.2 ⟨λ h=>by rw [h],λ h=>(List.cons.inj h).2⟩
      · rw [iP (by simp [e]),decide_eq_false (λ h=>e (List.cons.inj h).1)]
    · rw [iN (by simpa using hi),List.drop_eq_nil_of_le (by omega),List.drop_eq_nil_of_le (by omega)]
      rfl
theorem IK(a b:List Nd)(hl:a.length <= 1000000):uV a b=some (decide (a=b)):=by
  unfold uV
  by_cases h:a.length=b.length
  · rw [iN (by simp;omega)]
    refine (Xb a b h hl (((a.length:Int) - 0:Int).toNat+1) 0 (by omega) (by omega)).trans ?_
    simp
  · rw [iP (by simp;omega)]
    congr 1
    exact (decide_eq_false λ e=>h (by rw [e])).symm
theorem Uo(a b:List ByteArray)(h:a.length=b.length)(hl:a.length <= 1000000):∀ (k i:Nat),i <= a.length->a.length+1 <= i+k->nI a b k (i:Int)=some (decide (a.drop i=b.drop i))
  | 0,i,_,h=>by omega
  | k+1,i,h0,hk=>by
    unfold nI
    by_cases hi:i < a.length
    · have hi':i < b.length:=by omega
      rw [iP (by simpa using hi),bV hi]
      simp only [bS]
      rw [bV hi']
      simp only [bS]
      rw [List.drop_eq_getElem_cons hi,List.drop_eq_getElem_cons hi']
      have es:sEq a[i] b[i]=decide (a[i]=b[i]):=by rw [Bool.eq_iff_iff,Dz];simp
      rw [es]
      by_cases e:a[i]=b[i]
      · rw [iN (by simp [e]),show IntKind.i64.wrap ((i:Int)+1)=((i+1:Nat):Int) from by rw [w64 (by omega) (by omega)];omega,Uo a b h hl k (i+1) (by omega) (by omega),e]
        congr 1
        exact decide_eq_decide.2 ⟨λ h=>by rw [h],λ h=>(List.cons.inj h).2⟩
      · rw [iP (by simp [e]),decide_eq_false (λ h=>e (List.cons.inj h).1)]
    · rw [iN (by simpa using hi),List.drop_eq_nil_of_le (by omega),List.drop_eq_nil_of_le (by omega)]
      rfl
theorem EO(a b:List ByteArray)(hl:a.length <= 1000000):uU a b=some (decide (a=b)):=by
  unfold uU
  by_cases h:a.length=b.length
  · rw [iN (by simp;omega)]
    refine (Uo a b h hl (((a.length:Int) - 0:Int).toNat+1) 0 (by omega) (by omega)).trans ?_
    simp
  · rw [iP (by simp;omega)]
    congr 1
    exact (decide_eq_false λ e=>h (by rw [e])).symm
theorem Yy(x y:Res)(hl:x.Names.length <= 1000000):rE x y=some (decide (x=y)):=by
  unfold rE
  rw [EO _ _ hl]
  obtain ⟨e,p,d,v,n⟩:=x
  obtain ⟨e',p',d',v',n'⟩:=y
  simp only [bS,cN.mk.injEq]
  have es:∀ s t:ByteArray,sEq s t=decide (s=t):=λ s t=>by rw [Bool.eq_iff_iff,Dz];simp
  rw [es,es]
  by_cases h1:e=e'
  · rw [iP (by simpa using h1)]
    by_cases h2:p=p'
    · rw [iP (by simpa using h2)]
      by_cases h3:d=d'
      · rw [iP (by simpa using h3)]
        by_cases h4:v=v'
        · rw [iP (by simpa using h4)]
          simp [h1,h2,h3,h4]
        · rw [iN (by simpa using h4),decide_eq_false (λ h=>h4 h.2.2.2.1)]
      · rw [iN (by simpa using h3),decide_eq_false (λ h=>h3 h.2.2.1)]
    · rw [iN (by simpa using h2),decide_eq_false (λ h=>h2 h.2.1)]
  · rw [iN (by simpa using h1),decide_eq_false (λ h=>h1 h.1)]
abbrev Pie:=cR
abbrev Tn:=aM
abbrev Sto:=aR
abbrev Pt1:=bE
def dA(t:Tn):List UInt8:=bl t.Dir
theorem Ol{a b:List UInt8}(h:¬ a < b)(k:a ≠ b):b < a:=by
  rcases NB a b with h' | h' | h'
  · exact absurd h' h
  · exact absurd h' k
  · exact h'
section
variable {α:Type} (κ:α->List UInt8)
def gLt(p:List UInt8)(x:α):Bool:=decide (κ x < p)
def gEq(p:List UInt8)(x:α):Bool:=decide (κ x=p)
def gGt(p:List UInt8)(x:α):Bool:=!gLt κ p x && !gEq κ p x
theorem Up(l:List α)(p:List UInt8)(i:Nat)(hs:l.Pairwise (κ · < κ ·))(h1:i <= l.length)(h3:∀ j (h:j < l.length),j < i->κ l[j] < p)(h4:∀ j (h:j < l.length),i <= j->¬ κ l[j] < p) :
    l.take i=l.filter (gLt κ p)/\((∃ x,l.drop i=x::l.filter (gGt κ p)/\κ x=p/\l.find? (gEq κ p)=some x/\l[i]? =some x/\x ∈ l)∨(l.drop i=l.filter (gGt κ p)/\l.find? (gEq κ p)=none/\l[i]?.map κ ≠ some p)):=by
  have hp:=List.pairwise_iff_getElem.1 hs
  have e:∀ g:α->Bool,l.filter g=(l.take i).filter g ++ (l.drop i).filter g:=λ g=>by rw [← List.filter_append,List.take_append_drop]
  have ht:∀ y ∈ l.take i,κ y < p:=λ y hy=>by
    obtain ⟨m,hm,rfl⟩:=List.mem_take_iff_getElem.1 hy
    exact h3 m (by omega) (by omega)
  have hd:∀ y ∈ l.drop i,¬ κ y < p:=λ y hy=>by
    obtain ⟨m,hm,rfl⟩:=List.mem_drop_iff_getElem.1 hy
    exact h4 _ (by omega) (by omega)
  have t1:(l.take i).filter (gLt κ p)=l.take i:=List.filter_eq_self.2 λ y hy=>by simpa [gLt] using ht y hy
  have t2:(l.drop i).filter (gLt κ p)= []:=List.filter_eq_nil_iff.2 λ y hy=>by simpa [gLt] using hd y hy
  have t3:(l.take i).filter (gGt κ p)= []:=List.filter_eq_nil_iff.2 λ y hy=>by simp [gGt,gLt,ht y hy]
  refine ⟨by rw [e,t1,t2,List.append_nil],?_⟩
  rw [e (gGt κ p),t3,List.nil_append]
  by_cases hi:i < l.length
  · by_cases hk:κ l[i]=p
    · refine .inl ⟨l[i],?_,hk,?_,List.getElem?_eq_getElem hi,List.getElem_mem hi⟩
      · rw [List.drop_eq_getElem_cons hi,List.filter_cons,iN (by simp [gGt,gEq,hk])]
        congr 1
        refine (List.filter_eq_self.2 λ y hy=>?_).symm
        obtain ⟨m,hm,rfl⟩:=List.mem_drop_iff_getElem.1 hy
        have:=hp i (i+1+m) hi (by omega) (by omega)
        rw [hk] at this
        simp [gGt,gLt,gEq,Mj this,(vW this).symm]
      · rw [List.find?_eq_some_iff_append]
        refine ⟨by simpa [gEq] using hk,l.take i,l.drop (i+1),?_,λ y hy=>by simpa [gEq] using vW (ht y hy)⟩
        rw [← List.drop_eq_getElem_cons hi,List.take_append_drop]
    · have hne:∀ y ∈ l.drop i,κ y ≠ p:=λ y hy=>by
        obtain ⟨m,hm,rfl⟩:=List.mem_drop_iff_getElem.1 hy
        rcases Nat.eq_zero_or_pos m with rfl | hm0
        · simpa using hk
        · have h5:=Ol (h4 i hi (Nat.le_refl _)) hk
          exact (vW (zG h5 (hp i (i+m) hi (by omega) (by omega)))).symm
      refine .inr ⟨?_,?_,by rw [List.getElem?_eq_getElem hi];simpa using hk⟩
      · exact (List.filter_eq_self.2 λ y hy=>by simp [gGt,gLt,gEq,hd y hy,hne y hy]).symm
      · rw [List.find?_eq_none]
        intro y hy
        rw [← List.take_append_drop i l] at hy
        rcases List.mem_append.1 hy with h | h
        · simpa [gEq] using vW (ht y h)
        · simpa [gEq] using hne y h
  · refine .inr ⟨?_,?_,by rw [List.getElem?_eq_none (by omega)];simp⟩
    · rw [List.drop_eq_nil_of_le (by omega)];rfl
    · rw [List.find?_eq_none]
      intro y hy
      have:l.take i=l:=List.take_of_length_le (by omega)
      rw [← this] at hy
      simpa [gEq] using vW (ht y hy)
end
theorem mM(s:ByteArray):fU s=some (eX (bl s)):=by
  unfold fU
  rw [Mh]
  simp only [bS]
  unfold spl eX
  cases parts (bl s) <;> rfl
theorem Fi(x a b:Int):wD x a b=some (decide (a <= x/\x <= b)):=by
  unfold wD
  by_cases h:x ≥ a
  · rw [iP (by simpa using h)]
    congr 1
    exact decide_eq_decide.2 ⟨λ h'=>⟨h,h'⟩,λ h'=>h'.2⟩
  · rw [iN (by simpa using h),decide_eq_false (λ h'=>h h'.1)]
def yH(p d:ByteArray)(v least o:Int):Bool:=eX (bl p) && decide ((bl d).length <= 256) && decide (least <= v/\v <= 281474976710656) && decide (0 <= o/\o <= 1099511627776)
theorem Qo(p d:ByteArray)(v least o:Int):yA p d v least o=some (yH p d v least o):=by
  unfold yA yH
  rw [mM]
  simp only [bS]
  have z:=gC d
  cases eX (bl p) with
  | false=>rw [iN (by simp)];simp
  | true=>
    rw [iP rfl]
    by_cases h:(bl d).length <= 256
    · rw [iP (decide_eq_true (by omega)),Fi,decide_eq_true h]
      simp only [bS]
      cases decide (least <= v/\v <= 281474976710656) with
      | false=>rw [iN (by simp)];simp
      | true=>rw [iP rfl,Fi];simp
    · rw [iN (by rw [decide_eq_false (by omega)];simp),decide_eq_false h];simp
def pnB(x:Nd):Bool:=decide (x.Turn=0) && yH x.Path x.Data x.Version 0 x.Owner
def ptB(t:Tn):Bool:=eX (dA t) && decide (1 <= t.Next/\t.Next <= 10000)
theorem BM(x:Nd):zW x=some (!pnB x):=by
  unfold zW pnB
  by_cases h:x.Turn=0
  · rw [iN (by simpa using h),Qo,decide_eq_true h];simp
  · rw [iP (by simpa using h),decide_eq_false h];simp
theorem BN(t:Tn):zX t=some (!ptB t):=by
  unfold zX ptB
  rw [mM,show bl t.Dir=dA t from rfl]
  simp only [bS]
  cases eX (dA t) with
  | false=>rw [iP (by rfl)];simp
  | true=>rw [iN (by simp),Fi];simp
theorem Xc(l:List Nd)(hl:l.length <= 140737488351232):∀ (k i:Nat),i <= l.length->l.length+1 <= i+k->∃ v:Int,dT l k (i:Int)=some v/\decide (v ≥ 0)= !(l.drop i).all pnB
  | 0,i,_,h=>by omega
  | k+1,i,h0,h=>by
    unfold dT
    by_cases hi:i < l.length
    · rw [iP (by simpa using hi),bV hi,List.drop_eq_getElem_cons hi]
      simp only [bS,BM,List.all_cons]
      cases hm:pnB l[i] with
      | false=>rw [iP (by rfl)];exact ⟨_,rfl,by simp⟩
      | true=>
        rw [iN (by simp),gU (by omega)]
        obtain ⟨v,h1,h2⟩:=Xc l hl k (i+1) (by omega) (by omega)
        exact ⟨v,h1,by rw [h2];simp⟩
    · rw [iN (by simpa using hi),List.drop_eq_nil_of_le (by omega)]
      exact ⟨-1,rfl,by simp⟩
theorem Xd(l:List Tn)(hl:l.length <= 140737488351232):∀ (k i:Nat),i <= l.length->l.length+1 <= i+k->∃ v:Int,dU l k (i:Int)=some v/\decide (v ≥ 0)= !(l.drop i).all ptB
  | 0,i,_,h=>by omega
  | k+1,i,h0,h=>by
    unfold dU
    by_cases hi:i < l.length
    · rw [iP (by simpa using hi),bV hi,List.drop_eq_getElem_cons hi]
      simp only [bS,BN,List.all_cons]
      cases hm:ptB l[i] with
      | false=>rw [iP (by rfl)];exact ⟨_,rfl,by simp⟩
      | true=>
        rw [iN (by simp),gU (by omega)]
        obtain ⟨v,h1,h2⟩:=Xd l hl k (i+1) (by omega) (by omega)
        exact ⟨v,h1,by rw [h2];simp⟩
    · rw [iN (by simpa using hi),List.drop_eq_nil_of_le (by omega)]
      exact ⟨-1,rfl,by simp⟩
theorem Pz{α:Type}(κ:α->List UInt8)(l:List α):(∀ j (h:j < l.length),0 < j->κ (l[j - 1]'(by omega)) < κ l[j]) ↔ l.Pairwise (κ · < κ ·):=by
  constructor
  · intro h
    rw [List.pairwise_iff_getElem]
    intro i j hi hj hij
    induction j with
    | zero=>omega
    | succ j ih=>
      have h1:=h (j+1) hj (by omega)
      simp only [Nat.add_sub_cancel] at h1
      rcases Nat.lt_or_ge i j with c | c
      · exact zG (ih (by omega) c) h1
      · obtain rfl:i=j:=by omega
        exact h1
  · intro h j hj h0
    exact List.pairwise_iff_getElem.1 h (j - 1) j (by omega) hj (by omega)
theorem Xe(l:List Nd)(hl:l.length <= 140737488351232):∀ (k i:Nat),i <= l.length->l.length+1 <= i+k->∃ b,fI l k (i:Int)=some b/\(b=true ↔ ∀ j (h:j < l.length),i <= j->0 < j->key (l[j - 1]'(by omega)) < key l[j])
  | 0,i,_,h=>by omega
  | k+1,i,h0,h=>by
    unfold fI nC
    by_cases hi:i < l.length
    · rw [iP (by simpa using hi),gU (by omega)]
      obtain ⟨b,h1,h2⟩:=Xe l hl k (i+1) (by omega) (by omega)
      by_cases h00:i=0
      · subst h00
        rw [iN (by simp),iN (by simp),h1]
        refine ⟨b,rfl,h2.trans ⟨λ H j hj hij h0=>H j hj (by omega) h0,λ H j hj hij h0=>H j hj (by omega) h0⟩⟩
      · rw [iP (decide_eq_true (by omega)),show IntKind.i64.wrap ((i:Int) - 1)=((i - 1:Nat):Int) from by rw [w64 (by omega) (by omega)];omega,bV (show i - 1 < l.length by omega)]
        simp only [bS]
        rw [bV hi]
        simp only [bS,zU]
        rw [Oj,show bl (l[i - 1]'(by omega)).Path=key (l[i - 1]'(by omega)) from rfl,show bl (l[i]).Path=key l[i] from rfl]
        by_cases c:key (l[i - 1]'(by omega)) < key l[i]
        · rw [decide_eq_true c,iN (by simp),h1]
          refine ⟨b,rfl,h2.trans ⟨λ H j hj hij h0=>?_,λ H j hj hij h0=>H j hj (by omega) h0⟩⟩
          rcases Nat.lt_or_ge i j with d | d
          · exact H j hj (by omega) h0
          · obtain rfl:i=j:=by omega
            exact c
        · rw [decide_eq_false c,iP (by rfl)]
          exact ⟨false,rfl,λ h=>by simp at h,λ H=>absurd (H i hi (Nat.le_refl _) (by omega)) c⟩
    · rw [iN (by simpa using hi)]
      exact ⟨true,rfl,λ _ j hj hij=>by omega,λ _=>rfl⟩
theorem Uq(l:List Tn)(hl:l.length <= 140737488351232):∀ (k i:Nat),i <= l.length->l.length+1 <= i+k->∃ b,fJ l k (i:Int)=some b/\(b=true ↔ ∀ j (h:j < l.length),i <= j->0 < j->dA (l[j - 1]'(by omega)) < dA l[j])
  | 0,i,_,h=>by omega
  | k+1,i,h0,h=>by
    unfold fJ nD
    by_cases hi:i < l.length
    · rw [iP (by simpa using hi),gU (by omega)]
      obtain ⟨b,h1,h2⟩:=Uq l hl k (i+1) (by omega) (by omega)
      by_cases h00:i=0
      · subst h00
        rw [iN (by simp),iN (by simp),h1]
        refine ⟨b,rfl,h2.trans ⟨λ H j hj hij h0=>H j hj (by omega) h0,λ H j hj hij h0=>H j hj (by omega) h0⟩⟩
      · rw [iP (decide_eq_true (by omega)),show IntKind.i64.wrap ((i:Int) - 1)=((i - 1:Nat):Int) from by rw [w64 (by omega) (by omega)];omega,bV (show i - 1 < l.length by omega)]
        simp only [bS]
        rw [bV hi]
        simp only [bS,zV]
        rw [Oj,show bl (l[i - 1]'(by omega)).Dir=dA (l[i - 1]'(by omega)) from rfl,show bl (l[i]).Dir=dA l[i] from rfl]
        by_cases c:dA (l[i - 1]'(by omega)) < dA l[i]
        · rw [decide_eq_true c,iN (by simp),h1]
          refine ⟨b,rfl,h2.trans ⟨λ H j hj hij h0=>?_,λ H j hj hij h0=>H j hj (by omega) h0⟩⟩
          rcases Nat.lt_or_ge i j with d | d
          · exact H j hj (by omega) h0
          · obtain rfl:i=j:=by omega
            exact c
        · rw [decide_eq_false c,iP (by rfl)]
          exact ⟨false,rfl,λ h=>by simp at h,λ H=>absurd (H i hi (Nat.le_refl _) (by omega)) c⟩
    · rw [iN (by simpa using hi)]
      exact ⟨true,rfl,λ _ j hj hij=>by omega,λ _=>rfl⟩
structure eK (s:Sto):Prop where
  nodes:s.Nodes.all pnB=true
  nsort:s.Nodes.Pairwise (key · < key ·)
  turns:s.Turns.all ptB=true
  tsort:s.Turns.Pairwise (dA · < dA ·)
theorem H8(s:Sto)(hn:s.Nodes.length <= 140737488351232)(ht:s.Turns.length <= 140737488351232):∃ b,sD s=some b/\(b=true ↔ eK s):=by
  unfold sD iA iB jR jS uM uN
  obtain ⟨v,a1,a2⟩:=Xc s.Nodes hn (((s.Nodes.length:Int) - 0:Int).toNat+1) 0 (by omega) (by omega)
  obtain ⟨u,b1,b2⟩:=Xd s.Turns ht (((s.Turns.length:Int) - 0:Int).toNat+1) 0 (by omega) (by omega)
  obtain ⟨c,c1,c2⟩:=Xe s.Nodes hn (((s.Nodes.length:Int) - 0:Int).toNat+1) 0 (by omega) (by omega)
  obtain ⟨d,d1,d2⟩:=Uq s.Turns ht (((s.Turns.length:Int) - 0:Int).toNat+1) 0 (by omega) (by omega)
  rw [show dT s.Nodes (((s.Nodes.length:Int) - 0:Int).toNat+1) 0=some v from a1,show dU s.Turns (((s.Turns.length:Int) - 0:Int).toNat+1) 0=some u from b1,
    show fI s.Nodes (((s.Nodes.length:Int) - 0:Int).toNat+1) 0=some c from c1,show fJ s.Turns (((s.Turns.length:Int) - 0:Int).toNat+1) 0=some d from d1]
  simp only [bS]
  rw [a2,b2,List.drop_zero,List.drop_zero]
  have e1:c=true ↔ s.Nodes.Pairwise (key · < key ·):=c2.trans ⟨λ H=>(Pz key _).1 λ j h h0=>H j h (by omega) h0,λ H j h _ h0=>(Pz key _).2 H j h h0⟩
  have e2:d=true ↔ s.Turns.Pairwise (dA · < dA ·):=d2.trans ⟨λ H=>(Pz dA _).1 λ j h h0=>H j h (by omega) h0,λ H j h _ h0=>(Pz dA _).2 H j h h0⟩
  cases f1:s.Nodes.all pnB with
  | false=>exact ⟨false,by simp,λ h=>by simp at h,λ H=>by rw [H.nodes] at f1;cases f1⟩
  | true=>
    cases f2:s.Turns.all ptB with
    | false=>exact ⟨false,by simp,λ h=>by simp at h,λ H=>by rw [H.turns] at f2;cases f2⟩
    | true=>
      cases c with
      | false=>exact ⟨false,by simp,λ h=>by simp at h,λ H=>e1.2 H.nsort⟩
      | true=>
        cases d with
        | false=>exact ⟨false,by simp,λ h=>by simp at h,λ H=>e2.2 H.tsort⟩
        | true=>exact ⟨true,by simp,λ _=>⟨f1,e1.1 rfl,f2,e2.1 rfl⟩,λ _=>rfl⟩
def upP(p:List UInt8):List UInt8:=(pC p).getD [47]
theorem ND(s:ByteArray):F5 s=some (mk (upP (bl s))):=by
  unfold F5 upP
  rw [Bu]
  simp only [bS]
  cases pC (bl s) <;> rfl
def Af(p:Pt1):List UInt8:=if p.Kind=4∨p.Kind=9∨p.Kind=10 then bl p.Path else upP (bl p.Path)
def v8(p:Pt1):Bool:=yH p.Path p.Data p.Version (-1) p.Owner && decide (bl p.Dir=Af p) && decide (1 <= p.Kind/\p.Kind <= 10) && (decide (p.Kind ≠ 2) || !decide (bl p.Path= [47]))
theorem Jh(p:Pt1)(s:ByteArray)(hs:bl s=Af p):yB p s=some (v8 p):=by
  unfold yB v8
  rw [Qo,qV,hs]
  simp only [bS]
  cases yH p.Path p.Data p.Version (-1) p.Owner with
  | false=>rw [iN (by simp)];simp
  | true=>
    rw [iP rfl]
    cases decide (bl p.Dir=Af p) with
    | false=>rw [iN (by simp)];simp
    | true=>
      rw [iP rfl]
      by_cases a:p.Kind ≥ 1
      · rw [iP (decide_eq_true a)]
        by_cases b:p.Kind <= 10
        · rw [iP (decide_eq_true b),decide_eq_true (show 1 <= p.Kind/\p.Kind <= 10 from ⟨a,b⟩)]
          by_cases c:p.Kind=2
          · rw [iN (by simpa using c),EM];simp [c]
          · rw [iP (by simpa using c)];simp [c]
        · rw [iN (by rw [decide_eq_false b];simp),decide_eq_false (λ h=>b h.2)];simp
      · rw [iN (by rw [decide_eq_false a];simp),decide_eq_false (λ h=>a h.1)];simp
theorem Om(p:Pt1):J4 p=some (v8 p):=by
  unfold J4 yC
  rw [ND]
  simp only [bS]
  by_cases a:p.Kind=4
  · rw [iP (by simpa using a),iP trivial,Jh p _ (by unfold Af;rw [iP (.inl a)])]
  · rw [iN (by simpa using a)]
    by_cases b:p.Kind=9
    · rw [iP (by simpa using b),iP trivial,Jh p _ (by unfold Af;rw [iP (.inr (.inl b))])]
    · rw [iN (by simpa using b)]
      by_cases c:p.Kind=10
      · rw [iP (by simpa using c),Jh p _ (by unfold Af;rw [iP (.inr (.inr c))])]
      · rw [iN (by simpa using c),Jh p _ (by rw [kY];unfold Af;rw [iN (by simp [a,b,c])])]
theorem BO(x:Nd)(s:ByteArray):tK x s=some (if key x < bl s then -1 else if key x=bl s then 0 else 1):=by
  show some (Extern.BytealgCompare.cmp x.Path s)=_
  rw [Ok];rfl
theorem BP(x:Tn)(s:ByteArray):uW x s=some (if dA x < bl s then -1 else if dA x=bl s then 0 else 1):=by
  show some (Extern.BytealgCompare.cmp x.Dir s)=_
  rw [Ok];rfl
theorem Ur(l:List Nd)(s:ByteArray)(hlen:l.length <= 1000000)(hs:∀ i j (hi:i < l.length) (hj:j < l.length),i < j->key l[i] < key l[j]):∀ (k lo hi:Nat),lo <= hi->hi <= l.length->hi+1 <= lo+k->(∀ j (h:j < l.length),j < lo->key l[j] < bl s)->(∀ j (h:j < l.length),hi <= j->¬ key l[j] < bl s)->
    ∃ i,i <= l.length/\cD l s k (lo:Int) (hi:Int)=some ((i:Int),decide (l[i]?.map key=some (bl s)))/\(∀ j (h:j < l.length),j < i->key l[j] < bl s)/\(∀ j (h:j < l.length),i <= j->¬ key l[j] < bl s)
  | 0,lo,hi,_,_,h,_,_=>by omega
  | k+1,lo,hi,hlh,hhi,h,hlo,hup=>by
    unfold cD
    by_cases hl:lo < hi
    · rw [iP (by simpa using hl),show IntKind.i64.wrap ((lo:Int)+(hi:Int))=IntKind.i64.wrap ((lo+hi:Nat):Int) from by rw [Int.natCast_add],EI _ (by omega)]
      have hm:(lo+hi) / 2 < l.length:=by omega
      rw [bV hm]
      simp only [bS]
      rw [BO]
      simp only [bS]
      by_cases hk:key l[(lo+hi) / 2] < bl s
      · rw [iP hk,iP (by decide),show IntKind.i64.wrap ((((lo+hi) / 2:Nat):Int)+1)=(((lo+hi) / 2+1:Nat):Int) from by rw [w64 (by omega) (by omega)];omega]
        refine Ur l s hlen hs k ((lo+hi) / 2+1) hi (by omega) hhi (by omega) (λ j hj hjl=>?_) hup
        by_cases e:j=(lo+hi) / 2
        · subst e;exact hk
        · exact zG (hs j _ hj hm (by omega)) hk
      · rw [iN hk,iN (by split <;> decide)]
        refine Ur l s hlen hs k lo ((lo+hi) / 2) (by omega) (by omega) (by omega) hlo (λ j hj hjl=>?_)
        by_cases e:(lo+hi) / 2=j
        · subst e;exact hk
        · exact λ h'=>hk (zG (hs _ j hm hj (by omega)) h')
    · rw [iN (by simpa using hl)]
      have e:lo=hi:=by omega
      subst e
      refine ⟨lo,hhi,?_,hlo,hup⟩
      by_cases hl2:lo < l.length
      · rw [iP (by simpa using hl2),bV hl2]
        simp only [bS]
        rw [BO]
        simp only [bS]
        rw [iN (hup lo hl2 (Nat.le_refl _)),List.getElem?_eq_getElem hl2]
        by_cases hk:key l[lo]=bl s <;> simp [hk]
      · rw [iN (by simpa using hl2),List.getElem?_eq_none (by omega)]
        simp
theorem Us(l:List Tn)(s:ByteArray)(hlen:l.length <= 1000000)(hs:∀ i j (hi:i < l.length) (hj:j < l.length),i < j->dA l[i] < dA l[j]):∀ (k lo hi:Nat),lo <= hi->hi <= l.length->hi+1 <= lo+k->(∀ j (h:j < l.length),j < lo->dA l[j] < bl s)->(∀ j (h:j < l.length),hi <= j->¬ dA l[j] < bl s)->
    ∃ i,i <= l.length/\cE l s k (lo:Int) (hi:Int)=some ((i:Int),decide (l[i]?.map dA=some (bl s)))/\(∀ j (h:j < l.length),j < i->dA l[j] < bl s)/\(∀ j (h:j < l.length),i <= j->¬ dA l[j] < bl s)
  | 0,lo,hi,_,_,h,_,_=>by omega
  | k+1,lo,hi,hlh,hhi,h,hlo,hup=>by
    unfold cE
    by_cases hl:lo < hi
    · rw [iP (by simpa using hl),show IntKind.i64.wrap ((lo:Int)+(hi:Int))=IntKind.i64.wrap ((lo+hi:Nat):Int) from by rw [Int.natCast_add],EI _ (by omega)]
      have hm:(lo+hi) / 2 < l.length:=by omega
      rw [bV hm]
      simp only [bS]
      rw [BP]
      simp only [bS]
      by_cases hk:dA l[(lo+hi) / 2] < bl s
      · rw [iP hk,iP (by decide),show IntKind.i64.wrap ((((lo+hi) / 2:Nat):Int)+1)=(((lo+hi) / 2+1:Nat):Int) from by rw [w64 (by omega) (by omega)];omega]
        refine Us l s hlen hs k ((lo+hi) / 2+1) hi (by omega) hhi (by omega) (λ j hj hjl=>?_) hup
        by_cases e:j=(lo+hi) / 2
        · subst e;exact hk
        · exact zG (hs j _ hj hm (by omega)) hk
      · rw [iN hk,iN (by split <;> decide)]
        refine Us l s hlen hs k lo ((lo+hi) / 2) (by omega) (by omega) (by omega) hlo (λ j hj hjl=>?_)
        by_cases e:(lo+hi) / 2=j
        · subst e;exact hk
        · exact λ h'=>hk (zG (hs _ j hm hj (by omega)) h')
    · rw [iN (by simpa using hl)]
      have e:lo=hi:=by omega
      subst e
      refine ⟨lo,hhi,?_,hlo,hup⟩
      by_cases hl2:lo < l.length
      · rw [iP (by simpa using hl2),bV hl2]
        simp only [bS]
        rw [BP]
        simp only [bS]
        rw [iN (hup lo hl2 (Nat.le_refl _)),List.getElem?_eq_getElem hl2]
        by_cases hk:dA l[lo]=bl s <;> simp [hk]
      · rw [iN (by simpa using hl2),List.getElem?_eq_none (by omega)]
        simp
theorem BQ(l:List Nd)(s:ByteArray)(hlen:l.length <= 1000000)(hs:l.Pairwise (key · < key ·)) :
    ∃ i:Nat,i <= l.length/\mV l s=some ((i:Int),(l.find? (isK (bl s))).isSome)/\l.take i=l.filter (gLt key (bl s))/\
      ((∃ x,l.drop i=x::l.filter (gGt key (bl s))/\key x=bl s/\l.find? (isK (bl s))=some x/\l[i]? =some x/\x ∈ l)∨(l.drop i=l.filter (gGt key (bl s))/\l.find? (isK (bl s))=none)):=by
  obtain ⟨i,h1,h2,h3,h4⟩:=Ur l s hlen (List.pairwise_iff_getElem.1 hs) (((l.length:Int) - 0:Int).toNat+1) 0 l.length (by omega) (Nat.le_refl _) (by omega) (λ j _ h=>by omega) (λ j h h'=>by omega)
  obtain ⟨g1,g2⟩:=Up key l (bl s) i hs h1 h3 h4
  refine ⟨i,h1,?_,g1,?_⟩
  · unfold mV fK
    rw [show cD l s (((l.length:Int) - 0:Int).toNat+1) 0 (l.length:Int)=_ from h2]
    simp only [bS]
    rcases g2 with ⟨x,_,hk,hf,hi,_⟩ | ⟨_,hf,hi⟩
    · rw [hi,show l.find? (isK (bl s))=some x from hf];simp [hk]
    · rw [decide_eq_false hi,show l.find? (isK (bl s))=none from hf];rfl
  · rcases g2 with ⟨x,a,b,c,d,e⟩ | ⟨a,b,_⟩
    · exact .inl ⟨x,a,b,c,d,e⟩
    · exact .inr ⟨a,b⟩
theorem NE(l:List Tn)(s:ByteArray)(hlen:l.length <= 1000000)(hs:l.Pairwise (dA · < dA ·)) :
    ∃ i:Nat,i <= l.length/\cI l s=some ((i:Int),(l.find? (gEq dA (bl s))).isSome)/\l.take i=l.filter (gLt dA (bl s))/\
      ((∃ x,l.drop i=x::l.filter (gGt dA (bl s))/\dA x=bl s/\l.find? (gEq dA (bl s))=some x/\l[i]? =some x/\x ∈ l)∨(l.drop i=l.filter (gGt dA (bl s))/\l.find? (gEq dA (bl s))=none)):=by
  obtain ⟨i,h1,h2,h3,h4⟩:=Us l s hlen (List.pairwise_iff_getElem.1 hs) (((l.length:Int) - 0:Int).toNat+1) 0 l.length (by omega) (Nat.le_refl _) (by omega) (λ j _ h=>by omega) (λ j h h'=>by omega)
  obtain ⟨g1,g2⟩:=Up dA l (bl s) i hs h1 h3 h4
  refine ⟨i,h1,?_,g1,?_⟩
  · unfold cI
    rw [show cE l s (((l.length:Int) - 0:Int).toNat+1) 0 (l.length:Int)=_ from h2]
    rcases g2 with ⟨x,_,hk,hf,hi,_⟩ | ⟨_,hf,hi⟩
    · rw [hi,hf];simp [hk]
    · rw [decide_eq_false hi,hf];rfl
  · rcases g2 with ⟨x,a,b,c,d,e⟩ | ⟨a,b,_⟩
    · exact .inl ⟨x,a,b,c,d,e⟩
    · exact .inr ⟨a,b⟩
def NF(p:Pt1)(x:Nd):Bool:=(decide (p.Kind=3) || decide (p.Kind=5) || decide (p.Kind=6)) && decide (0 <= p.Version) && decide (p.Version ≠ x.Version)
def ndS(l:List Nd)(p:Pt1):Nd×Int:=match l.find? (isK (bl p.Path)) with
  | none=>(zNd,62)
  | some x=>if NF p x=true then (x,63) else (x,0)
theorem U5(l:List Nd)(t:List Tn)(p:Pt1)(hlen:l.length <= 1000000)(hs:l.Pairwise (key · < key ·)) :
    (∃ e,(e=62∨e=63)/\(ndS l p).2=e/\iG l 0 (ByteArray.mk #[]) (ByteArray.mk #[]) 0 [] p=some ((-1),e,ByteArray.mk #[],ByteArray.mk #[],0,[]))∨
    (∃ i:Nat,∃ hi:i < l.length,(ndS l p).2=0/\(ndS l p).1=l[i]/\key l[i]=bl p.Path/\l.find? (isK (bl p.Path))=some l[i]/\iG l 0 (ByteArray.mk #[]) (ByteArray.mk #[]) 0 [] p=some ((i:Int),0,ByteArray.mk #[],ByteArray.mk #[],0,[])/\mV l p.Path=some ((i:Int),true)):=by
  obtain ⟨i,h1,h2,h3,h4⟩:=BQ l p.Path hlen hs
  unfold iG pZ pY tL ndS gT
  rw [h2]
  simp only [bS]
  rcases h4 with ⟨x,_,hk,hf,hi,_⟩ | ⟨_,hf⟩
  · obtain ⟨hi',rfl⟩:=List.getElem?_eq_some_iff.1 hi
    rw [hf]
    simp only [Option.isSome_some,Bool.not_true,Bool.false_eq_true,if_false]
    rw [bV hi']
    simp only [bS]
    unfold NF
    by_cases a:p.Kind=3∨p.Kind=5∨p.Kind=6
    · by_cases b:0 <= p.Version
      · by_cases c:p.Version=(l[i]).Version
        · refine .inr ⟨i,hi',?_,?_,hk,rfl,?_,?_⟩
          · simp [c]
          · simp [c]
          · rcases a with a | a | a <;> simp [a,c,show 0 <= (l[i]).Version from c ▸ b]
          · first | rfl | (rw [h2,hf];rfl)
        · refine .inl ⟨63,.inr rfl,?_,?_⟩
          · rcases a with a | a | a <;> simp [a,b,c]
          · rcases a with a | a | a <;> simp [a,b,c]
      · refine .inr ⟨i,hi',?_,?_,hk,rfl,?_,?_⟩
        · simp [b]
        · simp [b]
        · rcases a with a | a | a <;> simp [a,b]
        · first | rfl | (rw [h2,hf];rfl)
    · refine .inr ⟨i,hi',?_,?_,hk,rfl,?_,?_⟩
      · simp [show p.Kind ≠ 3 from λ h=>a (.inl h),show p.Kind ≠ 5 from λ h=>a (.inr (.inl h)),show p.Kind ≠ 6 from λ h=>a (.inr (.inr h))]
      · simp [show p.Kind ≠ 3 from λ h=>a (.inl h),show p.Kind ≠ 5 from λ h=>a (.inr (.inl h)),show p.Kind ≠ 6 from λ h=>a (.inr (.inr h))]
      · simp [show p.Kind ≠ 3 from λ h=>a (.inl h),show p.Kind ≠ 5 from λ h=>a (.inr (.inl h)),show p.Kind ≠ 6 from λ h=>a (.inr (.inr h))]
      · first | rfl | (rw [h2,hf];rfl)
  · rw [hf]
    refine .inl ⟨62,.inl rfl,rfl,?_⟩
    simp
abbrev em:ByteArray:=ByteArray.mk #[]
theorem BR(l:List Nd)(t:List Tn)(p:Pt1)(hlen:l.length <= 1000000)(hs:l.Pairwise (key · < key ·)) :
    wL l 0 em em 0 [] p=some ((if (ndS l p).2 ≠ 0 then (ndS l p).2 else if (ndS l p).1.Owner ≠ 0 then 65 else 0),em,em,0,[]):=by
  unfold wL sE
  rcases U5 l t p hlen hs with ⟨e,he,h1,h2⟩ | ⟨i,hi,h1,h2,h3,h4,h5,h6⟩
  · rw [h2]
    simp only [bS]
    rw [iN (by simp),iN (by simp),h1,iP (by omega)]
  · rw [h5]
    simp only [bS]
    rw [iP (decide_eq_true (by omega)),bV hi,h1,iN (by simp),h2]
    simp only [bS]
    by_cases c:(l[i]).Owner=0
    · rw [iN (by simpa using c),iN (by simpa using c)]
    · rw [iP (by simpa using c),iP c];rfl
theorem IL(l:List Nd)(t:List Tn)(p:Pt1)(hlen:l.length <= 1000000)(hs:l.Pairwise (key · < key ·)) :
    yO l 0 em em 0 [] p=some ((ndS l p).2,em,em,0,[]):=by
  unfold yO
  rcases U5 l t p hlen hs with ⟨e,he,h1,h2⟩ | ⟨i,hi,h1,h2,h3,h4,h5,h6⟩
  · rw [h2,h1];rfl
  · rw [h5,h1];rfl
theorem EP(l:List Nd)(t:List Tn)(p:Pt1)(hlen:l.length <= 1000000)(hs:l.Pairwise (key · < key ·)) :
    xM l 0 em em 0 [] p=some ((ndS l p).2,em,em,(if (ndS l p).2 ≠ 0 then 0 else (ndS l p).1.Version),[]):=by
  unfold xM
  rcases U5 l t p hlen hs with ⟨e,he,h1,h2⟩ | ⟨i,hi,h1,h2,h3,h4,h5,h6⟩
  · rw [h2]
    simp only [bS]
    rw [iN (by simp),h1,iP (by omega)]
  · rw [h5]
    simp only [bS]
    rw [iP (decide_eq_true (by omega)),bV hi,h1,iN (by simp),h2]
    simp only [bS]
theorem EQ(l:List Nd)(t:List Tn)(p:Pt1)(hlen:l.length <= 1000000)(hs:l.Pairwise (key · < key ·)) :
    xN l 0 em em 0 [] p=some ((ndS l p).2,em,(if (ndS l p).2 ≠ 0 then em else (ndS l p).1.Data),(if (ndS l p).2 ≠ 0 then 0 else (ndS l p).1.Version),[]):=by
  unfold xN
  rcases U5 l t p hlen hs with ⟨e,he,h1,h2⟩ | ⟨i,hi,h1,h2,h3,h4,h5,h6⟩
  · rw [h2]
    simp only [bS]
    rw [iN (by simp),h1,iP (by omega),iP (by omega)]
  · rw [h5]
    simp only [bS]
    rw [iP (decide_eq_true (by omega)),bV hi,h1,iN (by simp),iN (by simp),h2]
    simp only [bS]
theorem Yz(l:List Nd)(t:List Tn)(p:Pt1)(hlen:l.length <= 1000000)(hs:l.Pairwise (key · < key ·)) :
    uX l 0 em em 0 [] p=some ((if (ndS l p).2 ≠ 0 then l else l.filter (λ y=>!isK (bl p.Path) y)),(ndS l p).2,em,em,0,[]):=by
  unfold uX
  rcases U5 l t p hlen hs with ⟨e,he,h1,h2⟩ | ⟨i,hi,h1,h2,h3,h4,h5,h6⟩
  · rw [h2]
    simp only [bS]
    rw [iN (by simp),h1,iP (by omega)]
  · rw [h5]
    simp only [bS]
    rw [iP (decide_eq_true (by omega)),h6,h1,iN (by simp)]
    simp only [bS]
    rw [dO ⟨by omega,by omega,by rw [w64 (by omega) (by omega)]⟩,Int.toNat_natCast,Ul hs hi,h3]
def Za(p:Pt1)(x:Nd):Nd:={ x with Data:=p.Data,Version:=x.Version+1 }
theorem BS(l:List Nd)(t:List Tn)(p:Pt1)(hlen:l.length <= 1000000)(hs:l.Pairwise (key · < key ·))(hv:∀ x ∈ l,0 <= x.Version/\x.Version <= 281474976710656) :
    wI l 0 em em 0 [] p=some (if (ndS l p).2 ≠ 0 then (l,(ndS l p).2,em,em,0,[]) else if (ndS l p).1.Version=281474976710656 then (l,2,em,em,0,[]) else (upd l (bl p.Path) (Za p),0,em,em,(ndS l p).1.Version+1,[])):=by
  unfold wI
  rcases U5 l t p hlen hs with ⟨e,he,h1,h2⟩ | ⟨i,hi,h1,h2,h3,h4,h5,h6⟩
  · rw [h2]
    simp only [bS]
    rw [iP (by simp),h1,iP (by omega)]
  · rw [h5]
    simp only [bS]
    rw [iN (by rw [decide_eq_false (by omega)];simp),bV hi,h1,iN (by simp),h2]
    simp only [bS]
    by_cases c:(l[i]).Version=281474976710656
    · rw [iP (by simpa using c),iP c];rfl
    · have:=hv _ (List.getElem_mem hi)
      rw [iN (by simpa using c),iN c,w64 (by omega) (by omega)]
      simp only [Int.toNat_natCast,List.set_set]
      rw [← h3,← IG hs hi (Za p)]
      rfl
theorem Ut(x:Nd)(b:ByteArray):zF x b=some (u9 (bl b) x):=by
  unfold zF u9
  rw [Bu,show bl x.Path=key x from rfl]
  simp only [bS]
  cases h:pC (key x) with
  | none=>rw [iN (by simp [os2])];simp
  | some q=>rw [iP (by simp [os2]),qV];simp [os2,kY];rfl
theorem Xf(l:List Nd)(b:ByteArray)(hlen:l.length <= 1000000):∀ (k j:Nat),j <= l.length->l.length+1 <= j+k->∃ z:Int,dN l b k (j:Int)=some z/\decide (z ≥ 0)=(l.drop j).any (u9 (bl b))
  | 0,j,_,h=>by omega
  | k+1,j,h0,h=>by
    unfold dN
    by_cases hj:j < l.length
    · rw [iP (by simpa using hj),bV hj]
      simp only [bS]
      rw [Ut]
      simp only [bS]
      rw [List.drop_eq_getElem_cons hj,List.any_cons]
      cases hc:u9 (bl b) l[j] with
      | true=>rw [iP rfl];exact ⟨_,rfl,by simp⟩
      | false=>
        rw [iN (by simp),gU (by omega)]
        obtain ⟨z,h1,h2⟩:=Xf l b hlen k (j+1) (by omega) (by omega)
        exact ⟨z,h1,by rw [h2,Bool.false_or]⟩
    · rw [iN (by simpa using hj),List.drop_eq_nil_of_le (by omega)]
      exact ⟨_,rfl,rfl⟩
theorem IM(l:List Nd)(b:ByteArray)(hlen:l.length <= 1000000):fN l b=some (l.any (u9 (bl b))):=by
  unfold fN iQ
  obtain ⟨z,h1,h2⟩:=Xf l b hlen (((l.length:Int) - 0:Int).toNat+1) 0 (by omega) (by omega)
  rw [show dN l b (((l.length:Int) - 0:Int).toNat+1) 0=some z from h1]
  simp only [bS]
  rw [h2,List.drop_zero]
theorem Ik(l:List Nd)(u:Int×ByteArray×ByteArray×ByteArray×Int×Int×Bool)(hlen:l.length <= 1000000):∀ (k j:Nat) (acc:List ByteArray),j <= l.length->l.length+1 <= j+k->acc.length <= j->jT l u k (j:Int) acc=some (acc ++ ((l.drop j).filter (u9 (bl u.2.2.1))).map M4)
  | 0,j,acc,_,h,_=>by omega
  | k+1,j,acc,h0,h,ha=>by
    unfold jT sF
    by_cases hj:j < l.length
    · rw [iP (by simpa using hj),bV hj]
      simp only [bS]
      rw [Ut,gU (by omega)]
      simp only [bS]
      rw [List.drop_eq_getElem_cons hj,List.filter_cons]
      cases hc:u9 (bl u.2.2.1) l[j] with
      | true=>
        rw [iP rfl,iP rfl,Px]
        simp only [bS]
        rw [dO (by simp [LIM];omega),Ik l u hlen k (j+1) _ (by omega) (by omega) (by simp;omega),show mk (z8 (bl (l[j]).Path))=M4 l[j] from rfl]
        simp
      | false=>
        rw [iN (by simp),iN (by simp),Ik l u hlen k (j+1) _ (by omega) (by omega) (by omega)]
    · rw [iN (by simpa using hj),List.drop_eq_nil_of_le (by omega),List.filter_nil,List.map_nil,List.append_nil]
theorem BT(l:List Nd)(t:List Tn)(p:Pt1)(hlen:l.length <= 1000000):wM l [] p=some ((l.filter (u9 (bl p.Path))).map M4):=by
  unfold wM w8
  simp only [bS]
  refine (Ik l _ hlen (((l.length:Int) - 0:Int).toNat+1) 0 [] (by omega) (by omega) (by simp)).trans ?_
  simp
theorem Qp(x:Nd)(w:Int)(r5:ByteArray)(acc:List ByteArray)(ha:acc.length <= 1000000):qA x w r5 acc=some (xU (bl r5) w x,if xU (bl r5) w x=true then acc ++ [M4 x] else acc):=by
  unfold qA qQ qP xU
  by_cases h:x.Owner=w
  · rw [iP (by simpa using h),Ut]
    simp only [bS]
    rw [show (x.Owner == w)=true from by simpa using h,Bool.true_and]
    cases hc:u9 (bl r5) x with
    | true=>
      rw [iP rfl,iP rfl,Px]
      simp only [bS]
      rw [dO (by simp [LIM];omega)]
      rfl
    | false=>rw [iN (by simp),iN (by simp)]
  · rw [iN (by simpa using h),iN (by simp),show (x.Owner == w)=false from by simpa using h,Bool.false_and,iN (by simp)]
theorem Uu(l:List Nd)(w:Int)(r5:ByteArray)(acc:List ByteArray)(ha:acc.length <= 500000)(hlen:l.length <= 500000):∀ (k j:Nat),j <= l.length->l.length+1 <= j+k->(∀ m (h:m < l.length),m < j->xU (bl r5) w l[m]=false)->
    (∃ i:Nat,∃ hi:i < l.length,cQ l w r5 k (j:Int) acc=some ((i:Int),acc ++ [M4 l[i]])/\xU (bl r5) w l[i]=true/\∀ m (h:m < l.length),m < i->xU (bl r5) w l[m]=false)∨(cQ l w r5 k (j:Int) acc=some (-1,acc)/\∀ m (h:m < l.length),xU (bl r5) w l[m]=false)
  | 0,j,_,h,_=>by omega
  | k+1,j,h0,h,hb=>by
    unfold cQ
    by_cases hj:j < l.length
    · rw [iP (by simpa using hj),bV hj]
      simp only [bS]
      rw [Qp _ _ _ _ (by omega)]
      simp only [bS]
      cases hc:xU (bl r5) w l[j] with
      | true=>exact .inl ⟨j,hj,by rw [iP rfl,iP rfl],hc,λ m h hm=>hb m h hm⟩
      | false=>
        rw [iN (by simp),iN (by simp),gU (by omega)]
        refine Uu l w r5 acc ha hlen k (j+1) (by omega) (by omega) λ m h hm=>?_
        by_cases e:m=j
        · subst e;exact hc
        · exact hb m h (by omega)
    · rw [iN (by simpa using hj)]
      exact .inr ⟨rfl,λ m h=>hb m h (by omega)⟩
theorem Qa(l0:List Nd)(w:Int)(r5:ByteArray)(hlen:l0.length <= 500000):∀ (k i j:Nat) (l:List Nd) (acc:List ByteArray),l.length=l0.length->i <= j->j <= l0.length->l0.length+1 <= j+k->acc.length <= j->l.take i=(l0.take j).filter (λ x=>!xU (bl r5) w x)->l.drop j=l0.drop j->
    dC w r5 k l (i:Int) (j:Int) acc=some (l0.filter (λ x=>!xU (bl r5) w x),acc ++ ((l0.drop j).filter (xU (bl r5) w)).map M4)
  | 0,i,j,l,acc,_,_,_,h,_,_,_=>by omega
  | k+1,i,j,l,acc,hl,hij,hj0,h,ha,ht,hd=>by
    unfold dC fV
    by_cases hj:j < l.length
    · have hj':j < l0.length:=by omega
      have hjx:l[j]=l0[j]:=by
        have h1:l[j]? =l0[j]? :=by
          have:=congrArg (λ z:List Nd=>z[0]?) hd
          simpa [List.getElem?_drop] using this
        rw [List.getElem?_eq_getElem hj,List.getElem?_eq_getElem hj'] at h1
        exact Option.some.inj h1
      rw [iP (by simpa using hj),bV hj]
      simp only [bS]
      rw [hjx]
      rw [Qp _ _ _ _ (by omega)]
      simp only [bS]
      have hd':l0.drop j=l0[j]::l0.drop (j+1):=List.drop_eq_getElem_cons hj'
      cases hc:xU (bl r5) w l0[j] with
      | false=>
        rw [iP (by rfl),bV (show i < l.length by omega)]
        simp only [bS,Int.toNat_natCast]
        rw [iN (by simp),gU (show i <= 4611686018427387904 by omega),gU (show j <= 4611686018427387904 by omega)]
        rw [Qa l0 w r5 hlen k (i+1) (j+1) (l.set i l0[j]) acc (by simpa using hl) (by omega) (by omega) (by omega) (by omega) ?_ ?_]
        · rw [hd',List.filter_cons,iN (by simp [hc])]
        · rw [Fg hj',hc,← ht,List.take_add_one]
          rw [List.getElem?_set_self (by omega),List.take_set_of_le (by omega)]
          simp
        · rw [List.drop_set_of_lt (by omega),← List.drop_drop,hd,← List.drop_drop]
      | true=>
        rw [iN (by simp),iP rfl,gU (show j <= 4611686018427387904 by omega)]
        rw [Qa l0 w r5 hlen k i (j+1) l _ hl (by omega) (by omega) (by omega) (by simp;omega) ?_ ?_]
        · rw [hd',List.filter_cons,iP (by simp [hc])];simp
        · rw [Fg hj',hc,ht];simp
        · rw [← List.drop_drop,hd,← List.drop_drop]
    · have hje:j=l0.length:=by omega
      subst hje
      rw [iN (by simpa using hj),dO (by omega)]
      have hti:l.take i=l0.filter (λ x=>!xU (bl r5) w x):=by rw [ht,List.take_length]
      simp only [Int.toNat_natCast]
      rw [dO (by rw [List.length_append,List.length_take,List.length_replicate];omega)]
      have:(l.take i ++ List.replicate (l.length - i) (⟨⟨#[]⟩,⟨#[]⟩,0,0,0⟩:Nd)).take i=l.take i:=by
        rw [List.take_append_of_le_length (by rw [List.length_take];omega),List.take_take,Nat.min_self]
      rw [this,hti,List.drop_length]
      simp
theorem BU(l:List Nd)(t:List Tn)(p:Pt1)(hlen:l.length <= 500000):wJ l [] p=some (l.filter (λ x=>!xU (bl p.Path) p.Owner x),(l.filter (xU (bl p.Path) p.Owner)).map M4):=by
  unfold wJ w8
  simp only [bS]
  unfold jB iO
  rcases Uu l p.Owner p.Path [] (by simp) hlen (((l.length:Int) - 0:Int).toNat+1) 0 (by omega) (by omega) (λ m h hm=>by omega) with ⟨j,hj,h1,h2,h3⟩ | ⟨h1,h3⟩
  · rw [show cQ l p.Owner p.Path (((l.length:Int) - 0:Int).toNat+1) 0 []=some ((j:Int),[] ++ [M4 l[j]]) from h1]
    simp only [bS]
    rw [iN (by simp only [beq_iff_eq];omega),gU (by omega)]
    have htk:(l.take j).filter (λ x=>!xU (bl p.Path) p.Owner x)=l.take j:=List.filter_eq_self.2 λ y hy=>by
      obtain ⟨m,hm,rfl⟩:=List.mem_take_iff_getElem.1 hy
      rw [h3 m (by omega) (by omega)];rfl
    have htk2:(l.take j).filter (xU (bl p.Path) p.Owner)= []:=List.filter_eq_nil_iff.2 λ y hy=>by
      obtain ⟨m,hm,rfl⟩:=List.mem_take_iff_getElem.1 hy
      rw [h3 m (by omega) (by omega)];simp
    rw [Qa l p.Owner p.Path hlen _ j (j+1) l _ rfl (by omega) (by omega) (by omega) (by simp) ?_ rfl]
    · simp only [bS]
      have:l.filter (xU (bl p.Path) p.Owner)=l[j]::(l.drop (j+1)).filter (xU (bl p.Path) p.Owner):=by
        have e:∀ f:Nd->Bool,l.filter f=(l.take j).filter f ++ (l[j]::l.drop (j+1)).filter f:=λ f=>by rw [← List.filter_append,← List.drop_eq_getElem_cons hj,List.take_append_drop]
        rw [e,htk2,List.filter_cons,iP h2]
        rfl
      rw [this]
      rfl
    · rw [Fg hj,htk,h2];simp
  · rw [show cQ l p.Owner p.Path (((l.length:Int) - 0:Int).toNat+1) 0 []=some (-1,[]) from h1]
    simp only [bS]
    have f1:l.filter (λ x=>!xU (bl p.Path) p.Owner x)=l:=List.filter_eq_self.2 λ y hy=>by
      obtain ⟨m,hm,rfl⟩:=List.mem_iff_getElem.1 hy
      rw [h3 m hm];rfl
    have f2:l.filter (xU (bl p.Path) p.Owner)= []:=List.filter_eq_nil_iff.2 λ y hy=>by
      obtain ⟨m,hm,rfl⟩:=List.mem_iff_getElem.1 hy
      rw [h3 m hm];simp
    rw [f1,f2]
    rfl
def sT(l:List Tn)(d:List UInt8):Int:=match l.find? (gEq dA d) with
  | none=>0
  | some t=>t.Next
def uE(l:List Tn)(d:List UInt8)(n:Int):List Tn:=if n=0 then l.filter (λ t=>!gEq dA d t) else l.filter (gLt dA d) ++ ⟨mk d,n⟩::l.filter (gGt dA d)
theorem NG{x:Tn}{d:List UInt8}(h:dA x=d)(n:Int):({ x with Next:=n }:Tn)= ⟨mk d,n⟩:=by
  subst h;cases x;simp [dA,Fe]
theorem Il(l:List Tn)(d:List UInt8)(hs:l.Pairwise (dA · < dA ·)):l.filter (λ t=>!gEq dA d t)=l.filter (gLt dA d) ++ l.filter (gGt dA d):=by
  induction l with
  | nil=>rfl
  | cons x l ih=>
    obtain ⟨h1,h2⟩:=List.pairwise_cons.1 hs
    rw [List.filter_cons,List.filter_cons,List.filter_cons,ih h2]
    by_cases a:dA x < d
    · have b:=vW a
      rw [iP (by simp [gEq,b]),iP (by simp [gLt,a]),iN (by simp [gGt,gLt,a])];rfl
    · have e:l.filter (gLt dA d)= []:=List.filter_eq_nil_iff.2 λ y hy=>by
        have:=h1 y hy
        simp only [gLt,decide_eq_true_eq]
        exact λ h=>a (zG this h)
      rw [iN (by simp [gLt,a]:¬ gLt dA d x=true),e]
      by_cases b:dA x=d
      · rw [iN (by simp [gEq,b]),iN (by simp [gGt,gEq,b])]
      · rw [iP (by simp [gEq,b]),iP (by simp [gGt,gLt,gEq,a,b])];rfl
theorem Ji{α:Type}(a:List α)(x y:α)(b:List α):(a ++ x::b).set a.length y=a ++ y::b:=by simp
theorem Qq{α:Type}(a:List α)(x:α)(b:List α):(a ++ x::b).eraseIdx a.length=a ++ b:=by
  rw [List.eraseIdx_append_of_length_le (Nat.le_refl _)];simp
theorem Fj(l:List Tn)(s:ByteArray)(hlen:l.length <= 100000)(hs:l.Pairwise (dA · < dA ·)) :
    ∃ i:Nat,∃ b:Bool,cI l s=some ((i:Int),b)/\i=(l.filter (gLt dA (bl s))).length/\i <= l.length/\
      (l.filter (gLt dA (bl s)) ++ l.filter (gGt dA (bl s))).length <= l.length/\
      ((b=true/\∃ x,dA x=bl s/\sT l (bl s)=x.Next/\x ∈ l/\l=l.filter (gLt dA (bl s)) ++ x::l.filter (gGt dA (bl s)))∨
       (b=false/\sT l (bl s)=0/\l=l.filter (gLt dA (bl s)) ++ l.filter (gGt dA (bl s))/\l.take i ++ (⟨s,0⟩:Tn)::l.drop i=l.filter (gLt dA (bl s)) ++ ⟨s,0⟩::l.filter (gGt dA (bl s)))):=by
  obtain ⟨i,h1,h2,h3,h4⟩:=NE l s (by omega) hs
  have hi:i=(l.filter (gLt dA (bl s))).length:=by rw [← h3,List.length_take];omega
  refine ⟨i,_,h2,hi,h1,?_,?_⟩
  · rw [← Il l _ hs];exact List.length_filter_le _ _
  · rcases h4 with ⟨x,a,b,c,d,e⟩ | ⟨a,b⟩
    · refine .inl ⟨by rw [c];rfl,x,b,by unfold sT;rw [c],e,?_⟩
      rw [← a,← h3,List.take_append_drop]
    · refine .inr ⟨by rw [b];rfl,by unfold sT;rw [b],?_,by rw [h3,a]⟩
      rw [← a,← h3,List.take_append_drop]
theorem BV(A B:List Tn)(y:Tn)(b:Bool)(hA:A.length <= 1000000):nK ((A.length:Int),b) (A ++ y::B)=some (y.Next,if y.Next=0 then A ++ B else A ++ y::B):=by
  unfold nK rF zO
  have hi:A.length < (A ++ y::B).length:=by simp
  have hg:(A ++ y::B)[A.length]=y:=by simp
  simp only [Int.toNat_natCast]
  rw [bV hi,hg]
  simp only [bS]
  rw [bV (by simp)]
  simp only [bS,List.getElem_set_self]
  by_cases c:y.Next=0
  · rw [iP (by simpa using c),iP c,dO ⟨by omega,by simp;omega,by rw [w64 (by omega) (by omega)]⟩,Ji,Qq]
  · rw [iN (by simpa using c),iN c,Ji]
theorem FU(A B:List Tn)(y:Tn)(b:Bool)(hA:A.length <= 1000000):qB ((A.length:Int),b) (A ++ y::B)=some (y.Next,A ++ B):=by
  unfold qB tM D5
  have hi:A.length < (A ++ y::B).length:=by simp
  have hg:(A ++ y::B)[A.length]=y:=by simp
  simp only [Int.toNat_natCast]
  rw [bV hi,hg]
  simp only [bS]
  rw [bV (by simp)]
  simp only [bS,List.getElem_set_self]
  rw [iP (by rfl),dO ⟨by omega,by simp;omega,by rw [w64 (by omega) (by omega)]⟩,Ji,Qq]
theorem FV(A B:List Tn)(y:Tn)(b:Bool)(hA:A.length <= 1000000)(hn:0 <= y.Next/\y.Next <= 10000):nM ((A.length:Int),b) (A ++ y::B)=some (y.Next,A ++ { y with Next:=y.Next+1 }::B):=by
  unfold nM rG zP
  have hi:A.length < (A ++ y::B).length:=by simp
  have hg:(A ++ y::B)[A.length]=y:=by simp
  simp only [Int.toNat_natCast]
  rw [bV hi,hg]
  simp only [bS]
  rw [w64 (by omega) (by omega),bV (by simp)]
  simp only [bS,List.getElem_set_self]
  rw [iN (by simp;omega),Ji]
theorem BW(l:List Tn)(s:ByteArray)(hlen:l.length <= 100000)(hs:l.Pairwise (dA · < dA ·))(hn:∀ y ∈ l,y.Next ≠ 0):uY l s=some (sT l (bl s),l):=by
  obtain ⟨i,z,h1,h2,h2',h3,h4⟩:=Fj l s hlen hs
  unfold uY
  rw [h1]
  simp only [bS]
  rcases h4 with ⟨rfl,y,hy,ht,hm,hl⟩ | ⟨rfl,ht,hl,hd⟩
  · rw [iN (by simp),h2]
    conv=>lhs;arg 2;rw [hl]
    rw [BV _ _ _ _ (by omega),ht,iN (hn _ hm),← hl]
  · rw [iP (by rfl),dO (by omega),Int.toNat_natCast,hd,h2,BV _ _ _ _ (by omega),ht,iP rfl,← hl]
theorem BX(l:List Tn)(s:ByteArray)(hlen:l.length <= 100000)(hs:l.Pairwise (dA · < dA ·)):xO l s=some (sT l (bl s),uE l (bl s) 0):=by
  obtain ⟨i,z,h1,h2,h2',h3,h4⟩:=Fj l s hlen hs
  unfold xO uE
  rw [h1,iP rfl,Il l _ hs]
  simp only [bS]
  rcases h4 with ⟨rfl,y,hy,ht,hm,hl⟩ | ⟨rfl,ht,hl,hd⟩
  · rw [iN (by simp),h2]
    conv=>lhs;arg 2;rw [hl]
    rw [FU _ _ _ _ (by omega),ht]
  · rw [iP (by rfl),dO (by omega),Int.toNat_natCast,hd,h2,FU _ _ _ _ (by omega),ht]
theorem BZ(l:List Tn)(s:ByteArray)(hlen:l.length <= 100000)(hs:l.Pairwise (dA · < dA ·))(hn:∀ y ∈ l,1 <= y.Next/\y.Next <= 10000):uZ l s=some (sT l (bl s),uE l (bl s) (sT l (bl s)+1)):=by
  obtain ⟨i,z,h1,h2,h2',h3,h4⟩:=Fj l s hlen hs
  unfold uZ uE
  rw [h1]
  simp only [bS]
  rcases h4 with ⟨rfl,y,hy,ht,hm,hl⟩ | ⟨rfl,ht,hl,hd⟩
  · have hny:=hn _ hm
    rw [iN (by simp),h2,ht,iN (by omega)]
    conv=>lhs;arg 2;rw [hl]
    rw [FV _ _ _ _ (by omega) (by omega),NG hy]
  · rw [iP (by rfl),dO (by omega),Int.toNat_natCast,hd,h2,FV _ _ _ _ (by omega) (by simp),ht,iN (by decide),Fe]
def pop(p:Pt1):Op1:=⟨0,p.Path,mk [],0,0,p.Turns⟩
def Uv(s:Sto)(p:Pt1):Sto×Res:=
  match V6 (pop p) (upP (bl p.Path)) (sT s.Turns (upP (bl p.Path))) with
  | none=>(s,res 66)
  | some q=>if (s.Nodes.find? (isK q)).isSome=true then (s,res 61) else
    (⟨Y9 ⟨mk q,p.Data,0,0,p.Owner⟩ s.Nodes,if p.Turns=true then uE s.Turns (upP (bl p.Path)) (sT s.Turns (upP (bl p.Path))+1) else s.Turns⟩,{ res 0 with Path:=mk q })
theorem On{s:Sto}(S:eK s):∀ y ∈ s.Turns,1 <= y.Next/\y.Next <= 10000:=λ y hy=>by
  have:=List.all_eq_true.1 S.turns y hy
  simp [ptB] at this
  omega
theorem Qr{l:List Nd}{x:Nd}(hs:l.Pairwise (key · < key ·))(hn:l.find? (isK (key x))=none):l.filter (gLt key (key x)) ++ x::l.filter (gGt key (key x))=Y9 x l:=by
  unfold Y9
  congr 2
  refine List.filter_congr λ y hy=>?_
  have:=QS.1 hn y hy
  simp [gGt,gLt,gEq,ltB,this]
theorem Xg(s:Sto)(p:Pt1)(q d:List UInt8)(b:Bool)(hlen:s.Nodes.length <= 100000)(hlt:s.Turns.length <= 100000)(S:eK s) :
    rH s.Nodes p 0 em 0 [] (mk d,b) (mk q) s.Turns=some (if (s.Nodes.find? (isK q)).isSome=true then (s.Nodes,s.Turns,61,em,em,0,[]) else (Y9 ⟨mk q,p.Data,0,0,p.Owner⟩ s.Nodes,(if p.Turns=true then uE s.Turns d (sT s.Turns d+1) else s.Turns),0,mk q,em,0,[])):=by
  unfold rH vA gT
  obtain ⟨i,h1,h2,h3,h4⟩:=BQ s.Nodes (mk q) (by omega) S.nsort
  rw [h2]
  rw [kY] at h3 h4 ⊢
  simp only [bS]
  rcases h4 with ⟨x,_,hk,hf,hi,_⟩ | ⟨hd,hf⟩
  · rw [hf];rfl
  · rw [hf]
    simp only [Option.isSome_none,Bool.false_eq_true,if_false,Int.toNat_natCast]
    have e:s.Nodes.take i ++ (⟨mk q,p.Data,0,0,p.Owner⟩:Nd)::s.Nodes.drop i=Y9 ⟨mk q,p.Data,0,0,p.Owner⟩ s.Nodes:=by
      rw [h3,hd]
      exact Qr (x:=(⟨mk q,p.Data,0,0,p.Owner⟩:Nd)) S.nsort hf
    cases hT:p.Turns with
    | true=>
      rw [iP rfl,iP rfl,BZ _ _ hlt S.tsort (On S),kY]
      simp only [bS]
      rw [dO (by omega),e]
    | false=>
      rw [iN (by simp),iN (by simp),dO (by omega),e]
def ER(s:Sto)(p:Pt1):List Nd×List Tn×Int×ByteArray×ByteArray×Int×List ByteArray:=
  match V6 (pop p) (upP (bl p.Path)) (sT s.Turns (upP (bl p.Path))) with
  | none=>(s.Nodes,s.Turns,66,em,em,0,[])
  | some q=>if (s.Nodes.find? (isK q)).isSome=true then (s.Nodes,s.Turns,61,em,em,0,[]) else
    (Y9 ⟨mk q,p.Data,0,0,p.Owner⟩ s.Nodes,(if p.Turns=true then uE s.Turns (upP (bl p.Path)) (sT s.Turns (upP (bl p.Path))+1) else s.Turns),0,mk q,em,0,[])
theorem IP(s:Sto)(p:Pt1)(q:List UInt8)(hq:pC (bl p.Path)=some q)(hlen:s.Nodes.length <= 100000)(hlt:s.Turns.length <= 100000)(S:eK s) :
    yP s.Nodes s.Turns 0 em 0 [] p=some (ER s p):=by
  unfold yP ER
  have hu:upP (bl p.Path)=q:=by unfold upP;rw [hq];rfl
  rw [Bu,hq,hu,show (os2 (some q))=(mk q,true) from rfl]
  simp only [bS]
  cases hT:p.Turns with
  | false=>
    have hn:V6 (pop p) q (sT s.Turns q)=some (bl p.Path):=by unfold V6;rw [iN (by simp [pop,hT])];rfl
    have:=Xg s p (bl p.Path) q true hlen hlt S
    rw [Fe,hT] at this
    rw [iN (by simp),hn,this]
    simp only [Fe]
  | true=>
    have hn:V6 (pop p) q (sT s.Turns q)=(Mi (z8 (bl p.Path)) (sT s.Turns q)).map (λ s=>(Q6 q s).getD []):=by unfold V6;rw [iP (by simp [pop,hT])];rfl
    rw [iP rfl,hn,BW _ _ hlt S.tsort (λ y hy=>by have:=On S y hy;omega),Px,kY]
    simp only [bS]
    rw [Wf _ _ (by rw [kY];have:=Um (bl p.Path);omega),kY]
    simp only [bS]
    cases hm:Mi (z8 (bl p.Path)) (sT s.Turns q) with
    | none=>
      rw [Py _ _ (by simp [os2,kY])]
      simp only [bS,Option.map_none]
      rw [iP (by rfl)]
      rfl
    | some t=>
      obtain ⟨t1,t2,t3⟩:=Xa hm
      have tl:=BJ t1
      rw [show (os2 (some t))=(mk t,true) from rfl]
      simp only
      rw [Py _ _ (by rw [kY];omega),kY,kY]
      simp only [bS,Option.map_some]
      have:=Xg s p ((Q6 q t).getD []) q true hlen hlt S
      rw [hT] at this
      rw [iN (by simp),show (os2 (Q6 q t)).1=mk ((Q6 q t).getD []) from by cases Q6 q t <;> rfl,this]
      simp
def doP(s:Sto)(p:Pt1):Sto×Res:=
  if p.Kind=2 then Uv s p
  else if p.Kind=4 then if s.Nodes.any (u9 (bl p.Path))=true then (s,res 64) else (⟨s.Nodes,uE s.Turns (bl p.Path) 0⟩,res 0)
  else if p.Kind=9 then (s,{ res 0 with Names:=(s.Nodes.filter (u9 (bl p.Path))).map M4 })
  else if p.Kind=10 then (⟨s.Nodes.filter (λ x=>!xU (bl p.Path) p.Owner x),s.Turns⟩,{ res 0 with Names:=(s.Nodes.filter (xU (bl p.Path) p.Owner)).map M4 })
  else if (ndS s.Nodes p).2 ≠ 0 then (s,res (ndS s.Nodes p).2)
  else if p.Kind=1 then (s,res (if (ndS s.Nodes p).1.Owner ≠ 0 then 65 else 0))
  else if p.Kind=3 then (⟨s.Nodes.filter (λ y=>!isK (bl p.Path) y),s.Turns⟩,res 0)
  else if p.Kind=5 then if (ndS s.Nodes p).1.Version=281474976710656 then (s,res 2) else (⟨upd s.Nodes (bl p.Path) (Za p),s.Turns⟩,{ res 0 with Version:=(ndS s.Nodes p).1.Version+1 })
  else if p.Kind=6 then (s,{ res 0 with Version:=(ndS s.Nodes p).1.Version })
  else if p.Kind=7 then (s,{ res 0 with Data:=(ndS s.Nodes p).1.Data,Version:=(ndS s.Nodes p).1.Version })
  else (s,res 0)
theorem Az{p:Pt1}(h:v8 p=true):yH p.Path p.Data p.Version (-1) p.Owner=true/\bl p.Dir=Af p/\(1 <= p.Kind/\p.Kind <= 10)/\(p.Kind=2->bl p.Path ≠ [47]):=by
  unfold v8 at h
  simp only [Bool.and_eq_true,Bool.or_eq_true,decide_eq_true_eq,Bool.not_eq_true',decide_eq_false_iff_not] at h
  exact ⟨h.1.1.1,h.1.1.2,h.1.2,λ k=>h.2.resolve_left (λ h'=>h' k)⟩
theorem Qs{p:Pt1}(h:v8 p=true):eX (bl p.Path)=true:=by
  have:=(Az h).1
  unfold yH at this
  simp only [Bool.and_eq_true] at this
  exact this.1.1.1
theorem Kw{p:Pt1}(h:v8 p=true)(hk:p.Kind=2):∃ q,pC (bl p.Path)=some q:=by
  have h1:=Qs h
  have h2:=(Az h).2.2.2 hk
  unfold eX at h1
  obtain ⟨ps,hp⟩:=Option.isSome_iff_exists.1 h1
  rcases List.eq_nil_or_concat ps with rfl | ⟨qs,t,rfl⟩
  · exact absurd ((jZ _ _).1 hp).1 h2
  · unfold pC
    rw [hp]
    exact ⟨pB (qs.concat t).dropLast,by simp⟩
theorem Qt{s:Sto}(S:eK s):∀ x ∈ s.Nodes,0 <= x.Version/\x.Version <= 281474976710656:=λ x hx=>by
  have:=List.all_eq_true.1 S.nodes x hx
  simp [pnB,yH] at this
  omega
theorem CA(s:Sto)(p:Pt1)(hlen:s.Nodes.length <= 100000)(hlt:s.Turns.length <= 100000)(S:eK s)(hm:v8 p=true):W3 s p=some (doP s p):=by
  unfold W3 F8
  obtain ⟨b,h1,h2⟩:=H8 s (by omega) (by omega)
  have hs:=S.nsort
  have hn:s.Nodes.length <= 1000000:=by omega
  rw [h1,h2.2 S]
  simp only [bS]
  rw [iN (by simp),Om,hm]
  simp only [bS]
  rw [iN (by simp),dO (by simp [LIM];omega),dO (by simp [LIM];omega)]
  unfold doP lA
  have hk:=(Az hm).2.2.1
  have kk:p.Kind=1∨p.Kind=2∨p.Kind=3∨p.Kind=4∨p.Kind=5∨p.Kind=6∨p.Kind=7∨p.Kind=8∨p.Kind=9∨p.Kind=10:=by omega
  rcases kk with c | c | c | c | c | c | c | c | c | c
  all_goals simp only [c,Int.reduceBEq,Int.reduceEq,Bool.false_eq_true,if_true,if_false,beq_self_eq_true,Int.reduceNeg]
  · rw [BR _ [] _ hn hs]
    simp only [bS]
    by_cases e:(ndS s.Nodes p).2=0
    · by_cases o:(ndS s.Nodes p).1.Owner=0
      · simp [e,o];rfl
      · simp [e,o];rfl
    · rw [iP e,iP (by simpa using e),iP e];rfl
  · obtain ⟨q,hq⟩:=Kw hm c
    rw [IP s p q hq hlen hlt S]
    unfold ER Uv
    simp only [bS]
    cases V6 (pop p) (upP (bl p.Path)) (sT s.Turns (upP (bl p.Path))) with
    | none=>rfl
    | some q=>
      simp only
      by_cases e:(s.Nodes.find? (isK q)).isSome=true
      · rw [iP e,iP e];rfl
      · rw [iN e,iN e];rfl
  · rw [Yz _ [] _ hn hs]
    simp only [bS]
    by_cases e:(ndS s.Nodes p).2=0
    · simp [e];rfl
    · rw [iP (by simpa using e),iP e];rfl
  · unfold zN w8 gT
    simp only [bS]
    rw [IM _ _ hn]
    simp only [bS]
    by_cases e:s.Nodes.any (u9 (bl p.Path))=true
    · rw [iP e,iP e];rfl
    · rw [iN e,iN e,BX _ _ hlt S.tsort];rfl
  · rw [BS _ [] _ hn hs (Qt S)]
    simp only [bS]
    by_cases e:(ndS s.Nodes p).2=0
    · simp only [e,ne_eq,not_true_eq_false,if_false]
      by_cases v:(ndS s.Nodes p).1.Version=281474976710656
      · rw [iP v,iP v];rfl
      · rw [iN v,iN v];rfl
    · rw [iP e,iP e]
      simp only
      rw [iP (by simpa using e)];rfl
  · rw [EP _ [] _ hn hs]
    simp only [bS]
    by_cases e:(ndS s.Nodes p).2=0
    · simp only [e,ne_eq,not_true_eq_false,if_false,bne_self_eq_false,Bool.false_eq_true];rfl
    · rw [iP (by simpa using e),iP e,iP e];rfl
  · rw [EQ _ [] _ hn hs]
    simp only [bS]
    by_cases e:(ndS s.Nodes p).2=0
    · simp only [e,ne_eq,not_true_eq_false,if_false,bne_self_eq_false,Bool.false_eq_true];rfl
    · rw [iP (by simpa using e),iP e,iP e,iP e];rfl
  · rw [IL _ [] _ hn hs]
    simp only [bS]
    by_cases e:(ndS s.Nodes p).2=0
    · simp [e];rfl
    · rw [iP (by simpa using e),iP e];rfl
  · rw [BT _ [] _ hn];rfl
  · rw [BU _ [] _ (by omega)];rfl
structure SmS (s:Sto):Prop where
  sm:Sm s.Nodes
  smt:∀ t ∈ s.Turns,(dA t).length <= 100000000
  len:s.Nodes.length <= 90000
  lent:s.Turns.length <= 90000
theorem V7{α:Type}(κ:α->List UInt8)(l:List α)(d:List UInt8)(x:α)(hx:κ x=d)(hs:l.Pairwise (κ · < κ ·)):(l.filter (gLt κ d) ++ x::l.filter (gGt κ d)).Pairwise (κ · < κ ·):=by
  have g:∀ y ∈ l.filter (gGt κ d),d < κ y:=λ y hy=>by
    have h1:=(List.mem_filter.1 hy).2
    simp only [gGt,gLt,gEq,Bool.and_eq_true,Bool.not_eq_true',decide_eq_false_iff_not] at h1
    exact Ol h1.1 h1.2
  have f:∀ y ∈ l.filter (gLt κ d),κ y < d:=λ y hy=>by
    have h1:=(List.mem_filter.1 hy).2
    simpa [gLt] using h1
  refine List.pairwise_append.2 ⟨hs.filter _,List.pairwise_cons.2 ⟨λ y hy=>hx ▸ g y hy,hs.filter _⟩,λ a ha b hb=>?_⟩
  rcases List.mem_cons.1 hb with rfl | hb
  · exact hx ▸ f a ha
  · exact zG (f a ha) (g b hb)
theorem Eb{l:List Tn}(hs:l.Pairwise (dA · < dA ·))(d:List UInt8)(n:Int):(uE l d n).Pairwise (dA · < dA ·):=by
  unfold uE
  split
  · exact hs.filter _
  · exact V7 dA l d _ rfl hs
theorem Kx{l:List Tn}{d:List UInt8}{n:Int}{t:Tn}(h:t ∈ uE l d n):t ∈ l∨(t= ⟨mk d,n⟩/\n ≠ 0):=by
  unfold uE at h
  split at h
  · exact .inl (List.mem_filter.1 h).1
  · rcases List.mem_append.1 h with h | h
    · exact .inl (List.mem_filter.1 h).1
    · rcases List.mem_cons.1 h with h | h
      · exact .inr ⟨h,by assumption⟩
      · exact .inl (List.mem_filter.1 h).1
theorem Oo{α:Type}(κ:α->List UInt8)(l:List α)(d:List UInt8):(l.filter (gLt κ d)).length+(l.filter (gGt κ d)).length <= l.length:=by
  induction l with
  | nil=>simp
  | cons x l ih=>
    rw [List.filter_cons,List.filter_cons]
    by_cases a:κ x < d
    · rw [iP (by simpa [gLt] using a),iN (by simp [gGt,gLt,a])];simp;omega
    · rw [iN (by simpa [gLt] using a)]
      split <;> simp <;> omega
theorem Kz(l:List Tn)(d:List UInt8)(n:Int):(uE l d n).length <= l.length+1:=by
  unfold uE
  split
  · have:=List.length_filter_le (λ t=>!gEq dA d t) l;omega
  · have:=Oo dA l d
    simp;omega
theorem Zb{l:List Nd}{x:Nd}(hs:l.Pairwise (key · < key ·))(hn:l.find? (isK (key x))=none):(Y9 x l).Pairwise (key · < key ·):=by
  rw [← Qr hs hn]
  exact V7 key l _ x rfl hs
theorem eK.mk' {s:Sto} {l:List Nd} (S:eK s) (h1:∀ x ∈ l,pnB x=true) (h2:l.Pairwise (key · < key ·)):eK ⟨l,s.Turns⟩:=⟨List.all_eq_true.2 h1,h2,S.turns,S.tsort⟩
theorem CB(s:Sto)(p:Pt1)(S:eK s)(hm:v8 p=true):eK (doP s p).1/\(doP s p).1.Nodes.length <= s.Nodes.length+1/\(doP s p).1.Turns.length <= s.Turns.length+1/\(doP s p).2.Names.length <= s.Nodes.length:=by
  have hS:eK s/\s.Nodes.length <= s.Nodes.length+1/\s.Turns.length <= s.Turns.length+1/\([]:List ByteArray).length <= s.Nodes.length:=⟨S,by omega,by omega,by simp⟩
  have hN:=λ x hx=>List.all_eq_true.1 S.nodes x hx
  have hfl:∀ f:Nd->Bool,eK ⟨s.Nodes.filter f,s.Turns⟩:=λ f=>S.mk' (λ x hx=>hN x (List.mem_filter.1 hx).1) (S.nsort.filter _)
  have hf:=(Az hm).1
  unfold yH at hf
  simp only [Bool.and_eq_true,decide_eq_true_eq] at hf
  unfold doP
  split
  · rename_i c
    obtain ⟨q,hq⟩:=Kw hm c
    have hu:upP (bl p.Path)=q:=by unfold upP;rw [hq];rfl
    unfold Uv
    rw [hu]
    cases hn:V6 (pop p) q (sT s.Turns q) with
    | none=>exact hS
    | some t=>
      obtain ⟨n1,n2⟩:=Wh (o:=pop p) hq hn
      simp only
      split
      · exact hS
      · rename_i hne
        have hfn:s.Nodes.find? (isK t)=none:=by
          rcases QK (s.Nodes.find? (isK t)) with h | ⟨x,h⟩
          · exact h
          · rw [h] at hne;exact absurd rfl hne
        obtain ⟨ps,a,hp1,_⟩:=Jg n1
        have tok:eX t=true:=by unfold eX;rw [hp1];rfl
        obtain ⟨_,_,_,_,hp2,_⟩:=Jg hq
        have qok:eX q=true:=by unfold eX;rw [hp2];rfl
        have hns:eK ⟨Y9 ⟨mk t,p.Data,0,0,p.Owner⟩ s.Nodes,s.Turns⟩:=S.mk' (λ x hx=>by
            rcases QT.1 hx with rfl | hx
            · unfold pnB yH
              simp only [kY,tok]
              simp
              exact ⟨hf.1.1.2,hf.2⟩
            · exact hN x hx) (Zb (x:=(⟨mk t,p.Data,0,0,p.Owner⟩:Nd)) S.nsort hfn)
        have hil:=IJ (⟨mk t,p.Data,0,0,p.Owner⟩:Nd) s.Nodes
        cases hT:p.Turns with
        | false=>exact ⟨hns,by simp only;omega,by simp,by simp [res]⟩
        | true=>
          have n3:=n2 hT
          refine ⟨⟨hns.nodes,hns.nsort,List.all_eq_true.2 λ y hy=>?_,Eb S.tsort _ _⟩,by simp only;omega,Kz _ _ _,by simp [res]⟩
          rcases Kx hy with hy | ⟨rfl,_⟩
          · exact List.all_eq_true.1 S.turns y hy
          · unfold ptB
            simp only [dA,kY,qok,Bool.true_and,decide_eq_true_eq]
            omega
  split
  · split
    · exact hS
    · refine ⟨⟨S.nodes,S.nsort,List.all_eq_true.2 λ y hy=>?_,Eb S.tsort (bl p.Path) 0⟩,by simp,Kz s.Turns (bl p.Path) 0,by simp [res]⟩
      rcases Kx (show y ∈ uE s.Turns (bl p.Path) 0 from hy) with hy | ⟨rfl,h⟩
      · exact List.all_eq_true.1 S.turns y hy
      · exact absurd rfl h
  split
  · exact ⟨S,by simp,by simp,by simp only [List.length_map];exact List.length_filter_le _ _⟩
  split
  · exact ⟨hfl _,Nat.le_succ_of_le (List.length_filter_le _ _),by simp,by simp only [List.length_map];exact List.length_filter_le _ _⟩
  split
  · exact hS
  rename_i e0
  split
  · exact hS
  split
  · exact ⟨hfl _,Nat.le_succ_of_le (List.length_filter_le _ _),by simp,by simp [res]⟩
  split
  · split
    · exact hS
    · rename_i hv
      refine ⟨S.mk' (λ x hx=>?_) (Yx S.nsort _ (λ z=>rfl)),by simp only [II];omega,by simp,by simp [res]⟩
      obtain ⟨z,hz,rfl⟩:=QU.1 hx
      have hzb:=hN z hz
      split
      · rename_i hk
        have hkz:key z=bl p.Path:=by simpa [isK] using hk
        have hnd:ndS s.Nodes p=(z,0):=by
          have h1:=EK S.nsort hz
          rw [hkz] at h1
          unfold ndS at e0 ⊢
          rw [h1] at e0 ⊢
          simp only at e0 ⊢
          split at e0
          · exact absurd (show (63:Int) ≠ 0 by decide) e0
          · rw [iN (by assumption)]
        rw [hnd] at hv
        have h2:=Qt S z hz
        simp only at hv
        have he:pnB (Za p z)=(decide (z.Turn=0) && yH z.Path p.Data (z.Version+1) 0 z.Owner):=rfl
        rw [he]
        unfold pnB at hzb
        unfold yH at hzb ⊢
        simp only [Bool.and_eq_true,decide_eq_true_eq] at hzb ⊢
        exact ⟨hzb.1,⟨⟨hzb.2.1.1.1,by omega⟩,by omega⟩,hzb.2.2⟩
      · exact hzb
  split
  · exact hS
  split
  · exact hS
  · exact hS
theorem La(a:List Res)(hl:a.length <= 1000000)(hn:∀ r ∈ a,r.Names.length <= 1000000):∀ (k i:Nat),i <= a.length->a.length+1 <= i+k->kG a a k (i:Int)=some true
  | 0,i,_,h=>by omega
  | k+1,i,h0,h=>by
    unfold kG
    by_cases hi:i < a.length
    · rw [iP (by simpa using hi),bV hi]
      simp only [bS]
      rw [Yy _ _ (hn _ (List.getElem_mem hi)),decide_eq_true rfl]
      simp only [bS]
      rw [iN (by simp),gU (by omega)]
      exact La a hl hn k (i+1) (by omega) (by omega)
    · rw [iN (by simpa using hi)]
theorem Rq(a:List Res)(hl:a.length <= 1000000)(hn:∀ r ∈ a,r.Names.length <= 1000000):qR a a=some true:=by
  unfold qR
  rw [iN (by simp)]
  exact La a hl hn (((a.length:Int) - 0:Int).toNat+1) 0 (by omega) (by omega)
theorem Cx(s:Sto)(k:Nat)(n i:Int)(hn:3000 <= n):hU s (k+1) n i=some true:=by
  unfold hU mQ
  rw [iN (show ¬ decide (n < 3000)=true by simpa using hn),iP (decide_eq_true hn)]
  split <;> rfl
theorem Qu(s:Sto)(hn:s.Nodes.length <= 140737488351232)(hl:s.Turns.length < 3000):∀ (k i:Nat) (n:Int),0 <= n->n <= 6000->i <= s.Turns.length->s.Turns.length+2 <= i+k->∃ b,hU s k n (i:Int)=some b/\(b=false->(∀ j (h:j < s.Turns.length),i <= j->(dA s.Turns[j]).length < 3000)/\s.Nodes.length <= 1666/\Sm s.Nodes)
  | 0,i,n,_,_,_,h=>by omega
  | k+1,i,n,n0,n1,hi,h=>by
    by_cases c:3000 <= n
    · rw [Cx s k n i c]
      exact ⟨true,rfl,λ h=>by cases h⟩
    · unfold hU
      by_cases hj:i < s.Turns.length
      · rw [iP (by simpa using hj),iP (by simp;omega),bV hj]
        simp only [bS]
        have z:((s.Turns[i]).Dir.size:Int)=((dA s.Turns[i]).length:Int):=by rw [gC];rfl
        rw [z,w64 (by omega) (by omega),gU (by omega)]
        by_cases d:(dA s.Turns[i]).length < 3000
        · obtain ⟨b,h1,h2⟩:=Qu s hn hl k (i+1) (n+min ((dA s.Turns[i]).length:Int) 3000) (by omega) (by omega) (by omega) (by omega)
          refine ⟨b,h1,λ hb=>⟨λ j hj hij=>?_,(h2 hb).2⟩⟩
          rcases Nat.lt_or_ge i j with e | e
          · exact (h2 hb).1 j hj (by omega)
          · obtain rfl:i=j:=by omega
            exact d
        · obtain ⟨k',rfl⟩:∃ k',k=k'+1:=⟨k - 1,by omega⟩
          rw [Cx s k' _ _ (by omega)]
          exact ⟨true,rfl,λ h=>by cases h⟩
      · rw [iN (by simpa using hj)]
        unfold mQ
        rw [iN (by simp;omega)]
        obtain ⟨b,h1,h2⟩:=EN s.Nodes hn
        rw [h1]
        exact ⟨b,rfl,λ hb=>⟨λ j hj hij=>by omega,h2 hb⟩⟩
theorem Qv(s:Sto)(hn:s.Nodes.length <= 140737488351232):∃ b,qC s=some b/\(b=false->SmS s/\s.Nodes.length <= 1666/\s.Turns.length < 3000):=by
  unfold qC
  by_cases h:s.Turns.length < 3000
  · obtain ⟨b,h1,h2⟩:=Qu s hn h 3002 0 (s.Turns.length:Int) (by omega) (by omega) (by omega) (by omega)
    refine ⟨b,h1,λ hb=>?_⟩
    obtain ⟨g1,g2,g3⟩:=h2 hb
    refine ⟨⟨g3,λ t ht=>?_,by omega,by omega⟩,g2,h⟩
    obtain ⟨j,hj,rfl⟩:=List.mem_iff_getElem.1 ht
    have:=g1 j hj (by omega)
    omega
  · rw [Cx s 3001 _ _ (by omega)]
    exact ⟨true,rfl,λ h=>by cases h⟩
theorem Uw(p:Pt1):∃ b,pG p=some b/\(b=false->(bl p.Dir).length <= 3000/\(bl p.Path).length <= 3000/\(bl p.Data).length <= 3000):=by
  unfold pG
  have a:=gC p.Dir
  have b:=gC p.Path
  have c:=gC p.Data
  by_cases h1:(p.Dir.size:Int) > 3000
  · rw [iP (decide_eq_true h1)];exact ⟨true,rfl,λ h=>by cases h⟩
  · rw [iN (by simpa using h1)]
    by_cases h2:(p.Path.size:Int) > 3000
    · rw [iP (decide_eq_true h2)];exact ⟨true,rfl,λ h=>by cases h⟩
    · rw [iN (by simpa using h2)]
      refine ⟨_,rfl,λ h=>?_⟩
      simp only [decide_eq_false_iff_not] at h
      omega
def SmP(l:List Pie):Prop:=∀ x ∈ l,(bl x.Part.Path).length <= 3000
theorem Ec(l:List Pie)(hl:l.length <= 60):∀ (k i:Nat),i <= l.length->l.length+1 <= i+k->∃ b,hX l k (i:Int)=some b/\(b=false->∀ j (h:j < l.length),i <= j->(bl (l[j]).Part.Path).length <= 3000)
  | 0,i,_,h=>by omega
  | k+1,i,h0,h=>by
    unfold hX
    by_cases hi:i < l.length
    · rw [iP (by simpa using hi),bV hi]
      simp only [bS]
      obtain ⟨b,h1,h2⟩:=Uw (l[i]).Part
      rw [h1]
      simp only [bS]
      cases b with
      | true=>rw [iP rfl];exact ⟨true,rfl,λ h=>by cases h⟩
      | false=>
        rw [iN (by simp),gU (by omega)]
        obtain ⟨b',h3,h4⟩:=Ec l hl k (i+1) (by omega) (by omega)
        refine ⟨b',h3,λ hb j hj hij=>?_⟩
        rcases Nat.lt_or_ge i j with c | c
        · exact h4 hb j hj (by omega)
        · obtain rfl:i=j:=by omega
          exact (h2 rfl).2.1
    · rw [iN (by simpa using hi)]
      exact ⟨false,rfl,λ _ j hj hij=>by omega⟩
theorem Qb(l:List Pie):∃ b,nE l=some b/\(b=false->l.length <= 60/\SmP l):=by
  unfold nE
  by_cases h:l.length <= 60
  · rw [iN (by simp;omega)]
    obtain ⟨b,h1,h2⟩:=Ec l h (((l.length:Int) - 0:Int).toNat+1) 0 (by omega) (by omega)
    refine ⟨b,h1,λ hb=>⟨h,λ o ho=>?_⟩⟩
    obtain ⟨j,hj,rfl⟩:=List.mem_iff_getElem.1 ho
    exact h2 hb j hj (by omega)
  · rw [iP (by simp;omega)]
    exact ⟨true,rfl,λ h=>by cases h⟩
theorem Ux(a b:Sto)(h:a.Turns.length=b.Turns.length)(hl:a.Turns.length <= 1000000):∀ (k i:Nat),i <= a.Turns.length->a.Turns.length+1 <= i+k->lB a b k (i:Int)=some (decide (a.Turns.drop i=b.Turns.drop i))
  | 0,i,_,h=>by omega
  | k+1,i,h0,hk=>by
    unfold lB
    by_cases hi:i < a.Turns.length
    · have hi':i < b.Turns.length:=by omega
      rw [iP (by simpa using hi),bV hi,bV hi',List.drop_eq_getElem_cons hi,List.drop_eq_getElem_cons hi']
      simp only [bS]
      have e:((sEq (a.Turns[i]).Dir (b.Turns[i]).Dir) && ((a.Turns[i]).Next == (b.Turns[i]).Next))=decide (a.Turns[i]=b.Turns[i]):=by
        rw [Bool.eq_iff_iff]
        simp only [Bool.and_eq_true,Dz,beq_iff_eq,decide_eq_true_eq]
        constructor
        · rintro ⟨h1,h2⟩
          cases hx:a.Turns[i];cases hy:b.Turns[i]
          simp only [hx,hy] at h1 h2
          rw [h1,h2]
        · intro h;rw [h];exact ⟨rfl,rfl⟩
      rw [e]
      by_cases c:a.Turns[i]=b.Turns[i]
      · rw [decide_eq_true c,iN (by simp),gU (by omega),Ux a b h hl k (i+1) (by omega) (by omega)]
        exact congrArg some (decide_eq_decide.2 ⟨λ h=>by rw [c,h],λ h=>(List.cons.inj h).2⟩)
      · rw [decide_eq_false c,iP (by rfl)]
        exact congrArg some (decide_eq_false λ h=>c (List.cons.inj h).1).symm
    · rw [iN (by simpa using hi),List.drop_eq_nil_of_le (by omega),List.drop_eq_nil_of_le (by omega)]
      rfl
theorem ES(a b:Sto)(hn:a.Nodes.length <= 1000000)(hl:a.Turns.length <= 1000000):oE a b=some (decide (a=b)):=by
  unfold oE rI
  rw [IK _ _ hn]
  simp only [bS]
  have ext:a=b ↔ a.Nodes=b.Nodes/\a.Turns=b.Turns:=by
    constructor
    · rintro rfl;exact ⟨rfl,rfl⟩
    · cases a;cases b;rintro ⟨h1,h2⟩;simp only at h1 h2;rw [h1,h2]
  by_cases h1:a.Nodes=b.Nodes
  · rw [decide_eq_true h1,iN (by simp)]
    by_cases h2:a.Turns.length=b.Turns.length
    · rw [iN (by simp;omega),show lB a b (((a.Turns.length:Int) - 0:Int).toNat+1) 0=some (decide (a.Turns.drop 0=b.Turns.drop 0)) from Ux a b h2 hl _ 0 (by omega) (by omega)]
      congr 1
      exact decide_eq_decide.2 ((show a.Turns.drop 0=b.Turns.drop 0 ↔ a.Turns=b.Turns by simp).trans ⟨λ h=>ext.2 ⟨h1,h⟩,λ h=>(ext.1 h).2⟩)
    · rw [iP (by simp;omega),decide_eq_false (λ h=>h2 (by rw [h]))]
  · rw [decide_eq_false h1,iP (by rfl),iP trivial,decide_eq_false (λ h=>h1 (by rw [h]))]
set_option maxRecDepth 100000 in
theorem ET:G7=some true:=by kernel_rfl
theorem QL{n:Int}(h:-9223372036854775808 <= n)(h':n <= 9223372036854775807):IntKind.i64.wrap n=n:=IntWalk.i64_in n ⟨h,h'⟩
theorem QM{i:Nat}(h:i <= 1000000000):IntKind.i64.wrap ((i:Int)+1)=((i+1:Nat):Int):=by rw [QL (by omega) (by omega)];omega
theorem QN{α:Type}{l:List α}{i:Nat}(h:i < l.length):idx l (i:Int)=some l[i]:=by simp [idx,h]
def wF(n:Int):Bool:=decide (0 <= n) && decide (n <= 281474976710656)
theorem Qw(l:List Int)(hl:l.length <= 1000000):∀ (k i:Nat),i <= l.length->l.length+1 <= i+k->kU l k (i:Int)=some ((l.drop i).all wF)
  | 0,i,_,h=>by omega
  | k+1,i,h0,h=>by
    unfold kU
    by_cases hi:i < l.length
    · rw [iP (by simpa using hi),QN hi,List.drop_eq_getElem_cons hi]
      simp only [bS,List.all_cons]
      have ih:=Qw l hl k (i+1) (by omega) (by omega)
      unfold wF at ih ⊢
      by_cases h1:l[i] < 0
      · rw [iP (by simpa using h1),decide_eq_false (show ¬ 0 <= l[i] by omega)]
        simp [qD]
      · rw [iN (by simpa using h1),decide_eq_true (show 0 <= l[i] by omega)]
        unfold qD
        by_cases h2:l[i] > 281474976710656
        · rw [iP (by simpa using h2),decide_eq_false (show ¬ l[i] <= 281474976710656 by omega)];simp
        · rw [iN (by simpa using h2),decide_eq_true (show l[i] <= 281474976710656 by omega),QM (by omega),ih];simp
    · rw [iN (by simpa using hi),List.drop_eq_nil_of_le (by omega)];rfl
theorem Qx(l:List Int)(hl:l.length <= 1000000):xR l=some (l.all wF):=by
  unfold xR
  exact Qw l hl _ 0 (by omega) (by omega)
theorem EU{n:Int}(h1:0 <= n)(h2:n <= 281474976710656):(kyI .i64).ok n=true:=by
  simp only [kyI,Lit.wf,Bool.and_eq_true,decide_eq_true_eq]
  have a:IntKind.i64.min= -9223372036854775808:=by decide
  have b:IntKind.i64.max=9223372036854775807:=by decide
  omega
abbrev Cmd:=aK
def Bv:Int->List Pie->Bool
  | _,[]=>true
  | last,x::l=>decide (last <= x.Op) && (decide (x.Op < 8) && (v8 x.Part && (decide (x.Part.Version < 281474976710656) && Bv x.Op l)))
theorem Uy(c:Cmd)(hl:c.Pieces.length <= 1000000):∀ (k i:Nat) (last:Int),i <= c.Pieces.length->c.Pieces.length+1 <= i+k->gK c k last (i:Int)=if Bv last (c.Pieces.drop i)=true then fD c (((c.Gone.length:Int) - 0:Int).toNat+1) 0 else some false
  | 0,i,last,_,h=>by omega
  | k+1,i,last,h0,h=>by
    unfold gK
    by_cases hi:i < c.Pieces.length
    · rw [iP (by simpa using hi),bV hi,List.drop_eq_getElem_cons hi]
      simp only [bS]
      unfold Bv oG
      by_cases a:(c.Pieces[i]).Op < last
      · rw [iP (by simpa using a),decide_eq_false (by omega)];simp
      · rw [iN (by simpa using a),decide_eq_true (show last <= (c.Pieces[i]).Op by omega)]
        by_cases b:(c.Pieces[i]).Op < 8
        · rw [iN (by simp;omega),decide_eq_true b,Om]
          simp only [bS]
          cases m:v8 (c.Pieces[i]).Part with
          | false=>rw [iP (by rfl)];simp
          | true=>
            rw [iN (by simp)]
            by_cases v:(c.Pieces[i]).Part.Version < 281474976710656
            · rw [iN (by simp;omega),decide_eq_true v,gU (by omega),Uy c hl k (i+1) _ (by omega) (by omega)]
              simp
            · rw [iP (by simp;omega),decide_eq_false v];simp
        · rw [iP (by simp;omega),decide_eq_false b];simp
    · rw [iN (by simpa using hi),List.drop_eq_nil_of_le (by omega)]
      simp [Bv]
section
variable (a:List Nd) (b:List Tn) (c:List aF) (d:List aV) (f:List aP) (g:List aE) (x:List (Int×aX)) (y:List (Int×fS)) (z:List (Int×aX))
abbrev rV (e:Int):aX:=⟨e,0,false,0,[],(⟨[],[]⟩:aR),[],[],[]⟩
end
/-! ### the directories of pieces -/
theorem Xh(l:List Pie)(hl:l.length <= 1000000):∀ (k i:Nat) (acc:List ByteArray),i <= l.length->l.length+1 <= i+k->acc.length=i->vU l k acc (i:Int)=some (rZ (wU (acc ++ (l.drop i).map λ p=>p.Part.Dir)))
  | 0,i,acc,_,h,_=>by omega
  | k+1,i,acc,h0,h,ha=>by
    unfold vU
    by_cases hi:i < l.length
    · rw [iP (by simpa using hi),bV hi]
      simp only [bS]
      rw [dO (by simp [LIM];omega),gU (by omega),Xh l hl k (i+1) _ (by omega) (by omega) (by simp [ha]),List.drop_eq_getElem_cons hi,List.map_cons,List.append_assoc,List.singleton_append]
    · rw [iN (by simpa using hi),dO (by omega),dO (by rw [Bo];omega),List.drop_eq_nil_of_le (by omega)]
      simp
theorem Xi(l:List Pie)(hl:l.length <= 1000000):s7 l=some (rZ (wU (l.map λ p=>p.Part.Dir))):=by
  unfold s7
  exact (Xh l hl _ 0 [] (by omega) (by omega) rfl).trans (by simp)
theorem Wi{α:Type} [Inhabited α] [DecidableEq α] {zs:List α} {x:α} (h:x ∈ Lib.compact zs):x ∈ zs:=by
  unfold Lib.compact Lib.compactUpTo at h
  obtain ⟨i,hi,rfl⟩:=List.mem_map.1 h
  have hi':i < zs.length:=List.mem_range.1 (List.mem_filter.1 hi).1
  simp [getElem!_pos,hi']
theorem EV{L:List ByteArray}{d:ByteArray}(h:d ∈ rZ (wU L)):d ∈ L:=by
  unfold rZ wU at h
  rw [Bz] at h
  obtain ⟨s,hs,rfl⟩:=List.mem_map.1 h
  have h2:=(Z9 _).mem_iff.1 (Wi hs)
  obtain ⟨t,ht,rfl⟩:=List.mem_map.1 h2
  exact ht
theorem EW(L:List ByteArray):(rZ (wU L)).length <= L.length:=by
  unfold rZ
  rw [List.length_map]
  refine Nat.le_trans ?_ (Nat.le_of_eq (show ((wU L).map toL).length=L.length by rw [List.length_map,Bo]))
  unfold Lib.compact Lib.compactUpTo
  rw [List.length_map]
  exact Nat.le_trans (List.length_filter_le _ _) (by simp)
/-! ### the root's range -/
/-! ### nobody watches -/
def Jj(r:Res):Prop:=r.Names.length <= 1000000/\∀ n ∈ r.Names,(bl n).length <= 12
/-! ### all of a list of pieces -/
theorem CC(x:Nd):(bl (M4 x)).length <= 12:=by
  show (bl (mk (z8 (bl x.Path)))).length <= 12
  rw [kY]
  exact Um _
theorem CD(s:Sto)(p:Pt1):∀ n ∈ (doP s p).2.Names,(bl n).length <= 12:=by
  have key:∀ (f:Nd->Bool) (n:ByteArray),n ∈ (s.Nodes.filter f).map M4->(bl n).length <= 12:=λ f n hn=>by
    obtain ⟨x,_,rfl⟩:=List.mem_map.1 hn
    exact CC x
  intro n hn
  unfold doP Uv at hn
  repeat' split at hn
  all_goals first | exact key _ n hn | exact absurd hn (by simp [res])
def mN(s0:Sto):Nat->Sto->List Res->List Pie->Sto×List Res×Int×Int
  | _,s,acc,[]=>(s,acc,0,0)
  | i,s,acc,p::l=>if (doP s p.Part).2.Err ≠ 0 then (s0,[],(doP s p.Part).2.Err,(i:Int)) else mN s0 (i+1) (doP s p.Part).1 (acc ++ [(doP s p.Part).2]) l
theorem CE(s0:Sto)(l:List Pie)(hl:l.length <= 1000)(hm:∀ p ∈ l,v8 p.Part=true):∀ (k i:Nat) (s:Sto) (acc:List Res),eK s->s.Nodes.length <= 50000+i->s.Turns.length <= 50000+i->i <= l.length->l.length+1 <= i+k->acc.length=i->(∀ x ∈ acc,Jj x)->
    xD l s0 k acc (i:Int) s.Nodes s.Turns=some (mN s0 i s acc (l.drop i))/\((mN s0 i s acc (l.drop i)).2.2.1=0->eK (mN s0 i s acc (l.drop i)).1/\(mN s0 i s acc (l.drop i)).1.Nodes.length <= 51000/\(mN s0 i s acc (l.drop i)).1.Turns.length <= 51000/\(mN s0 i s acc (l.drop i)).2.1.length=l.length/\∀ x ∈ (mN s0 i s acc (l.drop i)).2.1,Jj x)
  | 0,i,s,acc,_,_,_,_,h,_,_=>by omega
  | k+1,i,s,acc,S,hn,ht,h0,h,ha,hx=>by
    unfold xD
    by_cases hi:i < l.length
    · rw [iP (by simpa using hi),bV hi,List.drop_eq_getElem_cons hi]
      simp only [bS]
      have m:=hm _ (List.getElem_mem hi)
      rw [show (⟨s.Nodes,s.Turns⟩:Sto)=s from rfl,CA s _ (by omega) (by omega) S m]
      simp only [bS]
      unfold mN
      by_cases e:(doP s (l[i]).Part).2.Err=0
      · obtain ⟨g1,g2,g3,g4⟩:=CB s (l[i]).Part S m
        rw [iN (by simpa using e),iN (by simpa using e),dO (by simp [LIM];omega),gU (by omega)]
        exact CE s0 l hl hm k (i+1) _ _ g1 (by omega) (by omega) (by omega) (by omega) (by simp [ha]) (λ x h'=>by
          rcases List.mem_append.1 h' with h' | h'
          · exact hx x h'
          · rw [List.mem_singleton.1 h'];exact ⟨by omega,CD _ _⟩)
      · rw [iP (by simpa using e),iP e]
        exact ⟨rfl,λ h=>absurd h e⟩
    · rw [iN (by simpa using hi),List.drop_eq_nil_of_le (by omega)]
      unfold mN
      exact ⟨rfl,λ _=>⟨S,by simp only;omega,by simp only;omega,by simp only;omega,hx⟩⟩
theorem Cy(s:Sto)(l:List Pie)(S:eK s)(hn:s.Nodes.length <= 50000)(ht:s.Turns.length <= 50000)(hl:l.length <= 1000)(hm:∀ p ∈ l,v8 p.Part=true) :
    C7 s l=some (mN s 0 s [] l)/\((mN s 0 s [] l).2.2.1=0->eK (mN s 0 s [] l).1/\(mN s 0 s [] l).1.Nodes.length <= 51000/\(mN s 0 s [] l).1.Turns.length <= 51000/\(mN s 0 s [] l).2.1.length=l.length/\∀ x ∈ (mN s 0 s [] l).2.1,Jj x):=by
  unfold C7
  exact CE s l hl hm _ 0 s [] S (by omega) (by omega) (by omega) (by omega) rfl (by simp)
theorem Qy:∀ (l:List Pie) (last:Int),Bv last l=true->∀ p ∈ l,v8 p.Part=true/\p.Part.Version < 281474976710656
  | [],_,_,p,hp=>by simp at hp
  | x::l,last,h,p,hp=>by
    unfold Bv at h
    simp only [Bool.and_eq_true,decide_eq_true_eq] at h
    rcases List.mem_cons.1 hp with rfl | hp
    · exact ⟨h.2.2.1,h.2.2.2.1⟩
    · exact Qy l _ h.2.2.2.2 p hp
theorem IQ{l:List Pie}(h:∀ p ∈ l,v8 p.Part=true):∀ d ∈ rZ (wU (l.map λ p=>p.Part.Dir)),eX (bl d)=true:=by
  intro d hd
  obtain ⟨p,hp,rfl⟩:=List.mem_map.1 (EV hd)
  have m:=h p hp
  rw [(Az m).2.1]
  have q:=Qs m
  unfold Af
  split
  · exact q
  · unfold upP
    cases hq:pC (bl p.Part.Path) with
    | none=>rfl
    | some q'=>
      obtain ⟨ps,t,h1,h2,h3,_⟩:=Jg hq
      unfold eX
      rw [show (some q').getD [47]=q' from rfl,h3]
      rfl
/-! ### nobody holds -/
/-- what all of the pieces come to, as an answer and a store. -/
def Uz(s:Sto)(l:List Pie):aX:=if (mN s 0 s [] l).2.2.1 ≠ 0 then ⟨(mN s 0 s [] l).2.2.1,(mN s 0 s [] l).2.2.2,false,0,[],⟨[],[]⟩,[],[],[]⟩ else ⟨0,0,false,0,(mN s 0 s [] l).2.1,⟨[],[]⟩,[],[],[]⟩
def Cz(s:Sto)(l:List Pie):Sto:=if (mN s 0 s [] l).2.2.1 ≠ 0 then s else (mN s 0 s [] l).1
theorem CG(s:Sto)(h1:s.Nodes.length <= 1000000)(h2:s.Turns.length <= 1000000):mX s.Nodes s.Turns=some s:=by
  unfold mX
  rw [dO (by simp [LIM];omega),dO (by simp [LIM];omega)]
end Go.Cb
