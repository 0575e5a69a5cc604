/- Plain laws of elder seats, at this one. -/
import Derived.Test.YtlgajjcbnimjkaaGreatDoorQ2sw
import Derived.Test.YtlgajjcbnimjkaaGreatDoorKsw1
import Derived.Test.YtlgajjcbnimjkaaGreatDoorKsw2
set_option linter.unusedVariables false
set_option linter.unusedSimpArgs false
namespace Go.Cb
open Go.Proofs Go.RowKit

def jB(p:List UInt8):Option (List UInt8):=match parts p with
  | some ps=>if ps= [] then none else some (nG ps.dropLast)
  | none=>none
def wX(p:List UInt8):List UInt8:=match parts p with
  | some ps=>ps.getLast?.getD []
  | none=>[]
def os2(o:Option (List UInt8)):ByteArray×Bool:=match o with
  | some q=>(mk q,true)
  | none=>(mk [],false)
theorem Hl(ps qs:List (List UInt8)):jA (ps ++ qs)=jA ps ++ jA qs:=by simp [jA]
theorem Bd{p:List UInt8}{ps:List (List UInt8)}(h:parts p=some ps):p.length ≤ 78:=by
  obtain ⟨rfl,h1,h2⟩:=(mH p ps).1 h
  have key:∀ qs:List (List UInt8),qs.all hJ=true→(jA qs).length ≤ 13 * qs.length:=by
    intro qs
    induction qs with
    | nil=>intro _;simp [jA]
    | cons t ts ih=>
      intro h
      simp at h
      have h3:t.length ≤ 12:=by have:=h.1;simp [hJ] at this;exact this.1.2
      have h4:=ih (by simpa using h.2)
      show (47::(t ++ jA ts)).length ≤ _
      simp;omega
  unfold nG
  split
  · simp
  · have:=key ps h1;omega
theorem Ny(s:ByteArray)(a b:List UInt8)(hs:bl s=a ++ 47::b)(hb:47 ∉ b)(hl:(bl s).length ≤ 1000):∀ (k i:Nat),i < (bl s).length→a.length ≤ i→i+1 ≤ k→eL s k 47 (i:Int)=some (a.length:Int)
  | 0,i,_,_,h=>by omega
  | k+1,i,hi,hai,h=>by
    unfold eL
    rw [if_pos (by simp),EY hi]
    simp only [Option.bind_some]
    by_cases e:i=a.length
    · have:(bl s)[i]=47:=by subst e;simp [hs]
      rw [this,if_pos (by decide),e]
    · have hne:(bl s)[i] ≠ 47:=by
        have h2:(bl s)[i]? =b[i - a.length - 1]? :=by
          rw [hs,List.getElem?_append_right hai,show i - a.length=(i - a.length - 1)+1 from by omega,List.getElem?_cons_succ]
          rfl
        rw [List.getElem?_eq_getElem hi] at h2
        intro e2
        rw [e2] at h2
        exact hb (List.mem_of_getElem? h2.symm)
      rw [if_neg (by have:=c47 hne;simp only [beq_iff_eq];omega),show IntKind.i64.wrap ((i:Int) - 1)=((i - 1:Nat):Int) from by rw [w64 (by omega) (by omega)];omega]
      exact Ny s a b hs hb hl k (i - 1) (by omega) (by omega) (by omega)
theorem Sv(s:ByteArray):zQ s=some (match parts (bl s) with
    | some ps=>if ps= [] then (mk [],mk [],false) else (mk (nG ps.dropLast),mk (ps.getLast?.getD []),true)
    | none=>(mk [],mk [],false)):=by
  unfold zQ eP
  rw [V9]
  simp only [Option.bind_some]
  unfold spl
  cases hp:parts (bl s) with
  | none=>simp only [Bool.not_false,if_true];rfl
  | some ps=>
    simp only [Bool.not_true,Bool.false_eq_true,if_false]
    obtain ⟨h0,h1,h2⟩:=(mH _ ps).1 hp
    rw [vV,Er]
    rcases List.eq_nil_or_concat ps with rfl | ⟨qs,t,rfl⟩
    · have:bl s= [47]:=h0
      rw [this];rfl
    · rw [List.concat_eq_append] at *
      have ht:hJ t=true:=by simp at h1;exact h1.2
      have hb:bl s=jA qs ++ 47::t:=by rw [h0];unfold nG;rw [if_neg (by simp),Hl];simp [jA]
      have hne:bl s ≠ [47]:=by
        rw [hb]
        intro e
        have:=congrArg List.length e
        have:=List.length_pos_iff.2 (Hk ht)
        simp at *
        omega
      have hl:=Bd hp
      rw [decide_eq_false hne]
      unfold xD pD gZ
      have hsz:=iD s
      have hlen:(bl s).length=(jA qs).length+t.length+1:=by rw [hb];simp;omega
      have e1:IntKind.i64.wrap ((s.size:Int) - 1)=(((bl s).length - 1:Nat):Int):=by rw [hsz,w64 (by omega) (by omega)];omega
      rw [e1,Ny s (jA qs) t hb (Bw ht) (by omega) _ _ (by omega) (by omega) (by omega)]
      simp only [Option.bind_some,Bool.false_eq_true,if_false]
      have e2:IntKind.i64.wrap (((jA qs).length:Int)+1)=(((jA qs).length+1:Nat):Int):=by rw [w64 (by omega) (by omega)];omega
      rw [e2,gL (by omega),gL (by omega)]
      rw [if_neg (by simp)]
      congr 1
      have e3:(s.extract 0 (max ((jA qs).length:Int) 1).toNat)=mk (nG (qs ++ [t]).dropLast):=by
        apply zM
        rw [uP,gV,hb,List.drop_zero,List.dropLast_concat]
        unfold nG
        cases qs with
        | nil=>rfl
        | cons q qs=>
          rw [if_neg (by simp)]
          have:(max ((jA (q::qs)).length:Int) 1).toNat=(jA (q::qs)).length:=by
            have:1 ≤ (jA (q::qs)).length:=by simp [jA]
            omega
          rw [this,List.take_left]
      have e4:(s.extract (((jA qs).length+1:Nat):Int).toNat s.size)=mk ((qs ++ [t]).getLast?.getD []):=by
        apply zM
        rw [uP,gV,hsz,List.take_length,hb,Int.toNat_natCast,show jA qs ++ 47::t=(jA qs ++ [47]) ++ t from by simp,show (jA qs).length+1=(jA qs ++ [47]).length from by simp,List.drop_left]
        simp
      rw [e3,e4]
theorem N6(s:ByteArray):pA s=some (os2 (jB (bl s))):=by
  unfold pA jB
  rw [Sv]
  cases parts (bl s) with
  | none=>rfl
  | some ps=>
    simp only [Option.bind_some]
    by_cases h:ps= []
    · rw [if_pos h,if_pos h];rfl
    · rw [if_neg h,if_neg h];rfl
theorem Hm(s:ByteArray):uV s=some (mk (wX (bl s))):=by
  unfold uV wX
  rw [Sv]
  cases parts (bl s) with
  | none=>rfl
  | some ps=>
    simp only [Option.bind_some]
    by_cases h:ps= []
    · rw [if_pos h,h];rfl
    · rw [if_neg h]
def uQ(p s:List UInt8):Option (List UInt8):=match parts p with
  | some ps=>if hJ s=true∧ps.length < 6 then some (nG (ps ++ [s])) else none
  | none=>none
theorem Zz(s:ByteArray)(x:List UInt8)(c:UInt8)(hc:c ≠ 47)(hs:bl s=x ++ [c])(hl:(bl s).length ≤ 1000):fQ s (ByteArray.mk #[47])=some s:=by
  unfold fQ jC jQ
  have e0:((ByteArray.mk #[47]).size:Int)=1:=rfl
  have hsz:=iD s
  have hlen:(bl s).length=x.length+1:=by rw [hs];simp
  have e1:IntKind.i64.wrap ((s.size:Int) - 1)=((x.length:Nat):Int):=by rw [w64 (by omega) (by omega)];omega
  rw [e0,e1,if_pos (by simp only [decide_eq_true_eq];omega),gL (by omega)]
  simp only [Option.bind_some,Int.toNat_natCast]
  rw [vV,uP,hsz,List.take_length,hs,List.drop_left,Er,if_neg (by simp;exact hc)]
  rfl
theorem Sw(s:ByteArray)(hs:bl s= [47]):fQ s (ByteArray.mk #[47])=some (mk []):=by
  have:s=mk [47]:=by apply zM;rw [hs,gV]
  subst this
  show fQ (mk [47]) (ByteArray.mk #[47])=some (mk [])
  kernel_rfl
theorem Sx{s:ByteArray}{ps:List (List UInt8)}(hp:parts (bl s)=some ps):∃ t,fQ s (ByteArray.mk #[47])=some t∧bl t=jA ps:=by
  obtain ⟨h0,h1,h2⟩:=(mH _ ps).1 hp
  rcases List.eq_nil_or_concat ps with rfl | ⟨qs,t,rfl⟩
  · exact ⟨_,Sw s h0,rfl⟩
  · rw [List.concat_eq_append] at *
    have ht:hJ t=true:=by simp at h1;exact h1.2
    rcases List.eq_nil_or_concat t with rfl | ⟨u,c,rfl⟩
    · exact absurd rfl (Hk ht)
    · rw [List.concat_eq_append] at *
      have hb:bl s=(jA qs ++ 47::u) ++ [c]:=by rw [h0];unfold nG;rw [if_neg (by simp),Hl];simp [jA]
      refine ⟨s,Zz s _ c ?_ hb (by have:=Bd hp;omega),?_⟩
      · intro e
        exact Bw ht (by simp [e])
      · rw [h0];unfold nG;rw [if_neg (by simp)]
theorem Hn(p s:ByteArray)(hs:(bl s).length ≤ 100000000):xS p s=some (os2 (uQ (bl p) (bl s))):=by
  unfold xS sM uQ
  rw [V9]
  simp only [Option.bind_some]
  unfold spl
  cases hp:parts (bl p) with
  | none=>simp only [Bool.not_false,if_true];rfl
  | some ps=>
    obtain ⟨t,ht,hb⟩:=Sx hp
    have hl:=Bd hp
    have h6:=((mH _ _).1 hp).2.2
    simp only [Bool.not_true,Bool.false_eq_true,if_false]
    rw [Bv]
    simp only [Option.bind_some]
    cases hs':hJ (bl s) with
    | false=>rw [if_pos (by simp),if_pos trivial,if_neg (by simp)];rfl
    | true=>
      simp only [Bool.not_true,Bool.false_eq_true,if_false]
      by_cases h:ps.length=6
      · rw [if_pos (by simp;omega),if_neg (by omega)];rfl
      · rw [if_neg (by simp;omega),if_pos (by refine ⟨trivial,?_⟩;omega),ht]
        have hcl:(jA ps).length ≤ 1000:=by
          have:=((mH _ _).1 hp).1
          unfold nG at this
          split at this
          · rename_i e;subst e;simp [jA]
          · rw [← this];omega
        have z1:t.size=(jA ps).length:=by rw [iD,hb]
        have z2:(ByteArray.mk #[47]).size=1:=rfl
        have z3:(t ++ ByteArray.mk #[47]).size=(jA ps).length+1:=by rw [iD,Bc,hb,Er];simp
        have z4:=iD s
        simp only [Option.bind_some]
        rw [gL (by omega),gL (by omega)]
        show some (_,true)=some (mk _,true)
        congr 2
        apply zM
        rw [Bc,Bc,hb,Er,gV]
        unfold nG
        rw [if_neg (by simp),Hl]
        simp [jA]
def vW(n:Nat):List UInt8:=[UInt8.ofNat (48+n / 1000 % 10),UInt8.ofNat (48+n / 100 % 10),UInt8.ofNat (48+n / 10 % 10),UInt8.ofNat (48+n % 10)]
theorem We(n:Nat)(h:n ≤ 9999):Lib.itoa (10000+(n:Int))=49::vW n:=by
  unfold Lib.itoa
  rw [if_neg (by omega),show (10000+(n:Int)).toNat=10000+n from by omega]
  have st:∀ u:Nat,¬ u < 10→Lib.decDigits u=Lib.decDigits (u / 10) ++ [UInt8.ofNat (48+u % 10)]:=fun u hu=>by rw [Lib.decDigits,dif_neg hu]
  rw [st _ (by omega),st _ (by omega),st _ (by omega),st _ (by omega),Lib.decDigits,dif_pos (by omega)]
  have d1:(10000+n) / 10 / 10 / 10 / 10=1:=by omega
  have d2:(10000+n) / 10 / 10 / 10 % 10=n / 1000 % 10:=by omega
  have d3:(10000+n) / 10 / 10 % 10=n / 100 % 10:=by omega
  have d4:(10000+n) / 10 % 10=n / 10 % 10:=by omega
  have d5:(10000+n) % 10=n % 10:=by omega
  rw [d1,d2,d3,d4,d5]
  rfl
def Et(s:List UInt8)(n:Int):Option (List UInt8):=if 0 ≤ n∧n ≤ 9999∧hJ (s ++ vW n.toNat)=true then some (s ++ vW n.toNat) else none
theorem Nb(s:ByteArray)(n:Int)(hs:(bl s).length ≤ 100000000):uF s n=some (os2 (Et (bl s) n)):=by
  unfold uF qT Et
  by_cases h0:n < 0
  · rw [if_pos (by simpa using h0),if_pos rfl,if_neg (by omega)];rfl
  · rw [if_neg (by simpa using h0)]
    by_cases h1:n > 9999
    · rw [if_pos (by simpa using h1),if_neg (by omega)];rfl
    · rw [if_neg (by simpa using h1)]
      obtain ⟨m,rfl⟩:∃ m:Nat,n=(m:Int):=⟨n.toNat,by omega⟩
      have e1:IntKind.i64.wrap (10000+(m:Int))=10000+(m:Int):=w64 (by omega) (by omega)
      have e2:ByteArray.mk (Lib.itoa (10000+(m:Int))).toArray=mk (49::vW m):=by rw [We m (by omega)];rfl
      rw [e1,gL (by omega),e2]
      have z1:(mk (49::vW m)).size=5:=rfl
      rw [z1,gL (by decide)]
      have e3:bl ((mk (49::vW m)).extract (1:Int).toNat 5)=vW m:=by rw [uP,gV];rfl
      have z2:((mk (49::vW m)).extract (1:Int).toNat 5).size=4:=by rw [iD,e3];rfl
      have z3:=iD s
      rw [z2,gL (by omega),Bv,Bc,e3]
      simp only [Option.bind_some,Int.toNat_natCast]
      have e4:s ++ (mk (49::vW m)).extract (1:Int).toNat 5=mk (bl s ++ vW m):=by apply zM;rw [Bc,e3,gV]
      cases hp:hJ (bl s ++ vW m) with
      | false=>rw [if_pos (by rfl),if_neg (by simp)];rfl
      | true=>rw [if_neg (by simp),if_pos ⟨by omega,by omega,rfl⟩,e4];rfl
theorem Sy{l:List UInt8}(h:hJ l=true):l.length ≤ 12:=by simp [hJ] at h;exact h.1.2
end Go.Cb
