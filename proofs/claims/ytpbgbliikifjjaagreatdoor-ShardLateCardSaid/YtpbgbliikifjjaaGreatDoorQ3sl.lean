/- Plain laws of elder seats, at this one. -/
import Derived.Test.YtpbgbliikifjjaaGreatDoorQ2sl
import Derived.Test.YtpbgbliikifjjaaGreatDoorAsl2
import Derived.Test.YtpbgbliikifjjaaGreatDoorKsl1
import Derived.Test.YtpbgbliikifjjaaGreatDoorKsl2
set_option linter.unusedVariables false
set_option linter.unusedSimpArgs false
namespace Go.Cb
open Go.Proofs Go.RowKit

def iV(p:List UInt8):Option (List UInt8):=match parts p with
  | some ps=>if ps= [] then none else some (nZ ps.dropLast)
  | none=>none
def wP(p:List UInt8):List UInt8:=match parts p with
  | some ps=>ps.getLast?.getD []
  | none=>[]
def os2(o:Option (List UInt8)):ByteArray×Bool:=match o with
  | some q=>(mk q,true)
  | none=>(mk [],false)
theorem Hc(ps qs:List (List UInt8)):iU (ps ++ qs)=iU ps ++ iU qs:=by simp [iU]
theorem As{p:List UInt8}{ps:List (List UInt8)}(h:parts p=some ps):p.length ≤ 78:=by
  obtain ⟨rfl,h1,h2⟩:=(mG p ps).1 h
  have key:∀ qs:List (List UInt8),qs.all gP=true→(iU qs).length ≤ 13 * qs.length:=by
    intro qs
    induction qs with
    | nil=>intro _;simp [iU]
    | cons t ts ih=>
      intro h
      simp at h
      have h3:t.length ≤ 12:=by have:=h.1;simp [gP] at this;exact this.1.2
      have h4:=ih (by simpa using h.2)
      show (47::(t ++ iU ts)).length ≤ _
      simp;omega
  unfold nZ
  split
  · simp
  · have:=key ps h1;omega
theorem Ns(s:ByteArray)(a b:List UInt8)(hs:bl s=a ++ 47::b)(hb:47 ∉ b)(hl:(bl s).length ≤ 1000):∀ (k i:Nat),i < (bl s).length→a.length ≤ i→i+1 ≤ k→eE s k 47 (i:Int)=some (a.length:Int)
  | 0,i,_,_,h=>by omega
  | k+1,i,hi,hai,h=>by
    unfold eE
    rw [if_pos (by simp),EW hi]
    simp only [Option.bind_some]
    by_cases e:i=a.length
    · have:(bl s)[i]=47:=by subst e;simp [hs]
      rw [this,if_pos (by decide),e]
    · have hne:(bl s)[i] ≠ 47:=by
        have h2:(bl s)[i]? =b[i - a.length - 1]? :=by
          rw [hs,List.getElem?_append_right hai,show i - a.length=(i - a.length - 1)+1 from by omega,List.getElem?_cons_succ]
          rfl
        rw [List.getElem?_eq_getElem hi] at h2
        intro e2
        rw [e2] at h2
        exact hb (List.mem_of_getElem? h2.symm)
      rw [if_neg (by have:=c47 hne;simp only [beq_iff_eq];omega),show IntKind.i64.wrap ((i:Int) - 1)=((i - 1:Nat):Int) from by rw [w64 (by omega) (by omega)];omega]
      exact Ns s a b hs hb hl k (i - 1) (by omega) (by omega) (by omega)
theorem Sy(s:ByteArray):zJ s=some (match parts (bl s) with
    | some ps=>if ps= [] then (mk [],mk [],false) else (mk (nZ ps.dropLast),mk (ps.getLast?.getD []),true)
    | none=>(mk [],mk [],false)):=by
  unfold zJ eG
  rw [U7]
  simp only [Option.bind_some]
  unfold spl
  cases hp:parts (bl s) with
  | none=>simp only [Bool.not_false,if_true];rfl
  | some ps=>
    simp only [Bool.not_true,Bool.false_eq_true,if_false]
    obtain ⟨h0,h1,h2⟩:=(mG _ ps).1 hp
    rw [vP,Ec]
    rcases List.eq_nil_or_concat ps with rfl | ⟨qs,t,rfl⟩
    · have:bl s= [47]:=h0
      rw [this];rfl
    · rw [List.concat_eq_append] at *
      have ht:gP t=true:=by simp at h1;exact h1.2
      have hb:bl s=iU qs ++ 47::t:=by rw [h0];unfold nZ;rw [if_neg (by simp),Hc];simp [iU]
      have hne:bl s ≠ [47]:=by
        rw [hb]
        intro e
        have:=congrArg List.length e
        have:=List.length_pos_iff.2 (Hb ht)
        simp at *
        omega
      have hl:=As hp
      rw [decide_eq_false hne]
      unfold wW oW gK
      have hsz:=hF s
      have hlen:(bl s).length=(iU qs).length+t.length+1:=by rw [hb];simp;omega
      have e1:IntKind.i64.wrap ((s.size:Int) - 1)=(((bl s).length - 1:Nat):Int):=by rw [hsz,w64 (by omega) (by omega)];omega
      rw [e1,Ns s (iU qs) t hb (Bm ht) (by omega) _ _ (by omega) (by omega) (by omega)]
      simp only [Option.bind_some,Bool.false_eq_true,if_false]
      have e2:IntKind.i64.wrap (((iU qs).length:Int)+1)=(((iU qs).length+1:Nat):Int):=by rw [w64 (by omega) (by omega)];omega
      rw [e2,fZ (by omega),fZ (by omega)]
      rw [if_neg (by simp)]
      congr 1
      have e3:(s.extract 0 (max ((iU qs).length:Int) 1).toNat)=mk (nZ (qs ++ [t]).dropLast):=by
        apply zE
        rw [uH,iF,hb,List.drop_zero,List.dropLast_concat]
        unfold nZ
        cases qs with
        | nil=>rfl
        | cons q qs=>
          rw [if_neg (by simp)]
          have:(max ((iU (q::qs)).length:Int) 1).toNat=(iU (q::qs)).length:=by
            have:1 ≤ (iU (q::qs)).length:=by simp [iU]
            omega
          rw [this,List.take_left]
      have e4:(s.extract (((iU qs).length+1:Nat):Int).toNat s.size)=mk ((qs ++ [t]).getLast?.getD []):=by
        apply zE
        rw [uH,iF,hsz,List.take_length,hb,Int.toNat_natCast,show iU qs ++ 47::t=(iU qs ++ [47]) ++ t from by simp,show (iU qs).length+1=(iU qs ++ [47]).length from by simp,List.drop_left]
        simp
      rw [e3,e4]
theorem M5(s:ByteArray):oU s=some (os2 (iV (bl s))):=by
  unfold oU iV
  rw [Sy]
  cases parts (bl s) with
  | none=>rfl
  | some ps=>
    simp only [Option.bind_some]
    by_cases h:ps= []
    · rw [if_pos h,if_pos h];rfl
    · rw [if_neg h,if_neg h];rfl
theorem He(s:ByteArray):uL s=some (mk (wP (bl s))):=by
  unfold uL wP
  rw [Sy]
  cases parts (bl s) with
  | none=>rfl
  | some ps=>
    simp only [Option.bind_some]
    by_cases h:ps= []
    · rw [if_pos h,h];rfl
    · rw [if_neg h]
def D8(p s:List UInt8):Option (List UInt8):=match parts p with
  | some ps=>if gP s=true∧ps.length < 6 then some (nZ (ps ++ [s])) else none
  | none=>none
theorem Zz(s:ByteArray)(x:List UInt8)(c:UInt8)(hc:c ≠ 47)(hs:bl s=x ++ [c])(hl:(bl s).length ≤ 1000):fD s (ByteArray.mk #[47])=some s:=by
  unfold fD iX jM
  have e0:((ByteArray.mk #[47]).size:Int)=1:=rfl
  have hsz:=hF s
  have hlen:(bl s).length=x.length+1:=by rw [hs];simp
  have e1:IntKind.i64.wrap ((s.size:Int) - 1)=((x.length:Nat):Int):=by rw [w64 (by omega) (by omega)];omega
  rw [e0,e1,if_pos (by simp only [decide_eq_true_eq];omega),fZ (by omega)]
  simp only [Option.bind_some,Int.toNat_natCast]
  rw [vP,uH,hsz,List.take_length,hs,List.drop_left,Ec,if_neg (by simp;exact hc)]
  rfl
theorem Sz(s:ByteArray)(hs:bl s= [47]):fD s (ByteArray.mk #[47])=some (mk []):=by
  have:s=mk [47]:=by apply zE;rw [hs,iF]
  subst this
  show fD (mk [47]) (ByteArray.mk #[47])=some (mk [])
  kernel_rfl
theorem Ta{s:ByteArray}{ps:List (List UInt8)}(hp:parts (bl s)=some ps):∃ t,fD s (ByteArray.mk #[47])=some t∧bl t=iU ps:=by
  obtain ⟨h0,h1,h2⟩:=(mG _ ps).1 hp
  rcases List.eq_nil_or_concat ps with rfl | ⟨qs,t,rfl⟩
  · exact ⟨_,Sz s h0,rfl⟩
  · rw [List.concat_eq_append] at *
    have ht:gP t=true:=by simp at h1;exact h1.2
    rcases List.eq_nil_or_concat t with rfl | ⟨u,c,rfl⟩
    · exact absurd rfl (Hb ht)
    · rw [List.concat_eq_append] at *
      have hb:bl s=(iU qs ++ 47::u) ++ [c]:=by rw [h0];unfold nZ;rw [if_neg (by simp),Hc];simp [iU]
      refine ⟨s,Zz s _ c ?_ hb (by have:=As hp;omega),?_⟩
      · intro e
        exact Bm ht (by simp [e])
      · rw [h0];unfold nZ;rw [if_neg (by simp)]
theorem Hf(p s:ByteArray)(hs:(bl s).length ≤ 100000000):xK p s=some (os2 (D8 (bl p) (bl s))):=by
  unfold xK sG D8
  rw [U7]
  simp only [Option.bind_some]
  unfold spl
  cases hp:parts (bl p) with
  | none=>simp only [Bool.not_false,if_true];rfl
  | some ps=>
    obtain ⟨t,ht,hb⟩:=Ta hp
    have hl:=As hp
    have h6:=((mG _ _).1 hp).2.2
    simp only [Bool.not_true,Bool.false_eq_true,if_false]
    rw [Bl]
    simp only [Option.bind_some]
    cases hs':gP (bl s) with
    | false=>rw [if_pos (by simp),if_pos trivial,if_neg (by simp)];rfl
    | true=>
      simp only [Bool.not_true,Bool.false_eq_true,if_false]
      by_cases h:ps.length=6
      · rw [if_pos (by simp;omega),if_neg (by omega)];rfl
      · rw [if_neg (by simp;omega),if_pos (by refine ⟨trivial,?_⟩;omega),ht]
        have hcl:(iU ps).length ≤ 1000:=by
          have:=((mG _ _).1 hp).1
          unfold nZ at this
          split at this
          · rename_i e;subst e;simp [iU]
          · rw [← this];omega
        have z1:t.size=(iU ps).length:=by rw [hF,hb]
        have z2:(ByteArray.mk #[47]).size=1:=rfl
        have z3:(t ++ ByteArray.mk #[47]).size=(iU ps).length+1:=by rw [hF,Ar,hb,Ec];simp
        have z4:=hF s
        simp only [Option.bind_some]
        rw [fZ (by omega),fZ (by omega)]
        show some (_,true)=some (mk _,true)
        congr 2
        apply zE
        rw [Ar,Ar,hb,Ec,iF]
        unfold nZ
        rw [if_neg (by simp),Hc]
        simp [iU]
def vQ(n:Nat):List UInt8:=[UInt8.ofNat (48+n / 1000 % 10),UInt8.ofNat (48+n / 100 % 10),UInt8.ofNat (48+n / 10 % 10),UInt8.ofNat (48+n % 10)]
theorem Wb(n:Nat)(h:n ≤ 9999):Lib.itoa (10000+(n:Int))=49::vQ n:=by
  unfold Lib.itoa
  rw [if_neg (by omega),show (10000+(n:Int)).toNat=10000+n from by omega]
  have st:∀ u:Nat,¬ u < 10→Lib.decDigits u=Lib.decDigits (u / 10) ++ [UInt8.ofNat (48+u % 10)]:=fun u hu=>by rw [Lib.decDigits,dif_neg hu]
  rw [st _ (by omega),st _ (by omega),st _ (by omega),st _ (by omega),Lib.decDigits,dif_pos (by omega)]
  have d1:(10000+n) / 10 / 10 / 10 / 10=1:=by omega
  have d2:(10000+n) / 10 / 10 / 10 % 10=n / 1000 % 10:=by omega
  have d3:(10000+n) / 10 / 10 % 10=n / 100 % 10:=by omega
  have d4:(10000+n) / 10 % 10=n / 10 % 10:=by omega
  have d5:(10000+n) % 10=n % 10:=by omega
  rw [d1,d2,d3,d4,d5]
  rfl
def Ee(s:List UInt8)(n:Int):Option (List UInt8):=if 0 ≤ n∧n ≤ 9999∧gP (s ++ vQ n.toNat)=true then some (s ++ vQ n.toNat) else none
theorem Mu(s:ByteArray)(n:Int)(hs:(bl s).length ≤ 100000000):uA s n=some (os2 (Ee (bl s) n)):=by
  unfold uA qK Ee
  by_cases h0:n < 0
  · rw [if_pos (by simpa using h0),if_pos rfl,if_neg (by omega)];rfl
  · rw [if_neg (by simpa using h0)]
    by_cases h1:n > 9999
    · rw [if_pos (by simpa using h1),if_neg (by omega)];rfl
    · rw [if_neg (by simpa using h1)]
      obtain ⟨m,rfl⟩:∃ m:Nat,n=(m:Int):=⟨n.toNat,by omega⟩
      have e1:IntKind.i64.wrap (10000+(m:Int))=10000+(m:Int):=w64 (by omega) (by omega)
      have e2:ByteArray.mk (Lib.itoa (10000+(m:Int))).toArray=mk (49::vQ m):=by rw [Wb m (by omega)];rfl
      rw [e1,fZ (by omega),e2]
      have z1:(mk (49::vQ m)).size=5:=rfl
      rw [z1,fZ (by decide)]
      have e3:bl ((mk (49::vQ m)).extract (1:Int).toNat 5)=vQ m:=by rw [uH,iF];rfl
      have z2:((mk (49::vQ m)).extract (1:Int).toNat 5).size=4:=by rw [hF,e3];rfl
      have z3:=hF s
      rw [z2,fZ (by omega),Bl,Ar,e3]
      simp only [Option.bind_some,Int.toNat_natCast]
      have e4:s ++ (mk (49::vQ m)).extract (1:Int).toNat 5=mk (bl s ++ vQ m):=by apply zE;rw [Ar,e3,iF]
      cases hp:gP (bl s ++ vQ m) with
      | false=>rw [if_pos (by rfl),if_neg (by simp)];rfl
      | true=>rw [if_neg (by simp),if_pos ⟨by omega,by omega,rfl⟩,e4];rfl
theorem Tc{l:List UInt8}(h:gP l=true):l.length ≤ 12:=by simp [gP] at h;exact h.1.2
end Go.Cb
