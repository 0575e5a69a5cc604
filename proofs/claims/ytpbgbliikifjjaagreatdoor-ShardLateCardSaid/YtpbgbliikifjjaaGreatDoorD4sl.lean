/- A shard that keeps all, plainly: what is held, and let go; a transaction prepared, and finished. -/
import Derived.Test.YtpbgbliikifjjaaGreatDoorD3sl
import Derived.Test.YtpbgbliikifjjaaGreatDoorU8sl
set_option linter.unusedVariables false
set_option linter.unusedSimpArgs false
namespace Go.Cb
open Go.Proofs Go.RowKit

abbrev Hd:=aN
theorem Oj(x:Hd)(s:ByteArray):∃ v:Int,sJ x s=some v:=by
  unfold sJ jZ
  exact ⟨_,rfl⟩
theorem Hi(l:List Hd)(s:ByteArray)(hlen:l.length ≤ 1000000):∀ (k lo hi:Nat),lo ≤ hi→hi ≤ l.length→hi+1 ≤ lo+k→∃ (i:Nat) (b:Bool),cJ l s k (lo:Int) (hi:Int)=some ((i:Int),b)∧i ≤ l.length
  | 0,lo,hi,_,_,h=>by omega
  | k+1,lo,hi,hlh,hhi,h=>by
    unfold cJ
    by_cases hl:lo < hi
    · rw [if_pos (by simpa using hl),show IntKind.i64.wrap ((lo:Int)+(hi:Int))=IntKind.i64.wrap ((lo+hi:Nat):Int) from by rw [Int.natCast_add],Wc _ (by omega)]
      have hm:(lo+hi) / 2 < l.length:=by omega
      rw [dV hm]
      simp only [Option.bind_some]
      obtain ⟨v,hv⟩:=Oj l[(lo+hi) / 2] s
      rw [hv]
      simp only [Option.bind_some]
      rw [show IntKind.i64.wrap ((((lo+hi) / 2:Nat):Int)+1)=(((lo+hi) / 2+1:Nat):Int) from by rw [w64 (by omega) (by omega)];omega]
      split
      · exact Hi l s hlen k ((lo+hi) / 2+1) hi (by omega) hhi (by omega)
      · exact Hi l s hlen k lo ((lo+hi) / 2) (by omega) (by omega) (by omega)
    · rw [if_neg (by simpa using hl)]
      by_cases hl2:lo < l.length
      · rw [if_pos (by simpa using hl2),dV hl2]
        simp only [Option.bind_some]
        obtain ⟨v,hv⟩:=Oj l[lo] s
        rw [hv]
        exact ⟨lo,_,rfl,by omega⟩
      · rw [if_neg (by simpa using hl2)]
        exact ⟨lo,_,rfl,by omega⟩
theorem Hj(ds:List ByteArray)(t a:Int)(hd:ds.length ≤ 1000):∀ (k i:Nat) (l:List Hd),l.length ≤ i→i ≤ ds.length→ds.length+1 ≤ i+k→∃ H,mD ds t a k l (i:Int)=some (H,[],true)∧H.length ≤ ds.length
  | 0,i,l,_,_,h=>by omega
  | k+1,i,l,hl,h0,h=>by
    unfold mD uG
    by_cases hi:i < ds.length
    · rw [if_pos (by simpa using hi),dV hi]
      simp only [Option.bind_some]
      unfold eQ
      obtain ⟨j,b,h1,h2⟩:=Hi l ds[i] (by omega) (((l.length:Int) - 0:Int).toNat+1) 0 l.length (by omega) (Nat.le_refl _) (by omega)
      rw [show cJ l ds[i] (((l.length:Int) - 0:Int).toNat+1) 0 (l.length:Int)=some ((j:Int),b) from h1]
      simp only [Option.bind_some]
      rw [oV (by omega),fZ (by omega)]
      split
      · exact Hj ds t a hd k (i+1) _ (by simp;omega) (by omega) (by omega)
      · exact Hj ds t a hd k (i+1) l (by omega) (by omega) (by omega)
    · rw [if_neg (by simpa using hi)]
      exact ⟨l,rfl,by omega⟩
theorem Ug(l:List ByteArray)(hl:l.length ≤ 1000000)(hp:∀ d ∈ l,fB (bl d)=true):∀ (k i:Nat),i ≤ l.length→l.length+1 ≤ i+k→dY l k (i:Int)=some (-1)
  | 0,i,_,h=>by omega
  | k+1,i,h0,h=>by
    unfold dY
    by_cases hi:i < l.length
    · rw [if_pos (by simpa using hi),dV hi]
      simp only [Option.bind_some]
      unfold a7
      rw [zF,hp _ (List.getElem_mem hi)]
      simp only [Option.bind_some]
      rw [if_neg (by simp),oV (by omega),Ug l hl hp k (i+1) (by omega) (by omega)]
    · rw [if_neg (by simpa using hi)]
theorem FG{n:Int}(h:sW n=true):nW n=some true:=by
  simp only [sW,Bool.and_eq_true,decide_eq_true_eq] at h
  unfold nW
  rw [if_pos (decide_eq_true h.1),decide_eq_true h.2]
theorem KG(ds:List ByteArray)(t a:Int)(hd:ds.length ≤ 1000)(hp:∀ d ∈ ds,fB (bl d)=true)(h1:sW t=true)(h2:sW a=true):∃ H,zC [] t a ds=some (H,[],true)∧H.length ≤ ds.length:=by
  unfold zC gT iP
  rw [show dY ds (((ds.length:Int) - 0:Int).toNat+1) 0=some (-1) from Ug ds (by omega) hp _ 0 (by omega) (by omega)]
  simp only [Option.bind_some]
  rw [show fY [] t a=some false from rfl,show s4 []=some true from rfl,FG h1,FG h2]
  simp only [Option.bind_some]
  rw [if_neg (by simp),if_neg (by simp),if_neg (by simp),if_neg (by simp)]
  unfold mF
  rw [if_neg (by simp)]
  unfold mE
  rw [if_neg (by simp),if_neg (by simp),fZ (by simp [LIM])]
  exact Hj ds t a hd _ 0 [] (by simp) (by omega) (by omega)
/-! ### letting go -/
theorem Mh(l:List Hd)(t:Int)(hl:l.length ≤ 1000000):∀ (k i:Nat),i ≤ l.length→l.length+1 ≤ i+k→cQ l t k (i:Int)=some (-1)∨∃ j:Nat,j < l.length∧cQ l t k (i:Int)=some (j:Int)
  | 0,i,_,h=>by omega
  | k+1,i,h0,h=>by
    unfold cQ sF
    by_cases hi:i < l.length
    · rw [if_pos (by simpa using hi),dV hi]
      simp only [Option.bind_some]
      rw [oV (by omega)]
      split
      · exact .inr ⟨i,hi,rfl⟩
      · exact Mh l t hl k (i+1) (by omega) (by omega)
    · rw [if_neg (by simpa using hi)]
      exact .inl rfl
theorem Hk(t:Int)(n:Nat)(hn:n ≤ 1000000):∀ (k i j:Nat) (l:List Hd),l.length=n→i ≤ j→j ≤ n→n+1 ≤ j+k→∃ H,cY t k l (i:Int) (j:Int)=some H∧H.length ≤ n
  | 0,i,j,l,_,_,_,h=>by omega
  | k+1,i,j,l,hl,hij,hj,h=>by
    unfold cY eT sF
    by_cases hi:j < l.length
    · rw [if_pos (by simpa using hi),dV hi]
      simp only [Option.bind_some]
      rw [dV (show i < l.length by omega)]
      simp only [Option.bind_some]
      rw [oV (show i ≤ 4611686018427387904 by omega),oV (show j ≤ 4611686018427387904 by omega)]
      split
      · exact Hk t n hn k (i+1) (j+1) _ (by simpa using hl) (by omega) (by omega) (by omega)
      · exact Hk t n hn k i (j+1) l hl (by omega) (by omega) (by omega)
    · rw [if_neg (by simpa using hi),fZ (by omega),fZ (by simp only [Int.toNat_natCast,List.length_append,List.length_take,List.length_replicate];omega)]
      exact ⟨_,rfl,by simp;omega⟩
theorem FH(l:List Hd)(t:Int)(hl:l.length ≤ 1000000):∃ H,vG l t=some H∧H.length ≤ l.length:=by
  unfold vG gQ gL
  rw [fZ (by simp [LIM];omega)]
  have e:∀ z:Int,cQ l t (((l.length:Int) - 0:Int).toNat+1) ((0:Nat):Int)=some z→cQ l t (((l.length:Int) - 0:Int).toNat+1) 0=some z:=fun z h=>h
  rcases Mh l t hl (((l.length:Int) - 0:Int).toNat+1) 0 (by omega) (by omega) with h | ⟨j,hj,h⟩
  · rw [e _ h]
    exact ⟨l,rfl,Nat.le_refl _⟩
  · rw [e _ h]
    simp only [Option.bind_some]
    rw [if_neg (by simp only [beq_iff_eq];omega),oV (by omega)]
    obtain ⟨H,h1,h2⟩:=Hk t l.length hl (((l.length:Int) - ((j+1:Nat):Int):Int).toNat+1) j (j+1) l rfl (by omega) (by omega) (by omega)
    rw [h1]
    exact ⟨H,rfl,h2⟩
end Go.Cb
