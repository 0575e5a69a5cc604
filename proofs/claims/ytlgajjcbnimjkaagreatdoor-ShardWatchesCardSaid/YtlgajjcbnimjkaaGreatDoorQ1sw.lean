/- Plain laws of elder seats, at this one. -/
import Derived.Test.YtlgajjcbnimjkaaGreatDoorKsw1
import Derived.Sort.Walk0
import Derived.ChangeKeysEq
set_option linter.unusedVariables false
set_option linter.unusedSimpArgs false
namespace Go.Cb
open Go.Proofs Go.RowKit

theorem w64{n:Int}(h:-9223372036854775808 ≤ n)(h':n ≤ 9223372036854775807):IntKind.i64.wrap n=n:=IntWalk.i64_in n ⟨h,h'⟩
theorem gL{α:Type}{p:Prop} [Decidable p] (h:p) (f:Unit→Option α):(ck p).bind f=f ():=by simp [ck,h]
theorem eR{α:Type}{l:List α}{i:Nat}(h:i < l.length):idx l (i:Int)=some l[i]:=by simp [idx,h]
theorem Ya{α β:Type}{l:List α}{i:Nat}{x:α}(h:l[i]? =some x)(f:α→Option β):(idx l (i:Int)).bind f=f x:=by simp [idx,h]
def bl(s:ByteArray):List UInt8:=s.data.toList
theorem EY{s:ByteArray}{i:Nat}(h:i < (bl s).length):idx s.data.toList (i:Int)=some (bl s)[i]:=eR h
def mk(l:List UInt8):ByteArray:=⟨l.toArray⟩
theorem gV(l:List UInt8):bl (mk l)=l:=rfl
theorem Bu(s:ByteArray):mk (bl s)=s:=by cases s;simp [mk,bl]
theorem zM{s t:ByteArray}(h:bl s=bl t):s=t:=by rw [← Bu s,h,Bu]
theorem Bc(s t:ByteArray):bl (s ++ t)=bl s ++ bl t:=by simp [bl,ByteArray.data_append]
theorem iD(s:ByteArray):s.size=(bl s).length:=by simp [bl]
theorem uP(s:ByteArray)(i j:Nat):bl (s.extract i j)=((bl s).take j).drop i:=by
  unfold bl
  rw [ByteArray.data_extract]
  simp [Array.toList_extract,List.extract_eq_take_drop,List.drop_take]
theorem Zw(x y:ByteArray):sEq x y=true ↔ x=y:=by
  unfold sEq
  rw [ByteArray.toList_eq,ByteArray.toList_eq,beq_iff_eq]
  constructor
  · intro h;cases x;cases y;simp at h;simp [h]
  · rintro rfl;rfl
theorem vV(x y:ByteArray):sEq x y=decide (bl x=bl y):=by
  rw [Bool.eq_iff_iff,Zw]
  simp only [decide_eq_true_eq]
  exact ⟨fun h=>by rw [h],zM⟩
theorem Sr(x y:ByteArray):sLt x y=decide (bl x < bl y):=by
  unfold sLt
  rw [Go.Proofs.bytesLess_eq,ByteArray.toList_eq,ByteArray.toList_eq]
  rfl

def Ep(c:UInt8):Bool:=(decide (97 ≤ c.toNat) && decide (c.toNat ≤ 122)) || (decide (48 ≤ c.toNat) && decide (c.toNat ≤ 57)) || decide (c.toNat=45)
def hJ(l:List UInt8):Bool:=!l.isEmpty && decide (l.length ≤ 12) && l.all Ep
def letters:ByteArray:=⟨#[97,98,99,100,101,102,103,104,105,106,107,108,109,110,111,112,113,114,115,116,117,118,119,120,121,122,48,49,50,51,52,53,54,55,56,57,45]⟩
theorem Vw:∀ r:Fin 128,xC (r.val:Int)=some (!Ep (UInt8.ofNat r.val)):=by decide +kernel
theorem Vx:∀ (i:Fin 3) (c:Fin 128),ixB (letters.extract (i.val+2) 37) ((c.val:Int)+128)= -1:=by decide +kernel
theorem Na:∀ i:Fin 37,((letters.data.toList[i.val]!).toNat < 128):=by decide +kernel
theorem Vy(x:Int)(h:128 ≤ x):∃ (n:Fin 3) (c:Fin 128),(Utf8.encode x).size=n.val+2∧(Utf8.encode x).data.toList[n.val+1]? =some (UInt8.ofNat (c.val+128)):=by
  unfold Utf8.encode
  generalize hc:(if Utf8.valid x=true then x.toNat else Utf8.runeError)=c
  have h128:128 ≤ c:=by
    rw [← hc];split
    · omega
    · decide
  simp only
  rw [if_neg (by omega)]
  split
  · exact ⟨0,⟨c % 64,by omega⟩,rfl,by simp [Nat.add_comm]⟩
  · split
    · exact ⟨1,⟨c % 64,by omega⟩,rfl,by simp [Nat.add_comm]⟩
    · exact ⟨2,⟨c % 64,by omega⟩,rfl,by simp [Nat.add_comm]⟩
theorem Ss(r:Int)(h:128 ≤ r):xC r=some true:=by
  have key:pR letters r=some (-1):=by
    unfold pR mV
    rw [if_pos (by simp;omega),show decide (r < 128)=false from by simp;omega]
    simp only [Bool.false_eq_true,if_false]
    by_cases e:r=65533
    · subst e;kernel_rfl
    · rw [if_neg (by simp;exact e)]
      have hv:∃ b,lH r=some b:=by
        unfold lH jI jH
        split <;> (try split) <;> (try split) <;> (try split) <;> exact ⟨_,rfl⟩
      obtain ⟨b,hb⟩:=hv
      rw [hb]
      simp only [Option.bind_some]
      split
      · rfl
      · obtain ⟨n,c,hs,hl⟩:=Vy r h
        have hn:=n.isLt
        have hcl:=c.isLt
        unfold qH
        have e1:IntKind.i64.wrap (((Utf8.encode r).size:Int) - 1)=((n.val+1:Nat):Int):=by rw [hs,w64 (by omega) (by omega)];omega
        rw [e1]
        have e2:(letters.size:Int)=37:=rfl
        rw [if_pos (by rw [e2];simp;omega)]
        have hll:n.val+1 < letters.data.toList.length:=by show n.val+1 < 37;omega
        rw [eR hll]
        simp only [Option.bind_some]
        rw [Ya hl]
        have e3:(UInt8.ofNat (c.val+128)).toNat=c.val+128:=by simp;omega
        rw [e3]
        have h7:=Na ⟨n.val+1,by omega⟩
        rw [getElem!_pos letters.data.toList (n.val+1) hll] at h7
        rw [if_pos (by simp only [bne_iff_ne,ne_eq];omega)]
        have e4:IntKind.i64.wrap (((n.val+1:Nat):Int)+1)=((n.val+2:Nat):Int):=by rw [w64 (by omega) (by omega)];omega
        rw [e4,gL (by rw [e2];omega),Ya hl,e3]
        have e5:iV (letters.extract ((n.val+2:Nat):Int).toNat letters.size) (((c.val+128:Nat)):Int)=some (-1):=by
          show some (ixB (letters.extract (n.val+2) 37) (((c.val+128:Nat)):Int))=_
          rw [show (((c.val+128:Nat)):Int)=(c.val:Int)+128 from by omega,Vx n c]
        rw [e5]
        rfl
  show (mW letters r).bind _=_
  unfold mW
  rw [key]
  rfl
theorem Zx{s:ByteArray}{i:Nat}{c:UInt8}(h:(bl s)[i]? =some c)(hc:c.toNat < 128):Utf8.decode s i=(c.toNat,1):=by
  have hg:s.get! i=c:=by
    obtain ⟨hi,hx⟩:=List.getElem?_eq_some_iff.1 h
    cases s with | mk d=>
    show d[i]! =c
    rw [getElem!_pos d i (by simpa [bl] using hi)]
    exact hx
  unfold Utf8.decode
  simp only [Nat.add_zero,hg]
  rw [if_pos hc]
theorem Vz{s:ByteArray}{i:Nat}{c:UInt8}(h:(bl s)[i]? =some c)(hc:128 ≤ c.toNat):128 ≤ (Utf8.decode s i).1:=by
  have hg:s.get! i=c:=by
    obtain ⟨hi,hx⟩:=List.getElem?_eq_some_iff.1 h
    cases s with | mk d=>
    show d[i]! =c
    rw [getElem!_pos d i (by simpa [bl] using hi)]
    exact hx
  unfold Utf8.decode
  simp only [Nat.add_zero,hg]
  rw [if_neg (by omega)]
  have e:Utf8.runeError=65533:=rfl
  split
  · split
    · simp;omega
    · show 128 ≤ Utf8.runeError;rw [e];omega
  · split
    · split
      · rename_i h;simp at h;simp;omega
      · show 128 ≤ Utf8.runeError;rw [e];omega
    · split
      · split
        · rename_i h;simp at h;simp;omega
        · show 128 ≤ Utf8.runeError;rw [e];omega
      · show 128 ≤ Utf8.runeError;rw [e];omega
theorem Wb{c:UInt8}(h:128 ≤ c.toNat):Ep c=false:=by simp [Ep];omega
theorem St(s:ByteArray):∀ (k i:Nat),i ≤ (bl s).length→(bl s).length+1 ≤ i+k→∃ v:Int,jX s true k i=some v∧(decide (v ≥ 0)= !((bl s).drop i).all Ep)
  | 0,i,h0,h=>by omega
  | k+1,i,h0,h=>by
    unfold jX
    by_cases hi:i < (bl s).length
    · rw [if_pos (by rw [iD];simpa using hi)]
      have hx:(bl s)[i]? =some (bl s)[i]:=List.getElem?_eq_getElem hi
      have hd:(bl s).drop i=(bl s)[i]::(bl s).drop (i+1):=List.drop_eq_getElem_cons hi
      by_cases hc:((bl s)[i]).toNat < 128
      · rw [Zx hx hc]
        have:=Vw ⟨_,hc⟩
        simp only at this
        rw [this]
        simp only [Option.bind_some,UInt8.ofNat_toNat]
        by_cases hl:Ep (bl s)[i]=true
        · rw [hl]
          simp only [Bool.not_true,Bool.false_beq,Bool.not_true,Bool.false_eq_true,if_false]
          obtain ⟨v,h1,h2⟩:=St s k (i+1) (by omega) (by omega)
          exact ⟨v,h1,by rw [h2,hd,List.all_cons,hl,Bool.true_and]⟩
        · simp only [Bool.not_eq_true] at hl
          rw [hl]
          exact ⟨_,rfl,by rw [hd,List.all_cons,hl];simp⟩
      · rw [Ss _ (by have:=Vz hx (by omega);omega)]
        exact ⟨_,rfl,by rw [hd,List.all_cons,Wb (by omega)];simp⟩
    · rw [if_neg (by rw [iD];simpa using hi)]
      exact ⟨_,rfl,by rw [List.drop_eq_nil_of_le (by omega)];rfl⟩
theorem emp:bl (ByteArray.mk #[])= []:=rfl
theorem Er:bl (ByteArray.mk #[47])= [47]:=rfl
theorem Bv(s:ByteArray):uS s=some (hJ (bl s)):=by
  unfold uS qI tK tJ
  obtain ⟨v,h1,h2⟩:=St s (s.size+2) 0 (by omega) (by rw [iD];omega)
  rw [h1]
  simp only [Option.bind_some,h2,List.drop_zero,Bool.not_not,vV,emp]
  unfold hJ
  have e:(s.size:Int) ≤ 12 ↔ (bl s).length ≤ 12:=by rw [iD];omega
  by_cases h0:bl s= []
  · rw [if_neg (by simp [h0])];simp [h0]
  · rw [if_pos (by simp [h0])]
    have h0':(bl s).isEmpty=false:=by cases hz:bl s with | nil=>exact absurd hz h0 | cons _ _=>rfl
    by_cases h1:(bl s).length ≤ 12
    · rw [if_pos (by simp only [decide_eq_true_eq];exact e.2 h1)];simp [h0',h1]
    · rw [if_neg (by simp only [decide_eq_true_eq];exact fun h=>h1 (e.1 h))];simp [h0',h1]
end Go.Cb
