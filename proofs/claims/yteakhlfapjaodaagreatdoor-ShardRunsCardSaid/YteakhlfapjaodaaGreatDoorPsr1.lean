/- The plain laws. -/
import Derived.Test.YteakhlfapjaodaaGreatDoorKsr3
import Derived.Test.YteakhlfapjaodaaGreatDoorKsr1
import Derived.Test.YteakhlfapjaodaaGreatDoorKsr2
import Derived.Test.YteakhlfapjaodaaGreatDoorKsr4
import Derived.Sort.Walk0
import Derived.ChangeKeysEq
set_option linter.unusedVariables false
set_option linter.unusedSimpArgs false
namespace Go.Cb
open Go.Proofs Go.RowKit
theorem w64{n:Int}(h:-9223372036854775808 ≤ n)(h':n ≤ 9223372036854775807):IntKind.i64.wrap n=n:=IntWalk.i64_in n ⟨h,h'⟩
theorem dQ{α:Type}{p:Prop} [Decidable p] (h:p) (f:Unit→Option α):(ck p).bind f=f ():=by simp [ck,h]
theorem cI{α:Type}{l:List α}{i:Nat}(h:i < l.length):idx l (i:Int)=some l[i]:=by simp [idx,h]
theorem Sk{α β:Type}{l:List α}{i:Nat}{x:α}(h:l[i]? =some x)(f:α→Option β):(idx l (i:Int)).bind f=f x:=by simp [idx,h]
def bl(s:ByteArray):List UInt8:=s.data.toList
theorem dl(s:ByteArray):s.data.toList=bl s:=rfl
theorem Oe{s:ByteArray}{i:Nat}(h:i < (bl s).length):idx s.data.toList (i:Int)=some (bl s)[i]:=cI h
def mk(l:List UInt8):ByteArray:=⟨l.toArray⟩
theorem eG(l:List UInt8):bl (mk l)=l:=rfl
theorem G6(s:ByteArray):mk (bl s)=s:=by cases s;simp [mk,bl]
theorem wM{s t:ByteArray}(h:bl s=bl t):s=t:=by rw [← G6 s,h,G6]
theorem wN(s t:ByteArray):bl (s ++ t)=bl s ++ bl t:=by simp [bl,ByteArray.data_append]
theorem cW(s:ByteArray):s.size=(bl s).length:=by simp [bl]
theorem tS(s:ByteArray)(i j:Nat):bl (s.extract i j)=((bl s).take j).drop i:=by
  unfold bl
  rw [ByteArray.data_extract]
  simp [Array.toList_extract,List.extract_eq_take_drop,List.drop_take]
theorem W6(x y:ByteArray):sEq x y=true ↔ x=y:=by
  unfold sEq
  rw [ByteArray.toList_eq,ByteArray.toList_eq,beq_iff_eq]
  constructor
  · intro h;cases x;cases y;simp at h;simp [h]
  · rintro rfl;rfl
theorem pC(x y:ByteArray):sEq x y=decide (bl x=bl y):=by
  rw [Bool.eq_iff_iff,W6]
  simp only [decide_eq_true_eq]
  exact ⟨fun h=>by rw [h],wM⟩
theorem W7(x y:ByteArray):sLt x y=decide (bl x < bl y):=by
  unfold sLt
  rw [Go.Proofs.bytesLess_eq,ByteArray.toList_eq,ByteArray.toList_eq]
  rfl

def N3(c:UInt8):Bool:=(decide (97 ≤ c.toNat) && decide (c.toNat ≤ 122)) || (decide (48 ≤ c.toNat) && decide (c.toNat ≤ 57)) || decide (c.toNat=45)
def dY(l:List UInt8):Bool:=!l.isEmpty && decide (l.length ≤ 12) && l.all N3
def letters:ByteArray:=⟨#[97,98,99,100,101,102,103,104,105,106,107,108,109,110,111,112,113,114,115,116,117,118,119,120,121,122,48,49,50,51,52,53,54,55,56,57,45]⟩
theorem Xb:∀ r:Fin 128,xP (r.val:Int)=some (!N3 (UInt8.ofNat r.val)):=by decide +kernel
theorem Xc:∀ (i:Fin 3) (c:Fin 128),ixB (letters.extract (i.val+2) 37) ((c.val:Int)+128)= -1:=by decide +kernel
theorem Pu:∀ i:Fin 37,((letters.data.toList[i.val]!).toNat < 128):=by decide +kernel
theorem Xd(x:Int)(h:128 ≤ x):∃ (n:Fin 3) (c:Fin 128),(Utf8.encode x).size=n.val+2∧(Utf8.encode x).data.toList[n.val+1]? =some (UInt8.ofNat (c.val+128)):=by
  unfold Utf8.encode
  generalize hc:(if Utf8.valid x=true then x.toNat else Utf8.runeError)=c
  have h128:128 ≤ c:=by
    rw [← hc];split
    · omega
    · decide
  simp only
  rw [if_neg (by omega)]
  split
  · exact ⟨0,⟨c % 64,by omega⟩,rfl,by simp [Nat.add_comm]⟩
  · split
    · exact ⟨1,⟨c % 64,by omega⟩,rfl,by simp [Nat.add_comm]⟩
    · exact ⟨2,⟨c % 64,by omega⟩,rfl,by simp [Nat.add_comm]⟩
theorem Un(r:Int)(h:128 ≤ r):xP r=some true:=by
  have key:qO letters r=some (-1):=by
    unfold qO nP
    rw [if_pos (by simp;omega),show decide (r < 128)=false from by simp;omega]
    simp only [Bool.false_eq_true,if_false]
    by_cases e:r=65533
    · subst e;kernel_rfl
    · rw [if_neg (by simp;exact e)]
      have hv:∃ b,lU r=some b:=by
        unfold lU iZ iY
        split <;> (try split) <;> (try split) <;> (try split) <;> exact ⟨_,rfl⟩
      obtain ⟨b,hb⟩:=hv
      rw [hb]
      simp only [Option.bind_some]
      split
      · rfl
      · obtain ⟨n,c,hs,hl⟩:=Xd r h
        have hn:=n.isLt
        have hcl:=c.isLt
        unfold rH
        have e1:IntKind.i64.wrap (((Utf8.encode r).size:Int) - 1)=((n.val+1:Nat):Int):=by rw [hs,w64 (by omega) (by omega)];omega
        rw [e1]
        have e2:(letters.size:Int)=37:=rfl
        rw [if_pos (by rw [e2];simp;omega)]
        have hll:n.val+1 < letters.data.toList.length:=by show n.val+1 < 37;omega
        rw [cI hll]
        simp only [Option.bind_some]
        rw [Sk hl]
        have e3:(UInt8.ofNat (c.val+128)).toNat=c.val+128:=by simp;omega
        rw [e3]
        have h7:=Pu ⟨n.val+1,by omega⟩
        rw [getElem!_pos letters.data.toList (n.val+1) hll] at h7
        rw [if_pos (by simp only [bne_iff_ne,ne_eq];omega)]
        have e4:IntKind.i64.wrap (((n.val+1:Nat):Int)+1)=((n.val+2:Nat):Int):=by rw [w64 (by omega) (by omega)];omega
        rw [e4,dQ (by rw [e2];omega),Sk hl,e3]
        have e5:iD (letters.extract ((n.val+2:Nat):Int).toNat letters.size) (((c.val+128:Nat)):Int)=some (-1):=by
          show some (ixB (letters.extract (n.val+2) 37) (((c.val+128:Nat)):Int))=_
          rw [show (((c.val+128:Nat)):Int)=(c.val:Int)+128 from by omega,Xc n c]
        rw [e5]
        rfl
  show (nQ letters r).bind _=_
  unfold nQ
  rw [key]
  rfl
theorem AL{s:ByteArray}{i:Nat}{c:UInt8}(h:(bl s)[i]? =some c)(hc:c.toNat < 128):Utf8.decode s i=(c.toNat,1):=by
  have hg:s.get! i=c:=by
    obtain ⟨hi,hx⟩:=List.getElem?_eq_some_iff.1 h
    cases s with | mk d=>
    show d[i]! =c
    rw [getElem!_pos d i (by simpa [bl] using hi)]
    exact hx
  unfold Utf8.decode
  simp only [Nat.add_zero,hg]
  rw [if_pos hc]
theorem Xe{s:ByteArray}{i:Nat}{c:UInt8}(h:(bl s)[i]? =some c)(hc:128 ≤ c.toNat):128 ≤ (Utf8.decode s i).1:=by
  have hg:s.get! i=c:=by
    obtain ⟨hi,hx⟩:=List.getElem?_eq_some_iff.1 h
    cases s with | mk d=>
    show d[i]! =c
    rw [getElem!_pos d i (by simpa [bl] using hi)]
    exact hx
  unfold Utf8.decode
  simp only [Nat.add_zero,hg]
  rw [if_neg (by omega)]
  have e:Utf8.runeError=65533:=rfl
  split
  · split
    · simp;omega
    · show 128 ≤ Utf8.runeError;rw [e];omega
  · split
    · split
      · rename_i h;simp at h;simp;omega
      · show 128 ≤ Utf8.runeError;rw [e];omega
    · split
      · split
        · rename_i h;simp at h;simp;omega
        · show 128 ≤ Utf8.runeError;rw [e];omega
      · show 128 ≤ Utf8.runeError;rw [e];omega
theorem Xf{c:UInt8}(h:128 ≤ c.toNat):N3 c=false:=by simp [N3];omega
theorem Uo(s:ByteArray):∀ (k i:Nat),i ≤ (bl s).length→(bl s).length+1 ≤ i+k→∃ v:Int,jS s true k i=some v∧(decide (v ≥ 0)= !((bl s).drop i).all N3)
  | 0,i,h0,h=>by omega
  | k+1,i,h0,h=>by
    unfold jS
    by_cases hi:i < (bl s).length
    · rw [if_pos (by rw [cW];simpa using hi)]
      have hx:(bl s)[i]? =some (bl s)[i]:=List.getElem?_eq_getElem hi
      have hd:(bl s).drop i=(bl s)[i]::(bl s).drop (i+1):=List.drop_eq_getElem_cons hi
      by_cases hc:((bl s)[i]).toNat < 128
      · rw [AL hx hc]
        have:=Xb ⟨_,hc⟩
        simp only at this
        rw [this]
        simp only [Option.bind_some,UInt8.ofNat_toNat]
        by_cases hl:N3 (bl s)[i]=true
        · rw [hl]
          simp only [Bool.not_true,Bool.false_beq,Bool.not_true,Bool.false_eq_true,if_false]
          obtain ⟨v,h1,h2⟩:=Uo s k (i+1) (by omega) (by omega)
          exact ⟨v,h1,by rw [h2,hd,List.all_cons,hl,Bool.true_and]⟩
        · simp only [Bool.not_eq_true] at hl
          rw [hl]
          exact ⟨_,rfl,by rw [hd,List.all_cons,hl];simp⟩
      · rw [Un _ (by have:=Xe hx (by omega);omega)]
        exact ⟨_,rfl,by rw [hd,List.all_cons,Xf (by omega)];simp⟩
    · rw [if_neg (by rw [cW];simpa using hi)]
      exact ⟨_,rfl,by rw [List.drop_eq_nil_of_le (by omega)];rfl⟩
theorem emp:bl (ByteArray.mk #[])= []:=rfl
theorem T1:bl (ByteArray.mk #[47])= [47]:=rfl
theorem Dp(s:ByteArray):vE s=some (dY (bl s)):=by
  unfold vE rI tW tV
  obtain ⟨v,h1,h2⟩:=Uo s (s.size+2) 0 (by omega) (by rw [cW];omega)
  rw [h1]
  simp only [Option.bind_some,h2,List.drop_zero,Bool.not_not,pC,emp]
  unfold dY
  have e:(s.size:Int) ≤ 12 ↔ (bl s).length ≤ 12:=by rw [cW];omega
  by_cases h0:bl s= []
  · rw [if_neg (by simp [h0])];simp [h0]
  · rw [if_pos (by simp [h0])]
    have h0':(bl s).isEmpty=false:=by cases hz:bl s with | nil=>exact absurd hz h0 | cons _ _=>rfl
    by_cases h1:(bl s).length ≤ 12
    · rw [if_pos (by simp only [decide_eq_true_eq];exact e.2 h1)];simp [h0',h1]
    · rw [if_neg (by simp only [decide_eq_true_eq];exact fun h=>h1 (e.1 h))];simp [h0',h1]
theorem Of(s:ByteArray)(hs:(bl s).length ≤ 100000000):∀ (k i:Nat),i ≤ (bl s).length→(bl s).length+1 ≤ i+k→dR s k (i:Int)=some (((bl s).drop i).all N3 && (decide (1 ≤ (bl s).length) && decide ((bl s).length ≤ 12)))
  | 0,i,h0,h=>by omega
  | k+1,i,h0,h=>by
    unfold dR
    by_cases hi:i < (bl s).length
    · rw [if_pos (by rw [cW];simp;simpa using hi),Oe hi]
      have hd:(bl s).drop i=(bl s)[i]::(bl s).drop (i+1):=List.drop_eq_getElem_cons hi
      have ih:=Of s hs k (i+1) (by omega) (by omega)
      have e1:IntKind.i64.wrap ((i:Int)+1)=((i+1:Nat):Int):=by rw [w64 (by omega) (by omega)];omega
      simp only [Option.bind_some]
      rw [hd,List.all_cons]
      generalize (bl s)[i]=c
      by_cases hl:N3 c=true
      · rw [hl,Bool.true_and,← ih,← e1]
        simp [N3] at hl
        unfold eM
        by_cases a1:c.toNat=45
        · rw [if_neg (by simp;omega)];rfl
        · rw [if_pos (by simp;omega)]
          by_cases a2:c.toNat < 97
          · rw [if_pos (by simp;omega),if_neg (by simp;omega),show decide ((c.toNat:Int) > 57)=false from by simp;omega];rfl
          · rw [if_neg (by simp;omega),if_neg (by simp;omega)];rfl
      · simp only [Bool.not_eq_true] at hl
        rw [hl,Bool.false_and]
        simp [N3] at hl
        unfold eM
        rw [if_pos (by simp;omega)]
        by_cases a2:c.toNat < 97
        · rw [if_pos (by simp;omega)]
          by_cases a3:c.toNat < 48
          · rw [if_pos (by simp;omega)];rfl
          · rw [if_neg (by simp;omega),show decide ((c.toNat:Int) > 57)=true from by simp;omega];rfl
        · rw [if_neg (by simp;omega),if_pos (by simp;omega),if_neg (by simp;omega),show decide ((c.toNat:Int) > 57)=true from by simp;omega];rfl
    · rw [if_neg (by rw [cW];simp;simpa using hi),List.drop_eq_nil_of_le (by omega),cW]
      simp only [List.all_nil,Bool.true_and]
      by_cases h1:1 ≤ (bl s).length
      · rw [if_pos (by simp only [decide_eq_true_eq];omega),decide_eq_true h1,Bool.true_and]
        congr 1
        rw [Bool.eq_iff_iff]
        simp only [decide_eq_true_eq]
        omega
      · rw [if_neg (by simp only [decide_eq_true_eq];omega),decide_eq_false h1];rfl
theorem Gm(s:ByteArray)(hs:(bl s).length ≤ 100000000):lZ s=some (dY (bl s)):=by
  unfold lZ
  have:=Of s hs (((s.size:Int) - 0:Int).toNat+1) 0 (by omega) (by rw [cW];omega)
  refine this.trans ?_
  unfold dY
  have:decide (1 ≤ (bl s).length)= !(bl s).isEmpty:=by cases bl s <;> simp
  rw [List.drop_zero,this,Bool.and_comm]
def fY:List UInt8→List (List UInt8)
  | []=>[[]]
  | c::r=>if c=47 then []::fY r else (c::(fY r).head!)::(fY r).tail
theorem c47{c:UInt8}(h:c ≠ 47):c.toNat ≠ 47:=fun e=>h (UInt8.toNat_inj.1 e)
theorem AM(r:List UInt8):fY (47::r)= []::fY r:=by rw [fY,if_pos rfl]
theorem Up{c:UInt8}(h:c ≠ 47)(r:List UInt8):fY (c::r)=(c::(fY r).head!)::(fY r).tail:=by rw [fY,if_neg h]
theorem Qp(l:List UInt8):fY l ≠ []:=by
  cases l with
  | nil=>simp [fY]
  | cons c r=>unfold fY;split <;> simp
/-- what lies ahead of the first '/', what lies behind. -/
theorem zV:∀ (l:List UInt8),47 ∉ l→fY l= [l]
  | [],_=>rfl
  | c::r,h=>by
    simp at h
    rw [Up (fun e=>h.1 e.symm),zV r h.2]
    rfl
theorem F7:∀ (a b:List UInt8),47 ∉ a→fY (a ++ 47::b)=a::fY b
  | [],b,_=>AM b
  | c::r,b,h=>by
    simp at h
    show fY (c::(r ++ 47::b))=_
    rw [Up (fun e=>h.1 e.symm),F7 r b h.2]
    rfl
theorem Og(l:List UInt8):47 ∉ l∨∃ a b,l=a ++ 47::b∧47 ∉ a:=by
  induction l with
  | nil=>exact .inl (by simp)
  | cons c r ih=>
    by_cases hc:c=47
    · exact .inr ⟨[],r,by rw [hc];rfl,by simp⟩
    · rcases ih with h | ⟨a,b,rfl,h⟩
      · exact .inl (by simp;exact ⟨fun e=>hc e.symm,h⟩)
      · exact .inr ⟨c::a,b,rfl,by simp;exact ⟨fun e=>hc e.symm,h⟩⟩
def hJ(ps:List (List UInt8)):List UInt8:=ps.flatMap (47::·)
def mZ(ps:List (List UInt8)):List UInt8:=if ps= [] then [47] else hJ ps
theorem Dq{l:List UInt8}(h:dY l=true):47 ∉ l:=by
  intro hm
  unfold dY at h
  simp at h
  have:=h.2 47 hm
  simp [N3] at this
theorem Ju{l:List UInt8}(h:dY l=true):l ≠ []:=by
  rintro rfl
  simp [dY] at h
theorem Oh:∀ (a:List UInt8) (ps:List (List UInt8)),47 ∉ a→(∀ p ∈ ps,47 ∉ p)→fY (a ++ hJ ps)=a::ps
  | a,[],h,_=>by simp [hJ,zV a h]
  | a,p::ps,h,hp=>by
    show fY (a ++ (47::(p ++ hJ ps)))=_
    rw [F7 a _ h,Oh p ps (hp p (by simp)) fun q hq=>hp q (by simp [hq])]
theorem Oi:∀ (n:Nat) (l:List UInt8),l.length ≤ n→hJ (fY l)=47::l
  | n,l,hn=>by
    rcases Og l with h | ⟨a,b,rfl,h⟩
    · rw [zV l h];simp [hJ]
    · simp at hn
      rw [F7 a b h]
      cases n with
      | zero=>omega
      | succ n=>
        have:=Oi n b (by omega)
        show (47::a) ++ hJ (fY b)=_
        rw [this];simp

def parts:List UInt8→Option (List (List UInt8))
  | []=>none
  | c::r=>if c=47 then (if r= [] then some [] else if (fY r).all dY=true∧(fY r).length ≤ 6 then some (fY r) else none) else none
theorem kC(p:List UInt8)(ps:List (List UInt8)):parts p=some ps ↔ p=mZ ps∧ps.all dY=true∧ps.length ≤ 6:=by
  constructor
  · intro h
    cases p with
    | nil=>cases h
    | cons c r=>
      rw [parts] at h
      by_cases hc:c=47
      · subst hc
        rw [if_pos rfl] at h
        by_cases hr:r= []
        · rw [if_pos hr] at h
          cases h
          subst hr
          exact ⟨rfl,rfl,by simp⟩
        · rw [if_neg hr] at h
          by_cases h2:(fY r).all dY=true∧(fY r).length ≤ 6
          · rw [if_pos h2] at h
            cases h
            refine ⟨?_,h2.1,h2.2⟩
            unfold mZ
            rw [if_neg (Qp r),Oi _ r (Nat.le_refl _)]
          · rw [if_neg h2] at h;cases h
      · rw [if_neg hc] at h;cases h
  · rintro ⟨rfl,h1,h2⟩
    cases ps with
    | nil=>rfl
    | cons t ts=>
      have h1':∀ q ∈ t::ts,dY q=true:=by simpa using h1
      have ht:fY (t ++ hJ ts)=t::ts:=Oh t ts (Dq (h1' t (by simp))) fun q hq=>Dq (h1' q (by simp [hq]))
      have hne:t ++ hJ ts ≠ []:=by
        intro e
        exact Ju (h1' t (by simp)) (List.append_eq_nil_iff.1 e).1
      rw [show mZ (t::ts)=47::(t ++ hJ ts) from rfl,parts,if_pos rfl,if_neg hne,ht,if_pos ⟨h1,h2⟩]
def spl(p:ByteArray):List ByteArray×Bool:=match parts (bl p) with
  | some ps=>(ps.map mk,true)
  | none=>([],false)

theorem EX(s:ByteArray):iE s (ByteArray.mk #[47])=some (match bl s with | []=>(s,false) | c::r=>if c=47 then (mk r,true) else (s,false)):=by
  unfold iE gF gE
  have e1:((ByteArray.mk #[47]).size:Int)=1:=rfl
  rw [e1]
  have hs:=cW s
  cases hb:bl s with
  | nil=>
    rw [hb] at hs
    rw [if_neg (by rw [hs];simp)]
    rfl
  | cons c r=>
    rw [hb] at hs
    simp at hs
    rw [if_pos (by rw [hs];simp only [decide_eq_true_eq];omega),dQ (by rw [hs];omega)]
    have e2:bl (s.extract 0 (1:Int).toNat)= [c]:=by rw [tS,hb];rfl
    simp only [Option.bind_some]
    rw [pC,e2,T1]
    by_cases hc:c=47
    · subst hc
      rw [if_neg (by simp),dQ (by rw [hs];omega)]
      have e3:s.extract (1:Int).toNat s.size=mk r:=by
        apply wM
        rw [tS,hb,eG,hs]
        simp
      simp only [Option.bind_some,e3]
      rfl
    · rw [if_pos (by simp;exact hc)]
      simp only [Option.bind_some]
      rw [if_neg hc]
theorem Xg{s:ByteArray}(h:47 ∉ bl s):iD s 47=some (-1):=by
  show some (ixB s 47)=_
  congr 1
  unfold ixB
  have:(List.range s.size).find? (fun i=>s[i]! == (47:Int).toNat.toUInt8)=none:=by
    rw [List.find?_eq_none]
    intro i hi
    simp only [List.mem_range] at hi
    intro hx
    apply h
    have hi':i < (bl s).length:=by rw [← cW];exact hi
    have hx:s[i]! =47:=by simpa using hx
    rw [getElem!_pos s i hi] at hx
    have:(bl s)[i]=47:=hx
    rw [← this]
    exact List.getElem_mem _
  rw [this]
theorem Xh{s:ByteArray}{a b:List UInt8}(hs:bl s=a ++ 47::b)(h:47 ∉ a):iD s 47=some (a.length:Int):=by
  show some (ixB s 47)=_
  congr 1
  unfold ixB
  have hl:a.length < s.size:=by rw [cW,hs];simp
  have hat:∀ i (hi:i < s.size),s[i]! =(a ++ 47::b)[i]'(by rw [← hs,← cW];exact hi):=fun i hi=>by
    rw [getElem!_pos s i hi]
    have:(bl s)[i]'(by rw [← cW];exact hi)=(a ++ 47::b)[i]'(by rw [← hs,← cW];exact hi):=by simp only [hs]
    exact this
  have:(List.range s.size).find? (fun i=>s[i]! == (47:Int).toNat.toUInt8)=some a.length:=by
    rw [List.find?_range_eq_some]
    refine ⟨?_,List.mem_range.2 hl,fun j hj=>?_⟩
    · rw [hat _ hl];simp
    · rw [hat _ (by omega),List.getElem_append_left hj]
      simp
      intro e
      exact h (e ▸ List.getElem_mem _)
  rw [this]

theorem Gn:∀ (k:Nat) (s:ByteArray) (acc:List ByteArray),acc.length ≤ 6→(bl s).length+1 ≤ k→mY k s acc=some (match bl s with
    | []=>if acc= [] then ([],false) else (acc,true)
    | c::r=>if c=47 then (if (fY r).all dY=true∧acc.length+(fY r).length ≤ 6 then (acc ++ (fY r).map mk,true) else ([],false)) else ([],false))
  | 0,s,acc,_,h=>by omega
  | k+1,s,acc,ha,h=>by
    unfold mY
    rw [pC,emp]
    cases hb:bl s with
    | nil=>
      rw [if_neg (by simp)]
      cases acc with
      | nil=>rfl
      | cons x xs=>rw [if_pos (by simp),if_neg (by simp)]
    | cons c r=>
      rw [if_pos (by simp),EX s,hb]
      simp only [Option.bind_some]
      by_cases hc:c=47
      · subst hc
        simp only [if_true,Bool.not_true,Bool.false_eq_true,if_false]
        have htl:1 ≤ (fY r).length:=by have:=Qp r;cases h:fY r with | nil=>exact absurd h this | cons _ _=>simp
        by_cases h6:acc.length=6
        · rw [if_pos (by simp;omega),if_neg (by rintro ⟨_,h⟩;omega)];rfl
        · rw [if_neg (by simp;omega)]
          have hrs:(mk r).size=r.length:=by rw [cW,eG]
          have hlen:(bl s).length=r.length+1:=by rw [hb];simp
          rcases Og r with hns | ⟨a,b,rfl,hns⟩
          · rw [Xg (by rw [eG];exact hns)]
            simp only [Option.bind_some]
            rw [if_pos (by decide)]
            unfold sE
            rw [hrs,dQ (by omega),Dp,tS,eG]
            simp only [Option.bind_some,Int.toNat_natCast,List.take_length,List.drop_zero]
            rw [zV r hns]
            cases hp:dY r
            · simp [hp,pN]
            · rw [if_neg (by simp),dQ (by omega),dQ (by simp [LIM];omega),dQ (by omega)]
              have e1:bl ((mk r).extract r.length r.length)= []:=by rw [tS,eG];simp
              rw [Gn k _ _ (by simp;omega) (by rw [e1];simp;omega),e1]
              have e2:(mk r).extract 0 r.length=mk r:=by apply wM;rw [tS,eG];simp
              simp only []
              rw [if_neg (by simp),if_pos ⟨by simp [hp],by simp;omega⟩,e2]
              rfl
          · rw [Xh (s:=mk (a ++ 47::b)) (a:=a) (b:=b) (eG _) hns]
            simp only [Option.bind_some]
            rw [if_neg (by simp)]
            unfold sE
            have hal:(a ++ 47::b).length=a.length+b.length+1:=by simp;omega
            rw [hrs,dQ (by omega),Dp,tS,eG]
            simp only [Option.bind_some,Int.toNat_natCast,List.drop_zero]
            rw [List.take_left,F7 a b hns]
            cases hp:dY a
            · simp [hp,pN]
            · rw [if_neg (by simp),dQ (by omega),dQ (by simp [LIM];omega),dQ (by omega)]
              have e1:bl ((mk (a ++ 47::b)).extract a.length (a ++ 47::b).length)=47::b:=by rw [tS,eG,List.take_length,List.drop_left]
              rw [Gn k _ _ (by simp;omega) (by rw [e1];simp;omega),e1]
              have e2:(mk (a ++ 47::b)).extract 0 a.length=mk a:=by apply wM;rw [tS,eG,List.take_left,eG];rfl
              simp only [if_true,e2,List.length_append,List.length_cons,List.length_nil,List.all_cons,hp,Bool.true_and,List.map_cons]
              by_cases hq:(fY b).all dY=true∧acc.length+1+(fY b).length ≤ 6
              · rw [if_pos (by exact hq),if_pos ⟨hq.1,by omega⟩];simp
              · rw [if_neg (by exact hq),if_neg (fun h=>hq ⟨h.1,by omega⟩)]
      · simp only [if_neg hc]
        rw [if_pos (by simp)]
        rfl
theorem Gp(s:ByteArray):wB s=some (spl s):=by
  unfold wB
  rw [pC,T1]
  by_cases h1:bl s= [47]
  · rw [if_pos (by simp [h1])]
    unfold spl
    rw [h1];rfl
  · rw [if_neg (by simp [h1]),Gn _ s [] (by simp) (by rw [cW];omega)]
    unfold spl
    cases hb:bl s with
    | nil=>rfl
    | cons c r=>
      simp only [parts,List.length_nil,Nat.zero_add,List.nil_append]
      by_cases hc:c=47
      · subst hc
        have hr:r ≠ []:=by rintro rfl;exact h1 hb
        rw [if_pos rfl,if_pos rfl,if_neg hr]
        by_cases hq:(fY r).all dY=true∧(fY r).length ≤ 6
        · rw [if_pos hq,if_pos hq]
        · rw [if_neg hq,if_neg hq]
      · rw [if_neg hc,if_neg hc]
theorem Cx(s:ByteArray)(hs:(bl s).length ≤ 100000000):∀ (k:Nat) (acc:List ByteArray) (f i:Nat) (a b:List UInt8),acc.length ≤ 6→f ≤ i→i ≤ (bl s).length→(bl s).length+2 ≤ i+k→(bl s).drop f=a ++ b→a.length=i - f→47 ∉ a→
    dF s k acc (f:Int) (i:Int)=some (if (fY (a ++ b)).all dY=true∧acc.length+(fY (a ++ b)).length ≤ 6 then (acc ++ (fY (a ++ b)).map mk,true) else ([],false))
  | 0,acc,f,i,a,b,_,_,_,h,_,_,_=>by omega
  | k+1,acc,f,i,a,b,ha,hfi,hil,h,hd,hal,hns=>by
    unfold dF
    rw [if_pos (by rw [cW];simp only [decide_eq_true_eq];omega)]
    have hbd:(bl s).drop i=b:=by
      have:(bl s).drop i=((bl s).drop f).drop (i - f):=by rw [List.drop_drop];congr 1;omega
      rw [this,hd,← hal,List.drop_left]
    have e1:IntKind.i64.wrap ((i:Int)+1)=((i+1:Nat):Int):=by rw [w64 (by omega) (by omega)];omega
    have hpart:bl (s.extract f i)=a:=by
      rw [tS,List.drop_take,hd,← hal,List.take_left]
    have hex:s.extract f i=mk a:=by apply wM;rw [hpart,eG]
    -- at the end of a part
    have fin:∀ (b':List UInt8),(b=47::b'∨(b= []∧i=(bl s).length))→jU (dF s k) (i:Int) (f:Int) s acc=some (if (fY (a ++ b)).all dY=true∧acc.length+(fY (a ++ b)).length ≤ 6 then (acc ++ (fY (a ++ b)).map mk,true) else ([],false)):=by
      intro b' hb
      unfold jU nV jT
      have c1:(0:Int) ≤ (f:Int)∧(f:Int) ≤ (i:Int)∧(i:Int) ≤ (s.size:Int):=by rw [cW];omega
      rw [dQ c1]
      simp only [Int.toNat_natCast]
      rw [Gm _ (by rw [hpart];omega),hpart]
      simp only [Option.bind_some]
      have htk:fY (a ++ b)=a::(if b= [] then [] else fY b')∧(b= []→i=(bl s).length):=by
        rcases hb with rfl | ⟨rfl,h2⟩
        · rw [F7 a b' hns,if_neg (by simp)];exact ⟨rfl,fun h=>by cases h⟩
        · rw [List.append_nil,zV a hns,if_pos rfl];exact ⟨rfl,fun _=>h2⟩
      cases hp:dY a
      · rw [if_pos (by simp),if_pos trivial,if_neg]
        rintro ⟨h,_⟩
        rw [htk.1] at h
        simp [hp] at h
      · rw [if_neg (by simp)]
        by_cases h6:acc.length=6
        · rw [if_pos (by simp;omega),if_neg]
          rintro ⟨_,h⟩
          rw [htk.1] at h
          simp at h;omega
        · rw [if_neg (by simp;omega),dQ c1,dQ (by simp [LIM];omega),e1]
          rw [hex]
          rcases hb with rfl | ⟨rfl,h2⟩
          · have hil2:i < (bl s).length:=by
              have:=congrArg List.length hbd
              simp at this;omega
            have hd2:(bl s).drop (i+1)= [] ++ b':=by
              rw [← List.drop_drop,hbd];rfl
            rw [Cx s hs k (acc ++ [mk a]) (i+1) (i+1) [] b' (by simp;omega) (Nat.le_refl _) (by omega) (by omega) hd2 (by simp) (by simp)]
            rw [F7 a b' hns]
            simp only [List.nil_append,List.length_append,List.length_cons,List.length_nil,List.all_cons,hp,Bool.true_and,List.map_cons]
            by_cases hq:(fY b').all dY=true∧acc.length+1+(fY b').length ≤ 6
            · rw [if_pos (by exact hq),if_pos ⟨hq.1,by omega⟩];simp
            · rw [if_neg (by exact hq),if_neg (fun h=>hq ⟨h.1,by omega⟩)]
          · rw [htk.1,if_pos rfl,if_pos ⟨by simp [hp],by simp;omega⟩]
            cases k with
            | zero=>omega
            | succ k=>
              unfold dF
              rw [if_neg (by rw [cW];simp only [decide_eq_true_eq];omega)]
              rfl
    by_cases hi:i < (bl s).length
    · rw [if_pos (by rw [cW];simp only [decide_eq_true_eq];omega),Oe hi]
      simp only [Option.bind_some]
      have hb:b=(bl s)[i]::(bl s).drop (i+1):=by rw [← hbd];exact List.drop_eq_getElem_cons hi
      generalize (bl s)[i]=c at hb
      by_cases hc:c=47
      · subst hc
        rw [if_neg (by decide)]
        exact fin _ (.inl hb)
      · rw [if_pos (by have:=c47 hc;simp only [bne_iff_ne,ne_eq];omega)]
        unfold jT
        rw [e1,Cx s hs k acc f (i+1) (a ++ [c]) ((bl s).drop (i+1)) ha (by omega) (by omega) (by omega) (by rw [hd,hb];simp) (by simp;omega) (by simp;exact ⟨hns,fun e=>hc e.symm⟩)]
        rw [hb]
        simp only [List.append_assoc,List.singleton_append]
    · rw [if_neg (by rw [cW];simp only [decide_eq_true_eq];omega)]
      have hb:b= []:=by rw [← hbd,List.drop_eq_nil_of_le (by omega)]
      exact fin [] (.inr ⟨hb,by omega⟩)
theorem P7(s:ByteArray)(hs:(bl s).length ≤ 100000000):iH s=some (spl s):=by
  unfold iH nW
  rw [pC,pC,T1,emp]
  by_cases h1:bl s= [47]
  · rw [if_pos (by simp [h1])]
    unfold spl
    rw [h1];rfl
  · rw [if_neg (by simp [h1])]
    unfold spl
    cases hb:bl s with
    | nil=>rw [if_pos (by simp)];rfl
    | cons c r=>
      have hl:(bl s).length=r.length+1:=by rw [hb];simp
      rw [if_neg (by simp),show (0:Int)=((0:Nat):Int) from rfl,Sk (x:=c) (by rw [dl,hb];rfl)]
      simp only [parts]
      by_cases hc:c=47
      · subst hc
        have hr:r ≠ []:=by rintro rfl;exact h1 hb
        rw [if_neg (by decide),if_pos rfl,if_neg hr]
        have:=Cx s hs (((s.size:Int) - 1:Int).toNat+2) [] 1 1 [] r (by simp) (Nat.le_refl _) (by rw [hl];omega) (by have:=cW s;omega) (by rw [hb];rfl) (by simp) (by simp)
        rw [show (1:Int)=((1:Nat):Int) from rfl]
        refine this.trans ?_
        simp only [List.nil_append,List.length_nil,Nat.zero_add]
        by_cases hq:(fY r).all dY=true∧(fY r).length ≤ 6
        · rw [if_pos hq,if_pos hq]
        · rw [if_neg hq,if_neg hq]
      · have hb:((c.toNat:Int) != 47)=true:=by have:=c47 hc;simp only [bne_iff_ne,ne_eq];omega
        rw [hb,if_pos rfl,if_neg hc]
def gT(p:List UInt8):Option (List UInt8):=match parts p with
  | some ps=>if ps= [] then none else some (mZ ps.dropLast)
  | none=>none
def tB(p:List UInt8):List UInt8:=match parts p with
  | some ps=>ps.getLast?.getD []
  | none=>[]
def os2(o:Option (List UInt8)):ByteArray×Bool:=match o with
  | some q=>(mk q,true)
  | none=>(mk [],false)
theorem Jv(ps qs:List (List UInt8)):hJ (ps ++ qs)=hJ ps ++ hJ qs:=by simp [hJ]
theorem B5{p:List UInt8}{ps:List (List UInt8)}(h:parts p=some ps):p.length ≤ 78:=by
  obtain ⟨rfl,h1,h2⟩:=(kC p ps).1 h
  have key:∀ qs:List (List UInt8),qs.all dY=true→(hJ qs).length ≤ 13 * qs.length:=by
    intro qs
    induction qs with
    | nil=>intro _;simp [hJ]
    | cons t ts ih=>
      intro h
      simp at h
      have h3:t.length ≤ 12:=by have:=h.1;simp [dY] at this;exact this.1.2
      have h4:=ih (by simpa using h.2)
      show (47::(t ++ hJ ts)).length ≤ _
      simp;omega
  unfold mZ
  split
  · simp
  · have:=key ps h1;omega
theorem Qq(s:ByteArray)(a b:List UInt8)(hs:bl s=a ++ 47::b)(hb:47 ∉ b)(hl:(bl s).length ≤ 1000):∀ (k i:Nat),i < (bl s).length→a.length ≤ i→i+1 ≤ k→dL s k 47 (i:Int)=some (a.length:Int)
  | 0,i,_,_,h=>by omega
  | k+1,i,hi,hai,h=>by
    unfold dL
    rw [if_pos (by simp),Oe hi]
    simp only [Option.bind_some]
    by_cases e:i=a.length
    · have:(bl s)[i]=47:=by subst e;simp [hs]
      rw [this,if_pos (by decide),e]
    · have hne:(bl s)[i] ≠ 47:=by
        have h2:(bl s)[i]? =b[i - a.length - 1]? :=by
          rw [hs,List.getElem?_append_right hai,show i - a.length=(i - a.length - 1)+1 from by omega,List.getElem?_cons_succ]
          rfl
        rw [List.getElem?_eq_getElem hi] at h2
        intro e2
        rw [e2] at h2
        exact hb (List.mem_of_getElem? h2.symm)
      rw [if_neg (by have:=c47 hne;simp only [beq_iff_eq];omega),show IntKind.i64.wrap ((i:Int) - 1)=((i - 1:Nat):Int) from by rw [w64 (by omega) (by omega)];omega]
      exact Qq s a b hs hb hl k (i - 1) (by omega) (by omega) (by omega)
theorem Uq(s:ByteArray):p9 s=some (match parts (bl s) with
    | some ps=>if ps= [] then (mk [],mk [],false) else (mk (mZ ps.dropLast),mk (ps.getLast?.getD []),true)
    | none=>(mk [],mk [],false)):=by
  unfold p9 dX
  rw [Gp]
  simp only [Option.bind_some]
  unfold spl
  cases hp:parts (bl s) with
  | none=>simp only [Bool.not_false,if_true];rfl
  | some ps=>
    simp only [Bool.not_true,Bool.false_eq_true,if_false]
    obtain ⟨h0,h1,h2⟩:=(kC _ ps).1 hp
    rw [pC,T1]
    rcases List.eq_nil_or_concat ps with rfl | ⟨qs,t,rfl⟩
    · have:bl s= [47]:=h0
      rw [this];rfl
    · rw [List.concat_eq_append] at *
      have ht:dY t=true:=by simp at h1;exact h1.2
      have hb:bl s=hJ qs ++ 47::t:=by rw [h0];unfold mZ;rw [if_neg (by simp),Jv];simp [hJ]
      have hne:bl s ≠ [47]:=by
        rw [hb]
        intro e
        have:=congrArg List.length e
        have:=List.length_pos_iff.2 (Ju ht)
        simp at *
        omega
      have hl:=B5 hp
      rw [decide_eq_false hne]
      unfold xQ qF gH
      have hsz:=cW s
      have hlen:(bl s).length=(hJ qs).length+t.length+1:=by rw [hb];simp;omega
      have e1:IntKind.i64.wrap ((s.size:Int) - 1)=(((bl s).length - 1:Nat):Int):=by rw [hsz,w64 (by omega) (by omega)];omega
      rw [e1,Qq s (hJ qs) t hb (Dq ht) (by omega) _ _ (by omega) (by omega) (by omega)]
      simp only [Option.bind_some,Bool.false_eq_true,if_false]
      have e2:IntKind.i64.wrap (((hJ qs).length:Int)+1)=(((hJ qs).length+1:Nat):Int):=by rw [w64 (by omega) (by omega)];omega
      rw [e2,dQ (by omega),dQ (by omega)]
      rw [if_neg (by simp)]
      congr 1
      have e3:(s.extract 0 (max ((hJ qs).length:Int) 1).toNat)=mk (mZ (qs ++ [t]).dropLast):=by
        apply wM
        rw [tS,eG,hb,List.drop_zero,List.dropLast_concat]
        unfold mZ
        cases qs with
        | nil=>rfl
        | cons q qs=>
          rw [if_neg (by simp)]
          have:(max ((hJ (q::qs)).length:Int) 1).toNat=(hJ (q::qs)).length:=by
            have:1 ≤ (hJ (q::qs)).length:=by simp [hJ]
            omega
          rw [this,List.take_left]
      have e4:(s.extract (((hJ qs).length+1:Nat):Int).toNat s.size)=mk ((qs ++ [t]).getLast?.getD []):=by
        apply wM
        rw [tS,eG,hsz,List.take_length,hb,Int.toNat_natCast,show hJ qs ++ 47::t=(hJ qs ++ [47]) ++ t from by simp,show (hJ qs).length+1=(hJ qs ++ [47]).length from by simp,List.drop_left]
        simp
      rw [e3,e4]
theorem Cy(s:ByteArray):qD s=some (os2 (gT (bl s))):=by
  unfold qD gT
  rw [Uq]
  cases parts (bl s) with
  | none=>rfl
  | some ps=>
    simp only [Option.bind_some]
    by_cases h:ps= []
    · rw [if_pos h,if_pos h];rfl
    · rw [if_neg h,if_neg h];rfl
theorem Jw(s:ByteArray):vI s=some (mk (tB (bl s))):=by
  unfold vI tB
  rw [Uq]
  cases parts (bl s) with
  | none=>rfl
  | some ps=>
    simp only [Option.bind_some]
    by_cases h:ps= []
    · rw [if_pos h,h];rfl
    · rw [if_neg h]
def y1(p s:List UInt8):Option (List UInt8):=match parts p with
  | some ps=>if dY s=true∧ps.length < 6 then some (mZ (ps ++ [s])) else none
  | none=>none
theorem AN(s:ByteArray)(x:List UInt8)(c:UInt8)(hc:c ≠ 47)(hs:bl s=x ++ [c])(hl:(bl s).length ≤ 1000):eS s (ByteArray.mk #[47])=some s:=by
  unfold eS iR jK
  have e0:((ByteArray.mk #[47]).size:Int)=1:=rfl
  have hsz:=cW s
  have hlen:(bl s).length=x.length+1:=by rw [hs];simp
  have e1:IntKind.i64.wrap ((s.size:Int) - 1)=((x.length:Nat):Int):=by rw [w64 (by omega) (by omega)];omega
  rw [e0,e1,if_pos (by simp only [decide_eq_true_eq];omega),dQ (by omega)]
  simp only [Option.bind_some,Int.toNat_natCast]
  rw [pC,tS,hsz,List.take_length,hs,List.drop_left,T1,if_neg (by simp;exact hc)]
  rfl
theorem Ur(s:ByteArray)(hs:bl s= [47]):eS s (ByteArray.mk #[47])=some (mk []):=by
  have:s=mk [47]:=by apply wM;rw [hs,eG]
  subst this
  show eS (mk [47]) (ByteArray.mk #[47])=some (mk [])
  kernel_rfl
theorem Us{s:ByteArray}{ps:List (List UInt8)}(hp:parts (bl s)=some ps):∃ t,eS s (ByteArray.mk #[47])=some t∧bl t=hJ ps:=by
  obtain ⟨h0,h1,h2⟩:=(kC _ ps).1 hp
  rcases List.eq_nil_or_concat ps with rfl | ⟨qs,t,rfl⟩
  · exact ⟨_,Ur s h0,rfl⟩
  · rw [List.concat_eq_append] at *
    have ht:dY t=true:=by simp at h1;exact h1.2
    rcases List.eq_nil_or_concat t with rfl | ⟨u,c,rfl⟩
    · exact absurd rfl (Ju ht)
    · rw [List.concat_eq_append] at *
      have hb:bl s=(hJ qs ++ 47::u) ++ [c]:=by rw [h0];unfold mZ;rw [if_neg (by simp),Jv];simp [hJ]
      refine ⟨s,AN s _ c ?_ hb (by have:=B5 hp;omega),?_⟩
      · intro e
        exact Dq ht (by simp [e])
      · rw [h0];unfold mZ;rw [if_neg (by simp)]
theorem Jx(p s:ByteArray)(hs:(bl s).length ≤ 100000000):yB p s=some (os2 (y1 (bl p) (bl s))):=by
  unfold yB tC y1
  rw [Gp]
  simp only [Option.bind_some]
  unfold spl
  cases hp:parts (bl p) with
  | none=>simp only [Bool.not_false,if_true];rfl
  | some ps=>
    obtain ⟨t,ht,hb⟩:=Us hp
    have hl:=B5 hp
    have h6:=((kC _ _).1 hp).2.2
    simp only [Bool.not_true,Bool.false_eq_true,if_false]
    rw [Dp]
    simp only [Option.bind_some]
    cases hs':dY (bl s) with
    | false=>rw [if_pos (by simp),if_pos trivial,if_neg (by simp)];rfl
    | true=>
      simp only [Bool.not_true,Bool.false_eq_true,if_false]
      by_cases h:ps.length=6
      · rw [if_pos (by simp;omega),if_neg (by omega)];rfl
      · rw [if_neg (by simp;omega),if_pos (by refine ⟨trivial,?_⟩;omega),ht]
        have hcl:(hJ ps).length ≤ 1000:=by
          have:=((kC _ _).1 hp).1
          unfold mZ at this
          split at this
          · rename_i e;subst e;simp [hJ]
          · rw [← this];omega
        have z1:t.size=(hJ ps).length:=by rw [cW,hb]
        have z2:(ByteArray.mk #[47]).size=1:=rfl
        have z3:(t ++ ByteArray.mk #[47]).size=(hJ ps).length+1:=by rw [cW,wN,hb,T1];simp
        have z4:=cW s
        simp only [Option.bind_some]
        rw [dQ (by omega),dQ (by omega)]
        show some (_,true)=some (mk _,true)
        congr 2
        apply wM
        rw [wN,wN,hb,T1,eG]
        unfold mZ
        rw [if_neg (by simp),Jv]
        simp [hJ]
def mV(n:Nat):List UInt8:=[UInt8.ofNat (48+n / 1000 % 10),UInt8.ofNat (48+n / 100 % 10),UInt8.ofNat (48+n / 10 % 10),UInt8.ofNat (48+n % 10)]
theorem Xi(n:Nat)(h:n ≤ 9999):Lib.itoa (10000+(n:Int))=49::mV n:=by
  unfold Lib.itoa
  rw [if_neg (by omega),show (10000+(n:Int)).toNat=10000+n from by omega]
  have st:∀ u:Nat,¬ u < 10→Lib.decDigits u=Lib.decDigits (u / 10) ++ [UInt8.ofNat (48+u % 10)]:=fun u hu=>by rw [Lib.decDigits,dif_neg hu]
  rw [st _ (by omega),st _ (by omega),st _ (by omega),st _ (by omega),Lib.decDigits,dif_pos (by omega)]
  have d1:(10000+n) / 10 / 10 / 10 / 10=1:=by omega
  have d2:(10000+n) / 10 / 10 / 10 % 10=n / 1000 % 10:=by omega
  have d3:(10000+n) / 10 / 10 % 10=n / 100 % 10:=by omega
  have d4:(10000+n) / 10 % 10=n / 10 % 10:=by omega
  have d5:(10000+n) % 10=n % 10:=by omega
  rw [d1,d2,d3,d4,d5]
  rfl
def T2(s:List UInt8)(n:Int):Option (List UInt8):=if 0 ≤ n∧n ≤ 9999∧dY (s ++ mV n.toNat)=true then some (s ++ mV n.toNat) else none
theorem Pv(s:ByteArray)(n:Int)(hs:(bl s).length ≤ 100000000):uU s n=some (os2 (T2 (bl s) n)):=by
  unfold uU rT T2
  by_cases h0:n < 0
  · rw [if_pos (by simpa using h0),if_pos rfl,if_neg (by omega)];rfl
  · rw [if_neg (by simpa using h0)]
    by_cases h1:n > 9999
    · rw [if_pos (by simpa using h1),if_neg (by omega)];rfl
    · rw [if_neg (by simpa using h1)]
      obtain ⟨m,rfl⟩:∃ m:Nat,n=(m:Int):=⟨n.toNat,by omega⟩
      have e1:IntKind.i64.wrap (10000+(m:Int))=10000+(m:Int):=w64 (by omega) (by omega)
      have e2:ByteArray.mk (Lib.itoa (10000+(m:Int))).toArray=mk (49::mV m):=by rw [Xi m (by omega)];rfl
      rw [e1,dQ (by omega),e2]
      have z1:(mk (49::mV m)).size=5:=rfl
      rw [z1,dQ (by decide)]
      have e3:bl ((mk (49::mV m)).extract (1:Int).toNat 5)=mV m:=by rw [tS,eG];rfl
      have z2:((mk (49::mV m)).extract (1:Int).toNat 5).size=4:=by rw [cW,e3];rfl
      have z3:=cW s
      rw [z2,dQ (by omega),Dp,wN,e3]
      simp only [Option.bind_some,Int.toNat_natCast]
      have e4:s ++ (mk (49::mV m)).extract (1:Int).toNat 5=mk (bl s ++ mV m):=by apply wM;rw [wN,e3,eG]
      cases hp:dY (bl s ++ mV m) with
      | false=>rw [if_pos (by rfl),if_neg (by simp)];rfl
      | true=>rw [if_neg (by simp),if_pos ⟨by omega,by omega,rfl⟩,e4];rfl
theorem Qr(l:List ByteArray)(hl:l.length ≤ 6)(hp:∀ x ∈ l,(bl x).length ≤ 12):∀ (k i:Nat) (s:ByteArray),i ≤ l.length→l.length+1 ≤ i+k→(bl s).length ≤ 13 * i→lH l k s (i:Int)=some (mk (bl s ++ hJ ((l.drop i).map bl)))
  | 0,i,s,h0,h,_=>by omega
  | k+1,i,s,h0,h,hs=>by
    unfold lH
    by_cases hi:i < l.length
    · have z1:=cW s
      have z2:(ByteArray.mk #[47]).size=1:=rfl
      have z3:(s ++ ByteArray.mk #[47]).size=(bl s).length+1:=by rw [cW,wN,T1];simp
      have z4:=cW l[i]
      have z5:=hp l[i] (List.getElem_mem _)
      rw [if_pos (by simpa using hi),dQ (by omega),cI hi]
      simp only [Option.bind_some]
      rw [dQ (by omega),show IntKind.i64.wrap ((i:Int)+1)=((i+1:Nat):Int) from by rw [w64 (by omega) (by omega)];omega]
      rw [Qr l hl hp k (i+1) _ (by omega) (by omega) (by rw [wN,wN,T1];simp;omega),wN,wN,T1,List.drop_eq_getElem_cons hi,List.map_cons]
      simp only [hJ,List.flatMap_cons,List.append_assoc,List.singleton_append,List.cons_append,List.nil_append]
    · rw [if_neg (by simpa using hi),List.drop_eq_nil_of_le (by omega)]
      simp [hJ,G6]
theorem Oj(l:List (List UInt8))(hl:l.length ≤ 6)(hp:∀ x ∈ l,x.length ≤ 12):oW (l.map mk)=some (mk (mZ l)):=by
  unfold oW mZ
  by_cases h:l= []
  · subst h;rfl
  · have hlen:l.length ≠ 0:=fun e=>h (List.length_eq_zero_iff.1 e)
    rw [if_neg (by simp;exact h),if_neg h]
    have:=Qr (l.map mk) (by simpa using hl) (by simpa [eG] using hp) ((((l.map mk).length:Int) - 0:Int).toNat+1) 0 (ByteArray.mk #[]) (by omega) (by omega) (by simp [emp])
    refine this.trans ?_
    rw [emp,List.drop_zero,List.map_map]
    congr 2
    simp
    rw [show bl ∘ mk=id from by funext x;rfl,List.map_id]
theorem W8{l:List UInt8}(h:dY l=true):l.length ≤ 12:=by simp [dY] at h;exact h.1.2
theorem L4(s:ByteArray)(hs:(bl s).length ≤ 100000000):hF s=some (os2 (gT (bl s))):=by
  unfold hF mS gT
  rw [P7 s hs]
  simp only [Option.bind_some]
  unfold spl
  cases hp:parts (bl s) with
  | none=>simp only [Bool.not_false,if_true];rfl
  | some ps=>
    obtain ⟨h0,h1,h2⟩:=(kC _ ps).1 hp
    simp only [Bool.not_true,Bool.false_eq_true,if_false,List.length_map]
    by_cases h:ps= []
    · subst h;rfl
    · have hlen:ps.length ≠ 0:=fun e=>h (List.length_eq_zero_iff.1 e)
      rw [if_neg (by simp;exact h),if_neg h,show IntKind.i64.wrap ((ps.length:Int) - 1)=((ps.length - 1:Nat):Int) from by rw [w64 (by omega) (by omega)];omega,dQ (by omega)]
      have h1':∀ q ∈ ps,dY q=true:=by simpa using h1
      rw [Int.toNat_natCast,← List.map_take,← List.dropLast_eq_take,Oj _ (by rw [List.length_dropLast];omega) fun x hx=>W8 (h1' x (List.dropLast_subset _ hx))]
      rfl
theorem Xj(p s:ByteArray)(hp':(bl p).length ≤ 100000000)(hs:(bl s).length ≤ 100000000):rY p s=some (os2 (y1 (bl p) (bl s))):=by
  unfold rY lI y1
  rw [P7 p hp']
  simp only [Option.bind_some]
  unfold spl
  cases hp:parts (bl p) with
  | none=>simp only [Bool.not_false,if_true];rfl
  | some ps=>
    obtain ⟨h0,h1,h2⟩:=(kC _ ps).1 hp
    have h1':∀ q ∈ ps,dY q=true:=by simpa using h1
    simp only [Bool.not_true,Bool.false_eq_true,if_false]
    rw [Gm s hs]
    simp only [Option.bind_some]
    cases hs':dY (bl s) with
    | false=>rw [if_pos (by simp),if_pos trivial,if_neg (by simp)];rfl
    | true=>
      simp only [Bool.not_true,Bool.false_eq_true,if_false,List.length_map]
      by_cases h:ps.length=6
      · rw [if_pos (by simp;omega),if_neg (by omega)];rfl
      · rw [if_neg (by simp;omega),if_pos (by refine ⟨trivial,?_⟩;omega),dQ (by simp [LIM];omega),dQ (by simp [LIM];omega)]
        have e:(([]:List ByteArray) ++ ps.map mk) ++ [s]=(ps ++ [bl s]).map mk:=by simp [G6]
        rw [e,Oj _ (by simp;omega) (by
          intro x hx
          simp at hx
          rcases hx with hx | rfl
          · exact W8 (h1' x hx)
          · exact W8 hs')]
        rfl
abbrev Nd:=aD
def key(x:Nd):List UInt8:=bl x.Path
theorem I7(a:List UInt8):¬ a < a:=List.lt_irrefl a
theorem tT{a b c:List UInt8}(h:a < b)(k:b < c):a < c:=List.lt_trans h k
theorem EY(a b:List UInt8):a < b∨a=b∨b < a:=by
  rcases Decidable.em (a < b) with h | h
  · exact .inl h
  · rcases Decidable.em (b < a) with k | k
    · exact .inr (.inr k)
    · exact .inr (.inl (List.le_antisymm (List.not_lt.1 k) (List.not_lt.1 h)))
theorem Ah{a b:List UInt8}(h:a < b):¬ b < a:=fun k=>I7 _ (tT h k)
theorem vW{a b:List UInt8}(h:a < b):a ≠ b:=fun e=>I7 b (e ▸ h)
theorem Ok(a:List UInt8){b c:List UInt8}(h:b < c):a ++ b < a ++ c:=by
  induction a with
  | nil=>exact h
  | cons x a ih=>exact List.Lex.cons ih
theorem Ut(a:List UInt8){b:List UInt8}(h:b ≠ []):a < a ++ b:=by
  have:=Ok a (b:=[]) (c:=b) (by cases b with | nil=>exact absurd rfl h | cons x b=>exact List.Lex.nil)
  simpa using this
theorem Uu(s t:ByteArray):Extern.BytealgCompare.cmp s t=if bl s < bl t then -1 else if bl s=bl t then 0 else 1:=by
  have hs:=cW s
  have ht:=cW t
  have hat:∀ (u:ByteArray) (i:Nat) (hi:i < (bl u).length),u[i]! =(bl u)[i]:=fun u i hi=>by
    rw [getElem!_pos u i (by rw [cW];exact hi)];rfl
  unfold Extern.BytealgCompare.cmp
  cases hf:(List.range (min s.size t.size)).find? (fun i=>s[i]! != t[i]!) with
  | some i=>
    rw [List.find?_range_eq_some] at hf
    obtain ⟨h1,h2,h3⟩:=hf
    rw [List.mem_range] at h2
    have hi1:i < (bl s).length:=by omega
    have hi2:i < (bl t).length:=by omega
    rw [hat s i hi1,hat t i hi2] at h1
    have hne:(bl s)[i] ≠ (bl t)[i]:=by simpa using h1
    have hpre:(bl s).take i=(bl t).take i:=by
      apply List.ext_getElem?
      intro j
      rw [List.getElem?_take,List.getElem?_take]
      by_cases hj:j < i
      · rw [if_pos hj,if_pos hj]
        have:=h3 j hj
        rw [hat s j (by omega),hat t j (by omega)] at this
        have:(bl s)[j]=(bl t)[j]:=by simpa using this
        rw [List.getElem?_eq_getElem (by omega),List.getElem?_eq_getElem (by omega),this]
      · rw [if_neg hj,if_neg hj]
    have es:bl s=(bl s).take i ++ (bl s)[i]::(bl s).drop (i+1):=by rw [← List.drop_eq_getElem_cons hi1,List.take_append_drop]
    have et:bl t=(bl s).take i ++ (bl t)[i]::(bl t).drop (i+1):=by rw [hpre,← List.drop_eq_getElem_cons hi2,List.take_append_drop]
    have heq:bl s ≠ bl t:=fun e=>hne (by simp only [e])
    simp only
    rw [hat s i hi1,hat t i hi2]
    rcases UInt8.lt_or_lt_of_ne hne with h | h
    · have:bl s < bl t:=by
        rw [es,et];exact Ok _ (List.Lex.rel h)
      rw [if_pos h,if_pos this]
    · have:bl t < bl s:=by
        rw [es,et];exact Ok _ (List.Lex.rel h)
      rw [if_neg (fun h'=>absurd (UInt8.lt_trans h h') (UInt8.lt_irrefl _)),if_neg (Ah this),if_neg heq]
  | none=>
    rw [List.find?_eq_none] at hf
    have hall:∀ j,j < (bl s).length→j < (bl t).length→(bl s)[j]? =(bl t)[j]? :=fun j h1 h2=>by
      have:=hf j (List.mem_range.2 (by omega))
      rw [hat s j h1,hat t j h2] at this
      have:(bl s)[j]=(bl t)[j]:=by simpa using this
      rw [List.getElem?_eq_getElem h1,List.getElem?_eq_getElem h2,this]
    simp only
    rw [hs,ht]
    by_cases h1:(bl s).length < (bl t).length
    · have e:bl t=bl s ++ (bl t).drop (bl s).length:=by
        conv=>lhs;rw [← List.take_append_drop (bl s).length (bl t)]
        congr 1
        apply List.ext_getElem?
        intro j
        rw [List.getElem?_take]
        by_cases hj:j < (bl s).length
        · rw [if_pos hj,hall j hj (by omega)]
        · rw [if_neg hj,List.getElem?_eq_none (by omega)]
      have:bl s < bl t:=by
        rw [e];exact Ut _ (by intro h;have:=congrArg List.length h;simp at this;omega)
      rw [if_pos h1,if_pos this]
    · rw [if_neg h1]
      by_cases h2:(bl s).length > (bl t).length
      · have e:bl s=bl t ++ (bl s).drop (bl t).length:=by
          conv=>lhs;rw [← List.take_append_drop (bl t).length (bl s)]
          congr 1
          apply List.ext_getElem?
          intro j
          rw [List.getElem?_take]
          by_cases hj:j < (bl t).length
          · rw [if_pos hj,hall j (by omega) hj]
          · rw [if_neg hj,List.getElem?_eq_none (by omega)]
        have:bl t < bl s:=by
          rw [e];exact Ut _ (by intro h;have:=congrArg List.length h;simp at this;omega)
        rw [if_pos h2,if_neg (Ah this),if_neg (fun e=>I7 _ (e ▸ this))]
      · have e:bl s=bl t:=by
          apply List.ext_getElem?
          intro j
          by_cases hj:j < (bl s).length
          · exact hall j hj (by omega)
          · rw [List.getElem?_eq_none (by omega),List.getElem?_eq_none (by omega)]
        rw [if_neg h2,e,if_neg (I7 _),if_pos rfl]
theorem EZ(n:Nat)(h:n < 2 ^ 40):IntKind.i64.wrap (wT .u64 (IntKind.u64.wrap (IntKind.i64.wrap (n:Int))) 1)=((n / 2:Nat):Int):=by
  rw [w64 (n:=(n:Int)) (by omega) (by omega),show IntKind.u64.wrap (n:Int)=(n:Int) from by unfold IntKind.wrap;simp [IntKind.bits,IntKind.signed];omega]
  unfold wT
  rw [show IntKind.u64.bits=64 from rfl,show min (1:Int).toNat 64=1 from rfl,Int.fdiv_eq_ediv_of_nonneg _ (by decide)]
  rw [w64 (by omega) (by omega)]
  omega
def zNd:Nd:=⟨mk [],mk [],0,0,0⟩
def isK(p:List UInt8)(x:Nd):Bool:=decide (key x=p)
def fnd(l:List Nd)(p:List UInt8):Nd×Bool:=match l.find? (isK p) with
  | some x=>(x,true)
  | none=>(zNd,false)
theorem A5{l:List Nd}{p:List UInt8}(h:l.find? (isK p)=none):fnd l p=(zNd,false):=by unfold fnd;rw [h]
theorem A6{l:List Nd}{p:List UInt8}{x:Nd}(h:l.find? (isK p)=some x):fnd l p=(x,true):=by unfold fnd;rw [h]
theorem HU{α:Type}(o:Option α):o=none∨∃ x,o=some x:=by cases o with | none=>exact .inl rfl | some x=>exact .inr ⟨x,rfl⟩
theorem Uv{l:List Nd}{i:Nat}(hi:i < l.length)(p:Nd→Bool):(l.drop i).find? p=if p l[i] then some l[i] else (l.drop (i+1)).find? p:=by
  rw [List.drop_eq_getElem_cons hi,List.find?_cons]
  cases p l[i] <;> rfl
theorem Ol(l:List Nd)(s:ByteArray)(hlen:l.length ≤ 1000000):∀ (k i:Nat),i ≤ l.length→l.length+1 ≤ i+k→lJ l s k (i:Int)=some (match (l.drop i).find? (isK (bl s)) with
    | some x=>(x,true)
    | none=>(zNd,false))
  | 0,i,_,h=>by omega
  | k+1,i,h0,h=>by
    unfold lJ
    by_cases hi:i < l.length
    · rw [if_pos (by simpa using hi),cI hi,Uv hi]
      simp only [Option.bind_some]
      rw [pC]
      by_cases e:key l[i]=bl s
      · rw [if_pos (by simpa [key] using e),if_pos (by simpa [isK] using e)]
      · rw [if_neg (by simpa [key] using e),if_neg (by simpa [isK] using e),show IntKind.i64.wrap ((i:Int)+1)=((i+1:Nat):Int) from by rw [w64 (by omega) (by omega)];omega]
        exact Ol l s hlen k (i+1) (by omega) (by omega)
    · rw [if_neg (by simpa using hi),List.drop_eq_nil_of_le (by omega)]
      rfl
theorem Om(l:List Nd)(s:ByteArray)(hlen:l.length ≤ 1000000):oX l s=some (fnd l (bl s)):=by
  unfold oX fnd
  exact Ol l s hlen _ 0 (by omega) (by omega)
def FA(x:Nd):Prop:=(bl x.Data).length ≤ 256∧0 ≤ x.Version∧x.Version ≤ 281474976710656∧0 ≤ x.Turn∧x.Turn ≤ 10000∧0 ≤ x.Owner∧x.Owner ≤ 1099511627776∧(x.Owner ≠ 0→x.Turn=0)
structure HW (l:List Nd):Prop where
  root:∃ r t,l=r::t∧key r= [47]∧r.Owner=0
  len:l.length ≤ 512
  ok:∀ x ∈ l,FA x
  sorted:l.Pairwise (key · < key ·)
  up:∀ x ∈ l,key x ≠ [47]→∃ q,gT (key x)=some q∧∃ u ∈ l,key u=q∧u.Owner=0
def Sm(l:List Nd):Prop:=∀ x ∈ l,(key x).length ≤ 100000000
theorem Ip{l:List Nd}(h:l.Pairwise (key · < key ·)){x y:Nd}(hx:x ∈ l)(hy:y ∈ l)(e:key x=key y):x=y:=by
  obtain ⟨i,hi,rfl⟩:=List.mem_iff_getElem.1 hx
  obtain ⟨j,hj,rfl⟩:=List.mem_iff_getElem.1 hy
  have h:=List.pairwise_iff_getElem.1 h
  rcases Nat.lt_trichotomy i j with c | c | c
  · exact absurd e (vW (h i j hi hj c))
  · subst c;rfl
  · exact absurd e.symm (vW (h j i hj hi c))
theorem On{l:List Nd}{p:List UInt8}{x:Nd}(h:l.find? (isK p)=some x):x ∈ l∧key x=p:=
  ⟨List.mem_of_find?_eq_some h,by have:=List.find?_some h;simpa [isK] using this⟩
theorem Xk{l:List Nd}(h:l.Pairwise (key · < key ·)){x:Nd}(hx:x ∈ l):l.find? (isK (key x))=some x:=by
  cases hf:l.find? (isK (key x)) with
  | none=>
    have:=List.find?_eq_none.1 hf x hx
    simp [isK] at this
  | some y=>
    have:=On hf
    rw [Ip h this.1 hx this.2]
theorem IA{l:List Nd}{p:List UInt8}:l.find? (isK p)=none ↔ ∀ x ∈ l,key x ≠ p:=by
  rw [List.find?_eq_none];simp [isK]
theorem Cz{p q:List UInt8}(h:gT p=some q):∃ ps t,parts p=some (ps ++ [t])∧q=mZ ps∧parts q=some ps:=by
  unfold gT at h
  cases hp:parts p with
  | none=>rw [hp] at h;cases h
  | some ps=>
    rw [hp] at h
    simp only at h
    split at h
    · cases h
    · rename_i hne
      cases h
      obtain ⟨h0,h1,h2⟩:=(kC _ ps).1 hp
      rcases List.eq_nil_or_concat ps with e | ⟨qs,t,rfl⟩
      · exact absurd e hne
      · rw [List.concat_eq_append] at *
        refine ⟨qs,t,rfl,by rw [List.dropLast_concat],?_⟩
        rw [List.dropLast_concat]
        exact (kC _ _).2 ⟨rfl,by simp at h1 ⊢;exact h1.1,by simp at h2;omega⟩
theorem HW.sm {l:List Nd} (T:HW l):Sm l:=fun x hx=>by
  by_cases h:key x= [47]
  · rw [h];decide
  · obtain ⟨q,hq,_⟩:=T.up x hx h
    obtain ⟨ps,t,h1,_⟩:=Cz hq
    have:=B5 h1;omega
abbrev Op1:=dH
def jD(p:List UInt8):Bool:=(parts p).isSome
abbrev Res:=bA
def res(e:Int):Res:=⟨e,mk [],mk [],0,[]⟩
def mD(p:List UInt8)(x:Nd):Bool:=decide (gT (key x)=some p)
theorem Oo{l:List Nd}(h:l.Pairwise (key · < key ·)){i:Nat}(hi:i < l.length):l.eraseIdx i=l.filter (fun y=>!isK (key l[i]) y):=by
  have hs:=List.pairwise_iff_getElem.1 h
  have e:l=l.take i ++ l[i]::l.drop (i+1):=by rw [← List.drop_eq_getElem_cons hi,List.take_append_drop]
  rw [List.eraseIdx_eq_take_drop_succ]
  obtain ⟨p,hp⟩:∃ p,p=key l[i]:=⟨_,rfl⟩
  rw [← hp]
  have e2:l.filter (fun y=>!isK p y)=(l.take i ++ l[i]::l.drop (i+1)).filter (fun y=>!isK p y):=by rw [← e]
  rw [e2,List.filter_append,List.filter_cons,if_neg (by simp [isK,hp])]
  congr 1
  · refine (List.filter_eq_self.2 fun y hy=>?_).symm
    obtain ⟨j,hj,rfl⟩:=List.mem_take_iff_getElem.1 hy
    have:=vW (hs j i (by omega) hi (by omega))
    simpa [isK,hp] using this
  · refine (List.filter_eq_self.2 fun y hy=>?_).symm
    obtain ⟨j,hj,rfl⟩:=List.mem_drop_iff_getElem.1 hy
    have:=vW (hs i (i+1+j) hi (by omega) (by omega))
    simpa [isK,hp] using this.symm
def upd(l:List Nd)(p:List UInt8)(f:Nd→Nd):List Nd:=l.map fun z=>if isK p z then f z else z
theorem AO{l:List Nd}(h:l.Pairwise (key · < key ·)){i:Nat}(hi:i < l.length)(f:Nd→Nd):l.set i (f l[i])=upd l (key l[i]) f:=by
  have hs:=List.pairwise_iff_getElem.1 h
  unfold upd
  apply List.ext_getElem (by simp)
  intro j h1 h2
  simp at h1
  rw [List.getElem_map,List.getElem_set]
  by_cases e:i=j
  · subst e;rw [if_pos rfl,if_pos (by simp [isK])]
  · rw [if_neg e,if_neg]
    rw [isK]
    simp only [decide_eq_true_eq]
    rcases Nat.lt_or_gt_of_ne e with c | c
    · exact (vW (hs i j hi h1 c)).symm
    · exact vW (hs j i h1 hi c)
def vX(x:Nd):ByteArray:=mk (tB (key x))
def sK(p:List UInt8)(w:Int)(x:Nd):Bool:=(x.Owner == w) && mD p x
theorem Ai{l:List Nd}{f:Nd→Bool}{i:Nat}(hi:i < l.length):(l.take (i+1)).filter f=(l.take i).filter f ++ if f l[i]=true then [l[i]] else []:=by
  rw [List.take_add_one,List.getElem?_eq_getElem hi,List.filter_append]
  congr 1
  simp [List.filter_cons]
def ltB(p:List UInt8)(y:Nd):Bool:=decide (key y < p)
def u9(x:Nd)(l:List Nd):List Nd:=l.filter (ltB (key x)) ++ x::l.filter (fun y=>!ltB (key x) y)
theorem AP(l:List Nd)(p:List UInt8)(f:Nd→Nd):(upd l p f).length=l.length:=by simp [upd]
theorem Qs{p:List UInt8}{f:Nd→Nd}(hf:∀ z,key (f z)=key z)(z:Nd):key (if isK p z then f z else z)=key z:=by split <;> simp [hf]
def s6(o:Op1)(q:List UInt8)(t:Int):Option (List UInt8):=if o.Turns=true then (T2 (tB (bl o.Path)) t).map (fun s=>(y1 q s).getD []) else some (bl o.Path)
theorem Jy{s:List UInt8}{n:Int}{t:List UInt8}(h:T2 s n=some t):dY t=true∧t=s ++ mV n.toNat∧0 ≤ n∧n ≤ 9999:=by
  unfold T2 at h
  split at h
  · rename_i h1
    cases h
    exact ⟨h1.2.2,rfl,h1.1,h1.2.1⟩
  · cases h
theorem Gq(p:List UInt8):(tB p).length ≤ 12:=by
  unfold tB
  cases hp:parts p with
  | none=>simp
  | some ps=>
    obtain ⟨h0,h1,h2⟩:=(kC _ ps).1 hp
    rcases List.eq_nil_or_concat ps with rfl | ⟨qs,t,rfl⟩
    · simp
    · rw [List.concat_eq_append] at *
      have ht:dY t=true:=by simp at h1;exact h1.2
      simpa using W8 ht
theorem IB{x y:Nd}{l:List Nd}:y ∈ u9 x l ↔ y=x∨y ∈ l:=by
  unfold u9
  rw [List.mem_append,List.mem_cons,List.mem_filter,List.mem_filter]
  constructor
  · rintro (h | h | h)
    · exact .inr h.1
    · exact .inl h
    · exact .inr h.1
  · rintro (h | h)
    · exact .inr (.inl h)
    · cases hc:ltB (key x) y with
      | true=>exact .inl ⟨h,rfl⟩
      | false=>exact .inr (.inr ⟨h,rfl⟩)
theorem Uw{α:Type}(l:List α)(f:α→Bool):(l.filter f).length+(l.filter (fun y=>!f y)).length=l.length:=by
  induction l with
  | nil=>rfl
  | cons x l ih=>
    rw [List.filter_cons,List.filter_cons]
    cases f x <;> simp <;> omega
theorem AQ(x:Nd)(l:List Nd):(u9 x l).length=l.length+1:=by
  unfold u9
  have:=Uw l (ltB (key x))
  rw [List.length_append,List.length_cons];omega
theorem IC{l:List Nd}{p:List UInt8}{f:Nd→Nd}{y:Nd}:y ∈ upd l p f ↔ ∃ z ∈ l,y=if isK p z then f z else z:=by
  unfold upd
  rw [List.mem_map]
  exact ⟨fun ⟨z,h1,h2⟩=>⟨z,h1,h2.symm⟩,fun ⟨z,h1,h2⟩=>⟨z,h1,h2.symm⟩⟩
theorem W9{p q:List UInt8}(h:gT p=some q):∃ ps t,parts p=some (ps ++ [t])∧q=mZ ps∧parts q=some ps∧tB p=t∧dY t=true∧ps.all dY=true∧ps.length ≤ 5:=by
  obtain ⟨ps,t,h1,h2,h3⟩:=Cz h
  obtain ⟨_,h5,h6⟩:=(kC _ _).1 h1
  refine ⟨ps,t,h1,h2,h3,?_,?_,?_,?_⟩
  · unfold tB;rw [h1];simp
  · simp at h5;exact h5.2
  · simp at h5 ⊢;exact h5.1
  · simp at h6;omega
theorem Ex{q:List UInt8}{ps:List (List UInt8)}(hq:parts q=some ps)(h5:ps.length ≤ 5){t:List UInt8}(ht:dY t=true):y1 q t=some (mZ (ps ++ [t]))∧gT (mZ (ps ++ [t]))=some q∧tB (mZ (ps ++ [t]))=t∧parts (mZ (ps ++ [t]))=some (ps ++ [t]):=by
  obtain ⟨h1,h2,h3⟩:=(kC _ _).1 hq
  have hp:parts (mZ (ps ++ [t]))=some (ps ++ [t]):=(kC _ _).2 ⟨rfl,by simp at h2 ⊢;exact ⟨h2,ht⟩,by simp;omega⟩
  refine ⟨?_,?_,?_,hp⟩
  · unfold y1;rw [hq];simp only;rw [if_pos ⟨ht,by omega⟩]
  · unfold gT;rw [hp];simp only;rw [if_neg (by simp),List.dropLast_concat,h1]
  · unfold tB;rw [hp];simp
/-- the path of what is created lies in the parent. -/
theorem Pw{o:Op1}{q p:List UInt8}(hq:gT (bl o.Path)=some q){t:Int}(hn:s6 o q t=some p):gT p=some q∧(o.Turns=true→0 ≤ t∧t ≤ 9999∧∃ ps,parts q=some ps∧p=mZ (ps ++ [tB (bl o.Path) ++ mV t.toNat])):=by
  unfold s6 at hn
  cases hT:o.Turns with
  | false=>
    rw [hT] at hn
    simp only [Bool.false_eq_true,if_false,Option.some.injEq] at hn
    subst hn
    exact ⟨hq,fun h=>by cases h⟩
  | true=>
    rw [hT] at hn
    simp only [if_true] at hn
    obtain ⟨s,hs,rfl⟩:=Option.map_eq_some_iff.1 hn
    obtain ⟨h1,h2,h3,h4⟩:=Jy hs
    obtain ⟨ps,t',_,_,h5,_,_,_,h6⟩:=W9 hq
    obtain ⟨j1,j2,_,_⟩:=Ex h5 h6 h1
    rw [j1]
    exact ⟨j2,fun _=>⟨h3,h4,ps,h5,by rw [h2];rfl⟩⟩
theorem lC{i:Nat}(h:i ≤ 4611686018427387904):IntKind.i64.wrap ((i:Int)+1)=((i+1:Nat):Int):=by rw [w64 (by omega) (by omega)];omega
theorem Gr(s:ByteArray)(hs:(bl s).length ≤ 100000000):mA s=some (mk (tB (bl s))):=by
  unfold mA oY tB
  rw [P7 s hs]
  simp only [Option.bind_some]
  unfold spl
  cases hp:parts (bl s) with
  | none=>rfl
  | some ps=>
    obtain ⟨h0,h1,h2⟩:=(kC _ ps).1 hp
    simp only [Bool.not_true,Bool.false_eq_true,if_false,List.length_map]
    rcases List.eq_nil_or_concat ps with rfl | ⟨qs,t,rfl⟩
    · rfl
    · rw [List.concat_eq_append] at *
      simp only [List.length_append,List.length_cons,List.length_nil] at *
      rw [if_neg (by simp;omega),show IntKind.i64.wrap (((qs.length+(0+1):Nat):Int) - 1)=((qs.length:Nat):Int) from by rw [w64 (by omega) (by omega)];omega,cI (by simp)]
      simp
theorem HV(n:Nat)(h:n ≤ 9999):Z2 [IntKind.u8.wrap (IntKind.i64.wrap (48+(IntKind.i64.wrap ((n:Int).tdiv 1000)))),IntKind.u8.wrap (IntKind.i64.wrap (48+((IntKind.i64.wrap ((n:Int).tdiv 100)).tmod 10))),IntKind.u8.wrap (IntKind.i64.wrap (48+((IntKind.i64.wrap ((n:Int).tdiv 10)).tmod 10))),IntKind.u8.wrap (IntKind.i64.wrap (48+((n:Int).tmod 10)))]=mk (mV n):=by
  have e1:(n:Int).tdiv 1000=((n / 1000:Nat):Int):=by rw [Int.tdiv_eq_ediv_of_nonneg (by omega)];rfl
  have e2:(n:Int).tdiv 100=((n / 100:Nat):Int):=by rw [Int.tdiv_eq_ediv_of_nonneg (by omega)];rfl
  have e3:(n:Int).tdiv 10=((n / 10:Nat):Int):=by rw [Int.tdiv_eq_ediv_of_nonneg (by omega)];rfl
  have m:∀ k:Nat,(k:Int).tmod 10=((k % 10:Nat):Int):=fun k=>by rw [Int.tmod_eq_emod_of_nonneg (by omega)];rfl
  have u:∀ k:Nat,k ≤ 200→IntKind.u8.wrap (k:Int)=k:=fun k hk=>by
    unfold IntKind.wrap
    simp [IntKind.signed,IntKind.bits]
    omega
  rw [e1,e2,e3,w64 (n:=((n / 1000:Nat):Int)) (by omega) (by omega),w64 (n:=((n / 100:Nat):Int)) (by omega) (by omega),w64 (n:=((n / 10:Nat):Int)) (by omega) (by omega),m,m,m]
  have v:∀ k:Nat,k ≤ 9→IntKind.u8.wrap (IntKind.i64.wrap (48+(k:Int)))=((48+k:Nat):Int):=fun k hk=>by rw [w64 (by omega) (by omega)];rw [show (48:Int)+(k:Int)=((48+k:Nat):Int) from by omega];exact u _ (by omega)
  rw [v _ (by omega),v _ (by omega),v _ (by omega),v _ (by omega)]
  unfold Z2 mk mV
  rw [Nat.mod_eq_of_lt (show n / 1000 < 10 by omega)]
  simp only [List.map_cons,List.map_nil,Int.toNat_natCast]
theorem Oq(s:ByteArray)(n:Int)(hs:(bl s).length ≤ 1000000):nX s n=some (os2 (T2 (bl s) n)):=by
  unfold nX kU T2
  by_cases h0:n < 0
  · rw [if_pos (by simpa using h0),if_pos rfl,if_neg (by omega)];rfl
  by_cases h1:n > 9999
  · rw [if_neg (by simpa using h0),if_pos (by simpa using h1),if_neg (by omega)];rfl
  · obtain ⟨k,rfl⟩:∃ k:Nat,n=k:=⟨n.toNat,by omega⟩
    rw [if_neg (by simp),if_neg (by simpa using h1),HV k (by omega)]
    have z:=cW s
    have zd:(mk (mV k)).size=4:=rfl
    rw [dQ (by omega),Gm _ (by rw [wN,eG];simp [mV];omega),wN,eG,Int.toNat_natCast]
    simp only [Option.bind_some]
    cases hp:dY (bl s ++ mV k) with
    | false=>rw [if_pos (by rfl),if_neg (by simp)];rfl
    | true=>
      rw [if_neg (by simp),if_pos ⟨by omega,by omega,rfl⟩]
      show some (s ++ mk (mV k),true)=some (mk (bl s ++ mV k),true)
      rw [show s ++ mk (mV k)=mk (bl s ++ mV k) from wM (by rw [wN,eG,eG])]
theorem Ux(o:Op1)(q:List UInt8)(t:Int)(hp:(bl o.Path).length ≤ 100000000)(hq:gT (bl o.Path)=some q):qT o t=some (os2 (s6 o q t)):=by
  unfold qT s6
  cases hT:o.Turns with
  | false=>rw [if_pos (by rfl),if_neg (by simp)];simp [os2,G6]
  | true=>
    rw [if_neg (by simp),if_pos rfl,L4 _ hp,hq,Gr _ hp]
    simp only [Option.bind_some]
    have:=Gq (bl o.Path)
    rw [Oq _ _ (by rw [eG];omega),eG]
    simp only [Option.bind_some]
    cases hn:T2 (tB (bl o.Path)) t with
    | none=>rw [if_pos (by rfl)];rfl
    | some s=>
      obtain ⟨h1,h2,_,_⟩:=Jy hn
      rw [if_neg (by simp [os2])]
      simp only [os2]
      obtain ⟨ps,u,hps,hqe,hpq,_,_,_,h5⟩:=W9 hq
      obtain ⟨hj,_⟩:=Ex hpq h5 h1
      rw [Xj _ _ (by rw [eG];have:=B5 hpq;omega) (by rw [eG];have:=W8 h1;omega),eG,eG,hj]
      simp [os2,hj]
def D5(x:Nd)(l:List Nd):List Nd:=l.filter (ltB (key x)) ++ x::l.filter (fun y=>!ltB (key x) y && !isK (key x) y)
theorem AR(x y:Nd):sLt y.Path x.Path=ltB (key x) y:=W7 _ _
theorem Jz(x:Nd)(s:ByteArray):sEq x.Path s=isK (bl s) x:=pC _ _
theorem FB(x:Nd):(⟨x.Path,x.Data,x.Version,x.Turn,x.Owner⟩:Nd)=x:=rfl
theorem Aj(l:List Nd)(x:Nd)(hl:l.length ≤ 1000000):∀ (k i:Nat) (acc:List Nd),i ≤ l.length→l.length+1 ≤ i+k→acc.length ≤ i+1→dV l x k acc true (i:Int)=some (acc ++ (l.drop i).filter (fun y=>!isK (key x) y))
  | 0,i,acc,_,h,_=>by omega
  | k+1,i,acc,h0,hk,ha=>by
    unfold dV mN mM mL mK
    by_cases hi:i < l.length
    · rw [if_pos (by simpa using hi),if_neg (by simp),if_neg (by simp),cI hi]
      simp only [Option.bind_some]
      rw [Jz,show bl x.Path=key x from rfl,List.drop_eq_getElem_cons hi,List.filter_cons,lC (by omega)]
      cases hc:isK (key x) l[i] with
      | true=>rw [if_neg (by simp),if_neg (by simp)];exact Aj l x hl k (i+1) acc (by omega) (by omega) (by omega)
      | false=>
        rw [if_pos (by rfl),if_pos (by rfl),dQ (by simp [LIM];omega),Aj l x hl k (i+1) _ (by omega) (by omega) (by simp;omega)]
        simp
    · rw [if_neg (by simpa using hi),if_neg (by simp),List.drop_eq_nil_of_le (by omega)]
      simp
theorem Uy(l:List Nd)(x:Nd)(hl:l.length ≤ 1000000)(hs:l.Pairwise (key · < key ·)):∀ (k i:Nat) (acc:List Nd),i ≤ l.length→l.length+1 ≤ i+k→acc.length ≤ i→dV l x k acc false (i:Int)=some (acc ++ D5 x (l.drop i))
  | 0,i,acc,_,h,_=>by omega
  | k+1,i,acc,h0,hk,ha=>by
    unfold dV mN mM mL mK
    by_cases hi:i < l.length
    · rw [if_pos (by simpa using hi),if_pos (by rfl),cI hi]
      simp only [Option.bind_some]
      rw [AR,Jz,show bl x.Path=key x from rfl,List.drop_eq_getElem_cons hi,lC (by omega)]
      cases hc:ltB (key x) l[i] with
      | true=>
        have hne:isK (key x) l[i]=false:=by
          have:=vW (show key l[i] < key x by simpa [ltB] using hc)
          simpa [isK] using this
        rw [if_neg (by simp),hne,if_pos (by rfl),dQ (by simp [LIM];omega),Uy l x hl hs k (i+1) _ (by omega) (by omega) (by simp;omega)]
        unfold D5
        rw [List.filter_cons,if_pos hc,List.filter_cons,if_neg (by simp [hc])]
        simp
      | false=>
        have hlt:∀ y ∈ l[i]::l.drop (i+1),ltB (key x) y=false:=fun y hy=>by
          have c0:¬ key l[i] < key x:=by simpa [ltB] using hc
          rcases List.mem_cons.1 hy with rfl | hy
          · exact hc
          · obtain ⟨j,hj,rfl⟩:=List.mem_drop_iff_getElem.1 hy
            have:=List.pairwise_iff_getElem.1 hs i (i+1+j) hi (by omega) (by omega)
            simp only [ltB,decide_eq_false_iff_not]
            exact fun h=>c0 (tT this h)
        have e1:D5 x (l[i]::l.drop (i+1))=x::(l[i]::l.drop (i+1)).filter (fun y=>!isK (key x) y):=by
          unfold D5
          have e2:(l[i]::l.drop (i+1)).filter (fun y=>!ltB (key x) y && !isK (key x) y)=(l[i]::l.drop (i+1)).filter (fun y=>!isK (key x) y):=List.filter_congr fun y hy=>by rw [hlt y hy];simp
          rw [List.filter_eq_nil_iff.2 fun y hy=>by rw [hlt y hy];simp,e2]
          rfl
        rw [e1,if_pos (by rfl),dQ (by simp [LIM];omega),List.filter_cons]
        cases hk2:isK (key x) l[i] with
        | true=>rw [if_neg (by simp),if_neg (by simp),Aj l x hl k (i+1) _ (by omega) (by omega) (by simp;omega)];simp
        | false=>rw [if_pos (by rfl),if_pos (by rfl),dQ (by simp [LIM];omega),Aj l x hl k (i+1) _ (by omega) (by omega) (by simp;omega)];simp
    · rw [if_neg (by simpa using hi),if_pos (by rfl),List.drop_eq_nil_of_le (by omega),dQ (by simp [LIM];omega)]
      simp [D5,FB]
theorem Uz(l:List Nd)(x:Nd)(hl:l.length ≤ 1000000)(hs:l.Pairwise (key · < key ·)):kA l x=some (D5 x l):=by
  unfold kA
  refine (Uy l x hl hs (((l.length:Int) - 0:Int).toNat+1) 0 [] (by omega) (by omega) (by simp)).trans ?_
  simp
theorem AU{l:List Nd}{x:Nd}(h:∀ y ∈ l,key y ≠ key x):D5 x l=u9 x l:=by
  unfold D5 u9
  congr 2
  refine List.filter_congr fun y hy=>?_
  have:isK (key x) y=false:=by simpa [isK] using h y hy
  rw [this];simp
theorem AV{l:List Nd}{x z:Nd}(hs:l.Pairwise (key · < key ·))(hz:z ∈ l)(f:Nd→Nd)(hx:x=f z)(hk:key x=key z):D5 x l=upd l (key z) f:=by
  induction l with
  | nil=>cases hz
  | cons y r ih=>
    obtain ⟨h1,h2⟩:=List.pairwise_cons.1 hs
    rcases List.mem_cons.1 hz with rfl | hz'
    · have hr:∀ y ∈ r,isK (key z) y=false∧ltB (key z) y=false:=fun y hy=>⟨by simpa [isK] using (vW (h1 y hy)).symm,by simpa [ltB] using Ah (h1 y hy)⟩
      unfold D5 upd
      rw [hk,List.filter_cons,if_neg (by simp [ltB,I7]),List.filter_cons,if_neg (by simp [isK]),List.map_cons,if_pos (by simp [isK]),List.filter_eq_nil_iff.2 fun y hy=>by rw [(hr y hy).2];simp,List.filter_eq_self.2 fun y hy=>by rw [(hr y hy).1,(hr y hy).2];rfl,← hx]
      simp only [List.nil_append]
      congr 1
      refine ((List.map_congr_left fun y hy=>?_).trans (List.map_id r)).symm
      rw [if_neg (by rw [(hr y hy).1];simp)];rfl
    · have hlt:=h1 z hz'
      have:=ih h2 hz'
      unfold D5 upd at *
      rw [hk] at *
      rw [List.filter_cons,if_pos (by simpa [ltB] using hlt),List.filter_cons,if_neg (by simp [ltB,hlt]),List.map_cons,if_neg (by simpa [isK] using vW hlt),List.cons_append,this]
theorem G7(l:List Nd)(s:ByteArray)(hl:l.length ≤ 1000000)(sm:Sm l):∀ (k i:Nat) (acc:List Nd),i ≤ l.length→l.length+1 ≤ i+k→acc.length ≤ i→eD l s k acc (i:Int)=some (acc ++ (l.drop i).filter (mD (bl s)))
  | 0,i,acc,_,h,_=>by omega
  | k+1,i,acc,h0,hk,ha=>by
    unfold eD kW kV
    by_cases hi:i < l.length
    · rw [if_pos (by simpa using hi),cI hi]
      simp only [Option.bind_some]
      rw [L4 _ (sm _ (List.getElem_mem hi)),show bl (l[i]).Path=key l[i] from rfl]
      simp only [Option.bind_some]
      rw [List.drop_eq_getElem_cons hi,List.filter_cons,lC (by omega)]
      have e:mD (bl s) l[i]=decide (gT (key l[i])=some (bl s)):=rfl
      cases hp:gT (key l[i]) with
      | none=>
        rw [e,hp,if_neg (by simp [os2]),if_neg (by simp),if_neg (by simp)]
        exact G7 l s hl sm k (i+1) acc (by omega) (by omega) (by omega)
      | some q=>
        rw [e,hp,if_pos (by rfl),show sEq (os2 (some q)).1 s=decide (some q=some (bl s)) from by rw [pC];simp only [os2,eG,Option.some.injEq];exact decide_eq_decide.2 Iff.rfl]
        by_cases hq:q=bl s
        · rw [hq]
          simp only [decide_true,if_true]
          rw [dQ (by simp [LIM];omega),G7 l s hl sm k (i+1) _ (by omega) (by omega) (by simp;omega)]
          simp
        · rw [show decide (some q=some (bl s))=false from by simpa using hq,if_neg (by simp),if_neg (by simp)]
          exact G7 l s hl sm k (i+1) acc (by omega) (by omega) (by omega)
    · rw [if_neg (by simpa using hi),List.drop_eq_nil_of_le (by omega)]
      simp
theorem Px(l:List Nd)(s:ByteArray)(hl:l.length ≤ 1000000)(sm:Sm l):nY l s=some (l.filter (mD (bl s))):=by
  unfold nY
  refine (G7 l s hl sm (((l.length:Int) - 0:Int).toNat+1) 0 [] (by omega) (by omega) (by simp)).trans ?_
  simp
theorem Sn{l:List Nd}(hs:l.Pairwise (key · < key ·))(p:List UInt8){f:Nd→Nd}(hf:∀ z,key (f z)=key z):(upd l p f).Pairwise (key · < key ·):=by
  unfold upd
  rw [List.pairwise_map]
  exact hs.imp fun {a b} h=>by rw [Qs hf,Qs hf];exact h
theorem Ka(s:ByteArray)(hp:(bl s).length ≤ 100000000):kJ s=some (jD (bl s)):=by
  unfold kJ
  rw [P7 s hp]
  simp only [Option.bind_some]
  unfold spl jD
  cases parts (bl s) <;> rfl
theorem Ot(s:ByteArray):sEq s (ByteArray.mk #[47])=decide (bl s= [47]):=pC _ _
def w8(w:Int)(c:List Nd)(y:Nd):Bool:=c.any fun z=>(z.Owner == w) && isK (key z) y
theorem Ak(l:List Nd)(k:Nat)(n i:Int)(hn:5000 ≤ n):eU l (k+1) n i=some true:=by
  unfold eU jV
  rw [show decide (n ≥ 5000)=true from by simpa using hn,show decide (n < 5000)=false from by simp;omega]
  simp
theorem Ou(l:List Nd)(hlen:l.length ≤ 1666):∀ (k i:Nat) (n:Int),0 ≤ n→n ≤ 20000→i ≤ l.length→l.length+2 ≤ i+k→∃ b,eU l k n (i:Int)=some b∧(b=false→∀ j (h:j < l.length),i ≤ j→(key l[j]).length < 5000)
  | 0,i,n,_,_,_,h=>by omega
  | k+1,i,n,h0,h1,hi0,h=>by
    by_cases hn:n < 5000
    · by_cases hi:i < l.length
      · unfold eU
        rw [if_pos (by simpa using hi),if_pos (by simpa using hn),cI hi]
        simp only [Option.bind_some]
        have e1:IntKind.i64.wrap ((i:Int)+1)=((i+1:Nat):Int):=by rw [w64 (by omega) (by omega)];omega
        have z1:=cW (l[i]).Path
        rw [e1,w64 (n:=n+_) (by omega) (by omega),w64 (by omega) (by omega)]
        by_cases hp:(key l[i]).length < 5000
        · obtain ⟨b,h2,h3⟩:=Ou l hlen k (i+1) (n+(min ((l[i]).Path.size:Int) 5000)+(min ((l[i]).Data.size:Int) 5000)) (by omega) (by omega) (by omega) (by omega)
          refine ⟨b,h2,fun hb j hj hij=>?_⟩
          by_cases e:i=j
          · subst e;exact hp
          · exact h3 hb j hj (by omega)
        · cases k with
          | zero=>omega
          | succ k=>
            have hp:5000 ≤ (bl (l[i]).Path).length:=by unfold key at hp;omega
            rw [Ak l k _ _ (by omega)]
            exact ⟨true,rfl,fun h=>by cases h⟩
      · unfold eU jV
        rw [if_neg (by simpa using hi)]
        exact ⟨_,rfl,fun _ j hj hij=>by omega⟩
    · rw [Ak l k _ _ (by omega)]
      exact ⟨true,rfl,fun h=>by cases h⟩
theorem Xl(l:List Nd)(hlen:l.length ≤ 140737488351232):∃ b,qU l=some b∧(b=false→l.length ≤ 1666∧Sm l):=by
  unfold qU
  have e:IntKind.i64.wrap (3 * (l.length:Int))=3 * (l.length:Int):=w64 (by omega) (by omega)
  rw [e]
  by_cases h:l.length ≤ 1666
  · obtain ⟨b,h1,h2⟩:=Ou l h 5002 0 (3 * (l.length:Int)) (by omega) (by omega) (by omega) (by omega)
    refine ⟨b,h1,fun hb=>⟨h,fun x hx=>?_⟩⟩
    obtain ⟨j,hj,rfl⟩:=List.mem_iff_getElem.1 hx
    have:=h2 hb j hj (by omega)
    omega
  · rw [Ak l 5001 _ _ (by omega)]
    exact ⟨true,rfl,fun h=>by cases h⟩
theorem GZ(x y:Nd):((sEq x.Path y.Path) && ((sEq x.Data y.Data) && ((x.Version == y.Version) && ((x.Turn == y.Turn) && (x.Owner == y.Owner)))))=decide (x=y):=by
  rw [Bool.eq_iff_iff]
  cases x;cases y
  simp [W6]
theorem Qt(a b:List Nd)(h:a.length=b.length)(hl:a.length ≤ 1000000):∀ (k i:Nat),i ≤ a.length→a.length+1 ≤ i+k→lL a b k (i:Int)=some (decide (a.drop i=b.drop i))
  | 0,i,_,h=>by omega
  | k+1,i,h0,hk=>by
    unfold lL
    by_cases hi:i < a.length
    · have hi':i < b.length:=by omega
      rw [if_pos (by simpa using hi),cI hi]
      simp only [Option.bind_some]
      rw [cI hi']
      simp only [Option.bind_some]
      rw [GZ,List.drop_eq_getElem_cons hi,List.drop_eq_getElem_cons hi']
      by_cases e:a[i]=b[i]
      · rw [if_neg (by simp [e]),show IntKind.i64.wrap ((i:Int)+1)=((i+1:Nat):Int) from by rw [w64 (by omega) (by omega)];omega,Qt a b h hl k (i+1) (by omega) (by omega),e]
        congr 1
        exact decide_eq_decide.2 ⟨fun h=>by rw [h],fun h=>(List.cons.inj h).2⟩
      · rw [if_pos (by simp [e]),decide_eq_false (fun h=>e (List.cons.inj h).1)]
    · rw [if_neg (by simpa using hi),List.drop_eq_nil_of_le (by omega),List.drop_eq_nil_of_le (by omega)]
      rfl
theorem AW(a b:List Nd)(hl:a.length ≤ 1000000):sA a b=some (decide (a=b)):=by
  unfold sA
  by_cases h:a.length=b.length
  · rw [if_neg (by simp;omega)]
    refine (Qt a b h hl (((a.length:Int) - 0:Int).toNat+1) 0 (by omega) (by omega)).trans ?_
    simp
  · rw [if_pos (by simp;omega)]
    congr 1
    exact (decide_eq_false fun e=>h (by rw [e])).symm
theorem Ov(a b:List ByteArray)(h:a.length=b.length)(hl:a.length ≤ 1000000):∀ (k i:Nat),i ≤ a.length→a.length+1 ≤ i+k→lK a b k (i:Int)=some (decide (a.drop i=b.drop i))
  | 0,i,_,h=>by omega
  | k+1,i,h0,hk=>by
    unfold lK
    by_cases hi:i < a.length
    · have hi':i < b.length:=by omega
      rw [if_pos (by simpa using hi),cI hi]
      simp only [Option.bind_some]
      rw [cI hi']
      simp only [Option.bind_some]
      rw [List.drop_eq_getElem_cons hi,List.drop_eq_getElem_cons hi']
      have es:sEq a[i] b[i]=decide (a[i]=b[i]):=by rw [Bool.eq_iff_iff,W6];simp
      rw [es]
      by_cases e:a[i]=b[i]
      · rw [if_neg (by simp [e]),show IntKind.i64.wrap ((i:Int)+1)=((i+1:Nat):Int) from by rw [w64 (by omega) (by omega)];omega,Ov a b h hl k (i+1) (by omega) (by omega),e]
        congr 1
        exact decide_eq_decide.2 ⟨fun h=>by rw [h],fun h=>(List.cons.inj h).2⟩
      · rw [if_pos (by simp [e]),decide_eq_false (fun h=>e (List.cons.inj h).1)]
    · rw [if_neg (by simpa using hi),List.drop_eq_nil_of_le (by omega),List.drop_eq_nil_of_le (by omega)]
      rfl
theorem Xm(a b:List ByteArray)(hl:a.length ≤ 1000000):rZ a b=some (decide (a=b)):=by
  unfold rZ
  by_cases h:a.length=b.length
  · rw [if_neg (by simp;omega)]
    refine (Ov a b h hl (((a.length:Int) - 0:Int).toNat+1) 0 (by omega) (by omega)).trans ?_
    simp
  · rw [if_pos (by simp;omega)]
    congr 1
    exact (decide_eq_false fun e=>h (by rw [e])).symm
theorem So(x y:Res)(hl:x.Names.length ≤ 1000000):oZ x y=some (decide (x=y)):=by
  unfold oZ
  rw [Xm _ _ hl]
  obtain ⟨e,p,d,v,n⟩:=x
  obtain ⟨e',p',d',v',n'⟩:=y
  simp only [Option.bind_some,bA.mk.injEq]
  have es:∀ s t:ByteArray,sEq s t=decide (s=t):=fun s t=>by rw [Bool.eq_iff_iff,W6];simp
  rw [es,es]
  by_cases h1:e=e'
  · rw [if_pos (by simpa using h1)]
    by_cases h2:p=p'
    · rw [if_pos (by simpa using h2)]
      by_cases h3:d=d'
      · rw [if_pos (by simpa using h3)]
        by_cases h4:v=v'
        · rw [if_pos (by simpa using h4)]
          simp [h1,h2,h3,h4]
        · rw [if_neg (by simpa using h4),decide_eq_false (fun h=>h4 h.2.2.2.1)]
      · rw [if_neg (by simpa using h3),decide_eq_false (fun h=>h3 h.2.2.1)]
    · rw [if_neg (by simpa using h2),decide_eq_false (fun h=>h2 h.2.1)]
  · rw [if_neg (by simpa using h1),decide_eq_false (fun h=>h1 h.1)]
abbrev Pie:=bV
abbrev Tn:=aJ
abbrev Sto:=aF
abbrev Pt1:=aQ
def bW(t:Tn):List UInt8:=bl t.Dir
theorem Va{a b:List UInt8}(h:¬ a < b)(k:a ≠ b):b < a:=by
  rcases EY a b with h' | h' | h'
  · exact absurd h' h
  · exact absurd h' k
  · exact h'
section
variable {α:Type} (κ:α→List UInt8)
def gLt(p:List UInt8)(x:α):Bool:=decide (κ x < p)
def gEq(p:List UInt8)(x:α):Bool:=decide (κ x=p)
def gGt(p:List UInt8)(x:α):Bool:=!gLt κ p x && !gEq κ p x
theorem Vb(l:List α)(p:List UInt8)(i:Nat)(hs:l.Pairwise (κ · < κ ·))(h1:i ≤ l.length)(h3:∀ j (h:j < l.length),j < i→κ l[j] < p)(h4:∀ j (h:j < l.length),i ≤ j→¬ κ l[j] < p) :
    l.take i=l.filter (gLt κ p)∧((∃ x,l.drop i=x::l.filter (gGt κ p)∧κ x=p∧l.find? (gEq κ p)=some x∧l[i]? =some x∧x ∈ l)∨(l.drop i=l.filter (gGt κ p)∧l.find? (gEq κ p)=none∧l[i]?.map κ ≠ some p)):=by
  have hp:=List.pairwise_iff_getElem.1 hs
  have e:∀ g:α→Bool,l.filter g=(l.take i).filter g ++ (l.drop i).filter g:=fun g=>by rw [← List.filter_append,List.take_append_drop]
  have ht:∀ y ∈ l.take i,κ y < p:=fun y hy=>by
    obtain ⟨m,hm,rfl⟩:=List.mem_take_iff_getElem.1 hy
    exact h3 m (by omega) (by omega)
  have hd:∀ y ∈ l.drop i,¬ κ y < p:=fun y hy=>by
    obtain ⟨m,hm,rfl⟩:=List.mem_drop_iff_getElem.1 hy
    exact h4 _ (by omega) (by omega)
  have t1:(l.take i).filter (gLt κ p)=l.take i:=List.filter_eq_self.2 fun y hy=>by simpa [gLt] using ht y hy
  have t2:(l.drop i).filter (gLt κ p)= []:=List.filter_eq_nil_iff.2 fun y hy=>by simpa [gLt] using hd y hy
  have t3:(l.take i).filter (gGt κ p)= []:=List.filter_eq_nil_iff.2 fun y hy=>by simp [gGt,gLt,ht y hy]
  refine ⟨by rw [e,t1,t2,List.append_nil],?_⟩
  rw [e (gGt κ p),t3,List.nil_append]
  by_cases hi:i < l.length
  · by_cases hk:κ l[i]=p
    · refine .inl ⟨l[i],?_,hk,?_,List.getElem?_eq_getElem hi,List.getElem_mem hi⟩
      · rw [List.drop_eq_getElem_cons hi,List.filter_cons,if_neg (by simp [gGt,gEq,hk])]
        congr 1
        refine (List.filter_eq_self.2 fun y hy=>?_).symm
        obtain ⟨m,hm,rfl⟩:=List.mem_drop_iff_getElem.1 hy
        have:=hp i (i+1+m) hi (by omega) (by omega)
        rw [hk] at this
        simp [gGt,gLt,gEq,Ah this,(vW this).symm]
      · rw [List.find?_eq_some_iff_append]
        refine ⟨by simpa [gEq] using hk,l.take i,l.drop (i+1),?_,fun y hy=>by simpa [gEq] using vW (ht y hy)⟩
        rw [← List.drop_eq_getElem_cons hi,List.take_append_drop]
    · have hne:∀ y ∈ l.drop i,κ y ≠ p:=fun y hy=>by
        obtain ⟨m,hm,rfl⟩:=List.mem_drop_iff_getElem.1 hy
        rcases Nat.eq_zero_or_pos m with rfl | hm0
        · simpa using hk
        · have h5:=Va (h4 i hi (Nat.le_refl _)) hk
          exact (vW (tT h5 (hp i (i+m) hi (by omega) (by omega)))).symm
      refine .inr ⟨?_,?_,by rw [List.getElem?_eq_getElem hi];simpa using hk⟩
      · exact (List.filter_eq_self.2 fun y hy=>by simp [gGt,gLt,gEq,hd y hy,hne y hy]).symm
      · rw [List.find?_eq_none]
        intro y hy
        rw [← List.take_append_drop i l] at hy
        rcases List.mem_append.1 hy with h | h
        · simpa [gEq] using vW (ht y h)
        · simpa [gEq] using hne y h
  · refine .inr ⟨?_,?_,by rw [List.getElem?_eq_none (by omega)];simp⟩
    · rw [List.drop_eq_nil_of_le (by omega)];rfl
    · rw [List.find?_eq_none]
      intro y hy
      have:l.take i=l:=List.take_of_length_le (by omega)
      rw [← this] at hy
      simpa [gEq] using vW (ht y hy)
end
theorem D6(s:ByteArray):dX s=some (jD (bl s)):=by
  unfold dX
  rw [Gp]
  simp only [Option.bind_some]
  unfold spl jD
  cases parts (bl s) <;> rfl
theorem Al(x a b:Int):sI x a b=some (decide (a ≤ x∧x ≤ b)):=by
  unfold sI
  by_cases h:x ≥ a
  · rw [if_pos (by simpa using h)]
    congr 1
    exact decide_eq_decide.2 ⟨fun h'=>⟨h,h'⟩,fun h'=>h'.2⟩
  · rw [if_neg (by simpa using h),decide_eq_false (fun h'=>h h'.1)]
def rC(p d:ByteArray)(v least o:Int):Bool:=jD (bl p) && decide ((bl d).length ≤ 256) && decide (least ≤ v∧v ≤ 281474976710656) && decide (0 ≤ o∧o ≤ 1099511627776)
theorem Ku(p d:ByteArray)(v least o:Int):uJ p d v least o=some (rC p d v least o):=by
  unfold uJ rC
  rw [D6]
  simp only [Option.bind_some]
  have z:=cW d
  cases jD (bl p) with
  | false=>rw [if_neg (by simp)];simp
  | true=>
    rw [if_pos rfl]
    by_cases h:(bl d).length ≤ 256
    · rw [if_pos (decide_eq_true (by omega)),Al,decide_eq_true h]
      simp only [Option.bind_some]
      cases decide (least ≤ v∧v ≤ 281474976710656) with
      | false=>rw [if_neg (by simp)];simp
      | true=>rw [if_pos rfl,Al];simp
    · rw [if_neg (by rw [decide_eq_false (by omega)];simp),decide_eq_false h];simp
def pnB(x:Nd):Bool:=decide (x.Turn=0) && rC x.Path x.Data x.Version 0 x.Owner
def ptB(t:Tn):Bool:=jD (bW t) && decide (1 ≤ t.Next∧t.Next ≤ 10000)
theorem Vc(x:Nd):wE x=some (!pnB x):=by
  unfold wE pnB
  by_cases h:x.Turn=0
  · rw [if_neg (by simpa using h),Ku,decide_eq_true h];simp
  · rw [if_pos (by simpa using h),decide_eq_false h];simp
theorem Vd(t:Tn):wF t=some (!ptB t):=by
  unfold wF ptB
  rw [D6,show bl t.Dir=bW t from rfl]
  simp only [Option.bind_some]
  cases jD (bW t) with
  | false=>rw [if_pos (by rfl)];simp
  | true=>rw [if_neg (by simp),Al];simp
theorem Qu(l:List Nd)(hl:l.length ≤ 140737488351232):∀ (k i:Nat),i ≤ l.length→l.length+1 ≤ i+k→∃ v:Int,dD l k (i:Int)=some v∧decide (v ≥ 0)= !(l.drop i).all pnB
  | 0,i,_,h=>by omega
  | k+1,i,h0,h=>by
    unfold dD
    by_cases hi:i < l.length
    · rw [if_pos (by simpa using hi),cI hi,List.drop_eq_getElem_cons hi]
      simp only [Option.bind_some,Vc,List.all_cons]
      cases hm:pnB l[i] with
      | false=>rw [if_pos (by rfl)];exact ⟨_,rfl,by simp⟩
      | true=>
        rw [if_neg (by simp),lC (by omega)]
        obtain ⟨v,h1,h2⟩:=Qu l hl k (i+1) (by omega) (by omega)
        exact ⟨v,h1,by rw [h2];simp⟩
    · rw [if_neg (by simpa using hi),List.drop_eq_nil_of_le (by omega)]
      exact ⟨-1,rfl,by simp⟩
theorem Qv(l:List Tn)(hl:l.length ≤ 140737488351232):∀ (k i:Nat),i ≤ l.length→l.length+1 ≤ i+k→∃ v:Int,dE l k (i:Int)=some v∧decide (v ≥ 0)= !(l.drop i).all ptB
  | 0,i,_,h=>by omega
  | k+1,i,h0,h=>by
    unfold dE
    by_cases hi:i < l.length
    · rw [if_pos (by simpa using hi),cI hi,List.drop_eq_getElem_cons hi]
      simp only [Option.bind_some,Vd,List.all_cons]
      cases hm:ptB l[i] with
      | false=>rw [if_pos (by rfl)];exact ⟨_,rfl,by simp⟩
      | true=>
        rw [if_neg (by simp),lC (by omega)]
        obtain ⟨v,h1,h2⟩:=Qv l hl k (i+1) (by omega) (by omega)
        exact ⟨v,h1,by rw [h2];simp⟩
    · rw [if_neg (by simpa using hi),List.drop_eq_nil_of_le (by omega)]
      exact ⟨-1,rfl,by simp⟩
theorem Da{α:Type}(κ:α→List UInt8)(l:List α):(∀ j (h:j < l.length),0 < j→κ (l[j - 1]'(by omega)) < κ l[j]) ↔ l.Pairwise (κ · < κ ·):=by
  constructor
  · intro h
    rw [List.pairwise_iff_getElem]
    intro i j hi hj hij
    induction j with
    | zero=>omega
    | succ j ih=>
      have h1:=h (j+1) hj (by omega)
      simp only [Nat.add_sub_cancel] at h1
      rcases Nat.lt_or_ge i j with c | c
      · exact tT (ih (by omega) c) h1
      · obtain rfl:i=j:=by omega
        exact h1
  · intro h j hj h0
    exact List.pairwise_iff_getElem.1 h (j - 1) j (by omega) hj (by omega)
theorem Qw(l:List Nd)(hl:l.length ≤ 140737488351232):∀ (k i:Nat),i ≤ l.length→l.length+1 ≤ i+k→∃ b,eA l k (i:Int)=some b∧(b=true ↔ ∀ j (h:j < l.length),i ≤ j→0 < j→key (l[j - 1]'(by omega)) < key l[j])
  | 0,i,_,h=>by omega
  | k+1,i,h0,h=>by
    unfold eA kO
    by_cases hi:i < l.length
    · rw [if_pos (by simpa using hi),lC (by omega)]
      obtain ⟨b,h1,h2⟩:=Qw l hl k (i+1) (by omega) (by omega)
      by_cases h00:i=0
      · subst h00
        rw [if_neg (by simp),if_neg (by simp),h1]
        refine ⟨b,rfl,h2.trans ⟨fun H j hj hij h0=>H j hj (by omega) h0,fun H j hj hij h0=>H j hj (by omega) h0⟩⟩
      · rw [if_pos (decide_eq_true (by omega)),show IntKind.i64.wrap ((i:Int) - 1)=((i - 1:Nat):Int) from by rw [w64 (by omega) (by omega)];omega,cI (show i - 1 < l.length by omega)]
        simp only [Option.bind_some]
        rw [cI hi]
        simp only [Option.bind_some,wC]
        rw [W7,show bl (l[i - 1]'(by omega)).Path=key (l[i - 1]'(by omega)) from rfl,show bl (l[i]).Path=key l[i] from rfl]
        by_cases c:key (l[i - 1]'(by omega)) < key l[i]
        · rw [decide_eq_true c,if_neg (by simp),h1]
          refine ⟨b,rfl,h2.trans ⟨fun H j hj hij h0=>?_,fun H j hj hij h0=>H j hj (by omega) h0⟩⟩
          rcases Nat.lt_or_ge i j with d | d
          · exact H j hj (by omega) h0
          · obtain rfl:i=j:=by omega
            exact c
        · rw [decide_eq_false c,if_pos (by rfl)]
          exact ⟨false,rfl,fun h=>by simp at h,fun H=>absurd (H i hi (Nat.le_refl _) (by omega)) c⟩
    · rw [if_neg (by simpa using hi)]
      exact ⟨true,rfl,fun _ j hj hij=>by omega,fun _=>rfl⟩
theorem Ow(l:List Tn)(hl:l.length ≤ 140737488351232):∀ (k i:Nat),i ≤ l.length→l.length+1 ≤ i+k→∃ b,eB l k (i:Int)=some b∧(b=true ↔ ∀ j (h:j < l.length),i ≤ j→0 < j→bW (l[j - 1]'(by omega)) < bW l[j])
  | 0,i,_,h=>by omega
  | k+1,i,h0,h=>by
    unfold eB kQ
    by_cases hi:i < l.length
    · rw [if_pos (by simpa using hi),lC (by omega)]
      obtain ⟨b,h1,h2⟩:=Ow l hl k (i+1) (by omega) (by omega)
      by_cases h00:i=0
      · subst h00
        rw [if_neg (by simp),if_neg (by simp),h1]
        refine ⟨b,rfl,h2.trans ⟨fun H j hj hij h0=>H j hj (by omega) h0,fun H j hj hij h0=>H j hj (by omega) h0⟩⟩
      · rw [if_pos (decide_eq_true (by omega)),show IntKind.i64.wrap ((i:Int) - 1)=((i - 1:Nat):Int) from by rw [w64 (by omega) (by omega)];omega,cI (show i - 1 < l.length by omega)]
        simp only [Option.bind_some]
        rw [cI hi]
        simp only [Option.bind_some,wD]
        rw [W7,show bl (l[i - 1]'(by omega)).Dir=bW (l[i - 1]'(by omega)) from rfl,show bl (l[i]).Dir=bW l[i] from rfl]
        by_cases c:bW (l[i - 1]'(by omega)) < bW l[i]
        · rw [decide_eq_true c,if_neg (by simp),h1]
          refine ⟨b,rfl,h2.trans ⟨fun H j hj hij h0=>?_,fun H j hj hij h0=>H j hj (by omega) h0⟩⟩
          rcases Nat.lt_or_ge i j with d | d
          · exact H j hj (by omega) h0
          · obtain rfl:i=j:=by omega
            exact c
        · rw [decide_eq_false c,if_pos (by rfl)]
          exact ⟨false,rfl,fun h=>by simp at h,fun H=>absurd (H i hi (Nat.le_refl _) (by omega)) c⟩
    · rw [if_neg (by simpa using hi)]
      exact ⟨true,rfl,fun _ j hj hij=>by omega,fun _=>rfl⟩
structure eV (s:Sto):Prop where
  nodes:s.Nodes.all pnB=true
  nsort:s.Nodes.Pairwise (key · < key ·)
  turns:s.Turns.all ptB=true
  tsort:s.Turns.Pairwise (bW · < bW ·)
theorem N4(s:Sto)(hn:s.Nodes.length ≤ 140737488351232)(ht:s.Turns.length ≤ 140737488351232):∃ b,pP s=some b∧(b=true ↔ eV s):=by
  unfold pP fZ gA gW gX rK rL
  obtain ⟨v,a1,a2⟩:=Qu s.Nodes hn (((s.Nodes.length:Int) - 0:Int).toNat+1) 0 (by omega) (by omega)
  obtain ⟨u,b1,b2⟩:=Qv s.Turns ht (((s.Turns.length:Int) - 0:Int).toNat+1) 0 (by omega) (by omega)
  obtain ⟨c,c1,c2⟩:=Qw s.Nodes hn (((s.Nodes.length:Int) - 0:Int).toNat+1) 0 (by omega) (by omega)
  obtain ⟨d,d1,d2⟩:=Ow s.Turns ht (((s.Turns.length:Int) - 0:Int).toNat+1) 0 (by omega) (by omega)
  rw [show dD s.Nodes (((s.Nodes.length:Int) - 0:Int).toNat+1) 0=some v from a1,show dE s.Turns (((s.Turns.length:Int) - 0:Int).toNat+1) 0=some u from b1,
    show eA s.Nodes (((s.Nodes.length:Int) - 0:Int).toNat+1) 0=some c from c1,show eB s.Turns (((s.Turns.length:Int) - 0:Int).toNat+1) 0=some d from d1]
  simp only [Option.bind_some]
  rw [a2,b2,List.drop_zero,List.drop_zero]
  have e1:c=true ↔ s.Nodes.Pairwise (key · < key ·):=c2.trans ⟨fun H=>(Da key _).1 fun j h h0=>H j h (by omega) h0,fun H j h _ h0=>(Da key _).2 H j h h0⟩
  have e2:d=true ↔ s.Turns.Pairwise (bW · < bW ·):=d2.trans ⟨fun H=>(Da bW _).1 fun j h h0=>H j h (by omega) h0,fun H j h _ h0=>(Da bW _).2 H j h h0⟩
  cases f1:s.Nodes.all pnB with
  | false=>exact ⟨false,by simp,fun h=>by simp at h,fun H=>by rw [H.nodes] at f1;cases f1⟩
  | true=>
    cases f2:s.Turns.all ptB with
    | false=>exact ⟨false,by simp,fun h=>by simp at h,fun H=>by rw [H.turns] at f2;cases f2⟩
    | true=>
      cases c with
      | false=>exact ⟨false,by simp,fun h=>by simp at h,fun H=>e1.2 H.nsort⟩
      | true=>
        cases d with
        | false=>exact ⟨false,by simp,fun h=>by simp at h,fun H=>e2.2 H.tsort⟩
        | true=>exact ⟨true,by simp,fun _=>⟨f1,e1.1 rfl,f2,e2.1 rfl⟩,fun _=>rfl⟩
def upP(p:List UInt8):List UInt8:=(gT p).getD [47]
theorem FC(s:ByteArray):zK s=some (mk (upP (bl s))):=by
  unfold zK upP
  rw [Cy]
  simp only [Option.bind_some]
  cases gT (bl s) <;> rfl
def xM(p:Pt1):List UInt8:=if p.Kind=4∨p.Kind=9∨p.Kind=10 then bl p.Path else upP (bl p.Path)
def pZ(p:Pt1):Bool:=rC p.Path p.Data p.Version (-1) p.Owner && decide (bl p.Dir=xM p) && decide (1 ≤ p.Kind∧p.Kind ≤ 10) && (decide (p.Kind ≠ 2) || !decide (bl p.Path= [47]))
theorem Dr(p:Pt1)(s:ByteArray)(hs:bl s=xM p):uK p s=some (pZ p):=by
  unfold uK pZ
  rw [Ku,pC,hs]
  simp only [Option.bind_some]
  cases rC p.Path p.Data p.Version (-1) p.Owner with
  | false=>rw [if_neg (by simp)];simp
  | true=>
    rw [if_pos rfl]
    cases decide (bl p.Dir=xM p) with
    | false=>rw [if_neg (by simp)];simp
    | true=>
      rw [if_pos rfl]
      by_cases a:p.Kind ≥ 1
      · rw [if_pos (decide_eq_true a)]
        by_cases b:p.Kind ≤ 10
        · rw [if_pos (decide_eq_true b),decide_eq_true (show 1 ≤ p.Kind∧p.Kind ≤ 10 from ⟨a,b⟩)]
          by_cases c:p.Kind=2
          · rw [if_neg (by simpa using c),Ot];simp [c]
          · rw [if_pos (by simpa using c)];simp [c]
        · rw [if_neg (by rw [decide_eq_false b];simp),decide_eq_false (fun h=>b h.2)];simp
      · rw [if_neg (by rw [decide_eq_false a];simp),decide_eq_false (fun h=>a h.1)];simp
theorem Am(p:Pt1):q7 p=some (pZ p):=by
  unfold q7 uL
  rw [FC]
  simp only [Option.bind_some]
  by_cases a:p.Kind=4
  · rw [if_pos (by simpa using a),if_pos trivial,Dr p _ (by unfold xM;rw [if_pos (.inl a)])]
  · rw [if_neg (by simpa using a)]
    by_cases b:p.Kind=9
    · rw [if_pos (by simpa using b),if_pos trivial,Dr p _ (by unfold xM;rw [if_pos (.inr (.inl b))])]
    · rw [if_neg (by simpa using b)]
      by_cases c:p.Kind=10
      · rw [if_pos (by simpa using c),Dr p _ (by unfold xM;rw [if_pos (.inr (.inr c))])]
      · rw [if_neg (by simpa using c),Dr p _ (by rw [eG];unfold xM;rw [if_neg (by simp [a,b,c])])]
theorem Ve(x:Nd)(s:ByteArray):qP x s=some (if key x < bl s then -1 else if key x=bl s then 0 else 1):=by
  show some (Extern.BytealgCompare.cmp x.Path s)=_
  rw [Uu];rfl
theorem Vf(x:Tn)(s:ByteArray):rQ x s=some (if bW x < bl s then -1 else if bW x=bl s then 0 else 1):=by
  show some (Extern.BytealgCompare.cmp x.Dir s)=_
  rw [Uu];rfl
theorem Ox(l:List Nd)(s:ByteArray)(hlen:l.length ≤ 1000000)(hs:∀ i j (hi:i < l.length) (hj:j < l.length),i < j→key l[i] < key l[j]):∀ (k lo hi:Nat),lo ≤ hi→hi ≤ l.length→hi+1 ≤ lo+k→(∀ j (h:j < l.length),j < lo→key l[j] < bl s)→(∀ j (h:j < l.length),hi ≤ j→¬ key l[j] < bl s)→
    ∃ i,i ≤ l.length∧bZ l s k (lo:Int) (hi:Int)=some ((i:Int),decide (l[i]?.map key=some (bl s)))∧(∀ j (h:j < l.length),j < i→key l[j] < bl s)∧(∀ j (h:j < l.length),i ≤ j→¬ key l[j] < bl s)
  | 0,lo,hi,_,_,h,_,_=>by omega
  | k+1,lo,hi,hlh,hhi,h,hlo,hup=>by
    unfold bZ
    by_cases hl:lo < hi
    · rw [if_pos (by simpa using hl),show IntKind.i64.wrap ((lo:Int)+(hi:Int))=IntKind.i64.wrap ((lo+hi:Nat):Int) from by rw [Int.natCast_add],EZ _ (by omega)]
      have hm:(lo+hi) / 2 < l.length:=by omega
      rw [cI hm]
      simp only [Option.bind_some]
      rw [Ve]
      simp only [Option.bind_some]
      by_cases hk:key l[(lo+hi) / 2] < bl s
      · rw [if_pos hk,if_pos (by decide),show IntKind.i64.wrap ((((lo+hi) / 2:Nat):Int)+1)=(((lo+hi) / 2+1:Nat):Int) from by rw [w64 (by omega) (by omega)];omega]
        refine Ox l s hlen hs k ((lo+hi) / 2+1) hi (by omega) hhi (by omega) (fun j hj hjl=>?_) hup
        by_cases e:j=(lo+hi) / 2
        · subst e;exact hk
        · exact tT (hs j _ hj hm (by omega)) hk
      · rw [if_neg hk,if_neg (by split <;> decide)]
        refine Ox l s hlen hs k lo ((lo+hi) / 2) (by omega) (by omega) (by omega) hlo (fun j hj hjl=>?_)
        by_cases e:(lo+hi) / 2=j
        · subst e;exact hk
        · exact fun h'=>hk (tT (hs _ j hm hj (by omega)) h')
    · rw [if_neg (by simpa using hl)]
      have e:lo=hi:=by omega
      subst e
      refine ⟨lo,hhi,?_,hlo,hup⟩
      by_cases hl2:lo < l.length
      · rw [if_pos (by simpa using hl2),cI hl2]
        simp only [Option.bind_some]
        rw [Ve]
        simp only [Option.bind_some]
        rw [if_neg (hup lo hl2 (Nat.le_refl _)),List.getElem?_eq_getElem hl2]
        by_cases hk:key l[lo]=bl s <;> simp [hk]
      · rw [if_neg (by simpa using hl2),List.getElem?_eq_none (by omega)]
        simp
theorem Oy(l:List Tn)(s:ByteArray)(hlen:l.length ≤ 1000000)(hs:∀ i j (hi:i < l.length) (hj:j < l.length),i < j→bW l[i] < bW l[j]):∀ (k lo hi:Nat),lo ≤ hi→hi ≤ l.length→hi+1 ≤ lo+k→(∀ j (h:j < l.length),j < lo→bW l[j] < bl s)→(∀ j (h:j < l.length),hi ≤ j→¬ bW l[j] < bl s)→
    ∃ i,i ≤ l.length∧cA l s k (lo:Int) (hi:Int)=some ((i:Int),decide (l[i]?.map bW=some (bl s)))∧(∀ j (h:j < l.length),j < i→bW l[j] < bl s)∧(∀ j (h:j < l.length),i ≤ j→¬ bW l[j] < bl s)
  | 0,lo,hi,_,_,h,_,_=>by omega
  | k+1,lo,hi,hlh,hhi,h,hlo,hup=>by
    unfold cA
    by_cases hl:lo < hi
    · rw [if_pos (by simpa using hl),show IntKind.i64.wrap ((lo:Int)+(hi:Int))=IntKind.i64.wrap ((lo+hi:Nat):Int) from by rw [Int.natCast_add],EZ _ (by omega)]
      have hm:(lo+hi) / 2 < l.length:=by omega
      rw [cI hm]
      simp only [Option.bind_some]
      rw [Vf]
      simp only [Option.bind_some]
      by_cases hk:bW l[(lo+hi) / 2] < bl s
      · rw [if_pos hk,if_pos (by decide),show IntKind.i64.wrap ((((lo+hi) / 2:Nat):Int)+1)=(((lo+hi) / 2+1:Nat):Int) from by rw [w64 (by omega) (by omega)];omega]
        refine Oy l s hlen hs k ((lo+hi) / 2+1) hi (by omega) hhi (by omega) (fun j hj hjl=>?_) hup
        by_cases e:j=(lo+hi) / 2
        · subst e;exact hk
        · exact tT (hs j _ hj hm (by omega)) hk
      · rw [if_neg hk,if_neg (by split <;> decide)]
        refine Oy l s hlen hs k lo ((lo+hi) / 2) (by omega) (by omega) (by omega) hlo (fun j hj hjl=>?_)
        by_cases e:(lo+hi) / 2=j
        · subst e;exact hk
        · exact fun h'=>hk (tT (hs _ j hm hj (by omega)) h')
    · rw [if_neg (by simpa using hl)]
      have e:lo=hi:=by omega
      subst e
      refine ⟨lo,hhi,?_,hlo,hup⟩
      by_cases hl2:lo < l.length
      · rw [if_pos (by simpa using hl2),cI hl2]
        simp only [Option.bind_some]
        rw [Vf]
        simp only [Option.bind_some]
        rw [if_neg (hup lo hl2 (Nat.le_refl _)),List.getElem?_eq_getElem hl2]
        by_cases hk:bW l[lo]=bl s <;> simp [hk]
      · rw [if_neg (by simpa using hl2),List.getElem?_eq_none (by omega)]
        simp
theorem Vg(l:List Nd)(s:ByteArray)(hlen:l.length ≤ 1000000)(hs:l.Pairwise (key · < key ·)) :
    ∃ i:Nat,i ≤ l.length∧jZ l s=some ((i:Int),(l.find? (isK (bl s))).isSome)∧l.take i=l.filter (gLt key (bl s))∧
      ((∃ x,l.drop i=x::l.filter (gGt key (bl s))∧key x=bl s∧l.find? (isK (bl s))=some x∧l[i]? =some x∧x ∈ l)∨(l.drop i=l.filter (gGt key (bl s))∧l.find? (isK (bl s))=none)):=by
  obtain ⟨i,h1,h2,h3,h4⟩:=Ox l s hlen (List.pairwise_iff_getElem.1 hs) (((l.length:Int) - 0:Int).toNat+1) 0 l.length (by omega) (Nat.le_refl _) (by omega) (fun j _ h=>by omega) (fun j h h'=>by omega)
  obtain ⟨g1,g2⟩:=Vb key l (bl s) i hs h1 h3 h4
  refine ⟨i,h1,?_,g1,?_⟩
  · unfold jZ eC
    rw [show bZ l s (((l.length:Int) - 0:Int).toNat+1) 0 (l.length:Int)=_ from h2]
    simp only [Option.bind_some]
    rcases g2 with ⟨x,_,hk,hf,hi,_⟩ | ⟨_,hf,hi⟩
    · rw [hi,show l.find? (isK (bl s))=some x from hf];simp [hk]
    · rw [decide_eq_false hi,show l.find? (isK (bl s))=none from hf];rfl
  · rcases g2 with ⟨x,a,b,c,d,e⟩ | ⟨a,b,_⟩
    · exact .inl ⟨x,a,b,c,d,e⟩
    · exact .inr ⟨a,b⟩
theorem FD(l:List Tn)(s:ByteArray)(hlen:l.length ≤ 1000000)(hs:l.Pairwise (bW · < bW ·)) :
    ∃ i:Nat,i ≤ l.length∧cC l s=some ((i:Int),(l.find? (gEq bW (bl s))).isSome)∧l.take i=l.filter (gLt bW (bl s))∧
      ((∃ x,l.drop i=x::l.filter (gGt bW (bl s))∧bW x=bl s∧l.find? (gEq bW (bl s))=some x∧l[i]? =some x∧x ∈ l)∨(l.drop i=l.filter (gGt bW (bl s))∧l.find? (gEq bW (bl s))=none)):=by
  obtain ⟨i,h1,h2,h3,h4⟩:=Oy l s hlen (List.pairwise_iff_getElem.1 hs) (((l.length:Int) - 0:Int).toNat+1) 0 l.length (by omega) (Nat.le_refl _) (by omega) (fun j _ h=>by omega) (fun j h h'=>by omega)
  obtain ⟨g1,g2⟩:=Vb bW l (bl s) i hs h1 h3 h4
  refine ⟨i,h1,?_,g1,?_⟩
  · unfold cC
    rw [show cA l s (((l.length:Int) - 0:Int).toNat+1) 0 (l.length:Int)=_ from h2]
    rcases g2 with ⟨x,_,hk,hf,hi,_⟩ | ⟨_,hf,hi⟩
    · rw [hi,hf];simp [hk]
    · rw [decide_eq_false hi,hf];rfl
  · rcases g2 with ⟨x,a,b,c,d,e⟩ | ⟨a,b,_⟩
    · exact .inl ⟨x,a,b,c,d,e⟩
    · exact .inr ⟨a,b⟩
def Db(p:Pt1)(x:Nd):Bool:=(decide (p.Kind=3) || decide (p.Kind=5) || decide (p.Kind=6)) && decide (0 ≤ p.Version) && decide (p.Version ≠ x.Version)
def ndS(l:List Nd)(p:Pt1):Nd×Int:=match l.find? (isK (bl p.Path)) with
  | none=>(zNd,62)
  | some x=>if Db p x=true then (x,63) else (x,0)
theorem F8(l:List Nd)(t:List Tn)(p:Pt1)(hlen:l.length ≤ 1000000)(hs:l.Pairwise (key · < key ·)) :
    (∃ e,(e=62∨e=63)∧(ndS l p).2=e∧gG l 0 (ByteArray.mk #[]) (ByteArray.mk #[]) 0 [] p=some ((-1),e,ByteArray.mk #[],ByteArray.mk #[],0,[]))∨
    (∃ i:Nat,∃ hi:i < l.length,(ndS l p).2=0∧(ndS l p).1=l[i]∧key l[i]=bl p.Path∧l.find? (isK (bl p.Path))=some l[i]∧gG l 0 (ByteArray.mk #[]) (ByteArray.mk #[]) 0 [] p=some ((i:Int),0,ByteArray.mk #[],ByteArray.mk #[],0,[])∧jZ l p.Path=some ((i:Int),true)):=by
  obtain ⟨i,h1,h2,h3,h4⟩:=Vg l p.Path hlen hs
  unfold gG nC nB qQ ndS fG
  rw [h2]
  simp only [Option.bind_some]
  rcases h4 with ⟨x,_,hk,hf,hi,_⟩ | ⟨_,hf⟩
  · obtain ⟨hi',rfl⟩:=List.getElem?_eq_some_iff.1 hi
    rw [hf]
    simp only [Option.isSome_some,Bool.not_true,Bool.false_eq_true,if_false]
    rw [cI hi']
    simp only [Option.bind_some]
    unfold Db
    by_cases a:p.Kind=3∨p.Kind=5∨p.Kind=6
    · by_cases b:0 ≤ p.Version
      · by_cases c:p.Version=(l[i]).Version
        · refine .inr ⟨i,hi',?_,?_,hk,rfl,?_,?_⟩
          · simp [c]
          · simp [c]
          · rcases a with a | a | a <;> simp [a,c,show 0 ≤ (l[i]).Version from c ▸ b]
          · first | rfl | (rw [h2,hf];rfl)
        · refine .inl ⟨63,.inr rfl,?_,?_⟩
          · rcases a with a | a | a <;> simp [a,b,c]
          · rcases a with a | a | a <;> simp [a,b,c]
      · refine .inr ⟨i,hi',?_,?_,hk,rfl,?_,?_⟩
        · simp [b]
        · simp [b]
        · rcases a with a | a | a <;> simp [a,b]
        · first | rfl | (rw [h2,hf];rfl)
    · refine .inr ⟨i,hi',?_,?_,hk,rfl,?_,?_⟩
      · simp [show p.Kind ≠ 3 from fun h=>a (.inl h),show p.Kind ≠ 5 from fun h=>a (.inr (.inl h)),show p.Kind ≠ 6 from fun h=>a (.inr (.inr h))]
      · simp [show p.Kind ≠ 3 from fun h=>a (.inl h),show p.Kind ≠ 5 from fun h=>a (.inr (.inl h)),show p.Kind ≠ 6 from fun h=>a (.inr (.inr h))]
      · simp [show p.Kind ≠ 3 from fun h=>a (.inl h),show p.Kind ≠ 5 from fun h=>a (.inr (.inl h)),show p.Kind ≠ 6 from fun h=>a (.inr (.inr h))]
      · first | rfl | (rw [h2,hf];rfl)
  · rw [hf]
    refine .inl ⟨62,.inl rfl,rfl,?_⟩
    simp
abbrev em:ByteArray:=ByteArray.mk #[]
theorem Vh(l:List Nd)(t:List Tn)(p:Pt1)(hlen:l.length ≤ 1000000)(hs:l.Pairwise (key · < key ·)) :
    sN l 0 em em 0 [] p=some ((if (ndS l p).2 ≠ 0 then (ndS l p).2 else if (ndS l p).1.Owner ≠ 0 then 65 else 0),em,em,0,[]):=by
  unfold sN pQ
  rcases F8 l t p hlen hs with ⟨e,he,h1,h2⟩ | ⟨i,hi,h1,h2,h3,h4,h5,h6⟩
  · rw [h2]
    simp only [Option.bind_some]
    rw [if_neg (by simp),if_neg (by simp),h1,if_pos (by omega)]
  · rw [h5]
    simp only [Option.bind_some]
    rw [if_pos (decide_eq_true (by omega)),cI hi,h1,if_neg (by simp),h2]
    simp only [Option.bind_some]
    by_cases c:(l[i]).Owner=0
    · rw [if_neg (by simpa using c),if_neg (by simpa using c)]
    · rw [if_pos (by simpa using c),if_pos c];rfl
theorem AX(l:List Nd)(t:List Tn)(p:Pt1)(hlen:l.length ≤ 1000000)(hs:l.Pairwise (key · < key ·)) :
    uT l 0 em em 0 [] p=some ((ndS l p).2,em,em,0,[]):=by
  unfold uT
  rcases F8 l t p hlen hs with ⟨e,he,h1,h2⟩ | ⟨i,hi,h1,h2,h3,h4,h5,h6⟩
  · rw [h2,h1];rfl
  · rw [h5,h1];rfl
theorem Xn(l:List Nd)(t:List Tn)(p:Pt1)(hlen:l.length ≤ 1000000)(hs:l.Pairwise (key · < key ·)) :
    tL l 0 em em 0 [] p=some ((ndS l p).2,em,em,(if (ndS l p).2 ≠ 0 then 0 else (ndS l p).1.Version),[]):=by
  unfold tL
  rcases F8 l t p hlen hs with ⟨e,he,h1,h2⟩ | ⟨i,hi,h1,h2,h3,h4,h5,h6⟩
  · rw [h2]
    simp only [Option.bind_some]
    rw [if_neg (by simp),h1,if_pos (by omega)]
  · rw [h5]
    simp only [Option.bind_some]
    rw [if_pos (decide_eq_true (by omega)),cI hi,h1,if_neg (by simp),h2]
    simp only [Option.bind_some]
theorem Xo(l:List Nd)(t:List Tn)(p:Pt1)(hlen:l.length ≤ 1000000)(hs:l.Pairwise (key · < key ·)) :
    tM l 0 em em 0 [] p=some ((ndS l p).2,em,(if (ndS l p).2 ≠ 0 then em else (ndS l p).1.Data),(if (ndS l p).2 ≠ 0 then 0 else (ndS l p).1.Version),[]):=by
  unfold tM
  rcases F8 l t p hlen hs with ⟨e,he,h1,h2⟩ | ⟨i,hi,h1,h2,h3,h4,h5,h6⟩
  · rw [h2]
    simp only [Option.bind_some]
    rw [if_neg (by simp),h1,if_pos (by omega),if_pos (by omega)]
  · rw [h5]
    simp only [Option.bind_some]
    rw [if_pos (decide_eq_true (by omega)),cI hi,h1,if_neg (by simp),if_neg (by simp),h2]
    simp only [Option.bind_some]
theorem Sp(l:List Nd)(t:List Tn)(p:Pt1)(hlen:l.length ≤ 1000000)(hs:l.Pairwise (key · < key ·)) :
    rV l 0 em em 0 [] p=some ((if (ndS l p).2 ≠ 0 then l else l.filter (fun y=>!isK (bl p.Path) y)),(ndS l p).2,em,em,0,[]):=by
  unfold rV
  rcases F8 l t p hlen hs with ⟨e,he,h1,h2⟩ | ⟨i,hi,h1,h2,h3,h4,h5,h6⟩
  · rw [h2]
    simp only [Option.bind_some]
    rw [if_neg (by simp),h1,if_pos (by omega)]
  · rw [h5]
    simp only [Option.bind_some]
    rw [if_pos (decide_eq_true (by omega)),h6,h1,if_neg (by simp)]
    simp only [Option.bind_some]
    rw [dQ ⟨by omega,by omega,by rw [w64 (by omega) (by omega)]⟩,Int.toNat_natCast,Oo hs hi,h3]
def Gs(p:Pt1)(x:Nd):Nd:={ x with Data:=p.Data,Version:=x.Version+1 }
theorem Vi(l:List Nd)(t:List Tn)(p:Pt1)(hlen:l.length ≤ 1000000)(hs:l.Pairwise (key · < key ·))(hv:∀ x ∈ l,0 ≤ x.Version∧x.Version ≤ 281474976710656) :
    sL l 0 em em 0 [] p=some (if (ndS l p).2 ≠ 0 then (l,(ndS l p).2,em,em,0,[]) else if (ndS l p).1.Version=281474976710656 then (l,2,em,em,0,[]) else (upd l (bl p.Path) (Gs p),0,em,em,(ndS l p).1.Version+1,[])):=by
  unfold sL
  rcases F8 l t p hlen hs with ⟨e,he,h1,h2⟩ | ⟨i,hi,h1,h2,h3,h4,h5,h6⟩
  · rw [h2]
    simp only [Option.bind_some]
    rw [if_pos (by simp),h1,if_pos (by omega)]
  · rw [h5]
    simp only [Option.bind_some]
    rw [if_neg (by rw [decide_eq_false (by omega)];simp),cI hi,h1,if_neg (by simp),h2]
    simp only [Option.bind_some]
    by_cases c:(l[i]).Version=281474976710656
    · rw [if_pos (by simpa using c),if_pos c];rfl
    · have:=hv _ (List.getElem_mem hi)
      rw [if_neg (by simpa using c),if_neg c,w64 (by omega) (by omega)]
      simp only [Int.toNat_natCast,List.set_set]
      rw [← h3,← AO hs hi (Gs p)]
      rfl
theorem Oz(x:Nd)(b:ByteArray):vH x b=some (mD (bl b) x):=by
  unfold vH mD
  rw [Cy,show bl x.Path=key x from rfl]
  simp only [Option.bind_some]
  cases h:gT (key x) with
  | none=>rw [if_neg (by simp [os2])];simp
  | some q=>rw [if_pos (by simp [os2]),pC];simp [os2,eG];rfl
theorem Qx(l:List Nd)(b:ByteArray)(hlen:l.length ≤ 1000000):∀ (k j:Nat),j ≤ l.length→l.length+1 ≤ j+k→∃ z:Int,cU l b k (j:Int)=some z∧decide (z ≥ 0)=(l.drop j).any (mD (bl b))
  | 0,j,_,h=>by omega
  | k+1,j,h0,h=>by
    unfold cU
    by_cases hj:j < l.length
    · rw [if_pos (by simpa using hj),cI hj]
      simp only [Option.bind_some]
      rw [Oz]
      simp only [Option.bind_some]
      rw [List.drop_eq_getElem_cons hj,List.any_cons]
      cases hc:mD (bl b) l[j] with
      | true=>rw [if_pos rfl];exact ⟨_,rfl,by simp⟩
      | false=>
        rw [if_neg (by simp),lC (by omega)]
        obtain ⟨z,h1,h2⟩:=Qx l b hlen k (j+1) (by omega) (by omega)
        exact ⟨z,h1,by rw [h2,Bool.false_or]⟩
    · rw [if_neg (by simpa using hj),List.drop_eq_nil_of_le (by omega)]
      exact ⟨_,rfl,rfl⟩
theorem AY(l:List Nd)(b:ByteArray)(hlen:l.length ≤ 1000000):eF l b=some (l.any (mD (bl b))):=by
  unfold eF gJ
  obtain ⟨z,h1,h2⟩:=Qx l b hlen (((l.length:Int) - 0:Int).toNat+1) 0 (by omega) (by omega)
  rw [show cU l b (((l.length:Int) - 0:Int).toNat+1) 0=some z from h1]
  simp only [Option.bind_some]
  rw [h2,List.drop_zero]
theorem Dc(l:List Nd)(u:Int×ByteArray×ByteArray×ByteArray×Int×Int×Bool)(hlen:l.length ≤ 1000000):∀ (k j:Nat) (acc:List ByteArray),j ≤ l.length→l.length+1 ≤ j+k→acc.length ≤ j→gY l u k (j:Int) acc=some (acc ++ ((l.drop j).filter (mD (bl u.2.2.1))).map vX)
  | 0,j,acc,_,h,_=>by omega
  | k+1,j,acc,h0,h,ha=>by
    unfold gY pR
    by_cases hj:j < l.length
    · rw [if_pos (by simpa using hj),cI hj]
      simp only [Option.bind_some]
      rw [Oz,lC (by omega)]
      simp only [Option.bind_some]
      rw [List.drop_eq_getElem_cons hj,List.filter_cons]
      cases hc:mD (bl u.2.2.1) l[j] with
      | true=>
        rw [if_pos rfl,if_pos rfl,Jw]
        simp only [Option.bind_some]
        rw [dQ (by simp [LIM];omega),Dc l u hlen k (j+1) _ (by omega) (by omega) (by simp;omega),show mk (tB (bl (l[j]).Path))=vX l[j] from rfl]
        simp
      | false=>
        rw [if_neg (by simp),if_neg (by simp),Dc l u hlen k (j+1) _ (by omega) (by omega) (by omega)]
    · rw [if_neg (by simpa using hj),List.drop_eq_nil_of_le (by omega),List.filter_nil,List.map_nil,List.append_nil]
theorem Vj(l:List Nd)(t:List Tn)(p:Pt1)(hlen:l.length ≤ 1000000):sO l [] p=some ((l.filter (mD (bl p.Path))).map vX):=by
  unfold sO wR
  simp only [Option.bind_some]
  refine (Dc l _ hlen (((l.length:Int) - 0:Int).toNat+1) 0 [] (by omega) (by omega) (by simp)).trans ?_
  simp
theorem Kv(x:Nd)(w:Int)(r5:ByteArray)(acc:List ByteArray)(ha:acc.length ≤ 1000000):nD x w r5 acc=some (sK (bl r5) w x,if sK (bl r5) w x=true then acc ++ [vX x] else acc):=by
  unfold nD nU nT sK
  by_cases h:x.Owner=w
  · rw [if_pos (by simpa using h),Oz]
    simp only [Option.bind_some]
    rw [show (x.Owner == w)=true from by simpa using h,Bool.true_and]
    cases hc:mD (bl r5) x with
    | true=>
      rw [if_pos rfl,if_pos rfl,Jw]
      simp only [Option.bind_some]
      rw [dQ (by simp [LIM];omega)]
      rfl
    | false=>rw [if_neg (by simp),if_neg (by simp)]
  · rw [if_neg (by simpa using h),if_neg (by simp),show (x.Owner == w)=false from by simpa using h,Bool.false_and,if_neg (by simp)]
theorem Pa(l:List Nd)(w:Int)(r5:ByteArray)(acc:List ByteArray)(ha:acc.length ≤ 500000)(hlen:l.length ≤ 500000):∀ (k j:Nat),j ≤ l.length→l.length+1 ≤ j+k→(∀ m (h:m < l.length),m < j→sK (bl r5) w l[m]=false)→
    (∃ i:Nat,∃ hi:i < l.length,cF l w r5 k (j:Int) acc=some ((i:Int),acc ++ [vX l[i]])∧sK (bl r5) w l[i]=true∧∀ m (h:m < l.length),m < i→sK (bl r5) w l[m]=false)∨(cF l w r5 k (j:Int) acc=some (-1,acc)∧∀ m (h:m < l.length),sK (bl r5) w l[m]=false)
  | 0,j,_,h,_=>by omega
  | k+1,j,h0,h,hb=>by
    unfold cF
    by_cases hj:j < l.length
    · rw [if_pos (by simpa using hj),cI hj]
      simp only [Option.bind_some]
      rw [Kv _ _ _ _ (by omega)]
      simp only [Option.bind_some]
      cases hc:sK (bl r5) w l[j] with
      | true=>exact .inl ⟨j,hj,by rw [if_pos rfl,if_pos rfl],hc,fun m h hm=>hb m h hm⟩
      | false=>
        rw [if_neg (by simp),if_neg (by simp),lC (by omega)]
        refine Pa l w r5 acc ha hlen k (j+1) (by omega) (by omega) fun m h hm=>?_
        by_cases e:m=j
        · subst e;exact hc
        · exact hb m h (by omega)
    · rw [if_neg (by simpa using hj)]
      exact .inr ⟨rfl,fun m h=>hb m h (by omega)⟩
theorem Kb(l0:List Nd)(w:Int)(r5:ByteArray)(hlen:l0.length ≤ 500000):∀ (k i j:Nat) (l:List Nd) (acc:List ByteArray),l.length=l0.length→i ≤ j→j ≤ l0.length→l0.length+1 ≤ j+k→acc.length ≤ j→l.take i=(l0.take j).filter (fun x=>!sK (bl r5) w x)→l.drop j=l0.drop j→
    cL w r5 k l (i:Int) (j:Int) acc=some (l0.filter (fun x=>!sK (bl r5) w x),acc ++ ((l0.drop j).filter (sK (bl r5) w)).map vX)
  | 0,i,j,l,acc,_,_,_,h,_,_,_=>by omega
  | k+1,i,j,l,acc,hl,hij,hj0,h,ha,ht,hd=>by
    unfold cL eK
    by_cases hj:j < l.length
    · have hj':j < l0.length:=by omega
      have hjx:l[j]=l0[j]:=by
        have h1:l[j]? =l0[j]? :=by
          have:=congrArg (fun z:List Nd=>z[0]?) hd
          simpa [List.getElem?_drop] using this
        rw [List.getElem?_eq_getElem hj,List.getElem?_eq_getElem hj'] at h1
        exact Option.some.inj h1
      rw [if_pos (by simpa using hj),cI hj]
      simp only [Option.bind_some]
      rw [hjx]
      rw [Kv _ _ _ _ (by omega)]
      simp only [Option.bind_some]
      have hd':l0.drop j=l0[j]::l0.drop (j+1):=List.drop_eq_getElem_cons hj'
      cases hc:sK (bl r5) w l0[j] with
      | false=>
        rw [if_pos (by rfl),cI (show i < l.length by omega)]
        simp only [Option.bind_some,Int.toNat_natCast]
        rw [if_neg (by simp),lC (show i ≤ 4611686018427387904 by omega),lC (show j ≤ 4611686018427387904 by omega)]
        rw [Kb l0 w r5 hlen k (i+1) (j+1) (l.set i l0[j]) acc (by simpa using hl) (by omega) (by omega) (by omega) (by omega) ?_ ?_]
        · rw [hd',List.filter_cons,if_neg (by simp [hc])]
        · rw [Ai hj',hc,← ht,List.take_add_one]
          rw [List.getElem?_set_self (by omega),List.take_set_of_le (by omega)]
          simp
        · rw [List.drop_set_of_lt (by omega),← List.drop_drop,hd,← List.drop_drop]
      | true=>
        rw [if_neg (by simp),if_pos rfl,lC (show j ≤ 4611686018427387904 by omega)]
        rw [Kb l0 w r5 hlen k i (j+1) l _ hl (by omega) (by omega) (by omega) (by simp;omega) ?_ ?_]
        · rw [hd',List.filter_cons,if_pos (by simp [hc])];simp
        · rw [Ai hj',hc,ht];simp
        · rw [← List.drop_drop,hd,← List.drop_drop]
    · have hje:j=l0.length:=by omega
      subst hje
      rw [if_neg (by simpa using hj),dQ (by omega)]
      have hti:l.take i=l0.filter (fun x=>!sK (bl r5) w x):=by rw [ht,List.take_length]
      simp only [Int.toNat_natCast]
      rw [dQ (by rw [List.length_append,List.length_take,List.length_replicate];omega)]
      have:(l.take i ++ List.replicate (l.length - i) (⟨⟨#[]⟩,⟨#[]⟩,0,0,0⟩:Nd)).take i=l.take i:=by
        rw [List.take_append_of_le_length (by rw [List.length_take];omega),List.take_take,Nat.min_self]
      rw [this,hti,List.drop_length]
      simp
theorem Vk(l:List Nd)(t:List Tn)(p:Pt1)(hlen:l.length ≤ 500000):sM l [] p=some (l.filter (fun x=>!sK (bl p.Path) p.Owner x),(l.filter (sK (bl p.Path) p.Owner)).map vX):=by
  unfold sM wR
  simp only [Option.bind_some]
  unfold gL gI
  rcases Pa l p.Owner p.Path [] (by simp) hlen (((l.length:Int) - 0:Int).toNat+1) 0 (by omega) (by omega) (fun m h hm=>by omega) with ⟨j,hj,h1,h2,h3⟩ | ⟨h1,h3⟩
  · rw [show cF l p.Owner p.Path (((l.length:Int) - 0:Int).toNat+1) 0 []=some ((j:Int),[] ++ [vX l[j]]) from h1]
    simp only [Option.bind_some]
    rw [if_neg (by simp only [beq_iff_eq];omega),lC (by omega)]
    have htk:(l.take j).filter (fun x=>!sK (bl p.Path) p.Owner x)=l.take j:=List.filter_eq_self.2 fun y hy=>by
      obtain ⟨m,hm,rfl⟩:=List.mem_take_iff_getElem.1 hy
      rw [h3 m (by omega) (by omega)];rfl
    have htk2:(l.take j).filter (sK (bl p.Path) p.Owner)= []:=List.filter_eq_nil_iff.2 fun y hy=>by
      obtain ⟨m,hm,rfl⟩:=List.mem_take_iff_getElem.1 hy
      rw [h3 m (by omega) (by omega)];simp
    rw [Kb l p.Owner p.Path hlen _ j (j+1) l _ rfl (by omega) (by omega) (by omega) (by simp) ?_ rfl]
    · simp only [Option.bind_some]
      have:l.filter (sK (bl p.Path) p.Owner)=l[j]::(l.drop (j+1)).filter (sK (bl p.Path) p.Owner):=by
        have e:∀ f:Nd→Bool,l.filter f=(l.take j).filter f ++ (l[j]::l.drop (j+1)).filter f:=fun f=>by rw [← List.filter_append,← List.drop_eq_getElem_cons hj,List.take_append_drop]
        rw [e,htk2,List.filter_cons,if_pos h2]
        rfl
      rw [this]
      rfl
    · rw [Ai hj,htk,h2];simp
  · rw [show cF l p.Owner p.Path (((l.length:Int) - 0:Int).toNat+1) 0 []=some (-1,[]) from h1]
    simp only [Option.bind_some]
    have f1:l.filter (fun x=>!sK (bl p.Path) p.Owner x)=l:=List.filter_eq_self.2 fun y hy=>by
      obtain ⟨m,hm,rfl⟩:=List.mem_iff_getElem.1 hy
      rw [h3 m hm];rfl
    have f2:l.filter (sK (bl p.Path) p.Owner)= []:=List.filter_eq_nil_iff.2 fun y hy=>by
      obtain ⟨m,hm,rfl⟩:=List.mem_iff_getElem.1 hy
      rw [h3 m hm];simp
    rw [f1,f2]
    rfl
def jE(l:List Tn)(d:List UInt8):Int:=match l.find? (gEq bW d) with
  | none=>0
  | some t=>t.Next
def nL(l:List Tn)(d:List UInt8)(n:Int):List Tn:=if n=0 then l.filter (fun t=>!gEq bW d t) else l.filter (gLt bW d) ++ ⟨mk d,n⟩::l.filter (gGt bW d)
theorem FE{x:Tn}{d:List UInt8}(h:bW x=d)(n:Int):({ x with Next:=n }:Tn)= ⟨mk d,n⟩:=by
  subst h;cases x;simp [bW,G6]
theorem N5(l:List Tn)(d:List UInt8)(hs:l.Pairwise (bW · < bW ·)):l.filter (fun t=>!gEq bW d t)=l.filter (gLt bW d) ++ l.filter (gGt bW d):=by
  induction l with
  | nil=>rfl
  | cons x l ih=>
    obtain ⟨h1,h2⟩:=List.pairwise_cons.1 hs
    rw [List.filter_cons,List.filter_cons,List.filter_cons,ih h2]
    by_cases a:bW x < d
    · have b:=vW a
      rw [if_pos (by simp [gEq,b]),if_pos (by simp [gLt,a]),if_neg (by simp [gGt,gLt,a])];rfl
    · have e:l.filter (gLt bW d)= []:=List.filter_eq_nil_iff.2 fun y hy=>by
        have:=h1 y hy
        simp only [gLt,decide_eq_true_eq]
        exact fun h=>a (tT this h)
      rw [if_neg (by simp [gLt,a]:¬ gLt bW d x=true),e]
      by_cases b:bW x=d
      · rw [if_neg (by simp [gEq,b]),if_neg (by simp [gGt,gEq,b])]
      · rw [if_pos (by simp [gEq,b]),if_pos (by simp [gGt,gLt,gEq,a,b])];rfl
theorem Ds{α:Type}(a:List α)(x y:α)(b:List α):(a ++ x::b).set a.length y=a ++ y::b:=by simp
theorem Kw{α:Type}(a:List α)(x:α)(b:List α):(a ++ x::b).eraseIdx a.length=a ++ b:=by
  rw [List.eraseIdx_append_of_length_le (Nat.le_refl _)];simp
theorem An(l:List Tn)(s:ByteArray)(hlen:l.length ≤ 100000)(hs:l.Pairwise (bW · < bW ·)) :
    ∃ i:Nat,∃ b:Bool,cC l s=some ((i:Int),b)∧i=(l.filter (gLt bW (bl s))).length∧i ≤ l.length∧
      (l.filter (gLt bW (bl s)) ++ l.filter (gGt bW (bl s))).length ≤ l.length∧
      ((b=true∧∃ x,bW x=bl s∧jE l (bl s)=x.Next∧x ∈ l∧l=l.filter (gLt bW (bl s)) ++ x::l.filter (gGt bW (bl s)))∨
       (b=false∧jE l (bl s)=0∧l=l.filter (gLt bW (bl s)) ++ l.filter (gGt bW (bl s))∧l.take i ++ (⟨s,0⟩:Tn)::l.drop i=l.filter (gLt bW (bl s)) ++ ⟨s,0⟩::l.filter (gGt bW (bl s)))):=by
  obtain ⟨i,h1,h2,h3,h4⟩:=FD l s (by omega) hs
  have hi:i=(l.filter (gLt bW (bl s))).length:=by rw [← h3,List.length_take];omega
  refine ⟨i,_,h2,hi,h1,?_,?_⟩
  · rw [← N5 l _ hs];exact List.length_filter_le _ _
  · rcases h4 with ⟨x,a,b,c,d,e⟩ | ⟨a,b⟩
    · refine .inl ⟨by rw [c];rfl,x,b,by unfold jE;rw [c],e,?_⟩
      rw [← a,← h3,List.take_append_drop]
    · refine .inr ⟨by rw [b];rfl,by unfold jE;rw [b],?_,by rw [h3,a]⟩
      rw [← a,← h3,List.take_append_drop]
theorem Vl(A B:List Tn)(y:Tn)(b:Bool)(hA:A.length ≤ 1000000):lE ((A.length:Int),b) (A ++ y::B)=some (y.Next,if y.Next=0 then A ++ B else A ++ y::B):=by
  unfold lE oP vQ
  have hi:A.length < (A ++ y::B).length:=by simp
  have hg:(A ++ y::B)[A.length]=y:=by simp
  simp only [Int.toNat_natCast]
  rw [cI hi,hg]
  simp only [Option.bind_some]
  rw [cI (by simp)]
  simp only [Option.bind_some,List.getElem_set_self]
  by_cases c:y.Next=0
  · rw [if_pos (by simpa using c),if_pos c,dQ ⟨by omega,by simp;omega,by rw [w64 (by omega) (by omega)]⟩,Ds,Kw]
  · rw [if_neg (by simpa using c),if_neg c,Ds]
theorem Yh(A B:List Tn)(y:Tn)(b:Bool)(hA:A.length ≤ 1000000):nE ((A.length:Int),b) (A ++ y::B)=some (y.Next,A ++ B):=by
  unfold nE qR yI
  have hi:A.length < (A ++ y::B).length:=by simp
  have hg:(A ++ y::B)[A.length]=y:=by simp
  simp only [Int.toNat_natCast]
  rw [cI hi,hg]
  simp only [Option.bind_some]
  rw [cI (by simp)]
  simp only [Option.bind_some,List.getElem_set_self]
  rw [if_pos (by rfl),dQ ⟨by omega,by simp;omega,by rw [w64 (by omega) (by omega)]⟩,Ds,Kw]
theorem Yi(A B:List Tn)(y:Tn)(b:Bool)(hA:A.length ≤ 1000000)(hn:0 ≤ y.Next∧y.Next ≤ 10000):lF ((A.length:Int),b) (A ++ y::B)=some (y.Next,A ++ { y with Next:=y.Next+1 }::B):=by
  unfold lF oQ vR
  have hi:A.length < (A ++ y::B).length:=by simp
  have hg:(A ++ y::B)[A.length]=y:=by simp
  simp only [Int.toNat_natCast]
  rw [cI hi,hg]
  simp only [Option.bind_some]
  rw [w64 (by omega) (by omega),cI (by simp)]
  simp only [Option.bind_some,List.getElem_set_self]
  rw [if_neg (by simp;omega),Ds]
theorem Vm(l:List Tn)(s:ByteArray)(hlen:l.length ≤ 100000)(hs:l.Pairwise (bW · < bW ·))(hn:∀ y ∈ l,y.Next ≠ 0):rR l s=some (jE l (bl s),l):=by
  obtain ⟨i,z,h1,h2,h2',h3,h4⟩:=An l s hlen hs
  unfold rR
  rw [h1]
  simp only [Option.bind_some]
  rcases h4 with ⟨rfl,y,hy,ht,hm,hl⟩ | ⟨rfl,ht,hl,hd⟩
  · rw [if_neg (by simp),h2]
    conv=>lhs;arg 2;rw [hl]
    rw [Vl _ _ _ _ (by omega),ht,if_neg (hn _ hm),← hl]
  · rw [if_pos (by rfl),dQ (by omega),Int.toNat_natCast,hd,h2,Vl _ _ _ _ (by omega),ht,if_pos rfl,← hl]
theorem Vn(l:List Tn)(s:ByteArray)(hlen:l.length ≤ 100000)(hs:l.Pairwise (bW · < bW ·)):tK l s=some (jE l (bl s),nL l (bl s) 0):=by
  obtain ⟨i,z,h1,h2,h2',h3,h4⟩:=An l s hlen hs
  unfold tK nL
  rw [h1,if_pos rfl,N5 l _ hs]
  simp only [Option.bind_some]
  rcases h4 with ⟨rfl,y,hy,ht,hm,hl⟩ | ⟨rfl,ht,hl,hd⟩
  · rw [if_neg (by simp),h2]
    conv=>lhs;arg 2;rw [hl]
    rw [Yh _ _ _ _ (by omega),ht]
  · rw [if_pos (by rfl),dQ (by omega),Int.toNat_natCast,hd,h2,Yh _ _ _ _ (by omega),ht]
theorem Vo(l:List Tn)(s:ByteArray)(hlen:l.length ≤ 100000)(hs:l.Pairwise (bW · < bW ·))(hn:∀ y ∈ l,1 ≤ y.Next∧y.Next ≤ 10000):rS l s=some (jE l (bl s),nL l (bl s) (jE l (bl s)+1)):=by
  obtain ⟨i,z,h1,h2,h2',h3,h4⟩:=An l s hlen hs
  unfold rS nL
  rw [h1]
  simp only [Option.bind_some]
  rcases h4 with ⟨rfl,y,hy,ht,hm,hl⟩ | ⟨rfl,ht,hl,hd⟩
  · have hny:=hn _ hm
    rw [if_neg (by simp),h2,ht,if_neg (by omega)]
    conv=>lhs;arg 2;rw [hl]
    rw [Yi _ _ _ _ (by omega) (by omega),FE hy]
  · rw [if_pos (by rfl),dQ (by omega),Int.toNat_natCast,hd,h2,Yi _ _ _ _ (by omega) (by simp),ht,if_neg (by decide),G6]
def pop(p:Pt1):Op1:=⟨0,p.Path,mk [],0,0,p.Turns⟩
def Kc(s:Sto)(p:Pt1):Sto×Res:=
  match s6 (pop p) (upP (bl p.Path)) (jE s.Turns (upP (bl p.Path))) with
  | none=>(s,res 66)
  | some q=>if (s.Nodes.find? (isK q)).isSome=true then (s,res 61) else
    (⟨u9 ⟨mk q,p.Data,0,0,p.Owner⟩ s.Nodes,if p.Turns=true then nL s.Turns (upP (bl p.Path)) (jE s.Turns (upP (bl p.Path))+1) else s.Turns⟩,{ res 0 with Path:=mk q })
theorem Ao{s:Sto}(S:eV s):∀ y ∈ s.Turns,1 ≤ y.Next∧y.Next ≤ 10000:=fun y hy=>by
  have:=List.all_eq_true.1 S.turns y hy
  simp [ptB] at this
  omega
theorem Kx{l:List Nd}{x:Nd}(hs:l.Pairwise (key · < key ·))(hn:l.find? (isK (key x))=none):l.filter (gLt key (key x)) ++ x::l.filter (gGt key (key x))=u9 x l:=by
  unfold u9
  congr 2
  refine List.filter_congr fun y hy=>?_
  have:=IA.1 hn y hy
  simp [gGt,gLt,gEq,ltB,this]
theorem Qy(s:Sto)(p:Pt1)(q d:List UInt8)(b:Bool)(hlen:s.Nodes.length ≤ 100000)(hlt:s.Turns.length ≤ 100000)(S:eV s) :
    oR s.Nodes p 0 em 0 [] (mk d,b) (mk q) s.Turns=some (if (s.Nodes.find? (isK q)).isSome=true then (s.Nodes,s.Turns,61,em,em,0,[]) else (u9 ⟨mk q,p.Data,0,0,p.Owner⟩ s.Nodes,(if p.Turns=true then nL s.Turns d (jE s.Turns d+1) else s.Turns),0,mk q,em,0,[])):=by
  unfold oR rU fG
  obtain ⟨i,h1,h2,h3,h4⟩:=Vg s.Nodes (mk q) (by omega) S.nsort
  rw [h2]
  rw [eG] at h3 h4 ⊢
  simp only [Option.bind_some]
  rcases h4 with ⟨x,_,hk,hf,hi,_⟩ | ⟨hd,hf⟩
  · rw [hf];rfl
  · rw [hf]
    simp only [Option.isSome_none,Bool.false_eq_true,if_false,Int.toNat_natCast]
    have e:s.Nodes.take i ++ (⟨mk q,p.Data,0,0,p.Owner⟩:Nd)::s.Nodes.drop i=u9 ⟨mk q,p.Data,0,0,p.Owner⟩ s.Nodes:=by
      rw [h3,hd]
      exact Kx (x:=(⟨mk q,p.Data,0,0,p.Owner⟩:Nd)) S.nsort hf
    cases hT:p.Turns with
    | true=>
      rw [if_pos rfl,if_pos rfl,Vo _ _ hlt S.tsort (Ao S),eG]
      simp only [Option.bind_some]
      rw [dQ (by omega),e]
    | false=>
      rw [if_neg (by simp),if_neg (by simp),dQ (by omega),e]
def Xp(s:Sto)(p:Pt1):List Nd×List Tn×Int×ByteArray×ByteArray×Int×List ByteArray:=
  match s6 (pop p) (upP (bl p.Path)) (jE s.Turns (upP (bl p.Path))) with
  | none=>(s.Nodes,s.Turns,66,em,em,0,[])
  | some q=>if (s.Nodes.find? (isK q)).isSome=true then (s.Nodes,s.Turns,61,em,em,0,[]) else
    (u9 ⟨mk q,p.Data,0,0,p.Owner⟩ s.Nodes,(if p.Turns=true then nL s.Turns (upP (bl p.Path)) (jE s.Turns (upP (bl p.Path))+1) else s.Turns),0,mk q,em,0,[])
theorem AZ(s:Sto)(p:Pt1)(q:List UInt8)(hq:gT (bl p.Path)=some q)(hlen:s.Nodes.length ≤ 100000)(hlt:s.Turns.length ≤ 100000)(S:eV s) :
    uV s.Nodes s.Turns 0 em 0 [] p=some (Xp s p):=by
  unfold uV Xp
  have hu:upP (bl p.Path)=q:=by unfold upP;rw [hq];rfl
  rw [Cy,hq,hu,show (os2 (some q))=(mk q,true) from rfl]
  simp only [Option.bind_some]
  cases hT:p.Turns with
  | false=>
    have hn:s6 (pop p) q (jE s.Turns q)=some (bl p.Path):=by unfold s6;rw [if_neg (by simp [pop,hT])];rfl
    have:=Qy s p (bl p.Path) q true hlen hlt S
    rw [G6,hT] at this
    rw [if_neg (by simp),hn,this]
    simp only [G6]
  | true=>
    have hn:s6 (pop p) q (jE s.Turns q)=(T2 (tB (bl p.Path)) (jE s.Turns q)).map (fun s=>(y1 q s).getD []):=by unfold s6;rw [if_pos (by simp [pop,hT])];rfl
    rw [if_pos rfl,hn,Vm _ _ hlt S.tsort (fun y hy=>by have:=Ao S y hy;omega),Jw,eG]
    simp only [Option.bind_some]
    rw [Pv _ _ (by rw [eG];have:=Gq (bl p.Path);omega),eG]
    simp only [Option.bind_some]
    cases hm:T2 (tB (bl p.Path)) (jE s.Turns q) with
    | none=>
      rw [Jx _ _ (by simp [os2,eG])]
      simp only [Option.bind_some,Option.map_none]
      rw [if_pos (by rfl)]
      rfl
    | some t=>
      obtain ⟨t1,t2,t3⟩:=Jy hm
      have tl:=W8 t1
      rw [show (os2 (some t))=(mk t,true) from rfl]
      simp only
      rw [Jx _ _ (by rw [eG];omega),eG,eG]
      simp only [Option.bind_some,Option.map_some]
      have:=Qy s p ((y1 q t).getD []) q true hlen hlt S
      rw [hT] at this
      rw [if_neg (by simp),show (os2 (y1 q t)).1=mk ((y1 q t).getD []) from by cases y1 q t <;> rfl,this]
      simp
def doP(s:Sto)(p:Pt1):Sto×Res:=
  if p.Kind=2 then Kc s p
  else if p.Kind=4 then if s.Nodes.any (mD (bl p.Path))=true then (s,res 64) else (⟨s.Nodes,nL s.Turns (bl p.Path) 0⟩,res 0)
  else if p.Kind=9 then (s,{ res 0 with Names:=(s.Nodes.filter (mD (bl p.Path))).map vX })
  else if p.Kind=10 then (⟨s.Nodes.filter (fun x=>!sK (bl p.Path) p.Owner x),s.Turns⟩,{ res 0 with Names:=(s.Nodes.filter (sK (bl p.Path) p.Owner)).map vX })
  else if (ndS s.Nodes p).2 ≠ 0 then (s,res (ndS s.Nodes p).2)
  else if p.Kind=1 then (s,res (if (ndS s.Nodes p).1.Owner ≠ 0 then 65 else 0))
  else if p.Kind=3 then (⟨s.Nodes.filter (fun y=>!isK (bl p.Path) y),s.Turns⟩,res 0)
  else if p.Kind=5 then if (ndS s.Nodes p).1.Version=281474976710656 then (s,res 2) else (⟨upd s.Nodes (bl p.Path) (Gs p),s.Turns⟩,{ res 0 with Version:=(ndS s.Nodes p).1.Version+1 })
  else if p.Kind=6 then (s,{ res 0 with Version:=(ndS s.Nodes p).1.Version })
  else if p.Kind=7 then (s,{ res 0 with Data:=(ndS s.Nodes p).1.Data,Version:=(ndS s.Nodes p).1.Version })
  else (s,res 0)
theorem F9{p:Pt1}(h:pZ p=true):rC p.Path p.Data p.Version (-1) p.Owner=true∧bl p.Dir=xM p∧(1 ≤ p.Kind∧p.Kind ≤ 10)∧(p.Kind=2→bl p.Path ≠ [47]):=by
  unfold pZ at h
  simp only [Bool.and_eq_true,Bool.or_eq_true,decide_eq_true_eq,Bool.not_eq_true',decide_eq_false_iff_not] at h
  exact ⟨h.1.1.1,h.1.1.2,h.1.2,fun k=>h.2.resolve_left (fun h'=>h' k)⟩
theorem Kz{p:Pt1}(h:pZ p=true):jD (bl p.Path)=true:=by
  have:=(F9 h).1
  unfold rC at this
  simp only [Bool.and_eq_true] at this
  exact this.1.1.1
theorem T3{p:Pt1}(h:pZ p=true)(hk:p.Kind=2):∃ q,gT (bl p.Path)=some q:=by
  have h1:=Kz h
  have h2:=(F9 h).2.2.2 hk
  unfold jD at h1
  obtain ⟨ps,hp⟩:=Option.isSome_iff_exists.1 h1
  rcases List.eq_nil_or_concat ps with rfl | ⟨qs,t,rfl⟩
  · exact absurd ((kC _ _).1 hp).1 h2
  · unfold gT
    rw [hp]
    exact ⟨mZ (qs.concat t).dropLast,by simp⟩
theorem Dd{s:Sto}(S:eV s):∀ x ∈ s.Nodes,0 ≤ x.Version∧x.Version ≤ 281474976710656:=fun x hx=>by
  have:=List.all_eq_true.1 S.nodes x hx
  simp [pnB,rC] at this
  omega
theorem La(s:Sto)(p:Pt1)(hlen:s.Nodes.length ≤ 100000)(hlt:s.Turns.length ≤ 100000)(S:eV s)(hm:pZ p=true):wS s p=some (doP s p):=by
  unfold wS wH
  obtain ⟨b,h1,h2⟩:=N4 s (by omega) (by omega)
  have hs:=S.nsort
  have hn:s.Nodes.length ≤ 1000000:=by omega
  rw [h1,h2.2 S]
  simp only [Option.bind_some]
  rw [if_neg (by simp),Am,hm]
  simp only [Option.bind_some]
  rw [if_neg (by simp),dQ (by simp [LIM];omega),dQ (by simp [LIM];omega)]
  unfold doP iM
  have hk:=(F9 hm).2.2.1
  have kk:p.Kind=1∨p.Kind=2∨p.Kind=3∨p.Kind=4∨p.Kind=5∨p.Kind=6∨p.Kind=7∨p.Kind=8∨p.Kind=9∨p.Kind=10:=by omega
  rcases kk with c | c | c | c | c | c | c | c | c | c
  all_goals simp only [c,Int.reduceBEq,Int.reduceEq,Bool.false_eq_true,if_true,if_false,beq_self_eq_true,Int.reduceNeg]
  · rw [Vh _ [] _ hn hs]
    simp only [Option.bind_some]
    by_cases e:(ndS s.Nodes p).2=0
    · by_cases o:(ndS s.Nodes p).1.Owner=0
      · simp [e,o];rfl
      · simp [e,o];rfl
    · rw [if_pos e,if_pos (by simpa using e),if_pos e];rfl
  · obtain ⟨q,hq⟩:=T3 hm c
    rw [AZ s p q hq hlen hlt S]
    unfold Xp Kc
    simp only [Option.bind_some]
    cases s6 (pop p) (upP (bl p.Path)) (jE s.Turns (upP (bl p.Path))) with
    | none=>rfl
    | some q=>
      simp only
      by_cases e:(s.Nodes.find? (isK q)).isSome=true
      · rw [if_pos e,if_pos e];rfl
      · rw [if_neg e,if_neg e];rfl
  · rw [Sp _ [] _ hn hs]
    simp only [Option.bind_some]
    by_cases e:(ndS s.Nodes p).2=0
    · simp [e];rfl
    · rw [if_pos (by simpa using e),if_pos e];rfl
  · unfold vP wR fG
    simp only [Option.bind_some]
    rw [AY _ _ hn]
    simp only [Option.bind_some]
    by_cases e:s.Nodes.any (mD (bl p.Path))=true
    · rw [if_pos e,if_pos e];rfl
    · rw [if_neg e,if_neg e,Vn _ _ hlt S.tsort];rfl
  · rw [Vi _ [] _ hn hs (Dd S)]
    simp only [Option.bind_some]
    by_cases e:(ndS s.Nodes p).2=0
    · simp only [e,ne_eq,not_true_eq_false,if_false]
      by_cases v:(ndS s.Nodes p).1.Version=281474976710656
      · rw [if_pos v,if_pos v];rfl
      · rw [if_neg v,if_neg v];rfl
    · rw [if_pos e,if_pos e]
      simp only
      rw [if_pos (by simpa using e)];rfl
  · rw [Xn _ [] _ hn hs]
    simp only [Option.bind_some]
    by_cases e:(ndS s.Nodes p).2=0
    · simp only [e,ne_eq,not_true_eq_false,if_false,bne_self_eq_false,Bool.false_eq_true];rfl
    · rw [if_pos (by simpa using e),if_pos e,if_pos e];rfl
  · rw [Xo _ [] _ hn hs]
    simp only [Option.bind_some]
    by_cases e:(ndS s.Nodes p).2=0
    · simp only [e,ne_eq,not_true_eq_false,if_false,bne_self_eq_false,Bool.false_eq_true];rfl
    · rw [if_pos (by simpa using e),if_pos e,if_pos e,if_pos e];rfl
  · rw [AX _ [] _ hn hs]
    simp only [Option.bind_some]
    by_cases e:(ndS s.Nodes p).2=0
    · simp [e];rfl
    · rw [if_pos (by simpa using e),if_pos e];rfl
  · rw [Vj _ [] _ hn];rfl
  · rw [Vk _ [] _ (by omega)];rfl
theorem Sq(s:Sto)(p:Pt1)(hlen:s.Nodes.length ≤ 100000)(hlt:s.Turns.length ≤ 100000)(h:¬ (eV s∧pZ p=true)):wS s p=some (⟨[],[]⟩,res 1):=by
  unfold wS wH
  obtain ⟨b,h1,h2⟩:=N4 s (by omega) (by omega)
  rw [h1]
  simp only [Option.bind_some]
  cases b with
  | false=>rw [if_pos (by rfl),if_pos trivial];rfl
  | true=>
    rw [if_neg (by simp),Am,show pZ p=false from by cases hm:pZ p with | false=>rfl | true=>exact absurd ⟨h2.1 rfl,hm⟩ h]
    rfl
theorem ife(c b:Bool):(if c=true then some b else some false)=some (c && b):=by cases c <;> rfl
structure SmS (s:Sto):Prop where
  sm:Sm s.Nodes
  smt:∀ t ∈ s.Turns,(bW t).length ≤ 100000000
  len:s.Nodes.length ≤ 90000
  lent:s.Turns.length ≤ 90000
theorem Xq(x:Nd)(hp:(key x).length ≤ 100000000):sB x=some (pnB x):=by
  unfold sB pnB rC
  rw [Ka _ hp]
  simp only [Option.bind_some,ife]
  congr 1
  rw [Bool.eq_iff_iff]
  simp only [Bool.and_eq_true,decide_eq_true_eq,beq_iff_eq]
  rw [cW]
  constructor
  · rintro ⟨h1,h2,h3,h4,h5,h6,h7⟩
    exact ⟨h7,⟨⟨h1,by omega⟩,by omega⟩,by omega⟩
  · rintro ⟨h7,⟨⟨h1,h2⟩,h3⟩,h4⟩
    exact ⟨h1,by omega,by omega,by omega,by omega,by omega,h7⟩
theorem Iq(s:Sto)(hs:SmS s):∀ (k i:Nat),i ≤ s.Turns.length→s.Turns.length+1 ≤ i+k→∃ b,dM s k (i:Int)=some b∧(b=true ↔ ∀ j (h:j < s.Turns.length),i ≤ j→ptB s.Turns[j]=true∧(0 < j→bW (s.Turns[j - 1]'(by omega)) < bW s.Turns[j]))
  | 0,i,_,h=>by omega
  | k+1,i,h0,h=>by
    have hl:=hs.lent
    unfold dM fU
    by_cases hi:i < s.Turns.length
    · rw [if_pos (by simpa using hi),cI hi]
      simp only [Option.bind_some]
      rw [Ka _ (hs.smt _ (List.getElem_mem hi)),lC (by omega)]
      simp only [Option.bind_some,if_true,Bool.false_eq_true,if_false]
      obtain ⟨b,h1,h2⟩:=Iq s hs k (i+1) (by omega) (by omega)
      have bad:∀ P:Prop,¬ (ptB s.Turns[i]=true∧(0 < i→bW (s.Turns[i - 1]'(by omega)) < bW s.Turns[i]))→∃ b,some false=some b∧(b=true ↔ ∀ j (h:j < s.Turns.length),i ≤ j→ptB s.Turns[j]=true∧(0 < j→bW (s.Turns[j - 1]'(by omega)) < bW s.Turns[j])):=fun _ H=>⟨false,rfl,fun h=>by simp at h,fun H'=>absurd (H' i hi (Nat.le_refl _)) H⟩
      have good:(ptB s.Turns[i]=true∧(0 < i→bW (s.Turns[i - 1]'(by omega)) < bW s.Turns[i]))→∃ b,dM s k ((i+1:Nat):Int)=some b∧(b=true ↔ ∀ j (h:j < s.Turns.length),i ≤ j→ptB s.Turns[j]=true∧(0 < j→bW (s.Turns[j - 1]'(by omega)) < bW s.Turns[j])):=fun H=>by
        refine ⟨b,h1,h2.trans ⟨fun H' j hj hij=>?_,fun H' j hj hij=>H' j hj (by omega)⟩⟩
        rcases Nat.lt_or_ge i j with d | d
        · exact H' j hj (by omega)
        · obtain rfl:i=j:=by omega
          exact H
      have e0:bl (s.Turns[i]).Dir=bW s.Turns[i]:=rfl
      rw [e0]
      by_cases a:jD (bW s.Turns[i])=true
      · rw [if_neg (by rw [a];simp)]
        by_cases n1:(s.Turns[i]).Next < 1
        · rw [if_pos (by simpa using n1)]
          exact bad True fun H=>by have:=H.1;simp [ptB] at this;omega
        · rw [if_neg (by simpa using n1)]
          by_cases n2:(s.Turns[i]).Next > 10000
          · rw [if_pos (by simpa using n2)]
            exact bad True fun H=>by have:=H.1;simp [ptB] at this;omega
          · rw [if_neg (by simpa using n2)]
            have ok:ptB s.Turns[i]=true:=by simp [ptB,a];omega
            by_cases z:i=0
            · subst z
              rw [if_neg (by simp)]
              exact good ⟨ok,fun h=>by omega⟩
            · rw [if_pos (decide_eq_true (by omega)),show IntKind.i64.wrap ((i:Int) - 1)=((i - 1:Nat):Int) from by rw [w64 (by omega) (by omega)];omega,cI (show i - 1 < s.Turns.length by omega)]
              simp only [Option.bind_some]
              rw [W7,show bl (s.Turns[i - 1]'(by omega)).Dir=bW (s.Turns[i - 1]'(by omega)) from rfl,e0]
              by_cases c:bW (s.Turns[i - 1]'(by omega)) < bW s.Turns[i]
              · rw [decide_eq_true c,if_neg (by simp)]
                exact good ⟨ok,fun _=>c⟩
              · rw [decide_eq_false c,if_pos (by rfl)]
                exact bad True fun H=>c (H.2 (by omega))
      · rw [if_pos (by simpa using a)]
        exact bad True fun H=>by have:=H.1;simp [ptB] at this;exact a this.1
    · rw [if_neg (by simpa using hi)]
      exact ⟨true,rfl,fun _ j hj hij=>by omega,fun _=>rfl⟩
theorem Ir(s:Sto)(hs:SmS s):∀ (k i:Nat),i ≤ s.Nodes.length→s.Nodes.length+1 ≤ i+k→∃ b,eI s k (i:Int)=some b∧(b=true ↔ (∀ j (h:j < s.Nodes.length),i ≤ j→pnB s.Nodes[j]=true∧(0 < j→key (s.Nodes[j - 1]'(by omega)) < key s.Nodes[j]))∧(∀ j (h:j < s.Turns.length),0 ≤ j→ptB s.Turns[j]=true∧(0 < j→bW (s.Turns[j - 1]'(by omega)) < bW s.Turns[j])))
  | 0,i,_,h=>by omega
  | k+1,i,h0,h=>by
    have hl:=hs.len
    unfold eI jW
    by_cases hi:i < s.Nodes.length
    · rw [if_pos (by simpa using hi),cI hi]
      simp only [Option.bind_some]
      rw [Xq _ (hs.sm _ (List.getElem_mem hi)),lC (by omega)]
      simp only [Option.bind_some,if_true,Bool.false_eq_true,if_false]
      obtain ⟨b,h1,h2⟩:=Ir s hs k (i+1) (by omega) (by omega)
      by_cases a:pnB s.Nodes[i]=true
      · rw [if_neg (by rw [a];simp)]
        have good:(0 < i→key (s.Nodes[i - 1]'(by omega)) < key s.Nodes[i])→∃ b,eI s k ((i+1:Nat):Int)=some b∧(b=true ↔ (∀ j (h:j < s.Nodes.length),i ≤ j→pnB s.Nodes[j]=true∧(0 < j→key (s.Nodes[j - 1]'(by omega)) < key s.Nodes[j]))∧(∀ j (h:j < s.Turns.length),0 ≤ j→ptB s.Turns[j]=true∧(0 < j→bW (s.Turns[j - 1]'(by omega)) < bW s.Turns[j]))):=fun H=>by
          refine ⟨b,h1,h2.trans ⟨fun H'=>⟨fun j hj hij=>?_,H'.2⟩,fun H'=>⟨fun j hj hij=>H'.1 j hj (by omega),H'.2⟩⟩⟩
          rcases Nat.lt_or_ge i j with d | d
          · exact H'.1 j hj (by omega)
          · obtain rfl:i=j:=by omega
            exact ⟨a,H⟩
        by_cases z:i=0
        · subst z
          rw [if_neg (by simp)]
          exact good fun h=>by omega
        · rw [if_pos (decide_eq_true (by omega)),show IntKind.i64.wrap ((i:Int) - 1)=((i - 1:Nat):Int) from by rw [w64 (by omega) (by omega)];omega,cI (show i - 1 < s.Nodes.length by omega)]
          simp only [Option.bind_some]
          rw [W7,show bl (s.Nodes[i - 1]'(by omega)).Path=key (s.Nodes[i - 1]'(by omega)) from rfl,show bl (s.Nodes[i]).Path=key s.Nodes[i] from rfl]
          by_cases c:key (s.Nodes[i - 1]'(by omega)) < key s.Nodes[i]
          · rw [decide_eq_true c,if_neg (by simp)]
            exact good fun _=>c
          · rw [decide_eq_false c,if_pos (by rfl)]
            exact ⟨false,rfl,fun h=>by simp at h,fun H=>absurd ((H.1 i hi (Nat.le_refl _)).2 (by omega)) c⟩
      · rw [if_pos (by simpa using a)]
        exact ⟨false,rfl,fun h=>by simp at h,fun H=>absurd (H.1 i hi (Nat.le_refl _)).1 a⟩
    · rw [if_neg (by simpa using hi)]
      obtain ⟨b,h1,h2⟩:=Iq s hs (((s.Turns.length:Int) - 0:Int).toNat+1) 0 (by omega) (by omega)
      exact ⟨b,h1,h2.trans ⟨fun H=>⟨fun j hj hij=>by omega,H⟩,fun H=>H.2⟩⟩
theorem Dt{α:Type}(l:List α)(f:α→Bool):l.all f=true ↔ ∀ j (h:j < l.length),f l[j]=true:=by
  rw [List.all_eq_true]
  constructor
  · intro H j h;exact H _ (List.getElem_mem h)
  · intro H x hx
    obtain ⟨j,hj,rfl⟩:=List.mem_iff_getElem.1 hx
    exact H j hj
theorem Is(s:Sto)(hs:SmS s):∃ b,uB s=some b∧(b=true ↔ eV s):=by
  obtain ⟨b,h1,h2⟩:=Ir s hs (((s.Nodes.length:Int) - 0:Int).toNat+1) 0 (by omega) (by omega)
  refine ⟨b,h1,h2.trans ⟨fun H=>⟨?_,?_,?_,?_⟩,fun H=>⟨fun j hj _=>⟨?_,?_⟩,fun j hj _=>⟨?_,?_⟩⟩⟩⟩
  · exact (Dt _ _).2 fun j hj=>(H.1 j hj (by omega)).1
  · exact (Da key _).1 fun j hj h0=>(H.1 j hj (by omega)).2 h0
  · exact (Dt _ _).2 fun j hj=>(H.2 j hj (by omega)).1
  · exact (Da bW _).1 fun j hj h0=>(H.2 j hj (by omega)).2 h0
  · exact (Dt _ _).1 H.nodes j hj
  · exact (Da key _).2 H.nsort j hj
  · exact (Dt _ _).1 H.turns j hj
  · exact (Da bW _).2 H.tsort j hj
theorem BA(s:ByteArray)(hp:(bl s).length ≤ 100000000):tQ s=some (mk (upP (bl s))):=by
  unfold tQ upP
  rw [L4 _ hp]
  simp only [Option.bind_some]
  cases gT (bl s) <;> rfl
theorem Ap(p:Pt1)(s:ByteArray)(hs:bl s=xM p)(hp:(bl p.Path).length ≤ 100000000):mO p s=some (pZ p):=by
  unfold mO fR pZ rC
  rw [Ka _ hp,pC,hs,Ot]
  simp only [Option.bind_some,ife]
  have z:=cW p.Data
  generalize hA:jD (bl p.Path)=A
  generalize hB:decide (bl p.Dir=xM p)=B
  cases A <;> cases B
  all_goals simp only [Bool.false_eq_true,if_true,if_false,Bool.false_and,Bool.true_and,Bool.and_false]
  by_cases k1:p.Kind ≥ 1
  · rw [if_pos (decide_eq_true k1)]
    by_cases k2:p.Kind ≤ 10
    · rw [if_pos (decide_eq_true k2)]
      by_cases k3:p.Kind=2
      · rw [if_neg (by simpa using k3)]
        congr 1
        rw [Bool.eq_iff_iff]
        by_cases r:bl p.Path= [47]
        · simp [k3,r]
        · simp [k3,r,z];omega
      · rw [if_pos (by simpa using k3)]
        congr 1
        rw [Bool.eq_iff_iff]
        simp [k1,k2,k3,z];omega
    · rw [if_neg (by simpa using k2)];simp [k2]
  · rw [if_neg (by simpa using k1)];simp [k1]
theorem Pb(p:Pt1)(hp:(bl p.Path).length ≤ 100000000):sR p=some (pZ p):=by
  unfold sR mP
  rw [BA _ hp]
  simp only [Option.bind_some]
  by_cases a:p.Kind=4
  · rw [if_pos (by simpa using a),if_pos trivial,Ap p _ (by unfold xM;rw [if_pos (.inl a)]) hp]
  · rw [if_neg (by simpa using a)]
    by_cases b:p.Kind=9
    · rw [if_pos (by simpa using b),if_pos trivial,Ap p _ (by unfold xM;rw [if_pos (.inr (.inl b))]) hp]
    · rw [if_neg (by simpa using b)]
      by_cases c:p.Kind=10
      · rw [if_pos (by simpa using c),Ap p _ (by unfold xM;rw [if_pos (.inr (.inr c))]) hp]
      · rw [if_neg (by simpa using c),Ap p _ (by rw [eG];unfold xM;rw [if_neg (by simp [a,b,c])]) hp]
theorem Pc(s:Sto)(d:ByteArray)(hl:s.Turns.length ≤ 100000):∀ (k i:Nat),i ≤ s.Turns.length→s.Turns.length+1 ≤ i+k→lM s d k (i:Int)=some (jE (s.Turns.drop i) (bl d))
  | 0,i,_,h=>by omega
  | k+1,i,h0,h=>by
    unfold lM
    by_cases hi:i < s.Turns.length
    · rw [if_pos (by simpa using hi),cI hi,List.drop_eq_getElem_cons hi]
      simp only [Option.bind_some]
      unfold jE
      rw [List.find?_cons,pC,show (gEq bW (bl d) s.Turns[i])=decide (bl (s.Turns[i]).Dir=bl d) from rfl]
      by_cases c:bl (s.Turns[i]).Dir=bl d
      · rw [if_pos (by simpa using c),decide_eq_true c]
      · rw [if_neg (by simpa using c),decide_eq_false c,lC (by omega),Pc s d hl k (i+1) (by omega) (by omega)]
        rfl
    · rw [if_neg (by simpa using hi),List.drop_eq_nil_of_le (by omega)]
      rfl
theorem Xr(s:Sto)(d:ByteArray)(hl:s.Turns.length ≤ 100000):vA s d=some (jE s.Turns (bl d)):=by
  have:=Pc s d hl (((s.Turns.length:Int) - 0:Int).toNat+1) 0 (by omega) (by omega)
  rw [List.drop_zero] at this
  exact this
theorem w9(s:Sto)(d:ByteArray)(n:Int)(hl:s.Turns.length ≤ 100000):∀ (k i:Nat) (acc:List Tn),i ≤ s.Turns.length→s.Turns.length+1 ≤ i+k→acc.length ≤ i+1→dG s d n k acc true (i:Int)=some ⟨s.Nodes,acc ++ (s.Turns.drop i).filter (fun t=>!gEq bW (bl d) t)⟩
  | 0,i,acc,_,h,_=>by omega
  | k+1,i,acc,h0,h,ha=>by
    unfold dG jH jG jF jI
    by_cases hi:i < s.Turns.length
    · rw [if_pos (by simpa using hi),if_neg (by simp),if_neg (by simp),cI hi,List.drop_eq_getElem_cons hi,List.filter_cons]
      simp only [Option.bind_some]
      rw [pC,lC (by omega),show (gEq bW (bl d) s.Turns[i])=decide (bl (s.Turns[i]).Dir=bl d) from rfl]
      by_cases c:bl (s.Turns[i]).Dir=bl d
      · rw [if_neg (by simpa using c),if_neg (by simpa using c),w9 s d n hl k (i+1) acc (by omega) (by omega) (by omega)]
      · rw [if_pos (by simpa using c),if_pos (by simpa using c),dQ (by simp [LIM];omega),w9 s d n hl k (i+1) _ (by omega) (by omega) (by simp;omega)]
        simp
    · rw [if_neg (by simpa using hi),if_neg (by simp),List.drop_eq_nil_of_le (by omega)]
      simp
theorem It(s:Sto)(d:ByteArray)(n:Int)(hl:s.Turns.length ≤ 100000)(hs:s.Turns.Pairwise (bW · < bW ·)):∀ (k i:Nat) (acc:List Tn),i ≤ s.Turns.length→s.Turns.length+1 ≤ i+k→acc.length ≤ i→dG s d n k acc false (i:Int)=some ⟨s.Nodes,acc ++ ((s.Turns.drop i).filter (gLt bW (bl d)) ++ ⟨d,n⟩::(s.Turns.drop i).filter (gGt bW (bl d)))⟩
  | 0,i,acc,_,h,_=>by omega
  | k+1,i,acc,h0,h,ha=>by
    unfold dG jH jG jF jI
    by_cases hi:i < s.Turns.length
    · rw [if_pos (by simpa using hi),if_pos (by rfl),cI hi]
      simp only [Option.bind_some]
      rw [W7,pC,lC (by omega),show bl (s.Turns[i]).Dir=bW s.Turns[i] from rfl]
      have hd:=List.drop_eq_getElem_cons hi
      by_cases c:bW s.Turns[i] < bl d
      · have c2:=vW c
        rw [if_neg (by simpa using c),if_pos (by simpa using c2),dQ (by simp [LIM];omega),It s d n hl hs k (i+1) _ (by omega) (by omega) (by simp;omega),hd,List.filter_cons,List.filter_cons,if_pos (by simpa [gLt] using c),if_neg (by simp [gGt,gLt,c])]
        simp
      · have hp:=hs.sublist (List.drop_sublist i s.Turns)
        have e1:(s.Turns.drop i).filter (gLt bW (bl d))= []:=List.filter_eq_nil_iff.2 fun y hy=>by
          rw [hd] at hy hp
          have h5:=List.pairwise_cons.1 hp
          simp only [gLt,decide_eq_true_eq]
          rcases List.mem_cons.1 hy with rfl | hy
          · exact c
          · exact fun h=>c (tT (h5.1 y hy) h)
        have e2:=N5 (s.Turns.drop i) (bl d) hp
        rw [e1,List.nil_append] at e2 ⊢
        rw [← e2,hd,List.filter_cons,show (gEq bW (bl d) s.Turns[i])=decide (bW s.Turns[i]=bl d) from rfl]
        rw [if_pos (by simpa using c),dQ (by simp [LIM];omega)]
        by_cases c3:bW s.Turns[i]=bl d
        · rw [if_neg (by simpa using c3),if_neg (by simpa using c3),w9 s d n hl k (i+1) _ (by omega) (by omega) (by simp;omega)]
          simp
        · rw [if_pos (by simpa using c3),if_pos (by simpa using c3),dQ (by simp [LIM];omega),w9 s d n hl k (i+1) _ (by omega) (by omega) (by simp;omega)]
          simp
    · rw [if_neg (by simpa using hi),if_pos (by rfl),List.drop_eq_nil_of_le (by omega),dQ (by simp [LIM];omega)]
      simp
theorem Lb(s:Sto)(d:ByteArray)(n:Int)(hl:s.Turns.length ≤ 100000)(hs:s.Turns.Pairwise (bW · < bW ·)):mQ s d n=some ⟨s.Nodes,nL s.Turns (bl d) n⟩:=by
  unfold mQ nL
  by_cases h:n=0
  · subst h
    rw [if_pos rfl]
    refine (w9 s d 0 hl (((s.Turns.length:Int) - 0:Int).toNat+1) 0 [] (by omega) (by omega) (by simp)).trans ?_
    simp
  · rw [if_neg h,show (n == 0)=false from by simpa using h]
    refine (It s d n hl hs (((s.Turns.length:Int) - 0:Int).toNat+1) 0 [] (by omega) (by omega) (by simp)).trans ?_
    rw [G6]
    simp
theorem T4(s:Sto)(d:ByteArray)(hl:s.Nodes.length ≤ 100000):∀ (k i:Nat) (acc:List Nd),i ≤ s.Nodes.length→s.Nodes.length+1 ≤ i+k→acc.length ≤ i→eX s d k acc (i:Int)=some ⟨acc ++ (s.Nodes.drop i).filter (fun y=>!isK (bl d) y),s.Turns⟩
  | 0,i,acc,_,h,_=>by omega
  | k+1,i,acc,h0,h,ha=>by
    unfold eX mB
    by_cases hi:i < s.Nodes.length
    · rw [if_pos (by simpa using hi),cI hi,List.drop_eq_getElem_cons hi,List.filter_cons]
      simp only [Option.bind_some]
      rw [Jz,lC (by omega)]
      cases hc:isK (bl d) s.Nodes[i] with
      | true=>rw [if_neg (by simp),if_neg (by simp),T4 s d hl k (i+1) acc (by omega) (by omega) (by omega)]
      | false=>
        rw [if_pos (by rfl),if_pos (by rfl),dQ (by simp [LIM];omega),T4 s d hl k (i+1) _ (by omega) (by omega) (by simp;omega)]
        simp
    · rw [if_neg (by simpa using hi),List.drop_eq_nil_of_le (by omega)]
      simp
theorem Ey(s:Sto)(d:ByteArray)(hl:s.Nodes.length ≤ 100000):pA s d=some ⟨s.Nodes.filter (fun y=>!isK (bl d) y),s.Turns⟩:=by
  refine (T4 s d hl (((s.Nodes.length:Int) - 0:Int).toNat+1) 0 [] (by omega) (by omega) (by simp)).trans ?_
  simp
theorem BB(s:Sto)(p:Pt1)(q d:List UInt8)(hl:s.Nodes.length ≤ 90000)(ht:s.Turns.length ≤ 90000)(S:eV s)(n:Int)(hn:0 ≤ n∧n ≤ 10000) :
    mR (mk q,true) p s (mk d,true) n false=some (if (s.Nodes.find? (isK q)).isSome=true then (s,res 61) else (⟨u9 ⟨mk q,p.Data,0,0,p.Owner⟩ s.Nodes,if p.Turns=true then nL s.Turns d (n+1) else s.Turns⟩,{ res 0 with Path:=mk q })):=by
  unfold mR pY
  rw [if_neg (by simp),Om _ _ (by omega),eG]
  simp only [Option.bind_some]
  cases hf:s.Nodes.find? (isK q) with
  | some x=>rw [A6 hf];rfl
  | none=>
    rw [A5 hf]
    simp only [Bool.false_eq_true,if_false,Option.isSome_none]
    have e:kA s.Nodes (⟨mk q,p.Data,0,0,p.Owner⟩:Nd)=some (u9 ⟨mk q,p.Data,0,0,p.Owner⟩ s.Nodes):=by
      rw [Uz _ _ (by omega) S.nsort];exact congrArg some (AU (x:=(⟨mk q,p.Data,0,0,p.Owner⟩:Nd)) (fun y hy=>IA.1 hf y hy))
    cases hT:p.Turns with
    | true=>
      simp only [if_true]
      rw [w64 (by omega) (by omega),Lb s _ _ (by omega) S.tsort,eG]
      simp only [Option.bind_some]
      rw [e]
      rfl
    | false=>
      simp only [Bool.false_eq_true,if_false]
      rw [e]
      rfl
theorem Vp{s:Sto}(S:eV s)(d:List UInt8):0 ≤ jE s.Turns d∧jE s.Turns d ≤ 10000:=by
  unfold jE
  cases h:s.Turns.find? (gEq bW d) with
  | none=>simp
  | some t=>have:=Ao S t (List.mem_of_find?_eq_some h);simp only;omega
theorem BC(s:Sto)(p:Pt1)(q:List UInt8)(hq:gT (bl p.Path)=some q)(hp:(bl p.Path).length ≤ 100000000)(hl:s.Nodes.length ≤ 90000)(ht:s.Turns.length ≤ 90000)(S:eV s):sS s p=some (Kc s p):=by
  unfold sS Kc
  have hu:upP (bl p.Path)=q:=by unfold upP;rw [hq];rfl
  rw [L4 _ hp,hq,hu,show (os2 (some q))=(mk q,true) from rfl]
  simp only [Option.bind_some]
  rw [Xr s _ (by omega),eG]
  simp only [Option.bind_some]
  rw [show (⟨0,p.Path,ByteArray.mk #[],0,0,p.Turns⟩:Op1)=pop p from rfl,Ux (pop p) q _ hp hq]
  simp only [Option.bind_some]
  rw [if_neg (by simp)]
  cases hn:s6 (pop p) q (jE s.Turns q) with
  | none=>rfl
  | some t=>
    rw [show os2 (some t)=(mk t,true) from rfl]
    exact BB s p t q hl ht S _ (Vp S q)
theorem Lc(p:Pt1)(hk:p.Kind=9)(c l:List Nd)(t:List Tn)(hc:c.length ≤ 1000000)(sm:Sm c):∀ (k i:Nat) (acc:List ByteArray),i ≤ c.length→c.length+1 ≤ i+k→acc.length ≤ i→eN c p k acc (i:Int) l t=some (⟨l,t⟩,{ res 0 with Names:=acc ++ (c.drop i).map vX })
  | 0,i,acc,_,h,_=>by omega
  | k+1,i,acc,h0,h,ha=>by
    unfold eN kK
    by_cases hi:i < c.length
    · rw [if_pos (by simpa using hi),if_pos (by simpa using hk),cI hi]
      simp only [Option.bind_some]
      rw [Gr _ (sm _ (List.getElem_mem hi))]
      simp only [Option.bind_some]
      rw [dQ (by simp [LIM];omega),lC (by omega),Lc p hk c l t hc sm k (i+1) _ (by omega) (by omega) (by simp;omega),List.drop_eq_getElem_cons hi,List.map_cons,show mk (tB (bl (c[i]).Path))=vX c[i] from rfl,List.append_assoc]
      rfl
    · rw [if_neg (by simpa using hi),List.drop_eq_nil_of_le (by omega),List.map_nil,List.append_nil]
      rfl
theorem De(p:Pt1)(hk:p.Kind=10)(c:List Nd)(t:List Tn)(hc:c.length ≤ 100000)(sm:Sm c):∀ (k i:Nat) (l:List Nd) (acc:List ByteArray),l.length ≤ 100000→i ≤ c.length→c.length+1 ≤ i+k→acc.length ≤ i→eN c p k acc (i:Int) l t=some (⟨l.filter (fun y=>!w8 p.Owner (c.drop i) y),t⟩,{ res 0 with Names:=acc ++ ((c.drop i).filter (fun z=>z.Owner == p.Owner)).map vX })
  | 0,i,l,acc,_,_,h,_=>by omega
  | k+1,i,l,acc,hl,h0,h,ha=>by
    unfold eN kK
    by_cases hi:i < c.length
    · rw [if_pos (by simpa using hi),if_neg (by simp [hk]),cI hi]
      simp only [Option.bind_some]
      rw [List.drop_eq_getElem_cons hi,List.filter_cons]
      cases ho:(c[i]).Owner == p.Owner with
      | true=>
        rw [if_pos rfl,if_pos rfl,Gr _ (sm _ (List.getElem_mem hi))]
        simp only [Option.bind_some]
        rw [dQ (by simp [LIM];omega),Ey ⟨l,t⟩ _ hl]
        simp only [Option.bind_some]
        rw [lC (by omega),De p hk c t hc sm k (i+1) _ _ (Nat.le_trans (List.length_filter_le _ _) hl) (by omega) (by omega) (by simp;omega),List.filter_filter]
        have e:(fun y:Nd=>(!w8 p.Owner (c.drop (i+1)) y) && !isK (bl (c[i]).Path) y)=fun y=>!w8 p.Owner (c[i]::c.drop (i+1)) y:=by
          funext y
          unfold w8
          rw [List.any_cons,ho,show bl (c[i]).Path=key c[i] from rfl]
          cases isK (key c[i]) y <;> simp
        rw [e]
        simp [vX,key]
      | false=>
        rw [if_neg (by simp),if_neg (by simp),lC (by omega),De p hk c t hc sm k (i+1) _ _ hl (by omega) (by omega) (by omega)]
        have e:(fun y:Nd=>!w8 p.Owner (c.drop (i+1)) y)=fun y=>!w8 p.Owner (c[i]::c.drop (i+1)) y:=by
          funext y
          unfold w8
          rw [List.any_cons,ho]
          rfl
        rw [e]
    · rw [if_neg (by simpa using hi),List.drop_eq_nil_of_le (by omega)]
      rw [List.filter_eq_self.2 fun y hy=>by simp [w8]]
      simp [res,mk]
theorem Sr(l:List Nd)(q:List UInt8)(w:Int)(hs:l.Pairwise (key · < key ·)):l.filter (fun y=>!w8 w (l.filter (mD q)) y)=l.filter (fun y=>!sK q w y):=by
  refine List.filter_congr fun y hy=>?_
  congr 1
  unfold w8 sK
  rw [Bool.eq_iff_iff]
  simp only [List.any_eq_true,Bool.and_eq_true,List.mem_filter,isK,decide_eq_true_eq]
  constructor
  · rintro ⟨z,⟨hz,h1⟩,h2,h3⟩
    obtain rfl:=Ip hs hz hy h3.symm
    exact ⟨h2,h1⟩
  · rintro ⟨h2,h1⟩
    exact ⟨y,⟨hy,h1⟩,h2,rfl⟩
theorem FF(s:Sto)(p:Pt1)(hs:SmS s)(hp:(bl p.Path).length ≤ 100000000)(S:eV s)(hm:pZ p=true):mC s p=some (doP s p):=by
  unfold mC nK nJ nI nH qV
  obtain ⟨b,h1,h2⟩:=Is s hs
  have hn:=S.nsort
  have hl:=hs.len
  have ht:=hs.lent
  rw [h1,h2.2 S]
  simp only [Option.bind_some]
  rw [if_neg (by simp),Pb p hp,hm]
  simp only [Option.bind_some]
  rw [if_neg (by simp)]
  have hk:=(F9 hm).2.2.1
  have smc:Sm (s.Nodes.filter (mD (bl p.Path))):=fun y hy=>hs.sm y (List.mem_filter.1 hy).1
  have lc:(s.Nodes.filter (mD (bl p.Path))).length ≤ 90000:=Nat.le_trans (List.length_filter_le _ _) hl
  unfold doP xL
  rw [Om _ _ (by omega),Px _ _ (by omega) hs.sm]
  simp only [Option.bind_some]
  have kk:p.Kind=1∨p.Kind=2∨p.Kind=3∨p.Kind=4∨p.Kind=5∨p.Kind=6∨p.Kind=7∨p.Kind=8∨p.Kind=9∨p.Kind=10:=by omega
  have fin:∀ (x:Nd),s.Nodes.find? (isK (bl p.Path))=some x→((p.Kind=3∨p.Kind=5∨p.Kind=6)→(Db p x=true ↔ (0 ≤ p.Version∧p.Version ≠ x.Version)))∧((p.Kind ≠ 3∧p.Kind ≠ 5∧p.Kind ≠ 6)→Db p x=false):=fun x _=>by
    unfold Db
    refine ⟨fun h=>?_,fun h=>?_⟩
    · rcases h with h | h | h <;> simp [h]
    · simp [h.1,h.2.1,h.2.2]
  rcases kk with c | c | c | c | c | c | c | c | c | c
  all_goals simp only [c,Int.reduceBEq,Int.reduceEq,Bool.false_eq_true,if_true,if_false,beq_self_eq_true,Int.reduceNeg]
  · cases hf:s.Nodes.find? (isK (bl p.Path)) with
    | none=>rw [A5 hf,show ndS s.Nodes p=(zNd,62) from by unfold ndS;rw [hf]];rfl
    | some x=>
      rw [A6 hf,show ndS s.Nodes p=(x,0) from by unfold ndS;rw [hf];simp [(fin x hf).2 (by omega)]]
      by_cases o:x.Owner=0
      · simp [o];rfl
      · simp [o];rfl
  · obtain ⟨q,hq⟩:=T3 hm c
    rw [BC s p q hq hp hl ht S]
    rfl
  · cases hf:s.Nodes.find? (isK (bl p.Path)) with
    | none=>rw [A5 hf,show ndS s.Nodes p=(zNd,62) from by unfold ndS;rw [hf]];rfl
    | some x=>
      have:=(fin x hf).1 (by omega)
      rw [A6 hf,Ey s _ (by omega)]
      by_cases v:Db p x=true
      · have v2:=this.1 v
        rw [show ndS s.Nodes p=(x,63) from by unfold ndS;rw [hf];simp [v]]
        simp [v2.1,v2.2];rfl
      · have v2:=fun h=>v (this.2 h)
        rw [show ndS s.Nodes p=(x,0) from by unfold ndS;rw [hf];simp [v]]
        by_cases a:0 ≤ p.Version
        · have:p.Version=x.Version:=Decidable.byContradiction fun h=>v2 ⟨a,h⟩
          simp [a,this];rfl
        · simp [a];rfl
  · cases ha:s.Nodes.any (mD (bl p.Path)) with
    | true=>
      obtain ⟨y,hy,hc⟩:=List.any_eq_true.1 ha
      rw [if_pos (by simpa using ⟨y,hy,hc⟩)];rfl
    | false=>
      have:s.Nodes.filter (mD (bl p.Path))= []:=List.filter_eq_nil_iff.2 fun y hy=>by
        have:=List.any_eq_false.1 ha y hy
        simpa using this
      rw [this,if_neg (by simp),Lb s _ _ (by omega) S.tsort]
      rfl
  · cases hf:s.Nodes.find? (isK (bl p.Path)) with
    | none=>rw [A5 hf,show ndS s.Nodes p=(zNd,62) from by unfold ndS;rw [hf]];rfl
    | some x=>
      have:=(fin x hf).1 (by omega)
      have hx:=On hf
      have hv:=Dd S x hx.1
      rw [A6 hf]
      by_cases v:Db p x=true
      · have v2:=this.1 v
        rw [show ndS s.Nodes p=(x,63) from by unfold ndS;rw [hf];simp [v]]
        simp [v2.1,v2.2];rfl
      · have v2:=fun h=>v (this.2 h)
        rw [show ndS s.Nodes p=(x,0) from by unfold ndS;rw [hf];simp [v]]
        have e:(if decide (x.Version ≥ 281474976710656)=true then some (s,(⟨2,ByteArray.mk #[],ByteArray.mk #[],0,[]⟩:Res)) else ((kA s.Nodes (⟨x.Path,p.Data,IntKind.i64.wrap (x.Version+1),x.Turn,x.Owner⟩:Nd)).bind fun u72=>some ((⟨u72,s.Turns⟩:Sto),(⟨0,ByteArray.mk #[],ByteArray.mk #[],IntKind.i64.wrap (x.Version+1),[]⟩:Res))))=some (if x.Version=281474976710656 then (s,res 2) else (⟨upd s.Nodes (bl p.Path) (Gs p),s.Turns⟩,{ res 0 with Version:=x.Version+1 })):=by
          by_cases h4:x.Version=281474976710656
          · rw [if_pos (by simp;omega),if_pos h4];rfl
          · rw [if_neg (by simp;omega),if_neg h4,w64 (by omega) (by omega),show (⟨x.Path,p.Data,x.Version+1,x.Turn,x.Owner⟩:Nd)=Gs p x from rfl,Uz _ _ (by omega) hn,AV hn hx.1 (Gs p) rfl rfl,hx.2]
            rfl
        by_cases a:0 ≤ p.Version
        · have hv2:p.Version=x.Version:=Decidable.byContradiction fun h=>v2 ⟨a,h⟩
          rw [hv2] at a
          simp only [hv2,a,decide_true,if_true,ge_iff_le,bne_self_eq_false,Bool.not_true,Bool.false_eq_true,if_false,ne_eq,not_true_eq_false]
          exact e
        · have a':decide (p.Version ≥ 0)=false:=decide_eq_false a
          simp only [a',Bool.not_true,Bool.false_eq_true,if_false,ne_eq,not_true_eq_false]
          exact e
  · cases hf:s.Nodes.find? (isK (bl p.Path)) with
    | none=>rw [A5 hf,show ndS s.Nodes p=(zNd,62) from by unfold ndS;rw [hf]];rfl
    | some x=>
      have:=(fin x hf).1 (by omega)
      rw [A6 hf]
      by_cases v:Db p x=true
      · have v2:=this.1 v
        rw [show ndS s.Nodes p=(x,63) from by unfold ndS;rw [hf];simp [v]]
        simp [v2.1,v2.2];rfl
      · have v2:=fun h=>v (this.2 h)
        rw [show ndS s.Nodes p=(x,0) from by unfold ndS;rw [hf];simp [v]]
        by_cases a:0 ≤ p.Version
        · have hv2:p.Version=x.Version:=Decidable.byContradiction fun h=>v2 ⟨a,h⟩
          rw [hv2] at a
          simp only [hv2,a,decide_true,if_true,ge_iff_le,bne_self_eq_false,Bool.not_true,Bool.false_eq_true,if_false,ne_eq,not_true_eq_false]
          rfl
        · have a':decide (p.Version ≥ 0)=false:=decide_eq_false a
          simp only [a',Bool.not_true,Bool.false_eq_true,if_false,ne_eq,not_true_eq_false]
          rfl
  · cases hf:s.Nodes.find? (isK (bl p.Path)) with
    | none=>rw [A5 hf,show ndS s.Nodes p=(zNd,62) from by unfold ndS;rw [hf]];rfl
    | some x=>
      rw [A6 hf,show ndS s.Nodes p=(x,0) from by unfold ndS;rw [hf];simp [(fin x hf).2 (by omega)]]
      rfl
  · cases hf:s.Nodes.find? (isK (bl p.Path)) with
    | none=>rw [A5 hf,show ndS s.Nodes p=(zNd,62) from by unfold ndS;rw [hf]];rfl
    | some x=>
      rw [A6 hf,show ndS s.Nodes p=(x,0) from by unfold ndS;rw [hf];simp [(fin x hf).2 (by omega)]]
      rfl
  · have:=Lc p c _ s.Nodes s.Turns (by omega) smc (((s.Nodes.filter (mD (bl p.Path))).length:Int) - 0:Int).toNat.succ 0 [] (by omega) (by omega) (by simp)
    refine (congrArg (fun z:Option (Sto×Res)=>z.bind fun u36=>some (u36.1,u36.2)) this).trans ?_
    rfl
  · have:=De p c _ s.Turns (by omega) smc (((s.Nodes.filter (mD (bl p.Path))).length:Int) - 0:Int).toNat.succ 0 s.Nodes [] (by omega) (by omega) (by omega) (by simp)
    refine (congrArg (fun z:Option (Sto×Res)=>z.bind fun u36=>some (u36.1,u36.2)) this).trans ?_
    rw [List.drop_zero,List.filter_filter,Sr _ _ _ hn]
    rfl
theorem BD(s:Sto)(p:Pt1)(hs:SmS s)(hp:(bl p.Path).length ≤ 100000000)(h:¬ (eV s∧pZ p=true)):mC s p=some (⟨[],[]⟩,res 1):=by
  unfold mC nK
  obtain ⟨b,h1,h2⟩:=Is s hs
  rw [h1]
  simp only [Option.bind_some]
  cases b with
  | false=>rw [if_pos (by rfl),if_pos trivial];rfl
  | true=>
    rw [if_neg (by simp),Pb p hp,show pZ p=false from by cases hm:pZ p with | false=>rfl | true=>exact absurd ⟨h2.1 rfl,hm⟩ h]
    rfl
theorem Ez{α:Type}(κ:α→List UInt8)(l:List α)(d:List UInt8)(x:α)(hx:κ x=d)(hs:l.Pairwise (κ · < κ ·)):(l.filter (gLt κ d) ++ x::l.filter (gGt κ d)).Pairwise (κ · < κ ·):=by
  have g:∀ y ∈ l.filter (gGt κ d),d < κ y:=fun y hy=>by
    have h1:=(List.mem_filter.1 hy).2
    simp only [gGt,gLt,gEq,Bool.and_eq_true,Bool.not_eq_true',decide_eq_false_iff_not] at h1
    exact Va h1.1 h1.2
  have f:∀ y ∈ l.filter (gLt κ d),κ y < d:=fun y hy=>by
    have h1:=(List.mem_filter.1 hy).2
    simpa [gLt] using h1
  refine List.pairwise_append.2 ⟨hs.filter _,List.pairwise_cons.2 ⟨fun y hy=>hx ▸ g y hy,hs.filter _⟩,fun a ha b hb=>?_⟩
  rcases List.mem_cons.1 hb with rfl | hb
  · exact hx ▸ f a ha
  · exact tT (f a ha) (g b hb)
theorem X1{l:List Tn}(hs:l.Pairwise (bW · < bW ·))(d:List UInt8)(n:Int):(nL l d n).Pairwise (bW · < bW ·):=by
  unfold nL
  split
  · exact hs.filter _
  · exact Ez bW l d _ rfl hs
theorem Fa{l:List Tn}{d:List UInt8}{n:Int}{t:Tn}(h:t ∈ nL l d n):t ∈ l∨(t= ⟨mk d,n⟩∧n ≠ 0):=by
  unfold nL at h
  split at h
  · exact .inl (List.mem_filter.1 h).1
  · rcases List.mem_append.1 h with h | h
    · exact .inl (List.mem_filter.1 h).1
    · rcases List.mem_cons.1 h with h | h
      · exact .inr ⟨h,by assumption⟩
      · exact .inl (List.mem_filter.1 h).1
theorem Ss{α:Type}(κ:α→List UInt8)(l:List α)(d:List UInt8):(l.filter (gLt κ d)).length+(l.filter (gGt κ d)).length ≤ l.length:=by
  induction l with
  | nil=>simp
  | cons x l ih=>
    rw [List.filter_cons,List.filter_cons]
    by_cases a:κ x < d
    · rw [if_pos (by simpa [gLt] using a),if_neg (by simp [gGt,gLt,a])];simp;omega
    · rw [if_neg (by simpa [gLt] using a)]
      split <;> simp <;> omega
theorem Fb(l:List Tn)(d:List UInt8)(n:Int):(nL l d n).length ≤ l.length+1:=by
  unfold nL
  split
  · have:=List.length_filter_le (fun t=>!gEq bW d t) l;omega
  · have:=Ss bW l d
    simp;omega
theorem St{l:List Nd}{x:Nd}(hs:l.Pairwise (key · < key ·))(hn:l.find? (isK (key x))=none):(u9 x l).Pairwise (key · < key ·):=by
  rw [← Kx hs hn]
  exact Ez key l _ x rfl hs
theorem eV.mk' {s:Sto} {l:List Nd} (S:eV s) (h1:∀ x ∈ l,pnB x=true) (h2:l.Pairwise (key · < key ·)):eV ⟨l,s.Turns⟩:=⟨List.all_eq_true.2 h1,h2,S.turns,S.tsort⟩
theorem Vq(s:Sto)(p:Pt1)(S:eV s)(hm:pZ p=true):eV (doP s p).1∧(doP s p).1.Nodes.length ≤ s.Nodes.length+1∧(doP s p).1.Turns.length ≤ s.Turns.length+1∧(doP s p).2.Names.length ≤ s.Nodes.length:=by
  have hS:eV s∧s.Nodes.length ≤ s.Nodes.length+1∧s.Turns.length ≤ s.Turns.length+1∧([]:List ByteArray).length ≤ s.Nodes.length:=⟨S,by omega,by omega,by simp⟩
  have hN:=fun x hx=>List.all_eq_true.1 S.nodes x hx
  have hfl:∀ f:Nd→Bool,eV ⟨s.Nodes.filter f,s.Turns⟩:=fun f=>S.mk' (fun x hx=>hN x (List.mem_filter.1 hx).1) (S.nsort.filter _)
  have hf:=(F9 hm).1
  unfold rC at hf
  simp only [Bool.and_eq_true,decide_eq_true_eq] at hf
  unfold doP
  split
  · rename_i c
    obtain ⟨q,hq⟩:=T3 hm c
    have hu:upP (bl p.Path)=q:=by unfold upP;rw [hq];rfl
    unfold Kc
    rw [hu]
    cases hn:s6 (pop p) q (jE s.Turns q) with
    | none=>exact hS
    | some t=>
      obtain ⟨n1,n2⟩:=Pw (o:=pop p) hq hn
      simp only
      split
      · exact hS
      · rename_i hne
        have hfn:s.Nodes.find? (isK t)=none:=by
          rcases HU (s.Nodes.find? (isK t)) with h | ⟨x,h⟩
          · exact h
          · rw [h] at hne;exact absurd rfl hne
        obtain ⟨ps,a,hp1,_⟩:=W9 n1
        have tok:jD t=true:=by unfold jD;rw [hp1];rfl
        obtain ⟨_,_,_,_,hp2,_⟩:=W9 hq
        have qok:jD q=true:=by unfold jD;rw [hp2];rfl
        have hns:eV ⟨u9 ⟨mk t,p.Data,0,0,p.Owner⟩ s.Nodes,s.Turns⟩:=S.mk' (fun x hx=>by
            rcases IB.1 hx with rfl | hx
            · unfold pnB rC
              simp only [eG,tok]
              simp
              exact ⟨hf.1.1.2,hf.2⟩
            · exact hN x hx) (St (x:=(⟨mk t,p.Data,0,0,p.Owner⟩:Nd)) S.nsort hfn)
        have hil:=AQ (⟨mk t,p.Data,0,0,p.Owner⟩:Nd) s.Nodes
        cases hT:p.Turns with
        | false=>exact ⟨hns,by simp only;omega,by simp,by simp [res]⟩
        | true=>
          have n3:=n2 hT
          refine ⟨⟨hns.nodes,hns.nsort,List.all_eq_true.2 fun y hy=>?_,X1 S.tsort _ _⟩,by simp only;omega,Fb _ _ _,by simp [res]⟩
          rcases Fa hy with hy | ⟨rfl,_⟩
          · exact List.all_eq_true.1 S.turns y hy
          · unfold ptB
            simp only [bW,eG,qok,Bool.true_and,decide_eq_true_eq]
            omega
  split
  · split
    · exact hS
    · refine ⟨⟨S.nodes,S.nsort,List.all_eq_true.2 fun y hy=>?_,X1 S.tsort (bl p.Path) 0⟩,by simp,Fb s.Turns (bl p.Path) 0,by simp [res]⟩
      rcases Fa (show y ∈ nL s.Turns (bl p.Path) 0 from hy) with hy | ⟨rfl,h⟩
      · exact List.all_eq_true.1 S.turns y hy
      · exact absurd rfl h
  split
  · exact ⟨S,by simp,by simp,by simp only [List.length_map];exact List.length_filter_le _ _⟩
  split
  · exact ⟨hfl _,Nat.le_succ_of_le (List.length_filter_le _ _),by simp,by simp only [List.length_map];exact List.length_filter_le _ _⟩
  split
  · exact hS
  rename_i e0
  split
  · exact hS
  split
  · exact ⟨hfl _,Nat.le_succ_of_le (List.length_filter_le _ _),by simp,by simp [res]⟩
  split
  · split
    · exact hS
    · rename_i hv
      refine ⟨S.mk' (fun x hx=>?_) (Sn S.nsort _ (fun z=>rfl)),by simp only [AP];omega,by simp,by simp [res]⟩
      obtain ⟨z,hz,rfl⟩:=IC.1 hx
      have hzb:=hN z hz
      split
      · rename_i hk
        have hkz:key z=bl p.Path:=by simpa [isK] using hk
        have hnd:ndS s.Nodes p=(z,0):=by
          have h1:=Xk S.nsort hz
          rw [hkz] at h1
          unfold ndS at e0 ⊢
          rw [h1] at e0 ⊢
          simp only at e0 ⊢
          split at e0
          · exact absurd (show (63:Int) ≠ 0 by decide) e0
          · rw [if_neg (by assumption)]
        rw [hnd] at hv
        have h2:=Dd S z hz
        simp only at hv
        have he:pnB (Gs p z)=(decide (z.Turn=0) && rC z.Path p.Data (z.Version+1) 0 z.Owner):=rfl
        rw [he]
        unfold pnB at hzb
        unfold rC at hzb ⊢
        simp only [Bool.and_eq_true,decide_eq_true_eq] at hzb ⊢
        exact ⟨hzb.1,⟨⟨hzb.2.1.1.1,by omega⟩,by omega⟩,hzb.2.2⟩
      · exact hzb
  split
  · exact hS
  split
  · exact hS
  · exact hS
theorem Iu{p:List UInt8}(h:jD p=true):p.length ≤ 78:=by
  unfold jD at h
  obtain ⟨ps,hp⟩:=Option.isSome_iff_exists.1 h
  exact B5 hp
theorem eV.sms {s:Sto} (S:eV s) (h1:s.Nodes.length ≤ 90000) (h2:s.Turns.length ≤ 90000):SmS s:=by
  refine ⟨fun x hx=>?_,fun t ht=>?_,h1,h2⟩
  · have:=List.all_eq_true.1 S.nodes x hx
    unfold pnB rC at this
    simp only [Bool.and_eq_true] at this
    have:=Iu this.2.1.1.1
    have e:(bl x.Path).length=(key x).length:=rfl
    omega
  · have:=List.all_eq_true.1 S.turns t ht
    unfold ptB at this
    simp only [Bool.and_eq_true] at this
    have:=Iu this.1
    omega
theorem Fc(a:List Res)(hl:a.length ≤ 1000000)(hn:∀ r ∈ a,r.Names.length ≤ 1000000):∀ (k i:Nat),i ≤ a.length→a.length+1 ≤ i+k→iC a a k (i:Int)=some true
  | 0,i,_,h=>by omega
  | k+1,i,h0,h=>by
    unfold iC
    by_cases hi:i < a.length
    · rw [if_pos (by simpa using hi),cI hi]
      simp only [Option.bind_some]
      rw [So _ _ (hn _ (List.getElem_mem hi)),decide_eq_true rfl]
      simp only [Option.bind_some]
      rw [if_neg (by simp),lC (by omega)]
      exact Fc a hl hn k (i+1) (by omega) (by omega)
    · rw [if_neg (by simpa using hi)]
theorem Lu(a:List Res)(hl:a.length ≤ 1000000)(hn:∀ r ∈ a,r.Names.length ≤ 1000000):nZ a a=some true:=by
  unfold nZ
  rw [if_neg (by simp)]
  exact Fc a hl hn (((a.length:Int) - 0:Int).toNat+1) 0 (by omega) (by omega)
theorem T5(s:Sto)(k:Nat)(n i:Int)(hn:3000 ≤ n):fV s (k+1) n i=some true:=by
  unfold fV jX
  rw [if_neg (show ¬ decide (n < 3000)=true by simpa using hn),if_pos (decide_eq_true hn)]
  split <;> rfl
theorem Ld(s:Sto)(hn:s.Nodes.length ≤ 140737488351232)(hl:s.Turns.length < 3000):∀ (k i:Nat) (n:Int),0 ≤ n→n ≤ 6000→i ≤ s.Turns.length→s.Turns.length+2 ≤ i+k→∃ b,fV s k n (i:Int)=some b∧(b=false→(∀ j (h:j < s.Turns.length),i ≤ j→(bW s.Turns[j]).length < 3000)∧s.Nodes.length ≤ 1666∧Sm s.Nodes)
  | 0,i,n,_,_,_,h=>by omega
  | k+1,i,n,n0,n1,hi,h=>by
    by_cases c:3000 ≤ n
    · rw [T5 s k n i c]
      exact ⟨true,rfl,fun h=>by cases h⟩
    · unfold fV
      by_cases hj:i < s.Turns.length
      · rw [if_pos (by simpa using hj),if_pos (by simp;omega),cI hj]
        simp only [Option.bind_some]
        have z:((s.Turns[i]).Dir.size:Int)=((bW s.Turns[i]).length:Int):=by rw [cW];rfl
        rw [z,w64 (by omega) (by omega),lC (by omega)]
        by_cases d:(bW s.Turns[i]).length < 3000
        · obtain ⟨b,h1,h2⟩:=Ld s hn hl k (i+1) (n+min ((bW s.Turns[i]).length:Int) 3000) (by omega) (by omega) (by omega) (by omega)
          refine ⟨b,h1,fun hb=>⟨fun j hj hij=>?_,(h2 hb).2⟩⟩
          rcases Nat.lt_or_ge i j with e | e
          · exact (h2 hb).1 j hj (by omega)
          · obtain rfl:i=j:=by omega
            exact d
        · obtain ⟨k',rfl⟩:∃ k',k=k'+1:=⟨k - 1,by omega⟩
          rw [T5 s k' _ _ (by omega)]
          exact ⟨true,rfl,fun h=>by cases h⟩
      · rw [if_neg (by simpa using hj)]
        unfold jX
        rw [if_neg (by simp;omega)]
        obtain ⟨b,h1,h2⟩:=Xl s.Nodes hn
        rw [h1]
        exact ⟨b,rfl,fun hb=>⟨fun j hj hij=>by omega,h2 hb⟩⟩
theorem Vr(s:Sto)(hn:s.Nodes.length ≤ 140737488351232):∃ b,kM s=some b∧(b=false→SmS s∧s.Nodes.length ≤ 1666∧s.Turns.length < 3000):=by
  unfold kM
  by_cases h:s.Turns.length < 3000
  · obtain ⟨b,h1,h2⟩:=Ld s hn h 3002 0 (s.Turns.length:Int) (by omega) (by omega) (by omega) (by omega)
    refine ⟨b,h1,fun hb=>?_⟩
    obtain ⟨g1,g2,g3⟩:=h2 hb
    refine ⟨⟨g3,fun t ht=>?_,by omega,by omega⟩,g2,h⟩
    obtain ⟨j,hj,rfl⟩:=List.mem_iff_getElem.1 ht
    have:=g1 j hj (by omega)
    omega
  · rw [T5 s 3001 _ _ (by omega)]
    exact ⟨true,rfl,fun h=>by cases h⟩
theorem Pd(p:Pt1):∃ b,mT p=some b∧(b=false→(bl p.Dir).length ≤ 3000∧(bl p.Path).length ≤ 3000∧(bl p.Data).length ≤ 3000):=by
  unfold mT
  have a:=cW p.Dir
  have b:=cW p.Path
  have c:=cW p.Data
  by_cases h1:(p.Dir.size:Int) > 3000
  · rw [if_pos (decide_eq_true h1)];exact ⟨true,rfl,fun h=>by cases h⟩
  · rw [if_neg (by simpa using h1)]
    by_cases h2:(p.Path.size:Int) > 3000
    · rw [if_pos (decide_eq_true h2)];exact ⟨true,rfl,fun h=>by cases h⟩
    · rw [if_neg (by simpa using h2)]
      refine ⟨_,rfl,fun h=>?_⟩
      simp only [decide_eq_false_iff_not] at h
      omega
def SmP(l:List Pie):Prop:=∀ x ∈ l,(bl x.Part.Path).length ≤ 3000
theorem X2(l:List Pie)(hl:l.length ≤ 60):∀ (k i:Nat),i ≤ l.length→l.length+1 ≤ i+k→∃ b,fX l k (i:Int)=some b∧(b=false→∀ j (h:j < l.length),i ≤ j→(bl (l[j]).Part.Path).length ≤ 3000)
  | 0,i,_,h=>by omega
  | k+1,i,h0,h=>by
    unfold fX
    by_cases hi:i < l.length
    · rw [if_pos (by simpa using hi),cI hi]
      simp only [Option.bind_some]
      obtain ⟨b,h1,h2⟩:=Pd (l[i]).Part
      rw [h1]
      simp only [Option.bind_some]
      cases b with
      | true=>rw [if_pos rfl];exact ⟨true,rfl,fun h=>by cases h⟩
      | false=>
        rw [if_neg (by simp),lC (by omega)]
        obtain ⟨b',h3,h4⟩:=X2 l hl k (i+1) (by omega) (by omega)
        refine ⟨b',h3,fun hb j hj hij=>?_⟩
        rcases Nat.lt_or_ge i j with c | c
        · exact h4 hb j hj (by omega)
        · obtain rfl:i=j:=by omega
          exact (h2 rfl).2.1
    · rw [if_neg (by simpa using hi)]
      exact ⟨false,rfl,fun _ j hj hij=>by omega⟩
theorem Ke(l:List Pie):∃ b,kX l=some b∧(b=false→l.length ≤ 60∧SmP l):=by
  unfold kX
  by_cases h:l.length ≤ 60
  · rw [if_neg (by simp;omega)]
    obtain ⟨b,h1,h2⟩:=X2 l h (((l.length:Int) - 0:Int).toNat+1) 0 (by omega) (by omega)
    refine ⟨b,h1,fun hb=>⟨h,fun o ho=>?_⟩⟩
    obtain ⟨j,hj,rfl⟩:=List.mem_iff_getElem.1 ho
    exact h2 hb j hj (by omega)
  · rw [if_pos (by simp;omega)]
    exact ⟨true,rfl,fun h=>by cases h⟩
theorem Pe(a b:Sto)(h:a.Turns.length=b.Turns.length)(hl:a.Turns.length ≤ 1000000):∀ (k i:Nat),i ≤ a.Turns.length→a.Turns.length+1 ≤ i+k→iQ a b k (i:Int)=some (decide (a.Turns.drop i=b.Turns.drop i))
  | 0,i,_,h=>by omega
  | k+1,i,h0,hk=>by
    unfold iQ
    by_cases hi:i < a.Turns.length
    · have hi':i < b.Turns.length:=by omega
      rw [if_pos (by simpa using hi),cI hi,cI hi',List.drop_eq_getElem_cons hi,List.drop_eq_getElem_cons hi']
      simp only [Option.bind_some]
      have e:((sEq (a.Turns[i]).Dir (b.Turns[i]).Dir) && ((a.Turns[i]).Next == (b.Turns[i]).Next))=decide (a.Turns[i]=b.Turns[i]):=by
        rw [Bool.eq_iff_iff]
        simp only [Bool.and_eq_true,W6,beq_iff_eq,decide_eq_true_eq]
        constructor
        · rintro ⟨h1,h2⟩
          cases hx:a.Turns[i];cases hy:b.Turns[i]
          simp only [hx,hy] at h1 h2
          rw [h1,h2]
        · intro h;rw [h];exact ⟨rfl,rfl⟩
      rw [e]
      by_cases c:a.Turns[i]=b.Turns[i]
      · rw [decide_eq_true c,if_neg (by simp),lC (by omega),Pe a b h hl k (i+1) (by omega) (by omega)]
        exact congrArg some (decide_eq_decide.2 ⟨fun h=>by rw [c,h],fun h=>(List.cons.inj h).2⟩)
      · rw [decide_eq_false c,if_pos (by rfl)]
        exact congrArg some (decide_eq_false fun h=>c (List.cons.inj h).1).symm
    · rw [if_neg (by simpa using hi),List.drop_eq_nil_of_le (by omega),List.drop_eq_nil_of_le (by omega)]
      rfl
theorem Pf(a b:Sto)(hn:a.Nodes.length ≤ 1000000)(hl:a.Turns.length ≤ 1000000):jC a b=some (decide (a=b)):=by
  unfold jC pB
  rw [AW _ _ hn]
  simp only [Option.bind_some]
  have ext:a=b ↔ a.Nodes=b.Nodes∧a.Turns=b.Turns:=by
    constructor
    · rintro rfl;exact ⟨rfl,rfl⟩
    · cases a;cases b;rintro ⟨h1,h2⟩;simp only at h1 h2;rw [h1,h2]
  by_cases h1:a.Nodes=b.Nodes
  · rw [decide_eq_true h1,if_neg (by simp)]
    by_cases h2:a.Turns.length=b.Turns.length
    · rw [if_neg (by simp;omega),show iQ a b (((a.Turns.length:Int) - 0:Int).toNat+1) 0=some (decide (a.Turns.drop 0=b.Turns.drop 0)) from Pe a b h2 hl _ 0 (by omega) (by omega)]
      congr 1
      exact decide_eq_decide.2 ((show a.Turns.drop 0=b.Turns.drop 0 ↔ a.Turns=b.Turns by simp).trans ⟨fun h=>ext.2 ⟨h1,h⟩,fun h=>(ext.1 h).2⟩)
    · rw [if_pos (by simp;omega),decide_eq_false (fun h=>h2 (by rw [h]))]
  · rw [decide_eq_false h1,if_pos (by rfl),if_pos trivial,decide_eq_false (fun h=>h1 (by rw [h]))]
theorem BE(s:Sto)(p:Pt1)(hs:SmS s)(hp:(bl p.Path).length ≤ 3000)(h1:s.Nodes.length ≤ 80000)(h2:s.Turns.length ≤ 80000):∃ r,wS s p=some r∧mC s p=some r∧(r.2.Err=0→SmS r.1∧r.1.Nodes.length ≤ s.Nodes.length+1∧r.1.Turns.length ≤ s.Turns.length+1∧r.2.Names.length ≤ s.Nodes.length):=by
  rcases Classical.em (eV s∧pZ p=true) with h | h
  · refine ⟨_,La s p (by omega) (by omega) h.1 h.2,FF s p hs (by omega) h.1 h.2,fun _=>?_⟩
    obtain ⟨g1,g2,g3,g4⟩:=Vq s p h.1 h.2
    exact ⟨g1.sms (by omega) (by omega),g2,g3,g4⟩
  · exact ⟨_,Sq s p (by omega) (by omega) h,BD s p hs (by omega) h,fun h=>by cases h⟩
theorem Pg(s0:Sto)(l:List Pie)(hl:l.length ≤ 60)(sp:SmP l)(hb:s0.Nodes.length ≤ 100000∧s0.Turns.length ≤ 100000):∀ (k i:Nat) (s:Sto) (acc:List Res),SmS s→s.Nodes.length ≤ 1666+i→s.Turns.length ≤ 3000+i→i ≤ l.length→l.length+1 ≤ i+k→acc.length ≤ i→(∀ x ∈ acc,x.Names.length ≤ 1000000)→
    ∃ r,oS l s0 k acc (i:Int) s.Nodes s.Turns=some r∧hG s0 l k acc (i:Int) s.Nodes s.Turns=some r∧r.1.Nodes.length ≤ 100000∧r.1.Turns.length ≤ 100000∧r.2.1.length ≤ 60∧∀ x ∈ r.2.1,x.Names.length ≤ 1000000
  | 0,i,s,acc,_,_,_,_,h,_,_=>by omega
  | k+1,i,s,acc,hs,hn,ht,h0,h,ha,hx=>by
    unfold oS hG tA
    by_cases hi:i < l.length
    · rw [if_pos (by simpa using hi),if_pos (by simpa using hi),cI hi]
      simp only [Option.bind_some]
      obtain ⟨r,h1,h2,h3⟩:=BE s (l[i]).Part hs (sp _ (List.getElem_mem hi)) (by omega) (by omega)
      rw [show (⟨s.Nodes,s.Turns⟩:Sto)=s from rfl,h1,h2]
      simp only [Option.bind_some]
      by_cases e:r.2.Err=0
      · obtain ⟨g1,g2,g3,g4⟩:=h3 e
        have hr:(⟨r.2.Err,r.2.Path,r.2.Data,r.2.Version,r.2.Names⟩:Res)=r.2:=rfl
        rw [if_neg (by simpa using e),if_neg (by simpa using e),hr,dQ (by simp [LIM];omega),lC (by omega)]
        simp only [dQ (show acc.length+([r.2]:List Res).length ≤ LIM by simp [LIM];omega)]
        exact Pg s0 l hl sp hb k (i+1) r.1 (acc ++ [r.2]) g1 (by omega) (by omega) (by omega) (by omega) (by simp;omega) (fun x hx'=>by
          rcases List.mem_append.1 hx' with hx' | hx'
          · exact hx x hx'
          · rw [List.mem_singleton.1 hx'];omega)
      · rw [if_pos (by simpa using e),if_pos (by simpa using e)]
        exact ⟨_,rfl,rfl,hb.1,hb.2,by simp,by simp⟩
    · rw [if_neg (by simpa using hi),if_neg (by simpa using hi)]
      exact ⟨_,rfl,rfl,by simp only;omega,by simp only;omega,by simp only;omega,hx⟩
end Go.Cb
