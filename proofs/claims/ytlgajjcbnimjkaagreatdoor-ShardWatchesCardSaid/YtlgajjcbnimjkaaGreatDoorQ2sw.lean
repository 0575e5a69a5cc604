/- Plain laws of elder seats, at this one. -/
import Derived.Test.YtlgajjcbnimjkaaGreatDoorQ1sw
import Derived.Test.YtlgajjcbnimjkaaGreatDoorKsw1
set_option linter.unusedVariables false
set_option linter.unusedSimpArgs false
namespace Go.Cb
open Go.Proofs Go.RowKit

def kU:List UInt8→List (List UInt8)
  | []=>[[]]
  | c::r=>if c=47 then []::kU r else (c::(kU r).head!)::(kU r).tail
theorem c47{c:UInt8}(h:c ≠ 47):c.toNat ≠ 47:=fun e=>h (UInt8.toNat_inj.1 e)
theorem Zy(r:List UInt8):kU (47::r)= []::kU r:=by rw [kU,if_pos rfl]
theorem Su{c:UInt8}(h:c ≠ 47)(r:List UInt8):kU (c::r)=(c::(kU r).head!)::(kU r).tail:=by rw [kU,if_neg h]
theorem Nx(l:List UInt8):kU l ≠ []:=by
  cases l with
  | nil=>simp [kU]
  | cons c r=>unfold kU;split <;> simp
/-- what lies ahead of the first '/', what lies behind. -/
theorem B6:∀ (l:List UInt8),47 ∉ l→kU l= [l]
  | [],_=>rfl
  | c::r,h=>by
    simp at h
    rw [Su (fun e=>h.1 e.symm),B6 r h.2]
    rfl
theorem V8:∀ (a b:List UInt8),47 ∉ a→kU (a ++ 47::b)=a::kU b
  | [],b,_=>Zy b
  | c::r,b,h=>by
    simp at h
    show kU (c::(r ++ 47::b))=_
    rw [Su (fun e=>h.1 e.symm),V8 r b h.2]
    rfl
theorem Lt(l:List UInt8):47 ∉ l∨∃ a b,l=a ++ 47::b∧47 ∉ a:=by
  induction l with
  | nil=>exact .inl (by simp)
  | cons c r ih=>
    by_cases hc:c=47
    · exact .inr ⟨[],r,by rw [hc];rfl,by simp⟩
    · rcases ih with h | ⟨a,b,rfl,h⟩
      · exact .inl (by simp;exact ⟨fun e=>hc e.symm,h⟩)
      · exact .inr ⟨c::a,b,rfl,by simp;exact ⟨fun e=>hc e.symm,h⟩⟩
def jA(ps:List (List UInt8)):List UInt8:=ps.flatMap (47::·)
def nG(ps:List (List UInt8)):List UInt8:=if ps= [] then [47] else jA ps
theorem Bw{l:List UInt8}(h:hJ l=true):47 ∉ l:=by
  intro hm
  unfold hJ at h
  simp at h
  have:=h.2 47 hm
  simp [Ep] at this
theorem Hk{l:List UInt8}(h:hJ l=true):l ≠ []:=by
  rintro rfl
  simp [hJ] at h
theorem Lu:∀ (a:List UInt8) (ps:List (List UInt8)),47 ∉ a→(∀ p ∈ ps,47 ∉ p)→kU (a ++ jA ps)=a::ps
  | a,[],h,_=>by simp [jA,B6 a h]
  | a,p::ps,h,hp=>by
    show kU (a ++ (47::(p ++ jA ps)))=_
    rw [V8 a _ h,Lu p ps (hp p (by simp)) fun q hq=>hp q (by simp [hq])]
theorem Lv:∀ (n:Nat) (l:List UInt8),l.length ≤ n→jA (kU l)=47::l
  | n,l,hn=>by
    rcases Lt l with h | ⟨a,b,rfl,h⟩
    · rw [B6 l h];simp [jA]
    · simp at hn
      rw [V8 a b h]
      cases n with
      | zero=>omega
      | succ n=>
        have:=Lv n b (by omega)
        show (47::a) ++ jA (kU b)=_
        rw [this];simp

def parts:List UInt8→Option (List (List UInt8))
  | []=>none
  | c::r=>if c=47 then (if r= [] then some [] else if (kU r).all hJ=true∧(kU r).length ≤ 6 then some (kU r) else none) else none
theorem mH(p:List UInt8)(ps:List (List UInt8)):parts p=some ps ↔ p=nG ps∧ps.all hJ=true∧ps.length ≤ 6:=by
  constructor
  · intro h
    cases p with
    | nil=>cases h
    | cons c r=>
      rw [parts] at h
      by_cases hc:c=47
      · subst hc
        rw [if_pos rfl] at h
        by_cases hr:r= []
        · rw [if_pos hr] at h
          cases h
          subst hr
          exact ⟨rfl,rfl,by simp⟩
        · rw [if_neg hr] at h
          by_cases h2:(kU r).all hJ=true∧(kU r).length ≤ 6
          · rw [if_pos h2] at h
            cases h
            refine ⟨?_,h2.1,h2.2⟩
            unfold nG
            rw [if_neg (Nx r),Lv _ r (Nat.le_refl _)]
          · rw [if_neg h2] at h;cases h
      · rw [if_neg hc] at h;cases h
  · rintro ⟨rfl,h1,h2⟩
    cases ps with
    | nil=>rfl
    | cons t ts=>
      have h1':∀ q ∈ t::ts,hJ q=true:=by simpa using h1
      have ht:kU (t ++ jA ts)=t::ts:=Lu t ts (Bw (h1' t (by simp))) fun q hq=>Bw (h1' q (by simp [hq]))
      have hne:t ++ jA ts ≠ []:=by
        intro e
        exact Hk (h1' t (by simp)) (List.append_eq_nil_iff.1 e).1
      rw [show nG (t::ts)=47::(t ++ jA ts) from rfl,parts,if_pos rfl,if_neg hne,ht,if_pos ⟨h1,h2⟩]
def spl(p:ByteArray):List ByteArray×Bool:=match parts (bl p) with
  | some ps=>(ps.map mk,true)
  | none=>([],false)

theorem EZ(s:ByteArray):iW s (ByteArray.mk #[47])=some (match bl s with | []=>(s,false) | c::r=>if c=47 then (mk r,true) else (s,false)):=by
  unfold iW gX gW
  have e1:((ByteArray.mk #[47]).size:Int)=1:=rfl
  rw [e1]
  have hs:=iD s
  cases hb:bl s with
  | nil=>
    rw [hb] at hs
    rw [if_neg (by rw [hs];simp)]
    rfl
  | cons c r=>
    rw [hb] at hs
    simp at hs
    rw [if_pos (by rw [hs];simp only [decide_eq_true_eq];omega),gL (by rw [hs];omega)]
    have e2:bl (s.extract 0 (1:Int).toNat)= [c]:=by rw [uP,hb];rfl
    simp only [Option.bind_some]
    rw [vV,e2,Er]
    by_cases hc:c=47
    · subst hc
      rw [if_neg (by simp),gL (by rw [hs];omega)]
      have e3:s.extract (1:Int).toNat s.size=mk r:=by
        apply zM
        rw [uP,hb,gV,hs]
        simp
      simp only [Option.bind_some,e3]
      rfl
    · rw [if_pos (by simp;exact hc)]
      simp only [Option.bind_some]
      rw [if_neg hc]
theorem Wc{s:ByteArray}(h:47 ∉ bl s):iV s 47=some (-1):=by
  show some (ixB s 47)=_
  congr 1
  unfold ixB
  have:(List.range s.size).find? (fun i=>s[i]! == (47:Int).toNat.toUInt8)=none:=by
    rw [List.find?_eq_none]
    intro i hi
    simp only [List.mem_range] at hi
    intro hx
    apply h
    have hi':i < (bl s).length:=by rw [← iD];exact hi
    have hx:s[i]! =47:=by simpa using hx
    rw [getElem!_pos s i hi] at hx
    have:(bl s)[i]=47:=hx
    rw [← this]
    exact List.getElem_mem _
  rw [this]
theorem Wd{s:ByteArray}{a b:List UInt8}(hs:bl s=a ++ 47::b)(h:47 ∉ a):iV s 47=some (a.length:Int):=by
  show some (ixB s 47)=_
  congr 1
  unfold ixB
  have hl:a.length < s.size:=by rw [iD,hs];simp
  have hat:∀ i (hi:i < s.size),s[i]! =(a ++ 47::b)[i]'(by rw [← hs,← iD];exact hi):=fun i hi=>by
    rw [getElem!_pos s i hi]
    have:(bl s)[i]'(by rw [← iD];exact hi)=(a ++ 47::b)[i]'(by rw [← hs,← iD];exact hi):=by simp only [hs]
    exact this
  have:(List.range s.size).find? (fun i=>s[i]! == (47:Int).toNat.toUInt8)=some a.length:=by
    rw [List.find?_range_eq_some]
    refine ⟨?_,List.mem_range.2 hl,fun j hj=>?_⟩
    · rw [hat _ hl];simp
    · rw [hat _ (by omega),List.getElem_append_left hj]
      simp
      intro e
      exact h (e ▸ List.getElem_mem _)
  rw [this]

theorem Es:∀ (k:Nat) (s:ByteArray) (acc:List ByteArray),acc.length ≤ 6→(bl s).length+1 ≤ k→mF k s acc=some (match bl s with
    | []=>if acc= [] then ([],false) else (acc,true)
    | c::r=>if c=47 then (if (kU r).all hJ=true∧acc.length+(kU r).length ≤ 6 then (acc ++ (kU r).map mk,true) else ([],false)) else ([],false))
  | 0,s,acc,_,h=>by omega
  | k+1,s,acc,ha,h=>by
    unfold mF
    rw [vV,emp]
    cases hb:bl s with
    | nil=>
      rw [if_neg (by simp)]
      cases acc with
      | nil=>rfl
      | cons x xs=>rw [if_pos (by simp),if_neg (by simp)]
    | cons c r=>
      rw [if_pos (by simp),EZ s,hb]
      simp only [Option.bind_some]
      by_cases hc:c=47
      · subst hc
        simp only [if_true,Bool.not_true,Bool.false_eq_true,if_false]
        have htl:1 ≤ (kU r).length:=by have:=Nx r;cases h:kU r with | nil=>exact absurd h this | cons _ _=>simp
        by_cases h6:acc.length=6
        · rw [if_pos (by simp;omega),if_neg (by rintro ⟨_,h⟩;omega)];rfl
        · rw [if_neg (by simp;omega)]
          have hrs:(mk r).size=r.length:=by rw [iD,gV]
          have hlen:(bl s).length=r.length+1:=by rw [hb];simp
          rcases Lt r with hns | ⟨a,b,rfl,hns⟩
          · rw [Wc (by rw [gV];exact hns)]
            simp only [Option.bind_some]
            rw [if_pos (by decide)]
            unfold rC
            rw [hrs,gL (by omega),Bv,uP,gV]
            simp only [Option.bind_some,Int.toNat_natCast,List.take_length,List.drop_zero]
            rw [B6 r hns]
            cases hp:hJ r
            · simp [hp,oG]
            · rw [if_neg (by simp),gL (by omega),gL (by simp [LIM];omega),gL (by omega)]
              have e1:bl ((mk r).extract r.length r.length)= []:=by rw [uP,gV];simp
              rw [Es k _ _ (by simp;omega) (by rw [e1];simp;omega),e1]
              have e2:(mk r).extract 0 r.length=mk r:=by apply zM;rw [uP,gV];simp
              simp only []
              rw [if_neg (by simp),if_pos ⟨by simp [hp],by simp;omega⟩,e2]
              rfl
          · rw [Wd (s:=mk (a ++ 47::b)) (a:=a) (b:=b) (gV _) hns]
            simp only [Option.bind_some]
            rw [if_neg (by simp)]
            unfold rC
            have hal:(a ++ 47::b).length=a.length+b.length+1:=by simp;omega
            rw [hrs,gL (by omega),Bv,uP,gV]
            simp only [Option.bind_some,Int.toNat_natCast,List.drop_zero]
            rw [List.take_left,V8 a b hns]
            cases hp:hJ a
            · simp [hp,oG]
            · rw [if_neg (by simp),gL (by omega),gL (by simp [LIM];omega),gL (by omega)]
              have e1:bl ((mk (a ++ 47::b)).extract a.length (a ++ 47::b).length)=47::b:=by rw [uP,gV,List.take_length,List.drop_left]
              rw [Es k _ _ (by simp;omega) (by rw [e1];simp;omega),e1]
              have e2:(mk (a ++ 47::b)).extract 0 a.length=mk a:=by apply zM;rw [uP,gV,List.take_left,gV];rfl
              simp only [if_true,e2,List.length_append,List.length_cons,List.length_nil,List.all_cons,hp,Bool.true_and,List.map_cons]
              by_cases hq:(kU b).all hJ=true∧acc.length+1+(kU b).length ≤ 6
              · rw [if_pos (by exact hq),if_pos ⟨hq.1,by omega⟩];simp
              · rw [if_neg (by exact hq),if_neg (fun h=>hq ⟨h.1,by omega⟩)]
      · simp only [if_neg hc]
        rw [if_pos (by simp)]
        rfl
theorem V9(s:ByteArray):vH s=some (spl s):=by
  unfold vH
  rw [vV,Er]
  by_cases h1:bl s= [47]
  · rw [if_pos (by simp [h1])]
    unfold spl
    rw [h1];rfl
  · rw [if_neg (by simp [h1]),Es _ s [] (by simp) (by rw [iD];omega)]
    unfold spl
    cases hb:bl s with
    | nil=>rfl
    | cons c r=>
      simp only [parts,List.length_nil,Nat.zero_add,List.nil_append]
      by_cases hc:c=47
      · subst hc
        have hr:r ≠ []:=by rintro rfl;exact h1 hb
        rw [if_pos rfl,if_pos rfl,if_neg hr]
        by_cases hq:(kU r).all hJ=true∧(kU r).length ≤ 6
        · rw [if_pos hq,if_pos hq]
        · rw [if_neg hq,if_neg hq]
      · rw [if_neg hc,if_neg hc]
end Go.Cb
