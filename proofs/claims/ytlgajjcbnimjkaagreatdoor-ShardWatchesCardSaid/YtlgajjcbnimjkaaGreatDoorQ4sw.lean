/- Plain laws of elder seats, at this one. -/
import Derived.Test.YtlgajjcbnimjkaaGreatDoorQ3sw
set_option linter.unusedVariables false
set_option linter.unusedSimpArgs false
namespace Go.Cb
open Go.Proofs Go.RowKit

abbrev Nd:=aF
def key(x:Nd):List UInt8:=bl x.Path
theorem N7(a:List UInt8):¬ a < a:=List.lt_irrefl a
theorem wY{a b c:List UInt8}(h:a < b)(k:b < c):a < c:=List.lt_trans h k
theorem FA(a b:List UInt8):a < b∨a=b∨b < a:=by
  rcases Decidable.em (a < b) with h | h
  · exact .inl h
  · rcases Decidable.em (b < a) with k | k
    · exact .inr (.inr k)
    · exact .inr (.inl (List.le_antisymm (List.not_lt.1 k) (List.not_lt.1 h)))
theorem Eu{a b:List UInt8}(h:a < b):¬ b < a:=fun k=>N7 _ (wY h k)
theorem w7{a b:List UInt8}(h:a < b):a ≠ b:=fun e=>N7 b (e ▸ h)
theorem Lw(a:List UInt8){b c:List UInt8}(h:b < c):a ++ b < a ++ c:=by
  induction a with
  | nil=>exact h
  | cons x a ih=>exact List.Lex.cons ih
theorem Sz(a:List UInt8){b:List UInt8}(h:b ≠ []):a < a ++ b:=by
  have:=Lw a (b:=[]) (c:=b) (by cases b with | nil=>exact absurd rfl h | cons x b=>exact List.Lex.nil)
  simpa using this
theorem Ta(s t:ByteArray):Extern.BytealgCompare.cmp s t=if bl s < bl t then -1 else if bl s=bl t then 0 else 1:=by
  have hs:=iD s
  have ht:=iD t
  have hat:∀ (u:ByteArray) (i:Nat) (hi:i < (bl u).length),u[i]! =(bl u)[i]:=fun u i hi=>by
    rw [getElem!_pos u i (by rw [iD];exact hi)];rfl
  unfold Extern.BytealgCompare.cmp
  cases hf:(List.range (min s.size t.size)).find? (fun i=>s[i]! != t[i]!) with
  | some i=>
    rw [List.find?_range_eq_some] at hf
    obtain ⟨h1,h2,h3⟩:=hf
    rw [List.mem_range] at h2
    have hi1:i < (bl s).length:=by omega
    have hi2:i < (bl t).length:=by omega
    rw [hat s i hi1,hat t i hi2] at h1
    have hne:(bl s)[i] ≠ (bl t)[i]:=by simpa using h1
    have hpre:(bl s).take i=(bl t).take i:=by
      apply List.ext_getElem?
      intro j
      rw [List.getElem?_take,List.getElem?_take]
      by_cases hj:j < i
      · rw [if_pos hj,if_pos hj]
        have:=h3 j hj
        rw [hat s j (by omega),hat t j (by omega)] at this
        have:(bl s)[j]=(bl t)[j]:=by simpa using this
        rw [List.getElem?_eq_getElem (by omega),List.getElem?_eq_getElem (by omega),this]
      · rw [if_neg hj,if_neg hj]
    have es:bl s=(bl s).take i ++ (bl s)[i]::(bl s).drop (i+1):=by rw [← List.drop_eq_getElem_cons hi1,List.take_append_drop]
    have et:bl t=(bl s).take i ++ (bl t)[i]::(bl t).drop (i+1):=by rw [hpre,← List.drop_eq_getElem_cons hi2,List.take_append_drop]
    have heq:bl s ≠ bl t:=fun e=>hne (by simp only [e])
    simp only
    rw [hat s i hi1,hat t i hi2]
    rcases UInt8.lt_or_lt_of_ne hne with h | h
    · have:bl s < bl t:=by
        rw [es,et];exact Lw _ (List.Lex.rel h)
      rw [if_pos h,if_pos this]
    · have:bl t < bl s:=by
        rw [es,et];exact Lw _ (List.Lex.rel h)
      rw [if_neg (fun h'=>absurd (UInt8.lt_trans h h') (UInt8.lt_irrefl _)),if_neg (Eu this),if_neg heq]
  | none=>
    rw [List.find?_eq_none] at hf
    have hall:∀ j,j < (bl s).length→j < (bl t).length→(bl s)[j]? =(bl t)[j]? :=fun j h1 h2=>by
      have:=hf j (List.mem_range.2 (by omega))
      rw [hat s j h1,hat t j h2] at this
      have:(bl s)[j]=(bl t)[j]:=by simpa using this
      rw [List.getElem?_eq_getElem h1,List.getElem?_eq_getElem h2,this]
    simp only
    rw [hs,ht]
    by_cases h1:(bl s).length < (bl t).length
    · have e:bl t=bl s ++ (bl t).drop (bl s).length:=by
        conv=>lhs;rw [← List.take_append_drop (bl s).length (bl t)]
        congr 1
        apply List.ext_getElem?
        intro j
        rw [List.getElem?_take]
        by_cases hj:j < (bl s).length
        · rw [if_pos hj,hall j hj (by omega)]
        · rw [if_neg hj,List.getElem?_eq_none (by omega)]
      have:bl s < bl t:=by
        rw [e];exact Sz _ (by intro h;have:=congrArg List.length h;simp at this;omega)
      rw [if_pos h1,if_pos this]
    · rw [if_neg h1]
      by_cases h2:(bl s).length > (bl t).length
      · have e:bl s=bl t ++ (bl s).drop (bl t).length:=by
          conv=>lhs;rw [← List.take_append_drop (bl t).length (bl s)]
          congr 1
          apply List.ext_getElem?
          intro j
          rw [List.getElem?_take]
          by_cases hj:j < (bl t).length
          · rw [if_pos hj,hall j (by omega) hj]
          · rw [if_neg hj,List.getElem?_eq_none (by omega)]
        have:bl t < bl s:=by
          rw [e];exact Sz _ (by intro h;have:=congrArg List.length h;simp at this;omega)
        rw [if_pos h2,if_neg (Eu this),if_neg (fun e=>N7 _ (e ▸ this))]
      · have e:bl s=bl t:=by
          apply List.ext_getElem?
          intro j
          by_cases hj:j < (bl s).length
          · exact hall j hj (by omega)
          · rw [List.getElem?_eq_none (by omega),List.getElem?_eq_none (by omega)]
        rw [if_neg h2,e,if_neg (N7 _),if_pos rfl]
theorem FB(n:Nat)(h:n < 2 ^ 40):IntKind.i64.wrap (rM .u64 (IntKind.u64.wrap (IntKind.i64.wrap (n:Int))) 1)=((n / 2:Nat):Int):=by
  rw [w64 (n:=(n:Int)) (by omega) (by omega),show IntKind.u64.wrap (n:Int)=(n:Int) from by unfold IntKind.wrap;simp [IntKind.bits,IntKind.signed];omega]
  unfold rM
  rw [show IntKind.u64.bits=64 from rfl,show min (1:Int).toNat 64=1 from rfl,Int.fdiv_eq_ediv_of_nonneg _ (by decide)]
  rw [w64 (by omega) (by omega)]
  omega
def zNd:Nd:=⟨mk [],mk [],0,0,0⟩
def isK(p:List UInt8)(x:Nd):Bool:=decide (key x=p)
theorem MK{α:Type}(o:Option α):o=none∨∃ x,o=some x:=by cases o with | none=>exact .inl rfl | some x=>exact .inr ⟨x,rfl⟩
end Go.Cb
