/- Plain laws of elder seats, at this one. -/
import Derived.Test.YtlgajjcbnimjkaaGreatDoorQ7sw
set_option linter.unusedVariables false
set_option linter.unusedSimpArgs false
namespace Go.Cb
open Go.Proofs Go.RowKit

def ltB(p:List UInt8)(y:Nd):Bool:=decide (key y < p)
def I3(x:Nd)(l:List Nd):List Nd:=l.filter (ltB (key x)) ++ x::l.filter (fun y=>!ltB (key x) y)
theorem AB(l:List Nd)(p:List UInt8)(f:Nd→Nd):(upd l p f).length=l.length:=by simp [upd]
theorem Nz{p:List UInt8}{f:Nd→Nd}(hf:∀ z,key (f z)=key z)(z:Nd):key (if isK p z then f z else z)=key z:=by split <;> simp [hf]
def B7(o:Op1)(q:List UInt8)(t:Int):Option (List UInt8):=if o.Turns=true then (Et (wX (bl o.Path)) t).map (fun s=>(uQ q s).getD []) else some (bl o.Path)
theorem Oa{s:List UInt8}{n:Int}{t:List UInt8}(h:Et s n=some t):hJ t=true∧t=s ++ vW n.toNat∧0 ≤ n∧n ≤ 9999:=by
  unfold Et at h
  split at h
  · rename_i h1
    cases h
    exact ⟨h1.2.2,rfl,h1.1,h1.2.1⟩
  · cases h
theorem Ma(p:List UInt8):(wX p).length ≤ 12:=by
  unfold wX
  cases hp:parts p with
  | none=>simp
  | some ps=>
    obtain ⟨h0,h1,h2⟩:=(mH _ ps).1 hp
    rcases List.eq_nil_or_concat ps with rfl | ⟨qs,t,rfl⟩
    · simp
    · rw [List.concat_eq_append] at *
      have ht:hJ t=true:=by simp at h1;exact h1.2
      simpa using Sy ht
theorem Qo{o:Op1}(h:qA o=true)(hk:o.Kind=1):∃ q,jB (bl o.Path)=some q:=by
  unfold qA at h
  simp only [Bool.and_eq_true,decide_eq_true_eq] at h
  obtain ⟨⟨⟨⟨⟨_,h1⟩,_⟩,_⟩,_⟩,h2⟩:=h
  rw [hk] at h2
  simp only [T3,if_true,Bool.and_eq_true,Bool.not_eq_true',decide_eq_false_iff_not] at h2
  unfold dQ at h1
  unfold jB
  cases hp:parts (bl o.Path) with
  | none=>rw [hp] at h1;cases h1
  | some ps=>
    refine ⟨_,if_neg ?_⟩
    rintro rfl
    exact h2.1 ((mH _ _).1 hp).1
end Go.Cb
