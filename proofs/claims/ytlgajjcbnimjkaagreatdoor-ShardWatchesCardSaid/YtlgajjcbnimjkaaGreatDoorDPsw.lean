/- The pieces of operations may be a command's, plainly. -/
import Derived.Test.YtlgajjcbnimjkaaGreatDoorD3sw
import Derived.Test.YtlgajjcbnimjkaaGreatDoorU8sw
set_option linter.unusedVariables false
set_option linter.unusedSimpArgs false
namespace Go.Cb
open Go.Proofs Go.RowKit

/-! ### the pieces of operations may be a command's -/
theorem Ni(o:Op1)(hv:o.Version < 281474976710656):∀ p ∈ eQ o,p.Version < 281474976710656:=by
  intro p hp
  unfold eQ at hp
  repeat' split at hp
  all_goals (simp only [List.mem_cons,List.not_mem_nil,or_false] at hp;first | (rcases hp with rfl | rfl <;> simp <;> first | omega | skip) | (rw [hp];simp <;> first | omega | skip))
theorem Is:∀ (u:List Pt1) (i last:Int) (l:List Pie),last ≤ i→i < 8→(∀ p ∈ u,rR p=true∧p.Version < 281474976710656)→(∀ last,last ≤ i→w8 last l=true)→w8 last (u.map (fun p=>(⟨i,p⟩:Pie)) ++ l)=true
  | [],i,last,l,h1,h2,h3,h4=>h4 last h1
  | p::u,i,last,l,h1,h2,h3,h4=>by
    have hp:=h3 p (by simp)
    rw [List.map_cons,List.cons_append]
    unfold w8
    simp only [Bool.and_eq_true,decide_eq_true_eq]
    exact ⟨h1,h2,hp.1,hp.2,Is u i i l (by omega) h2 (fun q hq=>h3 q (by simp [hq])) h4⟩
theorem It:∀ (l:List Op1) (i:Nat) (last:Int),i+l.length ≤ 8→last ≤ i→(∀ o ∈ l,o.Version < 281474976710656)→w8 last (vX i l)=true
  | [],i,last,_,_,_=>rfl
  | o::l,i,last,h,hl,hv=>by
    unfold vX
    refine Is _ _ _ _ hl (by simp at h;omega) ?_ ?_
    · intro p hp
      unfold ofS at hp
      split at hp
      · rename_i m
        exact ⟨Mj o m p hp,Ni o (hv o (by simp)) p hp⟩
      · simp at hp
    · intro last' h'
      exact It l (i+1) last' (by simp at h;omega) (by omega) (fun q hq=>hv q (by simp [hq]))
theorem Gr:∀ (l:List Op1) (i:Nat),(vX i l).length ≤ 2 * l.length
  | [],i=>by simp [vX]
  | o::l,i=>by
    have h1:=Od o
    have h2:=Gr l (i+1)
    simp only [vX,List.length_append,List.length_map,List.length_cons]
    omega
theorem Rc(l:List Op1)(hv:∀ o ∈ l,o.Version < 281474976710656)(t:Int)(h1:0 ≤ t)(h2:t ≤ 281474976710656):J3 0 t 0 (bX l)=true:=by
  have hn:=Sq h1 h2
  unfold bX
  split
  · rename_i m
    have hl:l.length ≤ 8:=by
      unfold Hp at m
      simp only [Bool.and_eq_true,decide_eq_true_eq] at m
      exact m.1.2
    have h3:=It l 0 0 (by omega) (by omega) hv
    have h4:=Gr l 0
    unfold J3
    rw [h3,decide_eq_true (by omega),hn]
    rfl
  · unfold J3
    rw [hn]
    rfl
theorem Ww:gM (⟨V7,[]⟩:Sto):=by
  obtain ⟨b,h1,h2⟩:=Be (⟨V7,[]⟩:Sto) (by decide) (by decide)
  rw [show mY (⟨V7,[]⟩:Sto)=some true by kernel_rfl] at h1
  cases h1
  exact h2.1 rfl
end Go.Cb
