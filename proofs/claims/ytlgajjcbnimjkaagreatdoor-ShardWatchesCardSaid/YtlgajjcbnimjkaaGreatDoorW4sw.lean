/- A shard that one watches, plainly: what each operation tells. -/
import Derived.Test.YtlgajjcbnimjkaaGreatDoorW3sw
set_option linter.unusedVariables false
set_option linter.unusedSimpArgs false
namespace Go.Cb
open Go.Proofs Go.RowKit

theorem Wu{s:Sto}{p:Pt1}(h:(eE s 0 s [] [⟨0,p⟩]).2.2.1=0):(doP s p).2.Err=0∧(eE s 0 s [] [⟨0,p⟩]).2.1= [(doP s p).2]:=by
  unfold eE at h ⊢
  by_cases c:(doP s p).2.Err=0
  · refine ⟨c,?_⟩
    rw [if_neg (by simpa using c)]
    rfl
  · rw [if_pos (by simpa using c)] at h
    exact absurd h c
theorem Wv{s:Sto}{p q:Pt1}(h:(eE s 0 s [] [⟨0,p⟩,⟨0,q⟩]).2.2.1=0):(doP s p).2.Err=0∧(doP (doP s p).1 q).2.Err=0∧(eE s 0 s [] [⟨0,p⟩,⟨0,q⟩]).2.1= [(doP s p).2,(doP (doP s p).1 q).2]:=by
  unfold eE at h ⊢
  by_cases c:(doP s p).2.Err=0
  · rw [if_neg (by simpa using c)] at h ⊢
    unfold eE at h ⊢
    by_cases d:(doP (doP s p).1 q).2.Err=0
    · refine ⟨c,d,?_⟩
      rw [if_neg (by simpa using d)]
      rfl
    · rw [if_pos (by simpa using d)] at h
      exact absurd h d
  · rw [if_pos (by simpa using c)] at h
    exact absurd h c
theorem AM(s:Sto)(o:Op1)(h:qA o=true)(he:(eE s 0 s [] (bX [o])).2.2.1=0) :
    (fW (bX [o]) (eE s 0 s [] (bX [o])).2.1).length=oX o (eE s 0 s [] (bX [o])).2.1∧(∀ x ∈ fW (bX [o]) (eE s 0 s [] (bX [o])).2.1,dQ (bl x.2)=true)∧(o.Kind=1∨o.Kind=2∨o.Kind=3→∃ p,fW (bX [o]) (eE s 0 s [] (bX [o])).2.1= [(o.Kind,p)])∧(o.Kind=7→∃ a b,(eE s 0 s [] (bX [o])).2.1= [a,b]):=by
  have hm:=Mj o h
  have hk:=(Bx h).1
  rw [E9,if_pos h] at he ⊢
  have kk:o.Kind=1∨o.Kind=2∨o.Kind=3∨o.Kind=4∨o.Kind=5∨o.Kind=6∨o.Kind=7:=by omega
  have one:∀ (p:Pt1),eQ o= [p]→o.Kind ≠ 7→(fB p (doP s p).2).length=oX o [(doP s p).2]→(∀ x ∈ fB p (doP s p).2,dQ (bl x.2)=true)→(o.Kind=1∨o.Kind=2∨o.Kind=3→∃ q,fB p (doP s p).2= [(o.Kind,q)])→(fW ((eQ o).map fun p=>(⟨0,p⟩:Pie)) (eE s 0 s [] ((eQ o).map fun p=>(⟨0,p⟩:Pie))).2.1).length=oX o (eE s 0 s [] ((eQ o).map fun p=>(⟨0,p⟩:Pie))).2.1∧(∀ x ∈ fW ((eQ o).map fun p=>(⟨0,p⟩:Pie)) (eE s 0 s [] ((eQ o).map fun p=>(⟨0,p⟩:Pie))).2.1,dQ (bl x.2)=true)∧(o.Kind=1∨o.Kind=2∨o.Kind=3→∃ q,fW ((eQ o).map fun p=>(⟨0,p⟩:Pie)) (eE s 0 s [] ((eQ o).map fun p=>(⟨0,p⟩:Pie))).2.1= [(o.Kind,q)])∧(o.Kind=7→∃ a b,(eE s 0 s [] ((eQ o).map fun p=>(⟨0,p⟩:Pie))).2.1= [a,b]):=by
    intro p hp h7 g1 g2 g3
    rw [hp,show ([p].map fun p=>(⟨0,p⟩:Pie))= [(⟨0,p⟩:Pie)] from rfl] at he ⊢
    rw [(Wu he).2]
    have e:fW [(⟨0,p⟩:Pie)] [(doP s p).2]=fB p (doP s p).2:=by simp [fW]
    rw [e]
    exact ⟨g1,g2,g3,fun k=>absurd k h7⟩
  have two:∀ (p q:Pt1),eQ o= [p,q]→((doP s p).2.Err=0→(doP (doP s p).1 q).2.Err=0→(fB p (doP s p).2 ++ fB q (doP (doP s p).1 q).2).length=oX o [(doP s p).2,(doP (doP s p).1 q).2]∧(∀ x ∈ fB p (doP s p).2 ++ fB q (doP (doP s p).1 q).2,dQ (bl x.2)=true)∧(o.Kind=1∨o.Kind=2∨o.Kind=3→∃ z,fB p (doP s p).2 ++ fB q (doP (doP s p).1 q).2= [(o.Kind,z)]))→(fW ((eQ o).map fun p=>(⟨0,p⟩:Pie)) (eE s 0 s [] ((eQ o).map fun p=>(⟨0,p⟩:Pie))).2.1).length=oX o (eE s 0 s [] ((eQ o).map fun p=>(⟨0,p⟩:Pie))).2.1∧(∀ x ∈ fW ((eQ o).map fun p=>(⟨0,p⟩:Pie)) (eE s 0 s [] ((eQ o).map fun p=>(⟨0,p⟩:Pie))).2.1,dQ (bl x.2)=true)∧(o.Kind=1∨o.Kind=2∨o.Kind=3→∃ q,fW ((eQ o).map fun p=>(⟨0,p⟩:Pie)) (eE s 0 s [] ((eQ o).map fun p=>(⟨0,p⟩:Pie))).2.1= [(o.Kind,q)])∧(o.Kind=7→∃ a b,(eE s 0 s [] ((eQ o).map fun p=>(⟨0,p⟩:Pie))).2.1= [a,b]):=by
    intro p q hp g
    rw [hp,show ([p,q].map fun p=>(⟨0,p⟩:Pie))= [(⟨0,p⟩:Pie),⟨0,q⟩] from rfl] at he ⊢
    obtain ⟨e1,e2,e3⟩:=Wv he
    obtain ⟨g1,g2,g3⟩:=g e1 e2
    have e:fW [(⟨0,p⟩:Pie),⟨0,q⟩] [(doP s p).2,(doP (doP s p).1 q).2]=fB p (doP s p).2 ++ fB q (doP (doP s p).1 q).2:=by simp [fW]
    rw [e3,e]
    exact ⟨g1,g2,g3,fun _=>⟨_,_,rfl⟩⟩
  rcases kk with c | c | c | c | c | c | c
  · refine two _ _ (by unfold eQ;rw [if_pos c]) fun e1 e2=>?_
    have m2:=hm (⟨2,mk (upS (bl o.Path)),o.Path,o.Data,0,o.Owner,o.Turns⟩:Pt1) (by unfold eQ;rw [if_pos c];simp)
    have pp:=Ws m2 rfl e2
    refine ⟨by simp [fB,oX,c],?_,fun _=>⟨_,by rw [c];rfl⟩⟩
    intro x hx
    simp only [fB] at hx
    simp at hx
    subst hx
    exact pp
  · refine two _ _ (by unfold eQ;rw [if_neg (by omega),if_pos c]) fun e1 e2=>?_
    have m1:=N8 (hm (⟨3,mk (upS (bl o.Path)),o.Path,mk [],o.Version,0,false⟩:Pt1) (by unfold eQ;rw [if_neg (by omega),if_pos c];simp))
    refine ⟨by simp [fB,oX,c],?_,fun _=>⟨_,by rw [c];rfl⟩⟩
    intro x hx
    simp only [fB] at hx
    simp at hx
    subst hx
    exact m1
  · have e0:eQ o= [(⟨5,mk (upS (bl o.Path)),o.Path,o.Data,o.Version,0,false⟩:Pt1)]:=by unfold eQ;rw [if_neg (by omega),if_neg (by omega),if_pos c]
    have m1:=N8 (hm _ (by rw [e0];exact List.mem_singleton.2 rfl))
    refine one _ e0 (by omega) (by simp [fB,oX,c]) ?_ (fun _=>⟨_,by rw [c];rfl⟩)
    intro x hx
    simp only [fB] at hx
    simp at hx
    subst hx
    exact m1
  · refine one _ (by unfold eQ;rw [if_neg (by omega),if_neg (by omega),if_neg (by omega),if_pos c]) (by omega) (by simp [fB,oX,c]) (by simp [fB]) (by omega)
  · refine one _ (by unfold eQ;rw [if_neg (by omega),if_neg (by omega),if_neg (by omega),if_neg (by omega),if_pos c]) (by omega) (by simp [fB,oX,c]) (by simp [fB]) (by omega)
  · refine two _ _ (by unfold eQ;rw [if_neg (by omega),if_neg (by omega),if_neg (by omega),if_neg (by omega),if_neg (by omega),if_pos c]) fun e1 e2=>⟨by simp [fB,oX,c],by simp [fB],by omega⟩
  · refine two _ _ (by unfold eQ;rw [if_neg (by omega),if_neg (by omega),if_neg (by omega),if_neg (by omega),if_neg (by omega),if_neg (by omega)]) fun e1 e2=>?_
    refine ⟨by simp [fB,oX,c],?_,by omega⟩
    intro x hx
    simp only [fB] at hx
    simp at hx
    obtain ⟨n,hn,rfl⟩:=hx
    exact Rb (p:=(⟨10,o.Path,o.Path,mk [],0,o.Owner,false⟩:Pt1)) rfl n hn
end Go.Cb
