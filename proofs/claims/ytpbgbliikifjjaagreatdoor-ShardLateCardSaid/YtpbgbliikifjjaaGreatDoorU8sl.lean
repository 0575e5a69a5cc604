/- Plain laws of elder seats, at this one. -/
import Derived.Test.YtpbgbliikifjjaaGreatDoorU5sl
set_option linter.unusedVariables false
set_option linter.unusedSimpArgs false
namespace Go.Cb
open Go.Proofs Go.RowKit

theorem Ik{p q:List UInt8}(h:iV p=some q):fB p=true∧fB q=true∧p ≠ [47]:=by
  obtain ⟨ps,t,h1,h2,h3,_⟩:=R9 h
  refine ⟨by unfold fB;rw [h1];rfl,by unfold fB;rw [h3];rfl,fun e=>?_⟩
  rw [e,Qp] at h1
  simp at h1
theorem FF(p:List UInt8):fB (upP p)=true:=by
  unfold upP
  cases h:iV p with
  | none=>rfl
  | some q=>exact (Ik h).2.1
theorem Wn(o:Op1)(h:sX o=true):∀ p ∈ C9 o,tM p=true:=by
  obtain ⟨h1,⟨ps,h2⟩,h3,h4,h5,h6⟩:=Hg h
  have ok:fB (bl o.Path)=true:=by unfold fB;rw [h2];rfl
  have key1:∀ (k:Int) (d path data:ByteArray) (v w:Int) (t:Bool),fB (bl path)=true→(bl data).length ≤ 256→(-1 ≤ v∧v ≤ 281474976710656)→(0 ≤ w∧w ≤ 1099511627776)→(1 ≤ k∧k ≤ 10)→bl d=(if k=4∨k=9∨k=10 then bl path else upP (bl path))→(k=2→bl path ≠ [47])→tM (⟨k,d,path,data,v,w,t⟩:Pt1)=true:=by
    intro k d path data v w t g1 g2 g3 g4 g5 g6 g7
    unfold tM sK E1
    simp only [g1,g2,g3,g4,g5,g6,decide_true,Bool.true_and,Bool.and_true,and_self]
    by_cases c:k=2
    · have:=g7 c
      simp [this]
    · simp [c]
  intro p hp
  unfold C9 at hp
  have z:(bl (mk [])).length ≤ 256:=by simp [iF]
  have v0:(-1:Int) ≤ 0∧(0:Int) ≤ 281474976710656:=by omega
  have w0:(0:Int) ≤ 0∧(0:Int) ≤ 1099511627776:=by omega
  have hd:bl (mk (upS (bl o.Path)))=upP (bl o.Path):=iF _
  split at hp
  · rename_i c
    obtain ⟨q,hq⟩:=Qq h c
    rcases List.mem_cons.1 hp with rfl | hp
    · exact key1 _ _ _ _ _ _ _ (by rw [hd];exact FF _) z v0 w0 (by omega) (by rw [if_neg (by omega)];rw [iF,hd];rfl) (by omega)
    · rw [List.mem_singleton.1 hp]
      exact key1 _ _ _ _ _ _ _ ok h3 v0 h4 (by omega) (by rw [if_neg (by omega),hd]) (fun _=>(Ik hq).2.2)
  split at hp
  · rcases List.mem_cons.1 hp with rfl | hp
    · exact key1 _ _ _ _ _ _ _ ok z h5 w0 (by omega) (by rw [if_neg (by omega),hd]) (by omega)
    · rw [List.mem_singleton.1 hp]
      exact key1 _ _ _ _ _ _ _ ok z v0 w0 (by omega) (by rw [if_pos (by omega)]) (by omega)
  split at hp
  · rw [List.mem_singleton.1 hp]
    exact key1 _ _ _ _ _ _ _ ok h3 h5 w0 (by omega) (by rw [if_neg (by omega),hd]) (by omega)
  split at hp
  · rw [List.mem_singleton.1 hp]
    exact key1 _ _ _ _ _ _ _ ok z h5 w0 (by omega) (by rw [if_neg (by omega),hd]) (by omega)
  split at hp
  · rw [List.mem_singleton.1 hp]
    exact key1 _ _ _ _ _ _ _ ok z v0 w0 (by omega) (by rw [if_neg (by omega),hd]) (by omega)
  split at hp
  · rcases List.mem_cons.1 hp with rfl | hp
    · exact key1 _ _ _ _ _ _ _ ok z v0 w0 (by omega) (by rw [if_neg (by omega),hd]) (by omega)
    · rw [List.mem_singleton.1 hp]
      exact key1 _ _ _ _ _ _ _ ok z v0 w0 (by omega) (by rw [if_pos (by omega)]) (by omega)
  · rcases List.mem_cons.1 hp with rfl | hp
    · exact key1 _ _ _ _ _ _ _ ok z v0 w0 (by omega) (by rw [if_neg (by omega),hd]) (by omega)
    · rw [List.mem_singleton.1 hp]
      exact key1 _ _ _ _ _ _ _ ok z v0 h4 (by omega) (by rw [if_pos (by omega)]) (by omega)
end Go.Cb
