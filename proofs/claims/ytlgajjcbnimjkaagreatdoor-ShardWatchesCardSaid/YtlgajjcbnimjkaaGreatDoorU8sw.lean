/- Plain laws of elder seats, at this one. -/
import Derived.Test.YtlgajjcbnimjkaaGreatDoorV6sw
set_option linter.unusedVariables false
set_option linter.unusedSimpArgs false
namespace Go.Cb
open Go.Proofs Go.RowKit

theorem Bh{p q:List UInt8}(h:jB p=some q):dQ p=true∧dQ q=true∧p ≠ [47]:=by
  obtain ⟨ps,t,h1,h2,h3,_⟩:=J7 h
  refine ⟨by unfold dQ;rw [h1];rfl,by unfold dQ;rw [h3];rfl,fun e=>?_⟩
  rw [e,Qn] at h1
  simp at h1
theorem FI(p:List UInt8):dQ (upP p)=true:=by
  unfold upP
  cases h:jB p with
  | none=>rfl
  | some q=>exact (Bh h).2.1
theorem Mj(o:Op1)(h:qA o=true):∀ p ∈ eQ o,rR p=true:=by
  obtain ⟨h1,⟨ps,h2⟩,h3,h4,h5,h6⟩:=Bx h
  have ok:dQ (bl o.Path)=true:=by unfold dQ;rw [h2];rfl
  have key1:∀ (k:Int) (d path data:ByteArray) (v w:Int) (t:Bool),dQ (bl path)=true→(bl data).length ≤ 256→(-1 ≤ v∧v ≤ 281474976710656)→(0 ≤ w∧w ≤ 1099511627776)→(1 ≤ k∧k ≤ 10)→bl d=(if k=4∨k=9∨k=10 then bl path else upP (bl path))→(k=2→bl path ≠ [47])→rR (⟨k,d,path,data,v,w,t⟩:Pt1)=true:=by
    intro k d path data v w t g1 g2 g3 g4 g5 g6 g7
    unfold rR sR E8
    simp only [g1,g2,g3,g4,g5,g6,decide_true,Bool.true_and,Bool.and_true,and_self]
    by_cases c:k=2
    · have:=g7 c
      simp [this]
    · simp [c]
  intro p hp
  unfold eQ at hp
  have z:(bl (mk [])).length ≤ 256:=by simp [gV]
  have v0:(-1:Int) ≤ 0∧(0:Int) ≤ 281474976710656:=by omega
  have w0:(0:Int) ≤ 0∧(0:Int) ≤ 1099511627776:=by omega
  have hd:bl (mk (upS (bl o.Path)))=upP (bl o.Path):=gV _
  split at hp
  · rename_i c
    obtain ⟨q,hq⟩:=Qo h c
    rcases List.mem_cons.1 hp with rfl | hp
    · exact key1 _ _ _ _ _ _ _ (by rw [hd];exact FI _) z v0 w0 (by omega) (by rw [if_neg (by omega)];rw [gV,hd];rfl) (by omega)
    · rw [List.mem_singleton.1 hp]
      exact key1 _ _ _ _ _ _ _ ok h3 v0 h4 (by omega) (by rw [if_neg (by omega),hd]) (fun _=>(Bh hq).2.2)
  split at hp
  · rcases List.mem_cons.1 hp with rfl | hp
    · exact key1 _ _ _ _ _ _ _ ok z h5 w0 (by omega) (by rw [if_neg (by omega),hd]) (by omega)
    · rw [List.mem_singleton.1 hp]
      exact key1 _ _ _ _ _ _ _ ok z v0 w0 (by omega) (by rw [if_pos (by omega)]) (by omega)
  split at hp
  · rw [List.mem_singleton.1 hp]
    exact key1 _ _ _ _ _ _ _ ok h3 h5 w0 (by omega) (by rw [if_neg (by omega),hd]) (by omega)
  split at hp
  · rw [List.mem_singleton.1 hp]
    exact key1 _ _ _ _ _ _ _ ok z h5 w0 (by omega) (by rw [if_neg (by omega),hd]) (by omega)
  split at hp
  · rw [List.mem_singleton.1 hp]
    exact key1 _ _ _ _ _ _ _ ok z v0 w0 (by omega) (by rw [if_neg (by omega),hd]) (by omega)
  split at hp
  · rcases List.mem_cons.1 hp with rfl | hp
    · exact key1 _ _ _ _ _ _ _ ok z v0 w0 (by omega) (by rw [if_neg (by omega),hd]) (by omega)
    · rw [List.mem_singleton.1 hp]
      exact key1 _ _ _ _ _ _ _ ok z v0 w0 (by omega) (by rw [if_pos (by omega)]) (by omega)
  · rcases List.mem_cons.1 hp with rfl | hp
    · exact key1 _ _ _ _ _ _ _ ok z v0 w0 (by omega) (by rw [if_neg (by omega),hd]) (by omega)
    · rw [List.mem_singleton.1 hp]
      exact key1 _ _ _ _ _ _ _ ok z v0 h4 (by omega) (by rw [if_pos (by omega)]) (by omega)
end Go.Cb
