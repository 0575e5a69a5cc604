/- Plain laws of elder seats, at this one. -/
import Derived.Test.YtlgajjcbnimjkaaGreatDoorV4sw
set_option linter.unusedVariables false
set_option linter.unusedSimpArgs false
namespace Go.Cb
open Go.Proofs Go.RowKit

theorem Dg{α:Type}(κ:α→List UInt8)(l:List α)(d:List UInt8)(x:α)(hx:κ x=d)(hs:l.Pairwise (κ · < κ ·)):(l.filter (gLt κ d) ++ x::l.filter (gGt κ d)).Pairwise (κ · < κ ·):=by
  have g:∀ y ∈ l.filter (gGt κ d),d < κ y:=fun y hy=>by
    have h1:=(List.mem_filter.1 hy).2
    simp only [gGt,gLt,gEq,Bool.and_eq_true,Bool.not_eq_true',decide_eq_false_iff_not] at h1
    exact Tg h1.1 h1.2
  have f:∀ y ∈ l.filter (gLt κ d),κ y < d:=fun y hy=>by
    have h1:=(List.mem_filter.1 hy).2
    simpa [gLt] using h1
  refine List.pairwise_append.2 ⟨hs.filter _,List.pairwise_cons.2 ⟨fun y hy=>hx ▸ g y hy,hs.filter _⟩,fun a ha b hb=>?_⟩
  rcases List.mem_cons.1 hb with rfl | hb
  · exact hx ▸ f a ha
  · exact wY (f a ha) (g b hb)
theorem T4{l:List Tn}(hs:l.Pairwise (dU · < dU ·))(d:List UInt8)(n:Int):(qB l d n).Pairwise (dU · < dU ·):=by
  unfold qB
  split
  · exact hs.filter _
  · exact Dg dU l d _ rfl hs
theorem Dh{l:List Tn}{d:List UInt8}{n:Int}{t:Tn}(h:t ∈ qB l d n):t ∈ l∨(t= ⟨mk d,n⟩∧n ≠ 0):=by
  unfold qB at h
  split at h
  · exact .inl (List.mem_filter.1 h).1
  · rcases List.mem_append.1 h with h | h
    · exact .inl (List.mem_filter.1 h).1
    · rcases List.mem_cons.1 h with h | h
      · exact .inr ⟨h,by assumption⟩
      · exact .inl (List.mem_filter.1 h).1
theorem Qu{α:Type}(κ:α→List UInt8)(l:List α)(d:List UInt8):(l.filter (gLt κ d)).length+(l.filter (gGt κ d)).length ≤ l.length:=by
  induction l with
  | nil=>simp
  | cons x l ih=>
    rw [List.filter_cons,List.filter_cons]
    by_cases a:κ x < d
    · rw [if_pos (by simpa [gLt] using a),if_neg (by simp [gGt,gLt,a])];simp;omega
    · rw [if_neg (by simpa [gLt] using a)]
      split <;> simp <;> omega
theorem Di(l:List Tn)(d:List UInt8)(n:Int):(qB l d n).length ≤ l.length+1:=by
  unfold qB
  split
  · have:=List.length_filter_le (fun t=>!gEq dU d t) l;omega
  · have:=Qu dU l d
    simp;omega
theorem Qv{l:List Nd}{x:Nd}(hs:l.Pairwise (key · < key ·))(hn:l.find? (isK (key x))=none):(I3 x l).Pairwise (key · < key ·):=by
  rw [← Il hs hn]
  exact Dg key l _ x rfl hs
theorem gM.mk' {s:Sto} {l:List Nd} (S:gM s) (h1:∀ x ∈ l,pnB x=true) (h2:l.Pairwise (key · < key ·)):gM ⟨l,s.Turns⟩:=⟨List.all_eq_true.2 h1,h2,S.turns,S.tsort⟩
theorem Ty(s:Sto)(p:Pt1)(S:gM s)(hm:rR p=true):gM (doP s p).1∧(doP s p).1.Nodes.length ≤ s.Nodes.length+1∧(doP s p).1.Turns.length ≤ s.Turns.length+1∧(doP s p).2.Names.length ≤ s.Nodes.length:=by
  have hS:gM s∧s.Nodes.length ≤ s.Nodes.length+1∧s.Turns.length ≤ s.Turns.length+1∧([]:List ByteArray).length ≤ s.Nodes.length:=⟨S,by omega,by omega,by simp⟩
  have hN:=fun x hx=>List.all_eq_true.1 S.nodes x hx
  have hfl:∀ f:Nd→Bool,gM ⟨s.Nodes.filter f,s.Turns⟩:=fun f=>S.mk' (fun x hx=>hN x (List.mem_filter.1 hx).1) (S.nsort.filter _)
  have hf:=(L8 hm).1
  unfold sR at hf
  simp only [Bool.and_eq_true,decide_eq_true_eq] at hf
  unfold doP
  split
  · rename_i c
    obtain ⟨q,hq⟩:=Q3 hm c
    have hu:upP (bl p.Path)=q:=by unfold upP;rw [hq];rfl
    unfold Mg
    rw [hu]
    cases hn:B7 (pop p) q (nW s.Turns q) with
    | none=>exact hS
    | some t=>
      obtain ⟨n1,n2⟩:=Df (o:=pop p) hq hn
      simp only
      split
      · exact hS
      · rename_i hne
        have hfn:s.Nodes.find? (isK t)=none:=by
          rcases MK (s.Nodes.find? (isK t)) with h | ⟨x,h⟩
          · exact h
          · rw [h] at hne;exact absurd rfl hne
        obtain ⟨ps,a,hp1,_⟩:=J7 n1
        have tok:dQ t=true:=by unfold dQ;rw [hp1];rfl
        obtain ⟨_,_,_,_,hp2,_⟩:=J7 hq
        have qok:dQ q=true:=by unfold dQ;rw [hp2];rfl
        have hns:gM ⟨I3 ⟨mk t,p.Data,0,0,p.Owner⟩ s.Nodes,s.Turns⟩:=S.mk' (fun x hx=>by
            rcases MP.1 hx with rfl | hx
            · unfold pnB sR
              simp only [gV,tok]
              simp
              exact ⟨hf.1.1.2,hf.2⟩
            · exact hN x hx) (Qv (x:=(⟨mk t,p.Data,0,0,p.Owner⟩:Nd)) S.nsort hfn)
        have hil:=AC (⟨mk t,p.Data,0,0,p.Owner⟩:Nd) s.Nodes
        cases hT:p.Turns with
        | false=>exact ⟨hns,by simp only;omega,by simp,by simp [res]⟩
        | true=>
          have n3:=n2 hT
          refine ⟨⟨hns.nodes,hns.nsort,List.all_eq_true.2 fun y hy=>?_,T4 S.tsort _ _⟩,by simp only;omega,Di _ _ _,by simp [res]⟩
          rcases Dh hy with hy | ⟨rfl,_⟩
          · exact List.all_eq_true.1 S.turns y hy
          · unfold ptB
            simp only [dU,gV,qok,Bool.true_and,decide_eq_true_eq]
            omega
  split
  · split
    · exact hS
    · refine ⟨⟨S.nodes,S.nsort,List.all_eq_true.2 fun y hy=>?_,T4 S.tsort (bl p.Path) 0⟩,by simp,Di s.Turns (bl p.Path) 0,by simp [res]⟩
      rcases Dh (show y ∈ qB s.Turns (bl p.Path) 0 from hy) with hy | ⟨rfl,h⟩
      · exact List.all_eq_true.1 S.turns y hy
      · exact absurd rfl h
  split
  · exact ⟨S,by simp,by simp,by simp only [List.length_map];exact List.length_filter_le _ _⟩
  split
  · exact ⟨hfl _,Nat.le_succ_of_le (List.length_filter_le _ _),by simp,by simp only [List.length_map];exact List.length_filter_le _ _⟩
  split
  · exact hS
  rename_i e0
  split
  · exact hS
  split
  · exact ⟨hfl _,Nat.le_succ_of_le (List.length_filter_le _ _),by simp,by simp [res]⟩
  split
  · split
    · exact hS
    · rename_i hv
      refine ⟨S.mk' (fun x hx=>?_) (Qp S.nsort _ (fun z=>rfl)),by simp only [AB];omega,by simp,by simp [res]⟩
      obtain ⟨z,hz,rfl⟩:=MQ.1 hx
      have hzb:=hN z hz
      split
      · rename_i hk
        have hkz:key z=bl p.Path:=by simpa [isK] using hk
        have hnd:ndS s.Nodes p=(z,0):=by
          have h1:=Wg S.nsort hz
          rw [hkz] at h1
          unfold ndS at e0 ⊢
          rw [h1] at e0 ⊢
          simp only at e0 ⊢
          split at e0
          · exact absurd (show (63:Int) ≠ 0 by decide) e0
          · rw [if_neg (by assumption)]
        rw [hnd] at hv
        have h2:=Im S z hz
        simp only at hv
        have he:pnB (Qt p z)=(decide (z.Turn=0) && sR z.Path p.Data (z.Version+1) 0 z.Owner):=rfl
        rw [he]
        unfold pnB at hzb
        unfold sR at hzb ⊢
        simp only [Bool.and_eq_true,decide_eq_true_eq] at hzb ⊢
        exact ⟨hzb.1,⟨⟨hzb.2.1.1.1,by omega⟩,by omega⟩,hzb.2.2⟩
      · exact hzb
  split
  · exact hS
  split
  · exact hS
  · exact hS
end Go.Cb
