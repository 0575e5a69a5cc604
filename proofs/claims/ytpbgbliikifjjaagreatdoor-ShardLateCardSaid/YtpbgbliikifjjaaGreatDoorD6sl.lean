/- ShardLate, plainly: what was finished ahead of being prepared is too late; finished twice nothing more is done. -/
import Derived.Test.YtpbgbliikifjjaaGreatDoorD4sl
import Derived.Test.YtpbgbliikifjjaaGreatDoorKsl4
set_option linter.unusedVariables false
set_option linter.unusedSimpArgs false
namespace Go.Cb
open Go.Proofs Go.RowKit

/-! ### the pieces of operations may be a command's -/
theorem Nb(o:Op1)(hv:o.Version < 281474976710656):∀ p ∈ C9 o,p.Version < 281474976710656:=by
  intro p hp
  unfold C9 at hp
  repeat' split at hp
  all_goals (simp only [List.mem_cons,List.not_mem_nil,or_false] at hp;first | (rcases hp with rfl | rfl <;> simp <;> first | omega | skip) | (rw [hp];simp <;> first | omega | skip))
theorem Il:∀ (u:List Pt1) (i last:Int) (l:List Pie),last ≤ i→i < 8→(∀ p ∈ u,tM p=true∧p.Version < 281474976710656)→(∀ last,last ≤ i→s7 last l=true)→s7 last (u.map (fun p=>(⟨i,p⟩:Pie)) ++ l)=true
  | [],i,last,l,h1,h2,h3,h4=>h4 last h1
  | p::u,i,last,l,h1,h2,h3,h4=>by
    have hp:=h3 p (by simp)
    rw [List.map_cons,List.cons_append]
    unfold s7
    simp only [Bool.and_eq_true,decide_eq_true_eq]
    exact ⟨h1,h2,hp.1,hp.2,Il u i i l (by omega) h2 (fun q hq=>h3 q (by simp [hq])) h4⟩
theorem Im:∀ (l:List Op1) (i:Nat) (last:Int),i+l.length ≤ 8→last ≤ i→(∀ o ∈ l,o.Version < 281474976710656)→s7 last (xM i l)=true
  | [],i,last,_,_,_=>rfl
  | o::l,i,last,h,hl,hv=>by
    unfold xM
    refine Il _ _ _ _ hl (by simp at h;omega) ?_ ?_
    · intro p hp
      unfold ofS at hp
      split at hp
      · rename_i m
        exact ⟨Wn o m p hp,Nb o (hv o (by simp)) p hp⟩
      · simp at hp
    · intro last' h'
      exact Im l (i+1) last' (by simp at h;omega) (by omega) (fun q hq=>hv q (by simp [hq]))
theorem Ge:∀ (l:List Op1) (i:Nat),(xM i l).length ≤ 2 * l.length
  | [],i=>by simp [xM]
  | o::l,i=>by
    have h1:=Nx o
    have h2:=Ge l (i+1)
    simp only [xM,List.length_append,List.length_map,List.length_cons]
    omega
theorem Gf(l:List Op1)(hv:∀ o ∈ l,o.Version < 281474976710656)(t:Int)(h1:0 ≤ t)(h2:t ≤ 281474976710656):a8 0 t 0 (nY l)=true:=by
  have hn:=St h1 h2
  unfold nY
  split
  · rename_i m
    have hl:l.length ≤ 8:=by
      unfold Lz at m
      simp only [Bool.and_eq_true,decide_eq_true_eq] at m
      exact m.1.2
    have h3:=Im l 0 0 (by omega) (by omega) hv
    have h4:=Ge l 0
    unfold a8
    rw [h3,decide_eq_true (by omega),hn]
    rfl
  · unfold a8
    rw [hn]
    rfl
/-! ### finish, prepare -/
abbrev I1:bQ:=⟨true,[],Bp 0⟩
theorem Eh:jX (⟨oQ,[]⟩:Sto):=by
  obtain ⟨b,h1,h2⟩:=Au (⟨oQ,[]⟩:Sto) (by decide) (by decide)
  rw [show mZ (⟨oQ,[]⟩:Sto)=some true by kernel_rfl] at h1
  cases h1
  exact h2.1 rfl
theorem Hl{t:Int}(h1:0 ≤ t)(h2:t ≤ 281474976710656):a8 0 t 0 []=true:=by
  unfold a8
  rw [St h1 h2]
  rfl
section
variable (c:List aG) (x:List (Int×aH)) (z:List (Int×aH))
theorem Uh(s:Sto){t:Int}(h1:0 ≤ t)(h2:t ≤ 281474976710656):cT s.Nodes s.Turns c [] [] [] x [] z (rJ 3 0 t 0 false [])=some (Bp 0,s.Nodes,s.Turns,c,[],[],[],x,[(t,I1)],z):=by
  rw [Qz _ _ _ _ _ _ _ _ _ (by simp) (Hl h1 h2)]
  unfold jO y4 mlk
  rw [show (rJ 3 0 t 0 false []).Txn=t from rfl,if_pos (Aq h1 h2)]
  simp only [Option.map_some,Option.bind_some,eM]
  unfold jH
  rw [if_pos (by rfl),show (rJ 3 0 t 0 false []).Yes=false from rfl]
  unfold gW
  rw [if_neg (by simp),if_pos (by rfl)]
  unfold gV mpt
  rw [if_neg (by simp),if_neg (by simp),show (rJ 3 0 t 0 false []).Txn=t from rfl,if_pos ⟨Aq h1 h2,by simp [maxLen]⟩,show (rJ 3 0 t 0 false []).Yes=false from rfl,show vG [] t=some [] from rfl]
  simp only [Option.bind_some,lR]
  rw [if_neg (by simp)]
  unfold jG
  rw [if_neg (by simp)]
  rfl
/-- a transaction that is over: finished once more, or prepared, changes nothing. -/
theorem Mi(s:Sto)(d:List Hd){t:Int}(h1:0 ≤ t)(h2:t ≤ 281474976710656)(yes:Bool)(y:List (Int×bQ))(hy:eM y t=some I1):cT s.Nodes s.Turns c d [] [] x y z (rJ 3 0 t 0 yes [])=some (Bp 0,s.Nodes,s.Turns,c,d,[],[],x,y,z):=by
  rw [Qz _ _ _ _ _ _ _ _ _ (by simp) (Hl h1 h2)]
  unfold jO y4 mlk
  rw [show (rJ 3 0 t 0 yes []).Txn=t from rfl,if_pos (Aq h1 h2),hy]
  simp only [Option.map_some,Option.bind_some]
  unfold jH
  rw [if_neg (by simp)]
  unfold gW
  rw [if_neg (by simp),if_neg (by simp)]
  unfold gV
  rw [if_neg (by simp),if_pos (by rfl)]
  rfl
theorem Ui(s:Sto)(d:List Hd){t:Int}(h1:0 ≤ t)(h2:t ≤ 281474976710656)(l:List Pie)(hc:a8 0 t 0 l=true)(y:List (Int×bQ))(hy:eM y t=some I1):cT s.Nodes s.Turns c d [] [] x y z (rJ 2 0 t 0 false l)=some (Bp 133,s.Nodes,s.Turns,c,d,[],[],x,y,z):=by
  have hl:=(Ax hc).2.1
  rw [Uc _ _ _ _ _ _ _ _ _ (by omega) hc]
  unfold kX y4 mlk
  rw [show (rJ 2 0 t 0 false l).Txn=t from rfl,if_pos (Aq h1 h2),hy]
  simp only [Option.map_some,Option.bind_some]
  unfold lN
  rw [if_pos (by rfl),if_pos (by rfl)]
  rfl
end
/-- what a prepared transaction's pieces answered. -/
def Ei(s:Sto)(l:List Pie):aH:=⟨(nC s 0 s [] l).2.2.1,(nC s 0 s [] l).2.2.2,(nC s 0 s [] l).2.2.1 == 0,0,(nC s 0 s [] l).2.1,⟨[],[]⟩,[],[],[]⟩
theorem Wo{e:Int}(e1:0 ≤ e)(e2:e ≤ 281474976710656)(x z:List (Int×aH))(s:Sto)(S:jX s)(hn:s.Nodes.length ≤ 50000)(ht:s.Turns.length ≤ 50000){t:Int}(h1:0 ≤ t)(h2:t ≤ 281474976710656)(l:List Pie)(hc:a8 0 t 0 l=true)(y:List (Int×bQ))(hy:eM y t=none)(hlen:y.length ≤ 100) :
    ∃ H:List Hd,cT s.Nodes s.Turns (wR e) [] [] [] x y z (rJ 2 0 t 0 false l)=some (Ei s l,s.Nodes,s.Turns,wR e,H,[],[],x,lR y t ⟨false,l,Ei s l⟩,z)∧H.length ≤ 1000:=by
  obtain ⟨m1,m2,m3,m4,m5⟩:=Ax hc
  rw [Uc _ _ _ _ _ _ _ _ _ (by omega) hc]
  unfold kX y4 mlk
  rw [show (rJ 2 0 t 0 false l).Txn=t from rfl,if_pos (Aq h1 h2),hy]
  simp only [Option.map_some,Option.bind_some]
  unfold lN
  rw [if_neg (by simp),AH _ (by show l.length ≤ 1000000;omega)]
  simp only [Option.bind_some]
  have len:(oY (tB (l.map fun p=>p.Part.Dir))).length ≤ 16:=Nat.le_trans (Wm _) (by rw [List.length_map];omega)
  rw [Rc e1 e2 _ (by omega) (Oi m1)]
  simp only [Option.bind_some]
  rw [if_pos (by rfl),show ((y.length:Int) == 128)=false from by rw [beq_eq_false_iff_ne];omega]
  unfold lM
  rw [if_neg (by simp)]
  unfold lL
  obtain ⟨H,t1,t2⟩:=KG (oY (tB (l.map fun p=>p.Part.Dir))) t 0 (by omega) (Oi m1) m4 rfl
  rw [if_neg (by simp),show (rJ 2 0 t 0 false l).Txn=t from rfl,show (rJ 2 0 t 0 false l).Age=0 from rfl,t1]
  simp only [Option.bind_some]
  rw [if_neg (by simp),show (⟨s.Nodes,s.Turns⟩:Sto)=s from rfl,(O9 s l S hn ht (by omega) m1).1]
  simp only [Option.bind_some]
  unfold oP mpt
  rw [show (rJ 2 0 t 0 false l).Txn=t from rfl,if_pos ⟨Aq h1 h2,by simp [maxLen];omega⟩]
  exact ⟨H,rfl,by omega⟩
/-- finished after it was prepared. -/
def P1(s:Sto)(l:List Pie)(yes:Bool):Sto:=if yes=true∧(nC s 0 s [] l).2.2.1=0 then (nC s 0 s [] l).1 else s
theorem Wp(c:List aG)(x z:List (Int×aH))(s:Sto)(S:jX s)(hn:s.Nodes.length ≤ 50000)(ht:s.Turns.length ≤ 50000){t:Int}(h1:0 ≤ t)(h2:t ≤ 281474976710656)(l:List Pie)(hl:l.length ≤ 1000)(hm:∀ p ∈ l,tM p.Part=true)(yes:Bool)(H:List Hd)(hH:H.length ≤ 1000)(y:List (Int×bQ))(hy:eM y t=some ⟨false,l,Ei s l⟩)(hlen:y.length ≤ 100) :
    ∃ H',cT s.Nodes s.Turns c H [] [] x y z (rJ 3 0 t 0 yes [])=some (Bp 0,(P1 s l yes).Nodes,(P1 s l yes).Turns,c,H',[],[],x,lR y t I1,z):=by
  rw [Qz _ _ _ _ _ _ _ _ _ (by simp) (Hl h1 h2)]
  unfold jO y4 mlk
  rw [show (rJ 3 0 t 0 yes []).Txn=t from rfl,if_pos (Aq h1 h2),hy]
  simp only [Option.map_some,Option.bind_some]
  unfold jH
  rw [if_neg (by simp)]
  unfold gW
  rw [if_neg (by simp),if_neg (by simp)]
  unfold gV mpt
  obtain ⟨H',f1,f2⟩:=FH H t (by omega)
  rw [if_neg (by simp),if_neg (by simp),show (rJ 3 0 t 0 yes []).Txn=t from rfl,if_pos ⟨Aq h1 h2,by simp [maxLen];omega⟩,f1]
  simp only [Option.bind_some,Option.getD_some]
  refine ⟨H',?_⟩
  unfold jG lV P1
  cases yes with
  | false=>
    rw [if_neg (by simp),if_neg (by simp),if_neg (by simp)]
    rfl
  | true=>
    rw [if_pos (by rfl)]
    by_cases e:(nC s 0 s [] l).2.2.1=0
    · rw [if_pos (by simp [Ei,e]),MG s l S hn ht hl hm,if_neg (by simpa using e),if_pos ⟨rfl,e⟩]
      rfl
    · rw [if_neg (by simp [Ei,e]),if_neg (by simp [e])]
      rfl
theorem AK(t:Int)(h1:0 ≤ t)(h2:t ≤ 281474976710656)(l:List Op1)(hv:∀ o ∈ l,o.Version < 281474976710656)(yes:Bool) :
    eJ t true (Bp 0,oQ,[],M4,[],[],[],[],[(t,I1)],[]) (nY l) yes false=some true:=by
  unfold eJ
  rw [if_neg (by simp)]
  by_cases e:t=281474976710656
  · rw [if_pos (by simpa using e)]
  · rw [if_neg (by simpa using e),ER (by omega) (by omega)]
    have t1:0 ≤ t+1:=by omega
    have t2:t+1 ≤ 281474976710656:=by omega
    have hc:=Gf l hv (t+1) t1 t2
    obtain ⟨m1,m2,m3,m4,m5⟩:=Ax hc
    have hne:¬ t=t+1:=by omega
    obtain ⟨H,p1,p2⟩:=Wo (e:=1) (by omega) (by omega) [] [] (⟨oQ,[]⟩:Sto) Eh (by simp) (by simp) t1 t2 (nY l) hc [(t,I1)] (by simp [eM,hne]) (by simp)
    simp only at p1
    rw [show M4=wR 1 from rfl,p1]
    simp only [Option.bind_some]
    obtain ⟨H',f1⟩:=Wp (wR 1) [] [] (⟨oQ,[]⟩:Sto) Eh (by simp) (by simp) t1 t2 (nY l) (by omega) m1 yes H p2 (lR [(t,I1)] (t+1) ⟨false,nY l,Ei (⟨oQ,[]⟩:Sto) (nY l)⟩) (wT _ _ _) (by simp [lR,hne])
    simp only at f1
    rw [f1]
    simp only [Option.bind_some]
    have S2:(P1 (⟨oQ,[]⟩:Sto) (nY l) yes).Nodes.length ≤ 51000∧(P1 (⟨oQ,[]⟩:Sto) (nY l) yes).Turns.length ≤ 51000:=by
      obtain ⟨_,a2⟩:=O9 (⟨oQ,[]⟩:Sto) (nY l) Eh (by simp) (by simp) (by omega) m1
      unfold P1
      split
      · rename_i k
        obtain ⟨_,b2,b3,_⟩:=a2 k.2
        exact ⟨b2,b3⟩
      · exact ⟨by simp,by simp⟩
    have sto:fO (P1 (⟨oQ,[]⟩:Sto) (nY l) yes).Nodes (P1 (⟨oQ,[]⟩:Sto) (nY l) yes).Turns=some (P1 (⟨oQ,[]⟩:Sto) (nY l) yes):=by
      unfold fO
      rw [fZ (by simp [LIM];omega),fZ (by simp [LIM];omega)]
    rw [sto]
    simp only [Option.bind_some]
    rw [Mi (wR 1) [] [] _ H' t1 t2 true _ (wT _ _ _)]
    simp only [Option.bind_some]
    rw [if_pos trivial,if_pos (by rfl),if_pos (by rfl),sto]
    simp only [Option.bind_some]
    rw [Wk _ _ (by omega) (by omega)]
    simp only [Option.bind_some,decide_true,if_true]
    unfold Ei P1
    by_cases k:(nC (⟨oQ,[]⟩:Sto) 0 (⟨oQ,[]⟩:Sto) [] (nY l)).2.2.1=0
    · cases yes with
      | true=>rw [if_pos (by simpa using k),if_pos rfl]
      | false=>
        rw [if_pos (by simpa using k),if_neg (by simp),if_neg (by simp)]
        rfl
    · rw [if_neg (by simpa using k),if_neg (by simp [k])]
      rfl
theorem Wq(t:Int)(h1:0 ≤ t)(h2:t ≤ 281474976710656)(l:List Op1)(hl:l.length ≤ 8)(hv:∀ o ∈ l,o.Version < 281474976710656)(yes:Bool)(k:Nat)(i:Int)(hi:¬ i < l.length) :
    dQ true t yes l (oQ,[],M4) (k+1) i=some true:=by
  unfold dQ
  have hc:=Gf l hv t h1 h2
  rw [if_neg (by simpa using hi),Qs l (by omega)]
  simp only [Option.bind_some]
  have a:=Uh M4 [] [] (⟨oQ,[]⟩:Sto) h1 h2
  simp only at a
  rw [a]
  simp only [Option.bind_some]
  have b:=Ui M4 [] [] (⟨oQ,[]⟩:Sto) [] h1 h2 (nY l) hc [(t,I1)] (by simp [eM])
  simp only at b
  rw [b]
  simp only [Option.bind_some]
  have c:=Mi M4 [] [] (⟨oQ,[]⟩:Sto) [] h1 h2 yes [(t,I1)] (by simp [eM])
  simp only at c
  rw [c]
  simp only [Option.bind_some]
  rw [if_neg (by simp),if_neg (by simp),if_neg (by simp),show mR []=some [] from by unfold mR;simp [ck,LIM]]
  simp only [Option.bind_some]
  rw [if_neg (by simp),EV]
  simp only [Option.bind_some]
  exact AK t h1 h2 l hv yes
theorem Ok(t:Int)(h1:0 ≤ t)(h2:t ≤ 281474976710656)(l:List Op1)(hl:l.length ≤ 8)(yes:Bool):∀ (k i:Nat),i ≤ l.length→l.length+1 ≤ i+k→(∀ j (h:j < l.length),j < i→(l[j]).Version < 281474976710656)→dQ true t yes l (oQ,[],M4) k (i:Int)=some true
  | 0,i,_,h,_=>by omega
  | k+1,i,h0,h,hv=>by
    by_cases hi:i < l.length
    · unfold dQ hB
      rw [if_pos (by simpa using hi),ET hi]
      simp only [Option.bind_some]
      by_cases v:(l[i]).Version ≥ 281474976710656
      · rw [if_pos (by simpa using v),if_pos trivial]
      · rw [if_neg (by simpa using v),ES (by omega),Ok t h1 h2 l hl yes k (i+1) (by omega) (by omega) (fun j hj hji=>by
          rcases Nat.lt_or_ge j i with c | c
          · exact hv j hj c
          · obtain rfl:j=i:=by omega
            omega)]
        repeat' split
        all_goals rfl
    · refine Wq t h1 h2 l hl (fun o ho=>?_) yes k _ (by omega)
      obtain ⟨j,hj,rfl⟩:=List.mem_iff_getElem.1 ho
      exact hv j hj (by omega)
theorem Rd(l:List Op1)(t:Int)(yes:Bool):lZ l t yes=some true:=by
  unfold lZ
  rw [Vs,EU]
  simp only [Option.bind_some,Db]
  unfold hC
  by_cases h0:(l.length:Int) > 8
  · rw [if_pos (by simpa using h0),if_pos rfl]
  · rw [if_neg (by simpa using h0)]
    by_cases h1:t < 0
    · rw [if_pos (by simpa using h1),if_pos rfl]
    · rw [if_neg (by simpa using h1)]
      by_cases h2:t > 281474976710656
      · rw [if_pos (by simpa using h2)]
      · rw [if_neg (by simpa using h2)]
        exact Ok t (by omega) (by omega) l (by omega) yes _ 0 (by omega) (by omega) (fun j _ h=>by omega)
end Go.Cb
