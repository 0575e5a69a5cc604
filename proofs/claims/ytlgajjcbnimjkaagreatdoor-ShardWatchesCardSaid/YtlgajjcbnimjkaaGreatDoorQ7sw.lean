/- Plain laws of elder seats, at this one. -/
import Derived.Test.YtlgajjcbnimjkaaGreatDoorQ6sw
set_option linter.unusedVariables false
set_option linter.unusedSimpArgs false
namespace Go.Cb
open Go.Proofs Go.RowKit

abbrev Res:=cR
def res(e:Int):Res:=⟨e,mk [],mk [],0,[]⟩
def uR(p:List UInt8)(x:Nd):Bool:=decide (jB (key x)=some p)
theorem Lz{l:List Nd}(h:l.Pairwise (key · < key ·)){i:Nat}(hi:i < l.length):l.eraseIdx i=l.filter (fun y=>!isK (key l[i]) y):=by
  have hs:=List.pairwise_iff_getElem.1 h
  have e:l=l.take i ++ l[i]::l.drop (i+1):=by rw [← List.drop_eq_getElem_cons hi,List.take_append_drop]
  rw [List.eraseIdx_eq_take_drop_succ]
  obtain ⟨p,hp⟩:∃ p,p=key l[i]:=⟨_,rfl⟩
  rw [← hp]
  have e2:l.filter (fun y=>!isK p y)=(l.take i ++ l[i]::l.drop (i+1)).filter (fun y=>!isK p y):=by rw [← e]
  rw [e2,List.filter_append,List.filter_cons,if_neg (by simp [isK,hp])]
  congr 1
  · refine (List.filter_eq_self.2 fun y hy=>?_).symm
    obtain ⟨j,hj,rfl⟩:=List.mem_take_iff_getElem.1 hy
    have:=w7 (hs j i (by omega) hi (by omega))
    simpa [isK,hp] using this
  · refine (List.filter_eq_self.2 fun y hy=>?_).symm
    obtain ⟨j,hj,rfl⟩:=List.mem_drop_iff_getElem.1 hy
    have:=w7 (hs i (i+1+j) hi (by omega) (by omega))
    simpa [isK,hp] using this.symm
def upd(l:List Nd)(p:List UInt8)(f:Nd→Nd):List Nd:=l.map fun z=>if isK p z then f z else z
theorem AA{l:List Nd}(h:l.Pairwise (key · < key ·)){i:Nat}(hi:i < l.length)(f:Nd→Nd):l.set i (f l[i])=upd l (key l[i]) f:=by
  have hs:=List.pairwise_iff_getElem.1 h
  unfold upd
  apply List.ext_getElem (by simp)
  intro j h1 h2
  simp at h1
  rw [List.getElem_map,List.getElem_set]
  by_cases e:i=j
  · subst e;rw [if_pos rfl,if_pos (by simp [isK])]
  · rw [if_neg e,if_neg]
    rw [isK]
    simp only [decide_eq_true_eq]
    rcases Nat.lt_or_gt_of_ne e with c | c
    · exact (w7 (hs i j hi h1 c)).symm
    · exact w7 (hs j i h1 hi c)
def yQ(x:Nd):ByteArray:=mk (wX (key x))
def sF(p:List UInt8)(w:Int)(x:Nd):Bool:=(x.Owner == w) && uR p x
theorem W1{l:List Nd}{f:Nd→Bool}{i:Nat}(hi:i < l.length):(l.take (i+1)).filter f=(l.take i).filter f ++ if f l[i]=true then [l[i]] else []:=by
  rw [List.take_add_one,List.getElem?_eq_getElem hi,List.filter_append]
  congr 1
  simp [List.filter_cons]
end Go.Cb
