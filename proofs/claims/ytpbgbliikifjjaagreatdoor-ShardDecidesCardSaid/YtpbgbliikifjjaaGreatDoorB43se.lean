/- Base 43: slices.Sort and slices.Compact of rows of strings, out of the library's contracts. -/
import Derived.Test.YtpbgbliikifjjaaGreatDoorB42se
import Derived.Shelf.Sort.Plain
import Derived.Shelf.Slices.In.SortNone
import Derived.Shelf.Slices.CompactS
set_option linter.unusedVariables false
set_option linter.unusedSimpArgs false
set_option maxRecDepth 20000
namespace Go.Cb
open Go Go.Shelf Go.Proofs Go.RowKit Go.Sort
def toL(b:ByteArray):List UInt8:=b.data.toList
def ofL(l:List UInt8):ByteArray:=⟨l.toArray⟩
def Ai(x:List UInt8):List (List UInt8)→List (List UInt8)
  | []=>[x]
  | y::l=>if decide (x ≤ y)=true then x::y::l else y::Ai x l
def S2:List (List UInt8)→List (List UInt8)
  | []=>[]
  | x::l=>Ai x (S2 l)
theorem Q1(x:List UInt8):∀ l,(Ai x l).Perm (x::l)
  | []=>.refl _
  | y::l=>by
    unfold Ai
    split
    · exact .refl _
    · exact ((Q1 x l).cons y).trans (.swap x y l)
theorem K5:∀ l,(S2 l).Perm l
  | []=>.refl _
  | x::l=>(Q1 x _).trans ((K5 l).cons x)
theorem V6(x:List UInt8):∀ l:List (List UInt8),l.Pairwise (fun a b=>decide (a ≤ b)=true)→(Ai x l).Pairwise (fun a b=>decide (a ≤ b)=true)
  | [],_=>by simp [Ai]
  | y::l,h=>by
    obtain ⟨h1,h2⟩:=List.pairwise_cons.1 h
    unfold Ai
    split
    · rename_i hxy
      refine List.pairwise_cons.2 ⟨fun z hz=>?_,h⟩
      rcases List.mem_cons.1 hz with rfl | hz
      · exact hxy
      · have e1:=of_decide_eq_true hxy;have e2:=of_decide_eq_true (h1 z hz)
        exact decide_eq_true (List.le_trans e1 e2)
    · rename_i hxy
      refine List.pairwise_cons.2 ⟨fun z hz=>?_,V6 x l h2⟩
      rcases List.mem_cons.1 ((Q1 x l).mem_iff.1 hz) with rfl | hz
      · have:¬ z ≤ y:=fun e=>hxy (decide_eq_true e)
        exact decide_eq_true ((List.le_total z y).resolve_left this)
      · exact h1 z hz
theorem Q2:∀ l,(S2 l).Pairwise (fun a b=>decide (a ≤ b)=true)
  | []=>.nil
  | x::l=>V6 x _ (Q2 l)
theorem Me(l:List (List UInt8)):S2 l=l.mergeSort fun x y=>decide (x ≤ y):=by
  refine List.Perm.eq_of_pairwise (le:=fun a b=>decide (a ≤ b)=true) (fun a b _ _ h1 h2=>List.le_antisymm (of_decide_eq_true h1) (of_decide_eq_true h2)) (Q2 l) (List.pairwise_mergeSort (le:=fun x y:List UInt8=>decide (x ≤ y)) (fun a b c h1 h2=>decide_eq_true (List.le_trans (of_decide_eq_true h1) (of_decide_eq_true h2))) (fun a b=>by rcases List.le_total a b with h | h <;> simp [h]) l) ((K5 l).trans (List.mergeSort_perm l _).symm)
/-- what slices.Sort makes of strings, and slices.Compact. -/
def y5(l:List ByteArray):List ByteArray:=(S2 (l.map toL)).map ofL
def wF(l:List ByteArray):List ByteArray:=(Lib.compact (l.map toL)).map ofL
theorem V7(l:List (List UInt8)):(l.map ofL).map toL=l:=by rw [List.map_map];exact (List.map_congr_left fun x _=>rfl).trans (List.map_id l)
theorem Df(l:List ByteArray):(y5 l).length=l.length:=by unfold y5;rw [List.length_map,(K5 _).length_eq,List.length_map]
def kSe:eJ kS:=⟨fun x=>[.string x],fun h=>h,rfl⟩
theorem Nk(ys:List ByteArray)(j:Nat)(hj:j < ys.length):(flatK kSe.enc 1 ys.toArray)[j]! = .string ys[j]:=by
  rw [get_flatK _ _ _ _ (by simpa using hj)]
  simp [kSe,hj,Nat.mod_one]
theorem Tr(ys:List ByteArray)(j:Nat)(hj:j < ys.length):encStr ((ys.map toL).toArray[j]!)= .string ys[j]:=by
  have:(ys.map toL).toArray[j]! =toL ys[j]:=by simp [hj]
  rw [this]
  rfl
theorem Kr{w:World}{g:Nat}{ys:List ByteArray}(h:HoldsK kSe.enc 1 w g 0 ys.toArray):Holds encStr w g 0 (ys.map toL).toArray:=by
  intro j hj
  have hj':j < ys.length:=by simpa using hj
  have:=h j (by simpa using hj')
  rw [Nk ys j hj'] at this
  rw [Tr ys j hj']
  exact this
theorem Ts(W:World)(g:Nat)(ys:List ByteArray):putRow encStr W g 0 (ys.map toL).toArray=putRowK kSe.enc 1 W g 0 ys.toArray:=by
  unfold putRowK putRow
  congr 1
  funext c
  unfold putCells
  congr 1
  funext k x
  have e:(ys.map toL).toArray.size=(flatK kSe.enc 1 ys.toArray).size:=by simp
  rw [e]
  split
  · rename_i hk
    have hk':k < ys.length:=by simpa using hk.2
    rw [Nat.sub_zero,Tr ys k hk',Nk ys k hk']
    rfl
  · rfl
section
variable {P:Program} {ρ:Ren} {w:World} {os:List Ob} {rs:List Rp} {ix:Nat} {v:Value} {xs:List ByteArray} {e:TypeId}
theorem Pd(L:Lays.n190 P ρ)(H:Sep w os rs)(hi:os[ix]? =some (Row e kS v xs))(hn:xs.length ≤ 1000000) :
    Calls P (ρ.f 190) [v].toArray w (Ret fun v' w'=>v'= .tuple #[]∧Sep w' (os.set ix (Row e kS v (y5 xs))) rs):=by
  obtain ⟨_,_,flat,⟨_,hv⟩,_⟩:=H.ob ix hi
  rcases hv with ⟨rfl,h0⟩ | ⟨g,cap,cur,rfl,_⟩
  · have h1:xs= []:=List.eq_nil_of_length_eq_zero h0
    subst h1
    refine (Any.slices_Sort_string_none L none 0 w).mono ?_
    rintro _ w' ⟨rfl,rfl⟩
    refine ⟨rfl,?_⟩
    have h3:os.set ix (Row e kS (.slice none 0 0) (y5 []))=os:=by
      have h2:y5 []= []:=List.eq_nil_of_length_eq_zero (Df [])
      obtain ⟨hl,he⟩:=List.getElem?_eq_some_iff.1 hi
      rw [h2,← he,List.set_getElem_self]
    rw [h3]
    exact H
  · have hlen:xs.length=(xs.map toL).length:=by simp
    have hcon:=Any.slices_Sort_string L g 0 cap (xs.map toL) w (Kr (D2 H kSe hi)) (R7 H hi).1 (by simp;omega)
    rw [← hlen] at hcon
    refine hcon.mono ?_
    rintro _ _ ⟨rfl,n,os',rfl⟩
    refine ⟨rfl,?_⟩
    have:=H.sorted kSe hi n (y5 xs) (Df xs) os'
    unfold sortWorldK at this
    rw [← Me,← V7 (S2 (xs.map toL)),Ts]
    exact this
theorem Pe(L:Lays.n194 P ρ)(H:Sep w os rs)(hi:os[ix]? =some (Row e kS v xs))(hn:xs.length ≤ 1000000) :
    Calls P (ρ.f 194) [v].toArray w (Ret fun v' w'=>Sep w' (os.set ix (Row e kS v' (wF xs))) rs):=by
  obtain ⟨_,_,flat,⟨_,hv⟩,_⟩:=H.ob ix hi
  rcases hv with ⟨rfl,h0⟩ | ⟨g,cap,cur,rfl,_,_,hcap,_⟩
  · have h1:xs= []:=List.eq_nil_of_length_eq_zero h0
    subst h1
    refine (Any.slices_Compact_string_empty L none 0 w).mono ?_
    rintro _ w' ⟨rfl,rfl⟩
    have h3:os.set ix (Row e kS (.slice none 0 0) (wF []))=os:=by
      have h2:wF []= []:=rfl
      obtain ⟨hl,he⟩:=List.getElem?_eq_some_iff.1 hi
      rw [h2,← he,List.set_getElem_self]
    show Sep _ (os.set ix (Row e kS (.slice none 0 0) (wF []))) rs
    rw [h3]
    exact H
  · have hlen:xs.length=(xs.map toL).length:=by simp
    have hcon:=Any.slices_Compact_string L g 0 cap (xs.map toL) w (Kr (D2 H kSe hi)) (by simp;omega) (by simpa using hcap)
    rw [← hlen] at hcon
    refine hcon.mono ?_
    rintro _ _ ⟨rfl,q,rfl⟩
    have hle:(Lib.compact (xs.map toL)).length ≤ xs.length:=by
      rw [hlen];unfold Lib.compact Lib.compactUpTo;rw [List.length_map];exact Nat.le_trans (List.length_filter_le _ _) (by simp)
    obtain ⟨ys,hys⟩:∃ ys,ys=wF xs ++ List.replicate (xs.length - (Lib.compact (xs.map toL)).length) (ofL []):=⟨_,rfl⟩
    have hyl:ys.length=xs.length:=by rw [hys];unfold wF;simp;omega
    have hym:ys.map toL=Lib.compact (xs.map toL) ++ List.replicate (xs.length - (Lib.compact (xs.map toL)).length) []:=by
      rw [hys];unfold wF;rw [List.map_append,V7,List.map_replicate];rfl
    have h1:=H.sorted kSe hi q ys hyl #[]
    unfold sortWorldK at h1
    have hsz:kS.sz=1:=rfl
    rw [grow_empty,hsz,← Ts,hym] at h1
    have hil:ix < os.length:=(List.getElem?_eq_some_iff.1 hi).1
    obtain ⟨cs,H2,e1,e2,e3,e4,e5⟩:=h1.rowBlk kSe (n:=xs.length) (List.getElem?_set_self hil)
    rw [List.set_set] at H2
    rw [hsz,Nat.mul_one] at e4 e5
    have H3:=H2.blkRow (xs:=wF xs) (n:=(Lib.compact (xs.map toL)).length) (c:=cap) kSe (List.getElem?_set_self hil) (by unfold wF;simp) (by omega) e3 (by rw [hsz,Nat.mul_one];exact e4) (by
      rw [hsz,Nat.mul_one]
      have:cs.take (Lib.compact (xs.map toL)).length=(cs.take xs.length).take (Lib.compact (xs.map toL)).length:=by rw [List.take_take,Nat.min_eq_left hle]
      rw [this,e5,hys,kSe.encs_app]
      have l:(kSe.encs (wF xs)).length=(Lib.compact (xs.map toL)).length:=by rw [kSe.encs_len,hsz,Nat.mul_one];unfold wF;simp
      rw [← l,List.take_left])
    rw [List.set_set] at H3
    exact H3
end
end Go.Cb
