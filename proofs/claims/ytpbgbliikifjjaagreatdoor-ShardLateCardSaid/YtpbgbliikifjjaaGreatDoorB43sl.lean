/- Base 43: slices.Sort and slices.Compact of rows of strings, out of the library's contracts. -/
import Derived.Test.YtpbgbliikifjjaaGreatDoorB42sl
import Derived.Shelf.Sort.Plain
import Derived.Shelf.Slices.In.SortNone
import Derived.Shelf.Slices.CompactS
set_option linter.unusedVariables false
set_option linter.unusedSimpArgs false
set_option maxRecDepth 20000
namespace Go.Cb
open Go Go.Shelf Go.Proofs Go.RowKit Go.Sort
def toL(b:ByteArray):List UInt8:=b.data.toList
def ofL(l:List UInt8):ByteArray:=⟨l.toArray⟩
def Ea(x:List UInt8):List (List UInt8)→List (List UInt8)
  | []=>[x]
  | y::l=>if decide (x ≤ y)=true then x::y::l else y::Ea x l
def Bj:List (List UInt8)→List (List UInt8)
  | []=>[]
  | x::l=>Ea x (Bj l)
theorem Ag(x:List UInt8):∀ l,(Ea x l).Perm (x::l)
  | []=>.refl _
  | y::l=>by
    unfold Ea
    split
    · exact .refl _
    · exact ((Ag x l).cons y).trans (.swap x y l)
theorem H9:∀ l,(Bj l).Perm l
  | []=>.refl _
  | x::l=>(Ag x _).trans ((H9 l).cons x)
theorem Cq(x:List UInt8):∀ l:List (List UInt8),l.Pairwise (fun a b=>decide (a ≤ b)=true)→(Ea x l).Pairwise (fun a b=>decide (a ≤ b)=true)
  | [],_=>by simp [Ea]
  | y::l,h=>by
    obtain ⟨h1,h2⟩:=List.pairwise_cons.1 h
    unfold Ea
    split
    · rename_i hxy
      refine List.pairwise_cons.2 ⟨fun z hz=>?_,h⟩
      rcases List.mem_cons.1 hz with rfl | hz
      · exact hxy
      · have e1:=of_decide_eq_true hxy;have e2:=of_decide_eq_true (h1 z hz)
        exact decide_eq_true (List.le_trans e1 e2)
    · rename_i hxy
      refine List.pairwise_cons.2 ⟨fun z hz=>?_,Cq x l h2⟩
      rcases List.mem_cons.1 ((Ag x l).mem_iff.1 hz) with rfl | hz
      · have:¬ z ≤ y:=fun e=>hxy (decide_eq_true e)
        exact decide_eq_true ((List.le_total z y).resolve_left this)
      · exact h1 z hz
theorem Ah:∀ l,(Bj l).Pairwise (fun a b=>decide (a ≤ b)=true)
  | []=>.nil
  | x::l=>Cq x _ (Ah l)
theorem Vp(l:List (List UInt8)):Bj l=l.mergeSort fun x y=>decide (x ≤ y):=by
  refine List.Perm.eq_of_pairwise (le:=fun a b=>decide (a ≤ b)=true) (fun a b _ _ h1 h2=>List.le_antisymm (of_decide_eq_true h1) (of_decide_eq_true h2)) (Ah l) (List.pairwise_mergeSort (le:=fun x y:List UInt8=>decide (x ≤ y)) (fun a b c h1 h2=>decide_eq_true (List.le_trans (of_decide_eq_true h1) (of_decide_eq_true h2))) (fun a b=>by rcases List.le_total a b with h | h <;> simp [h]) l) ((H9 l).trans (List.mergeSort_perm l _).symm)
/-- what slices.Sort makes of strings, and slices.Compact. -/
def tB(l:List ByteArray):List ByteArray:=(Bj (l.map toL)).map ofL
def oY(l:List ByteArray):List ByteArray:=(Lib.compact (l.map toL)).map ofL
theorem O7(l:List (List UInt8)):(l.map ofL).map toL=l:=by rw [List.map_map];exact (List.map_congr_left fun x _=>rfl).trans (List.map_id l)
theorem M3(l:List ByteArray):(tB l).length=l.length:=by unfold tB;rw [List.length_map,(H9 _).length_eq,List.length_map]
def kSe:fK kS:=⟨fun x=>[.string x],fun h=>h,rfl⟩
theorem Xt(ys:List ByteArray)(j:Nat)(hj:j < ys.length):(flatK kSe.enc 1 ys.toArray)[j]! = .string ys[j]:=by
  rw [get_flatK _ _ _ _ (by simpa using hj)]
  simp [kSe,hj,Nat.mod_one]
theorem EO(ys:List ByteArray)(j:Nat)(hj:j < ys.length):encStr ((ys.map toL).toArray[j]!)= .string ys[j]:=by
  have:(ys.map toL).toArray[j]! =toL ys[j]:=by simp [hj]
  rw [this]
  rfl
theorem So{w:World}{g:Nat}{ys:List ByteArray}(h:HoldsK kSe.enc 1 w g 0 ys.toArray):Holds encStr w g 0 (ys.map toL).toArray:=by
  intro j hj
  have hj':j < ys.length:=by simpa using hj
  have:=h j (by simpa using hj')
  rw [Xt ys j hj'] at this
  rw [EO ys j hj']
  exact this
theorem EP(W:World)(g:Nat)(ys:List ByteArray):putRow encStr W g 0 (ys.map toL).toArray=putRowK kSe.enc 1 W g 0 ys.toArray:=by
  unfold putRowK putRow
  congr 1
  funext c
  unfold putCells
  congr 1
  funext k x
  have e:(ys.map toL).toArray.size=(flatK kSe.enc 1 ys.toArray).size:=by simp
  rw [e]
  split
  · rename_i hk
    have hk':k < ys.length:=by simpa using hk.2
    rw [Nat.sub_zero,EO ys k hk',Xt ys k hk']
    rfl
  · rfl
section
variable {P:Program} {ρ:Ren} {w:World} {os:List Ob} {rs:List Rp} {ix:Nat} {v:Value} {xs:List ByteArray} {e:TypeId}
theorem Zn(L:Lays.n190 P ρ)(H:Sep w os rs)(hi:os[ix]? =some (Row e kS v xs))(hn:xs.length ≤ 1000000) :
    Calls P (ρ.f 190) [v].toArray w (Ret fun v' w'=>v'= .tuple #[]∧Sep w' (os.set ix (Row e kS v (tB xs))) rs):=by
  obtain ⟨_,_,flat,⟨_,hv⟩,_⟩:=H.ob ix hi
  rcases hv with ⟨rfl,h0⟩ | ⟨g,cap,cur,rfl,_⟩
  · have h1:xs= []:=List.eq_nil_of_length_eq_zero h0
    subst h1
    refine (Any.slices_Sort_string_none L none 0 w).mono ?_
    rintro _ w' ⟨rfl,rfl⟩
    refine ⟨rfl,?_⟩
    have h3:os.set ix (Row e kS (.slice none 0 0) (tB []))=os:=by
      have h2:tB []= []:=List.eq_nil_of_length_eq_zero (M3 [])
      obtain ⟨hl,he⟩:=List.getElem?_eq_some_iff.1 hi
      rw [h2,← he,List.set_getElem_self]
    rw [h3]
    exact H
  · have hlen:xs.length=(xs.map toL).length:=by simp
    have hcon:=Any.slices_Sort_string L g 0 cap (xs.map toL) w (So (L7 H kSe hi)) (Bf H hi).1 (by simp;omega)
    rw [← hlen] at hcon
    refine hcon.mono ?_
    rintro _ _ ⟨rfl,n,os',rfl⟩
    refine ⟨rfl,?_⟩
    have:=H.sorted kSe hi n (tB xs) (M3 xs) os'
    unfold sortWorldK at this
    rw [← Vp,← O7 (Bj (xs.map toL)),EP]
    exact this
theorem Zo(L:Lays.n194 P ρ)(H:Sep w os rs)(hi:os[ix]? =some (Row e kS v xs))(hn:xs.length ≤ 1000000) :
    Calls P (ρ.f 194) [v].toArray w (Ret fun v' w'=>Sep w' (os.set ix (Row e kS v' (oY xs))) rs):=by
  obtain ⟨_,_,flat,⟨_,hv⟩,_⟩:=H.ob ix hi
  rcases hv with ⟨rfl,h0⟩ | ⟨g,cap,cur,rfl,_,_,hcap,_⟩
  · have h1:xs= []:=List.eq_nil_of_length_eq_zero h0
    subst h1
    refine (Any.slices_Compact_string_empty L none 0 w).mono ?_
    rintro _ w' ⟨rfl,rfl⟩
    have h3:os.set ix (Row e kS (.slice none 0 0) (oY []))=os:=by
      have h2:oY []= []:=rfl
      obtain ⟨hl,he⟩:=List.getElem?_eq_some_iff.1 hi
      rw [h2,← he,List.set_getElem_self]
    show Sep _ (os.set ix (Row e kS (.slice none 0 0) (oY []))) rs
    rw [h3]
    exact H
  · have hlen:xs.length=(xs.map toL).length:=by simp
    have hcon:=Any.slices_Compact_string L g 0 cap (xs.map toL) w (So (L7 H kSe hi)) (by simp;omega) (by simpa using hcap)
    rw [← hlen] at hcon
    refine hcon.mono ?_
    rintro _ _ ⟨rfl,q,rfl⟩
    have hle:(Lib.compact (xs.map toL)).length ≤ xs.length:=by
      rw [hlen];unfold Lib.compact Lib.compactUpTo;rw [List.length_map];exact Nat.le_trans (List.length_filter_le _ _) (by simp)
    obtain ⟨ys,hys⟩:∃ ys,ys=oY xs ++ List.replicate (xs.length - (Lib.compact (xs.map toL)).length) (ofL []):=⟨_,rfl⟩
    have hyl:ys.length=xs.length:=by rw [hys];unfold oY;simp;omega
    have hym:ys.map toL=Lib.compact (xs.map toL) ++ List.replicate (xs.length - (Lib.compact (xs.map toL)).length) []:=by
      rw [hys];unfold oY;rw [List.map_append,O7,List.map_replicate];rfl
    have h1:=H.sorted kSe hi q ys hyl #[]
    unfold sortWorldK at h1
    have hsz:kS.sz=1:=rfl
    rw [grow_empty,hsz,← EP,hym] at h1
    have hil:ix < os.length:=(List.getElem?_eq_some_iff.1 hi).1
    obtain ⟨cs,H2,e1,e2,e3,e4,e5⟩:=h1.rowBlk kSe (n:=xs.length) (List.getElem?_set_self hil)
    rw [List.set_set] at H2
    rw [hsz,Nat.mul_one] at e4 e5
    have H3:=H2.blkRow (xs:=oY xs) (n:=(Lib.compact (xs.map toL)).length) (c:=cap) kSe (List.getElem?_set_self hil) (by unfold oY;simp) (by omega) e3 (by rw [hsz,Nat.mul_one];exact e4) (by
      rw [hsz,Nat.mul_one]
      have:cs.take (Lib.compact (xs.map toL)).length=(cs.take xs.length).take (Lib.compact (xs.map toL)).length:=by rw [List.take_take,Nat.min_eq_left hle]
      rw [this,e5,hys,kSe.encs_app]
      have l:(kSe.encs (oY xs)).length=(Lib.compact (xs.map toL)).length:=by rw [kSe.encs_len,hsz,Nat.mul_one];unfold oY;simp
      rw [← l,List.take_left])
    rw [List.set_set] at H3
    exact H3
end
end Go.Cb
