/- slices.SortFunc: the library's proved contract, laid at this program, at nodes. -/
import Derived.Test.YtpbgbliikifjjaaGreatDoorS1se
import Derived.Test.YtpbgbliikifjjaaGreatDoorAse1
import Derived.Shelf.SlSortCmp.WholeK
set_option linter.unusedVariables false
set_option linter.unusedSimpArgs false
set_option maxRecDepth 20000
set_option maxHeartbeats 1000000
namespace Go.Cb.Tn
open Go Go.Shelf Go.Proofs Go.RowKit Go.Sort
def sortRen:Ren:=⟨fun | 6=>85 | 15=>157 | 14=>159 | 28=>215 | 29=>216 | 20=>218 | 21=>219 | 22=>220 | 23=>221 | 24=>222 | 25=>223 | 26=>224 | 27=>225 | 46=>277 | 47=>273 | 48=>274 | 49=>278 | 50=>279 | 57=>321 | n=>n,fun | 22=>23 | 24=>77 | 25=>148 | 3=>3 | 39=>208 | 0=>0 | 53=>264 | 55=>266 | 4=>4 | 46=>258 | 45=>257 | 50=>190 | 5=>5 | 9=>9 | 66=>304 | 70=>308 | 76=>334 | 77=>335 | n=>n,fun n=>n⟩
theorem sortLays:SlLaysF0.n6 Tryz.prog sortRen where
  mixed:=by kernel_rfl
  f6:=⟨"slices.SortFunc[[]canton/api.Turn,canton/api.Turn]",by kernel_rfl,Tryz.func85.trans (congrArg some (by kernel_rfl))⟩
  f14:=⟨"slices.pdqsortCmpFunc[canton/api.Turn]",by kernel_rfl,Tryz.func159.trans (congrArg some (by kernel_rfl))⟩
  f15:=Tryz.func157.trans (congrArg some (by kernel_rfl))
  f20:=⟨"slices.insertionSortCmpFunc[canton/api.Turn]",by kernel_rfl,Tryz.func218.trans (congrArg some (by kernel_rfl))⟩
  f21:=⟨"slices.heapSortCmpFunc[canton/api.Turn]",by kernel_rfl,Tryz.func219.trans (congrArg some (by kernel_rfl))⟩
  f22:=⟨"slices.breakPatternsCmpFunc[canton/api.Turn]",by kernel_rfl,Tryz.func220.trans (congrArg some (by kernel_rfl))⟩
  f23:=⟨"slices.choosePivotCmpFunc[canton/api.Turn]",by kernel_rfl,Tryz.func221.trans (congrArg some (by kernel_rfl))⟩
  f24:=⟨"slices.reverseRangeCmpFunc[canton/api.Turn]",by kernel_rfl,Tryz.func222.trans (congrArg some (by kernel_rfl))⟩
  f25:=⟨"slices.partialInsertionSortCmpFunc[canton/api.Turn]",by kernel_rfl,Tryz.func223.trans (congrArg some (by kernel_rfl))⟩
  f26:=⟨"slices.partitionEqualCmpFunc[canton/api.Turn]",by kernel_rfl,Tryz.func224.trans (congrArg some (by kernel_rfl))⟩
  f27:=⟨"slices.partitionCmpFunc[canton/api.Turn]",by kernel_rfl,Tryz.func225.trans (congrArg some (by kernel_rfl))⟩
  f28:=Tryz.func215.trans (congrArg some (by kernel_rfl))
  f29:=Tryz.func216.trans (congrArg some (by kernel_rfl))
  f46:=⟨"slices.siftDownCmpFunc[canton/api.Turn]",by kernel_rfl,Tryz.func277.trans (congrArg some (by kernel_rfl))⟩
  f47:=Tryz.func273.trans (congrArg some (by kernel_rfl))
  f48:=Tryz.func274.trans (congrArg some (by kernel_rfl))
  f49:=⟨"slices.medianAdjacentCmpFunc[canton/api.Turn]",by kernel_rfl,Tryz.func278.trans (congrArg some (by kernel_rfl))⟩
  f50:=⟨"slices.medianCmpFunc[canton/api.Turn]",by kernel_rfl,Tryz.func279.trans (congrArg some (by kernel_rfl))⟩
  f57:=⟨"slices.order2CmpFunc[canton/api.Turn]",by kernel_rfl,Tryz.func321.trans (congrArg some (by kernel_rfl))⟩
  t0:=Tryz.underlying0
  a0:=Tryz.isAgg0
  z0:=Tryz.sizeOf0
  v0:=Tryz.zeroValue0
  t3:=Tryz.underlying3
  a3:=Tryz.isAgg3
  z3:=Tryz.sizeOf3
  v3:=Tryz.zeroValue3
  t4:=Tryz.underlying4
  a4:=Tryz.isAgg4
  z4:=Tryz.sizeOf4
  v4:=Tryz.zeroValue4
  t5:=Tryz.underlying5
  a5:=Tryz.isAgg5
  z5:=Tryz.sizeOf5
  v5:=Tryz.zeroValue5
  t9:=Tryz.underlying9
  a9:=Tryz.isAgg9
  z9:=Tryz.sizeOf9
  v9:=Tryz.zeroValue9
  t22:=Tryz.underlying23
  a22:=Tryz.isAgg23
  z22:=Tryz.sizeOf23
  v22:=Tryz.zeroValue23
  t25:=Tryz.underlying148
  a25:=Tryz.isAgg148
  z25:=Tryz.sizeOf148
  v25:=Tryz.zeroValue148
  t39:=Tryz.underlying208
  a39:=Tryz.isAgg208
  z39:=Tryz.sizeOf208
  v39:=Tryz.zeroValue208
  t45:=Tryz.underlying257
  a45:=Tryz.isAgg257
  z45:=Tryz.sizeOf257
  v45:=Tryz.zeroValue257
  t46:=Tryz.underlying258
  a46:=Tryz.isAgg258
  z46:=Tryz.sizeOf258
  v46:=Tryz.zeroValue258
  t50:=Tryz.underlying190
  a50:=Tryz.isAgg190
  z50:=Tryz.sizeOf190
  v50:=Tryz.zeroValue190
  t53:=Tryz.underlying264
  a53:=Tryz.isAgg264
  z53:=Tryz.sizeOf264
  v53:=Tryz.zeroValue264
  t55:=Tryz.underlying266
  a55:=Tryz.isAgg266
  z55:=Tryz.sizeOf266
  v55:=Tryz.zeroValue266
  t66:=Tryz.underlying304
  a66:=Tryz.isAgg304
  z66:=Tryz.sizeOf304
  v66:=Tryz.zeroValue304
  t70:=Tryz.underlying308
  a70:=Tryz.isAgg308
  z70:=Tryz.sizeOf308
  v70:=Tryz.zeroValue308
  t76:=Tryz.underlying334
  a76:=Tryz.isAgg334
  z76:=Tryz.sizeOf334
  v76:=Tryz.zeroValue334
  t77:=Tryz.underlying335
  a77:=Tryz.isAgg335
  z77:=Tryz.sizeOf335
  v77:=Tryz.zeroValue335
theorem Pj(w:World)(args:Array Value):(callFunc 218 args).run Tryz.prog w= .ok (.enter 218 args) w:=yL Tryz.func218 rfl (by kernel_rfl) args
theorem Pk(w:World)(args:Array Value):(callFunc 159 args).run Tryz.prog w= .ok (.enter 159 args) w:=yL Tryz.func159 rfl (by kernel_rfl) args
theorem cfx_157(w:World)(args:Array Value):(callFunc 157 args).run Tryz.prog w= .ok (.enter 157 args) w:=yL Tryz.func157 rfl (by kernel_rfl) args
theorem cmpN_x(x y:aI)(W:World):Calls Tryz.prog 86 #[.agg (dI.enc x).toArray,.agg (dI.enc y).toArray] W fun e w'=>e= .returned (.int .i64 (Extern.BytealgCompare.cmp x.Dir y.Dir))∧∃ q os',w'=Sort.grow (W.drewN q) os':=by
  have hcon:∀ W',Calls Tryz.prog 84 #[.string x.Dir,.string y.Dir] W' fun e w'=>e= .returned (.int .i64 (Extern.BytealgCompare.cmp x.Dir y.Dir))∧w'=W':=fun W'=>(Em (Kq x.Dir y.Dir W')).mono (by rintro _ _ ⟨v,rfl,rfl,rfl⟩;exact ⟨rfl,rfl⟩)
  generalize Extern.BytealgCompare.cmp x.Dir y.Dir=r at hcon ⊢
  cases x;cases y
  unfold dI
  go_enter Tryz.func86,Tryz.ntmps86
  go_wp2_with (go_at_call 84;refine (hcon _).mono ?_;rintro e w' ⟨rfl,rfl⟩)
  go_ret
  exact ⟨rfl,0,_,by rw [Sort.alloc_eq_grow,Sort.alloc_eq_grow,Sort.grow_grow];rfl⟩
theorem len_x(w:World):Calls Tryz.prog 157 [.int .u64 0].toArray w (Ret fun v w'=>v= .int .i64 0∧w'=w):=by
  have h:=Any.bits_Len (SlLaysF0.n15.bits (P:=Tryz.prog) (ρ:=sortRen) { sortLays with }) 0 w (by omega) (by omega)
  refine h.mono ?_
  rintro e w' ⟨rfl,rfl⟩
  exact ⟨rfl,rfl⟩
theorem ins_nil{w:World}:Calls Tryz.prog 218 [.slice none 0 0,.int .i64 0,.int .i64 0,.func (.func 86) #[] #[]].toArray w (Ret fun v w'=>v= .tuple #[]∧w'=w):=by
  refine enter Tryz.func218 rfl Tryz.ntmps218 rfl fun a E=>?_
  simp only [pG,Nat.reduceAdd] at E
  refine wp_seq ?_
  refine wp_region_lit ?_
  refine sv E rfl rfl rfl (bD E rfl rfl) ?_
  clear a E;intro a E
  refine sv E rfl rfl rfl (iX E rfl rfl rfl rfl) ?_
  clear a E;intro a E
  refine sv E rfl rfl rfl (cM E rfl rfl) ?_
  clear a E;intro a E
  refine wpList_nil ?_
  refine aC ?_
  refine wp_block ?_
  refine wp_loop (fun a' w'=>Env _ a' _∧w'=w) (fun _ _=>0) ⟨E,rfl⟩ ?_
  clear E;clear a;rintro a w' ⟨E,rfl⟩
  refine wp_seq ?_
  refine wp_seq ?_
  refine wp_region_lit ?_
  refine sv E rfl rfl rfl (bD E rfl rfl) ?_
  clear a E;intro a E
  refine sv E rfl rfl rfl (bD E rfl rfl) ?_
  clear a E;intro a E
  refine sv E rfl rfl rfl (iX E rfl rfl rfl rfl) ?_
  clear a E;intro a E
  refine wpList_nil ?_
  refine aC ?_
  refine nS E rfl (fun hb=>absurd hb (by decide)) fun _=>?_
  refine wp_exit ?_
  refine oJ E rfl ⟨rfl,rfl⟩
theorem pdq_nil{w:World}:Calls Tryz.prog 159 [.slice none 0 0,.int .i64 0,.int .i64 0,.int .i64 0,.func (.func 86) #[] #[]].toArray w (Ret fun v w'=>v= .tuple #[]∧w'=w):=by
  refine enter Tryz.func159 rfl Tryz.ntmps159 rfl fun a E=>?_
  simp only [pG,Nat.reduceAdd] at E
  refine wp_seq ?_
  refine wp_region_lit ?_
  refine sv E rfl rfl rfl (cM E rfl rfl) ?_
  clear a E;intro a E
  refine wpList_nil ?_
  refine aC ?_
  refine wp_seq ?_
  refine wp_region_lit ?_
  refine sv E rfl rfl rfl (cM E rfl rfl) ?_
  clear a E;intro a E
  refine wpList_nil ?_
  refine aC ?_
  refine wp_block ?_
  refine wp_loop (fun a' w'=>Env _ a' _∧w'=w) (fun _ _=>0) ⟨E,rfl⟩ ?_
  clear E;clear a;rintro a w' ⟨E,rfl⟩
  refine wp_block ?_
  refine wp_seq ?_
  refine wp_region_lit ?_
  refine sv E rfl rfl rfl (bD E rfl rfl) ?_
  clear a E;intro a E
  refine sv E rfl rfl rfl (bD E rfl rfl) ?_
  clear a E;intro a E
  refine sv E rfl rfl rfl (iX E rfl rfl rfl rfl) ?_
  clear a E;intro a E
  refine sv E rfl rfl rfl (cM E rfl rfl) ?_
  clear a E;intro a E
  refine wpList_nil ?_
  refine aC ?_
  refine wp_seq ?_
  refine wp_seq ?_
  refine wp_region_lit ?_
  refine sv E rfl rfl rfl (bD E rfl rfl) ?_
  clear a E;intro a E
  refine sv E rfl rfl rfl (iX E rfl rfl rfl rfl) ?_
  clear a E;intro a E
  refine wpList_nil ?_
  refine aC ?_
  refine nS E rfl (fun _=>?_) fun hb=>absurd hb (by decide)
  refine wp_seq ?_
  refine wp_region_lit ?_
  refine sv E rfl rfl rfl (bD E rfl rfl) ?_
  clear a E;intro a E
  refine sv E rfl rfl rfl (bD E rfl rfl) ?_
  clear a E;intro a E
  refine sv E rfl rfl rfl (bD E rfl rfl) ?_
  clear a E;intro a E
  refine sv E rfl rfl rfl (bD E rfl rfl) ?_
  clear a E;intro a E
  refine aU E (wn rfl) rfl rfl (cC E rfl rfl (Pj _)) ins_nil ?_
  rintro _ w ⟨rfl,rfl⟩ a E
  refine wpList_nil ?_
  refine aC ?_
  refine wp_ret ?_
  refine Ak E rfl ⟨rfl,rfl⟩
theorem srt_nil{w:World}:Calls Tryz.prog 85 [.slice none 0 0,.func (.func 86) #[] #[]].toArray w (Ret fun v w'=>v= .tuple #[]∧w'=w):=by
  refine enter Tryz.func85 rfl Tryz.ntmps85 rfl fun a E=>?_
  simp only [pG,Nat.reduceAdd] at E
  refine wp_seq ?_
  refine wp_region_lit ?_
  refine sv E rfl rfl rfl (bD E rfl rfl) ?_
  clear a E;intro a E
  refine sv E rfl rfl rfl (uT E rfl rfl Tryz.underlying23) ?_
  clear a E;intro a E
  refine sv E rfl rfl rfl (cM E rfl rfl) ?_
  clear a E;intro a E
  refine wpList_nil ?_
  refine aC ?_
  refine wp_region_lit ?_
  refine sv E rfl rfl rfl (bD E rfl rfl) ?_
  clear a E;intro a E
  refine sv E rfl rfl rfl (bD E rfl rfl) ?_
  clear a E;intro a E
  refine sv E rfl rfl rfl (bD E rfl rfl) ?_
  clear a E;intro a E
  refine sv E rfl rfl rfl (G2 E rfl rfl (v:=.int .u64 0) (by kernel_rfl)) ?_
  clear a E;intro a E
  refine cG E rfl rfl rfl rfl rfl cfx_157 (len_x w) ?_
  rintro _ w ⟨rfl,rfl⟩ a E
  refine sv E rfl rfl rfl (bD E rfl rfl) ?_
  clear a E;intro a E
  refine aU E (wn rfl) rfl rfl (cC E rfl rfl (Pk _)) pdq_nil ?_
  rintro _ w ⟨rfl,rfl⟩ a E
  refine wpList_nil ?_
  refine oJ E rfl ⟨rfl,rfl⟩
def cfN(x y:aI):Int:=Extern.BytealgCompare.cmp x.Dir y.Dir
instance:Inhabited aI:=⟨⟨⟨#[]⟩,0⟩⟩
/-- what slices.SortFunc makes of nodes, by their paths. -/
def srtN(l:List aI):List aI:=(Sort.pdq (ltOf cfN) l.toArray 0 l.toArray.size (Lib.bitLen l.toArray.size) true true).toList
theorem srt_spec(l:List aI):Sort.PermIn 0 l.toArray.size l.toArray (srtN l).toArray∧Sort.SortedIn (ltOf cfN) 0 l.toArray.size (srtN l).toArray:=by
  have h:=Sort.pdq_sorts (ltOf cfN) (Hr aI.Dir) l.toArray 0 l.toArray.size (Lib.bitLen l.toArray.size) true true (Nat.zero_le _) (Nat.le_refl _) (Or.inl rfl)
  unfold srtN
  rw [Array.toArray_toList]
  exact h
theorem srt_len(l:List aI):(srtN l).length=l.length:=by
  have:=(srt_spec l).1.1
  simpa using this
theorem sort_c{w:World}{os:List Ob}{rs:List Rp}{ix:Nat}{v:Value}{xs:List aI}(H:Sep w os rs)(hi:os[ix]? =some (Row 77 aJ v xs))(hn:xs.length ≤ 1000000) :
    Calls Tryz.prog 85 [v,.func (.func 86) #[] #[]].toArray w (Ret fun v' w'=>v'= .tuple #[]∧Sep w' (os.set ix (Row 77 aJ v (srtN xs))) rs):=by
  obtain ⟨_,_,flat,⟨_,hv⟩,_⟩:=H.ob ix hi
  rcases hv with ⟨rfl,h0⟩ | ⟨g,cap,cur,rfl,_⟩
  · have h1:xs= []:=List.eq_nil_of_length_eq_zero h0
    subst h1
    have h2:srtN []= []:=List.eq_nil_of_length_eq_zero (srt_len [])
    refine (Em srt_nil).mono ?_
    rintro _ w' ⟨_,rfl,rfl,rfl⟩
    refine ⟨rfl,?_⟩
    rw [h2]
    have h3:os.set ix (Row 77 aJ (.slice none 0 0) [])=os:=by
      obtain ⟨hl,he⟩:=List.getElem?_eq_some_iff.1 hi
      rw [← he,List.set_getElem_self]
    rw [h3]
    exact H
  · have hcon:=AnyQ.slices_SortFunc_eq sortLays 2 Tryz.isAgg77 Tryz.sizeOf77 dI.enc (fun _=>rfl) (fun x v hv=>by simp [dI] at hv;rcases hv with rfl | rfl <;> rfl) cfN (Hr aI.Dir) 86 #[] g 0 cap xs.toArray w (fun args w=>yL Tryz.func86 rfl (by kernel_rfl) args) (fun _ _ _ _ x y=>cmpN_x x y _) (D2 H dI hi) (R7 H hi).1 (by simp;omega)
    refine hcon.mono ?_
    rintro _ _ ⟨rfl,n,os',rfl⟩
    exact ⟨rfl,H.sorted dI hi n (srtN xs) (srt_len xs) os'⟩
end Go.Cb.Tn
