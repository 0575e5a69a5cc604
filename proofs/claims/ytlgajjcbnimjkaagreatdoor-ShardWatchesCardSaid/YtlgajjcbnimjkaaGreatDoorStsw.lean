/- slices.SortFunc: the library's proved contract, laid at this program, at nodes. -/
import Derived.Test.YtlgajjcbnimjkaaGreatDoorS1sw
import Derived.Test.YtlgajjcbnimjkaaGreatDoorAsw1
import Derived.Shelf.SlSortCmp.WholeK
set_option linter.unusedVariables false
set_option linter.unusedSimpArgs false
set_option maxRecDepth 20000
set_option maxHeartbeats 1000000
namespace Go.Cb.Tn
open Go Go.Shelf Go.Proofs Go.RowKit Go.Sort
def sortRen:Ren:=⟨fun | 6=>54 | 15=>124 | 14=>126 | 28=>179 | 29=>180 | 20=>182 | 21=>183 | 22=>184 | 23=>185 | 24=>186 | 25=>187 | 26=>188 | 27=>189 | 46=>238 | 47=>234 | 48=>235 | 49=>239 | 50=>240 | 57=>283 | n=>n,fun | 22=>29 | 24=>85 | 25=>122 | 3=>3 | 39=>186 | 0=>0 | 53=>241 | 55=>243 | 4=>4 | 46=>235 | 45=>234 | 50=>164 | 5=>5 | 9=>9 | 66=>280 | 70=>284 | 76=>312 | 77=>313 | n=>n,fun n=>n⟩
theorem sortLays:SlLaysF0.n6 Tryz.prog sortRen where
  mixed:=by kernel_rfl
  f6:=⟨"slices.SortFunc[[]canton/api.Turn,canton/api.Turn]",by kernel_rfl,Tryz.func54.trans (congrArg some (by kernel_rfl))⟩
  f14:=⟨"slices.pdqsortCmpFunc[canton/api.Turn]",by kernel_rfl,Tryz.func126.trans (congrArg some (by kernel_rfl))⟩
  f15:=Tryz.func124.trans (congrArg some (by kernel_rfl))
  f20:=⟨"slices.insertionSortCmpFunc[canton/api.Turn]",by kernel_rfl,Tryz.func182.trans (congrArg some (by kernel_rfl))⟩
  f21:=⟨"slices.heapSortCmpFunc[canton/api.Turn]",by kernel_rfl,Tryz.func183.trans (congrArg some (by kernel_rfl))⟩
  f22:=⟨"slices.breakPatternsCmpFunc[canton/api.Turn]",by kernel_rfl,Tryz.func184.trans (congrArg some (by kernel_rfl))⟩
  f23:=⟨"slices.choosePivotCmpFunc[canton/api.Turn]",by kernel_rfl,Tryz.func185.trans (congrArg some (by kernel_rfl))⟩
  f24:=⟨"slices.reverseRangeCmpFunc[canton/api.Turn]",by kernel_rfl,Tryz.func186.trans (congrArg some (by kernel_rfl))⟩
  f25:=⟨"slices.partialInsertionSortCmpFunc[canton/api.Turn]",by kernel_rfl,Tryz.func187.trans (congrArg some (by kernel_rfl))⟩
  f26:=⟨"slices.partitionEqualCmpFunc[canton/api.Turn]",by kernel_rfl,Tryz.func188.trans (congrArg some (by kernel_rfl))⟩
  f27:=⟨"slices.partitionCmpFunc[canton/api.Turn]",by kernel_rfl,Tryz.func189.trans (congrArg some (by kernel_rfl))⟩
  f28:=Tryz.func179.trans (congrArg some (by kernel_rfl))
  f29:=Tryz.func180.trans (congrArg some (by kernel_rfl))
  f46:=⟨"slices.siftDownCmpFunc[canton/api.Turn]",by kernel_rfl,Tryz.func238.trans (congrArg some (by kernel_rfl))⟩
  f47:=Tryz.func234.trans (congrArg some (by kernel_rfl))
  f48:=Tryz.func235.trans (congrArg some (by kernel_rfl))
  f49:=⟨"slices.medianAdjacentCmpFunc[canton/api.Turn]",by kernel_rfl,Tryz.func239.trans (congrArg some (by kernel_rfl))⟩
  f50:=⟨"slices.medianCmpFunc[canton/api.Turn]",by kernel_rfl,Tryz.func240.trans (congrArg some (by kernel_rfl))⟩
  f57:=⟨"slices.order2CmpFunc[canton/api.Turn]",by kernel_rfl,Tryz.func283.trans (congrArg some (by kernel_rfl))⟩
  t0:=Tryz.underlying0
  a0:=Tryz.isAgg0
  z0:=Tryz.sizeOf0
  v0:=Tryz.zeroValue0
  t3:=Tryz.underlying3
  a3:=Tryz.isAgg3
  z3:=Tryz.sizeOf3
  v3:=Tryz.zeroValue3
  t4:=Tryz.underlying4
  a4:=Tryz.isAgg4
  z4:=Tryz.sizeOf4
  v4:=Tryz.zeroValue4
  t5:=Tryz.underlying5
  a5:=Tryz.isAgg5
  z5:=Tryz.sizeOf5
  v5:=Tryz.zeroValue5
  t9:=Tryz.underlying9
  a9:=Tryz.isAgg9
  z9:=Tryz.sizeOf9
  v9:=Tryz.zeroValue9
  t22:=Tryz.underlying29
  a22:=Tryz.isAgg29
  z22:=Tryz.sizeOf29
  v22:=Tryz.zeroValue29
  t25:=Tryz.underlying122
  a25:=Tryz.isAgg122
  z25:=Tryz.sizeOf122
  v25:=Tryz.zeroValue122
  t39:=Tryz.underlying186
  a39:=Tryz.isAgg186
  z39:=Tryz.sizeOf186
  v39:=Tryz.zeroValue186
  t45:=Tryz.underlying234
  a45:=Tryz.isAgg234
  z45:=Tryz.sizeOf234
  v45:=Tryz.zeroValue234
  t46:=Tryz.underlying235
  a46:=Tryz.isAgg235
  z46:=Tryz.sizeOf235
  v46:=Tryz.zeroValue235
  t50:=Tryz.underlying164
  a50:=Tryz.isAgg164
  z50:=Tryz.sizeOf164
  v50:=Tryz.zeroValue164
  t53:=Tryz.underlying241
  a53:=Tryz.isAgg241
  z53:=Tryz.sizeOf241
  v53:=Tryz.zeroValue241
  t55:=Tryz.underlying243
  a55:=Tryz.isAgg243
  z55:=Tryz.sizeOf243
  v55:=Tryz.zeroValue243
  t66:=Tryz.underlying280
  a66:=Tryz.isAgg280
  z66:=Tryz.sizeOf280
  v66:=Tryz.zeroValue280
  t70:=Tryz.underlying284
  a70:=Tryz.isAgg284
  z70:=Tryz.sizeOf284
  v70:=Tryz.zeroValue284
  t76:=Tryz.underlying312
  a76:=Tryz.isAgg312
  z76:=Tryz.sizeOf312
  v76:=Tryz.zeroValue312
  t77:=Tryz.underlying313
  a77:=Tryz.isAgg313
  z77:=Tryz.sizeOf313
  v77:=Tryz.zeroValue313
theorem Zt(w:World)(args:Array Value):(callFunc 182 args).run Tryz.prog w= .ok (.enter 182 args) w:=y8 Tryz.func182 rfl (by kernel_rfl) args
theorem Zu(w:World)(args:Array Value):(callFunc 126 args).run Tryz.prog w= .ok (.enter 126 args) w:=y8 Tryz.func126 rfl (by kernel_rfl) args
theorem cfx_124(w:World)(args:Array Value):(callFunc 124 args).run Tryz.prog w= .ok (.enter 124 args) w:=y8 Tryz.func124 rfl (by kernel_rfl) args
theorem cmpN_x(x y:aI)(W:World):Calls Tryz.prog 55 #[.agg (eD.enc x).toArray,.agg (eD.enc y).toArray] W fun e w'=>e= .returned (.int .i64 (Extern.BytealgCompare.cmp x.Dir y.Dir))∧∃ q os',w'=Sort.grow (W.drewN q) os':=by
  have hcon:∀ W',Calls Tryz.prog 53 #[.string x.Dir,.string y.Dir] W' fun e w'=>e= .returned (.int .i64 (Extern.BytealgCompare.cmp x.Dir y.Dir))∧w'=W':=fun W'=>(Jx (Sk x.Dir y.Dir W')).mono (by rintro _ _ ⟨v,rfl,rfl,rfl⟩;exact ⟨rfl,rfl⟩)
  generalize Extern.BytealgCompare.cmp x.Dir y.Dir=r at hcon ⊢
  cases x;cases y
  unfold eD
  go_enter Tryz.func55,Tryz.ntmps55
  go_wp2_with (go_at_call 53;refine (hcon _).mono ?_;rintro e w' ⟨rfl,rfl⟩)
  go_ret
  exact ⟨rfl,0,_,by rw [Sort.alloc_eq_grow,Sort.alloc_eq_grow,Sort.grow_grow];rfl⟩
theorem len_x(w:World):Calls Tryz.prog 124 [.int .u64 0].toArray w (Ret fun v w'=>v= .int .i64 0∧w'=w):=by
  have h:=Any.bits_Len (SlLaysF0.n15.bits (P:=Tryz.prog) (ρ:=sortRen) { sortLays with }) 0 w (by omega) (by omega)
  refine h.mono ?_
  rintro e w' ⟨rfl,rfl⟩
  exact ⟨rfl,rfl⟩
theorem ins_nil{w:World}:Calls Tryz.prog 182 [.slice none 0 0,.int .i64 0,.int .i64 0,.func (.func 55) #[] #[]].toArray w (Ret fun v w'=>v= .tuple #[]∧w'=w):=by
  refine enter Tryz.func182 rfl Tryz.ntmps182 rfl fun a E=>?_
  simp only [sS,Nat.reduceAdd] at E
  refine wp_seq ?_
  refine wp_region_lit ?_
  refine sv E rfl rfl rfl (bD E rfl rfl) ?_
  clear a E;intro a E
  refine sv E rfl rfl rfl (lA E rfl rfl rfl rfl) ?_
  clear a E;intro a E
  refine sv E rfl rfl rfl (cV E rfl rfl) ?_
  clear a E;intro a E
  refine wpList_nil ?_
  refine aD ?_
  refine wp_block ?_
  refine wp_loop (fun a' w'=>Env _ a' _∧w'=w) (fun _ _=>0) ⟨E,rfl⟩ ?_
  clear E;clear a;rintro a w' ⟨E,rfl⟩
  refine wp_seq ?_
  refine wp_seq ?_
  refine wp_region_lit ?_
  refine sv E rfl rfl rfl (bD E rfl rfl) ?_
  clear a E;intro a E
  refine sv E rfl rfl rfl (bD E rfl rfl) ?_
  clear a E;intro a E
  refine sv E rfl rfl rfl (lA E rfl rfl rfl rfl) ?_
  clear a E;intro a E
  refine wpList_nil ?_
  refine aD ?_
  refine qZ E rfl (fun hb=>absurd hb (by decide)) fun _=>?_
  refine wp_exit ?_
  refine rL E rfl ⟨rfl,rfl⟩
theorem pdq_nil{w:World}:Calls Tryz.prog 126 [.slice none 0 0,.int .i64 0,.int .i64 0,.int .i64 0,.func (.func 55) #[] #[]].toArray w (Ret fun v w'=>v= .tuple #[]∧w'=w):=by
  refine enter Tryz.func126 rfl Tryz.ntmps126 rfl fun a E=>?_
  simp only [sS,Nat.reduceAdd] at E
  refine wp_seq ?_
  refine wp_region_lit ?_
  refine sv E rfl rfl rfl (cV E rfl rfl) ?_
  clear a E;intro a E
  refine wpList_nil ?_
  refine aD ?_
  refine wp_seq ?_
  refine wp_region_lit ?_
  refine sv E rfl rfl rfl (cV E rfl rfl) ?_
  clear a E;intro a E
  refine wpList_nil ?_
  refine aD ?_
  refine wp_block ?_
  refine wp_loop (fun a' w'=>Env _ a' _∧w'=w) (fun _ _=>0) ⟨E,rfl⟩ ?_
  clear E;clear a;rintro a w' ⟨E,rfl⟩
  refine wp_block ?_
  refine wp_seq ?_
  refine wp_region_lit ?_
  refine sv E rfl rfl rfl (bD E rfl rfl) ?_
  clear a E;intro a E
  refine sv E rfl rfl rfl (bD E rfl rfl) ?_
  clear a E;intro a E
  refine sv E rfl rfl rfl (lA E rfl rfl rfl rfl) ?_
  clear a E;intro a E
  refine sv E rfl rfl rfl (cV E rfl rfl) ?_
  clear a E;intro a E
  refine wpList_nil ?_
  refine aD ?_
  refine wp_seq ?_
  refine wp_seq ?_
  refine wp_region_lit ?_
  refine sv E rfl rfl rfl (bD E rfl rfl) ?_
  clear a E;intro a E
  refine sv E rfl rfl rfl (lA E rfl rfl rfl rfl) ?_
  clear a E;intro a E
  refine wpList_nil ?_
  refine aD ?_
  refine qZ E rfl (fun _=>?_) fun hb=>absurd hb (by decide)
  refine wp_seq ?_
  refine wp_region_lit ?_
  refine sv E rfl rfl rfl (bD E rfl rfl) ?_
  clear a E;intro a E
  refine sv E rfl rfl rfl (bD E rfl rfl) ?_
  clear a E;intro a E
  refine sv E rfl rfl rfl (bD E rfl rfl) ?_
  clear a E;intro a E
  refine sv E rfl rfl rfl (bD E rfl rfl) ?_
  clear a E;intro a E
  refine aX E (wn rfl) rfl rfl (cG E rfl rfl (Zt _)) ins_nil ?_
  rintro _ w ⟨rfl,rfl⟩ a E
  refine wpList_nil ?_
  refine aD ?_
  refine wp_ret ?_
  refine Ez E rfl ⟨rfl,rfl⟩
theorem srt_nil{w:World}:Calls Tryz.prog 54 [.slice none 0 0,.func (.func 55) #[] #[]].toArray w (Ret fun v w'=>v= .tuple #[]∧w'=w):=by
  refine enter Tryz.func54 rfl Tryz.ntmps54 rfl fun a E=>?_
  simp only [sS,Nat.reduceAdd] at E
  refine wp_seq ?_
  refine wp_region_lit ?_
  refine sv E rfl rfl rfl (bD E rfl rfl) ?_
  clear a E;intro a E
  refine sv E rfl rfl rfl (yW E rfl rfl Tryz.underlying29) ?_
  clear a E;intro a E
  refine sv E rfl rfl rfl (cV E rfl rfl) ?_
  clear a E;intro a E
  refine wpList_nil ?_
  refine aD ?_
  refine wp_region_lit ?_
  refine sv E rfl rfl rfl (bD E rfl rfl) ?_
  clear a E;intro a E
  refine sv E rfl rfl rfl (bD E rfl rfl) ?_
  clear a E;intro a E
  refine sv E rfl rfl rfl (bD E rfl rfl) ?_
  clear a E;intro a E
  refine sv E rfl rfl rfl (Q8 E rfl rfl (v:=.int .u64 0) (by kernel_rfl)) ?_
  clear a E;intro a E
  refine cJ E rfl rfl rfl rfl rfl cfx_124 (len_x w) ?_
  rintro _ w ⟨rfl,rfl⟩ a E
  refine sv E rfl rfl rfl (bD E rfl rfl) ?_
  clear a E;intro a E
  refine aX E (wn rfl) rfl rfl (cG E rfl rfl (Zu _)) pdq_nil ?_
  rintro _ w ⟨rfl,rfl⟩ a E
  refine wpList_nil ?_
  refine rL E rfl ⟨rfl,rfl⟩
def cfN(x y:aI):Int:=Extern.BytealgCompare.cmp x.Dir y.Dir
instance:Inhabited aI:=⟨⟨⟨#[]⟩,0⟩⟩
/-- what slices.SortFunc makes of nodes, by their paths. -/
def srtN(l:List aI):List aI:=(Sort.pdq (ltOf cfN) l.toArray 0 l.toArray.size (Lib.bitLen l.toArray.size) true true).toList
theorem srt_spec(l:List aI):Sort.PermIn 0 l.toArray.size l.toArray (srtN l).toArray∧Sort.SortedIn (ltOf cfN) 0 l.toArray.size (srtN l).toArray:=by
  have h:=Sort.pdq_sorts (ltOf cfN) (Oz aI.Dir) l.toArray 0 l.toArray.size (Lib.bitLen l.toArray.size) true true (Nat.zero_le _) (Nat.le_refl _) (Or.inl rfl)
  unfold srtN
  rw [Array.toArray_toList]
  exact h
theorem srt_len(l:List aI):(srtN l).length=l.length:=by
  have:=(srt_spec l).1.1
  simpa using this
theorem sort_c{w:World}{os:List Ob}{rs:List Rp}{ix:Nat}{v:Value}{xs:List aI}(H:Sep w os rs)(hi:os[ix]? =some (Row 85 aK v xs))(hn:xs.length ≤ 1000000) :
    Calls Tryz.prog 54 [v,.func (.func 55) #[] #[]].toArray w (Ret fun v' w'=>v'= .tuple #[]∧Sep w' (os.set ix (Row 85 aK v (srtN xs))) rs):=by
  obtain ⟨_,_,flat,⟨_,hv⟩,_⟩:=H.ob ix hi
  rcases hv with ⟨rfl,h0⟩ | ⟨g,cap,cur,rfl,_⟩
  · have h1:xs= []:=List.eq_nil_of_length_eq_zero h0
    subst h1
    have h2:srtN []= []:=List.eq_nil_of_length_eq_zero (srt_len [])
    refine (Jx srt_nil).mono ?_
    rintro _ w' ⟨_,rfl,rfl,rfl⟩
    refine ⟨rfl,?_⟩
    rw [h2]
    have h3:os.set ix (Row 85 aK (.slice none 0 0) [])=os:=by
      obtain ⟨hl,he⟩:=List.getElem?_eq_some_iff.1 hi
      rw [← he,List.set_getElem_self]
    rw [h3]
    exact H
  · have hcon:=AnyQ.slices_SortFunc_eq sortLays 2 Tryz.isAgg85 Tryz.sizeOf85 eD.enc (fun _=>rfl) (fun x v hv=>by simp [eD] at hv;rcases hv with rfl | rfl <;> rfl) cfN (Oz aI.Dir) 55 #[] g 0 cap xs.toArray w (fun args w=>y8 Tryz.func55 rfl (by kernel_rfl) args) (fun _ _ _ _ x y=>cmpN_x x y _) (M9 H eD hi) (Bp H hi).1 (by simp;omega)
    refine hcon.mono ?_
    rintro _ _ ⟨rfl,n,os',rfl⟩
    exact ⟨rfl,H.sorted eD hi n (srtN xs) (srt_len xs) os'⟩
end Go.Cb.Tn
