/- slices.SortFunc: the library's proved contract, laid at this program, at nodes. -/
import Derived.Test.YtpbgbliikifjjaaGreatDoorTse
import Derived.Test.YtpbgbliikifjjaaGreatDoorB42se
import Derived.Shelf.SlSortCmp.WholeK
set_option linter.unusedVariables false
set_option linter.unusedSimpArgs false
set_option maxRecDepth 20000
set_option maxHeartbeats 1000000
namespace Go.Cb
open Go Go.Shelf Go.Proofs Go.RowKit Go.Sort
def sortRen:Ren:=⟨fun | 6=>82 | 15=>157 | 14=>156 | 28=>215 | 29=>216 | 20=>207 | 21=>208 | 22=>209 | 23=>210 | 24=>211 | 25=>212 | 26=>213 | 27=>214 | 46=>272 | 47=>273 | 48=>274 | 49=>275 | 50=>276 | 57=>320 | n=>n,fun | 22=>22 | 24=>95 | 25=>146 | 3=>3 | 39=>208 | 0=>0 | 53=>264 | 55=>266 | 4=>4 | 46=>258 | 45=>257 | 50=>190 | 5=>5 | 9=>9 | 66=>304 | 70=>308 | 76=>334 | 77=>335 | n=>n,fun n=>n⟩
theorem sortLays:SlLaysF0.n6 Tryz.prog sortRen where
  mixed:=by kernel_rfl
  f6:=⟨"slices.SortFunc[[]canton/api.Node,canton/api.Node]",by kernel_rfl,Tryz.func82.trans (congrArg some (by kernel_rfl))⟩
  f14:=⟨"slices.pdqsortCmpFunc[canton/api.Node]",by kernel_rfl,Tryz.func156.trans (congrArg some (by kernel_rfl))⟩
  f15:=Tryz.func157.trans (congrArg some (by kernel_rfl))
  f20:=⟨"slices.insertionSortCmpFunc[canton/api.Node]",by kernel_rfl,Tryz.func207.trans (congrArg some (by kernel_rfl))⟩
  f21:=⟨"slices.heapSortCmpFunc[canton/api.Node]",by kernel_rfl,Tryz.func208.trans (congrArg some (by kernel_rfl))⟩
  f22:=⟨"slices.breakPatternsCmpFunc[canton/api.Node]",by kernel_rfl,Tryz.func209.trans (congrArg some (by kernel_rfl))⟩
  f23:=⟨"slices.choosePivotCmpFunc[canton/api.Node]",by kernel_rfl,Tryz.func210.trans (congrArg some (by kernel_rfl))⟩
  f24:=⟨"slices.reverseRangeCmpFunc[canton/api.Node]",by kernel_rfl,Tryz.func211.trans (congrArg some (by kernel_rfl))⟩
  f25:=⟨"slices.partialInsertionSortCmpFunc[canton/api.Node]",by kernel_rfl,Tryz.func212.trans (congrArg some (by kernel_rfl))⟩
  f26:=⟨"slices.partitionEqualCmpFunc[canton/api.Node]",by kernel_rfl,Tryz.func213.trans (congrArg some (by kernel_rfl))⟩
  f27:=⟨"slices.partitionCmpFunc[canton/api.Node]",by kernel_rfl,Tryz.func214.trans (congrArg some (by kernel_rfl))⟩
  f28:=Tryz.func215.trans (congrArg some (by kernel_rfl))
  f29:=Tryz.func216.trans (congrArg some (by kernel_rfl))
  f46:=⟨"slices.siftDownCmpFunc[canton/api.Node]",by kernel_rfl,Tryz.func272.trans (congrArg some (by kernel_rfl))⟩
  f47:=Tryz.func273.trans (congrArg some (by kernel_rfl))
  f48:=Tryz.func274.trans (congrArg some (by kernel_rfl))
  f49:=⟨"slices.medianAdjacentCmpFunc[canton/api.Node]",by kernel_rfl,Tryz.func275.trans (congrArg some (by kernel_rfl))⟩
  f50:=⟨"slices.medianCmpFunc[canton/api.Node]",by kernel_rfl,Tryz.func276.trans (congrArg some (by kernel_rfl))⟩
  f57:=⟨"slices.order2CmpFunc[canton/api.Node]",by kernel_rfl,Tryz.func320.trans (congrArg some (by kernel_rfl))⟩
  t0:=Tryz.underlying0
  a0:=Tryz.isAgg0
  z0:=Tryz.sizeOf0
  v0:=Tryz.zeroValue0
  t3:=Tryz.underlying3
  a3:=Tryz.isAgg3
  z3:=Tryz.sizeOf3
  v3:=Tryz.zeroValue3
  t4:=Tryz.underlying4
  a4:=Tryz.isAgg4
  z4:=Tryz.sizeOf4
  v4:=Tryz.zeroValue4
  t5:=Tryz.underlying5
  a5:=Tryz.isAgg5
  z5:=Tryz.sizeOf5
  v5:=Tryz.zeroValue5
  t9:=Tryz.underlying9
  a9:=Tryz.isAgg9
  z9:=Tryz.sizeOf9
  v9:=Tryz.zeroValue9
  t22:=Tryz.underlying22
  a22:=Tryz.isAgg22
  z22:=Tryz.sizeOf22
  v22:=Tryz.zeroValue22
  t25:=Tryz.underlying146
  a25:=Tryz.isAgg146
  z25:=Tryz.sizeOf146
  v25:=Tryz.zeroValue146
  t39:=Tryz.underlying208
  a39:=Tryz.isAgg208
  z39:=Tryz.sizeOf208
  v39:=Tryz.zeroValue208
  t45:=Tryz.underlying257
  a45:=Tryz.isAgg257
  z45:=Tryz.sizeOf257
  v45:=Tryz.zeroValue257
  t46:=Tryz.underlying258
  a46:=Tryz.isAgg258
  z46:=Tryz.sizeOf258
  v46:=Tryz.zeroValue258
  t50:=Tryz.underlying190
  a50:=Tryz.isAgg190
  z50:=Tryz.sizeOf190
  v50:=Tryz.zeroValue190
  t53:=Tryz.underlying264
  a53:=Tryz.isAgg264
  z53:=Tryz.sizeOf264
  v53:=Tryz.zeroValue264
  t55:=Tryz.underlying266
  a55:=Tryz.isAgg266
  z55:=Tryz.sizeOf266
  v55:=Tryz.zeroValue266
  t66:=Tryz.underlying304
  a66:=Tryz.isAgg304
  z66:=Tryz.sizeOf304
  v66:=Tryz.zeroValue304
  t70:=Tryz.underlying308
  a70:=Tryz.isAgg308
  z70:=Tryz.sizeOf308
  v70:=Tryz.zeroValue308
  t76:=Tryz.underlying334
  a76:=Tryz.isAgg334
  z76:=Tryz.sizeOf334
  v76:=Tryz.zeroValue334
  t77:=Tryz.underlying335
  a77:=Tryz.isAgg335
  z77:=Tryz.sizeOf335
  v77:=Tryz.zeroValue335
theorem Pb(w:World)(args:Array Value):(callFunc 207 args).run Tryz.prog w= .ok (.enter 207 args) w:=yL Tryz.func207 rfl (by kernel_rfl) args
theorem Pc(w:World)(args:Array Value):(callFunc 156 args).run Tryz.prog w= .ok (.enter 156 args) w:=yL Tryz.func156 rfl (by kernel_rfl) args
theorem cfx_157(w:World)(args:Array Value):(callFunc 157 args).run Tryz.prog w= .ok (.enter 157 args) w:=yL Tryz.func157 rfl (by kernel_rfl) args
theorem Tq(s t:ByteArray)(W:World):Calls Tryz.prog 158 [.string s,.string t].toArray W (Ret fun v w'=>v= .int .i64 (Extern.BytealgCompare.cmp s t)∧w'=W):=by
 refine enter Tryz.func158 rfl Tryz.ntmps158 rfl fun a E=>?_
 simp only [pG,Nat.reduceAdd] at E
 refine sq<|pr 1 E rfl fun a E=>nx<|pr 2 E rfl fun a E=>sv E rfl rfl rfl (R4 E rfl rfl (Kf _ _ _)) fun a E=>pr 1 E rfl fun a E=>nt<|wp_ret<|aY E rfl rfl<|?_
 exact ⟨rfl,rfl⟩
theorem Kq(s t:ByteArray)(W:World):Calls Tryz.prog 84 [.string s,.string t].toArray W (Ret fun v w'=>v= .int .i64 (Extern.BytealgCompare.cmp s t)∧w'=W):=by
 refine enter Tryz.func84 rfl Tryz.ntmps84 rfl fun a E=>?_
 simp only [pG,Nat.reduceAdd] at E
 refine sq<|pr 1 E rfl fun a E=>nx<|pr 2 E rfl fun a E=>cG E rfl rfl rfl rfl rfl (fun w args=>yL Tryz.func158 rfl (by kernel_rfl) args) (Tq s t W)<|?_
 rintro _ w ⟨rfl,rfl⟩ a E
 refine pr 1 E rfl fun a E=>nt<|wp_ret<|aY E rfl rfl<|?_
 exact ⟨rfl,rfl⟩
theorem Em{P:Program}{f:FuncId}{args:Array Value}{w:World}{R:Value→World→Prop}(h:Calls P f args w (Ret R)):Calls P f args w fun e w'=>∃ v,e= .returned v∧R v w':=h.mono fun e w' h=>by
  cases e with
  | returned v=>exact ⟨v,rfl,h⟩
  | _=>exact h.elim
theorem cmpN_x(x y:aE)(W:World):Calls Tryz.prog 83 #[.agg (cK.enc x).toArray,.agg (cK.enc y).toArray] W fun e w'=>e= .returned (.int .i64 (Extern.BytealgCompare.cmp x.Path y.Path))∧∃ q os',w'=Sort.grow (W.drewN q) os':=by
  have hcon:∀ W',Calls Tryz.prog 84 #[.string x.Path,.string y.Path] W' fun e w'=>e= .returned (.int .i64 (Extern.BytealgCompare.cmp x.Path y.Path))∧w'=W':=fun W'=>(Em (Kq x.Path y.Path W')).mono (by rintro _ _ ⟨v,rfl,rfl,rfl⟩;exact ⟨rfl,rfl⟩)
  generalize Extern.BytealgCompare.cmp x.Path y.Path=r at hcon ⊢
  cases x;cases y
  unfold cK
  go_enter Tryz.func83,Tryz.ntmps83
  go_wp2_with (go_at_call 84;refine (hcon _).mono ?_;rintro e w' ⟨rfl,rfl⟩)
  go_ret
  exact ⟨rfl,0,_,by rw [Sort.alloc_eq_grow,Sort.alloc_eq_grow,Sort.grow_grow];rfl⟩
theorem len_x(w:World):Calls Tryz.prog 157 [.int .u64 0].toArray w (Ret fun v w'=>v= .int .i64 0∧w'=w):=by
  have h:=Any.bits_Len (SlLaysF0.n15.bits (P:=Tryz.prog) (ρ:=sortRen) { sortLays with }) 0 w (by omega) (by omega)
  refine h.mono ?_
  rintro e w' ⟨rfl,rfl⟩
  exact ⟨rfl,rfl⟩
theorem ins_nil{w:World}:Calls Tryz.prog 207 [.slice none 0 0,.int .i64 0,.int .i64 0,.func (.func 83) #[] #[]].toArray w (Ret fun v w'=>v= .tuple #[]∧w'=w):=by
  refine enter Tryz.func207 rfl Tryz.ntmps207 rfl fun a E=>?_
  simp only [pG,Nat.reduceAdd] at E
  refine wp_seq ?_
  refine wp_region_lit ?_
  refine sv E rfl rfl rfl (bD E rfl rfl) ?_
  clear a E;intro a E
  refine sv E rfl rfl rfl (iX E rfl rfl rfl rfl) ?_
  clear a E;intro a E
  refine sv E rfl rfl rfl (cM E rfl rfl) ?_
  clear a E;intro a E
  refine wpList_nil ?_
  refine aC ?_
  refine wp_block ?_
  refine wp_loop (fun a' w'=>Env _ a' _∧w'=w) (fun _ _=>0) ⟨E,rfl⟩ ?_
  clear E;clear a;rintro a w' ⟨E,rfl⟩
  refine wp_seq ?_
  refine wp_seq ?_
  refine wp_region_lit ?_
  refine sv E rfl rfl rfl (bD E rfl rfl) ?_
  clear a E;intro a E
  refine sv E rfl rfl rfl (bD E rfl rfl) ?_
  clear a E;intro a E
  refine sv E rfl rfl rfl (iX E rfl rfl rfl rfl) ?_
  clear a E;intro a E
  refine wpList_nil ?_
  refine aC ?_
  refine nS E rfl (fun hb=>absurd hb (by decide)) fun _=>?_
  refine wp_exit ?_
  refine oJ E rfl ⟨rfl,rfl⟩
theorem pdq_nil{w:World}:Calls Tryz.prog 156 [.slice none 0 0,.int .i64 0,.int .i64 0,.int .i64 0,.func (.func 83) #[] #[]].toArray w (Ret fun v w'=>v= .tuple #[]∧w'=w):=by
  refine enter Tryz.func156 rfl Tryz.ntmps156 rfl fun a E=>?_
  simp only [pG,Nat.reduceAdd] at E
  refine wp_seq ?_
  refine wp_region_lit ?_
  refine sv E rfl rfl rfl (cM E rfl rfl) ?_
  clear a E;intro a E
  refine wpList_nil ?_
  refine aC ?_
  refine wp_seq ?_
  refine wp_region_lit ?_
  refine sv E rfl rfl rfl (cM E rfl rfl) ?_
  clear a E;intro a E
  refine wpList_nil ?_
  refine aC ?_
  refine wp_block ?_
  refine wp_loop (fun a' w'=>Env _ a' _∧w'=w) (fun _ _=>0) ⟨E,rfl⟩ ?_
  clear E;clear a;rintro a w' ⟨E,rfl⟩
  refine wp_block ?_
  refine wp_seq ?_
  refine wp_region_lit ?_
  refine sv E rfl rfl rfl (bD E rfl rfl) ?_
  clear a E;intro a E
  refine sv E rfl rfl rfl (bD E rfl rfl) ?_
  clear a E;intro a E
  refine sv E rfl rfl rfl (iX E rfl rfl rfl rfl) ?_
  clear a E;intro a E
  refine sv E rfl rfl rfl (cM E rfl rfl) ?_
  clear a E;intro a E
  refine wpList_nil ?_
  refine aC ?_
  refine wp_seq ?_
  refine wp_seq ?_
  refine wp_region_lit ?_
  refine sv E rfl rfl rfl (bD E rfl rfl) ?_
  clear a E;intro a E
  refine sv E rfl rfl rfl (iX E rfl rfl rfl rfl) ?_
  clear a E;intro a E
  refine wpList_nil ?_
  refine aC ?_
  refine nS E rfl (fun _=>?_) fun hb=>absurd hb (by decide)
  refine wp_seq ?_
  refine wp_region_lit ?_
  refine sv E rfl rfl rfl (bD E rfl rfl) ?_
  clear a E;intro a E
  refine sv E rfl rfl rfl (bD E rfl rfl) ?_
  clear a E;intro a E
  refine sv E rfl rfl rfl (bD E rfl rfl) ?_
  clear a E;intro a E
  refine sv E rfl rfl rfl (bD E rfl rfl) ?_
  clear a E;intro a E
  refine aU E (wn rfl) rfl rfl (cC E rfl rfl (Pb _)) ins_nil ?_
  rintro _ w ⟨rfl,rfl⟩ a E
  refine wpList_nil ?_
  refine aC ?_
  refine wp_ret ?_
  refine Ak E rfl ⟨rfl,rfl⟩
theorem srt_nil{w:World}:Calls Tryz.prog 82 [.slice none 0 0,.func (.func 83) #[] #[]].toArray w (Ret fun v w'=>v= .tuple #[]∧w'=w):=by
  refine enter Tryz.func82 rfl Tryz.ntmps82 rfl fun a E=>?_
  simp only [pG,Nat.reduceAdd] at E
  refine wp_seq ?_
  refine wp_region_lit ?_
  refine sv E rfl rfl rfl (bD E rfl rfl) ?_
  clear a E;intro a E
  refine sv E rfl rfl rfl (uT E rfl rfl Tryz.underlying22) ?_
  clear a E;intro a E
  refine sv E rfl rfl rfl (cM E rfl rfl) ?_
  clear a E;intro a E
  refine wpList_nil ?_
  refine aC ?_
  refine wp_region_lit ?_
  refine sv E rfl rfl rfl (bD E rfl rfl) ?_
  clear a E;intro a E
  refine sv E rfl rfl rfl (bD E rfl rfl) ?_
  clear a E;intro a E
  refine sv E rfl rfl rfl (bD E rfl rfl) ?_
  clear a E;intro a E
  refine sv E rfl rfl rfl (G2 E rfl rfl (v:=.int .u64 0) (by kernel_rfl)) ?_
  clear a E;intro a E
  refine cG E rfl rfl rfl rfl rfl cfx_157 (len_x w) ?_
  rintro _ w ⟨rfl,rfl⟩ a E
  refine sv E rfl rfl rfl (bD E rfl rfl) ?_
  clear a E;intro a E
  refine aU E (wn rfl) rfl rfl (cC E rfl rfl (Pc _)) pdq_nil ?_
  rintro _ w ⟨rfl,rfl⟩ a E
  refine wpList_nil ?_
  refine oJ E rfl ⟨rfl,rfl⟩
def cfN(x y:aE):Int:=Extern.BytealgCompare.cmp x.Path y.Path
instance:Inhabited aE:=⟨⟨⟨#[]⟩,⟨#[]⟩,0,0,0⟩⟩
/-- what slices.SortFunc makes of nodes, by their paths. -/
def srtN(l:List aE):List aE:=(Sort.pdq (ltOf cfN) l.toArray 0 l.toArray.size (Lib.bitLen l.toArray.size) true true).toList
theorem srt_spec(l:List aE):Sort.PermIn 0 l.toArray.size l.toArray (srtN l).toArray∧Sort.SortedIn (ltOf cfN) 0 l.toArray.size (srtN l).toArray:=by
  have h:=Sort.pdq_sorts (ltOf cfN) (Hr aE.Path) l.toArray 0 l.toArray.size (Lib.bitLen l.toArray.size) true true (Nat.zero_le _) (Nat.le_refl _) (Or.inl rfl)
  unfold srtN
  rw [Array.toArray_toList]
  exact h
theorem srt_len(l:List aE):(srtN l).length=l.length:=by
  have:=(srt_spec l).1.1
  simpa using this
theorem sort_c{w:World}{os:List Ob}{rs:List Rp}{ix:Nat}{v:Value}{xs:List aE}(H:Sep w os rs)(hi:os[ix]? =some (Row 95 aF v xs))(hn:xs.length ≤ 1000000) :
    Calls Tryz.prog 82 [v,.func (.func 83) #[] #[]].toArray w (Ret fun v' w'=>v'= .tuple #[]∧Sep w' (os.set ix (Row 95 aF v (srtN xs))) rs):=by
  obtain ⟨_,_,flat,⟨_,hv⟩,_⟩:=H.ob ix hi
  rcases hv with ⟨rfl,h0⟩ | ⟨g,cap,cur,rfl,_⟩
  · have h1:xs= []:=List.eq_nil_of_length_eq_zero h0
    subst h1
    have h2:srtN []= []:=List.eq_nil_of_length_eq_zero (srt_len [])
    refine (Em srt_nil).mono ?_
    rintro _ w' ⟨_,rfl,rfl,rfl⟩
    refine ⟨rfl,?_⟩
    rw [h2]
    have h3:os.set ix (Row 95 aF (.slice none 0 0) [])=os:=by
      obtain ⟨hl,he⟩:=List.getElem?_eq_some_iff.1 hi
      rw [← he,List.set_getElem_self]
    rw [h3]
    exact H
  · have hcon:=AnyQ.slices_SortFunc_eq sortLays 5 Tryz.isAgg95 Tryz.sizeOf95 cK.enc (fun _=>rfl) (fun x v hv=>by simp [cK] at hv;rcases hv with rfl | rfl | rfl | rfl | rfl <;> rfl) cfN (Hr aE.Path) 83 #[] g 0 cap xs.toArray w (fun args w=>yL Tryz.func83 rfl (by kernel_rfl) args) (fun _ _ _ _ x y=>cmpN_x x y _) (D2 H cK hi) (R7 H hi).1 (by simp;omega)
    refine hcon.mono ?_
    rintro _ _ ⟨rfl,n,os',rfl⟩
    exact ⟨rfl,H.sorted cK hi n (srtN xs) (srt_len xs) os'⟩
end Go.Cb
