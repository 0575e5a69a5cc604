/- slices.SortFunc: the library's proved contract, laid at this program, at nodes. -/
import Derived.Test.YtppeaaolgckfcaaGreatDoorTsm
import Derived.Test.YtppeaaolgckfcaaGreatDoorAsm2
import Derived.Shelf.SlSortCmp.WholeK
set_option linter.unusedVariables false
set_option linter.unusedSimpArgs false
set_option maxRecDepth 20000
set_option maxHeartbeats 1000000
namespace Go.Cb
open Go Go.Shelf Go.Proofs Go.RowKit Go.Sort
def sortRen:Ren:=⟨λ | 6=>79 | 15=>144 | 14=>143 | 28=>206 | 29=>207 | 20=>198 | 21=>199 | 22=>200 | 23=>201 | 24=>202 | 25=>203 | 26=>204 | 27=>205 | 46=>267 | 47=>268 | 48=>269 | 49=>270 | 50=>271 | 57=>313 | n=>n,λ | 22=>22 | 24=>80 | 25=>134 | 3=>3 | 39=>202 | 0=>0 | 53=>253 | 55=>255 | 4=>4 | 46=>247 | 45=>246 | 50=>181 | 5=>5 | 9=>9 | 66=>299 | 70=>303 | 76=>329 | 77=>330 | n=>n,λn=>n⟩
theorem sortLays:SlLaysF0.n6 Tryz.prog sortRen where
 mixed:=by kernel_rfl
 f6:=⟨"slices.SortFunc[[]canton/api.Node,canton/api.Node]",by kernel_rfl,Tryz.func79.trans (congrArg some (by kernel_rfl))⟩
 f14:=⟨"slices.pdqsortCmpFunc[canton/api.Node]",by kernel_rfl,Tryz.func143.trans (congrArg some (by kernel_rfl))⟩
 f15:=Tryz.func144.trans (congrArg some (by kernel_rfl))
 f20:=⟨"slices.insertionSortCmpFunc[canton/api.Node]",by kernel_rfl,Tryz.func198.trans (congrArg some (by kernel_rfl))⟩
 f21:=⟨"slices.heapSortCmpFunc[canton/api.Node]",by kernel_rfl,Tryz.func199.trans (congrArg some (by kernel_rfl))⟩
 f22:=⟨"slices.breakPatternsCmpFunc[canton/api.Node]",by kernel_rfl,Tryz.func200.trans (congrArg some (by kernel_rfl))⟩
 f23:=⟨"slices.choosePivotCmpFunc[canton/api.Node]",by kernel_rfl,Tryz.func201.trans (congrArg some (by kernel_rfl))⟩
 f24:=⟨"slices.reverseRangeCmpFunc[canton/api.Node]",by kernel_rfl,Tryz.func202.trans (congrArg some (by kernel_rfl))⟩
 f25:=⟨"slices.partialInsertionSortCmpFunc[canton/api.Node]",by kernel_rfl,Tryz.func203.trans (congrArg some (by kernel_rfl))⟩
 f26:=⟨"slices.partitionEqualCmpFunc[canton/api.Node]",by kernel_rfl,Tryz.func204.trans (congrArg some (by kernel_rfl))⟩
 f27:=⟨"slices.partitionCmpFunc[canton/api.Node]",by kernel_rfl,Tryz.func205.trans (congrArg some (by kernel_rfl))⟩
 f28:=Tryz.func206.trans (congrArg some (by kernel_rfl))
 f29:=Tryz.func207.trans (congrArg some (by kernel_rfl))
 f46:=⟨"slices.siftDownCmpFunc[canton/api.Node]",by kernel_rfl,Tryz.func267.trans (congrArg some (by kernel_rfl))⟩
 f47:=Tryz.func268.trans (congrArg some (by kernel_rfl))
 f48:=Tryz.func269.trans (congrArg some (by kernel_rfl))
 f49:=⟨"slices.medianAdjacentCmpFunc[canton/api.Node]",by kernel_rfl,Tryz.func270.trans (congrArg some (by kernel_rfl))⟩
 f50:=⟨"slices.medianCmpFunc[canton/api.Node]",by kernel_rfl,Tryz.func271.trans (congrArg some (by kernel_rfl))⟩
 f57:=⟨"slices.order2CmpFunc[canton/api.Node]",by kernel_rfl,Tryz.func313.trans (congrArg some (by kernel_rfl))⟩
 t0:=Tryz.underlying0
 a0:=Tryz.isAgg0
 z0:=Tryz.sizeOf0
 v0:=Tryz.zeroValue0
 t3:=Tryz.underlying3
 a3:=Tryz.isAgg3
 z3:=Tryz.sizeOf3
 v3:=Tryz.zeroValue3
 t4:=Tryz.underlying4
 a4:=Tryz.isAgg4
 z4:=Tryz.sizeOf4
 v4:=Tryz.zeroValue4
 t5:=Tryz.underlying5
 a5:=Tryz.isAgg5
 z5:=Tryz.sizeOf5
 v5:=Tryz.zeroValue5
 t9:=Tryz.underlying9
 a9:=Tryz.isAgg9
 z9:=Tryz.sizeOf9
 v9:=Tryz.zeroValue9
 t22:=Tryz.underlying22
 a22:=Tryz.isAgg22
 z22:=Tryz.sizeOf22
 v22:=Tryz.zeroValue22
 t25:=Tryz.underlying134
 a25:=Tryz.isAgg134
 z25:=Tryz.sizeOf134
 v25:=Tryz.zeroValue134
 t39:=Tryz.underlying202
 a39:=Tryz.isAgg202
 z39:=Tryz.sizeOf202
 v39:=Tryz.zeroValue202
 t45:=Tryz.underlying246
 a45:=Tryz.isAgg246
 z45:=Tryz.sizeOf246
 v45:=Tryz.zeroValue246
 t46:=Tryz.underlying247
 a46:=Tryz.isAgg247
 z46:=Tryz.sizeOf247
 v46:=Tryz.zeroValue247
 t50:=Tryz.underlying181
 a50:=Tryz.isAgg181
 z50:=Tryz.sizeOf181
 v50:=Tryz.zeroValue181
 t53:=Tryz.underlying253
 a53:=Tryz.isAgg253
 z53:=Tryz.sizeOf253
 v53:=Tryz.zeroValue253
 t55:=Tryz.underlying255
 a55:=Tryz.isAgg255
 z55:=Tryz.sizeOf255
 v55:=Tryz.zeroValue255
 t66:=Tryz.underlying299
 a66:=Tryz.isAgg299
 z66:=Tryz.sizeOf299
 v66:=Tryz.zeroValue299
 t70:=Tryz.underlying303
 a70:=Tryz.isAgg303
 z70:=Tryz.sizeOf303
 v70:=Tryz.zeroValue303
 t76:=Tryz.underlying329
 a76:=Tryz.isAgg329
 z76:=Tryz.sizeOf329
 v76:=Tryz.zeroValue329
 t77:=Tryz.underlying330
 a77:=Tryz.isAgg330
 z77:=Tryz.sizeOf330
 v77:=Tryz.zeroValue330
theorem NM(w:WD)(args:Array VL):(callFunc 198 args).run Tryz.prog w= .ok (.enter 198 args) w:=Aj Tryz.func198 rfl (by kernel_rfl) args
theorem NN(w:WD)(args:Array VL):(callFunc 143 args).run Tryz.prog w= .ok (.enter 143 args) w:=Aj Tryz.func143 rfl (by kernel_rfl) args
theorem cfx_144(w:WD)(args:Array VL):(callFunc 144 args).run Tryz.prog w= .ok (.enter 144 args) w:=Aj Tryz.func144 rfl (by kernel_rfl) args
theorem SR(s t:BY)(W:WD):Calls Tryz.prog 145 [.string s,.string t].toArray W (Ret λv w'=>v= .int .i64 (Extern.BytealgCompare.cmp s t)/\w'=W):=by
 refine enter Tryz.func145 rfl Tryz.ntmps145 rfl λa E=>?_
 simp only [O9,Nat.reduceAdd] at E
 refine sq<|pr 1 E rfl λa E=>nx<|pr 2 E rfl λa E=>sv E rfl rfl rfl (Nl E rfl rfl (FY _ _ _)) λa E=>pr 1 E rfl λa E=>nt<|wR<|Bp E rfl rfl<|?_
 exact ⟨rfl,rfl⟩
theorem GF(s t:BY)(W:WD):Calls Tryz.prog 81 [.string s,.string t].toArray W (Ret λv w'=>v= .int .i64 (Extern.BytealgCompare.cmp s t)/\w'=W):=by
 refine enter Tryz.func81 rfl Tryz.ntmps81 rfl λa E=>?_
 simp only [O9,Nat.reduceAdd] at E
 refine sq<|pr 1 E rfl λa E=>nx<|pr 2 E rfl λa E=>Pw E rfl rfl rfl rfl rfl (λw args=>Aj Tryz.func145 rfl (by kernel_rfl) args) (SR s t W)<|?_
 rintro _ w ⟨rfl,rfl⟩ a E
 refine pr 1 E rfl λa E=>nt<|wR<|Bp E rfl rfl<|?_
 exact ⟨rfl,rfl⟩
theorem Xe{P:Program}{f:FuncId}{args:Array VL}{w:WD}{R:VL->WD->Prop}(h:Calls P f args w (Ret R)):Calls P f args w λe w'=>∃ v,e= .returned v/\R v w':=h.mono λe w' h=>by
 cases e with
 | returned v=>exact ⟨v,rfl,h⟩
 | _=>exact h.elim
theorem cmpN_x(x y:aH)(W:WD):Calls Tryz.prog 80 #[.agg (cZ.enc x).toArray,.agg (cZ.enc y).toArray] W λe w'=>e= .returned (.int .i64 (Extern.BytealgCompare.cmp x.Path y.Path))/\∃ q os',w'=Sort.grow (W.drewN q) os':=by
 have hcon:∀ W',Calls Tryz.prog 81 #[.string x.Path,.string y.Path] W' λe w'=>e= .returned (.int .i64 (Extern.BytealgCompare.cmp x.Path y.Path))/\w'=W':=λW'=>(Xe (GF x.Path y.Path W')).mono (by rintro _ _ ⟨v,rfl,rfl,rfl⟩;exact ⟨rfl,rfl⟩);generalize Extern.BytealgCompare.cmp x.Path y.Path=r at hcon ⊢;cases x;cases y;unfold cZ
 go_enter Tryz.func80,Tryz.ntmps80
 go_wp2_with (go_at_call 81;refine (hcon _).mono ?_;rintro e w' ⟨rfl,rfl⟩)
 go_ret
 exact ⟨rfl,0,_,by rw [Sort.alloc_eq_grow,Sort.alloc_eq_grow,Sort.grow_grow];rfl⟩
theorem len_x(w:WD):Calls Tryz.prog 144 [.int .u64 0].toArray w (Ret λv w'=>v= .int .i64 0/\w'=w):=by
 have h:=Any.bits_Len (SlLaysF0.n15.bits (P:=Tryz.prog) (ρ:=sortRen) { sortLays with }) 0 w (by omega) (by omega);refine h.mono ?_;rintro e w' ⟨rfl,rfl⟩;exact ⟨rfl,rfl⟩
theorem ins_nil{w:WD}:Calls Tryz.prog 198 [.slice none 0 0,.int .i64 0,.int .i64 0,.func (.func 80) #[] #[]].toArray w (Ret λv w'=>v= .tuple #[]/\w'=w):=by
 refine enter Tryz.func198 rfl Tryz.ntmps198 rfl λa E=>?_;simp only [O9,Nat.reduceAdd] at E;refine wS ?_;refine wG ?_;refine sv E rfl rfl rfl (cB E rfl rfl) ?_;clear a E;intro a E;refine sv E rfl rfl rfl (pI E rfl rfl rfl rfl) ?_;clear a E;intro a E;refine sv E rfl rfl rfl (gD E rfl rfl) ?_;clear a E;intro a E;refine wN ?_;refine aA ?_;refine wB ?_;refine wp_loop (λa' w'=>Env _ a' _/\w'=w) (λ_ _=>0) ⟨E,rfl⟩ ?_;clear E;clear a;rintro a w' ⟨E,rfl⟩;refine wS ?_;refine wS ?_;refine wG ?_;refine sv E rfl rfl rfl (cB E rfl rfl) ?_;clear a E;intro a E;refine sv E rfl rfl rfl (cB E rfl rfl) ?_;clear a E;intro a E;refine sv E rfl rfl rfl (pI E rfl rfl rfl rfl) ?_;clear a E;intro a E;refine wN ?_;refine aA ?_;refine N8 E rfl (λhb=>absurd hb (by decide)) λ_=>?_;refine wX ?_;refine yJ E rfl ⟨rfl,rfl⟩
theorem pdq_nil{w:WD}:Calls Tryz.prog 143 [.slice none 0 0,.int .i64 0,.int .i64 0,.int .i64 0,.func (.func 80) #[] #[]].toArray w (Ret λv w'=>v= .tuple #[]/\w'=w):=by
 refine enter Tryz.func143 rfl Tryz.ntmps143 rfl λa E=>?_;simp only [O9,Nat.reduceAdd] at E;refine wS ?_;refine wG ?_;refine sv E rfl rfl rfl (gD E rfl rfl) ?_;clear a E;intro a E;refine wN ?_;refine aA ?_;refine wS ?_;refine wG ?_;refine sv E rfl rfl rfl (gD E rfl rfl) ?_;clear a E;intro a E;refine wN ?_;refine aA ?_;refine wB ?_;refine wp_loop (λa' w'=>Env _ a' _/\w'=w) (λ_ _=>0) ⟨E,rfl⟩ ?_;clear E;clear a;rintro a w' ⟨E,rfl⟩;refine wB ?_;refine wS ?_;refine wG ?_;refine sv E rfl rfl rfl (cB E rfl rfl) ?_;clear a E;intro a E;refine sv E rfl rfl rfl (cB E rfl rfl) ?_;clear a E;intro a E;refine sv E rfl rfl rfl (pI E rfl rfl rfl rfl) ?_;clear a E;intro a E;refine sv E rfl rfl rfl (gD E rfl rfl) ?_;clear a E;intro a E;refine wN ?_;refine aA ?_;refine wS ?_;refine wS ?_;refine wG ?_;refine sv E rfl rfl rfl (cB E rfl rfl) ?_;clear a E;intro a E;refine sv E rfl rfl rfl (pI E rfl rfl rfl rfl) ?_;clear a E;intro a E;refine wN ?_;refine aA ?_;refine N8 E rfl (λ_=>?_) λhb=>absurd hb (by decide);refine wS ?_;refine wG ?_;refine sv E rfl rfl rfl (cB E rfl rfl) ?_;clear a E;intro a E;refine sv E rfl rfl rfl (cB E rfl rfl) ?_;clear a E;intro a E;refine sv E rfl rfl rfl (cB E rfl rfl) ?_;clear a E;intro a E;refine sv E rfl rfl rfl (cB E rfl rfl) ?_;clear a E;intro a E;refine bP E (wn rfl) rfl rfl (Ct E rfl rfl (NM _)) ins_nil ?_;rintro _ w ⟨rfl,rfl⟩ a E;refine wN ?_;refine aA ?_;refine wR ?_;refine Rl E rfl ⟨rfl,rfl⟩
theorem srt_nil{w:WD}:Calls Tryz.prog 79 [.slice none 0 0,.func (.func 80) #[] #[]].toArray w (Ret λv w'=>v= .tuple #[]/\w'=w):=by
 refine enter Tryz.func79 rfl Tryz.ntmps79 rfl λa E=>?_;simp only [O9,Nat.reduceAdd] at E;refine wS ?_;refine wG ?_;refine sv E rfl rfl rfl (cB E rfl rfl) ?_;clear a E;intro a E;refine sv E rfl rfl rfl (P3 E rfl rfl Tryz.underlying22) ?_;clear a E;intro a E;refine sv E rfl rfl rfl (gD E rfl rfl) ?_;clear a E;intro a E;refine wN ?_;refine aA ?_;refine wG ?_;refine sv E rfl rfl rfl (cB E rfl rfl) ?_;clear a E;intro a E;refine sv E rfl rfl rfl (cB E rfl rfl) ?_;clear a E;intro a E;refine sv E rfl rfl rfl (cB E rfl rfl) ?_;clear a E;intro a E;refine sv E rfl rfl rfl (Ha E rfl rfl (v:=.int .u64 0) (by kernel_rfl)) ?_;clear a E;intro a E;refine Pw E rfl rfl rfl rfl rfl cfx_144 (len_x w) ?_;rintro _ w ⟨rfl,rfl⟩ a E;refine sv E rfl rfl rfl (cB E rfl rfl) ?_;clear a E;intro a E;refine bP E (wn rfl) rfl rfl (Ct E rfl rfl (NN _)) pdq_nil ?_;rintro _ w ⟨rfl,rfl⟩ a E;refine wN ?_;refine yJ E rfl ⟨rfl,rfl⟩
def cfN(x y:aH):Int:=Extern.BytealgCompare.cmp x.Path y.Path
instance:Inhabited aH:=⟨⟨⟨#[]⟩,⟨#[]⟩,0,0,0⟩⟩
/-- what slices.SortFunc makes of nodes, by their paths. -/
def srtN(l:List aH):List aH:=(Sort.pdq (ltOf cfN) l.toArray 0 l.toArray.size (Lib.bitLen l.toArray.size) true true).toList
theorem srt_spec(l:List aH):Sort.PermIn 0 l.toArray.size l.toArray (srtN l).toArray/\Sort.SortedIn (ltOf cfN) 0 l.toArray.size (srtN l).toArray:=by
 have h:=Sort.pdq_sorts (ltOf cfN) (DA aH.Path) l.toArray 0 l.toArray.size (Lib.bitLen l.toArray.size) true true (Nat.zero_le _) (Nat.le_refl _) (Or.inl rfl);unfold srtN;rw [Array.toArray_toList];exact h
theorem srt_len(l:List aH):(srtN l).length=l.length:=by
 have:=(srt_spec l).1.1;simpa using this
theorem srt_perm(l:List aH):(srtN l).Perm l:=by
 have h:=(srt_spec l).1.2.2;have e1:(srtN l).toArray.extract 0 l.toArray.size=(srtN l).toArray:=by rw [show l.toArray.size=(srtN l).toArray.size from (srt_spec l).1.1.symm,Array.extract_size]
 rw [e1,Array.extract_size] at h;simpa using h
theorem srt_sorted(l:List aH):(srtN l).Pairwise (λa b=>¬ zb b.Path < zb a.Path):=by
 rw [List.pairwise_iff_getElem];intro i j hi hj hij;have hs:=srt_len l;have h:=(srt_spec l).2 i j (Nat.zero_le _) hij (by simp;omega);have e1:(srtN l).toArray[j]! =(srtN l)[j]:=by simp [hj]
 have e2:(srtN l).toArray[i]! =(srtN l)[i]:=by simp [hi]
 rw [e1,e2] at h;have h2:decide (zb ((srtN l)[j]).Path < zb ((srtN l)[i]).Path)=false:=(Tz _ _).symm.trans h;simpa using h2
theorem sort_c{w:WD}{os:List Ob}{rs:List Rp}{ix:Nat}{v:VL}{xs:List aH}(H:Sep w os rs)(hi:os[ix]? =some (Row 80 aB v xs))(hn:xs.length <= 1000000) :
  Calls Tryz.prog 79 [v,.func (.func 80) #[] #[]].toArray w (Ret λv' w'=>v'= .tuple #[]/\Sep w' (os.set ix (Row 80 aB v (srtN xs))) rs):=by
 obtain ⟨_,_,flat,⟨_,hv⟩,_⟩:=H.ob ix hi;rcases hv with ⟨rfl,h0⟩ | ⟨g,cap,cur,rfl,_⟩
 ·have h1:xs= []:=List.eq_nil_of_length_eq_zero h0;subst h1;have h2:srtN []= []:=List.eq_nil_of_length_eq_zero (srt_len []);refine (Xe srt_nil).mono ?_;rintro _ w' ⟨_,rfl,rfl,rfl⟩;refine ⟨rfl,?_⟩;rw [h2];have h3:os.set ix (Row 80 aB (.slice none 0 0) [])=os:=by
   obtain ⟨hl,he⟩:=List.getElem?_eq_some_iff.1 hi;rw [← he,List.set_getElem_self]
  rw [h3];exact H
 have hcon:=AnyQ.slices_SortFunc_eq sortLays 5 Tryz.isAgg80 Tryz.sizeOf80 cZ.enc (λ_=>rfl) (λx v hv=>by simp [cZ] at hv;rcases hv with rfl | rfl | rfl | rfl | rfl <;> rfl) cfN (DA aH.Path) 80 #[] g 0 cap xs.toArray w (λargs w=>Aj Tryz.func80 rfl (by kernel_rfl) args) (λ_ _ _ _ x y=>cmpN_x x y _) (Fh H cZ hi) (Np H hi).1 (by simp;omega);refine hcon.mono ?_;rintro _ _ ⟨rfl,n,os',rfl⟩;exact ⟨rfl,H.sorted cZ hi n (srtN xs) (srt_len xs) os'⟩
end Go.Cb
