/- slices.SortFunc: the library's proved contract, laid at this program, at nodes. -/
import Derived.Test.YteakhlfapjaodaaGreatDoorTsh
import Derived.Test.YteakhlfapjaodaaGreatDoorAsh2
import Derived.Shelf.SlSortCmp.WholeK
set_option linter.unusedVariables false
set_option linter.unusedSimpArgs false
set_option maxRecDepth 20000
set_option maxHeartbeats 1000000
namespace Go.Cb
open Go Go.Shelf Go.Proofs Go.RowKit Go.Sort
def sortRen:Ren:=⟨λ | 6=>111 | 15=>189 | 14=>188 | 28=>253 | 29=>254 | 20=>245 | 21=>246 | 22=>247 | 23=>248 | 24=>249 | 25=>250 | 26=>251 | 27=>252 | 46=>308 | 47=>309 | 48=>310 | 49=>311 | 50=>312 | 57=>348 | n=>n,λ | 22=>22 | 24=>107 | 25=>169 | 3=>3 | 39=>234 | 0=>0 | 53=>284 | 55=>286 | 4=>4 | 46=>278 | 45=>277 | 50=>216 | 5=>5 | 9=>9 | 66=>326 | 70=>330 | 76=>350 | 77=>351 | n=>n,λn=>n⟩
theorem sortLays:SlLaysF0.n6 Tryz.prog sortRen where
 mixed:=by kernel_rfl
 f6:=⟨"slices.SortFunc[[]canton/api.Node,canton/api.Node]",by kernel_rfl,Tryz.func111.trans (congrArg some (by kernel_rfl))⟩
 f14:=⟨"slices.pdqsortCmpFunc[canton/api.Node]",by kernel_rfl,Tryz.func188.trans (congrArg some (by kernel_rfl))⟩
 f15:=Tryz.func189.trans (congrArg some (by kernel_rfl))
 f20:=⟨"slices.insertionSortCmpFunc[canton/api.Node]",by kernel_rfl,Tryz.func245.trans (congrArg some (by kernel_rfl))⟩
 f21:=⟨"slices.heapSortCmpFunc[canton/api.Node]",by kernel_rfl,Tryz.func246.trans (congrArg some (by kernel_rfl))⟩
 f22:=⟨"slices.breakPatternsCmpFunc[canton/api.Node]",by kernel_rfl,Tryz.func247.trans (congrArg some (by kernel_rfl))⟩
 f23:=⟨"slices.choosePivotCmpFunc[canton/api.Node]",by kernel_rfl,Tryz.func248.trans (congrArg some (by kernel_rfl))⟩
 f24:=⟨"slices.reverseRangeCmpFunc[canton/api.Node]",by kernel_rfl,Tryz.func249.trans (congrArg some (by kernel_rfl))⟩
 f25:=⟨"slices.partialInsertionSortCmpFunc[canton/api.Node]",by kernel_rfl,Tryz.func250.trans (congrArg some (by kernel_rfl))⟩
 f26:=⟨"slices.partitionEqualCmpFunc[canton/api.Node]",by kernel_rfl,Tryz.func251.trans (congrArg some (by kernel_rfl))⟩
 f27:=⟨"slices.partitionCmpFunc[canton/api.Node]",by kernel_rfl,Tryz.func252.trans (congrArg some (by kernel_rfl))⟩
 f28:=Tryz.func253.trans (congrArg some (by kernel_rfl))
 f29:=Tryz.func254.trans (congrArg some (by kernel_rfl))
 f46:=⟨"slices.siftDownCmpFunc[canton/api.Node]",by kernel_rfl,Tryz.func308.trans (congrArg some (by kernel_rfl))⟩
 f47:=Tryz.func309.trans (congrArg some (by kernel_rfl))
 f48:=Tryz.func310.trans (congrArg some (by kernel_rfl))
 f49:=⟨"slices.medianAdjacentCmpFunc[canton/api.Node]",by kernel_rfl,Tryz.func311.trans (congrArg some (by kernel_rfl))⟩
 f50:=⟨"slices.medianCmpFunc[canton/api.Node]",by kernel_rfl,Tryz.func312.trans (congrArg some (by kernel_rfl))⟩
 f57:=⟨"slices.order2CmpFunc[canton/api.Node]",by kernel_rfl,Tryz.func348.trans (congrArg some (by kernel_rfl))⟩
 t0:=Tryz.underlying0
 a0:=Tryz.isAgg0
 z0:=Tryz.sizeOf0
 v0:=Tryz.zeroValue0
 t3:=Tryz.underlying3
 a3:=Tryz.isAgg3
 z3:=Tryz.sizeOf3
 v3:=Tryz.zeroValue3
 t4:=Tryz.underlying4
 a4:=Tryz.isAgg4
 z4:=Tryz.sizeOf4
 v4:=Tryz.zeroValue4
 t5:=Tryz.underlying5
 a5:=Tryz.isAgg5
 z5:=Tryz.sizeOf5
 v5:=Tryz.zeroValue5
 t9:=Tryz.underlying9
 a9:=Tryz.isAgg9
 z9:=Tryz.sizeOf9
 v9:=Tryz.zeroValue9
 t22:=Tryz.underlying22
 a22:=Tryz.isAgg22
 z22:=Tryz.sizeOf22
 v22:=Tryz.zeroValue22
 t25:=Tryz.underlying169
 a25:=Tryz.isAgg169
 z25:=Tryz.sizeOf169
 v25:=Tryz.zeroValue169
 t39:=Tryz.underlying234
 a39:=Tryz.isAgg234
 z39:=Tryz.sizeOf234
 v39:=Tryz.zeroValue234
 t45:=Tryz.underlying277
 a45:=Tryz.isAgg277
 z45:=Tryz.sizeOf277
 v45:=Tryz.zeroValue277
 t46:=Tryz.underlying278
 a46:=Tryz.isAgg278
 z46:=Tryz.sizeOf278
 v46:=Tryz.zeroValue278
 t50:=Tryz.underlying216
 a50:=Tryz.isAgg216
 z50:=Tryz.sizeOf216
 v50:=Tryz.zeroValue216
 t53:=Tryz.underlying284
 a53:=Tryz.isAgg284
 z53:=Tryz.sizeOf284
 v53:=Tryz.zeroValue284
 t55:=Tryz.underlying286
 a55:=Tryz.isAgg286
 z55:=Tryz.sizeOf286
 v55:=Tryz.zeroValue286
 t66:=Tryz.underlying326
 a66:=Tryz.isAgg326
 z66:=Tryz.sizeOf326
 v66:=Tryz.zeroValue326
 t70:=Tryz.underlying330
 a70:=Tryz.isAgg330
 z70:=Tryz.sizeOf330
 v70:=Tryz.zeroValue330
 t76:=Tryz.underlying350
 a76:=Tryz.isAgg350
 z76:=Tryz.sizeOf350
 v76:=Tryz.zeroValue350
 t77:=Tryz.underlying351
 a77:=Tryz.isAgg351
 z77:=Tryz.sizeOf351
 v77:=Tryz.zeroValue351
theorem MB(w:WD)(args:Array VL):(callFunc 245 args).run Tryz.prog w= .ok (.enter 245 args) w:=W5 Tryz.func245 rfl (by kernel_rfl) args
theorem MC(w:WD)(args:Array VL):(callFunc 188 args).run Tryz.prog w= .ok (.enter 188 args) w:=W5 Tryz.func188 rfl (by kernel_rfl) args
theorem cfx_189(w:WD)(args:Array VL):(callFunc 189 args).run Tryz.prog w= .ok (.enter 189 args) w:=W5 Tryz.func189 rfl (by kernel_rfl) args
theorem RA(s t:BY)(W:WD):Calls Tryz.prog 190 [.string s,.string t].toArray W (Ret λv w'=>v= .int .i64 (Extern.BytealgCompare.cmp s t)/\w'=W):=by
 refine enter Tryz.func190 rfl Tryz.ntmps190 rfl λa E=>?_
 simp only [yN,Nat.reduceAdd] at E
 refine sq<|pr 1 E rfl λa E=>nx<|pr 2 E rfl λa E=>sv E rfl rfl rfl (Mf E rfl rfl (EX _ _ _)) λa E=>pr 1 E rfl λa E=>nt<|wR<|xJ E rfl rfl<|?_
 exact ⟨rfl,rfl⟩
theorem FE(s t:BY)(W:WD):Calls Tryz.prog 113 [.string s,.string t].toArray W (Ret λv w'=>v= .int .i64 (Extern.BytealgCompare.cmp s t)/\w'=W):=by
 refine enter Tryz.func113 rfl Tryz.ntmps113 rfl λa E=>?_
 simp only [yN,Nat.reduceAdd] at E
 refine sq<|pr 1 E rfl λa E=>nx<|pr 2 E rfl λa E=>Oi E rfl rfl rfl rfl rfl (λw args=>W5 Tryz.func190 rfl (by kernel_rfl) args) (RA s t W)<|?_
 rintro _ w ⟨rfl,rfl⟩ a E
 refine pr 1 E rfl λa E=>nt<|wR<|xJ E rfl rfl<|?_
 exact ⟨rfl,rfl⟩
theorem We{P:Program}{f:FuncId}{args:Array VL}{w:WD}{R:VL->WD->Prop}(h:Calls P f args w (Ret R)):Calls P f args w λe w'=>∃ v,e= .returned v/\R v w':=h.mono λe w' h=>by
 cases e with
 | returned v=>exact ⟨v,rfl,h⟩
 | _=>exact h.elim
theorem cmpN_x(x y:aG)(W:WD):Calls Tryz.prog 112 #[.agg (cM.enc x).toArray,.agg (cM.enc y).toArray] W λe w'=>e= .returned (.int .i64 (Extern.BytealgCompare.cmp x.Path y.Path))/\∃ q os',w'=Sort.grow (W.drewN q) os':=by
 have hcon:∀ W',Calls Tryz.prog 113 #[.string x.Path,.string y.Path] W' λe w'=>e= .returned (.int .i64 (Extern.BytealgCompare.cmp x.Path y.Path))/\w'=W':=λW'=>(We (FE x.Path y.Path W')).mono (by rintro _ _ ⟨v,rfl,rfl,rfl⟩;exact ⟨rfl,rfl⟩);generalize Extern.BytealgCompare.cmp x.Path y.Path=r at hcon ⊢;cases x;cases y;unfold cM
 go_enter Tryz.func112,Tryz.ntmps112
 go_wp2_with (go_at_call 113;refine (hcon _).mono ?_;rintro e w' ⟨rfl,rfl⟩)
 go_ret
 exact ⟨rfl,0,_,by rw [Sort.alloc_eq_grow,Sort.alloc_eq_grow,Sort.grow_grow];rfl⟩
theorem len_x(w:WD):Calls Tryz.prog 189 [.int .u64 0].toArray w (Ret λv w'=>v= .int .i64 0/\w'=w):=by
 have h:=Any.bits_Len (SlLaysF0.n15.bits (P:=Tryz.prog) (ρ:=sortRen) { sortLays with }) 0 w (by omega) (by omega);refine h.mono ?_;rintro e w' ⟨rfl,rfl⟩;exact ⟨rfl,rfl⟩
theorem ins_nil{w:WD}:Calls Tryz.prog 245 [.slice none 0 0,.int .i64 0,.int .i64 0,.func (.func 112) #[] #[]].toArray w (Ret λv w'=>v= .tuple #[]/\w'=w):=by
 refine enter Tryz.func245 rfl Tryz.ntmps245 rfl λa E=>?_;simp only [yN,Nat.reduceAdd] at E;refine wS ?_;refine wG ?_;refine sv E rfl rfl rfl (bL E rfl rfl) ?_;clear a E;intro a E;refine sv E rfl rfl rfl (oN E rfl rfl rfl rfl) ?_;clear a E;intro a E;refine sv E rfl rfl rfl (cZ E rfl rfl) ?_;clear a E;intro a E;refine wN ?_;refine aA ?_;refine wB ?_;refine wp_loop (λa' w'=>Env _ a' _/\w'=w) (λ_ _=>0) ⟨E,rfl⟩ ?_;clear E;clear a;rintro a w' ⟨E,rfl⟩;refine wS ?_;refine wS ?_;refine wG ?_;refine sv E rfl rfl rfl (bL E rfl rfl) ?_;clear a E;intro a E;refine sv E rfl rfl rfl (bL E rfl rfl) ?_;clear a E;intro a E;refine sv E rfl rfl rfl (oN E rfl rfl rfl rfl) ?_;clear a E;intro a E;refine wN ?_;refine aA ?_;refine wV E rfl (λhb=>absurd hb (by decide)) λ_=>?_;refine wX ?_;refine xI E rfl ⟨rfl,rfl⟩
theorem pdq_nil{w:WD}:Calls Tryz.prog 188 [.slice none 0 0,.int .i64 0,.int .i64 0,.int .i64 0,.func (.func 112) #[] #[]].toArray w (Ret λv w'=>v= .tuple #[]/\w'=w):=by
 refine enter Tryz.func188 rfl Tryz.ntmps188 rfl λa E=>?_;simp only [yN,Nat.reduceAdd] at E;refine wS ?_;refine wG ?_;refine sv E rfl rfl rfl (cZ E rfl rfl) ?_;clear a E;intro a E;refine wN ?_;refine aA ?_;refine wS ?_;refine wG ?_;refine sv E rfl rfl rfl (cZ E rfl rfl) ?_;clear a E;intro a E;refine wN ?_;refine aA ?_;refine wB ?_;refine wp_loop (λa' w'=>Env _ a' _/\w'=w) (λ_ _=>0) ⟨E,rfl⟩ ?_;clear E;clear a;rintro a w' ⟨E,rfl⟩;refine wB ?_;refine wS ?_;refine wG ?_;refine sv E rfl rfl rfl (bL E rfl rfl) ?_;clear a E;intro a E;refine sv E rfl rfl rfl (bL E rfl rfl) ?_;clear a E;intro a E;refine sv E rfl rfl rfl (oN E rfl rfl rfl rfl) ?_;clear a E;intro a E;refine sv E rfl rfl rfl (cZ E rfl rfl) ?_;clear a E;intro a E;refine wN ?_;refine aA ?_;refine wS ?_;refine wS ?_;refine wG ?_;refine sv E rfl rfl rfl (bL E rfl rfl) ?_;clear a E;intro a E;refine sv E rfl rfl rfl (oN E rfl rfl rfl rfl) ?_;clear a E;intro a E;refine wN ?_;refine aA ?_;refine wV E rfl (λ_=>?_) λhb=>absurd hb (by decide);refine wS ?_;refine wG ?_;refine sv E rfl rfl rfl (bL E rfl rfl) ?_;clear a E;intro a E;refine sv E rfl rfl rfl (bL E rfl rfl) ?_;clear a E;intro a E;refine sv E rfl rfl rfl (bL E rfl rfl) ?_;clear a E;intro a E;refine sv E rfl rfl rfl (bL E rfl rfl) ?_;clear a E;intro a E;refine bI E (wn rfl) rfl rfl (Dc E rfl rfl (MB _)) ins_nil ?_;rintro _ w ⟨rfl,rfl⟩ a E;refine wN ?_;refine aA ?_;refine wR ?_;refine Qa E rfl ⟨rfl,rfl⟩
theorem srt_nil{w:WD}:Calls Tryz.prog 111 [.slice none 0 0,.func (.func 112) #[] #[]].toArray w (Ret λv w'=>v= .tuple #[]/\w'=w):=by
 refine enter Tryz.func111 rfl Tryz.ntmps111 rfl λa E=>?_;simp only [yN,Nat.reduceAdd] at E;refine wS ?_;refine wG ?_;refine sv E rfl rfl rfl (bL E rfl rfl) ?_;clear a E;intro a E;refine sv E rfl rfl rfl (L7 E rfl rfl Tryz.underlying22) ?_;clear a E;intro a E;refine sv E rfl rfl rfl (cZ E rfl rfl) ?_;clear a E;intro a E;refine wN ?_;refine aA ?_;refine wG ?_;refine sv E rfl rfl rfl (bL E rfl rfl) ?_;clear a E;intro a E;refine sv E rfl rfl rfl (bL E rfl rfl) ?_;clear a E;intro a E;refine sv E rfl rfl rfl (bL E rfl rfl) ?_;clear a E;intro a E;refine sv E rfl rfl rfl (Fy E rfl rfl (v:=.int .u64 0) (by kernel_rfl)) ?_;clear a E;intro a E;refine Oi E rfl rfl rfl rfl rfl cfx_189 (len_x w) ?_;rintro _ w ⟨rfl,rfl⟩ a E;refine sv E rfl rfl rfl (bL E rfl rfl) ?_;clear a E;intro a E;refine bI E (wn rfl) rfl rfl (Dc E rfl rfl (MC _)) pdq_nil ?_;rintro _ w ⟨rfl,rfl⟩ a E;refine wN ?_;refine xI E rfl ⟨rfl,rfl⟩
def cfN(x y:aG):Int:=Extern.BytealgCompare.cmp x.Path y.Path
instance:Inhabited aG:=⟨⟨⟨#[]⟩,⟨#[]⟩,0,0,0⟩⟩
/-- what slices.SortFunc makes of nodes, by their paths. -/
def srtN(l:List aG):List aG:=(Sort.pdq (ltOf cfN) l.toArray 0 l.toArray.size (Lib.bitLen l.toArray.size) true true).toList
theorem srt_spec(l:List aG):Sort.PermIn 0 l.toArray.size l.toArray (srtN l).toArray/\Sort.SortedIn (ltOf cfN) 0 l.toArray.size (srtN l).toArray:=by
 have h:=Sort.pdq_sorts (ltOf cfN) (BX aG.Path) l.toArray 0 l.toArray.size (Lib.bitLen l.toArray.size) true true (Nat.zero_le _) (Nat.le_refl _) (Or.inl rfl);unfold srtN;rw [Array.toArray_toList];exact h
theorem srt_len(l:List aG):(srtN l).length=l.length:=by
 have:=(srt_spec l).1.1;simpa using this
theorem srt_perm(l:List aG):(srtN l).Perm l:=by
 have h:=(srt_spec l).1.2.2;have e1:(srtN l).toArray.extract 0 l.toArray.size=(srtN l).toArray:=by rw [show l.toArray.size=(srtN l).toArray.size from (srt_spec l).1.1.symm,Array.extract_size]
 rw [e1,Array.extract_size] at h;simpa using h
theorem srt_sorted(l:List aG):(srtN l).Pairwise (λa b=>¬ zb b.Path < zb a.Path):=by
 rw [List.pairwise_iff_getElem];intro i j hi hj hij;have hs:=srt_len l;have h:=(srt_spec l).2 i j (Nat.zero_le _) hij (by simp;omega);have e1:(srtN l).toArray[j]! =(srtN l)[j]:=by simp [hj]
 have e2:(srtN l).toArray[i]! =(srtN l)[i]:=by simp [hi]
 rw [e1,e2] at h;have h2:decide (zb ((srtN l)[j]).Path < zb ((srtN l)[i]).Path)=false:=(Sr _ _).symm.trans h;simpa using h2
theorem sort_c{w:WD}{os:List Ob}{rs:List Rp}{ix:Nat}{v:VL}{xs:List aG}(H:Sep w os rs)(hi:os[ix]? =some (Row 107 aB v xs))(hn:xs.length <= 1000000) :
  Calls Tryz.prog 111 [v,.func (.func 112) #[] #[]].toArray w (Ret λv' w'=>v'= .tuple #[]/\Sep w' (os.set ix (Row 107 aB v (srtN xs))) rs):=by
 obtain ⟨_,_,flat,⟨_,hv⟩,_⟩:=H.ob ix hi;rcases hv with ⟨rfl,h0⟩ | ⟨g,cap,cur,rfl,_⟩
 ·have h1:xs= []:=List.eq_nil_of_length_eq_zero h0;subst h1;have h2:srtN []= []:=List.eq_nil_of_length_eq_zero (srt_len []);refine (We srt_nil).mono ?_;rintro _ w' ⟨_,rfl,rfl,rfl⟩;refine ⟨rfl,?_⟩;rw [h2];have h3:os.set ix (Row 107 aB (.slice none 0 0) [])=os:=by
   obtain ⟨hl,he⟩:=List.getElem?_eq_some_iff.1 hi;rw [← he,List.set_getElem_self]
  rw [h3];exact H
 have hcon:=AnyQ.slices_SortFunc_eq sortLays 5 Tryz.isAgg107 Tryz.sizeOf107 cM.enc (λ_=>rfl) (λx v hv=>by simp [cM] at hv;rcases hv with rfl | rfl | rfl | rfl | rfl <;> rfl) cfN (BX aG.Path) 112 #[] g 0 cap xs.toArray w (λargs w=>W5 Tryz.func112 rfl (by kernel_rfl) args) (λ_ _ _ _ x y=>cmpN_x x y _) (Ee H cM hi) (Mi H hi).1 (by simp;omega);refine hcon.mono ?_;rintro _ _ ⟨rfl,n,os',rfl⟩;exact ⟨rfl,H.sorted cM hi n (srtN xs) (srt_len xs) os'⟩
end Go.Cb
