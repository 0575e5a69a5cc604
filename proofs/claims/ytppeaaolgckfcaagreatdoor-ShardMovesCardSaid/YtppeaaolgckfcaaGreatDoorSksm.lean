/- slices.Sorted of the keys of a map, laid at this program. -/
import Derived.Test.YtppeaaolgckfcaaGreatDoorTsm
import Derived.Test.YtppeaaolgckfcaaGreatDoorAsm2
set_option linter.unusedVariables false
set_option maxRecDepth 20000
set_option maxHeartbeats 1000000
namespace Go.Cb
open Go Go.Shelf Go.Proofs Go.RowKit Go.Maps Go.Sort
def BS:Shelf.Ren:=⟨λ | 7=>121 | 10=>181 | n=>n,λ | 23=>174 | 26=>2 | 3=>3 | 28=>179 | 0=>0 | 27=>178 | 33=>173 | 4=>4 | n=>n,λn=>n⟩
theorem AZ:Go.Proofs.SlLaysZI.n7 Tryz.prog BS where
 mixed:=by kernel_rfl
 f7:=⟨"maps.Keys[map[int64]int,int64,int]",by kernel_rfl,Tryz.func121.trans (congrArg some (by kernel_rfl))⟩
 f10:=⟨"maps.Keys[map[int64]int,int64,int]$1",by kernel_rfl,Tryz.func181.trans (congrArg some (by kernel_rfl))⟩
 t0:=Tryz.underlying0
 a0:=Tryz.isAgg0
 z0:=Tryz.sizeOf0
 v0:=Tryz.zeroValue0
 t4:=Tryz.underlying4
 a4:=Tryz.isAgg4
 z4:=Tryz.sizeOf4
 v4:=Tryz.zeroValue4
 t23:=Tryz.underlying174
 a23:=Tryz.isAgg174
 z23:=Tryz.sizeOf174
 v23:=Tryz.zeroValue174
 t26:=Tryz.underlying2
 a26:=Tryz.isAgg2
 z26:=Tryz.sizeOf2
 v26:=Tryz.zeroValue2
 t27:=Tryz.underlying178
 a27:=Tryz.isAgg178
 z27:=Tryz.sizeOf178
 v27:=Tryz.zeroValue178
 t28:=Tryz.underlying179
 a28:=Tryz.isAgg179
 z28:=Tryz.sizeOf179
 v28:=Tryz.zeroValue179
 t33:=Tryz.underlying173
 a33:=Tryz.isAgg173
 z33:=Tryz.sizeOf173
 v33:=Tryz.zeroValue173
def Vi:Shelf.Ren:=⟨λ | 6=>120 | 8=>179 | 9=>180 | 11=>248 | 13=>144 | 12=>249 | 23=>206 | 24=>207 | 14=>291 | 15=>292 | 16=>293 | 17=>294 | 18=>295 | 19=>296 | 20=>297 | 21=>298 | 22=>299 | 25=>322 | 26=>268 | 27=>269 | 28=>323 | 29=>324 | 30=>279 | 31=>329 | n=>n,λ | 26=>2 | 28=>179 | 24=>38 | 0=>0 | 3=>3 | 37=>202 | 48=>253 | 50=>255 | 4=>4 | 40=>247 | 39=>246 | 45=>181 | 5=>5 | 9=>9 | 51=>299 | 55=>303 | 57=>329 | 58=>330 | 33=>173 | n=>n,λn=>n⟩
theorem Wm:Go.Proofs.SlLaysZI.n6 Tryz.prog Vi where
 mixed:=by kernel_rfl
 f6:=⟨"slices.Sorted[int64]",by kernel_rfl,Tryz.func120.trans (congrArg some (by kernel_rfl))⟩
 f8:=⟨"slices.Collect[int64]",by kernel_rfl,Tryz.func179.trans (congrArg some (by kernel_rfl))⟩
 f11:=⟨"slices.AppendSeq[[]int64,int64]",by kernel_rfl,Tryz.func248.trans (congrArg some (by kernel_rfl))⟩
 t0:=Tryz.underlying0
 a0:=Tryz.isAgg0
 z0:=Tryz.sizeOf0
 v0:=Tryz.zeroValue0
 t24:=Tryz.underlying38
 a24:=Tryz.isAgg38
 z24:=Tryz.sizeOf38
 v24:=Tryz.zeroValue38
 t26:=Tryz.underlying2
 a26:=Tryz.isAgg2
 z26:=Tryz.sizeOf2
 v26:=Tryz.zeroValue2
 t28:=Tryz.underlying179
 a28:=Tryz.isAgg179
 z28:=Tryz.sizeOf179
 v28:=Tryz.zeroValue179
 i26:=by kernel_rfl
def JE:Shelf.Ren:=⟨λ | 5=>180 | 8=>144 | 7=>249 | 19=>206 | 20=>207 | 10=>291 | 11=>292 | 12=>293 | 13=>294 | 14=>295 | 15=>296 | 16=>297 | 17=>298 | 18=>299 | 30=>322 | 31=>268 | 32=>269 | 33=>323 | 34=>324 | 35=>279 | 40=>329 | n=>n,λ | 23=>38 | 25=>2 | 3=>3 | 32=>202 | 22=>38 | 0=>0 | 44=>253 | 46=>255 | 4=>4 | 36=>247 | 35=>246 | 41=>181 | 5=>5 | 9=>9 | 53=>299 | 57=>303 | 63=>329 | 64=>330 | n=>n,λn=>n⟩
theorem Ml:Go.Proofs.SlLaysM.n5 Tryz.prog JE where
 mixed:=by kernel_rfl
 f5:=⟨"slices.Sort[[]int64,int64]",by kernel_rfl,Tryz.func180.trans (congrArg some (by kernel_rfl))⟩
 f7:=⟨"slices.pdqsortOrdered[int64]",by kernel_rfl,Tryz.func249.trans (congrArg some (by kernel_rfl))⟩
 f8:=Tryz.func144.trans (congrArg some (by kernel_rfl))
 f10:=⟨"slices.insertionSortOrdered[int64]",by kernel_rfl,Tryz.func291.trans (congrArg some (by kernel_rfl))⟩
 f11:=⟨"slices.heapSortOrdered[int64]",by kernel_rfl,Tryz.func292.trans (congrArg some (by kernel_rfl))⟩
 f12:=⟨"slices.breakPatternsOrdered[int64]",by kernel_rfl,Tryz.func293.trans (congrArg some (by kernel_rfl))⟩
 f13:=⟨"slices.choosePivotOrdered[int64]",by kernel_rfl,Tryz.func294.trans (congrArg some (by kernel_rfl))⟩
 f14:=⟨"slices.reverseRangeOrdered[int64]",by kernel_rfl,Tryz.func295.trans (congrArg some (by kernel_rfl))⟩
 f15:=⟨"slices.partialInsertionSortOrdered[int64]",by kernel_rfl,Tryz.func296.trans (congrArg some (by kernel_rfl))⟩
 f16:=⟨"cmp.Less[int64]",by kernel_rfl,Tryz.func297.trans (congrArg some (by kernel_rfl))⟩
 f17:=⟨"slices.partitionEqualOrdered[int64]",by kernel_rfl,Tryz.func298.trans (congrArg some (by kernel_rfl))⟩
 f18:=⟨"slices.partitionOrdered[int64]",by kernel_rfl,Tryz.func299.trans (congrArg some (by kernel_rfl))⟩
 f19:=Tryz.func206.trans (congrArg some (by kernel_rfl))
 f20:=Tryz.func207.trans (congrArg some (by kernel_rfl))
 f30:=⟨"slices.siftDownOrdered[int64]",by kernel_rfl,Tryz.func322.trans (congrArg some (by kernel_rfl))⟩
 f31:=Tryz.func268.trans (congrArg some (by kernel_rfl))
 f32:=Tryz.func269.trans (congrArg some (by kernel_rfl))
 f33:=⟨"slices.medianAdjacentOrdered[int64]",by kernel_rfl,Tryz.func323.trans (congrArg some (by kernel_rfl))⟩
 f34:=⟨"slices.medianOrdered[int64]",by kernel_rfl,Tryz.func324.trans (congrArg some (by kernel_rfl))⟩
 f35:=⟨"cmp.isNaN[int64]",by kernel_rfl,Tryz.func279.trans (congrArg some (by kernel_rfl))⟩
 f40:=⟨"slices.order2Ordered[int64]",by kernel_rfl,Tryz.func329.trans (congrArg some (by kernel_rfl))⟩
 t0:=Tryz.underlying0
 a0:=Tryz.isAgg0
 z0:=Tryz.sizeOf0
 v0:=Tryz.zeroValue0
 t3:=Tryz.underlying3
 a3:=Tryz.isAgg3
 z3:=Tryz.sizeOf3
 v3:=Tryz.zeroValue3
 t4:=Tryz.underlying4
 a4:=Tryz.isAgg4
 z4:=Tryz.sizeOf4
 v4:=Tryz.zeroValue4
 t5:=Tryz.underlying5
 a5:=Tryz.isAgg5
 z5:=Tryz.sizeOf5
 v5:=Tryz.zeroValue5
 t9:=Tryz.underlying9
 a9:=Tryz.isAgg9
 z9:=Tryz.sizeOf9
 v9:=Tryz.zeroValue9
 t22:=Tryz.underlying38
 a22:=Tryz.isAgg38
 z22:=Tryz.sizeOf38
 v22:=Tryz.zeroValue38
 t23:=Tryz.underlying38
 a23:=Tryz.isAgg38
 z23:=Tryz.sizeOf38
 v23:=Tryz.zeroValue38
 t25:=Tryz.underlying2
 a25:=Tryz.isAgg2
 z25:=Tryz.sizeOf2
 v25:=Tryz.zeroValue2
 t32:=Tryz.underlying202
 a32:=Tryz.isAgg202
 z32:=Tryz.sizeOf202
 v32:=Tryz.zeroValue202
 t35:=Tryz.underlying246
 a35:=Tryz.isAgg246
 z35:=Tryz.sizeOf246
 v35:=Tryz.zeroValue246
 t36:=Tryz.underlying247
 a36:=Tryz.isAgg247
 z36:=Tryz.sizeOf247
 v36:=Tryz.zeroValue247
 t41:=Tryz.underlying181
 a41:=Tryz.isAgg181
 z41:=Tryz.sizeOf181
 v41:=Tryz.zeroValue181
 t44:=Tryz.underlying253
 a44:=Tryz.isAgg253
 z44:=Tryz.sizeOf253
 v44:=Tryz.zeroValue253
 t46:=Tryz.underlying255
 a46:=Tryz.isAgg255
 z46:=Tryz.sizeOf255
 v46:=Tryz.zeroValue255
 t53:=Tryz.underlying299
 a53:=Tryz.isAgg299
 z53:=Tryz.sizeOf299
 v53:=Tryz.zeroValue299
 t57:=Tryz.underlying303
 a57:=Tryz.isAgg303
 z57:=Tryz.sizeOf303
 v57:=Tryz.zeroValue303
 t63:=Tryz.underlying329
 a63:=Tryz.isAgg329
 z63:=Tryz.sizeOf329
 v63:=Tryz.zeroValue329
 t64:=Tryz.underlying330
 a64:=Tryz.isAgg330
 z64:=Tryz.sizeOf330
 v64:=Tryz.zeroValue330
theorem SS(m:Nat):AnyZI.SortsIn Tryz.prog Vi Fence.wide m:=
 ⟨λblk off cap ss W hH hblk hsz=>callsIn_wide.2 (AnyM.slices_Sort_int Ml blk off cap ss W hH hblk hsz),λp cap W=>callsIn_wide.2 (AnyM.slices_Sort_int_none Ml p cap W)⟩
theorem JF{w:WD}{os:List Ob}{rs:List Rp}{ip im p b:Nat}{α:Type}{d:Kd α}{g:Bool}{l:List (Int×α)}(H:Sep w os rs)(hp:os[ip]? =some (Blk p 174 [.map (some b)]))(hm:os[im]? =some (bW Tryz.prog 2 (kyI .i64) d g b l))(hn:l.length <= 1000000) :
  Calls Tryz.prog 120 [.func (.func 181) #[] #[pt p 0]].toArray w (Ret λv w'=>Sep w' (Row 2 (kI .i64) v (Sb (l.map (·.1)))::os) rs):=by
 obtain ⟨_,_,_,D,h2,h3,h4,h5,_⟩:=H.ob im hm;have hb:=H.blk hp;have hperm:=FS Tryz.underlying2 h2 h3 h4 h5;have hlt:p < w.heap.size:=(Array.getElem?_eq_some_iff.1 hb).1;have hseq:SeqGives Fence.wide 2 Tryz.prog 181 #[pt p 0] encZ (λss=>ss.Perm (intKeys D)) (Maps.size D) w:=
  AnyZI.keys_gives (ρ:=BS) { AZ with } Fence.wide _ trivial rfl (by omega) p b _ D w hlt (by simp [World.cell?,hb]) h2
 have cS:=AnyZI.sorted_in Wm Fence.wide 5 trivial trivial trivial trivial rfl (by omega) (SS _) (enters_of Tryz.func180 (by kernel_rfl) rfl) 181 #[pt p 0] trivial (enters_of Tryz.func181 (by kernel_rfl) rfl) _ _ (by rw [h3];show l.length <= maxLen;simp only [maxLen];omega) (by rw [h3];omega) _ hseq;refine (callsIn_wide.1 cS).mono ?_;rintro _ w' ⟨v,ss,rfl,hS,hrow,_,hbl⟩;have e:ss.mergeSort (λx y=>decide (x <= y))=Sb (l.map (·.1)):=mergeSort_of_perm_i (hS.trans hperm);have e2:ss.length=(Sb (l.map (·.1))).length:=by rw [← e,List.length_mergeSort]
 rw [e,e2] at hrow;exact H.ownsRow hrow hbl
end Go.Cb
