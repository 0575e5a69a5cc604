/- slices.Sorted of the keys of a map, laid at this program. -/
import Derived.Test.YteakhlfapjaodaaGreatDoorTsh
import Derived.Test.YteakhlfapjaodaaGreatDoorAsh2
set_option linter.unusedVariables false
set_option maxRecDepth 20000
set_option maxHeartbeats 1000000
namespace Go.Cb
open Go Go.Shelf Go.Proofs Go.RowKit Go.Maps Go.Sort
def AR:Shelf.Ren:=⟨λ | 7=>167 | 10=>238 | n=>n,λ | 23=>209 | 26=>2 | 3=>3 | 28=>214 | 0=>0 | 27=>213 | 33=>123 | 4=>4 | n=>n,λn=>n⟩
theorem Zy:Go.Proofs.SlLaysZI.n7 Tryz.prog AR where
 mixed:=by kernel_rfl
 f7:=⟨"maps.Keys[map[int64]int,int64,int]",by kernel_rfl,Tryz.func167.trans (congrArg some (by kernel_rfl))⟩
 f10:=⟨"maps.Keys[map[int64]int,int64,int]$1",by kernel_rfl,Tryz.func238.trans (congrArg some (by kernel_rfl))⟩
 t0:=Tryz.underlying0
 a0:=Tryz.isAgg0
 z0:=Tryz.sizeOf0
 v0:=Tryz.zeroValue0
 t4:=Tryz.underlying4
 a4:=Tryz.isAgg4
 z4:=Tryz.sizeOf4
 v4:=Tryz.zeroValue4
 t23:=Tryz.underlying209
 a23:=Tryz.isAgg209
 z23:=Tryz.sizeOf209
 v23:=Tryz.zeroValue209
 t26:=Tryz.underlying2
 a26:=Tryz.isAgg2
 z26:=Tryz.sizeOf2
 v26:=Tryz.zeroValue2
 t27:=Tryz.underlying213
 a27:=Tryz.isAgg213
 z27:=Tryz.sizeOf213
 v27:=Tryz.zeroValue213
 t28:=Tryz.underlying214
 a28:=Tryz.isAgg214
 z28:=Tryz.sizeOf214
 v28:=Tryz.zeroValue214
 t33:=Tryz.underlying123
 a33:=Tryz.isAgg123
 z33:=Tryz.sizeOf123
 v33:=Tryz.zeroValue123
def Ul:Shelf.Ren:=⟨λ | 6=>166 | 8=>236 | 9=>237 | 11=>303 | 13=>189 | 12=>304 | 23=>253 | 24=>254 | 14=>336 | 15=>337 | 16=>338 | 17=>339 | 18=>340 | 19=>341 | 20=>342 | 21=>343 | 22=>344 | 25=>360 | 26=>309 | 27=>310 | 28=>361 | 29=>362 | 30=>320 | 31=>368 | n=>n,λ | 26=>2 | 28=>214 | 24=>46 | 0=>0 | 3=>3 | 37=>234 | 48=>284 | 50=>286 | 4=>4 | 40=>278 | 39=>277 | 45=>216 | 5=>5 | 9=>9 | 51=>326 | 55=>330 | 57=>350 | 58=>351 | 33=>123 | n=>n,λn=>n⟩
theorem Vl:Go.Proofs.SlLaysZI.n6 Tryz.prog Ul where
 mixed:=by kernel_rfl
 f6:=⟨"slices.Sorted[int64]",by kernel_rfl,Tryz.func166.trans (congrArg some (by kernel_rfl))⟩
 f8:=⟨"slices.Collect[int64]",by kernel_rfl,Tryz.func236.trans (congrArg some (by kernel_rfl))⟩
 f11:=⟨"slices.AppendSeq[[]int64,int64]",by kernel_rfl,Tryz.func303.trans (congrArg some (by kernel_rfl))⟩
 t0:=Tryz.underlying0
 a0:=Tryz.isAgg0
 z0:=Tryz.sizeOf0
 v0:=Tryz.zeroValue0
 t24:=Tryz.underlying46
 a24:=Tryz.isAgg46
 z24:=Tryz.sizeOf46
 v24:=Tryz.zeroValue46
 t26:=Tryz.underlying2
 a26:=Tryz.isAgg2
 z26:=Tryz.sizeOf2
 v26:=Tryz.zeroValue2
 t28:=Tryz.underlying214
 a28:=Tryz.isAgg214
 z28:=Tryz.sizeOf214
 v28:=Tryz.zeroValue214
 i26:=by kernel_rfl
def HX:Shelf.Ren:=⟨λ | 5=>237 | 8=>189 | 7=>304 | 19=>253 | 20=>254 | 10=>336 | 11=>337 | 12=>338 | 13=>339 | 14=>340 | 15=>341 | 16=>342 | 17=>343 | 18=>344 | 30=>360 | 31=>309 | 32=>310 | 33=>361 | 34=>362 | 35=>320 | 40=>368 | n=>n,λ | 23=>46 | 25=>2 | 3=>3 | 32=>234 | 22=>46 | 0=>0 | 44=>284 | 46=>286 | 4=>4 | 36=>278 | 35=>277 | 41=>216 | 5=>5 | 9=>9 | 53=>326 | 57=>330 | 63=>350 | 64=>351 | n=>n,λn=>n⟩
theorem Lf:Go.Proofs.SlLaysM.n5 Tryz.prog HX where
 mixed:=by kernel_rfl
 f5:=⟨"slices.Sort[[]int64,int64]",by kernel_rfl,Tryz.func237.trans (congrArg some (by kernel_rfl))⟩
 f7:=⟨"slices.pdqsortOrdered[int64]",by kernel_rfl,Tryz.func304.trans (congrArg some (by kernel_rfl))⟩
 f8:=Tryz.func189.trans (congrArg some (by kernel_rfl))
 f10:=⟨"slices.insertionSortOrdered[int64]",by kernel_rfl,Tryz.func336.trans (congrArg some (by kernel_rfl))⟩
 f11:=⟨"slices.heapSortOrdered[int64]",by kernel_rfl,Tryz.func337.trans (congrArg some (by kernel_rfl))⟩
 f12:=⟨"slices.breakPatternsOrdered[int64]",by kernel_rfl,Tryz.func338.trans (congrArg some (by kernel_rfl))⟩
 f13:=⟨"slices.choosePivotOrdered[int64]",by kernel_rfl,Tryz.func339.trans (congrArg some (by kernel_rfl))⟩
 f14:=⟨"slices.reverseRangeOrdered[int64]",by kernel_rfl,Tryz.func340.trans (congrArg some (by kernel_rfl))⟩
 f15:=⟨"slices.partialInsertionSortOrdered[int64]",by kernel_rfl,Tryz.func341.trans (congrArg some (by kernel_rfl))⟩
 f16:=⟨"cmp.Less[int64]",by kernel_rfl,Tryz.func342.trans (congrArg some (by kernel_rfl))⟩
 f17:=⟨"slices.partitionEqualOrdered[int64]",by kernel_rfl,Tryz.func343.trans (congrArg some (by kernel_rfl))⟩
 f18:=⟨"slices.partitionOrdered[int64]",by kernel_rfl,Tryz.func344.trans (congrArg some (by kernel_rfl))⟩
 f19:=Tryz.func253.trans (congrArg some (by kernel_rfl))
 f20:=Tryz.func254.trans (congrArg some (by kernel_rfl))
 f30:=⟨"slices.siftDownOrdered[int64]",by kernel_rfl,Tryz.func360.trans (congrArg some (by kernel_rfl))⟩
 f31:=Tryz.func309.trans (congrArg some (by kernel_rfl))
 f32:=Tryz.func310.trans (congrArg some (by kernel_rfl))
 f33:=⟨"slices.medianAdjacentOrdered[int64]",by kernel_rfl,Tryz.func361.trans (congrArg some (by kernel_rfl))⟩
 f34:=⟨"slices.medianOrdered[int64]",by kernel_rfl,Tryz.func362.trans (congrArg some (by kernel_rfl))⟩
 f35:=⟨"cmp.isNaN[int64]",by kernel_rfl,Tryz.func320.trans (congrArg some (by kernel_rfl))⟩
 f40:=⟨"slices.order2Ordered[int64]",by kernel_rfl,Tryz.func368.trans (congrArg some (by kernel_rfl))⟩
 t0:=Tryz.underlying0
 a0:=Tryz.isAgg0
 z0:=Tryz.sizeOf0
 v0:=Tryz.zeroValue0
 t3:=Tryz.underlying3
 a3:=Tryz.isAgg3
 z3:=Tryz.sizeOf3
 v3:=Tryz.zeroValue3
 t4:=Tryz.underlying4
 a4:=Tryz.isAgg4
 z4:=Tryz.sizeOf4
 v4:=Tryz.zeroValue4
 t5:=Tryz.underlying5
 a5:=Tryz.isAgg5
 z5:=Tryz.sizeOf5
 v5:=Tryz.zeroValue5
 t9:=Tryz.underlying9
 a9:=Tryz.isAgg9
 z9:=Tryz.sizeOf9
 v9:=Tryz.zeroValue9
 t22:=Tryz.underlying46
 a22:=Tryz.isAgg46
 z22:=Tryz.sizeOf46
 v22:=Tryz.zeroValue46
 t23:=Tryz.underlying46
 a23:=Tryz.isAgg46
 z23:=Tryz.sizeOf46
 v23:=Tryz.zeroValue46
 t25:=Tryz.underlying2
 a25:=Tryz.isAgg2
 z25:=Tryz.sizeOf2
 v25:=Tryz.zeroValue2
 t32:=Tryz.underlying234
 a32:=Tryz.isAgg234
 z32:=Tryz.sizeOf234
 v32:=Tryz.zeroValue234
 t35:=Tryz.underlying277
 a35:=Tryz.isAgg277
 z35:=Tryz.sizeOf277
 v35:=Tryz.zeroValue277
 t36:=Tryz.underlying278
 a36:=Tryz.isAgg278
 z36:=Tryz.sizeOf278
 v36:=Tryz.zeroValue278
 t41:=Tryz.underlying216
 a41:=Tryz.isAgg216
 z41:=Tryz.sizeOf216
 v41:=Tryz.zeroValue216
 t44:=Tryz.underlying284
 a44:=Tryz.isAgg284
 z44:=Tryz.sizeOf284
 v44:=Tryz.zeroValue284
 t46:=Tryz.underlying286
 a46:=Tryz.isAgg286
 z46:=Tryz.sizeOf286
 v46:=Tryz.zeroValue286
 t53:=Tryz.underlying326
 a53:=Tryz.isAgg326
 z53:=Tryz.sizeOf326
 v53:=Tryz.zeroValue326
 t57:=Tryz.underlying330
 a57:=Tryz.isAgg330
 z57:=Tryz.sizeOf330
 v57:=Tryz.zeroValue330
 t63:=Tryz.underlying350
 a63:=Tryz.isAgg350
 z63:=Tryz.sizeOf350
 v63:=Tryz.zeroValue350
 t64:=Tryz.underlying351
 a64:=Tryz.isAgg351
 z64:=Tryz.sizeOf351
 v64:=Tryz.zeroValue351
theorem RB(m:Nat):AnyZI.SortsIn Tryz.prog Ul Fence.wide m:=
 ⟨λblk off cap ss W hH hblk hsz=>callsIn_wide.2 (AnyM.slices_Sort_int Lf blk off cap ss W hH hblk hsz),λp cap W=>callsIn_wide.2 (AnyM.slices_Sort_int_none Lf p cap W)⟩
theorem HY{w:WD}{os:List Ob}{rs:List Rp}{ip im p b:Nat}{α:Type}{d:Kd α}{g:Bool}{l:List (Int×α)}(H:Sep w os rs)(hp:os[ip]? =some (Blk p 209 [.map (some b)]))(hm:os[im]? =some (bX Tryz.prog 2 (kyI .i64) d g b l))(hn:l.length <= 1000000) :
  Calls Tryz.prog 166 [.func (.func 238) #[] #[pt p 0]].toArray w (Ret λv w'=>Sep w' (Row 2 (kI .i64) v (Qq (l.map (·.1)))::os) rs):=by
 obtain ⟨_,_,_,D,h2,h3,h4,h5,_⟩:=H.ob im hm;have hb:=H.blk hp;have hperm:=ES Tryz.underlying2 h2 h3 h4 h5;have hlt:p < w.heap.size:=(Array.getElem?_eq_some_iff.1 hb).1;have hseq:SeqGives Fence.wide 2 Tryz.prog 238 #[pt p 0] encZ (λss=>ss.Perm (intKeys D)) (Maps.size D) w:=
  AnyZI.keys_gives (ρ:=AR) { Zy with } Fence.wide _ trivial rfl (by omega) p b _ D w hlt (by simp [World.cell?,hb]) h2
 have cS:=AnyZI.sorted_in Vl Fence.wide 5 trivial trivial trivial trivial rfl (by omega) (RB _) (enters_of Tryz.func237 (by kernel_rfl) rfl) 238 #[pt p 0] trivial (enters_of Tryz.func238 (by kernel_rfl) rfl) _ _ (by rw [h3];show l.length <= maxLen;simp only [maxLen];omega) (by rw [h3];omega) _ hseq;refine (callsIn_wide.1 cS).mono ?_;rintro _ w' ⟨v,ss,rfl,hS,hrow,_,hbl⟩;have e:ss.mergeSort (λx y=>decide (x <= y))=Qq (l.map (·.1)):=mergeSort_of_perm_i (hS.trans hperm);have e2:ss.length=(Qq (l.map (·.1))).length:=by rw [← e,List.length_mergeSort]
 rw [e,e2] at hrow;exact H.ownsRow hrow hbl
end Go.Cb
