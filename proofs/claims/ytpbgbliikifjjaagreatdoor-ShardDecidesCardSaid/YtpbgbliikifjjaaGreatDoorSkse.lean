/- slices.Sorted of the keys of a map, laid at this program. -/
import Derived.Test.YtpbgbliikifjjaaGreatDoorTse
import Derived.Test.YtpbgbliikifjjaaGreatDoorB44se
set_option linter.unusedVariables false
set_option maxRecDepth 20000
set_option maxHeartbeats 1000000
namespace Go.Cb
open Go Go.Shelf Go.Proofs Go.RowKit Go.Maps Go.Sort
def Hi:Shelf.Ren:=⟨fun | 7=>134 | 10=>190 | n=>n,fun | 23=>183 | 26=>2 | 3=>3 | 28=>188 | 0=>0 | 27=>187 | 33=>182 | 4=>4 | n=>n,fun n=>n⟩
theorem Gu:Go.Proofs.SlLaysZI.n7 Tryz.prog Hi where
  mixed:=by kernel_rfl
  f7:=⟨"maps.Keys[map[int64]int,int64,int]",by kernel_rfl,Tryz.func134.trans (congrArg some (by kernel_rfl))⟩
  f10:=⟨"maps.Keys[map[int64]int,int64,int]$1",by kernel_rfl,Tryz.func190.trans (congrArg some (by kernel_rfl))⟩
  t0:=Tryz.underlying0
  a0:=Tryz.isAgg0
  z0:=Tryz.sizeOf0
  v0:=Tryz.zeroValue0
  t4:=Tryz.underlying4
  a4:=Tryz.isAgg4
  z4:=Tryz.sizeOf4
  v4:=Tryz.zeroValue4
  t23:=Tryz.underlying183
  a23:=Tryz.isAgg183
  z23:=Tryz.sizeOf183
  v23:=Tryz.zeroValue183
  t26:=Tryz.underlying2
  a26:=Tryz.isAgg2
  z26:=Tryz.sizeOf2
  v26:=Tryz.zeroValue2
  t27:=Tryz.underlying187
  a27:=Tryz.isAgg187
  z27:=Tryz.sizeOf187
  v27:=Tryz.zeroValue187
  t28:=Tryz.underlying188
  a28:=Tryz.isAgg188
  z28:=Tryz.sizeOf188
  v28:=Tryz.zeroValue188
  t33:=Tryz.underlying182
  a33:=Tryz.isAgg182
  z33:=Tryz.sizeOf182
  v33:=Tryz.zeroValue182
def Dg:Shelf.Ren:=⟨fun | 6=>133 | 8=>188 | 9=>189 | 11=>253 | 13=>157 | 12=>254 | 23=>215 | 24=>216 | 14=>298 | 15=>299 | 16=>300 | 17=>301 | 18=>302 | 19=>303 | 20=>304 | 21=>305 | 22=>306 | 25=>329 | 26=>273 | 27=>274 | 28=>330 | 29=>331 | 30=>284 | 31=>336 | n=>n,fun | 26=>2 | 28=>188 | 24=>46 | 0=>0 | 3=>3 | 37=>208 | 48=>264 | 50=>266 | 4=>4 | 40=>258 | 39=>257 | 45=>190 | 5=>5 | 9=>9 | 51=>304 | 55=>308 | 57=>334 | 58=>335 | 33=>182 | n=>n,fun n=>n⟩
theorem Dr:Go.Proofs.SlLaysZI.n6 Tryz.prog Dg where
  mixed:=by kernel_rfl
  f6:=⟨"slices.Sorted[int64]",by kernel_rfl,Tryz.func133.trans (congrArg some (by kernel_rfl))⟩
  f8:=⟨"slices.Collect[int64]",by kernel_rfl,Tryz.func188.trans (congrArg some (by kernel_rfl))⟩
  f11:=⟨"slices.AppendSeq[[]int64,int64]",by kernel_rfl,Tryz.func253.trans (congrArg some (by kernel_rfl))⟩
  t0:=Tryz.underlying0
  a0:=Tryz.isAgg0
  z0:=Tryz.sizeOf0
  v0:=Tryz.zeroValue0
  t24:=Tryz.underlying46
  a24:=Tryz.isAgg46
  z24:=Tryz.sizeOf46
  v24:=Tryz.zeroValue46
  t26:=Tryz.underlying2
  a26:=Tryz.isAgg2
  z26:=Tryz.sizeOf2
  v26:=Tryz.zeroValue2
  t28:=Tryz.underlying188
  a28:=Tryz.isAgg188
  z28:=Tryz.sizeOf188
  v28:=Tryz.zeroValue188
  i26:=by kernel_rfl
def Mf:Shelf.Ren:=⟨fun | 5=>189 | 8=>157 | 7=>254 | 19=>215 | 20=>216 | 10=>298 | 11=>299 | 12=>300 | 13=>301 | 14=>302 | 15=>303 | 16=>304 | 17=>305 | 18=>306 | 30=>329 | 31=>273 | 32=>274 | 33=>330 | 34=>331 | 35=>284 | 40=>336 | n=>n,fun | 23=>46 | 25=>2 | 3=>3 | 32=>208 | 22=>46 | 0=>0 | 44=>264 | 46=>266 | 4=>4 | 36=>258 | 35=>257 | 41=>190 | 5=>5 | 9=>9 | 53=>304 | 57=>308 | 63=>334 | 64=>335 | n=>n,fun n=>n⟩
theorem Q7:Go.Proofs.SlLaysM.n5 Tryz.prog Mf where
  mixed:=by kernel_rfl
  f5:=⟨"slices.Sort[[]int64,int64]",by kernel_rfl,Tryz.func189.trans (congrArg some (by kernel_rfl))⟩
  f7:=⟨"slices.pdqsortOrdered[int64]",by kernel_rfl,Tryz.func254.trans (congrArg some (by kernel_rfl))⟩
  f8:=Tryz.func157.trans (congrArg some (by kernel_rfl))
  f10:=⟨"slices.insertionSortOrdered[int64]",by kernel_rfl,Tryz.func298.trans (congrArg some (by kernel_rfl))⟩
  f11:=⟨"slices.heapSortOrdered[int64]",by kernel_rfl,Tryz.func299.trans (congrArg some (by kernel_rfl))⟩
  f12:=⟨"slices.breakPatternsOrdered[int64]",by kernel_rfl,Tryz.func300.trans (congrArg some (by kernel_rfl))⟩
  f13:=⟨"slices.choosePivotOrdered[int64]",by kernel_rfl,Tryz.func301.trans (congrArg some (by kernel_rfl))⟩
  f14:=⟨"slices.reverseRangeOrdered[int64]",by kernel_rfl,Tryz.func302.trans (congrArg some (by kernel_rfl))⟩
  f15:=⟨"slices.partialInsertionSortOrdered[int64]",by kernel_rfl,Tryz.func303.trans (congrArg some (by kernel_rfl))⟩
  f16:=⟨"cmp.Less[int64]",by kernel_rfl,Tryz.func304.trans (congrArg some (by kernel_rfl))⟩
  f17:=⟨"slices.partitionEqualOrdered[int64]",by kernel_rfl,Tryz.func305.trans (congrArg some (by kernel_rfl))⟩
  f18:=⟨"slices.partitionOrdered[int64]",by kernel_rfl,Tryz.func306.trans (congrArg some (by kernel_rfl))⟩
  f19:=Tryz.func215.trans (congrArg some (by kernel_rfl))
  f20:=Tryz.func216.trans (congrArg some (by kernel_rfl))
  f30:=⟨"slices.siftDownOrdered[int64]",by kernel_rfl,Tryz.func329.trans (congrArg some (by kernel_rfl))⟩
  f31:=Tryz.func273.trans (congrArg some (by kernel_rfl))
  f32:=Tryz.func274.trans (congrArg some (by kernel_rfl))
  f33:=⟨"slices.medianAdjacentOrdered[int64]",by kernel_rfl,Tryz.func330.trans (congrArg some (by kernel_rfl))⟩
  f34:=⟨"slices.medianOrdered[int64]",by kernel_rfl,Tryz.func331.trans (congrArg some (by kernel_rfl))⟩
  f35:=⟨"cmp.isNaN[int64]",by kernel_rfl,Tryz.func284.trans (congrArg some (by kernel_rfl))⟩
  f40:=⟨"slices.order2Ordered[int64]",by kernel_rfl,Tryz.func336.trans (congrArg some (by kernel_rfl))⟩
  t0:=Tryz.underlying0
  a0:=Tryz.isAgg0
  z0:=Tryz.sizeOf0
  v0:=Tryz.zeroValue0
  t3:=Tryz.underlying3
  a3:=Tryz.isAgg3
  z3:=Tryz.sizeOf3
  v3:=Tryz.zeroValue3
  t4:=Tryz.underlying4
  a4:=Tryz.isAgg4
  z4:=Tryz.sizeOf4
  v4:=Tryz.zeroValue4
  t5:=Tryz.underlying5
  a5:=Tryz.isAgg5
  z5:=Tryz.sizeOf5
  v5:=Tryz.zeroValue5
  t9:=Tryz.underlying9
  a9:=Tryz.isAgg9
  z9:=Tryz.sizeOf9
  v9:=Tryz.zeroValue9
  t22:=Tryz.underlying46
  a22:=Tryz.isAgg46
  z22:=Tryz.sizeOf46
  v22:=Tryz.zeroValue46
  t23:=Tryz.underlying46
  a23:=Tryz.isAgg46
  z23:=Tryz.sizeOf46
  v23:=Tryz.zeroValue46
  t25:=Tryz.underlying2
  a25:=Tryz.isAgg2
  z25:=Tryz.sizeOf2
  v25:=Tryz.zeroValue2
  t32:=Tryz.underlying208
  a32:=Tryz.isAgg208
  z32:=Tryz.sizeOf208
  v32:=Tryz.zeroValue208
  t35:=Tryz.underlying257
  a35:=Tryz.isAgg257
  z35:=Tryz.sizeOf257
  v35:=Tryz.zeroValue257
  t36:=Tryz.underlying258
  a36:=Tryz.isAgg258
  z36:=Tryz.sizeOf258
  v36:=Tryz.zeroValue258
  t41:=Tryz.underlying190
  a41:=Tryz.isAgg190
  z41:=Tryz.sizeOf190
  v41:=Tryz.zeroValue190
  t44:=Tryz.underlying264
  a44:=Tryz.isAgg264
  z44:=Tryz.sizeOf264
  v44:=Tryz.zeroValue264
  t46:=Tryz.underlying266
  a46:=Tryz.isAgg266
  z46:=Tryz.sizeOf266
  v46:=Tryz.zeroValue266
  t53:=Tryz.underlying304
  a53:=Tryz.isAgg304
  z53:=Tryz.sizeOf304
  v53:=Tryz.zeroValue304
  t57:=Tryz.underlying308
  a57:=Tryz.isAgg308
  z57:=Tryz.sizeOf308
  v57:=Tryz.zeroValue308
  t63:=Tryz.underlying334
  a63:=Tryz.isAgg334
  z63:=Tryz.sizeOf334
  v63:=Tryz.zeroValue334
  t64:=Tryz.underlying335
  a64:=Tryz.isAgg335
  z64:=Tryz.sizeOf335
  v64:=Tryz.zeroValue335
theorem Tt(m:Nat):AnyZI.SortsIn Tryz.prog Dg Fence.wide m:=
  ⟨fun blk off cap ss W hH hblk hsz=>callsIn_wide.2 (AnyM.slices_Sort_int Q7 blk off cap ss W hH hblk hsz),fun p cap W=>callsIn_wide.2 (AnyM.slices_Sort_int_none Q7 p cap W)⟩
theorem Mg{w:World}{os:List Ob}{rs:List Rp}{ip im p b:Nat}{α:Type}{d:Kd α}{g:Bool}{l:List (Int×α)}(H:Sep w os rs)(hp:os[ip]? =some (Blk p 183 [.map (some b)]))(hm:os[im]? =some (cB Tryz.prog 2 (kyI .i64) d g b l))(hn:l.length ≤ 1000000) :
    Calls Tryz.prog 133 [.func (.func 190) #[] #[pt p 0]].toArray w (Ret fun v w'=>Sep w' (Row 2 (kI .i64) v (En (l.map (·.1)))::os) rs):=by
  obtain ⟨_,_,_,D,h2,h3,h4,h5,_⟩:=H.ob im hm
  have hb:=H.blk hp
  have hperm:=Ku Tryz.underlying2 h2 h3 h4 h5
  have hlt:p < w.heap.size:=(Array.getElem?_eq_some_iff.1 hb).1
  have hseq:SeqGives Fence.wide 2 Tryz.prog 190 #[pt p 0] encZ (fun ss=>ss.Perm (intKeys D)) (Maps.size D) w:=
    AnyZI.keys_gives (ρ:=Hi) { Gu with } Fence.wide _ trivial rfl (by omega) p b _ D w hlt (by simp [World.cell?,hb]) h2
  have cS:=AnyZI.sorted_in Dr Fence.wide 5 trivial trivial trivial trivial rfl (by omega) (Tt _) (enters_of Tryz.func189 (by kernel_rfl) rfl) 190 #[pt p 0] trivial (enters_of Tryz.func190 (by kernel_rfl) rfl) _ _ (by rw [h3];show l.length ≤ maxLen;simp only [maxLen];omega) (by rw [h3];omega) _ hseq
  refine (callsIn_wide.1 cS).mono ?_
  rintro _ w' ⟨v,ss,rfl,hS,hrow,_,hbl⟩
  have e:ss.mergeSort (fun x y=>decide (x ≤ y))=En (l.map (·.1)):=mergeSort_of_perm_i (hS.trans hperm)
  have e2:ss.length=(En (l.map (·.1))).length:=by rw [← e,List.length_mergeSort]
  rw [e,e2] at hrow
  exact H.ownsRow hrow hbl
end Go.Cb
