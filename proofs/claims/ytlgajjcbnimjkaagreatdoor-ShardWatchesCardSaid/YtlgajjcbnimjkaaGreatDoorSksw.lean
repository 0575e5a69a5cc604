/- slices.Sorted of the keys of a map, laid at this program. -/
import Derived.Test.YtlgajjcbnimjkaaGreatDoorTsw
import Derived.Test.YtlgajjcbnimjkaaGreatDoorB44sw
set_option linter.unusedVariables false
set_option maxRecDepth 20000
set_option maxHeartbeats 1000000
namespace Go.Cb
open Go Go.Shelf Go.Proofs Go.RowKit Go.Maps Go.Sort
def Nv:Shelf.Ren:=⟨fun | 7=>101 | 10=>154 | n=>n,fun | 23=>157 | 26=>2 | 3=>3 | 28=>162 | 0=>0 | 27=>161 | 33=>156 | 4=>4 | n=>n,fun n=>n⟩
theorem Mz:Go.Proofs.SlLaysZI.n7 Tryz.prog Nv where
  mixed:=by kernel_rfl
  f7:=⟨"maps.Keys[map[int64]int,int64,int]",by kernel_rfl,Tryz.func101.trans (congrArg some (by kernel_rfl))⟩
  f10:=⟨"maps.Keys[map[int64]int,int64,int]$1",by kernel_rfl,Tryz.func154.trans (congrArg some (by kernel_rfl))⟩
  t0:=Tryz.underlying0
  a0:=Tryz.isAgg0
  z0:=Tryz.sizeOf0
  v0:=Tryz.zeroValue0
  t4:=Tryz.underlying4
  a4:=Tryz.isAgg4
  z4:=Tryz.sizeOf4
  v4:=Tryz.zeroValue4
  t23:=Tryz.underlying157
  a23:=Tryz.isAgg157
  z23:=Tryz.sizeOf157
  v23:=Tryz.zeroValue157
  t26:=Tryz.underlying2
  a26:=Tryz.isAgg2
  z26:=Tryz.sizeOf2
  v26:=Tryz.zeroValue2
  t27:=Tryz.underlying161
  a27:=Tryz.isAgg161
  z27:=Tryz.sizeOf161
  v27:=Tryz.zeroValue161
  t28:=Tryz.underlying162
  a28:=Tryz.isAgg162
  z28:=Tryz.sizeOf162
  v28:=Tryz.zeroValue162
  t33:=Tryz.underlying156
  a33:=Tryz.isAgg156
  z33:=Tryz.sizeOf156
  v33:=Tryz.zeroValue156
def Ie:Shelf.Ren:=⟨fun | 6=>100 | 8=>152 | 9=>153 | 11=>214 | 13=>124 | 12=>215 | 23=>179 | 24=>180 | 14=>260 | 15=>261 | 16=>262 | 17=>263 | 18=>264 | 19=>265 | 20=>266 | 21=>267 | 22=>268 | 25=>290 | 26=>234 | 27=>235 | 28=>291 | 29=>292 | 30=>245 | 31=>301 | n=>n,fun | 26=>2 | 28=>162 | 24=>34 | 0=>0 | 3=>3 | 37=>186 | 48=>241 | 50=>243 | 4=>4 | 40=>235 | 39=>234 | 45=>164 | 5=>5 | 9=>9 | 51=>280 | 55=>284 | 57=>312 | 58=>313 | 33=>156 | n=>n,fun n=>n⟩
theorem Jd:Go.Proofs.SlLaysZI.n6 Tryz.prog Ie where
  mixed:=by kernel_rfl
  f6:=⟨"slices.Sorted[int64]",by kernel_rfl,Tryz.func100.trans (congrArg some (by kernel_rfl))⟩
  f8:=⟨"slices.Collect[int64]",by kernel_rfl,Tryz.func152.trans (congrArg some (by kernel_rfl))⟩
  f11:=⟨"slices.AppendSeq[[]int64,int64]",by kernel_rfl,Tryz.func214.trans (congrArg some (by kernel_rfl))⟩
  t0:=Tryz.underlying0
  a0:=Tryz.isAgg0
  z0:=Tryz.sizeOf0
  v0:=Tryz.zeroValue0
  t24:=Tryz.underlying34
  a24:=Tryz.isAgg34
  z24:=Tryz.sizeOf34
  v24:=Tryz.zeroValue34
  t26:=Tryz.underlying2
  a26:=Tryz.isAgg2
  z26:=Tryz.sizeOf2
  v26:=Tryz.zeroValue2
  t28:=Tryz.underlying162
  a28:=Tryz.isAgg162
  z28:=Tryz.sizeOf162
  v28:=Tryz.zeroValue162
  i26:=by kernel_rfl
def Vt:Shelf.Ren:=⟨fun | 5=>153 | 8=>124 | 7=>215 | 19=>179 | 20=>180 | 10=>260 | 11=>261 | 12=>262 | 13=>263 | 14=>264 | 15=>265 | 16=>266 | 17=>267 | 18=>268 | 30=>290 | 31=>234 | 32=>235 | 33=>291 | 34=>292 | 35=>245 | 40=>301 | n=>n,fun | 23=>34 | 25=>2 | 3=>3 | 32=>186 | 22=>34 | 0=>0 | 44=>241 | 46=>243 | 4=>4 | 36=>235 | 35=>234 | 41=>164 | 5=>5 | 9=>9 | 53=>280 | 57=>284 | 63=>312 | 64=>313 | n=>n,fun n=>n⟩
theorem Az:Go.Proofs.SlLaysM.n5 Tryz.prog Vt where
  mixed:=by kernel_rfl
  f5:=⟨"slices.Sort[[]int64,int64]",by kernel_rfl,Tryz.func153.trans (congrArg some (by kernel_rfl))⟩
  f7:=⟨"slices.pdqsortOrdered[int64]",by kernel_rfl,Tryz.func215.trans (congrArg some (by kernel_rfl))⟩
  f8:=Tryz.func124.trans (congrArg some (by kernel_rfl))
  f10:=⟨"slices.insertionSortOrdered[int64]",by kernel_rfl,Tryz.func260.trans (congrArg some (by kernel_rfl))⟩
  f11:=⟨"slices.heapSortOrdered[int64]",by kernel_rfl,Tryz.func261.trans (congrArg some (by kernel_rfl))⟩
  f12:=⟨"slices.breakPatternsOrdered[int64]",by kernel_rfl,Tryz.func262.trans (congrArg some (by kernel_rfl))⟩
  f13:=⟨"slices.choosePivotOrdered[int64]",by kernel_rfl,Tryz.func263.trans (congrArg some (by kernel_rfl))⟩
  f14:=⟨"slices.reverseRangeOrdered[int64]",by kernel_rfl,Tryz.func264.trans (congrArg some (by kernel_rfl))⟩
  f15:=⟨"slices.partialInsertionSortOrdered[int64]",by kernel_rfl,Tryz.func265.trans (congrArg some (by kernel_rfl))⟩
  f16:=⟨"cmp.Less[int64]",by kernel_rfl,Tryz.func266.trans (congrArg some (by kernel_rfl))⟩
  f17:=⟨"slices.partitionEqualOrdered[int64]",by kernel_rfl,Tryz.func267.trans (congrArg some (by kernel_rfl))⟩
  f18:=⟨"slices.partitionOrdered[int64]",by kernel_rfl,Tryz.func268.trans (congrArg some (by kernel_rfl))⟩
  f19:=Tryz.func179.trans (congrArg some (by kernel_rfl))
  f20:=Tryz.func180.trans (congrArg some (by kernel_rfl))
  f30:=⟨"slices.siftDownOrdered[int64]",by kernel_rfl,Tryz.func290.trans (congrArg some (by kernel_rfl))⟩
  f31:=Tryz.func234.trans (congrArg some (by kernel_rfl))
  f32:=Tryz.func235.trans (congrArg some (by kernel_rfl))
  f33:=⟨"slices.medianAdjacentOrdered[int64]",by kernel_rfl,Tryz.func291.trans (congrArg some (by kernel_rfl))⟩
  f34:=⟨"slices.medianOrdered[int64]",by kernel_rfl,Tryz.func292.trans (congrArg some (by kernel_rfl))⟩
  f35:=⟨"cmp.isNaN[int64]",by kernel_rfl,Tryz.func245.trans (congrArg some (by kernel_rfl))⟩
  f40:=⟨"slices.order2Ordered[int64]",by kernel_rfl,Tryz.func301.trans (congrArg some (by kernel_rfl))⟩
  t0:=Tryz.underlying0
  a0:=Tryz.isAgg0
  z0:=Tryz.sizeOf0
  v0:=Tryz.zeroValue0
  t3:=Tryz.underlying3
  a3:=Tryz.isAgg3
  z3:=Tryz.sizeOf3
  v3:=Tryz.zeroValue3
  t4:=Tryz.underlying4
  a4:=Tryz.isAgg4
  z4:=Tryz.sizeOf4
  v4:=Tryz.zeroValue4
  t5:=Tryz.underlying5
  a5:=Tryz.isAgg5
  z5:=Tryz.sizeOf5
  v5:=Tryz.zeroValue5
  t9:=Tryz.underlying9
  a9:=Tryz.isAgg9
  z9:=Tryz.sizeOf9
  v9:=Tryz.zeroValue9
  t22:=Tryz.underlying34
  a22:=Tryz.isAgg34
  z22:=Tryz.sizeOf34
  v22:=Tryz.zeroValue34
  t23:=Tryz.underlying34
  a23:=Tryz.isAgg34
  z23:=Tryz.sizeOf34
  v23:=Tryz.zeroValue34
  t25:=Tryz.underlying2
  a25:=Tryz.isAgg2
  z25:=Tryz.sizeOf2
  v25:=Tryz.zeroValue2
  t32:=Tryz.underlying186
  a32:=Tryz.isAgg186
  z32:=Tryz.sizeOf186
  v32:=Tryz.zeroValue186
  t35:=Tryz.underlying234
  a35:=Tryz.isAgg234
  z35:=Tryz.sizeOf234
  v35:=Tryz.zeroValue234
  t36:=Tryz.underlying235
  a36:=Tryz.isAgg235
  z36:=Tryz.sizeOf235
  v36:=Tryz.zeroValue235
  t41:=Tryz.underlying164
  a41:=Tryz.isAgg164
  z41:=Tryz.sizeOf164
  v41:=Tryz.zeroValue164
  t44:=Tryz.underlying241
  a44:=Tryz.isAgg241
  z44:=Tryz.sizeOf241
  v44:=Tryz.zeroValue241
  t46:=Tryz.underlying243
  a46:=Tryz.isAgg243
  z46:=Tryz.sizeOf243
  v46:=Tryz.zeroValue243
  t53:=Tryz.underlying280
  a53:=Tryz.isAgg280
  z53:=Tryz.sizeOf280
  v53:=Tryz.zeroValue280
  t57:=Tryz.underlying284
  a57:=Tryz.isAgg284
  z57:=Tryz.sizeOf284
  v57:=Tryz.zeroValue284
  t63:=Tryz.underlying312
  a63:=Tryz.isAgg312
  z63:=Tryz.sizeOf312
  v63:=Tryz.zeroValue312
  t64:=Tryz.underlying313
  a64:=Tryz.isAgg313
  z64:=Tryz.sizeOf313
  v64:=Tryz.zeroValue313
theorem EV(m:Nat):AnyZI.SortsIn Tryz.prog Ie Fence.wide m:=
  ⟨fun blk off cap ss W hH hblk hsz=>callsIn_wide.2 (AnyM.slices_Sort_int Az blk off cap ss W hH hblk hsz),fun p cap W=>callsIn_wide.2 (AnyM.slices_Sort_int_none Az p cap W)⟩
theorem Vu{w:World}{os:List Ob}{rs:List Rp}{ip im p b:Nat}{α:Type}{d:Kd α}{g:Bool}{l:List (Int×α)}(H:Sep w os rs)(hp:os[ip]? =some (Blk p 157 [.map (some b)]))(hm:os[im]? =some (cC Tryz.prog 2 (kyI .i64) d g b l))(hn:l.length ≤ 1000000) :
    Calls Tryz.prog 100 [.func (.func 154) #[] #[pt p 0]].toArray w (Ret fun v w'=>Sep w' (Row 2 (kI .i64) v (Jy (l.map (·.1)))::os) rs):=by
  obtain ⟨_,_,_,D,h2,h3,h4,h5,_⟩:=H.ob im hm
  have hb:=H.blk hp
  have hperm:=Sp Tryz.underlying2 h2 h3 h4 h5
  have hlt:p < w.heap.size:=(Array.getElem?_eq_some_iff.1 hb).1
  have hseq:SeqGives Fence.wide 2 Tryz.prog 154 #[pt p 0] encZ (fun ss=>ss.Perm (intKeys D)) (Maps.size D) w:=
    AnyZI.keys_gives (ρ:=Nv) { Mz with } Fence.wide _ trivial rfl (by omega) p b _ D w hlt (by simp [World.cell?,hb]) h2
  have cS:=AnyZI.sorted_in Jd Fence.wide 5 trivial trivial trivial trivial rfl (by omega) (EV _) (enters_of Tryz.func153 (by kernel_rfl) rfl) 154 #[pt p 0] trivial (enters_of Tryz.func154 (by kernel_rfl) rfl) _ _ (by rw [h3];show l.length ≤ maxLen;simp only [maxLen];omega) (by rw [h3];omega) _ hseq
  refine (callsIn_wide.1 cS).mono ?_
  rintro _ w' ⟨v,ss,rfl,hS,hrow,_,hbl⟩
  have e:ss.mergeSort (fun x y=>decide (x ≤ y))=Jy (l.map (·.1)):=mergeSort_of_perm_i (hS.trans hperm)
  have e2:ss.length=(Jy (l.map (·.1))).length:=by rw [← e,List.length_mergeSort]
  rw [e,e2] at hrow
  exact H.ownsRow hrow hbl
end Go.Cb
