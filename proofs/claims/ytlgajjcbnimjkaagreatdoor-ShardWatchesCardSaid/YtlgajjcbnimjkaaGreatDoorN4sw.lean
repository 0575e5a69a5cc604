/- strconv.Itoa: the library's proved contract, laid at this program. -/
import Derived.Test.YtlgajjcbnimjkaaGreatDoorTsw
import Derived.Shelf.Strconv.Itoa3
import Derived.Lib.ItoaMem
set_option linter.unusedVariables false
set_option linter.unusedSimpArgs false
namespace Go.Cb
open Go Go.Shelf Go.Proofs Go.RowKit
def Zd:Ren:=⟨fun | 171=>274 | 243=>295 | 246=>303 | 283=>306 | 284=>307 | 285=>308 | 286=>309 | 129=>180 | 317=>310 | 318=>311 | 319=>312 | 320=>313 | 337=>314 | 338=>315 | n=>n,fun | 3=>3 | 9=>9 | 2=>2 | 4=>4 | 171=>331 | 0=>0 | 53=>243 | 37=>333 | 5=>5 | 173=>334 | 212=>337 | 51=>241 | 20=>20 | 213=>338 | 46=>186 | 232=>339 | 233=>340 | n=>n,fun | 17=>1 | 18=>2 | 19=>3 | n=>n⟩
theorem Vm:LaysM.n171 Tryz.prog Zd where
  mixed:=by kernel_rfl
  f129:=Tryz.func180.trans (congrArg some (by kernel_rfl))
  f171:=Tryz.func274.trans (congrArg some (by kernel_rfl))
  f243:=Tryz.func295.trans (congrArg some (by kernel_rfl))
  f246:=Tryz.func303.trans (congrArg some (by kernel_rfl))
  f283:=Tryz.func306.trans (congrArg some (by kernel_rfl))
  f284:=Tryz.func307.trans (congrArg some (by kernel_rfl))
  f285:=Tryz.func308.trans (congrArg some (by kernel_rfl))
  f286:=Tryz.func309.trans (congrArg some (by kernel_rfl))
  f317:=Tryz.func310.trans (congrArg some (by kernel_rfl))
  f318:=Tryz.func311.trans (congrArg some (by kernel_rfl))
  f319:=Tryz.func312.trans (congrArg some (by kernel_rfl))
  f320:=Tryz.func313.trans (congrArg some (by kernel_rfl))
  f337:=Tryz.func314.trans (congrArg some (by kernel_rfl))
  f338:=Tryz.func315.trans (congrArg some (by kernel_rfl))
  t0:=Tryz.underlying0
  a0:=Tryz.isAgg0
  z0:=Tryz.sizeOf0
  v0:=Tryz.zeroValue0
  t2:=Tryz.underlying2
  a2:=Tryz.isAgg2
  z2:=Tryz.sizeOf2
  v2:=Tryz.zeroValue2
  t3:=Tryz.underlying3
  a3:=Tryz.isAgg3
  z3:=Tryz.sizeOf3
  v3:=Tryz.zeroValue3
  t4:=Tryz.underlying4
  a4:=Tryz.isAgg4
  z4:=Tryz.sizeOf4
  v4:=Tryz.zeroValue4
  t5:=Tryz.underlying5
  a5:=Tryz.isAgg5
  z5:=Tryz.sizeOf5
  v5:=Tryz.zeroValue5
  t9:=Tryz.underlying9
  a9:=Tryz.isAgg9
  z9:=Tryz.sizeOf9
  v9:=Tryz.zeroValue9
  t20:=Tryz.underlying20
  a20:=Tryz.isAgg20
  z20:=Tryz.sizeOf20
  v20:=Tryz.zeroValue20
  t37:=Tryz.underlying333
  a37:=Tryz.isAgg333
  z37:=Tryz.sizeOf333
  v37:=Tryz.zeroValue333
  t46:=Tryz.underlying186
  a46:=Tryz.isAgg186
  z46:=Tryz.sizeOf186
  v46:=Tryz.zeroValue186
  t51:=Tryz.underlying241
  a51:=Tryz.isAgg241
  z51:=Tryz.sizeOf241
  v51:=Tryz.zeroValue241
  t53:=Tryz.underlying243
  a53:=Tryz.isAgg243
  z53:=Tryz.sizeOf243
  v53:=Tryz.zeroValue243
  t171:=Tryz.underlying331
  a171:=Tryz.isAgg331
  z171:=Tryz.sizeOf331
  v171:=Tryz.zeroValue331
  t173:=Tryz.underlying334
  a173:=Tryz.isAgg334
  z173:=Tryz.sizeOf334
  v173:=Tryz.zeroValue334
  t212:=Tryz.underlying337
  a212:=Tryz.isAgg337
  z212:=Tryz.sizeOf337
  v212:=Tryz.zeroValue337
  t213:=Tryz.underlying338
  a213:=Tryz.isAgg338
  z213:=Tryz.sizeOf338
  t232:=Tryz.underlying339
  a232:=Tryz.isAgg339
  z232:=Tryz.sizeOf339
  v232:=Tryz.zeroValue339
  t233:=Tryz.underlying340
  a233:=Tryz.isAgg340
  z233:=Tryz.sizeOf340
  v233:=Tryz.zeroValue340
  g17:=by kernel_rfl
  g18:=by kernel_rfl
  g19:=by kernel_rfl
  i0:=by kernel_rfl
  i2:=by kernel_rfl
  i3:=by kernel_rfl
  i4:=by kernel_rfl
  i5:=by kernel_rfl
  i9:=by kernel_rfl
  i20:=by kernel_rfl
  i37:=by kernel_rfl
  i46:=by kernel_rfl
  i51:=by kernel_rfl
  i53:=by kernel_rfl
  i171:=by kernel_rfl
  i173:=by kernel_rfl
  i212:=by kernel_rfl
  i232:=by kernel_rfl
  i233:=by kernel_rfl
  m17:=by kernel_rfl
  m18:=by kernel_rfl
  m19:=by kernel_rfl
def J6:String:= "internal/strconv.uint64pow10"
/-- the library's table lies where it lay. -/
def x4(P:Program):Rp where
  p w ok:=(∃ g,P.globalNamed J6=some g∧ok g)∧Lib.TabIs P w J6 .u64 Lib.pow10Tab
  keep:=by
    rintro w w' ok ok' ⟨⟨g,hg,ho⟩,ht⟩ k hk
    have hlt:g < w.heap.size:=by
      unfold Lib.TabIs World.var? at ht
      rw [hg] at ht
      simp only [Option.bind_some] at ht
      rcases Nat.lt_or_ge g w.heap.size with h | h
      · exact h
      · rw [Array.getElem?_eq_none h] at ht;cases ht
    refine ⟨⟨g,hg,hk g hlt ho⟩,?_⟩
    unfold Lib.TabIs World.var? at ht ⊢
    rw [hg] at ht ⊢
    simp only [Option.bind_some] at ht ⊢
    rw [k.block g hlt ho]
    exact ht
theorem Ze(w:World)(k:Nat)(os:Array Obj):Kp (fun _=>True) w (Sort.grow (w.drewN k) os):=by
  refine ⟨rfl,rfl,rfl,?_,fun b hb _=>?_⟩
  · show w.heap.size ≤ (w.heap ++ os).size
    rw [Array.size_append];omega
  · show (w.heap ++ os)[b]? =w.heap[b]?
    rw [Array.getElem?_append_left hb]
theorem EK{w:World}{os:List Ob}{rs:List Rp}(H:Sep w os rs)(hT:x4 Tryz.prog ∈ rs)(n:Int)(hn:-9223372036854775808 ≤ n∧n ≤ 9223372036854775807) :
    Calls Tryz.prog 274 [.int .i64 n].toArray w (Ret fun v' w'=>v'= .string ⟨(Lib.itoa n).toArray⟩∧Sep w' os rs):=by
  have ht:Lib.TabIs Tryz.prog w J6 .u64 Lib.pow10Tab:=by
    obtain ⟨col,_,h2⟩:=H
    exact (h2 _ hT).2
  refine (Any.strconv_Itoa Vm n hn.1 hn.2 w ht).mono ?_
  rintro e w' ⟨rfl,k,os',rfl⟩
  exact ⟨rfl,H.kept (Ze w k os')⟩
end Go.Cb
