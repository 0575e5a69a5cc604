/- strconv.Itoa: the library's proved contract, laid at this program. -/
import Derived.Test.YtpbgbliikifjjaaGreatDoorTse
import Derived.Shelf.Strconv.Itoa3
import Derived.Lib.ItoaMem
set_option linter.unusedVariables false
set_option linter.unusedSimpArgs false
namespace Go.Cb
open Go Go.Shelf Go.Proofs Go.RowKit
def Ot:Ren:=⟨fun | 171=>312 | 243=>334 | 246=>338 | 283=>341 | 284=>342 | 285=>343 | 286=>344 | 129=>216 | 317=>345 | 318=>346 | 319=>347 | 320=>348 | 337=>349 | 338=>350 | n=>n,fun | 3=>3 | 9=>9 | 2=>2 | 4=>4 | 171=>351 | 0=>0 | 53=>266 | 37=>55 | 5=>5 | 173=>353 | 212=>356 | 51=>264 | 20=>20 | 213=>357 | 46=>208 | 232=>358 | 233=>359 | n=>n,fun | 17=>1 | 18=>2 | 19=>3 | n=>n⟩
theorem Ly:LaysM.n171 Tryz.prog Ot where
  mixed:=by kernel_rfl
  f129:=Tryz.func216.trans (congrArg some (by kernel_rfl))
  f171:=Tryz.func312.trans (congrArg some (by kernel_rfl))
  f243:=Tryz.func334.trans (congrArg some (by kernel_rfl))
  f246:=Tryz.func338.trans (congrArg some (by kernel_rfl))
  f283:=Tryz.func341.trans (congrArg some (by kernel_rfl))
  f284:=Tryz.func342.trans (congrArg some (by kernel_rfl))
  f285:=Tryz.func343.trans (congrArg some (by kernel_rfl))
  f286:=Tryz.func344.trans (congrArg some (by kernel_rfl))
  f317:=Tryz.func345.trans (congrArg some (by kernel_rfl))
  f318:=Tryz.func346.trans (congrArg some (by kernel_rfl))
  f319:=Tryz.func347.trans (congrArg some (by kernel_rfl))
  f320:=Tryz.func348.trans (congrArg some (by kernel_rfl))
  f337:=Tryz.func349.trans (congrArg some (by kernel_rfl))
  f338:=Tryz.func350.trans (congrArg some (by kernel_rfl))
  t0:=Tryz.underlying0
  a0:=Tryz.isAgg0
  z0:=Tryz.sizeOf0
  v0:=Tryz.zeroValue0
  t2:=Tryz.underlying2
  a2:=Tryz.isAgg2
  z2:=Tryz.sizeOf2
  v2:=Tryz.zeroValue2
  t3:=Tryz.underlying3
  a3:=Tryz.isAgg3
  z3:=Tryz.sizeOf3
  v3:=Tryz.zeroValue3
  t4:=Tryz.underlying4
  a4:=Tryz.isAgg4
  z4:=Tryz.sizeOf4
  v4:=Tryz.zeroValue4
  t5:=Tryz.underlying5
  a5:=Tryz.isAgg5
  z5:=Tryz.sizeOf5
  v5:=Tryz.zeroValue5
  t9:=Tryz.underlying9
  a9:=Tryz.isAgg9
  z9:=Tryz.sizeOf9
  v9:=Tryz.zeroValue9
  t20:=Tryz.underlying20
  a20:=Tryz.isAgg20
  z20:=Tryz.sizeOf20
  v20:=Tryz.zeroValue20
  t37:=Tryz.underlying55
  a37:=Tryz.isAgg55
  z37:=Tryz.sizeOf55
  v37:=Tryz.zeroValue55
  t46:=Tryz.underlying208
  a46:=Tryz.isAgg208
  z46:=Tryz.sizeOf208
  v46:=Tryz.zeroValue208
  t51:=Tryz.underlying264
  a51:=Tryz.isAgg264
  z51:=Tryz.sizeOf264
  v51:=Tryz.zeroValue264
  t53:=Tryz.underlying266
  a53:=Tryz.isAgg266
  z53:=Tryz.sizeOf266
  v53:=Tryz.zeroValue266
  t171:=Tryz.underlying351
  a171:=Tryz.isAgg351
  z171:=Tryz.sizeOf351
  v171:=Tryz.zeroValue351
  t173:=Tryz.underlying353
  a173:=Tryz.isAgg353
  z173:=Tryz.sizeOf353
  v173:=Tryz.zeroValue353
  t212:=Tryz.underlying356
  a212:=Tryz.isAgg356
  z212:=Tryz.sizeOf356
  v212:=Tryz.zeroValue356
  t213:=Tryz.underlying357
  a213:=Tryz.isAgg357
  z213:=Tryz.sizeOf357
  t232:=Tryz.underlying358
  a232:=Tryz.isAgg358
  z232:=Tryz.sizeOf358
  v232:=Tryz.zeroValue358
  t233:=Tryz.underlying359
  a233:=Tryz.isAgg359
  z233:=Tryz.sizeOf359
  v233:=Tryz.zeroValue359
  g17:=by kernel_rfl
  g18:=by kernel_rfl
  g19:=by kernel_rfl
  i0:=by kernel_rfl
  i2:=by kernel_rfl
  i3:=by kernel_rfl
  i4:=by kernel_rfl
  i5:=by kernel_rfl
  i9:=by kernel_rfl
  i20:=by kernel_rfl
  i37:=by kernel_rfl
  i46:=by kernel_rfl
  i51:=by kernel_rfl
  i53:=by kernel_rfl
  i171:=by kernel_rfl
  i173:=by kernel_rfl
  i212:=by kernel_rfl
  i232:=by kernel_rfl
  i233:=by kernel_rfl
  m17:=by kernel_rfl
  m18:=by kernel_rfl
  m19:=by kernel_rfl
def y8:String:= "internal/strconv.uint64pow10"
/-- the library's table lies where it lay. -/
def xU(P:Program):Rp where
  p w ok:=(∃ g,P.globalNamed y8=some g∧ok g)∧Lib.TabIs P w y8 .u64 Lib.pow10Tab
  keep:=by
    rintro w w' ok ok' ⟨⟨g,hg,ho⟩,ht⟩ k hk
    have hlt:g < w.heap.size:=by
      unfold Lib.TabIs World.var? at ht
      rw [hg] at ht
      simp only [Option.bind_some] at ht
      rcases Nat.lt_or_ge g w.heap.size with h | h
      · exact h
      · rw [Array.getElem?_eq_none h] at ht;cases ht
    refine ⟨⟨g,hg,hk g hlt ho⟩,?_⟩
    unfold Lib.TabIs World.var? at ht ⊢
    rw [hg] at ht ⊢
    simp only [Option.bind_some] at ht ⊢
    rw [k.block g hlt ho]
    exact ht
theorem Ou(w:World)(k:Nat)(os:Array Obj):Kp (fun _=>True) w (Sort.grow (w.drewN k) os):=by
  refine ⟨rfl,rfl,rfl,?_,fun b hb _=>?_⟩
  · show w.heap.size ≤ (w.heap ++ os).size
    rw [Array.size_append];omega
  · show (w.heap ++ os)[b]? =w.heap[b]?
    rw [Array.getElem?_append_left hb]
theorem Th{w:World}{os:List Ob}{rs:List Rp}(H:Sep w os rs)(hT:xU Tryz.prog ∈ rs)(n:Int)(hn:-9223372036854775808 ≤ n∧n ≤ 9223372036854775807) :
    Calls Tryz.prog 312 [.int .i64 n].toArray w (Ret fun v' w'=>v'= .string ⟨(Lib.itoa n).toArray⟩∧Sep w' os rs):=by
  have ht:Lib.TabIs Tryz.prog w y8 .u64 Lib.pow10Tab:=by
    obtain ⟨col,_,h2⟩:=H
    exact (h2 _ hT).2
  refine (Any.strconv_Itoa Ly n hn.1 hn.2 w ht).mono ?_
  rintro e w' ⟨rfl,k,os',rfl⟩
  exact ⟨rfl,H.kept (Ou w k os')⟩
end Go.Cb
