/- strconv.Itoa: the library's proved contract, laid at this program. -/
import Derived.Test.YtppeaaolgckfcaaGreatDoorTsm
import Derived.Shelf.Strconv.Itoa3
import Derived.Lib.ItoaMem
set_option linter.unusedVariables false
set_option linter.unusedSimpArgs false
namespace Go.Cb
open Go Go.Shelf Go.Proofs Go.RowKit
def NE:Ren:=⟨λ | 171=>305 | 243=>327 | 246=>331 | 283=>334 | 284=>335 | 285=>336 | 286=>337 | 129=>207 | 317=>338 | 318=>339 | 319=>340 | 320=>341 | 337=>342 | 338=>343 | n=>n,λ | 3=>3 | 9=>9 | 2=>2 | 4=>4 | 171=>346 | 0=>0 | 53=>255 | 37=>348 | 5=>5 | 173=>349 | 212=>352 | 51=>253 | 20=>20 | 213=>353 | 46=>202 | 232=>354 | 233=>355 | n=>n,λ | 17=>1 | 18=>2 | 19=>3 | n=>n⟩
theorem JA:LaysM.n171 Tryz.prog NE where
 mixed:=by kernel_rfl
 f129:=Tryz.func207.trans (congrArg some (by kernel_rfl))
 f171:=Tryz.func305.trans (congrArg some (by kernel_rfl))
 f243:=Tryz.func327.trans (congrArg some (by kernel_rfl))
 f246:=Tryz.func331.trans (congrArg some (by kernel_rfl))
 f283:=Tryz.func334.trans (congrArg some (by kernel_rfl))
 f284:=Tryz.func335.trans (congrArg some (by kernel_rfl))
 f285:=Tryz.func336.trans (congrArg some (by kernel_rfl))
 f286:=Tryz.func337.trans (congrArg some (by kernel_rfl))
 f317:=Tryz.func338.trans (congrArg some (by kernel_rfl))
 f318:=Tryz.func339.trans (congrArg some (by kernel_rfl))
 f319:=Tryz.func340.trans (congrArg some (by kernel_rfl))
 f320:=Tryz.func341.trans (congrArg some (by kernel_rfl))
 f337:=Tryz.func342.trans (congrArg some (by kernel_rfl))
 f338:=Tryz.func343.trans (congrArg some (by kernel_rfl))
 t0:=Tryz.underlying0
 a0:=Tryz.isAgg0
 z0:=Tryz.sizeOf0
 v0:=Tryz.zeroValue0
 t2:=Tryz.underlying2
 a2:=Tryz.isAgg2
 z2:=Tryz.sizeOf2
 v2:=Tryz.zeroValue2
 t3:=Tryz.underlying3
 a3:=Tryz.isAgg3
 z3:=Tryz.sizeOf3
 v3:=Tryz.zeroValue3
 t4:=Tryz.underlying4
 a4:=Tryz.isAgg4
 z4:=Tryz.sizeOf4
 v4:=Tryz.zeroValue4
 t5:=Tryz.underlying5
 a5:=Tryz.isAgg5
 z5:=Tryz.sizeOf5
 v5:=Tryz.zeroValue5
 t9:=Tryz.underlying9
 a9:=Tryz.isAgg9
 z9:=Tryz.sizeOf9
 v9:=Tryz.zeroValue9
 t20:=Tryz.underlying20
 a20:=Tryz.isAgg20
 z20:=Tryz.sizeOf20
 v20:=Tryz.zeroValue20
 t37:=Tryz.underlying348
 a37:=Tryz.isAgg348
 z37:=Tryz.sizeOf348
 v37:=Tryz.zeroValue348
 t46:=Tryz.underlying202
 a46:=Tryz.isAgg202
 z46:=Tryz.sizeOf202
 v46:=Tryz.zeroValue202
 t51:=Tryz.underlying253
 a51:=Tryz.isAgg253
 z51:=Tryz.sizeOf253
 v51:=Tryz.zeroValue253
 t53:=Tryz.underlying255
 a53:=Tryz.isAgg255
 z53:=Tryz.sizeOf255
 v53:=Tryz.zeroValue255
 t171:=Tryz.underlying346
 a171:=Tryz.isAgg346
 z171:=Tryz.sizeOf346
 v171:=Tryz.zeroValue346
 t173:=Tryz.underlying349
 a173:=Tryz.isAgg349
 z173:=Tryz.sizeOf349
 v173:=Tryz.zeroValue349
 t212:=Tryz.underlying352
 a212:=Tryz.isAgg352
 z212:=Tryz.sizeOf352
 v212:=Tryz.zeroValue352
 t213:=Tryz.underlying353
 a213:=Tryz.isAgg353
 z213:=Tryz.sizeOf353
 t232:=Tryz.underlying354
 a232:=Tryz.isAgg354
 z232:=Tryz.sizeOf354
 v232:=Tryz.zeroValue354
 t233:=Tryz.underlying355
 a233:=Tryz.isAgg355
 z233:=Tryz.sizeOf355
 v233:=Tryz.zeroValue355
 g17:=by kernel_rfl
 g18:=by kernel_rfl
 g19:=by kernel_rfl
 i0:=by kernel_rfl
 i2:=by kernel_rfl
 i3:=by kernel_rfl
 i4:=by kernel_rfl
 i5:=by kernel_rfl
 i9:=by kernel_rfl
 i20:=by kernel_rfl
 i37:=by kernel_rfl
 i46:=by kernel_rfl
 i51:=by kernel_rfl
 i53:=by kernel_rfl
 i171:=by kernel_rfl
 i173:=by kernel_rfl
 i212:=by kernel_rfl
 i232:=by kernel_rfl
 i233:=by kernel_rfl
 m17:=by kernel_rfl
 m18:=by kernel_rfl
 m19:=by kernel_rfl
def Dx:String:= "internal/strconv.uint64pow10"
/-- the library's table lies where it lay. -/
def Z2(P:Program):Rp where
 p w ok:=(∃ g,P.globalNamed Dx=some g/\ok g)/\Lib.TabIs P w Dx .u64 Lib.pow10Tab
 keep:=by
  rintro w w' ok ok' ⟨⟨g,hg,ho⟩,ht⟩ k hk;have hlt:g < w.heap.size:=by
   unfold Lib.TabIs World.var? at ht;rw [hg] at ht;simp only [bS] at ht;rcases Nat.lt_or_ge g w.heap.size with h | h
   ·exact h
   rw [Array.getElem?_eq_none h] at ht;cases ht
  refine ⟨⟨g,hg,hk g hlt ho⟩,?_⟩;unfold Lib.TabIs World.var? at ht ⊢;rw [hg] at ht ⊢;simp only [bS] at ht ⊢;rw [k.block g hlt ho];exact ht
theorem NF(w:WD)(k:Nat)(os:Array Obj):Kp (λ_=>True) w (Sort.grow (w.drewN k) os):=by
 refine ⟨rfl,rfl,rfl,?_,λb hb _=>?_⟩
 ·show w.heap.size <= (w.heap ++ os).size;rw [Array.size_append];omega
 show (w.heap ++ os)[b]? =w.heap[b]?;rw [Array.getElem?_append_left hb]
theorem SP{w:WD}{os:List Ob}{rs:List Rp}(H:Sep w os rs)(hT:Z2 Tryz.prog ∈ rs)(n:Int)(hn:-9223372036854775808 <= n/\n <= 9223372036854775807) :
  Calls Tryz.prog 305 [.int .i64 n].toArray w (Ret λv' w'=>v'= .string ⟨(Lib.itoa n).toArray⟩/\Sep w' os rs):=by
 have ht:Lib.TabIs Tryz.prog w Dx .u64 Lib.pow10Tab:=by
  obtain ⟨col,_,h2⟩:=H;exact (h2 _ hT).2
 refine (Any.strconv_Itoa JA n hn.1 hn.2 w ht).mono ?_;rintro e w' ⟨rfl,k,os',rfl⟩;exact ⟨rfl,H.kept (NF w k os')⟩
end Go.Cb
