/- strconv.Itoa: the library's proved contract, laid at this program. -/
import Derived.Test.YteakhlfapjaodaaGreatDoorTsh
import Derived.Shelf.Strconv.Itoa3
import Derived.Lib.ItoaMem
set_option linter.unusedVariables false
set_option linter.unusedSimpArgs false
namespace Go.Cb
open Go Go.Shelf Go.Proofs Go.RowKit
def LT:Ren:=⟨λ | 171=>278 | 243=>324 | 246=>353 | 283=>364 | 284=>365 | 285=>366 | 286=>367 | 129=>254 | 317=>369 | 318=>370 | 319=>371 | 320=>372 | 337=>373 | 338=>374 | n=>n,λ | 3=>3 | 9=>9 | 2=>2 | 4=>4 | 171=>364 | 0=>0 | 53=>286 | 37=>317 | 5=>5 | 173=>366 | 212=>370 | 51=>284 | 20=>20 | 213=>371 | 46=>234 | 232=>372 | 233=>373 | n=>n,λ | 17=>1 | 18=>2 | 19=>3 | n=>n⟩
theorem HT:LaysM.n171 Tryz.prog LT where
 mixed:=by kernel_rfl
 f129:=Tryz.func254.trans (congrArg some (by kernel_rfl))
 f171:=Tryz.func278.trans (congrArg some (by kernel_rfl))
 f243:=Tryz.func324.trans (congrArg some (by kernel_rfl))
 f246:=Tryz.func353.trans (congrArg some (by kernel_rfl))
 f283:=Tryz.func364.trans (congrArg some (by kernel_rfl))
 f284:=Tryz.func365.trans (congrArg some (by kernel_rfl))
 f285:=Tryz.func366.trans (congrArg some (by kernel_rfl))
 f286:=Tryz.func367.trans (congrArg some (by kernel_rfl))
 f317:=Tryz.func369.trans (congrArg some (by kernel_rfl))
 f318:=Tryz.func370.trans (congrArg some (by kernel_rfl))
 f319:=Tryz.func371.trans (congrArg some (by kernel_rfl))
 f320:=Tryz.func372.trans (congrArg some (by kernel_rfl))
 f337:=Tryz.func373.trans (congrArg some (by kernel_rfl))
 f338:=Tryz.func374.trans (congrArg some (by kernel_rfl))
 t0:=Tryz.underlying0
 a0:=Tryz.isAgg0
 z0:=Tryz.sizeOf0
 v0:=Tryz.zeroValue0
 t2:=Tryz.underlying2
 a2:=Tryz.isAgg2
 z2:=Tryz.sizeOf2
 v2:=Tryz.zeroValue2
 t3:=Tryz.underlying3
 a3:=Tryz.isAgg3
 z3:=Tryz.sizeOf3
 v3:=Tryz.zeroValue3
 t4:=Tryz.underlying4
 a4:=Tryz.isAgg4
 z4:=Tryz.sizeOf4
 v4:=Tryz.zeroValue4
 t5:=Tryz.underlying5
 a5:=Tryz.isAgg5
 z5:=Tryz.sizeOf5
 v5:=Tryz.zeroValue5
 t9:=Tryz.underlying9
 a9:=Tryz.isAgg9
 z9:=Tryz.sizeOf9
 v9:=Tryz.zeroValue9
 t20:=Tryz.underlying20
 a20:=Tryz.isAgg20
 z20:=Tryz.sizeOf20
 v20:=Tryz.zeroValue20
 t37:=Tryz.underlying317
 a37:=Tryz.isAgg317
 z37:=Tryz.sizeOf317
 v37:=Tryz.zeroValue317
 t46:=Tryz.underlying234
 a46:=Tryz.isAgg234
 z46:=Tryz.sizeOf234
 v46:=Tryz.zeroValue234
 t51:=Tryz.underlying284
 a51:=Tryz.isAgg284
 z51:=Tryz.sizeOf284
 v51:=Tryz.zeroValue284
 t53:=Tryz.underlying286
 a53:=Tryz.isAgg286
 z53:=Tryz.sizeOf286
 v53:=Tryz.zeroValue286
 t171:=Tryz.underlying364
 a171:=Tryz.isAgg364
 z171:=Tryz.sizeOf364
 v171:=Tryz.zeroValue364
 t173:=Tryz.underlying366
 a173:=Tryz.isAgg366
 z173:=Tryz.sizeOf366
 v173:=Tryz.zeroValue366
 t212:=Tryz.underlying370
 a212:=Tryz.isAgg370
 z212:=Tryz.sizeOf370
 v212:=Tryz.zeroValue370
 t213:=Tryz.underlying371
 a213:=Tryz.isAgg371
 z213:=Tryz.sizeOf371
 t232:=Tryz.underlying372
 a232:=Tryz.isAgg372
 z232:=Tryz.sizeOf372
 v232:=Tryz.zeroValue372
 t233:=Tryz.underlying373
 a233:=Tryz.isAgg373
 z233:=Tryz.sizeOf373
 v233:=Tryz.zeroValue373
 g17:=by kernel_rfl
 g18:=by kernel_rfl
 g19:=by kernel_rfl
 i0:=by kernel_rfl
 i2:=by kernel_rfl
 i3:=by kernel_rfl
 i4:=by kernel_rfl
 i5:=by kernel_rfl
 i9:=by kernel_rfl
 i20:=by kernel_rfl
 i37:=by kernel_rfl
 i46:=by kernel_rfl
 i51:=by kernel_rfl
 i53:=by kernel_rfl
 i171:=by kernel_rfl
 i173:=by kernel_rfl
 i212:=by kernel_rfl
 i232:=by kernel_rfl
 i233:=by kernel_rfl
 m17:=by kernel_rfl
 m18:=by kernel_rfl
 m19:=by kernel_rfl
def Cy:String:= "internal/strconv.uint64pow10"
/-- the library's table lies where it lay. -/
def U5(P:Program):Rp where
 p w ok:=(∃ g,P.globalNamed Cy=some g/\ok g)/\Lib.TabIs P w Cy .u64 Lib.pow10Tab
 keep:=by
  rintro w w' ok ok' ⟨⟨g,hg,ho⟩,ht⟩ k hk;have hlt:g < w.heap.size:=by
   unfold Lib.TabIs World.var? at ht;rw [hg] at ht;simp only [bS] at ht;rcases Nat.lt_or_ge g w.heap.size with h | h
   ·exact h
   rw [Array.getElem?_eq_none h] at ht;cases ht
  refine ⟨⟨g,hg,hk g hlt ho⟩,?_⟩;unfold Lib.TabIs World.var? at ht ⊢;rw [hg] at ht ⊢;simp only [bS] at ht ⊢;rw [k.block g hlt ho];exact ht
theorem LU(w:WD)(k:Nat)(os:Array Obj):Kp (λ_=>True) w (Sort.grow (w.drewN k) os):=by
 refine ⟨rfl,rfl,rfl,?_,λb hb _=>?_⟩
 ·show w.heap.size <= (w.heap ++ os).size;rw [Array.size_append];omega
 show (w.heap ++ os)[b]? =w.heap[b]?;rw [Array.getElem?_append_left hb]
theorem QY{w:WD}{os:List Ob}{rs:List Rp}(H:Sep w os rs)(hT:U5 Tryz.prog ∈ rs)(n:Int)(hn:-9223372036854775808 <= n/\n <= 9223372036854775807) :
  Calls Tryz.prog 278 [.int .i64 n].toArray w (Ret λv' w'=>v'= .string ⟨(Lib.itoa n).toArray⟩/\Sep w' os rs):=by
 have ht:Lib.TabIs Tryz.prog w Cy .u64 Lib.pow10Tab:=by
  obtain ⟨col,_,h2⟩:=H;exact (h2 _ hT).2
 refine (Any.strconv_Itoa HT n hn.1 hn.2 w ht).mono ?_;rintro e w' ⟨rfl,k,os',rfl⟩;exact ⟨rfl,H.kept (LU w k os')⟩
end Go.Cb
