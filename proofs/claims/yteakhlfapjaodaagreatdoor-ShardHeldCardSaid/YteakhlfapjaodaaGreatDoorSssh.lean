/- slices.Sort and slices.Compact of strings, laid at this program. -/
import Derived.Test.YteakhlfapjaodaaGreatDoorTsh
import Derived.Test.YteakhlfapjaodaaGreatDoorAsh2
set_option linter.unusedVariables false
set_option maxRecDepth 20000
namespace Go.Cb
open Go Go.Shelf Go.Proofs Go.RowKit
def MD:Shelf.Ren:=⟨λ | 190=>151 | 125=>189 | 258=>232 | 128=>253 | 129=>254 | 302=>293 | 303=>294 | 304=>295 | 305=>296 | 306=>297 | 307=>298 | 308=>299 | 309=>300 | 310=>301 | 333=>329 | 329=>309 | 330=>310 | 334=>330 | 335=>331 | 336=>332 | 344=>359 | n=>n,λ | 31=>33 | 9=>9 | 3=>3 | 46=>234 | 0=>0 | 51=>284 | 53=>286 | 4=>4 | 183=>278 | 182=>277 | 131=>216 | 5=>5 | 218=>326 | 222=>330 | 228=>350 | 229=>351 | n=>n,λn=>n⟩
theorem Zw:Go.Proofs.Lays.n190 Tryz.prog MD where
 mixed:=by kernel_rfl
 f125:=Tryz.func189.trans (congrArg some (by kernel_rfl))
 f128:=Tryz.func253.trans (congrArg some (by kernel_rfl))
 f129:=Tryz.func254.trans (congrArg some (by kernel_rfl))
 f190:=Tryz.func151.trans (congrArg some (by kernel_rfl))
 f258:=Tryz.func232.trans (congrArg some (by kernel_rfl))
 f302:=Tryz.func293.trans (congrArg some (by kernel_rfl))
 f303:=Tryz.func294.trans (congrArg some (by kernel_rfl))
 f304:=Tryz.func295.trans (congrArg some (by kernel_rfl))
 f305:=Tryz.func296.trans (congrArg some (by kernel_rfl))
 f306:=Tryz.func297.trans (congrArg some (by kernel_rfl))
 f307:=Tryz.func298.trans (congrArg some (by kernel_rfl))
 f308:=Tryz.func299.trans (congrArg some (by kernel_rfl))
 f309:=Tryz.func300.trans (congrArg some (by kernel_rfl))
 f310:=Tryz.func301.trans (congrArg some (by kernel_rfl))
 f329:=Tryz.func309.trans (congrArg some (by kernel_rfl))
 f330:=Tryz.func310.trans (congrArg some (by kernel_rfl))
 f333:=Tryz.func329.trans (congrArg some (by kernel_rfl))
 f334:=Tryz.func330.trans (congrArg some (by kernel_rfl))
 f335:=Tryz.func331.trans (congrArg some (by kernel_rfl))
 f336:=Tryz.func332.trans (congrArg some (by kernel_rfl))
 f344:=Tryz.func359.trans (congrArg some (by kernel_rfl))
 t0:=Tryz.underlying0
 a0:=Tryz.isAgg0
 z0:=Tryz.sizeOf0
 v0:=Tryz.zeroValue0
 t3:=Tryz.underlying3
 a3:=Tryz.isAgg3
 z3:=Tryz.sizeOf3
 v3:=Tryz.zeroValue3
 t4:=Tryz.underlying4
 a4:=Tryz.isAgg4
 z4:=Tryz.sizeOf4
 v4:=Tryz.zeroValue4
 t5:=Tryz.underlying5
 a5:=Tryz.isAgg5
 z5:=Tryz.sizeOf5
 v5:=Tryz.zeroValue5
 t9:=Tryz.underlying9
 a9:=Tryz.isAgg9
 z9:=Tryz.sizeOf9
 v9:=Tryz.zeroValue9
 t31:=Tryz.underlying33
 a31:=Tryz.isAgg33
 z31:=Tryz.sizeOf33
 v31:=Tryz.zeroValue33
 t46:=Tryz.underlying234
 a46:=Tryz.isAgg234
 z46:=Tryz.sizeOf234
 v46:=Tryz.zeroValue234
 t51:=Tryz.underlying284
 a51:=Tryz.isAgg284
 z51:=Tryz.sizeOf284
 v51:=Tryz.zeroValue284
 t53:=Tryz.underlying286
 a53:=Tryz.isAgg286
 z53:=Tryz.sizeOf286
 v53:=Tryz.zeroValue286
 t131:=Tryz.underlying216
 a131:=Tryz.isAgg216
 z131:=Tryz.sizeOf216
 v131:=Tryz.zeroValue216
 t182:=Tryz.underlying277
 a182:=Tryz.isAgg277
 z182:=Tryz.sizeOf277
 v182:=Tryz.zeroValue277
 t183:=Tryz.underlying278
 a183:=Tryz.isAgg278
 z183:=Tryz.sizeOf278
 v183:=Tryz.zeroValue278
 t218:=Tryz.underlying326
 a218:=Tryz.isAgg326
 z218:=Tryz.sizeOf326
 v218:=Tryz.zeroValue326
 t222:=Tryz.underlying330
 a222:=Tryz.isAgg330
 z222:=Tryz.sizeOf330
 v222:=Tryz.zeroValue330
 t228:=Tryz.underlying350
 a228:=Tryz.isAgg350
 z228:=Tryz.sizeOf350
 v228:=Tryz.zeroValue350
 t229:=Tryz.underlying351
 a229:=Tryz.isAgg351
 z229:=Tryz.sizeOf351
 v229:=Tryz.zeroValue351
def ME:Shelf.Ren:=⟨λ | 194=>152 | n=>n,λ | 31=>33 | 9=>9 | 3=>3 | 4=>4 | 0=>0 | n=>n,λn=>n⟩
theorem Zx:Go.Proofs.Lays.n194 Tryz.prog ME where
 mixed:=by kernel_rfl
 f194:=Tryz.func152.trans (congrArg some (by kernel_rfl))
 t0:=Tryz.underlying0
 a0:=Tryz.isAgg0
 z0:=Tryz.sizeOf0
 v0:=Tryz.zeroValue0
 t3:=Tryz.underlying3
 a3:=Tryz.isAgg3
 z3:=Tryz.sizeOf3
 v3:=Tryz.zeroValue3
 t4:=Tryz.underlying4
 a4:=Tryz.isAgg4
 z4:=Tryz.sizeOf4
 v4:=Tryz.zeroValue4
 t9:=Tryz.underlying9
 a9:=Tryz.isAgg9
 z9:=Tryz.sizeOf9
 v9:=Tryz.zeroValue9
 t31:=Tryz.underlying33
 a31:=Tryz.isAgg33
 z31:=Tryz.sizeOf33
 v31:=Tryz.zeroValue33
theorem MF{w:WD}{os:List Ob}{rs:List Rp}{ix:Nat}{v:VL}{xs:List BY}{e:TI}(H:Sep w os rs)(hi:os[ix]? =some (Row e kS v xs))(hn:xs.length <= 1000000):Calls Tryz.prog 151 [v].toArray w (Ret λv' w'=>v'= .tuple #[]/\Sep w' (os.set ix (Row e kS v (wY xs))) rs):=KT Zw H hi hn
theorem MG{w:WD}{os:List Ob}{rs:List Rp}{ix:Nat}{v:VL}{xs:List BY}{e:TI}(H:Sep w os rs)(hi:os[ix]? =some (Row e kS v xs))(hn:xs.length <= 1000000):Calls Tryz.prog 152 [v].toArray w (Ret λv' w'=>Sep w' (os.set ix (Row e kS v' (tB xs))) rs):=KU Zx H hi hn
end Go.Cb
