/- slices.Sort and slices.Compact of strings, laid at this program. -/
import Derived.Test.YtppeaaolgckfcaaGreatDoorTsm
import Derived.Test.YtppeaaolgckfcaaGreatDoorAsm2
set_option linter.unusedVariables false
set_option maxRecDepth 20000
namespace Go.Cb
open Go Go.Shelf Go.Proofs Go.RowKit
def NO:Shelf.Ren:=⟨λ | 190=>105 | 125=>144 | 258=>174 | 128=>206 | 129=>207 | 302=>238 | 303=>239 | 304=>240 | 305=>241 | 306=>242 | 307=>243 | 308=>244 | 309=>245 | 310=>246 | 333=>284 | 329=>268 | 330=>269 | 334=>285 | 335=>286 | 336=>287 | 344=>321 | n=>n,λ | 31=>43 | 9=>9 | 3=>3 | 46=>202 | 0=>0 | 51=>253 | 53=>255 | 4=>4 | 183=>247 | 182=>246 | 131=>181 | 5=>5 | 218=>299 | 222=>303 | 228=>329 | 229=>330 | n=>n,λn=>n⟩
theorem AX:Go.Proofs.Lays.n190 Tryz.prog NO where
 mixed:=by kernel_rfl
 f125:=Tryz.func144.trans (congrArg some (by kernel_rfl))
 f128:=Tryz.func206.trans (congrArg some (by kernel_rfl))
 f129:=Tryz.func207.trans (congrArg some (by kernel_rfl))
 f190:=Tryz.func105.trans (congrArg some (by kernel_rfl))
 f258:=Tryz.func174.trans (congrArg some (by kernel_rfl))
 f302:=Tryz.func238.trans (congrArg some (by kernel_rfl))
 f303:=Tryz.func239.trans (congrArg some (by kernel_rfl))
 f304:=Tryz.func240.trans (congrArg some (by kernel_rfl))
 f305:=Tryz.func241.trans (congrArg some (by kernel_rfl))
 f306:=Tryz.func242.trans (congrArg some (by kernel_rfl))
 f307:=Tryz.func243.trans (congrArg some (by kernel_rfl))
 f308:=Tryz.func244.trans (congrArg some (by kernel_rfl))
 f309:=Tryz.func245.trans (congrArg some (by kernel_rfl))
 f310:=Tryz.func246.trans (congrArg some (by kernel_rfl))
 f329:=Tryz.func268.trans (congrArg some (by kernel_rfl))
 f330:=Tryz.func269.trans (congrArg some (by kernel_rfl))
 f333:=Tryz.func284.trans (congrArg some (by kernel_rfl))
 f334:=Tryz.func285.trans (congrArg some (by kernel_rfl))
 f335:=Tryz.func286.trans (congrArg some (by kernel_rfl))
 f336:=Tryz.func287.trans (congrArg some (by kernel_rfl))
 f344:=Tryz.func321.trans (congrArg some (by kernel_rfl))
 t0:=Tryz.underlying0
 a0:=Tryz.isAgg0
 z0:=Tryz.sizeOf0
 v0:=Tryz.zeroValue0
 t3:=Tryz.underlying3
 a3:=Tryz.isAgg3
 z3:=Tryz.sizeOf3
 v3:=Tryz.zeroValue3
 t4:=Tryz.underlying4
 a4:=Tryz.isAgg4
 z4:=Tryz.sizeOf4
 v4:=Tryz.zeroValue4
 t5:=Tryz.underlying5
 a5:=Tryz.isAgg5
 z5:=Tryz.sizeOf5
 v5:=Tryz.zeroValue5
 t9:=Tryz.underlying9
 a9:=Tryz.isAgg9
 z9:=Tryz.sizeOf9
 v9:=Tryz.zeroValue9
 t31:=Tryz.underlying43
 a31:=Tryz.isAgg43
 z31:=Tryz.sizeOf43
 v31:=Tryz.zeroValue43
 t46:=Tryz.underlying202
 a46:=Tryz.isAgg202
 z46:=Tryz.sizeOf202
 v46:=Tryz.zeroValue202
 t51:=Tryz.underlying253
 a51:=Tryz.isAgg253
 z51:=Tryz.sizeOf253
 v51:=Tryz.zeroValue253
 t53:=Tryz.underlying255
 a53:=Tryz.isAgg255
 z53:=Tryz.sizeOf255
 v53:=Tryz.zeroValue255
 t131:=Tryz.underlying181
 a131:=Tryz.isAgg181
 z131:=Tryz.sizeOf181
 v131:=Tryz.zeroValue181
 t182:=Tryz.underlying246
 a182:=Tryz.isAgg246
 z182:=Tryz.sizeOf246
 v182:=Tryz.zeroValue246
 t183:=Tryz.underlying247
 a183:=Tryz.isAgg247
 z183:=Tryz.sizeOf247
 v183:=Tryz.zeroValue247
 t218:=Tryz.underlying299
 a218:=Tryz.isAgg299
 z218:=Tryz.sizeOf299
 v218:=Tryz.zeroValue299
 t222:=Tryz.underlying303
 a222:=Tryz.isAgg303
 z222:=Tryz.sizeOf303
 v222:=Tryz.zeroValue303
 t228:=Tryz.underlying329
 a228:=Tryz.isAgg329
 z228:=Tryz.sizeOf329
 v228:=Tryz.zeroValue329
 t229:=Tryz.underlying330
 a229:=Tryz.isAgg330
 z229:=Tryz.sizeOf330
 v229:=Tryz.zeroValue330
def NP:Shelf.Ren:=⟨λ | 194=>106 | n=>n,λ | 31=>43 | 9=>9 | 3=>3 | 4=>4 | 0=>0 | n=>n,λn=>n⟩
theorem AY:Go.Proofs.Lays.n194 Tryz.prog NP where
 mixed:=by kernel_rfl
 f194:=Tryz.func106.trans (congrArg some (by kernel_rfl))
 t0:=Tryz.underlying0
 a0:=Tryz.isAgg0
 z0:=Tryz.sizeOf0
 v0:=Tryz.zeroValue0
 t3:=Tryz.underlying3
 a3:=Tryz.isAgg3
 z3:=Tryz.sizeOf3
 v3:=Tryz.zeroValue3
 t4:=Tryz.underlying4
 a4:=Tryz.isAgg4
 z4:=Tryz.sizeOf4
 v4:=Tryz.zeroValue4
 t9:=Tryz.underlying9
 a9:=Tryz.isAgg9
 z9:=Tryz.sizeOf9
 v9:=Tryz.zeroValue9
 t31:=Tryz.underlying43
 a31:=Tryz.isAgg43
 z31:=Tryz.sizeOf43
 v31:=Tryz.zeroValue43
theorem NQ{w:WD}{os:List Ob}{rs:List Rp}{ix:Nat}{v:VL}{xs:List BY}{e:TI}(H:Sep w os rs)(hi:os[ix]? =some (Row e kS v xs))(hn:xs.length <= 1000000):Calls Tryz.prog 105 [v].toArray w (Ret λv' w'=>v'= .tuple #[]/\Sep w' (os.set ix (Row e kS v (xZ xs))) rs):=MA AX H hi hn
theorem NR{w:WD}{os:List Ob}{rs:List Rp}{ix:Nat}{v:VL}{xs:List BY}{e:TI}(H:Sep w os rs)(hi:os[ix]? =some (Row e kS v xs))(hn:xs.length <= 1000000):Calls Tryz.prog 106 [v].toArray w (Ret λv' w'=>Sep w' (os.set ix (Row e kS v' (tU xs))) rs):=MB AY H hi hn
end Go.Cb
