/- slices.Sort and slices.Compact of strings, laid at this program. -/
import Derived.Test.YtpbgbliikifjjaaGreatDoorTse
import Derived.Test.YtpbgbliikifjjaaGreatDoorB43se
set_option linter.unusedVariables false
set_option maxRecDepth 20000
namespace Go.Cb
open Go Go.Shelf Go.Proofs Go.RowKit
def Pf:Shelf.Ren:=⟨fun | 190=>117 | 125=>157 | 258=>183 | 128=>215 | 129=>216 | 302=>243 | 303=>244 | 304=>245 | 305=>246 | 306=>247 | 307=>248 | 308=>249 | 309=>250 | 310=>251 | 333=>291 | 329=>273 | 330=>274 | 334=>292 | 335=>293 | 336=>294 | 344=>328 | n=>n,fun | 31=>33 | 9=>9 | 3=>3 | 46=>208 | 0=>0 | 51=>264 | 53=>266 | 4=>4 | 183=>258 | 182=>257 | 131=>190 | 5=>5 | 218=>304 | 222=>308 | 228=>334 | 229=>335 | n=>n,fun n=>n⟩
theorem Gs:Go.Proofs.Lays.n190 Tryz.prog Pf where
  mixed:=by kernel_rfl
  f125:=Tryz.func157.trans (congrArg some (by kernel_rfl))
  f128:=Tryz.func215.trans (congrArg some (by kernel_rfl))
  f129:=Tryz.func216.trans (congrArg some (by kernel_rfl))
  f190:=Tryz.func117.trans (congrArg some (by kernel_rfl))
  f258:=Tryz.func183.trans (congrArg some (by kernel_rfl))
  f302:=Tryz.func243.trans (congrArg some (by kernel_rfl))
  f303:=Tryz.func244.trans (congrArg some (by kernel_rfl))
  f304:=Tryz.func245.trans (congrArg some (by kernel_rfl))
  f305:=Tryz.func246.trans (congrArg some (by kernel_rfl))
  f306:=Tryz.func247.trans (congrArg some (by kernel_rfl))
  f307:=Tryz.func248.trans (congrArg some (by kernel_rfl))
  f308:=Tryz.func249.trans (congrArg some (by kernel_rfl))
  f309:=Tryz.func250.trans (congrArg some (by kernel_rfl))
  f310:=Tryz.func251.trans (congrArg some (by kernel_rfl))
  f329:=Tryz.func273.trans (congrArg some (by kernel_rfl))
  f330:=Tryz.func274.trans (congrArg some (by kernel_rfl))
  f333:=Tryz.func291.trans (congrArg some (by kernel_rfl))
  f334:=Tryz.func292.trans (congrArg some (by kernel_rfl))
  f335:=Tryz.func293.trans (congrArg some (by kernel_rfl))
  f336:=Tryz.func294.trans (congrArg some (by kernel_rfl))
  f344:=Tryz.func328.trans (congrArg some (by kernel_rfl))
  t0:=Tryz.underlying0
  a0:=Tryz.isAgg0
  z0:=Tryz.sizeOf0
  v0:=Tryz.zeroValue0
  t3:=Tryz.underlying3
  a3:=Tryz.isAgg3
  z3:=Tryz.sizeOf3
  v3:=Tryz.zeroValue3
  t4:=Tryz.underlying4
  a4:=Tryz.isAgg4
  z4:=Tryz.sizeOf4
  v4:=Tryz.zeroValue4
  t5:=Tryz.underlying5
  a5:=Tryz.isAgg5
  z5:=Tryz.sizeOf5
  v5:=Tryz.zeroValue5
  t9:=Tryz.underlying9
  a9:=Tryz.isAgg9
  z9:=Tryz.sizeOf9
  v9:=Tryz.zeroValue9
  t31:=Tryz.underlying33
  a31:=Tryz.isAgg33
  z31:=Tryz.sizeOf33
  v31:=Tryz.zeroValue33
  t46:=Tryz.underlying208
  a46:=Tryz.isAgg208
  z46:=Tryz.sizeOf208
  v46:=Tryz.zeroValue208
  t51:=Tryz.underlying264
  a51:=Tryz.isAgg264
  z51:=Tryz.sizeOf264
  v51:=Tryz.zeroValue264
  t53:=Tryz.underlying266
  a53:=Tryz.isAgg266
  z53:=Tryz.sizeOf266
  v53:=Tryz.zeroValue266
  t131:=Tryz.underlying190
  a131:=Tryz.isAgg190
  z131:=Tryz.sizeOf190
  v131:=Tryz.zeroValue190
  t182:=Tryz.underlying257
  a182:=Tryz.isAgg257
  z182:=Tryz.sizeOf257
  v182:=Tryz.zeroValue257
  t183:=Tryz.underlying258
  a183:=Tryz.isAgg258
  z183:=Tryz.sizeOf258
  v183:=Tryz.zeroValue258
  t218:=Tryz.underlying304
  a218:=Tryz.isAgg304
  z218:=Tryz.sizeOf304
  v218:=Tryz.zeroValue304
  t222:=Tryz.underlying308
  a222:=Tryz.isAgg308
  z222:=Tryz.sizeOf308
  v222:=Tryz.zeroValue308
  t228:=Tryz.underlying334
  a228:=Tryz.isAgg334
  z228:=Tryz.sizeOf334
  v228:=Tryz.zeroValue334
  t229:=Tryz.underlying335
  a229:=Tryz.isAgg335
  z229:=Tryz.sizeOf335
  v229:=Tryz.zeroValue335
def Pg:Shelf.Ren:=⟨fun | 194=>118 | n=>n,fun | 31=>33 | 9=>9 | 3=>3 | 4=>4 | 0=>0 | n=>n,fun n=>n⟩
theorem Gt:Go.Proofs.Lays.n194 Tryz.prog Pg where
  mixed:=by kernel_rfl
  f194:=Tryz.func118.trans (congrArg some (by kernel_rfl))
  t0:=Tryz.underlying0
  a0:=Tryz.isAgg0
  z0:=Tryz.sizeOf0
  v0:=Tryz.zeroValue0
  t3:=Tryz.underlying3
  a3:=Tryz.isAgg3
  z3:=Tryz.sizeOf3
  v3:=Tryz.zeroValue3
  t4:=Tryz.underlying4
  a4:=Tryz.isAgg4
  z4:=Tryz.sizeOf4
  v4:=Tryz.zeroValue4
  t9:=Tryz.underlying9
  a9:=Tryz.isAgg9
  z9:=Tryz.sizeOf9
  v9:=Tryz.zeroValue9
  t31:=Tryz.underlying33
  a31:=Tryz.isAgg33
  z31:=Tryz.sizeOf33
  v31:=Tryz.zeroValue33
theorem Ph{w:World}{os:List Ob}{rs:List Rp}{ix:Nat}{v:Value}{xs:List ByteArray}{e:TypeId}(H:Sep w os rs)(hi:os[ix]? =some (Row e kS v xs))(hn:xs.length ≤ 1000000):Calls Tryz.prog 117 [v].toArray w (Ret fun v' w'=>v'= .tuple #[]∧Sep w' (os.set ix (Row e kS v (y5 xs))) rs):=Pd Gs H hi hn
theorem Pi{w:World}{os:List Ob}{rs:List Rp}{ix:Nat}{v:Value}{xs:List ByteArray}{e:TypeId}(H:Sep w os rs)(hi:os[ix]? =some (Row e kS v xs))(hn:xs.length ≤ 1000000):Calls Tryz.prog 118 [v].toArray w (Ret fun v' w'=>Sep w' (os.set ix (Row e kS v' (wF xs))) rs):=Pe Gt H hi hn
end Go.Cb
