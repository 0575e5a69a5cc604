/- slices.Sort and slices.Compact of strings, laid at this program. -/
import Derived.Test.YtlgajjcbnimjkaaGreatDoorTsw
import Derived.Test.YtlgajjcbnimjkaaGreatDoorB43sw
set_option linter.unusedVariables false
set_option maxRecDepth 20000
namespace Go.Cb
open Go Go.Shelf Go.Proofs Go.RowKit
def Zp:Shelf.Ren:=⟨fun | 190=>84 | 125=>124 | 258=>147 | 128=>179 | 129=>180 | 302=>204 | 303=>205 | 304=>206 | 305=>207 | 306=>208 | 307=>209 | 308=>210 | 309=>211 | 310=>212 | 333=>253 | 329=>234 | 330=>235 | 334=>254 | 335=>255 | 336=>256 | 344=>289 | n=>n,fun | 31=>41 | 9=>9 | 3=>3 | 46=>186 | 0=>0 | 51=>241 | 53=>243 | 4=>4 | 183=>235 | 182=>234 | 131=>164 | 5=>5 | 218=>280 | 222=>284 | 228=>312 | 229=>313 | n=>n,fun n=>n⟩
theorem Mx:Go.Proofs.Lays.n190 Tryz.prog Zp where
  mixed:=by kernel_rfl
  f125:=Tryz.func124.trans (congrArg some (by kernel_rfl))
  f128:=Tryz.func179.trans (congrArg some (by kernel_rfl))
  f129:=Tryz.func180.trans (congrArg some (by kernel_rfl))
  f190:=Tryz.func84.trans (congrArg some (by kernel_rfl))
  f258:=Tryz.func147.trans (congrArg some (by kernel_rfl))
  f302:=Tryz.func204.trans (congrArg some (by kernel_rfl))
  f303:=Tryz.func205.trans (congrArg some (by kernel_rfl))
  f304:=Tryz.func206.trans (congrArg some (by kernel_rfl))
  f305:=Tryz.func207.trans (congrArg some (by kernel_rfl))
  f306:=Tryz.func208.trans (congrArg some (by kernel_rfl))
  f307:=Tryz.func209.trans (congrArg some (by kernel_rfl))
  f308:=Tryz.func210.trans (congrArg some (by kernel_rfl))
  f309:=Tryz.func211.trans (congrArg some (by kernel_rfl))
  f310:=Tryz.func212.trans (congrArg some (by kernel_rfl))
  f329:=Tryz.func234.trans (congrArg some (by kernel_rfl))
  f330:=Tryz.func235.trans (congrArg some (by kernel_rfl))
  f333:=Tryz.func253.trans (congrArg some (by kernel_rfl))
  f334:=Tryz.func254.trans (congrArg some (by kernel_rfl))
  f335:=Tryz.func255.trans (congrArg some (by kernel_rfl))
  f336:=Tryz.func256.trans (congrArg some (by kernel_rfl))
  f344:=Tryz.func289.trans (congrArg some (by kernel_rfl))
  t0:=Tryz.underlying0
  a0:=Tryz.isAgg0
  z0:=Tryz.sizeOf0
  v0:=Tryz.zeroValue0
  t3:=Tryz.underlying3
  a3:=Tryz.isAgg3
  z3:=Tryz.sizeOf3
  v3:=Tryz.zeroValue3
  t4:=Tryz.underlying4
  a4:=Tryz.isAgg4
  z4:=Tryz.sizeOf4
  v4:=Tryz.zeroValue4
  t5:=Tryz.underlying5
  a5:=Tryz.isAgg5
  z5:=Tryz.sizeOf5
  v5:=Tryz.zeroValue5
  t9:=Tryz.underlying9
  a9:=Tryz.isAgg9
  z9:=Tryz.sizeOf9
  v9:=Tryz.zeroValue9
  t31:=Tryz.underlying41
  a31:=Tryz.isAgg41
  z31:=Tryz.sizeOf41
  v31:=Tryz.zeroValue41
  t46:=Tryz.underlying186
  a46:=Tryz.isAgg186
  z46:=Tryz.sizeOf186
  v46:=Tryz.zeroValue186
  t51:=Tryz.underlying241
  a51:=Tryz.isAgg241
  z51:=Tryz.sizeOf241
  v51:=Tryz.zeroValue241
  t53:=Tryz.underlying243
  a53:=Tryz.isAgg243
  z53:=Tryz.sizeOf243
  v53:=Tryz.zeroValue243
  t131:=Tryz.underlying164
  a131:=Tryz.isAgg164
  z131:=Tryz.sizeOf164
  v131:=Tryz.zeroValue164
  t182:=Tryz.underlying234
  a182:=Tryz.isAgg234
  z182:=Tryz.sizeOf234
  v182:=Tryz.zeroValue234
  t183:=Tryz.underlying235
  a183:=Tryz.isAgg235
  z183:=Tryz.sizeOf235
  v183:=Tryz.zeroValue235
  t218:=Tryz.underlying280
  a218:=Tryz.isAgg280
  z218:=Tryz.sizeOf280
  v218:=Tryz.zeroValue280
  t222:=Tryz.underlying284
  a222:=Tryz.isAgg284
  z222:=Tryz.sizeOf284
  v222:=Tryz.zeroValue284
  t228:=Tryz.underlying312
  a228:=Tryz.isAgg312
  z228:=Tryz.sizeOf312
  v228:=Tryz.zeroValue312
  t229:=Tryz.underlying313
  a229:=Tryz.isAgg313
  z229:=Tryz.sizeOf313
  v229:=Tryz.zeroValue313
def Zq:Shelf.Ren:=⟨fun | 194=>85 | n=>n,fun | 31=>41 | 9=>9 | 3=>3 | 4=>4 | 0=>0 | n=>n,fun n=>n⟩
theorem My:Go.Proofs.Lays.n194 Tryz.prog Zq where
  mixed:=by kernel_rfl
  f194:=Tryz.func85.trans (congrArg some (by kernel_rfl))
  t0:=Tryz.underlying0
  a0:=Tryz.isAgg0
  z0:=Tryz.sizeOf0
  v0:=Tryz.zeroValue0
  t3:=Tryz.underlying3
  a3:=Tryz.isAgg3
  z3:=Tryz.sizeOf3
  v3:=Tryz.zeroValue3
  t4:=Tryz.underlying4
  a4:=Tryz.isAgg4
  z4:=Tryz.sizeOf4
  v4:=Tryz.zeroValue4
  t9:=Tryz.underlying9
  a9:=Tryz.isAgg9
  z9:=Tryz.sizeOf9
  v9:=Tryz.zeroValue9
  t31:=Tryz.underlying41
  a31:=Tryz.isAgg41
  z31:=Tryz.sizeOf41
  v31:=Tryz.zeroValue41
theorem Zr{w:World}{os:List Ob}{rs:List Rp}{ix:Nat}{v:Value}{xs:List ByteArray}{e:TypeId}(H:Sep w os rs)(hi:os[ix]? =some (Row e kS v xs))(hn:xs.length ≤ 1000000):Calls Tryz.prog 84 [v].toArray w (Ret fun v' w'=>v'= .tuple #[]∧Sep w' (os.set ix (Row e kS v (uJ xs))) rs):=Zn Mx H hi hn
theorem Zs{w:World}{os:List Ob}{rs:List Rp}{ix:Nat}{v:Value}{xs:List ByteArray}{e:TypeId}(H:Sep w os rs)(hi:os[ix]? =some (Row e kS v xs))(hn:xs.length ≤ 1000000):Calls Tryz.prog 85 [v].toArray w (Ret fun v' w'=>Sep w' (os.set ix (Row e kS v' (qM xs))) rs):=Zo My H hi hn
end Go.Cb
