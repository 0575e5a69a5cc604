/- slices.Insert and slices.Delete, at each kind of element. -/
import Derived.Test.YteakhlfapjaodaaGreatDoorTsg
import Derived.Test.YteakhlfapjaodaaGreatDoorAsg2
set_option linter.unusedVariables false
set_option linter.unusedSimpArgs false
set_option maxRecDepth 20000
namespace Go.Cb
open Go.Proofs Go.RowKit Tryz
theorem Dm:Tryz.prog.follows .mixedOrders=true:=by kernel_rfl
def HR:Shelf.Ren:=⟨λ n=>if n == 29 then 281 else 282,λ n=>if n == 24 then 22 else if n == 9 then 107 else if n == 3 then 3 else if n == 4 then 4 else 0,λ n=>n⟩
theorem BA:El Tryz.prog HR 107 5 [.string ⟨#[]⟩,.string ⟨#[]⟩,.int .i64 0,.int .i64 0,.int .i64 0] 56:=⟨underlying22,underlying3,by kernel_rfl,by kernel_rfl,by kernel_rfl,Dm,by kernel_rfl,rfl,rfl,rfl,by decide⟩
theorem delete_c{w:WD}{os:List Ob}{rs:List Rp}{ix:Nat}{v:VL}{xs:List aH}(H:Sep w os rs)(hi:os[ix]? =some (Row 107 aB v xs)){a b:Int}(hab:0 <= a/\a < xs.length/\b=a+1) :
    Calls Tryz.prog 212 [v,.int .i64 a,.int .i64 b].toArray w (Ret λ v' w'=>Sep w' (os.set ix (Row 107 aB v' (xs.eraseIdx a.toNat))) rs):=
  Lr cN BA rfl func212 (by kernel_rfl) ntmps212 rfl H hi hab
theorem insert_a{w:WD}{os:List Ob}{rs:List Rp}{ix iu:Nat}{v u:VL}{xs:List aH}{y:aH}(H:Sep w os rs)(hi:os[ix]? =some (Row 107 aB v xs))(hu:os[iu]? =some (Row 107 aB u [y]))(hne:ix ≠ iu){a:Int}(ha:0 <= a/\a <= xs.length/\xs.length <= 1000000) :
    Calls Tryz.prog 211 [v,.int .i64 a,u].toArray w (Ret λ v' w'=>Sep w' (os.set ix (Row 107 aB v' (xs.take a.toNat ++ y::xs.drop a.toNat))) rs):=
  Aw cN BA rfl func211 (by kernel_rfl) ntmps211 rfl func281 (by kernel_rfl) (by kernel_rfl) (by kernel_rfl) (by kernel_rfl) H hi hu hne ha
def HS:Shelf.Ren:=⟨λ n=>if n == 29 then 322 else 323,λ n=>if n == 24 then 23 else if n == 9 then 89 else if n == 3 then 3 else if n == 4 then 4 else 0,λ n=>n⟩
theorem BB:El Tryz.prog HS 89 2 [.string ⟨#[]⟩,.int .i64 0] 24:=⟨underlying23,underlying3,by kernel_rfl,by kernel_rfl,by kernel_rfl,Dm,by kernel_rfl,rfl,rfl,rfl,by decide⟩
theorem Tn.delete_c {w:WD} {os:List Ob} {rs:List Rp} {ix:Nat} {v:VL} {xs:List aL} (H:Sep w os rs) (hi:os[ix]? =some (Row 89 aC v xs)) {a b:Int} (hab:0 <= a/\a < xs.length/\b=a+1) :
    Calls Tryz.prog 277 [v,.int .i64 a,.int .i64 b].toArray w (Ret λ v' w'=>Sep w' (os.set ix (Row 89 aC v' (xs.eraseIdx a.toNat))) rs):=
  Lr dV BB rfl func277 (by kernel_rfl) ntmps277 rfl H hi hab
theorem Tn.insert_a {w:WD} {os:List Ob} {rs:List Rp} {ix iu:Nat} {v u:VL} {xs:List aL} {y:aL} (H:Sep w os rs) (hi:os[ix]? =some (Row 89 aC v xs)) (hu:os[iu]? =some (Row 89 aC u [y])) (hne:ix ≠ iu) {a:Int} (ha:0 <= a/\a <= xs.length/\xs.length <= 1000000) :
    Calls Tryz.prog 276 [v,.int .i64 a,u].toArray w (Ret λ v' w'=>Sep w' (os.set ix (Row 89 aC v' (xs.take a.toNat ++ y::xs.drop a.toNat))) rs):=
  Aw dV BB rfl func276 (by kernel_rfl) ntmps276 rfl func322 (by kernel_rfl) (by kernel_rfl) (by kernel_rfl) (by kernel_rfl) H hi hu hne ha
def HT:Shelf.Ren:=⟨λ n=>if n == 29 then 239 else 240,λ n=>if n == 24 then 58 else if n == 9 then 78 else if n == 3 then 3 else if n == 4 then 4 else 0,λ n=>n⟩
theorem MT:El Tryz.prog HT 78 3 [.string ⟨#[]⟩,.int .i64 0,.int .i64 0] 32:=⟨underlying58,underlying3,by kernel_rfl,by kernel_rfl,by kernel_rfl,Dm,by kernel_rfl,rfl,rfl,rfl,by decide⟩
theorem Ho.insert_a {w:WD} {os:List Ob} {rs:List Rp} {ix iu:Nat} {v u:VL} {xs:List aQ} {y:aQ} (H:Sep w os rs) (hi:os[ix]? =some (Row 78 aY v xs)) (hu:os[iu]? =some (Row 78 aY u [y])) (hne:ix ≠ iu) {a:Int} (ha:0 <= a/\a <= xs.length/\xs.length <= 1000000) :
    Calls Tryz.prog 170 [v,.int .i64 a,u].toArray w (Ret λ v' w'=>Sep w' (os.set ix (Row 78 aY v' (xs.take a.toNat ++ y::xs.drop a.toNat))) rs):=
  Aw gR MT rfl func170 (by kernel_rfl) ntmps170 rfl func239 (by kernel_rfl) (by kernel_rfl) (by kernel_rfl) (by kernel_rfl) H hi hu hne ha
def DY:Shelf.Ren:=⟨λ n=>if n == 29 then 243 else 244,λ n=>if n == 24 then 32 else if n == 9 then 31 else if n == 3 then 3 else if n == 4 then 4 else 0,λ n=>n⟩
theorem HU:El Tryz.prog DY 31 3 [.string ⟨#[]⟩,.int .i64 0,.int .i64 0] 32:=⟨underlying32,underlying3,by kernel_rfl,by kernel_rfl,by kernel_rfl,Dm,by kernel_rfl,rfl,rfl,rfl,by decide⟩
theorem Ra.insert_a {w:WD} {os:List Ob} {rs:List Rp} {ix iu:Nat} {v u:VL} {xs:List aF} {y:aF} (H:Sep w os rs) (hi:os[ix]? =some (Row 31 aN v xs)) (hu:os[iu]? =some (Row 31 aN u [y])) (hne:ix ≠ iu) {a:Int} (ha:0 <= a/\a <= xs.length/\xs.length <= 1000000) :
    Calls Tryz.prog 186 [v,.int .i64 a,u].toArray w (Ret λ v' w'=>Sep w' (os.set ix (Row 31 aN v' (xs.take a.toNat ++ y::xs.drop a.toNat))) rs):=
  Aw kZ HU rfl func186 (by kernel_rfl) ntmps186 rfl func243 (by kernel_rfl) (by kernel_rfl) (by kernel_rfl) (by kernel_rfl) H hi hu hne ha
def Yy:Shelf.Ren:=⟨λ n=>if n == 29 then 271 else 272,λ n=>if n == 24 then 71 else if n == 9 then 126 else if n == 3 then 3 else if n == 4 then 4 else 0,λ n=>n⟩
theorem BC:El Tryz.prog Yy 126 3 [.int .i64 0,.int .i64 0,.slice none 0 0] 40:=⟨underlying71,underlying3,by kernel_rfl,by kernel_rfl,by kernel_rfl,Dm,by kernel_rfl,rfl,rfl,rfl,by decide⟩
theorem Se.insert_a {w:WD} {os:List Ob} {rs:List Rp} {ix iu:Nat} {v u:VL} {xs:List aE} {y:aE} (H:Sep w os rs) (hi:os[ix]? =some (Row 126 aI v xs)) (hu:os[iu]? =some (Row 126 aI u [y])) (hne:ix ≠ iu) {a:Int} (ha:0 <= a/\a <= xs.length/\xs.length <= 1000000) :
    Calls Tryz.prog 197 [v,.int .i64 a,u].toArray w (Ret λ v' w'=>Sep w' (os.set ix (Row 126 aI v' (xs.take a.toNat ++ y::xs.drop a.toNat))) rs):=
  DI (d:=aI) (λ H hi hu hne _ ha=>Aw (kRf aI.sz aI.pos) BC rfl func197 (by kernel_rfl) ntmps197 rfl func271 (by kernel_rfl) (by kernel_rfl) (by kernel_rfl) (by kernel_rfl) H hi hu hne ha) H hi hu hne ha
def DZ:Shelf.Ren:=⟨λ n=>if n == 29 then 0 else 0,λ n=>if n == 24 then 70 else if n == 9 then 35 else if n == 3 then 3 else if n == 4 then 4 else 0,λ n=>n⟩
theorem HV:El Tryz.prog DZ 35 4 [.int .i64 0,.int .i64 0,.string ⟨#[]⟩,.bool false] 40:=⟨underlying70,underlying3,by kernel_rfl,by kernel_rfl,by kernel_rfl,Dm,by kernel_rfl,rfl,rfl,rfl,by decide⟩
theorem Wa.delete_c {w:WD} {os:List Ob} {rs:List Rp} {ix:Nat} {v:VL} {xs:List aO} (H:Sep w os rs) (hi:os[ix]? =some (Row 35 aP v xs)) {a b:Int} (hab:0 <= a/\a < xs.length/\b=a+1) :
    Calls Tryz.prog 198 [v,.int .i64 a,.int .i64 b].toArray w (Ret λ v' w'=>Sep w' (os.set ix (Row 35 aP v' (xs.eraseIdx a.toNat))) rs):=
  Lr lA HV rfl func198 (by kernel_rfl) ntmps198 rfl H hi hab
end Go.Cb
