/- slices.Insert and slices.Delete, at each kind of element. -/
import Derived.Test.YteakhlfapjaodaaGreatDoorTso
import Derived.Test.YteakhlfapjaodaaGreatDoorAso2
set_option linter.unusedVariables false
set_option linter.unusedSimpArgs false
set_option maxRecDepth 20000
namespace Go.Cb
open Go.Proofs Go.RowKit
theorem Dk:Tryz.prog.follows .mixedOrders=true:=by kernel_rfl
def HP:Shelf.Ren:=⟨λ n=>if n == 29 then 281 else 282,λ n=>if n == 24 then 22 else if n == 9 then 107 else if n == 3 then 3 else if n == 4 then 4 else 0,λ n=>n⟩
theorem AX:El Tryz.prog HP 107 5 [.string ⟨#[]⟩,.string ⟨#[]⟩,.int .i64 0,.int .i64 0,.int .i64 0] 56:=⟨Tryz.underlying22,Tryz.underlying3,by kernel_rfl,by kernel_rfl,by kernel_rfl,Dk,by kernel_rfl,rfl,rfl,rfl,by decide⟩
theorem delete_c{w:World}{os:List Ob}{rs:List Rp}{ix:Nat}{v:Value}{xs:List aG}(H:Sep w os rs)(hi:os[ix]? =some (Row 107 aB v xs)){a b:Int}(hab:0 <= a/\a < xs.length/\b=a+1) :
    Calls Tryz.prog 212 [v,.int .i64 a,.int .i64 b].toArray w (Ret λ v' w'=>Sep w' (os.set ix (Row 107 aB v' (xs.eraseIdx a.toNat))) rs):=
  Lj cM AX rfl Tryz.func212 (by kernel_rfl) Tryz.ntmps212 rfl H hi hab
theorem insert_a{w:World}{os:List Ob}{rs:List Rp}{ix iu:Nat}{v u:Value}{xs:List aG}{y:aG}(H:Sep w os rs)(hi:os[ix]? =some (Row 107 aB v xs))(hu:os[iu]? =some (Row 107 aB u [y]))(hne:ix ≠ iu){a:Int}(ha:0 <= a/\a <= xs.length/\xs.length <= 1000000) :
    Calls Tryz.prog 211 [v,.int .i64 a,u].toArray w (Ret λ v' w'=>Sep w' (os.set ix (Row 107 aB v' (xs.take a.toNat ++ y::xs.drop a.toNat))) rs):=
  Ar cM AX rfl Tryz.func211 (by kernel_rfl) Tryz.ntmps211 rfl Tryz.func281 (by kernel_rfl) (by kernel_rfl) (by kernel_rfl) (by kernel_rfl) H hi hu hne ha
def HQ:Shelf.Ren:=⟨λ n=>if n == 29 then 322 else 323,λ n=>if n == 24 then 23 else if n == 9 then 89 else if n == 3 then 3 else if n == 4 then 4 else 0,λ n=>n⟩
theorem AY:El Tryz.prog HQ 89 2 [.string ⟨#[]⟩,.int .i64 0] 24:=⟨Tryz.underlying23,Tryz.underlying3,by kernel_rfl,by kernel_rfl,by kernel_rfl,Dk,by kernel_rfl,rfl,rfl,rfl,by decide⟩
theorem Tn.delete_c {w:World} {os:List Ob} {rs:List Rp} {ix:Nat} {v:Value} {xs:List aM} (H:Sep w os rs) (hi:os[ix]? =some (Row 89 aC v xs)) {a b:Int} (hab:0 <= a/\a < xs.length/\b=a+1) :
    Calls Tryz.prog 277 [v,.int .i64 a,.int .i64 b].toArray w (Ret λ v' w'=>Sep w' (os.set ix (Row 89 aC v' (xs.eraseIdx a.toNat))) rs):=
  Lj dX AY rfl Tryz.func277 (by kernel_rfl) Tryz.ntmps277 rfl H hi hab
theorem Tn.insert_a {w:World} {os:List Ob} {rs:List Rp} {ix iu:Nat} {v u:Value} {xs:List aM} {y:aM} (H:Sep w os rs) (hi:os[ix]? =some (Row 89 aC v xs)) (hu:os[iu]? =some (Row 89 aC u [y])) (hne:ix ≠ iu) {a:Int} (ha:0 <= a/\a <= xs.length/\xs.length <= 1000000) :
    Calls Tryz.prog 276 [v,.int .i64 a,u].toArray w (Ret λ v' w'=>Sep w' (os.set ix (Row 89 aC v' (xs.take a.toNat ++ y::xs.drop a.toNat))) rs):=
  Ar dX AY rfl Tryz.func276 (by kernel_rfl) Tryz.ntmps276 rfl Tryz.func322 (by kernel_rfl) (by kernel_rfl) (by kernel_rfl) (by kernel_rfl) H hi hu hne ha
def HR:Shelf.Ren:=⟨λ n=>if n == 29 then 239 else 240,λ n=>if n == 24 then 58 else if n == 9 then 78 else if n == 3 then 3 else if n == 4 then 4 else 0,λ n=>n⟩
theorem MW:El Tryz.prog HR 78 3 [.string ⟨#[]⟩,.int .i64 0,.int .i64 0] 32:=⟨Tryz.underlying58,Tryz.underlying3,by kernel_rfl,by kernel_rfl,by kernel_rfl,Dk,by kernel_rfl,rfl,rfl,rfl,by decide⟩
theorem Ho.insert_a {w:World} {os:List Ob} {rs:List Rp} {ix iu:Nat} {v u:Value} {xs:List aV} {y:aV} (H:Sep w os rs) (hi:os[ix]? =some (Row 78 bA v xs)) (hu:os[iu]? =some (Row 78 bA u [y])) (hne:ix ≠ iu) {a:Int} (ha:0 <= a/\a <= xs.length/\xs.length <= 1000000) :
    Calls Tryz.prog 170 [v,.int .i64 a,u].toArray w (Ret λ v' w'=>Sep w' (os.set ix (Row 78 bA v' (xs.take a.toNat ++ y::xs.drop a.toNat))) rs):=
  Ar gD MW rfl Tryz.func170 (by kernel_rfl) Tryz.ntmps170 rfl Tryz.func239 (by kernel_rfl) (by kernel_rfl) (by kernel_rfl) (by kernel_rfl) H hi hu hne ha
def DW:Shelf.Ren:=⟨λ n=>if n == 29 then 243 else 244,λ n=>if n == 24 then 32 else if n == 9 then 31 else if n == 3 then 3 else if n == 4 then 4 else 0,λ n=>n⟩
theorem HS:El Tryz.prog DW 31 3 [.string ⟨#[]⟩,.int .i64 0,.int .i64 0] 32:=⟨Tryz.underlying32,Tryz.underlying3,by kernel_rfl,by kernel_rfl,by kernel_rfl,Dk,by kernel_rfl,rfl,rfl,rfl,by decide⟩
theorem Ra.insert_a {w:World} {os:List Ob} {rs:List Rp} {ix iu:Nat} {v u:Value} {xs:List aF} {y:aF} (H:Sep w os rs) (hi:os[ix]? =some (Row 31 aO v xs)) (hu:os[iu]? =some (Row 31 aO u [y])) (hne:ix ≠ iu) {a:Int} (ha:0 <= a/\a <= xs.length/\xs.length <= 1000000) :
    Calls Tryz.prog 186 [v,.int .i64 a,u].toArray w (Ret λ v' w'=>Sep w' (os.set ix (Row 31 aO v' (xs.take a.toNat ++ y::xs.drop a.toNat))) rs):=
  Ar lZ HS rfl Tryz.func186 (by kernel_rfl) Tryz.ntmps186 rfl Tryz.func243 (by kernel_rfl) (by kernel_rfl) (by kernel_rfl) (by kernel_rfl) H hi hu hne ha
def Yu:Shelf.Ren:=⟨λ n=>if n == 29 then 271 else 272,λ n=>if n == 24 then 71 else if n == 9 then 126 else if n == 3 then 3 else if n == 4 then 4 else 0,λ n=>n⟩
theorem AZ:El Tryz.prog Yu 126 3 [.int .i64 0,.int .i64 0,.slice none 0 0] 40:=⟨Tryz.underlying71,Tryz.underlying3,by kernel_rfl,by kernel_rfl,by kernel_rfl,Dk,by kernel_rfl,rfl,rfl,rfl,by decide⟩
theorem Se.insert_a {w:World} {os:List Ob} {rs:List Rp} {ix iu:Nat} {v u:Value} {xs:List aE} {y:aE} (H:Sep w os rs) (hi:os[ix]? =some (Row 126 aI v xs)) (hu:os[iu]? =some (Row 126 aI u [y])) (hne:ix ≠ iu) {a:Int} (ha:0 <= a/\a <= xs.length/\xs.length <= 1000000) :
    Calls Tryz.prog 197 [v,.int .i64 a,u].toArray w (Ret λ v' w'=>Sep w' (os.set ix (Row 126 aI v' (xs.take a.toNat ++ y::xs.drop a.toNat))) rs):=
  DG (d:=aI) (λ H hi hu hne _ ha=>Ar (kRf aI.sz aI.pos) AZ rfl Tryz.func197 (by kernel_rfl) Tryz.ntmps197 rfl Tryz.func271 (by kernel_rfl) (by kernel_rfl) (by kernel_rfl) (by kernel_rfl) H hi hu hne ha) H hi hu hne ha
def DX:Shelf.Ren:=⟨λ n=>if n == 29 then 0 else 0,λ n=>if n == 24 then 70 else if n == 9 then 35 else if n == 3 then 3 else if n == 4 then 4 else 0,λ n=>n⟩
theorem HT:El Tryz.prog DX 35 4 [.int .i64 0,.int .i64 0,.string ⟨#[]⟩,.bool false] 40:=⟨Tryz.underlying70,Tryz.underlying3,by kernel_rfl,by kernel_rfl,by kernel_rfl,Dk,by kernel_rfl,rfl,rfl,rfl,by decide⟩
theorem Wa.delete_c {w:World} {os:List Ob} {rs:List Rp} {ix:Nat} {v:Value} {xs:List aP} (H:Sep w os rs) (hi:os[ix]? =some (Row 35 aS v xs)) {a b:Int} (hab:0 <= a/\a < xs.length/\b=a+1) :
    Calls Tryz.prog 198 [v,.int .i64 a,.int .i64 b].toArray w (Ret λ v' w'=>Sep w' (os.set ix (Row 35 aS v' (xs.eraseIdx a.toNat))) rs):=
  Lj mB HT rfl Tryz.func198 (by kernel_rfl) Tryz.ntmps198 rfl H hi hab
end Go.Cb
