/- slices.Insert and slices.Delete, at each kind of element. -/
import Derived.Test.YtpbgbliikifjjaaGreatDoorTsl
import Derived.Test.YtpbgbliikifjjaaGreatDoorB42sl
set_option linter.unusedVariables false
set_option linter.unusedSimpArgs false
set_option maxRecDepth 20000
namespace Go.Cb
open Go.Proofs Go.RowKit
theorem Q3:Tryz.prog.follows .mixedOrders=true:=by kernel_rfl
def Zg:Shelf.Ren:=⟨fun n=>if n == 29 then 315 else 316,fun n=>if n == 24 then 22 else if n == 9 then 95 else if n == 3 then 3 else if n == 4 then 4 else 0,fun n=>n⟩
theorem Sh:El Tryz.prog Zg 95 5 [.string ⟨#[]⟩,.string ⟨#[]⟩,.int .i64 0,.int .i64 0,.int .i64 0] 56:=⟨Tryz.underlying22,Tryz.underlying3,by kernel_rfl,by kernel_rfl,by kernel_rfl,Q3,by kernel_rfl,rfl,rfl,rfl,by decide⟩
theorem delete_c{w:World}{os:List Ob}{rs:List Rp}{ix:Nat}{v:Value}{xs:List aF}(H:Sep w os rs)(hi:os[ix]? =some (Row 95 aE v xs)){a b:Int}(hab:0 ≤ a∧a < xs.length∧b=a+1) :
    Calls Tryz.prog 265 [v,.int .i64 a,.int .i64 b].toArray w (Ret fun v' w'=>Sep w' (os.set ix (Row 95 aE v' (xs.eraseIdx a.toNat))) rs):=
  Du cO Sh rfl Tryz.func265 (by kernel_rfl) Tryz.ntmps265 rfl H hi hab
theorem insert_a{w:World}{os:List Ob}{rs:List Rp}{ix iu:Nat}{v u:Value}{xs:List aF}{y:aF}(H:Sep w os rs)(hi:os[ix]? =some (Row 95 aE v xs))(hu:os[iu]? =some (Row 95 aE u [y]))(hne:ix ≠ iu){a:Int}(ha:0 ≤ a∧a ≤ xs.length∧xs.length ≤ 1000000) :
    Calls Tryz.prog 264 [v,.int .i64 a,u].toArray w (Ret fun v' w'=>Sep w' (os.set ix (Row 95 aE v' (xs.take a.toNat ++ y::xs.drop a.toNat))) rs):=
  J6 cO Sh rfl Tryz.func264 (by kernel_rfl) Tryz.ntmps264 rfl Tryz.func315 (by kernel_rfl) (by kernel_rfl) (by kernel_rfl) (by kernel_rfl) H hi hu hne ha
def Zh:Shelf.Ren:=⟨fun n=>if n == 29 then 332 else 333,fun n=>if n == 24 then 23 else if n == 9 then 77 else if n == 3 then 3 else if n == 4 then 4 else 0,fun n=>n⟩
theorem Si:El Tryz.prog Zh 77 2 [.string ⟨#[]⟩,.int .i64 0] 24:=⟨Tryz.underlying23,Tryz.underlying3,by kernel_rfl,by kernel_rfl,by kernel_rfl,Q3,by kernel_rfl,rfl,rfl,rfl,by decide⟩
theorem Tn.delete_c {w:World} {os:List Ob} {rs:List Rp} {ix:Nat} {v:Value} {xs:List aJ} (H:Sep w os rs) (hi:os[ix]? =some (Row 77 aI v xs)) {a b:Int} (hab:0 ≤ a∧a < xs.length∧b=a+1) :
    Calls Tryz.prog 311 [v,.int .i64 a,.int .i64 b].toArray w (Ret fun v' w'=>Sep w' (os.set ix (Row 77 aI v' (xs.eraseIdx a.toNat))) rs):=
  Du dU Si rfl Tryz.func311 (by kernel_rfl) Tryz.ntmps311 rfl H hi hab
theorem Tn.insert_a {w:World} {os:List Ob} {rs:List Rp} {ix iu:Nat} {v u:Value} {xs:List aJ} {y:aJ} (H:Sep w os rs) (hi:os[ix]? =some (Row 77 aI v xs)) (hu:os[iu]? =some (Row 77 aI u [y])) (hne:ix ≠ iu) {a:Int} (ha:0 ≤ a∧a ≤ xs.length∧xs.length ≤ 1000000) :
    Calls Tryz.prog 310 [v,.int .i64 a,u].toArray w (Ret fun v' w'=>Sep w' (os.set ix (Row 77 aI v' (xs.take a.toNat ++ y::xs.drop a.toNat))) rs):=
  J6 dU Si rfl Tryz.func310 (by kernel_rfl) Tryz.ntmps310 rfl Tryz.func332 (by kernel_rfl) (by kernel_rfl) (by kernel_rfl) (by kernel_rfl) H hi hu hne ha
def Zi:Shelf.Ren:=⟨fun n=>if n == 29 then 191 else 192,fun n=>if n == 24 then 62 else if n == 9 then 103 else if n == 3 then 3 else if n == 4 then 4 else 0,fun n=>n⟩
theorem EM:El Tryz.prog Zi 103 3 [.string ⟨#[]⟩,.int .i64 0,.int .i64 0] 32:=⟨Tryz.underlying62,Tryz.underlying3,by kernel_rfl,by kernel_rfl,by kernel_rfl,Q3,by kernel_rfl,rfl,rfl,rfl,by decide⟩
theorem Ho.insert_a {w:World} {os:List Ob} {rs:List Rp} {ix iu:Nat} {v u:Value} {xs:List aN} {y:aN} (H:Sep w os rs) (hi:os[ix]? =some (Row 103 bH v xs)) (hu:os[iu]? =some (Row 103 bH u [y])) (hne:ix ≠ iu) {a:Int} (ha:0 ≤ a∧a ≤ xs.length∧xs.length ≤ 1000000) :
    Calls Tryz.prog 137 [v,.int .i64 a,u].toArray w (Ret fun v' w'=>Sep w' (os.set ix (Row 103 bH v' (xs.take a.toNat ++ y::xs.drop a.toNat))) rs):=
  J6 eX EM rfl Tryz.func137 (by kernel_rfl) Tryz.ntmps137 rfl Tryz.func191 (by kernel_rfl) (by kernel_rfl) (by kernel_rfl) (by kernel_rfl) H hi hu hne ha
def Vn:Shelf.Ren:=⟨fun n=>if n == 29 then 205 else 206,fun n=>if n == 24 then 32 else if n == 9 then 31 else if n == 3 then 3 else if n == 4 then 4 else 0,fun n=>n⟩
theorem Zj:El Tryz.prog Vn 31 3 [.string ⟨#[]⟩,.int .i64 0,.int .i64 0] 32:=⟨Tryz.underlying32,Tryz.underlying3,by kernel_rfl,by kernel_rfl,by kernel_rfl,Q3,by kernel_rfl,rfl,rfl,rfl,by decide⟩
theorem Ra.insert_a {w:World} {os:List Ob} {rs:List Rp} {ix iu:Nat} {v u:Value} {xs:List aG} {y:aG} (H:Sep w os rs) (hi:os[ix]? =some (Row 31 aT v xs)) (hu:os[iu]? =some (Row 31 aT u [y])) (hne:ix ≠ iu) {a:Int} (ha:0 ≤ a∧a ≤ xs.length∧xs.length ≤ 1000000) :
    Calls Tryz.prog 154 [v,.int .i64 a,u].toArray w (Ret fun v' w'=>Sep w' (os.set ix (Row 31 aT v' (xs.take a.toNat ++ y::xs.drop a.toNat))) rs):=
  J6 jI Zj rfl Tryz.func154 (by kernel_rfl) Tryz.ntmps154 rfl Tryz.func205 (by kernel_rfl) (by kernel_rfl) (by kernel_rfl) (by kernel_rfl) H hi hu hne ha
def Qn:Shelf.Ren:=⟨fun n=>if n == 29 then 233 else 234,fun n=>if n == 24 then 71 else if n == 9 then 215 else if n == 3 then 3 else if n == 4 then 4 else 0,fun n=>n⟩
theorem Sj:El Tryz.prog Qn 215 3 [.int .i64 0,.int .i64 0,.slice none 0 0] 40:=⟨Tryz.underlying71,Tryz.underlying3,by kernel_rfl,by kernel_rfl,by kernel_rfl,Q3,by kernel_rfl,rfl,rfl,rfl,by decide⟩
theorem Se.insert_a {w:World} {os:List Ob} {rs:List Rp} {ix iu:Nat} {v u:Value} {xs:List aD} {y:aD} (H:Sep w os rs) (hi:os[ix]? =some (Row 215 aO v xs)) (hu:os[iu]? =some (Row 215 aO u [y])) (hne:ix ≠ iu) {a:Int} (ha:0 ≤ a∧a ≤ xs.length∧xs.length ≤ 1000000) :
    Calls Tryz.prog 165 [v,.int .i64 a,u].toArray w (Ret fun v' w'=>Sep w' (os.set ix (Row 215 aO v' (xs.take a.toNat ++ y::xs.drop a.toNat))) rs):=
  Uv (d:=aO) (fun H hi hu hne _ ha=>J6 (kRf aO.sz aO.pos) Sj rfl Tryz.func165 (by kernel_rfl) Tryz.ntmps165 rfl Tryz.func233 (by kernel_rfl) (by kernel_rfl) (by kernel_rfl) (by kernel_rfl) H hi hu hne ha) H hi hu hne ha
def Vo:Shelf.Ren:=⟨fun n=>if n == 29 then 0 else 0,fun n=>if n == 24 then 70 else if n == 9 then 35 else if n == 3 then 3 else if n == 4 then 4 else 0,fun n=>n⟩
theorem Zk:El Tryz.prog Vo 35 4 [.int .i64 0,.int .i64 0,.string ⟨#[]⟩,.bool false] 40:=⟨Tryz.underlying70,Tryz.underlying3,by kernel_rfl,by kernel_rfl,by kernel_rfl,Q3,by kernel_rfl,rfl,rfl,rfl,by decide⟩
theorem Wa.delete_c {w:World} {os:List Ob} {rs:List Rp} {ix:Nat} {v:Value} {xs:List aK} (H:Sep w os rs) (hi:os[ix]? =some (Row 35 bB v xs)) {a b:Int} (hab:0 ≤ a∧a < xs.length∧b=a+1) :
    Calls Tryz.prog 168 [v,.int .i64 a,.int .i64 b].toArray w (Ret fun v' w'=>Sep w' (os.set ix (Row 35 bB v' (xs.eraseIdx a.toNat))) rs):=
  Du jJ Zk rfl Tryz.func168 (by kernel_rfl) Tryz.ntmps168 rfl H hi hab
end Go.Cb
