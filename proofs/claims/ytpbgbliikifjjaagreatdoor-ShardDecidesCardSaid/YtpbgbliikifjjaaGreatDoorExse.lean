/- slices.Insert and slices.Delete, at each kind of element. -/
import Derived.Test.YtpbgbliikifjjaaGreatDoorTse
import Derived.Test.YtpbgbliikifjjaaGreatDoorB42se
set_option linter.unusedVariables false
set_option linter.unusedSimpArgs false
set_option maxRecDepth 20000
namespace Go.Cb
open Go.Proofs Go.RowKit
theorem H8:Tryz.prog.follows .mixedOrders=true:=by kernel_rfl
def Ow:Shelf.Ren:=⟨fun n=>if n == 29 then 315 else 316,fun n=>if n == 24 then 22 else if n == 9 then 95 else if n == 3 then 3 else if n == 4 then 4 else 0,fun n=>n⟩
theorem Kj:El Tryz.prog Ow 95 5 [.string ⟨#[]⟩,.string ⟨#[]⟩,.int .i64 0,.int .i64 0,.int .i64 0] 56:=⟨Tryz.underlying22,Tryz.underlying3,by kernel_rfl,by kernel_rfl,by kernel_rfl,H8,by kernel_rfl,rfl,rfl,rfl,by decide⟩
theorem delete_c{w:World}{os:List Ob}{rs:List Rp}{ix:Nat}{v:Value}{xs:List aE}(H:Sep w os rs)(hi:os[ix]? =some (Row 95 aF v xs)){a b:Int}(hab:0 ≤ a∧a < xs.length∧b=a+1) :
    Calls Tryz.prog 265 [v,.int .i64 a,.int .i64 b].toArray w (Ret fun v' w'=>Sep w' (os.set ix (Row 95 aF v' (xs.eraseIdx a.toNat))) rs):=
  Ac cK Kj rfl Tryz.func265 (by kernel_rfl) Tryz.ntmps265 rfl H hi hab
theorem insert_a{w:World}{os:List Ob}{rs:List Rp}{ix iu:Nat}{v u:Value}{xs:List aE}{y:aE}(H:Sep w os rs)(hi:os[ix]? =some (Row 95 aF v xs))(hu:os[iu]? =some (Row 95 aF u [y]))(hne:ix ≠ iu){a:Int}(ha:0 ≤ a∧a ≤ xs.length∧xs.length ≤ 1000000) :
    Calls Tryz.prog 264 [v,.int .i64 a,u].toArray w (Ret fun v' w'=>Sep w' (os.set ix (Row 95 aF v' (xs.take a.toNat ++ y::xs.drop a.toNat))) rs):=
  A5 cK Kj rfl Tryz.func264 (by kernel_rfl) Tryz.ntmps264 rfl Tryz.func315 (by kernel_rfl) (by kernel_rfl) (by kernel_rfl) (by kernel_rfl) H hi hu hne ha
def Ox:Shelf.Ren:=⟨fun n=>if n == 29 then 332 else 333,fun n=>if n == 24 then 23 else if n == 9 then 77 else if n == 3 then 3 else if n == 4 then 4 else 0,fun n=>n⟩
theorem Kk:El Tryz.prog Ox 77 2 [.string ⟨#[]⟩,.int .i64 0] 24:=⟨Tryz.underlying23,Tryz.underlying3,by kernel_rfl,by kernel_rfl,by kernel_rfl,H8,by kernel_rfl,rfl,rfl,rfl,by decide⟩
theorem Tn.delete_c {w:World} {os:List Ob} {rs:List Rp} {ix:Nat} {v:Value} {xs:List aI} (H:Sep w os rs) (hi:os[ix]? =some (Row 77 aJ v xs)) {a b:Int} (hab:0 ≤ a∧a < xs.length∧b=a+1) :
    Calls Tryz.prog 311 [v,.int .i64 a,.int .i64 b].toArray w (Ret fun v' w'=>Sep w' (os.set ix (Row 77 aJ v' (xs.eraseIdx a.toNat))) rs):=
  Ac dI Kk rfl Tryz.func311 (by kernel_rfl) Tryz.ntmps311 rfl H hi hab
theorem Tn.insert_a {w:World} {os:List Ob} {rs:List Rp} {ix iu:Nat} {v u:Value} {xs:List aI} {y:aI} (H:Sep w os rs) (hi:os[ix]? =some (Row 77 aJ v xs)) (hu:os[iu]? =some (Row 77 aJ u [y])) (hne:ix ≠ iu) {a:Int} (ha:0 ≤ a∧a ≤ xs.length∧xs.length ≤ 1000000) :
    Calls Tryz.prog 310 [v,.int .i64 a,u].toArray w (Ret fun v' w'=>Sep w' (os.set ix (Row 77 aJ v' (xs.take a.toNat ++ y::xs.drop a.toNat))) rs):=
  A5 dI Kk rfl Tryz.func310 (by kernel_rfl) Tryz.ntmps310 rfl Tryz.func332 (by kernel_rfl) (by kernel_rfl) (by kernel_rfl) (by kernel_rfl) H hi hu hne ha
def Oy:Shelf.Ren:=⟨fun n=>if n == 29 then 191 else 192,fun n=>if n == 24 then 62 else if n == 9 then 103 else if n == 3 then 3 else if n == 4 then 4 else 0,fun n=>n⟩
theorem Tp:El Tryz.prog Oy 103 3 [.string ⟨#[]⟩,.int .i64 0,.int .i64 0] 32:=⟨Tryz.underlying62,Tryz.underlying3,by kernel_rfl,by kernel_rfl,by kernel_rfl,H8,by kernel_rfl,rfl,rfl,rfl,by decide⟩
theorem Ho.insert_a {w:World} {os:List Ob} {rs:List Rp} {ix iu:Nat} {v u:Value} {xs:List aN} {y:aN} (H:Sep w os rs) (hi:os[ix]? =some (Row 103 bG v xs)) (hu:os[iu]? =some (Row 103 bG u [y])) (hne:ix ≠ iu) {a:Int} (ha:0 ≤ a∧a ≤ xs.length∧xs.length ≤ 1000000) :
    Calls Tryz.prog 137 [v,.int .i64 a,u].toArray w (Ret fun v' w'=>Sep w' (os.set ix (Row 103 bG v' (xs.take a.toNat ++ y::xs.drop a.toNat))) rs):=
  A5 eC Tp rfl Tryz.func137 (by kernel_rfl) Tryz.ntmps137 rfl Tryz.func191 (by kernel_rfl) (by kernel_rfl) (by kernel_rfl) (by kernel_rfl) H hi hu hne ha
def Mc:Shelf.Ren:=⟨fun n=>if n == 29 then 205 else 206,fun n=>if n == 24 then 32 else if n == 9 then 31 else if n == 3 then 3 else if n == 4 then 4 else 0,fun n=>n⟩
theorem Oz:El Tryz.prog Mc 31 3 [.string ⟨#[]⟩,.int .i64 0,.int .i64 0] 32:=⟨Tryz.underlying32,Tryz.underlying3,by kernel_rfl,by kernel_rfl,by kernel_rfl,H8,by kernel_rfl,rfl,rfl,rfl,by decide⟩
theorem Ra.insert_a {w:World} {os:List Ob} {rs:List Rp} {ix iu:Nat} {v u:Value} {xs:List aH} {y:aH} (H:Sep w os rs) (hi:os[ix]? =some (Row 31 aS v xs)) (hu:os[iu]? =some (Row 31 aS u [y])) (hne:ix ≠ iu) {a:Int} (ha:0 ≤ a∧a ≤ xs.length∧xs.length ≤ 1000000) :
    Calls Tryz.prog 154 [v,.int .i64 a,u].toArray w (Ret fun v' w'=>Sep w' (os.set ix (Row 31 aS v' (xs.take a.toNat ++ y::xs.drop a.toNat))) rs):=
  A5 gZ Oz rfl Tryz.func154 (by kernel_rfl) Tryz.ntmps154 rfl Tryz.func205 (by kernel_rfl) (by kernel_rfl) (by kernel_rfl) (by kernel_rfl) H hi hu hne ha
def Ji:Shelf.Ren:=⟨fun n=>if n == 29 then 233 else 234,fun n=>if n == 24 then 71 else if n == 9 then 215 else if n == 3 then 3 else if n == 4 then 4 else 0,fun n=>n⟩
theorem Kl:El Tryz.prog Ji 215 3 [.int .i64 0,.int .i64 0,.slice none 0 0] 40:=⟨Tryz.underlying71,Tryz.underlying3,by kernel_rfl,by kernel_rfl,by kernel_rfl,H8,by kernel_rfl,rfl,rfl,rfl,by decide⟩
theorem Se.insert_a {w:World} {os:List Ob} {rs:List Rp} {ix iu:Nat} {v u:Value} {xs:List aD} {y:aD} (H:Sep w os rs) (hi:os[ix]? =some (Row 215 aO v xs)) (hu:os[iu]? =some (Row 215 aO u [y])) (hne:ix ≠ iu) {a:Int} (ha:0 ≤ a∧a ≤ xs.length∧xs.length ≤ 1000000) :
    Calls Tryz.prog 165 [v,.int .i64 a,u].toArray w (Ret fun v' w'=>Sep w' (os.set ix (Row 215 aO v' (xs.take a.toNat ++ y::xs.drop a.toNat))) rs):=
  Lk (d:=aO) (fun H hi hu hne _ ha=>A5 (kRf aO.sz aO.pos) Kl rfl Tryz.func165 (by kernel_rfl) Tryz.ntmps165 rfl Tryz.func233 (by kernel_rfl) (by kernel_rfl) (by kernel_rfl) (by kernel_rfl) H hi hu hne ha) H hi hu hne ha
def Md:Shelf.Ren:=⟨fun n=>if n == 29 then 0 else 0,fun n=>if n == 24 then 70 else if n == 9 then 35 else if n == 3 then 3 else if n == 4 then 4 else 0,fun n=>n⟩
theorem Pa:El Tryz.prog Md 35 4 [.int .i64 0,.int .i64 0,.string ⟨#[]⟩,.bool false] 40:=⟨Tryz.underlying70,Tryz.underlying3,by kernel_rfl,by kernel_rfl,by kernel_rfl,H8,by kernel_rfl,rfl,rfl,rfl,by decide⟩
theorem Wa.delete_c {w:World} {os:List Ob} {rs:List Rp} {ix:Nat} {v:Value} {xs:List aK} (H:Sep w os rs) (hi:os[ix]? =some (Row 35 aX v xs)) {a b:Int} (hab:0 ≤ a∧a < xs.length∧b=a+1) :
    Calls Tryz.prog 168 [v,.int .i64 a,.int .i64 b].toArray w (Ret fun v' w'=>Sep w' (os.set ix (Row 35 aX v' (xs.eraseIdx a.toNat))) rs):=
  Ac hB Pa rfl Tryz.func168 (by kernel_rfl) Tryz.ntmps168 rfl H hi hab
end Go.Cb
