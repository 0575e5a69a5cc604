/- slices.Insert and slices.Delete, at each kind of element. -/
import Derived.Test.YtlgajjcbnimjkaaGreatDoorTsw
import Derived.Test.YtlgajjcbnimjkaaGreatDoorB42sw
set_option linter.unusedVariables false
set_option linter.unusedSimpArgs false
set_option maxRecDepth 20000
namespace Go.Cb
open Go.Proofs Go.RowKit
theorem R7:Tryz.prog.follows .mixedOrders=true:=by kernel_rfl
def Zg:Shelf.Ren:=⟨fun n=>if n == 29 then 277 else 278,fun n=>if n == 24 then 28 else if n == 9 then 62 else if n == 3 then 3 else if n == 4 then 4 else 0,fun n=>n⟩
theorem Sf:El Tryz.prog Zg 62 5 [.string ⟨#[]⟩,.string ⟨#[]⟩,.int .i64 0,.int .i64 0,.int .i64 0] 56:=⟨Tryz.underlying28,Tryz.underlying3,by kernel_rfl,by kernel_rfl,by kernel_rfl,R7,by kernel_rfl,rfl,rfl,rfl,by decide⟩
theorem delete_c{w:World}{os:List Ob}{rs:List Rp}{ix:Nat}{v:Value}{xs:List aF}(H:Sep w os rs)(hi:os[ix]? =some (Row 62 aG v xs)){a b:Int}(hab:0 ≤ a∧a < xs.length∧b=a+1) :
    Calls Tryz.prog 226 [v,.int .i64 a,.int .i64 b].toArray w (Ret fun v' w'=>Sep w' (os.set ix (Row 62 aG v' (xs.eraseIdx a.toNat))) rs):=
  Eh cQ Sf rfl Tryz.func226 (by kernel_rfl) Tryz.ntmps226 rfl H hi hab
theorem insert_a{w:World}{os:List Ob}{rs:List Rp}{ix iu:Nat}{v u:Value}{xs:List aF}{y:aF}(H:Sep w os rs)(hi:os[ix]? =some (Row 62 aG v xs))(hu:os[iu]? =some (Row 62 aG u [y]))(hne:ix ≠ iu){a:Int}(ha:0 ≤ a∧a ≤ xs.length∧xs.length ≤ 1000000) :
    Calls Tryz.prog 225 [v,.int .i64 a,u].toArray w (Ret fun v' w'=>Sep w' (os.set ix (Row 62 aG v' (xs.take a.toNat ++ y::xs.drop a.toNat))) rs):=
  K9 cQ Sf rfl Tryz.func225 (by kernel_rfl) Tryz.ntmps225 rfl Tryz.func277 (by kernel_rfl) (by kernel_rfl) (by kernel_rfl) (by kernel_rfl) H hi hu hne ha
def Zh:Shelf.Ren:=⟨fun n=>if n == 29 then 293 else 294,fun n=>if n == 24 then 29 else if n == 9 then 85 else if n == 3 then 3 else if n == 4 then 4 else 0,fun n=>n⟩
theorem Sg:El Tryz.prog Zh 85 2 [.string ⟨#[]⟩,.int .i64 0] 24:=⟨Tryz.underlying29,Tryz.underlying3,by kernel_rfl,by kernel_rfl,by kernel_rfl,R7,by kernel_rfl,rfl,rfl,rfl,by decide⟩
theorem Tn.delete_c {w:World} {os:List Ob} {rs:List Rp} {ix:Nat} {v:Value} {xs:List aI} (H:Sep w os rs) (hi:os[ix]? =some (Row 85 aK v xs)) {a b:Int} (hab:0 ≤ a∧a < xs.length∧b=a+1) :
    Calls Tryz.prog 273 [v,.int .i64 a,.int .i64 b].toArray w (Ret fun v' w'=>Sep w' (os.set ix (Row 85 aK v' (xs.eraseIdx a.toNat))) rs):=
  Eh eD Sg rfl Tryz.func273 (by kernel_rfl) Tryz.ntmps273 rfl H hi hab
theorem Tn.insert_a {w:World} {os:List Ob} {rs:List Rp} {ix iu:Nat} {v u:Value} {xs:List aI} {y:aI} (H:Sep w os rs) (hi:os[ix]? =some (Row 85 aK v xs)) (hu:os[iu]? =some (Row 85 aK u [y])) (hne:ix ≠ iu) {a:Int} (ha:0 ≤ a∧a ≤ xs.length∧xs.length ≤ 1000000) :
    Calls Tryz.prog 272 [v,.int .i64 a,u].toArray w (Ret fun v' w'=>Sep w' (os.set ix (Row 85 aK v' (xs.take a.toNat ++ y::xs.drop a.toNat))) rs):=
  K9 eD Sg rfl Tryz.func272 (by kernel_rfl) Tryz.ntmps272 rfl Tryz.func293 (by kernel_rfl) (by kernel_rfl) (by kernel_rfl) (by kernel_rfl) H hi hu hne ha
def Zi:Shelf.Ren:=⟨fun n=>if n == 29 then 155 else 156,fun n=>if n == 24 then 56 else if n == 9 then 89 else if n == 3 then 3 else if n == 4 then 4 else 0,fun n=>n⟩
theorem ER:El Tryz.prog Zi 89 3 [.string ⟨#[]⟩,.int .i64 0,.int .i64 0] 32:=⟨Tryz.underlying56,Tryz.underlying3,by kernel_rfl,by kernel_rfl,by kernel_rfl,R7,by kernel_rfl,rfl,rfl,rfl,by decide⟩
theorem Ho.insert_a {w:World} {os:List Ob} {rs:List Rp} {ix iu:Nat} {v u:Value} {xs:List aM} {y:aM} (H:Sep w os rs) (hi:os[ix]? =some (Row 89 bG v xs)) (hu:os[iu]? =some (Row 89 bG u [y])) (hne:ix ≠ iu) {a:Int} (ha:0 ≤ a∧a ≤ xs.length∧xs.length ≤ 1000000) :
    Calls Tryz.prog 104 [v,.int .i64 a,u].toArray w (Ret fun v' w'=>Sep w' (os.set ix (Row 89 bG v' (xs.take a.toNat ++ y::xs.drop a.toNat))) rs):=
  K9 fN ER rfl Tryz.func104 (by kernel_rfl) Tryz.ntmps104 rfl Tryz.func155 (by kernel_rfl) (by kernel_rfl) (by kernel_rfl) (by kernel_rfl) H hi hu hne ha
def Vq:Shelf.Ren:=⟨fun n=>if n == 29 then 169 else 170,fun n=>if n == 24 then 54 else if n == 9 then 60 else if n == 3 then 3 else if n == 4 then 4 else 0,fun n=>n⟩
theorem Zj:El Tryz.prog Vq 60 3 [.string ⟨#[]⟩,.int .i64 0,.int .i64 0] 32:=⟨Tryz.underlying54,Tryz.underlying3,by kernel_rfl,by kernel_rfl,by kernel_rfl,R7,by kernel_rfl,rfl,rfl,rfl,by decide⟩
theorem Ra.insert_a {w:World} {os:List Ob} {rs:List Rp} {ix iu:Nat} {v u:Value} {xs:List aH} {y:aH} (H:Sep w os rs) (hi:os[ix]? =some (Row 60 aR v xs)) (hu:os[iu]? =some (Row 60 aR u [y])) (hne:ix ≠ iu) {a:Int} (ha:0 ≤ a∧a ≤ xs.length∧xs.length ≤ 1000000) :
    Calls Tryz.prog 121 [v,.int .i64 a,u].toArray w (Ret fun v' w'=>Sep w' (os.set ix (Row 60 aR v' (xs.take a.toNat ++ y::xs.drop a.toNat))) rs):=
  K9 jL Zj rfl Tryz.func121 (by kernel_rfl) Tryz.ntmps121 rfl Tryz.func169 (by kernel_rfl) (by kernel_rfl) (by kernel_rfl) (by kernel_rfl) H hi hu hne ha
def Qk:Shelf.Ren:=⟨fun n=>if n == 29 then 197 else 198,fun n=>if n == 24 then 76 else if n == 9 then 193 else if n == 3 then 3 else if n == 4 then 4 else 0,fun n=>n⟩
theorem Sh:El Tryz.prog Qk 193 3 [.int .i64 0,.int .i64 0,.slice none 0 0] 40:=⟨Tryz.underlying76,Tryz.underlying3,by kernel_rfl,by kernel_rfl,by kernel_rfl,R7,by kernel_rfl,rfl,rfl,rfl,by decide⟩
theorem Se.insert_a {w:World} {os:List Ob} {rs:List Rp} {ix iu:Nat} {v u:Value} {xs:List aC} {y:aC} (H:Sep w os rs) (hi:os[ix]? =some (Row 193 aO v xs)) (hu:os[iu]? =some (Row 193 aO u [y])) (hne:ix ≠ iu) {a:Int} (ha:0 ≤ a∧a ≤ xs.length∧xs.length ≤ 1000000) :
    Calls Tryz.prog 132 [v,.int .i64 a,u].toArray w (Ret fun v' w'=>Sep w' (os.set ix (Row 193 aO v' (xs.take a.toNat ++ y::xs.drop a.toNat))) rs):=
  Ur (d:=aO) (fun H hi hu hne _ ha=>K9 (kRf aO.sz aO.pos) Sh rfl Tryz.func132 (by kernel_rfl) Tryz.ntmps132 rfl Tryz.func197 (by kernel_rfl) (by kernel_rfl) (by kernel_rfl) (by kernel_rfl) H hi hu hne ha) H hi hu hne ha
def Vr:Shelf.Ren:=⟨fun n=>if n == 29 then 0 else 0,fun n=>if n == 24 then 75 else if n == 9 then 39 else if n == 3 then 3 else if n == 4 then 4 else 0,fun n=>n⟩
theorem Zk:El Tryz.prog Vr 39 4 [.int .i64 0,.int .i64 0,.string ⟨#[]⟩,.bool false] 40:=⟨Tryz.underlying75,Tryz.underlying3,by kernel_rfl,by kernel_rfl,by kernel_rfl,R7,by kernel_rfl,rfl,rfl,rfl,by decide⟩
theorem Wa.delete_c {w:World} {os:List Ob} {rs:List Rp} {ix:Nat} {v:Value} {xs:List aJ} (H:Sep w os rs) (hi:os[ix]? =some (Row 39 aY v xs)) {a b:Int} (hab:0 ≤ a∧a < xs.length∧b=a+1) :
    Calls Tryz.prog 135 [v,.int .i64 a,.int .i64 b].toArray w (Ret fun v' w'=>Sep w' (os.set ix (Row 39 aY v' (xs.eraseIdx a.toNat))) rs):=
  Eh jM Zk rfl Tryz.func135 (by kernel_rfl) Tryz.ntmps135 rfl H hi hab
end Go.Cb
