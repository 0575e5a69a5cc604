/- slices.Insert and slices.Delete, at each kind of element. -/
import Derived.Test.YtppeaaolgckfcaaGreatDoorTsm
import Derived.Test.YtppeaaolgckfcaaGreatDoorAsm2
set_option linter.unusedVariables false
set_option linter.unusedSimpArgs false
set_option maxRecDepth 20000
namespace Go.Cb
open Go.Proofs Go.RowKit Tryz
theorem Hj:Tryz.prog.follows .mixedOrders=true:=by kernel_rfl
def NH:Shelf.Ren:=⟨λn=>if n == 29 then 308 else 309,λn=>if n == 24 then 22 else if n == 9 then 80 else if n == 3 then 3 else if n == 4 then 4 else 0,λn=>n⟩
theorem GA:El Tryz.prog NH 80 5 [.string ⟨#[]⟩,.string ⟨#[]⟩,.int .i64 0,.int .i64 0,.int .i64 0] 56:=⟨underlying22,underlying3,by kernel_rfl,by kernel_rfl,by kernel_rfl,Hj,by kernel_rfl,rfl,rfl,rfl,by decide⟩
theorem delete_c{w:WD}{os:List Ob}{rs:List Rp}{ix:Nat}{v:VL}{xs:List aH}(H:Sep w os rs)(hi:os[ix]? =some (Row 80 aB v xs)){a b:Int}(hab:0 <= a/\a < xs.length/\b=a+1) :
  Calls Tryz.prog 260 [v,.int .i64 a,.int .i64 b].toArray w (Ret λv' w'=>Sep w' (os.set ix (Row 80 aB v' (xs.eraseIdx a.toNat))) rs):=
 Qa cZ GA rfl func260 (by kernel_rfl) ntmps260 rfl H hi hab
theorem insert_a{w:WD}{os:List Ob}{rs:List Rp}{ix iu:Nat}{v u:VL}{xs:List aH}{y:aH}(H:Sep w os rs)(hi:os[ix]? =some (Row 80 aB v xs))(hu:os[iu]? =some (Row 80 aB u [y]))(hne:ix ≠ iu){a:Int}(ha:0 <= a/\a <= xs.length/\xs.length <= 1000000) :
  Calls Tryz.prog 259 [v,.int .i64 a,u].toArray w (Ret λv' w'=>Sep w' (os.set ix (Row 80 aB v' (xs.take a.toNat ++ y::xs.drop a.toNat))) rs):=
 Ed cZ GA rfl func259 (by kernel_rfl) ntmps259 rfl func308 (by kernel_rfl) (by kernel_rfl) (by kernel_rfl) (by kernel_rfl) H hi hu hne ha
def NI:Shelf.Ren:=⟨λn=>if n == 29 then 325 else 326,λn=>if n == 24 then 23 else if n == 9 then 71 else if n == 3 then 3 else if n == 4 then 4 else 0,λn=>n⟩
theorem GB:El Tryz.prog NI 71 2 [.string ⟨#[]⟩,.int .i64 0] 24:=⟨underlying23,underlying3,by kernel_rfl,by kernel_rfl,by kernel_rfl,Hj,by kernel_rfl,rfl,rfl,rfl,by decide⟩
theorem Tn.delete_c {w:WD} {os:List Ob} {rs:List Rp} {ix:Nat} {v:VL} {xs:List aQ} (H:Sep w os rs) (hi:os[ix]? =some (Row 71 aC v xs)) {a b:Int} (hab:0 <= a/\a < xs.length/\b=a+1) :
  Calls Tryz.prog 304 [v,.int .i64 a,.int .i64 b].toArray w (Ret λv' w'=>Sep w' (os.set ix (Row 71 aC v' (xs.eraseIdx a.toNat))) rs):=
 Qa eE GB rfl func304 (by kernel_rfl) ntmps304 rfl H hi hab
theorem Tn.insert_a {w:WD} {os:List Ob} {rs:List Rp} {ix iu:Nat} {v u:VL} {xs:List aQ} {y:aQ} (H:Sep w os rs) (hi:os[ix]? =some (Row 71 aC v xs)) (hu:os[iu]? =some (Row 71 aC u [y])) (hne:ix ≠ iu) {a:Int} (ha:0 <= a/\a <= xs.length/\xs.length <= 1000000) :
  Calls Tryz.prog 303 [v,.int .i64 a,u].toArray w (Ret λv' w'=>Sep w' (os.set ix (Row 71 aC v' (xs.take a.toNat ++ y::xs.drop a.toNat))) rs):=
 Ed eE GB rfl func303 (by kernel_rfl) ntmps303 rfl func325 (by kernel_rfl) (by kernel_rfl) (by kernel_rfl) (by kernel_rfl) H hi hu hne ha
def NJ:Shelf.Ren:=⟨λn=>if n == 29 then 182 else 183,λn=>if n == 24 then 60 else if n == 9 then 97 else if n == 3 then 3 else if n == 4 then 4 else 0,λn=>n⟩
theorem SQ:El Tryz.prog NJ 97 3 [.string ⟨#[]⟩,.int .i64 0,.int .i64 0] 32:=⟨underlying60,underlying3,by kernel_rfl,by kernel_rfl,by kernel_rfl,Hj,by kernel_rfl,rfl,rfl,rfl,by decide⟩
theorem Ho.insert_a {w:WD} {os:List Ob} {rs:List Rp} {ix iu:Nat} {v u:VL} {xs:List aY} {y:aY} (H:Sep w os rs) (hi:os[ix]? =some (Row 97 bE v xs)) (hu:os[iu]? =some (Row 97 bE u [y])) (hne:ix ≠ iu) {a:Int} (ha:0 <= a/\a <= xs.length/\xs.length <= 1000000) :
  Calls Tryz.prog 124 [v,.int .i64 a,u].toArray w (Ret λv' w'=>Sep w' (os.set ix (Row 97 bE v' (xs.take a.toNat ++ y::xs.drop a.toNat))) rs):=
 Ed hF SQ rfl func124 (by kernel_rfl) ntmps124 rfl func182 (by kernel_rfl) (by kernel_rfl) (by kernel_rfl) (by kernel_rfl) H hi hu hne ha
def JC:Shelf.Ren:=⟨λn=>if n == 29 then 196 else 197,λn=>if n == 24 then 26 else if n == 9 then 52 else if n == 3 then 3 else if n == 4 then 4 else 0,λn=>n⟩
theorem NK:El Tryz.prog JC 52 3 [.string ⟨#[]⟩,.int .i64 0,.int .i64 0] 32:=⟨underlying26,underlying3,by kernel_rfl,by kernel_rfl,by kernel_rfl,Hj,by kernel_rfl,rfl,rfl,rfl,by decide⟩
theorem Ra.insert_a {w:WD} {os:List Ob} {rs:List Rp} {ix iu:Nat} {v u:VL} {xs:List aF} {y:aF} (H:Sep w os rs) (hi:os[ix]? =some (Row 52 aO v xs)) (hu:os[iu]? =some (Row 52 aO u [y])) (hne:ix ≠ iu) {a:Int} (ha:0 <= a/\a <= xs.length/\xs.length <= 1000000) :
  Calls Tryz.prog 141 [v,.int .i64 a,u].toArray w (Ret λv' w'=>Sep w' (os.set ix (Row 52 aO v' (xs.take a.toNat ++ y::xs.drop a.toNat))) rs):=
 Ed jO NK rfl func141 (by kernel_rfl) ntmps141 rfl func196 (by kernel_rfl) (by kernel_rfl) (by kernel_rfl) (by kernel_rfl) H hi hu hne ha
def DT:Shelf.Ren:=⟨λn=>if n == 29 then 224 else 225,λn=>if n == 24 then 65 else if n == 9 then 209 else if n == 3 then 3 else if n == 4 then 4 else 0,λn=>n⟩
theorem GC:El Tryz.prog DT 209 3 [.int .i64 0,.int .i64 0,.slice none 0 0] 40:=⟨underlying65,underlying3,by kernel_rfl,by kernel_rfl,by kernel_rfl,Hj,by kernel_rfl,rfl,rfl,rfl,by decide⟩
theorem Se.insert_a {w:WD} {os:List Ob} {rs:List Rp} {ix iu:Nat} {v u:VL} {xs:List aI} {y:aI} (H:Sep w os rs) (hi:os[ix]? =some (Row 209 aL v xs)) (hu:os[iu]? =some (Row 209 aL u [y])) (hne:ix ≠ iu) {a:Int} (ha:0 <= a/\a <= xs.length/\xs.length <= 1000000) :
  Calls Tryz.prog 152 [v,.int .i64 a,u].toArray w (Ret λv' w'=>Sep w' (os.set ix (Row 209 aL v' (xs.take a.toNat ++ y::xs.drop a.toNat))) rs):=
 II (d:=aL) (λH hi hu hne _ ha=>Ed (kRf aL.sz aL.pos) GC rfl func152 (by kernel_rfl) ntmps152 rfl func224 (by kernel_rfl) (by kernel_rfl) (by kernel_rfl) (by kernel_rfl) H hi hu hne ha) H hi hu hne ha
def JD:Shelf.Ren:=⟨λn=>if n == 29 then 0 else 0,λn=>if n == 24 then 64 else if n == 9 then 45 else if n == 3 then 3 else if n == 4 then 4 else 0,λn=>n⟩
theorem NL:El Tryz.prog JD 45 4 [.int .i64 0,.int .i64 0,.string ⟨#[]⟩,.bool false] 40:=⟨underlying64,underlying3,by kernel_rfl,by kernel_rfl,by kernel_rfl,Hj,by kernel_rfl,rfl,rfl,rfl,by decide⟩
theorem Wa.delete_c {w:WD} {os:List Ob} {rs:List Rp} {ix:Nat} {v:VL} {xs:List aR} (H:Sep w os rs) (hi:os[ix]? =some (Row 45 aT v xs)) {a b:Int} (hab:0 <= a/\a < xs.length/\b=a+1) :
  Calls Tryz.prog 155 [v,.int .i64 a,.int .i64 b].toArray w (Ret λv' w'=>Sep w' (os.set ix (Row 45 aT v' (xs.eraseIdx a.toNat))) rs):=
 Qa nT NL rfl func155 (by kernel_rfl) ntmps155 rfl H hi hab
end Go.Cb
