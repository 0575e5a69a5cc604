/- slices.Insert and slices.Delete, at each kind of element. -/
import Derived.Test.YteakhlfapjaodaaGreatDoorTsh
import Derived.Test.YteakhlfapjaodaaGreatDoorAsh2
set_option linter.unusedVariables false
set_option linter.unusedSimpArgs false
set_option maxRecDepth 20000
namespace Go.Cb
open Go.Proofs Go.RowKit Tryz
theorem Gg:Tryz.prog.follows .mixedOrders=true:=by kernel_rfl
def LW:Shelf.Ren:=⟨λn=>if n == 29 then 281 else 282,λn=>if n == 24 then 22 else if n == 9 then 107 else if n == 3 then 3 else if n == 4 then 4 else 0,λn=>n⟩
theorem EZ:El Tryz.prog LW 107 5 [.string ⟨#[]⟩,.string ⟨#[]⟩,.int .i64 0,.int .i64 0,.int .i64 0] 56:=⟨underlying22,underlying3,by kernel_rfl,by kernel_rfl,by kernel_rfl,Gg,by kernel_rfl,rfl,rfl,rfl,by decide⟩
theorem delete_c{w:WD}{os:List Ob}{rs:List Rp}{ix:Nat}{v:VL}{xs:List aG}(H:Sep w os rs)(hi:os[ix]? =some (Row 107 aB v xs)){a b:Int}(hab:0 <= a/\a < xs.length/\b=a+1) :
  Calls Tryz.prog 212 [v,.int .i64 a,.int .i64 b].toArray w (Ret λv' w'=>Sep w' (os.set ix (Row 107 aB v' (xs.eraseIdx a.toNat))) rs):=
 On cM EZ rfl func212 (by kernel_rfl) ntmps212 rfl H hi hab
theorem insert_a{w:WD}{os:List Ob}{rs:List Rp}{ix iu:Nat}{v u:VL}{xs:List aG}{y:aG}(H:Sep w os rs)(hi:os[ix]? =some (Row 107 aB v xs))(hu:os[iu]? =some (Row 107 aB u [y]))(hne:ix ≠ iu){a:Int}(ha:0 <= a/\a <= xs.length/\xs.length <= 1000000) :
  Calls Tryz.prog 211 [v,.int .i64 a,u].toArray w (Ret λv' w'=>Sep w' (os.set ix (Row 107 aB v' (xs.take a.toNat ++ y::xs.drop a.toNat))) rs):=
 Dh cM EZ rfl func211 (by kernel_rfl) ntmps211 rfl func281 (by kernel_rfl) (by kernel_rfl) (by kernel_rfl) (by kernel_rfl) H hi hu hne ha
def LX:Shelf.Ren:=⟨λn=>if n == 29 then 322 else 323,λn=>if n == 24 then 23 else if n == 9 then 89 else if n == 3 then 3 else if n == 4 then 4 else 0,λn=>n⟩
theorem FA:El Tryz.prog LX 89 2 [.string ⟨#[]⟩,.int .i64 0] 24:=⟨underlying23,underlying3,by kernel_rfl,by kernel_rfl,by kernel_rfl,Gg,by kernel_rfl,rfl,rfl,rfl,by decide⟩
theorem Tn.delete_c {w:WD} {os:List Ob} {rs:List Rp} {ix:Nat} {v:VL} {xs:List aM} (H:Sep w os rs) (hi:os[ix]? =some (Row 89 aC v xs)) {a b:Int} (hab:0 <= a/\a < xs.length/\b=a+1) :
  Calls Tryz.prog 277 [v,.int .i64 a,.int .i64 b].toArray w (Ret λv' w'=>Sep w' (os.set ix (Row 89 aC v' (xs.eraseIdx a.toNat))) rs):=
 On eD FA rfl func277 (by kernel_rfl) ntmps277 rfl H hi hab
theorem Tn.insert_a {w:WD} {os:List Ob} {rs:List Rp} {ix iu:Nat} {v u:VL} {xs:List aM} {y:aM} (H:Sep w os rs) (hi:os[ix]? =some (Row 89 aC v xs)) (hu:os[iu]? =some (Row 89 aC u [y])) (hne:ix ≠ iu) {a:Int} (ha:0 <= a/\a <= xs.length/\xs.length <= 1000000) :
  Calls Tryz.prog 276 [v,.int .i64 a,u].toArray w (Ret λv' w'=>Sep w' (os.set ix (Row 89 aC v' (xs.take a.toNat ++ y::xs.drop a.toNat))) rs):=
 Dh eD FA rfl func276 (by kernel_rfl) ntmps276 rfl func322 (by kernel_rfl) (by kernel_rfl) (by kernel_rfl) (by kernel_rfl) H hi hu hne ha
def LY:Shelf.Ren:=⟨λn=>if n == 29 then 239 else 240,λn=>if n == 24 then 58 else if n == 9 then 78 else if n == 3 then 3 else if n == 4 then 4 else 0,λn=>n⟩
theorem QZ:El Tryz.prog LY 78 3 [.string ⟨#[]⟩,.int .i64 0,.int .i64 0] 32:=⟨underlying58,underlying3,by kernel_rfl,by kernel_rfl,by kernel_rfl,Gg,by kernel_rfl,rfl,rfl,rfl,by decide⟩
theorem Ho.insert_a {w:WD} {os:List Ob} {rs:List Rp} {ix iu:Nat} {v u:VL} {xs:List aU} {y:aU} (H:Sep w os rs) (hi:os[ix]? =some (Row 78 bA v xs)) (hu:os[iu]? =some (Row 78 bA u [y])) (hne:ix ≠ iu) {a:Int} (ha:0 <= a/\a <= xs.length/\xs.length <= 1000000) :
  Calls Tryz.prog 170 [v,.int .i64 a,u].toArray w (Ret λv' w'=>Sep w' (os.set ix (Row 78 bA v' (xs.take a.toNat ++ y::xs.drop a.toNat))) rs):=
 Dh gN QZ rfl func170 (by kernel_rfl) ntmps170 rfl func239 (by kernel_rfl) (by kernel_rfl) (by kernel_rfl) (by kernel_rfl) H hi hu hne ha
def HV:Shelf.Ren:=⟨λn=>if n == 29 then 243 else 244,λn=>if n == 24 then 32 else if n == 9 then 31 else if n == 3 then 3 else if n == 4 then 4 else 0,λn=>n⟩
theorem LZ:El Tryz.prog HV 31 3 [.string ⟨#[]⟩,.int .i64 0,.int .i64 0] 32:=⟨underlying32,underlying3,by kernel_rfl,by kernel_rfl,by kernel_rfl,Gg,by kernel_rfl,rfl,rfl,rfl,by decide⟩
theorem Ra.insert_a {w:WD} {os:List Ob} {rs:List Rp} {ix iu:Nat} {v u:VL} {xs:List aF} {y:aF} (H:Sep w os rs) (hi:os[ix]? =some (Row 31 aO v xs)) (hu:os[iu]? =some (Row 31 aO u [y])) (hne:ix ≠ iu) {a:Int} (ha:0 <= a/\a <= xs.length/\xs.length <= 1000000) :
  Calls Tryz.prog 186 [v,.int .i64 a,u].toArray w (Ret λv' w'=>Sep w' (os.set ix (Row 31 aO v' (xs.take a.toNat ++ y::xs.drop a.toNat))) rs):=
 Dh mP LZ rfl func186 (by kernel_rfl) ntmps186 rfl func243 (by kernel_rfl) (by kernel_rfl) (by kernel_rfl) (by kernel_rfl) H hi hu hne ha
def CR:Shelf.Ren:=⟨λn=>if n == 29 then 271 else 272,λn=>if n == 24 then 71 else if n == 9 then 126 else if n == 3 then 3 else if n == 4 then 4 else 0,λn=>n⟩
theorem FB:El Tryz.prog CR 126 3 [.int .i64 0,.int .i64 0,.slice none 0 0] 40:=⟨underlying71,underlying3,by kernel_rfl,by kernel_rfl,by kernel_rfl,Gg,by kernel_rfl,rfl,rfl,rfl,by decide⟩
theorem Se.insert_a {w:WD} {os:List Ob} {rs:List Rp} {ix iu:Nat} {v u:VL} {xs:List aE} {y:aE} (H:Sep w os rs) (hi:os[ix]? =some (Row 126 aJ v xs)) (hu:os[iu]? =some (Row 126 aJ u [y])) (hne:ix ≠ iu) {a:Int} (ha:0 <= a/\a <= xs.length/\xs.length <= 1000000) :
  Calls Tryz.prog 197 [v,.int .i64 a,u].toArray w (Ret λv' w'=>Sep w' (os.set ix (Row 126 aJ v' (xs.take a.toNat ++ y::xs.drop a.toNat))) rs):=
 HF (d:=aJ) (λH hi hu hne _ ha=>Dh (kRf aJ.sz aJ.pos) FB rfl func197 (by kernel_rfl) ntmps197 rfl func271 (by kernel_rfl) (by kernel_rfl) (by kernel_rfl) (by kernel_rfl) H hi hu hne ha) H hi hu hne ha
def HW:Shelf.Ren:=⟨λn=>if n == 29 then 0 else 0,λn=>if n == 24 then 70 else if n == 9 then 35 else if n == 3 then 3 else if n == 4 then 4 else 0,λn=>n⟩
theorem MA:El Tryz.prog HW 35 4 [.int .i64 0,.int .i64 0,.string ⟨#[]⟩,.bool false] 40:=⟨underlying70,underlying3,by kernel_rfl,by kernel_rfl,by kernel_rfl,Gg,by kernel_rfl,rfl,rfl,rfl,by decide⟩
theorem Wa.delete_c {w:WD} {os:List Ob} {rs:List Rp} {ix:Nat} {v:VL} {xs:List aP} (H:Sep w os rs) (hi:os[ix]? =some (Row 35 aR v xs)) {a b:Int} (hab:0 <= a/\a < xs.length/\b=a+1) :
  Calls Tryz.prog 198 [v,.int .i64 a,.int .i64 b].toArray w (Ret λv' w'=>Sep w' (os.set ix (Row 35 aR v' (xs.eraseIdx a.toNat))) rs):=
 On mQ MA rfl func198 (by kernel_rfl) ntmps198 rfl H hi hab
end Go.Cb
