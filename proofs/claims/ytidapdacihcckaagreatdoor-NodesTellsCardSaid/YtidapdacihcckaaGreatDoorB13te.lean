/- Base 13: short forms of the steps that come most. -/
import Derived.Test.YtidapdacihcckaaGreatDoorB12te
set_option linter.unusedVariables false
set_option linter.unusedSimpArgs false
namespace Go.Cb
open Go.RowKit
section
variable {P : Program} {ops : Array Oper} {Q : Exit → Act → World → Prop} {rest : List Oper} {o : Oper} {w w' : World} {a : Act} {n : Nat} {env : List (Nat × Value)}
theorem sv (E : Env n a env) (hg : o.guard = none) {d : Nat} (hd : o.dst = some d) (hdn : Nat.ble (d + 1) n = true) {v : Value}
    (hrun : (execOp a.eval o).run P w = .ok (.value v) w') (k : ∀ a', Env n a' ((d, v) :: env) → wpList P ops Q rest a' w') : wpList P ops Q (o :: rest) a w := st_val E (wn hg) hd hdn hrun k
end
end Go.Cb
