/- Base 18: functions of the model's own tables. -/
import Derived.Test.YtidapdacihcckaaGreatDoorB17te
import Derived.Scope
set_option linter.unusedVariables false
set_option linter.unusedSimpArgs false
namespace Go.Cb
open Go.RowKit
section
variable {P : Program} {o : Oper} {w : World} {a : Act} {n : Nat} {env : List (Nat × Value)}
theorem ext_of {f : FuncId} {fn : Func} {e : Array Value → Sem Value} {args : Array Value} {v : Value} (hf : P.funcs[f]? = some fn) (hn : (fn.name == "runtime.NumGoroutine") = false) (hb : fn.body.isNone = true) (h1 : (Extern.findNext fn).isNone = true) (h2 : Extern.find fn = some e)
    (hv : (e args).run P w = .ok v w) : (callFunc f args).run P w = .ok (.value v) w := by
  have h3 : Extern.findNext fn = none := by cases h : Extern.findNext fn with | none => rfl | some _ => rw [h] at h1; cases h1
  have hn' : ¬ fn.name = "runtime.NumGoroutine" := by simpa using hn
  have hb' : fn.body = none := by simpa using hb
  unfold callFunc
  simp [Sem.run_bind, hf, hn', hb', h2, h3, hv, mark, Result.andThen, Sem.run]
theorem x_callX (E : Env n a env) {f : FuncId} {xs : List Operand} {ts : Array TypeId} {vs : List Value} {v : Value} (ho : o.op = .call { callee := .value (.func f), args := xs.toArray, argTypes := ts }) (hx : opvs env xs = some vs)
    (hcf : (callFunc f vs.toArray).run P w = .ok (.value v) w) : (execOp a.eval o).run P w = .ok (.value v) w := by
  have hE := E.evals hx
  simp only [execOp, ho]
  simp only [resolve, hE, Sem.run_bind]
  simp [Deferred.ofValue, invoke, hcf, Result.andThen, Sem.run, Act.eval]
/-- where a byte stands first. -/
def ixB (s : ByteArray) (c : Int) : Int := match (List.range s.size).find? fun i => s[i]! == c.toNat.toUInt8 with
  | some i => (i : Int)
  | none => -1
theorem run_ixB (s : ByteArray) (c : Int) (w : World) : (Extern.BytealgIndexByte.indexByte #[.string s, .int .u8 c]).run P w = .ok (.int .i64 (ixB s c)) w := by
  have e : Extern.BytealgIndexByte.indexByte #[.string s, .int .u8 c] = (do
      let b ← Extern.Bytes.bytesOf (.string s)
      let c ← Extern.Bytes.asByte (.int .u8 c)
      match (List.range b.size).find? fun i => b[i]! == c with
      | some i => pure (goInt i)
      | none => pure (goInt (-1))) := rfl
  rw [e]
  unfold ixB
  simp only [Extern.Bytes.bytesOf, Extern.Bytes.asByte, Sem.run_bind, Sem.run_pure, Result.andThen]
  split <;> simp_all [goInt]
theorem run_cmpB (s t : ByteArray) (w : World) : (Extern.BytealgCompare.compare #[.string s, .string t]).run P w = .ok (.int .i64 (Extern.BytealgCompare.cmp s t)) w := by
  have e : Extern.BytealgCompare.compare #[.string s, .string t] = (do pure (goInt (Extern.BytealgCompare.cmp (← Extern.Bytes.bytesOf (.string s)) (← Extern.Bytes.bytesOf (.string t))))) := rfl
  rw [e]
  simp [Extern.Bytes.bytesOf, Sem.run_bind, Result.andThen, goInt]
end
section
variable {Q : Exit → Act → World → Prop} {a : Act} {w : World}
theorem ng_R (h : Q .ret a w) : Exit.noGoto Q .ret a w := h
end
end Go.Cb
