/- Base 4: how operations run. -/
import Derived.Test.YtidapdacihcckaaGreatDoorB3te
import Derived.Laws.BytesArg
set_option linter.unusedVariables false
set_option linter.unusedSimpArgs false
namespace Go.Cb
open Go.RowKit

def idx {α : Type} (xs : List α) (i : Int) : Option α := if 0 ≤ i then xs[i.toNat]? else none
def ck (p : Prop) [Decidable p] : Option Unit := if p then some () else none
theorem ck_of {p : Prop} [Decidable p] {u : Unit} (h : ck p = some u) : p := by
  unfold ck at h
  split at h
  · assumption
  · cases h
def iand (k : IntKind) (x y : Int) : Int := k.wrap (BitVec.ofInt k.bits x &&& BitVec.ofInt k.bits y).toNat
def ior (k : IntKind) (x y : Int) : Int := k.wrap (BitVec.ofInt k.bits x ||| BitVec.ofInt k.bits y).toNat
def ixor (k : IntKind) (x y : Int) : Int := k.wrap (BitVec.ofInt k.bits x ^^^ BitVec.ofInt k.bits y).toNat
def iandNot (k : IntKind) (x y : Int) : Int := k.wrap (BitVec.ofInt k.bits x &&& ~~~BitVec.ofInt k.bits y).toNat
def ishr (k : IntKind) (x y : Int) : Int := x.fdiv (2 ^ (min y.toNat k.bits))
def ib (op : BinOp) (k : IntKind) (x y : Int) : Option Value :=
  match op with
  | .add => some (.int k (k.wrap (x + y)))
  | .sub => some (.int k (k.wrap (x - y)))
  | .mul => some (.int k (k.wrap (x * y)))
  | .eql => some (.bool (x == y))
  | .neq => some (.bool (x != y))
  | .lss => some (.bool (decide (x < y)))
  | .leq => some (.bool (decide (x ≤ y)))
  | .gtr => some (.bool (decide (x > y)))
  | .geq => some (.bool (decide (x ≥ y)))
  | .and => some (.int k (iand k x y))
  | .or => some (.int k (ior k x y))
  | .xor => some (.int k (ixor k x y))
  | .andNot => some (.int k (iandNot k x y))
  | _ => none
def sEq (x y : ByteArray) : Bool := x.toList == y.toList
def sLt (x y : ByteArray) : Bool := Op.bytesLess x.toList y.toList
def sb (op : BinOp) (x y : ByteArray) : Option Value :=
  match op with
  | .eql => some (.bool (sEq x y))
  | .neq => some (.bool (!sEq x y))
  | .lss => some (.bool (sLt x y))
  | .leq => some (.bool (sLt x y || sEq x y))
  | .gtr => some (.bool !(sLt x y || sEq x y))
  | .geq => some (.bool !(sLt x y))
  | _ => none
def strOf (xs : List Int) : ByteArray := ⟨(xs.map fun n => UInt8.ofNat n.toNat).toArray⟩
def bytesOf (s : ByteArray) : List Int := s.data.toList.map fun b => (b.toNat : Int)

section
variable {P : Program} {o : Oper} {w : World} {a : Act} {n : Nat} {env : List (Nat × Value)}
theorem x_move (E : Env n a env) {x : Operand} {v : Value} (ho : o.op = .move x) (hx : opv env x = some v) : (execOp a.eval o).run P w = .ok (.value v) w := by
  simp only [execOp, ho, E.eval hx]; rfl
theorem x_assign (E : Env n a env) {x : Operand} {v : Value} (ho : o.op = .assign x) (hx : opv env x = some v) : (execOp a.eval o).run P w = .ok (.value v) w := by
  simp only [execOp, ho, E.eval hx]; rfl
theorem x_bin (E : Env n a env) {op : BinOp} {t t' : TypeId} {x y : Operand} {k : IntKind} {i j : Int} {v : Value} (ho : o.op = .binOp op t x y t') (hx : opv env x = some (.int k i)) (hy : opv env y = some (.int k j)) (hv : ib op k i j = some v) : (execOp a.eval o).run P w = .ok (.value v) w := by
  simp only [execOp, ho, E.eval hx, E.eval hy]
  cases op <;> simp [ib] at hv <;> subst hv <;> simp [eqGuard, binOp, Op.intArith, Op.intCmp, Op.intBits, Sem.run_bind, iand, ior, ixor, iandNot]
theorem x_shr (E : Env n a env) {t t' : TypeId} {x y : Operand} {k k' : IntKind} {i j : Int} (ho : o.op = .binOp .shr t x y t') (hx : opv env x = some (.int k i)) (hy : opv env y = some (.int k' j)) (hj : 0 ≤ j) : (execOp a.eval o).run P w = .ok (.value (.int k (ishr k i j))) w := by
  simp only [execOp, ho, E.eval hx, E.eval hy]
  simp [eqGuard, binOp, Op.shift, Sem.run_bind, ishr, Int.not_lt.2 hj]
theorem x_quo (E : Env n a env) {t t' : TypeId} {x y : Operand} {k : IntKind} {i j : Int} (ho : o.op = .binOp .quo t x y t') (hx : opv env x = some (.int k i)) (hy : opv env y = some (.int k j)) (hj : j ≠ 0) : (execOp a.eval o).run P w = .ok (.value (.int k (k.wrap (i.tdiv j)))) w := by
  simp only [execOp, ho, E.eval hx, E.eval hy]
  simp [eqGuard, binOp, Op.intDiv, Sem.run_bind, hj]
theorem x_rem (E : Env n a env) {t t' : TypeId} {x y : Operand} {k : IntKind} {i j : Int} (ho : o.op = .binOp .rem t x y t') (hx : opv env x = some (.int k i)) (hy : opv env y = some (.int k j)) (hj : j ≠ 0) : (execOp a.eval o).run P w = .ok (.value (.int k (i.tmod j))) w := by
  simp only [execOp, ho, E.eval hx, E.eval hy]
  simp [eqGuard, binOp, Op.intDiv, Sem.run_bind, hj]
theorem x_str (E : Env n a env) {op : BinOp} {t t' : TypeId} {x y : Operand} {i j : ByteArray} {v : Value} (ho : o.op = .binOp op t x y t') (hx : opv env x = some (.string i)) (hy : opv env y = some (.string j)) (hv : sb op i j = some v) : (execOp a.eval o).run P w = .ok (.value v) w := by
  simp only [execOp, ho, E.eval hx, E.eval hy]
  cases op <;> simp [sb] at hv <;> subst hv <;> simp [eqGuard, binOp, Op.stringOp, Sem.run_bind, sEq, sLt]
theorem x_cat (E : Env n a env) {t t' : TypeId} {x y : Operand} {i j : ByteArray} (ho : o.op = .binOp .add t x y t') (hx : opv env x = some (.string i)) (hy : opv env y = some (.string j)) (hl : i.size + j.size ≤ 4611686018427387904) : (execOp a.eval o).run P w = .ok (.value (.string (i ++ j))) w := by
  simp only [execOp, ho, E.eval hx, E.eval hy]
  have h : ¬ (((i.size + j.size : Nat) : Int) > IntKind.i64.max) := by
    have : IntKind.i64.max = 9223372036854775807 := by decide
    omega
  simp [eqGuard, binOp, Op.stringOp, Sem.run_bind]
  omega
theorem x_not (E : Env n a env) {t : TypeId} {x : Operand} {b : Bool} (ho : o.op = .unOp .not t x) (hx : opv env x = some (.bool b)) : (execOp a.eval o).run P w = .ok (.value (.bool !b)) w := by
  simp only [execOp, ho, E.eval hx]; rfl
theorem x_pickT (E : Env n a env) {c x y : Operand} {b : Bool} {v : Value} (ho : o.op = .pick c x y) (hc : opv env c = some (.bool b)) (hb : b = true) (hx : opv env x = some v) : (execOp a.eval o).run P w = .ok (.value v) w := by
  subst hb
  simp only [execOp, ho, E.eval hc, E.eval hx]; rfl
theorem x_pickF (E : Env n a env) {c x y : Operand} {b : Bool} {v : Value} (ho : o.op = .pick c x y) (hc : opv env c = some (.bool b)) (hb : b = false) (hx : opv env y = some v) : (execOp a.eval o).run P w = .ok (.value v) w := by
  subst hb
  simp only [execOp, ho, E.eval hc, E.eval hx]; rfl
theorem x_ext (E : Env n a env) {x : Operand} {i : Nat} {vs : Array Value} {v : Value} (ho : o.op = .extract x i) (hx : opv env x = some (.tuple vs)) (hv : vs[i]? = some v) : (execOp a.eval o).run P w = .ok (.value v) w := by
  simp only [execOp, ho, E.eval hx]
  simp [Instr.extract, Sem.run_bind, hv]
theorem x_fa (E : Env n a env) {x : Operand} {T : TypeId} {i : Nat} {v u : Value} (ho : o.op = .fieldAddr T x i) (hx : opv env x = some u) (hr : (Instr.fieldAt T u i).run P w = .ok v w) : (execOp a.eval o).run P w = .ok (.value v) w := by
  simp only [execOp, ho, E.eval hx]
  simp [Sem.run_bind, hr]
theorem x_conv (E : Env n a env) {x : Operand} {s t : TypeId} {v u : Value} (ho : o.op = .convert s t x) (hx : opv env x = some u) (hr : (convert s t u).run P w = .ok v w) : (execOp a.eval o).run P w = .ok (.value v) w := by
  simp only [execOp, ho, E.eval hx]
  simp [Sem.run_bind, hr]
theorem x_bin2 (E : Env n a env) {op : BinOp} {t t' : TypeId} {x y : Operand} {u1 u2 v : Value} (ho : o.op = .binOp op t x y t') (hx : opv env x = some u1) (hy : opv env y = some u2) (hr : (do eqGuard op t x y u1 u2; binOp op t u1 u2 : Sem Value).run P w = .ok v w) : (execOp a.eval o).run P w = .ok (.value v) w := by
  simp only [execOp, ho, E.eval hx, E.eval hy]
  rw [Sem.run_bind, hr]; rfl
theorem x_build (E : Env n a env) {T : TypeId} {ps : List (Nat × Operand)} {vs : List (Nat × Value)} {v : Value} (ho : o.op = .build T ps.toArray) (hx : ps.map (fun p => (p.1, a.eval p.2)) = vs) (hr : (Instr.build T vs.toArray).run P w = .ok v w) : (execOp a.eval o).run P w = .ok (.value v) w := by
  have : (ps.toArray.map fun p => (p.1, a.eval p.2)) = vs.toArray := by rw [List.map_toArray, hx]
  simp only [execOp, ho]
  simp [Sem.run_bind]
  simp at this
  rw [this, hr]
  rfl
theorem x_func (E : Env n a env) {fn : Fn} {fs cs : List Operand} {us vs : List Value} (ho : o.op = .makeFunc fn fs.toArray cs.toArray) (h1 : opvs env fs = some us) (h2 : opvs env cs = some vs) : (execOp a.eval o).run P w = .ok (.value (.func fn us.toArray vs.toArray)) w := by
  simp only [execOp, ho, E.evals h1, E.evals h2]; rfl
theorem x_ix (E : Env n a env) {t : TypeId} {x i : Operand} {k : IntKind} {j : Int} {s : ByteArray} {c : UInt8} (ho : o.op = .index t x i) (hx : opv env x = some (.string s)) (hi : opv env i = some (.int k j)) (ht : P.underlying t = some .string) (hc : idx s.data.toList j = some c) : (execOp a.eval o).run P w = .ok (.value (.int .u8 (c.toNat : Int))) w := by
  simp only [execOp, ho, E.eval hx, E.eval hi]
  unfold idx at hc
  split at hc
  · rename_i h0
    have h1 : s[j.toNat]? = some c := by
      have : s.data[j.toNat]? = some c := by simpa using hc
      rw [← this]; rfl
    simp [Sem.run_bind, Instr.index, asIntOf, run_underlying ht, h0, h1]
  · cases hc
theorem x_lenStr (E : Env n a env) {t : TypeId} {x : Operand} {s : ByteArray} (ho : o.op = .call { callee := .builtin .len, args := #[x], argTypes := #[t] }) (hx : opv env x = some (.string s)) (ht : P.underlying t = some .string) : (execOp a.eval o).run P w = .ok (.value (.int .i64 (s.size : Int))) w := by
  simp only [execOp, ho]
  simp [Sem.run_bind, resolve, invoke, builtin, E.eval hx, Builtin.len_, run_underlying ht, goInt]
theorem x_min (E : Env n a env) {t : TypeId} {x y : Operand} {k : IntKind} {i j : Int} {ts : Array TypeId} (ho : o.op = .call { callee := .builtin .min, args := #[x, y], argTypes := ts }) (hx : opv env x = some (.int k i)) (hy : opv env y = some (.int k j)) : (execOp a.eval o).run P w = .ok (.value (.int k (min i j))) w := by
  have : min i j = if j < i then j else i := by
    rw [Int.min_def]; split <;> split <;> omega
  rw [this]
  simp only [execOp, ho]
  simp [Sem.run_bind, resolve, invoke, builtin, E.eval hx, E.eval hy, Builtin.min_, Builtin.min2]
theorem x_max (E : Env n a env) {t : TypeId} {x y : Operand} {k : IntKind} {i j : Int} {ts : Array TypeId} (ho : o.op = .call { callee := .builtin .max, args := #[x, y], argTypes := ts }) (hx : opv env x = some (.int k i)) (hy : opv env y = some (.int k j)) : (execOp a.eval o).run P w = .ok (.value (.int k (max i j))) w := by
  simp only [execOp, ho]
  simp [Sem.run_bind, resolve, invoke, builtin, E.eval hx, E.eval hy, Builtin.max_, Builtin.max2]
  rw [Int.max_def]; split <;> split <;> omega
theorem cf_of {f : FuncId} {fn : Func} (h : P.funcs[f]? = some fn) (hb : fn.body.isNone = false) (hn : (fn.name == "runtime.NumGoroutine") = false) (args : Array Value) : (callFunc f args).run P w = .ok (.enter f args) w := by
  simp only [callFunc, Sem.run_bind]
  simp [program, Sem.run, h, hb, hn, Result.andThen]
theorem x_call (E : Env n a env) {f : FuncId} {xs : List Operand} {ts : Array TypeId} {vs : List Value} (ho : o.op = .call { callee := .value (.func f), args := xs.toArray, argTypes := ts }) (hx : opvs env xs = some vs)
    (hcf : ∀ args, (callFunc f args).run P w = .ok (.enter f args) w) : (execOp a.eval o).run P w = .ok (.enter f vs.toArray) w := by
  have hE := E.evals hx
  simp only [execOp, ho]
  simp only [resolve, hE, Sem.run_bind]
  simp [Act.eval, Deferred.ofValue, invoke, hcf, Result.andThen, Sem.run]
theorem x_callv (E : Env n a env) {t : Operand} {f : FuncId} {fs cs : List Value} {xs : List Operand} {ts : Array TypeId} {vs : List Value} (ho : o.op = .call { callee := .value t, args := xs.toArray, argTypes := ts }) (hf : opv env t = some (.func (.func f) fs.toArray cs.toArray)) (hx : opvs env xs = some vs)
    (hcf : ∀ args, (callFunc f args).run P w = .ok (.enter f args) w) : (execOp a.eval o).run P w = .ok (.enter f (fs ++ vs ++ cs).toArray) w := by
  have hE := E.evals hx
  simp only [execOp, ho]
  simp only [resolve, hE, Sem.run_bind, E.eval hf]
  simp [Deferred.ofValue, invoke, hcf, Result.andThen, Sem.run]
end
end Go.Cb
