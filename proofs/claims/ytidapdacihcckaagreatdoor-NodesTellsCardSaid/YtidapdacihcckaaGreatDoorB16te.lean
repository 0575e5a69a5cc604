/- Base 16: objects that are no cells; ranges over a string. -/
import Derived.Test.YtidapdacihcckaaGreatDoorB15te
import Derived.RangeFuncRecord
set_option linter.unusedVariables false
set_option linter.unusedSimpArgs false
namespace Go.Cb
open Go.RowKit
/-- an object that is no cells. -/
def ObjO (l : Nat) (o : Obj) : Ob where
  p w own _ := own l ∧ w.heap[l]? = some o
  keep := by
    rintro w w' own own' ok ok' ⟨h1, h2⟩ k ho _
    have hb : l < w.heap.size := (Array.getElem?_eq_some_iff.1 h2).1
    exact ⟨ho l hb h1, (k.block l hb (.inl h1)).trans h2⟩
section
variable {w w' : World} {os os' : List Ob} {rs : List Rp}
theorem Sep.objAt (H : Sep w os rs) {i l : Nat} {o : Obj} (hi : os[i]? = some (ObjO l o)) : w.heap[l]? = some o := by
  obtain ⟨_, _, h⟩ := H.ob i hi
  exact h.2
theorem Sep.newObj (H : Sep w os rs) (o : Obj) : Sep (w.alloc o) (ObjO w.heap.size o :: os) rs :=
  H.new (Kp.alloc _ w _) fun ok _ => ⟨Nat.le_refl _, heap_alloc_new w _⟩
theorem Sep.put (H : Sep w os rs) {i l : Nat} {o : Obj} (hi : os[i]? = some (ObjO l o)) (o' : Obj) : Sep (w.putObj l o') (os.set i (ObjO l o')) rs := by
  refine H.upd i hi fun own ok _ ho => ⟨⟨rfl, rfl, rfl, by simp, fun b hb hn => ?_⟩, .inl ho.1, World.putObj_heap_same (Array.getElem?_eq_some_iff.1 ho.2).1⟩
  exact World.putObj_heap_other fun e => hn (by rw [e]; exact ho.1)
end
section
variable {P : Program} {ops : Array Oper} {Q : Exit → Act → World → Prop} {rest : List Oper} {o : Oper} {w : World} {a : Act} {n : Nat} {env : List (Nat × Value)} {os : List Ob} {rs : List Rp}
theorem st_rangeS (E : Env n a env) (H : Sep w os rs) (hw : Region.wanted o (yielded ops a.tmps) = true) {dd : Nat} (hd : o.dst = some dd) (hdn : Nat.ble (dd + 1) n = true) {t : TypeId} {x : Operand} {s : ByteArray} (ho : o.op = .range t x) (hx : opv env x = some (.string s)) (ht : P.underlying t = some .string)
    (k : ∀ q w' a', Sep w' (ObjO q (.stringIter s 0) :: os) rs → Env n a' ((dd, .pointer (some ⟨q, 0, none⟩)) :: env) → wpList P ops Q rest a' w') : wpList P ops Q (o :: rest) a w := by
  refine st_val E hw hd hdn (v := .pointer (some ⟨w.heap.size, 0, none⟩)) (w' := w.alloc (.stringIter s 0)) ?_ fun a' E' => k _ _ a' (H.newObj _) E'
  simp only [execOp, ho, E.eval hx]
  simp [Sem.run_bind, Instr.range, run_underlying ht, newObj, Sem.run, Result.andThen]
theorem st_nextS1 {i q pos : Nat} {s : ByteArray} (E : Env n a env) (H : Sep w os rs) (hw : Region.wanted o (yielded ops a.tmps) = true) {dd : Nat} (hd : o.dst = some dd) (hdn : Nat.ble (dd + 1) n = true) {x : Operand} (ho : o.op = .next x true) (hx : opv env x = some (.pointer (some ⟨q, 0, none⟩)))
    (hi : os[i]? = some (ObjO q (.stringIter s pos))) (hlt : decide (pos < s.size) = true)
    (k : ∀ w' a', Sep w' (os.set i (ObjO q (.stringIter s (pos + (Utf8.decode s pos).2)))) rs → Env n a' ((dd, .tuple #[.bool true, .int .i64 (pos : Int), .int .i32 ((Utf8.decode s pos).1 : Int)]) :: env) → wpList P ops Q rest a' w') : wpList P ops Q (o :: rest) a w := by
  refine st_val E hw hd hdn (w' := w.putObj q (.stringIter s (pos + (Utf8.decode s pos).2))) ?_ fun a' E' => k _ a' (H.put hi _) E'
  have h := H.objAt hi
  simp only [execOp, ho, E.eval hx]
  simp [Sem.run_bind, Instr.next, getObj, setObj, Sem.run, h, Result.andThen, of_decide_eq_true hlt, World.putObj, goInt]
theorem st_nextS0 {i q pos : Nat} {s : ByteArray} (E : Env n a env) (H : Sep w os rs) (hw : Region.wanted o (yielded ops a.tmps) = true) {dd : Nat} (hd : o.dst = some dd) (hdn : Nat.ble (dd + 1) n = true) {x : Operand} (ho : o.op = .next x true) (hx : opv env x = some (.pointer (some ⟨q, 0, none⟩)))
    (hi : os[i]? = some (ObjO q (.stringIter s pos))) (hlt : decide (pos < s.size) = false)
    (k : ∀ a', Env n a' ((dd, .tuple #[.bool false]) :: env) → wpList P ops Q rest a' w) : wpList P ops Q (o :: rest) a w := by
  refine st_val E hw hd hdn ?_ k
  have h := H.objAt hi
  simp only [execOp, ho, E.eval hx]
  simp [Sem.run_bind, Instr.next, getObj, setObj, Sem.run, h, Result.andThen, of_decide_eq_false hlt]
end
end Go.Cb
