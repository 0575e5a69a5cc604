/- Base 24: append(s, make(S, n)...), beyond the room. -/
import Derived.Test.YtidapdacihcckaaGreatDoorB23te
set_option linter.unusedVariables false
set_option linter.unusedSimpArgs false
namespace Go.Cb
open Go.RowKit
section
variable {P : Program} {w : World}
theorem run_appMake {t ti ty e : TypeId} {q : IntKind} {i : TypeInfo} {z : Value} (ht : P.underlying t = some (.slice e)) (hti : P.underlying ti = some (.int q)) (hi : P.info? e = some i) (hz : i.zero = some z) (hs0 : 0 < i.size)
    {b : Addr} {sLen sCap : Nat} {olds : List Value} (hlo : olds.length = sLen * i.size) (holds : ∀ j v, olds[j]? = some v → w.cell? (b.add j) = some v)
    {n : Nat} (hn : 0 < n) (hg : sCap < sLen + n) (h63 : ((sLen + n : Nat) : Int) ≤ 9223372036854775807) (hb48 : n * i.bytes ≤ 281474976710656) (hfit : Builtin.nextslicecap (sLen + n) sCap * i.bytes ≤ 281474976710656) :
    (Builtin.append_ #[t, ti] ty #[.slice (some b) sLen sCap, .int .i64 (n : Int)]).run P w =
      .ok (.slice (some ⟨w.heap.size, 0, none⟩) (sLen + n) (grownCap w (sLen + n) sCap e)) (w.drew.alloc (.cells (olds.toArray ++ Builtin.zeroCells z.cells n ++ Builtin.zeroCells z.cells (grownCap w (sLen + n) sCap e - (sLen + n))) e)) := by
  have hw : IntKind.i64.wrap (n : Int) = (n : Int) := by
    unfold IntKind.wrap; simp [IntKind.bits, IntKind.signed]; omega
  have hge := grownCap_ge w (sLen + n) sCap e
  have hng : ¬ (sLen + n ≤ sCap) := by omega
  have h63' : ¬ (9223372036854775807 < ((sLen + n : Nat) : Int)) := by omega
  have h63'' : ¬ (9223372036854775807 < (sLen : Int) + (n : Int)) := by omega
  have hb48' : ¬ ((281474976710656 : Int) < (n : Int) * (i.bytes : Int)) := by
    have : ((n * i.bytes : Nat) : Int) ≤ 281474976710656 := by omega
    push_cast at this
    omega
  have h48' : ¬ (281474976710656 < Builtin.nextslicecap (sLen + n) sCap * i.bytes) := by omega
  have hf := run_firstCells_some (P := P) w.drew i.size sLen b sLen sCap olds hlo (by simpa using holds)
  have hneg : ¬ ((n : Int) < 0) := by omega
  have hns : ¬ (n * i.size = 0) := by
    intro h
    rcases Nat.mul_eq_zero.1 h with h | h <;> omega
  have hns' : ¬ (n = 0 ∨ i.size = 0) := by omega
  simp [Builtin.append_, run_underlying ht, run_underlying hti, sizeOf, typeInfo, zeroValue, hi, hz, asInt, asIntOf, hw, hneg, Array.append_assoc, hng, h63', h63'', h48', hb48', hns', Question.forced, hf, newRow, grownCap]
  intro h; exact absurd h hns
variable {ops : Array Oper} {Q : Exit → Act → World → Prop} {rest : List Oper} {o : Oper} {a : Act} {n : Nat} {env : List (Nat × Value)} {os : List Ob} {rs : List Rp}
theorem st_appMake (E : Env n a env) (H : Sep w os rs) (hw : Region.wanted o (yielded ops a.tmps) = true) {dd : Nat} (hd : o.dst = some dd) (hdn : Nat.ble (dd + 1) n = true) {x y : Operand} {t ti e : TypeId} {q : IntKind} {g sl sc m sz bytes : Nat} {z : Value} {olds : List Value}
    (ho : o.op = .call { callee := .builtin .append, args := #[x, y], argTypes := #[t, ti] }) (hx : opv env x = some (.slice (some ⟨g, 0, none⟩) sl sc)) (hy : opv env y = some (.int .i64 (m : Int))) (ht : P.underlying t = some (.slice e)) (hti : P.underlying ti = some (.int q))
    (hinfo : (P.info? e).map (fun i => (i.zero, i.size, i.bytes)) = some (some z, sz, bytes)) (hz : z.cells.size = sz) (hsz : 0 < sz) (hlo : olds.length = sl * sz) (holds : ∀ j v, olds[j]? = some v → w.cell? ⟨g, j, none⟩ = some v) (hm : 0 < m) (hg : sc < sl + m) (hlim : (sl + m) * bytes ≤ 140737488355328) (hmax : sl + m ≤ maxLen)
    (K : ∀ g' c' w' a', sl + m ≤ c' → c' ≤ maxLen → Sep w' (Blk g' e (olds ++ (Builtin.zeroCells z.cells m).toList ++ (Builtin.zeroCells z.cells (c' - (sl + m))).toList) :: os) rs → Env n a' ((dd, .slice (some ⟨g', 0, none⟩) (sl + m) c') :: env) → wpList P ops Q rest a' w') : wpList P ops Q (o :: rest) a w := by
  obtain ⟨i0, hi0, hzz⟩ := Option.map_eq_some_iff.1 hinfo
  simp only [Prod.mk.injEq] at hzz
  obtain ⟨hz0, hz1, hz2⟩ := hzz
  subst hz1
  subst hz2
  have hb : m * i0.bytes ≤ 281474976710656 := by
    have h1 : m * i0.bytes ≤ (sl + m) * i0.bytes := Nat.mul_le_mul_right _ (by omega)
    omega
  have hr := run_appMake (P := P) (w := w) (t := t) (ti := ti) (ty := o.type) (b := ⟨g, 0, none⟩) ht hti hi0 hz0 hsz hlo (fun j v hj => by rw [add_lit]; simpa using holds j v hj) hm hg (by simp only [maxLen] at hmax; omega) hb (growslice_fits hg hlim)
  have hge := grownCap_ge w (sl + m) sc e
  have hle := grownCap_le_maxLen w (sl + m) sc e hmax
  rw [show olds.toArray ++ Builtin.zeroCells z.cells m ++ Builtin.zeroCells z.cells (grownCap w (sl + m) sc e - (sl + m)) = (olds ++ (Builtin.zeroCells z.cells m).toList ++ (Builtin.zeroCells z.cells (grownCap w (sl + m) sc e - (sl + m))).toList).toArray from by simp] at hr
  have H2 := (H.drew).newBlk e (olds ++ (Builtin.zeroCells z.cells m).toList ++ (Builtin.zeroCells z.cells (grownCap w (sl + m) sc e - (sl + m))).toList)
  refine st_val E hw hd hdn (v := .slice (some ⟨w.heap.size, 0, none⟩) (sl + m) (grownCap w (sl + m) sc e)) (w' := w.drew.alloc (.cells (olds ++ (Builtin.zeroCells z.cells m).toList ++ (Builtin.zeroCells z.cells (grownCap w (sl + m) sc e - (sl + m))).toList).toArray e)) ?_ fun a' E' => K _ _ _ a' hge hle H2 E'
  simp only [execOp, ho]
  simp [Sem.run_bind, resolve, invoke, builtin, E.eval hx, E.eval hy, hr]
end
end Go.Cb
