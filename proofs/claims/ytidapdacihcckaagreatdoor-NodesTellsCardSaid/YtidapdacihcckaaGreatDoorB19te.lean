/- Base 19: maps of strings to ints that are owned. -/
import Derived.Test.YtidapdacihcckaaGreatDoorB18te
import Derived.Maps.Own
import Derived.Maps.Views
import Derived.StringKeys
import Derived.Carry
set_option linter.unusedVariables false
set_option linter.unusedSimpArgs false
namespace Go.Cb
open Go.RowKit
def mput (f : List UInt8 → Int) (k : List UInt8) (v : Int) : List UInt8 → Int := fun s => if s = k then v else f s
def MapSI (P : Program) (k e : TypeId) (b n : Nat) (f : List UInt8 → Int) : Ob where
  p w own _ := own b ∧ ∃ D : DataW Unit, w.ownsMap P k (plainElem P e) b n D ∧ ∀ s : List UInt8, D.atKey (.string s) (.lit (.int .i64 0)) = .lit (.int .i64 (f s))
  keep := by
    rintro w w' own own' ok ok' ⟨h1, D, h2, h3⟩ k ho _
    have hlt := h2.lt
    refine ⟨ho b hlt h1, D, ?_, h3⟩
    obtain ⟨es, clock, hb, F, hs, hD⟩ := h2
    exact ⟨es, clock, (k.block b hlt (.inl h1)).trans hb, F, hs, hD⟩
section
variable {P : Program} {w : World} {os : List Ob} {rs : List Rp} {k e t : TypeId} {b n : Nat} {f : List UInt8 → Int}
theorem zero_run {z : Value} (hz : (P.info? e).bind (·.zero) = some z) (w : World) : (zeroValue e).run P w = .ok z w := by
  obtain ⟨i, hi, hzz⟩ := Option.bind_eq_some_iff.1 hz
  simp [zeroValue, typeInfo, Sem.run_bind, hi, hzz]
theorem map_look {own ok : Nat → Prop} (h : (MapSI P k e b n f).p w own ok) (hk : P.underlying k = some .string) (ht : P.underlying t = some (.map k e)) (he : P.underlying e = some (.int .i64)) (hz : (P.info? e).bind (·.zero) = some (.int .i64 0)) {s : ByteArray} (hs : s.size ≤ maxLen) :
    (Instr.lookup t (.map (some b)) (.string s) false).run P w = .ok (.int .i64 (f s.data.toList)) w := by
  obtain ⟨_, D, h2, h3⟩ := h
  obtain ⟨c, hr, ha, _⟩ := h2.lookup_int (Maps.string_keyed hk) ht he (zero_run hz w) (WideMaps.keyOf_string_mk hk hs)
  rw [h3] at ha
  cases ha
  exact hr
theorem Sep.newMap (H : Sep w os rs) (P : Program) (k e : TypeId) : Sep (w.alloc (.map #[] 0)) (MapSI P k e w.heap.size 0 (fun _ => 0) :: os) rs :=
  H.new (Kp.alloc _ w _) fun ok _ => ⟨Nat.le_refl _, _, World.ownsMap_made w P k _, fun _ => rfl⟩
theorem Sep.mapPut (H : Sep w os rs) {i : Nat} (hi : os[i]? = some (MapSI P k e b n f)) (hk : P.underlying k = some .string) (ht : P.underlying t = some (.map k e)) (he : P.underlying e = some (.int .i64)) {s : ByteArray} (hs : s.size ≤ maxLen) {v : Int} (hv : (Lit.int .i64 v).wf = true) (hn : n < maxLen) :
    ∃ w', (Instr.mapUpdate t (.map (some b)) (.string s) (.int .i64 v)).run P w = .ok () w' ∧ Sep w' (os.set i (MapSI P k e b (n + 1) (mput f s.data.toList v))) rs := by
  obtain ⟨col, h1, h2⟩ := H
  obtain ⟨hb, D, hD, hf⟩ := h1 i _ hi
  obtain ⟨w', hr, hD', hg⟩ := hD.update (Maps.string_keyed hk) ht hn (WideMaps.keyOf_string_mk hk hs) (plainElem_int he hv)
  refine ⟨w', hr, Sep.upd_col h1 h2 i hi ((Kp.grown hg).mono fun c _ hc e => hc (by cases e; exact hb)) ⟨.inl hb, _, hD', fun s' => ?_⟩⟩
  obtain ⟨es, clock, _, _, _, rfl⟩ := hD
  unfold mput
  split
  · rename_i e'
    subst e'
    exact Maps.atKey_put_same ⟨_, rfl⟩ (by first | exact trivial | exact .string _ | simp [WideAt.IsKeyLit]) _ _
  · rename_i e'
    rw [Maps.atKey_put_other (by intro h; cases h; exact e' rfl)]
    exact hf s'
end
section
variable {P : Program} {ops : Array Oper} {Q : Exit → Act → World → Prop} {rest : List Oper} {o : Oper} {w : World} {a : Act} {n : Nat} {env : List (Nat × Value)} {os : List Ob} {rs : List Rp} {k e t : TypeId} {b m : Nat} {f : List UInt8 → Int}
theorem st_makeMap (E : Env n a env) (H : Sep w os rs) (hw : Region.wanted o (yielded ops a.tmps) = true) {dd : Nat} (hd : o.dst = some dd) (hdn : Nat.ble (dd + 1) n = true) (ho : o.op = .makeMap t none)
    (K : ∀ b w' a', Sep w' (MapSI P k e b 0 (fun _ => 0) :: os) rs → Env n a' ((dd, .map (some b)) :: env) → wpList P ops Q rest a' w') : wpList P ops Q (o :: rest) a w := by
  refine st_val E hw hd hdn (v := .map (some w.heap.size)) (w' := w.alloc (.map #[] 0)) ?_ fun a' E' => K _ _ a' (H.newMap P k e) E'
  simp only [execOp, ho]
  have := run_makeMap (P := P) t w
  simp [Sem.run_bind, this, Result.andThen]
theorem x_look (E : Env n a env) (H : Sep w os rs) {x y : Operand} {i : Nat} {s : ByteArray} (ho : o.op = .lookup t x y false) (hx : opv env x = some (.map (some b))) (hy : opv env y = some (.string s)) (hi : os[i]? = some (MapSI P k e b m f))
    (hk : P.underlying k = some .string) (ht : P.underlying t = some (.map k e)) (he : P.underlying e = some (.int .i64)) (hz : (P.info? e).bind (·.zero) = some (.int .i64 0)) (hs : s.size ≤ maxLen) : (execOp a.eval o).run P w = .ok (.value (.int .i64 (f s.data.toList))) w := by
  obtain ⟨_, _, h⟩ := H.ob i hi
  have := map_look h hk ht he hz hs
  simp only [execOp, ho, E.eval hx, E.eval hy]
  simp [Sem.run_bind, this, Result.andThen]
theorem x_lookI (E : Env n a env) {x y : Operand} {s : ByteArray} (ho : o.op = .lookup t x y false) (hx : opv env x = some (.map (some b))) (hy : opv env y = some (.string s)) (hi : MapSI P k e b m f ∈ os)
    (hk : P.underlying k = some .string) (ht : P.underlying t = some (.map k e)) (he : P.underlying e = some (.int .i64)) (hz : (P.info? e).bind (·.zero) = some (.int .i64 0)) (hs : s.size ≤ maxLen) (hW : Still os rs w) : (execOp a.eval o).run P w = .ok (.value (.int .i64 (f s.data.toList))) w := by
  obtain ⟨os', rs', H, h1, _⟩ := hW
  obtain ⟨i, hi'⟩ := List.getElem?_of_mem (h1 _ hi)
  exact x_look E H ho hx hy hi' hk ht he hz hs
theorem st_mapPut (E : Env n a env) (H : Sep w os rs) (hw : Region.wanted o (yielded ops a.tmps) = true) (hd : o.dst = none) {x y z : Operand} {i : Nat} {s : ByteArray} {v : Int} (ho : o.op = .mapUpdate t x y z) (hx : opv env x = some (.map (some b))) (hy : opv env y = some (.string s)) (hz : opv env z = some (.int .i64 v))
    (hi : os[i]? = some (MapSI P k e b m f)) (hk : P.underlying k = some .string) (ht : P.underlying t = some (.map k e)) (he : P.underlying e = some (.int .i64)) (hs : s.size ≤ maxLen) (hv : (Lit.int .i64 v).wf = true) (hn : m < maxLen)
    (K : ∀ w', Sep w' (os.set i (MapSI P k e b (m + 1) (mput f s.data.toList v))) rs → wpList P ops Q rest a w') : wpList P ops Q (o :: rest) a w := by
  obtain ⟨w', hr, H'⟩ := H.mapPut (t := t) hi hk ht he hs hv hn
  refine st_skip E hw hd (w' := w') ?_ (K w' H')
  simp only [execOp, ho, E.eval hx, E.eval hy, E.eval hz]
  simp [Sem.run_bind, hr]
end
end Go.Cb
