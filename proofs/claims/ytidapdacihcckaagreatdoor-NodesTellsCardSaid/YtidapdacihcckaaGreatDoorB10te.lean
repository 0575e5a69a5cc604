/- Base 10: results that lie in cells. -/
import Derived.Test.YtidapdacihcckaaGreatDoorB9te
set_option linter.unusedVariables false
set_option linter.unusedSimpArgs false
namespace Go.Cb
open Go.RowKit
section
variable {P : Program} {w : World} {a : Act} {n : Nat} {env : List (Nat × Value)} {os : List Ob} {rs : List Rp}
def RV (P : Program) (w : World) (env : List (Nat × Value)) : ResultVar → Value → Prop
  | .tmp t, v => look env t = some v
  | .cell t T, v => ∃ q, look env t = some (.pointer (some q)) ∧ (loadVar T q).run P w = .ok v w
def resRun (tmps : Array Value) : ResultVar → Sem Value
  | .tmp t => pure (tmps.getD t undef)
  | .cell a t => do loadVar t (← asAddr (tmps.getD a undef))
theorem RV.run (E : Env n a env) {r : ResultVar} {v : Value} (h : RV P w env r v) : (resRun a.tmps r).run P w = .ok v w := by
  cases r with
  | tmp t => simp [resRun, E.getD h]
  | cell t T =>
    obtain ⟨q, h1, h2⟩ := h
    simp [resRun, E.getD h1, asAddr, Sem.run_bind, h2]
theorem results_run1 {fn : Func} {r : ResultVar} (hr : fn.results = #[r]) (E : Env n a env) {v : Value} (h : RV P w env r v) : (results fn a.tmps).run P w = .ok v w := by
  have h1 := h.run E
  have e : results fn a.tmps = (do let vs ← (#[r] : Array ResultVar).mapM (resRun a.tmps); pure (if h : vs.size = 1 then vs[0] else .tuple vs)) := by
    unfold results; rw [hr]; rfl
  rw [e]
  simp [Sem.run_bind, h1]
theorem results_run2 {fn : Func} {r s : ResultVar} (hr : fn.results = #[r, s]) (E : Env n a env) {v x : Value} (h : RV P w env r v) (k : RV P w env s x) : (results fn a.tmps).run P w = .ok (.tuple #[v, x]) w := by
  have h1 := h.run E
  have h2 := k.run E
  have e : results fn a.tmps = (do let vs ← (#[r, s] : Array ResultVar).mapM (resRun a.tmps); pure (if h : vs.size = 1 then vs[0] else .tuple vs)) := by
    unfold results; rw [hr]; rfl
  rw [e]
  simp [Sem.run_bind, h1, h2]
theorem rvT {t : Tmp} {v : Value} (h : look env t = some v) : RV P w env (.tmp t) v := h
theorem rvBN (H : Sep w os rs) {t : Tmp} {T : TypeId} {i p j : Nat} {B : TypeId} {cs us : List Value} {d : TypeDesc} (hx : look env t = some (.pointer (some ⟨p, j, none⟩)))
    (hi : os[i]? = some (Blk p B cs)) (hj : (cs.drop j).take us.length = us) (hu : P.underlying T = some d) (hp : plainDesc d = false) (hs : (P.info? T).map (·.size) = some us.length) : RV P w env (.cell t T) (.agg us.toArray) := by
  refine ⟨_, hx, ?_⟩
  have := run_loadCells_list (P := P) (w := w) ⟨p, j, none⟩ us fun k u hk => by
    rw [add_lit]
    refine H.blk_cell hi ?_
    rw [← hj, List.getElem?_take] at hk
    split at hk
    · rw [List.getElem?_drop] at hk; exact hk
    · cases hk
  simp [loadVar, Sem.run_bind, isAgg_agg hu hp, run_size hs, this]
theorem outR1 {fn : Func} {R : Value → World → Prop} (E : Env n a env) {r : ResultVar} (hr : fn.results = #[r]) {v : Value} (h1 : RV P w env r v) (h : R v w) : bodyPost P fn (Ret R) .ret a w :=
  ⟨E.defers, _, results_run1 hr E h1, h⟩
theorem outR2 {fn : Func} {R : Value → World → Prop} (E : Env n a env) {r s : ResultVar} (hr : fn.results = #[r, s]) {v x : Value} (h1 : RV P w env r v) (h2 : RV P w env s x) (h : R (.tuple #[v, x]) w) : bodyPost P fn (Ret R) .ret a w :=
  ⟨E.defers, _, results_run2 hr E h1 h2, h⟩
end
end Go.Cb
