/- Ranges over a function: the statement, and a function's end behind it. -/
import Derived.Test.YtbjpjbopfhbkmaaO1
set_option linter.unusedVariables false
set_option linter.unusedSimpArgs false
namespace Go.Cb
open Go.RowKit
def mark (D : Nat) : Deferred := { target := .collected D, args := #[] }
section
variable {P : Program} {w : World} {os : List Ob} {rs : List Rp}
theorem enterM {f : FuncId} {fn : Func} {c : Code} {args : List Value} {R : Ending → World → Prop} {m : Nat} (hf : P.funcs[f]? = some fn) (hb : fn.body = some c) (hn : fn.ntmps = m) (hm : Nat.ble args.length m = true)
    (h : ∀ a, Env m a (enum 0 args) → c.wpIn (FQ none) 0 P (bodyPostM (FQ none) 0 P fn R) (wd [] a) w) : Calls P f args.toArray w R := by
  refine (callsIn_wide (n := 0)).1 (callsIn_of_wp_marks (F := FQ none) hf hb trivial ?_ rfl)
  rw [hn]
  have := Env.enter args m (Nat.le_of_ble_eq_true hm)
  rw [enum_eq] at this
  exact h _ this
theorem r_range {m : Nat} {env : List (Nat × Value)} {a : Act} (E : Env m a env) {d : List Deferred} {g : Operand} {ps : Array Tmp} {assign body : Code} {Q : Exit → Act → World → Prop} {gf : Nat} {lb : List Value}
    (hg : opv env g = some (.func (.func gf) #[] lb.toArray)) (hcf : ∀ (w : World) (args : Array Value), (callFunc gf args).run P w = .ok (.enter gf args) w) (H : Sep w os rs)
    (h : ∀ (fn l D : Nat) (w₂ : World) (r : Loop), r = { state := .ready, pending := none, fn, tmps := a.tmps, params := ps, assign, body, defers := D } → Sep w₂ (ObjO l (.loop r) :: ObjO D (.deferred (some [])) :: os) rs →
      Calls P gf (.func (.yield l) #[] #[] :: lb).toArray w₂ (Ret fun v w₃ => ∃ (r : Loop) (os' : List Ob), Sep w₃ (ObjO l (.loop r) :: os') rs ∧ r.state ≠ .busy ∧
        ∀ w₄, Sep w₄ (ObjO l (.loop (xh r)) :: os') rs → (match r.pending with
          | none => Q .normal (wd (mark D :: d) a) w₄
          | some c => c.wpIn (FQ none) 0 P Q (wd (mark D :: d) a) w₄))) :
    (Code.rangeFunc g ps assign body).wpIn (FQ none) 0 P Q (wd d a) w := by
  refine wpIn_rangeFunc fun fn _ => ?_
  obtain ⟨W, hW⟩ : ∃ W, (w.alloc (.deferred (some []))).alloc (.loop { state := .ready, pending := none, fn, tmps := a.tmps, params := ps, assign, body, defers := w.heap.size }) = W := ⟨_, rfl⟩
  have H1 := (H.newObj (.deferred (some []))).newObj (.loop { state := .ready, pending := none, fn, tmps := a.tmps, params := ps, assign, body, defers := w.heap.size })
  rw [World.size_alloc, hW] at H1
  refine ⟨w.heap.size + 1, [mark w.heap.size], W, { target := .fn (.func gf) lb.toArray, args := #[.func (.yield (w.heap.size + 1)) #[] #[]] }, W, gf, (.func (.yield (w.heap.size + 1)) #[] #[] :: lb).toArray, W, ?_, ?_, fun _ _ => trivial, ?_, fun e => (by cases e), ?_⟩
  · rw [← hW]; exact run_enterLoop_outer _ _ _ _ _
  · simp only [resolve, wd_eval, E.eval hg]
    simp [go_sem]
  · simp [invoke, go_sem, hcf]
  · refine (callsIn_wide (n := 0)).2 (Calls.mono (h fn _ _ _ _ rfl H1) fun e w₃ q => ?_)
    cases e with
    | returned v =>
      obtain ⟨r, os', H3, hb, hk⟩ := q
      refine ⟨r.pending, w₃.putObj (w.heap.size + 1) (.loop (xh r)), run_endLoop (H3.objAt (i := 0) rfl) hb, ?_⟩
      have hk' := hk _ (H3.put (i := 0) rfl (.loop (xh r)))
      have ha : ({ wd d a with defers := [mark w.heap.size] ++ (wd d a).defers } : Act) = wd (mark w.heap.size :: d) a := by
        simp [wd, E.defers]
      rw [ha]
      cases hp : r.pending with
      | none => rw [hp] at hk'; exact hk'
      | some c => rw [hp] at hk'; exact hk'
    | panicked c => exact q.elim
    | outgrown => exact q.elim
theorem end_plain {m : Nat} {env : List (Nat × Value)} {a : Act} (E : Env m a env) {fn : Func} {R : Value → World → Prop} (h : ∃ v, (results fn a.tmps).run P w = .ok v w ∧ R v w) : bodyPostM (FQ none) 0 P fn (Ret R) .ret (wd [] a) w := by
  show LeavesInM _ _ _ _ _ _ (a.defers ++ []) _ _
  rw [E.defers]
  exact h
theorem end_mark {m : Nat} {env : List (Nat × Value)} {a : Act} (E : Env m a env) {fn : Func} {R : Value → World → Prop} {D i : Nat} (H : Sep w os rs) (hi : os[i]? = some (ObjO D (.deferred (some []))))
    (h : ∀ w', Sep w' (os.set i (ObjO D (.deferred none))) rs → ∃ v, (results fn a.tmps).run P w' = .ok v w' ∧ R v w') : bodyPostM (FQ none) 0 P fn (Ret R) .ret (wd [mark D] a) w := by
  show LeavesInM _ _ _ _ _ _ (a.defers ++ [mark D]) _ _
  rw [E.defers]
  exact ⟨by simp, .inl ⟨D, _, rfl, run_takeDeferred (H.objAt hi), h _ (H.put hi _)⟩⟩
/-! ### how a round ends -/
theorem round_go {l i : Nat} {r : Loop} {R : Ending → World → Prop} {a : Act} (H : Sep w os rs) (hi : os[i]? = some (ObjO l (.loop (bz r)))) (h : r.state = .ready) (h' : r.pending = none) (k : ∀ w', Sep w' (os.set i (ObjO l (.loop r))) rs → R (.returned (.bool true)) w') : roundPost P l R .normal a w :=
  by
  cases r
  simp only at h h'
  subst h
  subst h'
  exact ⟨_, _, run_endRound none (H.objAt hi), k _ (H.put hi _)⟩
theorem round_exit {l i id : Nat} {r : Loop} {R : Ending → World → Prop} {a : Act} (H : Sep w os rs) (hi : os[i]? = some (ObjO l (.loop (bz r)))) (k : ∀ w', Sep w' (os.set i (ObjO l (.loop (dn r (.exit id))))) rs → R (.returned (.bool false)) w') : roundPost P l R (.exit id) a w :=
  ⟨_, _, run_endRound (some (.exit id)) (H.objAt hi), k _ (H.put hi _)⟩
theorem round_ret {l i : Nat} {r : Loop} {R : Ending → World → Prop} {a : Act} (H : Sep w os rs) (hi : os[i]? = some (ObjO l (.loop (bz r)))) (k : ∀ w', Sep w' (os.set i (ObjO l (.loop (dn r .ret)))) rs → R (.returned (.bool false)) w') : roundPost P l R .ret a w :=
  ⟨_, _, run_endRound (some .ret) (H.objAt hi), k _ (H.put hi _)⟩
theorem act2 {n : Nat} {env : List (Nat × Value)} {a : Act} (E : Env n a env) (t u : Nat) (x y : Value) : ({ tmps := ((#[t, u] : Array Tmp).zip [x, y].toArray).foldl (fun tmps (t, a) => tmps.setIfInBounds t a) a.tmps, defers := [] } : Act) = wd [] ((a.put (some t) x).put (some u) y) := by
  simp [wd, Act.put, E.defers]
end
end Go.Cb
