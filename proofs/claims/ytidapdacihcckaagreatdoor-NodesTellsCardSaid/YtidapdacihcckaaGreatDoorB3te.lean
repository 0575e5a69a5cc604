/- Base 3: steps. -/
import Derived.Test.YtidapdacihcckaaGreatDoorB2te
import Derived.ScopeJumps
set_option linter.unusedVariables false
set_option linter.unusedSimpArgs false
namespace Go.Cb
open Go.RowKit

theorem bnd {α β : Type} {o : Option α} {f : α → Option β} {r : β} (h : o.bind f = some r) : ∃ x, o = some x ∧ f x = some r := Option.bind_eq_some_iff.1 h
theorem if_t {α : Type} {b : Bool} {x y : α} (h : b = true) : (if b = true then x else y) = x := if_pos h
theorem if_f {α : Type} {b : Bool} {x y : α} (h : b = false) : (if b = true then x else y) = y := if_neg (by rw [h]; exact Bool.false_ne_true)

/-! ### what an ending says -/
def Ret (R : Value → World → Prop) : Ending → World → Prop
  | .returned v, w => R v w
  | _, _ => False

section
variable {P : Program} {ops : Array Oper} {Q : Exit → Act → World → Prop} {rest : List Oper} {o : Oper} {w w' : World} {a : Act} {n : Nat} {env : List (Nat × Value)}

/-! ### guards -/
theorem wn {y : Nat → Option Bool} (h : o.guard = none) : Region.wanted o y = true := by simp [Region.wanted, h]
theorem ws (E : Env n a env) {j d : Nat} {b : Bool} {oj : Oper} (hg : o.guard = some (j, b)) (hj : ops[j]? = some oj) (hd : oj.dst = some d) (hl : look env d = some (.bool b)) : Region.wanted o (yielded ops a.tmps) = true := by
  have := E.get d _ hl
  simp [Region.wanted, hg, yielded, hj, hd, this]
theorem wf (E : Env n a env) {j d : Nat} {b b' : Bool} {oj : Oper} (hg : o.guard = some (j, b)) (hj : ops[j]? = some oj) (hd : oj.dst = some d) (hl : look env d = some (.bool b')) (hb : b' = !b) : Region.wanted o (yielded ops a.tmps) = false := by
  have := E.get d _ hl
  subst hb
  cases b <;> simp [Region.wanted, hg, yielded, hj, hd, this]
theorem ws' (E : Env n a env) {j d : Nat} {b c : Bool} {oj : Oper} (hg : o.guard = some (j, b)) (hj : ops[j]? = some oj) (hd : oj.dst = some d) (hl : look env d = some (.bool c)) (hb : c = b) : Region.wanted o (yielded ops a.tmps) = true := by
  subst hb; exact ws E hg hj hd hl
theorem wf' (E : Env n a env) {j d : Nat} {b c : Bool} {oj : Oper} (hg : o.guard = some (j, b)) (hj : ops[j]? = some oj) (hd : oj.dst = some d) (hl : look env d = some (.bool c)) {b' : Bool} (hb : c = b') (hbb : b' = !b) : Region.wanted o (yielded ops a.tmps) = false := by
  subst hb; exact wf E hg hj hd hl hbb
theorem wu (E : Env n a env) {j d : Nat} {b : Bool} {oj : Oper} (hg : o.guard = some (j, b)) (hj : ops[j]? = some oj) (hd : oj.dst = some d) (hl : look env d = some undef) : Region.wanted o (yielded ops a.tmps) = false := by
  have := E.get d _ hl
  simp [Region.wanted, hg, yielded, hj, hd, this, undef]

/-! ### one operation -/
theorem wpList_wanted (hw : Region.wanted o (yielded ops a.tmps) = true) (h : o.wp P a w (wpList P ops Q rest) Q) : wpList P ops Q (o :: rest) a w := by
  unfold wpList; rw [if_pos hw]; exact .inl h
theorem st_val (E : Env n a env) (hw : Region.wanted o (yielded ops a.tmps) = true) {d : Nat} (hd : o.dst = some d) (hdn : Nat.ble (d + 1) n = true) {v : Value}
    (hrun : (execOp a.eval o).run P w = .ok (.value v) w') (k : ∀ a', Env n a' ((d, v) :: env) → wpList P ops Q rest a' w') : wpList P ops Q (o :: rest) a w := by
  refine wpList_wanted hw ?_
  unfold Oper.wp
  rw [hrun]
  show wpList P ops Q rest (a.put o.dst v) w'
  rw [hd]
  exact k _ (E.put d hdn v)
theorem st_skip (E : Env n a env) (hw : Region.wanted o (yielded ops a.tmps) = true) (hd : o.dst = none)
    (hrun : (execOp a.eval o).run P w = .ok .skip w') (k : wpList P ops Q rest a w') : wpList P ops Q (o :: rest) a w := by
  refine wpList_wanted hw ?_
  unfold Oper.wp
  rw [hrun]
  show wpList P ops Q rest (a.put o.dst undef) w'
  rw [hd]
  exact k
theorem st_no (E : Env n a env) (hw : Region.wanted o (yielded ops a.tmps) = false) {d : Nat} (hd : o.dst = some d) (hdn : Nat.ble (d + 1) n = true)
    (k : ∀ a', Env n a' ((d, undef) :: env) → wpList P ops Q rest a' w) : wpList P ops Q (o :: rest) a w := by
  unfold wpList
  rw [if_neg (by rw [hw]; exact Bool.false_ne_true), hd]
  exact k _ (E.put d hdn undef)
theorem st_call (E : Env n a env) (hw : Region.wanted o (yielded ops a.tmps) = true) {d : Nat} (hd : o.dst = some d) (hdn : Nat.ble (d + 1) n = true) {f : FuncId} {args : Array Value} {R : Value → World → Prop}
    (hrun : (execOp a.eval o).run P w = .ok (.enter f args) w) (hc : Calls P f args w (Ret R)) (k : ∀ v w', R v w' → ∀ a', Env n a' ((d, v) :: env) → wpList P ops Q rest a' w') : wpList P ops Q (o :: rest) a w := by
  refine wpList_wanted hw ?_
  unfold Oper.wp
  rw [hrun]
  refine hc.mono fun e w' h => ?_
  cases e with
  | returned v =>
    show wpList P ops Q rest (a.put o.dst v) w'
    rw [hd]
    exact k v w' h _ (E.put d hdn v)
  | panicked c => exact h.elim
  | outgrown => exact h.elim
end

/-! ### control -/
section
variable {P : Program} {Q : Exit → Act → World → Prop} {a : Act} {w : World}
theorem wp_seq_cut {x y : Code} (J : Act → World → Prop) (h1 : x.wp P (Exit.then J Q) a w) (h2 : ∀ a w, J a w → y.wp P Q a w) : (Code.seq x y).wp P Q a w :=
  wp_seq (wp_mono h1 fun e a w h => by cases e <;> first | exact h2 _ _ h | exact h)
theorem wp_if {n : Nat} {env : List (Nat × Value)} (E : Env n a env) {c : Operand} {x y : Code} {b : Bool} (hc : opv env c = some (.bool b)) (ht : b = true → x.wp P Q a w) (hf : b = false → y.wp P Q a w) : (Code.cond c x y).wp P Q a w :=
  wp_cond_split (E.eval hc) ht hf
theorem q_then {K : Act → World → Prop} (h : K a w) : Exit.then K Q .normal a w := h
theorem q_thenX {K : Act → World → Prop} {id : Nat} (h : Q (.exit id) a w) : Exit.then K Q (.exit id) a w := h
theorem q_thenR {K : Act → World → Prop} (h : Q .ret a w) : Exit.then K Q .ret a w := h
theorem q_thenG {K : Act → World → Prop} {l : Nat} (h : Q (.goto l) a w) : Exit.then K Q (.goto l) a w := h
theorem q_blk {id : Nat} (h : Q .normal a w) : Exit.inBlock id Q .normal a w := h
theorem q_blkR {id : Nat} (h : Q .ret a w) : Exit.inBlock id Q .ret a w := h
theorem q_blkG {id l : Nat} (h : Q (.goto l) a w) : Exit.inBlock id Q (.goto l) a w := h
theorem q_hit {id : Nat} (h : Q .normal a w) : Exit.inBlock id Q (.exit id) a w := by simpa [Exit.inBlock] using h
/-- a loop with a number that falls, which stands in no slot. -/
theorem wp_loop_g {c : Code} (I : Nat → Act → World → Prop) (k0 : Nat) (h0 : I k0 a w) (round : ∀ k a w, I k a w → c.wp P (Exit.then (fun a' w' => ∃ k', k' < k ∧ I k' a' w') Q) a w) : (Code.loop c).wp P Q a w := by
  intro b k cs
  have key : ∀ m a w, I m a w → ∃ e a' w', Q e a' w' ∧ Arrives P (lone (b.at a (.code c :: .inLoop c :: k)) cs w) b k cs e a' w' := by
    intro m
    induction m using Nat.strongRecOn with
    | _ m ih =>
      intro a w hI
      obtain ⟨e, a₁, w₁, hq, harr⟩ := round m a w hI b (.inLoop c :: k) cs
      cases e with
      | normal =>
        obtain ⟨k', hlt, hI₁⟩ := hq
        obtain ⟨e₂, a₂, w₂, hq₂, harr₂⟩ := ih k' hlt a₁ w₁ hI₁
        exact ⟨e₂, a₂, w₂, hq₂, .of_steps (Steps.trans harr (.one step_inLoop)) harr₂⟩
      | exit id => exact ⟨_, a₁, w₁, hq, .pass (x := .inLoop c) rfl (fun _ _ => .inl (by simp)) harr⟩
      | goto l => exact ⟨_, a₁, w₁, hq, .pass (x := .inLoop c) rfl (fun _ _ => .inl (by simp)) harr⟩
      | ret => exact ⟨_, a₁, w₁, hq, .pass (x := .inLoop c) rfl (fun _ _ => .inl (by simp)) harr⟩
      | panic ch => exact ⟨_, a₁, w₁, hq, .pass (x := .inLoop c) rfl (fun _ _ => .inl (by simp)) harr⟩
      | outgrown => exact ⟨_, a₁, w₁, hq, .pass (x := .inLoop c) rfl (fun _ _ => .inl (by simp)) harr⟩
  obtain ⟨e, a', w', hq, harr⟩ := key k0 a w h0
  exact ⟨e, a', w', hq, .of_steps (.one step_loop) harr⟩

theorem none_some {α : Type} {o : Option α} {r : α} (h : o = some r) (h0 : o = none) : False := by rw [h0] at h; cases h
theorem q_jump {J : Act → World → Prop} {l : Nat} (h : J a w) : Exit.jump l J Q (.goto l) a w := ⟨rfl, h⟩
theorem q_jumpR {J : Act → World → Prop} {l : Nat} (h : Q .ret a w) : Exit.jump l J Q .ret a w := h
theorem sub_cons {r : Rp} {rs L : List Rp} (h : r ∈ L) (hs : ∀ x, x ∈ rs → x ∈ L) : ∀ x, x ∈ r :: rs → x ∈ L := fun x hx => by
  cases hx with
  | head => exact h
  | tail _ hx => exact hs x hx
/-! ### in and out -/
def enum : Nat → List Value → List (Nat × Value)
  | _, [] => []
  | k, v :: r => (k, v) :: enum (k + 1) r
theorem enum_eq : ∀ (l : List Value) (k : Nat), ((l.zipIdx k).map fun (v, i) => (i, v)) = enum k l
  | [], _ => rfl
  | v :: r, k => by simp [List.zipIdx_cons, enum, enum_eq r (k + 1)]
theorem enter {f : FuncId} {fn : Func} {c : Code} {args : List Value} {R : Ending → World → Prop} {m : Nat} (hf : P.funcs[f]? = some fn) (hb : fn.body = some c) (hn : fn.ntmps = m) (hm : Nat.ble args.length m = true)
    (h : ∀ a, Env m a (enum 0 args) → c.wp P (bodyPost P fn R) a w) : Calls P f args.toArray w R := by
  refine calls_of_wp hf hb ?_
  rw [hn]
  refine h _ ?_
  have := Env.enter args m (Nat.le_of_ble_eq_true hm)
  rwa [enum_eq] at this
theorem out1 {n : Nat} {env : List (Nat × Value)} {fn : Func} {R : Value → World → Prop} (E : Env n a env) {t : Tmp} (hr : fn.results = #[.tmp t]) {v : Value} (hl : look env t = some v) (h : R v w) : bodyPost P fn (Ret R) .ret a w :=
  ⟨E.defers, _, results_tmp hr _ _ _, by rw [E.getD hl]; exact h⟩
theorem out2 {n : Nat} {env : List (Nat × Value)} {fn : Func} {R : Value → World → Prop} (E : Env n a env) {t u : Tmp} (hr : fn.results = #[.tmp t, .tmp u]) {v x : Value} (hl : look env t = some v) (hx : look env u = some x) (h : R (.tuple #[v, x]) w) : bodyPost P fn (Ret R) .ret a w :=
  ⟨E.defers, _, results_tmp2 hr _ _ _, by rw [E.getD hl, E.getD hx]; exact h⟩
theorem out3 {n : Nat} {env : List (Nat × Value)} {fn : Func} {R : Value → World → Prop} (E : Env n a env) {t u s : Tmp} (hr : fn.results = #[.tmp t, .tmp u, .tmp s]) {v x y : Value} (hl : look env t = some v) (hx : look env u = some x) (hy : look env s = some y) (h : R (.tuple #[v, x, y]) w) : bodyPost P fn (Ret R) .ret a w :=
  ⟨E.defers, _, results_tmp3 hr _ _ _, by rw [E.getD hl, E.getD hx, E.getD hy]; exact h⟩
end
end Go.Cb
