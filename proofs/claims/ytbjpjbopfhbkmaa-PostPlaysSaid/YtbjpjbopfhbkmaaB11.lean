/- Base 11: what can be told of what is read, wherever it is looked at. -/
import Derived.Test.YtbjpjbopfhbkmaaB10
set_option linter.unusedVariables false
set_option linter.unusedSimpArgs false
namespace Go.Cb
open Go.RowKit
/-- r follows from what R reads. -/
def DR (R : List Rp) (r : Rp) : Prop := ∀ W ok, (∀ x, x ∈ R → x.p W ok) → r.p W ok
section
variable {P : Program} {os : List Ob} {rs R : List Rp} {w : World}
theorem dr_mem {r : Rp} (h : r ∈ R) : DR R r := fun W ok k => k r h
theorem DR.imp {r r' : Rp} (h : DR R r) (k : ∀ w ok, r.p w ok → r'.p w ok) : DR R r' := fun W ok hr => k W ok (h W ok hr)
theorem DR.ir {r : Rp} (h : DR R r) : IR (Still os R) r := fun W ⟨os', rs', H, _, h2⟩ => by
  obtain ⟨col, _, hr⟩ := H
  exact ⟨_, h W _ fun x hx => hr x (h2 x hx)⟩
theorem Sep.dr (H : Sep w os rs) (hs : ∀ x, x ∈ R → x ∈ rs) {r : Rp} (h : DR R r) : Sep w os (r :: rs) := by
  obtain ⟨col, h1, h2⟩ := H
  refine ⟨col, h1, fun x hx => ?_⟩
  cases hx with
  | head => exact h w _ fun y hy => h2 y (hs y hy)
  | tail _ hx => exact h2 x hx
theorem still_ok (hI : Still os R w) : ∃ ok, ∀ x, x ∈ R → x.p w ok := by
  obtain ⟨os', rs', ⟨col, _, hr⟩, _, h2⟩ := hI
  exact ⟨_, fun x hx => hr x (h2 x hx)⟩
theorem dr_fld {α β : Type} {A : Kd α} {B : Kd β} {q q' : Addr} {x : α} {y : β} {cs : List Value} {F : List Value → List Value} (h : DR R (rAw A q x cs)) (k : ∀ w ok cs, (rAw A q x cs).p w ok → ∃ c, (rAw B q' y c).p w ok ∧ c = F cs) : DR R (rAw B q' y (F cs)) := fun W ok hW => by
  obtain ⟨c, hc, rfl⟩ := k W ok cs (h W ok hW)
  exact hc
theorem dr_fldA {α β : Type} {A : Kd α} {B : Kd β} {q q' : Addr} {x : α} {y : β} (h : DR R (rAt A q x)) (k : ∀ w ok, (rAt A q x).p w ok → (rAt B q' y).p w ok) : DR R (rAt B q' y) := fun W ok hW => k W ok (h W ok hW)
theorem dr_ixW {t e : TypeId} {α : Type} {d : Kd α} {v : Value} {xs : List α} {flat : List Value} {k : IntKind} {j : Int} {y : α} (hI : Still os R w) (h : DR R (rRow d v xs flat)) (ht : P.underlying t = some (.slice e)) (hs : (P.info? e).map (·.size) = some d.sz) (hj : idx xs j = some y) :
    ∃ q cs, (∀ W, (Instr.indexAt t v (.int k j)).run P W = .ok (.pointer (some q)) W) ∧ DR R (rAw d q y cs) := by
  unfold idx at hj
  split at hj
  · rename_i h0
    have hlt : j.toNat < xs.length := by
      rcases Nat.lt_or_ge j.toNat xs.length with h | h
      · exact h
      · rw [List.getElem?_eq_none h] at hj; cases hj
    have hne : xs ≠ [] := fun e => by rw [e] at hlt; simp at hlt
    obtain ⟨ok, hall⟩ := still_ok hI
    obtain ⟨ad0, c, rfl, hr, hm⟩ := h w ok hall
    obtain ⟨b, rfl, hok, hcell⟩ := hm hne
    refine ⟨b.add (j.toNat * d.sz), (flat.drop (j.toNat * d.sz)).take d.sz, fun W => ?_, fun W ok' hW => ?_⟩
    · have hlt' : j < (xs.length : Int) := by omega
      simp [Instr.indexAt, asIntOf, Sem.run_bind, run_underlying ht, run_size hs, h0, hlt']
    · obtain ⟨ad', c', he, hr', hm'⟩ := h W ok' hW
      obtain ⟨b', hb', hok', hcell'⟩ := hm' hne
      cases he
      cases hb'
      refine ⟨by rw [add_block]; exact hok', hr'.2 _ _ hj, fun i u hu => ?_⟩
      rw [add_add]
      refine hcell' _ u ?_
      rw [List.getElem?_take] at hu
      split at hu
      · rw [List.getElem?_drop] at hu; exact hu
      · cases hu
  · cases hj
theorem dr_ldL {α : Type} {d : Kd α} {t : TypeId} {q : Addr} {ys : List α} {cs : List Value} {ds : TypeDesc} (hI : Still os R w) (h : DR R (rAw (kL d) q ys cs)) (hu : P.underlying t = some ds) (hp : plainDesc ds = true) :
    ∃ v, (∀ W, Still os R W → (Instr.loadAt t (.pointer (some q))).run P W = .ok v W) ∧ DR R (rSl d v ys) := by
  obtain ⟨ok, hall⟩ := still_ok hI
  obtain ⟨_, ⟨v, rfl, hv⟩, _⟩ := h w ok hall
  refine ⟨v, fun W hW => ?_, fun W ok' hW => ?_⟩
  · obtain ⟨ok', hall'⟩ := still_ok hW
    obtain ⟨_, _, hc⟩ := h W ok' hall'
    exact run_ld1 hu hp (by have := hc 0 v rfl; rwa [show q.add 0 = q from by simp [Addr.add]] at this)
  · obtain ⟨_, ⟨v', he, hv'⟩, _⟩ := h W ok' hW
    cases he
    exact hv'
/-- a datum that is read at an address: its cells, told once for all. -/
theorem Sep.rawA (H : Sep w os rs) {α : Type} {d : Kd α} {q : Addr} {x : α} (hm : rAt d q x ∈ rs) : ∃ cs, Sep w os (rAw d q x cs :: rs) := by
  obtain ⟨col, h1, h2⟩ := H
  obtain ⟨ho, cs, hr, hc⟩ := h2 _ hm
  refine ⟨cs, col, h1, fun r hr' => ?_⟩
  cases hr' with
  | head => exact ⟨ho, hr, hc⟩
  | tail _ hr' => exact h2 r hr'
theorem dr_open {α : Type} {d : Kd α} {q : Addr} {y : α} {cs : List Value} (hI : Still os R w) (h : DR R (rAw d q y cs)) : ∃ ok, d.R w ok y cs := by
  obtain ⟨ok, hall⟩ := still_ok hI
  exact ⟨ok, (h w ok hall).2.1⟩
theorem dr_get {α β : Type} {d : Kd α} {e : Kd β} {q : Addr} {y : α} {cs : List Value} {v : Value} {ys : List β} (h : DR R (rAw d q y cs)) (k : ∀ w ok, d.R w ok y cs → Sl e w ok v ys) : DR R (rSl e v ys) := fun W ok hW => k W ok (h W ok hW).2.1
theorem dr_cs {α : Type} {d : Kd α} {q : Addr} {y : α} {cs : List Value} (h : DR R (rAw d q y cs)) : DR R (rCs d cs y) := fun W ok hW => (h W ok hW).2.1
theorem dr_at {α : Type} {d : Kd α} {q : Addr} {y : α} {cs : List Value} (h : DR R (rAw d q y cs)) : DR R (rAt d q y) := h.imp rAw_at
theorem ir_ldW {α : Type} {d : Kd α} {cs : List Value} {I : World → Prop} {t : TypeId} {q : Addr} {y : α} {ds : TypeDesc} (hr : IR I (rAw d q y cs)) (hu : P.underlying t = some ds) (hp : plainDesc ds = false) (hs : (P.info? t).map (·.size) = some cs.length) (W : World) (hW : I W) : (Instr.loadAt t (.pointer (some q))).run P W = .ok (.agg cs.toArray) W := by
  obtain ⟨ok, _, _, hc⟩ := hr W hW
  exact run_ldN hu hp hs hc
end
end Go.Cb
