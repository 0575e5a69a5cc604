/- A chain of links in memory, and the post that holds it. -/
import Derived.Test.YtbjpjbopfhbkmaaT
import Derived.Test.YtbjpjbopfhbkmaaO2
set_option linter.unusedVariables false
set_option linter.unusedSimpArgs false
namespace Go.Cb
open Go.Proofs Go.RowKit
abbrev Ch := List (Nat × S_api_Mail)
def pt (q : Nat) (o : Nat) : Value := .pointer (some ⟨q, o, none⟩)
def first : Ch → Value → Value
  | [], v => v
  | (q, _) :: _, _ => .pointer (some ⟨q, 0, none⟩)
def links : Ch → Value → List Ob
  | [], _ => []
  | (q, m) :: r, v => Blk q 85 [.int .i64 m.From, .int .i64 m.To, .string m.Data, first r v] :: links r v
def PL (p : Nat) (n : Int) (c : Ch) (v : Value) : List Ob := Blk p 81 [first c v, .int .i64 n] :: links c v
def atB : Nat → Ch → Nat
  | p, [] => p
  | _, (q, _) :: r => atB q r
def atO : Ch → Nat
  | [] => 0
  | _ :: _ => 3
def atT : Ch → Nat
  | [] => 81
  | _ :: _ => 85
theorem first_append (a b : Ch) (v : Value) : first (a ++ b) v = first a (first b v) := by cases a <;> rfl
theorem links_append : ∀ (a b : Ch) (v : Value), links (a ++ b) v = links a (first b v) ++ links b v
  | [], b, v => rfl
  | (q, m) :: r, b, v => by simp only [List.cons_append, links, first_append, links_append r b v]
theorem PL_append (p : Nat) (n : Int) (a b : Ch) (v : Value) : PL p n (a ++ b) v = PL p n a (first b v) ++ links b v := by simp only [PL, first_append, links_append, List.cons_append]
theorem links_length : ∀ (c : Ch) (v : Value), (links c v).length = c.length
  | [], v => rfl
  | (q, m) :: r, v => by simp [links, links_length r v]
theorem PL_length (p : Nat) (n : Int) (c : Ch) (v : Value) : (PL p n c v).length = c.length + 1 := by simp [PL, links_length]
theorem link_at : ∀ (r : Ch) (q : Nat) (m : S_api_Mail) (v : Value), ∃ cs : List Value, (links ((q, m) :: r) v)[r.length]? = some (Blk (atB q r) 85 cs) ∧ cs[3]? = some v ∧ cs.length = 4 ∧
    ∀ v', (links ((q, m) :: r) v).set r.length (Blk (atB q r) 85 (splice cs 3 [v'])) = links ((q, m) :: r) v'
  | [], q, m, v => ⟨[.int .i64 m.From, .int .i64 m.To, .string m.Data, v], rfl, rfl, rfl, fun v' => rfl⟩
  | (q', m') :: r, q, m, v => by
    obtain ⟨cs, h1, h2, h3, h4⟩ := link_at r q' m' v
    refine ⟨cs, ?_, h2, h3, fun v' => ?_⟩
    · show (links ((q', m') :: r) v)[r.length]? = _
      exact h1
    · show Blk q 85 _ :: ((links ((q', m') :: r) v).set r.length _) = _
      have := h4 v'
      rw [show atB q ((q', m') :: r) = atB q' r from rfl, this]
      rfl
theorem at_cell (p : Nat) (n : Int) (a : Ch) (v : Value) : ∃ cs : List Value, (PL p n a v)[a.length]? = some (Blk (atB p a) (atT a) cs) ∧ cs[atO a]? = some v ∧ Nat.ble (atO a + 1) cs.length = true ∧
    ∀ v', (PL p n a v).set a.length (Blk (atB p a) (atT a) (splice cs (atO a) [v'])) = PL p n a v' := by
  cases a with
  | nil => exact ⟨[v, .int .i64 n], rfl, rfl, rfl, fun v' => rfl⟩
  | cons x r =>
    obtain ⟨q, m⟩ := x
    obtain ⟨cs, h1, h2, h3, h4⟩ := link_at r q m v
    refine ⟨cs, h1, h2, by rw [h3]; rfl, fun v' => ?_⟩
    show Blk p 81 _ :: ((links ((q, m) :: r) v).set r.length _) = _
    rw [show atB p ((q, m) :: r) = atB q r from rfl, show atT ((q, m) :: r) = 85 from rfl, show atO ((q, m) :: r) = 3 from rfl, h4 v']
    rfl
theorem at_next {c : Ch} {k q : Nat} {m : S_api_Mail} {r : Ch} (p : Nat) (h : c.drop k = (q, m) :: r) : atB p (c.take (k + 1)) = q ∧ atO (c.take (k + 1)) = 3 ∧ k < c.length ∧ c.drop (k + 1) = r ∧ c.take (k + 1) = c.take k ++ [(q, m)] := by
  have hk : k < c.length := by
    rcases Nat.lt_or_ge k c.length with h1 | h1
    · exact h1
    · rw [List.drop_eq_nil_of_le h1] at h; cases h
  have e : c[k] = (q, m) ∧ c.drop (k + 1) = r := by
    rw [List.drop_eq_getElem_cons hk] at h
    exact ⟨(List.cons.inj h).1, (List.cons.inj h).2⟩
  have ht : c.take (k + 1) = c.take k ++ [(q, m)] := by rw [← List.take_append_getElem hk, e.1]
  refine ⟨?_, ?_, hk, e.2, ht⟩
  · rw [ht]
    have : ∀ (a : Ch) (p : Nat), atB p (a ++ [(q, m)]) = q := fun a => by
      induction a with
      | nil => intro p; rfl
      | cons x a ih => intro p; exact ih x.1
    exact this _ _
  · rw [ht]
    cases c.take k <;> rfl
/-- the parts of a chain, at k. -/
theorem PL_at (p : Nat) (n : Int) (c : Ch) (k : Nat) (v : Value) : PL p n c v = PL p n (c.take k) (first (c.drop k) v) ++ links (c.drop k) v := by
  rw [← PL_append, List.take_append_drop]
theorem PL_cell (p : Nat) (n : Int) (c : Ch) (k : Nat) (hk : k ≤ c.length) (v : Value) (Fo : List Ob) : ∃ cs : List Value, (PL p n c v ++ Fo)[k]? = some (Blk (atB p (c.take k)) (atT (c.take k)) cs) ∧ cs[atO (c.take k)]? = some (first (c.drop k) v) ∧ Nat.ble (atO (c.take k) + 1) cs.length = true ∧
    ∀ v', (PL p n c v ++ Fo).set k (Blk (atB p (c.take k)) (atT (c.take k)) (splice cs (atO (c.take k)) [v'])) = PL p n (c.take k) v' ++ (links (c.drop k) v ++ Fo) := by
  obtain ⟨cs, h1, h2, h3, h4⟩ := at_cell p n (c.take k) (first (c.drop k) v)
  have hl : (c.take k).length = k := by rw [List.length_take]; omega
  rw [hl] at h1 h4
  have hlt : k < (PL p n (c.take k) (first (c.drop k) v)).length := by rw [PL_length, hl]; omega
  refine ⟨cs, ?_, h2, h3, fun v' => ?_⟩
  · rw [PL_at p n c k v, List.append_assoc, List.getElem?_append_left hlt]; exact h1
  · rw [PL_at p n c k v, List.append_assoc, List.set_append_left _ _ hlt, h4 v']
/-- the block of the mail at k. -/
theorem PL_mail {c : Ch} {k q : Nat} {m : S_api_Mail} {r : Ch} (p : Nat) (n : Int) (h : c.drop k = (q, m) :: r) (v : Value) (Fo : List Ob) : (PL p n c v ++ Fo)[k + 1]? = some (Blk q 85 [.int .i64 m.From, .int .i64 m.To, .string m.Data, first r v]) := by
  have hk := (at_next p h).2.2.1
  have hl : (c.take k).length = k := by rw [List.length_take]; omega
  rw [PL_at p n c k v, List.append_assoc, List.getElem?_append_right (by rw [PL_length, hl]; omega), PL_length, hl, Nat.sub_self, h]
  rfl
/-! ### the post -/
def PostO (p : Nat) (l : List S_api_Mail) : Ob := Ob.ex fun c : {c : Ch // c.map Prod.snd = l ∧ l.length ≤ 400} => Ob.many (PL p (l.length : Int) c.1 (.pointer none))
section
variable {w : World} {os : List Ob} {rs : List Rp}
theorem Sep.unfront {i : Nat} {x : Ob} (H : Sep w (x :: os.eraseIdx i) rs) (hi : i < os.length) : Sep w (os.set i x) rs := by
  rw [List.eraseIdx_eq_take_drop_succ] at H
  have := H.back
  rw [List.set_eq_take_append_cons_drop, if_pos hi]
  exact this
theorem Sep.openP (H : Sep w os rs) {i p : Nat} {l : List S_api_Mail} (hi : os[i]? = some (PostO p l)) : ∃ c : Ch, c.map Prod.snd = l ∧ l.length ≤ 400 ∧ Sep w (PL p (c.length : Int) c (.pointer none) ++ os.eraseIdx i) rs := by
  obtain ⟨⟨c, hc, hl⟩, H⟩ := (H.front i hi).unex
  have e : (l.length : Int) = (c.length : Int) := by rw [← hc, List.length_map]
  rw [e] at H
  exact ⟨c, hc, hl, H.unpack⟩
theorem Sep.closeP {i p : Nat} {c : Ch} {l : List S_api_Mail} (H : Sep w (PL p (c.length : Int) c (.pointer none) ++ os.eraseIdx i) rs) (hc : c.map Prod.snd = l) (hl : l.length ≤ 400) (hi : i < os.length) : Sep w (os.set i (PostO p l)) rs := by
  refine Sep.unfront (Sep.mkex (⟨c, hc, hl⟩ : {c : Ch // c.map Prod.snd = l ∧ l.length ≤ 400}) ?_) hi
  have e : (l.length : Int) = (c.length : Int) := by rw [← hc, List.length_map]
  rw [e]
  exact H.pack
theorem Sep.behind {A B : List Ob} (H : Sep w (A ++ B) rs) : Sep w B rs := by
  induction A with
  | nil => exact H
  | cons x A ih => exact ih (H.drop 0)
end
end Go.Cb
