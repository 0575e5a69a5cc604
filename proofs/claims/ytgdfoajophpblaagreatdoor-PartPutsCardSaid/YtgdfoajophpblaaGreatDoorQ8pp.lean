/- Nodes, plainly: what Apply makes of a tree, and when it refuses. -/
import Derived.Test.YtgdfoajophpblaaGreatDoorQ7pp
set_option linter.unusedVariables false
set_option linter.unusedSimpArgs false
namespace Go.Cb
open Go.Proofs Go.RowKit

def ltB (p : List UInt8) (y : Nd) : Bool := decide (key y < p)
/-! ### Create -/
def insS (x : Nd) (l : List Nd) : List Nd := l.filter (ltB (key x)) ++ x :: l.filter (fun y => !ltB (key x) y)
theorem upd_len (l : List Nd) (p : List UInt8) (f : Nd → Nd) : (upd l p f).length = l.length := by simp [upd]
theorem upd_key {p : List UInt8} {f : Nd → Nd} (hf : ∀ z, key (f z) = key z) (z : Nd) : key (if isK p z then f z else z) = key z := by split <;> simp [hf]
def nameS (o : Op1) (q : List UInt8) (t : Int) : Option (List UInt8) := if o.Turns = true then (numS (lastS (bl o.Path)) t).map (fun s => (joinS q s).getD []) else some (bl o.Path)
theorem numS_ok {s : List UInt8} {n : Int} {t : List UInt8} (h : numS s n = some t) : partOk t = true ∧ t = s ++ digits n.toNat ∧ 0 ≤ n ∧ n ≤ 9999 := by
  unfold numS at h
  split at h
  · rename_i h1
    cases h
    exact ⟨h1.2.2, rfl, h1.1, h1.2.1⟩
  · cases h
theorem last_len (p : List UInt8) : (lastS p).length ≤ 12 := by
  unfold lastS
  cases hp : parts p with
  | none => simp
  | some ps =>
    obtain ⟨h0, h1, h2⟩ := (parts_iff _ ps).1 hp
    rcases List.eq_nil_or_concat ps with rfl | ⟨qs, t, rfl⟩
    · simp
    · rw [List.concat_eq_append] at *
      have ht : partOk t = true := by simp at h1; exact h1.2
      simpa using part12 ht
/-! ### Apply -/
end Go.Cb
