/- Base 15: regions that draw their order, of which two that write may come one ahead of the other. -/
import Derived.Test.YtidapdacihcckaaGreatDoorB14te
set_option linter.unusedVariables false
set_option linter.unusedSimpArgs false
namespace Go.Cb
open Go.RowKit
/-- the orders: go i 0: it only reads or reckons; go i 1: it turns the world; go i 2: it turns it, and comes behind all that only read; alt: either first. -/
inductive OT where
  | nil
  | go (i k : Nat) (t : OT)
  | alt (i : Nat) (t : OT) (j : Nat) (u : OT)
section
variable {P : Program} {ops : Array Oper} {Q : Exit → Act → World → Prop} {I : World → Prop} {T : Nat → Bool}
def OT.ok (ops : Array Oper) : OT → Array Bool → Bool
  | .nil, listed => (Region.ready .any ops listed).isEmpty
  | .go i 0 t, listed => (Region.ready .any ops listed).contains i && Region.free .any ops listed i && t.ok ops (listed.setIfInBounds i true)
  | .go i (_ + 1) t, listed => (Region.ready .any ops listed == [i]) && t.ok ops (listed.setIfInBounds i true)
  | .alt i t j u, listed => (Region.ready .any ops listed == [i, j]) && t.ok ops (listed.setIfInBounds i true) && u.ok ops (listed.setIfInBounds j true)
def OT.len : OT → Nat → Bool
  | .nil, 0 => true
  | .go _ _ t, m + 1 => t.len m
  | .alt _ t _ u, m + 1 => t.len m && u.len m
  | _, _ => false
def OT.noFree : OT → Bool
  | .nil => true
  | .go _ k t => k != 0 && t.noFree
  | .alt _ t _ u => t.noFree && u.noFree
def OT.tails (ops : Array Oper) (tl : List Nat) : OT → Bool
  | .nil => true
  | .go i 0 t => !tl.contains i && ((List.range ops.size).all fun j => !tl.contains j || match ops[j]? with | some y => y.after.any fun e => Region.binds .any e && e.on == i | none => true) && t.tails ops tl
  | .go _ 1 t => t.tails ops tl
  | .go i (k + 2) t => tl.contains i && t.noFree && t.tails ops tl
  | .alt _ t _ u => t.tails ops tl && u.tails ops tl
def OT.all (ops : Array Oper) (tl : List Nat) (t : OT) : Bool := Region.noSelect ops && t.ok ops (Array.replicate ops.size false) && t.len ops.size && t.tails ops tl
variable {t u : OT} {o : Oper} {a : Act} {w : World} {n : Nat} {env : List (Nat × Value)} {i j : Nat}
end
end Go.Cb
