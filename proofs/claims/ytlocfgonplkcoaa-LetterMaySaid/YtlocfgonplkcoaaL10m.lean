/- Answers, plainly: the document's writing; alike; too much. -/
import Derived.Test.YtlocfgonplkcoaaL9m
import Derived.Test.YtlocfgonplkcoaaKm3
set_option linter.unusedVariables false
set_option linter.unusedSimpArgs false
namespace Go.Cb
open Go.RowKit
/-! ### alike: what is one is -/
structure Short (a : Answer) : Prop where
  r : a.Results.length ≤ 1000000000000
  rx : ∀ x ∈ a.Results, x.Names.length ≤ 1000000000000
  n : a.Store.Nodes.length ≤ 1000000000000
  t : a.Store.Turns.length ≤ 1000000000000
  e : a.Events.length ≤ 1000000000000
  m : a.Mounts.length ≤ 1000000000000
  w : a.Wounded.length ≤ 1000000000000
theorem Fit.short {a : Answer} (h : Fit a) : Short a := ⟨by have := h.r; omega, fun x hx => by have := (h.rx x hx).n.n; omega, by have := h.n; omega, by have := h.t; omega, by have := h.e; omega, by have := h.m; omega, by have := h.w; omega⟩
end Go.Cb
