/- slices.Insert, into any row of nodes. -/
import Derived.Test.YtgdfoajophpblaaGreatDoorM3px
set_option linter.unusedVariables false
set_option linter.unusedSimpArgs false
set_option maxRecDepth 20000
namespace Go.Cb.Tn
open Go.Proofs Go.RowKit
theorem insert_e {w : World} {os : List Ob} {rs : List Rp} {ix iu : Nat} {v u : Value} {y : S_api_Turn} (H : Sep w os rs) (hi : os[ix]? = some (Row 83 k_api_Turn v [])) (hu : os[iu]? = some (Row 83 k_api_Turn u [y])) (hne : ix ≠ iu) :
    Calls Tryz.prog 158 [v, .int .i64 0, u].toArray w (Ret fun v' w' => Sep w' (os.set ix (Row 83 k_api_Turn v' [y])) rs) := by
  obtain ⟨a0, c, rfl⟩ := H.rowform hi
  obtain ⟨g2, c2, hu2⟩ := H.rowformNE hu (j := 0) (y := y) rfl
  have hu2 : u = .slice (some ⟨g2, 0, none⟩) 1 c2 := hu2
  subst hu2
  refine enter Tryz.func158 rfl Tryz.ntmps158 rfl fun a E => ?_
  simp only [enum, Nat.reduceAdd, List.length_nil] at E
  refine wp_seq ?_
  refine wp_region_lit ?_
  refine sv E rfl rfl rfl (x_assign E rfl rfl) ?_
  clear a E;intro a E
  refine wpList_nil ?_
  refine q_then ?_
  refine wp_seq ?_
  refine wp_region_lit ?_
  refine sv E rfl rfl rfl (x_move E rfl rfl) ?_
  clear a E;intro a E
  refine sv E rfl rfl rfl (x_move E rfl rfl) ?_
  clear a E;intro a E
  refine sv E rfl rfl rfl (x_slLo (i := 0) E rfl rfl rfl Tryz.underlying39 nsz83 (Nat.le_refl _)) ?_
  clear a E;intro a E
  refine wpList_nil ?_
  refine q_then ?_
  refine wp_seq ?_
  refine wp_region_lit ?_
  refine sv E rfl rfl rfl (x_move E rfl rfl) ?_
  clear a E;intro a E
  refine sv E rfl rfl rfl (x_lenV E rfl rfl Tryz.underlying39) ?_
  clear a E;intro a E
  refine sv E rfl rfl rfl (x_assign E rfl rfl) ?_
  clear a E;intro a E
  refine wpList_nil ?_
  refine q_then ?_
  refine wp_seq ?_
  refine wp_seq ?_
  refine wp_region_lit ?_
  refine sv E rfl rfl rfl (x_move E rfl rfl) ?_
  clear a E;intro a E
  refine sv E rfl rfl rfl (x_bin E rfl rfl rfl rfl) ?_
  clear a E;intro a E
  refine wpList_nil ?_
  refine q_then ?_
  refine wp_if E rfl (fun hb => by simp at hb) fun _ => ?_
  refine wp_skip ?_
  refine q_then ?_
  refine wp_seq ?_
  refine wp_region_lit ?_
  refine sv E rfl rfl rfl (x_move E rfl rfl) ?_
  clear a E;intro a E
  refine sv E rfl rfl rfl (x_lenV E rfl rfl Tryz.underlying39) ?_
  clear a E;intro a E
  refine sv E rfl rfl rfl (x_assign E rfl rfl) ?_
  clear a E;intro a E
  refine wpList_nil ?_
  refine q_then ?_
  refine wp_seq ?_
  refine wp_seq ?_
  refine wp_region_lit ?_
  refine sv E rfl rfl rfl (x_move E rfl rfl) ?_
  clear a E;intro a E
  refine sv E rfl rfl rfl (x_move E rfl rfl) ?_
  clear a E;intro a E
  refine sv E rfl rfl rfl (x_bin E rfl rfl rfl rfl) ?_
  clear a E;intro a E
  refine wpList_nil ?_
  refine q_then ?_
  refine wp_if E rfl (fun hb => ?_) fun hb => by simp at hb
  refine wp_seq ?_
  refine wp_region_lit ?_
  refine sv E rfl rfl rfl (x_move E rfl rfl) ?_
  clear a E;intro a E
  refine sv E rfl rfl rfl (x_move E rfl rfl) ?_
  clear a E;intro a E
  refine st_append (i := ix) E H (wn rfl) rfl rfl rfl rfl rfl hi (src_row hu) Tryz.underlying39 inf83 rfl (by show 0 + 1 ≤ 274877906944; omega) rfl ?_
  clear E H; clear a; intro v3 w' a H E
  refine sv E rfl rfl rfl (x_assign E rfl rfl) ?_
  clear a E;intro a E
  refine wpList_nil ?_
  refine q_then ?_
  refine wp_ret ?_
  refine q_thenR ?_
  refine out1 E rfl rfl ?_
  exact H
theorem insert_a {w : World} {os : List Ob} {rs : List Rp} {ix iu : Nat} {v u : Value} {xs : List S_api_Turn} {y : S_api_Turn} (H : Sep w os rs) (hi : os[ix]? = some (Row 83 k_api_Turn v xs)) (hu : os[iu]? = some (Row 83 k_api_Turn u [y])) (hne : ix ≠ iu) {a : Int} (ha : 0 ≤ a ∧ a ≤ xs.length ∧ xs.length ≤ 1000000) :
    Calls Tryz.prog 158 [v, .int .i64 a, u].toArray w (Ret fun v' w' => Sep w' (os.set ix (Row 83 k_api_Turn v' (xs.take a.toNat ++ y :: xs.drop a.toNat))) rs) := by
  cases xs with
  | nil =>
    obtain rfl : a = 0 := by have := ha.2.1; simp at this; omega
    exact insert_e H hi hu hne
  | cons x xs => exact insert_c H hi hu hne ⟨ha.1, ha.2.1, by simp, ha.2.2⟩
end Go.Cb.Tn
