/- slices.Delete, at nodes. -/
import Derived.Test.YtgdfoajophpblaaGreatDoorN3epx
set_option linter.unusedVariables false
set_option linter.unusedSimpArgs false
set_option maxRecDepth 20000
namespace Go.Cb.Tn
open Go.Proofs Go.RowKit
theorem nsz83 : (Tryz.prog.info? 83).map (·.size) = some 2 := by kernel_rfl
theorem nzr83 : (Tryz.prog.info? 83).bind (·.zero) = some (.agg #[.string ⟨#[]⟩, .int .i64 0]) := by kernel_rfl
def zNode : List Value := [.string ⟨#[]⟩, .int .i64 0]
theorem zc1 : (Builtin.zeroCells (Value.agg #[.string ⟨#[]⟩, .int .i64 0]).cells 1).toList = zNode := by kernel_rfl
theorem nmixed : Tryz.prog.follows .mixedOrders = true := by kernel_rfl
theorem enc_one (x : S_api_Turn) : ∀ u ∈ k_api_Turn_flat.enc x, u.oneCell' = true := by
  intro u hu
  simp [k_api_Turn_flat] at hu
  rcases hu with h | h <;> subst h <;> rfl
theorem encs_one (xs : List S_api_Turn) : ∀ u ∈ k_api_Turn_flat.encs xs, u.oneCell' = true := by
  intro u hu
  obtain ⟨x, _, hx⟩ := List.mem_flatMap.1 hu
  exact enc_one x u hx
theorem delete_c {w : World} {os : List Ob} {rs : List Rp} {ix : Nat} {v : Value} {xs : List S_api_Turn} (H : Sep w os rs) (hi : os[ix]? = some (Row 83 k_api_Turn v xs)) {a b : Int} (hab : 0 ≤ a ∧ a < xs.length ∧ b = a + 1) :
    Calls Tryz.prog 159 [v, .int .i64 a, .int .i64 b].toArray w (Ret fun v' w' => Sep w' (os.set ix (Row 83 k_api_Turn v' (xs.eraseIdx a.toNat))) rs) := by
  obtain ⟨h0, hlt, rfl⟩ := hab
  obtain ⟨j, rfl⟩ : ∃ j : Nat, a = (j : Int) := ⟨a.toNat, by omega⟩
  have hj : j < xs.length := by omega
  have hix : idx xs (j : Int) = some xs[j] := by unfold idx; rw [if_pos (by omega)]; simp [hj]
  obtain ⟨g, c, rfl⟩ := H.rowformNE hi hix
  have hil : ix < os.length := (List.getElem?_eq_some_iff.1 hi).1
  obtain ⟨cs, H1, hn, hnc, hcm, hcl, hct⟩ := H.rowBlk k_api_Turn_flat hi
  clear H
  obtain ⟨n, hnn⟩ : ∃ n, n = xs.length := ⟨_, rfl⟩
  rw [← hnn] at hj hnc hct hn ⊢
  have hsz : k_api_Turn.sz = 2 := rfl
  rw [hsz] at hcl hct
  have hb : (os.set ix (Blk g 83 cs))[ix]? = some (Blk g 83 cs) := List.getElem?_set_self hil
  refine enter Tryz.func159 rfl Tryz.ntmps159 rfl fun a E => ?_
  simp only [enum, Nat.reduceAdd] at E
  have e1 : ((j : Int) + 1) = ((j + 1 : Nat) : Int) := by omega
  rw [e1] at E
  refine wp_seq ?_
  refine wp_region_lit ?_
  refine sv E rfl rfl rfl (x_assign E rfl rfl) ?_
  clear a E;intro a E
  refine wpList_nil ?_
  refine q_then ?_
  refine wp_seq ?_
  refine wp_region_lit ?_
  refine sv E rfl rfl rfl (x_move E rfl rfl) ?_
  clear a E;intro a E
  refine sv E rfl rfl rfl (x_move E rfl rfl) ?_
  clear a E;intro a E
  refine sv E rfl rfl rfl (x_move E rfl rfl) ?_
  clear a E;intro a E
  refine sv E rfl rfl rfl (x_move E rfl rfl) ?_
  clear a E;intro a E
  refine sv E rfl rfl rfl (x_lenV E rfl rfl Tryz.underlying39) ?_
  clear a E;intro a E
  refine sv E rfl rfl rfl (x_slLHM (i := j) (j := j + 1) (q := n) E rfl rfl rfl rfl rfl Tryz.underlying39 nsz83 (by omega) (by omega) hnc) ?_
  clear a E;intro a E
  refine wpList_nil ?_
  refine q_then ?_
  refine wp_seq ?_
  refine wp_seq ?_
  refine wp_region_lit ?_
  refine sv E rfl rfl rfl (x_move E rfl rfl) ?_
  clear a E;intro a E
  refine sv E rfl rfl rfl (x_move E rfl rfl) ?_
  clear a E;intro a E
  refine sv E rfl rfl rfl (x_bin E rfl rfl rfl rfl) ?_
  clear a E;intro a E
  refine wpList_nil ?_
  refine q_then ?_
  refine wp_if E rfl (fun hb => ?_) fun _ => ?_
  · simp at hb; omega
  refine wp_skip ?_
  refine q_then ?_
  refine wp_seq ?_
  refine wp_region_lit ?_
  refine sv E rfl rfl rfl (x_move E rfl rfl) ?_
  clear a E;intro a E
  refine sv E rfl rfl rfl (x_lenV E rfl rfl Tryz.underlying39) ?_
  clear a E;intro a E
  refine sv E rfl rfl rfl (x_assign E rfl rfl) ?_
  clear a E;intro a E
  refine wpList_nil ?_
  refine q_then ?_
  refine wp_seq ?_
  have hI : (fun _ : World => True) { w with drawn := w.drawn + 1 } := trivial
  refine wp_draw (fun _ : World => True) [(0, 0), (1, 0), (2, 0), (3, 0), (4, 0), (5, 0), (6, 1), (7, 0)] nmixed (by kernel_rfl) (fun _ _ _ h => False.elim h.2) hI ?_
  replace H1 := H1.kept (Kp.drawn _ w (w.drawn + 1))
  generalize ({ w with drawn := w.drawn + 1 } : World) = w at H1 ⊢
  refine fr_val E rfl (wn rfl) rfl rfl (fun w hW => x_move E rfl rfl) ?_
  clear a E;intro a E
  refine fr_val E rfl (wn rfl) rfl rfl (fun w hW => x_move E rfl rfl) ?_
  clear a E;intro a E
  refine fr_val E rfl (wn rfl) rfl rfl (fun w hW => x_slHi (i := j) E rfl rfl rfl Tryz.underlying39 nsz83 (by omega)) ?_
  clear a E;intro a E
  refine fr_val E rfl (wn rfl) rfl rfl (fun w hW => x_move E rfl rfl) ?_
  clear a E;intro a E
  refine fr_val E rfl (wn rfl) rfl rfl (fun w hW => x_move E rfl rfl) ?_
  clear a E;intro a E
  obtain ⟨q, hq, hq2⟩ : ∃ q : Addr, (if c = j + 1 then (some ⟨g, 0, none⟩ : Option Addr) else (some (⟨g, 0, none⟩ : Addr)).map (·.add ((j + 1) * 2))) = some q ∧ (c ≠ j + 1 → q = ⟨g, (j + 1) * 2, none⟩) := by
    by_cases h : c = j + 1
    · exact ⟨_, by rw [if_pos h], fun h' => absurd h h'⟩
    · exact ⟨_, by rw [if_neg h]; rfl, fun _ => by show (⟨g, 0, none⟩ : Addr).add _ = _; rw [add_lit]; simp⟩
  have hsl : ∀ {W : World} {o : Oper} {a : Act} {env : List (Nat × Value)} (_ : Env 33 a env) {x l : Operand}, o.op = .slice 39 x (some l) none none → opv env x = some (.slice (some ⟨g, 0, none⟩) n c) → opv env l = some (.int .i64 ((j + 1 : Nat) : Int)) → (execOp a.eval o).run Tryz.prog W = .ok (.value (.slice (some q) (n - (j + 1)) (c - (j + 1)))) W := fun {W o a env} E {x l} ho hx hl => by
    have := x_slLo (P := Tryz.prog) (w := W) (i := j + 1) E ho hx hl Tryz.underlying39 nsz83 (by omega)
    rw [hq] at this
    exact this
  refine fr_val E rfl (wn rfl) rfl rfl (fun w hW => hsl E rfl rfl rfl) ?_
  clear a E;intro a E
  refine fr_op rfl ?_
  have hus : (k_api_Turn_flat.encs (xs.drop (j + 1))).length = (n - (j + 1)) * 2 := by rw [k_api_Turn_flat.encs_len, List.length_drop, hsz, hnn]
  refine st_appIn (i := ix) (us := k_api_Turn_flat.encs (xs.drop (j + 1))) E H1 (wn rfl) rfl rfl rfl rfl rfl Tryz.underlying39 nsz83 hb (by omega) hus (fun k u hk => ?_) (by rw [hus, hcl]; omega) (encs_one _) ?_
  · have hkl := (List.getElem?_eq_some_iff.1 hk).1
    rw [hus] at hkl
    have hc : c ≠ j + 1 := by omega
    rw [hq2 hc, add_lit]
    refine H1.blk_cell hb ?_
    rw [← k_api_Turn_flat.encs_drop xs (j + 1) (by omega), ← hct, hsz, List.getElem?_drop, List.getElem?_take] at hk
    split at hk
    · exact hk
    · cases hk
  clear E H1; clear a; clear w; intro w a H1 E
  refine wpList_nil ?_
  refine q_then ?_
  refine ⟨trivial, ?_⟩
  refine fr_val E rfl (wn rfl) rfl rfl (fun w hW => x_assign E rfl rfl) ?_
  clear a E;intro a E
  refine fr_nil ?_
  refine q_then ?_
  rw [List.set_set] at H1
  have hfit : j * 2 + (k_api_Turn_flat.encs (xs.drop (j + 1))).length ≤ cs.length := by rw [hus, hcl]; omega
  rw [splice_eq _ _ _ hfit] at H1
  obtain ⟨cs2, hcs2⟩ : ∃ cs2, cs2 = cs.take (j * 2) ++ k_api_Turn_flat.encs (xs.drop (j + 1)) ++ cs.drop (j * 2 + (k_api_Turn_flat.encs (xs.drop (j + 1))).length) := ⟨_, rfl⟩
  rw [← hcs2] at H1
  have hb2 : (os.set ix (Blk g 83 cs2))[ix]? = some (Blk g 83 cs2) := List.getElem?_set_self hil
  have hcl2 : cs2.length = c * 2 := by rw [hcs2, List.length_append, List.length_append, List.length_take, List.length_drop, hus, hcl]; omega
  have hct2 : cs2.take ((n - 1) * 2) = k_api_Turn_flat.encs (xs.eraseIdx j) := by
    have e0 : cs.take (j * 2) = k_api_Turn_flat.encs (xs.take j) := by
      rw [← hsz, ← k_api_Turn_flat.encs_take xs j (by omega), ← hct, hsz, List.take_take]
      congr 1; omega
    rw [hcs2, e0, ← k_api_Turn_flat.encs_app, ← List.eraseIdx_eq_take_drop_succ]
    have e3 : (k_api_Turn_flat.encs (xs.eraseIdx j)).length = (n - 1) * 2 := by rw [k_api_Turn_flat.encs_len, List.length_eraseIdx, if_pos (by omega), hsz, hnn]
    rw [← e3, List.take_append_of_le_length (Nat.le_refl _), List.take_length]
  refine wp_seq ?_
  refine wp_region_lit ?_
  refine sv E rfl rfl rfl (x_move E rfl rfl) ?_
  clear a E;intro a E
  refine sv E rfl rfl rfl (x_move E rfl rfl) ?_
  clear a E;intro a E
  refine sv E rfl rfl rfl (x_lenV E rfl rfl Tryz.underlying39) ?_
  clear a E;intro a E
  refine sv E rfl rfl rfl (x_move E rfl rfl) ?_
  clear a E;intro a E
  refine sv E rfl rfl rfl (x_slLH (i := j + (n - (j + 1))) (j := n) E rfl rfl rfl rfl Tryz.underlying39 nsz83 (by omega) hnc) ?_
  clear a E;intro a E
  have hlen : j + (n - (j + 1)) = n - 1 := by omega
  have hm1 : n - (n - 1) = 1 := by omega
  rw [hlen, if_neg (show c ≠ n - 1 by omega), show Option.map (fun x : Addr => x.add ((n - 1) * 2)) (some ⟨g, 0, none⟩) = some ⟨g, (n - 1) * 2, none⟩ from by show some ((⟨g, 0, none⟩ : Addr).add _) = _; rw [add_lit]; simp, hm1] at E
  refine st_clear0 (i := ix) (m := 1) (off := (n - 1) * 2) (us := zNode) E H1 (wn rfl) rfl rfl rfl (by decide) Tryz.underlying39 nzr83 hb2 zc1 (by rw [hcl2]; show (n - 1) * 2 + 2 ≤ _; omega) (by decide) ?_
  clear H1; clear w; intro w H1
  refine wpList_nil ?_
  refine q_then ?_
  refine wp_seq ?_
  refine wp_region_lit ?_
  refine sv E rfl rfl rfl (x_move E rfl rfl) ?_
  clear a E;intro a E
  refine sv E rfl rfl rfl (x_assign E rfl rfl) ?_
  clear a E;intro a E
  refine wpList_nil ?_
  refine q_then ?_
  refine wp_ret ?_
  refine out1 E rfl rfl ?_
  rw [List.set_set] at H1
  have hfit3 : (n - 1) * 2 + zNode.length ≤ cs2.length := by rw [hcl2]; show (n - 1) * 2 + 2 ≤ _; omega
  rw [splice_eq _ _ _ hfit3] at H1
  have hb3 : (os.set ix (Blk g 83 (cs2.take ((n - 1) * 2) ++ zNode ++ cs2.drop ((n - 1) * 2 + zNode.length))))[ix]? = some (Blk g 83 _) := List.getElem?_set_self hil
  have H2 := H1.blkRow (xs := xs.eraseIdx j) (n := n - 1) (c := c) k_api_Turn_flat hb3 (by rw [List.length_eraseIdx, if_pos (by omega), hnn]) (by omega) hcm (by rw [List.length_append, List.length_append, List.length_take, List.length_drop, hcl2, hsz]; show min ((n - 1) * 2) (c * 2) + 2 + (c * 2 - ((n - 1) * 2 + 2)) = _; omega)
    (by rw [hsz, ← hct2, List.append_assoc, List.take_append_of_le_length (by rw [List.length_take, hcl2]; omega), List.take_take]; congr 1; omega)
  rw [List.set_set] at H2
  exact H2
end Go.Cb.Tn
