/- slices.Insert, at nodes. -/
import Derived.Test.YtgdfoajophpblaaGreatDoorM2px
set_option linter.unusedVariables false
set_option linter.unusedSimpArgs false
set_option maxRecDepth 20000
namespace Go.Cb.Tn
open Go.Proofs Go.RowKit
section
variable {w : World} {os os' : List Ob} {rs : List Rp}
theorem Sep.sub (H : Sep w os rs) (g : Nat → Nat) (h : ∀ (i : Nat) (o : Ob), os'[i]? = some o → ∃ k, os[k]? = some o ∧ g k = i) : Sep w os' rs := by
  obtain ⟨col, h1, h2⟩ := H
  refine ⟨fun b => if col b = 0 then 0 else g (col b - 1) + 1, fun i o hi => ?_, fun r hr => r.keep (h2 r hr) (Kp.refl _ _) fun b _ hb => by show (if col b = 0 then 0 else _) = 0; rw [if_pos hb]⟩
  obtain ⟨k, hk, hg⟩ := h i o hi
  refine o.keep (h1 k o hk) (Kp.refl _ _) (fun b _ hb => ?_) (fun b _ hb => by show (if col b = 0 then 0 else _) = 0; rw [if_pos hb])
  show (if col b = 0 then 0 else g (col b - 1) + 1) = i + 1
  rw [if_neg (by omega), show col b - 1 = k from by omega, hg]
/-- the first object comes in the place of another. -/
theorem Sep.inst {x : Ob} {i : Nat} (H : Sep w (x :: os) rs) (hi : i < os.length) : Sep w (os.set i x) rs := by
  refine H.sub (fun k => if k = 0 then i else if k = i + 1 then os.length + 2 else k - 1) fun j o hj => ?_
  by_cases e : i = j
  · subst e
    rw [List.getElem?_set_self hi] at hj
    exact ⟨0, by simpa using hj, by simp⟩
  · rw [List.getElem?_set_ne e] at hj
    exact ⟨j + 1, by simpa using hj, by rw [if_neg (by omega), if_neg (by omega)]; omega⟩
end
theorem wadd (p q : Nat) (hp : p ≤ 4000000) (hq : q ≤ 4000000) : IntKind.i64.wrap ((p : Int) + (q : Int)) = ((p + q : Nat) : Int) := by
  unfold IntKind.wrap; simp [IntKind.bits, IntKind.signed]; omega
theorem wsub (p q : Nat) (hp : p ≤ 4000000) (hq : q ≤ p) : IntKind.i64.wrap ((p : Int) - (q : Int)) = ((p - q : Nat) : Int) := by
  have : (p : Int) - (q : Int) = ((p - q : Nat) : Int) := by omega
  rw [this]
  unfold IntKind.wrap; simp [IntKind.bits, IntKind.signed]; omega
theorem next185 : (Extern.findNext Tryz.f185).isNone = true := by kernel_rfl
theorem find185 : Extern.find Tryz.f185 = some (Extern.SlicesOverlaps.overlaps #[39, 39] #[4]) := by kernel_rfl
theorem sbase {g c i : Nat} (h : c ≠ i) : (if c = i then (some ⟨g, 0, none⟩ : Option Addr) else (some (⟨g, 0, none⟩ : Addr)).map (·.add (i * 2))) = some ⟨g, i * 2, none⟩ := by
  rw [if_neg h]
  show some ((⟨g, 0, none⟩ : Addr).add _) = _
  rw [add_lit]; simp
theorem slLo {g c m i : Nat} (h : c ≠ i) (hi : i ≤ m) {W : World} {o : Oper} {a : Act} {k : Nat} {env : List (Nat × Value)} (E : Env k a env) {x l : Operand} {q : IntKind} (ho : o.op = .slice 39 x (some l) none none) (hx : opv env x = some (.slice (some ⟨g, 0, none⟩) m c)) (hl : opv env l = some (.int q (i : Int))) :
    (execOp a.eval o).run Tryz.prog W = .ok (.value (.slice (some ⟨g, i * 2, none⟩) (m - i) (c - i))) W := by
  have := x_slLo (P := Tryz.prog) (w := W) (i := i) E ho hx hl Tryz.underlying39 nsz83 hi
  rw [sbase h] at this
  exact this
abbrev nF := k_api_Turn_flat
theorem insert_c {w : World} {os : List Ob} {rs : List Rp} {ix iu : Nat} {v u : Value} {xs : List S_api_Turn} {y : S_api_Turn} (H : Sep w os rs) (hi : os[ix]? = some (Row 83 k_api_Turn v xs)) (hu : os[iu]? = some (Row 83 k_api_Turn u [y])) (hne : ix ≠ iu) {a : Int} (ha : 0 ≤ a ∧ a ≤ xs.length ∧ 0 < xs.length ∧ xs.length ≤ 1000000) :
    Calls Tryz.prog 158 [v, .int .i64 a, u].toArray w (Ret fun v' w' => Sep w' (os.set ix (Row 83 k_api_Turn v' (xs.take a.toNat ++ y :: xs.drop a.toNat))) rs) := by
  obtain ⟨h0, hlt, hpos, hbig⟩ := ha
  obtain ⟨j, rfl⟩ : ∃ j : Nat, a = (j : Int) := ⟨a.toNat, by omega⟩
  have hj : j ≤ xs.length := by omega
  have hix : idx xs 0 = some xs[0] := by unfold idx; rw [if_pos (by omega)]; simp [hpos]
  obtain ⟨g, c, rfl⟩ := H.rowformNE hi hix
  obtain ⟨g2, c2, hu2⟩ := H.rowformNE hu (j := 0) (y := y) rfl
  have hu2 : u = .slice (some ⟨g2, 0, none⟩) 1 c2 := hu2
  subst hu2
  have hil : ix < os.length := (List.getElem?_eq_some_iff.1 hi).1
  have hul : iu < os.length := (List.getElem?_eq_some_iff.1 hu).1
  have hsz : k_api_Turn.sz = 2 := rfl
  obtain ⟨cs, H1, hn, hnc, hcm, hcl, hct⟩ := H.rowBlk k_api_Turn_flat hi
  have hu1 : (os.set ix (Blk g 83 cs))[iu]? = some (Row 83 k_api_Turn (.slice (some ⟨g2, 0, none⟩) 1 c2) [y]) := by rw [List.getElem?_set_ne hne]; exact hu
  obtain ⟨cs2, H2, hn2, hnc2, hcm2, hcl2, hct2⟩ := H1.rowBlk k_api_Turn_flat hu1
  rw [hsz] at hcl hct hcl2 hct2
  rw [k_api_Turn_flat.encs_one] at hct2
  obtain ⟨n, hnn⟩ : ∃ n, n = xs.length := ⟨_, rfl⟩
  rw [← hnn] at hj hnc hct hn hpos hbig ⊢
  have hgne : g2 ≠ g := by
    obtain ⟨col, h1, _⟩ := H
    obtain ⟨_, _, _, o1⟩ := h1 ix _ hi
    obtain ⟨_, _, _, o2⟩ := h1 iu _ hu
    have e1 := o1 g rfl
    have e2 := o2 g2 rfl
    intro e
    rw [e] at e2
    omega
  refine enter Tryz.func158 rfl Tryz.ntmps158 rfl fun a E => ?_
  simp only [enum, Nat.reduceAdd] at E
  refine wp_seq ?_
  refine wp_region_lit ?_
  refine sv E rfl rfl rfl (x_assign E rfl rfl) ?_
  clear a E;intro a E
  refine wpList_nil ?_
  refine q_then ?_
  refine wp_seq ?_
  refine wp_region_lit ?_
  refine sv E rfl rfl rfl (x_move E rfl rfl) ?_
  clear a E;intro a E
  refine sv E rfl rfl rfl (x_move E rfl rfl) ?_
  clear a E;intro a E
  refine sv E rfl rfl rfl (x_slLo (i := j) E rfl rfl rfl Tryz.underlying39 nsz83 hj) ?_
  clear a E;intro a E
  refine wpList_nil ?_
  refine q_then ?_
  refine wp_seq ?_
  refine wp_region_lit ?_
  refine sv E rfl rfl rfl (x_move E rfl rfl) ?_
  clear a E;intro a E
  refine sv E rfl rfl rfl (x_lenV E rfl rfl Tryz.underlying39) ?_
  clear a E;intro a E
  refine sv E rfl rfl rfl (x_assign E rfl rfl) ?_
  clear a E;intro a E
  refine wpList_nil ?_
  refine q_then ?_
  refine wp_seq ?_
  refine wp_seq ?_
  refine wp_region_lit ?_
  refine sv E rfl rfl rfl (x_move E rfl rfl) ?_
  clear a E;intro a E
  refine sv E rfl rfl rfl (x_bin E rfl rfl rfl rfl) ?_
  clear a E;intro a E
  refine wpList_nil ?_
  refine q_then ?_
  refine wp_if E rfl (fun hb => by simp at hb) fun _ => ?_
  refine wp_skip ?_
  refine q_then ?_
  refine wp_seq ?_
  refine wp_region_lit ?_
  refine sv E rfl rfl rfl (x_move E rfl rfl) ?_
  clear a E;intro a E
  refine sv E rfl rfl rfl (x_lenV E rfl rfl Tryz.underlying39) ?_
  clear a E;intro a E
  refine sv E rfl rfl rfl (x_assign E rfl rfl) ?_
  clear a E;intro a E
  refine wpList_nil ?_
  refine q_then ?_
  refine wp_seq ?_
  refine wp_seq ?_
  refine wp_region_lit ?_
  refine sv E rfl rfl rfl (x_move E rfl rfl) ?_
  clear a E;intro a E
  refine sv E rfl rfl rfl (x_move E rfl rfl) ?_
  clear a E;intro a E
  refine sv E rfl rfl rfl (x_bin E rfl rfl rfl rfl) ?_
  clear a E;intro a E
  refine wpList_nil ?_
  refine q_then ?_
  refine wp_if E rfl (fun hb => ?_) fun hb => ?_
  · have hjn : j = n := by
      have : (j : Int) = (n : Int) := by simpa using hb
      omega
    refine wp_seq ?_
    refine wp_region_lit ?_
    refine sv E rfl rfl rfl (x_move E rfl rfl) ?_
    clear a E;intro a E
    refine sv E rfl rfl rfl (x_move E rfl rfl) ?_
    clear a E;intro a E
    have hi' : os[ix]? = some (Row 83 k_api_Turn (.slice (some ⟨g, 0, none⟩) n c) xs) := by rw [hnn]; exact hi
    refine st_append (i := ix) E H (wn rfl) rfl rfl rfl rfl rfl hi' (src_row hu) Tryz.underlying39 inf83 rfl (by show xs.length + 1 ≤ 274877906944; omega) rfl ?_
    clear E H; clear a; intro v3 w' a H E
    refine sv E rfl rfl rfl (x_assign E rfl rfl) ?_
    clear a E;intro a E
    refine wpList_nil ?_
    refine q_then ?_
    refine wp_ret ?_
    refine q_thenR ?_
    refine out1 E rfl rfl ?_
    have e : xs.take ((j : Int)).toNat ++ y :: xs.drop ((j : Int)).toNat = xs ++ [y] := by
      show xs.take j ++ y :: xs.drop j = _
      rw [hjn, hnn, List.take_length, List.drop_length]
    rw [e]
    exact H
  refine wp_skip ?_
  refine q_then ?_
  have hjn : j ≠ n := by
    intro e
    rw [e] at hb
    simp at hb
  have hjlt : j < n := by omega
  clear H
  have hb1 : ((os.set ix (Blk g 83 cs)).set iu (Blk g2 83 cs2))[ix]? = some (Blk g 83 cs) := by rw [List.getElem?_set_ne (Ne.symm hne), List.getElem?_set_self hil]
  have hb2 : ((os.set ix (Blk g 83 cs)).set iu (Blk g2 83 cs2))[iu]? = some (Blk g2 83 cs2) := List.getElem?_set_self (by rw [List.length_set]; exact hul)
  have hey : ∀ {W : World} {O : List Ob} {R : List Rp} (_ : Sep W O R) {i : Nat} (_ : O[i]? = some (Blk g2 83 cs2)), ∀ q u, (nF.enc y)[q]? = some u → W.cell? ((⟨g2, 0, none⟩ : Addr).add q) = some u := fun {W O R} HH {i} hO q u hq => by
    rw [add_lit, Nat.zero_add]
    refine HH.blk_cell hO ?_
    rw [← hct2, List.getElem?_take] at hq
    split at hq
    · exact hq
    · cases hq
  have hexs : ∀ q u, (nF.encs (xs.drop j))[q]? = some u → cs[j * 2 + q]? = some u := fun q u hq => by
    rw [← k_api_Turn_flat.encs_drop xs j (by omega), ← hct, hsz, List.getElem?_drop, List.getElem?_take] at hq
    split at hq
    · exact hq
    · cases hq
  have hdl : (nF.encs (xs.drop j)).length = (n - j) * 2 := by rw [k_api_Turn_flat.encs_len, List.length_drop, hsz, hnn]
  have hel : (nF.enc y).length = 2 := by rw [k_api_Turn_flat.len, hsz]
  have hety : cs.take (j * 2) = nF.encs (xs.take j) := by
    rw [← hsz, ← k_api_Turn_flat.encs_take xs j (by omega), ← hct, hsz, List.take_take]
    congr 1; omega
  refine wp_seq ?_
  refine wp_seq ?_
  refine wp_region_lit ?_
  refine sv E rfl rfl rfl (x_move E rfl rfl) ?_
  clear a E;intro a E
  refine sv E rfl rfl rfl (x_move E rfl rfl) ?_
  clear a E;intro a E
  refine sv E rfl rfl rfl (x_bin E rfl rfl rfl rfl) ?_
  clear a E;intro a E
  rw [wadd n 1 (by omega) (by omega)] at E
  refine sv E rfl rfl rfl (x_move E rfl rfl) ?_
  clear a E;intro a E
  refine sv E rfl rfl rfl (x_cap E rfl rfl Tryz.underlying39) ?_
  clear a E;intro a E
  refine sv E rfl rfl rfl (x_bin E rfl rfl rfl rfl) ?_
  clear a E;intro a E
  refine wpList_nil ?_
  refine q_then ?_
  refine wp_if E rfl (fun hb => ?_) fun hb => ?_
  · -- a new row
    have hcn : c < n + 1 := by have := of_decide_eq_true hb; omega
    refine wp_seq ?_
    refine wp_region_lit ?_
    refine sv E rfl rfl rfl (x_move E rfl rfl) ?_
    clear a E;intro a E
    refine sv E rfl rfl rfl (x_move E rfl rfl) ?_
    clear a E;intro a E
    refine sv E rfl rfl rfl (x_slHi (i := j) E rfl rfl rfl Tryz.underlying39 nsz83 (by omega)) ?_
    clear a E;intro a E
    refine sv E rfl rfl rfl (x_move E rfl rfl) ?_
    clear a E;intro a E
    refine sv E rfl rfl rfl (x_move E rfl rfl) ?_
    clear a E;intro a E
    refine sv E rfl rfl rfl (x_bin E rfl rfl rfl rfl) ?_
    clear a E;intro a E
    rw [wadd n 1 (by omega) (by omega)] at E
    refine sv E rfl rfl rfl (x_move E rfl rfl) ?_
    clear a E;intro a E
    refine sv E rfl rfl rfl (x_bin E rfl rfl rfl rfl) ?_
    clear a E;intro a E
    rw [wsub (n + 1) j (by omega) (by omega)] at E
    refine st_appMake (olds := nF.encs (xs.take j)) (sl := j) (sc := c) (m := n + 1 - j) E H2 (wn rfl) rfl rfl rfl rfl rfl Tryz.underlying39 Tryz.underlying2 inf83 rfl (by decide) (by rw [k_api_Turn_flat.encs_len, List.length_take, hsz]; congr 1; omega) (fun q u hq => ?_) (by omega) (by omega) (by omega) (by simp only [maxLen]; omega) ?_
    · refine H2.blk_cell hb1 ?_
      rw [← hety, List.getElem?_take] at hq
      split at hq
      · exact hq
      · cases hq
    clear E H2; clear a; intro g' c' w' a hc1 hc2 H E
    have ejn : j + (n + 1 - j) = n + 1 := by omega
    rw [ejn] at hc1 H E
    refine sv E rfl rfl rfl (x_assign E rfl rfl) ?_
    clear a E;intro a E
    refine wpList_nil ?_
    refine q_then ?_
    obtain ⟨os3, hos3⟩ : ∃ os3, os3 = (os.set ix (Blk g 83 cs)).set iu (Blk g2 83 cs2) := ⟨_, rfl⟩
    rw [← hos3] at H hb1 hb2
    obtain ⟨cz, hcz⟩ : ∃ cz, cz = nF.encs (xs.take j) ++ (Builtin.zeroCells (Value.agg #[.string ⟨#[]⟩, .int .i64 0]).cells (n + 1 - j)).toList ++ (Builtin.zeroCells (Value.agg #[.string ⟨#[]⟩, .int .i64 0]).cells (c' - (n + 1))).toList := ⟨_, rfl⟩
    have hzs : (Value.agg #[.string ⟨#[]⟩, .int .i64 0]).cells.size = 2 := rfl
    have hczl : cz.length = c' * 2 := by
      have z : ∀ k, (Builtin.zeroCells (Value.agg #[.string ⟨#[]⟩, .int .i64 0]).cells k).toList.length = k * 2 := fun k => by
        rw [Array.length_toList, size_zeroCells, hzs]
      have z0 : (nF.encs (xs.take j)).length = j * 2 := by rw [k_api_Turn_flat.encs_len, List.length_take, hsz]; congr 1; omega
      rw [hcz, List.length_append, List.length_append, z, z, z0]
      omega
    have hczt : cz.take (j * 2) = nF.encs (xs.take j) := by
      have e : (nF.encs (xs.take j)).length = j * 2 := by rw [k_api_Turn_flat.encs_len, List.length_take, hsz]; congr 1; omega
      rw [hcz, List.append_assoc, ← e]
      exact List.take_left
    rw [← hcz] at H
    refine wp_seq ?_
    refine wp_region_lit ?_
    refine sv E rfl rfl rfl (x_move E rfl rfl) ?_
    clear a E;intro a E
    refine sv E rfl rfl rfl (x_move E rfl rfl) ?_
    clear a E;intro a E
    refine sv E rfl rfl rfl (slLo (i := j) (m := n + 1) (c := c') (by omega) (by omega) E rfl rfl rfl) ?_
    clear a E;intro a E
    refine sv E rfl rfl rfl (x_move E rfl rfl) ?_
    clear a E;intro a E
    refine st_copy (i := 0) (m := 1) (us := nF.enc y) E H (wn rfl) rfl rfl rfl rfl rfl Tryz.underlying39 nsz83 rfl (by omega) (by rw [hel]) (hey H (i := iu + 1) (by simpa using hb2)) (by rw [hel, hczl]; omega) (enc_one y) ?_
    clear E H; clear a; clear w'; intro w' a H E
    refine wpList_nil ?_
    refine q_then ?_
    rw [splice_eq _ _ _ (by rw [hel, hczl]; omega), hczt] at H
    refine wp_seq ?_
    have hI : (fun _ : World => True) { w' with drawn := w'.drawn + 1 } := trivial
    refine wp_draw (fun _ : World => True) [(0, 0), (1, 0), (2, 0), (3, 0), (4, 0), (5, 0), (6, 0), (7, 0), (8, 1)] nmixed (by kernel_rfl) (fun _ _ _ h => False.elim h.2) hI ?_
    replace H := H.kept (Kp.drawn _ w' (w'.drawn + 1))
    generalize ({ w' with drawn := w'.drawn + 1 } : World) = w' at H ⊢
    refine fr_val E rfl (wn rfl) rfl rfl (fun w hW => x_move E rfl rfl) ?_
    clear a E;intro a E
    refine fr_val E rfl (wn rfl) rfl rfl (fun w hW => x_move E rfl rfl) ?_
    clear a E;intro a E
    refine fr_val E rfl (wn rfl) rfl rfl (fun w hW => x_move E rfl rfl) ?_
    clear a E;intro a E
    refine fr_val E rfl (wn rfl) rfl rfl (fun w hW => x_bin E rfl rfl rfl rfl) ?_
    clear a E;intro a E
    rw [wadd j 1 (by omega) (by omega)] at E
    refine fr_val E rfl (wn rfl) rfl rfl (fun w hW => slLo (i := j + 1) (m := n + 1) (c := c') (by omega) (by omega) E rfl rfl rfl) ?_
    clear a E;intro a E
    refine fr_val E rfl (wn rfl) rfl rfl (fun w hW => x_move E rfl rfl) ?_
    clear a E;intro a E
    refine fr_val E rfl (wn rfl) rfl rfl (fun w hW => x_move E rfl rfl) ?_
    clear a E;intro a E
    refine fr_val E rfl (wn rfl) rfl rfl (fun w hW => slLo (i := j) (m := n) (c := c) (by omega) (by omega) E rfl rfl rfl) ?_
    clear a E;intro a E
    refine fr_op rfl ?_
    have hml : (nF.encs (xs.take j) ++ nF.enc y ++ cz.drop (j * 2 + (nF.enc y).length)).length = c' * 2 := by
      rw [List.length_append, List.length_append, k_api_Turn_flat.encs_len, List.length_take, List.length_drop, hel, hczl, hsz]; omega
    have hb3 : (Blk g' 83 (nF.encs (xs.take j) ++ nF.enc y ++ cz.drop (j * 2 + (nF.enc y).length)) :: os3)[ix + 1]? = some (Blk g 83 cs) := by simpa using hb1
    refine st_copy (i := 0) (m := n - j) (us := nF.encs (xs.drop j)) E H (wn rfl) rfl rfl rfl rfl rfl Tryz.underlying39 nsz83 rfl (by omega) hdl (fun q u hq => ?_) (by rw [hdl, hml]; omega) (encs_one _) ?_
    · rw [add_lit]
      exact H.blk_cell hb3 (hexs q u hq)
    clear E H; clear a; clear w'; intro w' a H E
    refine wpList_nil ?_
    refine q_then ?_
    refine ⟨trivial, ?_⟩
    refine fr_nil ?_
    refine q_then ?_
    rw [splice_eq _ _ _ (by rw [hdl, hml]; omega)] at H
    refine wp_seq ?_
    refine wp_region_lit ?_
    refine sv E rfl rfl rfl (x_move E rfl rfl) ?_
    clear a E;intro a E
    refine sv E rfl rfl rfl (x_assign E rfl rfl) ?_
    clear a E;intro a E
    refine wpList_nil ?_
    refine q_then ?_
    refine wp_ret ?_
    refine q_thenR ?_
    refine out1 E rfl rfl ?_
    have e5 : (nF.encs (xs.take j) ++ nF.enc y).length = (j + 1) * 2 := by
      rw [List.length_append, k_api_Turn_flat.encs_len, List.length_take, hel, hsz]; omega
    have e6 : (nF.encs (xs.take j) ++ nF.enc y ++ cz.drop (j * 2 + (nF.enc y).length)).take ((j + 1) * 2) = nF.encs (xs.take j ++ [y]) := by
      rw [← e5, List.take_left, k_api_Turn_flat.encs_app, k_api_Turn_flat.encs_one]
    have e7 : ∀ R : List Value, ((nF.encs (xs.take j) ++ nF.enc y ++ cz.drop (j * 2 + (nF.enc y).length)).take ((j + 1) * 2) ++ nF.encs (xs.drop j) ++ R).take ((n + 1) * 2) = nF.encs (xs.take j ++ y :: xs.drop j) := fun R => by
      rw [e6, ← k_api_Turn_flat.encs_app, List.append_assoc, List.singleton_append]
      have : (nF.encs (xs.take j ++ y :: xs.drop j)).length = (n + 1) * 2 := by
        rw [k_api_Turn_flat.encs_len, List.length_append, List.length_cons, List.length_take, List.length_drop, hsz, ← hnn]; congr 1; omega
      rw [← this]
      exact List.take_left
    have hcl4 : ((nF.encs (xs.take j) ++ nF.enc y ++ cz.drop (j * 2 + (nF.enc y).length)).take ((j + 1) * 2) ++ nF.encs (xs.drop j) ++ (nF.encs (xs.take j) ++ nF.enc y ++ cz.drop (j * 2 + (nF.enc y).length)).drop ((j + 1) * 2 + (nF.encs (xs.drop j)).length)).length = c' * 2 := by
      rw [List.length_append, List.length_append, List.length_take, List.length_drop, hml, hdl]; omega
    have H5 := H.blkRow (i := 0) (xs := xs.take j ++ y :: xs.drop j) (n := n + 1) (c := c') k_api_Turn_flat rfl (by rw [List.length_append, List.length_cons, List.length_take, List.length_drop, ← hnn]; omega) hc1 hc2 (by rw [hsz]; exact hcl4) (by rw [hsz]; exact e7 _)
    have H6 : Sep w' (os3.set ix (Row 83 k_api_Turn (.slice (some ⟨g', 0, none⟩) (n + 1) c') (xs.take j ++ y :: xs.drop j))) rs := Sep.inst H5 (by rw [hos3]; simpa using hil)
    have H7 := H6.blkRow (i := iu) (g := g2) (cs := cs2) (xs := [y]) (n := 1) (c := c2) k_api_Turn_flat (by rw [List.getElem?_set_ne hne]; exact hb2) rfl hnc2 hcm2 (by rw [hsz]; exact hcl2) (by rw [hsz, k_api_Turn_flat.encs_one]; exact hct2)
    have e8 : (os3.set ix (Row 83 k_api_Turn (.slice (some ⟨g', 0, none⟩) (n + 1) c') (xs.take j ++ y :: xs.drop j))).set iu (Row 83 k_api_Turn (.slice (some ⟨g2, 0, none⟩) 1 c2) [y]) = os.set ix (Row 83 k_api_Turn (.slice (some ⟨g', 0, none⟩) (n + 1) c') (xs.take j ++ y :: xs.drop j)) := by
      rw [hos3]
      apply List.ext_getElem?
      intro q
      by_cases q1 : iu = q
      · subst q1
        rw [List.getElem?_set_self (by simpa using hul), List.getElem?_set_ne hne, hu]
      · rw [List.getElem?_set_ne q1]
        by_cases q2 : ix = q
        · subst q2
          rw [List.getElem?_set_self (by simpa using hil), List.getElem?_set_self hil]
        · rw [List.getElem?_set_ne q2, List.getElem?_set_ne q1, List.getElem?_set_ne q2, List.getElem?_set_ne q2]
    rw [e8] at H7
    exact H7
  · -- in place
    have hcn : n + 1 ≤ c := by have := of_decide_eq_false hb; omega
    refine wp_skip ?_
    refine q_then ?_
    refine wp_seq ?_
    refine wp_region_lit ?_
    refine sv E rfl rfl rfl (x_move E rfl rfl) ?_
    clear a E;intro a E
    refine sv E rfl rfl rfl (x_move E rfl rfl) ?_
    clear a E;intro a E
    refine sv E rfl rfl rfl (x_move E rfl rfl) ?_
    clear a E;intro a E
    refine sv E rfl rfl rfl (x_bin E rfl rfl rfl rfl) ?_
    clear a E;intro a E
    rw [wadd n 1 (by omega) (by omega)] at E
    refine sv E rfl rfl rfl (x_slHi (i := n + 1) E rfl rfl rfl Tryz.underlying39 nsz83 hcn) ?_
    clear a E;intro a E
    refine sv E rfl rfl rfl (x_assign E rfl rfl) ?_
    clear a E;intro a E
    refine wpList_nil ?_
    refine q_then ?_
    refine wp_seq ?_
    refine wp_seq ?_
    refine wp_region_lit ?_
    refine sv E rfl rfl rfl (x_move E rfl rfl) ?_
    clear a E;intro a E
    refine sv E rfl rfl rfl (x_move E rfl rfl) ?_
    clear a E;intro a E
    refine sv E rfl rfl rfl (x_move E rfl rfl) ?_
    clear a E;intro a E
    refine sv E rfl rfl rfl (x_move E rfl rfl) ?_
    clear a E;intro a E
    refine sv E rfl rfl rfl (x_bin E rfl rfl rfl rfl) ?_
    clear a E;intro a E
    rw [wadd j 1 (by omega) (by omega)] at E
    refine sv E rfl rfl rfl (slLo (i := j + 1) (m := n + 1) (c := c) (by omega) (by omega) E rfl rfl rfl) ?_
    clear a E;intro a E
    refine sv E rfl rfl rfl (x_callX E rfl rfl (ext_of Tryz.func185 (by kernel_rfl) (by kernel_rfl) next185 find185 (run_overlaps (g := g) (g2 := g2) hgne (H2.blk hb1) (H2.blk hb2)))) ?_
    clear a E;intro a E
    refine sv E rfl rfl rfl (x_not E rfl rfl) ?_
    clear a E;intro a E
    refine wpList_nil ?_
    refine q_then ?_
    refine wp_if E rfl (fun _ => ?_) fun h => by cases h
    refine wp_seq ?_
    have hI : (fun _ : World => True) { w with drawn := w.drawn + 1 } := trivial
    refine wp_draw (fun _ : World => True) [(0, 0), (1, 0), (2, 0), (3, 0), (4, 0), (5, 0), (6, 0), (7, 0), (8, 1)] nmixed (by kernel_rfl) (fun _ _ _ h => False.elim h.2) hI ?_
    replace H2 := H2.kept (Kp.drawn _ w (w.drawn + 1))
    clear H1
    generalize ({ w with drawn := w.drawn + 1 } : World) = w' at H2 ⊢
    refine fr_val E rfl (wn rfl) rfl rfl (fun w hW => x_move E rfl rfl) ?_
    clear a E;intro a E
    refine fr_val E rfl (wn rfl) rfl rfl (fun w hW => x_move E rfl rfl) ?_
    clear a E;intro a E
    refine fr_val E rfl (wn rfl) rfl rfl (fun w hW => x_move E rfl rfl) ?_
    clear a E;intro a E
    refine fr_val E rfl (wn rfl) rfl rfl (fun w hW => x_bin E rfl rfl rfl rfl) ?_
    clear a E;intro a E
    rw [wadd j 1 (by omega) (by omega)] at E
    refine fr_val E rfl (wn rfl) rfl rfl (fun w hW => slLo (i := j + 1) (m := n + 1) (c := c) (by omega) (by omega) E rfl rfl rfl) ?_
    clear a E;intro a E
    refine fr_val E rfl (wn rfl) rfl rfl (fun w hW => x_move E rfl rfl) ?_
    clear a E;intro a E
    refine fr_val E rfl (wn rfl) rfl rfl (fun w hW => x_move E rfl rfl) ?_
    clear a E;intro a E
    refine fr_val E rfl (wn rfl) rfl rfl (fun w hW => slLo (i := j) (m := n + 1) (c := c) (by omega) (by omega) E rfl rfl rfl) ?_
    clear a E;intro a E
    refine fr_op rfl ?_
    refine st_copy (i := ix) (m := n - j) (us := nF.encs (xs.drop j)) E H2 (wn rfl) rfl rfl rfl rfl rfl Tryz.underlying39 nsz83 hb1 (by omega) hdl (fun q u hq => ?_) (by rw [hdl, hcl]; omega) (encs_one _) ?_
    · rw [add_lit]
      exact H2.blk_cell hb1 (hexs q u hq)
    clear E H2; clear a; clear w'; intro w' a H E
    refine wpList_nil ?_
    refine q_then ?_
    refine ⟨trivial, ?_⟩
    refine fr_nil ?_
    refine q_then ?_
    rw [splice_eq _ _ _ (by rw [hdl, hcl]; omega)] at H
    obtain ⟨cs3, hcs3⟩ : ∃ cs3, cs3 = cs.take ((j + 1) * 2) ++ nF.encs (xs.drop j) ++ cs.drop ((j + 1) * 2 + (nF.encs (xs.drop j)).length) := ⟨_, rfl⟩
    rw [← hcs3] at H
    have hcl3 : cs3.length = c * 2 := by rw [hcs3, List.length_append, List.length_append, List.length_take, List.length_drop, hdl, hcl]; omega
    obtain ⟨os3, hos3⟩ : ∃ os3, os3 = (os.set ix (Blk g 83 cs)).set iu (Blk g2 83 cs2) := ⟨_, rfl⟩
    rw [← hos3] at H hb1 hb2
    have hl3 : os3.length = os.length := by rw [hos3]; simp
    have hb3 : (os3.set ix (Blk g 83 cs3))[ix]? = some (Blk g 83 cs3) := List.getElem?_set_self (by omega)
    have hb4 : (os3.set ix (Blk g 83 cs3))[iu]? = some (Blk g2 83 cs2) := by rw [List.getElem?_set_ne hne]; exact hb2
    refine wp_seq ?_
    refine wp_region_lit ?_
    refine sv E rfl rfl rfl (x_move E rfl rfl) ?_
    clear a E;intro a E
    refine sv E rfl rfl rfl (x_move E rfl rfl) ?_
    clear a E;intro a E
    refine sv E rfl rfl rfl (slLo (i := j) (m := n + 1) (c := c) (by omega) (by omega) E rfl rfl rfl) ?_
    clear a E;intro a E
    refine sv E rfl rfl rfl (x_move E rfl rfl) ?_
    clear a E;intro a E
    refine st_copy (i := ix) (m := 1) (us := nF.enc y) E H (wn rfl) rfl rfl rfl rfl rfl Tryz.underlying39 nsz83 hb3 (by omega) (by rw [hel]) (hey H hb4) (by rw [hel, hcl3]; omega) (enc_one y) ?_
    clear E H; clear a; clear w'; intro w' a H E
    refine wpList_nil ?_
    refine q_then ?_
    rw [List.set_set, splice_eq _ _ _ (by rw [hel, hcl3]; omega)] at H
    refine wp_seq ?_
    refine wp_region_lit ?_
    refine sv E rfl rfl rfl (x_move E rfl rfl) ?_
    clear a E;intro a E
    refine sv E rfl rfl rfl (x_assign E rfl rfl) ?_
    clear a E;intro a E
    refine wpList_nil ?_
    refine q_then ?_
    refine wp_ret ?_
    refine out1 E rfl rfl ?_
    have e9 : cs3.take (j * 2) = nF.encs (xs.take j) := by
      rw [hcs3, List.append_assoc, List.take_append_of_le_length (by rw [List.length_take, hcl]; omega), List.take_take, ← hety]
      congr 1; omega
    have e10 : cs3.drop (j * 2 + (nF.enc y).length) = nF.encs (xs.drop j) ++ cs.drop ((j + 1) * 2 + (nF.encs (xs.drop j)).length) := by
      rw [hcs3, List.append_assoc, hel, show j * 2 + 2 = (cs.take ((j + 1) * 2)).length from by rw [List.length_take, hcl]; omega]
      exact List.drop_left
    rw [e9, e10] at H
    have hcl4 : (nF.encs (xs.take j) ++ nF.enc y ++ (nF.encs (xs.drop j) ++ cs.drop ((j + 1) * 2 + (nF.encs (xs.drop j)).length))).length = c * 2 := by
      rw [List.length_append, List.length_append, List.length_append, List.length_drop, k_api_Turn_flat.encs_len, List.length_take, hel, hdl, hcl, hsz]; omega
    have e7 : (nF.encs (xs.take j) ++ nF.enc y ++ (nF.encs (xs.drop j) ++ cs.drop ((j + 1) * 2 + (nF.encs (xs.drop j)).length))).take ((n + 1) * 2) = nF.encs (xs.take j ++ y :: xs.drop j) := by
      have e6 : nF.encs (xs.take j) ++ nF.enc y ++ (nF.encs (xs.drop j) ++ cs.drop ((j + 1) * 2 + (nF.encs (xs.drop j)).length)) = nF.encs (xs.take j ++ y :: xs.drop j) ++ cs.drop ((j + 1) * 2 + (nF.encs (xs.drop j)).length) := by
        rw [k_api_Turn_flat.encs_app, show y :: xs.drop j = [y] ++ xs.drop j from rfl, k_api_Turn_flat.encs_app, k_api_Turn_flat.encs_one]
        simp only [List.append_assoc]
      have : (nF.encs (xs.take j ++ y :: xs.drop j)).length = (n + 1) * 2 := by
        rw [k_api_Turn_flat.encs_len, List.length_append, List.length_cons, List.length_take, List.length_drop, hsz, ← hnn]; congr 1; omega
      rw [e6, ← this]
      exact List.take_left
    have H5 := H.blkRow (i := ix) (xs := xs.take j ++ y :: xs.drop j) (n := n + 1) (c := c) k_api_Turn_flat (List.getElem?_set_self (by omega)) (by rw [List.length_append, List.length_cons, List.length_take, List.length_drop, ← hnn]; omega) hcn hcm (by rw [hsz]; exact hcl4) (by rw [hsz]; exact e7)
    rw [List.set_set] at H5
    have H7 := H5.blkRow (i := iu) (g := g2) (cs := cs2) (xs := [y]) (n := 1) (c := c2) k_api_Turn_flat (by rw [List.getElem?_set_ne hne]; exact hb2) rfl hnc2 hcm2 (by rw [hsz]; exact hcl2) (by rw [hsz, k_api_Turn_flat.encs_one]; exact hct2)
    have e8 : (os3.set ix (Row 83 k_api_Turn (.slice (some ⟨g, 0, none⟩) (n + 1) c) (xs.take j ++ y :: xs.drop j))).set iu (Row 83 k_api_Turn (.slice (some ⟨g2, 0, none⟩) 1 c2) [y]) = os.set ix (Row 83 k_api_Turn (.slice (some ⟨g, 0, none⟩) (n + 1) c) (xs.take j ++ y :: xs.drop j)) := by
      rw [hos3]
      apply List.ext_getElem?
      intro q
      by_cases q1 : iu = q
      · subst q1
        rw [List.getElem?_set_self (by simpa using hul), List.getElem?_set_ne hne, hu]
      · rw [List.getElem?_set_ne q1]
        by_cases q2 : ix = q
        · subst q2
          rw [List.getElem?_set_self (by simpa using hil), List.getElem?_set_self hil]
        · rw [List.getElem?_set_ne q2, List.getElem?_set_ne q1, List.getElem?_set_ne q2, List.getElem?_set_ne q2]
    rw [e8] at H7
    exact H7
end Go.Cb.Tn
