/- Nodes, plainly: NodesTurns. -/
import Derived.Test.YtidapdacihcckaaDoorQ13tu
import Derived.Test.YtidapdacihcckaaDoorKtu3
set_option linter.unusedVariables false
set_option linter.unusedSimpArgs false
namespace Go.Cb
open Go.Proofs Go.RowKit

theorem dig_lt {a b : Nat} (ha : a < 10) (hb : b < 10) (h : a < b) : UInt8.ofNat (48 + a) < UInt8.ofNat (48 + b) := by
  rw [UInt8.lt_iff_toNat_lt]
  simp
  omega
theorem digits_lt {t t' : Nat} (h : t < t') (h9 : t' ≤ 9999) : digits t < digits t' := by
  unfold digits
  by_cases e1 : t / 1000 % 10 = t' / 1000 % 10
  · rw [e1]
    refine List.Lex.cons ?_
    by_cases e2 : t / 100 % 10 = t' / 100 % 10
    · rw [e2]
      refine List.Lex.cons ?_
      by_cases e3 : t / 10 % 10 = t' / 10 % 10
      · rw [e3]
        refine List.Lex.cons ?_
        exact List.Lex.rel (dig_lt (by omega) (by omega) (by omega))
      · exact List.Lex.rel (dig_lt (by omega) (by omega) (by omega))
    · exact List.Lex.rel (dig_lt (by omega) (by omega) (by omega))
  · exact List.Lex.rel (dig_lt (by omega) (by omega) (by omega))
theorem num_lt (ps : List (List UInt8)) (n : List UInt8) {t t' : Nat} (h : t < t') (h9 : t' ≤ 9999) : joinP (ps ++ [n ++ digits t]) < joinP (ps ++ [n ++ digits t']) := by
  rw [joinP_app, joinP_app]
  have := kl_app (catP ps ++ 47 :: n) (digits_lt h h9)
  simpa using this
theorem apply_turn {l : List Nd} {o : Op1} (hm : MayB o = true) {u : Nd} (hu : u ∈ l) (h1 : inS (key u) (bl o.Path) = false ∨ o.Kind = 1 ∨ o.Kind = 3) : ∃ u' ∈ (applyS l o).1, key u' = key u ∧ u.Turn ≤ u'.Turn := by
  obtain ⟨hk, ⟨ps, hps⟩, _⟩ := may_iff hm
  have self : ∀ z : List Nd, u ∈ z → ∃ u' ∈ z, key u' = key u ∧ u.Turn ≤ u'.Turn := fun z hz => ⟨u, hz, rfl, Int.le_refl _⟩
  unfold applyS
  split
  · cases hq : parentS (bl o.Path) with
    | none => exact self l hu
    | some q =>
      simp only
      unfold createS
      split
      · exact self l hu
      · split
        · exact self l hu
        · split
          · exact self l hu
          · split
            · exact self l hu
            · split
              · exact self l hu
              · simp only
                split
                · refine ⟨if isK q u = true then turnF u else u, mem_ins.2 (.inr (mem_upd.2 ⟨u, hu, rfl⟩)), upd_key (f := turnF) (fun _ => rfl) u, ?_⟩
                  split
                  · show u.Turn ≤ u.Turn + 1; omega
                  · exact Int.le_refl _
                · exact self _ (mem_ins.2 (.inr hu))
  · rename_i k1
    split
    · exact self l hu
    · rename_i x hx
      have hkx := (find_key hx).2
      split
      · exact self l hu
      · unfold doS
        split
        · rename_i k2
          split
          · exact self l hu
          · have hin : inS (key u) (bl o.Path) = false := by
              rcases h1 with h | h | h
              · exact h
              · omega
              · omega
            have hne : key u ≠ bl o.Path := by
              intro e
              rw [e, inS_self hps] at hin
              cases hin
            exact self _ (List.mem_filter.2 ⟨hu, by simp [isK, hkx, hne]⟩)
        · split
          · split
            · exact self l hu
            · refine ⟨if isK (key x) u = true then setF o u else u, mem_upd.2 ⟨u, hu, rfl⟩, upd_key (f := setF o) (fun _ => rfl) u, ?_⟩
              split <;> exact Int.le_refl _
          · rename_i k2 k3
            split
            · exact self l hu
            · split
              · exact self l hu
              · split
                · exact self l hu
                · have hin : inS (key u) (bl o.Path) = false := by
                    rcases h1 with h | h | h
                    · exact h
                    · omega
                    · omega
                  have : childB (key x) u = false := by
                    cases hc : childB (key x) u with
                    | false => rfl
                    | true =>
                      have := inS_child (show parentS (key u) = some (key x) by simpa [childB] using hc)
                      rw [hkx, hin] at this; cases this
                  exact self _ (List.mem_filter.2 ⟨hu, by simp [ownB, this]⟩)
/-- of what was created last: its number lies below its parent's. -/
def LastOk (q : List UInt8) (ps : List (List UInt8)) (n : List UInt8) (l : List Nd) (last : List UInt8) : Prop := last = [] ∨ ∃ u ∈ l, ∃ t : Nat, key u = q ∧ (t : Int) < u.Turn ∧ last = joinP (ps ++ [n ++ digits t])
theorem LastOk.mono {q : List UInt8} {ps : List (List UInt8)} {n : List UInt8} {l l' : List Nd} {last : List UInt8} (h : LastOk q ps n l last) (hl : ∀ u ∈ l, key u = q → ∃ u' ∈ l', key u' = key u ∧ u.Turn ≤ u'.Turn) : LastOk q ps n l' last := by
  rcases h with h | ⟨u, hu, t, hk, ht, he⟩
  · exact .inl h
  · obtain ⟨u', hu', hk', ht'⟩ := hl u hu hk
    exact .inr ⟨u', hu', t, by rw [hk', hk], by omega, he⟩
theorem turns_l1 (s : ByteArray) (bs : List Op1) (hbs : bs.length ≤ 40) (hm : MayB (⟨1, s, ByteArray.mk #[], 0, 0, true⟩ : Op1) = true) {q : List UInt8} (hq : parentS (bl s) = some q) {ps : List (List UInt8)} (hps : parts q = some ps) : ∀ (k i : Nat) (l : List Nd) (last : ByteArray), i ≤ bs.length + 1 → bs.length + 2 ≤ i + k → Tree l → LastOk q ps (lastS (bl s)) l (bl last) →
    m_cantonlaw06_NodesTurns_l1 bs (mk q, true) s true k l last (i : Int) = some true
  | 0, i, l, last, _, h, _, _ => by omega
  | k + 1, i, l, last, h0, h, T, hlast => by
    unfold m_cantonlaw06_NodesTurns_l1
    by_cases hi : i ≤ bs.length
    · rw [if_pos (by simpa using hi), Apply_eq l _ T hm]
      simp only [Option.bind_some]
      have hne1 : (applyS l (⟨1, s, ByteArray.mk #[], 0, 0, true⟩ : Op1)).2.Err ≠ 1 := by
        rcases apply_err l (⟨1, s, ByteArray.mk #[], 0, 0, true⟩ : Op1) with ⟨_, _, h, _⟩ | h
        · exact h
        · rw [h]; decide
      have Ta := Tree_apply T hm
      have e1 : IntKind.i64.wrap ((i : Int) + 1) = ((i + 1 : Nat) : Int) := by rw [w64 (by omega) (by omega)]; omega
      -- what goes on behind the creation
      have tail : ∀ (r : Res) (a : List Nd) (la : ByteArray), Tree a → LastOk q ps (lastS (bl s)) a (bl la) → m_cantonlaw06_NodesTurns_j3 (m_cantonlaw06_NodesTurns_l1 bs (mk q, true) s true k) (i : Int) bs (a, r) (mk q, true) la = some true := by
        intro r a la Ta' hla
        unfold m_cantonlaw06_NodesTurns_j3 m_cantonlaw06_NodesTurns_j4 m_cantonlaw06_NodesTurns_j2
        simp only [e1]
        have ih := turns_l1 s bs hbs hm hq hps k (i + 1)
        by_cases hib : i < bs.length
        · rw [if_pos (by simpa using hib), idx_lt hib]
          simp only [Option.bind_some]
          obtain ⟨b, h5, h6⟩ := GreatOp_eq bs[i]
          rw [h5]
          simp only [Option.bind_some]
          cases b with
          | true => rw [if_pos rfl]; exact ih a la (by omega) (by omega) Ta' hla
          | false =>
            have hpl := (h6 rfl).1
            have hql : q.length ≤ 78 := parts_len hps
            rw [if_neg (by simp), In_eq _ _ (by rw [bl_mk]; omega) (by omega), bl_mk]
            simp only [Option.bind_some]
            have step : (inS q (bl (bs[i]).Path) = false ∨ (bs[i]).Kind = 1 ∨ (bs[i]).Kind = 3) → ((m_nodes_Apply a bs[i]).bind fun u58 => if (u58.2.Err != 1) = true then (m_cantonlaw06_NodesTurns_l1 bs (mk q, true) s true k u58.1 la ((i + 1 : Nat) : Int)) else (m_cantonlaw06_NodesTurns_l1 bs (mk q, true) s true k a la ((i + 1 : Nat) : Int))) = some true := by
              intro hc
              by_cases hmx : MayB bs[i] = true
              · rw [Apply_eq a _ Ta' hmx]
                simp only [Option.bind_some]
                have hne : (applyS a bs[i]).2.Err ≠ 1 := by
                  rcases apply_err a bs[i] with ⟨_, _, h, _⟩ | h
                  · exact h
                  · rw [h]; decide
                rw [if_pos (by simpa using hne)]
                refine ih _ la (by omega) (by omega) (Tree_apply Ta' hmx) (hla.mono fun u hu hk => apply_turn hmx hu ?_)
                rw [hk]; exact hc
              · rw [Apply_bad a _ (by have := Ta'.len; omega) Ta'.sm fun h => hmx h.2]
                exact ih a la (by omega) (by omega) Ta' hla
            cases hin : inS q (bl (bs[i]).Path) with
            | false =>
              simp only [Bool.false_eq_true, if_false]
              exact step (.inl hin)
            | true =>
              simp only [if_true]
              by_cases k3 : (bs[i]).Kind = 3
              · rw [if_neg (by simpa using k3)]
                exact step (.inr (.inr k3))
              · rw [if_pos (by simpa using k3)]
                by_cases k1 : (bs[i]).Kind = 1
                · rw [if_neg (by simpa using k1)]
                  exact step (.inr (.inl k1))
                · rw [if_pos (by simpa using k1)]
                  exact ih a la (by omega) (by omega) Ta' hla
        · rw [if_neg (by simpa using hib)]
          exact ih a la (by omega) (by omega) Ta' hla
      rw [if_neg (by simpa using hne1)]
      have ha : applyS l (⟨1, s, ByteArray.mk #[], 0, 0, true⟩ : Op1) = createS l (⟨1, s, ByteArray.mk #[], 0, 0, true⟩ : Op1) q := by
        unfold applyS; rw [if_pos rfl]; simp only [hq]
      by_cases he : (applyS l (⟨1, s, ByteArray.mk #[], 0, 0, true⟩ : Op1)).2.Err = 0
      · rw [if_pos (by simpa using he)]
        rw [ha] at he Ta ⊢
        obtain ⟨u, p, hu, ho, hn, hp', h512, hc⟩ := create_ok he
        obtain ⟨hpq, hturn⟩ := name_parent hq hn
        obtain ⟨t0, t9, ps', hps', hpe⟩ := hturn rfl
        rw [hps] at hps'
        cases hps'
        have hpe : p = joinP (ps ++ [lastS (bl s) ++ digits u.Turn.toNat]) := hpe
        obtain ⟨hum, huk⟩ := find_key hu
        rw [hc] at Ta ⊢
        simp only [if_true] at Ta ⊢
        have hgt : (sLt (mk p) last || sEq (mk p) last) = false := by
          rw [sLt_bl, sEq_bl, bl_mk]
          rcases hlast with hz | ⟨v, hv, t, hvk, hvt, hle⟩
          · rw [hz]
            have : p ≠ [] := by
              rintro rfl
              cases hpq
            simp [this]
          · have hvu : v = u := sorted_inj T.sorted hv hum (by rw [hvk, huk])
            subst hvu
            have hlt : bl last < p := by
              rw [hle, hpe]
              exact num_lt ps _ (by omega) (by omega)
            simp only [Bool.or_eq_false_iff, decide_eq_false_iff_not]
            exact ⟨kl_asymm hlt, (kl_ne hlt).symm⟩
        rw [hgt]
        simp only [Bool.false_eq_true, if_false]
        refine tail _ _ _ Ta (.inr ?_)
        refine ⟨turnF u, mem_ins.2 (.inr (mem_upd.2 ⟨u, hum, by rw [if_pos (by simpa [isK] using huk)]⟩)), u.Turn.toNat, huk, ?_, by rw [bl_mk]; exact hpe⟩
        show ((u.Turn.toNat : Nat) : Int) < u.Turn + 1
        omega
      · rw [if_neg (by simpa using he)]
        have hsame : (applyS l (⟨1, s, ByteArray.mk #[], 0, 0, true⟩ : Op1)).1 = l := by
          rcases apply_err l (⟨1, s, ByteArray.mk #[], 0, 0, true⟩ : Op1) with ⟨_, h, _, _⟩ | h
          · exact h
          · exact absurd h he
        have := tail (applyS l (⟨1, s, ByteArray.mk #[], 0, 0, true⟩ : Op1)).2 l last T hlast
        rw [← hsame] at this
        rw [hsame] at this
        have e : applyS l (⟨1, s, ByteArray.mk #[], 0, 0, true⟩ : Op1) = (l, (applyS l (⟨1, s, ByteArray.mk #[], 0, 0, true⟩ : Op1)).2) := by
          exact Prod.ext hsame rfl
        rw [e]
        exact this
    · rw [if_neg (by simpa using hi)]
theorem pure_turns (l : List Nd) (s : ByteArray) (bs : List Op1) (hlen : l.length ≤ 140737488351232) (hbl : bs.length ≤ 140737488351232) : m_cantonlaw06_NodesTurns l s bs = some true := by
  unfold m_cantonlaw06_NodesTurns
  rw [head_t]
  have jt : m_cantonlaw06_NodesTurns_j1 bs s true l true = some true := by unfold m_cantonlaw06_NodesTurns_j1; simp
  refine guard l hlen (m_cantonlaw06_NodesTurns_j1 bs s true l) _ jt fun h3 h4 => ?_
  by_cases h5 : (s.size : Int) > 1000
  · rw [if_pos (by simpa using h5)]; exact jt
  rw [if_neg (by simpa using h5)]
  have hsl : (bl s).length ≤ 1000 := by rw [← bl_size]; omega
  by_cases h6 : (bs.length : Int) > 40
  · rw [show decide ((bs.length : Int) > 40) = true from by simpa using h6]; exact jt
  rw [show decide ((bs.length : Int) > 40) = false from by simpa using h6]
  unfold m_cantonlaw06_NodesTurns_j1
  rw [if_neg (by simp), rParent_eq s (by omega)]
  simp only [Option.bind_some]
  by_cases hT : Tree l ∧ MayB (⟨1, s, ByteArray.mk #[], 0, 0, true⟩ : Op1) = true
  · obtain ⟨q, hq⟩ := may_parent hT.2 rfl
    have hq : parentS (bl s) = some q := hq
    obtain ⟨ps, t, _, _, hps⟩ := parent_parts hq
    rw [hq]
    exact turns_l1 s bs (by omega) hT.2 hq hps (((bs.length : Int) - 0 : Int).toNat + 2) 0 l (ByteArray.mk #[]) (by omega) (by omega) hT.1 (.inl rfl)
  · unfold m_cantonlaw06_NodesTurns_l1
    rw [if_pos (by simp), Apply_bad l _ (by omega) h4 hT]
    rfl
end Go.Cb
