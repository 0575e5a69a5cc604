/- PartPuts, plainly. -/
import Derived.Test.YtgdfoajophpblaaGreatDoorVBpp
import Derived.Test.YtgdfoajophpblaaGreatDoorKpp2
set_option linter.unusedVariables false
set_option linter.unusedSimpArgs false
namespace Go.Cb
open Go.Proofs Go.RowKit

theorem lt_splitV : ∀ {l : List Nd} (_ : l.Pairwise (key · < key ·)) (p : List UInt8), l.filter (ltB p) ++ l.filter (fun y => !ltB p y) = l
  | [], _, _ => rfl
  | r :: t, h, p => by
    obtain ⟨h1, h2⟩ := List.pairwise_cons.1 h
    rw [List.filter_cons, List.filter_cons]
    cases hc : ltB p r with
    | true =>
      simp only [if_true, Bool.not_true, Bool.false_eq_true, if_false, List.cons_append]
      rw [lt_splitV h2 p]
    | false =>
      have hr : ¬ key r < p := by simpa [ltB] using hc
      have f1 : t.filter (ltB p) = [] := List.filter_eq_nil_iff.2 fun y hy h => hr (kl_trans (h1 y hy) (by simpa [ltB] using h))
      have f2 : t.filter (fun y => !ltB p y) = t := List.filter_eq_self.2 fun y hy => by
        have : ¬ key y < p := fun h => hr (kl_trans (h1 y hy) h)
        simpa [ltB] using this
      rw [f1, f2]
      simp
theorem ins_delV {l : List Nd} (h : l.Pairwise (key · < key ·)) {x : Nd} (hn : ∀ y ∈ l, key y ≠ key x) : (insS x l).filter (fun y => !isK (key x) y) = l := by
  unfold insS
  have hk : ∀ g : Nd → Bool, (l.filter g).filter (fun y => !isK (key x) y) = l.filter g := fun g => List.filter_eq_self.2 fun y hy => by
    have := hn y (List.mem_filter.1 hy).1
    simpa [isK] using this
  rw [List.filter_append, List.filter_cons, hk, hk, if_neg (by simp [isK]), lt_splitV h]
theorem may_of {p q : Pt1} (hm : mayP p = true) (hp : pathOk (bl q.Path) = true) (hd : q.Data = mk []) (hv : q.Version = 0) (ho : q.Owner = 0) (hk : q.Kind = 7 ∨ q.Kind = 2 ∧ bl q.Path ≠ [47] ∨ q.Kind = 3) (h : bl q.Dir = upP (bl q.Path)) : mayP q = true := by
  unfold mayP fieldsB dirOf
  rw [hp, hd, hv, ho, h]
  have e : (bl (mk [])).length ≤ 256 := by rw [bl_mk]; exact Nat.zero_le _
  rw [decide_eq_true e]
  rcases hk with k | k | k
  · simp [k]
  · simp [k.1, k.2]
  · simp [k]
theorem pputs_j1 (s : Sto) (p : Pt1) (S : StoreOk s) (h1 : s.Nodes.length ≤ 1666) (h2 : s.Turns.length < 3000) (hp : (bl p.Path).length ≤ 3000) : m_cantonlaw07_PartPuts_j1 true p s false = some true := by
  unfold m_cantonlaw07_PartPuts_j1
  rw [if_neg (by simp), home_eq _ (by omega)]
  simp only [Option.bind_some]
  generalize hP : (⟨2, mk (upP (bl p.Path)), p.Path, p.Data, p.Version, p.Owner, p.Turns⟩ : Pt1) = P
  cases hm : mayP P with
  | false =>
    rw [partDo_bad s P (by omega) (by omega) (fun h => by rw [hm] at h; exact absurd h.2 (by simp))]
    rfl
  | true =>
    rw [partDo_eq s P (by omega) (by omega) S hm]
    simp only [Option.bind_some]
    obtain ⟨g1, g2, g3, g4⟩ := doP_ok s P S hm
    have kP : P.Kind = 2 := by rw [← hP]
    have pP : P.Path = p.Path := by rw [← hP]
    have dP : P.Data = p.Data := by rw [← hP]
    obtain ⟨q, hq⟩ := mayP_parent hm kP
    have hu : upP (bl P.Path) = q := by unfold upP; rw [hq]; rfl
    have e0 : doP s P = putP s P := by unfold doP; rw [if_pos kP]
    rw [e0] at g1 g2 g3 g4 ⊢
    unfold putP at g1 g2 g3 g4 ⊢
    rw [hu] at g1 g2 g3 g4 ⊢
    cases hn : nameS (pop P) q (turnOf s.Turns q) with
    | none => rfl
    | some t =>
      rw [hn] at g1 g2 g3 g4
      obtain ⟨n1, n2⟩ := name_parent (o := pop P) hq hn
      simp only at g1 g2 g3 g4 ⊢
      by_cases c : (s.Nodes.find? (isK t)).isSome = true
      · rw [if_pos c]; rfl
      · rw [if_neg c] at g1 g2 g3 g4 ⊢
        have hfn : ∀ y ∈ s.Nodes, key y ≠ t := fun y hy e => by
          rcases opt2 (s.Nodes.find? (isK t)) with h | ⟨x, h⟩
          · have := List.find?_eq_none.1 h y hy
            simp [isK, e] at this
          · rw [h] at c; exact c rfl
        generalize hA : (⟨insS ⟨mk t, P.Data, 0, 0, P.Owner⟩ s.Nodes, if P.Turns = true then setTurn s.Turns q (turnOf s.Turns q + 1) else s.Turns⟩ : Sto) = A
        rw [hA] at g1 g2 g3
        simp only at g1 g2 g3 g4 ⊢
        have hAN : A.Nodes = insS ⟨mk t, P.Data, 0, 0, P.Owner⟩ s.Nodes := by rw [← hA]
        have kx : key (⟨mk t, P.Data, 0, 0, P.Owner⟩ : Nd) = t := bl_mk t
        have hmem : (⟨mk t, P.Data, 0, 0, P.Owner⟩ : Nd) ∈ A.Nodes := by rw [hAN]; exact mem_ins.2 (.inl rfl)
        have hfd : A.Nodes.find? (isK t) = some ⟨mk t, P.Data, 0, 0, P.Owner⟩ := by
          have := find_mem g1.nsort hmem
          rwa [kx] at this
        obtain ⟨_, _, hp1, _⟩ := parts_q n1
        have tok : pathOk t = true := by unfold pathOk; rw [hp1]; rfl
        have tne : t ≠ [47] := fun e => by rw [e, show parentS [47] = none from rfl] at n1; cases n1
        have hup : upP t = q := by unfold upP; rw [n1]; rfl
        have hq0 : upP (bl p.Path) = q := by rw [← pP]; exact hu
        have m1 : ∀ (k : Int), k = 7 ∨ k = 2 ∨ k = 3 → mayP (⟨k, mk q, mk t, ByteArray.mk #[], 0, 0, false⟩ : Pt1) = true := fun k hk => by
          refine may_of hm (by rw [bl_mk]; exact tok) rfl rfl rfl ?_ (by rw [bl_mk, bl_mk, hup])
          rcases hk with h | h | h
          · exact .inl h
          · exact .inr (.inl ⟨h, by rw [bl_mk]; exact tne⟩)
          · exact .inr (.inr h)
        have lA : A.Nodes.length = s.Nodes.length + 1 := by rw [hAN]; exact ins_len _ _
        have ndA : ∀ k : Int, k = 7 ∨ k = 3 → ndS A.Nodes (⟨k, mk q, mk t, ByteArray.mk #[], 0, 0, false⟩ : Pt1) = (⟨mk t, P.Data, 0, 0, P.Owner⟩, 0) := fun k hk => by
          unfold ndS
          simp only [bl_mk]
          rw [hfd]
          simp [verB]
        have d1 : m_part_Do A (⟨7, mk q, mk t, ByteArray.mk #[], 0, 0, false⟩ : Pt1) = some (A, { res 0 with Data := P.Data, Version := 0 }) := by
          rw [partDo_eq A _ (by omega) (by omega) g1 (m1 7 (.inl rfl))]
          unfold doP
          rw [ndA 7 (.inl rfl)]
          rfl
        have d2 : ∃ r, m_part_Do A (⟨2, mk q, mk t, ByteArray.mk #[], 0, 0, false⟩ : Pt1) = some r ∧ r.2.Err = 61 := by
          refine ⟨_, partDo_eq A _ (by omega) (by omega) g1 (m1 2 (.inr (.inl rfl))), ?_⟩
          unfold doP
          rw [if_pos rfl]
          unfold putP nameS pop
          simp only [bl_mk, Bool.false_eq_true, if_false]
          rw [hfd]
          rfl
        have d3 : ∃ r, m_part_Do A (⟨3, mk q, mk t, ByteArray.mk #[], 0, 0, false⟩ : Pt1) = some r ∧ r.2.Err = 0 ∧ r.1.Nodes = s.Nodes := by
          refine ⟨_, partDo_eq A _ (by omega) (by omega) g1 (m1 3 (.inr (.inr rfl))), ?_⟩
          unfold doP
          rw [ndA 3 (.inr rfl)]
          refine ⟨rfl, ?_⟩
          show A.Nodes.filter (fun y => !isK (bl (mk t)) y) = s.Nodes
          rw [bl_mk, hAN]
          have := ins_delV S.nsort (x := (⟨mk t, P.Data, 0, 0, P.Owner⟩ : Nd)) (fun y hy => by rw [kx]; exact hfn y hy)
          rwa [kx] at this
        obtain ⟨r2, d2, e2⟩ := d2
        obtain ⟨r3, d3, e3, f3⟩ := d3
        rw [hq0]
        rw [if_neg (by simp [res]), d1]
        simp only [Option.bind_some]
        rw [d2]
        simp only [Option.bind_some]
        rw [d3]
        simp only [Option.bind_some]
        rw [if_pos trivial, if_pos (by rfl), if_pos (by rw [sEq_bl, dP]; simp), if_pos (by rfl), if_pos (by simp [e2]), if_pos (by simp [e3]), f3, Same_eq _ _ (by omega), decide_eq_true rfl]
        simp only [Option.bind_some]
        rw [if_pos trivial, w64 (by omega) (by omega), lA]
        simp
theorem pure_pputs (s : Sto) (p : Pt1) (hlen : s.Nodes.length ≤ 140737488351232) : m_cantonlaw07_PartPuts s p = some true := by
  have up : m_cantonlaw07_PartPuts_j1 true p s true = some true := rfl
  unfold m_cantonlaw07_PartPuts
  rw [head7_t]
  obtain ⟨b, h1, h2⟩ := great7_eq s hlen
  simp only [Option.bind_some]
  rw [h1]
  simp only [Option.bind_some]
  cases b with
  | true => rw [if_pos rfl]; exact up
  | false =>
    obtain ⟨g1, g2, g3⟩ := h2 rfl
    rw [if_neg (by simp)]
    obtain ⟨c, h3, h4⟩ := greatPart_eq p
    rw [h3]
    simp only [Option.bind_some]
    cases c with
    | true => rw [if_pos rfl]; exact up
    | false =>
      rw [if_neg (by simp)]
      obtain ⟨d, h5, h6⟩ := rRightS_eq s g1
      rw [h5]
      simp only [Option.bind_some]
      cases d with
      | false => exact up
      | true => exact pputs_j1 s p (h6.1 rfl) g2 g3 (h4 rfl).2.1
end Go.Cb
