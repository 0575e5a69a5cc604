/- Nodes, plainly: NodesBoth. -/
import Derived.Test.YtidapdacihcckaaDoorQ12bo
import Derived.Test.YtidapdacihcckaaDoorKbo3
set_option linter.unusedVariables false
set_option linter.unusedSimpArgs false
namespace Go.Cb
open Go.Proofs Go.RowKit

theorem lt_split : ∀ {l : List Nd} (_ : l.Pairwise (key · < key ·)) (p : List UInt8), l.filter (ltB p) ++ l.filter (fun y => !ltB p y) = l
  | [], _, _ => rfl
  | r :: t, h, p => by
    obtain ⟨h1, h2⟩ := List.pairwise_cons.1 h
    rw [List.filter_cons, List.filter_cons]
    cases hc : ltB p r with
    | true =>
      simp only [if_true, Bool.not_true, Bool.false_eq_true, if_false, List.cons_append]
      rw [lt_split h2 p]
    | false =>
      have hr : ¬ key r < p := by simpa [ltB] using hc
      have f1 : t.filter (ltB p) = [] := List.filter_eq_nil_iff.2 fun y hy h => hr (kl_trans (h1 y hy) (by simpa [ltB] using h))
      have f2 : t.filter (fun y => !ltB p y) = t := List.filter_eq_self.2 fun y hy => by
        have : ¬ key y < p := fun h => hr (kl_trans (h1 y hy) h)
        simpa [ltB] using this
      rw [f1, f2]
      simp
theorem ins_del {l : List Nd} (h : l.Pairwise (key · < key ·)) {x : Nd} (hn : ∀ y ∈ l, key y ≠ key x) : (insS x l).filter (fun y => !isK (key x) y) = l := by
  unfold insS
  have hk : ∀ g : Nd → Bool, (l.filter g).filter (fun y => !isK (key x) y) = l.filter g := fun g => List.filter_eq_self.2 fun y hy => by
    have := hn y (List.mem_filter.1 hy).1
    simpa [isK] using this
  rw [List.filter_append, List.filter_cons, hk, hk, if_neg (by simp [isK]), lt_split h]
theorem create_ok {l : List Nd} {o : Op1} {q : List UInt8} (h : (createS l o q).2.Err = 0) : ∃ u p, l.find? (isK q) = some u ∧ u.Owner = 0 ∧ nameS o q u.Turn = some p ∧ l.find? (isK p) = none ∧ l.length ≠ 512 ∧ createS l o q = (insS ⟨mk p, o.Data, 0, 0, o.Owner⟩ (if o.Turns = true then upd l q turnF else l), { res 0 with Path := mk p }) := by
  unfold createS at h ⊢
  cases hf : l.find? (isK q) with
  | none => rw [hf] at h; simp [res] at h
  | some u =>
    rw [hf] at h
    simp only at h ⊢
    by_cases ho : u.Owner = 0
    · rw [if_neg (by simp [ho])] at h ⊢
      cases hn : nameS o q u.Turn with
      | none => rw [hn] at h; simp [res] at h
      | some p =>
        rw [hn] at h
        simp only at h ⊢
        cases hp : l.find? (isK p) with
        | some z => rw [hp] at h; simp [res] at h
        | none =>
          rw [hp] at h
          simp only [Option.isSome_none, Bool.false_eq_true, if_false] at h ⊢
          by_cases h5 : l.length = 512
          · rw [if_pos h5] at h; simp [res] at h
          · rw [if_neg h5]
            exact ⟨u, p, rfl, ho, hn, hp, h5, rfl⟩
    · rw [if_pos ho] at h; simp [res] at h
theorem both_l1 (l b : List Nd) (o : Op1) (r : Res) (q : List UInt8) (hl : l.length ≤ 512) (T : Tree l) (hb : b = if o.Turns = true then upd l q turnF else l) : ∀ (k i : Nat), i ≤ l.length → l.length + 1 ≤ i + k → m_cantonlaw06_NodesBoth_l1 l (b, r) (mk q, true) o true k (i : Int) = some true
  | 0, i, _, h => by omega
  | k + 1, i, h0, h => by
    unfold m_cantonlaw06_NodesBoth_l1 m_cantonlaw06_NodesBoth_j4 m_cantonlaw06_NodesBoth_j3
    have hbl : b.length = l.length := by rw [hb]; split <;> simp [upd_len]
    by_cases hi : i < l.length
    · have e1 : IntKind.i64.wrap ((i : Int) + 1) = ((i + 1 : Nat) : Int) := by rw [w64 (by omega) (by omega)]; omega
      have ih := both_l1 l b o r q hl T hb k (i + 1) (by omega) (by omega)
      have hib : i < b.length := by omega
      have hok := T.ok _ (List.getElem_mem hi)
      unfold NodeOk at hok
      have hbi : b[i] = if o.Turns = true ∧ key l[i] = q then turnF l[i] else l[i] := by
        have h? : b[i]? = some (if o.Turns = true ∧ key l[i] = q then turnF l[i] else l[i]) := by
          by_cases hT : o.Turns = true
          · have e : b = upd l q turnF := by rw [hb, if_pos hT]
            rw [e, upd, List.getElem?_map, List.getElem?_eq_getElem hi, Option.map_some]
            by_cases hk : key l[i] = q
            · rw [if_pos (by simpa [isK] using hk), if_pos ⟨hT, hk⟩]
            · rw [if_neg (by simpa [isK] using hk), if_neg (fun h => hk h.2)]
          · have e : b = l := by rw [hb, if_neg hT]
            rw [e, List.getElem?_eq_getElem hi, if_neg (fun h => hT h.1)]
        rw [List.getElem?_eq_getElem hib] at h?
        exact Option.some.inj h?
      have hbk : key b[i] = key l[i] := by rw [hbi]; split <;> rfl
      rw [if_pos (by simpa using hi), idx_lt hib, e1]
      simp only [Option.bind_some]
      rw [idx_lt hi, sEq_bl, bl_mk, show bl (b[i]).Path = key b[i] from rfl, hbk]
      simp only [Option.bind_some]
      by_cases hk : key l[i] = q
      · rw [if_pos (by simpa using hk)]
        cases hT : o.Turns with
        | true =>
          simp only [if_true]
          have : b[i] = turnF l[i] := by rw [hbi, if_pos ⟨hT, hk⟩]
          rw [this]
          rw [show IntKind.i64.wrap ((turnF l[i]).Turn - 1) = (l[i]).Turn from by
            show IntKind.i64.wrap ((l[i]).Turn + 1 - 1) = _
            rw [w64 (by omega) (by omega)]; omega]
          have h2 := nd_eq l[i] l[i]
          simp only [decide_true] at h2
          rw [show (sEq (turnF l[i]).Path (l[i]).Path && (sEq (turnF l[i]).Data (l[i]).Data && ((turnF l[i]).Version == (l[i]).Version && ((l[i]).Turn == (l[i]).Turn && (turnF l[i]).Owner == (l[i]).Owner)))) = true from h2]
          exact ih
        | false =>
          simp only [Bool.false_eq_true, if_false]
          have : b[i] = l[i] := by rw [hbi, if_neg (by simp [hT])]
          rw [this, nd_eq]
          simp only [decide_true, Bool.not_true, Bool.false_eq_true, if_false]
          exact ih
      · rw [if_neg (by simpa using hk)]
        simp only [Bool.false_eq_true, if_false]
        have : b[i] = l[i] := by rw [hbi, if_neg (fun h => hk h.2)]
        rw [this, nd_eq]
        simp only [decide_true, Bool.not_true, Bool.false_eq_true, if_false]
        exact ih
    · rw [if_neg (by simpa using hi)]
theorem pure_both (l : List Nd) (o : Op1) (hlen : l.length ≤ 140737488351232) : m_cantonlaw06_NodesBoth l o = some true := by
  unfold m_cantonlaw06_NodesBoth
  rw [head_t]
  have jt : m_cantonlaw06_NodesBoth_j1 l o true true = some true := by unfold m_cantonlaw06_NodesBoth_j1; simp
  refine guard l hlen (m_cantonlaw06_NodesBoth_j1 l o true) _ jt fun h3 h4 => ?_
  have key2 : ∀ b, ((bl o.Path).length ≤ 3000 → b = false → m_cantonlaw06_NodesBoth_j1 l o true b = some true) → m_cantonlaw06_GreatOp o = some b → (b = false → (bl o.Path).length ≤ 3000) → m_cantonlaw06_NodesBoth_j1 l o true b = some true := fun b h _ h2 => by
    cases b with
    | true => exact jt
    | false => exact h (h2 rfl) rfl
  obtain ⟨b, h5, h6⟩ := GreatOp_eq o
  rw [show m_cantonlaw06_GreatOp (⟨o.Kind, o.Path, o.Data, o.Version, o.Owner, o.Turns⟩ : Op1) = _ from h5]
  refine key2 b (fun hp hb => ?_) h5 (fun hb => (h6 hb).1)
  subst hb
  unfold m_cantonlaw06_NodesBoth_j1
  rw [if_neg (by simp)]
  by_cases hT : Tree l ∧ MayB (⟨1, o.Path, o.Data, o.Version, o.Owner, o.Turns⟩ : Op1) = true
  · obtain ⟨T, hm⟩ := hT
    have hl := T.len
    obtain ⟨q, hq⟩ := may_parent hm rfl
    have hq' : parentS (bl o.Path) = some q := hq
    rw [Apply_eq l _ T hm]
    simp only [Option.bind_some]
    have ha : applyS l (⟨1, o.Path, o.Data, o.Version, o.Owner, o.Turns⟩ : Op1) = createS l (⟨1, o.Path, o.Data, o.Version, o.Owner, o.Turns⟩ : Op1) q := by
      unfold applyS; rw [if_pos rfl]; simp only [hq']
    rw [ha]
    by_cases he : (createS l (⟨1, o.Path, o.Data, o.Version, o.Owner, o.Turns⟩ : Op1) q).2.Err = 0
    · obtain ⟨u, p, hu, ho, hn, hp', h512, hc⟩ := create_ok he
      obtain ⟨hpq, _⟩ := name_parent hq hn
      have hTc := Tree_create T hm rfl hq
      rw [hc] at hTc ⊢
      simp only at hTc ⊢
      have hT' : Tree (if o.Turns = true then upd l q turnF else l) ∧ ∀ y ∈ (if o.Turns = true then upd l q turnF else l), key y ≠ p := by
        have hd : (insS (⟨mk p, o.Data, 0, 0, o.Owner⟩ : Nd) (if o.Turns = true then upd l q turnF else l)).filter (fun y => !isK p y) = (if o.Turns = true then upd l q turnF else l) ∧ ∀ y ∈ (if o.Turns = true then upd l q turnF else l), key y ≠ p := by
          have hkeys : ∀ y ∈ (if o.Turns = true then upd l q turnF else l), key y ≠ p := by
            intro y hy
            split at hy
            · obtain ⟨z, hz, rfl⟩ := mem_upd.1 hy
              rw [upd_key (f := turnF) (fun _ => rfl)]
              exact find_no.1 hp' z hz
            · exact find_no.1 hp' y hy
          have hs : (if o.Turns = true then upd l q turnF else l).Pairwise (key · < key ·) := by
            split
            · unfold upd
              rw [List.pairwise_map]
              exact T.sorted.imp fun {a b} h => by rw [upd_key (f := turnF) (fun _ => rfl), upd_key (f := turnF) (fun _ => rfl)]; exact h
            · exact T.sorted
          exact ⟨ins_del (x := (⟨mk p, o.Data, 0, 0, o.Owner⟩ : Nd)) hs hkeys, hkeys⟩
        refine ⟨?_, hd.2⟩
        have hTf := Tree_filter hTc (fun y => !isK p y) (fun y hy hk47 => by
          have hr : [47] ≠ p := by rintro rfl; cases hpq
          simp [isK, hk47, hr]) (fun y hy _ v hv hpv _ => by
          simp only [isK, Bool.not_eq_true', decide_eq_false_iff_not]
          intro e
          rw [e] at hpv
          rcases mem_ins.1 hy with rfl | hy
          · have := parent_lt hpv
            exact kl_irrefl _ this
          · have hk47 : key y ≠ [47] := by intro e; rw [e] at hpv; cases hpv
            have : ∃ z ∈ l, key z = key y := by
              split at hy
              · obtain ⟨z, hz, rfl⟩ := mem_upd.1 hy
                exact ⟨z, hz, (upd_key (f := turnF) (fun _ => rfl) z).symm⟩
              · exact ⟨y, hy, rfl⟩
            obtain ⟨z, hz, hkz⟩ := this
            obtain ⟨q', hq', w, hw, hkw, _⟩ := T.up z hz (by rw [hkz]; exact hk47)
            rw [hkz, hpv] at hq'
            cases hq'
            exact find_no.1 hp' w hw hkw)
        rw [hd.1] at hTf
        exact hTf
      obtain ⟨T', hk'⟩ := hT'
      generalize hL : (if o.Turns = true then upd l q turnF else l) = L at *
      have hLl : L.length = l.length := by rw [← hL]; split <;> simp [upd_len]
      have hal : (insS (⟨mk p, o.Data, 0, 0, o.Owner⟩ : Nd) L).length ≤ 1000 := by rw [ins_len]; omega
      have hxm : (⟨mk p, o.Data, 0, 0, o.Owner⟩ : Nd) ∈ insS (⟨mk p, o.Data, 0, 0, o.Owner⟩ : Nd) L := mem_ins.2 (.inl rfl)
      have hfx := find_mem hTc.sorted hxm
      have hfx : (insS (⟨mk p, o.Data, 0, 0, o.Owner⟩ : Nd) L).find? (isK p) = some (⟨mk p, o.Data, 0, 0, o.Owner⟩ : Nd) := hfx
      rw [if_neg (by simp [res]), rFind_eq _ _ (by omega), bl_mk, fnd_some hfx]
      simp only [Option.bind_some]
      obtain ⟨ps, t, hpp, _⟩ := parent_parts hpq
      have hm2 : MayB (⟨2, mk p, ByteArray.mk #[], 0, 0, false⟩ : Op1) = true := by
        have hne : p ≠ [47] := by rintro rfl; cases hpq
        unfold MayB pathOk kindOk
        simp [bl_mk, hpp, hne, show bl (ByteArray.mk #[]) = [] from rfl]
      rw [Apply_eq _ _ hTc hm2]
      have hnk : (insS (⟨mk p, o.Data, 0, 0, o.Owner⟩ : Nd) L).any (childB p) = false := by
        rw [List.any_eq_false]
        intro y hy hc
        have hc : parentS (key y) = some p := by simpa [childB] using hc
        rcases mem_ins.1 hy with rfl | hy
        · exact kl_irrefl _ (parent_lt hc)
        · have hk47 : key y ≠ [47] := by intro e; rw [e] at hc; cases hc
          obtain ⟨q', hq', w, hw, hkw, _⟩ := T'.up y hy hk47
          rw [hc] at hq'
          cases hq'
          exact hk' w hw hkw
      have ha2 : applyS (insS (⟨mk p, o.Data, 0, 0, o.Owner⟩ : Nd) L) (⟨2, mk p, ByteArray.mk #[], 0, 0, false⟩ : Op1) = (L, res 0) := by
        unfold applyS doS
        simp only [Int.reduceEq, if_false, if_true, bl_mk, hfx]
        rw [if_neg (by simp)]
        have : key (⟨mk p, o.Data, 0, 0, o.Owner⟩ : Nd) = p := rfl
        rw [this, hnk]
        simp only [Bool.false_eq_true, if_false]
        rw [show (insS (⟨mk p, o.Data, 0, 0, o.Owner⟩ : Nd) L).filter (fun y => !isK p y) = L from ins_del (x := (⟨mk p, o.Data, 0, 0, o.Owner⟩ : Nd)) T'.sorted hk']
      rw [ha2]
      simp only [Option.bind_some]
      rw [rFind_eq _ _ (by omega), bl_mk, fnd_none (find_no.2 hk')]
      simp only [Option.bind_some, sEq_bl, decide_true, Bool.not_true, Bool.false_eq_true, if_false, res, bne_self_eq_false]
      unfold m_cantonlaw06_NodesBoth_j2
      rw [if_neg (by simp; omega), rParent_eq _ (by omega), hq']
      simp only [Option.bind_some, os2]
      exact both_l1 l L o _ q hl T hL.symm _ 0 (by omega) (by omega)
    · rw [if_pos (by simpa using he)]
  · rw [Apply_bad l _ (by omega) h4 hT]
    rfl
end Go.Cb
