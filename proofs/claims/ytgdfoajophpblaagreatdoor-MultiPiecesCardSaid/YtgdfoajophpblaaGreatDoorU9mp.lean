/- MultiPieces, plainly. -/
import Derived.Test.YtgdfoajophpblaaGreatDoorU8mp
import Derived.Test.YtgdfoajophpblaaGreatDoorKmp3
set_option linter.unusedVariables false
set_option linter.unusedSimpArgs false
namespace Go.Cb
open Go.Proofs Go.RowKit

def runQ (s0 : Sto) : Sto → Nat → List Pie → Sto × Int × Int
  | s, _, [] => (s, 0, 0)
  | s, i, x :: l => if (doP s x.Part).2.Err ≠ 0 then (s0, (doP s x.Part).2.Err, (i : Int)) else runQ s0 (doP s x.Part).1 (i + 1) l
theorem runQ_ok {s0 s s' : Sto} {p : Pt1} {r : Res} {j : Nat} {i : Int} {l : List Pie} (h : doP s p = (s', r)) (hr : r.Err = 0) : runQ s0 s j (⟨i, p⟩ :: l) = runQ s0 s' (j + 1) l := by
  rw [runQ, h, if_neg (by simpa using hr)]
theorem runQ_err {s0 s s' : Sto} {p : Pt1} {r : Res} {j : Nat} {i : Int} {l : List Pie} (h : doP s p = (s', r)) (hr : r.Err ≠ 0) : runQ s0 s j (⟨i, p⟩ :: l) = (s0, r.Err, (j : Int)) := by
  rw [runQ, h, if_pos hr]
theorem all_run (s0 : Sto) (l : List Pie) (hl : l.length ≤ 1000) (hm : ∀ x ∈ l, mayP x.Part = true) : ∀ (k i : Nat) (s : Sto) (acc : List Res), StoreOk s → s.Nodes.length ≤ 2000 + i → s.Turns.length ≤ 2000 + i → i ≤ l.length → l.length + 1 ≤ i + k → acc.length ≤ i →
    ∃ rs, m_multi_All_l1 l s0 k acc (i : Int) s.Nodes s.Turns = some ((runQ s0 s i (l.drop i)).1, rs, (runQ s0 s i (l.drop i)).2.1, (runQ s0 s i (l.drop i)).2.2)
  | 0, i, s, acc, _, _, _, _, h, _ => by omega
  | k + 1, i, s, acc, S, h1, h2, h0, h, ha => by
    unfold m_multi_All_l1
    by_cases hi : i < l.length
    · have hmi := hm _ (List.getElem_mem hi)
      rw [if_pos (by simpa using hi), idx_lt hi, List.drop_eq_getElem_cons hi, runQ]
      simp only [Option.bind_some]
      rw [show (⟨s.Nodes, s.Turns⟩ : Sto) = s from rfl, partDo_eq s _ (by omega) (by omega) S hmi]
      simp only [Option.bind_some]
      by_cases e : (doP s (l[i]).Part).2.Err = 0
      · obtain ⟨g1, g2, g3, g4⟩ := doP_ok s _ S hmi
        rw [if_neg (by simpa using e), if_neg (by simpa using e), ck_b (by simp [LIM]; omega), inc1 (by omega)]
        exact all_run s0 l hl hm k (i + 1) _ _ g1 (by omega) (by omega) (by omega) (by omega) (by simp; omega)
      · rw [if_pos (by simpa using e), if_pos e]
        exact ⟨_, rfl⟩
    · rw [if_neg (by simpa using hi), List.drop_eq_nil_of_le (by omega)]
      exact ⟨_, rfl⟩
/-! ### one part of the store of a tree -/
theorem ndS_none {l : List Nd} {p : Pt1} (h : l.find? (isK (bl p.Path)) = none) : ndS (keepS l).Nodes p = (zNd, 62) := by
  unfold ndS; rw [keep_find, h]; rfl
theorem ndS_ver {l : List Nd} {p : Pt1} {x : Nd} (h : l.find? (isK (bl p.Path)) = some x) (v : verB p x = true) : ndS (keepS l).Nodes p = (kn x, 63) := by
  unfold ndS; rw [keep_find, h]; simp only [Option.map_some]; rw [if_pos (show verB p (kn x) = true from v)]
theorem ndS_ok {l : List Nd} {p : Pt1} {x : Nd} (h : l.find? (isK (bl p.Path)) = some x) (v : verB p x = false) : ndS (keepS l).Nodes p = (kn x, 0) := by
  unfold ndS; rw [keep_find, h]; simp only [Option.map_some]; rw [if_neg (by rw [show verB p (kn x) = false from v]; simp)]
theorem doP_none {l : List Nd} {p : Pt1} (hk : p.Kind = 1 ∨ p.Kind = 3 ∨ p.Kind = 5 ∨ p.Kind = 6 ∨ p.Kind = 7 ∨ p.Kind = 8) (h : l.find? (isK (bl p.Path)) = none) : doP (keepS l) p = (keepS l, res 62) := by
  unfold doP
  rw [ndS_none h]
  rcases hk with hk | hk | hk | hk | hk | hk <;> simp [hk]
theorem doP_ver {l : List Nd} {p : Pt1} {x : Nd} (h : l.find? (isK (bl p.Path)) = some x) (v : verB p x = true) : doP (keepS l) p = (keepS l, res 63) := by
  unfold doP
  rw [ndS_ver h v]
  unfold verB at v
  simp only [Bool.and_eq_true, Bool.or_eq_true, decide_eq_true_eq] at v
  rcases v.1.1 with (hk | hk) | hk <;> simp [hk]
theorem doP_k1 {l : List Nd} {p : Pt1} {x : Nd} (hk : p.Kind = 1) (h : l.find? (isK (bl p.Path)) = some x) : doP (keepS l) p = (keepS l, res (if x.Owner ≠ 0 then 65 else 0)) := by
  unfold doP
  rw [ndS_ok h (by simp [verB, hk])]
  by_cases c : x.Owner = 0 <;> simp [hk, kn, c]
theorem doP_k2 (s : Sto) (p : Pt1) (h : p.Kind = 2) : doP s p = putP s p := by
  unfold doP; simp [h]
theorem doP_k3 {l : List Nd} {p : Pt1} {x : Nd} (hk : p.Kind = 3) (h : l.find? (isK (bl p.Path)) = some x) (v : verB p x = false) : doP (keepS l) p = (⟨(keepS l).Nodes.filter (fun y => !isK (bl p.Path) y), (keepS l).Turns⟩, res 0) := by
  unfold doP
  rw [ndS_ok h v]
  simp [hk]
theorem doP_k4 (s : Sto) (p : Pt1) (h : p.Kind = 4) : doP s p = if s.Nodes.any (childB (bl p.Path)) = true then (s, res 64) else (⟨s.Nodes, setTurn s.Turns (bl p.Path) 0⟩, res 0) := by
  unfold doP; rw [if_neg (by omega), if_pos h]
theorem doP_k5 {l : List Nd} {p : Pt1} {x : Nd} (hk : p.Kind = 5) (h : l.find? (isK (bl p.Path)) = some x) (v : verB p x = false) : doP (keepS l) p = if x.Version = 281474976710656 then (keepS l, res 2) else (⟨upd (keepS l).Nodes (bl p.Path) (altF p), (keepS l).Turns⟩, { res 0 with Version := x.Version + 1 }) := by
  unfold doP
  rw [ndS_ok h v]
  by_cases c : x.Version = 281474976710656 <;> simp [hk, kn, c]
theorem doP_k6 {l : List Nd} {p : Pt1} {x : Nd} (hk : p.Kind = 6) (h : l.find? (isK (bl p.Path)) = some x) (v : verB p x = false) : doP (keepS l) p = (keepS l, { res 0 with Version := x.Version }) := by
  unfold doP
  rw [ndS_ok h v]
  simp [hk, kn]
theorem doP_k7 {l : List Nd} {p : Pt1} {x : Nd} (hk : p.Kind = 7) (h : l.find? (isK (bl p.Path)) = some x) : doP (keepS l) p = (keepS l, { res 0 with Data := x.Data, Version := x.Version }) := by
  unfold doP
  rw [ndS_ok h (by simp [verB, hk])]
  simp [hk, kn]
theorem doP_k8 {l : List Nd} {p : Pt1} {x : Nd} (hk : p.Kind = 8) (h : l.find? (isK (bl p.Path)) = some x) : doP (keepS l) p = (keepS l, res 0) := by
  unfold doP
  rw [ndS_ok h (by simp [verB, hk])]
  simp [hk]
theorem doP_k9 (s : Sto) (p : Pt1) (h : p.Kind = 9) : doP s p = (s, { res 0 with Names := (s.Nodes.filter (childB (bl p.Path))).map lastN }) := by
  unfold doP; rw [if_neg (by omega), if_neg (by omega), if_pos h]
theorem doP_k10 (s : Sto) (p : Pt1) (h : p.Kind = 10) : doP s p = (⟨s.Nodes.filter (fun x => !ownB (bl p.Path) p.Owner x), s.Turns⟩, { res 0 with Names := (s.Nodes.filter (ownB (bl p.Path) p.Owner)).map lastN }) := by
  unfold doP; rw [if_neg (by omega), if_neg (by omega), if_neg (by omega), if_pos h]
/-! ### the parts of an operation, one behind the other -/
def Sim (s0 : Sto) (now : List Nd) (o : Op1) (j : Nat) (i : Int) (rest : List Pie) : Prop :=
  ((applyS now o).2.Err = 0 → runQ s0 (keepS now) j ((partsOf o).map (fun p => (⟨i, p⟩ : Pie)) ++ rest) = runQ s0 (keepS (applyS now o).1) (j + (partsOf o).length) rest) ∧
  ((applyS now o).2.Err ≠ 0 → ∃ m, m < (partsOf o).length ∧ runQ s0 (keepS now) j ((partsOf o).map (fun p => (⟨i, p⟩ : Pie)) ++ rest) = (s0, (applyS now o).2.Err, ((j + m : Nat) : Int)))
theorem sim_create (s0 : Sto) (now : List Nd) (o : Op1) (j : Nat) (i : Int) (rest : List Pie) (T : Tree now) (hm : MayB o = true) (h5 : now.length < 512) (hk : o.Kind = 1) : Sim s0 now o j i rest := by
  obtain ⟨q, hq⟩ := may_parent hm hk
  have hu : upS (bl o.Path) = q := by unfold upS; rw [hq]; rfl
  have hu' : upP (bl o.Path) = q := hu
  have ha : applyS now o = createS now o q := by unfold applyS; rw [if_pos hk, hq]
  have hp : partsOf o = [⟨1, mk (upS q), mk q, mk [], 0, 0, false⟩, ⟨2, mk q, o.Path, o.Data, 0, o.Owner, o.Turns⟩] := by
    unfold partsOf; simp only [hk, if_true, hu, bl_mk]
  have T' : Tree (applyS now o).1 := Tree_apply T hm
  unfold Sim
  rw [ha] at T' ⊢
  rw [hp]
  simp only [List.map_cons, List.map_nil, List.cons_append, List.nil_append, List.length_cons, List.length_nil]
  have t := keep_turn T.sorted q
  cases hf : now.find? (isK q) with
  | none =>
    have hc : createS now o q = (now, res 62) := by unfold createS; rw [hf]
    have g : doP (keepS now) ⟨1, mk (upS q), mk q, mk [], 0, 0, false⟩ = (keepS now, res 62) := doP_none (.inl rfl) hf
    rw [hc]
    exact ⟨fun h => by simp [res] at h, fun _ => ⟨0, by omega, runQ_err g (by simp [res])⟩⟩
  | some u =>
    obtain ⟨f1, f2⟩ := find_key hf
    rw [hf] at t
    simp only at t
    have g : doP (keepS now) ⟨1, mk (upS q), mk q, mk [], 0, 0, false⟩ = (keepS now, res (if u.Owner ≠ 0 then 65 else 0)) := doP_k1 rfl hf
    by_cases ho : u.Owner = 0
    · rw [if_neg (by simpa using ho)] at g
      have p := doP_k2 (keepS now) ⟨2, mk q, o.Path, o.Data, 0, o.Owner, o.Turns⟩ rfl
      unfold putP at p
      simp only [hu', t] at p
      rw [show nameS (pop ⟨2, mk q, o.Path, o.Data, 0, o.Owner, o.Turns⟩) q u.Turn = nameS o q u.Turn from rfl] at p
      have c1 : ∀ x, runQ s0 (keepS now) j (⟨i, ⟨1, mk (upS q), mk q, mk [], 0, 0, false⟩⟩ :: x) = runQ s0 (keepS now) (j + 1) x := fun x => runQ_ok g rfl
      rw [c1]
      cases hn : nameS o q u.Turn with
      | none =>
        have hc : createS now o q = (now, res 66) := by unfold createS; rw [hf]; simp only; rw [if_neg (by simpa using ho), hn]
        rw [hn] at p
        rw [hc]
        exact ⟨fun h => by simp [res] at h, fun _ => ⟨1, by omega, runQ_err p (by simp [res])⟩⟩
      | some w =>
        rw [hn] at p
        simp only at p
        rw [keep_find, Option.isSome_map] at p
        by_cases hw : (now.find? (isK w)).isSome = true
        · have hc : createS now o q = (now, res 61) := by unfold createS; rw [hf]; simp only; rw [if_neg (by simpa using ho), hn]; simp only; rw [if_pos hw]
          rw [if_pos hw] at p
          rw [hc]
          exact ⟨fun h => by simp [res] at h, fun _ => ⟨1, by omega, runQ_err p (by simp [res])⟩⟩
        · have hc : createS now o q = (insS ⟨mk w, o.Data, 0, 0, o.Owner⟩ (if o.Turns = true then upd now q turnF else now), { res 0 with Path := mk w }) := by unfold createS; rw [hf]; simp only; rw [if_neg (by simpa using ho), hn]; simp only; rw [if_neg hw, if_neg (by omega)]
          rw [if_neg hw] at p
          rw [hc] at T' ⊢
          refine ⟨fun _ => ?_, fun h => by simp [res] at h⟩
          rw [runQ_ok p rfl]
          congr 1
          have hs := T'.sorted
          simp only at hs
          cases hT : o.Turns with
          | false =>
            rw [hT] at hs
            simp only [Bool.false_eq_true, if_false] at hs ⊢
            rw [keep_ins T rfl hs]
            rfl
          | true =>
            rw [hT] at hs
            simp only [if_true] at hs ⊢
            have Tu : Tree (upd now q turnF) := by
              refine Tree_upd T q turnF (fun z => rfl) (fun z => rfl) fun z hz hkz => ?_
              have h1 := T.ok z hz
              have : z = u := sorted_inj T.sorted hz f1 (hkz.trans f2.symm)
              subst this
              have h2 := (name_parent hq hn).2 hT
              unfold NodeOk at h1 ⊢
              simp only [turnF]
              refine ⟨h1.1, h1.2.1, h1.2.2.1, by omega, by omega, h1.2.2.2.2.2.1, h1.2.2.2.2.2.2.1, fun h => absurd ho h⟩
            rw [keep_ins Tu rfl hs, ← f2, keep_turnF T f1]
            rfl
    · have hc : createS now o q = (now, res 65) := by unfold createS; rw [hf]; simp only; rw [if_pos ho]
      rw [if_pos ho] at g
      rw [hc]
      exact ⟨fun h => by simp [res] at h, fun _ => ⟨0, by omega, runQ_err g (by simp [res])⟩⟩
theorem ver_eq (o : Op1) (p : Pt1) (x : Nd) (hk : p.Kind = 3 ∨ p.Kind = 5 ∨ p.Kind = 6) (hv : p.Version = o.Version) (ho : o.Kind ≤ 4) : (o.Kind ≤ 4 ∧ 0 ≤ o.Version ∧ o.Version ≠ x.Version) ↔ verB p x = true := by
  unfold verB
  rw [hv]
  simp only [Bool.and_eq_true, Bool.or_eq_true, decide_eq_true_eq]
  constructor
  · rintro ⟨h1, h2, h3⟩
    refine ⟨⟨?_, h2⟩, h3⟩
    rcases hk with hk | hk | hk
    · exact .inl (.inl hk)
    · exact .inl (.inr hk)
    · exact .inr hk
  · rintro ⟨⟨h1, h2⟩, h3⟩
    exact ⟨ho, h2, h3⟩
theorem ver_f (o : Op1) (p : Pt1) (x : Nd) (hk : p.Kind = 3 ∨ p.Kind = 5 ∨ p.Kind = 6) (hv : p.Version = o.Version) (ho : o.Kind ≤ 4) (h : ¬ (o.Kind ≤ 4 ∧ 0 ≤ o.Version ∧ o.Version ≠ x.Version)) : verB p x = false := by
  cases c : verB p x with
  | false => rfl
  | true => exact absurd ((ver_eq o p x hk hv ho).2 c) h
theorem sim_one {s0 : Sto} {now : List Nd} {o : Op1} {j : Nat} {i : Int} {rest : List Pie} {p : Pt1} (hp : partsOf o = [p]) (h : doP (keepS now) p = (keepS (applyS now o).1, (applyS now o).2) ∨ ((applyS now o).2.Err ≠ 0 ∧ ∃ s, doP (keepS now) p = (s, (applyS now o).2))) : Sim s0 now o j i rest := by
  unfold Sim
  rw [hp]
  simp only [List.map_cons, List.map_nil, List.cons_append, List.nil_append, List.length_cons, List.length_nil]
  rcases h with h | ⟨h1, s, h⟩
  · exact ⟨fun e => runQ_ok h e, fun e => ⟨0, by omega, runQ_err h e⟩⟩
  · exact ⟨fun e => absurd e h1, fun e => ⟨0, by omega, runQ_err h e⟩⟩
theorem sim_two {s0 : Sto} {now : List Nd} {o : Op1} {j : Nat} {i : Int} {rest : List Pie} {p p' : Pt1} (hp : partsOf o = [p, p']) (h : (∃ s r, doP (keepS now) p = (s, r) ∧ r.Err ≠ 0 ∧ r.Err = (applyS now o).2.Err) ∨ ∃ s r, doP (keepS now) p = (s, r) ∧ r.Err = 0 ∧ ((∃ s' r', doP s p' = (s', r') ∧ r'.Err ≠ 0 ∧ r'.Err = (applyS now o).2.Err) ∨ ∃ r', doP s p' = (keepS (applyS now o).1, r') ∧ r'.Err = 0 ∧ (applyS now o).2.Err = 0)) : Sim s0 now o j i rest := by
  unfold Sim
  rw [hp]
  simp only [List.map_cons, List.map_nil, List.cons_append, List.nil_append, List.length_cons, List.length_nil]
  rcases h with ⟨s, r, h1, h2, h3⟩ | ⟨s, r, h1, h2, ⟨s', r', h3, h4, h5⟩ | ⟨r', h3, h4, h5⟩⟩
  · exact ⟨fun e => absurd (h3.trans e) h2, fun e => ⟨0, by omega, by rw [runQ_err h1 h2, h3]; rfl⟩⟩
  · rw [runQ_ok h1 h2]
    exact ⟨fun e => absurd (h5.trans e) h4, fun e => ⟨1, by omega, by rw [runQ_err h3 h4, h5]⟩⟩
  · rw [runQ_ok h1 h2]
    exact ⟨fun e => runQ_ok h3 h4, fun e => absurd h5 e⟩
theorem any_del (l : List Nd) (p : List UInt8) : (l.filter (fun y => !isK p y)).any (childB p) = l.any (childB p) := by
  rw [Bool.eq_iff_iff]
  simp only [List.any_eq_true, List.mem_filter]
  constructor
  · rintro ⟨x, ⟨h1, _⟩, h2⟩; exact ⟨x, h1, h2⟩
  · rintro ⟨x, h1, h2⟩
    refine ⟨x, ⟨h1, ?_⟩, h2⟩
    unfold childB at h2
    have h3 := kl_ne (parent_lt (by simpa using h2))
    simp only [isK, Bool.not_eq_true', decide_eq_false_iff_not]
    exact fun e => h3 e.symm
theorem sim (s0 : Sto) (now : List Nd) (o : Op1) (j : Nat) (i : Int) (rest : List Pie) (T : Tree now) (hm : MayB o = true) (h5 : now.length < 512) : Sim s0 now o j i rest := by
  by_cases k1 : o.Kind = 1
  · exact sim_create s0 now o j i rest T hm h5 k1
  obtain ⟨hk, _, _, _, _, h6⟩ := may_iff hm
  have kk : o.Kind = 2 ∨ o.Kind = 3 ∨ o.Kind = 4 ∨ o.Kind = 5 ∨ o.Kind = 6 ∨ o.Kind = 7 := by omega
  have hA : applyS now o = match now.find? (isK (bl o.Path)) with
    | none => (now, res 62)
    | some x => if o.Kind ≤ 4 ∧ 0 ≤ o.Version ∧ o.Version ≠ x.Version then (now, res 63) else doS now o x := by
    unfold applyS; rw [if_neg k1]; cases now.find? (isK (bl o.Path)) <;> rfl
  rcases kk with c | c | c | c | c | c
  · have hp : partsOf o = [⟨3, mk (upS (bl o.Path)), o.Path, mk [], o.Version, 0, false⟩, ⟨4, o.Path, o.Path, mk [], 0, 0, false⟩] := by unfold partsOf; simp [c]
    refine sim_two hp ?_
    cases hf : now.find? (isK (bl o.Path)) with
    | none =>
      rw [hf] at hA
      rw [hA]
      exact .inl ⟨_, _, doP_none (.inr (.inl rfl)) hf, by simp [res], rfl⟩
    | some x =>
      rw [hf] at hA
      simp only at hA
      by_cases v : o.Kind ≤ 4 ∧ 0 ≤ o.Version ∧ o.Version ≠ x.Version
      · rw [if_pos v] at hA
        rw [hA]
        exact .inl ⟨_, _, doP_ver hf ((ver_eq o _ x (.inl rfl) rfl (by omega)).1 v), by simp [res], rfl⟩
      · rw [if_neg v] at hA
        obtain ⟨f1, f2⟩ := find_key hf
        have hD : doS now o x = if now.any (childB (key x)) = true then (now, res 64) else (now.filter (fun y => !isK (key x) y), res 0) := by unfold doS; rw [if_pos c]
        rw [hA, hD, f2]
        refine .inr ⟨_, _, doP_k3 rfl hf (ver_f o _ x (.inl rfl) rfl (by omega) v), rfl, ?_⟩
        simp only
        rw [keep_filter now _ (fun x => rfl)]
        have a1 : (⟨(now.filter (fun y => !isK (bl o.Path) y)).map kn, (keepS now).Turns⟩ : Sto).Nodes.any (childB (bl o.Path)) = now.any (childB (bl o.Path)) := by
          simp only [List.any_map]
          exact any_del now _
        have g := doP_k4 (⟨(now.filter (fun y => !isK (bl o.Path) y)).map kn, (keepS now).Turns⟩ : Sto) ⟨4, o.Path, o.Path, mk [], 0, 0, false⟩ rfl
        rw [a1] at g
        by_cases a : now.any (childB (bl o.Path)) = true
        · rw [if_pos a] at g
          rw [if_pos a]
          exact .inl ⟨_, _, g, by simp [res], rfl⟩
        · rw [if_neg a] at g
          rw [if_neg a]
          refine .inr ⟨res 0, ?_, rfl, rfl⟩
          · rw [g, keep_del T, keep_filter now _ (fun x => rfl)]
  · have hp : partsOf o = [⟨5, mk (upS (bl o.Path)), o.Path, o.Data, o.Version, 0, false⟩] := by unfold partsOf; simp [c]
    refine sim_one hp ?_
    cases hf : now.find? (isK (bl o.Path)) with
    | none =>
      rw [hf] at hA
      rw [hA]
      exact .inl (doP_none (.inr (.inr (.inl rfl))) hf)
    | some x =>
      rw [hf] at hA
      simp only at hA
      by_cases v : o.Kind ≤ 4 ∧ 0 ≤ o.Version ∧ o.Version ≠ x.Version
      · rw [if_pos v] at hA
        rw [hA]
        exact .inl (doP_ver hf ((ver_eq o _ x (.inr (.inl rfl)) rfl (by omega)).1 v))
      · rw [if_neg v] at hA
        obtain ⟨f1, f2⟩ := find_key hf
        have hD : doS now o x = if x.Version = 281474976710656 then (now, res 2) else (upd now (key x) (setF o), { res 0 with Version := x.Version + 1 }) := by unfold doS; rw [if_neg (by omega), if_pos c]
        have g := doP_k5 (p := ⟨5, mk (upS (bl o.Path)), o.Path, o.Data, o.Version, 0, false⟩) rfl hf (ver_f o _ x (.inr (.inl rfl)) rfl (by omega) v)
        rw [hA, hD, f2]
        refine .inl ?_
        rw [g]
        by_cases m : x.Version = 281474976710656
        · rw [if_pos m, if_pos m]
        · rw [if_neg m, if_neg m]
          simp only
          rw [keep_set T (bl o.Path) o (altF ⟨5, mk (upS (bl o.Path)), o.Path, o.Data, o.Version, 0, false⟩) (fun x => rfl)]
  · have hp : partsOf o = [⟨6, mk (upS (bl o.Path)), o.Path, mk [], o.Version, 0, false⟩] := by unfold partsOf; simp [c]
    refine sim_one hp (.inl ?_)
    cases hf : now.find? (isK (bl o.Path)) with
    | none => rw [hf] at hA; rw [hA]; exact doP_none (by simp) hf
    | some x =>
      rw [hf] at hA
      simp only at hA
      by_cases v : o.Kind ≤ 4 ∧ 0 ≤ o.Version ∧ o.Version ≠ x.Version
      · rw [if_pos v] at hA
        rw [hA]
        exact doP_ver hf ((ver_eq o _ x (.inr (.inr rfl)) rfl (by omega)).1 v)
      · rw [if_neg v] at hA
        have hD : doS now o x = (now, { res 0 with Version := x.Version }) := by unfold doS; simp [c]
        rw [hA, hD]
        exact doP_k6 rfl hf (ver_f o _ x (.inr (.inr rfl)) rfl (by omega) v)
  · have hp : partsOf o = [⟨7, mk (upS (bl o.Path)), o.Path, mk [], 0, 0, false⟩] := by unfold partsOf; simp [c]
    refine sim_one hp (.inl ?_)
    cases hf : now.find? (isK (bl o.Path)) with
    | none => rw [hf] at hA; rw [hA]; exact doP_none (by simp) hf
    | some x =>
      rw [hf] at hA
      simp only at hA
      rw [if_neg (by omega)] at hA
      have hD : doS now o x = (now, { res 0 with Data := x.Data, Version := x.Version }) := by unfold doS; simp [c]
      rw [hA, hD]
      exact doP_k7 rfl hf
  · have hp : partsOf o = [⟨8, mk (upS (bl o.Path)), o.Path, mk [], 0, 0, false⟩, ⟨9, o.Path, o.Path, mk [], 0, 0, false⟩] := by unfold partsOf; simp [c]
    refine sim_two hp ?_
    cases hf : now.find? (isK (bl o.Path)) with
    | none => rw [hf] at hA; rw [hA]; exact .inl ⟨_, _, doP_none (by simp) hf, by simp [res], rfl⟩
    | some x =>
      rw [hf] at hA
      simp only at hA
      rw [if_neg (by omega)] at hA
      have hD : doS now o x = (now, { res 0 with Names := (now.filter (childB (key x))).map lastN }) := by unfold doS; simp [c]
      rw [hA, hD]
      exact .inr ⟨_, _, doP_k8 rfl hf, rfl, .inr ⟨_, doP_k9 _ _ rfl, rfl, rfl⟩⟩
  · have hp : partsOf o = [⟨8, mk (upS (bl o.Path)), o.Path, mk [], 0, 0, false⟩, ⟨10, o.Path, o.Path, mk [], 0, o.Owner, false⟩] := by unfold partsOf; simp [c]
    refine sim_two hp ?_
    cases hf : now.find? (isK (bl o.Path)) with
    | none => rw [hf] at hA; rw [hA]; exact .inl ⟨_, _, doP_none (by simp) hf, by simp [res], rfl⟩
    | some x =>
      rw [hf] at hA
      simp only at hA
      rw [if_neg (by omega)] at hA
      obtain ⟨f1, f2⟩ := find_key hf
      have hw : o.Owner ≠ 0 := by
        rw [c] at h6
        simp [kindOk] at h6
        exact h6.1.2
      have hD : doS now o x = (now.filter (fun y => !ownB (key x) o.Owner y), { res 0 with Names := (now.filter (ownB (key x) o.Owner)).map lastN }) := by unfold doS; simp [c]
      rw [hA, hD, f2]
      refine .inr ⟨_, _, doP_k8 rfl hf, rfl, .inr ⟨{ res 0 with Names := ((keepS now).Nodes.filter (ownB (bl o.Path) o.Owner)).map lastN }, ?_, rfl, rfl⟩⟩
      · simp only
        rw [keep_own T _ _ hw]
        exact doP_k10 _ _ rfl
end Go.Cb
