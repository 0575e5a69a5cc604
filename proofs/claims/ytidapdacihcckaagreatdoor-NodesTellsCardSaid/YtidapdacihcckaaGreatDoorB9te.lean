/- Base 9: what a reading of an argument says, as data of a kind. -/
import Derived.Test.YtidapdacihcckaaGreatDoorB8te
import Derived.WalkKit
import Derived.ProofKit
import Derived.OpenShut
import Derived.ShutString
import Derived.ChangeOld
import Derived.Below
import Derived.SizedLaws
import Derived.Deep.Slices
set_option linter.unusedVariables false
set_option linter.unusedSimpArgs false
namespace Go.Cb
open Go.RowKit Go.ChangeShapes Go.WideShapes

def Wt {H : Type} (P : Program) (t : TypeId) (x : DataW H) : Prop := ∀ n ∈ x.weights P t, n ≤ reachBytes

/-- a reading of type t is a datum of kind d. -/
def Op {α : Type} (P : Program) (d : Kd α) (t : TypeId) (WF : α → Prop) : Prop :=
  ∀ {H : Type} {enc : TypeId × Value → H} {W : World} {fuel : Nat} {cs : List Value} {x : DataW H × List MemPlace},
    DataW.trod enc P W 0 (fun _ => true) true fuel t cs = some x → Wt P t x.1 → ∃ y, d.R W (fun _ => True) y cs ∧ WF y

def InI (k : IntKind) (n : Int) : Prop := k.min ≤ n ∧ n ≤ k.max
def InS (s : ByteArray) : Prop := s.size ≤ 140737488351232
def InL {α : Type} (WF : α → Prop) (xs : List α) : Prop := xs.length ≤ 140737488351232 ∧ ∀ x ∈ xs, WF x

theorem op_int {P : Program} {k : IntKind} {t : TypeId} (ht : P.underlying t = some (.int k)) : Op P (kI k) t (InI k) := by
  intro H enc W fuel cs x h _
  obtain ⟨n, rfl, rfl, hw⟩ := DataW.trod_int ht h
  simp only [Lit.wf, Bool.and_eq_true, decide_eq_true_eq] at hw
  exact ⟨n, rfl, hw.1, hw.2⟩
theorem op_bool {P : Program} {t : TypeId} (ht : P.underlying t = some .bool) : Op P kB t (fun _ => True) := by
  intro H enc W fuel cs x h _
  obtain ⟨n, rfl, rfl⟩ := DataW.trod_bool ht h
  exact ⟨n, rfl, trivial⟩
theorem op_string {P : Program} {t : TypeId} (ht : P.underlying t = some .string) : Op P kS t InS := by
  intro H enc W fuel cs x h hx
  obtain ⟨s, rfl, rfl, _⟩ := DataW.trod_string ht h
  have := hx s.data.toList.length (by simp [DataW.weights])
  refine ⟨s, rfl, ?_⟩
  rw [Array.length_toList] at this
  exact this
theorem op_map {α β : Type} {P : Program} {t : TypeId} {d : Kd α} {WF : α → Prop} (f : β → α) (g : α → β) (hfg : ∀ x, f (g x) = x) (h : Op P d t WF) : Op P (kMap d f) t (fun y => WF (f y)) := by
  intro H enc W fuel cs x hx hw
  obtain ⟨y, h1, h2⟩ := h hx hw
  exact ⟨g y, by show d.R W _ (f (g y)) cs; rw [hfg]; exact h1, by show WF (f (g y)); rw [hfg]; exact h2⟩
theorem weightsAll_mem {H : Type} {P : Program} {e : TypeId} : ∀ {l : List (DataW H)} {d : DataW H}, d ∈ l → ∀ n ∈ d.weights P e, n ∈ DataW.weightsAll P e l
  | a :: l, d, hd, n, hn => by
    simp only [DataW.weightsAll, List.mem_append]
    rcases List.mem_cons.1 hd with rfl | hd
    · exact .inl hn
    · exact .inr (weightsAll_mem hd n hn)
/-- rows out of places. -/
theorem rows_of {α : Type} {d : Kd α} {W : World} {WF : α → Prop} {a : Addr} : ∀ (n : Nat),
    (∀ i, i < n → ∃ y cs, d.R W (fun _ => True) y cs ∧ WF y ∧ ∀ j u, cs[j]? = some u → W.cell? (a.add (i * d.sz + j)) = some u) →
    ∃ ys flat, ys.length = n ∧ Rows d W (fun _ => True) ys flat ∧ (∀ y ∈ ys, WF y) ∧ ∀ j u, flat[j]? = some u → W.cell? (a.add j) = some u
  | 0, _ => ⟨[], [], rfl, Rows.nil _ _ _, by simp, by simp⟩
  | n + 1, h => by
    obtain ⟨ys, flat, hl, hr, hw, hc⟩ := rows_of n fun i hi => h i (by omega)
    obtain ⟨y, cs, h1, h2, h3⟩ := h n (by omega)
    refine ⟨ys ++ [y], flat ++ cs, by simp [hl], hr.append (Rows.single h1), ?_, ?_⟩
    · intro z hz
      rcases List.mem_append.1 hz with hz | hz
      · exact hw z hz
      · simp at hz; subst hz; exact h2
    · intro j u hu
      rcases Nat.lt_or_ge j flat.length with hj | hj
      · rw [List.getElem?_append_left hj] at hu; exact hc j u hu
      · rw [List.getElem?_append_right hj] at hu
        have := h3 _ u hu
        rw [hr.1, hl] at this hj
        rw [show n * d.sz + (j - n * d.sz) = j from by omega] at this
        exact this
theorem op_slice {α : Type} {P : Program} {t e : TypeId} {d : Kd α} {WF : α → Prop} (ht : P.underlying t = some (.slice e)) (hc : P.cellsOf e = d.sz) (hb : 0 < P.bytesOf e) (h : Op P d e WF) : Op P (kL d) t (InL WF) := by
  intro H enc W fuel cs x hx hw
  rcases Go.Deep.open_slice ht hx with ⟨rfl, rfl⟩ | ⟨a, len, cap, m, n, D, Pl, rfl, _, hl, hm, hmm, rfl, hel⟩
  · exact ⟨[], ⟨_, rfl, Sl.nil _ _ _⟩, by simp, by simp⟩
  have hmc : m = cap := by simpa using hmm
  subst hmc
  rw [hc] at hel
  have hW : ∀ n ∈ (DataW.slice ((List.range len).map D) ((List.range (m - len)).map fun j => D (len + j))).weights P t, n ≤ reachBytes := hw
  simp only [DataW.weights, ht] at hW
  obtain ⟨ys, flat, hyl, hr, hwf, hcell⟩ := rows_of (d := d) (W := W) (WF := WF) (a := a) len fun i hi => by
    obtain ⟨cs', h1, h2⟩ := hel i (by omega)
    obtain ⟨y, h3, h4⟩ := h h2 (by
      intro k hk
      refine hW k (List.mem_cons_of_mem _ (List.mem_append_left _ (weightsAll_mem (d := D i) (List.mem_map.2 ⟨i, List.mem_range.2 hi, rfl⟩) k hk))))
    refine ⟨y, cs', h3, h4, fun j u hu => ?_⟩
    have hh := World.cells?_some h1
    have := hh.2.2 j (by have := (List.getElem?_eq_some_iff.1 hu).1; rw [hh.2.1] at this; exact this)
    rw [← Go.Deep.add_add]
    rw [hu] at this
    first | exact this | exact this.symm
  refine ⟨ys, ⟨_, rfl, some a, m, flat, by rw [hyl], by omega, hr, fun _ => ⟨a, rfl, trivial, hcell⟩⟩, ?_, hwf⟩
  have := hW _ (List.mem_cons_self)
  simp only [List.length_map, List.length_range] at this
  rw [hyl]
  have h2 : len * 1 ≤ (len + (m - len)) * P.bytesOf e := Nat.mul_le_mul (by omega) hb
  have h3 : reachBytes = 140737488351232 := rfl
  omega

/-- the fields of a struct, from one on. -/
def OpF {α : Type} (P : Program) (d : Kd α) (fs : List Field) (off : Nat) (WF : α → Prop) : Prop :=
  ∀ {H : Type} {enc : TypeId × Value → H} {W : World} {n : Nat} {cs : List Value} {xs : List (DataW H × List MemPlace)},
    (∀ (i : Nat) (f : Field), fs[i]? = some f → DataW.trod enc P W 0 (fun _ => true) true n f.type ((cs.drop f.offset).take (P.cellsOf f.type)) = xs[i]?) →
    xs.length = fs.length → (∀ k ∈ DataW.weightsEach P (fs.map (·.type)) (xs.map (·.1)), k ≤ reachBytes) → cs.length = off + d.sz →
    ∃ y, d.R W (fun _ => True) y (cs.drop off) ∧ WF y
theorem opF_one {α : Type} {P : Program} {d : Kd α} {f : Field} {off : Nat} {WF : α → Prop} (ho : f.offset = off) (hc : P.cellsOf f.type = d.sz) (h : Op P d f.type WF) : OpF P d [f] off WF := by
  intro H enc W n cs xs h1 h2 h3 h4
  match xs, h2 with
  | [x], _ =>
    have h5 := h1 0 f rfl
    simp only [List.getElem?_cons_zero, ho, hc] at h5
    obtain ⟨y, h6, h7⟩ := h h5 (fun k hk => h3 k (by simp [DataW.weightsEach]; exact hk))
    refine ⟨y, ?_, h7⟩
    rw [List.take_of_length_le (by rw [List.length_drop]; omega)] at h6
    exact h6
theorem opF_cons {α β : Type} {P : Program} {d : Kd α} {d' : Kd β} {f : Field} {fs : List Field} {off : Nat} {WF : α → Prop} {WF' : β → Prop} (ho : f.offset = off) (hc : P.cellsOf f.type = d.sz) (h : Op P d f.type WF)
    (k : OpF P d' fs (off + d.sz) WF') : OpF P (kP d d') (f :: fs) off (fun x => WF x.1 ∧ WF' x.2) := by
  intro H enc W n cs xs h1 h2 h3 h4
  match xs, h2 with
  | x :: xs, h2 =>
    have hsz : (kP d d').sz = d.sz + d'.sz := rfl
    have h5 := h1 0 f rfl
    simp only [List.getElem?_cons_zero, ho, hc] at h5
    simp only [List.map_cons, DataW.weightsEach, List.mem_append] at h3
    obtain ⟨y, h6, h7⟩ := h h5 (fun k hk => h3 k (.inl hk))
    obtain ⟨z, h8, h9⟩ := k (xs := xs) (fun i g hg => h1 (i + 1) g (by simpa using hg)) (by simpa using h2) (fun k hk => h3 k (.inr hk)) (by omega)
    refine ⟨(y, z), ⟨_, _, ?_, h6, h8⟩, h7, h9⟩
    rw [← List.drop_drop, List.take_append_drop]
theorem op_struct {α : Type} {P : Program} {t : TypeId} {fs : Array Field} {d : Kd α} {WF : α → Prop} (ht : P.underlying t = some (.struct fs)) (hc : P.cellsOf t = d.sz) (h : OpF P d fs.toList 0 WF) : Op P d t WF := by
  intro H enc W fuel cs x hx hw
  obtain ⟨xs, n, rfl, rfl, h1, h2, h3⟩ := DataW.trod_struct ht hx
  have hW : ∀ n ∈ (DataW.agg (xs.map (·.1))).weights P t, n ≤ reachBytes := hw
  simp only [DataW.weights, ht] at hW
  obtain ⟨y, h4, h5⟩ := h (cs := cs) (xs := xs) (fun i f hf => h3 i f (by simpa using hf)) (by simpa using h2) hW (by omega)
  rw [List.drop_zero] at h4
  exact ⟨y, h4, h5⟩

/-- an argument whose cells are one. -/
theorem sep_start (W : World) (rs : List Rp) (h : ∀ r ∈ rs, r.p W (fun _ => True)) : Sep W [] (rs ++ [rBelow W]) := by
  refine ⟨fun _ => 0, by simp, fun r hr => ?_⟩
  rcases List.mem_append.1 hr with hr | hr
  · have e : (fun _ : Nat => (fun _ : Nat => 0) 0 = 0) = fun _ => True := by funext b; simp
    have := h r hr
    exact r.keep this (Kp.refl _ _) (fun _ _ _ => rfl)
  · simp at hr
    subst hr
    exact ⟨Below.refl _ _, fun _ _ => rfl⟩
theorem sep_below {W W' : World} {rs : List Rp} {Fo : List Ob} (H : Sep W' Fo (rs ++ [rBelow W])) : Below W.heap.size W W' := by
  obtain ⟨col, _, h⟩ := H
  exact (h (rBelow W) (by simp)).1
theorem wt_each {H : Type} {P : Program} {ts : List TypeId} {ds : List (DataW H)} {j : Nat} {t : TypeId} {d : DataW H} (h : (DataW.weightsEach P ts ds).all (· ≤ reachBytes) = true) (ht : ts[j]? = some t) (hd : ds[j]? = some d) : Wt P t d := by
  intro n hn
  have := List.all_eq_true.1 h n (DataW.weights_mem_each ht hd n hn)
  simpa using this
end Go.Cb
