/- Nodes, plainly: NodesTree, NodesVersions. -/
import Derived.Test.YtidapdacihcckaaDoorQ10ve
import Derived.Test.YtidapdacihcckaaDoorKve3
set_option linter.unusedVariables false
set_option linter.unusedSimpArgs false
namespace Go.Cb
open Go.Proofs Go.RowKit

theorem tree_path {l : List Nd} (T : Tree l) {x : Nd} (hx : x ∈ l) : ∃ ps, parts (key x) = some ps := by
  by_cases h : key x = [47]
  · exact ⟨[], by rw [h]; rfl⟩
  · obtain ⟨q, hq, _⟩ := T.up x hx h
    obtain ⟨ps, t, h1, _⟩ := parent_parts hq
    exact ⟨_, h1⟩
theorem find_upd {l : List Nd} {p q : List UInt8} {f : Nd → Nd} (hf : ∀ z, key (f z) = key z) : (upd l p f).find? (isK q) = (l.find? (isK q)).map (fun z => if isK p z then f z else z) := by
  unfold upd
  rw [List.find?_map]
  congr 2
  funext z
  exact congrArg (fun t => decide (t = q)) (upd_key hf z)
/-- the guards that all laws begin with. -/
theorem guard (l : List Nd) (hlen : l.length ≤ 140737488351232) (f : Bool → Option Bool) (g : Option Bool) (ht : f true = some true) (hg : l.length ≤ 1666 → Sm l → g = some true) : ((m_cantonlaw06_Great l).bind fun u => if u = true then f true else g) = some true := by
  obtain ⟨b, h1, h2⟩ := Great_eq l hlen
  rw [h1]
  cases b with
  | true => exact ht
  | false => obtain ⟨h3, h4⟩ := h2 rfl; exact hg h3 h4
theorem guardR (l : List Nd) (hlen : l.length ≤ 1666) (sm : Sm l) (f : Bool → Option Bool) (ht : f true = some true) (hg : Tree l → f false = some true) : ((m_cantonref06_Right l).bind fun u => f (!u)) = some true := by
  obtain ⟨b, h1, h2⟩ := rRight_eq l (by omega) sm
  rw [h1]
  cases b with
  | false => exact ht
  | true => exact hg (h2.1 rfl)
/-! ### NodesTree -/
/-! ### NodesVersions -/
theorem mayV {p : ByteArray} {ps : List (List UInt8)} (h : parts (bl p) = some ps) {k : Int} (hk : k = 3 ∨ k = 4 ∨ k = 5 ∨ k = 6) {d : ByteArray} (hd : (bl d).length ≤ 256) (hd0 : k ≠ 3 → bl d = []) {v : Int} (hv : -1 ≤ v ∧ v ≤ 281474976710656) (hv0 : k = 5 ∨ k = 6 → v = 0) : MayB (⟨k, p, d, v, 0, false⟩ : Op1) = true := by
  unfold MayB pathOk kindOk
  rcases hk with rfl | rfl | rfl | rfl
  · simp [h, hd, hv]
  · simp [h, hd, hv, hd0]
  · simp [h, hd, hd0, hv0]
  · simp [h, hd, hd0, hv0]
theorem vers_l1 (ds : List ByteArray) (s : ByteArray) (hds : ds.length ≤ 40) : ∀ (k i : Nat) (l : List Nd) (x : Nd), i ≤ ds.length → ds.length + 1 ≤ i + k → Tree l → l.find? (isK (bl s)) = some x → x.Version ≤ 1000 + i → m_cantonlaw06_NodesVersions_l1 ds true s k l x.Version (i : Int) = some true
  | 0, i, l, x, _, h, _, _, _ => by omega
  | k + 1, i, l, x, h0, h, T, hf, hv => by
    unfold m_cantonlaw06_NodesVersions_l1 m_cantonlaw06_NodesVersions_j3
    by_cases hi : i < ds.length
    · obtain ⟨hx, hkx⟩ := find_key hf
      obtain ⟨ps, hps⟩ := tree_path T hx
      rw [hkx] at hps
      have hok := T.ok x hx
      unfold NodeOk at hok
      have hsz := bl_size ds[i]
      rw [if_pos (by simpa using hi), idx_lt hi]
      simp only [Option.bind_some]
      by_cases hb : (bl ds[i]).length > 256
      · rw [if_pos (by simp only [decide_eq_true_eq]; omega)]
      · have ew : IntKind.i64.wrap (x.Version + 1) = x.Version + 1 := w64 (by omega) (by omega)
        rw [if_neg (by simp only [decide_eq_true_eq]; omega), ew]
        have m1 := mayV hps (k := 3) (.inl rfl) (d := ds[i]) (by omega) (fun h => absurd rfl h) (v := x.Version + 1) (by omega) (by omega)
        have m2 := mayV hps (k := 4) (.inr (.inl rfl)) (d := ByteArray.mk #[]) (by decide) (fun _ => rfl) (v := x.Version + 1) (by omega) (by omega)
        have m3 := mayV hps (k := 3) (.inl rfl) (d := ds[i]) (by omega) (fun h => absurd rfl h) (v := x.Version) (by omega) (by omega)
        have m4 := mayV hps (k := 5) (.inr (.inr (.inl rfl))) (d := ByteArray.mk #[]) (by decide) (fun _ => rfl) (v := 0) (by decide) (fun _ => rfl)
        have a1 : applyS l (⟨3, s, ds[i], x.Version + 1, 0, false⟩ : Op1) = (l, res 63) := by
          unfold applyS
          simp only [hf]
          rw [if_neg (by decide), if_pos ⟨by decide, by omega, by omega⟩]
        have a2 : applyS l (⟨4, s, ByteArray.mk #[], x.Version + 1, 0, false⟩ : Op1) = (l, res 63) := by
          unfold applyS
          simp only [hf]
          rw [if_neg (by decide), if_pos ⟨by decide, by omega, by omega⟩]
        have a3 : applyS l (⟨3, s, ds[i], x.Version, 0, false⟩ : Op1) = (upd l (key x) (setF (⟨3, s, ds[i], x.Version, 0, false⟩ : Op1)), { res 0 with Version := x.Version + 1 }) := by
          unfold applyS doS
          simp only [hf]
          simp only [Int.reduceEq, if_true, if_false]
          rw [if_neg (by omega), if_neg (by omega)]
        have T3 : Tree (upd l (key x) (setF (⟨3, s, ds[i], x.Version, 0, false⟩ : Op1))) := by
          have := Tree_apply T m3
          rw [a3] at this
          exact this
        have hf3 : (upd l (key x) (setF (⟨3, s, ds[i], x.Version, 0, false⟩ : Op1))).find? (isK (bl s)) = some (setF (⟨3, s, ds[i], x.Version, 0, false⟩ : Op1) x) := by
          rw [find_upd (f := setF (⟨3, s, ds[i], x.Version, 0, false⟩ : Op1)) (fun _ => rfl), hf, Option.map_some, if_pos (by simp [isK])]
        have a4 : applyS (upd l (key x) (setF (⟨3, s, ds[i], x.Version, 0, false⟩ : Op1))) (⟨5, s, ByteArray.mk #[], 0, 0, false⟩ : Op1) = (upd l (key x) (setF (⟨3, s, ds[i], x.Version, 0, false⟩ : Op1)), { res 0 with Data := ds[i], Version := x.Version + 1 }) := by
          unfold applyS doS
          simp only [hf3]
          simp only [Int.reduceEq, if_true, if_false]
          rw [if_neg (by omega)]
          rfl
        rw [Apply_eq l _ T m1, Apply_eq l _ T m2, Apply_eq l _ T m3, a1, a2, a3]
        simp only [Option.bind_some]
        rw [Apply_eq _ _ T3 m4, a4]
        simp only [Option.bind_some, sEq_bl]
        rw [show IntKind.i64.wrap ((i : Int) + 1) = ((i + 1 : Nat) : Int) from by rw [w64 (by omega) (by omega)]; omega]
        have ih := vers_l1 ds s hds k (i + 1) _ _ (by omega) (by omega) T3 hf3 (by show x.Version + 1 ≤ _; omega)
        simp only [res, bne_self_eq_false, Bool.false_eq_true, if_false, decide_true, Bool.not_true]
        exact ih
    · rw [if_neg (by simpa using hi)]
theorem pure_versions (l : List Nd) (s : ByteArray) (ds : List ByteArray) (hlen : l.length ≤ 140737488351232) (hdl : ds.length ≤ 140737488351232) : m_cantonlaw06_NodesVersions l s ds = some true := by
  unfold m_cantonlaw06_NodesVersions
  rw [head_t]
  have jt : m_cantonlaw06_NodesVersions_j1 ds true s l true = some true := by unfold m_cantonlaw06_NodesVersions_j1; simp
  refine guard l hlen (m_cantonlaw06_NodesVersions_j1 ds true s l) _ jt fun h3 h4 => ?_
  by_cases h5 : (s.size : Int) > 1000
  · rw [if_pos (by simpa using h5)]; exact jt
  rw [if_neg (by simpa using h5)]
  by_cases h6 : (ds.length : Int) > 40
  · rw [if_pos (by simpa using h6)]; exact jt
  rw [if_neg (by simpa using h6)]
  refine guardR l h3 h4 _ jt fun T => ?_
  unfold m_cantonlaw06_NodesVersions_j1 m_cantonlaw06_NodesVersions_j2
  rw [if_neg (by simp), rFind_eq l s (by omega)]
  simp only [Option.bind_some]
  rcases opt2 (l.find? (isK (bl s))) with hf | ⟨x, hf⟩
  · rw [fnd_none hf]; rfl
  · rw [fnd_some hf, if_neg (by simp)]
    by_cases hv : x.Version > 1000
    · rw [if_pos (by simpa using hv)]
    · rw [if_neg (by simpa using hv)]
      exact vers_l1 ds s (by omega) (((ds.length : Int) - 0 : Int).toNat + 1) 0 l x (by omega) (by omega) T hf (by omega)
end Go.Cb
