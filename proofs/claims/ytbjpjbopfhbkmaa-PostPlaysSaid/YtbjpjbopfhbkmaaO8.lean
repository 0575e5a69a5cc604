/- The walks of Drop, Many and New; what post's functions are, plainly. -/
import Derived.Test.YtbjpjbopfhbkmaaO7
set_option linter.unusedVariables false
set_option linter.unusedSimpArgs false
namespace Go.Cb
open Go.Proofs Go.RowKit
def kp (x : Int) (y : Nat × S_api_Mail) : Bool := y.2.To != x
theorem drop_c {w : World} {Fo : List Ob} {rs : List Rp} {p : Nat} {c : Ch} (H : Sep w (PL p (c.length : Int) c (.pointer none) ++ Fo) rs) (hl : c.length ≤ 400) (x : Int) :
    Calls Try.prog 21 [.pointer (some ⟨p, 0, none⟩), .int .i64 x].toArray w (Ret fun v w' => .int .i64 ((c.length - (c.filter (kp x)).length : Nat) : Int) = v ∧ Sep w' (PL p ((c.filter (kp x)).length : Int) (c.filter (kp x)) (.pointer none) ++ Fo) rs) := by
  refine enter Try.func21 rfl Try.ntmps21 rfl fun a E => ?_
  simp only [enum, Nat.reduceAdd] at E
  refine wp_seq ?_
  refine wp_region_lit ?_
  refine sv E rfl rfl rfl (x_assign E rfl rfl) ?_
  clear a E;intro a E
  refine wpList_nil ?_
  refine q_then ?_
  refine wp_seq ?_
  refine wp_region_lit ?_
  refine sv E rfl rfl rfl (x_move E rfl rfl) ?_
  clear a E;intro a E
  refine sv E rfl rfl rfl (x_nil E rfl rfl) ?_
  clear a E;intro a E
  refine sv E rfl rfl rfl (x_fa E rfl rfl (v := .pointer (some ⟨p, 1, none⟩)) (fa81_1 _ _)) ?_
  clear a E;intro a E
  refine sv E rfl rfl rfl (x_ldB (i := 0) E H rfl rfl rfl rfl Try.underlying3 rfl) ?_
  clear a E;intro a E
  refine sv E rfl rfl rfl (x_assign E rfl rfl) ?_
  clear a E;intro a E
  refine wpList_nil ?_
  refine q_then ?_
  refine wp_seq ?_
  refine wp_seq ?_
  refine wp_region_lit ?_
  refine sv E rfl rfl rfl (x_move E rfl rfl) ?_
  clear a E;intro a E
  refine sv E rfl rfl rfl (x_nil E rfl rfl) ?_
  clear a E;intro a E
  refine sv E rfl rfl rfl (x_fa E rfl rfl (v := .pointer (some ⟨p, 0, none⟩)) (fa81_0 _ _)) ?_
  clear a E;intro a E
  refine sv E rfl rfl rfl (x_assign E rfl rfl) ?_
  clear a E;intro a E
  refine wpList_nil ?_
  refine q_then ?_
  refine wp_block ?_
  refine wp_loop_g (fun k a w => ∃ (s t : Ch), t.length = k ∧ s.length + t.length ≤ c.length ∧ s ++ t.filter (kp x) = c.filter (kp x) ∧ Env 53 a [(0, .pointer (some ⟨p, 0, none⟩)), (1, .int .i64 x), (5, .int .i64 (c.length : Int)), (6, .pointer (some ⟨atB p s, atO s, none⟩))] ∧ Sep w (PL p ((s.length + t.length : Nat) : Int) (s ++ t) (.pointer none) ++ Fo) rs) c.length ⟨[], c, rfl, by simp, rfl, (((E.nil.keep E 6 rfl).keep E 5 rfl).keep E 1 rfl).keep E 0 rfl, by simpa using H⟩ ?_
  clear E H; clear a w
  rintro k a w ⟨s, t, hk, hst, he, E, H⟩
  obtain ⟨cs, h1, h2, h3, h4⟩ := PL_cellA p ((s.length + t.length : Nat) : Int) s t (.pointer none) Fo
  refine wp_seq ?_
  refine wp_seq ?_
  refine wp_region_lit ?_
  refine sv E rfl rfl rfl (x_move E rfl rfl) ?_
  clear a E;intro a E
  refine sv E rfl rfl rfl (x_nil E rfl rfl) ?_
  clear a E;intro a E
  refine sv E rfl rfl rfl (x_ldB (i := s.length) E H rfl rfl h1 h2 Try.underlying79 rfl) ?_
  clear a E;intro a E
  rcases t with _ | ⟨⟨q, m⟩, t⟩
  · refine sv E rfl rfl rfl (x_bin2 E rfl rfl rfl (v := .bool false) (by kernel_rfl)) ?_
    clear a E;intro a E
    refine wpList_nil ?_
    refine q_then ?_
    refine wp_if E rfl (fun h => by cases h) fun _ => ?_
    refine wp_exit ?_
    refine q_thenX ?_
    refine q_thenX ?_
    refine q_hit ?_
    refine q_then ?_
    rw [List.filter_nil, List.append_nil] at he
    rw [List.append_nil, List.length_nil, Nat.add_zero] at H
    subst he
    refine wp_seq ?_
    refine wp_region_lit ?_
    refine sv E rfl rfl rfl (x_move E rfl rfl) ?_
    clear a E;intro a E
    refine sv E rfl rfl rfl (x_move E rfl rfl) ?_
    clear a E;intro a E
    refine sv E rfl rfl rfl (x_nil E rfl rfl) ?_
    clear a E;intro a E
    refine sv E rfl rfl rfl (x_fa E rfl rfl (v := .pointer (some ⟨p, 1, none⟩)) (fa81_1 _ _)) ?_
    clear a E;intro a E
    refine sv E rfl rfl rfl (x_ldB (i := 0) E H rfl rfl rfl rfl Try.underlying3 rfl) ?_
    clear a E;intro a E
    refine sv E rfl rfl rfl (x_bin E rfl rfl rfl rfl) ?_
    clear a E;intro a E
    refine sv E rfl rfl rfl (x_assign E rfl rfl) ?_
    clear a E;intro a E
    refine wpList_nil ?_
    refine q_then ?_
    refine wp_ret ?_
    refine out1 E rfl rfl ?_
    refine ⟨?_, H⟩
    congr 1
    have := List.length_filter_le (kp x) c
    have e : ((c.length - (c.filter (kp x)).length : Nat) : Int) = (c.length : Int) - ((c.filter (kp x)).length : Int) := by omega
    rw [e]
    unfold IntKind.wrap; simp [IntKind.bits, IntKind.signed]; omega
  have hm := PL_mailA p ((s.length + (t.length + 1) : Nat) : Int) s q m t (.pointer none) Fo
  refine sv E rfl rfl rfl (x_bin2 E rfl rfl rfl (v := .bool true) (by kernel_rfl)) ?_
  clear a E;intro a E
  refine wpList_nil ?_
  refine q_then ?_
  refine wp_if E rfl (fun _ => ?_) fun h => by cases h
  refine wp_skip ?_
  refine q_then ?_
  refine wp_block ?_
  refine wp_seq ?_
  refine wp_seq ?_
  refine wp_region_lit ?_
  refine sv E rfl rfl rfl (x_move E rfl rfl) ?_
  clear a E;intro a E
  refine sv E rfl rfl rfl (x_nil E rfl rfl) ?_
  clear a E;intro a E
  refine sv E rfl rfl rfl (x_ldB (i := s.length) E H rfl rfl h1 h2 Try.underlying79 rfl) ?_
  clear a E;intro a E
  refine sv E rfl rfl rfl (x_nil E rfl rfl) ?_
  clear a E;intro a E
  refine sv E rfl rfl rfl (x_fa E rfl rfl (v := .pointer (some ⟨q, 0, none⟩)) (fa85_0 _ _)) ?_
  clear a E;intro a E
  refine sv E rfl rfl rfl (x_fa E rfl rfl (v := .pointer (some ⟨q, 1, none⟩)) (pfa32_1 _ _)) ?_
  clear a E;intro a E
  refine sv E rfl rfl rfl (x_ldB (i := s.length + 1) E H rfl rfl hm rfl Try.underlying3 rfl) ?_
  clear a E;intro a E
  refine sv E rfl rfl rfl (x_move E rfl rfl) ?_
  clear a E;intro a E
  refine sv E rfl rfl rfl (x_bin E rfl rfl rfl rfl) ?_
  clear a E;intro a E
  refine wpList_nil ?_
  refine q_then ?_
  have hf : ((q, m) :: t).filter (kp x) = if (m.To != x) = true then (q, m) :: t.filter (kp x) else t.filter (kp x) := by
    rw [List.filter_cons]; rfl
  refine wp_if E rfl (fun hb => ?_) fun hb => ?_
  · rw [if_pos hb] at hf
    refine wp_seq ?_
    refine wp_region_lit ?_
    refine sv E rfl rfl rfl (x_move E rfl rfl) ?_
    clear a E;intro a E
    refine sv E rfl rfl rfl (x_nil E rfl rfl) ?_
    clear a E;intro a E
    refine sv E rfl rfl rfl (x_ldB (i := s.length) E H rfl rfl h1 h2 Try.underlying79 rfl) ?_
    clear a E;intro a E
    refine sv E rfl rfl rfl (x_nil E rfl rfl) ?_
    clear a E;intro a E
    refine sv E rfl rfl rfl (x_fa E rfl rfl (v := .pointer (some ⟨q, 3, none⟩)) (fa85_1 _ _)) ?_
    clear a E;intro a E
    refine sv E rfl rfl rfl (x_assign E rfl rfl) ?_
    clear a E;intro a E
    refine wpList_nil ?_
    refine q_then ?_
    refine wp_exit ?_
    refine q_thenX ?_
    refine q_hit ?_
    refine q_then ?_
    have hB : atB p (s ++ [(q, m)]) = q ∧ atO (s ++ [(q, m)]) = 3 := by
      have h := at_next (c := s ++ [(q, m)]) (k := s.length) (q := q) (m := m) (r := []) p (by simp)
      rw [List.take_of_length_le (by simp)] at h
      exact ⟨h.1, h.2.1⟩
    refine ⟨t.length, by simp at hk; omega, s ++ [(q, m)], t, rfl, by simp at hst ⊢; omega, by rw [← he, hf]; simp, ?_, ?_⟩
    · rw [hB.1, hB.2]
      exact (((E.nil.keep E 6 rfl).keep E 5 rfl).keep E 1 rfl).keep E 0 rfl
    · have e1 : s ++ [(q, m)] ++ t = s ++ (q, m) :: t := by simp
      have e2 : (s ++ [(q, m)]).length + t.length = s.length + ((q, m) :: t).length := by simp; omega
      rw [e1, e2]; exact H
  · rw [if_neg (by rw [hb]; exact Bool.false_ne_true)] at hf
    refine wp_skip ?_
    refine q_then ?_
    refine wp_seq ?_
    refine wp_region_lit ?_
    refine sv E rfl rfl rfl (x_move E rfl rfl) ?_
    clear a E;intro a E
    refine sv E rfl rfl rfl (x_move E rfl rfl) ?_
    clear a E;intro a E
    refine sv E rfl rfl rfl (x_nil E rfl rfl) ?_
    clear a E;intro a E
    refine sv E rfl rfl rfl (x_ldB (i := s.length) E H rfl rfl h1 h2 Try.underlying79 rfl) ?_
    clear a E;intro a E
    refine sv E rfl rfl rfl (x_nil E rfl rfl) ?_
    clear a E;intro a E
    refine sv E rfl rfl rfl (x_fa E rfl rfl (v := .pointer (some ⟨q, 3, none⟩)) (fa85_1 _ _)) ?_
    clear a E;intro a E
    refine sv E rfl rfl rfl (x_ldB (i := s.length + 1) E H rfl rfl hm rfl Try.underlying79 rfl) ?_
    clear a E;intro a E
    refine sv E rfl rfl rfl (x_nil E rfl rfl) ?_
    clear a E;intro a E
    refine st_st (i := s.length) E H (wn rfl) rfl (us := [first t (.pointer none)]) rfl rfl rfl (first_cells t) h1 psz79 h3 (first_one t) ?_
    clear H; clear w; intro w H
    rw [h4] at H
    replace H := Sep.cutOut (A := PL p ((s.length + (t.length + 1) : Nat) : Int) s (first t (.pointer none))) (B := links t (.pointer none) ++ Fo) H
    replace H : Sep w (PL p ((s.length + (t.length + 1) : Nat) : Int) (s ++ t) (.pointer none) ++ Fo) rs := by
      rw [PL_append, List.append_assoc]; exact H
    refine wpList_nil ?_
    refine q_then ?_
    refine wp_region_lit ?_
    refine sv E rfl rfl rfl (x_move E rfl rfl) ?_
    clear a E;intro a E
    refine sv E rfl rfl rfl (x_nil E rfl rfl) ?_
    clear a E;intro a E
    refine sv E rfl rfl rfl (x_fa E rfl rfl (v := .pointer (some ⟨p, 1, none⟩)) (fa81_1 _ _)) ?_
    clear a E;intro a E
    refine sv E rfl rfl rfl (x_ldB (i := 0) E H rfl rfl rfl rfl Try.underlying3 rfl) ?_
    clear a E;intro a E
    refine sv E rfl rfl rfl (x_bin E rfl rfl rfl rfl) ?_
    clear a E;intro a E
    refine sv E rfl rfl rfl (x_nil E rfl rfl) ?_
    clear a E;intro a E
    refine sv E rfl rfl rfl (x_fa E rfl rfl (v := .pointer (some ⟨p, 1, none⟩)) (fa81_1 _ _)) ?_
    clear a E;intro a E
    refine st_st (i := 0) E H (wn rfl) rfl (us := [.int .i64 (IntKind.i64.wrap (((s.length + (t.length + 1) : Nat) : Int) - 1))]) rfl rfl rfl rfl rfl psz3 rfl rfl ?_
    clear H; clear w; intro w H
    refine wpList_nil ?_
    refine q_blk ?_
    refine q_then ?_
    have e : IntKind.i64.wrap (((s.length + (t.length + 1) : Nat) : Int) - 1) = ((s.length + t.length : Nat) : Int) := by
      simp at hst
      rw [sub1 (by omega)]; omega
    rw [e] at H
    exact ⟨t.length, by simp at hk; omega, s, t, rfl, by simp at hst; omega, by rw [← he, hf], (((E.nil.keep E 6 rfl).keep E 5 rfl).keep E 1 rfl).keep E 0 rfl, H⟩
/-! ### plainly -/
abbrev post_RPut := Bool × List S_api_Mail
abbrev post_RTake := (S_api_Mail × Bool) × List S_api_Mail
abbrev post_RDouble := Bool × List S_api_Mail
abbrev post_RDrop := Int × List S_api_Mail
def post_mPut (l : List S_api_Mail) (m : S_api_Mail) : Option post_RPut := some (if l.length = 400 then (false, l) else (true, l ++ [m]))
def post_mTake (l : List S_api_Mail) (x : Int) : Option post_RTake := some (match idx l x with
  | some m => ((m, true), l.eraseIdx x.toNat)
  | none => ((⟨0, 0, ByteArray.mk #[]⟩, false), l))
def post_mDouble (l : List S_api_Mail) (x : Int) : Option post_RDouble := some (match idx l x with
  | some m => if l.length = 400 then (false, l) else (true, l ++ [m])
  | none => (false, l))
def post_mDrop (l : List S_api_Mail) (x : Int) : Option post_RDrop := some (((l.length - (l.filter fun m => m.To != x).length : Nat) : Int), l.filter fun m => m.To != x)
section
variable {w : World} {os : List Ob} {rs : List Rp} {p i : Nat} {l : List S_api_Mail}
theorem lt_of_get {α : Type} {l : List α} {i : Nat} {x : α} (h : l[i]? = some x) : i < l.length := (List.getElem?_eq_some_iff.1 h).1
theorem idx_ch {c : Ch} {x : Int} (hx : 0 ≤ x ∧ x < (c.length : Int)) {q : Nat} {m : S_api_Mail} {r : Ch} (hd : c.drop x.toNat = (q, m) :: r) : idx (c.map Prod.snd) x = some m := by
  unfold idx
  rw [if_pos hx.1, List.getElem?_map]
  have : c[x.toNat]? = some (q, m) := by
    have h := congrArg (fun l : Ch => l[0]?) hd
    simpa using h
  rw [this]; rfl
theorem idx_no {c : Ch} {x : Int} (hx : ¬ (0 ≤ x ∧ x < (c.length : Int))) : idx (c.map Prod.snd) x = none := by
  unfold idx
  split
  · rw [List.getElem?_eq_none (by rw [List.length_map]; omega)]
  · rfl
theorem post_New (H : Sep w os rs) : Calls Try.prog 15 [].toArray w (Ret fun v w' => ∃ p : Nat, .pointer (some ⟨p, 0, none⟩) = v ∧ Sep w' (PostO p ([] : List S_api_Mail) :: os) rs) := by
  refine enter Try.func15 rfl Try.ntmps15 rfl fun a E => ?_
  simp only [enum, Nat.reduceAdd] at E
  refine wp_seq ?_
  refine wp_region_lit ?_
  refine sv E rfl rfl rfl (x_assign E rfl rfl) ?_
  clear a E;intro a E
  refine wpList_nil ?_
  refine q_then ?_
  refine wp_seq ?_
  refine wp_region_lit ?_
  refine sv E rfl rfl rfl (x_build E (ps := []) (vs := []) rfl rfl (v := .agg #[.pointer none, .int .i64 0]) (by kernel_rfl)) ?_
  clear a E;intro a E
  refine st_box E H (wn rfl) rfl rfl (cs := [.pointer none, .int .i64 0]) rfl rfl rfl ?_
  clear E H; clear a; intro p w a H E
  refine sv E rfl rfl rfl (x_assign E rfl rfl) ?_
  clear a E;intro a E
  refine wpList_nil ?_
  refine q_then ?_
  refine wp_ret ?_
  refine out1 E rfl rfl ?_
  exact ⟨p, rfl, Sep.mkex (⟨[], rfl, by simp⟩ : {c : Ch // c.map Prod.snd = [] ∧ ([] : List S_api_Mail).length ≤ 400}) (Sep.pack (l := [Blk p 81 [.pointer none, .int .i64 0]]) H)⟩
theorem post_Many (H : Sep w os rs) (hi : os[i]? = some (PostO p l)) : Calls Try.prog 25 [.pointer (some ⟨p, 0, none⟩)].toArray w (Ret fun v w' => .int .i64 (l.length : Int) = v ∧ Sep w' os rs) := by
  obtain ⟨c, hc, hl, H1⟩ := H.openP hi
  refine enter Try.func25 rfl Try.ntmps25 rfl fun a E => ?_
  simp only [enum, Nat.reduceAdd] at E
  refine wp_seq ?_
  refine wp_region_lit ?_
  refine sv E rfl rfl rfl (x_assign E rfl rfl) ?_
  clear a E;intro a E
  refine wpList_nil ?_
  refine q_then ?_
  refine wp_seq ?_
  refine wp_region_lit ?_
  refine sv E rfl rfl rfl (x_move E rfl rfl) ?_
  clear a E;intro a E
  refine sv E rfl rfl rfl (x_nil E rfl rfl) ?_
  clear a E;intro a E
  refine sv E rfl rfl rfl (x_fa E rfl rfl (v := .pointer (some ⟨p, 1, none⟩)) (fa81_1 _ _)) ?_
  clear a E;intro a E
  refine sv E rfl rfl rfl (x_ldB (i := 0) E H1 rfl rfl rfl rfl Try.underlying3 rfl) ?_
  clear a E;intro a E
  refine sv E rfl rfl rfl (x_assign E rfl rfl) ?_
  clear a E;intro a E
  refine wpList_nil ?_
  refine q_then ?_
  refine wp_ret ?_
  refine out1 E rfl rfl ?_
  exact ⟨by rw [← hc, List.length_map], H⟩
theorem set_self (hi : os[i]? = some (PostO p l)) : os.set i (PostO p l) = os := by
  apply List.ext_getElem?
  intro j
  by_cases e : i = j
  · subst e; rw [List.getElem?_set_self (lt_of_get hi), hi]
  · rw [List.getElem?_set_ne e]
theorem post_All (H : Sep w os rs) (hi : os[i]? = some (PostO p l)) : Calls Try.prog 27 [.pointer (some ⟨p, 0, none⟩)].toArray w (Ret fun v w' => Sep w' (Row 32 k_api_Mail v l :: os) rs) := by
  obtain ⟨c, hc, hl, H1⟩ := H.openP hi
  refine Calls.mono (all_c H1 (by rw [← hc, List.length_map] at hl; exact hl)) fun e w' h => ?_
  cases e with
  | returned v =>
    have h : Sep w' (Row 32 k_api_Mail v (c.map Prod.snd) :: (PL p (c.length : Int) c (.pointer none) ++ os.eraseIdx i)) rs := h
    rw [hc] at h
    replace h := Sep.swap (A := [Row 32 k_api_Mail v l]) (B := PL p (c.length : Int) c (.pointer none)) (C := os.eraseIdx i) h
    have h2 := Sep.closeP (i := i + 1) (os := Row 32 k_api_Mail v l :: os) h hc hl (by simp; exact lt_of_get hi)
    have e : (Row 32 k_api_Mail v l :: os).set (i + 1) (PostO p l) = Row 32 k_api_Mail v l :: os := by rw [List.set_cons_succ, set_self hi]
    rw [e] at h2
    exact h2
  | panicked c => exact h.elim
  | outgrown => exact h.elim
theorem post_Put (H : Sep w os rs) (hi : os[i]? = some (PostO p l)) (m : S_api_Mail) {u : post_RPut} (hu : post_mPut l m = some u) : Calls Try.prog 23 [.pointer (some ⟨p, 0, none⟩), .agg #[.int .i64 m.From, .int .i64 m.To, .string m.Data]].toArray w (Ret fun v w' => .bool u.1 = v ∧ Sep w' (os.set i (PostO p u.2)) rs) := by
  obtain ⟨c, hc, hl, H1⟩ := H.openP hi
  have hcl : c.length = l.length := by rw [← hc, List.length_map]
  obtain rfl := Option.some.inj hu
  refine Calls.mono (put_c H1 (by omega) m) fun e w' h => ?_
  cases e with
  | returned v =>
    have h : if c.length = 400 then .bool false = v ∧ Sep w' (PL p (c.length : Int) c (.pointer none) ++ os.eraseIdx i) rs else .bool true = v ∧ ∃ q, Sep w' (PL p ((c.length : Int) + 1) (c ++ [(q, m)]) (.pointer none) ++ os.eraseIdx i) rs := h
    by_cases h4 : l.length = 400
    · rw [if_pos (by omega)] at h
      rw [if_pos h4]
      exact ⟨h.1, h.2.closeP hc hl (lt_of_get hi)⟩
    · rw [if_neg (by omega)] at h
      rw [if_neg h4]
      obtain ⟨h0, q, h⟩ := h
      refine ⟨h0, Sep.closeP (c := c ++ [(q, m)]) ?_ (by simp [hc]) (by simp; omega) (lt_of_get hi)⟩
      have e : ((c ++ [(q, m)]).length : Int) = (c.length : Int) + 1 := by simp
      rw [e]; exact h
  | panicked c => exact h.elim
  | outgrown => exact h.elim
theorem post_Double (H : Sep w os rs) (hi : os[i]? = some (PostO p l)) (x : Int) {u : post_RDouble} (hu : post_mDouble l x = some u) : Calls Try.prog 19 [.pointer (some ⟨p, 0, none⟩), .int .i64 x].toArray w (Ret fun v w' => .bool u.1 = v ∧ Sep w' (os.set i (PostO p u.2)) rs) := by
  obtain ⟨c, hc, hl, H1⟩ := H.openP hi
  have hcl : c.length = l.length := by rw [← hc, List.length_map]
  obtain rfl := Option.some.inj hu
  refine Calls.mono (double_c H1 (by omega) x) fun e w' h => ?_
  cases e with
  | returned v =>
    have h : if 0 ≤ x ∧ x < (c.length : Int) then ∃ q m r, c.drop x.toNat = (q, m) :: r ∧ if c.length = 400 then .bool false = v ∧ Sep w' (PL p (c.length : Int) c (.pointer none) ++ os.eraseIdx i) rs else .bool true = v ∧ ∃ q, Sep w' (PL p ((c.length : Int) + 1) (c ++ [(q, m)]) (.pointer none) ++ os.eraseIdx i) rs else .bool false = v ∧ Sep w' (PL p (c.length : Int) c (.pointer none) ++ os.eraseIdx i) rs := h
    by_cases hx : 0 ≤ x ∧ x < (c.length : Int)
    · rw [if_pos hx] at h
      obtain ⟨q, m, r, hd, h⟩ := h
      have hx' := idx_ch hx hd
      rw [hc] at hx'
      rw [hx']
      dsimp only
      by_cases h4 : l.length = 400
      · rw [if_pos (by omega)] at h
        rw [if_pos h4]
        exact ⟨h.1, h.2.closeP hc hl (lt_of_get hi)⟩
      · rw [if_neg (by omega)] at h
        rw [if_neg h4]
        obtain ⟨h0, q, h⟩ := h
        refine ⟨h0, Sep.closeP (c := c ++ [(q, m)]) ?_ (by simp [hc]) (by simp; omega) (lt_of_get hi)⟩
        have e : ((c ++ [(q, m)]).length : Int) = (c.length : Int) + 1 := by simp
        rw [e]; exact h
    · rw [if_neg hx] at h
      have hx' := idx_no hx
      rw [hc] at hx'
      rw [hx']
      exact ⟨h.1, h.2.closeP hc hl (lt_of_get hi)⟩
  | panicked c => exact h.elim
  | outgrown => exact h.elim
theorem post_Take (H : Sep w os rs) (hi : os[i]? = some (PostO p l)) (x : Int) {u : post_RTake} (hu : post_mTake l x = some u) : Calls Try.prog 17 [.pointer (some ⟨p, 0, none⟩), .int .i64 x].toArray w (Ret fun v w' => .tuple #[.agg #[.int .i64 u.1.1.From, .int .i64 u.1.1.To, .string u.1.1.Data], .bool u.1.2] = v ∧ Sep w' (os.set i (PostO p u.2)) rs) := by
  obtain ⟨c, hc, hl, H1⟩ := H.openP hi
  have hcl : c.length = l.length := by rw [← hc, List.length_map]
  obtain rfl := Option.some.inj hu
  refine Calls.mono (take_c H1 (by omega) x) fun e w' h => ?_
  cases e with
  | returned v =>
    have h : if 0 ≤ x ∧ x < (c.length : Int) then ∃ q m r, c.drop x.toNat = (q, m) :: r ∧ .tuple #[.agg #[.int .i64 m.From, .int .i64 m.To, .string m.Data], .bool true] = v ∧ Sep w' (PL p ((c.length : Int) - 1) (c.take x.toNat ++ r) (.pointer none) ++ os.eraseIdx i) rs
      else .tuple #[.agg #[.int .i64 0, .int .i64 0, .string ⟨#[]⟩], .bool false] = v ∧ Sep w' (PL p (c.length : Int) c (.pointer none) ++ os.eraseIdx i) rs := h
    by_cases hx : 0 ≤ x ∧ x < (c.length : Int)
    · rw [if_pos hx] at h
      obtain ⟨q, m, r, hd, h0, h⟩ := h
      have hx' := idx_ch hx hd
      rw [hc] at hx'
      rw [hx']
      have hr := (at_next p hd).2.2.2.1
      have e1 : c.take x.toNat ++ r = c.eraseIdx x.toNat := by rw [← hr, List.eraseIdx_eq_take_drop_succ]
      have e2 : ((c.length : Int) - 1) = ((c.eraseIdx x.toNat).length : Int) := by rw [List.length_eraseIdx, if_pos (by omega)]; omega
      rw [e1, e2] at h
      refine ⟨h0, Sep.closeP h ?_ ?_ (lt_of_get hi)⟩
      · show _ = l.eraseIdx x.toNat
        rw [← hc, List.eraseIdx_eq_take_drop_succ, List.eraseIdx_eq_take_drop_succ, List.map_append, List.map_take, List.map_drop]
      · show (l.eraseIdx x.toNat).length ≤ 400
        have := List.length_eraseIdx_le l x.toNat
        omega
    · rw [if_neg hx] at h
      have hx' := idx_no hx
      rw [hc] at hx'
      rw [hx']
      exact ⟨h.1, h.2.closeP hc hl (lt_of_get hi)⟩
  | panicked c => exact h.elim
  | outgrown => exact h.elim
theorem post_Drop (H : Sep w os rs) (hi : os[i]? = some (PostO p l)) (x : Int) {u : post_RDrop} (hu : post_mDrop l x = some u) : Calls Try.prog 21 [.pointer (some ⟨p, 0, none⟩), .int .i64 x].toArray w (Ret fun v w' => .int .i64 u.1 = v ∧ Sep w' (os.set i (PostO p u.2)) rs) := by
  obtain ⟨c, hc, hl, H1⟩ := H.openP hi
  have hcl : c.length = l.length := by rw [← hc, List.length_map]
  obtain rfl := Option.some.inj hu
  have hf : (c.filter (kp x)).map Prod.snd = l.filter fun m => m.To != x := by
    rw [← hc, List.filter_map]; rfl
  have hfl : (c.filter (kp x)).length = (l.filter fun m => m.To != x).length := by rw [← hf, List.length_map]
  refine Calls.mono (drop_c H1 (by omega) x) fun e w' h => ?_
  cases e with
  | returned v =>
    have h : .int .i64 ((c.length - (c.filter (kp x)).length : Nat) : Int) = v ∧ Sep w' (PL p ((c.filter (kp x)).length : Int) (c.filter (kp x)) (.pointer none) ++ os.eraseIdx i) rs := h
    refine ⟨?_, h.2.closeP hf ?_ (lt_of_get hi)⟩
    · rw [← h.1, hcl, hfl]
    · have := List.length_filter_le (fun m : S_api_Mail => m.To != x) l
      show (l.filter fun m => m.To != x).length ≤ 400
      omega
  | panicked c => exact h.elim
  | outgrown => exact h.elim
end
end Go.Cb
