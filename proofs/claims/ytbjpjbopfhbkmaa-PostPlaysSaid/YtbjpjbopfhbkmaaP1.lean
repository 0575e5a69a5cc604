/- The laws of layer 19 that ask no document: plainly. -/
import Derived.Test.YtbjpjbopfhbkmaaO8
import Derived.Test.YtbjpjbopfhbkmaaFcantonlaw19PostFull
import Derived.Test.YtbjpjbopfhbkmaaFcantonlaw19PostDoubles
import Derived.Test.YtbjpjbopfhbkmaaFcantonlaw19PostKeeps
set_option linter.unusedVariables false
set_option linter.unusedSimpArgs false
namespace Go.Cb
open Go.Proofs Go.RowKit
theorem w9 {x : Int} (h : -1000000000000 ≤ x) (h' : x ≤ 1000000000000) : IntKind.i64.wrap x = x := by unfold IntKind.wrap; simp [IntKind.bits, IntKind.signed]; omega
theorem w9s {i : Nat} (h : i ≤ 100000000000) : IntKind.i64.wrap ((i : Int) + 1) = ((i + 1 : Nat) : Int) := by rw [w9 (by omega) (by omega)]; omega
theorem ix9 {α : Type} {l : List α} {i : Nat} (h : i < l.length) : idx l (i : Int) = some l[i] := by
  unfold idx
  rw [if_pos (by omega)]
  simp [h]
theorem sEq_self (x : ByteArray) : sEq x x = true := by simp [sEq]
theorem same19_self (L : List S_api_Mail) (hL : L.length ≤ 1000000000) : m_cantonref19_Same L L = some true := by
  have key : ∀ (k i f : Nat), i + k = L.length → k + 1 ≤ f → m_cantonref19_Same_l1 L L f (i : Int) = some true := by
    intro k
    induction k with
    | zero =>
      intro i f h h'
      obtain ⟨f, rfl⟩ : ∃ g, f = g + 1 := ⟨f - 1, by omega⟩
      rw [m_cantonref19_Same_l1, if_neg (by simp; omega)]
    | succ k ih =>
      intro i f h h'
      obtain ⟨f, rfl⟩ : ∃ g, f = g + 1 := ⟨f - 1, by omega⟩
      rw [m_cantonref19_Same_l1, if_pos (by simp; omega), ix9 (by omega)]
      simp only [Option.bind_some, sEq_self]
      rw [if_neg (by simp), w9s (by omega)]
      exact ih (i + 1) f (by omega) (by omega)
  unfold m_cantonref19_Same
  rw [if_neg (by simp)]
  exact key L.length 0 _ (by omega) (by omega)
theorem head19 : m_cantonlaw19_head = some true := by
  unfold m_cantonlaw19_head
  simp only [post_mPut, post_mDouble, post_mTake, post_mDrop, Option.bind_some]
  simp [idx, sEq_self]
theorem pure_full (x : S_api_Mail) (a : Int) (ha : 0 ≤ a ∧ a ≤ 255) : m_cantonlaw19_PostFull x a = some true := by
  have fin : ∀ (f : Nat) (L : List S_api_Mail), L.length = 400 → m_cantonlaw19_PostFull_l1 x true (f + 1) a 400 L = some true := fun f L hL => by
    obtain ⟨k, rfl⟩ : ∃ k : Nat, a = (k : Int) := ⟨a.toNat, by omega⟩
    have hk : k < 400 := by omega
    rw [m_cantonlaw19_PostFull_l1, if_neg (by simp), w9 (by omega) (by omega)]
    have e0 : ∀ m, post_mPut L m = some (false, L) := fun m => by unfold post_mPut; rw [if_pos hL]
    rw [e0]
    simp only [Option.bind_some]
    have e1 : idx L (k : Int) = some (L[k]'(by omega)) := ix9 (by omega)
    have e2 : post_mDouble L (k : Int) = some (false, L) := by unfold post_mDouble; rw [e1]; simp only; rw [if_pos hL]
    have e3 : post_mTake L (k : Int) = some ((L[k]'(by omega), true), L.eraseIdx k) := by unfold post_mTake; rw [e1]; rfl
    rw [e2]
    simp only [Option.bind_some]
    rw [e3]
    simp only [Option.bind_some]
    have e4 : (L.eraseIdx k).length = 399 := by rw [List.length_eraseIdx, if_pos (by omega)]; omega
    obtain ⟨y, e5⟩ : ∃ y, idx (L.eraseIdx k) 0 = some y := ⟨_, ix9 (i := 0) (by omega)⟩
    have e6 : post_mDouble (L.eraseIdx k) 0 = some (true, L.eraseIdx k ++ [y]) := by unfold post_mDouble; rw [e5]; simp only; rw [if_neg (by omega)]
    rw [e6]
    simp only [Option.bind_some]
    have e7 : ∀ m, post_mPut (L.eraseIdx k ++ [y]) m = some (false, L.eraseIdx k ++ [y]) := fun m => by unfold post_mPut; rw [if_pos (by rw [List.length_append, e4]; rfl)]
    rw [e7]
    simp only [Option.bind_some, List.length_append, e4]
    rfl
  have key : ∀ (k i f : Nat), i + k = 400 → k + 1 ≤ f → m_cantonlaw19_PostFull_l1 x true f a (i : Int) (List.replicate i x) = some true := by
    intro k
    induction k with
    | zero =>
      intro i f h h'
      obtain ⟨f, rfl⟩ : ∃ g, f = g + 1 := ⟨f - 1, by omega⟩
      obtain rfl : i = 400 := by omega
      exact fin f _ List.length_replicate
    | succ k ih =>
      intro i f h h'
      obtain ⟨f, rfl⟩ : ∃ g, f = g + 1 := ⟨f - 1, by omega⟩
      rw [m_cantonlaw19_PostFull_l1, if_pos (by simp; omega)]
      simp only [post_mPut, List.length_replicate, if_neg (show ¬ i = 400 by omega), Option.bind_some]
      rw [if_neg (by simp), w9s (by omega)]
      have e : List.replicate i x ++ [(⟨x.From, x.To, x.Data⟩ : S_api_Mail)] = List.replicate (i + 1) x := by rw [List.replicate_succ']
      rw [e]
      exact ih (i + 1) f (by omega) (by omega)
  unfold m_cantonlaw19_PostFull
  rw [head19]
  simp only [Option.bind_some]
  split
  · rfl
  · exact key 400 0 _ (by omega) (by omega)
theorem put9 {l : List S_api_Mail} (h : l.length < 400) (m : S_api_Mail) : post_mPut l m = some (true, l ++ [m]) := by unfold post_mPut; rw [if_neg (by omega)]
theorem pure_doubles (l : List S_api_Mail) (x3 x4 : Int) (h3 : 0 ≤ x3 ∧ x3 ≤ 255) (h4 : 0 ≤ x4 ∧ x4 ≤ 255) : m_cantonlaw19_PostDoubles l x3 x4 = some true := by
  have hj : ∀ b, b = true → m_cantonlaw19_PostDoubles_j1 x4 x3 l true b = some true := by rintro _ rfl; rfl
  unfold m_cantonlaw19_PostDoubles
  rw [head19]
  simp only [Option.bind_some]
  split
  · exact hj _ rfl
  rename_i h50
  by_cases h0 : l.length = 0
  · exact hj _ (by rw [h0]; rfl)
  have h50 : l.length ≤ 50 := by simp at h50; omega
  rw [show ((l.length : Int) == 0) = false from by simp; intro h; exact h0 (by rw [h]; rfl)]
  unfold m_cantonlaw19_PostDoubles_j1
  rw [if_neg (by simp)]
  obtain ⟨n, hn, hn30⟩ : ∃ n : Nat, IntKind.i64.wrap (x4.tmod 30) = (n : Int) ∧ n ≤ 30 := by
    have : x4.tmod 30 = x4 % 30 := Int.tmod_eq_emod_of_nonneg h4.1
    refine ⟨(x4 % 30).toNat, ?_, by omega⟩
    rw [this, w9 (by omega) (by omega)]; omega
  obtain ⟨q, hq, hql⟩ : ∃ q : Nat, (IntKind.i64.wrap x3).tmod (l.length : Int) = (q : Int) ∧ q < l.length := by
    rw [w9 (by omega) (by omega), Int.tmod_eq_emod_of_nonneg h3.1]
    have h1 := Int.emod_nonneg x3 (show (l.length : Int) ≠ 0 by omega)
    have h2 := Int.emod_lt_of_pos x3 (show (0 : Int) < (l.length : Int) by omega)
    exact ⟨(x3 % (l.length : Int)).toNat, by omega, by omega⟩
  have key2 : ∀ (k j f : Nat), j + k = n → k + 1 ≤ f → m_cantonlaw19_PostDoubles_l2 x4 x3 l true f (l ++ List.replicate j l[q]) (j : Int) (l ++ List.replicate j l[q]) = some true := by
    intro k
    induction k with
    | zero =>
      intro j f h h'
      obtain ⟨f, rfl⟩ : ∃ g, f = g + 1 := ⟨f - 1, by omega⟩
      rw [m_cantonlaw19_PostDoubles_l2, hn, if_neg (by simp; omega), if_pos rfl, same19_self _ (by simp; omega)]
      rfl
    | succ k ih =>
      intro j f h h'
      obtain ⟨f, rfl⟩ : ∃ g, f = g + 1 := ⟨f - 1, by omega⟩
      rw [m_cantonlaw19_PostDoubles_l2, hn, if_pos (by simp; omega), hq]
      have e1 : idx (l ++ List.replicate j l[q]) (q : Int) = some l[q] := by
        rw [ix9 (by simp; omega)]
        rw [List.getElem_append_left hql]
      have e2 : post_mDouble (l ++ List.replicate j l[q]) (q : Int) = some (true, (l ++ List.replicate j l[q]) ++ [l[q]]) := by
        unfold post_mDouble
        rw [e1]
        simp only
        rw [if_neg (by simp; omega)]
      rw [e2]
      simp only [Option.bind_some]
      rw [if_neg (by simp), ix9 hql]
      simp only [Option.bind_some]
      have e3 : ck ((l ++ List.replicate j l[q]).length + ([l[q]] : List S_api_Mail).length ≤ LIM) = some () := by unfold ck; rw [if_pos (by simp [LIM]; omega)]
      rw [e3]
      simp only [Option.bind_some]
      rw [w9s (by omega), show l ++ List.replicate j l[q] ++ [l[q]] = l ++ List.replicate (j + 1) l[q] from by rw [List.replicate_succ', List.append_assoc]]
      exact ih (j + 1) f (by omega) (by omega)
  have key1 : ∀ (k i f : Nat), i + k = l.length → k + 1 ≤ f → m_cantonlaw19_PostDoubles_l1 x4 x3 l true f (i : Int) (l.take i) = some true := by
    intro k
    induction k with
    | zero =>
      intro i f h h'
      obtain ⟨f, rfl⟩ : ∃ g, f = g + 1 := ⟨f - 1, by omega⟩
      rw [m_cantonlaw19_PostDoubles_l1, if_neg (by simp; omega)]
      have e3 : ck ((l.length : Int) ≠ 0) = some () := by unfold ck; rw [if_pos (by omega)]
      have e4 : ck (([] : List S_api_Mail).length + l.length ≤ LIM) = some () := by unfold ck; rw [if_pos (by simp [LIM]; omega)]
      rw [e3, e4]
      simp only [Option.bind_some]
      rw [List.take_of_length_le (by omega), hn]
      have := key2 n 0 (((n : Int) - 0).toNat + 1) (by omega) (by omega)
      simpa using this
    | succ k ih =>
      intro i f h h'
      obtain ⟨f, rfl⟩ : ∃ g, f = g + 1 := ⟨f - 1, by omega⟩
      rw [m_cantonlaw19_PostDoubles_l1, if_pos (by simp; omega), ix9 (by omega)]
      simp only [Option.bind_some]
      split
      · rfl
      rw [put9 (by rw [List.length_take]; omega)]
      simp only [Option.bind_some]
      rw [w9s (by omega), List.take_append_getElem (by omega)]
      exact ih (i + 1) f (by omega) (by omega)
  have := key1 l.length 0 (((l.length : Int) - 0 : Int).toNat + 1) (by omega) (by omega)
  simpa using this
theorem erase_snoc (l : List S_api_Mail) (kk i : Nat) (h : i < l.length) : (l.take (i + 1)).eraseIdx kk = if i = kk then (l.take i).eraseIdx kk else (l.take i).eraseIdx kk ++ [l[i]] := by
  have ht : (l.take i).length = i := by rw [List.length_take]; omega
  rw [← List.take_append_getElem h]
  split
  · rename_i e
    subst e
    rw [List.eraseIdx_append_of_length_le (by omega), ht, Nat.sub_self, List.eraseIdx_of_length_le (l := l.take i) (by omega)]
    simp
  · rename_i e
    by_cases h1 : kk < i
    · rw [List.eraseIdx_append_of_lt_length (by omega)]
    · rw [List.eraseIdx_of_length_le (by simp; omega), List.eraseIdx_of_length_le (by omega)]
theorem pure_keeps (l : List S_api_Mail) (x3 x4 : Int) (h3 : 0 ≤ x3 ∧ x3 ≤ 255) : m_cantonlaw19_PostKeeps l x3 x4 = some true := by
  unfold m_cantonlaw19_PostKeeps
  rw [head19]
  simp only [Option.bind_some]
  split
  · rfl
  rename_i h100
  have h100 : l.length ≤ 100 := by simp at h100; omega
  let fl : S_api_Mail → Bool := fun m => m.To != x4
  have key2 : ∀ (x23 : Int) (kk : Nat), (∀ i : Nat, i < l.length → ((i : Int) = x23 ↔ i = kk)) → ∀ (k i f : Nat), i + k = l.length → k + 1 ≤ f →
      m_cantonlaw19_PostKeeps_l2 l x23 x4 (l.eraseIdx kk) true f (((l.take i).eraseIdx kk).filter fl) ((((l.take i).eraseIdx kk).length - (((l.take i).eraseIdx kk).filter fl).length : Nat) : Int) (i : Int) = some true := by
    intro x23 kk hx k
    induction k with
    | zero =>
      intro i f h h'
      obtain ⟨f, rfl⟩ : ∃ g, f = g + 1 := ⟨f - 1, by omega⟩
      rw [m_cantonlaw19_PostKeeps_l2, if_neg (by simp; omega), List.take_of_length_le (by omega)]
      have e : post_mDrop (l.eraseIdx kk) x4 = some ((((l.eraseIdx kk).length - ((l.eraseIdx kk).filter fl).length : Nat) : Int), (l.eraseIdx kk).filter fl) := rfl
      rw [e]
      simp only [Option.bind_some]
      have h5 := List.length_filter_le fl (l.eraseIdx kk)
      have h6 := List.length_eraseIdx_le l kk
      rw [if_pos trivial, if_pos (by simp), same19_self _ (by omega)]
      simp
    | succ k ih =>
      intro i f h h'
      obtain ⟨f, rfl⟩ : ∃ g, f = g + 1 := ⟨f - 1, by omega⟩
      have hi : i < l.length := by omega
      have he := erase_snoc l kk i hi
      have hih := ih (i + 1) f (by omega) (by omega)
      rw [he] at hih
      rw [m_cantonlaw19_PostKeeps_l2, if_pos (by simp; omega)]
      by_cases hk : i = kk
      · rw [if_pos (by rw [(hx i hi).2 hk]; simp)]
        unfold m_cantonlaw19_PostKeeps_j2
        rw [w9s (by omega)]
        rw [if_pos hk] at hih
        exact hih
      · rw [if_neg (by intro e; exact hk ((hx i hi).1 (by simpa using e)))]
        rw [if_neg hk] at hih
        rw [ix9 hi]
        simp only [Option.bind_some]
        have h5 := List.length_filter_le fl ((l.take i).eraseIdx kk)
        have h6 := List.length_eraseIdx_le (l.take i) kk
        have h7 : (l.take i).length = i := by rw [List.length_take]; omega
        by_cases ht : l[i].To = x4
        · rw [if_pos (by simpa using ht)]
          unfold m_cantonlaw19_PostKeeps_j2
          have hfl : fl l[i] = false := by simp [fl, ht]
          rw [List.filter_append, List.filter_cons, hfl] at hih
          simp only [Bool.false_eq_true, if_false, List.filter_nil, List.append_nil, List.length_append, List.length_singleton] at hih
          rw [w9s (by omega), w9s (by omega)]
          have e : ((l.take i).eraseIdx kk).length - (((l.take i).eraseIdx kk).filter fl).length + 1 = ((l.take i).eraseIdx kk).length + 1 - (((l.take i).eraseIdx kk).filter fl).length := by omega
          rw [e]; exact hih
        · rw [if_neg (by simpa using ht)]
          have e3 : ck ((((l.take i).eraseIdx kk).filter fl).length + ([l[i]] : List S_api_Mail).length ≤ LIM) = some () := by unfold ck; rw [if_pos (by simp [LIM]; omega)]
          rw [e3]
          simp only [Option.bind_some]
          unfold m_cantonlaw19_PostKeeps_j2
          have hfl : fl l[i] = true := by simp [fl, ht]
          rw [List.filter_append, List.filter_cons, hfl] at hih
          simp only [if_true, List.filter_nil, List.length_append, List.length_singleton] at hih
          rw [w9s (by omega)]
          have e : ((((l.take i).eraseIdx kk).length - (((l.take i).eraseIdx kk).filter fl).length : Nat) : Int) = ((((l.take i).eraseIdx kk).length + 1 - ((((l.take i).eraseIdx kk).filter fl).length + 1) : Nat) : Int) := by omega
          rw [e]; exact hih
  have key1 : ∀ (k i f : Nat), i + k = l.length → k + 1 ≤ f → m_cantonlaw19_PostKeeps_l1 l x4 true x3 f (i : Int) (l.take i) = some true := by
    intro k
    induction k with
    | zero =>
      intro i f h h'
      obtain ⟨f, rfl⟩ : ∃ g, f = g + 1 := ⟨f - 1, by omega⟩
      rw [m_cantonlaw19_PostKeeps_l1, if_neg (by simp; omega), List.take_of_length_le (by omega)]
      by_cases h0 : l.length = 0
      · rw [if_neg (by rw [h0]; simp)]
        unfold m_cantonlaw19_PostKeeps_j1
        have := key2 (-1) l.length (fun i hi => by omega) l.length 0 (((l.length : Int) - 0 : Int).toNat + 1) (by omega) (by omega)
        rw [List.eraseIdx_of_length_le (Nat.le_refl _)] at this
        simpa using this
      · rw [if_pos (by simp; omega)]
        have e3 : ck ((l.length : Int) ≠ 0) = some () := by unfold ck; rw [if_pos (by omega)]
        rw [e3]
        simp only [Option.bind_some]
        obtain ⟨q, hq, hql⟩ : ∃ q : Nat, (IntKind.i64.wrap x3).tmod (l.length : Int) = (q : Int) ∧ q < l.length := by
          rw [w9 (by omega) (by omega), Int.tmod_eq_emod_of_nonneg h3.1]
          have h1 := Int.emod_nonneg x3 (show (l.length : Int) ≠ 0 by omega)
          have h2 := Int.emod_lt_of_pos x3 (show (0 : Int) < (l.length : Int) by omega)
          exact ⟨(x3 % (l.length : Int)).toNat, by omega, by omega⟩
        have e4 : post_mTake l (q : Int) = some ((l[q], true), l.eraseIdx q) := by unfold post_mTake; rw [ix9 hql]; rfl
        rw [hq, e4]
        simp only [Option.bind_some]
        rw [if_neg (by simp), ix9 hql]
        simp only [Option.bind_some]
        unfold m_cantonlaw19_PostKeeps_j3
        rw [if_neg (by simp [sEq_self]), hq]
        unfold m_cantonlaw19_PostKeeps_j1
        have := key2 (q : Int) q (fun i hi => by omega) l.length 0 (((l.length : Int) - 0 : Int).toNat + 1) (by omega) (by omega)
        simpa using this
    | succ k ih =>
      intro i f h h'
      obtain ⟨f, rfl⟩ : ∃ g, f = g + 1 := ⟨f - 1, by omega⟩
      rw [m_cantonlaw19_PostKeeps_l1, if_pos (by simp; omega), ix9 (by omega)]
      simp only [Option.bind_some]
      split
      · rfl
      rw [put9 (by rw [List.length_take]; omega)]
      simp only [Option.bind_some]
      rw [if_neg (by simp), w9s (by omega), List.take_append_getElem (by omega)]
      exact ih (i + 1) f (by omega) (by omega)
  have := key1 l.length 0 (((l.length : Int) - 0 : Int).toNat + 1) (by omega) (by omega)
  simpa using this
theorem u8_of {x : Int} (h : InI .u8 x) : 0 ≤ x ∧ x ≤ 255 := by
  have h1 := h.1
  have h2 := h.2
  simp [IntKind.min, IntKind.max, IntKind.bits, IntKind.signed] at h1 h2
  omega
end Go.Cb
