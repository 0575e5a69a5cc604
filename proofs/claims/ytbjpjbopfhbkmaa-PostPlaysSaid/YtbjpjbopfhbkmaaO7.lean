/- The walks of Take, Double, Drop, Many and New. -/
import Derived.Test.YtbjpjbopfhbkmaaO6
set_option linter.unusedVariables false
set_option linter.unusedSimpArgs false
namespace Go.Cb
open Go.Proofs Go.RowKit
theorem pfa32_1 : ∀ (w : World) (q : Addr), (Instr.fieldAt 32 (.pointer (some q)) 1).run Try.prog w = .ok (.pointer (some (q.add 1))) w := fun w q => by kernel_rfl
theorem first_cells (r : Ch) : (first r (.pointer none)).cells = [first r (.pointer none)].toArray := by cases r <;> rfl
theorem first_one (r : Ch) : [first r (.pointer none)].all (·.oneCell') = true := by cases r <;> rfl
theorem PL_cellA (p : Nat) (n : Int) (a b : Ch) (v : Value) (Fo : List Ob) : ∃ cs : List Value, (PL p n (a ++ b) v ++ Fo)[a.length]? = some (Blk (atB p a) (atT a) cs) ∧ cs[atO a]? = some (first b v) ∧ Nat.ble (atO a + 1) cs.length = true ∧
    ∀ v', (PL p n (a ++ b) v ++ Fo).set a.length (Blk (atB p a) (atT a) (splice cs (atO a) [v'])) = PL p n a v' ++ (links b v ++ Fo) := by
  obtain ⟨cs, h1, h2, h3, h4⟩ := PL_cell p n (a ++ b) a.length (by simp) v Fo
  rw [List.take_left] at h1 h2 h3
  rw [List.drop_left] at h2
  refine ⟨cs, h1, h2, h3, fun v' => ?_⟩
  have := h4 v'
  rw [List.take_left, List.drop_left] at this
  exact this
theorem PL_mailA (p : Nat) (n : Int) (a : Ch) (q : Nat) (m : S_api_Mail) (r : Ch) (v : Value) (Fo : List Ob) : (PL p n (a ++ (q, m) :: r) v ++ Fo)[a.length + 1]? = some (Blk q 85 [.int .i64 m.From, .int .i64 m.To, .string m.Data, first r v]) :=
  PL_mail (c := a ++ (q, m) :: r) (k := a.length) p n List.drop_left v Fo
section
variable {w : World} {os : List Ob} {rs : List Rp}
theorem Sep.cutOut {A B : List Ob} {x : Ob} (H : Sep w (A ++ x :: B) rs) : Sep w (A ++ B) rs := by
  have := H.drop A.length
  rw [List.eraseIdx_append_of_length_le (Nat.le_refl _), Nat.sub_self] at this
  exact this
end
theorem sub1 {n : Nat} (h : n ≤ 400) : IntKind.i64.wrap ((n : Int) - 1) = (n : Int) - 1 := by unfold IntKind.wrap; simp [IntKind.bits, IntKind.signed]; omega
theorem take_c {w : World} {Fo : List Ob} {rs : List Rp} {p : Nat} {c : Ch} (H : Sep w (PL p (c.length : Int) c (.pointer none) ++ Fo) rs) (hl : c.length ≤ 400) (x : Int) :
    Calls Try.prog 17 [.pointer (some ⟨p, 0, none⟩), .int .i64 x].toArray w (Ret fun v w' => if 0 ≤ x ∧ x < (c.length : Int) then ∃ q m r, c.drop x.toNat = (q, m) :: r ∧ .tuple #[.agg #[.int .i64 m.From, .int .i64 m.To, .string m.Data], .bool true] = v ∧ Sep w' (PL p ((c.length : Int) - 1) (c.take x.toNat ++ r) (.pointer none) ++ Fo) rs
      else .tuple #[.agg #[.int .i64 0, .int .i64 0, .string ⟨#[]⟩], .bool false] = v ∧ Sep w' (PL p (c.length : Int) c (.pointer none) ++ Fo) rs) := by
  refine enter Try.func17 rfl Try.ntmps17 rfl fun a E => ?_
  simp only [enum, Nat.reduceAdd] at E
  refine wp_seq ?_
  refine wp_region_lit ?_
  refine st_alloc E H (wn rfl) rfl rfl (cs := [.int .i64 0, .int .i64 0, .string ⟨#[]⟩]) rfl (z := .agg #[.int .i64 0, .int .i64 0, .string ⟨#[]⟩]) (by kernel_rfl) rfl ?_
  clear E H; clear a; clear w; intro b4 w a H E
  refine sv E rfl rfl rfl (x_assign E rfl rfl) ?_
  clear a E;intro a E
  refine wpList_nil ?_
  refine q_then ?_
  replace H := Sep.swap (A := [Blk b4 32 [.int .i64 0, .int .i64 0, .string ⟨#[]⟩]]) (B := PL p (c.length : Int) c (.pointer none)) (C := Fo) H
  refine wp_seq ?_
  refine wp_region_lit ?_
  refine sv E rfl rfl rfl (x_move E rfl rfl) ?_
  clear a E;intro a E
  refine sv E rfl rfl rfl (x_move E rfl rfl) ?_
  clear a E;intro a E
  refine st_call E (wn rfl) rfl rfl (x_call E rfl rfl (cf50 _)) (find_c H hl x) ?_
  clear E H; clear a; clear w; rintro _ w ⟨rfl, H⟩ a E
  replace H := Sep.swap (B := [Blk b4 32 [.int .i64 0, .int .i64 0, .string ⟨#[]⟩]]) (A := PL p (c.length : Int) c (.pointer none)) (C := Fo) H
  replace H : Sep w (Blk b4 32 [.int .i64 0, .int .i64 0, .string ⟨#[]⟩] :: (PL p (c.length : Int) c (.pointer none) ++ Fo)) rs := H
  refine sv E rfl rfl rfl (x_assign E rfl rfl) ?_
  clear a E;intro a E
  refine wpList_nil ?_
  refine q_then ?_
  refine wp_seq ?_
  refine wp_seq ?_
  refine wp_region_lit ?_
  refine sv E rfl rfl rfl (x_move E rfl rfl) ?_
  clear a E;intro a E
  by_cases hx : 0 ≤ x ∧ x < (c.length : Int)
  · obtain ⟨k, rfl⟩ : ∃ k : Nat, x = (k : Int) := ⟨x.toNat, by omega⟩
    have hk : k < c.length := by omega
    have hf : fnd p c (k : Int) = .pointer (some ⟨atB p (c.take k), atO (c.take k), none⟩) := by unfold fnd; rw [if_pos hx]; rfl
    rw [hf] at E
    clear hf
    rcases hd : c.drop k with _ | ⟨⟨q, m⟩, r⟩
    · have := congrArg List.length hd
      rw [List.length_drop] at this
      simp at this
      omega
    obtain ⟨cs, h1, h2, h3, h4⟩ := PL_cell p (c.length : Int) c k (by omega) (.pointer none) Fo
    have hm := PL_mail p (c.length : Int) hd (.pointer none) Fo
    rw [hd] at h2
    refine sv E rfl rfl rfl (x_bin2 E rfl rfl rfl (v := .bool false) (by kernel_rfl)) ?_
    clear a E;intro a E
    refine wpList_nil ?_
    refine q_then ?_
    refine wp_if E rfl (fun h => by cases h) fun _ => ?_
    refine wp_skip ?_
    refine q_then ?_
    refine wp_seq ?_
    refine wp_region_lit ?_
    refine sv E rfl rfl rfl (x_move E rfl rfl) ?_
    clear a E;intro a E
    refine sv E rfl rfl rfl (x_nil E rfl rfl) ?_
    clear a E;intro a E
    refine sv E rfl rfl rfl (x_ldB (i := k + 1) E H rfl rfl h1 h2 Try.underlying79 rfl) ?_
    clear a E;intro a E
    refine sv E rfl rfl rfl (x_nil E rfl rfl) ?_
    clear a E;intro a E
    refine sv E rfl rfl rfl (x_fa E rfl rfl (v := .pointer (some ⟨q, 0, none⟩)) (fa85_0 _ _)) ?_
    clear a E;intro a E
    refine sv E rfl rfl rfl (x_ldBN (i := k + 2) (us := [.int .i64 m.From, .int .i64 m.To, .string m.Data]) E H rfl rfl hm rfl Try.underlying32 rfl sz32) ?_
    clear a E;intro a E
    refine st_alloc E H (wn rfl) rfl rfl (cs := [.int .i64 0, .int .i64 0, .string ⟨#[]⟩]) rfl (z := .agg #[.int .i64 0, .int .i64 0, .string ⟨#[]⟩]) (by kernel_rfl) rfl ?_
    clear E H; clear a; clear w; intro b7 w a H E
    refine st_st (i := 0) E H (wn rfl) rfl (us := [.int .i64 m.From, .int .i64 m.To, .string m.Data]) rfl rfl rfl rfl rfl sz32 rfl rfl ?_
    clear H; clear w; intro w H
    replace H : Sep w (Blk b7 32 [.int .i64 m.From, .int .i64 m.To, .string m.Data] :: Blk b4 32 [.int .i64 0, .int .i64 0, .string ⟨#[]⟩] :: (PL p (c.length : Int) c (.pointer none) ++ Fo)) rs := H
    refine wpList_nil ?_
    refine q_then ?_
    refine wp_seq ?_
    refine wp_region_lit ?_
    refine sv E rfl rfl rfl (x_move E rfl rfl) ?_
    clear a E;intro a E
    refine sv E rfl rfl rfl (x_move E rfl rfl) ?_
    clear a E;intro a E
    refine sv E rfl rfl rfl (x_nil E rfl rfl) ?_
    clear a E;intro a E
    refine sv E rfl rfl rfl (x_ldB (i := k + 2) E H rfl rfl h1 h2 Try.underlying79 rfl) ?_
    clear a E;intro a E
    refine sv E rfl rfl rfl (x_nil E rfl rfl) ?_
    clear a E;intro a E
    refine sv E rfl rfl rfl (x_fa E rfl rfl (v := .pointer (some ⟨q, 3, none⟩)) (fa85_1 _ _)) ?_
    clear a E;intro a E
    refine sv E rfl rfl rfl (x_ldB (i := k + 3) E H rfl rfl hm rfl Try.underlying79 rfl) ?_
    clear a E;intro a E
    refine sv E rfl rfl rfl (x_nil E rfl rfl) ?_
    clear a E;intro a E
    refine st_st (i := k + 2) E H (wn rfl) rfl (us := [first r (.pointer none)]) rfl rfl rfl (first_cells r) h1 psz79 h3 (first_one r) ?_
    clear H; clear w; intro w H
    refine wpList_nil ?_
    refine q_then ?_
    replace H : Sep w (Blk b7 32 [.int .i64 m.From, .int .i64 m.To, .string m.Data] :: Blk b4 32 [.int .i64 0, .int .i64 0, .string ⟨#[]⟩] :: ((PL p (c.length : Int) c (.pointer none) ++ Fo).set k (Blk (atB p (c.take k)) (atT (c.take k)) (splice cs (atO (c.take k)) [first r (.pointer none)])))) rs := H
    rw [h4, hd] at H
    replace H := Sep.cutOut (A := Blk b7 32 [.int .i64 m.From, .int .i64 m.To, .string m.Data] :: Blk b4 32 [.int .i64 0, .int .i64 0, .string ⟨#[]⟩] :: PL p (c.length : Int) (c.take k) (first r (.pointer none))) (B := links r (.pointer none) ++ Fo) H
    replace H : Sep w (Blk b7 32 [.int .i64 m.From, .int .i64 m.To, .string m.Data] :: Blk b4 32 [.int .i64 0, .int .i64 0, .string ⟨#[]⟩] :: (PL p (c.length : Int) (c.take k ++ r) (.pointer none) ++ Fo)) rs := by
      rw [PL_append, List.append_assoc]; exact H
    refine wp_seq ?_
    refine wp_region_lit ?_
    refine sv E rfl rfl rfl (x_move E rfl rfl) ?_
    clear a E;intro a E
    refine sv E rfl rfl rfl (x_nil E rfl rfl) ?_
    clear a E;intro a E
    refine sv E rfl rfl rfl (x_fa E rfl rfl (v := .pointer (some ⟨p, 1, none⟩)) (fa81_1 _ _)) ?_
    clear a E;intro a E
    refine sv E rfl rfl rfl (x_ldB (i := 2) E H rfl rfl rfl rfl Try.underlying3 rfl) ?_
    clear a E;intro a E
    refine sv E rfl rfl rfl (x_bin E rfl rfl rfl rfl) ?_
    clear a E;intro a E
    refine sv E rfl rfl rfl (x_nil E rfl rfl) ?_
    clear a E;intro a E
    refine sv E rfl rfl rfl (x_fa E rfl rfl (v := .pointer (some ⟨p, 1, none⟩)) (fa81_1 _ _)) ?_
    clear a E;intro a E
    refine st_st (i := 2) E H (wn rfl) rfl (us := [.int .i64 (IntKind.i64.wrap ((c.length : Int) - 1))]) rfl rfl rfl rfl rfl psz3 rfl rfl ?_
    clear H; clear w; intro w H
    refine wpList_nil ?_
    refine q_then ?_
    rw [sub1 hl] at H
    replace H : Sep w (Blk b7 32 [.int .i64 m.From, .int .i64 m.To, .string m.Data] :: Blk b4 32 [.int .i64 0, .int .i64 0, .string ⟨#[]⟩] :: (PL p ((c.length : Int) - 1) (c.take k ++ r) (.pointer none) ++ Fo)) rs := H
    refine wp_seq ?_
    refine wp_region_lit ?_
    refine sv E rfl rfl rfl (x_ldBN (i := 0) (us := [.int .i64 m.From, .int .i64 m.To, .string m.Data]) E H rfl rfl rfl rfl Try.underlying32 rfl sz32) ?_
    clear a E;intro a E
    refine st_st (i := 1) E H (wn rfl) rfl (us := [.int .i64 m.From, .int .i64 m.To, .string m.Data]) rfl rfl rfl rfl rfl sz32 rfl rfl ?_
    clear H; clear w; intro w H
    refine sv E rfl rfl rfl (x_assign E rfl rfl) ?_
    clear a E;intro a E
    refine wpList_nil ?_
    refine q_then ?_
    refine wp_ret ?_
    refine outR2 E rfl (rvBN (i := 1) (us := [.int .i64 m.From, .int .i64 m.To, .string m.Data]) H rfl rfl rfl Try.underlying32 rfl sz32) (rvT rfl) ?_
    rw [if_pos hx]
    exact ⟨q, m, r, hd, rfl, Sep.behind (A := [_, _]) H⟩
  · have hf : fnd p c x = .pointer none := by unfold fnd; rw [if_neg hx]
    rw [hf] at E
    clear hf
    refine sv E rfl rfl rfl (x_bin2 E rfl rfl rfl (v := .bool true) (by kernel_rfl)) ?_
    clear a E;intro a E
    refine wpList_nil ?_
    refine q_then ?_
    refine wp_if E rfl (fun _ => ?_) fun h => by cases h
    refine wp_seq ?_
    refine wp_region_lit ?_
    refine sv E rfl rfl rfl (x_build E (ps := []) (vs := []) rfl rfl (v := .agg #[.int .i64 0, .int .i64 0, .string ⟨#[]⟩]) (by kernel_rfl)) ?_
    clear a E;intro a E
    refine st_st (i := 0) E H (wn rfl) rfl (us := [.int .i64 0, .int .i64 0, .string ⟨#[]⟩]) rfl rfl rfl rfl rfl sz32 rfl rfl ?_
    clear H; clear w; intro w H
    refine sv E rfl rfl rfl (x_assign E rfl rfl) ?_
    clear a E;intro a E
    refine wpList_nil ?_
    refine q_then ?_
    refine wp_ret ?_
    refine q_thenR ?_
    refine outR2 E rfl (rvBN (i := 0) (us := [.int .i64 0, .int .i64 0, .string ⟨#[]⟩]) H rfl rfl rfl Try.underlying32 rfl sz32) (rvT rfl) ?_
    rw [if_neg hx]
    exact ⟨rfl, Sep.behind (A := [_]) H⟩
theorem pcf23 : ∀ (w : World) (args : Array Value), (callFunc 23 args).run Try.prog w = .ok (.enter 23 args) w := fun _ args => cf_of Try.func23 (by kernel_rfl) (by kernel_rfl) args
theorem double_c {w : World} {Fo : List Ob} {rs : List Rp} {p : Nat} {c : Ch} (H : Sep w (PL p (c.length : Int) c (.pointer none) ++ Fo) rs) (hl : c.length ≤ 400) (x : Int) :
    Calls Try.prog 19 [.pointer (some ⟨p, 0, none⟩), .int .i64 x].toArray w (Ret fun v w' => if 0 ≤ x ∧ x < (c.length : Int) then ∃ q m r, c.drop x.toNat = (q, m) :: r ∧ if c.length = 400 then .bool false = v ∧ Sep w' (PL p (c.length : Int) c (.pointer none) ++ Fo) rs else .bool true = v ∧ ∃ q, Sep w' (PL p ((c.length : Int) + 1) (c ++ [(q, m)]) (.pointer none) ++ Fo) rs
      else .bool false = v ∧ Sep w' (PL p (c.length : Int) c (.pointer none) ++ Fo) rs) := by
  refine enter Try.func19 rfl Try.ntmps19 rfl fun a E => ?_
  simp only [enum, Nat.reduceAdd] at E
  refine wp_seq ?_
  refine wp_region_lit ?_
  refine sv E rfl rfl rfl (x_assign E rfl rfl) ?_
  clear a E;intro a E
  refine wpList_nil ?_
  refine q_then ?_
  refine wp_seq ?_
  refine wp_region_lit ?_
  refine sv E rfl rfl rfl (x_move E rfl rfl) ?_
  clear a E;intro a E
  refine sv E rfl rfl rfl (x_move E rfl rfl) ?_
  clear a E;intro a E
  refine st_call E (wn rfl) rfl rfl (x_call E rfl rfl (cf50 _)) (find_c H hl x) ?_
  clear E H; clear a; clear w; rintro _ w ⟨rfl, H⟩ a E
  refine sv E rfl rfl rfl (x_assign E rfl rfl) ?_
  clear a E;intro a E
  refine wpList_nil ?_
  refine q_then ?_
  refine wp_seq ?_
  refine wp_region_lit ?_
  refine sv E rfl rfl rfl (x_move E rfl rfl) ?_
  clear a E;intro a E
  by_cases hx : 0 ≤ x ∧ x < (c.length : Int)
  · obtain ⟨k, rfl⟩ : ∃ k : Nat, x = (k : Int) := ⟨x.toNat, by omega⟩
    have hk : k < c.length := by omega
    have hf : fnd p c (k : Int) = .pointer (some ⟨atB p (c.take k), atO (c.take k), none⟩) := by unfold fnd; rw [if_pos hx]; rfl
    rw [hf] at E
    clear hf
    rcases hd : c.drop k with _ | ⟨⟨q, m⟩, r⟩
    · have := congrArg List.length hd
      rw [List.length_drop] at this
      simp at this
      omega
    obtain ⟨cs, h1, h2, h3, h4⟩ := PL_cell p (c.length : Int) c k (by omega) (.pointer none) Fo
    have hm := PL_mail p (c.length : Int) hd (.pointer none) Fo
    rw [hd] at h2
    refine sv E rfl rfl rfl (x_bin2 E rfl rfl rfl (v := .bool true) (by kernel_rfl)) ?_
    clear a E;intro a E
    refine sv E rfl rfl rfl (x_move E rfl rfl) ?_
    clear a E;intro a E
    refine st_val E (ws E rfl rfl rfl rfl) rfl rfl (x_move E rfl rfl) ?_
    clear a E;intro a E
    refine st_val E (ws E rfl rfl rfl rfl) rfl rfl (x_move E rfl rfl) ?_
    clear a E;intro a E
    refine st_val E (ws E rfl rfl rfl rfl) rfl rfl (x_nil E rfl rfl) ?_
    clear a E;intro a E
    refine st_val E (ws E rfl rfl rfl rfl) rfl rfl (x_ldB (i := k) E H rfl rfl h1 h2 Try.underlying79 rfl) ?_
    clear a E;intro a E
    refine st_val E (ws E rfl rfl rfl rfl) rfl rfl (x_nil E rfl rfl) ?_
    clear a E;intro a E
    refine st_val E (ws E rfl rfl rfl rfl) rfl rfl (x_fa E rfl rfl (v := .pointer (some ⟨q, 0, none⟩)) (fa85_0 _ _)) ?_
    clear a E;intro a E
    refine st_val E (ws E rfl rfl rfl rfl) rfl rfl (x_ldBN (i := k + 1) (us := [.int .i64 m.From, .int .i64 m.To, .string m.Data]) E H rfl rfl hm rfl Try.underlying32 rfl sz32) ?_
    clear a E;intro a E
    refine st_call E (ws E rfl rfl rfl rfl) rfl rfl (x_call E rfl rfl (pcf23 _)) (put_c H hl m) ?_
    clear E H; clear a; clear w; rintro v w hv a E
    have hvb : ∃ bb : Bool, v = .bool bb := by
      by_cases h : c.length = 400
      · rw [if_pos h] at hv; exact ⟨_, hv.1.symm⟩
      · rw [if_neg h] at hv; exact ⟨_, hv.1.symm⟩
    refine sv E rfl rfl rfl (x_pickT E rfl rfl rfl rfl) ?_
    clear a E;intro a E
    refine sv E rfl rfl rfl (x_assign E rfl rfl) ?_
    clear a E;intro a E
    refine wpList_nil ?_
    refine q_then ?_
    refine wp_ret ?_
    refine out1 E rfl rfl ?_
    rw [if_pos hx]
    exact ⟨q, m, r, hd, hv⟩
  · have hf : fnd p c x = .pointer none := by unfold fnd; rw [if_neg hx]
    rw [hf] at E
    clear hf
    refine sv E rfl rfl rfl (x_bin2 E rfl rfl rfl (v := .bool false) (by kernel_rfl)) ?_
    clear a E;intro a E
    refine sv E rfl rfl rfl (x_move E rfl rfl) ?_
    clear a E;intro a E
    refine st_no E (wf E rfl rfl rfl rfl rfl) rfl rfl ?_
    clear a E;intro a E
    refine st_no E (wf E rfl rfl rfl rfl rfl) rfl rfl ?_
    clear a E;intro a E
    refine st_no E (wf E rfl rfl rfl rfl rfl) rfl rfl ?_
    clear a E;intro a E
    refine st_no E (wf E rfl rfl rfl rfl rfl) rfl rfl ?_
    clear a E;intro a E
    refine st_no E (wf E rfl rfl rfl rfl rfl) rfl rfl ?_
    clear a E;intro a E
    refine st_no E (wf E rfl rfl rfl rfl rfl) rfl rfl ?_
    clear a E;intro a E
    refine st_no E (wf E rfl rfl rfl rfl rfl) rfl rfl ?_
    clear a E;intro a E
    refine st_no E (wf E rfl rfl rfl rfl rfl) rfl rfl ?_
    clear a E;intro a E
    refine sv E rfl rfl rfl (x_pickF E rfl rfl rfl rfl) ?_
    clear a E;intro a E
    refine sv E rfl rfl rfl (x_assign E rfl rfl) ?_
    clear a E;intro a E
    refine wpList_nil ?_
    refine q_then ?_
    refine wp_ret ?_
    refine out1 E rfl rfl ?_
    rw [if_neg hx]
    exact ⟨rfl, H⟩
end Go.Cb
