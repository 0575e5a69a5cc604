/- The walk of Put. -/
import Derived.Test.YtbjpjbopfhbkmaaO4
set_option linter.unusedVariables false
set_option linter.unusedSimpArgs false
namespace Go.Cb
open Go.Proofs Go.RowKit
theorem put_c {w : World} {Fo : List Ob} {rs : List Rp} {p : Nat} {c : Ch} (H : Sep w (PL p (c.length : Int) c (.pointer none) ++ Fo) rs) (hl : c.length ≤ 400) (m : S_api_Mail) :
    Calls Try.prog 23 [.pointer (some ⟨p, 0, none⟩), .agg #[.int .i64 m.From, .int .i64 m.To, .string m.Data]].toArray w (Ret fun v w' => if c.length = 400 then .bool false = v ∧ Sep w' (PL p (c.length : Int) c (.pointer none) ++ Fo) rs else .bool true = v ∧ ∃ q, Sep w' (PL p ((c.length : Int) + 1) (c ++ [(q, m)]) (.pointer none) ++ Fo) rs) := by
  refine enterM Try.func23 rfl Try.ntmps23 rfl fun a E => ?_
  simp only [enum, Nat.reduceAdd] at E
  refine wpIn_seq ?_
  refine r_reg (by rintro ⟨_, _, h⟩; exact h) rfl ?_
  refine st_box E H (wn rfl) rfl rfl (cs := [.pointer (some ⟨p, 0, none⟩)]) rfl rfl rfl ?_
  clear E H; clear a; clear w; intro b2 w a H E
  refine st_box E H (wn rfl) rfl rfl (cs := [.int .i64 m.From, .int .i64 m.To, .string m.Data]) rfl rfl rfl ?_
  clear E H; clear a; clear w; intro b3 w a H E
  refine sv E rfl rfl rfl (x_assign E rfl rfl) ?_
  clear a E;intro a E
  refine wpList_nil ?_
  refine q_then ?_
  refine wpIn_seq ?_
  refine wpIn_seq ?_
  refine r_reg (by rintro ⟨_, _, h⟩; exact h) rfl ?_
  refine sv E rfl rfl rfl (x_ldB (i := 1) E H rfl rfl rfl rfl Try.underlying24 rfl) ?_
  clear a E;intro a E
  refine sv E rfl rfl rfl (x_nil E rfl rfl) ?_
  clear a E;intro a E
  refine sv E rfl rfl rfl (x_fa E rfl rfl (v := .pointer (some ⟨p, 1, none⟩)) (fa81_1 _ _)) ?_
  clear a E;intro a E
  refine sv E rfl rfl rfl (x_ldB (i := 2) E H rfl rfl rfl rfl Try.underlying3 rfl) ?_
  clear a E;intro a E
  refine sv E rfl rfl rfl (x_bin E rfl rfl rfl rfl) ?_
  clear a E;intro a E
  refine wpList_nil ?_
  refine q_then ?_
  refine r_if E rfl (fun hf => ?_) (fun hf => ?_)
  · refine wpIn_seq ?_
    refine r_reg (by rintro ⟨_, _, h⟩; exact h) rfl ?_
    refine sv E rfl rfl rfl (x_assign E rfl rfl) ?_
    clear a E;intro a E
    refine wpList_nil ?_
    refine q_then ?_
    refine wpIn_ret ?_
    refine q_thenR ?_
    refine end_plain E ⟨_, results_tmp rfl _ _ _, ?_⟩
    rw [E.getD rfl, if_pos (by have : (c.length : Int) = 400 := by simpa using hf
                               omega)]
    exact ⟨rfl, Sep.behind (A := [_, _]) H⟩
  refine wpIn_skip ?_
  refine q_then ?_
  have hf : c.length ≠ 400 := fun h => by rw [h] at hf; cases hf
  refine wpIn_seq ?_
  refine wpIn_seq ?_
  refine r_reg (by rintro ⟨_, _, h⟩; exact h) rfl ?_
  refine sv E rfl rfl rfl (x_ldB (i := 1) E H rfl rfl rfl rfl Try.underlying24 rfl) ?_
  clear a E;intro a E
  refine st_call E (wn rfl) rfl rfl (x_call E rfl rfl (cf51 _)) (links_c H) ?_
  clear E H; clear a; clear w; rintro _ w ⟨b, rfl, H⟩ a E
  refine wpList_nil ?_
  refine q_then ?_
  refine wpIn_block ?_
  refine r_range E (lb := [.pointer (some ⟨b, 0, none⟩)]) rfl cf55 H fun fn l D w2 r hr H2 => ?_
  clear H w
  have hra := congrArg Loop.assign hr
  have hrb := congrArg Loop.body hr
  have hrt := congrArg Loop.tmps hr
  have hrp := congrArg Loop.params hr
  dsimp only at hra hrb hrt hrp
  have hrs : r.state = .ready := by rw [hr]
  have hrq : r.pending = none := by rw [hr]
  clear hr
  refine Calls.mono (iter_c hl (fun k w => k ≤ c.length ∧ Sep w (ObjO l (.loop r) :: ObjO D (.deferred (some [])) :: Blk b 24 [.pointer (some ⟨p, 0, none⟩)] :: Blk b3 32 [.int .i64 m.From, .int .i64 m.To, .string m.Data] :: Blk b2 24 [.pointer (some ⟨p, 0, none⟩)] :: (PL p (c.length : Int) c (.pointer none) ++ Fo)) rs)
    (fun w => ∃ q, Sep w (ObjO l (.loop (dn r (.exit 0))) :: ObjO D (.deferred (some [])) :: Blk b 24 [.pointer (some ⟨p, 0, none⟩)] :: Blk b3 32 [.int .i64 m.From, .int .i64 m.To, .string m.Data] :: Blk b2 24 [.pointer (some ⟨p, 0, none⟩)] :: (PL p ((c.length : Int) + 1) (c ++ [(q, m)]) (.pointer none) ++ Fo)) rs)
    (fun w h => h.2.blk_cell (i := 2) rfl rfl) (fun k w hk h => ?_) (fun k w hk h => ?_) ⟨Nat.zero_le _, H2⟩) ?_
  · obtain ⟨cs, h1, h2, _, _⟩ := PL_cell p (c.length : Int) c k hk (.pointer none) Fo
    exact h.2.blk_cell (i := k + 5) h1 h2
  · obtain ⟨_, H⟩ := h
    clear H2 w2
    refine round_of H (i := 0) rfl (by rw [hrp]; rfl) hrs ?_
    rw [hra, hrt, hrp, act2 E 14 15]
    have E1 := (E.put 14 rfl (.int .i64 (k : Int))).put 15 rfl (.pointer (some ⟨atB p (c.take k), atO (c.take k), none⟩))
    generalize (a.put (some 14) (.int .i64 (k : Int))).put (some 15) (.pointer (some ⟨atB p (c.take k), atO (c.take k), none⟩)) = a1 at E1 ⊢
    refine r_reg (by rintro ⟨_, _, h⟩; exact h) rfl ?_
    refine sv E1 rfl rfl rfl (x_assign E1 rfl rfl) ?_
    clear a1 E1;intro a1 E1
    refine wpList_nil ?_
    refine q_then ?_
    refine ⟨_, 0, H, rfl, ?_⟩
    clear H w; intro w H
    rw [hrb]
    obtain ⟨cs, h1, h2, h3, h4⟩ := PL_cell p (c.length : Int) c k hk (.pointer none) Fo
    refine wpIn_block ?_
    refine wpIn_seq ?_
    refine r_reg (by rintro ⟨_, _, h⟩; exact h) rfl ?_
    refine sv E1 rfl rfl rfl (x_move E1 rfl rfl) ?_
    clear a1 E1;intro a1 E1
    refine sv E1 rfl rfl rfl (x_nil E1 rfl rfl) ?_
    clear a1 E1;intro a1 E1
    refine sv E1 rfl rfl rfl (x_ldB (i := k + 5) E1 H rfl rfl h1 h2 Try.underlying79 rfl) ?_
    clear a1 E1;intro a1 E1
    rcases hd : c.drop k with _ | ⟨⟨q, m'⟩, r'⟩
    · rw [hd] at E1
      refine sv E1 rfl rfl rfl (x_bin2 E1 rfl rfl rfl (v := .bool true) (by kernel_rfl)) ?_
      clear a1 E1;intro a1 E1
      refine wpList_nil ?_
      refine q_then ?_
      refine r_if E1 rfl (fun _ => ?_) fun h => by cases h
      refine wpIn_seq ?_
      refine r_reg (by rintro ⟨_, _, h⟩; exact h) rfl ?_
      refine sv E1 rfl rfl rfl (x_move E1 rfl rfl) ?_
      clear a1 E1;intro a1 E1
      refine sv E1 rfl rfl rfl (x_ldBN (i := 3) (us := [.int .i64 m.From, .int .i64 m.To, .string m.Data]) E1 H rfl rfl rfl rfl Try.underlying32 rfl sz32) ?_
      clear a1 E1;intro a1 E1
      refine sv E1 rfl rfl rfl (x_build E1 (ps := [(0, .tmp 21)]) (vs := [(0, .agg #[.int .i64 m.From, .int .i64 m.To, .string m.Data])]) rfl (by simp only [List.map]; rw [E1.eval (x := .tmp 21) (v := .agg #[.int .i64 m.From, .int .i64 m.To, .string m.Data]) rfl]) (v := .agg #[.int .i64 m.From, .int .i64 m.To, .string m.Data, .pointer none]) (by kernel_rfl)) ?_
      clear a1 E1;intro a1 E1
      refine st_box E1 H (wn rfl) rfl rfl (cs := [.int .i64 m.From, .int .i64 m.To, .string m.Data, .pointer none]) rfl rfl rfl ?_
      clear E1 H; clear a1; clear w; intro q w a1 H E1
      refine sv E1 rfl rfl rfl (x_nil E1 rfl rfl) ?_
      clear a1 E1;intro a1 E1
      refine st_st (i := k + 6) E1 H (wn rfl) rfl (us := [.pointer (some ⟨q, 0, none⟩)]) rfl rfl rfl rfl h1 psz79 h3 rfl ?_
      clear H; clear w; intro w H
      refine wpList_nil ?_
      refine q_then ?_
      have hkl : k = c.length := by
        have := congrArg List.length hd
        rw [List.length_drop] at this
        simp at this
        omega
      have h5 := h4 (.pointer (some ⟨q, 0, none⟩))
      rw [hd, hkl, List.take_length] at h5
      replace H : Sep w (Blk q 85 [.int .i64 m.From, .int .i64 m.To, .string m.Data, .pointer none] :: ObjO l (.loop (bz r)) :: ObjO D (.deferred (some [])) :: Blk b 24 [.pointer (some ⟨p, 0, none⟩)] :: Blk b3 32 [.int .i64 m.From, .int .i64 m.To, .string m.Data] :: Blk b2 24 [.pointer (some ⟨p, 0, none⟩)] :: ((PL p (c.length : Int) c (.pointer none) ++ Fo).set k (Blk (atB p (c.take k)) (atT (c.take k)) (splice cs (atO (c.take k)) [.pointer (some ⟨q, 0, none⟩)])))) rs := H
      rw [hkl, List.take_length, h5] at H
      replace H := Sep.back (A := ObjO l (.loop (bz r)) :: ObjO D (.deferred (some [])) :: Blk b 24 [.pointer (some ⟨p, 0, none⟩)] :: Blk b3 32 [.int .i64 m.From, .int .i64 m.To, .string m.Data] :: Blk b2 24 [.pointer (some ⟨p, 0, none⟩)] :: PL p (c.length : Int) c (.pointer (some ⟨q, 0, none⟩))) (B := Fo) H
      have h6 : PL p (c.length : Int) (c ++ [(q, m)]) (.pointer none) = PL p (c.length : Int) c (.pointer (some ⟨q, 0, none⟩)) ++ [Blk q 85 [.int .i64 m.From, .int .i64 m.To, .string m.Data, .pointer none]] := PL_append _ _ _ _ _
      replace H : Sep w (ObjO l (.loop (bz r)) :: ObjO D (.deferred (some [])) :: Blk b 24 [.pointer (some ⟨p, 0, none⟩)] :: Blk b3 32 [.int .i64 m.From, .int .i64 m.To, .string m.Data] :: Blk b2 24 [.pointer (some ⟨p, 0, none⟩)] :: (PL p (c.length : Int) (c ++ [(q, m)]) (.pointer none) ++ Fo)) rs := by
        rw [h6, List.append_assoc]; exact H
      refine wpIn_seq ?_
      refine r_reg (by rintro ⟨_, _, h⟩; exact h) rfl ?_
      refine sv E1 rfl rfl rfl (x_ldB (i := 4) E1 H rfl rfl rfl rfl Try.underlying24 rfl) ?_
      clear a1 E1;intro a1 E1
      refine sv E1 rfl rfl rfl (x_nil E1 rfl rfl) ?_
      clear a1 E1;intro a1 E1
      refine sv E1 rfl rfl rfl (x_fa E1 rfl rfl (v := .pointer (some ⟨p, 1, none⟩)) (fa81_1 _ _)) ?_
      clear a1 E1;intro a1 E1
      refine sv E1 rfl rfl rfl (x_ldB (i := 5) E1 H rfl rfl rfl rfl Try.underlying3 rfl) ?_
      clear a1 E1;intro a1 E1
      refine sv E1 rfl rfl rfl (x_bin E1 rfl rfl rfl rfl) ?_
      clear a1 E1;intro a1 E1
      refine sv E1 rfl rfl rfl (x_nil E1 rfl rfl) ?_
      clear a1 E1;intro a1 E1
      refine sv E1 rfl rfl rfl (x_fa E1 rfl rfl (v := .pointer (some ⟨p, 1, none⟩)) (fa81_1 _ _)) ?_
      clear a1 E1;intro a1 E1
      refine st_st (i := 5) E1 H (wn rfl) rfl (us := [.int .i64 (IntKind.i64.wrap ((c.length : Int) + 1))]) rfl rfl rfl rfl rfl psz3 rfl rfl ?_
      clear H; clear w; intro w H
      refine wpList_nil ?_
      refine q_then ?_
      have hw : IntKind.i64.wrap ((c.length : Int) + 1) = (c.length : Int) + 1 := by
        unfold IntKind.wrap; simp [IntKind.bits, IntKind.signed]; omega
      rw [hw] at H
      refine wpIn_exit ?_
      refine q_miss rfl ?_
      exact round_exit H (i := 0) rfl fun w' H' => .inr ⟨rfl, q, H'⟩
    · rw [hd] at E1
      refine sv E1 rfl rfl rfl (x_bin2 E1 rfl rfl rfl (v := .bool false) (by kernel_rfl)) ?_
      clear a1 E1;intro a1 E1
      refine wpList_nil ?_
      refine q_then ?_
      refine r_if E1 rfl (fun h => by cases h) fun _ => ?_
      refine wpIn_skip ?_
      refine q_blk ?_
      exact round_go H (i := 0) rfl hrs hrq fun w' H' => .inl ⟨rfl, (at_next p hd).2.2.1, H'⟩
  · intro e w3 h
    cases e with
    | returned v =>
      rcases h with ⟨h, _⟩ | ⟨q, H3⟩
      · exact absurd h (by omega)
      refine ⟨_, _, H3, by simp [dn], ?_⟩
      clear H3 w3 w2 H2 hra hrb hrt hrp; intro w H
      show (Code.exit 0).wpIn _ _ _ _ _ _
      refine wpIn_exit ?_
      refine q_hit ?_
      refine q_then ?_
      refine wpIn_seq ?_
      refine r_reg (by rintro ⟨_, _, h⟩; exact h) rfl ?_
      refine sv E rfl rfl rfl (x_assign E rfl rfl) ?_
      clear a E;intro a E
      refine wpList_nil ?_
      refine q_then ?_
      refine wpIn_ret ?_
      refine end_mark E H (i := 1) rfl fun w' H' => ⟨_, results_tmp rfl _ _ _, ?_⟩
      rw [E.getD rfl, if_neg hf]
      exact ⟨rfl, q, Sep.behind (A := [_, _, _, _, _]) H'⟩
    | panicked c => exact h.elim
    | outgrown => exact h.elim
end Go.Cb
