/- The walks of find and All. -/
import Derived.Test.YtbjpjbopfhbkmaaO5
set_option linter.unusedVariables false
set_option linter.unusedSimpArgs false
namespace Go.Cb
open Go.Proofs Go.RowKit
def fnd (p : Nat) (c : Ch) (x : Int) : Value := if 0 ≤ x ∧ x < (c.length : Int) then .pointer (some ⟨atB p (c.take x.toNat), atO (c.take x.toNat), none⟩) else .pointer none
theorem psz27 : (Try.prog.info? 27).map (·.size) = some 1 := by kernel_rfl
theorem find_c {w : World} {Fo : List Ob} {rs : List Rp} {p : Nat} {c : Ch} (H : Sep w (PL p (c.length : Int) c (.pointer none) ++ Fo) rs) (hl : c.length ≤ 400) (x : Int) :
    Calls Try.prog 50 [.pointer (some ⟨p, 0, none⟩), .int .i64 x].toArray w (Ret fun v w' => fnd p c x = v ∧ Sep w' (PL p (c.length : Int) c (.pointer none) ++ Fo) rs) := by
  refine enterM Try.func50 rfl Try.ntmps50 rfl fun a E => ?_
  simp only [enum, Nat.reduceAdd] at E
  refine wpIn_seq ?_
  refine r_reg (by rintro ⟨_, _, h⟩; exact h) rfl ?_
  refine st_box E H (wn rfl) rfl rfl (cs := [.int .i64 x]) rfl rfl rfl ?_
  clear E H; clear a; clear w; intro b3 w a H E
  refine st_alloc E H (wn rfl) rfl rfl (cs := [.pointer none]) rfl (z := .pointer none) (by kernel_rfl) rfl ?_
  clear E H; clear a; clear w; intro b4 w a H E
  refine wpList_nil ?_
  refine q_then ?_
  refine wpIn_seq ?_
  refine wpIn_seq ?_
  refine r_reg (by rintro ⟨_, _, h⟩; exact h) rfl ?_
  refine sv E rfl rfl rfl (x_move E rfl rfl) ?_
  clear a E;intro a E
  refine st_call E (wn rfl) rfl rfl (x_call E rfl rfl (cf51 _)) (links_c H) ?_
  clear E H; clear a; clear w; rintro _ w ⟨b, rfl, H⟩ a E
  refine wpList_nil ?_
  refine q_then ?_
  refine wpIn_block ?_
  refine r_range E (lb := [.pointer (some ⟨b, 0, none⟩)]) rfl cf55 H fun fn l D w2 r hr H2 => ?_
  clear H w
  have hra := congrArg Loop.assign hr
  have hrb := congrArg Loop.body hr
  have hrt := congrArg Loop.tmps hr
  have hrp := congrArg Loop.params hr
  dsimp only at hra hrb hrt hrp
  have hrs : r.state = .ready := by rw [hr]
  have hrq : r.pending = none := by rw [hr]
  clear hr
  refine Calls.mono (iter_c hl (fun k w => (∀ j : Nat, j < k → j < c.length → (j : Int) ≠ x) ∧ Sep w (ObjO l (.loop r) :: ObjO D (.deferred (some [])) :: Blk b 24 [.pointer (some ⟨p, 0, none⟩)] :: Blk b4 82 [.pointer none] :: Blk b3 3 [.int .i64 x] :: (PL p (c.length : Int) c (.pointer none) ++ Fo)) rs)
    (fun w => ∃ j : Nat, (j : Int) = x ∧ j < c.length ∧ Sep w (ObjO l (.loop (dn r .ret)) :: ObjO D (.deferred (some [])) :: Blk b 24 [.pointer (some ⟨p, 0, none⟩)] :: Blk b4 82 [.pointer (some ⟨atB p (c.take j), atO (c.take j), none⟩)] :: Blk b3 3 [.int .i64 x] :: (PL p (c.length : Int) c (.pointer none) ++ Fo)) rs)
    (fun w h => h.2.blk_cell (i := 2) rfl rfl) (fun k w hk h => ?_) (fun k w hk h => ?_) ⟨fun j h => absurd h (Nat.not_lt_zero _), H2⟩) ?_
  · obtain ⟨cs, h1, h2, _, _⟩ := PL_cell p (c.length : Int) c k hk (.pointer none) Fo
    exact h.2.blk_cell (i := k + 5) h1 h2
  · obtain ⟨hno, H⟩ := h
    clear H2 w2
    refine round_of H (i := 0) rfl (by rw [hrp]; rfl) hrs ?_
    rw [hra, hrt, hrp, act2 E 9 10]
    have E1 := (E.put 9 rfl (.int .i64 (k : Int))).put 10 rfl (.pointer (some ⟨atB p (c.take k), atO (c.take k), none⟩))
    generalize (a.put (some 9) (.int .i64 (k : Int))).put (some 10) (.pointer (some ⟨atB p (c.take k), atO (c.take k), none⟩)) = a1 at E1 ⊢
    refine wpIn_seq ?_
    refine r_reg (by rintro ⟨_, _, h⟩; exact h) rfl ?_
    refine sv E1 rfl rfl rfl (x_assign E1 rfl rfl) ?_
    clear a1 E1;intro a1 E1
    refine wpList_nil ?_
    refine q_then ?_
    refine r_reg (by rintro ⟨_, _, h⟩; exact h) rfl ?_
    refine sv E1 rfl rfl rfl (x_assign E1 rfl rfl) ?_
    clear a1 E1;intro a1 E1
    refine wpList_nil ?_
    refine q_then ?_
    refine ⟨_, 0, H, rfl, ?_⟩
    clear H w; intro w H
    rw [hrb]
    obtain ⟨cs, h1, h2, h3, h4⟩ := PL_cell p (c.length : Int) c k hk (.pointer none) Fo
    refine wpIn_block ?_
    refine wpIn_seq ?_
    refine r_reg (by rintro ⟨_, _, h⟩; exact h) rfl ?_
    refine sv E1 rfl rfl rfl (x_move E1 rfl rfl) ?_
    clear a1 E1;intro a1 E1
    refine sv E1 rfl rfl rfl (x_ldB (i := 4) E1 H rfl rfl rfl rfl Try.underlying3 rfl) ?_
    clear a1 E1;intro a1 E1
    refine sv E1 rfl rfl rfl (x_bin E1 rfl rfl rfl rfl) ?_
    clear a1 E1;intro a1 E1
    refine sv E1 rfl rfl rfl (x_move E1 rfl rfl) ?_
    clear a1 E1;intro a1 E1
    rcases hb : ((k : Int) == x) with _ | _
    · rw [hb] at E1
      refine st_no E1 (wf E1 rfl rfl rfl rfl rfl) rfl rfl ?_
      clear a1 E1;intro a1 E1
      refine st_no E1 (wf E1 rfl rfl rfl rfl rfl) rfl rfl ?_
      clear a1 E1;intro a1 E1
      refine st_no E1 (wf E1 rfl rfl rfl rfl rfl) rfl rfl ?_
      clear a1 E1;intro a1 E1
      refine st_no E1 (wf E1 rfl rfl rfl rfl rfl) rfl rfl ?_
      clear a1 E1;intro a1 E1
      refine sv E1 rfl rfl rfl (x_pickF E1 rfl rfl rfl rfl) ?_
      clear a1 E1;intro a1 E1
      refine wpList_nil ?_
      refine q_then ?_
      refine r_if E1 rfl (fun h => by cases h) fun _ => ?_
      refine wpIn_skip ?_
      refine q_blk ?_
      refine round_go H (i := 0) rfl hrs hrq fun w' H' => .inl ⟨rfl, fun j hj hj' => ?_, H'⟩
      by_cases e : j = k
      · subst e; exact of_decide_eq_false hb
      · exact hno j (by omega) hj'
    · rw [hb] at E1
      refine st_val E1 (ws E1 rfl rfl rfl rfl) rfl rfl (x_move E1 rfl rfl) ?_
      clear a1 E1;intro a1 E1
      refine st_val E1 (ws E1 rfl rfl rfl rfl) rfl rfl (x_nil E1 rfl rfl) ?_
      clear a1 E1;intro a1 E1
      refine st_val E1 (ws E1 rfl rfl rfl rfl) rfl rfl (x_ldB (i := k + 5) E1 H rfl rfl h1 h2 Try.underlying79 rfl) ?_
      clear a1 E1;intro a1 E1
      have hkx : (k : Int) = x := of_decide_eq_true hb
      rcases hd : c.drop k with _ | ⟨⟨q, m'⟩, r'⟩
      · rw [hd] at E1
        refine st_val E1 (ws E1 rfl rfl rfl rfl) rfl rfl (x_bin2 E1 rfl rfl rfl (v := .bool false) (by kernel_rfl)) ?_
        clear a1 E1;intro a1 E1
        refine sv E1 rfl rfl rfl (x_pickT E1 rfl rfl rfl rfl) ?_
        clear a1 E1;intro a1 E1
        refine wpList_nil ?_
        refine q_then ?_
        have hkl : k = c.length := by
          have := congrArg List.length hd
          rw [List.length_drop] at this
          simp at this
          omega
        refine r_if E1 rfl (fun h => by cases h) fun _ => ?_
        refine wpIn_skip ?_
        refine q_blk ?_
        exact round_go H (i := 0) rfl hrs hrq fun w' H' => .inl ⟨rfl, fun j hj hj' => hno j (by omega) hj', H'⟩
      · rw [hd] at E1
        refine st_val E1 (ws E1 rfl rfl rfl rfl) rfl rfl (x_bin2 E1 rfl rfl rfl (v := .bool true) (by kernel_rfl)) ?_
        clear a1 E1;intro a1 E1
        refine sv E1 rfl rfl rfl (x_pickT E1 rfl rfl rfl rfl) ?_
        clear a1 E1;intro a1 E1
        refine wpList_nil ?_
        refine q_then ?_
        refine r_if E1 rfl (fun _ => ?_) fun h => by cases h
        refine wpIn_seq ?_
        refine r_reg (by rintro ⟨_, _, h⟩; exact h) rfl ?_
        refine sv E1 rfl rfl rfl (x_move E1 rfl rfl) ?_
        clear a1 E1;intro a1 E1
        refine st_st (i := 3) E1 H (wn rfl) rfl (us := [.pointer (some ⟨atB p (c.take k), atO (c.take k), none⟩)]) rfl rfl rfl rfl rfl psz82 rfl rfl ?_
        clear H; clear w; intro w H
        refine wpList_nil ?_
        refine q_then ?_
        refine wpIn_ret ?_
        refine q_blkR ?_
        exact round_ret H (i := 0) rfl fun w' H' => .inr ⟨rfl, k, hkx, (at_next p hd).2.2.1, H'⟩
  · intro e w3 h
    clear hra hrb hrt hrp w2 H2
    cases e with
    | returned v =>
      rcases h with ⟨hno, H3⟩ | ⟨j, hj, hjl, H3⟩
      · refine ⟨_, _, H3, by rw [hrs]; simp, ?_⟩
        clear H3 w3; intro w H
        rw [hrq]
        refine q_blk ?_
        refine q_then ?_
        refine wpIn_seq ?_
        refine r_reg (by rintro ⟨_, _, h⟩; exact h) rfl ?_
        refine st_st (i := 3) E H (wn rfl) rfl (us := [.pointer none]) rfl rfl rfl rfl rfl psz82 rfl rfl ?_
        clear H; clear w; intro w H
        refine wpList_nil ?_
        refine q_then ?_
        refine wpIn_ret ?_
        refine end_mark E H (i := 1) rfl fun w' H' => ⟨_, results_run1 rfl E (rvB (i := 3) H' rfl rfl rfl Try.underlying82 rfl), ?_, Sep.behind (A := [_, _, _, _, _]) H'⟩
        unfold fnd
        rw [if_neg]
        · rintro ⟨h1, h2⟩
          exact hno x.toNat (by omega) (by omega) (by omega)
      · refine ⟨_, _, H3, by simp [dn], ?_⟩
        clear H3 w3; intro w H
        show Code.ret.wpIn _ _ _ _ _ _
        refine wpIn_ret ?_
        refine q_blkR ?_
        refine q_thenR ?_
        refine end_mark E H (i := 1) rfl fun w' H' => ⟨_, results_run1 rfl E (rvB (i := 3) H' rfl rfl rfl Try.underlying82 rfl), ?_, Sep.behind (A := [_, _, _, _, _]) H'⟩
        unfold fnd
        rw [if_pos (by omega), ← hj]
        rfl
    | panicked c => exact h.elim
    | outgrown => exact h.elim
theorem all_c {w : World} {Fo : List Ob} {rs : List Rp} {p : Nat} {c : Ch} (H : Sep w (PL p (c.length : Int) c (.pointer none) ++ Fo) rs) (hl : c.length ≤ 400) :
    Calls Try.prog 27 [.pointer (some ⟨p, 0, none⟩)].toArray w (Ret fun v w' => Sep w' (Row 32 k_api_Mail v (c.map Prod.snd) :: (PL p (c.length : Int) c (.pointer none) ++ Fo)) rs) := by
  refine enterM Try.func27 rfl Try.ntmps27 rfl fun a E => ?_
  simp only [enum, Nat.reduceAdd] at E
  refine wpIn_seq ?_
  refine r_reg (by rintro ⟨_, _, h⟩; exact h) rfl ?_
  refine sv E rfl rfl rfl (x_assign E rfl rfl) ?_
  clear a E;intro a E
  refine wpList_nil ?_
  refine q_then ?_
  refine wpIn_seq ?_
  refine r_reg (by rintro ⟨_, _, h⟩; exact h) rfl ?_
  replace H := H.nilRow 32 k_api_Mail
  refine st_alloc E H (wn rfl) rfl rfl (cs := [.slice none 0 0]) rfl (z := .slice none 0 0) (by kernel_rfl) rfl ?_
  clear E H; clear a; clear w; intro b3 w a H E
  refine wpList_nil ?_
  refine q_then ?_
  refine wpIn_seq ?_
  refine wpIn_seq ?_
  refine r_reg (by rintro ⟨_, _, h⟩; exact h) rfl ?_
  refine sv E rfl rfl rfl (x_move E rfl rfl) ?_
  clear a E;intro a E
  refine st_call E (wn rfl) rfl rfl (x_call E rfl rfl (cf51 _)) (links_c H) ?_
  clear E H; clear a; clear w; rintro _ w ⟨b, rfl, H⟩ a E
  refine wpList_nil ?_
  refine q_then ?_
  refine wpIn_block ?_
  refine r_range E (lb := [.pointer (some ⟨b, 0, none⟩)]) rfl cf55 H fun fn l D w2 r hr H2 => ?_
  clear H w
  have hra := congrArg Loop.assign hr
  have hrb := congrArg Loop.body hr
  have hrt := congrArg Loop.tmps hr
  have hrp := congrArg Loop.params hr
  dsimp only at hra hrb hrt hrp
  have hrs : r.state = .ready := by rw [hr]
  have hrq : r.pending = none := by rw [hr]
  clear hr
  refine Calls.mono (iter_c hl (fun k w => ∃ v, Sep w (ObjO l (.loop r) :: ObjO D (.deferred (some [])) :: Blk b 24 [.pointer (some ⟨p, 0, none⟩)] :: Blk b3 27 [v] :: Row 32 k_api_Mail v ((c.take k).map Prod.snd) :: (PL p (c.length : Int) c (.pointer none) ++ Fo)) rs)
    (fun w => False)
    (fun w ⟨v, h⟩ => h.blk_cell (i := 2) rfl rfl) (fun k w hk h => ?_) (fun k w hk h => ?_) ⟨_, H2⟩) ?_
  · obtain ⟨cs, h1, h2, _, _⟩ := PL_cell p (c.length : Int) c k hk (.pointer none) Fo
    obtain ⟨v, h⟩ := h
    exact h.blk_cell (i := k + 5) h1 h2
  · obtain ⟨v, H⟩ := h
    clear H2 w2
    refine round_of H (i := 0) rfl (by rw [hrp]; rfl) hrs ?_
    rw [hra, hrt, hrp, act2 E 8 9]
    have E1 := (E.put 8 rfl (.int .i64 (k : Int))).put 9 rfl (.pointer (some ⟨atB p (c.take k), atO (c.take k), none⟩))
    generalize (a.put (some 8) (.int .i64 (k : Int))).put (some 9) (.pointer (some ⟨atB p (c.take k), atO (c.take k), none⟩)) = a1 at E1 ⊢
    refine r_reg (by rintro ⟨_, _, h⟩; exact h) rfl ?_
    refine sv E1 rfl rfl rfl (x_assign E1 rfl rfl) ?_
    clear a1 E1;intro a1 E1
    refine wpList_nil ?_
    refine q_then ?_
    refine ⟨_, 0, H, rfl, ?_⟩
    clear H w; intro w H
    rw [hrb]
    obtain ⟨cs, h1, h2, h3, h4⟩ := PL_cell p (c.length : Int) c k hk (.pointer none) Fo
    refine wpIn_block ?_
    refine wpIn_seq ?_
    refine r_reg (by rintro ⟨_, _, h⟩; exact h) rfl ?_
    refine sv E1 rfl rfl rfl (x_move E1 rfl rfl) ?_
    clear a1 E1;intro a1 E1
    refine sv E1 rfl rfl rfl (x_nil E1 rfl rfl) ?_
    clear a1 E1;intro a1 E1
    refine sv E1 rfl rfl rfl (x_ldB (i := k + 5) E1 H rfl rfl h1 h2 Try.underlying79 rfl) ?_
    clear a1 E1;intro a1 E1
    rcases hd : c.drop k with _ | ⟨⟨q, m'⟩, r'⟩
    · rw [hd] at E1
      refine sv E1 rfl rfl rfl (x_bin2 E1 rfl rfl rfl (v := .bool false) (by kernel_rfl)) ?_
      clear a1 E1;intro a1 E1
      refine wpList_nil ?_
      refine q_then ?_
      have hkl : k = c.length := by
        have := congrArg List.length hd
        rw [List.length_drop] at this
        simp at this
        omega
      refine r_if E1 rfl (fun h => by cases h) fun _ => ?_
      refine wpIn_skip ?_
      refine q_blk ?_
      refine round_go H (i := 0) rfl hrs hrq fun w' H' => .inl ⟨rfl, v, ?_⟩
      have e : c.take (k + 1) = c.take k := by rw [hkl, List.take_length, List.take_of_length_le (by omega)]
      rw [e]
      exact H'
    · rw [hd] at E1 h2
      obtain ⟨hn1, hn2, hn3, hn4, hn5⟩ := at_next p hd
      have hm := PL_mail p (c.length : Int) hd (.pointer none) Fo
      refine sv E1 rfl rfl rfl (x_bin2 E1 rfl rfl rfl (v := .bool true) (by kernel_rfl)) ?_
      clear a1 E1;intro a1 E1
      refine wpList_nil ?_
      refine q_then ?_
      refine r_if E1 rfl (fun _ => ?_) fun h => by cases h
      have hI : Still [Blk b3 27 [v], Blk (atB p (c.take k)) (atT (c.take k)) cs, Blk q 85 [.int .i64 m'.From, .int .i64 m'.To, .string m'.Data, first r' (.pointer none)]] [] { w with drawn := w.drawn + 1 } :=
        ⟨_, _, H.kept (Kp.drawn _ w _), subO_cons (.tail _ (.tail _ (.tail _ (.head _)))) (subO_cons (List.mem_of_getElem? (i := k + 5) h1) (subO_cons (List.mem_of_getElem? (i := k + 6) hm) subO_nil)), sub_nil⟩
      refine r_draw _ [(0, 0), (1, 0), (2, 0), (3, 0), (4, 0), (5, 0), (6, 0), (7, 1), (8, 1), (9, 2)] mixedOk (by kernel_rfl) (by rintro ⟨_, _, h⟩; exact h) (by kernel_rfl) (fun _ _ _ h => h) hI ?_
      replace H := H.kept (Kp.drawn _ w (w.drawn + 1))
      generalize ({ w with drawn := w.drawn + 1 } : World) = w at H hI ⊢
      refine fr_val E1 rfl (wn rfl) rfl rfl (fun w hW => x_ld E1 rfl rfl (ib_ld (.head _) rfl Try.underlying27 rfl w hW)) ?_
      clear a1 E1;intro a1 E1
      refine fr_val E1 rfl (wn rfl) rfl rfl (fun w hW => x_move E1 rfl rfl) ?_
      clear a1 E1;intro a1 E1
      refine fr_val E1 rfl (wn rfl) rfl rfl (fun w hW => x_nil E1 rfl rfl) ?_
      clear a1 E1;intro a1 E1
      refine fr_val E1 rfl (wn rfl) rfl rfl (fun w hW => x_ld E1 rfl rfl (ib_ld (.tail _ (.head _)) h2 Try.underlying79 rfl w hW)) ?_
      clear a1 E1;intro a1 E1
      refine fr_val E1 rfl (wn rfl) rfl rfl (fun w hW => x_nil E1 rfl rfl) ?_
      clear a1 E1;intro a1 E1
      refine fr_val E1 rfl (wn rfl) rfl rfl (fun w hW => x_fa E1 rfl rfl (v := .pointer (some ⟨q, 0, none⟩)) (fa85_0 _ _)) ?_
      clear a1 E1;intro a1 E1
      refine fr_val E1 rfl (wn rfl) rfl rfl (fun w hW => x_ld E1 rfl rfl (ib_ldN (us := [.int .i64 m'.From, .int .i64 m'.To, .string m'.Data]) (.tail _ (.tail _ (.head _))) rfl Try.underlying32 rfl sz32 w hW)) ?_
      clear a1 E1;intro a1 E1
      refine fr_op rfl ?_
      refine st_bsR (e := 32) (d := k_api_Mail) (cs := [.int .i64 m'.From, .int .i64 m'.To, .string m'.Data]) (xs := [m']) E1 H (wn rfl) rfl rfl (ps := [(0, .tmp 20)]) (parts := [(0, .agg #[.int .i64 m'.From, .int .i64 m'.To, .string m'.Data])]) rfl (by simp only [List.map]; rw [E1.eval (x := .tmp 20) (v := .agg #[.int .i64 m'.From, .int .i64 m'.To, .string m'.Data]) rfl]) (by kernel_rfl) rfl (fun ok hr => Rows.single (d := k_api_Mail) (cs := [.int .i64 m'.From, .int .i64 m'.To, .string m'.Data]) (x := m') k_api_Mail_mk) ?_
      clear E1 H hI; clear a1; clear w; intro v2 w a1 H E1
      refine wpList_nil ?_
      refine q_then ?_
      refine ⟨⟨_, _, H, subO_cons (.tail _ (.tail _ (.tail _ (.head _)))) (subO_cons (List.mem_of_getElem? (i := k + 5) h1) (subO_cons (List.mem_of_getElem? (i := k + 6) hm) subO_nil)), sub_nil⟩, ?_⟩
      refine fr_op rfl ?_
      refine st_append (i := 4) E1 H (wn rfl) rfl rfl rfl rfl rfl rfl (src_rd (.head _)) Try.underlying27 inf32 rfl (by rw [List.length_map, List.length_take]; show _ + 1 ≤ 274877906944; omega) rfl ?_
      clear E1 H; clear a1; clear w; intro v3 w a1 H E1
      refine wpList_nil ?_
      refine q_then ?_
      refine ⟨⟨_, _, H, subO_cons (.tail _ (.tail _ (.tail _ (.head _)))) (subO_cons (List.mem_of_getElem? (i := k + 5) h1) (subO_cons (List.mem_of_getElem? (i := k + 6) hm) subO_nil)), sub_nil⟩, ?_⟩
      refine fr_tail rfl ?_
      obtain ⟨q3, x3, rfl⟩ := H.rowform (i := 4) rfl
      refine st_st (i := 3) E1 H (wn rfl) rfl (us := [.slice q3 ((List.map Prod.snd (c.take k)) ++ [m']).length x3]) rfl rfl rfl rfl rfl psz27 rfl rfl ?_
      clear H; clear w; intro w H
      refine wpList_nil ?_
      refine q_then ?_
      refine fr_nil ?_
      refine q_blk ?_
      refine round_go H (i := 0) rfl hrs hrq fun w' H' => .inl ⟨rfl, .slice q3 ((List.map Prod.snd (c.take k)) ++ [m']).length x3, ?_⟩
      rw [hn5, List.map_append]
      exact H'.reads fun r hr => .tail _ hr
  · intro e w3 h
    clear hra hrb hrt hrp w2 H2
    cases e with
    | returned v =>
      rcases h with ⟨v, H3⟩ | h
      · refine ⟨_, _, H3, by rw [hrs]; simp, ?_⟩
        clear H3 w3; intro w H
        rw [hrq]
        refine q_blk ?_
        refine q_then ?_
        refine wpIn_seq ?_
        refine r_reg (by rintro ⟨_, _, h⟩; exact h) rfl ?_
        refine sv E rfl rfl rfl (x_ldB (i := 3) E H rfl rfl rfl rfl Try.underlying27 rfl) ?_
        clear a E;intro a E
        refine sv E rfl rfl rfl (x_assign E rfl rfl) ?_
        clear a E;intro a E
        refine wpList_nil ?_
        refine q_then ?_
        refine wpIn_ret ?_
        refine end_mark E H (i := 1) rfl fun w' H' => ⟨_, results_tmp rfl _ _ _, ?_⟩
        rw [E.getD rfl]
        rw [List.take_of_length_le (by omega)] at H'
        exact Sep.behind (A := [_, _, _, _]) H'
      · exact h.elim
    | panicked c => exact h.elim
    | outgrown => exact h.elim
end Go.Cb
