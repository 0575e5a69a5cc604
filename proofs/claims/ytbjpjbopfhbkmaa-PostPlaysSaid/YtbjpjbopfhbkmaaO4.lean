/- The links of a post, the iteration over them, the walks of Put and find. -/
import Derived.Test.YtbjpjbopfhbkmaaO3
set_option linter.unusedVariables false
set_option linter.unusedSimpArgs false
namespace Go.Cb
open Go.Proofs Go.RowKit
theorem fa81_0 : ∀ (w : World) (q : Addr), (Instr.fieldAt 81 (.pointer (some q)) 0).run Try.prog w = .ok (.pointer (some (q.add 0))) w := fun w q => by kernel_rfl
theorem fa81_1 : ∀ (w : World) (q : Addr), (Instr.fieldAt 81 (.pointer (some q)) 1).run Try.prog w = .ok (.pointer (some (q.add 1))) w := fun w q => by kernel_rfl
theorem fa85_0 : ∀ (w : World) (q : Addr), (Instr.fieldAt 85 (.pointer (some q)) 0).run Try.prog w = .ok (.pointer (some (q.add 0))) w := fun w q => by kernel_rfl
theorem fa85_1 : ∀ (w : World) (q : Addr), (Instr.fieldAt 85 (.pointer (some q)) 1).run Try.prog w = .ok (.pointer (some (q.add 3))) w := fun w q => by kernel_rfl
theorem cf51 : ∀ (w : World) (args : Array Value), (callFunc 51 args).run Try.prog w = .ok (.enter 51 args) w := fun _ args => cf_of Try.func51 (by kernel_rfl) (by kernel_rfl) args
theorem cf55 : ∀ (w : World) (args : Array Value), (callFunc 55 args).run Try.prog w = .ok (.enter 55 args) w := fun _ args => cf_of Try.func55 (by kernel_rfl) (by kernel_rfl) args
theorem cf50 : ∀ (w : World) (args : Array Value), (callFunc 50 args).run Try.prog w = .ok (.enter 50 args) w := fun _ args => cf_of Try.func50 (by kernel_rfl) (by kernel_rfl) args
theorem psz79 : (Try.prog.info? 79).map (·.size) = some 1 := by kernel_rfl
theorem psz82 : (Try.prog.info? 82).map (·.size) = some 1 := by kernel_rfl
theorem psz3 : (Try.prog.info? 3).map (·.size) = some 1 := by kernel_rfl
theorem links_c {w : World} {os : List Ob} {rs : List Rp} {p : Nat} (H : Sep w os rs) : Calls Try.prog 51 [.pointer (some ⟨p, 0, none⟩)].toArray w (Ret fun v w' => ∃ b : Nat, .func (.func 55) #[] #[.pointer (some ⟨b, 0, none⟩)] = v ∧ Sep w' (Blk b 24 [.pointer (some ⟨p, 0, none⟩)] :: os) rs) := by
  refine enter Try.func51 rfl Try.ntmps51 rfl fun a E => ?_
  simp only [enum, Nat.reduceAdd] at E
  refine wp_seq ?_
  refine wp_region_lit ?_
  refine st_box E H (wn rfl) rfl rfl (cs := [.pointer (some ⟨p, 0, none⟩)]) rfl rfl rfl ?_
  clear E H; clear a; clear w; intro b w a H E
  refine sv E rfl rfl rfl (x_assign E rfl rfl) ?_
  clear a E;intro a E
  refine wpList_nil ?_
  refine q_then ?_
  refine wp_seq ?_
  refine wp_region_lit ?_
  refine sv E rfl rfl rfl (x_func E rfl rfl rfl) ?_
  clear a E;intro a E
  refine sv E rfl rfl rfl (x_assign E rfl rfl) ?_
  clear a E;intro a E
  refine wpList_nil ?_
  refine q_then ?_
  refine wp_ret ?_
  refine out1 E rfl rfl ?_
  exact ⟨b, rfl, H⟩
/-! ### the iteration -/
def it4 (a : Act) : Nat := match (a.tmps[4]? : Option Value) with
  | some (Value.int _ z) => (1000 - z).toNat
  | _ => 0
theorem end_plainN {P : Program} {w : World} {m : Nat} {env : List (Nat × Value)} {a : Act} (E : Env m a env) {fn : Func} {R : Value → World → Prop} (h : ∃ v, (results fn a.tmps).run P w = .ok v w ∧ R v w) : bodyPostM (FQ none) 0 P fn (Ret R) .normal (wd [] a) w := end_plain E h
theorem iter_c {p b l : Nat} {c : Ch} (hlen : c.length ≤ 400) (S : Nat → World → Prop) (X : World → Prop)
    (hb : ∀ w, S 0 w → w.cell? ⟨b, 0, none⟩ = some (.pointer (some ⟨p, 0, none⟩)))
    (hc : ∀ k w, k ≤ c.length → S (k + 1) w → w.cell? ⟨atB p (c.take k), atO (c.take k), none⟩ = some (first (c.drop k) (.pointer none)))
    (hY : ∀ (k : Nat) w, k ≤ c.length → S k w → Round Try.prog l [.int .i64 (k : Int), .pointer (some ⟨atB p (c.take k), atO (c.take k), none⟩)].toArray w (fun e w' => (e = .returned (.bool true) ∧ S (k + 1) w') ∨ (e = .returned (.bool false) ∧ X w')))
    {w : World} (h0 : S 0 w) : Calls Try.prog 55 [.func (.yield l) #[] #[], .pointer (some ⟨b, 0, none⟩)].toArray w (Ret fun v w' => S (c.length + 1) w' ∨ X w') := by
  refine enterM Try.func55 rfl Try.ntmps55 rfl fun a E => ?_
  simp only [enum, Nat.reduceAdd] at E
  refine wpIn_seq ?_
  refine r_reg (by rintro ⟨_, _, h⟩; exact h) rfl ?_
  refine sv E rfl rfl rfl (x_ld E rfl rfl (run_ld1 Try.underlying24 rfl (hb _ h0))) ?_
  clear a E;intro a E
  refine sv E rfl rfl rfl (x_nil E rfl rfl) ?_
  clear a E;intro a E
  refine sv E rfl rfl rfl (x_fa E rfl rfl (v := .pointer (some ⟨p, 0, none⟩)) (fa81_0 _ _)) ?_
  clear a E;intro a E
  refine sv E rfl rfl rfl (x_assign E rfl rfl) ?_
  clear a E;intro a E
  refine wpList_nil ?_
  refine q_then ?_
  refine wpIn_seq ?_
  refine r_reg (by rintro ⟨_, _, h⟩; exact h) rfl ?_
  refine sv E rfl rfl rfl (x_assign E rfl rfl) ?_
  clear a E;intro a E
  refine wpList_nil ?_
  refine q_then ?_
  refine wpIn_block ?_
  refine wpIn_loop (fun a' w => ∃ (a : Act) (k : Nat), a' = wd [] a ∧ k ≤ c.length ∧ Env 25 a [(0, .func (.yield l) #[] #[]), (3, .pointer (some ⟨atB p (c.take k), atO (c.take k), none⟩)), (4, .int .i64 (k : Int))] ∧ S k w) (fun a' _ => it4 a') ⟨a, 0, rfl, Nat.zero_le _, (((E.nil.keep E 4 rfl).keep E 3 rfl).keep E 0 rfl), h0⟩ ?_
  clear E h0
  clear a w
  rintro _ w ⟨a, k, rfl, hk, E, hS⟩
  have hμ : it4 (wd [] a) = (1000 - (k : Int)).toNat := by
    have := E.get 4 _ rfl
    show (match (a.tmps[4]? : Option Value) with | some (Value.int _ z) => (1000 - z).toNat | _ => 0) = _
    rw [this]
  rw [hμ]
  clear hμ
  refine wpIn_seq ?_
  refine wpIn_seq ?_
  refine wpIn_region_lit ?_
  refine si_val E (wn rfl) rfl rfl rfl (x_move E rfl rfl) ?_
  clear a E;intro a E
  refine si_val E (wn rfl) rfl rfl rfl (x_move E rfl rfl) ?_
  clear a E;intro a E
  refine si_val E (wn rfl) rfl rfl rfl (x_move E rfl rfl) ?_
  clear a E;intro a E
  refine st_yield E (wn rfl) rfl rfl rfl rfl rfl (hY k w hk hS) ?_
  rintro e w' (⟨rfl, hS'⟩ | ⟨rfl, hX⟩)
  · refine ⟨_, rfl, ?_⟩
    clear a E;intro a E
    refine list_in (by rintro ⟨_, _, h⟩; exact h) _ _ _ rfl ?_
    refine sv E rfl rfl rfl (x_move E rfl rfl) ?_
    clear a E;intro a E
    refine st_val E (ws E rfl rfl rfl rfl) rfl rfl (x_move E rfl rfl) ?_
    clear a E;intro a E
    refine st_val E (ws E rfl rfl rfl rfl) rfl rfl (x_nil E rfl rfl) ?_
    clear a E;intro a E
    refine st_val E (ws E rfl rfl rfl rfl) rfl rfl (x_ld E rfl rfl (run_ld1 Try.underlying79 rfl (hc k w' hk hS'))) ?_
    clear a E;intro a E
    rcases hd : c.drop k with _ | ⟨⟨q, m⟩, r⟩
    · rw [hd] at E
      refine st_val E (ws E rfl rfl rfl rfl) rfl rfl (x_bin2 E rfl rfl rfl (v := .bool false) (by kernel_rfl)) ?_
      clear a E;intro a E
      refine sv E rfl rfl rfl (x_pickT E rfl rfl rfl rfl) ?_
      clear a E;intro a E
      refine wpList_nil ?_
      refine q_then ?_
      refine r_if E rfl (fun h => by cases h) fun _ => ?_
      refine wpIn_exit ?_
      refine q_thenX ?_
      refine q_thenX ?_
      refine q_hit ?_
      refine end_plainN E ⟨_, results_none rfl _ _ _, .inl ?_⟩
      have : k = c.length := by
        have := congrArg List.length hd
        rw [List.length_drop] at this
        simp at this
        omega
      rw [← this]; exact hS'
    · have hcell := hc k w' hk hS'
      rw [hd] at E hcell
      obtain ⟨hn1, hn2, hn3, _, _⟩ := at_next p hd
      refine st_val E (ws E rfl rfl rfl rfl) rfl rfl (x_bin2 E rfl rfl rfl (v := .bool true) (by kernel_rfl)) ?_
      clear a E;intro a E
      refine sv E rfl rfl rfl (x_pickT E rfl rfl rfl rfl) ?_
      clear a E;intro a E
      refine wpList_nil ?_
      refine q_then ?_
      refine r_if E rfl (fun _ => ?_) fun h => by cases h
      refine wpIn_skip ?_
      refine q_then ?_
      refine wpIn_seq ?_
      refine wpIn_block ?_
      refine r_reg (by rintro ⟨_, _, h⟩; exact h) rfl ?_
      refine sv E rfl rfl rfl (x_move E rfl rfl) ?_
      clear a E;intro a E
      refine sv E rfl rfl rfl (x_nil E rfl rfl) ?_
      clear a E;intro a E
      refine sv E rfl rfl rfl (x_ld E rfl rfl (run_ld1 Try.underlying79 rfl hcell)) ?_
      clear a E;intro a E
      refine sv E rfl rfl rfl (x_nil E rfl rfl) ?_
      clear a E;intro a E
      refine sv E rfl rfl rfl (x_fa E rfl rfl (v := .pointer (some ⟨q, 3, none⟩)) (fa85_1 _ _)) ?_
      clear a E;intro a E
      refine sv E rfl rfl rfl (x_assign E rfl rfl) ?_
      clear a E;intro a E
      refine wpList_nil ?_
      refine q_blk ?_
      refine q_then ?_
      refine r_reg (by rintro ⟨_, _, h⟩; exact h) rfl ?_
      refine sv E rfl rfl rfl (x_move E rfl rfl) ?_
      clear a E;intro a E
      refine sv E rfl rfl rfl (x_bin E rfl rfl rfl rfl) ?_
      clear a E;intro a E
      refine sv E rfl rfl rfl (x_assign E rfl rfl) ?_
      clear a E;intro a E
      refine wpList_nil ?_
      refine q_then ?_
      refine ⟨⟨a, k + 1, rfl, by omega, ?_, hS'⟩, ?_⟩
      · have hw : IntKind.i64.wrap ((k : Int) + 1) = ((k + 1 : Nat) : Int) := by
          have : k ≤ 400 := by omega
          have h1 : ((k + 1 : Nat) : Int) = (k : Int) + 1 := by omega
          rw [h1]; unfold IntKind.wrap; simp [IntKind.bits, IntKind.signed]; omega
        rw [hw] at E
        rw [hn1, hn2]
        exact ((E.nil.keep E 4 rfl).keep E 3 rfl).keep E 0 rfl
      · have := E.get 4 _ rfl
        show (match (a.tmps[4]? : Option Value) with | some (Value.int _ z) => (1000 - z).toNat | _ => 0) < _
        rw [this]
        have hw : IntKind.i64.wrap ((k : Int) + 1) = (k : Int) + 1 := by
          have : k ≤ 400 := by omega
          unfold IntKind.wrap; simp [IntKind.bits, IntKind.signed]; omega
        show (1000 - IntKind.i64.wrap ((k : Int) + 1)).toNat < _
        rw [hw]
        omega
  · refine ⟨_, rfl, ?_⟩
    clear a E;intro a E
    refine list_in (by rintro ⟨_, _, h⟩; exact h) _ _ _ rfl ?_
    refine sv E rfl rfl rfl (x_move E rfl rfl) ?_
    clear a E;intro a E
    refine st_no E (wf E rfl rfl rfl rfl rfl) rfl rfl ?_
    clear a E;intro a E
    refine st_no E (wf E rfl rfl rfl rfl rfl) rfl rfl ?_
    clear a E;intro a E
    refine st_no E (wf E rfl rfl rfl rfl rfl) rfl rfl ?_
    clear a E;intro a E
    refine st_no E (wf E rfl rfl rfl rfl rfl) rfl rfl ?_
    clear a E;intro a E
    refine sv E rfl rfl rfl (x_pickF E rfl rfl rfl rfl) ?_
    clear a E;intro a E
    refine wpList_nil ?_
    refine q_then ?_
    refine r_if E rfl (fun h => by cases h) fun _ => ?_
    refine wpIn_exit ?_
    refine q_thenX ?_
    refine q_thenX ?_
    refine q_hit ?_
    exact end_plainN E ⟨_, results_none rfl _ _ _, .inr hX⟩
end Go.Cb
