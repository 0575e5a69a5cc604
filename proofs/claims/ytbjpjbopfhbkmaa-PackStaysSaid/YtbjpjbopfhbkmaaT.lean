/- The types of the program and the small facts that the walks use. -/
import Derived.Test.YtbjpjbopfhbkmaaB8
import Derived.Test.YtbjpjbopfhbkmaaProg
set_option linter.unusedVariables false
set_option linter.unusedSimpArgs false
namespace Go.Cb
open Go.Proofs Go.RowKit
structure S_cantonlaw02_Item where
  What : Int
  N : Int
  S : ByteArray
  L : (List ByteArray)
  deriving DecidableEq, Inhabited
def k_cantonlaw02_Item : Kd S_cantonlaw02_Item := kMap (kP (kI .i64) (kP (kI .i64) (kP kS (kL kS)))) fun x => (x.What, (x.N, (x.S, x.L)))
theorem k_cantonlaw02_Item_open {w : World} {ok : Nat → Prop} {x : S_cantonlaw02_Item} {cs : List Value} (h : k_cantonlaw02_Item.R w ok x cs) : ∃ v1 : Value, cs = [.int .i64 x.What, .int .i64 x.N, .string x.S, v1] ∧ Sl kS w ok v1 x.L := by
  obtain ⟨c0, d0, rfl, h0, c1, d1, rfl, h1, c2, d2, rfl, h2, h3⟩ := h
  have e0 : c0 = [.int .i64 x.What] := h0
  subst e0
  have e1 : c1 = [.int .i64 x.N] := h1
  subst e1
  have e2 : c2 = [.string x.S] := h2
  subst e2
  obtain ⟨u0, rfl, g0⟩ := h3
  exact ⟨u0, rfl, g0⟩
theorem k_cantonlaw02_Item_mk {w : World} {ok : Nat → Prop} {x : S_cantonlaw02_Item} {v1 : Value} (g1 : Sl kS w ok v1 x.L) : k_cantonlaw02_Item.R w ok x [.int .i64 x.What, .int .i64 x.N, .string x.S, v1] := ⟨[.int .i64 x.What], _, rfl, rfl, ⟨[.int .i64 x.N], _, rfl, rfl, ⟨[.string x.S], _, rfl, rfl, ⟨_, rfl, g1⟩⟩⟩⟩
theorem k_cantonlaw02_Item_get1 {w : World} {ok : Nat → Prop} {x : S_cantonlaw02_Item} {v1 : Value} (h : k_cantonlaw02_Item.R w ok x [.int .i64 x.What, .int .i64 x.N, .string x.S, v1]) : Sl kS w ok v1 x.L := by
  obtain ⟨u0, he, g0⟩ := k_cantonlaw02_Item_open h
  cases he
  exact g0
theorem k_cantonlaw02_Item_at0 {w : World} {ok : Nat → Prop} {q : Addr} {x : S_cantonlaw02_Item} (h : (rAt k_cantonlaw02_Item q x).p w ok) : (rAt (kI .i64) (q.add 0) x.What).p w ok := by
  have h0 : (rAt (kP (kI .i64) (kP (kI .i64) (kP kS (kL kS)))) q ((x.What, (x.N, (x.S, x.L))))).p w ok := h
  have h1 := (rAt_fst h0)
  simp only [show ∀ q : Addr, q.add 0 = q from fun q => by simp [Addr.add]]
  exact h1
theorem k_cantonlaw02_Item_aw0 {w : World} {ok : Nat → Prop} {q : Addr} {x : S_cantonlaw02_Item} {cs : List Value} (h : (rAw k_cantonlaw02_Item q x cs).p w ok) : ∃ c, (rAw (kI .i64) (q.add 0) x.What c).p w ok ∧ c = (cs.drop 0).take 1 := by
  have h0 : (rAw (kP (kI .i64) (kP (kI .i64) (kP kS (kL kS)))) q ((x.What, (x.N, (x.S, x.L)))) cs).p w ok := h
  have hl : cs.length = 4 := k_cantonlaw02_Item.len h.2.1
  have h1 := (rAw_fst h0)
  simp only [show ∀ q : Addr, q.add 0 = q from fun q => by simp [Addr.add]]
  refine ⟨_, h1, ?_⟩
  (try simp only [kP, kI, kB, kS, kL, kMap, Kd.scalar])
  all_goals (try (apply List.ext_getElem?; intro j; simp [List.getElem?_take, List.getElem?_drop]))
  all_goals (try (intros; (try split); (try omega); (try (rw [List.getElem?_eq_none (by omega)]))))
theorem k_cantonlaw02_Item_at1 {w : World} {ok : Nat → Prop} {q : Addr} {x : S_cantonlaw02_Item} (h : (rAt k_cantonlaw02_Item q x).p w ok) : (rAt (kI .i64) (q.add 1) x.N).p w ok := by
  have h0 : (rAt (kP (kI .i64) (kP (kI .i64) (kP kS (kL kS)))) q ((x.What, (x.N, (x.S, x.L))))).p w ok := h
  have h1 := (rAt_fst (rAt_snd h0))
  simp only [add_add, kP, kI, kB, kS, kL, Kd.scalar] at h1
  exact h1
theorem k_cantonlaw02_Item_aw1 {w : World} {ok : Nat → Prop} {q : Addr} {x : S_cantonlaw02_Item} {cs : List Value} (h : (rAw k_cantonlaw02_Item q x cs).p w ok) : ∃ c, (rAw (kI .i64) (q.add 1) x.N c).p w ok ∧ c = (cs.drop 1).take 1 := by
  have h0 : (rAw (kP (kI .i64) (kP (kI .i64) (kP kS (kL kS)))) q ((x.What, (x.N, (x.S, x.L)))) cs).p w ok := h
  have hl : cs.length = 4 := k_cantonlaw02_Item.len h.2.1
  have h1 := (rAw_fst (rAw_snd h0))
  simp only [add_add, kP, kI, kB, kS, kL, kMap, Kd.scalar] at h1
  refine ⟨_, h1, ?_⟩
  (try simp only [kP, kI, kB, kS, kL, kMap, Kd.scalar])
  all_goals (try (apply List.ext_getElem?; intro j; simp [List.getElem?_take, List.getElem?_drop]))
  all_goals (try (intros; (try split); (try omega); (try (rw [List.getElem?_eq_none (by omega)]))))
theorem k_cantonlaw02_Item_at2 {w : World} {ok : Nat → Prop} {q : Addr} {x : S_cantonlaw02_Item} (h : (rAt k_cantonlaw02_Item q x).p w ok) : (rAt kS (q.add 2) x.S).p w ok := by
  have h0 : (rAt (kP (kI .i64) (kP (kI .i64) (kP kS (kL kS)))) q ((x.What, (x.N, (x.S, x.L))))).p w ok := h
  have h1 := (rAt_fst (rAt_snd (rAt_snd h0)))
  simp only [add_add, kP, kI, kB, kS, kL, Kd.scalar] at h1
  exact h1
theorem k_cantonlaw02_Item_aw2 {w : World} {ok : Nat → Prop} {q : Addr} {x : S_cantonlaw02_Item} {cs : List Value} (h : (rAw k_cantonlaw02_Item q x cs).p w ok) : ∃ c, (rAw kS (q.add 2) x.S c).p w ok ∧ c = (cs.drop 2).take 1 := by
  have h0 : (rAw (kP (kI .i64) (kP (kI .i64) (kP kS (kL kS)))) q ((x.What, (x.N, (x.S, x.L)))) cs).p w ok := h
  have hl : cs.length = 4 := k_cantonlaw02_Item.len h.2.1
  have h1 := (rAw_fst (rAw_snd (rAw_snd h0)))
  simp only [add_add, kP, kI, kB, kS, kL, kMap, Kd.scalar] at h1
  refine ⟨_, h1, ?_⟩
  (try simp only [kP, kI, kB, kS, kL, kMap, Kd.scalar])
  all_goals (try (apply List.ext_getElem?; intro j; simp [List.getElem?_take, List.getElem?_drop]))
  all_goals (try (intros; (try split); (try omega); (try (rw [List.getElem?_eq_none (by omega)]))))
theorem k_cantonlaw02_Item_at3 {w : World} {ok : Nat → Prop} {q : Addr} {x : S_cantonlaw02_Item} (h : (rAt k_cantonlaw02_Item q x).p w ok) : (rAt (kL kS) (q.add 3) x.L).p w ok := by
  have h0 : (rAt (kP (kI .i64) (kP (kI .i64) (kP kS (kL kS)))) q ((x.What, (x.N, (x.S, x.L))))).p w ok := h
  have h1 := (rAt_snd (rAt_snd (rAt_snd h0)))
  simp only [add_add, kP, kI, kB, kS, kL, Kd.scalar] at h1
  exact h1
theorem k_cantonlaw02_Item_aw3 {w : World} {ok : Nat → Prop} {q : Addr} {x : S_cantonlaw02_Item} {cs : List Value} (h : (rAw k_cantonlaw02_Item q x cs).p w ok) : ∃ c, (rAw (kL kS) (q.add 3) x.L c).p w ok ∧ c = (cs.drop 3).take 1 := by
  have h0 : (rAw (kP (kI .i64) (kP (kI .i64) (kP kS (kL kS)))) q ((x.What, (x.N, (x.S, x.L)))) cs).p w ok := h
  have hl : cs.length = 4 := k_cantonlaw02_Item.len h.2.1
  have h1 := (rAw_snd (rAw_snd (rAw_snd h0)))
  simp only [add_add, kP, kI, kB, kS, kL, kMap, Kd.scalar] at h1
  refine ⟨_, h1, ?_⟩
  (try simp only [kP, kI, kB, kS, kL, kMap, Kd.scalar])
  all_goals (try (apply List.ext_getElem?; intro j; simp [List.getElem?_take, List.getElem?_drop]))
  all_goals (try (intros; (try split); (try omega); (try (rw [List.getElem?_eq_none (by omega)]))))
theorem cf28 : ∀ (w : World) (args : Array Value), (callFunc 28 args).run Try.prog w = .ok (.enter 28 args) w := fun _ args => cf_of Try.func28 (by kernel_rfl) (by kernel_rfl) args
theorem cf33 : ∀ (w : World) (args : Array Value), (callFunc 33 args).run Try.prog w = .ok (.enter 33 args) w := fun _ args => cf_of Try.func33 (by kernel_rfl) (by kernel_rfl) args
theorem fa51_1 : ∀ (w : World) (q : Addr), (Instr.fieldAt 51 (.pointer (some q)) 1).run Try.prog w = .ok (.pointer (some (q.add 1))) w := fun w q => by kernel_rfl
theorem sz4 : (Try.prog.info? 4).map (·.size) = some 1 := by kernel_rfl
theorem fa51_0 : ∀ (w : World) (q : Addr), (Instr.fieldAt 51 (.pointer (some q)) 0).run Try.prog w = .ok (.pointer (some (q.add 0))) w := fun w q => by kernel_rfl
theorem inf5 : (Try.prog.info? 5).map (fun i => (i.zero, i.size, i.bytes)) = some (some (.int .u8 0), 1, 1) := by kernel_rfl
theorem sz46 : (Try.prog.info? 46).map (·.size) = some 1 := by kernel_rfl
theorem mixedOk : Try.prog.follows .mixedOrders = true := by kernel_rfl
theorem cf35 : ∀ (w : World) (args : Array Value), (callFunc 35 args).run Try.prog w = .ok (.enter 35 args) w := fun _ args => cf_of Try.func35 (by kernel_rfl) (by kernel_rfl) args
theorem cf34 : ∀ (w : World) (args : Array Value), (callFunc 34 args).run Try.prog w = .ok (.enter 34 args) w := fun _ args => cf_of Try.func34 (by kernel_rfl) (by kernel_rfl) args
theorem cf52 : ∀ (w : World) (args : Array Value), (callFunc 52 args).run Try.prog w = .ok (.enter 52 args) w := fun _ args => cf_of Try.func52 (by kernel_rfl) (by kernel_rfl) args
theorem sz5 : (Try.prog.info? 5).map (·.size) = some 1 := by kernel_rfl
theorem lib_bytes_Clone_own {w : World} {os : List Ob} {rs : List Rp} {v : Value} {xs : List Int} (H : Sep w os rs) {i : Nat} (hi : os[i]? = some (Row 5 (kI .u8) v xs)) (hl : xs.length ≤ LIM) :
    Calls Try.prog 52 [v].toArray w (Ret fun v' w' => Sep w' (Row 5 (kI .u8) v' xs :: os) rs) := by
  obtain ⟨b, c, rfl⟩ := H.rowform hi
  refine enter Try.func52 rfl Try.ntmps52 rfl fun a E => ?_
  simp only [enum, Nat.reduceAdd] at E
  refine wp_seq ?_
  refine wp_region_lit ?_
  refine st_val E (wn rfl) rfl rfl (x_assign E rfl rfl) ?_
  clear E; clear a; intro a E
  refine wpList_nil ?_
  refine q_then ?_
  refine wp_seq ?_
  refine wp_seq ?_
  refine wp_region_lit ?_
  refine st_val E (wn rfl) rfl rfl (x_move E rfl rfl) ?_
  clear E; clear a; intro a E
  refine st_val E (wn rfl) rfl rfl (x_slnil E rfl rfl rfl Try.underlying46) ?_
  clear E; clear a; intro a E
  refine wpList_nil ?_
  refine q_then ?_
  refine wp_if E rfl ?_ ?_
  · intro hb
    cases b with
    | some _ => cases hb
    | none =>
      obtain rfl := H.row_none hi
      refine wp_seq ?_
      refine wp_region_lit ?_
      refine st_val E (wn rfl) rfl rfl (x_assign E rfl rfl) ?_
      clear E; clear a; intro a E
      refine wpList_nil ?_
      refine q_then ?_
      refine wp_ret ?_
      refine q_thenR ?_
      refine out1 E rfl rfl ?_
      exact H.nilRow 5 (kI .u8)
  · intro hb
    refine wp_skip ?_
    refine q_then ?_
    refine wp_seq ?_
    refine wp_region_lit ?_
    refine st_bsO (e := 5) (d := (kI .u8)) (cs := []) (xs := []) E H (wn rfl) rfl rfl (ps := []) (parts := []) rfl rfl (by kernel_rfl) rfl rfl (fun ok hr => Rows.nil _ _ _) ?_
    clear E H; clear a; clear w; intro v2 w a H E
    refine st_val E (wn rfl) rfl rfl (x_move E rfl rfl) ?_
    clear E; clear a; intro a E
    refine st_append (i := 0) E H (wn rfl) rfl rfl rfl rfl rfl rfl (src_row (i := i + 1) hi) Try.underlying46 inf5 rfl (by simpa using hl) rfl ?_
    clear E H; clear a; clear w; intro v3 w a H E
    refine st_val E (wn rfl) rfl rfl (x_assign E rfl rfl) ?_
    clear E; clear a; intro a E
    refine wpList_nil ?_
    refine q_then ?_
    refine wp_ret ?_
    refine out1 E rfl rfl ?_
    exact H

theorem cf29 : ∀ (w : World) (args : Array Value), (callFunc 29 args).run Try.prog w = .ok (.enter 29 args) w := fun _ args => cf_of Try.func29 (by kernel_rfl) (by kernel_rfl) args
theorem lib_bytes_Clone_rd {w : World} {os : List Ob} {rs : List Rp} {v : Value} {xs : List Int} (H : Sep w os rs) (hm : rSl (kI .u8) v xs ∈ rs) (hl : xs.length ≤ LIM) :
    Calls Try.prog 52 [v].toArray w (Ret fun v' w' => Sep w' (Row 5 (kI .u8) v' xs :: os) rs) := by
  obtain ⟨b, c, rfl⟩ := H.slform hm
  refine enter Try.func52 rfl Try.ntmps52 rfl fun a E => ?_
  simp only [enum, Nat.reduceAdd] at E
  refine wp_seq ?_
  refine wp_region_lit ?_
  refine st_val E (wn rfl) rfl rfl (x_assign E rfl rfl) ?_
  clear E; clear a; intro a E
  refine wpList_nil ?_
  refine q_then ?_
  refine wp_seq ?_
  refine wp_seq ?_
  refine wp_region_lit ?_
  refine st_val E (wn rfl) rfl rfl (x_move E rfl rfl) ?_
  clear E; clear a; intro a E
  refine st_val E (wn rfl) rfl rfl (x_slnil E rfl rfl rfl Try.underlying46) ?_
  clear E; clear a; intro a E
  refine wpList_nil ?_
  refine q_then ?_
  refine wp_if E rfl ?_ ?_
  · intro hb
    cases b with
    | some _ => cases hb
    | none =>
      obtain rfl := H.sl_none hm
      refine wp_seq ?_
      refine wp_region_lit ?_
      refine st_val E (wn rfl) rfl rfl (x_assign E rfl rfl) ?_
      clear E; clear a; intro a E
      refine wpList_nil ?_
      refine q_then ?_
      refine wp_ret ?_
      refine q_thenR ?_
      refine out1 E rfl rfl ?_
      exact H.nilRow 5 (kI .u8)
  · intro hb
    refine wp_skip ?_
    refine q_then ?_
    refine wp_seq ?_
    refine wp_region_lit ?_
    refine st_bsO (e := 5) (d := (kI .u8)) (cs := []) (xs := []) E H (wn rfl) rfl rfl (ps := []) (parts := []) rfl rfl (by kernel_rfl) rfl rfl (fun ok hr => Rows.nil _ _ _) ?_
    clear E H; clear a; clear w; intro v2 w a H E
    refine st_val E (wn rfl) rfl rfl (x_move E rfl rfl) ?_
    clear E; clear a; intro a E
    refine st_append (i := 0) E H (wn rfl) rfl rfl rfl rfl rfl rfl (src_rd hm) Try.underlying46 inf5 rfl (by simpa using hl) rfl ?_
    clear E H; clear a; clear w; intro v3 w a H E
    refine st_val E (wn rfl) rfl rfl (x_assign E rfl rfl) ?_
    clear E; clear a; intro a E
    refine wpList_nil ?_
    refine q_then ?_
    refine wp_ret ?_
    refine out1 E rfl rfl ?_
    exact H

theorem cf32 : ∀ (w : World) (args : Array Value), (callFunc 32 args).run Try.prog w = .ok (.enter 32 args) w := fun _ args => cf_of Try.func32 (by kernel_rfl) (by kernel_rfl) args
theorem fa91_1 : ∀ (w : World) (q : Addr), (Instr.fieldAt 91 (.pointer (some q)) 1).run Try.prog w = .ok (.pointer (some (q.add 1))) w := fun w q => by kernel_rfl
theorem fa91_0 : ∀ (w : World) (q : Addr), (Instr.fieldAt 91 (.pointer (some q)) 0).run Try.prog w = .ok (.pointer (some (q.add 0))) w := fun w q => by kernel_rfl
theorem sz52 : (Try.prog.info? 52).map (·.size) = some 1 := by kernel_rfl
theorem cf36 : ∀ (w : World) (args : Array Value), (callFunc 36 args).run Try.prog w = .ok (.enter 36 args) w := fun _ args => cf_of Try.func36 (by kernel_rfl) (by kernel_rfl) args
theorem cf30 : ∀ (w : World) (args : Array Value), (callFunc 30 args).run Try.prog w = .ok (.enter 30 args) w := fun _ args => cf_of Try.func30 (by kernel_rfl) (by kernel_rfl) args
theorem cf31 : ∀ (w : World) (args : Array Value), (callFunc 31 args).run Try.prog w = .ok (.enter 31 args) w := fun _ args => cf_of Try.func31 (by kernel_rfl) (by kernel_rfl) args
theorem cf37 : ∀ (w : World) (args : Array Value), (callFunc 37 args).run Try.prog w = .ok (.enter 37 args) w := fun _ args => cf_of Try.func37 (by kernel_rfl) (by kernel_rfl) args
theorem sz70 : (Try.prog.info? 70).map (·.size) = some 4 := by kernel_rfl
theorem fa70_2 : ∀ (w : World) (q : Addr), (Instr.fieldAt 70 (.pointer (some q)) 2).run Try.prog w = .ok (.pointer (some (q.add 2))) w := fun w q => by kernel_rfl
theorem fa70_3 : ∀ (w : World) (q : Addr), (Instr.fieldAt 70 (.pointer (some q)) 3).run Try.prog w = .ok (.pointer (some (q.add 3))) w := fun w q => by kernel_rfl
theorem sz9 : (Try.prog.info? 9).map (·.size) = some 1 := by kernel_rfl
theorem fa70_0 : ∀ (w : World) (q : Addr), (Instr.fieldAt 70 (.pointer (some q)) 0).run Try.prog w = .ok (.pointer (some (q.add 0))) w := fun w q => by kernel_rfl
theorem fa70_1 : ∀ (w : World) (q : Addr), (Instr.fieldAt 70 (.pointer (some q)) 1).run Try.prog w = .ok (.pointer (some (q.add 1))) w := fun w q => by kernel_rfl
theorem cf38 : ∀ (w : World) (args : Array Value), (callFunc 38 args).run Try.prog w = .ok (.enter 38 args) w := fun _ args => cf_of Try.func38 (by kernel_rfl) (by kernel_rfl) args
theorem fa67_1 : ∀ (w : World) (q : Addr), (Instr.fieldAt 67 (.pointer (some q)) 1).run Try.prog w = .ok (.pointer (some (q.add 1))) w := fun w q => by kernel_rfl
theorem fa67_0 : ∀ (w : World) (q : Addr), (Instr.fieldAt 67 (.pointer (some q)) 0).run Try.prog w = .ok (.pointer (some (q.add 0))) w := fun w q => by kernel_rfl
theorem cf53 : ∀ (w : World) (args : Array Value), (callFunc 53 args).run Try.prog w = .ok (.enter 53 args) w := fun _ args => cf_of Try.func53 (by kernel_rfl) (by kernel_rfl) args
theorem cf39 : ∀ (w : World) (args : Array Value), (callFunc 39 args).run Try.prog w = .ok (.enter 39 args) w := fun _ args => cf_of Try.func39 (by kernel_rfl) (by kernel_rfl) args
theorem cf40 : ∀ (w : World) (args : Array Value), (callFunc 40 args).run Try.prog w = .ok (.enter 40 args) w := fun _ args => cf_of Try.func40 (by kernel_rfl) (by kernel_rfl) args
theorem cf41 : ∀ (w : World) (args : Array Value), (callFunc 41 args).run Try.prog w = .ok (.enter 41 args) w := fun _ args => cf_of Try.func41 (by kernel_rfl) (by kernel_rfl) args
theorem cf42 : ∀ (w : World) (args : Array Value), (callFunc 42 args).run Try.prog w = .ok (.enter 42 args) w := fun _ args => cf_of Try.func42 (by kernel_rfl) (by kernel_rfl) args
theorem cf43 : ∀ (w : World) (args : Array Value), (callFunc 43 args).run Try.prog w = .ok (.enter 43 args) w := fun _ args => cf_of Try.func43 (by kernel_rfl) (by kernel_rfl) args
theorem cf44 : ∀ (w : World) (args : Array Value), (callFunc 44 args).run Try.prog w = .ok (.enter 44 args) w := fun _ args => cf_of Try.func44 (by kernel_rfl) (by kernel_rfl) args
theorem fa77_1 : ∀ (w : World) (q : Addr), (Instr.fieldAt 77 (.pointer (some q)) 1).run Try.prog w = .ok (.pointer (some (q.add 1))) w := fun w q => by kernel_rfl
theorem fa77_0 : ∀ (w : World) (q : Addr), (Instr.fieldAt 77 (.pointer (some q)) 0).run Try.prog w = .ok (.pointer (some (q.add 0))) w := fun w q => by kernel_rfl
theorem cf54 : ∀ (w : World) (args : Array Value), (callFunc 54 args).run Try.prog w = .ok (.enter 54 args) w := fun _ args => cf_of Try.func54 (by kernel_rfl) (by kernel_rfl) args
theorem cf45 : ∀ (w : World) (args : Array Value), (callFunc 45 args).run Try.prog w = .ok (.enter 45 args) w := fun _ args => cf_of Try.func45 (by kernel_rfl) (by kernel_rfl) args
theorem cf46 : ∀ (w : World) (args : Array Value), (callFunc 46 args).run Try.prog w = .ok (.enter 46 args) w := fun _ args => cf_of Try.func46 (by kernel_rfl) (by kernel_rfl) args
theorem inf9 : (Try.prog.info? 9).map (fun i => (i.zero, i.size, i.bytes)) = some (some (.string ⟨#[]⟩), 1, 16) := by kernel_rfl
theorem cf47 : ∀ (w : World) (args : Array Value), (callFunc 47 args).run Try.prog w = .ok (.enter 47 args) w := fun _ args => cf_of Try.func47 (by kernel_rfl) (by kernel_rfl) args
theorem cf48 : ∀ (w : World) (args : Array Value), (callFunc 48 args).run Try.prog w = .ok (.enter 48 args) w := fun _ args => cf_of Try.func48 (by kernel_rfl) (by kernel_rfl) args
theorem cf49 : ∀ (w : World) (args : Array Value), (callFunc 49 args).run Try.prog w = .ok (.enter 49 args) w := fun _ args => cf_of Try.func49 (by kernel_rfl) (by kernel_rfl) args
end Go.Cb
