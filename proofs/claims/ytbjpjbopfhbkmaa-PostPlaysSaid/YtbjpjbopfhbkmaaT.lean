/- The types of the program and the small facts that the walks use. -/
import Derived.Test.YtbjpjbopfhbkmaaB15
import Derived.Test.YtbjpjbopfhbkmaaProg
set_option linter.unusedVariables false
set_option linter.unusedSimpArgs false
namespace Go.Cb
open Go.Proofs Go.RowKit
structure S_api_Mail where
  From : Int
  To : Int
  Data : ByteArray
  deriving DecidableEq, Inhabited
def k_api_Mail : Kd S_api_Mail := kMap (kP (kI .i64) (kP (kI .i64) kS)) fun x => (x.From, (x.To, x.Data))
theorem k_api_Mail_open {w : World} {ok : Nat → Prop} {x : S_api_Mail} {cs : List Value} (h : k_api_Mail.R w ok x cs) : cs = [.int .i64 x.From, .int .i64 x.To, .string x.Data] := by
  obtain ⟨c0, d0, rfl, h0, c1, d1, rfl, h1, h2⟩ := h
  have e0 : c0 = [.int .i64 x.From] := h0
  subst e0
  have e1 : c1 = [.int .i64 x.To] := h1
  subst e1
  have e2 : d1 = [.string x.Data] := h2
  subst e2
  rfl
theorem k_api_Mail_mk {w : World} {ok : Nat → Prop} {x : S_api_Mail}   : k_api_Mail.R w ok x [.int .i64 x.From, .int .i64 x.To, .string x.Data] := ⟨[.int .i64 x.From], _, rfl, rfl, ⟨[.int .i64 x.To], _, rfl, rfl, rfl⟩⟩
theorem k_api_Mail_at0 {w : World} {ok : Nat → Prop} {q : Addr} {x : S_api_Mail} (h : (rAt k_api_Mail q x).p w ok) : (rAt (kI .i64) (q.add 0) x.From).p w ok := by
  have h0 : (rAt (kP (kI .i64) (kP (kI .i64) kS)) q ((x.From, (x.To, x.Data)))).p w ok := h
  have h1 := (rAt_fst h0)
  simp only [show ∀ q : Addr, q.add 0 = q from fun q => by simp [Addr.add]]
  exact h1
theorem k_api_Mail_aw0 {w : World} {ok : Nat → Prop} {q : Addr} {x : S_api_Mail} {cs : List Value} (h : (rAw k_api_Mail q x cs).p w ok) : ∃ c, (rAw (kI .i64) (q.add 0) x.From c).p w ok ∧ c = (cs.drop 0).take 1 := by
  have h0 : (rAw (kP (kI .i64) (kP (kI .i64) kS)) q ((x.From, (x.To, x.Data))) cs).p w ok := h
  have hl : cs.length = 3 := k_api_Mail.len h.2.1
  have h1 := (rAw_fst h0)
  simp only [show ∀ q : Addr, q.add 0 = q from fun q => by simp [Addr.add]]
  refine ⟨_, h1, ?_⟩
  (try simp only [kP, kI, kB, kS, kL, kMap, Kd.scalar])
  all_goals (try (apply List.ext_getElem?; intro j; simp [List.getElem?_take, List.getElem?_drop]))
  all_goals (try (intros; (try split); (try omega); (try (rw [List.getElem?_eq_none (by omega)]))))
theorem k_api_Mail_at1 {w : World} {ok : Nat → Prop} {q : Addr} {x : S_api_Mail} (h : (rAt k_api_Mail q x).p w ok) : (rAt (kI .i64) (q.add 1) x.To).p w ok := by
  have h0 : (rAt (kP (kI .i64) (kP (kI .i64) kS)) q ((x.From, (x.To, x.Data)))).p w ok := h
  have h1 := (rAt_fst (rAt_snd h0))
  simp only [add_add, kP, kI, kB, kS, kL, Kd.scalar] at h1
  exact h1
theorem k_api_Mail_aw1 {w : World} {ok : Nat → Prop} {q : Addr} {x : S_api_Mail} {cs : List Value} (h : (rAw k_api_Mail q x cs).p w ok) : ∃ c, (rAw (kI .i64) (q.add 1) x.To c).p w ok ∧ c = (cs.drop 1).take 1 := by
  have h0 : (rAw (kP (kI .i64) (kP (kI .i64) kS)) q ((x.From, (x.To, x.Data))) cs).p w ok := h
  have hl : cs.length = 3 := k_api_Mail.len h.2.1
  have h1 := (rAw_fst (rAw_snd h0))
  simp only [add_add, kP, kI, kB, kS, kL, kMap, Kd.scalar] at h1
  refine ⟨_, h1, ?_⟩
  (try simp only [kP, kI, kB, kS, kL, kMap, Kd.scalar])
  all_goals (try (apply List.ext_getElem?; intro j; simp [List.getElem?_take, List.getElem?_drop]))
  all_goals (try (intros; (try split); (try omega); (try (rw [List.getElem?_eq_none (by omega)]))))
theorem k_api_Mail_at2 {w : World} {ok : Nat → Prop} {q : Addr} {x : S_api_Mail} (h : (rAt k_api_Mail q x).p w ok) : (rAt kS (q.add 2) x.Data).p w ok := by
  have h0 : (rAt (kP (kI .i64) (kP (kI .i64) kS)) q ((x.From, (x.To, x.Data)))).p w ok := h
  have h1 := (rAt_snd (rAt_snd h0))
  simp only [add_add, kP, kI, kB, kS, kL, Kd.scalar] at h1
  exact h1
theorem k_api_Mail_aw2 {w : World} {ok : Nat → Prop} {q : Addr} {x : S_api_Mail} {cs : List Value} (h : (rAw k_api_Mail q x cs).p w ok) : ∃ c, (rAw kS (q.add 2) x.Data c).p w ok ∧ c = (cs.drop 2).take 1 := by
  have h0 : (rAw (kP (kI .i64) (kP (kI .i64) kS)) q ((x.From, (x.To, x.Data))) cs).p w ok := h
  have hl : cs.length = 3 := k_api_Mail.len h.2.1
  have h1 := (rAw_snd (rAw_snd h0))
  simp only [add_add, kP, kI, kB, kS, kL, kMap, Kd.scalar] at h1
  refine ⟨_, h1, ?_⟩
  (try simp only [kP, kI, kB, kS, kL, kMap, Kd.scalar])
  all_goals (try (apply List.ext_getElem?; intro j; simp [List.getElem?_take, List.getElem?_drop]))
  all_goals (try (intros; (try split); (try omega); (try (rw [List.getElem?_eq_none (by omega)]))))
structure S_cantonlaw19_Op where
  What : Int
  M : S_api_Mail
  At : Int
  deriving DecidableEq, Inhabited
def k_cantonlaw19_Op : Kd S_cantonlaw19_Op := kMap (kP (kI .i64) (kP k_api_Mail (kI .i64))) fun x => (x.What, (x.M, x.At))
theorem k_cantonlaw19_Op_open {w : World} {ok : Nat → Prop} {x : S_cantonlaw19_Op} {cs : List Value} (h : k_cantonlaw19_Op.R w ok x cs) : cs = [.int .i64 x.What, .int .i64 x.M.From, .int .i64 x.M.To, .string x.M.Data, .int .i64 x.At] := by
  obtain ⟨c0, d0, rfl, h0, c1, d1, rfl, h1, h2⟩ := h
  have e0 : c0 = [.int .i64 x.What] := h0
  subst e0
  obtain ⟨rfl⟩ := k_api_Mail_open h1
  have e2 : d1 = [.int .i64 x.At] := h2
  subst e2
  rfl
theorem k_cantonlaw19_Op_mk {w : World} {ok : Nat → Prop} {x : S_cantonlaw19_Op}   : k_cantonlaw19_Op.R w ok x [.int .i64 x.What, .int .i64 x.M.From, .int .i64 x.M.To, .string x.M.Data, .int .i64 x.At] := ⟨[.int .i64 x.What], _, rfl, rfl, ⟨[.int .i64 x.M.From, .int .i64 x.M.To, .string x.M.Data], _, rfl, k_api_Mail_mk, rfl⟩⟩
theorem k_cantonlaw19_Op_at0 {w : World} {ok : Nat → Prop} {q : Addr} {x : S_cantonlaw19_Op} (h : (rAt k_cantonlaw19_Op q x).p w ok) : (rAt (kI .i64) (q.add 0) x.What).p w ok := by
  have h0 : (rAt (kP (kI .i64) (kP k_api_Mail (kI .i64))) q ((x.What, (x.M, x.At)))).p w ok := h
  have h1 := (rAt_fst h0)
  simp only [show ∀ q : Addr, q.add 0 = q from fun q => by simp [Addr.add]]
  exact h1
theorem k_cantonlaw19_Op_aw0 {w : World} {ok : Nat → Prop} {q : Addr} {x : S_cantonlaw19_Op} {cs : List Value} (h : (rAw k_cantonlaw19_Op q x cs).p w ok) : ∃ c, (rAw (kI .i64) (q.add 0) x.What c).p w ok ∧ c = (cs.drop 0).take 1 := by
  have h0 : (rAw (kP (kI .i64) (kP k_api_Mail (kI .i64))) q ((x.What, (x.M, x.At))) cs).p w ok := h
  have hl : cs.length = 5 := k_cantonlaw19_Op.len h.2.1
  have h1 := (rAw_fst h0)
  simp only [show ∀ q : Addr, q.add 0 = q from fun q => by simp [Addr.add]]
  refine ⟨_, h1, ?_⟩
  (try simp only [kP, kI, kB, kS, kL, kMap, Kd.scalar, k_api_Mail])
  all_goals (try (apply List.ext_getElem?; intro j; simp [List.getElem?_take, List.getElem?_drop]))
  all_goals (try (intros; (try split); (try omega); (try (rw [List.getElem?_eq_none (by omega)]))))
theorem k_cantonlaw19_Op_at1 {w : World} {ok : Nat → Prop} {q : Addr} {x : S_cantonlaw19_Op} (h : (rAt k_cantonlaw19_Op q x).p w ok) : (rAt k_api_Mail (q.add 1) x.M).p w ok := by
  have h0 : (rAt (kP (kI .i64) (kP k_api_Mail (kI .i64))) q ((x.What, (x.M, x.At)))).p w ok := h
  have h1 := (rAt_fst (rAt_snd h0))
  simp only [add_add, kP, kI, kB, kS, kL, Kd.scalar, k_api_Mail] at h1
  exact h1
theorem k_cantonlaw19_Op_aw1 {w : World} {ok : Nat → Prop} {q : Addr} {x : S_cantonlaw19_Op} {cs : List Value} (h : (rAw k_cantonlaw19_Op q x cs).p w ok) : ∃ c, (rAw k_api_Mail (q.add 1) x.M c).p w ok ∧ c = (cs.drop 1).take 3 := by
  have h0 : (rAw (kP (kI .i64) (kP k_api_Mail (kI .i64))) q ((x.What, (x.M, x.At))) cs).p w ok := h
  have hl : cs.length = 5 := k_cantonlaw19_Op.len h.2.1
  have h1 := (rAw_fst (rAw_snd h0))
  simp only [add_add, kP, kI, kB, kS, kL, kMap, Kd.scalar, k_api_Mail] at h1
  refine ⟨_, h1, ?_⟩
  (try simp only [kP, kI, kB, kS, kL, kMap, Kd.scalar, k_api_Mail])
  all_goals (try (apply List.ext_getElem?; intro j; simp [List.getElem?_take, List.getElem?_drop]))
  all_goals (try (intros; (try split); (try omega); (try (rw [List.getElem?_eq_none (by omega)]))))
theorem k_cantonlaw19_Op_at2 {w : World} {ok : Nat → Prop} {q : Addr} {x : S_cantonlaw19_Op} (h : (rAt k_cantonlaw19_Op q x).p w ok) : (rAt (kI .i64) (q.add 4) x.At).p w ok := by
  have h0 : (rAt (kP (kI .i64) (kP k_api_Mail (kI .i64))) q ((x.What, (x.M, x.At)))).p w ok := h
  have h1 := (rAt_snd (rAt_snd h0))
  simp only [add_add, kP, kI, kB, kS, kL, Kd.scalar, k_api_Mail] at h1
  exact h1
theorem k_cantonlaw19_Op_aw2 {w : World} {ok : Nat → Prop} {q : Addr} {x : S_cantonlaw19_Op} {cs : List Value} (h : (rAw k_cantonlaw19_Op q x cs).p w ok) : ∃ c, (rAw (kI .i64) (q.add 4) x.At c).p w ok ∧ c = (cs.drop 4).take 1 := by
  have h0 : (rAw (kP (kI .i64) (kP k_api_Mail (kI .i64))) q ((x.What, (x.M, x.At))) cs).p w ok := h
  have hl : cs.length = 5 := k_cantonlaw19_Op.len h.2.1
  have h1 := (rAw_snd (rAw_snd h0))
  simp only [add_add, kP, kI, kB, kS, kL, kMap, Kd.scalar, k_api_Mail] at h1
  refine ⟨_, h1, ?_⟩
  (try simp only [kP, kI, kB, kS, kL, kMap, Kd.scalar, k_api_Mail])
  all_goals (try (apply List.ext_getElem?; intro j; simp [List.getElem?_take, List.getElem?_drop]))
  all_goals (try (intros; (try split); (try omega); (try (rw [List.getElem?_eq_none (by omega)]))))
theorem cf14 : ∀ (w : World) (args : Array Value), (callFunc 14 args).run Try.prog w = .ok (.enter 14 args) w := fun _ args => cf_of Try.func14 (by kernel_rfl) (by kernel_rfl) args
theorem cf15 : ∀ (w : World) (args : Array Value), (callFunc 15 args).run Try.prog w = .ok (.enter 15 args) w := fun _ args => cf_of Try.func15 (by kernel_rfl) (by kernel_rfl) args
theorem cf23 : ∀ (w : World) (args : Array Value), (callFunc 23 args).run Try.prog w = .ok (.enter 23 args) w := fun _ args => cf_of Try.func23 (by kernel_rfl) (by kernel_rfl) args
theorem cf19 : ∀ (w : World) (args : Array Value), (callFunc 19 args).run Try.prog w = .ok (.enter 19 args) w := fun _ args => cf_of Try.func19 (by kernel_rfl) (by kernel_rfl) args
theorem cf17 : ∀ (w : World) (args : Array Value), (callFunc 17 args).run Try.prog w = .ok (.enter 17 args) w := fun _ args => cf_of Try.func17 (by kernel_rfl) (by kernel_rfl) args
theorem sz32 : (Try.prog.info? 32).map (·.size) = some 3 := by kernel_rfl
theorem cf27 : ∀ (w : World) (args : Array Value), (callFunc 27 args).run Try.prog w = .ok (.enter 27 args) w := fun _ args => cf_of Try.func27 (by kernel_rfl) (by kernel_rfl) args
theorem cf21 : ∀ (w : World) (args : Array Value), (callFunc 21 args).run Try.prog w = .ok (.enter 21 args) w := fun _ args => cf_of Try.func21 (by kernel_rfl) (by kernel_rfl) args
theorem fa32_2 : ∀ (w : World) (q : Addr), (Instr.fieldAt 32 (.pointer (some q)) 2).run Try.prog w = .ok (.pointer (some (q.add 2))) w := fun w q => by kernel_rfl
theorem fa32_1 : ∀ (w : World) (q : Addr), (Instr.fieldAt 32 (.pointer (some q)) 1).run Try.prog w = .ok (.pointer (some (q.add 1))) w := fun w q => by kernel_rfl
theorem cf25 : ∀ (w : World) (args : Array Value), (callFunc 25 args).run Try.prog w = .ok (.enter 25 args) w := fun _ args => cf_of Try.func25 (by kernel_rfl) (by kernel_rfl) args
theorem cf16 : ∀ (w : World) (args : Array Value), (callFunc 16 args).run Try.prog w = .ok (.enter 16 args) w := fun _ args => cf_of Try.func16 (by kernel_rfl) (by kernel_rfl) args
theorem sz34 : (Try.prog.info? 34).map (·.size) = some 5 := by kernel_rfl
theorem fa34_1 : ∀ (w : World) (q : Addr), (Instr.fieldAt 34 (.pointer (some q)) 1).run Try.prog w = .ok (.pointer (some (q.add 1))) w := fun w q => by kernel_rfl
theorem fa34_0 : ∀ (w : World) (q : Addr), (Instr.fieldAt 34 (.pointer (some q)) 0).run Try.prog w = .ok (.pointer (some (q.add 0))) w := fun w q => by kernel_rfl
theorem fa34_2 : ∀ (w : World) (q : Addr), (Instr.fieldAt 34 (.pointer (some q)) 2).run Try.prog w = .ok (.pointer (some (q.add 4))) w := fun w q => by kernel_rfl
theorem cf18 : ∀ (w : World) (args : Array Value), (callFunc 18 args).run Try.prog w = .ok (.enter 18 args) w := fun _ args => cf_of Try.func18 (by kernel_rfl) (by kernel_rfl) args
theorem fa29_0 : ∀ (w : World) (q : Addr), (Instr.fieldAt 29 (.pointer (some q)) 0).run Try.prog w = .ok (.pointer (some (q.add 0))) w := fun w q => by kernel_rfl
theorem inf32 : (Try.prog.info? 32).map (fun i => (i.zero, i.size, i.bytes)) = some (some (.agg #[.int .i64 0, .int .i64 0, .string ⟨#[]⟩]), 3, 32) := by kernel_rfl
theorem sz27 : (Try.prog.info? 27).map (·.size) = some 1 := by kernel_rfl
theorem mixedOk : Try.prog.follows .mixedOrders = true := by kernel_rfl
theorem sih32 : Try.prog.stoodInHeld 32 = false := by kernel_rfl
theorem egt32 : Try.prog.eqGuardType Try.prog.depth 32 = false := by kernel_rfl
theorem cf20 : ∀ (w : World) (args : Array Value), (callFunc 20 args).run Try.prog w = .ok (.enter 20 args) w := fun _ args => cf_of Try.func20 (by kernel_rfl) (by kernel_rfl) args
theorem cf22 : ∀ (w : World) (args : Array Value), (callFunc 22 args).run Try.prog w = .ok (.enter 22 args) w := fun _ args => cf_of Try.func22 (by kernel_rfl) (by kernel_rfl) args
theorem cf24 : ∀ (w : World) (args : Array Value), (callFunc 24 args).run Try.prog w = .ok (.enter 24 args) w := fun _ args => cf_of Try.func24 (by kernel_rfl) (by kernel_rfl) args
theorem cf26 : ∀ (w : World) (args : Array Value), (callFunc 26 args).run Try.prog w = .ok (.enter 26 args) w := fun _ args => cf_of Try.func26 (by kernel_rfl) (by kernel_rfl) args
end Go.Cb
