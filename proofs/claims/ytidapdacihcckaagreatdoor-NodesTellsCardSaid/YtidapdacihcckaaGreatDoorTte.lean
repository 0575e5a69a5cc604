/- The types of the program and the small facts that the walks use. -/
import Derived.Test.YtidapdacihcckaaGreatDoorB25te
import Derived.Test.YtidapdacihcckaaGreatDoorProg
set_option linter.unusedVariables false
set_option linter.unusedSimpArgs false
namespace Go.Cb
open Go.Proofs Go.RowKit
structure S_api_Node where
  Path : ByteArray
  Data : ByteArray
  Version : Int
  Turn : Int
  Owner : Int
  deriving DecidableEq, Inhabited
def k_api_Node : Kd S_api_Node := kMap (kP kS (kP kS (kP (kI .i64) (kP (kI .i64) (kI .i64))))) fun x => (x.Path, (x.Data, (x.Version, (x.Turn, x.Owner))))
theorem k_api_Node_open {w : World} {ok : Nat → Prop} {x : S_api_Node} {cs : List Value} (h : k_api_Node.R w ok x cs) : cs = [.string x.Path, .string x.Data, .int .i64 x.Version, .int .i64 x.Turn, .int .i64 x.Owner] := by
  obtain ⟨c0, d0, rfl, h0, c1, d1, rfl, h1, c2, d2, rfl, h2, c3, d3, rfl, h3, h4⟩ := h
  have e0 : c0 = [.string x.Path] := h0
  subst e0
  have e1 : c1 = [.string x.Data] := h1
  subst e1
  have e2 : c2 = [.int .i64 x.Version] := h2
  subst e2
  have e3 : c3 = [.int .i64 x.Turn] := h3
  subst e3
  have e4 : d3 = [.int .i64 x.Owner] := h4
  subst e4
  rfl
theorem k_api_Node_mk {w : World} {ok : Nat → Prop} {x : S_api_Node}   : k_api_Node.R w ok x [.string x.Path, .string x.Data, .int .i64 x.Version, .int .i64 x.Turn, .int .i64 x.Owner] := ⟨[.string x.Path], _, rfl, rfl, ⟨[.string x.Data], _, rfl, rfl, ⟨[.int .i64 x.Version], _, rfl, rfl, ⟨[.int .i64 x.Turn], _, rfl, rfl, rfl⟩⟩⟩⟩
theorem k_api_Node_at0 {w : World} {ok : Nat → Prop} {q : Addr} {x : S_api_Node} (h : (rAt k_api_Node q x).p w ok) : (rAt kS (q.add 0) x.Path).p w ok := by
  have h0 : (rAt (kP kS (kP kS (kP (kI .i64) (kP (kI .i64) (kI .i64))))) q ((x.Path, (x.Data, (x.Version, (x.Turn, x.Owner)))))).p w ok := h
  have h1 := (rAt_fst h0)
  simp only [show ∀ q : Addr, q.add 0 = q from fun q => by simp [Addr.add]]
  exact h1
theorem k_api_Node_aw0 {w : World} {ok : Nat → Prop} {q : Addr} {x : S_api_Node} {cs : List Value} (h : (rAw k_api_Node q x cs).p w ok) : ∃ c, (rAw kS (q.add 0) x.Path c).p w ok ∧ c = (cs.drop 0).take 1 := by
  have h0 : (rAw (kP kS (kP kS (kP (kI .i64) (kP (kI .i64) (kI .i64))))) q ((x.Path, (x.Data, (x.Version, (x.Turn, x.Owner))))) cs).p w ok := h
  have hl : cs.length = 5 := k_api_Node.len h.2.1
  have h1 := (rAw_fst h0)
  simp only [show ∀ q : Addr, q.add 0 = q from fun q => by simp [Addr.add]]
  refine ⟨_, h1, ?_⟩
  (try simp only [kP, kI, kB, kS, kL, kMap, Kd.scalar])
  all_goals (try (apply List.ext_getElem?; intro j; simp [List.getElem?_take, List.getElem?_drop]))
  all_goals (try (intros; (try split); (try omega); (try (rw [List.getElem?_eq_none (by omega)]))))
theorem k_api_Node_aw1 {w : World} {ok : Nat → Prop} {q : Addr} {x : S_api_Node} {cs : List Value} (h : (rAw k_api_Node q x cs).p w ok) : ∃ c, (rAw kS (q.add 1) x.Data c).p w ok ∧ c = (cs.drop 1).take 1 := by
  have h0 : (rAw (kP kS (kP kS (kP (kI .i64) (kP (kI .i64) (kI .i64))))) q ((x.Path, (x.Data, (x.Version, (x.Turn, x.Owner))))) cs).p w ok := h
  have hl : cs.length = 5 := k_api_Node.len h.2.1
  have h1 := (rAw_fst (rAw_snd h0))
  simp only [add_add, kP, kI, kB, kS, kL, kMap, Kd.scalar] at h1
  refine ⟨_, h1, ?_⟩
  (try simp only [kP, kI, kB, kS, kL, kMap, Kd.scalar])
  all_goals (try (apply List.ext_getElem?; intro j; simp [List.getElem?_take, List.getElem?_drop]))
  all_goals (try (intros; (try split); (try omega); (try (rw [List.getElem?_eq_none (by omega)]))))
theorem k_api_Node_at2 {w : World} {ok : Nat → Prop} {q : Addr} {x : S_api_Node} (h : (rAt k_api_Node q x).p w ok) : (rAt (kI .i64) (q.add 2) x.Version).p w ok := by
  have h0 : (rAt (kP kS (kP kS (kP (kI .i64) (kP (kI .i64) (kI .i64))))) q ((x.Path, (x.Data, (x.Version, (x.Turn, x.Owner)))))).p w ok := h
  have h1 := (rAt_fst (rAt_snd (rAt_snd h0)))
  simp only [add_add, kP, kI, kB, kS, kL, Kd.scalar] at h1
  exact h1
theorem k_api_Node_aw2 {w : World} {ok : Nat → Prop} {q : Addr} {x : S_api_Node} {cs : List Value} (h : (rAw k_api_Node q x cs).p w ok) : ∃ c, (rAw (kI .i64) (q.add 2) x.Version c).p w ok ∧ c = (cs.drop 2).take 1 := by
  have h0 : (rAw (kP kS (kP kS (kP (kI .i64) (kP (kI .i64) (kI .i64))))) q ((x.Path, (x.Data, (x.Version, (x.Turn, x.Owner))))) cs).p w ok := h
  have hl : cs.length = 5 := k_api_Node.len h.2.1
  have h1 := (rAw_fst (rAw_snd (rAw_snd h0)))
  simp only [add_add, kP, kI, kB, kS, kL, kMap, Kd.scalar] at h1
  refine ⟨_, h1, ?_⟩
  (try simp only [kP, kI, kB, kS, kL, kMap, Kd.scalar])
  all_goals (try (apply List.ext_getElem?; intro j; simp [List.getElem?_take, List.getElem?_drop]))
  all_goals (try (intros; (try split); (try omega); (try (rw [List.getElem?_eq_none (by omega)]))))
theorem k_api_Node_at3 {w : World} {ok : Nat → Prop} {q : Addr} {x : S_api_Node} (h : (rAt k_api_Node q x).p w ok) : (rAt (kI .i64) (q.add 3) x.Turn).p w ok := by
  have h0 : (rAt (kP kS (kP kS (kP (kI .i64) (kP (kI .i64) (kI .i64))))) q ((x.Path, (x.Data, (x.Version, (x.Turn, x.Owner)))))).p w ok := h
  have h1 := (rAt_fst (rAt_snd (rAt_snd (rAt_snd h0))))
  simp only [add_add, kP, kI, kB, kS, kL, Kd.scalar] at h1
  exact h1
theorem k_api_Node_aw3 {w : World} {ok : Nat → Prop} {q : Addr} {x : S_api_Node} {cs : List Value} (h : (rAw k_api_Node q x cs).p w ok) : ∃ c, (rAw (kI .i64) (q.add 3) x.Turn c).p w ok ∧ c = (cs.drop 3).take 1 := by
  have h0 : (rAw (kP kS (kP kS (kP (kI .i64) (kP (kI .i64) (kI .i64))))) q ((x.Path, (x.Data, (x.Version, (x.Turn, x.Owner))))) cs).p w ok := h
  have hl : cs.length = 5 := k_api_Node.len h.2.1
  have h1 := (rAw_fst (rAw_snd (rAw_snd (rAw_snd h0))))
  simp only [add_add, kP, kI, kB, kS, kL, kMap, Kd.scalar] at h1
  refine ⟨_, h1, ?_⟩
  (try simp only [kP, kI, kB, kS, kL, kMap, Kd.scalar])
  all_goals (try (apply List.ext_getElem?; intro j; simp [List.getElem?_take, List.getElem?_drop]))
  all_goals (try (intros; (try split); (try omega); (try (rw [List.getElem?_eq_none (by omega)]))))
theorem k_api_Node_at4 {w : World} {ok : Nat → Prop} {q : Addr} {x : S_api_Node} (h : (rAt k_api_Node q x).p w ok) : (rAt (kI .i64) (q.add 4) x.Owner).p w ok := by
  have h0 : (rAt (kP kS (kP kS (kP (kI .i64) (kP (kI .i64) (kI .i64))))) q ((x.Path, (x.Data, (x.Version, (x.Turn, x.Owner)))))).p w ok := h
  have h1 := (rAt_snd (rAt_snd (rAt_snd (rAt_snd h0))))
  simp only [add_add, kP, kI, kB, kS, kL, Kd.scalar] at h1
  exact h1
theorem k_api_Node_aw4 {w : World} {ok : Nat → Prop} {q : Addr} {x : S_api_Node} {cs : List Value} (h : (rAw k_api_Node q x cs).p w ok) : ∃ c, (rAw (kI .i64) (q.add 4) x.Owner c).p w ok ∧ c = (cs.drop 4).take 1 := by
  have h0 : (rAw (kP kS (kP kS (kP (kI .i64) (kP (kI .i64) (kI .i64))))) q ((x.Path, (x.Data, (x.Version, (x.Turn, x.Owner))))) cs).p w ok := h
  have hl : cs.length = 5 := k_api_Node.len h.2.1
  have h1 := (rAw_snd (rAw_snd (rAw_snd (rAw_snd h0))))
  simp only [add_add, kP, kI, kB, kS, kL, kMap, Kd.scalar] at h1
  refine ⟨_, h1, ?_⟩
  (try simp only [kP, kI, kB, kS, kL, kMap, Kd.scalar])
  all_goals (try (apply List.ext_getElem?; intro j; simp [List.getElem?_take, List.getElem?_drop]))
  all_goals (try (intros; (try split); (try omega); (try (rw [List.getElem?_eq_none (by omega)]))))
structure S_api_Op where
  Kind : Int
  Path : ByteArray
  Data : ByteArray
  Version : Int
  Owner : Int
  Turns : Bool
  deriving DecidableEq, Inhabited
def k_api_Op : Kd S_api_Op := kMap (kP (kI .i64) (kP kS (kP kS (kP (kI .i64) (kP (kI .i64) kB))))) fun x => (x.Kind, (x.Path, (x.Data, (x.Version, (x.Owner, x.Turns)))))
theorem k_api_Op_open {w : World} {ok : Nat → Prop} {x : S_api_Op} {cs : List Value} (h : k_api_Op.R w ok x cs) : cs = [.int .i64 x.Kind, .string x.Path, .string x.Data, .int .i64 x.Version, .int .i64 x.Owner, .bool x.Turns] := by
  obtain ⟨c0, d0, rfl, h0, c1, d1, rfl, h1, c2, d2, rfl, h2, c3, d3, rfl, h3, c4, d4, rfl, h4, h5⟩ := h
  have e0 : c0 = [.int .i64 x.Kind] := h0
  subst e0
  have e1 : c1 = [.string x.Path] := h1
  subst e1
  have e2 : c2 = [.string x.Data] := h2
  subst e2
  have e3 : c3 = [.int .i64 x.Version] := h3
  subst e3
  have e4 : c4 = [.int .i64 x.Owner] := h4
  subst e4
  have e5 : d4 = [.bool x.Turns] := h5
  subst e5
  rfl
structure S_api_Result where
  Err : Int
  Path : ByteArray
  Data : ByteArray
  Version : Int
  Names : (List ByteArray)
  deriving DecidableEq, Inhabited
def k_api_Result : Kd S_api_Result := kMap (kP (kI .i64) (kP kS (kP kS (kP (kI .i64) (kL kS))))) fun x => (x.Err, (x.Path, (x.Data, (x.Version, x.Names))))
def k_api_Node_flat : Flat k_api_Node := ⟨fun x => [.string x.Path, .string x.Data, .int .i64 x.Version, .int .i64 x.Turn, .int .i64 x.Owner], k_api_Node_open, k_api_Node_mk⟩
theorem cf4 : ∀ (w : World) (args : Array Value), (callFunc 4 args).run Tryz.prog w = .ok (.enter 4 args) w := fun _ args => cf_of Tryz.func4 (by kernel_rfl) (by kernel_rfl) args
theorem cf17 : ∀ (w : World) (args : Array Value), (callFunc 17 args).run Tryz.prog w = .ok (.enter 17 args) w := fun _ args => cf_of Tryz.func17 (by kernel_rfl) (by kernel_rfl) args
theorem cf7 : ∀ (w : World) (args : Array Value), (callFunc 7 args).run Tryz.prog w = .ok (.enter 7 args) w := fun _ args => cf_of Tryz.func7 (by kernel_rfl) (by kernel_rfl) args
theorem cf11 : ∀ (w : World) (args : Array Value), (callFunc 11 args).run Tryz.prog w = .ok (.enter 11 args) w := fun _ args => cf_of Tryz.func11 (by kernel_rfl) (by kernel_rfl) args
theorem sz35 : (Tryz.prog.info? 35).map (·.size) = some 5 := by kernel_rfl
theorem fa35_0 : ∀ (w : World) (q : Addr), (Instr.fieldAt 35 (.pointer (some q)) 0).run Tryz.prog w = .ok (.pointer (some (q.add 0))) w := fun w q => by kernel_rfl
theorem fa35_4 : ∀ (w : World) (q : Addr), (Instr.fieldAt 35 (.pointer (some q)) 4).run Tryz.prog w = .ok (.pointer (some (q.add 4))) w := fun w q => by kernel_rfl
theorem cf34 : ∀ (w : World) (args : Array Value), (callFunc 34 args).run Tryz.prog w = .ok (.enter 34 args) w := fun _ args => cf_of Tryz.func34 (by kernel_rfl) (by kernel_rfl) args
theorem cf57 : ∀ (w : World) (args : Array Value), (callFunc 57 args).run Tryz.prog w = .ok (.enter 57 args) w := fun _ args => cf_of Tryz.func57 (by kernel_rfl) (by kernel_rfl) args
theorem cf37 : ∀ (w : World) (args : Array Value), (callFunc 37 args).run Tryz.prog w = .ok (.enter 37 args) w := fun _ args => cf_of Tryz.func37 (by kernel_rfl) (by kernel_rfl) args
theorem cf59 : ∀ (w : World) (args : Array Value), (callFunc 59 args).run Tryz.prog w = .ok (.enter 59 args) w := fun _ args => cf_of Tryz.func59 (by kernel_rfl) (by kernel_rfl) args
theorem cf70 : ∀ (w : World) (args : Array Value), (callFunc 70 args).run Tryz.prog w = .ok (.enter 70 args) w := fun _ args => cf_of Tryz.func70 (by kernel_rfl) (by kernel_rfl) args
theorem cf80 : ∀ (w : World) (args : Array Value), (callFunc 80 args).run Tryz.prog w = .ok (.enter 80 args) w := fun _ args => cf_of Tryz.func80 (by kernel_rfl) (by kernel_rfl) args
theorem cf88 : ∀ (w : World) (args : Array Value), (callFunc 88 args).run Tryz.prog w = .ok (.enter 88 args) w := fun _ args => cf_of Tryz.func88 (by kernel_rfl) (by kernel_rfl) args
theorem cf71 : ∀ (w : World) (args : Array Value), (callFunc 71 args).run Tryz.prog w = .ok (.enter 71 args) w := fun _ args => cf_of Tryz.func71 (by kernel_rfl) (by kernel_rfl) args
theorem cf81 : ∀ (w : World) (args : Array Value), (callFunc 81 args).run Tryz.prog w = .ok (.enter 81 args) w := fun _ args => cf_of Tryz.func81 (by kernel_rfl) (by kernel_rfl) args
theorem ext89 : ∀ (w : World) (s : ByteArray) (c : Int), (callFunc 89 #[.string s, .int .u8 c]).run Tryz.prog w = .ok (.value (.int .i64 (ixB s c))) w := fun w s c => ext_of Tryz.func89 (by kernel_rfl) (by kernel_rfl) (by kernel_rfl) (e := Extern.BytealgIndexByte.indexByte) (by kernel_rfl) (run_ixB s c w)
theorem cf61 : ∀ (w : World) (args : Array Value), (callFunc 61 args).run Tryz.prog w = .ok (.enter 61 args) w := fun _ args => cf_of Tryz.func61 (by kernel_rfl) (by kernel_rfl) args
theorem cf73 : ∀ (w : World) (args : Array Value), (callFunc 73 args).run Tryz.prog w = .ok (.enter 73 args) w := fun _ args => cf_of Tryz.func73 (by kernel_rfl) (by kernel_rfl) args
theorem cf83 : ∀ (w : World) (args : Array Value), (callFunc 83 args).run Tryz.prog w = .ok (.enter 83 args) w := fun _ args => cf_of Tryz.func83 (by kernel_rfl) (by kernel_rfl) args
theorem cf94 : ∀ (w : World) (args : Array Value), (callFunc 94 args).run Tryz.prog w = .ok (.enter 94 args) w := fun _ args => cf_of Tryz.func94 (by kernel_rfl) (by kernel_rfl) args
theorem cf74 : ∀ (w : World) (args : Array Value), (callFunc 74 args).run Tryz.prog w = .ok (.enter 74 args) w := fun _ args => cf_of Tryz.func74 (by kernel_rfl) (by kernel_rfl) args
theorem cf75 : ∀ (w : World) (args : Array Value), (callFunc 75 args).run Tryz.prog w = .ok (.enter 75 args) w := fun _ args => cf_of Tryz.func75 (by kernel_rfl) (by kernel_rfl) args
theorem cf84 : ∀ (w : World) (args : Array Value), (callFunc 84 args).run Tryz.prog w = .ok (.enter 84 args) w := fun _ args => cf_of Tryz.func84 (by kernel_rfl) (by kernel_rfl) args
theorem cf95 : ∀ (w : World) (args : Array Value), (callFunc 95 args).run Tryz.prog w = .ok (.enter 95 args) w := fun _ args => cf_of Tryz.func95 (by kernel_rfl) (by kernel_rfl) args
theorem mixedOk : Tryz.prog.follows .mixedOrders = true := by kernel_rfl
theorem inf9 : (Tryz.prog.info? 9).map (fun i => (i.zero, i.size, i.bytes)) = some (some (.string ⟨#[]⟩), 1, 16) := by kernel_rfl
theorem cf69 : ∀ (w : World) (args : Array Value), (callFunc 69 args).run Tryz.prog w = .ok (.enter 69 args) w := fun _ args => cf_of Tryz.func69 (by kernel_rfl) (by kernel_rfl) args
theorem cf79 : ∀ (w : World) (args : Array Value), (callFunc 79 args).run Tryz.prog w = .ok (.enter 79 args) w := fun _ args => cf_of Tryz.func79 (by kernel_rfl) (by kernel_rfl) args
theorem cf35 : ∀ (w : World) (args : Array Value), (callFunc 35 args).run Tryz.prog w = .ok (.enter 35 args) w := fun _ args => cf_of Tryz.func35 (by kernel_rfl) (by kernel_rfl) args
theorem fa35_1 : ∀ (w : World) (q : Addr), (Instr.fieldAt 35 (.pointer (some q)) 1).run Tryz.prog w = .ok (.pointer (some (q.add 1))) w := fun w q => by kernel_rfl
theorem fa35_2 : ∀ (w : World) (q : Addr), (Instr.fieldAt 35 (.pointer (some q)) 2).run Tryz.prog w = .ok (.pointer (some (q.add 2))) w := fun w q => by kernel_rfl
theorem cf38 : ∀ (w : World) (args : Array Value), (callFunc 38 args).run Tryz.prog w = .ok (.enter 38 args) w := fun _ args => cf_of Tryz.func38 (by kernel_rfl) (by kernel_rfl) args
theorem fa35_3 : ∀ (w : World) (q : Addr), (Instr.fieldAt 35 (.pointer (some q)) 3).run Tryz.prog w = .ok (.pointer (some (q.add 3))) w := fun w q => by kernel_rfl
theorem zer3 : (Tryz.prog.info? 3).bind (·.zero) = some (.int .i64 0) := by kernel_rfl
theorem sz24 : (Tryz.prog.info? 24).map (·.size) = some 6 := by kernel_rfl
theorem cf13 : ∀ (w : World) (args : Array Value), (callFunc 13 args).run Tryz.prog w = .ok (.enter 13 args) w := fun _ args => cf_of Tryz.func13 (by kernel_rfl) (by kernel_rfl) args
theorem fa24_0 : ∀ (w : World) (q : Addr), (Instr.fieldAt 24 (.pointer (some q)) 0).run Tryz.prog w = .ok (.pointer (some (q.add 0))) w := fun w q => by kernel_rfl
theorem fa24_1 : ∀ (w : World) (q : Addr), (Instr.fieldAt 24 (.pointer (some q)) 1).run Tryz.prog w = .ok (.pointer (some (q.add 1))) w := fun w q => by kernel_rfl
theorem fa24_2 : ∀ (w : World) (q : Addr), (Instr.fieldAt 24 (.pointer (some q)) 2).run Tryz.prog w = .ok (.pointer (some (q.add 2))) w := fun w q => by kernel_rfl
theorem fa24_4 : ∀ (w : World) (q : Addr), (Instr.fieldAt 24 (.pointer (some q)) 4).run Tryz.prog w = .ok (.pointer (some (q.add 4))) w := fun w q => by kernel_rfl
theorem fa24_3 : ∀ (w : World) (q : Addr), (Instr.fieldAt 24 (.pointer (some q)) 3).run Tryz.prog w = .ok (.pointer (some (q.add 3))) w := fun w q => by kernel_rfl
theorem fa24_5 : ∀ (w : World) (q : Addr), (Instr.fieldAt 24 (.pointer (some q)) 5).run Tryz.prog w = .ok (.pointer (some (q.add 5))) w := fun w q => by kernel_rfl
theorem cf39 : ∀ (w : World) (args : Array Value), (callFunc 39 args).run Tryz.prog w = .ok (.enter 39 args) w := fun _ args => cf_of Tryz.func39 (by kernel_rfl) (by kernel_rfl) args
theorem sz57 : (Tryz.prog.info? 57).map (·.size) = some 8 := by kernel_rfl
theorem sz3 : (Tryz.prog.info? 3).map (·.size) = some 1 := by kernel_rfl
theorem cf18 : ∀ (w : World) (args : Array Value), (callFunc 18 args).run Tryz.prog w = .ok (.enter 18 args) w := fun _ args => cf_of Tryz.func18 (by kernel_rfl) (by kernel_rfl) args
theorem sz31 : (Tryz.prog.info? 31).map (·.size) = some 5 := by kernel_rfl
theorem cf19 : ∀ (w : World) (args : Array Value), (callFunc 19 args).run Tryz.prog w = .ok (.enter 19 args) w := fun _ args => cf_of Tryz.func19 (by kernel_rfl) (by kernel_rfl) args
theorem cf20 : ∀ (w : World) (args : Array Value), (callFunc 20 args).run Tryz.prog w = .ok (.enter 20 args) w := fun _ args => cf_of Tryz.func20 (by kernel_rfl) (by kernel_rfl) args
theorem cf47 : ∀ (w : World) (args : Array Value), (callFunc 47 args).run Tryz.prog w = .ok (.enter 47 args) w := fun _ args => cf_of Tryz.func47 (by kernel_rfl) (by kernel_rfl) args
theorem cf48 : ∀ (w : World) (args : Array Value), (callFunc 48 args).run Tryz.prog w = .ok (.enter 48 args) w := fun _ args => cf_of Tryz.func48 (by kernel_rfl) (by kernel_rfl) args
theorem cf65 : ∀ (w : World) (args : Array Value), (callFunc 65 args).run Tryz.prog w = .ok (.enter 65 args) w := fun _ args => cf_of Tryz.func65 (by kernel_rfl) (by kernel_rfl) args
theorem cf78 : ∀ (w : World) (args : Array Value), (callFunc 78 args).run Tryz.prog w = .ok (.enter 78 args) w := fun _ args => cf_of Tryz.func78 (by kernel_rfl) (by kernel_rfl) args
theorem ext87 : ∀ (w : World) (s t : ByteArray), (callFunc 87 #[.string s, .string t]).run Tryz.prog w = .ok (.value (.int .i64 (Extern.BytealgCompare.cmp s t))) w := fun w s t => ext_of Tryz.func87 (by kernel_rfl) (by kernel_rfl) (by kernel_rfl) (e := Extern.BytealgCompare.compare) (by kernel_rfl) (run_cmpB s t w)
theorem cf43 : ∀ (w : World) (args : Array Value), (callFunc 43 args).run Tryz.prog w = .ok (.enter 43 args) w := fun _ args => cf_of Tryz.func43 (by kernel_rfl) (by kernel_rfl) args
theorem cf42 : ∀ (w : World) (args : Array Value), (callFunc 42 args).run Tryz.prog w = .ok (.enter 42 args) w := fun _ args => cf_of Tryz.func42 (by kernel_rfl) (by kernel_rfl) args
theorem cf60 : ∀ (w : World) (args : Array Value), (callFunc 60 args).run Tryz.prog w = .ok (.enter 60 args) w := fun _ args => cf_of Tryz.func60 (by kernel_rfl) (by kernel_rfl) args
theorem cf44 : ∀ (w : World) (args : Array Value), (callFunc 44 args).run Tryz.prog w = .ok (.enter 44 args) w := fun _ args => cf_of Tryz.func44 (by kernel_rfl) (by kernel_rfl) args
theorem cf62 : ∀ (w : World) (args : Array Value), (callFunc 62 args).run Tryz.prog w = .ok (.enter 62 args) w := fun _ args => cf_of Tryz.func62 (by kernel_rfl) (by kernel_rfl) args
theorem cf76 : ∀ (w : World) (args : Array Value), (callFunc 76 args).run Tryz.prog w = .ok (.enter 76 args) w := fun _ args => cf_of Tryz.func76 (by kernel_rfl) (by kernel_rfl) args
theorem cf85 : ∀ (w : World) (args : Array Value), (callFunc 85 args).run Tryz.prog w = .ok (.enter 85 args) w := fun _ args => cf_of Tryz.func85 (by kernel_rfl) (by kernel_rfl) args
theorem cf45 : ∀ (w : World) (args : Array Value), (callFunc 45 args).run Tryz.prog w = .ok (.enter 45 args) w := fun _ args => cf_of Tryz.func45 (by kernel_rfl) (by kernel_rfl) args
theorem inf35 : (Tryz.prog.info? 35).map (fun i => (i.zero, i.size, i.bytes)) = some (some (.agg #[.string ⟨#[]⟩, .string ⟨#[]⟩, .int .i64 0, .int .i64 0, .int .i64 0]), 5, 56) := by kernel_rfl
theorem lib_slices_Clone_api_Node_api_Node_rd {w : World} {os : List Ob} {rs : List Rp} {v : Value} {xs : List S_api_Node} (H : Sep w os rs) (hm : rSl k_api_Node v xs ∈ rs) (hl : xs.length ≤ LIM) :
    Calls Tryz.prog 45 [v].toArray w (Ret fun v' w' => Sep w' (Row 35 k_api_Node v' xs :: os) rs) := by
  obtain ⟨b, c, rfl⟩ := H.slform hm
  refine enter Tryz.func45 rfl Tryz.ntmps45 rfl fun a E => ?_
  simp only [enum, Nat.reduceAdd] at E
  refine wp_seq ?_
  refine wp_region_lit ?_
  refine st_val E (wn rfl) rfl rfl (x_assign E rfl rfl) ?_
  clear E; clear a; intro a E
  refine wpList_nil ?_
  refine q_then ?_
  refine wp_seq ?_
  refine wp_seq ?_
  refine wp_region_lit ?_
  refine st_val E (wn rfl) rfl rfl (x_move E rfl rfl) ?_
  clear E; clear a; intro a E
  refine st_val E (wn rfl) rfl rfl (x_slnil E rfl rfl rfl Tryz.underlying22) ?_
  clear E; clear a; intro a E
  refine wpList_nil ?_
  refine q_then ?_
  refine wp_if E rfl ?_ ?_
  · intro hb
    cases b with
    | some _ => cases hb
    | none =>
      obtain rfl := H.sl_none hm
      refine wp_seq ?_
      refine wp_region_lit ?_
      refine st_val E (wn rfl) rfl rfl (x_assign E rfl rfl) ?_
      clear E; clear a; intro a E
      refine wpList_nil ?_
      refine q_then ?_
      refine wp_ret ?_
      refine q_thenR ?_
      refine out1 E rfl rfl ?_
      exact H.nilRow 35 k_api_Node
  · intro hb
    refine wp_skip ?_
    refine q_then ?_
    refine wp_seq ?_
    refine wp_region_lit ?_
    refine st_bsO (e := 35) (d := k_api_Node) (cs := []) (xs := []) E H (wn rfl) rfl rfl (ps := []) (parts := []) rfl rfl (by kernel_rfl) rfl rfl (fun ok hr => Rows.nil _ _ _) ?_
    clear E H; clear a; clear w; intro v2 w a H E
    refine st_val E (wn rfl) rfl rfl (x_move E rfl rfl) ?_
    clear E; clear a; intro a E
    refine st_append (i := 0) E H (wn rfl) rfl rfl rfl rfl rfl rfl (src_rd hm) Tryz.underlying22 inf35 rfl (by simpa using hl) rfl ?_
    clear E H; clear a; clear w; intro v3 w a H E
    refine st_val E (wn rfl) rfl rfl (x_assign E rfl rfl) ?_
    clear E; clear a; intro a E
    refine wpList_nil ?_
    refine q_then ?_
    refine wp_ret ?_
    refine out1 E rfl rfl ?_
    exact H

theorem sz2 : (Tryz.prog.info? 2).map (·.size) = some 1 := by kernel_rfl
theorem cf46 : ∀ (w : World) (args : Array Value), (callFunc 46 args).run Tryz.prog w = .ok (.enter 46 args) w := fun _ args => cf_of Tryz.func46 (by kernel_rfl) (by kernel_rfl) args
theorem sz46 : (Tryz.prog.info? 46).map (·.size) = some 8 := by kernel_rfl
theorem sz45 : (Tryz.prog.info? 45).map (·.size) = some 1 := by kernel_rfl
theorem cf26 : ∀ (w : World) (args : Array Value), (callFunc 26 args).run Tryz.prog w = .ok (.enter 26 args) w := fun _ args => cf_of Tryz.func26 (by kernel_rfl) (by kernel_rfl) args
theorem sz9 : (Tryz.prog.info? 9).map (·.size) = some 1 := by kernel_rfl
theorem cf53 : ∀ (w : World) (args : Array Value), (callFunc 53 args).run Tryz.prog w = .ok (.enter 53 args) w := fun _ args => cf_of Tryz.func53 (by kernel_rfl) (by kernel_rfl) args
theorem cf32 : ∀ (w : World) (args : Array Value), (callFunc 32 args).run Tryz.prog w = .ok (.enter 32 args) w := fun _ args => cf_of Tryz.func32 (by kernel_rfl) (by kernel_rfl) args
theorem cf54 : ∀ (w : World) (args : Array Value), (callFunc 54 args).run Tryz.prog w = .ok (.enter 54 args) w := fun _ args => cf_of Tryz.func54 (by kernel_rfl) (by kernel_rfl) args
theorem cf51 : ∀ (w : World) (args : Array Value), (callFunc 51 args).run Tryz.prog w = .ok (.enter 51 args) w := fun _ args => cf_of Tryz.func51 (by kernel_rfl) (by kernel_rfl) args
theorem fa31_4 : ∀ (w : World) (q : Addr), (Instr.fieldAt 31 (.pointer (some q)) 4).run Tryz.prog w = .ok (.pointer (some (q.add 4))) w := fun w q => by kernel_rfl
theorem sz29 : (Tryz.prog.info? 29).map (·.size) = some 1 := by kernel_rfl
theorem zrw35 : (Tryz.prog.info? 35).bind (·.zero) = some (.agg #[.string ⟨#[]⟩, .string ⟨#[]⟩, .int .i64 0, .int .i64 0, .int .i64 0]) := by kernel_rfl
theorem cf25 : ∀ (w : World) (args : Array Value), (callFunc 25 args).run Tryz.prog w = .ok (.enter 25 args) w := fun _ args => cf_of Tryz.func25 (by kernel_rfl) (by kernel_rfl) args
theorem cf24 : ∀ (w : World) (args : Array Value), (callFunc 24 args).run Tryz.prog w = .ok (.enter 24 args) w := fun _ args => cf_of Tryz.func24 (by kernel_rfl) (by kernel_rfl) args
theorem cf23 : ∀ (w : World) (args : Array Value), (callFunc 23 args).run Tryz.prog w = .ok (.enter 23 args) w := fun _ args => cf_of Tryz.func23 (by kernel_rfl) (by kernel_rfl) args
theorem cf22 : ∀ (w : World) (args : Array Value), (callFunc 22 args).run Tryz.prog w = .ok (.enter 22 args) w := fun _ args => cf_of Tryz.func22 (by kernel_rfl) (by kernel_rfl) args
theorem cf21 : ∀ (w : World) (args : Array Value), (callFunc 21 args).run Tryz.prog w = .ok (.enter 21 args) w := fun _ args => cf_of Tryz.func21 (by kernel_rfl) (by kernel_rfl) args
theorem cf49 : ∀ (w : World) (args : Array Value), (callFunc 49 args).run Tryz.prog w = .ok (.enter 49 args) w := fun _ args => cf_of Tryz.func49 (by kernel_rfl) (by kernel_rfl) args
theorem cf50 : ∀ (w : World) (args : Array Value), (callFunc 50 args).run Tryz.prog w = .ok (.enter 50 args) w := fun _ args => cf_of Tryz.func50 (by kernel_rfl) (by kernel_rfl) args
theorem cf52 : ∀ (w : World) (args : Array Value), (callFunc 52 args).run Tryz.prog w = .ok (.enter 52 args) w := fun _ args => cf_of Tryz.func52 (by kernel_rfl) (by kernel_rfl) args
theorem cf9 : ∀ (w : World) (args : Array Value), (callFunc 9 args).run Tryz.prog w = .ok (.enter 9 args) w := fun _ args => cf_of Tryz.func9 (by kernel_rfl) (by kernel_rfl) args
theorem cf33 : ∀ (w : World) (args : Array Value), (callFunc 33 args).run Tryz.prog w = .ok (.enter 33 args) w := fun _ args => cf_of Tryz.func33 (by kernel_rfl) (by kernel_rfl) args
theorem fa31_1 : ∀ (w : World) (q : Addr), (Instr.fieldAt 31 (.pointer (some q)) 1).run Tryz.prog w = .ok (.pointer (some (q.add 1))) w := fun w q => by kernel_rfl
theorem fa31_0 : ∀ (w : World) (q : Addr), (Instr.fieldAt 31 (.pointer (some q)) 0).run Tryz.prog w = .ok (.pointer (some (q.add 0))) w := fun w q => by kernel_rfl
theorem fa31_3 : ∀ (w : World) (q : Addr), (Instr.fieldAt 31 (.pointer (some q)) 3).run Tryz.prog w = .ok (.pointer (some (q.add 3))) w := fun w q => by kernel_rfl
theorem cf5 : ∀ (w : World) (args : Array Value), (callFunc 5 args).run Tryz.prog w = .ok (.enter 5 args) w := fun _ args => cf_of Tryz.func5 (by kernel_rfl) (by kernel_rfl) args
theorem cf6 : ∀ (w : World) (args : Array Value), (callFunc 6 args).run Tryz.prog w = .ok (.enter 6 args) w := fun _ args => cf_of Tryz.func6 (by kernel_rfl) (by kernel_rfl) args
theorem cf8 : ∀ (w : World) (args : Array Value), (callFunc 8 args).run Tryz.prog w = .ok (.enter 8 args) w := fun _ args => cf_of Tryz.func8 (by kernel_rfl) (by kernel_rfl) args
theorem cf12 : ∀ (w : World) (args : Array Value), (callFunc 12 args).run Tryz.prog w = .ok (.enter 12 args) w := fun _ args => cf_of Tryz.func12 (by kernel_rfl) (by kernel_rfl) args
theorem cf36 : ∀ (w : World) (args : Array Value), (callFunc 36 args).run Tryz.prog w = .ok (.enter 36 args) w := fun _ args => cf_of Tryz.func36 (by kernel_rfl) (by kernel_rfl) args
theorem cf56 : ∀ (w : World) (args : Array Value), (callFunc 56 args).run Tryz.prog w = .ok (.enter 56 args) w := fun _ args => cf_of Tryz.func56 (by kernel_rfl) (by kernel_rfl) args
theorem cf68 : ∀ (w : World) (args : Array Value), (callFunc 68 args).run Tryz.prog w = .ok (.enter 68 args) w := fun _ args => cf_of Tryz.func68 (by kernel_rfl) (by kernel_rfl) args
theorem cf58 : ∀ (w : World) (args : Array Value), (callFunc 58 args).run Tryz.prog w = .ok (.enter 58 args) w := fun _ args => cf_of Tryz.func58 (by kernel_rfl) (by kernel_rfl) args
theorem cf10 : ∀ (w : World) (args : Array Value), (callFunc 10 args).run Tryz.prog w = .ok (.enter 10 args) w := fun _ args => cf_of Tryz.func10 (by kernel_rfl) (by kernel_rfl) args
theorem cf14 : ∀ (w : World) (args : Array Value), (callFunc 14 args).run Tryz.prog w = .ok (.enter 14 args) w := fun _ args => cf_of Tryz.func14 (by kernel_rfl) (by kernel_rfl) args
theorem cf40 : ∀ (w : World) (args : Array Value), (callFunc 40 args).run Tryz.prog w = .ok (.enter 40 args) w := fun _ args => cf_of Tryz.func40 (by kernel_rfl) (by kernel_rfl) args
theorem cf27 : ∀ (w : World) (args : Array Value), (callFunc 27 args).run Tryz.prog w = .ok (.enter 27 args) w := fun _ args => cf_of Tryz.func27 (by kernel_rfl) (by kernel_rfl) args
theorem cf55 : ∀ (w : World) (args : Array Value), (callFunc 55 args).run Tryz.prog w = .ok (.enter 55 args) w := fun _ args => cf_of Tryz.func55 (by kernel_rfl) (by kernel_rfl) args
theorem cf31 : ∀ (w : World) (args : Array Value), (callFunc 31 args).run Tryz.prog w = .ok (.enter 31 args) w := fun _ args => cf_of Tryz.func31 (by kernel_rfl) (by kernel_rfl) args
theorem cf66 : ∀ (w : World) (args : Array Value), (callFunc 66 args).run Tryz.prog w = .ok (.enter 66 args) w := fun _ args => cf_of Tryz.func66 (by kernel_rfl) (by kernel_rfl) args
theorem cf67 : ∀ (w : World) (args : Array Value), (callFunc 67 args).run Tryz.prog w = .ok (.enter 67 args) w := fun _ args => cf_of Tryz.func67 (by kernel_rfl) (by kernel_rfl) args
theorem cf30 : ∀ (w : World) (args : Array Value), (callFunc 30 args).run Tryz.prog w = .ok (.enter 30 args) w := fun _ args => cf_of Tryz.func30 (by kernel_rfl) (by kernel_rfl) args
theorem cf28 : ∀ (w : World) (args : Array Value), (callFunc 28 args).run Tryz.prog w = .ok (.enter 28 args) w := fun _ args => cf_of Tryz.func28 (by kernel_rfl) (by kernel_rfl) args
theorem cf29 : ∀ (w : World) (args : Array Value), (callFunc 29 args).run Tryz.prog w = .ok (.enter 29 args) w := fun _ args => cf_of Tryz.func29 (by kernel_rfl) (by kernel_rfl) args
theorem cf15 : ∀ (w : World) (args : Array Value), (callFunc 15 args).run Tryz.prog w = .ok (.enter 15 args) w := fun _ args => cf_of Tryz.func15 (by kernel_rfl) (by kernel_rfl) args
theorem sih35 : Tryz.prog.stoodInHeld 35 = false := by kernel_rfl
theorem egt35 : Tryz.prog.eqGuardType Tryz.prog.depth 35 = false := by kernel_rfl
theorem cf16 : ∀ (w : World) (args : Array Value), (callFunc 16 args).run Tryz.prog w = .ok (.enter 16 args) w := fun _ args => cf_of Tryz.func16 (by kernel_rfl) (by kernel_rfl) args
theorem fa31_2 : ∀ (w : World) (q : Addr), (Instr.fieldAt 31 (.pointer (some q)) 2).run Tryz.prog w = .ok (.pointer (some (q.add 2))) w := fun w q => by kernel_rfl
theorem cf41 : ∀ (w : World) (args : Array Value), (callFunc 41 args).run Tryz.prog w = .ok (.enter 41 args) w := fun _ args => cf_of Tryz.func41 (by kernel_rfl) (by kernel_rfl) args
end Go.Cb
