/- The types of the program and the small facts that the walks use. -/
import Derived.Test.YtlocfgonplkcoaaB13m
import Derived.Test.YtlocfgonplkcoaaProg
set_option linter.unusedVariables false
set_option linter.unusedSimpArgs false
namespace Go.Cb
open Go.Proofs Go.RowKit
structure S_api_Letter where
  Kind : Int
  View : Int
  Normal : Int
  Len : Int
  Stays : Int
  Log : (List ByteArray)
  Num : Int
  Text : ByteArray
  deriving DecidableEq, Inhabited
def k_api_Letter : Kd S_api_Letter := kMap (kP (kI .i64) (kP (kI .i64) (kP (kI .i64) (kP (kI .i64) (kP (kI .i64) (kP (kL kS) (kP (kI .i64) kS))))))) fun x => (x.Kind, (x.View, (x.Normal, (x.Len, (x.Stays, (x.Log, (x.Num, x.Text)))))))
structure S_api_Saved where
  View : Int
  Normal : Int
  Log : (List ByteArray)
  deriving DecidableEq, Inhabited
def k_api_Saved : Kd S_api_Saved := kMap (kP (kI .i64) (kP (kI .i64) (kL kS))) fun x => (x.View, (x.Normal, x.Log))
theorem k_api_Saved_open {w : World} {ok : Nat → Prop} {x : S_api_Saved} {cs : List Value} (h : k_api_Saved.R w ok x cs) : ∃ v1 : Value, cs = [.int .i64 x.View, .int .i64 x.Normal, v1] ∧ Sl kS w ok v1 x.Log := by
  obtain ⟨c0, d0, rfl, h0, c1, d1, rfl, h1, h2⟩ := h
  have e0 : c0 = [.int .i64 x.View] := h0
  subst e0
  have e1 : c1 = [.int .i64 x.Normal] := h1
  subst e1
  obtain ⟨u0, rfl, g0⟩ := h2
  exact ⟨u0, rfl, g0⟩
structure S_api_Result where
  Err : Int
  Path : ByteArray
  Data : ByteArray
  Version : Int
  Names : (List ByteArray)
  deriving DecidableEq, Inhabited
def k_api_Result : Kd S_api_Result := kMap (kP (kI .i64) (kP kS (kP kS (kP (kI .i64) (kL kS))))) fun x => (x.Err, (x.Path, (x.Data, (x.Version, x.Names))))
theorem k_api_Result_open {w : World} {ok : Nat → Prop} {x : S_api_Result} {cs : List Value} (h : k_api_Result.R w ok x cs) : ∃ v1 : Value, cs = [.int .i64 x.Err, .string x.Path, .string x.Data, .int .i64 x.Version, v1] ∧ Sl kS w ok v1 x.Names := by
  obtain ⟨c0, d0, rfl, h0, c1, d1, rfl, h1, c2, d2, rfl, h2, c3, d3, rfl, h3, h4⟩ := h
  have e0 : c0 = [.int .i64 x.Err] := h0
  subst e0
  have e1 : c1 = [.string x.Path] := h1
  subst e1
  have e2 : c2 = [.string x.Data] := h2
  subst e2
  have e3 : c3 = [.int .i64 x.Version] := h3
  subst e3
  obtain ⟨u0, rfl, g0⟩ := h4
  exact ⟨u0, rfl, g0⟩
theorem k_api_Result_mk {w : World} {ok : Nat → Prop} {x : S_api_Result} {v1 : Value} (g1 : Sl kS w ok v1 x.Names) : k_api_Result.R w ok x [.int .i64 x.Err, .string x.Path, .string x.Data, .int .i64 x.Version, v1] := ⟨[.int .i64 x.Err], _, rfl, rfl, ⟨[.string x.Path], _, rfl, rfl, ⟨[.string x.Data], _, rfl, rfl, ⟨[.int .i64 x.Version], _, rfl, rfl, ⟨_, rfl, g1⟩⟩⟩⟩⟩
theorem k_api_Result_get1 {w : World} {ok : Nat → Prop} {x : S_api_Result} {v1 : Value} (h : k_api_Result.R w ok x [.int .i64 x.Err, .string x.Path, .string x.Data, .int .i64 x.Version, v1]) : Sl kS w ok v1 x.Names := by
  obtain ⟨u0, he, g0⟩ := k_api_Result_open h
  cases he
  exact g0
theorem k_api_Result_at0 {w : World} {ok : Nat → Prop} {q : Addr} {x : S_api_Result} (h : (rAt k_api_Result q x).p w ok) : (rAt (kI .i64) (q.add 0) x.Err).p w ok := by
  have h0 : (rAt (kP (kI .i64) (kP kS (kP kS (kP (kI .i64) (kL kS))))) q ((x.Err, (x.Path, (x.Data, (x.Version, x.Names)))))).p w ok := h
  have h1 := (rAt_fst h0)
  simp only [show ∀ q : Addr, q.add 0 = q from fun q => by simp [Addr.add]]
  exact h1
theorem k_api_Result_aw1 {w : World} {ok : Nat → Prop} {q : Addr} {x : S_api_Result} {cs : List Value} (h : (rAw k_api_Result q x cs).p w ok) : ∃ c, (rAw kS (q.add 1) x.Path c).p w ok ∧ c = (cs.drop 1).take 1 := by
  have h0 : (rAw (kP (kI .i64) (kP kS (kP kS (kP (kI .i64) (kL kS))))) q ((x.Err, (x.Path, (x.Data, (x.Version, x.Names))))) cs).p w ok := h
  have hl : cs.length = 5 := k_api_Result.len h.2.1
  have h1 := (rAw_fst (rAw_snd h0))
  simp only [add_add, kP, kI, kB, kS, kL, kMap, Kd.scalar] at h1
  refine ⟨_, h1, ?_⟩
  (try simp only [kP, kI, kB, kS, kL, kMap, Kd.scalar])
  all_goals (try (apply List.ext_getElem?; intro j; simp [List.getElem?_take, List.getElem?_drop]))
  all_goals (try (intros; (try split); (try omega); (try (rw [List.getElem?_eq_none (by omega)]))))
theorem k_api_Result_aw2 {w : World} {ok : Nat → Prop} {q : Addr} {x : S_api_Result} {cs : List Value} (h : (rAw k_api_Result q x cs).p w ok) : ∃ c, (rAw kS (q.add 2) x.Data c).p w ok ∧ c = (cs.drop 2).take 1 := by
  have h0 : (rAw (kP (kI .i64) (kP kS (kP kS (kP (kI .i64) (kL kS))))) q ((x.Err, (x.Path, (x.Data, (x.Version, x.Names))))) cs).p w ok := h
  have hl : cs.length = 5 := k_api_Result.len h.2.1
  have h1 := (rAw_fst (rAw_snd (rAw_snd h0)))
  simp only [add_add, kP, kI, kB, kS, kL, kMap, Kd.scalar] at h1
  refine ⟨_, h1, ?_⟩
  (try simp only [kP, kI, kB, kS, kL, kMap, Kd.scalar])
  all_goals (try (apply List.ext_getElem?; intro j; simp [List.getElem?_take, List.getElem?_drop]))
  all_goals (try (intros; (try split); (try omega); (try (rw [List.getElem?_eq_none (by omega)]))))
theorem k_api_Result_at3 {w : World} {ok : Nat → Prop} {q : Addr} {x : S_api_Result} (h : (rAt k_api_Result q x).p w ok) : (rAt (kI .i64) (q.add 3) x.Version).p w ok := by
  have h0 : (rAt (kP (kI .i64) (kP kS (kP kS (kP (kI .i64) (kL kS))))) q ((x.Err, (x.Path, (x.Data, (x.Version, x.Names)))))).p w ok := h
  have h1 := (rAt_fst (rAt_snd (rAt_snd (rAt_snd h0))))
  simp only [add_add, kP, kI, kB, kS, kL, Kd.scalar] at h1
  exact h1
theorem k_api_Result_at4 {w : World} {ok : Nat → Prop} {q : Addr} {x : S_api_Result} (h : (rAt k_api_Result q x).p w ok) : (rAt (kL kS) (q.add 4) x.Names).p w ok := by
  have h0 : (rAt (kP (kI .i64) (kP kS (kP kS (kP (kI .i64) (kL kS))))) q ((x.Err, (x.Path, (x.Data, (x.Version, x.Names)))))).p w ok := h
  have h1 := (rAt_snd (rAt_snd (rAt_snd (rAt_snd h0))))
  simp only [add_add, kP, kI, kB, kS, kL, Kd.scalar] at h1
  exact h1
structure S_api_Node where
  Path : ByteArray
  Data : ByteArray
  Version : Int
  Turn : Int
  Owner : Int
  deriving DecidableEq, Inhabited
def k_api_Node : Kd S_api_Node := kMap (kP kS (kP kS (kP (kI .i64) (kP (kI .i64) (kI .i64))))) fun x => (x.Path, (x.Data, (x.Version, (x.Turn, x.Owner))))
theorem k_api_Node_open {w : World} {ok : Nat → Prop} {x : S_api_Node} {cs : List Value} (h : k_api_Node.R w ok x cs) : cs = [.string x.Path, .string x.Data, .int .i64 x.Version, .int .i64 x.Turn, .int .i64 x.Owner] := by
  obtain ⟨c0, d0, rfl, h0, c1, d1, rfl, h1, c2, d2, rfl, h2, c3, d3, rfl, h3, h4⟩ := h
  have e0 : c0 = [.string x.Path] := h0
  subst e0
  have e1 : c1 = [.string x.Data] := h1
  subst e1
  have e2 : c2 = [.int .i64 x.Version] := h2
  subst e2
  have e3 : c3 = [.int .i64 x.Turn] := h3
  subst e3
  have e4 : d3 = [.int .i64 x.Owner] := h4
  subst e4
  rfl
theorem k_api_Node_mk {w : World} {ok : Nat → Prop} {x : S_api_Node}   : k_api_Node.R w ok x [.string x.Path, .string x.Data, .int .i64 x.Version, .int .i64 x.Turn, .int .i64 x.Owner] := ⟨[.string x.Path], _, rfl, rfl, ⟨[.string x.Data], _, rfl, rfl, ⟨[.int .i64 x.Version], _, rfl, rfl, ⟨[.int .i64 x.Turn], _, rfl, rfl, rfl⟩⟩⟩⟩
theorem k_api_Node_aw0 {w : World} {ok : Nat → Prop} {q : Addr} {x : S_api_Node} {cs : List Value} (h : (rAw k_api_Node q x cs).p w ok) : ∃ c, (rAw kS (q.add 0) x.Path c).p w ok ∧ c = (cs.drop 0).take 1 := by
  have h0 : (rAw (kP kS (kP kS (kP (kI .i64) (kP (kI .i64) (kI .i64))))) q ((x.Path, (x.Data, (x.Version, (x.Turn, x.Owner))))) cs).p w ok := h
  have hl : cs.length = 5 := k_api_Node.len h.2.1
  have h1 := (rAw_fst h0)
  simp only [show ∀ q : Addr, q.add 0 = q from fun q => by simp [Addr.add]]
  refine ⟨_, h1, ?_⟩
  (try simp only [kP, kI, kB, kS, kL, kMap, Kd.scalar])
  all_goals (try (apply List.ext_getElem?; intro j; simp [List.getElem?_take, List.getElem?_drop]))
  all_goals (try (intros; (try split); (try omega); (try (rw [List.getElem?_eq_none (by omega)]))))
theorem k_api_Node_aw1 {w : World} {ok : Nat → Prop} {q : Addr} {x : S_api_Node} {cs : List Value} (h : (rAw k_api_Node q x cs).p w ok) : ∃ c, (rAw kS (q.add 1) x.Data c).p w ok ∧ c = (cs.drop 1).take 1 := by
  have h0 : (rAw (kP kS (kP kS (kP (kI .i64) (kP (kI .i64) (kI .i64))))) q ((x.Path, (x.Data, (x.Version, (x.Turn, x.Owner))))) cs).p w ok := h
  have hl : cs.length = 5 := k_api_Node.len h.2.1
  have h1 := (rAw_fst (rAw_snd h0))
  simp only [add_add, kP, kI, kB, kS, kL, kMap, Kd.scalar] at h1
  refine ⟨_, h1, ?_⟩
  (try simp only [kP, kI, kB, kS, kL, kMap, Kd.scalar])
  all_goals (try (apply List.ext_getElem?; intro j; simp [List.getElem?_take, List.getElem?_drop]))
  all_goals (try (intros; (try split); (try omega); (try (rw [List.getElem?_eq_none (by omega)]))))
theorem k_api_Node_at2 {w : World} {ok : Nat → Prop} {q : Addr} {x : S_api_Node} (h : (rAt k_api_Node q x).p w ok) : (rAt (kI .i64) (q.add 2) x.Version).p w ok := by
  have h0 : (rAt (kP kS (kP kS (kP (kI .i64) (kP (kI .i64) (kI .i64))))) q ((x.Path, (x.Data, (x.Version, (x.Turn, x.Owner)))))).p w ok := h
  have h1 := (rAt_fst (rAt_snd (rAt_snd h0)))
  simp only [add_add, kP, kI, kB, kS, kL, Kd.scalar] at h1
  exact h1
theorem k_api_Node_at3 {w : World} {ok : Nat → Prop} {q : Addr} {x : S_api_Node} (h : (rAt k_api_Node q x).p w ok) : (rAt (kI .i64) (q.add 3) x.Turn).p w ok := by
  have h0 : (rAt (kP kS (kP kS (kP (kI .i64) (kP (kI .i64) (kI .i64))))) q ((x.Path, (x.Data, (x.Version, (x.Turn, x.Owner)))))).p w ok := h
  have h1 := (rAt_fst (rAt_snd (rAt_snd (rAt_snd h0))))
  simp only [add_add, kP, kI, kB, kS, kL, Kd.scalar] at h1
  exact h1
theorem k_api_Node_at4 {w : World} {ok : Nat → Prop} {q : Addr} {x : S_api_Node} (h : (rAt k_api_Node q x).p w ok) : (rAt (kI .i64) (q.add 4) x.Owner).p w ok := by
  have h0 : (rAt (kP kS (kP kS (kP (kI .i64) (kP (kI .i64) (kI .i64))))) q ((x.Path, (x.Data, (x.Version, (x.Turn, x.Owner)))))).p w ok := h
  have h1 := (rAt_snd (rAt_snd (rAt_snd (rAt_snd h0))))
  simp only [add_add, kP, kI, kB, kS, kL, Kd.scalar] at h1
  exact h1
structure S_api_Turn where
  Dir : ByteArray
  Next : Int
  deriving DecidableEq, Inhabited
def k_api_Turn : Kd S_api_Turn := kMap (kP kS (kI .i64)) fun x => (x.Dir, x.Next)
theorem k_api_Turn_open {w : World} {ok : Nat → Prop} {x : S_api_Turn} {cs : List Value} (h : k_api_Turn.R w ok x cs) : cs = [.string x.Dir, .int .i64 x.Next] := by
  obtain ⟨c0, d0, rfl, h0, h1⟩ := h
  have e0 : c0 = [.string x.Dir] := h0
  subst e0
  have e1 : d0 = [.int .i64 x.Next] := h1
  subst e1
  rfl
theorem k_api_Turn_mk {w : World} {ok : Nat → Prop} {x : S_api_Turn}   : k_api_Turn.R w ok x [.string x.Dir, .int .i64 x.Next] := ⟨[.string x.Dir], _, rfl, rfl, rfl⟩
theorem k_api_Turn_at0 {w : World} {ok : Nat → Prop} {q : Addr} {x : S_api_Turn} (h : (rAt k_api_Turn q x).p w ok) : (rAt kS (q.add 0) x.Dir).p w ok := by
  have h0 : (rAt (kP kS (kI .i64)) q ((x.Dir, x.Next))).p w ok := h
  have h1 := (rAt_fst h0)
  simp only [show ∀ q : Addr, q.add 0 = q from fun q => by simp [Addr.add]]
  exact h1
theorem k_api_Turn_at1 {w : World} {ok : Nat → Prop} {q : Addr} {x : S_api_Turn} (h : (rAt k_api_Turn q x).p w ok) : (rAt (kI .i64) (q.add 1) x.Next).p w ok := by
  have h0 : (rAt (kP kS (kI .i64)) q ((x.Dir, x.Next))).p w ok := h
  have h1 := (rAt_snd h0)
  simp only [add_add, kP, kI, kB, kS, kL, Kd.scalar] at h1
  exact h1
structure S_api_Store where
  Nodes : (List S_api_Node)
  Turns : (List S_api_Turn)
  deriving DecidableEq, Inhabited
def k_api_Store : Kd S_api_Store := kMap (kP (kL k_api_Node) (kL k_api_Turn)) fun x => (x.Nodes, x.Turns)
theorem k_api_Store_open {w : World} {ok : Nat → Prop} {x : S_api_Store} {cs : List Value} (h : k_api_Store.R w ok x cs) : ∃ v1 v2 : Value, cs = [v1, v2] ∧ Sl k_api_Node w ok v1 x.Nodes ∧ Sl k_api_Turn w ok v2 x.Turns := by
  obtain ⟨c0, d0, rfl, h0, h1⟩ := h
  obtain ⟨u0, rfl, g0⟩ := h0
  obtain ⟨u1, rfl, g1⟩ := h1
  exact ⟨u0, u1, rfl, g0, g1⟩
structure S_api_Event where
  Num : Int
  Kind : Int
  Path : ByteArray
  Watch : Int
  deriving DecidableEq, Inhabited
def k_api_Event : Kd S_api_Event := kMap (kP (kI .i64) (kP (kI .i64) (kP kS (kI .i64)))) fun x => (x.Num, (x.Kind, (x.Path, x.Watch)))
theorem k_api_Event_open {w : World} {ok : Nat → Prop} {x : S_api_Event} {cs : List Value} (h : k_api_Event.R w ok x cs) : cs = [.int .i64 x.Num, .int .i64 x.Kind, .string x.Path, .int .i64 x.Watch] := by
  obtain ⟨c0, d0, rfl, h0, c1, d1, rfl, h1, c2, d2, rfl, h2, h3⟩ := h
  have e0 : c0 = [.int .i64 x.Num] := h0
  subst e0
  have e1 : c1 = [.int .i64 x.Kind] := h1
  subst e1
  have e2 : c2 = [.string x.Path] := h2
  subst e2
  have e3 : d2 = [.int .i64 x.Watch] := h3
  subst e3
  rfl
theorem k_api_Event_mk {w : World} {ok : Nat → Prop} {x : S_api_Event}   : k_api_Event.R w ok x [.int .i64 x.Num, .int .i64 x.Kind, .string x.Path, .int .i64 x.Watch] := ⟨[.int .i64 x.Num], _, rfl, rfl, ⟨[.int .i64 x.Kind], _, rfl, rfl, ⟨[.string x.Path], _, rfl, rfl, rfl⟩⟩⟩
theorem k_api_Event_at0 {w : World} {ok : Nat → Prop} {q : Addr} {x : S_api_Event} (h : (rAt k_api_Event q x).p w ok) : (rAt (kI .i64) (q.add 0) x.Num).p w ok := by
  have h0 : (rAt (kP (kI .i64) (kP (kI .i64) (kP kS (kI .i64)))) q ((x.Num, (x.Kind, (x.Path, x.Watch))))).p w ok := h
  have h1 := (rAt_fst h0)
  simp only [show ∀ q : Addr, q.add 0 = q from fun q => by simp [Addr.add]]
  exact h1
theorem k_api_Event_at1 {w : World} {ok : Nat → Prop} {q : Addr} {x : S_api_Event} (h : (rAt k_api_Event q x).p w ok) : (rAt (kI .i64) (q.add 1) x.Kind).p w ok := by
  have h0 : (rAt (kP (kI .i64) (kP (kI .i64) (kP kS (kI .i64)))) q ((x.Num, (x.Kind, (x.Path, x.Watch))))).p w ok := h
  have h1 := (rAt_fst (rAt_snd h0))
  simp only [add_add, kP, kI, kB, kS, kL, Kd.scalar] at h1
  exact h1
theorem k_api_Event_at2 {w : World} {ok : Nat → Prop} {q : Addr} {x : S_api_Event} (h : (rAt k_api_Event q x).p w ok) : (rAt kS (q.add 2) x.Path).p w ok := by
  have h0 : (rAt (kP (kI .i64) (kP (kI .i64) (kP kS (kI .i64)))) q ((x.Num, (x.Kind, (x.Path, x.Watch))))).p w ok := h
  have h1 := (rAt_fst (rAt_snd (rAt_snd h0)))
  simp only [add_add, kP, kI, kB, kS, kL, Kd.scalar] at h1
  exact h1
theorem k_api_Event_at3 {w : World} {ok : Nat → Prop} {q : Addr} {x : S_api_Event} (h : (rAt k_api_Event q x).p w ok) : (rAt (kI .i64) (q.add 3) x.Watch).p w ok := by
  have h0 : (rAt (kP (kI .i64) (kP (kI .i64) (kP kS (kI .i64)))) q ((x.Num, (x.Kind, (x.Path, x.Watch))))).p w ok := h
  have h1 := (rAt_snd (rAt_snd (rAt_snd h0)))
  simp only [add_add, kP, kI, kB, kS, kL, Kd.scalar] at h1
  exact h1
structure S_api_Mount where
  Prefix : ByteArray
  Group : Int
  Epoch : Int
  To : Int
  deriving DecidableEq, Inhabited
def k_api_Mount : Kd S_api_Mount := kMap (kP kS (kP (kI .i64) (kP (kI .i64) (kI .i64)))) fun x => (x.Prefix, (x.Group, (x.Epoch, x.To)))
theorem k_api_Mount_open {w : World} {ok : Nat → Prop} {x : S_api_Mount} {cs : List Value} (h : k_api_Mount.R w ok x cs) : cs = [.string x.Prefix, .int .i64 x.Group, .int .i64 x.Epoch, .int .i64 x.To] := by
  obtain ⟨c0, d0, rfl, h0, c1, d1, rfl, h1, c2, d2, rfl, h2, h3⟩ := h
  have e0 : c0 = [.string x.Prefix] := h0
  subst e0
  have e1 : c1 = [.int .i64 x.Group] := h1
  subst e1
  have e2 : c2 = [.int .i64 x.Epoch] := h2
  subst e2
  have e3 : d2 = [.int .i64 x.To] := h3
  subst e3
  rfl
theorem k_api_Mount_mk {w : World} {ok : Nat → Prop} {x : S_api_Mount}   : k_api_Mount.R w ok x [.string x.Prefix, .int .i64 x.Group, .int .i64 x.Epoch, .int .i64 x.To] := ⟨[.string x.Prefix], _, rfl, rfl, ⟨[.int .i64 x.Group], _, rfl, rfl, ⟨[.int .i64 x.Epoch], _, rfl, rfl, rfl⟩⟩⟩
theorem k_api_Mount_at0 {w : World} {ok : Nat → Prop} {q : Addr} {x : S_api_Mount} (h : (rAt k_api_Mount q x).p w ok) : (rAt kS (q.add 0) x.Prefix).p w ok := by
  have h0 : (rAt (kP kS (kP (kI .i64) (kP (kI .i64) (kI .i64)))) q ((x.Prefix, (x.Group, (x.Epoch, x.To))))).p w ok := h
  have h1 := (rAt_fst h0)
  simp only [show ∀ q : Addr, q.add 0 = q from fun q => by simp [Addr.add]]
  exact h1
theorem k_api_Mount_at1 {w : World} {ok : Nat → Prop} {q : Addr} {x : S_api_Mount} (h : (rAt k_api_Mount q x).p w ok) : (rAt (kI .i64) (q.add 1) x.Group).p w ok := by
  have h0 : (rAt (kP kS (kP (kI .i64) (kP (kI .i64) (kI .i64)))) q ((x.Prefix, (x.Group, (x.Epoch, x.To))))).p w ok := h
  have h1 := (rAt_fst (rAt_snd h0))
  simp only [add_add, kP, kI, kB, kS, kL, Kd.scalar] at h1
  exact h1
theorem k_api_Mount_at2 {w : World} {ok : Nat → Prop} {q : Addr} {x : S_api_Mount} (h : (rAt k_api_Mount q x).p w ok) : (rAt (kI .i64) (q.add 2) x.Epoch).p w ok := by
  have h0 : (rAt (kP kS (kP (kI .i64) (kP (kI .i64) (kI .i64)))) q ((x.Prefix, (x.Group, (x.Epoch, x.To))))).p w ok := h
  have h1 := (rAt_fst (rAt_snd (rAt_snd h0)))
  simp only [add_add, kP, kI, kB, kS, kL, Kd.scalar] at h1
  exact h1
theorem k_api_Mount_at3 {w : World} {ok : Nat → Prop} {q : Addr} {x : S_api_Mount} (h : (rAt k_api_Mount q x).p w ok) : (rAt (kI .i64) (q.add 3) x.To).p w ok := by
  have h0 : (rAt (kP kS (kP (kI .i64) (kP (kI .i64) (kI .i64)))) q ((x.Prefix, (x.Group, (x.Epoch, x.To))))).p w ok := h
  have h1 := (rAt_snd (rAt_snd (rAt_snd h0)))
  simp only [add_add, kP, kI, kB, kS, kL, Kd.scalar] at h1
  exact h1
structure S_api_Answer where
  Err : Int
  At : Int
  Yes : Bool
  Epoch : Int
  Results : (List S_api_Result)
  Store : S_api_Store
  Events : (List S_api_Event)
  Mounts : (List S_api_Mount)
  Wounded : (List Int)
  deriving DecidableEq, Inhabited
def k_api_Answer : Kd S_api_Answer := kMap (kP (kI .i64) (kP (kI .i64) (kP kB (kP (kI .i64) (kP (kL k_api_Result) (kP k_api_Store (kP (kL k_api_Event) (kP (kL k_api_Mount) (kL (kI .i64)))))))))) fun x => (x.Err, (x.At, (x.Yes, (x.Epoch, (x.Results, (x.Store, (x.Events, (x.Mounts, x.Wounded))))))))
theorem k_api_Answer_open {w : World} {ok : Nat → Prop} {x : S_api_Answer} {cs : List Value} (h : k_api_Answer.R w ok x cs) : ∃ v1 v2 v3 v4 v5 v6 : Value, cs = [.int .i64 x.Err, .int .i64 x.At, .bool x.Yes, .int .i64 x.Epoch, v1, v2, v3, v4, v5, v6] ∧ Sl k_api_Result w ok v1 x.Results ∧ Sl k_api_Node w ok v2 x.Store.Nodes ∧ Sl k_api_Turn w ok v3 x.Store.Turns ∧ Sl k_api_Event w ok v4 x.Events ∧ Sl k_api_Mount w ok v5 x.Mounts ∧ Sl (kI .i64) w ok v6 x.Wounded := by
  obtain ⟨c0, d0, rfl, h0, c1, d1, rfl, h1, c2, d2, rfl, h2, c3, d3, rfl, h3, c4, d4, rfl, h4, c5, d5, rfl, h5, c6, d6, rfl, h6, c7, d7, rfl, h7, h8⟩ := h
  have e0 : c0 = [.int .i64 x.Err] := h0
  subst e0
  have e1 : c1 = [.int .i64 x.At] := h1
  subst e1
  have e2 : c2 = [.bool x.Yes] := h2
  subst e2
  have e3 : c3 = [.int .i64 x.Epoch] := h3
  subst e3
  obtain ⟨u0, rfl, g0⟩ := h4
  obtain ⟨u1, u2, rfl, g1, g2⟩ := k_api_Store_open h5
  obtain ⟨u3, rfl, g3⟩ := h6
  obtain ⟨u4, rfl, g4⟩ := h7
  obtain ⟨u5, rfl, g5⟩ := h8
  exact ⟨u0, u1, u2, u3, u4, u5, rfl, g0, g1, g2, g3, g4, g5⟩
theorem cf9 : ∀ (w : World) (args : Array Value), (callFunc 9 args).run Try.prog w = .ok (.enter 9 args) w := fun _ args => cf_of Try.func9 (by kernel_rfl) (by kernel_rfl) args
theorem cf13 : ∀ (w : World) (args : Array Value), (callFunc 13 args).run Try.prog w = .ok (.enter 13 args) w := fun _ args => cf_of Try.func13 (by kernel_rfl) (by kernel_rfl) args
theorem fa26_0 : ∀ (w : World) (q : Addr), (Instr.fieldAt 26 (.pointer (some q)) 0).run Try.prog w = .ok (.pointer (some (q.add 0))) w := fun w q => by kernel_rfl
theorem fa26_1 : ∀ (w : World) (q : Addr), (Instr.fieldAt 26 (.pointer (some q)) 1).run Try.prog w = .ok (.pointer (some (q.add 1))) w := fun w q => by kernel_rfl
theorem cf28 : ∀ (w : World) (args : Array Value), (callFunc 28 args).run Try.prog w = .ok (.enter 28 args) w := fun _ args => cf_of Try.func28 (by kernel_rfl) (by kernel_rfl) args
theorem sz2 : (Try.prog.info? 2).map (·.size) = some 1 := by kernel_rfl
theorem fa76_0 : ∀ (w : World) (q : Addr), (Instr.fieldAt 76 (.pointer (some q)) 0).run Try.prog w = .ok (.pointer (some (q.add 0))) w := fun w q => by kernel_rfl
theorem cf30 : ∀ (w : World) (args : Array Value), (callFunc 30 args).run Try.prog w = .ok (.enter 30 args) w := fun _ args => cf_of Try.func30 (by kernel_rfl) (by kernel_rfl) args
theorem fa74_1 : ∀ (w : World) (q : Addr), (Instr.fieldAt 74 (.pointer (some q)) 1).run Try.prog w = .ok (.pointer (some (q.add 1))) w := fun w q => by kernel_rfl
theorem sz4 : (Try.prog.info? 4).map (·.size) = some 1 := by kernel_rfl
theorem fa74_0 : ∀ (w : World) (q : Addr), (Instr.fieldAt 74 (.pointer (some q)) 0).run Try.prog w = .ok (.pointer (some (q.add 0))) w := fun w q => by kernel_rfl
theorem inf5 : (Try.prog.info? 5).map (fun i => (i.zero, i.size, i.bytes)) = some (some (.int .u8 0), 1, 1) := by kernel_rfl
theorem sz27 : (Try.prog.info? 27).map (·.size) = some 1 := by kernel_rfl
theorem mixedOk : Try.prog.follows .mixedOrders = true := by kernel_rfl
theorem fa26_2 : ∀ (w : World) (q : Addr), (Instr.fieldAt 26 (.pointer (some q)) 2).run Try.prog w = .ok (.pointer (some (q.add 2))) w := fun w q => by kernel_rfl
theorem cf29 : ∀ (w : World) (args : Array Value), (callFunc 29 args).run Try.prog w = .ok (.enter 29 args) w := fun _ args => cf_of Try.func29 (by kernel_rfl) (by kernel_rfl) args
theorem sz9 : (Try.prog.info? 9).map (·.size) = some 1 := by kernel_rfl
theorem cf31 : ∀ (w : World) (args : Array Value), (callFunc 31 args).run Try.prog w = .ok (.enter 31 args) w := fun _ args => cf_of Try.func31 (by kernel_rfl) (by kernel_rfl) args
theorem cf32 : ∀ (w : World) (args : Array Value), (callFunc 32 args).run Try.prog w = .ok (.enter 32 args) w := fun _ args => cf_of Try.func32 (by kernel_rfl) (by kernel_rfl) args
theorem cf83 : ∀ (w : World) (args : Array Value), (callFunc 83 args).run Try.prog w = .ok (.enter 83 args) w := fun _ args => cf_of Try.func83 (by kernel_rfl) (by kernel_rfl) args
theorem sz5 : (Try.prog.info? 5).map (·.size) = some 1 := by kernel_rfl
theorem lib_bytes_Clone_own {w : World} {os : List Ob} {rs : List Rp} {v : Value} {xs : List Int} (H : Sep w os rs) {i : Nat} (hi : os[i]? = some (Row 5 (kI .u8) v xs)) (hl : xs.length ≤ LIM) :
    Calls Try.prog 83 [v].toArray w (Ret fun v' w' => Sep w' (Row 5 (kI .u8) v' xs :: os) rs) := by
  obtain ⟨b, c, rfl⟩ := H.rowform hi
  refine enter Try.func83 rfl Try.ntmps83 rfl fun a E => ?_
  simp only [enum, Nat.reduceAdd] at E
  refine wp_seq ?_
  refine wp_region_lit ?_
  refine st_val E (wn rfl) rfl rfl (x_assign E rfl rfl) ?_
  clear E; clear a; intro a E
  refine wpList_nil ?_
  refine q_then ?_
  refine wp_seq ?_
  refine wp_seq ?_
  refine wp_region_lit ?_
  refine st_val E (wn rfl) rfl rfl (x_move E rfl rfl) ?_
  clear E; clear a; intro a E
  refine st_val E (wn rfl) rfl rfl (x_slnil E rfl rfl rfl Try.underlying27) ?_
  clear E; clear a; intro a E
  refine wpList_nil ?_
  refine q_then ?_
  refine wp_if E rfl ?_ ?_
  · intro hb
    cases b with
    | some _ => cases hb
    | none =>
      obtain rfl := H.row_none hi
      refine wp_seq ?_
      refine wp_region_lit ?_
      refine st_val E (wn rfl) rfl rfl (x_assign E rfl rfl) ?_
      clear E; clear a; intro a E
      refine wpList_nil ?_
      refine q_then ?_
      refine wp_ret ?_
      refine q_thenR ?_
      refine out1 E rfl rfl ?_
      exact H.nilRow 5 (kI .u8)
  · intro hb
    refine wp_skip ?_
    refine q_then ?_
    refine wp_seq ?_
    refine wp_region_lit ?_
    refine st_bsO (e := 5) (d := (kI .u8)) (cs := []) (xs := []) E H (wn rfl) rfl rfl (ps := []) (parts := []) rfl rfl (by kernel_rfl) rfl rfl (fun ok hr => Rows.nil _ _ _) ?_
    clear E H; clear a; clear w; intro v2 w a H E
    refine st_val E (wn rfl) rfl rfl (x_move E rfl rfl) ?_
    clear E; clear a; intro a E
    refine st_append (i := 0) E H (wn rfl) rfl rfl rfl rfl rfl rfl (src_row (i := i + 1) hi) Try.underlying27 inf5 rfl (by simpa using hl) rfl ?_
    clear E H; clear a; clear w; intro v3 w a H E
    refine st_val E (wn rfl) rfl rfl (x_assign E rfl rfl) ?_
    clear E; clear a; intro a E
    refine wpList_nil ?_
    refine q_then ?_
    refine wp_ret ?_
    refine out1 E rfl rfl ?_
    exact H

theorem cf17 : ∀ (w : World) (args : Array Value), (callFunc 17 args).run Try.prog w = .ok (.enter 17 args) w := fun _ args => cf_of Try.func17 (by kernel_rfl) (by kernel_rfl) args
theorem cf37 : ∀ (w : World) (args : Array Value), (callFunc 37 args).run Try.prog w = .ok (.enter 37 args) w := fun _ args => cf_of Try.func37 (by kernel_rfl) (by kernel_rfl) args
theorem lib_bytes_Clone_rd {w : World} {os : List Ob} {rs : List Rp} {v : Value} {xs : List Int} (H : Sep w os rs) (hm : rSl (kI .u8) v xs ∈ rs) (hl : xs.length ≤ LIM) :
    Calls Try.prog 83 [v].toArray w (Ret fun v' w' => Sep w' (Row 5 (kI .u8) v' xs :: os) rs) := by
  obtain ⟨b, c, rfl⟩ := H.slform hm
  refine enter Try.func83 rfl Try.ntmps83 rfl fun a E => ?_
  simp only [enum, Nat.reduceAdd] at E
  refine wp_seq ?_
  refine wp_region_lit ?_
  refine st_val E (wn rfl) rfl rfl (x_assign E rfl rfl) ?_
  clear E; clear a; intro a E
  refine wpList_nil ?_
  refine q_then ?_
  refine wp_seq ?_
  refine wp_seq ?_
  refine wp_region_lit ?_
  refine st_val E (wn rfl) rfl rfl (x_move E rfl rfl) ?_
  clear E; clear a; intro a E
  refine st_val E (wn rfl) rfl rfl (x_slnil E rfl rfl rfl Try.underlying27) ?_
  clear E; clear a; intro a E
  refine wpList_nil ?_
  refine q_then ?_
  refine wp_if E rfl ?_ ?_
  · intro hb
    cases b with
    | some _ => cases hb
    | none =>
      obtain rfl := H.sl_none hm
      refine wp_seq ?_
      refine wp_region_lit ?_
      refine st_val E (wn rfl) rfl rfl (x_assign E rfl rfl) ?_
      clear E; clear a; intro a E
      refine wpList_nil ?_
      refine q_then ?_
      refine wp_ret ?_
      refine q_thenR ?_
      refine out1 E rfl rfl ?_
      exact H.nilRow 5 (kI .u8)
  · intro hb
    refine wp_skip ?_
    refine q_then ?_
    refine wp_seq ?_
    refine wp_region_lit ?_
    refine st_bsO (e := 5) (d := (kI .u8)) (cs := []) (xs := []) E H (wn rfl) rfl rfl (ps := []) (parts := []) rfl rfl (by kernel_rfl) rfl rfl (fun ok hr => Rows.nil _ _ _) ?_
    clear E H; clear a; clear w; intro v2 w a H E
    refine st_val E (wn rfl) rfl rfl (x_move E rfl rfl) ?_
    clear E; clear a; intro a E
    refine st_append (i := 0) E H (wn rfl) rfl rfl rfl rfl rfl rfl (src_rd hm) Try.underlying27 inf5 rfl (by simpa using hl) rfl ?_
    clear E H; clear a; clear w; intro v3 w a H E
    refine st_val E (wn rfl) rfl rfl (x_assign E rfl rfl) ?_
    clear E; clear a; intro a E
    refine wpList_nil ?_
    refine q_then ?_
    refine wp_ret ?_
    refine out1 E rfl rfl ?_
    exact H

theorem sz88 : (Try.prog.info? 88).map (·.size) = some 1 := by kernel_rfl
theorem cf39 : ∀ (w : World) (args : Array Value), (callFunc 39 args).run Try.prog w = .ok (.enter 39 args) w := fun _ args => cf_of Try.func39 (by kernel_rfl) (by kernel_rfl) args
theorem fa88_0 : ∀ (w : World) (q : Addr), (Instr.fieldAt 88 (.pointer (some q)) 0).run Try.prog w = .ok (.pointer (some (q.add 0))) w := fun w q => by kernel_rfl
theorem cf64 : ∀ (w : World) (args : Array Value), (callFunc 64 args).run Try.prog w = .ok (.enter 64 args) w := fun _ args => cf_of Try.func64 (by kernel_rfl) (by kernel_rfl) args
theorem fa137_1 : ∀ (w : World) (q : Addr), (Instr.fieldAt 137 (.pointer (some q)) 1).run Try.prog w = .ok (.pointer (some (q.add 1))) w := fun w q => by kernel_rfl
theorem fa137_0 : ∀ (w : World) (q : Addr), (Instr.fieldAt 137 (.pointer (some q)) 0).run Try.prog w = .ok (.pointer (some (q.add 0))) w := fun w q => by kernel_rfl
theorem sz30 : (Try.prog.info? 30).map (·.size) = some 1 := by kernel_rfl
theorem sz26 : (Try.prog.info? 26).map (·.size) = some 3 := by kernel_rfl
theorem cf40 : ∀ (w : World) (args : Array Value), (callFunc 40 args).run Try.prog w = .ok (.enter 40 args) w := fun _ args => cf_of Try.func40 (by kernel_rfl) (by kernel_rfl) args
theorem cf41 : ∀ (w : World) (args : Array Value), (callFunc 41 args).run Try.prog w = .ok (.enter 41 args) w := fun _ args => cf_of Try.func41 (by kernel_rfl) (by kernel_rfl) args
theorem inf9 : (Try.prog.info? 9).map (fun i => (i.zero, i.size, i.bytes)) = some (some (.string ⟨#[]⟩), 1, 16) := by kernel_rfl
theorem sz22 : (Try.prog.info? 22).map (·.size) = some 1 := by kernel_rfl
theorem cf48 : ∀ (w : World) (args : Array Value), (callFunc 48 args).run Try.prog w = .ok (.enter 48 args) w := fun _ args => cf_of Try.func48 (by kernel_rfl) (by kernel_rfl) args
theorem cf85 : ∀ (w : World) (args : Array Value), (callFunc 85 args).run Try.prog w = .ok (.enter 85 args) w := fun _ args => cf_of Try.func85 (by kernel_rfl) (by kernel_rfl) args
theorem cf11 : ∀ (w : World) (args : Array Value), (callFunc 11 args).run Try.prog w = .ok (.enter 11 args) w := fun _ args => cf_of Try.func11 (by kernel_rfl) (by kernel_rfl) args
theorem fa24_0 : ∀ (w : World) (q : Addr), (Instr.fieldAt 24 (.pointer (some q)) 0).run Try.prog w = .ok (.pointer (some (q.add 0))) w := fun w q => by kernel_rfl
theorem fa24_1 : ∀ (w : World) (q : Addr), (Instr.fieldAt 24 (.pointer (some q)) 1).run Try.prog w = .ok (.pointer (some (q.add 1))) w := fun w q => by kernel_rfl
theorem fa24_2 : ∀ (w : World) (q : Addr), (Instr.fieldAt 24 (.pointer (some q)) 2).run Try.prog w = .ok (.pointer (some (q.add 2))) w := fun w q => by kernel_rfl
theorem fa24_3 : ∀ (w : World) (q : Addr), (Instr.fieldAt 24 (.pointer (some q)) 3).run Try.prog w = .ok (.pointer (some (q.add 3))) w := fun w q => by kernel_rfl
theorem fa24_4 : ∀ (w : World) (q : Addr), (Instr.fieldAt 24 (.pointer (some q)) 4).run Try.prog w = .ok (.pointer (some (q.add 4))) w := fun w q => by kernel_rfl
theorem fa24_5 : ∀ (w : World) (q : Addr), (Instr.fieldAt 24 (.pointer (some q)) 5).run Try.prog w = .ok (.pointer (some (q.add 5))) w := fun w q => by kernel_rfl
theorem fa24_6 : ∀ (w : World) (q : Addr), (Instr.fieldAt 24 (.pointer (some q)) 6).run Try.prog w = .ok (.pointer (some (q.add 6))) w := fun w q => by kernel_rfl
theorem fa24_7 : ∀ (w : World) (q : Addr), (Instr.fieldAt 24 (.pointer (some q)) 7).run Try.prog w = .ok (.pointer (some (q.add 7))) w := fun w q => by kernel_rfl
theorem cf15 : ∀ (w : World) (args : Array Value), (callFunc 15 args).run Try.prog w = .ok (.enter 15 args) w := fun _ args => cf_of Try.func15 (by kernel_rfl) (by kernel_rfl) args
theorem cf38 : ∀ (w : World) (args : Array Value), (callFunc 38 args).run Try.prog w = .ok (.enter 38 args) w := fun _ args => cf_of Try.func38 (by kernel_rfl) (by kernel_rfl) args
theorem sz24 : (Try.prog.info? 24).map (·.size) = some 8 := by kernel_rfl
theorem sz3 : (Try.prog.info? 3).map (·.size) = some 1 := by kernel_rfl
theorem cf42 : ∀ (w : World) (args : Array Value), (callFunc 42 args).run Try.prog w = .ok (.enter 42 args) w := fun _ args => cf_of Try.func42 (by kernel_rfl) (by kernel_rfl) args
theorem cf22 : ∀ (w : World) (args : Array Value), (callFunc 22 args).run Try.prog w = .ok (.enter 22 args) w := fun _ args => cf_of Try.func22 (by kernel_rfl) (by kernel_rfl) args
theorem fa50_0 : ∀ (w : World) (q : Addr), (Instr.fieldAt 50 (.pointer (some q)) 0).run Try.prog w = .ok (.pointer (some (q.add 0))) w := fun w q => by kernel_rfl
theorem fa50_1 : ∀ (w : World) (q : Addr), (Instr.fieldAt 50 (.pointer (some q)) 1).run Try.prog w = .ok (.pointer (some (q.add 1))) w := fun w q => by kernel_rfl
theorem fa50_2 : ∀ (w : World) (q : Addr), (Instr.fieldAt 50 (.pointer (some q)) 2).run Try.prog w = .ok (.pointer (some (q.add 2))) w := fun w q => by kernel_rfl
theorem cf51 : ∀ (w : World) (args : Array Value), (callFunc 51 args).run Try.prog w = .ok (.enter 51 args) w := fun _ args => cf_of Try.func51 (by kernel_rfl) (by kernel_rfl) args
theorem fa50_3 : ∀ (w : World) (q : Addr), (Instr.fieldAt 50 (.pointer (some q)) 3).run Try.prog w = .ok (.pointer (some (q.add 3))) w := fun w q => by kernel_rfl
theorem fa50_4 : ∀ (w : World) (q : Addr), (Instr.fieldAt 50 (.pointer (some q)) 4).run Try.prog w = .ok (.pointer (some (q.add 4))) w := fun w q => by kernel_rfl
theorem cf52 : ∀ (w : World) (args : Array Value), (callFunc 52 args).run Try.prog w = .ok (.enter 52 args) w := fun _ args => cf_of Try.func52 (by kernel_rfl) (by kernel_rfl) args
theorem sz62 : (Try.prog.info? 62).map (·.size) = some 5 := by kernel_rfl
theorem cf53 : ∀ (w : World) (args : Array Value), (callFunc 53 args).run Try.prog w = .ok (.enter 53 args) w := fun _ args => cf_of Try.func53 (by kernel_rfl) (by kernel_rfl) args
theorem fa62_0 : ∀ (w : World) (q : Addr), (Instr.fieldAt 62 (.pointer (some q)) 0).run Try.prog w = .ok (.pointer (some (q.add 0))) w := fun w q => by kernel_rfl
theorem fa62_1 : ∀ (w : World) (q : Addr), (Instr.fieldAt 62 (.pointer (some q)) 1).run Try.prog w = .ok (.pointer (some (q.add 1))) w := fun w q => by kernel_rfl
theorem fa62_2 : ∀ (w : World) (q : Addr), (Instr.fieldAt 62 (.pointer (some q)) 2).run Try.prog w = .ok (.pointer (some (q.add 2))) w := fun w q => by kernel_rfl
theorem fa62_3 : ∀ (w : World) (q : Addr), (Instr.fieldAt 62 (.pointer (some q)) 3).run Try.prog w = .ok (.pointer (some (q.add 3))) w := fun w q => by kernel_rfl
theorem fa62_4 : ∀ (w : World) (q : Addr), (Instr.fieldAt 62 (.pointer (some q)) 4).run Try.prog w = .ok (.pointer (some (q.add 4))) w := fun w q => by kernel_rfl
theorem fa50_5 : ∀ (w : World) (q : Addr), (Instr.fieldAt 50 (.pointer (some q)) 5).run Try.prog w = .ok (.pointer (some (q.add 5))) w := fun w q => by kernel_rfl
theorem fa45_0 : ∀ (w : World) (q : Addr), (Instr.fieldAt 45 (.pointer (some q)) 0).run Try.prog w = .ok (.pointer (some (q.add 0))) w := fun w q => by kernel_rfl
theorem cf54 : ∀ (w : World) (args : Array Value), (callFunc 54 args).run Try.prog w = .ok (.enter 54 args) w := fun _ args => cf_of Try.func54 (by kernel_rfl) (by kernel_rfl) args
theorem sz64 : (Try.prog.info? 64).map (·.size) = some 5 := by kernel_rfl
theorem cf55 : ∀ (w : World) (args : Array Value), (callFunc 55 args).run Try.prog w = .ok (.enter 55 args) w := fun _ args => cf_of Try.func55 (by kernel_rfl) (by kernel_rfl) args
theorem fa64_0 : ∀ (w : World) (q : Addr), (Instr.fieldAt 64 (.pointer (some q)) 0).run Try.prog w = .ok (.pointer (some (q.add 0))) w := fun w q => by kernel_rfl
theorem fa64_1 : ∀ (w : World) (q : Addr), (Instr.fieldAt 64 (.pointer (some q)) 1).run Try.prog w = .ok (.pointer (some (q.add 1))) w := fun w q => by kernel_rfl
theorem fa64_2 : ∀ (w : World) (q : Addr), (Instr.fieldAt 64 (.pointer (some q)) 2).run Try.prog w = .ok (.pointer (some (q.add 2))) w := fun w q => by kernel_rfl
theorem fa64_4 : ∀ (w : World) (q : Addr), (Instr.fieldAt 64 (.pointer (some q)) 4).run Try.prog w = .ok (.pointer (some (q.add 4))) w := fun w q => by kernel_rfl
theorem fa64_3 : ∀ (w : World) (q : Addr), (Instr.fieldAt 64 (.pointer (some q)) 3).run Try.prog w = .ok (.pointer (some (q.add 3))) w := fun w q => by kernel_rfl
theorem fa45_1 : ∀ (w : World) (q : Addr), (Instr.fieldAt 45 (.pointer (some q)) 1).run Try.prog w = .ok (.pointer (some (q.add 1))) w := fun w q => by kernel_rfl
theorem cf56 : ∀ (w : World) (args : Array Value), (callFunc 56 args).run Try.prog w = .ok (.enter 56 args) w := fun _ args => cf_of Try.func56 (by kernel_rfl) (by kernel_rfl) args
theorem sz66 : (Try.prog.info? 66).map (·.size) = some 2 := by kernel_rfl
theorem cf57 : ∀ (w : World) (args : Array Value), (callFunc 57 args).run Try.prog w = .ok (.enter 57 args) w := fun _ args => cf_of Try.func57 (by kernel_rfl) (by kernel_rfl) args
theorem fa66_0 : ∀ (w : World) (q : Addr), (Instr.fieldAt 66 (.pointer (some q)) 0).run Try.prog w = .ok (.pointer (some (q.add 0))) w := fun w q => by kernel_rfl
theorem fa66_1 : ∀ (w : World) (q : Addr), (Instr.fieldAt 66 (.pointer (some q)) 1).run Try.prog w = .ok (.pointer (some (q.add 1))) w := fun w q => by kernel_rfl
theorem fa50_6 : ∀ (w : World) (q : Addr), (Instr.fieldAt 50 (.pointer (some q)) 6).run Try.prog w = .ok (.pointer (some (q.add 7))) w := fun w q => by kernel_rfl
theorem cf58 : ∀ (w : World) (args : Array Value), (callFunc 58 args).run Try.prog w = .ok (.enter 58 args) w := fun _ args => cf_of Try.func58 (by kernel_rfl) (by kernel_rfl) args
theorem sz68 : (Try.prog.info? 68).map (·.size) = some 4 := by kernel_rfl
theorem cf59 : ∀ (w : World) (args : Array Value), (callFunc 59 args).run Try.prog w = .ok (.enter 59 args) w := fun _ args => cf_of Try.func59 (by kernel_rfl) (by kernel_rfl) args
theorem fa68_0 : ∀ (w : World) (q : Addr), (Instr.fieldAt 68 (.pointer (some q)) 0).run Try.prog w = .ok (.pointer (some (q.add 0))) w := fun w q => by kernel_rfl
theorem fa68_1 : ∀ (w : World) (q : Addr), (Instr.fieldAt 68 (.pointer (some q)) 1).run Try.prog w = .ok (.pointer (some (q.add 1))) w := fun w q => by kernel_rfl
theorem fa68_2 : ∀ (w : World) (q : Addr), (Instr.fieldAt 68 (.pointer (some q)) 2).run Try.prog w = .ok (.pointer (some (q.add 2))) w := fun w q => by kernel_rfl
theorem fa68_3 : ∀ (w : World) (q : Addr), (Instr.fieldAt 68 (.pointer (some q)) 3).run Try.prog w = .ok (.pointer (some (q.add 3))) w := fun w q => by kernel_rfl
theorem fa50_7 : ∀ (w : World) (q : Addr), (Instr.fieldAt 50 (.pointer (some q)) 7).run Try.prog w = .ok (.pointer (some (q.add 8))) w := fun w q => by kernel_rfl
theorem cf60 : ∀ (w : World) (args : Array Value), (callFunc 60 args).run Try.prog w = .ok (.enter 60 args) w := fun _ args => cf_of Try.func60 (by kernel_rfl) (by kernel_rfl) args
theorem sz70 : (Try.prog.info? 70).map (·.size) = some 4 := by kernel_rfl
theorem cf61 : ∀ (w : World) (args : Array Value), (callFunc 61 args).run Try.prog w = .ok (.enter 61 args) w := fun _ args => cf_of Try.func61 (by kernel_rfl) (by kernel_rfl) args
theorem fa70_0 : ∀ (w : World) (q : Addr), (Instr.fieldAt 70 (.pointer (some q)) 0).run Try.prog w = .ok (.pointer (some (q.add 0))) w := fun w q => by kernel_rfl
theorem fa70_1 : ∀ (w : World) (q : Addr), (Instr.fieldAt 70 (.pointer (some q)) 1).run Try.prog w = .ok (.pointer (some (q.add 1))) w := fun w q => by kernel_rfl
theorem fa70_2 : ∀ (w : World) (q : Addr), (Instr.fieldAt 70 (.pointer (some q)) 2).run Try.prog w = .ok (.pointer (some (q.add 2))) w := fun w q => by kernel_rfl
theorem fa70_3 : ∀ (w : World) (q : Addr), (Instr.fieldAt 70 (.pointer (some q)) 3).run Try.prog w = .ok (.pointer (some (q.add 3))) w := fun w q => by kernel_rfl
theorem fa50_8 : ∀ (w : World) (q : Addr), (Instr.fieldAt 50 (.pointer (some q)) 8).run Try.prog w = .ok (.pointer (some (q.add 9))) w := fun w q => by kernel_rfl
theorem cf62 : ∀ (w : World) (args : Array Value), (callFunc 62 args).run Try.prog w = .ok (.enter 62 args) w := fun _ args => cf_of Try.func62 (by kernel_rfl) (by kernel_rfl) args
theorem cf24 : ∀ (w : World) (args : Array Value), (callFunc 24 args).run Try.prog w = .ok (.enter 24 args) w := fun _ args => cf_of Try.func24 (by kernel_rfl) (by kernel_rfl) args
theorem sz50 : (Try.prog.info? 50).map (·.size) = some 10 := by kernel_rfl
theorem cf65 : ∀ (w : World) (args : Array Value), (callFunc 65 args).run Try.prog w = .ok (.enter 65 args) w := fun _ args => cf_of Try.func65 (by kernel_rfl) (by kernel_rfl) args
theorem cf88 : ∀ (w : World) (args : Array Value), (callFunc 88 args).run Try.prog w = .ok (.enter 88 args) w := fun _ args => cf_of Try.func88 (by kernel_rfl) (by kernel_rfl) args
theorem cf66 : ∀ (w : World) (args : Array Value), (callFunc 66 args).run Try.prog w = .ok (.enter 66 args) w := fun _ args => cf_of Try.func66 (by kernel_rfl) (by kernel_rfl) args
theorem inf62 : (Try.prog.info? 62).map (fun i => (i.zero, i.size, i.bytes)) = some (some (.agg #[.int .i64 0, .string ⟨#[]⟩, .string ⟨#[]⟩, .int .i64 0, .slice none 0 0]), 5, 72) := by kernel_rfl
theorem sz41 : (Try.prog.info? 41).map (·.size) = some 1 := by kernel_rfl
theorem cf67 : ∀ (w : World) (args : Array Value), (callFunc 67 args).run Try.prog w = .ok (.enter 67 args) w := fun _ args => cf_of Try.func67 (by kernel_rfl) (by kernel_rfl) args
theorem cf68 : ∀ (w : World) (args : Array Value), (callFunc 68 args).run Try.prog w = .ok (.enter 68 args) w := fun _ args => cf_of Try.func68 (by kernel_rfl) (by kernel_rfl) args
theorem inf64 : (Try.prog.info? 64).map (fun i => (i.zero, i.size, i.bytes)) = some (some (.agg #[.string ⟨#[]⟩, .string ⟨#[]⟩, .int .i64 0, .int .i64 0, .int .i64 0]), 5, 56) := by kernel_rfl
theorem sz42 : (Try.prog.info? 42).map (·.size) = some 1 := by kernel_rfl
theorem cf69 : ∀ (w : World) (args : Array Value), (callFunc 69 args).run Try.prog w = .ok (.enter 69 args) w := fun _ args => cf_of Try.func69 (by kernel_rfl) (by kernel_rfl) args
theorem cf70 : ∀ (w : World) (args : Array Value), (callFunc 70 args).run Try.prog w = .ok (.enter 70 args) w := fun _ args => cf_of Try.func70 (by kernel_rfl) (by kernel_rfl) args
theorem inf66 : (Try.prog.info? 66).map (fun i => (i.zero, i.size, i.bytes)) = some (some (.agg #[.string ⟨#[]⟩, .int .i64 0]), 2, 24) := by kernel_rfl
theorem sz43 : (Try.prog.info? 43).map (·.size) = some 1 := by kernel_rfl
theorem cf71 : ∀ (w : World) (args : Array Value), (callFunc 71 args).run Try.prog w = .ok (.enter 71 args) w := fun _ args => cf_of Try.func71 (by kernel_rfl) (by kernel_rfl) args
theorem cf72 : ∀ (w : World) (args : Array Value), (callFunc 72 args).run Try.prog w = .ok (.enter 72 args) w := fun _ args => cf_of Try.func72 (by kernel_rfl) (by kernel_rfl) args
theorem inf68 : (Try.prog.info? 68).map (fun i => (i.zero, i.size, i.bytes)) = some (some (.agg #[.int .i64 0, .int .i64 0, .string ⟨#[]⟩, .int .i64 0]), 4, 40) := by kernel_rfl
theorem sz46 : (Try.prog.info? 46).map (·.size) = some 1 := by kernel_rfl
theorem cf73 : ∀ (w : World) (args : Array Value), (callFunc 73 args).run Try.prog w = .ok (.enter 73 args) w := fun _ args => cf_of Try.func73 (by kernel_rfl) (by kernel_rfl) args
theorem cf74 : ∀ (w : World) (args : Array Value), (callFunc 74 args).run Try.prog w = .ok (.enter 74 args) w := fun _ args => cf_of Try.func74 (by kernel_rfl) (by kernel_rfl) args
theorem inf70 : (Try.prog.info? 70).map (fun i => (i.zero, i.size, i.bytes)) = some (some (.agg #[.string ⟨#[]⟩, .int .i64 0, .int .i64 0, .int .i64 0]), 4, 40) := by kernel_rfl
theorem sz47 : (Try.prog.info? 47).map (·.size) = some 1 := by kernel_rfl
theorem cf75 : ∀ (w : World) (args : Array Value), (callFunc 75 args).run Try.prog w = .ok (.enter 75 args) w := fun _ args => cf_of Try.func75 (by kernel_rfl) (by kernel_rfl) args
theorem inf2 : (Try.prog.info? 2).map (fun i => (i.zero, i.size, i.bytes)) = some (some (.int .i64 0), 1, 8) := by kernel_rfl
theorem sz48 : (Try.prog.info? 48).map (·.size) = some 1 := by kernel_rfl
theorem cf76 : ∀ (w : World) (args : Array Value), (callFunc 76 args).run Try.prog w = .ok (.enter 76 args) w := fun _ args => cf_of Try.func76 (by kernel_rfl) (by kernel_rfl) args
theorem cf10 : ∀ (w : World) (args : Array Value), (callFunc 10 args).run Try.prog w = .ok (.enter 10 args) w := fun _ args => cf_of Try.func10 (by kernel_rfl) (by kernel_rfl) args
theorem cf21 : ∀ (w : World) (args : Array Value), (callFunc 21 args).run Try.prog w = .ok (.enter 21 args) w := fun _ args => cf_of Try.func21 (by kernel_rfl) (by kernel_rfl) args
theorem sz45 : (Try.prog.info? 45).map (·.size) = some 2 := by kernel_rfl
theorem cf50 : ∀ (w : World) (args : Array Value), (callFunc 50 args).run Try.prog w = .ok (.enter 50 args) w := fun _ args => cf_of Try.func50 (by kernel_rfl) (by kernel_rfl) args
theorem cf87 : ∀ (w : World) (args : Array Value), (callFunc 87 args).run Try.prog w = .ok (.enter 87 args) w := fun _ args => cf_of Try.func87 (by kernel_rfl) (by kernel_rfl) args
theorem cf27 : ∀ (w : World) (args : Array Value), (callFunc 27 args).run Try.prog w = .ok (.enter 27 args) w := fun _ args => cf_of Try.func27 (by kernel_rfl) (by kernel_rfl) args
end Go.Cb
