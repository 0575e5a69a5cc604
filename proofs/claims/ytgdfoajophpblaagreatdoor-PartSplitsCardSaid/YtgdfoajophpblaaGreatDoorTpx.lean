/- The types of the program and the small facts that the walks use. -/
import Derived.Test.YtgdfoajophpblaaGreatDoorApx1
import Derived.Test.YtgdfoajophpblaaGreatDoorProg
set_option linter.unusedVariables false
set_option linter.unusedSimpArgs false
namespace Go.Cb
open Go.Proofs Go.RowKit
structure S_api_Node where
  Path : ByteArray
  Data : ByteArray
  Version : Int
  Turn : Int
  Owner : Int
  deriving DecidableEq, Inhabited
def k_api_Node : Kd S_api_Node := kMap (kP kS (kP kS (kP (kI .i64) (kP (kI .i64) (kI .i64))))) fun x => (x.Path, (x.Data, (x.Version, (x.Turn, x.Owner))))
theorem k_api_Node_open {w : World} {ok : Nat → Prop} {x : S_api_Node} {cs : List Value} (h : k_api_Node.R w ok x cs) : cs = [.string x.Path, .string x.Data, .int .i64 x.Version, .int .i64 x.Turn, .int .i64 x.Owner] := by
  obtain ⟨c0, d0, rfl, h0, c1, d1, rfl, h1, c2, d2, rfl, h2, c3, d3, rfl, h3, h4⟩ := h
  have e0 : c0 = [.string x.Path] := h0
  subst e0
  have e1 : c1 = [.string x.Data] := h1
  subst e1
  have e2 : c2 = [.int .i64 x.Version] := h2
  subst e2
  have e3 : c3 = [.int .i64 x.Turn] := h3
  subst e3
  have e4 : d3 = [.int .i64 x.Owner] := h4
  subst e4
  rfl
theorem k_api_Node_mk {w : World} {ok : Nat → Prop} {x : S_api_Node}   : k_api_Node.R w ok x [.string x.Path, .string x.Data, .int .i64 x.Version, .int .i64 x.Turn, .int .i64 x.Owner] := ⟨[.string x.Path], _, rfl, rfl, ⟨[.string x.Data], _, rfl, rfl, ⟨[.int .i64 x.Version], _, rfl, rfl, ⟨[.int .i64 x.Turn], _, rfl, rfl, rfl⟩⟩⟩⟩
abbrev l_api_Node (x : S_api_Node) : List Value := [.string x.Path, .string x.Data, .int .i64 x.Version, .int .i64 x.Turn, .int .i64 x.Owner]
abbrev z_api_Node : List Value := [.string ⟨#[]⟩, .string ⟨#[]⟩, .int .i64 0, .int .i64 0, .int .i64 0]
theorem k_api_Node_at0 {w : World} {ok : Nat → Prop} {q : Addr} {x : S_api_Node} (h : (rAt k_api_Node q x).p w ok) : (rAt kS (q.add 0) x.Path).p w ok := by
  have h0 : (rAt (kP kS (kP kS (kP (kI .i64) (kP (kI .i64) (kI .i64))))) q ((x.Path, (x.Data, (x.Version, (x.Turn, x.Owner)))))).p w ok := h
  have h1 := (rAt_fst h0)
  simp only [show ∀ q : Addr, q.add 0 = q from fun q => by simp [Addr.add]]
  exact h1
theorem k_api_Node_aw0 {w : World} {ok : Nat → Prop} {q : Addr} {x : S_api_Node} {cs : List Value} (h : (rAw k_api_Node q x cs).p w ok) : ∃ c, (rAw kS (q.add 0) x.Path c).p w ok ∧ c = (cs.drop 0).take 1 := by
  have h0 : (rAw (kP kS (kP kS (kP (kI .i64) (kP (kI .i64) (kI .i64))))) q ((x.Path, (x.Data, (x.Version, (x.Turn, x.Owner))))) cs).p w ok := h
  have hl : cs.length = 5 := k_api_Node.len h.2.1
  have h1 := (rAw_fst h0)
  simp only [show ∀ q : Addr, q.add 0 = q from fun q => by simp [Addr.add]]
  refine ⟨_, h1, ?_⟩
  (try simp only [kP, kI, kB, kS, kL, kMap, Kd.scalar])
  all_goals (try (apply List.ext_getElem?; intro j; simp [List.getElem?_take, List.getElem?_drop]))
  all_goals (try (intros; (try split); (try omega); (try (rw [List.getElem?_eq_none (by omega)]))))
theorem k_api_Node_aw1 {w : World} {ok : Nat → Prop} {q : Addr} {x : S_api_Node} {cs : List Value} (h : (rAw k_api_Node q x cs).p w ok) : ∃ c, (rAw kS (q.add 1) x.Data c).p w ok ∧ c = (cs.drop 1).take 1 := by
  have h0 : (rAw (kP kS (kP kS (kP (kI .i64) (kP (kI .i64) (kI .i64))))) q ((x.Path, (x.Data, (x.Version, (x.Turn, x.Owner))))) cs).p w ok := h
  have hl : cs.length = 5 := k_api_Node.len h.2.1
  have h1 := (rAw_fst (rAw_snd h0))
  simp only [add_add, kP, kI, kB, kS, kL, kMap, Kd.scalar] at h1
  refine ⟨_, h1, ?_⟩
  (try simp only [kP, kI, kB, kS, kL, kMap, Kd.scalar])
  all_goals (try (apply List.ext_getElem?; intro j; simp [List.getElem?_take, List.getElem?_drop]))
  all_goals (try (intros; (try split); (try omega); (try (rw [List.getElem?_eq_none (by omega)]))))
theorem k_api_Node_at3 {w : World} {ok : Nat → Prop} {q : Addr} {x : S_api_Node} (h : (rAt k_api_Node q x).p w ok) : (rAt (kI .i64) (q.add 3) x.Turn).p w ok := by
  have h0 : (rAt (kP kS (kP kS (kP (kI .i64) (kP (kI .i64) (kI .i64))))) q ((x.Path, (x.Data, (x.Version, (x.Turn, x.Owner)))))).p w ok := h
  have h1 := (rAt_fst (rAt_snd (rAt_snd (rAt_snd h0))))
  simp only [add_add, kP, kI, kB, kS, kL, Kd.scalar] at h1
  exact h1
theorem k_api_Node_at4 {w : World} {ok : Nat → Prop} {q : Addr} {x : S_api_Node} (h : (rAt k_api_Node q x).p w ok) : (rAt (kI .i64) (q.add 4) x.Owner).p w ok := by
  have h0 : (rAt (kP kS (kP kS (kP (kI .i64) (kP (kI .i64) (kI .i64))))) q ((x.Path, (x.Data, (x.Version, (x.Turn, x.Owner)))))).p w ok := h
  have h1 := (rAt_snd (rAt_snd (rAt_snd (rAt_snd h0))))
  simp only [add_add, kP, kI, kB, kS, kL, Kd.scalar] at h1
  exact h1
def k_api_Node_flat : Flat k_api_Node := ⟨fun x => [.string x.Path, .string x.Data, .int .i64 x.Version, .int .i64 x.Turn, .int .i64 x.Owner], k_api_Node_open, k_api_Node_mk⟩
structure S_api_Turn where
  Dir : ByteArray
  Next : Int
  deriving DecidableEq, Inhabited
def k_api_Turn : Kd S_api_Turn := kMap (kP kS (kI .i64)) fun x => (x.Dir, x.Next)
theorem k_api_Turn_open {w : World} {ok : Nat → Prop} {x : S_api_Turn} {cs : List Value} (h : k_api_Turn.R w ok x cs) : cs = [.string x.Dir, .int .i64 x.Next] := by
  obtain ⟨c0, d0, rfl, h0, h1⟩ := h
  have e0 : c0 = [.string x.Dir] := h0
  subst e0
  have e1 : d0 = [.int .i64 x.Next] := h1
  subst e1
  rfl
theorem k_api_Turn_mk {w : World} {ok : Nat → Prop} {x : S_api_Turn}   : k_api_Turn.R w ok x [.string x.Dir, .int .i64 x.Next] := ⟨[.string x.Dir], _, rfl, rfl, rfl⟩
theorem k_api_Turn_at0 {w : World} {ok : Nat → Prop} {q : Addr} {x : S_api_Turn} (h : (rAt k_api_Turn q x).p w ok) : (rAt kS (q.add 0) x.Dir).p w ok := by
  have h0 : (rAt (kP kS (kI .i64)) q ((x.Dir, x.Next))).p w ok := h
  have h1 := (rAt_fst h0)
  simp only [show ∀ q : Addr, q.add 0 = q from fun q => by simp [Addr.add]]
  exact h1
theorem k_api_Turn_aw0 {w : World} {ok : Nat → Prop} {q : Addr} {x : S_api_Turn} {cs : List Value} (h : (rAw k_api_Turn q x cs).p w ok) : ∃ c, (rAw kS (q.add 0) x.Dir c).p w ok ∧ c = (cs.drop 0).take 1 := by
  have h0 : (rAw (kP kS (kI .i64)) q ((x.Dir, x.Next)) cs).p w ok := h
  have hl : cs.length = 2 := k_api_Turn.len h.2.1
  have h1 := (rAw_fst h0)
  simp only [show ∀ q : Addr, q.add 0 = q from fun q => by simp [Addr.add]]
  refine ⟨_, h1, ?_⟩
  (try simp only [kP, kI, kB, kS, kL, kMap, Kd.scalar])
  all_goals (try (apply List.ext_getElem?; intro j; simp [List.getElem?_take, List.getElem?_drop]))
  all_goals (try (intros; (try split); (try omega); (try (rw [List.getElem?_eq_none (by omega)]))))
theorem k_api_Turn_at1 {w : World} {ok : Nat → Prop} {q : Addr} {x : S_api_Turn} (h : (rAt k_api_Turn q x).p w ok) : (rAt (kI .i64) (q.add 1) x.Next).p w ok := by
  have h0 : (rAt (kP kS (kI .i64)) q ((x.Dir, x.Next))).p w ok := h
  have h1 := (rAt_snd h0)
  simp only [add_add, kP, kI, kB, kS, kL, Kd.scalar] at h1
  exact h1
def k_api_Turn_flat : Flat k_api_Turn := ⟨fun x => [.string x.Dir, .int .i64 x.Next], k_api_Turn_open, k_api_Turn_mk⟩
structure S_api_Op where
  Kind : Int
  Path : ByteArray
  Data : ByteArray
  Version : Int
  Owner : Int
  Turns : Bool
  deriving DecidableEq, Inhabited
def k_api_Op : Kd S_api_Op := kMap (kP (kI .i64) (kP kS (kP kS (kP (kI .i64) (kP (kI .i64) kB))))) fun x => (x.Kind, (x.Path, (x.Data, (x.Version, (x.Owner, x.Turns)))))
theorem k_api_Op_open {w : World} {ok : Nat → Prop} {x : S_api_Op} {cs : List Value} (h : k_api_Op.R w ok x cs) : cs = [.int .i64 x.Kind, .string x.Path, .string x.Data, .int .i64 x.Version, .int .i64 x.Owner, .bool x.Turns] := by
  obtain ⟨c0, d0, rfl, h0, c1, d1, rfl, h1, c2, d2, rfl, h2, c3, d3, rfl, h3, c4, d4, rfl, h4, h5⟩ := h
  have e0 : c0 = [.int .i64 x.Kind] := h0
  subst e0
  have e1 : c1 = [.string x.Path] := h1
  subst e1
  have e2 : c2 = [.string x.Data] := h2
  subst e2
  have e3 : c3 = [.int .i64 x.Version] := h3
  subst e3
  have e4 : c4 = [.int .i64 x.Owner] := h4
  subst e4
  have e5 : d4 = [.bool x.Turns] := h5
  subst e5
  rfl
theorem k_api_Op_mk {w : World} {ok : Nat → Prop} {x : S_api_Op}   : k_api_Op.R w ok x [.int .i64 x.Kind, .string x.Path, .string x.Data, .int .i64 x.Version, .int .i64 x.Owner, .bool x.Turns] := ⟨[.int .i64 x.Kind], _, rfl, rfl, ⟨[.string x.Path], _, rfl, rfl, ⟨[.string x.Data], _, rfl, rfl, ⟨[.int .i64 x.Version], _, rfl, rfl, ⟨[.int .i64 x.Owner], _, rfl, rfl, rfl⟩⟩⟩⟩⟩
abbrev l_api_Op (x : S_api_Op) : List Value := [.int .i64 x.Kind, .string x.Path, .string x.Data, .int .i64 x.Version, .int .i64 x.Owner, .bool x.Turns]
structure S_api_Result where
  Err : Int
  Path : ByteArray
  Data : ByteArray
  Version : Int
  Names : (List ByteArray)
  deriving DecidableEq, Inhabited
def k_api_Result : Kd S_api_Result := kMap (kP (kI .i64) (kP kS (kP kS (kP (kI .i64) (kL kS))))) fun x => (x.Err, (x.Path, (x.Data, (x.Version, x.Names))))
abbrev l_api_Result (x : S_api_Result) (v1 : Value) : List Value := [.int .i64 x.Err, .string x.Path, .string x.Data, .int .i64 x.Version, v1]
abbrev z_api_Result : List Value := [.int .i64 0, .string ⟨#[]⟩, .string ⟨#[]⟩, .int .i64 0, .slice none 0 0]
structure S_api_Done where
  Err : Int
  At : Int
  Results : (List S_api_Result)
  deriving DecidableEq, Inhabited
def k_api_Done : Kd S_api_Done := kMap (kP (kI .i64) (kP (kI .i64) (kL k_api_Result))) fun x => (x.Err, (x.At, x.Results))
def k_api_Op_flat : Flat k_api_Op := ⟨fun x => [.int .i64 x.Kind, .string x.Path, .string x.Data, .int .i64 x.Version, .int .i64 x.Owner, .bool x.Turns], k_api_Op_open, k_api_Op_mk⟩
structure S_api_Part where
  Kind : Int
  Dir : ByteArray
  Path : ByteArray
  Data : ByteArray
  Version : Int
  Owner : Int
  Turns : Bool
  deriving DecidableEq, Inhabited
def k_api_Part : Kd S_api_Part := kMap (kP (kI .i64) (kP kS (kP kS (kP kS (kP (kI .i64) (kP (kI .i64) kB)))))) fun x => (x.Kind, (x.Dir, (x.Path, (x.Data, (x.Version, (x.Owner, x.Turns))))))
theorem k_api_Part_open {w : World} {ok : Nat → Prop} {x : S_api_Part} {cs : List Value} (h : k_api_Part.R w ok x cs) : cs = [.int .i64 x.Kind, .string x.Dir, .string x.Path, .string x.Data, .int .i64 x.Version, .int .i64 x.Owner, .bool x.Turns] := by
  obtain ⟨c0, d0, rfl, h0, c1, d1, rfl, h1, c2, d2, rfl, h2, c3, d3, rfl, h3, c4, d4, rfl, h4, c5, d5, rfl, h5, h6⟩ := h
  have e0 : c0 = [.int .i64 x.Kind] := h0
  subst e0
  have e1 : c1 = [.string x.Dir] := h1
  subst e1
  have e2 : c2 = [.string x.Path] := h2
  subst e2
  have e3 : c3 = [.string x.Data] := h3
  subst e3
  have e4 : c4 = [.int .i64 x.Version] := h4
  subst e4
  have e5 : c5 = [.int .i64 x.Owner] := h5
  subst e5
  have e6 : d5 = [.bool x.Turns] := h6
  subst e6
  rfl
theorem k_api_Part_mk {w : World} {ok : Nat → Prop} {x : S_api_Part}   : k_api_Part.R w ok x [.int .i64 x.Kind, .string x.Dir, .string x.Path, .string x.Data, .int .i64 x.Version, .int .i64 x.Owner, .bool x.Turns] := ⟨[.int .i64 x.Kind], _, rfl, rfl, ⟨[.string x.Dir], _, rfl, rfl, ⟨[.string x.Path], _, rfl, rfl, ⟨[.string x.Data], _, rfl, rfl, ⟨[.int .i64 x.Version], _, rfl, rfl, ⟨[.int .i64 x.Owner], _, rfl, rfl, rfl⟩⟩⟩⟩⟩⟩
abbrev l_api_Part (x : S_api_Part) : List Value := [.int .i64 x.Kind, .string x.Dir, .string x.Path, .string x.Data, .int .i64 x.Version, .int .i64 x.Owner, .bool x.Turns]
abbrev z_api_Part : List Value := [.int .i64 0, .string ⟨#[]⟩, .string ⟨#[]⟩, .string ⟨#[]⟩, .int .i64 0, .int .i64 0, .bool false]
def k_api_Part_flat : Flat k_api_Part := ⟨fun x => [.int .i64 x.Kind, .string x.Dir, .string x.Path, .string x.Data, .int .i64 x.Version, .int .i64 x.Owner, .bool x.Turns], k_api_Part_open, k_api_Part_mk⟩
structure S_api_Piece where
  Op : Int
  Part : S_api_Part
  deriving DecidableEq, Inhabited
def k_api_Piece : Kd S_api_Piece := kMap (kP (kI .i64) k_api_Part) fun x => (x.Op, x.Part)
theorem k_api_Piece_open {w : World} {ok : Nat → Prop} {x : S_api_Piece} {cs : List Value} (h : k_api_Piece.R w ok x cs) : cs = [.int .i64 x.Op, .int .i64 x.Part.Kind, .string x.Part.Dir, .string x.Part.Path, .string x.Part.Data, .int .i64 x.Part.Version, .int .i64 x.Part.Owner, .bool x.Part.Turns] := by
  obtain ⟨c0, d0, rfl, h0, h1⟩ := h
  have e0 : c0 = [.int .i64 x.Op] := h0
  subst e0
  obtain ⟨rfl⟩ := k_api_Part_open h1
  rfl
theorem k_api_Piece_mk {w : World} {ok : Nat → Prop} {x : S_api_Piece}   : k_api_Piece.R w ok x [.int .i64 x.Op, .int .i64 x.Part.Kind, .string x.Part.Dir, .string x.Part.Path, .string x.Part.Data, .int .i64 x.Part.Version, .int .i64 x.Part.Owner, .bool x.Part.Turns] := ⟨[.int .i64 x.Op], _, rfl, rfl, k_api_Part_mk⟩
structure S_api_Store where
  Nodes : (List S_api_Node)
  Turns : (List S_api_Turn)
  deriving DecidableEq, Inhabited
def k_api_Store : Kd S_api_Store := kMap (kP (kL k_api_Node) (kL k_api_Turn)) fun x => (x.Nodes, x.Turns)
theorem k_api_Store_open {w : World} {ok : Nat → Prop} {x : S_api_Store} {cs : List Value} (h : k_api_Store.R w ok x cs) : ∃ v1 v2 : Value, cs = [v1, v2] ∧ Sl k_api_Node w ok v1 x.Nodes ∧ Sl k_api_Turn w ok v2 x.Turns := by
  obtain ⟨c0, d0, rfl, h0, h1⟩ := h
  obtain ⟨u0, rfl, g0⟩ := h0
  obtain ⟨u1, rfl, g1⟩ := h1
  exact ⟨u0, u1, rfl, g0, g1⟩
theorem k_api_Store_mk {w : World} {ok : Nat → Prop} {x : S_api_Store} {v1 : Value} {v2 : Value} (g1 : Sl k_api_Node w ok v1 x.Nodes) (g2 : Sl k_api_Turn w ok v2 x.Turns) : k_api_Store.R w ok x [v1, v2] := ⟨[v1], _, rfl, ⟨_, rfl, g1⟩, ⟨_, rfl, g2⟩⟩
theorem k_api_Store_get1 {w : World} {ok : Nat → Prop} {x : S_api_Store} {v1 v2 : Value} (h : k_api_Store.R w ok x [v1, v2]) : Sl k_api_Node w ok v1 x.Nodes := by
  obtain ⟨u0, u1, he, g0, g1⟩ := k_api_Store_open h
  cases he
  exact g0
theorem k_api_Store_get2 {w : World} {ok : Nat → Prop} {x : S_api_Store} {v1 v2 : Value} (h : k_api_Store.R w ok x [v1, v2]) : Sl k_api_Turn w ok v2 x.Turns := by
  obtain ⟨u0, u1, he, g0, g1⟩ := k_api_Store_open h
  cases he
  exact g1
theorem k_api_Store_at0 {w : World} {ok : Nat → Prop} {q : Addr} {x : S_api_Store} (h : (rAt k_api_Store q x).p w ok) : (rAt (kL k_api_Node) (q.add 0) x.Nodes).p w ok := by
  have h0 : (rAt (kP (kL k_api_Node) (kL k_api_Turn)) q ((x.Nodes, x.Turns))).p w ok := h
  have h1 := (rAt_fst h0)
  simp only [show ∀ q : Addr, q.add 0 = q from fun q => by simp [Addr.add]]
  exact h1
theorem k_api_Store_at1 {w : World} {ok : Nat → Prop} {q : Addr} {x : S_api_Store} (h : (rAt k_api_Store q x).p w ok) : (rAt (kL k_api_Turn) (q.add 1) x.Turns).p w ok := by
  have h0 : (rAt (kP (kL k_api_Node) (kL k_api_Turn)) q ((x.Nodes, x.Turns))).p w ok := h
  have h1 := (rAt_snd h0)
  simp only [add_add, kP, kI, kB, kS, kL, Kd.scalar] at h1
  exact h1
theorem k_api_Store_aw1 {w : World} {ok : Nat → Prop} {q : Addr} {x : S_api_Store} {cs : List Value} (h : (rAw k_api_Store q x cs).p w ok) : ∃ c, (rAw (kL k_api_Turn) (q.add 1) x.Turns c).p w ok ∧ c = (cs.drop 1).take 1 := by
  have h0 : (rAw (kP (kL k_api_Node) (kL k_api_Turn)) q ((x.Nodes, x.Turns)) cs).p w ok := h
  have hl : cs.length = 2 := k_api_Store.len h.2.1
  have h1 := (rAw_snd h0)
  simp only [add_add, kP, kI, kB, kS, kL, kMap, Kd.scalar] at h1
  refine ⟨_, h1, ?_⟩
  (try simp only [kP, kI, kB, kS, kL, kMap, Kd.scalar])
  all_goals (try (apply List.ext_getElem?; intro j; simp [List.getElem?_take, List.getElem?_drop]))
  all_goals (try (intros; (try split); (try omega); (try (rw [List.getElem?_eq_none (by omega)]))))
def k_api_Piece_flat : Flat k_api_Piece := ⟨fun x => [.int .i64 x.Op, .int .i64 x.Part.Kind, .string x.Part.Dir, .string x.Part.Path, .string x.Part.Data, .int .i64 x.Part.Version, .int .i64 x.Part.Owner, .bool x.Part.Turns], k_api_Piece_open, k_api_Piece_mk⟩
structure S_part_work where
  Store : S_api_Store
  r_ : S_api_Result
  deriving DecidableEq, Inhabited
def k_part_work : Kd S_part_work := kMap (kP k_api_Store k_api_Result) fun x => (x.Store, x.r_)
theorem inf80 : (Tryz.prog.info? 80).map (fun i => (i.zero, i.size, i.bytes)) = some (some (.agg #[.string ⟨#[]⟩, .string ⟨#[]⟩, .int .i64 0, .int .i64 0, .int .i64 0]), 5, 56) := by kernel_rfl
theorem sz80 : (Tryz.prog.info? 80).map (·.size) = some 5 := by kernel_rfl
theorem inf83 : (Tryz.prog.info? 83).map (fun i => (i.zero, i.size, i.bytes)) = some (some (.agg #[.string ⟨#[]⟩, .int .i64 0]), 2, 24) := by kernel_rfl
theorem sz83 : (Tryz.prog.info? 83).map (·.size) = some 2 := by kernel_rfl
theorem sz55 : (Tryz.prog.info? 55).map (·.size) = some 6 := by kernel_rfl
theorem cf55 : ∀ (w : World) (args : Array Value), (callFunc 55 args).run Tryz.prog w = .ok (.enter 55 args) w := fun _ args => cf_of Tryz.func55 (by kernel_rfl) (by kernel_rfl) args
theorem fa80_0 : ∀ (w : World) (q : Addr), (Instr.fieldAt 80 (.pointer (some q)) 0).run Tryz.prog w = .ok (.pointer (some (q.add 0))) w := fun w q => by kernel_rfl
theorem fa80_4 : ∀ (w : World) (q : Addr), (Instr.fieldAt 80 (.pointer (some q)) 4).run Tryz.prog w = .ok (.pointer (some (q.add 4))) w := fun w q => by kernel_rfl
theorem zr80 : (Tryz.prog.info? 80).bind (·.zero) = some (.agg z_api_Node.toArray) := by kernel_rfl
theorem cf111 : ∀ (w : World) (args : Array Value), (callFunc 111 args).run Tryz.prog w = .ok (.enter 111 args) w := fun _ args => cf_of Tryz.func111 (by kernel_rfl) (by kernel_rfl) args
theorem cf149 : ∀ (w : World) (args : Array Value), (callFunc 149 args).run Tryz.prog w = .ok (.enter 149 args) w := fun _ args => cf_of Tryz.func149 (by kernel_rfl) (by kernel_rfl) args
theorem cf98 : ∀ (w : World) (args : Array Value), (callFunc 98 args).run Tryz.prog w = .ok (.enter 98 args) w := fun _ args => cf_of Tryz.func98 (by kernel_rfl) (by kernel_rfl) args
theorem cf145 : ∀ (w : World) (args : Array Value), (callFunc 145 args).run Tryz.prog w = .ok (.enter 145 args) w := fun _ args => cf_of Tryz.func145 (by kernel_rfl) (by kernel_rfl) args
theorem cf165 : ∀ (w : World) (args : Array Value), (callFunc 165 args).run Tryz.prog w = .ok (.enter 165 args) w := fun _ args => cf_of Tryz.func165 (by kernel_rfl) (by kernel_rfl) args
theorem cf187 : ∀ (w : World) (args : Array Value), (callFunc 187 args).run Tryz.prog w = .ok (.enter 187 args) w := fun _ args => cf_of Tryz.func187 (by kernel_rfl) (by kernel_rfl) args
theorem cf201 : ∀ (w : World) (args : Array Value), (callFunc 201 args).run Tryz.prog w = .ok (.enter 201 args) w := fun _ args => cf_of Tryz.func201 (by kernel_rfl) (by kernel_rfl) args
theorem cf166 : ∀ (w : World) (args : Array Value), (callFunc 166 args).run Tryz.prog w = .ok (.enter 166 args) w := fun _ args => cf_of Tryz.func166 (by kernel_rfl) (by kernel_rfl) args
theorem cf188 : ∀ (w : World) (args : Array Value), (callFunc 188 args).run Tryz.prog w = .ok (.enter 188 args) w := fun _ args => cf_of Tryz.func188 (by kernel_rfl) (by kernel_rfl) args
theorem ext202 : ∀ (w : World) (s : ByteArray) (c : Int), (callFunc 202 #[.string s, .int .u8 c]).run Tryz.prog w = .ok (.value (.int .i64 (ixB s c))) w := fun w s c => ext_of Tryz.func202 (by kernel_rfl) (by kernel_rfl) (by kernel_rfl) (e := Extern.BytealgIndexByte.indexByte) (by kernel_rfl) (run_ixB s c w)
theorem cf151 : ∀ (w : World) (args : Array Value), (callFunc 151 args).run Tryz.prog w = .ok (.enter 151 args) w := fun _ args => cf_of Tryz.func151 (by kernel_rfl) (by kernel_rfl) args
theorem cf180 : ∀ (w : World) (args : Array Value), (callFunc 180 args).run Tryz.prog w = .ok (.enter 180 args) w := fun _ args => cf_of Tryz.func180 (by kernel_rfl) (by kernel_rfl) args
theorem cf196 : ∀ (w : World) (args : Array Value), (callFunc 196 args).run Tryz.prog w = .ok (.enter 196 args) w := fun _ args => cf_of Tryz.func196 (by kernel_rfl) (by kernel_rfl) args
theorem cf208 : ∀ (w : World) (args : Array Value), (callFunc 208 args).run Tryz.prog w = .ok (.enter 208 args) w := fun _ args => cf_of Tryz.func208 (by kernel_rfl) (by kernel_rfl) args
theorem cf181 : ∀ (w : World) (args : Array Value), (callFunc 181 args).run Tryz.prog w = .ok (.enter 181 args) w := fun _ args => cf_of Tryz.func181 (by kernel_rfl) (by kernel_rfl) args
theorem cf182 : ∀ (w : World) (args : Array Value), (callFunc 182 args).run Tryz.prog w = .ok (.enter 182 args) w := fun _ args => cf_of Tryz.func182 (by kernel_rfl) (by kernel_rfl) args
theorem cf197 : ∀ (w : World) (args : Array Value), (callFunc 197 args).run Tryz.prog w = .ok (.enter 197 args) w := fun _ args => cf_of Tryz.func197 (by kernel_rfl) (by kernel_rfl) args
theorem cf209 : ∀ (w : World) (args : Array Value), (callFunc 209 args).run Tryz.prog w = .ok (.enter 209 args) w := fun _ args => cf_of Tryz.func209 (by kernel_rfl) (by kernel_rfl) args
theorem inf9 : (Tryz.prog.info? 9).map (fun i => (i.zero, i.size, i.bytes)) = some (some (.string ⟨#[]⟩), 1, 16) := by kernel_rfl
theorem cf178 : ∀ (w : World) (args : Array Value), (callFunc 178 args).run Tryz.prog w = .ok (.enter 178 args) w := fun _ args => cf_of Tryz.func178 (by kernel_rfl) (by kernel_rfl) args
theorem cf194 : ∀ (w : World) (args : Array Value), (callFunc 194 args).run Tryz.prog w = .ok (.enter 194 args) w := fun _ args => cf_of Tryz.func194 (by kernel_rfl) (by kernel_rfl) args
theorem cf112 : ∀ (w : World) (args : Array Value), (callFunc 112 args).run Tryz.prog w = .ok (.enter 112 args) w := fun _ args => cf_of Tryz.func112 (by kernel_rfl) (by kernel_rfl) args
theorem fa80_1 : ∀ (w : World) (q : Addr), (Instr.fieldAt 80 (.pointer (some q)) 1).run Tryz.prog w = .ok (.pointer (some (q.add 1))) w := fun w q => by kernel_rfl
theorem fa80_2 : ∀ (w : World) (q : Addr), (Instr.fieldAt 80 (.pointer (some q)) 2).run Tryz.prog w = .ok (.pointer (some (q.add 2))) w := fun w q => by kernel_rfl
theorem cf109 : ∀ (w : World) (args : Array Value), (callFunc 109 args).run Tryz.prog w = .ok (.enter 109 args) w := fun _ args => cf_of Tryz.func109 (by kernel_rfl) (by kernel_rfl) args
theorem fa80_3 : ∀ (w : World) (q : Addr), (Instr.fieldAt 80 (.pointer (some q)) 3).run Tryz.prog w = .ok (.pointer (some (q.add 3))) w := fun w q => by kernel_rfl
theorem zer3 : (Tryz.prog.info? 3).bind (·.zero) = some (.int .i64 0) := by kernel_rfl
theorem cf53 : ∀ (w : World) (args : Array Value), (callFunc 53 args).run Tryz.prog w = .ok (.enter 53 args) w := fun _ args => cf_of Tryz.func53 (by kernel_rfl) (by kernel_rfl) args
theorem fa55_0 : ∀ (w : World) (q : Addr), (Instr.fieldAt 55 (.pointer (some q)) 0).run Tryz.prog w = .ok (.pointer (some (q.add 0))) w := fun w q => by kernel_rfl
theorem fa55_1 : ∀ (w : World) (q : Addr), (Instr.fieldAt 55 (.pointer (some q)) 1).run Tryz.prog w = .ok (.pointer (some (q.add 1))) w := fun w q => by kernel_rfl
theorem fa55_2 : ∀ (w : World) (q : Addr), (Instr.fieldAt 55 (.pointer (some q)) 2).run Tryz.prog w = .ok (.pointer (some (q.add 2))) w := fun w q => by kernel_rfl
theorem fa55_4 : ∀ (w : World) (q : Addr), (Instr.fieldAt 55 (.pointer (some q)) 4).run Tryz.prog w = .ok (.pointer (some (q.add 4))) w := fun w q => by kernel_rfl
theorem fa55_3 : ∀ (w : World) (q : Addr), (Instr.fieldAt 55 (.pointer (some q)) 3).run Tryz.prog w = .ok (.pointer (some (q.add 3))) w := fun w q => by kernel_rfl
theorem fa55_5 : ∀ (w : World) (q : Addr), (Instr.fieldAt 55 (.pointer (some q)) 5).run Tryz.prog w = .ok (.pointer (some (q.add 5))) w := fun w q => by kernel_rfl
theorem cf110 : ∀ (w : World) (args : Array Value), (callFunc 110 args).run Tryz.prog w = .ok (.enter 110 args) w := fun _ args => cf_of Tryz.func110 (by kernel_rfl) (by kernel_rfl) args
theorem zr123 : (Tryz.prog.info? 123).bind (·.zero) = some (.agg #[.int .i64 0, .int .i64 0, .int .i64 0, .int .i64 0, .int .i64 0, .int .i64 0, .int .i64 0, .int .i64 0]) := by kernel_rfl
theorem sz123 : (Tryz.prog.info? 123).map (·.size) = some 8 := by kernel_rfl
theorem sz3 : (Tryz.prog.info? 3).map (·.size) = some 1 := by kernel_rfl
theorem fa30_0 : ∀ (w : World) (q : Addr), (Instr.fieldAt 30 (.pointer (some q)) 0).run Tryz.prog w = .ok (.pointer (some (q.add 0))) w := fun w q => by kernel_rfl
theorem zr51 : (Tryz.prog.info? 51).bind (·.zero) = some (.agg z_api_Result.toArray) := by kernel_rfl
theorem sz51 : (Tryz.prog.info? 51).map (·.size) = some 5 := by kernel_rfl
theorem cf108 : ∀ (w : World) (args : Array Value), (callFunc 108 args).run Tryz.prog w = .ok (.enter 108 args) w := fun _ args => cf_of Tryz.func108 (by kernel_rfl) (by kernel_rfl) args
theorem cf148 : ∀ (w : World) (args : Array Value), (callFunc 148 args).run Tryz.prog w = .ok (.enter 148 args) w := fun _ args => cf_of Tryz.func148 (by kernel_rfl) (by kernel_rfl) args
theorem ext177 : ∀ (w : World) (s t : ByteArray), (callFunc 177 #[.string s, .string t]).run Tryz.prog w = .ok (.value (.int .i64 (Extern.BytealgCompare.cmp s t))) w := fun w s t => ext_of Tryz.func177 (by kernel_rfl) (by kernel_rfl) (by kernel_rfl) (e := Extern.BytealgCompare.compare) (by kernel_rfl) (run_cmpB s t w)
theorem cf119 : ∀ (w : World) (args : Array Value), (callFunc 119 args).run Tryz.prog w = .ok (.enter 119 args) w := fun _ args => cf_of Tryz.func119 (by kernel_rfl) (by kernel_rfl) args
theorem cf118 : ∀ (w : World) (args : Array Value), (callFunc 118 args).run Tryz.prog w = .ok (.enter 118 args) w := fun _ args => cf_of Tryz.func118 (by kernel_rfl) (by kernel_rfl) args
theorem cf150 : ∀ (w : World) (args : Array Value), (callFunc 150 args).run Tryz.prog w = .ok (.enter 150 args) w := fun _ args => cf_of Tryz.func150 (by kernel_rfl) (by kernel_rfl) args
theorem cf120 : ∀ (w : World) (args : Array Value), (callFunc 120 args).run Tryz.prog w = .ok (.enter 120 args) w := fun _ args => cf_of Tryz.func120 (by kernel_rfl) (by kernel_rfl) args
theorem cf152 : ∀ (w : World) (args : Array Value), (callFunc 152 args).run Tryz.prog w = .ok (.enter 152 args) w := fun _ args => cf_of Tryz.func152 (by kernel_rfl) (by kernel_rfl) args
theorem cf183 : ∀ (w : World) (args : Array Value), (callFunc 183 args).run Tryz.prog w = .ok (.enter 183 args) w := fun _ args => cf_of Tryz.func183 (by kernel_rfl) (by kernel_rfl) args
theorem cf198 : ∀ (w : World) (args : Array Value), (callFunc 198 args).run Tryz.prog w = .ok (.enter 198 args) w := fun _ args => cf_of Tryz.func198 (by kernel_rfl) (by kernel_rfl) args
theorem cf88 : ∀ (w : World) (args : Array Value), (callFunc 88 args).run Tryz.prog w = .ok (.enter 88 args) w := fun _ args => cf_of Tryz.func88 (by kernel_rfl) (by kernel_rfl) args
theorem lib_slices_Clone_api_Node_api_Node_rd {w : World} {os : List Ob} {rs : List Rp} {v : Value} {xs : List S_api_Node} (H : Sep w os rs) (hm : rSl k_api_Node v xs ∈ rs) (hl : xs.length ≤ LIM) :
    Calls Tryz.prog 88 [v].toArray w (Ret fun v' w' => Sep w' (Row 80 k_api_Node v' xs :: os) rs) := by
  obtain ⟨b, c, rfl⟩ := H.slform hm
  refine enter Tryz.func88 rfl Tryz.ntmps88 rfl fun a E => ?_
  simp only [enum, Nat.reduceAdd] at E
  refine wp_seq ?_
  refine wp_region_lit ?_
  refine st_val E (wn rfl) rfl rfl (x_assign E rfl rfl) ?_
  clear E; clear a; intro a E
  refine wpList_nil ?_
  refine q_then ?_
  refine wp_seq ?_
  refine wp_seq ?_
  refine wp_region_lit ?_
  refine st_val E (wn rfl) rfl rfl (x_move E rfl rfl) ?_
  clear E; clear a; intro a E
  refine st_val E (wn rfl) rfl rfl (x_slnil E rfl rfl rfl Tryz.underlying22) ?_
  clear E; clear a; intro a E
  refine wpList_nil ?_
  refine q_then ?_
  refine wp_if E rfl ?_ ?_
  · intro hb
    cases b with
    | some _ => cases hb
    | none =>
      obtain rfl := H.sl_none hm
      refine wp_seq ?_
      refine wp_region_lit ?_
      refine st_val E (wn rfl) rfl rfl (x_assign E rfl rfl) ?_
      clear E; clear a; intro a E
      refine wpList_nil ?_
      refine q_then ?_
      refine wp_ret ?_
      refine q_thenR ?_
      refine out1 E rfl rfl ?_
      exact H.nilRow 80 k_api_Node
  · intro hb
    refine wp_skip ?_
    refine q_then ?_
    refine wp_seq ?_
    refine wp_region_lit ?_
    refine st_bsO (e := 80) (d := k_api_Node) (cs := []) (xs := []) E H (wn rfl) rfl rfl (ps := []) (parts := []) rfl rfl (by kernel_rfl) rfl rfl (fun ok hr => Rows.nil _ _ _) ?_
    clear E H; clear a; clear w; intro v2 w a H E
    refine st_val E (wn rfl) rfl rfl (x_move E rfl rfl) ?_
    clear E; clear a; intro a E
    refine st_append (i := 0) E H (wn rfl) rfl rfl rfl rfl rfl rfl (src_rd hm) Tryz.underlying22 inf80 rfl (by simpa using hl) rfl ?_
    clear E H; clear a; clear w; intro v3 w a H E
    refine st_val E (wn rfl) rfl rfl (x_assign E rfl rfl) ?_
    clear E; clear a; intro a E
    refine wpList_nil ?_
    refine q_then ?_
    refine wp_ret ?_
    refine out1 E rfl rfl ?_
    exact H

theorem sz2 : (Tryz.prog.info? 2).map (·.size) = some 1 := by kernel_rfl
theorem cf121 : ∀ (w : World) (args : Array Value), (callFunc 121 args).run Tryz.prog w = .ok (.enter 121 args) w := fun _ args => cf_of Tryz.func121 (by kernel_rfl) (by kernel_rfl) args
theorem zr9 : (Tryz.prog.info? 9).bind (·.zero) = some (.string ⟨#[]⟩) := by kernel_rfl
theorem sz9 : (Tryz.prog.info? 9).map (·.size) = some 1 := by kernel_rfl
theorem cf127 : ∀ (w : World) (args : Array Value), (callFunc 127 args).run Tryz.prog w = .ok (.enter 127 args) w := fun _ args => cf_of Tryz.func127 (by kernel_rfl) (by kernel_rfl) args
theorem cf143 : ∀ (w : World) (args : Array Value), (callFunc 143 args).run Tryz.prog w = .ok (.enter 143 args) w := fun _ args => cf_of Tryz.func143 (by kernel_rfl) (by kernel_rfl) args
theorem fa51_4 : ∀ (w : World) (q : Addr), (Instr.fieldAt 51 (.pointer (some q)) 4).run Tryz.prog w = .ok (.pointer (some (q.add 4))) w := fun w q => by kernel_rfl
theorem sz49 : (Tryz.prog.info? 49).map (·.size) = some 1 := by kernel_rfl
theorem zrw80 : (Tryz.prog.info? 80).bind (·.zero) = some (.agg #[.string ⟨#[]⟩, .string ⟨#[]⟩, .int .i64 0, .int .i64 0, .int .i64 0]) := by kernel_rfl
theorem cf94 : ∀ (w : World) (args : Array Value), (callFunc 94 args).run Tryz.prog w = .ok (.enter 94 args) w := fun _ args => cf_of Tryz.func94 (by kernel_rfl) (by kernel_rfl) args
theorem cf126 : ∀ (w : World) (args : Array Value), (callFunc 126 args).run Tryz.prog w = .ok (.enter 126 args) w := fun _ args => cf_of Tryz.func126 (by kernel_rfl) (by kernel_rfl) args
theorem fa51_0 : ∀ (w : World) (q : Addr), (Instr.fieldAt 51 (.pointer (some q)) 0).run Tryz.prog w = .ok (.pointer (some (q.add 0))) w := fun w q => by kernel_rfl
theorem fa30_1 : ∀ (w : World) (q : Addr), (Instr.fieldAt 30 (.pointer (some q)) 1).run Tryz.prog w = .ok (.pointer (some (q.add 1))) w := fun w q => by kernel_rfl
theorem fa30_2 : ∀ (w : World) (q : Addr), (Instr.fieldAt 30 (.pointer (some q)) 2).run Tryz.prog w = .ok (.pointer (some (q.add 2))) w := fun w q => by kernel_rfl
theorem cf37 : ∀ (w : World) (args : Array Value), (callFunc 37 args).run Tryz.prog w = .ok (.enter 37 args) w := fun _ args => cf_of Tryz.func37 (by kernel_rfl) (by kernel_rfl) args
theorem zr59 : (Tryz.prog.info? 59).bind (·.zero) = some (.slice none 0 0) := by kernel_rfl
theorem cf73 : ∀ (w : World) (args : Array Value), (callFunc 73 args).run Tryz.prog w = .ok (.enter 73 args) w := fun _ args => cf_of Tryz.func73 (by kernel_rfl) (by kernel_rfl) args
theorem zr96 : (Tryz.prog.info? 96).bind (·.zero) = some (.nilFunc) := by kernel_rfl
theorem sz96 : (Tryz.prog.info? 96).map (·.size) = some 1 := by kernel_rfl
theorem cf74 : ∀ (w : World) (args : Array Value), (callFunc 74 args).run Tryz.prog w = .ok (.enter 74 args) w := fun _ args => cf_of Tryz.func74 (by kernel_rfl) (by kernel_rfl) args
theorem zr62 : (Tryz.prog.info? 62).bind (·.zero) = some (.agg z_api_Part.toArray) := by kernel_rfl
theorem sz62 : (Tryz.prog.info? 62).map (·.size) = some 7 := by kernel_rfl
theorem fa62_3 : ∀ (w : World) (q : Addr), (Instr.fieldAt 62 (.pointer (some q)) 3).run Tryz.prog w = .ok (.pointer (some (q.add 3))) w := fun w q => by kernel_rfl
theorem fa62_5 : ∀ (w : World) (q : Addr), (Instr.fieldAt 62 (.pointer (some q)) 5).run Tryz.prog w = .ok (.pointer (some (q.add 5))) w := fun w q => by kernel_rfl
theorem fa62_6 : ∀ (w : World) (q : Addr), (Instr.fieldAt 62 (.pointer (some q)) 6).run Tryz.prog w = .ok (.pointer (some (q.add 6))) w := fun w q => by kernel_rfl
theorem sz4 : (Tryz.prog.info? 4).map (·.size) = some 1 := by kernel_rfl
theorem cf72 : ∀ (w : World) (args : Array Value), (callFunc 72 args).run Tryz.prog w = .ok (.enter 72 args) w := fun _ args => cf_of Tryz.func72 (by kernel_rfl) (by kernel_rfl) args
theorem inf62 : (Tryz.prog.info? 62).map (fun i => (i.zero, i.size, i.bytes)) = some (some (.agg #[.int .i64 0, .string ⟨#[]⟩, .string ⟨#[]⟩, .string ⟨#[]⟩, .int .i64 0, .int .i64 0, .bool false]), 7, 80) := by kernel_rfl
theorem sz59 : (Tryz.prog.info? 59).map (·.size) = some 1 := by kernel_rfl
theorem cf76 : ∀ (w : World) (args : Array Value), (callFunc 76 args).run Tryz.prog w = .ok (.enter 76 args) w := fun _ args => cf_of Tryz.func76 (by kernel_rfl) (by kernel_rfl) args
theorem fa62_4 : ∀ (w : World) (q : Addr), (Instr.fieldAt 62 (.pointer (some q)) 4).run Tryz.prog w = .ok (.pointer (some (q.add 4))) w := fun w q => by kernel_rfl
theorem cf75 : ∀ (w : World) (args : Array Value), (callFunc 75 args).run Tryz.prog w = .ok (.enter 75 args) w := fun _ args => cf_of Tryz.func75 (by kernel_rfl) (by kernel_rfl) args
theorem cf39 : ∀ (w : World) (args : Array Value), (callFunc 39 args).run Tryz.prog w = .ok (.enter 39 args) w := fun _ args => cf_of Tryz.func39 (by kernel_rfl) (by kernel_rfl) args
theorem zr41 : (Tryz.prog.info? 41).bind (·.zero) = some (.agg #[.slice none 0 0, .slice none 0 0]) := by kernel_rfl
theorem fa41_1 : ∀ (w : World) (q : Addr), (Instr.fieldAt 41 (.pointer (some q)) 1).run Tryz.prog w = .ok (.pointer (some (q.add 1))) w := fun w q => by kernel_rfl
theorem sz39 : (Tryz.prog.info? 39).map (·.size) = some 1 := by kernel_rfl
theorem fa41_0 : ∀ (w : World) (q : Addr), (Instr.fieldAt 41 (.pointer (some q)) 0).run Tryz.prog w = .ok (.pointer (some (q.add 0))) w := fun w q => by kernel_rfl
theorem sz22 : (Tryz.prog.info? 22).map (·.size) = some 1 := by kernel_rfl
theorem sz41 : (Tryz.prog.info? 41).map (·.size) = some 2 := by kernel_rfl
theorem fa64_1 : ∀ (w : World) (q : Addr), (Instr.fieldAt 64 (.pointer (some q)) 1).run Tryz.prog w = .ok (.pointer (some (q.add 1))) w := fun w q => by kernel_rfl
theorem cf42 : ∀ (w : World) (args : Array Value), (callFunc 42 args).run Tryz.prog w = .ok (.enter 42 args) w := fun _ args => cf_of Tryz.func42 (by kernel_rfl) (by kernel_rfl) args
theorem zr101 : (Tryz.prog.info? 101).bind (·.zero) = some (.agg #[.nilFunc, .nilFunc, .nilFunc, .nilFunc, .nilFunc, .nilFunc, .nilFunc, .nilFunc, .nilFunc, .nilFunc, .nilFunc]) := by kernel_rfl
theorem sz101 : (Tryz.prog.info? 101).map (·.size) = some 11 := by kernel_rfl
theorem cf44 : ∀ (w : World) (args : Array Value), (callFunc 44 args).run Tryz.prog w = .ok (.enter 44 args) w := fun _ args => cf_of Tryz.func44 (by kernel_rfl) (by kernel_rfl) args
theorem cf95 : ∀ (w : World) (args : Array Value), (callFunc 95 args).run Tryz.prog w = .ok (.enter 95 args) w := fun _ args => cf_of Tryz.func95 (by kernel_rfl) (by kernel_rfl) args
theorem cf77 : ∀ (w : World) (args : Array Value), (callFunc 77 args).run Tryz.prog w = .ok (.enter 77 args) w := fun _ args => cf_of Tryz.func77 (by kernel_rfl) (by kernel_rfl) args
theorem cf99 : ∀ (w : World) (args : Array Value), (callFunc 99 args).run Tryz.prog w = .ok (.enter 99 args) w := fun _ args => cf_of Tryz.func99 (by kernel_rfl) (by kernel_rfl) args
theorem cf96 : ∀ (w : World) (args : Array Value), (callFunc 96 args).run Tryz.prog w = .ok (.enter 96 args) w := fun _ args => cf_of Tryz.func96 (by kernel_rfl) (by kernel_rfl) args
theorem cf144 : ∀ (w : World) (args : Array Value), (callFunc 144 args).run Tryz.prog w = .ok (.enter 144 args) w := fun _ args => cf_of Tryz.func144 (by kernel_rfl) (by kernel_rfl) args
theorem cf97 : ∀ (w : World) (args : Array Value), (callFunc 97 args).run Tryz.prog w = .ok (.enter 97 args) w := fun _ args => cf_of Tryz.func97 (by kernel_rfl) (by kernel_rfl) args
theorem fa83_0 : ∀ (w : World) (q : Addr), (Instr.fieldAt 83 (.pointer (some q)) 0).run Tryz.prog w = .ok (.pointer (some (q.add 0))) w := fun w q => by kernel_rfl
theorem fa83_1 : ∀ (w : World) (q : Addr), (Instr.fieldAt 83 (.pointer (some q)) 1).run Tryz.prog w = .ok (.pointer (some (q.add 1))) w := fun w q => by kernel_rfl
theorem cf100 : ∀ (w : World) (args : Array Value), (callFunc 100 args).run Tryz.prog w = .ok (.enter 100 args) w := fun _ args => cf_of Tryz.func100 (by kernel_rfl) (by kernel_rfl) args
theorem cf101 : ∀ (w : World) (args : Array Value), (callFunc 101 args).run Tryz.prog w = .ok (.enter 101 args) w := fun _ args => cf_of Tryz.func101 (by kernel_rfl) (by kernel_rfl) args
theorem cf102 : ∀ (w : World) (args : Array Value), (callFunc 102 args).run Tryz.prog w = .ok (.enter 102 args) w := fun _ args => cf_of Tryz.func102 (by kernel_rfl) (by kernel_rfl) args
theorem cf103 : ∀ (w : World) (args : Array Value), (callFunc 103 args).run Tryz.prog w = .ok (.enter 103 args) w := fun _ args => cf_of Tryz.func103 (by kernel_rfl) (by kernel_rfl) args
theorem cf38 : ∀ (w : World) (args : Array Value), (callFunc 38 args).run Tryz.prog w = .ok (.enter 38 args) w := fun _ args => cf_of Tryz.func38 (by kernel_rfl) (by kernel_rfl) args
theorem fa62_2 : ∀ (w : World) (q : Addr), (Instr.fieldAt 62 (.pointer (some q)) 2).run Tryz.prog w = .ok (.pointer (some (q.add 2))) w := fun w q => by kernel_rfl
theorem fa62_0 : ∀ (w : World) (q : Addr), (Instr.fieldAt 62 (.pointer (some q)) 0).run Tryz.prog w = .ok (.pointer (some (q.add 0))) w := fun w q => by kernel_rfl
theorem fa62_1 : ∀ (w : World) (q : Addr), (Instr.fieldAt 62 (.pointer (some q)) 1).run Tryz.prog w = .ok (.pointer (some (q.add 1))) w := fun w q => by kernel_rfl
theorem cf89 : ∀ (w : World) (args : Array Value), (callFunc 89 args).run Tryz.prog w = .ok (.enter 89 args) w := fun _ args => cf_of Tryz.func89 (by kernel_rfl) (by kernel_rfl) args
theorem lib_slices_Clone_api_Turn_api_Turn_rd {w : World} {os : List Ob} {rs : List Rp} {v : Value} {xs : List S_api_Turn} (H : Sep w os rs) (hm : rSl k_api_Turn v xs ∈ rs) (hl : xs.length ≤ LIM) :
    Calls Tryz.prog 89 [v].toArray w (Ret fun v' w' => Sep w' (Row 83 k_api_Turn v' xs :: os) rs) := by
  obtain ⟨b, c, rfl⟩ := H.slform hm
  refine enter Tryz.func89 rfl Tryz.ntmps89 rfl fun a E => ?_
  simp only [enum, Nat.reduceAdd] at E
  refine wp_seq ?_
  refine wp_region_lit ?_
  refine st_val E (wn rfl) rfl rfl (x_assign E rfl rfl) ?_
  clear E; clear a; intro a E
  refine wpList_nil ?_
  refine q_then ?_
  refine wp_seq ?_
  refine wp_seq ?_
  refine wp_region_lit ?_
  refine st_val E (wn rfl) rfl rfl (x_move E rfl rfl) ?_
  clear E; clear a; intro a E
  refine st_val E (wn rfl) rfl rfl (x_slnil E rfl rfl rfl Tryz.underlying39) ?_
  clear E; clear a; intro a E
  refine wpList_nil ?_
  refine q_then ?_
  refine wp_if E rfl ?_ ?_
  · intro hb
    cases b with
    | some _ => cases hb
    | none =>
      obtain rfl := H.sl_none hm
      refine wp_seq ?_
      refine wp_region_lit ?_
      refine st_val E (wn rfl) rfl rfl (x_assign E rfl rfl) ?_
      clear E; clear a; intro a E
      refine wpList_nil ?_
      refine q_then ?_
      refine wp_ret ?_
      refine q_thenR ?_
      refine out1 E rfl rfl ?_
      exact H.nilRow 83 k_api_Turn
  · intro hb
    refine wp_skip ?_
    refine q_then ?_
    refine wp_seq ?_
    refine wp_region_lit ?_
    refine st_bsO (e := 83) (d := k_api_Turn) (cs := []) (xs := []) E H (wn rfl) rfl rfl (ps := []) (parts := []) rfl rfl (by kernel_rfl) rfl rfl (fun ok hr => Rows.nil _ _ _) ?_
    clear E H; clear a; clear w; intro v2 w a H E
    refine st_val E (wn rfl) rfl rfl (x_move E rfl rfl) ?_
    clear E; clear a; intro a E
    refine st_append (i := 0) E H (wn rfl) rfl rfl rfl rfl rfl rfl (src_rd hm) Tryz.underlying39 inf83 rfl (by simpa using hl) rfl ?_
    clear E H; clear a; clear w; intro v3 w a H E
    refine st_val E (wn rfl) rfl rfl (x_assign E rfl rfl) ?_
    clear E; clear a; intro a E
    refine wpList_nil ?_
    refine q_then ?_
    refine wp_ret ?_
    refine out1 E rfl rfl ?_
    exact H

theorem sz98 : (Tryz.prog.info? 98).map (·.size) = some 1 := by kernel_rfl
theorem cf87 : ∀ (w : World) (args : Array Value), (callFunc 87 args).run Tryz.prog w = .ok (.enter 87 args) w := fun _ args => cf_of Tryz.func87 (by kernel_rfl) (by kernel_rfl) args
theorem cf137 : ∀ (w : World) (args : Array Value), (callFunc 137 args).run Tryz.prog w = .ok (.enter 137 args) w := fun _ args => cf_of Tryz.func137 (by kernel_rfl) (by kernel_rfl) args
theorem zr109 : (Tryz.prog.info? 109).bind (·.zero) = some (.nilFunc) := by kernel_rfl
theorem sz109 : (Tryz.prog.info? 109).map (·.size) = some 1 := by kernel_rfl
theorem fa105_0 : ∀ (w : World) (q : Addr), (Instr.fieldAt 105 (.pointer (some q)) 0).run Tryz.prog w = .ok (.pointer (some (q.add 0))) w := fun w q => by kernel_rfl
theorem cf139 : ∀ (w : World) (args : Array Value), (callFunc 139 args).run Tryz.prog w = .ok (.enter 139 args) w := fun _ args => cf_of Tryz.func139 (by kernel_rfl) (by kernel_rfl) args
theorem cf162 : ∀ (w : World) (args : Array Value), (callFunc 162 args).run Tryz.prog w = .ok (.enter 162 args) w := fun _ args => cf_of Tryz.func162 (by kernel_rfl) (by kernel_rfl) args
theorem fa105_1 : ∀ (w : World) (q : Addr), (Instr.fieldAt 105 (.pointer (some q)) 1).run Tryz.prog w = .ok (.pointer (some (q.add 2))) w := fun w q => by kernel_rfl
theorem cf86 : ∀ (w : World) (args : Array Value), (callFunc 86 args).run Tryz.prog w = .ok (.enter 86 args) w := fun _ args => cf_of Tryz.func86 (by kernel_rfl) (by kernel_rfl) args
theorem cf85 : ∀ (w : World) (args : Array Value), (callFunc 85 args).run Tryz.prog w = .ok (.enter 85 args) w := fun _ args => cf_of Tryz.func85 (by kernel_rfl) (by kernel_rfl) args
theorem cf131 : ∀ (w : World) (args : Array Value), (callFunc 131 args).run Tryz.prog w = .ok (.enter 131 args) w := fun _ args => cf_of Tryz.func131 (by kernel_rfl) (by kernel_rfl) args
theorem cf135 : ∀ (w : World) (args : Array Value), (callFunc 135 args).run Tryz.prog w = .ok (.enter 135 args) w := fun _ args => cf_of Tryz.func135 (by kernel_rfl) (by kernel_rfl) args
theorem cf160 : ∀ (w : World) (args : Array Value), (callFunc 160 args).run Tryz.prog w = .ok (.enter 160 args) w := fun _ args => cf_of Tryz.func160 (by kernel_rfl) (by kernel_rfl) args
theorem cf161 : ∀ (w : World) (args : Array Value), (callFunc 161 args).run Tryz.prog w = .ok (.enter 161 args) w := fun _ args => cf_of Tryz.func161 (by kernel_rfl) (by kernel_rfl) args
theorem cf132 : ∀ (w : World) (args : Array Value), (callFunc 132 args).run Tryz.prog w = .ok (.enter 132 args) w := fun _ args => cf_of Tryz.func132 (by kernel_rfl) (by kernel_rfl) args
theorem cf84 : ∀ (w : World) (args : Array Value), (callFunc 84 args).run Tryz.prog w = .ok (.enter 84 args) w := fun _ args => cf_of Tryz.func84 (by kernel_rfl) (by kernel_rfl) args
theorem oq138 : ∀ (w : World) (q : Addr), (Op.equal 138 (.pointer (some q)) (.pointer none)).run Tryz.prog w = .ok false w := fun w q => by kernel_rfl
theorem oz138 : ∀ w : World, (Op.equal 138 (.pointer none) (.pointer none)).run Tryz.prog w = .ok true w := fun w => by kernel_rfl
theorem fa51_2 : ∀ (w : World) (q : Addr), (Instr.fieldAt 51 (.pointer (some q)) 2).run Tryz.prog w = .ok (.pointer (some (q.add 2))) w := fun w q => by kernel_rfl
theorem fa51_3 : ∀ (w : World) (q : Addr), (Instr.fieldAt 51 (.pointer (some q)) 3).run Tryz.prog w = .ok (.pointer (some (q.add 3))) w := fun w q => by kernel_rfl
theorem cf83 : ∀ (w : World) (args : Array Value), (callFunc 83 args).run Tryz.prog w = .ok (.enter 83 args) w := fun _ args => cf_of Tryz.func83 (by kernel_rfl) (by kernel_rfl) args
theorem cf82 : ∀ (w : World) (args : Array Value), (callFunc 82 args).run Tryz.prog w = .ok (.enter 82 args) w := fun _ args => cf_of Tryz.func82 (by kernel_rfl) (by kernel_rfl) args
theorem cf81 : ∀ (w : World) (args : Array Value), (callFunc 81 args).run Tryz.prog w = .ok (.enter 81 args) w := fun _ args => cf_of Tryz.func81 (by kernel_rfl) (by kernel_rfl) args
theorem cf133 : ∀ (w : World) (args : Array Value), (callFunc 133 args).run Tryz.prog w = .ok (.enter 133 args) w := fun _ args => cf_of Tryz.func133 (by kernel_rfl) (by kernel_rfl) args
theorem cf156 : ∀ (w : World) (args : Array Value), (callFunc 156 args).run Tryz.prog w = .ok (.enter 156 args) w := fun _ args => cf_of Tryz.func156 (by kernel_rfl) (by kernel_rfl) args
theorem cf157 : ∀ (w : World) (args : Array Value), (callFunc 157 args).run Tryz.prog w = .ok (.enter 157 args) w := fun _ args => cf_of Tryz.func157 (by kernel_rfl) (by kernel_rfl) args
theorem cf158 : ∀ (w : World) (args : Array Value), (callFunc 158 args).run Tryz.prog w = .ok (.enter 158 args) w := fun _ args => cf_of Tryz.func158 (by kernel_rfl) (by kernel_rfl) args
theorem cf138 : ∀ (w : World) (args : Array Value), (callFunc 138 args).run Tryz.prog w = .ok (.enter 138 args) w := fun _ args => cf_of Tryz.func138 (by kernel_rfl) (by kernel_rfl) args
theorem cf159 : ∀ (w : World) (args : Array Value), (callFunc 159 args).run Tryz.prog w = .ok (.enter 159 args) w := fun _ args => cf_of Tryz.func159 (by kernel_rfl) (by kernel_rfl) args
theorem cf80 : ∀ (w : World) (args : Array Value), (callFunc 80 args).run Tryz.prog w = .ok (.enter 80 args) w := fun _ args => cf_of Tryz.func80 (by kernel_rfl) (by kernel_rfl) args
theorem cf79 : ∀ (w : World) (args : Array Value), (callFunc 79 args).run Tryz.prog w = .ok (.enter 79 args) w := fun _ args => cf_of Tryz.func79 (by kernel_rfl) (by kernel_rfl) args
theorem cf134 : ∀ (w : World) (args : Array Value), (callFunc 134 args).run Tryz.prog w = .ok (.enter 134 args) w := fun _ args => cf_of Tryz.func134 (by kernel_rfl) (by kernel_rfl) args
theorem cf136 : ∀ (w : World) (args : Array Value), (callFunc 136 args).run Tryz.prog w = .ok (.enter 136 args) w := fun _ args => cf_of Tryz.func136 (by kernel_rfl) (by kernel_rfl) args
theorem fa51_1 : ∀ (w : World) (q : Addr), (Instr.fieldAt 51 (.pointer (some q)) 1).run Tryz.prog w = .ok (.pointer (some (q.add 1))) w := fun w q => by kernel_rfl
theorem cf78 : ∀ (w : World) (args : Array Value), (callFunc 78 args).run Tryz.prog w = .ok (.enter 78 args) w := fun _ args => cf_of Tryz.func78 (by kernel_rfl) (by kernel_rfl) args
theorem fa64_0 : ∀ (w : World) (q : Addr), (Instr.fieldAt 64 (.pointer (some q)) 0).run Tryz.prog w = .ok (.pointer (some (q.add 0))) w := fun w q => by kernel_rfl
theorem cf15 : ∀ (w : World) (args : Array Value), (callFunc 15 args).run Tryz.prog w = .ok (.enter 15 args) w := fun _ args => cf_of Tryz.func15 (by kernel_rfl) (by kernel_rfl) args
theorem cf34 : ∀ (w : World) (args : Array Value), (callFunc 34 args).run Tryz.prog w = .ok (.enter 34 args) w := fun _ args => cf_of Tryz.func34 (by kernel_rfl) (by kernel_rfl) args
theorem cf35 : ∀ (w : World) (args : Array Value), (callFunc 35 args).run Tryz.prog w = .ok (.enter 35 args) w := fun _ args => cf_of Tryz.func35 (by kernel_rfl) (by kernel_rfl) args
theorem cf69 : ∀ (w : World) (args : Array Value), (callFunc 69 args).run Tryz.prog w = .ok (.enter 69 args) w := fun _ args => cf_of Tryz.func69 (by kernel_rfl) (by kernel_rfl) args
theorem cf129 : ∀ (w : World) (args : Array Value), (callFunc 129 args).run Tryz.prog w = .ok (.enter 129 args) w := fun _ args => cf_of Tryz.func129 (by kernel_rfl) (by kernel_rfl) args
theorem cf155 : ∀ (w : World) (args : Array Value), (callFunc 155 args).run Tryz.prog w = .ok (.enter 155 args) w := fun _ args => cf_of Tryz.func155 (by kernel_rfl) (by kernel_rfl) args
theorem cf130 : ∀ (w : World) (args : Array Value), (callFunc 130 args).run Tryz.prog w = .ok (.enter 130 args) w := fun _ args => cf_of Tryz.func130 (by kernel_rfl) (by kernel_rfl) args
theorem cf70 : ∀ (w : World) (args : Array Value), (callFunc 70 args).run Tryz.prog w = .ok (.enter 70 args) w := fun _ args => cf_of Tryz.func70 (by kernel_rfl) (by kernel_rfl) args
theorem cf36 : ∀ (w : World) (args : Array Value), (callFunc 36 args).run Tryz.prog w = .ok (.enter 36 args) w := fun _ args => cf_of Tryz.func36 (by kernel_rfl) (by kernel_rfl) args
theorem cf71 : ∀ (w : World) (args : Array Value), (callFunc 71 args).run Tryz.prog w = .ok (.enter 71 args) w := fun _ args => cf_of Tryz.func71 (by kernel_rfl) (by kernel_rfl) args
theorem cf93 : ∀ (w : World) (args : Array Value), (callFunc 93 args).run Tryz.prog w = .ok (.enter 93 args) w := fun _ args => cf_of Tryz.func93 (by kernel_rfl) (by kernel_rfl) args
theorem cf21 : ∀ (w : World) (args : Array Value), (callFunc 21 args).run Tryz.prog w = .ok (.enter 21 args) w := fun _ args => cf_of Tryz.func21 (by kernel_rfl) (by kernel_rfl) args
theorem sih80 : Tryz.prog.stoodInHeld 80 = false := by kernel_rfl
theorem egt80 : Tryz.prog.eqGuardType Tryz.prog.depth 80 = false := by kernel_rfl
theorem cf50 : ∀ (w : World) (args : Array Value), (callFunc 50 args).run Tryz.prog w = .ok (.enter 50 args) w := fun _ args => cf_of Tryz.func50 (by kernel_rfl) (by kernel_rfl) args
theorem cf105 : ∀ (w : World) (args : Array Value), (callFunc 105 args).run Tryz.prog w = .ok (.enter 105 args) w := fun _ args => cf_of Tryz.func105 (by kernel_rfl) (by kernel_rfl) args
theorem sih62 : Tryz.prog.stoodInHeld 62 = false := by kernel_rfl
theorem cf26 : ∀ (w : World) (args : Array Value), (callFunc 26 args).run Tryz.prog w = .ok (.enter 26 args) w := fun _ args => cf_of Tryz.func26 (by kernel_rfl) (by kernel_rfl) args
theorem cf45 : ∀ (w : World) (args : Array Value), (callFunc 45 args).run Tryz.prog w = .ok (.enter 45 args) w := fun _ args => cf_of Tryz.func45 (by kernel_rfl) (by kernel_rfl) args
theorem cf104 : ∀ (w : World) (args : Array Value), (callFunc 104 args).run Tryz.prog w = .ok (.enter 104 args) w := fun _ args => cf_of Tryz.func104 (by kernel_rfl) (by kernel_rfl) args
theorem zr83 : (Tryz.prog.info? 83).bind (·.zero) = some (.agg #[.string (ByteArray.mk #[]), .int .i64 0]) := by kernel_rfl
theorem mixedOk : Tryz.prog.follows .mixedOrders = true := by kernel_rfl
theorem cf30 : ∀ (w : World) (args : Array Value), (callFunc 30 args).run Tryz.prog w = .ok (.enter 30 args) w := fun _ args => cf_of Tryz.func30 (by kernel_rfl) (by kernel_rfl) args
theorem sih83 : Tryz.prog.stoodInHeld 83 = false := by kernel_rfl
theorem egt83 : Tryz.prog.eqGuardType Tryz.prog.depth 83 = false := by kernel_rfl
theorem cf40 : ∀ (w : World) (args : Array Value), (callFunc 40 args).run Tryz.prog w = .ok (.enter 40 args) w := fun _ args => cf_of Tryz.func40 (by kernel_rfl) (by kernel_rfl) args
theorem cf47 : ∀ (w : World) (args : Array Value), (callFunc 47 args).run Tryz.prog w = .ok (.enter 47 args) w := fun _ args => cf_of Tryz.func47 (by kernel_rfl) (by kernel_rfl) args
theorem zer2 : (Tryz.prog.info? 2).bind (·.zero) = some (.int .i64 0) := by kernel_rfl
theorem cf106 : ∀ (w : World) (args : Array Value), (callFunc 106 args).run Tryz.prog w = .ok (.enter 106 args) w := fun _ args => cf_of Tryz.func106 (by kernel_rfl) (by kernel_rfl) args
theorem cf48 : ∀ (w : World) (args : Array Value), (callFunc 48 args).run Tryz.prog w = .ok (.enter 48 args) w := fun _ args => cf_of Tryz.func48 (by kernel_rfl) (by kernel_rfl) args
theorem cf49 : ∀ (w : World) (args : Array Value), (callFunc 49 args).run Tryz.prog w = .ok (.enter 49 args) w := fun _ args => cf_of Tryz.func49 (by kernel_rfl) (by kernel_rfl) args
theorem egt62 : Tryz.prog.eqGuardType Tryz.prog.depth 62 = false := by kernel_rfl
theorem cf51 : ∀ (w : World) (args : Array Value), (callFunc 51 args).run Tryz.prog w = .ok (.enter 51 args) w := fun _ args => cf_of Tryz.func51 (by kernel_rfl) (by kernel_rfl) args
def tb : Tb := ⟨[(30, 0, 0), (30, 1, 1), (30, 2, 2), (41, 0, 0), (41, 1, 1), (51, 0, 0), (51, 1, 1), (51, 2, 2), (51, 3, 3), (51, 4, 4), (55, 0, 0), (55, 1, 1), (55, 2, 2), (55, 3, 3), (55, 4, 4), (55, 5, 5), (62, 0, 0), (62, 1, 1), (62, 2, 2), (62, 3, 3), (62, 4, 4), (62, 5, 5), (62, 6, 6), (64, 0, 0), (64, 1, 1), (80, 0, 0), (80, 1, 1), (80, 2, 2), (80, 3, 3), (80, 4, 4), (83, 0, 0), (83, 1, 1), (105, 0, 0), (105, 1, 2)], [(3, 5, .u8), (3, 152, .u64), (21, 5, .u8), (152, 3, .i64)], [9]⟩
theorem tbok : TbOk Tryz.prog tb := ⟨⟨fa30_0, fa30_1, fa30_2, fa41_0, fa41_1, fa51_0, fa51_1, fa51_2, fa51_3, fa51_4, fa55_0, fa55_1, fa55_2, fa55_3, fa55_4, fa55_5, fa62_0, fa62_1, fa62_2, fa62_3, fa62_4, fa62_5, fa62_6, fa64_0, fa64_1, fa80_0, fa80_1, fa80_2, fa80_3, fa80_4, fa83_0, fa83_1, fa105_0, fa105_1, trivial⟩, ⟨fun _ _ _ => by kernel_rfl, fun _ _ _ => by kernel_rfl, fun _ _ _ => by kernel_rfl, fun _ _ _ => by kernel_rfl, trivial⟩, ⟨Tryz.underlying9, trivial⟩⟩
theorem pr {ops : Array Oper} {Q : Exit → Act → World → Prop} {w : World} {n : Nat} (k : Nat) {env env' : List (Nat × Value)} {l l' : List Oper} {a : Act} (E : Env n a env) (h : runP tb [] ops n k env l = some (env', l')) (kont : ∀ a', Env n a' env' → wpList Tryz.prog ops Q l' a' w) : wpList Tryz.prog ops Q l a w := prunk tbok k E (kn0 _) h kont
theorem pk {ops : Array Oper} {Q : Exit → Act → World → Prop} {w : World} {n : Nat} {kn : List (Nat × Bool)} (k : Nat) {env env' : List (Nat × Value)} {l l' : List Oper} {a : Act} (E : Env n a env) (K : Kn env kn) (h : runP tb kn ops n k env l = some (env', l')) (kont : ∀ a', Env n a' env' → wpList Tryz.prog ops Q l' a' w) : wpList Tryz.prog ops Q l a w := prunk tbok k E K h kont
theorem fn {ops : Array Oper} {Q : Exit → Act → World → Prop} {w : World} {n : Nat} {I : World → Prop} (k : Nat) {env env' : List (Nat × Value)} {l l' : List (Nat × Nat)} {a : Act} (E : Env n a env) (h : runF tb [] ops n k env l = some (env', l')) (kont : ∀ a', Env n a' env' → wpFr Tryz.prog I ops Q l' a' w) : wpFr Tryz.prog I ops Q l a w := frunk tbok k E (kn0 _) h kont
theorem fk {ops : Array Oper} {Q : Exit → Act → World → Prop} {w : World} {n : Nat} {kn : List (Nat × Bool)} {I : World → Prop} (k : Nat) {env env' : List (Nat × Value)} {l l' : List (Nat × Nat)} {a : Act} (E : Env n a env) (K : Kn env kn) (h : runF tb kn ops n k env l = some (env', l')) (kont : ∀ a', Env n a' env' → wpFr Tryz.prog I ops Q l' a' w) : wpFr Tryz.prog I ops Q l a w := frunk tbok k E K h kont
theorem dw {ops : Array Oper} {Q : Exit → Act → World → Prop} {w : World} {a : Act} {os : List Ob} {rs : List Rp} {id : Nat} (ord : List (Nat × Nat)) (is js : List Nat) (H : Sep w os rs) (ho : ordAll ops ord = true) (hQ : ∀ c a w, Q (.panic c) a w → False) (k : ∀ w W0, Still (pkl os is) (pkl rs js) W0 → Sep w os rs → wpFr Tryz.prog (Still (pkl os is) (pkl rs js)) ops Q ord a w) : (Code.region id ops true).wp Tryz.prog Q a w := wp_dw mixedOk ord is js H ho hQ k
end Go.Cb
