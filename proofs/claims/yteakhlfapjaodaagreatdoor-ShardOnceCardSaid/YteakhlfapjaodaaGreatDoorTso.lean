/- The types of the program and the small facts that the walks use. -/
import Derived.Test.YteakhlfapjaodaaGreatDoorAso2
import Derived.Test.YteakhlfapjaodaaGreatDoorProg
set_option linter.unusedVariables false
set_option linter.unusedSimpArgs false
namespace Go.Cb
open Go.Proofs Go.RowKit
structure aG where
  Path:ByteArray
  Data:ByteArray
  Version:Int
  Turn:Int
  Owner:Int
  deriving DecidableEq,Inhabited
def aB:Kd aG:=nG (kP kS (kP kS (kP (kI .i64) (kP (kI .i64) (kI .i64))))) λ x=>(x.Path,(x.Data,(x.Version,(x.Turn,x.Owner))))
theorem yK{w:World}{ok:Nat->Prop}{x:aG}{cs:List Value}(h:aB.R w ok x cs):cs= [.string x.Path,.string x.Data,.int .i64 x.Version,.int .i64 x.Turn,.int .i64 x.Owner]:=by
  obtain ⟨c0,d0,rfl,h0,c1,d1,rfl,h1,c2,d2,rfl,h2,c3,d3,rfl,h3,h4⟩:=h
  have e0:c0= [.string x.Path]:=h0
  subst e0
  have e1:c1= [.string x.Data]:=h1
  subst e1
  have e2:c2= [.int .i64 x.Version]:=h2
  subst e2
  have e3:c3= [.int .i64 x.Turn]:=h3
  subst e3
  have e4:d3= [.int .i64 x.Owner]:=h4
  subst e4
  rfl
theorem A4{w:World}{ok:Nat->Prop}{x:aG}:aB.R w ok x [.string x.Path,.string x.Data,.int .i64 x.Version,.int .i64 x.Turn,.int .i64 x.Owner]:=⟨[.string x.Path],_,rfl,rfl,⟨[.string x.Data],_,rfl,rfl,⟨[.int .i64 x.Version],_,rfl,rfl,⟨[.int .i64 x.Turn],_,rfl,rfl,rfl⟩⟩⟩⟩
abbrev nA (x:aG):List Value:=[.string x.Path,.string x.Data,.int .i64 x.Version,.int .i64 x.Turn,.int .i64 x.Owner]
abbrev OR:List Value:=[.string ⟨#[]⟩,.string ⟨#[]⟩,.int .i64 0,.int .i64 0,.int .i64 0]
theorem Pb{w:World}{ok:Nat->Prop}{q:Addr}{x:aG}{cs:List Value}(h:(rAw aB q x cs).p w ok):∃ c,(rAw kS (q.add 0) x.Path c).p w ok/\c=(cs.drop 0).take 1:=by
  have h0:(rAw (kP kS (kP kS (kP (kI .i64) (kP (kI .i64) (kI .i64))))) q ((x.Path,(x.Data,(x.Version,(x.Turn,x.Owner))))) cs).p w ok:=h
  have hl:cs.length=5:=aB.len h.2.1
  have h1:=(C4 h0)
  simp only [show ∀ q:Addr,q.add 0=q from λ q=>by simp [Addr.add]]
  refine ⟨_,h1,?_⟩
  (try simp only [kP,kI,kB,kS,kL,nG,Kd.scalar])
  all_goals (try (apply List.ext_getElem?;intro j;simp [List.getElem?_take,List.getElem?_drop]))
  all_goals (try (intros;(try split);(try omega);(try (rw [List.getElem?_eq_none (by omega)]))))
theorem Pc{w:World}{ok:Nat->Prop}{q:Addr}{x:aG}{cs:List Value}(h:(rAw aB q x cs).p w ok):∃ c,(rAw kS (q.add 1) x.Data c).p w ok/\c=(cs.drop 1).take 1:=by
  have h0:(rAw (kP kS (kP kS (kP (kI .i64) (kP (kI .i64) (kI .i64))))) q ((x.Path,(x.Data,(x.Version,(x.Turn,x.Owner))))) cs).p w ok:=h
  have hl:cs.length=5:=aB.len h.2.1
  have h1:=(C4 (oS h0))
  simp only [add_add,kP,kI,kB,kS,kL,nG,Kd.scalar] at h1
  refine ⟨_,h1,?_⟩
  (try simp only [kP,kI,kB,kS,kL,nG,Kd.scalar])
  all_goals (try (apply List.ext_getElem?;intro j;simp [List.getElem?_take,List.getElem?_drop]))
  all_goals (try (intros;(try split);(try omega);(try (rw [List.getElem?_eq_none (by omega)]))))
def cM:gN aB:=⟨λ x=>[.string x.Path,.string x.Data,.int .i64 x.Version,.int .i64 x.Turn,.int .i64 x.Owner],yK,A4⟩
structure aM where
  Dir:ByteArray
  Next:Int
  deriving DecidableEq,Inhabited
def aC:Kd aM:=nG (kP kS (kI .i64)) λ x=>(x.Dir,x.Next)
theorem yL{w:World}{ok:Nat->Prop}{x:aM}{cs:List Value}(h:aC.R w ok x cs):cs= [.string x.Dir,.int .i64 x.Next]:=by
  obtain ⟨c0,d0,rfl,h0,h1⟩:=h
  have e0:c0= [.string x.Dir]:=h0
  subst e0
  have e1:d0= [.int .i64 x.Next]:=h1
  subst e1
  rfl
theorem xZ{w:World}{ok:Nat->Prop}{x:aM}:aC.R w ok x [.string x.Dir,.int .i64 x.Next]:=⟨[.string x.Dir],_,rfl,rfl,rfl⟩
theorem Pd{w:World}{ok:Nat->Prop}{q:Addr}{x:aM}(h:(rAt aC q x).p w ok):(rAt kS (q.add 0) x.Dir).p w ok:=by
  have h0:(rAt (kP kS (kI .i64)) q ((x.Dir,x.Next))).p w ok:=h
  have h1:=(Db h0)
  simp only [show ∀ q:Addr,q.add 0=q from λ q=>by simp [Addr.add]]
  exact h1
def dX:gN aC:=⟨λ x=>[.string x.Dir,.int .i64 x.Next],yL,xZ⟩
structure aV where
  Dir:ByteArray
  Txn:Int
  Age:Int
  deriving DecidableEq,Inhabited
def bA:Kd aV:=nG (kP kS (kP (kI .i64) (kI .i64))) λ x=>(x.Dir,(x.Txn,x.Age))
theorem Ng{w:World}{ok:Nat->Prop}{x:aV}{cs:List Value}(h:bA.R w ok x cs):cs= [.string x.Dir,.int .i64 x.Txn,.int .i64 x.Age]:=by
  obtain ⟨c0,d0,rfl,h0,c1,d1,rfl,h1,h2⟩:=h
  have e0:c0= [.string x.Dir]:=h0
  subst e0
  have e1:c1= [.int .i64 x.Txn]:=h1
  subst e1
  have e2:d1= [.int .i64 x.Age]:=h2
  subst e2
  rfl
theorem Fv{w:World}{ok:Nat->Prop}{x:aV}:bA.R w ok x [.string x.Dir,.int .i64 x.Txn,.int .i64 x.Age]:=⟨[.string x.Dir],_,rfl,rfl,⟨[.int .i64 x.Txn],_,rfl,rfl,rfl⟩⟩
abbrev uH (x:aV):List Value:=[.string x.Dir,.int .i64 x.Txn,.int .i64 x.Age]
abbrev OS:List Value:=[.string ⟨#[]⟩,.int .i64 0,.int .i64 0]
theorem Dh{w:World}{ok:Nat->Prop}{q:Addr}{x:aV}{cs:List Value}(h:(rAw bA q x cs).p w ok):∃ c,(rAw kS (q.add 0) x.Dir c).p w ok/\c=(cs.drop 0).take 1:=by
  have h0:(rAw (kP kS (kP (kI .i64) (kI .i64))) q ((x.Dir,(x.Txn,x.Age))) cs).p w ok:=h
  have hl:cs.length=3:=bA.len h.2.1
  have h1:=(C4 h0)
  simp only [show ∀ q:Addr,q.add 0=q from λ q=>by simp [Addr.add]]
  refine ⟨_,h1,?_⟩
  (try simp only [kP,kI,kB,kS,kL,nG,Kd.scalar])
  all_goals (try (apply List.ext_getElem?;intro j;simp [List.getElem?_take,List.getElem?_drop]))
  all_goals (try (intros;(try split);(try omega);(try (rw [List.getElem?_eq_none (by omega)]))))
theorem Pe{w:World}{ok:Nat->Prop}{q:Addr}{x:aV}(h:(rAt bA q x).p w ok):(rAt (kI .i64) (q.add 1) x.Txn).p w ok:=by
  have h0:(rAt (kP kS (kP (kI .i64) (kI .i64))) q ((x.Dir,(x.Txn,x.Age)))).p w ok:=h
  have h1:=(Db (C3 h0))
  simp only [add_add,kP,kI,kB,kS,kL,Kd.scalar] at h1
  exact h1
def gD:gN bA:=⟨λ x=>[.string x.Dir,.int .i64 x.Txn,.int .i64 x.Age],Ng,Fv⟩
structure aF where
  Prefix:ByteArray
  Epoch:Int
  State:Int
  deriving DecidableEq,Inhabited
def aO:Kd aF:=nG (kP kS (kP (kI .i64) (kI .i64))) λ x=>(x.Prefix,(x.Epoch,x.State))
theorem As{w:World}{ok:Nat->Prop}{x:aF}{cs:List Value}(h:aO.R w ok x cs):cs= [.string x.Prefix,.int .i64 x.Epoch,.int .i64 x.State]:=by
  obtain ⟨c0,d0,rfl,h0,c1,d1,rfl,h1,h2⟩:=h
  have e0:c0= [.string x.Prefix]:=h0
  subst e0
  have e1:c1= [.int .i64 x.Epoch]:=h1
  subst e1
  have e2:d1= [.int .i64 x.State]:=h2
  subst e2
  rfl
theorem zR{w:World}{ok:Nat->Prop}{x:aF}:aO.R w ok x [.string x.Prefix,.int .i64 x.Epoch,.int .i64 x.State]:=⟨[.string x.Prefix],_,rfl,rfl,⟨[.int .i64 x.Epoch],_,rfl,rfl,rfl⟩⟩
abbrev qJ (x:aF):List Value:=[.string x.Prefix,.int .i64 x.Epoch,.int .i64 x.State]
abbrev Vw:List Value:=[.string ⟨#[]⟩,.int .i64 0,.int .i64 0]
theorem Nh{w:World}{ok:Nat->Prop}{q:Addr}{x:aF}(h:(rAt aO q x).p w ok):(rAt kS (q.add 0) x.Prefix).p w ok:=by
  have h0:(rAt (kP kS (kP (kI .i64) (kI .i64))) q ((x.Prefix,(x.Epoch,x.State)))).p w ok:=h
  have h1:=(Db h0)
  simp only [show ∀ q:Addr,q.add 0=q from λ q=>by simp [Addr.add]]
  exact h1
theorem vM{w:World}{ok:Nat->Prop}{q:Addr}{x:aF}{cs:List Value}(h:(rAw aO q x cs).p w ok):∃ c,(rAw kS (q.add 0) x.Prefix c).p w ok/\c=(cs.drop 0).take 1:=by
  have h0:(rAw (kP kS (kP (kI .i64) (kI .i64))) q ((x.Prefix,(x.Epoch,x.State))) cs).p w ok:=h
  have hl:cs.length=3:=aO.len h.2.1
  have h1:=(C4 h0)
  simp only [show ∀ q:Addr,q.add 0=q from λ q=>by simp [Addr.add]]
  refine ⟨_,h1,?_⟩
  (try simp only [kP,kI,kB,kS,kL,nG,Kd.scalar])
  all_goals (try (apply List.ext_getElem?;intro j;simp [List.getElem?_take,List.getElem?_drop]))
  all_goals (try (intros;(try split);(try omega);(try (rw [List.getElem?_eq_none (by omega)]))))
theorem P5{w:World}{ok:Nat->Prop}{q:Addr}{x:aF}(h:(rAt aO q x).p w ok):(rAt (kI .i64) (q.add 1) x.Epoch).p w ok:=by
  have h0:(rAt (kP kS (kP (kI .i64) (kI .i64))) q ((x.Prefix,(x.Epoch,x.State)))).p w ok:=h
  have h1:=(Db (C3 h0))
  simp only [add_add,kP,kI,kB,kS,kL,Kd.scalar] at h1
  exact h1
theorem Ni{w:World}{ok:Nat->Prop}{q:Addr}{x:aF}{cs:List Value}(h:(rAw aO q x cs).p w ok):∃ c,(rAw (kI .i64) (q.add 1) x.Epoch c).p w ok/\c=(cs.drop 1).take 1:=by
  have h0:(rAw (kP kS (kP (kI .i64) (kI .i64))) q ((x.Prefix,(x.Epoch,x.State))) cs).p w ok:=h
  have hl:cs.length=3:=aO.len h.2.1
  have h1:=(C4 (oS h0))
  simp only [add_add,kP,kI,kB,kS,kL,nG,Kd.scalar] at h1
  refine ⟨_,h1,?_⟩
  (try simp only [kP,kI,kB,kS,kL,nG,Kd.scalar])
  all_goals (try (apply List.ext_getElem?;intro j;simp [List.getElem?_take,List.getElem?_drop]))
  all_goals (try (intros;(try split);(try omega);(try (rw [List.getElem?_eq_none (by omega)]))))
theorem P6{w:World}{ok:Nat->Prop}{q:Addr}{x:aF}(h:(rAt aO q x).p w ok):(rAt (kI .i64) (q.add 2) x.State).p w ok:=by
  have h0:(rAt (kP kS (kP (kI .i64) (kI .i64))) q ((x.Prefix,(x.Epoch,x.State)))).p w ok:=h
  have h1:=(C3 (C3 h0))
  simp only [add_add,kP,kI,kB,kS,kL,Kd.scalar] at h1
  exact h1
def lZ:gN aO:=⟨λ x=>[.string x.Prefix,.int .i64 x.Epoch,.int .i64 x.State],As,zR⟩
structure bP where
  Num:Int
  Kind:Int
  Path:ByteArray
  Watch:Int
  deriving DecidableEq,Inhabited
def aQ:Kd bP:=nG (kP (kI .i64) (kP (kI .i64) (kP kS (kI .i64)))) λ x=>(x.Num,(x.Kind,(x.Path,x.Watch)))
theorem M7{w:World}{ok:Nat->Prop}{x:bP}{cs:List Value}(h:aQ.R w ok x cs):cs= [.int .i64 x.Num,.int .i64 x.Kind,.string x.Path,.int .i64 x.Watch]:=by
  obtain ⟨c0,d0,rfl,h0,c1,d1,rfl,h1,c2,d2,rfl,h2,h3⟩:=h
  have e0:c0= [.int .i64 x.Num]:=h0
  subst e0
  have e1:c1= [.int .i64 x.Kind]:=h1
  subst e1
  have e2:c2= [.string x.Path]:=h2
  subst e2
  have e3:d2= [.int .i64 x.Watch]:=h3
  subst e3
  rfl
theorem I4{w:World}{ok:Nat->Prop}{x:bP}:aQ.R w ok x [.int .i64 x.Num,.int .i64 x.Kind,.string x.Path,.int .i64 x.Watch]:=⟨[.int .i64 x.Num],_,rfl,rfl,⟨[.int .i64 x.Kind],_,rfl,rfl,⟨[.string x.Path],_,rfl,rfl,rfl⟩⟩⟩
abbrev Ca (x:bP):List Value:=[.int .i64 x.Num,.int .i64 x.Kind,.string x.Path,.int .i64 x.Watch]
abbrev OC:List Value:=[.int .i64 0,.int .i64 0,.string ⟨#[]⟩,.int .i64 0]
structure aE where
  Num:Int
  Count:Int
  Events:(List bP)
  deriving DecidableEq,Inhabited
def aI:Kd aE:=nG (kP (kI .i64) (kP (kI .i64) (kL aQ))) λ x=>(x.Num,(x.Count,x.Events))
theorem dK{w:World}{ok:Nat->Prop}{x:aE}{cs:List Value}(h:aI.R w ok x cs):∃ v1:Value,cs= [.int .i64 x.Num,.int .i64 x.Count,v1]/\Sl aQ w ok v1 x.Events:=by
  obtain ⟨c0,d0,rfl,h0,c1,d1,rfl,h1,h2⟩:=h
  have e0:c0= [.int .i64 x.Num]:=h0
  subst e0
  have e1:c1= [.int .i64 x.Count]:=h1
  subst e1
  obtain ⟨u0,rfl,g0⟩:=h2
  exact ⟨u0,rfl,g0⟩
theorem mA{w:World}{ok:Nat->Prop}{x:aE}{v1:Value}(g1:Sl aQ w ok v1 x.Events):aI.R w ok x [.int .i64 x.Num,.int .i64 x.Count,v1]:=⟨[.int .i64 x.Num],_,rfl,rfl,⟨[.int .i64 x.Count],_,rfl,rfl,⟨_,rfl,g1⟩⟩⟩
theorem hP{w:World}{ok:Nat->Prop}{x:aE}{v1:Value}(h:aI.R w ok x [.int .i64 x.Num,.int .i64 x.Count,v1]):Sl aQ w ok v1 x.Events:=by
  obtain ⟨u0,he,g0⟩:=dK h
  cases he
  exact g0
abbrev qW (x:aE) (v1:Value):List Value:=[.int .i64 x.Num,.int .i64 x.Count,v1]
theorem W9{w:World}{os:List Ob}{rs:List Rp}{x:aE}{cs:List Value}(H:Sep w os (rCs aI cs x::rs)):∃ v1:Value,cs=(qW x v1)/\Sep w os (rSl aQ v1 x.Events::rCs aI (qW x v1) x::rs):=by
  obtain ⟨_,hcs⟩:=H.rd (.head _)
  obtain ⟨u0,rfl,-⟩:=dK hcs
  refine ⟨_,rfl,?_⟩
  exact (H.derive1 (.head _) (rSl aQ u0 x.Events) λ ok h=>hP h)
theorem zL{w:World}{ok:Nat->Prop}{q:Addr}{x:aE}{cs:List Value}(h:(rAw aI q x cs).p w ok):∃ c,(rAw (kI .i64) (q.add 0) x.Num c).p w ok/\c=(cs.drop 0).take 1:=by
  have h0:(rAw (kP (kI .i64) (kP (kI .i64) (kL aQ))) q ((x.Num,(x.Count,x.Events))) cs).p w ok:=h
  have hl:cs.length=3:=aI.len h.2.1
  have h1:=(C4 h0)
  simp only [show ∀ q:Addr,q.add 0=q from λ q=>by simp [Addr.add]]
  refine ⟨_,h1,?_⟩
  (try simp only [kP,kI,kB,kS,kL,nG,Kd.scalar])
  all_goals (try (apply List.ext_getElem?;intro j;simp [List.getElem?_take,List.getElem?_drop]))
  all_goals (try (intros;(try split);(try omega);(try (rw [List.getElem?_eq_none (by omega)]))))
theorem Z3{w:World}{ok:Nat->Prop}{q:Addr}{x:aE}{cs:List Value}(h:(rAw aI q x cs).p w ok):∃ c,(rAw (kI .i64) (q.add 1) x.Count c).p w ok/\c=(cs.drop 1).take 1:=by
  have h0:(rAw (kP (kI .i64) (kP (kI .i64) (kL aQ))) q ((x.Num,(x.Count,x.Events))) cs).p w ok:=h
  have hl:cs.length=3:=aI.len h.2.1
  have h1:=(C4 (oS h0))
  simp only [add_add,kP,kI,kB,kS,kL,nG,Kd.scalar] at h1
  refine ⟨_,h1,?_⟩
  (try simp only [kP,kI,kB,kS,kL,nG,Kd.scalar])
  all_goals (try (apply List.ext_getElem?;intro j;simp [List.getElem?_take,List.getElem?_drop]))
  all_goals (try (intros;(try split);(try omega);(try (rw [List.getElem?_eq_none (by omega)]))))
theorem Z4{w:World}{ok:Nat->Prop}{q:Addr}{x:aE}{cs:List Value}(h:(rAw aI q x cs).p w ok):∃ c,(rAw (kL aQ) (q.add 2) x.Events c).p w ok/\c=(cs.drop 2).take 1:=by
  have h0:(rAw (kP (kI .i64) (kP (kI .i64) (kL aQ))) q ((x.Num,(x.Count,x.Events))) cs).p w ok:=h
  have hl:cs.length=3:=aI.len h.2.1
  have h1:=(oS (oS h0))
  simp only [add_add,kP,kI,kB,kS,kL,nG,Kd.scalar] at h1
  refine ⟨_,h1,?_⟩
  (try simp only [kP,kI,kB,kS,kL,nG,Kd.scalar])
  all_goals (try (apply List.ext_getElem?;intro j;simp [List.getElem?_take,List.getElem?_drop]))
  all_goals (try (intros;(try split);(try omega);(try (rw [List.getElem?_eq_none (by omega)]))))
structure aP where
  Session:Int
  Num:Int
  Path:ByteArray
  Deep:Bool
  deriving DecidableEq,Inhabited
def aS:Kd aP:=nG (kP (kI .i64) (kP (kI .i64) (kP kS kB))) λ x=>(x.Session,(x.Num,(x.Path,x.Deep)))
theorem y4{w:World}{ok:Nat->Prop}{x:aP}{cs:List Value}(h:aS.R w ok x cs):cs= [.int .i64 x.Session,.int .i64 x.Num,.string x.Path,.bool x.Deep]:=by
  obtain ⟨c0,d0,rfl,h0,c1,d1,rfl,h1,c2,d2,rfl,h2,h3⟩:=h
  have e0:c0= [.int .i64 x.Session]:=h0
  subst e0
  have e1:c1= [.int .i64 x.Num]:=h1
  subst e1
  have e2:c2= [.string x.Path]:=h2
  subst e2
  have e3:d2= [.bool x.Deep]:=h3
  subst e3
  rfl
theorem S9{w:World}{ok:Nat->Prop}{x:aP}:aS.R w ok x [.int .i64 x.Session,.int .i64 x.Num,.string x.Path,.bool x.Deep]:=⟨[.int .i64 x.Session],_,rfl,rfl,⟨[.int .i64 x.Num],_,rfl,rfl,⟨[.string x.Path],_,rfl,rfl,rfl⟩⟩⟩
abbrev dY (x:aP):List Value:=[.int .i64 x.Session,.int .i64 x.Num,.string x.Path,.bool x.Deep]
abbrev OD:List Value:=[.int .i64 0,.int .i64 0,.string ⟨#[]⟩,.bool false]
def mB:gN aS:=⟨λ x=>[.int .i64 x.Session,.int .i64 x.Num,.string x.Path,.bool x.Deep],y4,S9⟩
structure aR where
  Nodes:(List aG)
  Turns:(List aM)
  deriving DecidableEq,Inhabited
def qK:Kd aR:=nG (kP (kL aB) (kL aC)) λ x=>(x.Nodes,x.Turns)
theorem M8{w:World}{ok:Nat->Prop}{x:aR}{cs:List Value}(h:qK.R w ok x cs):∃ v1 v2:Value,cs= [v1,v2]/\Sl aB w ok v1 x.Nodes/\Sl aC w ok v2 x.Turns:=by
  obtain ⟨c0,d0,rfl,h0,h1⟩:=h
  obtain ⟨u0,rfl,g0⟩:=h0
  obtain ⟨u1,rfl,g1⟩:=h1
  exact ⟨u0,u1,rfl,g0,g1⟩
theorem Pf{w:World}{ok:Nat->Prop}{x:aR}{v1:Value}{v2:Value}(g1:Sl aB w ok v1 x.Nodes)(g2:Sl aC w ok v2 x.Turns):qK.R w ok x [v1,v2]:=⟨[v1],_,rfl,⟨_,rfl,g1⟩,⟨_,rfl,g2⟩⟩
theorem mI{w:World}{os:List Ob}{rs:List Rp}{v1:Value}{yv1:List aG}{v2:Value}{yv2:List aM}(H:Sep w os rs)(hv1:rSl aB v1 yv1 ∈ rs)(hv2:rSl aC v2 yv2 ∈ rs):[v1,v2].all (·.oneCell')=true:=by
  obtain ⟨_,_,rfl⟩:=H.slform hv1
  obtain ⟨_,_,rfl⟩:=H.slform hv2
  rfl
theorem Nj{w:World}{ok:Nat->Prop}{q:Addr}{x:aR}{cs:List Value}(h:(rAw qK q x cs).p w ok):∃ c,(rAw (kL aB) (q.add 0) x.Nodes c).p w ok/\c=(cs.drop 0).take 1:=by
  have h0:(rAw (kP (kL aB) (kL aC)) q ((x.Nodes,x.Turns)) cs).p w ok:=h
  have hl:cs.length=2:=qK.len h.2.1
  have h1:=(C4 h0)
  simp only [show ∀ q:Addr,q.add 0=q from λ q=>by simp [Addr.add]]
  refine ⟨_,h1,?_⟩
  (try simp only [kP,kI,kB,kS,kL,nG,Kd.scalar])
  all_goals (try (apply List.ext_getElem?;intro j;simp [List.getElem?_take,List.getElem?_drop]))
  all_goals (try (intros;(try split);(try omega);(try (rw [List.getElem?_eq_none (by omega)]))))
structure bE where
  Kind:Int
  Dir:ByteArray
  Path:ByteArray
  Data:ByteArray
  Version:Int
  Owner:Int
  Turns:Bool
  deriving DecidableEq,Inhabited
def cP:Kd bE:=nG (kP (kI .i64) (kP kS (kP kS (kP kS (kP (kI .i64) (kP (kI .i64) kB)))))) λ x=>(x.Kind,(x.Dir,(x.Path,(x.Data,(x.Version,(x.Owner,x.Turns))))))
theorem Bp{w:World}{ok:Nat->Prop}{x:bE}{cs:List Value}(h:cP.R w ok x cs):cs= [.int .i64 x.Kind,.string x.Dir,.string x.Path,.string x.Data,.int .i64 x.Version,.int .i64 x.Owner,.bool x.Turns]:=by
  obtain ⟨c0,d0,rfl,h0,c1,d1,rfl,h1,c2,d2,rfl,h2,c3,d3,rfl,h3,c4,d4,rfl,h4,c5,d5,rfl,h5,h6⟩:=h
  have e0:c0= [.int .i64 x.Kind]:=h0
  subst e0
  have e1:c1= [.string x.Dir]:=h1
  subst e1
  have e2:c2= [.string x.Path]:=h2
  subst e2
  have e3:c3= [.string x.Data]:=h3
  subst e3
  have e4:c4= [.int .i64 x.Version]:=h4
  subst e4
  have e5:c5= [.int .i64 x.Owner]:=h5
  subst e5
  have e6:d5= [.bool x.Turns]:=h6
  subst e6
  rfl
theorem jJ{w:World}{ok:Nat->Prop}{x:bE}:cP.R w ok x [.int .i64 x.Kind,.string x.Dir,.string x.Path,.string x.Data,.int .i64 x.Version,.int .i64 x.Owner,.bool x.Turns]:=⟨[.int .i64 x.Kind],_,rfl,rfl,⟨[.string x.Dir],_,rfl,rfl,⟨[.string x.Path],_,rfl,rfl,⟨[.string x.Data],_,rfl,rfl,⟨[.int .i64 x.Version],_,rfl,rfl,⟨[.int .i64 x.Owner],_,rfl,rfl,rfl⟩⟩⟩⟩⟩⟩
abbrev cB (x:bE):List Value:=[.int .i64 x.Kind,.string x.Dir,.string x.Path,.string x.Data,.int .i64 x.Version,.int .i64 x.Owner,.bool x.Turns]
abbrev OU:List Value:=[.int .i64 0,.string ⟨#[]⟩,.string ⟨#[]⟩,.string ⟨#[]⟩,.int .i64 0,.int .i64 0,.bool false]
structure cR where
  Op:Int
  Part:bE
  deriving DecidableEq,Inhabited
def bT:Kd cR:=nG (kP (kI .i64) cP) λ x=>(x.Op,x.Part)
theorem Lm{w:World}{ok:Nat->Prop}{x:cR}{cs:List Value}(h:bT.R w ok x cs):cs= [.int .i64 x.Op,.int .i64 x.Part.Kind,.string x.Part.Dir,.string x.Part.Path,.string x.Part.Data,.int .i64 x.Part.Version,.int .i64 x.Part.Owner,.bool x.Part.Turns]:=by
  obtain ⟨c0,d0,rfl,h0,h1⟩:=h
  have e0:c0= [.int .i64 x.Op]:=h0
  subst e0
  obtain ⟨rfl⟩:=Bp h1
  rfl
theorem Di{w:World}{ok:Nat->Prop}{x:cR}:bT.R w ok x [.int .i64 x.Op,.int .i64 x.Part.Kind,.string x.Part.Dir,.string x.Part.Path,.string x.Part.Data,.int .i64 x.Part.Version,.int .i64 x.Part.Owner,.bool x.Part.Turns]:=⟨[.int .i64 x.Op],_,rfl,rfl,jJ⟩
abbrev Kq (x:cR):List Value:=[.int .i64 x.Op,.int .i64 x.Part.Kind,.string x.Part.Dir,.string x.Part.Path,.string x.Part.Data,.int .i64 x.Part.Version,.int .i64 x.Part.Owner,.bool x.Part.Turns]
abbrev OE:List Value:=[.int .i64 0,.int .i64 0,.string ⟨#[]⟩,.string ⟨#[]⟩,.string ⟨#[]⟩,.int .i64 0,.int .i64 0,.bool false]
theorem Nk{w:World}{ok:Nat->Prop}{q:Addr}{x:cR}(h:(rAt bT q x).p w ok):(rAt cP (q.add 1) x.Part).p w ok:=by
  have h0:(rAt (kP (kI .i64) cP) q ((x.Op,x.Part))).p w ok:=h
  have h1:=(C3 h0)
  simp only [add_add,kP,kI,kB,kS,kL,Kd.scalar,cP] at h1
  exact h1
structure cN where
  Err:Int
  Path:ByteArray
  Data:ByteArray
  Version:Int
  Names:(List ByteArray)
  deriving DecidableEq,Inhabited
def aY:Kd cN:=nG (kP (kI .i64) (kP kS (kP kS (kP (kI .i64) (kL kS))))) λ x=>(x.Err,(x.Path,(x.Data,(x.Version,x.Names))))
theorem K8{w:World}{ok:Nat->Prop}{x:cN}{cs:List Value}(h:aY.R w ok x cs):∃ v1:Value,cs= [.int .i64 x.Err,.string x.Path,.string x.Data,.int .i64 x.Version,v1]/\Sl kS w ok v1 x.Names:=by
  obtain ⟨c0,d0,rfl,h0,c1,d1,rfl,h1,c2,d2,rfl,h2,c3,d3,rfl,h3,h4⟩:=h
  have e0:c0= [.int .i64 x.Err]:=h0
  subst e0
  have e1:c1= [.string x.Path]:=h1
  subst e1
  have e2:c2= [.string x.Data]:=h2
  subst e2
  have e3:c3= [.int .i64 x.Version]:=h3
  subst e3
  obtain ⟨u0,rfl,g0⟩:=h4
  exact ⟨u0,rfl,g0⟩
theorem Nl{w:World}{ok:Nat->Prop}{x:cN}{v1:Value}(g1:Sl kS w ok v1 x.Names):aY.R w ok x [.int .i64 x.Err,.string x.Path,.string x.Data,.int .i64 x.Version,v1]:=⟨[.int .i64 x.Err],_,rfl,rfl,⟨[.string x.Path],_,rfl,rfl,⟨[.string x.Data],_,rfl,rfl,⟨[.int .i64 x.Version],_,rfl,rfl,⟨_,rfl,g1⟩⟩⟩⟩⟩
theorem Z5{w:World}{ok:Nat->Prop}{x:cN}{v1:Value}(h:aY.R w ok x [.int .i64 x.Err,.string x.Path,.string x.Data,.int .i64 x.Version,v1]):Sl kS w ok v1 x.Names:=by
  obtain ⟨u0,he,g0⟩:=K8 h
  cases he
  exact g0
abbrev P7 (x:cN) (v1:Value):List Value:=[.int .i64 x.Err,.string x.Path,.string x.Data,.int .i64 x.Version,v1]
abbrev Hb:List Value:=[.int .i64 0,.string ⟨#[]⟩,.string ⟨#[]⟩,.int .i64 0,.slice none 0 0]
theorem Pg{w:World}{os:List Ob}{rs:List Rp}{z0:Int}{z1:ByteArray}{z2:ByteArray}{z3:Int}{v1:Value}{yv1:List ByteArray}(H:Sep w os rs)(hv1:rSl kS v1 yv1 ∈ rs):[.int .i64 z0,.string z1,.string z2,.int .i64 z3,v1].all (·.oneCell')=true:=by
  obtain ⟨_,_,rfl⟩:=H.slform hv1
  rfl
theorem Ln{w:World}{ok:Nat->Prop}{q:Addr}{x:cN}(h:(rAt aY q x).p w ok):(rAt kS (q.add 1) x.Path).p w ok:=by
  have h0:(rAt (kP (kI .i64) (kP kS (kP kS (kP (kI .i64) (kL kS))))) q ((x.Err,(x.Path,(x.Data,(x.Version,x.Names)))))).p w ok:=h
  have h1:=(Db (C3 h0))
  simp only [add_add,kP,kI,kB,kS,kL,Kd.scalar] at h1
  exact h1
theorem Lo{w:World}{ok:Nat->Prop}{q:Addr}{x:cN}(h:(rAt aY q x).p w ok):(rAt (kL kS) (q.add 4) x.Names).p w ok:=by
  have h0:(rAt (kP (kI .i64) (kP kS (kP kS (kP (kI .i64) (kL kS))))) q ((x.Err,(x.Path,(x.Data,(x.Version,x.Names)))))).p w ok:=h
  have h1:=(C3 (C3 (C3 (C3 h0))))
  simp only [add_add,kP,kI,kB,kS,kL,Kd.scalar] at h1
  exact h1
structure zA where
  Prefix:ByteArray
  Group:Int
  Epoch:Int
  To:Int
  deriving DecidableEq,Inhabited
def bD:Kd zA:=nG (kP kS (kP (kI .i64) (kP (kI .i64) (kI .i64)))) λ x=>(x.Prefix,(x.Group,(x.Epoch,x.To)))
theorem Au{w:World}{ok:Nat->Prop}{x:zA}{cs:List Value}(h:bD.R w ok x cs):cs= [.string x.Prefix,.int .i64 x.Group,.int .i64 x.Epoch,.int .i64 x.To]:=by
  obtain ⟨c0,d0,rfl,h0,c1,d1,rfl,h1,c2,d2,rfl,h2,h3⟩:=h
  have e0:c0= [.string x.Prefix]:=h0
  subst e0
  have e1:c1= [.int .i64 x.Group]:=h1
  subst e1
  have e2:c2= [.int .i64 x.Epoch]:=h2
  subst e2
  have e3:d2= [.int .i64 x.To]:=h3
  subst e3
  rfl
structure aX where
  Err:Int
  At:Int
  Yes:Bool
  Epoch:Int
  Results:(List cN)
  Store:aR
  Events:(List bP)
  Mounts:(List zA)
  Wounded:(List Int)
  deriving DecidableEq,Inhabited
def bB:Kd aX:=nG (kP (kI .i64) (kP (kI .i64) (kP kB (kP (kI .i64) (kP (kL aY) (kP qK (kP (kL aQ) (kP (kL bD) (kL (kI .i64)))))))))) λ x=>(x.Err,(x.At,(x.Yes,(x.Epoch,(x.Results,(x.Store,(x.Events,(x.Mounts,x.Wounded))))))))
theorem mU{w:World}{ok:Nat->Prop}{x:aX}{cs:List Value}(h:bB.R w ok x cs):∃ v1 v2 v3 v4 v5 v6:Value,cs= [.int .i64 x.Err,.int .i64 x.At,.bool x.Yes,.int .i64 x.Epoch,v1,v2,v3,v4,v5,v6]/\Sl aY w ok v1 x.Results/\Sl aB w ok v2 x.Store.Nodes/\Sl aC w ok v3 x.Store.Turns/\Sl aQ w ok v4 x.Events/\Sl bD w ok v5 x.Mounts/\Sl (kI .i64) w ok v6 x.Wounded:=by
  obtain ⟨c0,d0,rfl,h0,c1,d1,rfl,h1,c2,d2,rfl,h2,c3,d3,rfl,h3,c4,d4,rfl,h4,c5,d5,rfl,h5,c6,d6,rfl,h6,c7,d7,rfl,h7,h8⟩:=h
  have e0:c0= [.int .i64 x.Err]:=h0
  subst e0
  have e1:c1= [.int .i64 x.At]:=h1
  subst e1
  have e2:c2= [.bool x.Yes]:=h2
  subst e2
  have e3:c3= [.int .i64 x.Epoch]:=h3
  subst e3
  obtain ⟨u0,rfl,g0⟩:=h4
  obtain ⟨u1,u2,rfl,g1,g2⟩:=M8 h5
  obtain ⟨u3,rfl,g3⟩:=h6
  obtain ⟨u4,rfl,g4⟩:=h7
  obtain ⟨u5,rfl,g5⟩:=h8
  exact ⟨u0,u1,u2,u3,u4,u5,rfl,g0,g1,g2,g3,g4,g5⟩
theorem sA{w:World}{ok:Nat->Prop}{x:aX}{v1:Value}{v2:Value}{v3:Value}{v4:Value}{v5:Value}{v6:Value}(g1:Sl aY w ok v1 x.Results)(g2:Sl aB w ok v2 x.Store.Nodes)(g3:Sl aC w ok v3 x.Store.Turns)(g4:Sl aQ w ok v4 x.Events)(g5:Sl bD w ok v5 x.Mounts)(g6:Sl (kI .i64) w ok v6 x.Wounded):bB.R w ok x [.int .i64 x.Err,.int .i64 x.At,.bool x.Yes,.int .i64 x.Epoch,v1,v2,v3,v4,v5,v6]:=⟨[.int .i64 x.Err],_,rfl,rfl,⟨[.int .i64 x.At],_,rfl,rfl,⟨[.bool x.Yes],_,rfl,rfl,⟨[.int .i64 x.Epoch],_,rfl,rfl,⟨[v1],_,rfl,⟨_,rfl,g1⟩,⟨[v2,v3],_,rfl,(Pf g2 g3),⟨[v4],_,rfl,⟨_,rfl,g4⟩,⟨[v5],_,rfl,⟨_,rfl,g5⟩,⟨_,rfl,g6⟩⟩⟩⟩⟩⟩⟩⟩⟩
theorem Js{w:World}{ok:Nat->Prop}{x:aX}{v1 v2 v3 v4 v5 v6:Value}(h:bB.R w ok x [.int .i64 x.Err,.int .i64 x.At,.bool x.Yes,.int .i64 x.Epoch,v1,v2,v3,v4,v5,v6]):Sl aY w ok v1 x.Results:=by
  obtain ⟨u0,u1,u2,u3,u4,u5,he,g0,g1,g2,g3,g4,g5⟩:=mU h
  cases he
  exact g0
theorem Jt{w:World}{ok:Nat->Prop}{x:aX}{v1 v2 v3 v4 v5 v6:Value}(h:bB.R w ok x [.int .i64 x.Err,.int .i64 x.At,.bool x.Yes,.int .i64 x.Epoch,v1,v2,v3,v4,v5,v6]):Sl aB w ok v2 x.Store.Nodes:=by
  obtain ⟨u0,u1,u2,u3,u4,u5,he,g0,g1,g2,g3,g4,g5⟩:=mU h
  cases he
  exact g1
theorem Ju{w:World}{ok:Nat->Prop}{x:aX}{v1 v2 v3 v4 v5 v6:Value}(h:bB.R w ok x [.int .i64 x.Err,.int .i64 x.At,.bool x.Yes,.int .i64 x.Epoch,v1,v2,v3,v4,v5,v6]):Sl aC w ok v3 x.Store.Turns:=by
  obtain ⟨u0,u1,u2,u3,u4,u5,he,g0,g1,g2,g3,g4,g5⟩:=mU h
  cases he
  exact g2
theorem Jv{w:World}{ok:Nat->Prop}{x:aX}{v1 v2 v3 v4 v5 v6:Value}(h:bB.R w ok x [.int .i64 x.Err,.int .i64 x.At,.bool x.Yes,.int .i64 x.Epoch,v1,v2,v3,v4,v5,v6]):Sl aQ w ok v4 x.Events:=by
  obtain ⟨u0,u1,u2,u3,u4,u5,he,g0,g1,g2,g3,g4,g5⟩:=mU h
  cases he
  exact g3
theorem Jw{w:World}{ok:Nat->Prop}{x:aX}{v1 v2 v3 v4 v5 v6:Value}(h:bB.R w ok x [.int .i64 x.Err,.int .i64 x.At,.bool x.Yes,.int .i64 x.Epoch,v1,v2,v3,v4,v5,v6]):Sl bD w ok v5 x.Mounts:=by
  obtain ⟨u0,u1,u2,u3,u4,u5,he,g0,g1,g2,g3,g4,g5⟩:=mU h
  cases he
  exact g4
theorem Jx{w:World}{ok:Nat->Prop}{x:aX}{v1 v2 v3 v4 v5 v6:Value}(h:bB.R w ok x [.int .i64 x.Err,.int .i64 x.At,.bool x.Yes,.int .i64 x.Epoch,v1,v2,v3,v4,v5,v6]):Sl (kI .i64) w ok v6 x.Wounded:=by
  obtain ⟨u0,u1,u2,u3,u4,u5,he,g0,g1,g2,g3,g4,g5⟩:=mU h
  cases he
  exact g5
abbrev aU (x:aX) (v1:Value) (v2:Value) (v3:Value) (v4:Value) (v5:Value) (v6:Value):List Value:=[.int .i64 x.Err,.int .i64 x.At,.bool x.Yes,.int .i64 x.Epoch,v1,v2,v3,v4,v5,v6]
abbrev bJ:List Value:=[.int .i64 0,.int .i64 0,.bool false,.int .i64 0,.slice none 0 0,.slice none 0 0,.slice none 0 0,.slice none 0 0,.slice none 0 0,.slice none 0 0]
theorem nZ{w:World}{os:List Ob}{rs:List Rp}{x:aX}{cs:List Value}(H:Sep w os (rCs bB cs x::rs)):∃ v1 v2 v3 v4 v5 v6:Value,cs=(aU x v1 v2 v3 v4 v5 v6)/\Sep w os (rSl (kI .i64) v6 x.Wounded::rSl bD v5 x.Mounts::rSl aQ v4 x.Events::rSl aC v3 x.Store.Turns::rSl aB v2 x.Store.Nodes::rSl aY v1 x.Results::rCs bB (aU x v1 v2 v3 v4 v5 v6) x::rs):=by
  obtain ⟨_,hcs⟩:=H.rd (.head _)
  obtain ⟨u0,u1,u2,u3,u4,u5,rfl,-,-,-,-,-,-⟩:=mU hcs
  refine ⟨_,_,_,_,_,_,rfl,?_⟩
  exact ((((((H.derive1 (.head _) (rSl aY u0 x.Results) λ ok h=>Js h).derive1 (.tail _ (.head _)) (rSl aB u1 x.Store.Nodes) λ ok h=>Jt h).derive1 (.tail _ (.tail _ (.head _))) (rSl aC u2 x.Store.Turns) λ ok h=>Ju h).derive1 (.tail _ (.tail _ (.tail _ (.head _)))) (rSl aQ u3 x.Events) λ ok h=>Jv h).derive1 (.tail _ (.tail _ (.tail _ (.tail _ (.head _))))) (rSl bD u4 x.Mounts) λ ok h=>Jw h).derive1 (.tail _ (.tail _ (.tail _ (.tail _ (.tail _ (.head _)))))) (rSl (kI .i64) u5 x.Wounded) λ ok h=>Jx h)
theorem aZ{w:World}{os:List Ob}{rs:List Rp}{z0:Int}{z1:Int}{z2:Bool}{z3:Int}{v1:Value}{yv1:List cN}{v2:Value}{yv2:List aG}{v3:Value}{yv3:List aM}{v4:Value}{yv4:List bP}{v5:Value}{yv5:List zA}{v6:Value}{yv6:List Int}(H:Sep w os rs)(hv1:rSl aY v1 yv1 ∈ rs)(hv2:rSl aB v2 yv2 ∈ rs)(hv3:rSl aC v3 yv3 ∈ rs)(hv4:rSl aQ v4 yv4 ∈ rs)(hv5:rSl bD v5 yv5 ∈ rs)(hv6:rSl (kI .i64) v6 yv6 ∈ rs):[.int .i64 z0,.int .i64 z1,.bool z2,.int .i64 z3,v1,v2,v3,v4,v5,v6].all (·.oneCell')=true:=by
  obtain ⟨_,_,rfl⟩:=H.slform hv1
  obtain ⟨_,_,rfl⟩:=H.slform hv2
  obtain ⟨_,_,rfl⟩:=H.slform hv3
  obtain ⟨_,_,rfl⟩:=H.slform hv4
  obtain ⟨_,_,rfl⟩:=H.slform hv5
  obtain ⟨_,_,rfl⟩:=H.slform hv6
  rfl
structure fS where
  over_:Bool
  pieces_:(List cR)
  a_:aX
  deriving DecidableEq,Inhabited
def dB:Kd fS:=nG (kP kB (kP (kL bT) bB)) λ x=>(x.over_,(x.pieces_,x.a_))
theorem oA{w:World}{ok:Nat->Prop}{x:fS}{cs:List Value}(h:dB.R w ok x cs):∃ v1 v2 v3 v4 v5 v6 v7:Value,cs= [.bool x.over_,v1,.int .i64 x.a_.Err,.int .i64 x.a_.At,.bool x.a_.Yes,.int .i64 x.a_.Epoch,v2,v3,v4,v5,v6,v7]/\Sl bT w ok v1 x.pieces_/\Sl aY w ok v2 x.a_.Results/\Sl aB w ok v3 x.a_.Store.Nodes/\Sl aC w ok v4 x.a_.Store.Turns/\Sl aQ w ok v5 x.a_.Events/\Sl bD w ok v6 x.a_.Mounts/\Sl (kI .i64) w ok v7 x.a_.Wounded:=by
  obtain ⟨c0,d0,rfl,h0,c1,d1,rfl,h1,h2⟩:=h
  have e0:c0= [.bool x.over_]:=h0
  subst e0
  obtain ⟨u0,rfl,g0⟩:=h1
  obtain ⟨u1,u2,u3,u4,u5,u6,rfl,g1,g2,g3,g4,g5,g6⟩:=mU h2
  exact ⟨u0,u1,u2,u3,u4,u5,u6,rfl,g0,g1,g2,g3,g4,g5,g6⟩
theorem T6{w:World}{ok:Nat->Prop}{x:fS}{v1:Value}{v2:Value}{v3:Value}{v4:Value}{v5:Value}{v6:Value}{v7:Value}(g1:Sl bT w ok v1 x.pieces_)(g2:Sl aY w ok v2 x.a_.Results)(g3:Sl aB w ok v3 x.a_.Store.Nodes)(g4:Sl aC w ok v4 x.a_.Store.Turns)(g5:Sl aQ w ok v5 x.a_.Events)(g6:Sl bD w ok v6 x.a_.Mounts)(g7:Sl (kI .i64) w ok v7 x.a_.Wounded):dB.R w ok x [.bool x.over_,v1,.int .i64 x.a_.Err,.int .i64 x.a_.At,.bool x.a_.Yes,.int .i64 x.a_.Epoch,v2,v3,v4,v5,v6,v7]:=⟨[.bool x.over_],_,rfl,rfl,⟨[v1],_,rfl,⟨_,rfl,g1⟩,(sA g2 g3 g4 g5 g6 g7)⟩⟩
theorem Lp{w:World}{ok:Nat->Prop}{x:fS}{v1 v2 v3 v4 v5 v6 v7:Value}(h:dB.R w ok x [.bool x.over_,v1,.int .i64 x.a_.Err,.int .i64 x.a_.At,.bool x.a_.Yes,.int .i64 x.a_.Epoch,v2,v3,v4,v5,v6,v7]):Sl bT w ok v1 x.pieces_:=by
  obtain ⟨u0,u1,u2,u3,u4,u5,u6,he,g0,g1,g2,g3,g4,g5,g6⟩:=oA h
  cases he
  exact g0
theorem Lq{w:World}{ok:Nat->Prop}{x:fS}{v1 v2 v3 v4 v5 v6 v7:Value}(h:dB.R w ok x [.bool x.over_,v1,.int .i64 x.a_.Err,.int .i64 x.a_.At,.bool x.a_.Yes,.int .i64 x.a_.Epoch,v2,v3,v4,v5,v6,v7]):Sl aY w ok v2 x.a_.Results:=by
  obtain ⟨u0,u1,u2,u3,u4,u5,u6,he,g0,g1,g2,g3,g4,g5,g6⟩:=oA h
  cases he
  exact g1
theorem Lr{w:World}{ok:Nat->Prop}{x:fS}{v1 v2 v3 v4 v5 v6 v7:Value}(h:dB.R w ok x [.bool x.over_,v1,.int .i64 x.a_.Err,.int .i64 x.a_.At,.bool x.a_.Yes,.int .i64 x.a_.Epoch,v2,v3,v4,v5,v6,v7]):Sl aB w ok v3 x.a_.Store.Nodes:=by
  obtain ⟨u0,u1,u2,u3,u4,u5,u6,he,g0,g1,g2,g3,g4,g5,g6⟩:=oA h
  cases he
  exact g2
theorem Ls{w:World}{ok:Nat->Prop}{x:fS}{v1 v2 v3 v4 v5 v6 v7:Value}(h:dB.R w ok x [.bool x.over_,v1,.int .i64 x.a_.Err,.int .i64 x.a_.At,.bool x.a_.Yes,.int .i64 x.a_.Epoch,v2,v3,v4,v5,v6,v7]):Sl aC w ok v4 x.a_.Store.Turns:=by
  obtain ⟨u0,u1,u2,u3,u4,u5,u6,he,g0,g1,g2,g3,g4,g5,g6⟩:=oA h
  cases he
  exact g3
theorem Lt{w:World}{ok:Nat->Prop}{x:fS}{v1 v2 v3 v4 v5 v6 v7:Value}(h:dB.R w ok x [.bool x.over_,v1,.int .i64 x.a_.Err,.int .i64 x.a_.At,.bool x.a_.Yes,.int .i64 x.a_.Epoch,v2,v3,v4,v5,v6,v7]):Sl aQ w ok v5 x.a_.Events:=by
  obtain ⟨u0,u1,u2,u3,u4,u5,u6,he,g0,g1,g2,g3,g4,g5,g6⟩:=oA h
  cases he
  exact g4
theorem Lu{w:World}{ok:Nat->Prop}{x:fS}{v1 v2 v3 v4 v5 v6 v7:Value}(h:dB.R w ok x [.bool x.over_,v1,.int .i64 x.a_.Err,.int .i64 x.a_.At,.bool x.a_.Yes,.int .i64 x.a_.Epoch,v2,v3,v4,v5,v6,v7]):Sl bD w ok v6 x.a_.Mounts:=by
  obtain ⟨u0,u1,u2,u3,u4,u5,u6,he,g0,g1,g2,g3,g4,g5,g6⟩:=oA h
  cases he
  exact g5
theorem Lv{w:World}{ok:Nat->Prop}{x:fS}{v1 v2 v3 v4 v5 v6 v7:Value}(h:dB.R w ok x [.bool x.over_,v1,.int .i64 x.a_.Err,.int .i64 x.a_.At,.bool x.a_.Yes,.int .i64 x.a_.Epoch,v2,v3,v4,v5,v6,v7]):Sl (kI .i64) w ok v7 x.a_.Wounded:=by
  obtain ⟨u0,u1,u2,u3,u4,u5,u6,he,g0,g1,g2,g3,g4,g5,g6⟩:=oA h
  cases he
  exact g6
abbrev Kr (x:fS) (v1:Value) (v2:Value) (v3:Value) (v4:Value) (v5:Value) (v6:Value) (v7:Value):List Value:=[.bool x.over_,v1,.int .i64 x.a_.Err,.int .i64 x.a_.At,.bool x.a_.Yes,.int .i64 x.a_.Epoch,v2,v3,v4,v5,v6,v7]
abbrev OG:List Value:=[.bool false,.slice none 0 0,.int .i64 0,.int .i64 0,.bool false,.int .i64 0,.slice none 0 0,.slice none 0 0,.slice none 0 0,.slice none 0 0,.slice none 0 0,.slice none 0 0]
theorem U7{w:World}{os:List Ob}{rs:List Rp}{x:fS}{cs:List Value}(H:Sep w os (rCs dB cs x::rs)):∃ v1 v2 v3 v4 v5 v6 v7:Value,cs=(Kr x v1 v2 v3 v4 v5 v6 v7)/\Sep w os (rSl (kI .i64) v7 x.a_.Wounded::rSl bD v6 x.a_.Mounts::rSl aQ v5 x.a_.Events::rSl aC v4 x.a_.Store.Turns::rSl aB v3 x.a_.Store.Nodes::rSl aY v2 x.a_.Results::rSl bT v1 x.pieces_::rCs dB (Kr x v1 v2 v3 v4 v5 v6 v7) x::rs):=by
  obtain ⟨_,hcs⟩:=H.rd (.head _)
  obtain ⟨u0,u1,u2,u3,u4,u5,u6,rfl,-,-,-,-,-,-,-⟩:=oA hcs
  refine ⟨_,_,_,_,_,_,_,rfl,?_⟩
  exact (((((((H.derive1 (.head _) (rSl bT u0 x.pieces_) λ ok h=>Lp h).derive1 (.tail _ (.head _)) (rSl aY u1 x.a_.Results) λ ok h=>Lq h).derive1 (.tail _ (.tail _ (.head _))) (rSl aB u2 x.a_.Store.Nodes) λ ok h=>Lr h).derive1 (.tail _ (.tail _ (.tail _ (.head _)))) (rSl aC u3 x.a_.Store.Turns) λ ok h=>Ls h).derive1 (.tail _ (.tail _ (.tail _ (.tail _ (.head _))))) (rSl aQ u4 x.a_.Events) λ ok h=>Lt h).derive1 (.tail _ (.tail _ (.tail _ (.tail _ (.tail _ (.head _)))))) (rSl bD u5 x.a_.Mounts) λ ok h=>Lu h).derive1 (.tail _ (.tail _ (.tail _ (.tail _ (.tail _ (.tail _ (.head _))))))) (rSl (kI .i64) u6 x.a_.Wounded) λ ok h=>Lv h)
theorem L9{w:World}{os:List Ob}{rs:List Rp}{z0:Bool}{z1:Int}{z2:Int}{z3:Bool}{z4:Int}{v1:Value}{yv1:List cR}{v2:Value}{yv2:List cN}{v3:Value}{yv3:List aG}{v4:Value}{yv4:List aM}{v5:Value}{yv5:List bP}{v6:Value}{yv6:List zA}{v7:Value}{yv7:List Int}(H:Sep w os rs)(hv1:rSl bT v1 yv1 ∈ rs)(hv2:rSl aY v2 yv2 ∈ rs)(hv3:rSl aB v3 yv3 ∈ rs)(hv4:rSl aC v4 yv4 ∈ rs)(hv5:rSl aQ v5 yv5 ∈ rs)(hv6:rSl bD v6 yv6 ∈ rs)(hv7:rSl (kI .i64) v7 yv7 ∈ rs):[.bool z0,v1,.int .i64 z1,.int .i64 z2,.bool z3,.int .i64 z4,v2,v3,v4,v5,v6,v7].all (·.oneCell')=true:=by
  obtain ⟨_,_,rfl⟩:=H.slform hv1
  obtain ⟨_,_,rfl⟩:=H.slform hv2
  obtain ⟨_,_,rfl⟩:=H.slform hv3
  obtain ⟨_,_,rfl⟩:=H.slform hv4
  obtain ⟨_,_,rfl⟩:=H.slform hv5
  obtain ⟨_,_,rfl⟩:=H.slform hv6
  obtain ⟨_,_,rfl⟩:=H.slform hv7
  rfl
structure eQ where
  Kind:Int
  Path:ByteArray
  Data:ByteArray
  Version:Int
  Owner:Int
  Turns:Bool
  deriving DecidableEq,Inhabited
def M9:Kd eQ:=nG (kP (kI .i64) (kP kS (kP kS (kP (kI .i64) (kP (kI .i64) kB))))) λ x=>(x.Kind,(x.Path,(x.Data,(x.Version,(x.Owner,x.Turns)))))
theorem Re{w:World}{ok:Nat->Prop}{x:eQ}{cs:List Value}(h:M9.R w ok x cs):cs= [.int .i64 x.Kind,.string x.Path,.string x.Data,.int .i64 x.Version,.int .i64 x.Owner,.bool x.Turns]:=by
  obtain ⟨c0,d0,rfl,h0,c1,d1,rfl,h1,c2,d2,rfl,h2,c3,d3,rfl,h3,c4,d4,rfl,h4,h5⟩:=h
  have e0:c0= [.int .i64 x.Kind]:=h0
  subst e0
  have e1:c1= [.string x.Path]:=h1
  subst e1
  have e2:c2= [.string x.Data]:=h2
  subst e2
  have e3:c3= [.int .i64 x.Version]:=h3
  subst e3
  have e4:c4= [.int .i64 x.Owner]:=h4
  subst e4
  have e5:d4= [.bool x.Turns]:=h5
  subst e5
  rfl
theorem Ks{w:World}{ok:Nat->Prop}{x:eQ}:M9.R w ok x [.int .i64 x.Kind,.string x.Path,.string x.Data,.int .i64 x.Version,.int .i64 x.Owner,.bool x.Turns]:=⟨[.int .i64 x.Kind],_,rfl,rfl,⟨[.string x.Path],_,rfl,rfl,⟨[.string x.Data],_,rfl,rfl,⟨[.int .i64 x.Version],_,rfl,rfl,⟨[.int .i64 x.Owner],_,rfl,rfl,rfl⟩⟩⟩⟩⟩
abbrev tU (x:eQ):List Value:=[.int .i64 x.Kind,.string x.Path,.string x.Data,.int .i64 x.Version,.int .i64 x.Owner,.bool x.Turns]
abbrev QD:List Value:=[.int .i64 0,.string ⟨#[]⟩,.string ⟨#[]⟩,.int .i64 0,.int .i64 0,.bool false]
def Fw:gN M9:=⟨λ x=>[.int .i64 x.Kind,.string x.Path,.string x.Data,.int .i64 x.Version,.int .i64 x.Owner,.bool x.Turns],Re,Ks⟩
def Bq:gN cP:=⟨λ x=>[.int .i64 x.Kind,.string x.Dir,.string x.Path,.string x.Data,.int .i64 x.Version,.int .i64 x.Owner,.bool x.Turns],Bp,jJ⟩
structure aK where
  Kind:Int
  Id:Int
  Txn:Int
  Age:Int
  Yes:Bool
  Pieces:(List cR)
  Prefix:ByteArray
  Epoch:Int
  To:Int
  Store:aR
  Gone:(List ByteArray)
  Watch:aP
  deriving DecidableEq,Inhabited
def wC:Kd aK:=nG (kP (kI .i64) (kP (kI .i64) (kP (kI .i64) (kP (kI .i64) (kP kB (kP (kL bT) (kP kS (kP (kI .i64) (kP (kI .i64) (kP qK (kP (kL kS) aS))))))))))) λ x=>(x.Kind,(x.Id,(x.Txn,(x.Age,(x.Yes,(x.Pieces,(x.Prefix,(x.Epoch,(x.To,(x.Store,(x.Gone,x.Watch)))))))))))
theorem rD{w:World}{ok:Nat->Prop}{x:aK}{cs:List Value}(h:wC.R w ok x cs):∃ v1 v2 v3 v4:Value,cs= [.int .i64 x.Kind,.int .i64 x.Id,.int .i64 x.Txn,.int .i64 x.Age,.bool x.Yes,v1,.string x.Prefix,.int .i64 x.Epoch,.int .i64 x.To,v2,v3,v4,.int .i64 x.Watch.Session,.int .i64 x.Watch.Num,.string x.Watch.Path,.bool x.Watch.Deep]/\Sl bT w ok v1 x.Pieces/\Sl aB w ok v2 x.Store.Nodes/\Sl aC w ok v3 x.Store.Turns/\Sl kS w ok v4 x.Gone:=by
  obtain ⟨c0,d0,rfl,h0,c1,d1,rfl,h1,c2,d2,rfl,h2,c3,d3,rfl,h3,c4,d4,rfl,h4,c5,d5,rfl,h5,c6,d6,rfl,h6,c7,d7,rfl,h7,c8,d8,rfl,h8,c9,d9,rfl,h9,c10,d10,rfl,h10,h11⟩:=h
  have e0:c0= [.int .i64 x.Kind]:=h0
  subst e0
  have e1:c1= [.int .i64 x.Id]:=h1
  subst e1
  have e2:c2= [.int .i64 x.Txn]:=h2
  subst e2
  have e3:c3= [.int .i64 x.Age]:=h3
  subst e3
  have e4:c4= [.bool x.Yes]:=h4
  subst e4
  obtain ⟨u0,rfl,g0⟩:=h5
  have e6:c6= [.string x.Prefix]:=h6
  subst e6
  have e7:c7= [.int .i64 x.Epoch]:=h7
  subst e7
  have e8:c8= [.int .i64 x.To]:=h8
  subst e8
  obtain ⟨u1,u2,rfl,g1,g2⟩:=M8 h9
  obtain ⟨u3,rfl,g3⟩:=h10
  obtain ⟨rfl⟩:=y4 h11
  exact ⟨u0,u1,u2,u3,rfl,g0,g1,g2,g3⟩
theorem Hc{w:World}{ok:Nat->Prop}{x:aK}{v1 v2 v3 v4:Value}(h:wC.R w ok x [.int .i64 x.Kind,.int .i64 x.Id,.int .i64 x.Txn,.int .i64 x.Age,.bool x.Yes,v1,.string x.Prefix,.int .i64 x.Epoch,.int .i64 x.To,v2,v3,v4,.int .i64 x.Watch.Session,.int .i64 x.Watch.Num,.string x.Watch.Path,.bool x.Watch.Deep]):Sl bT w ok v1 x.Pieces:=by
  obtain ⟨u0,u1,u2,u3,he,g0,g1,g2,g3⟩:=rD h
  cases he
  exact g0
theorem He{w:World}{ok:Nat->Prop}{x:aK}{v1 v2 v3 v4:Value}(h:wC.R w ok x [.int .i64 x.Kind,.int .i64 x.Id,.int .i64 x.Txn,.int .i64 x.Age,.bool x.Yes,v1,.string x.Prefix,.int .i64 x.Epoch,.int .i64 x.To,v2,v3,v4,.int .i64 x.Watch.Session,.int .i64 x.Watch.Num,.string x.Watch.Path,.bool x.Watch.Deep]):Sl aB w ok v2 x.Store.Nodes:=by
  obtain ⟨u0,u1,u2,u3,he,g0,g1,g2,g3⟩:=rD h
  cases he
  exact g1
theorem Hf{w:World}{ok:Nat->Prop}{x:aK}{v1 v2 v3 v4:Value}(h:wC.R w ok x [.int .i64 x.Kind,.int .i64 x.Id,.int .i64 x.Txn,.int .i64 x.Age,.bool x.Yes,v1,.string x.Prefix,.int .i64 x.Epoch,.int .i64 x.To,v2,v3,v4,.int .i64 x.Watch.Session,.int .i64 x.Watch.Num,.string x.Watch.Path,.bool x.Watch.Deep]):Sl aC w ok v3 x.Store.Turns:=by
  obtain ⟨u0,u1,u2,u3,he,g0,g1,g2,g3⟩:=rD h
  cases he
  exact g2
theorem Hg{w:World}{ok:Nat->Prop}{x:aK}{v1 v2 v3 v4:Value}(h:wC.R w ok x [.int .i64 x.Kind,.int .i64 x.Id,.int .i64 x.Txn,.int .i64 x.Age,.bool x.Yes,v1,.string x.Prefix,.int .i64 x.Epoch,.int .i64 x.To,v2,v3,v4,.int .i64 x.Watch.Session,.int .i64 x.Watch.Num,.string x.Watch.Path,.bool x.Watch.Deep]):Sl kS w ok v4 x.Gone:=by
  obtain ⟨u0,u1,u2,u3,he,g0,g1,g2,g3⟩:=rD h
  cases he
  exact g3
abbrev aL (x:aK) (v1:Value) (v2:Value) (v3:Value) (v4:Value):List Value:=[.int .i64 x.Kind,.int .i64 x.Id,.int .i64 x.Txn,.int .i64 x.Age,.bool x.Yes,v1,.string x.Prefix,.int .i64 x.Epoch,.int .i64 x.To,v2,v3,v4,.int .i64 x.Watch.Session,.int .i64 x.Watch.Num,.string x.Watch.Path,.bool x.Watch.Deep]
theorem Fx{w:World}{os:List Ob}{rs:List Rp}{x:aK}{cs:List Value}(H:Sep w os (rCs wC cs x::rs)):∃ v1 v2 v3 v4:Value,cs=(aL x v1 v2 v3 v4)/\Sep w os (rSl kS v4 x.Gone::rSl aC v3 x.Store.Turns::rSl aB v2 x.Store.Nodes::rSl bT v1 x.Pieces::rCs wC (aL x v1 v2 v3 v4) x::rs):=by
  obtain ⟨_,hcs⟩:=H.rd (.head _)
  obtain ⟨u0,u1,u2,u3,rfl,-,-,-,-⟩:=rD hcs
  refine ⟨_,_,_,_,rfl,?_⟩
  exact ((((H.derive1 (.head _) (rSl bT u0 x.Pieces) λ ok h=>Hc h).derive1 (.tail _ (.head _)) (rSl aB u1 x.Store.Nodes) λ ok h=>He h).derive1 (.tail _ (.tail _ (.head _))) (rSl aC u2 x.Store.Turns) λ ok h=>Hf h).derive1 (.tail _ (.tail _ (.tail _ (.head _)))) (rSl kS u3 x.Gone) λ ok h=>Hg h)
theorem Jy{w:World}{ok:Nat->Prop}{q:Addr}{x:aK}{cs:List Value}(h:(rAw wC q x cs).p w ok):∃ c,(rAw (kL bT) (q.add 5) x.Pieces c).p w ok/\c=(cs.drop 5).take 1:=by
  have h0:(rAw (kP (kI .i64) (kP (kI .i64) (kP (kI .i64) (kP (kI .i64) (kP kB (kP (kL bT) (kP kS (kP (kI .i64) (kP (kI .i64) (kP qK (kP (kL kS) aS))))))))))) q ((x.Kind,(x.Id,(x.Txn,(x.Age,(x.Yes,(x.Pieces,(x.Prefix,(x.Epoch,(x.To,(x.Store,(x.Gone,x.Watch)))))))))))) cs).p w ok:=h
  have hl:cs.length=16:=wC.len h.2.1
  have h1:=(C4 (oS (oS (oS (oS (oS h0))))))
  simp only [add_add,kP,kI,kB,kS,kL,nG,Kd.scalar,qK,aS] at h1
  refine ⟨_,h1,?_⟩
  (try simp only [kP,kI,kB,kS,kL,nG,Kd.scalar,qK,aS])
  all_goals (try (apply List.ext_getElem?;intro j;simp [List.getElem?_take,List.getElem?_drop]))
  all_goals (try (intros;(try split);(try omega);(try (rw [List.getElem?_eq_none (by omega)]))))
theorem Jz{w:World}{ok:Nat->Prop}{q:Addr}{x:aK}{cs:List Value}(h:(rAw wC q x cs).p w ok):∃ c,(rAw qK (q.add 9) x.Store c).p w ok/\c=(cs.drop 9).take 2:=by
  have h0:(rAw (kP (kI .i64) (kP (kI .i64) (kP (kI .i64) (kP (kI .i64) (kP kB (kP (kL bT) (kP kS (kP (kI .i64) (kP (kI .i64) (kP qK (kP (kL kS) aS))))))))))) q ((x.Kind,(x.Id,(x.Txn,(x.Age,(x.Yes,(x.Pieces,(x.Prefix,(x.Epoch,(x.To,(x.Store,(x.Gone,x.Watch)))))))))))) cs).p w ok:=h
  have hl:cs.length=16:=wC.len h.2.1
  have h1:=(C4 (oS (oS (oS (oS (oS (oS (oS (oS (oS h0))))))))))
  simp only [add_add,kP,kI,kB,kS,kL,nG,Kd.scalar,qK,aS] at h1
  refine ⟨_,h1,?_⟩
  (try simp only [kP,kI,kB,kS,kL,nG,Kd.scalar,qK,aS])
  all_goals (try (apply List.ext_getElem?;intro j;simp [List.getElem?_take,List.getElem?_drop]))
  all_goals (try (intros;(try split);(try omega);(try (rw [List.getElem?_eq_none (by omega)]))))
def y5:gN bT:=⟨λ x=>[.int .i64 x.Op,.int .i64 x.Part.Kind,.string x.Part.Dir,.string x.Part.Path,.string x.Part.Data,.int .i64 x.Part.Version,.int .i64 x.Part.Owner,.bool x.Part.Turns],Lm,Di⟩
abbrev Vx:aR:=⟨[],[]⟩
abbrev uS:aX:=⟨0,0,false,0,[],Vx,[],[],[]⟩
structure aT where
  Watches:(List aP)
  Sessions:(List aE)
  deriving DecidableEq,Inhabited
def JR:Kd aT:=nG (kP (kL aS) (kL aI)) λ x=>(x.Watches,x.Sessions)
theorem hY{w:World}{os:List Ob}{rs:List Rp}{v1:Value}{yv1:List aP}{v2:Value}{yv2:List aE}(H:Sep w os rs)(hv1:rSl aS v1 yv1 ∈ rs)(hv2:rSl aI v2 yv2 ∈ rs):[v1,v2].all (·.oneCell')=true:=by
  obtain ⟨_,_,rfl⟩:=H.slform hv1
  obtain ⟨_,_,rfl⟩:=H.slform hv2
  rfl
def tV:gN aQ:=⟨λ x=>[.int .i64 x.Num,.int .i64 x.Kind,.string x.Path,.int .i64 x.Watch],M7,I4⟩
def GN:gN kS:=⟨λ x=>[.string x],λ h=>h,rfl⟩
structure Vy where
  Store:aR
  r_:cN
  deriving DecidableEq,Inhabited
def OH:Kd Vy:=nG (kP qK aY) λ x=>(x.Store,x.r_)
abbrev U8:fS:=⟨false,[],uS⟩
def cfB(P:Program)(f:Nat):Bool:=match P.funcs[f]? with
  | some fn=>!(fn.body.isNone || fn.name == "runtime.NumGoroutine")
  | none=>false
theorem cfA{P:Program}{f:Nat}(h:cfB P f=true):CF P f:=by
  unfold cfB at h
  split at h
  · rename_i fn hf
    exact cfo hf (by simpa using h)
  · cases h
theorem cf_(f:Nat)(h:cfB Tryz.prog f=true:=by kernel_rfl):CF Tryz.prog f:=cfA h
abbrev U25:=Tryz.underlying25
theorem dF:(Tryz.prog.info? 25).map (·.size)=some 2:=by kernel_rfl
theorem KL:∀ (w:World) (q:Addr),(Instr.fieldAt 25 (.pointer (some q)) 0).run Tryz.prog w= .ok (.pointer (some (q.add 0))) w:=λ w q=>by kernel_rfl
abbrev U22:=Tryz.underlying22
theorem gM:(Tryz.prog.info? 107).map (·.size)=some 5:=by kernel_rfl
abbrev zS:=Tryz.underlying107
theorem GO:∀ (w:World) (q:Addr),(Instr.fieldAt 107 (.pointer (some q)) 3).run Tryz.prog w= .ok (.pointer (some (q.add 3))) w:=λ w q=>by kernel_rfl
abbrev U2:=Tryz.underlying2
theorem GP:∀ (w:World) (q:Addr),(Instr.fieldAt 107 (.pointer (some q)) 0).run Tryz.prog w= .ok (.pointer (some (q.add 0))) w:=λ w q=>by kernel_rfl
abbrev U9:=Tryz.underlying9
theorem GQ:∀ (w:World) (q:Addr),(Instr.fieldAt 107 (.pointer (some q)) 1).run Tryz.prog w= .ok (.pointer (some (q.add 1))) w:=λ w q=>by kernel_rfl
theorem GR:∀ (w:World) (q:Addr),(Instr.fieldAt 107 (.pointer (some q)) 2).run Tryz.prog w= .ok (.pointer (some (q.add 2))) w:=λ w q=>by kernel_rfl
theorem GS:∀ (w:World) (q:Addr),(Instr.fieldAt 107 (.pointer (some q)) 4).run Tryz.prog w= .ok (.pointer (some (q.add 4))) w:=λ w q=>by kernel_rfl
abbrev U33:=Tryz.underlying33
theorem KM:∀ (w:World) (s:ByteArray) (c:Int),(callFunc 326 #[.string s,.int .u8 c]).run Tryz.prog w= .ok (.value (.int .i64 (ixB s c))) w:=λ w s c=>Sz Tryz.func326 (by kernel_rfl) (by kernel_rfl) (by kernel_rfl) (e:=Extern.BytealgIndexByte.indexByte) (by kernel_rfl) (GF s c w)
theorem Yi:(Tryz.prog.info? 9).map (λ i=>(i.zero,i.size,i.bytes))=some (some (.string ⟨#[]⟩),1,16):=by kernel_rfl
theorem KN:∀ (w:World) (q:Addr),(Instr.fieldAt 25 (.pointer (some q)) 1).run Tryz.prog w= .ok (.pointer (some (q.add 1))) w:=λ w q=>by kernel_rfl
abbrev U23:=Tryz.underlying23
theorem rW:(Tryz.prog.info? 89).map (·.size)=some 2:=by kernel_rfl
abbrev U89:=Tryz.underlying89
theorem KO:∀ (w:World) (q:Addr),(Instr.fieldAt 89 (.pointer (some q)) 0).run Tryz.prog w= .ok (.pointer (some (q.add 0))) w:=λ w q=>by kernel_rfl
theorem KP:∀ (w:World) (q:Addr),(Instr.fieldAt 89 (.pointer (some q)) 1).run Tryz.prog w= .ok (.pointer (some (q.add 1))) w:=λ w q=>by kernel_rfl
abbrev U32:=Tryz.underlying32
theorem kA:(Tryz.prog.info? 31).map (·.size)=some 3:=by kernel_rfl
abbrev U31:=Tryz.underlying31
theorem Ph:(Tryz.prog.info? 31).bind (·.zero)=some (.agg Vw.toArray):=by kernel_rfl
theorem KQ:∀ (w:World) (q:Addr),(Instr.fieldAt 31 (.pointer (some q)) 0).run Tryz.prog w= .ok (.pointer (some (q.add 0))) w:=λ w q=>by kernel_rfl
theorem KR:∀ (w:World) (q:Addr),(Instr.fieldAt 31 (.pointer (some q)) 1).run Tryz.prog w= .ok (.pointer (some (q.add 1))) w:=λ w q=>by kernel_rfl
theorem KS:∀ (w:World) (q:Addr),(Instr.fieldAt 31 (.pointer (some q)) 2).run Tryz.prog w= .ok (.pointer (some (q.add 2))) w:=λ w q=>by kernel_rfl
abbrev U3:=Tryz.underlying3
abbrev Pi:=Tryz.underlying135
theorem Br:(Tryz.prog.info? 134).map (·.size)=some 6:=by kernel_rfl
abbrev Tp:=Tryz.underlying134
theorem GT:∀ (w:World) (q:Addr),(Instr.fieldAt 134 (.pointer (some q)) 0).run Tryz.prog w= .ok (.pointer (some (q.add 0))) w:=λ w q=>by kernel_rfl
theorem GU:∀ (w:World) (q:Addr),(Instr.fieldAt 134 (.pointer (some q)) 1).run Tryz.prog w= .ok (.pointer (some (q.add 1))) w:=λ w q=>by kernel_rfl
theorem GV:∀ (w:World) (q:Addr),(Instr.fieldAt 134 (.pointer (some q)) 2).run Tryz.prog w= .ok (.pointer (some (q.add 2))) w:=λ w q=>by kernel_rfl
theorem GW:∀ (w:World) (q:Addr),(Instr.fieldAt 134 (.pointer (some q)) 4).run Tryz.prog w= .ok (.pointer (some (q.add 4))) w:=λ w q=>by kernel_rfl
theorem GX:∀ (w:World) (q:Addr),(Instr.fieldAt 134 (.pointer (some q)) 3).run Tryz.prog w= .ok (.pointer (some (q.add 3))) w:=λ w q=>by kernel_rfl
theorem GY:∀ (w:World) (q:Addr),(Instr.fieldAt 134 (.pointer (some q)) 5).run Tryz.prog w= .ok (.pointer (some (q.add 5))) w:=λ w q=>by kernel_rfl
abbrev U4:=Tryz.underlying4
theorem OV:(Tryz.prog.info? 312).bind (·.zero)=some (.agg #[.int .i64 0,.int .i64 0,.int .i64 0,.int .i64 0,.int .i64 0,.int .i64 0,.int .i64 0,.int .i64 0]):=by kernel_rfl
theorem FS:(Tryz.prog.info? 312).map (·.size)=some 8:=by kernel_rfl
abbrev KT:=Tryz.underlying312
theorem sz3:(Tryz.prog.info? 3).map (·.size)=some 1:=by kernel_rfl
theorem OW:(Tryz.prog.info? 134).bind (·.zero)=some (.agg QD.toArray):=by kernel_rfl
theorem OX:(Tryz.prog.info? 192).bind (·.zero)=some (.slice none 0 0):=by kernel_rfl
theorem zr9:(Tryz.prog.info? 9).bind (·.zero)=some (.string ⟨#[]⟩):=by kernel_rfl
theorem sz9:(Tryz.prog.info? 9).map (·.size)=some 1:=by kernel_rfl
theorem OY:(Tryz.prog.info? 258).bind (·.zero)=some (.nilFunc):=by kernel_rfl
theorem OZ:(Tryz.prog.info? 258).map (·.size)=some 1:=by kernel_rfl
abbrev Tq:=Tryz.underlying258
theorem Lw:(Tryz.prog.info? 97).bind (·.zero)=some (.agg OU.toArray):=by kernel_rfl
theorem mC:(Tryz.prog.info? 97).map (·.size)=some 7:=by kernel_rfl
abbrev U97:=Tryz.underlying97
theorem KU:∀ (w:World) (q:Addr),(Instr.fieldAt 97 (.pointer (some q)) 3).run Tryz.prog w= .ok (.pointer (some (q.add 3))) w:=λ w q=>by kernel_rfl
theorem KV:∀ (w:World) (q:Addr),(Instr.fieldAt 97 (.pointer (some q)) 5).run Tryz.prog w= .ok (.pointer (some (q.add 5))) w:=λ w q=>by kernel_rfl
theorem sz2:(Tryz.prog.info? 2).map (·.size)=some 1:=by kernel_rfl
theorem KW:∀ (w:World) (q:Addr),(Instr.fieldAt 97 (.pointer (some q)) 6).run Tryz.prog w= .ok (.pointer (some (q.add 6))) w:=λ w q=>by kernel_rfl
theorem sz4:(Tryz.prog.info? 4).map (·.size)=some 1:=by kernel_rfl
abbrev Tr:=Tryz.underlying192
theorem PA:(Tryz.prog.info? 97).map (λ i=>(i.zero,i.size,i.bytes))=some (some (.agg #[.int .i64 0,.string ⟨#[]⟩,.string ⟨#[]⟩,.string ⟨#[]⟩,.int .i64 0,.int .i64 0,.bool false]),7,80):=by kernel_rfl
theorem PB:(Tryz.prog.info? 192).map (·.size)=some 1:=by kernel_rfl
theorem KX:∀ (w:World) (q:Addr),(Instr.fieldAt 97 (.pointer (some q)) 4).run Tryz.prog w= .ok (.pointer (some (q.add 4))) w:=λ w q=>by kernel_rfl
abbrev U26:=Tryz.underlying26
theorem PC:(Tryz.prog.info? 99).map (λ i=>(i.zero,i.size,i.bytes))=some (some (.agg #[.int .i64 0,.int .i64 0,.string ⟨#[]⟩,.string ⟨#[]⟩,.string ⟨#[]⟩,.int .i64 0,.int .i64 0,.bool false]),8,88):=by kernel_rfl
theorem kM:(Tryz.prog.info? 48).bind (·.zero)=some (.agg bJ.toArray):=by kernel_rfl
theorem PD:(Tryz.prog.info? 101).bind (·.zero)=some (.agg #[.nilFunc,.nilFunc,.nilFunc,.nilFunc,.nilFunc,.nilFunc,.nilFunc,.nilFunc,.nilFunc,.nilFunc,.nilFunc]):=by kernel_rfl
theorem PE:(Tryz.prog.info? 101).map (·.size)=some 11:=by kernel_rfl
abbrev U37:=Tryz.underlying37
theorem yZ:(Tryz.prog.info? 37).map (·.size)=some 16:=by kernel_rfl
theorem AR:∀ (w:World) (q:Addr),(Instr.fieldAt 37 (.pointer (some q)) 5).run Tryz.prog w= .ok (.pointer (some (q.add 5))) w:=λ w q=>by kernel_rfl
theorem T7:(Tryz.prog.info? 99).map (·.size)=some 8:=by kernel_rfl
abbrev U99:=Tryz.underlying99
theorem Yj:(Tryz.prog.info? 99).bind (·.zero)=some (.agg OE.toArray):=by kernel_rfl
theorem KY:∀ (w:World) (q:Addr),(Instr.fieldAt 99 (.pointer (some q)) 0).run Tryz.prog w= .ok (.pointer (some (q.add 0))) w:=λ w q=>by kernel_rfl
theorem KZ:∀ (w:World) (q:Addr),(Instr.fieldAt 99 (.pointer (some q)) 1).run Tryz.prog w= .ok (.pointer (some (q.add 1))) w:=λ w q=>by kernel_rfl
theorem LA:∀ (w:World) (q:Addr),(Instr.fieldAt 97 (.pointer (some q)) 2).run Tryz.prog w= .ok (.pointer (some (q.add 2))) w:=λ w q=>by kernel_rfl
theorem LB:∀ (w:World) (q:Addr),(Instr.fieldAt 97 (.pointer (some q)) 0).run Tryz.prog w= .ok (.pointer (some (q.add 0))) w:=λ w q=>by kernel_rfl
theorem LC:∀ (w:World) (q:Addr),(Instr.fieldAt 97 (.pointer (some q)) 1).run Tryz.prog w= .ok (.pointer (some (q.add 1))) w:=λ w q=>by kernel_rfl
theorem GZ:∀ (w:World) (q:Addr),(Instr.fieldAt 37 (.pointer (some q)) 10).run Tryz.prog w= .ok (.pointer (some (q.add 11))) w:=λ w q=>by kernel_rfl
theorem Ts:∀ (w:World) (q:Addr),(Instr.fieldAt 37 (.pointer (some q)) 6).run Tryz.prog w= .ok (.pointer (some (q.add 6))) w:=λ w q=>by kernel_rfl
theorem LD:∀ (w:World) (q:Addr),(Instr.fieldAt 37 (.pointer (some q)) 0).run Tryz.prog w= .ok (.pointer (some (q.add 0))) w:=λ w q=>by kernel_rfl
theorem LE:∀ (w:World) (q:Addr),(Instr.fieldAt 37 (.pointer (some q)) 8).run Tryz.prog w= .ok (.pointer (some (q.add 8))) w:=λ w q=>by kernel_rfl
theorem Hh:∀ (w:World) (q:Addr),(Instr.fieldAt 37 (.pointer (some q)) 1).run Tryz.prog w= .ok (.pointer (some (q.add 1))) w:=λ w q=>by kernel_rfl
theorem Nm:∀ (w:World) (q:Addr),(Instr.fieldAt 37 (.pointer (some q)) 2).run Tryz.prog w= .ok (.pointer (some (q.add 2))) w:=λ w q=>by kernel_rfl
theorem LF:∀ (w:World) (q:Addr),(Instr.fieldAt 37 (.pointer (some q)) 3).run Tryz.prog w= .ok (.pointer (some (q.add 3))) w:=λ w q=>by kernel_rfl
theorem LG:∀ (w:World) (q:Addr),(Instr.fieldAt 37 (.pointer (some q)) 7).run Tryz.prog w= .ok (.pointer (some (q.add 7))) w:=λ w q=>by kernel_rfl
theorem Jc:∀ (w:World) (q:Addr),(Instr.fieldAt 37 (.pointer (some q)) 11).run Tryz.prog w= .ok (.pointer (some (q.add 12))) w:=λ w q=>by kernel_rfl
theorem Nn:∀ (w:World) (q:Addr),(Instr.fieldAt 35 (.pointer (some q)) 0).run Tryz.prog w= .ok (.pointer (some (q.add 0))) w:=λ w q=>by kernel_rfl
theorem Tt:∀ (w:World) (q:Addr),(Instr.fieldAt 35 (.pointer (some q)) 1).run Tryz.prog w= .ok (.pointer (some (q.add 1))) w:=λ w q=>by kernel_rfl
abbrev U46:=Tryz.underlying46
theorem LH:∀ (w:World) (q:Addr),(Instr.fieldAt 35 (.pointer (some q)) 2).run Tryz.prog w= .ok (.pointer (some (q.add 2))) w:=λ w q=>by kernel_rfl
theorem LI:∀ (w:World) (q:Addr),(Instr.fieldAt 37 (.pointer (some q)) 9).run Tryz.prog w= .ok (.pointer (some (q.add 9))) w:=λ w q=>by kernel_rfl
theorem bU:(Tryz.prog.info? 48).map (·.size)=some 10:=by kernel_rfl
abbrev U48:=Tryz.underlying48
abbrev Cc:=Tryz.underlying101
theorem V1:(Tryz.prog.info? 100).map (·.size)=some 1:=by kernel_rfl
abbrev Cd:=Tryz.underlying100
theorem Hi:∀ (w:World) (q:Addr),(Instr.fieldAt 87 (.pointer (some q)) 4).run Tryz.prog w= .ok (.pointer (some (q.add 6))) w:=λ w q=>by kernel_rfl
abbrev U84:=Tryz.underlying84
theorem P8:(Tryz.prog.info? 48).bind (·.zero)=some (.agg [.int .i64 0,.int .i64 0,.bool false,.int .i64 0,.slice none 0 0,.slice none 0 0,.slice none 0 0,.slice none 0 0,.slice none 0 0,.slice none 0 0].toArray):=by kernel_rfl
theorem Av:∀ (w:World) (ok:Nat->Prop),bB.R w ok uS [.int .i64 0,.int .i64 0,.bool false,.int .i64 0,.slice none 0 0,.slice none 0 0,.slice none 0 0,.slice none 0 0,.slice none 0 0,.slice none 0 0]:=λ w ok=>sA (Sl.nil _ _ _) (Sl.nil _ _ _) (Sl.nil _ _ _) (Sl.nil _ _ _) (Sl.nil _ _ _) (Sl.nil _ _ _)
theorem oT:Tryz.prog.follows .mixedOrders=true:=by kernel_rfl
theorem Hj:∀ (w:World) (q:Addr),(Instr.fieldAt 87 (.pointer (some q)) 3).run Tryz.prog w= .ok (.pointer (some (q.add 4))) w:=λ w q=>by kernel_rfl
abbrev U73:=Tryz.underlying73
theorem fM:(Tryz.prog.info? 73).map (·.size)=some 2:=by kernel_rfl
theorem P9:(Tryz.prog.info? 73).bind (·.zero)=some (.agg #[.slice none 0 0,.slice none 0 0]):=by kernel_rfl
theorem Tu:∀ (w:World) (q:Addr),(Instr.fieldAt 73 (.pointer (some q)) 0).run Tryz.prog w= .ok (.pointer (some (q.add 0))) w:=λ w q=>by kernel_rfl
abbrev U70:=Tryz.underlying70
theorem tW:(Tryz.prog.info? 35).map (·.size)=some 4:=by kernel_rfl
abbrev U35:=Tryz.underlying35
theorem LJ:(Tryz.prog.info? 35).bind (·.zero)=some (.agg OD.toArray):=by kernel_rfl
theorem Tv:(Tryz.prog.info? 3).bind (·.zero)=some (.int .i64 0):=by kernel_rfl
abbrev QE:=Tryz.underlying294
theorem Dj:zK Tryz.prog 294 K6:=DK (Maps.Keyed.of_law (deep_law_laid (by kernel_rfl) (m:=3) (by omega) (of_decide_eq_true (by kernel_rfl)) (by kernel_rfl) (by kernel_rfl))) QE U2 U2 (by kernel_rfl) ⟨by kernel_rfl,by kernel_rfl,by kernel_rfl,rfl,rfl⟩ (by kernel_rfl) (by kernel_rfl)
abbrev Lx:=Tryz.underlying292
theorem Tw:∀ (w:World) (q:Addr),(Instr.fieldAt 73 (.pointer (some q)) 1).run Tryz.prog w= .ok (.pointer (some (q.add 1))) w:=λ w q=>by kernel_rfl
abbrev U71:=Tryz.underlying71
theorem rU:(Tryz.prog.info? 126).map (·.size)=some 3:=by kernel_rfl
theorem HA:∀ (w:World) (q:Addr),(Instr.fieldAt 126 (.pointer (some q)) 0).run Tryz.prog w= .ok (.pointer (some (q.add 0))) w:=λ w q=>by kernel_rfl
abbrev QF:=Tryz.underlying236
abbrev Pj:=Tryz.underlying126
abbrev QG:=Tryz.underlying124
theorem HB:∀ (w:World) (q:Addr),(Instr.fieldAt 126 (.pointer (some q)) 1).run Tryz.prog w= .ok (.pointer (some (q.add 1))) w:=λ w q=>by kernel_rfl
theorem Wv:∀ (w:World) (q:Addr),(Instr.fieldAt 126 (.pointer (some q)) 2).run Tryz.prog w= .ok (.pointer (some (q.add 2))) w:=λ w q=>by kernel_rfl
abbrev U44:=Tryz.underlying44
theorem vN:(Tryz.prog.info? 131).map (·.size)=some 4:=by kernel_rfl
abbrev Ek:=Tryz.underlying131
theorem Yk:(Tryz.prog.info? 131).bind (·.zero)=some (.agg OC.toArray):=by kernel_rfl
theorem HC:∀ (w:World) (q:Addr),(Instr.fieldAt 131 (.pointer (some q)) 0).run Tryz.prog w= .ok (.pointer (some (q.add 0))) w:=λ w q=>by kernel_rfl
theorem HD:∀ (w:World) (q:Addr),(Instr.fieldAt 131 (.pointer (some q)) 1).run Tryz.prog w= .ok (.pointer (some (q.add 1))) w:=λ w q=>by kernel_rfl
theorem HE:∀ (w:World) (q:Addr),(Instr.fieldAt 131 (.pointer (some q)) 2).run Tryz.prog w= .ok (.pointer (some (q.add 2))) w:=λ w q=>by kernel_rfl
theorem HF:∀ (w:World) (q:Addr),(Instr.fieldAt 131 (.pointer (some q)) 3).run Tryz.prog w= .ok (.pointer (some (q.add 3))) w:=λ w q=>by kernel_rfl
theorem LK:(Tryz.prog.info? 126).map (λ i=>(i.zero,i.size,i.bytes))=some (some (.agg #[.int .i64 0,.int .i64 0,.slice none 0 0]),3,40):=by kernel_rfl
theorem dI{w:World}{os:List Ob}{rs:List Rp}{v:Value}{xs:List aE}(H:Sep w os rs)(hm:rSl aI v xs ∈ rs)(hl:xs.length <= LIM) :
    Calls Tryz.prog 75 [v].toArray w (Ret λ v' w'=>Sep w' (Row 126 aI v' xs::os) rs):=by
  obtain ⟨b,c,rfl⟩:=H.slform hm
  refine enter Tryz.func75 rfl Tryz.ntmps75 rfl λ a E=>?_
  simp only [xI,Nat.reduceAdd] at E
  refine wS ?_
  refine wG ?_
  refine cA E (wn rfl) rfl rfl (cU E rfl rfl) ?_
  clear E;clear a;intro a E
  refine wN ?_
  refine aA ?_
  refine wS ?_
  refine wS ?_
  refine wG ?_
  refine cA E (wn rfl) rfl rfl (bN E rfl rfl) ?_
  clear E;clear a;intro a E
  refine cA E (wn rfl) rfl rfl (S7 E rfl rfl rfl Tryz.underlying71) ?_
  clear E;clear a;intro a E
  refine wN ?_
  refine aA ?_
  refine vJ E rfl ?_ ?_
  · intro hb
    cases b with
    | some _=>cases hb
    | none=>
      obtain rfl:=H.sl_none hm
      refine wS ?_
      refine wG ?_
      refine cA E (wn rfl) rfl rfl (cU E rfl rfl) ?_
      clear E;clear a;intro a E
      refine wN ?_
      refine aA ?_
      refine wR ?_
      refine aH ?_
      refine vY E rfl rfl ?_
      exact H.nilRow 126 aI
  · intro hb
    refine wK ?_
    refine aA ?_
    refine wS ?_
    refine wG ?_
    refine jO (e:=126) (d:=aI) (cs:=[]) (xs:=[]) E H (wn rfl) rfl rfl (ps:=[]) (parts:=[]) rfl rfl (by kernel_rfl) rfl rfl (λ ok hr=>Rows.nil _ _ _) ?_
    clear E H;clear a;clear w;intro v2 w a H E
    refine cA E (wn rfl) rfl rfl (bN E rfl rfl) ?_
    clear E;clear a;intro a E
    refine eZ (i:=0) E H (wn rfl) rfl rfl rfl rfl rfl rfl (nW hm) Tryz.underlying71 LK rfl (by simpa using hl) rfl ?_
    clear E H;clear a;clear w;intro v3 w a H E
    refine cA E (wn rfl) rfl rfl (cU E rfl rfl) ?_
    clear E;clear a;intro a E
    refine wN ?_
    refine aA ?_
    refine wR ?_
    refine vY E rfl rfl ?_
    exact H

theorem Tx:(Tryz.prog.info? 71).map (·.size)=some 1:=by kernel_rfl
theorem Np:(Tryz.prog.info? 131).map (λ i=>(i.zero,i.size,i.bytes))=some (some (.agg #[.int .i64 0,.int .i64 0,.string ⟨#[]⟩,.int .i64 0]),4,40):=by kernel_rfl
theorem eL{w:World}{os:List Ob}{rs:List Rp}{v:Value}{xs:List bP}(H:Sep w os rs)(hm:rSl aQ v xs ∈ rs)(hl:xs.length <= LIM) :
    Calls Tryz.prog 76 [v].toArray w (Ret λ v' w'=>Sep w' (Row 131 aQ v' xs::os) rs):=by
  obtain ⟨b,c,rfl⟩:=H.slform hm
  refine enter Tryz.func76 rfl Tryz.ntmps76 rfl λ a E=>?_
  simp only [xI,Nat.reduceAdd] at E
  refine wS ?_
  refine wG ?_
  refine cA E (wn rfl) rfl rfl (cU E rfl rfl) ?_
  clear E;clear a;intro a E
  refine wN ?_
  refine aA ?_
  refine wS ?_
  refine wS ?_
  refine wG ?_
  refine cA E (wn rfl) rfl rfl (bN E rfl rfl) ?_
  clear E;clear a;intro a E
  refine cA E (wn rfl) rfl rfl (S7 E rfl rfl rfl Tryz.underlying44) ?_
  clear E;clear a;intro a E
  refine wN ?_
  refine aA ?_
  refine vJ E rfl ?_ ?_
  · intro hb
    cases b with
    | some _=>cases hb
    | none=>
      obtain rfl:=H.sl_none hm
      refine wS ?_
      refine wG ?_
      refine cA E (wn rfl) rfl rfl (cU E rfl rfl) ?_
      clear E;clear a;intro a E
      refine wN ?_
      refine aA ?_
      refine wR ?_
      refine aH ?_
      refine vY E rfl rfl ?_
      exact H.nilRow 131 aQ
  · intro hb
    refine wK ?_
    refine aA ?_
    refine wS ?_
    refine wG ?_
    refine jO (e:=131) (d:=aQ) (cs:=[]) (xs:=[]) E H (wn rfl) rfl rfl (ps:=[]) (parts:=[]) rfl rfl (by kernel_rfl) rfl rfl (λ ok hr=>Rows.nil _ _ _) ?_
    clear E H;clear a;clear w;intro v2 w a H E
    refine cA E (wn rfl) rfl rfl (bN E rfl rfl) ?_
    clear E;clear a;intro a E
    refine eZ (i:=0) E H (wn rfl) rfl rfl rfl rfl rfl rfl (nW hm) Tryz.underlying44 Np rfl (by simpa using hl) rfl ?_
    clear E H;clear a;clear w;intro v3 w a H E
    refine cA E (wn rfl) rfl rfl (cU E rfl rfl) ?_
    clear E;clear a;intro a E
    refine wN ?_
    refine aA ?_
    refine wR ?_
    refine vY E rfl rfl ?_
    exact H

theorem LL:(Tryz.prog.info? 131).bind (·.zero)=some (.agg #[.int .i64 0,.int .i64 0,.string ⟨#[]⟩,.int .i64 0]):=by kernel_rfl
theorem Ty:(Tryz.prog.info? 44).map (·.size)=some 1:=by kernel_rfl
theorem LM:∀ (w:World) (q:Addr),(Instr.fieldAt 48 (.pointer (some q)) 0).run Tryz.prog w= .ok (.pointer (some (q.add 0))) w:=λ w q=>by kernel_rfl
abbrev U41:=Tryz.underlying41
theorem Ym:(Tryz.prog.info? 35).map (λ i=>(i.zero,i.size,i.bytes))=some (some (.agg #[.int .i64 0,.int .i64 0,.string ⟨#[]⟩,.bool false]),4,40):=by kernel_rfl
theorem eM{w:World}{os:List Ob}{rs:List Rp}{v:Value}{xs:List aP}(H:Sep w os rs)(hm:rSl aS v xs ∈ rs)(hl:xs.length <= LIM) :
    Calls Tryz.prog 74 [v].toArray w (Ret λ v' w'=>Sep w' (Row 35 aS v' xs::os) rs):=by
  obtain ⟨b,c,rfl⟩:=H.slform hm
  refine enter Tryz.func74 rfl Tryz.ntmps74 rfl λ a E=>?_
  simp only [xI,Nat.reduceAdd] at E
  refine wS ?_
  refine wG ?_
  refine cA E (wn rfl) rfl rfl (cU E rfl rfl) ?_
  clear E;clear a;intro a E
  refine wN ?_
  refine aA ?_
  refine wS ?_
  refine wS ?_
  refine wG ?_
  refine cA E (wn rfl) rfl rfl (bN E rfl rfl) ?_
  clear E;clear a;intro a E
  refine cA E (wn rfl) rfl rfl (S7 E rfl rfl rfl Tryz.underlying70) ?_
  clear E;clear a;intro a E
  refine wN ?_
  refine aA ?_
  refine vJ E rfl ?_ ?_
  · intro hb
    cases b with
    | some _=>cases hb
    | none=>
      obtain rfl:=H.sl_none hm
      refine wS ?_
      refine wG ?_
      refine cA E (wn rfl) rfl rfl (cU E rfl rfl) ?_
      clear E;clear a;intro a E
      refine wN ?_
      refine aA ?_
      refine wR ?_
      refine aH ?_
      refine vY E rfl rfl ?_
      exact H.nilRow 35 aS
  · intro hb
    refine wK ?_
    refine aA ?_
    refine wS ?_
    refine wG ?_
    refine jO (e:=35) (d:=aS) (cs:=[]) (xs:=[]) E H (wn rfl) rfl rfl (ps:=[]) (parts:=[]) rfl rfl (by kernel_rfl) rfl rfl (λ ok hr=>Rows.nil _ _ _) ?_
    clear E H;clear a;clear w;intro v2 w a H E
    refine cA E (wn rfl) rfl rfl (bN E rfl rfl) ?_
    clear E;clear a;intro a E
    refine eZ (i:=0) E H (wn rfl) rfl rfl rfl rfl rfl rfl (nW hm) Tryz.underlying70 Ym rfl (by simpa using hl) rfl ?_
    clear E H;clear a;clear w;intro v3 w a H E
    refine cA E (wn rfl) rfl rfl (cU E rfl rfl) ?_
    clear E;clear a;intro a E
    refine wN ?_
    refine aA ?_
    refine wR ?_
    refine vY E rfl rfl ?_
    exact H

theorem Yn:(Tryz.prog.info? 70).map (·.size)=some 1:=by kernel_rfl
abbrev U28:=Tryz.underlying28
theorem LN:∀ (w:World) (q:Addr),(Instr.fieldAt 87 (.pointer (some q)) 2).run Tryz.prog w= .ok (.pointer (some (q.add 3))) w:=λ w q=>by kernel_rfl
abbrev U58:=Tryz.underlying58
theorem qL:(Tryz.prog.info? 78).map (·.size)=some 3:=by kernel_rfl
abbrev U78:=Tryz.underlying78
theorem LO:∀ (w:World) (q:Addr),(Instr.fieldAt 78 (.pointer (some q)) 0).run Tryz.prog w= .ok (.pointer (some (q.add 0))) w:=λ w q=>by kernel_rfl
theorem LP:∀ (w:World) (q:Addr),(Instr.fieldAt 78 (.pointer (some q)) 1).run Tryz.prog w= .ok (.pointer (some (q.add 1))) w:=λ w q=>by kernel_rfl
theorem AU:∀ (w:World) (q:Addr),(Instr.fieldAt 87 (.pointer (some q)) 1).run Tryz.prog w= .ok (.pointer (some (q.add 2))) w:=λ w q=>by kernel_rfl
theorem Nq:∀ (w:World) (q:Addr),(Instr.fieldAt 87 (.pointer (some q)) 0).run Tryz.prog w= .ok (.pointer (some (q.add 0))) w:=λ w q=>by kernel_rfl
theorem oC:(Tryz.prog.info? 25).bind (·.zero)=some (.agg #[.slice none 0 0,.slice none 0 0]):=by kernel_rfl
theorem LQ:(Tryz.prog.info? 93).bind (·.zero)=some (.agg Hb.toArray):=by kernel_rfl
theorem PF:(Tryz.prog.info? 183).bind (·.zero)=some (.agg #[.nilFunc,.nilFunc,.nilFunc,.nilFunc,.nilFunc,.nilFunc,.nilFunc,.nilFunc,.nilFunc,.nilFunc,.nilFunc]):=by kernel_rfl
theorem PG:(Tryz.prog.info? 183).map (·.size)=some 11:=by kernel_rfl
theorem F4:(Tryz.prog.info? 93).map (·.size)=some 5:=by kernel_rfl
theorem Nr:(Tryz.prog.info? 107).map (λ i=>(i.zero,i.size,i.bytes))=some (some (.agg #[.string ⟨#[]⟩,.string ⟨#[]⟩,.int .i64 0,.int .i64 0,.int .i64 0]),5,56):=by kernel_rfl
theorem uF{w:World}{os:List Ob}{rs:List Rp}{v:Value}{xs:List aG}(H:Sep w os rs)(hm:rSl aB v xs ∈ rs)(hl:xs.length <= LIM) :
    Calls Tryz.prog 56 [v].toArray w (Ret λ v' w'=>Sep w' (Row 107 aB v' xs::os) rs):=by
  obtain ⟨b,c,rfl⟩:=H.slform hm
  refine enter Tryz.func56 rfl Tryz.ntmps56 rfl λ a E=>?_
  simp only [xI,Nat.reduceAdd] at E
  refine wS ?_
  refine wG ?_
  refine cA E (wn rfl) rfl rfl (cU E rfl rfl) ?_
  clear E;clear a;intro a E
  refine wN ?_
  refine aA ?_
  refine wS ?_
  refine wS ?_
  refine wG ?_
  refine cA E (wn rfl) rfl rfl (bN E rfl rfl) ?_
  clear E;clear a;intro a E
  refine cA E (wn rfl) rfl rfl (S7 E rfl rfl rfl Tryz.underlying22) ?_
  clear E;clear a;intro a E
  refine wN ?_
  refine aA ?_
  refine vJ E rfl ?_ ?_
  · intro hb
    cases b with
    | some _=>cases hb
    | none=>
      obtain rfl:=H.sl_none hm
      refine wS ?_
      refine wG ?_
      refine cA E (wn rfl) rfl rfl (cU E rfl rfl) ?_
      clear E;clear a;intro a E
      refine wN ?_
      refine aA ?_
      refine wR ?_
      refine aH ?_
      refine vY E rfl rfl ?_
      exact H.nilRow 107 aB
  · intro hb
    refine wK ?_
    refine aA ?_
    refine wS ?_
    refine wG ?_
    refine jO (e:=107) (d:=aB) (cs:=[]) (xs:=[]) E H (wn rfl) rfl rfl (ps:=[]) (parts:=[]) rfl rfl (by kernel_rfl) rfl rfl (λ ok hr=>Rows.nil _ _ _) ?_
    clear E H;clear a;clear w;intro v2 w a H E
    refine cA E (wn rfl) rfl rfl (bN E rfl rfl) ?_
    clear E;clear a;intro a E
    refine eZ (i:=0) E H (wn rfl) rfl rfl rfl rfl rfl rfl (nW hm) Tryz.underlying22 Nr rfl (by simpa using hl) rfl ?_
    clear E H;clear a;clear w;intro v3 w a H E
    refine cA E (wn rfl) rfl rfl (cU E rfl rfl) ?_
    clear E;clear a;intro a E
    refine wN ?_
    refine aA ?_
    refine wR ?_
    refine vY E rfl rfl ?_
    exact H

theorem Rx:(Tryz.prog.info? 89).map (λ i=>(i.zero,i.size,i.bytes))=some (some (.agg #[.string ⟨#[]⟩,.int .i64 0]),2,24):=by kernel_rfl
theorem uG{w:World}{os:List Ob}{rs:List Rp}{v:Value}{xs:List aM}(H:Sep w os rs)(hm:rSl aC v xs ∈ rs)(hl:xs.length <= LIM) :
    Calls Tryz.prog 57 [v].toArray w (Ret λ v' w'=>Sep w' (Row 89 aC v' xs::os) rs):=by
  obtain ⟨b,c,rfl⟩:=H.slform hm
  refine enter Tryz.func57 rfl Tryz.ntmps57 rfl λ a E=>?_
  simp only [xI,Nat.reduceAdd] at E
  refine wS ?_
  refine wG ?_
  refine cA E (wn rfl) rfl rfl (cU E rfl rfl) ?_
  clear E;clear a;intro a E
  refine wN ?_
  refine aA ?_
  refine wS ?_
  refine wS ?_
  refine wG ?_
  refine cA E (wn rfl) rfl rfl (bN E rfl rfl) ?_
  clear E;clear a;intro a E
  refine cA E (wn rfl) rfl rfl (S7 E rfl rfl rfl Tryz.underlying23) ?_
  clear E;clear a;intro a E
  refine wN ?_
  refine aA ?_
  refine vJ E rfl ?_ ?_
  · intro hb
    cases b with
    | some _=>cases hb
    | none=>
      obtain rfl:=H.sl_none hm
      refine wS ?_
      refine wG ?_
      refine cA E (wn rfl) rfl rfl (cU E rfl rfl) ?_
      clear E;clear a;intro a E
      refine wN ?_
      refine aA ?_
      refine wR ?_
      refine aH ?_
      refine vY E rfl rfl ?_
      exact H.nilRow 89 aC
  · intro hb
    refine wK ?_
    refine aA ?_
    refine wS ?_
    refine wG ?_
    refine jO (e:=89) (d:=aC) (cs:=[]) (xs:=[]) E H (wn rfl) rfl rfl (ps:=[]) (parts:=[]) rfl rfl (by kernel_rfl) rfl rfl (λ ok hr=>Rows.nil _ _ _) ?_
    clear E H;clear a;clear w;intro v2 w a H E
    refine cA E (wn rfl) rfl rfl (bN E rfl rfl) ?_
    clear E;clear a;intro a E
    refine eZ (i:=0) E H (wn rfl) rfl rfl rfl rfl rfl rfl (nW hm) Tryz.underlying23 Rx rfl (by simpa using hl) rfl ?_
    clear E H;clear a;clear w;intro v3 w a H E
    refine cA E (wn rfl) rfl rfl (cU E rfl rfl) ?_
    clear E;clear a;intro a E
    refine wN ?_
    refine aA ?_
    refine wR ?_
    refine vY E rfl rfl ?_
    exact H

abbrev Ce:=Tryz.underlying183
theorem V2:(Tryz.prog.info? 180).map (·.size)=some 1:=by kernel_rfl
abbrev Cg:=Tryz.underlying180
theorem PH:(Tryz.prog.info? 121).bind (·.zero)=some (.nilFunc):=by kernel_rfl
theorem PI:(Tryz.prog.info? 121).map (·.size)=some 1:=by kernel_rfl
abbrev Yo:=Tryz.underlying182
theorem HG:∀ (w:World) (q:Addr),(Instr.fieldAt 185 (.pointer (some q)) 0).run Tryz.prog w= .ok (.pointer (some (q.add 0))) w:=λ w q=>by kernel_rfl
abbrev QH:=Tryz.underlying121
theorem HI:∀ (w:World) (q:Addr),(Instr.fieldAt 185 (.pointer (some q)) 1).run Tryz.prog w= .ok (.pointer (some (q.add 2))) w:=λ w q=>by kernel_rfl
theorem LR:∀ (w:World) (q:Addr),(Instr.fieldAt 93 (.pointer (some q)) 4).run Tryz.prog w= .ok (.pointer (some (q.add 4))) w:=λ w q=>by kernel_rfl
theorem LS:(Tryz.prog.info? 33).map (·.size)=some 1:=by kernel_rfl
theorem Yp:(Tryz.prog.info? 107).bind (·.zero)=some (.agg OR.toArray):=by kernel_rfl
theorem LT:(Tryz.prog.info? 107).bind (·.zero)=some (.agg #[.string ⟨#[]⟩,.string ⟨#[]⟩,.int .i64 0,.int .i64 0,.int .i64 0]):=by kernel_rfl
theorem Pk:(Tryz.prog.info? 22).map (·.size)=some 1:=by kernel_rfl
theorem AV:∀ (w:World) (s t:ByteArray),(callFunc 255 #[.string s,.string t]).run Tryz.prog w= .ok (.value (.int .i64 (Extern.BytealgCompare.cmp s t))) w:=λ w s t=>Sz Tryz.func255 (by kernel_rfl) (by kernel_rfl) (by kernel_rfl) (e:=Extern.BytealgCompare.compare) (by kernel_rfl) (CZ s t w)
theorem Ns:∀ (w:World) (q:Addr),(Op.equal 244 (.pointer (some q)) (.pointer none)).run Tryz.prog w= .ok false w:=λ w q=>by kernel_rfl
theorem Nt:∀ w:World,(Op.equal 244 (.pointer none) (.pointer none)).run Tryz.prog w= .ok true w:=λ w=>by kernel_rfl
theorem LU:∀ (w:World) (q:Addr),(Instr.fieldAt 93 (.pointer (some q)) 2).run Tryz.prog w= .ok (.pointer (some (q.add 2))) w:=λ w q=>by kernel_rfl
theorem LV:∀ (w:World) (q:Addr),(Instr.fieldAt 93 (.pointer (some q)) 3).run Tryz.prog w= .ok (.pointer (some (q.add 3))) w:=λ w q=>by kernel_rfl
theorem Em:(Tryz.prog.info? 23).map (·.size)=some 1:=by kernel_rfl
theorem LW:∀ (w:World) (q:Addr),(Instr.fieldAt 93 (.pointer (some q)) 1).run Tryz.prog w= .ok (.pointer (some (q.add 1))) w:=λ w q=>by kernel_rfl
theorem LX:∀ (w:World) (q:Addr),(Instr.fieldAt 93 (.pointer (some q)) 0).run Tryz.prog w= .ok (.pointer (some (q.add 0))) w:=λ w q=>by kernel_rfl
abbrev U93:=Tryz.underlying93
abbrev U40:=Tryz.underlying40
theorem PJ:(Tryz.prog.info? 93).map (λ i=>(i.zero,i.size,i.bytes))=some (some (.agg #[.int .i64 0,.string ⟨#[]⟩,.string ⟨#[]⟩,.int .i64 0,.slice none 0 0]),5,72):=by kernel_rfl
theorem LY:∀ (w:World) (q:Addr),(Instr.fieldAt 35 (.pointer (some q)) 3).run Tryz.prog w= .ok (.pointer (some (q.add 3))) w:=λ w q=>by kernel_rfl
theorem PK:(Tryz.prog.info? 35).bind (·.zero)=some (.agg #[.int .i64 0,.int .i64 0,.string ⟨#[]⟩,.bool false]):=by kernel_rfl
theorem PL:(Tryz.prog.info? 31).map (λ i=>(i.zero,i.size,i.bytes))=some (some (.agg #[.string ⟨#[]⟩,.int .i64 0,.int .i64 0]),3,32):=by kernel_rfl
theorem sV{w:World}{os:List Ob}{rs:List Rp}{v:Value}{xs:List aF}(H:Sep w os rs)(hm:rSl aO v xs ∈ rs)(hl:xs.length <= LIM) :
    Calls Tryz.prog 66 [v].toArray w (Ret λ v' w'=>Sep w' (Row 31 aO v' xs::os) rs):=by
  obtain ⟨b,c,rfl⟩:=H.slform hm
  refine enter Tryz.func66 rfl Tryz.ntmps66 rfl λ a E=>?_
  simp only [xI,Nat.reduceAdd] at E
  refine wS ?_
  refine wG ?_
  refine cA E (wn rfl) rfl rfl (cU E rfl rfl) ?_
  clear E;clear a;intro a E
  refine wN ?_
  refine aA ?_
  refine wS ?_
  refine wS ?_
  refine wG ?_
  refine cA E (wn rfl) rfl rfl (bN E rfl rfl) ?_
  clear E;clear a;intro a E
  refine cA E (wn rfl) rfl rfl (S7 E rfl rfl rfl Tryz.underlying32) ?_
  clear E;clear a;intro a E
  refine wN ?_
  refine aA ?_
  refine vJ E rfl ?_ ?_
  · intro hb
    cases b with
    | some _=>cases hb
    | none=>
      obtain rfl:=H.sl_none hm
      refine wS ?_
      refine wG ?_
      refine cA E (wn rfl) rfl rfl (cU E rfl rfl) ?_
      clear E;clear a;intro a E
      refine wN ?_
      refine aA ?_
      refine wR ?_
      refine aH ?_
      refine vY E rfl rfl ?_
      exact H.nilRow 31 aO
  · intro hb
    refine wK ?_
    refine aA ?_
    refine wS ?_
    refine wG ?_
    refine jO (e:=31) (d:=aO) (cs:=[]) (xs:=[]) E H (wn rfl) rfl rfl (ps:=[]) (parts:=[]) rfl rfl (by kernel_rfl) rfl rfl (λ ok hr=>Rows.nil _ _ _) ?_
    clear E H;clear a;clear w;intro v2 w a H E
    refine cA E (wn rfl) rfl rfl (bN E rfl rfl) ?_
    clear E;clear a;intro a E
    refine eZ (i:=0) E H (wn rfl) rfl rfl rfl rfl rfl rfl (nW hm) Tryz.underlying32 PL rfl (by simpa using hl) rfl ?_
    clear E H;clear a;clear w;intro v3 w a H E
    refine cA E (wn rfl) rfl rfl (cU E rfl rfl) ?_
    clear E;clear a;intro a E
    refine wN ?_
    refine aA ?_
    refine wR ?_
    refine vY E rfl rfl ?_
    exact H

theorem PM:(Tryz.prog.info? 122).bind (·.zero)=some (.nilFunc):=by kernel_rfl
theorem PN:(Tryz.prog.info? 122).map (·.size)=some 1:=by kernel_rfl
abbrev LZ:=Tryz.underlying122
theorem QI:(Tryz.prog.info? 89).bind (·.zero)=some (.agg #[.string (ByteArray.mk #[]),.int .i64 0]):=by kernel_rfl
theorem DP:(Tryz.prog.info? 32).map (·.size)=some 1:=by kernel_rfl
theorem AW:∀ (w:World) (q:Addr),(Instr.fieldAt 87 (.pointer (some q)) 6).run Tryz.prog w= .ok (.pointer (some (q.add 8))) w:=λ w q=>by kernel_rfl
theorem MA:∀ (w:World) (q:Addr),(Instr.fieldAt 37 (.pointer (some q)) 4).run Tryz.prog w= .ok (.pointer (some (q.add 4))) w:=λ w q=>by kernel_rfl
theorem Tz:∀ (w:World) (q:Addr),(Instr.fieldAt 87 (.pointer (some q)) 5).run Tryz.prog w= .ok (.pointer (some (q.add 7))) w:=λ w q=>by kernel_rfl
abbrev U85:=Tryz.underlying85
theorem Nu:(Tryz.prog.info? 154).bind (·.zero)=some (.agg [.bool false,.slice none 0 0,.int .i64 0,.int .i64 0,.bool false,.int .i64 0,.slice none 0 0,.slice none 0 0,.slice none 0 0,.slice none 0 0,.slice none 0 0,.slice none 0 0].toArray):=by kernel_rfl
theorem Ry:∀ (w:World) (ok:Nat->Prop),dB.R w ok U8 [.bool false,.slice none 0 0,.int .i64 0,.int .i64 0,.bool false,.int .i64 0,.slice none 0 0,.slice none 0 0,.slice none 0 0,.slice none 0 0,.slice none 0 0,.slice none 0 0]:=λ w ok=>T6 (Sl.nil _ _ _) (Sl.nil _ _ _) (Sl.nil _ _ _) (Sl.nil _ _ _) (Sl.nil _ _ _) (Sl.nil _ _ _) (Sl.nil _ _ _)
theorem Rz:(Tryz.prog.info? 154).bind (·.zero)=some (.agg OG.toArray):=by kernel_rfl
theorem Sa:(Tryz.prog.info? 154).map (·.size)=some 12:=by kernel_rfl
theorem HJ:∀ (w:World) (q:Addr),(Instr.fieldAt 154 (.pointer (some q)) 0).run Tryz.prog w= .ok (.pointer (some (q.add 0))) w:=λ w q=>by kernel_rfl
theorem PO:(Tryz.prog.info? 78).map (λ i=>(i.zero,i.size,i.bytes))=some (some (.agg #[.string ⟨#[]⟩,.int .i64 0,.int .i64 0]),3,32):=by kernel_rfl
theorem nH{w:World}{os:List Ob}{rs:List Rp}{v:Value}{xs:List aV}(H:Sep w os rs)(hm:rSl bA v xs ∈ rs)(hl:xs.length <= LIM) :
    Calls Tryz.prog 60 [v].toArray w (Ret λ v' w'=>Sep w' (Row 78 bA v' xs::os) rs):=by
  obtain ⟨b,c,rfl⟩:=H.slform hm
  refine enter Tryz.func60 rfl Tryz.ntmps60 rfl λ a E=>?_
  simp only [xI,Nat.reduceAdd] at E
  refine wS ?_
  refine wG ?_
  refine cA E (wn rfl) rfl rfl (cU E rfl rfl) ?_
  clear E;clear a;intro a E
  refine wN ?_
  refine aA ?_
  refine wS ?_
  refine wS ?_
  refine wG ?_
  refine cA E (wn rfl) rfl rfl (bN E rfl rfl) ?_
  clear E;clear a;intro a E
  refine cA E (wn rfl) rfl rfl (S7 E rfl rfl rfl Tryz.underlying58) ?_
  clear E;clear a;intro a E
  refine wN ?_
  refine aA ?_
  refine vJ E rfl ?_ ?_
  · intro hb
    cases b with
    | some _=>cases hb
    | none=>
      obtain rfl:=H.sl_none hm
      refine wS ?_
      refine wG ?_
      refine cA E (wn rfl) rfl rfl (cU E rfl rfl) ?_
      clear E;clear a;intro a E
      refine wN ?_
      refine aA ?_
      refine wR ?_
      refine aH ?_
      refine vY E rfl rfl ?_
      exact H.nilRow 78 bA
  · intro hb
    refine wK ?_
    refine aA ?_
    refine wS ?_
    refine wG ?_
    refine jO (e:=78) (d:=bA) (cs:=[]) (xs:=[]) E H (wn rfl) rfl rfl (ps:=[]) (parts:=[]) rfl rfl (by kernel_rfl) rfl rfl (λ ok hr=>Rows.nil _ _ _) ?_
    clear E H;clear a;clear w;intro v2 w a H E
    refine cA E (wn rfl) rfl rfl (bN E rfl rfl) ?_
    clear E;clear a;intro a E
    refine eZ (i:=0) E H (wn rfl) rfl rfl rfl rfl rfl rfl (nW hm) Tryz.underlying58 PO rfl (by simpa using hl) rfl ?_
    clear E H;clear a;clear w;intro v3 w a H E
    refine cA E (wn rfl) rfl rfl (cU E rfl rfl) ?_
    clear E;clear a;intro a E
    refine wN ?_
    refine aA ?_
    refine wR ?_
    refine vY E rfl rfl ?_
    exact H

theorem DQ:(Tryz.prog.info? 78).bind (·.zero)=some (.agg OS.toArray):=by kernel_rfl
theorem PP:(Tryz.prog.info? 78).bind (·.zero)=some (.agg #[.string ⟨#[]⟩,.int .i64 0,.int .i64 0]):=by kernel_rfl
theorem MB:(Tryz.prog.info? 58).map (·.size)=some 1:=by kernel_rfl
theorem HK:∀ (w:World) (q:Addr),(Instr.fieldAt 154 (.pointer (some q)) 2).run Tryz.prog w= .ok (.pointer (some (q.add 2))) w:=λ w q=>by kernel_rfl
theorem MC:∀ (w:World) (q:Addr),(Instr.fieldAt 48 (.pointer (some q)) 2).run Tryz.prog w= .ok (.pointer (some (q.add 2))) w:=λ w q=>by kernel_rfl
theorem HL:∀ (w:World) (q:Addr),(Instr.fieldAt 154 (.pointer (some q)) 1).run Tryz.prog w= .ok (.pointer (some (q.add 1))) w:=λ w q=>by kernel_rfl
theorem MD:∀ (w:World) (q:Addr),(Instr.fieldAt 78 (.pointer (some q)) 2).run Tryz.prog w= .ok (.pointer (some (q.add 2))) w:=λ w q=>by kernel_rfl
theorem QJ:(Tryz.prog.info? 2).bind (·.zero)=some (.int .i64 0):=by kernel_rfl
abbrev ME:=Tryz.underlying263
abbrev MF:=Tryz.underlying209
theorem MG:∀ (w:World) (q:Addr),(Instr.fieldAt 48 (.pointer (some q)) 4).run Tryz.prog w= .ok (.pointer (some (q.add 4))) w:=λ w q=>by kernel_rfl
theorem MH:∀ (w:World) (q:Addr),(Instr.fieldAt 48 (.pointer (some q)) 3).run Tryz.prog w= .ok (.pointer (some (q.add 3))) w:=λ w q=>by kernel_rfl
theorem MI:∀ (w:World) (q:Addr),(Instr.fieldAt 48 (.pointer (some q)) 5).run Tryz.prog w= .ok (.pointer (some (q.add 5))) w:=λ w q=>by kernel_rfl
theorem MJ:Tryz.prog.stoodInHeld 107=false:=by kernel_rfl
theorem MK:Tryz.prog.eqGuardType Tryz.prog.depth 107=false:=by kernel_rfl
theorem PQ:Tryz.prog.stoodInHeld 89=false:=by kernel_rfl
theorem PR:Tryz.prog.eqGuardType Tryz.prog.depth 89=false:=by kernel_rfl
theorem ML:∀ (w:World) (q:Addr),(Instr.fieldAt 48 (.pointer (some q)) 1).run Tryz.prog w= .ok (.pointer (some (q.add 1))) w:=λ w q=>by kernel_rfl
abbrev U54:=Tryz.underlying54
theorem MM:∀ (w:World) (q:Addr),(Instr.fieldAt 48 (.pointer (some q)) 7).run Tryz.prog w= .ok (.pointer (some (q.add 8))) w:=λ w q=>by kernel_rfl
abbrev U45:=Tryz.underlying45
theorem Sb:(Tryz.prog.info? 115).map (·.size)=some 4:=by kernel_rfl
abbrev DS:=Tryz.underlying115
theorem MN:Tryz.prog.stoodInHeld 115=false:=by kernel_rfl
theorem MO:Tryz.prog.eqGuardType Tryz.prog.depth 115=false:=by kernel_rfl
theorem MP:∀ (w:World) (q:Addr),(Instr.fieldAt 48 (.pointer (some q)) 6).run Tryz.prog w= .ok (.pointer (some (q.add 7))) w:=λ w q=>by kernel_rfl
theorem MQ:Tryz.prog.stoodInHeld 131=false:=by kernel_rfl
theorem MR:Tryz.prog.eqGuardType Tryz.prog.depth 131=false:=by kernel_rfl
theorem MS:∀ (w:World) (q:Addr),(Instr.fieldAt 48 (.pointer (some q)) 8).run Tryz.prog w= .ok (.pointer (some (q.add 9))) w:=λ w q=>by kernel_rfl
theorem PS:Tryz.prog.stoodInHeld 35=false:=by kernel_rfl
theorem PT:Tryz.prog.eqGuardType Tryz.prog.depth 35=false:=by kernel_rfl
def tb:Tb:=⟨[(25,0,0),(25,1,1),(31,0,0),(31,1,1),(31,2,2),(35,0,0),(35,1,1),(35,2,2),(35,3,3),(37,0,0),(37,1,1),(37,2,2),(37,3,3),(37,4,4),(37,5,5),(37,6,6),(37,7,7),(37,8,8),(37,9,9),(37,10,11),(37,11,12),(48,0,0),(48,1,1),(48,2,2),(48,3,3),(48,4,4),(48,5,5),(48,6,7),(48,7,8),(48,8,9),(73,0,0),(73,1,1),(78,0,0),(78,1,1),(78,2,2),(87,0,0),(87,1,2),(87,2,3),(87,3,4),(87,4,6),(87,5,7),(87,6,8),(89,0,0),(89,1,1),(93,0,0),(93,1,1),(93,2,2),(93,3,3),(93,4,4),(97,0,0),(97,1,1),(97,2,2),(97,3,3),(97,4,4),(97,5,5),(97,6,6),(99,0,0),(99,1,1),(107,0,0),(107,1,1),(107,2,2),(107,3,3),(107,4,4),(126,0,0),(126,1,1),(126,2,2),(131,0,0),(131,1,1),(131,2,2),(131,3,3),(134,0,0),(134,1,1),(134,2,2),(134,3,3),(134,4,4),(134,5,5),(154,0,0),(154,1,1),(154,2,2),(185,0,0),(185,1,2)],[(3,5,.u8),(3,234,.u64),(21,5,.u8),(234,3,.i64)],[9]⟩
theorem Yq:Ye Tryz.prog tb:=⟨⟨KL,KN,KQ,KR,KS,Nn,Tt,LH,LY,LD,Hh,Nm,LF,MA,AR,Ts,LG,LE,LI,GZ,Jc,LM,ML,MC,MH,MG,MI,MP,MM,MS,Tu,Tw,LO,LP,MD,Nq,AU,LN,Hj,Hi,Tz,AW,KO,KP,LX,LW,LU,LV,LR,LB,LC,LA,KU,KX,KV,KW,KY,KZ,GP,GQ,GR,GO,GS,HA,HB,Wv,HC,HD,HE,HF,GT,GU,GV,GX,GW,GY,HJ,HL,HK,HG,HI,trivial⟩,⟨λ _ _ _=>by kernel_rfl,λ _ _ _=>by kernel_rfl,λ _ _ _=>by kernel_rfl,λ _ _ _=>by kernel_rfl,trivial⟩,⟨U9,trivial⟩⟩
theorem pr{ops:Array Oper}{Q:Exit->Act->World->Prop}{w:World}{n:Nat}(k:Nat){env env':List (Nat×Value)}{l l':List Oper}{a:Act}(E:Env n a env)(h:Bx tb [] ops n k env l=some (env',l'))(kont:∀ a',Env n a' env'->wpList Tryz.prog ops Q l' a' w):wpList Tryz.prog ops Q l a w:=Mt Yq k E (kn0 _) h kont
theorem pk{ops:Array Oper}{Q:Exit->Act->World->Prop}{w:World}{n:Nat}{kn:List (Nat×Bool)}(k:Nat){env env':List (Nat×Value)}{l l':List Oper}{a:Act}(E:Env n a env)(K:Kn env kn)(h:Bx tb kn ops n k env l=some (env',l'))(kont:∀ a',Env n a' env'->wpList Tryz.prog ops Q l' a' w):wpList Tryz.prog ops Q l a w:=Mt Yq k E K h kont
theorem fn{ops:Array Oper}{Q:Exit->Act->World->Prop}{w:World}{n:Nat}{I:World->Prop}(k:Nat){env env':List (Nat×Value)}{l l':List (Nat×Nat)}{a:Act}(E:Env n a env)(h:Ow tb [] ops n k env l=some (env',l'))(kont:∀ a',Env n a' env'->mW Tryz.prog I ops Q l' a' w):mW Tryz.prog I ops Q l a w:=Rt Yq k E (kn0 _) h kont
theorem fk{ops:Array Oper}{Q:Exit->Act->World->Prop}{w:World}{n:Nat}{kn:List (Nat×Bool)}{I:World->Prop}(k:Nat){env env':List (Nat×Value)}{l l':List (Nat×Nat)}{a:Act}(E:Env n a env)(K:Kn env kn)(h:Ow tb kn ops n k env l=some (env',l'))(kont:∀ a',Env n a' env'->mW Tryz.prog I ops Q l' a' w):mW Tryz.prog I ops Q l a w:=Rt Yq k E K h kont
theorem dw{ops:Array Oper}{Q:Exit->Act->World->Prop}{w:World}{a:Act}{os:List Ob}{rs:List Rp}{id:Nat}(ord:List (Nat×Nat))(is js:List Nat)(H:Sep w os rs)(ho:Gt ops ord=true)(hQ:∀ c a w,Q (.panic c) a w->False)(k:∀ w W0,dG (pkl os is) (pkl rs js) W0->Sep w os rs->mW Tryz.prog (dG (pkl os is) (pkl rs js)) ops Q ord a w):(Code.region id ops true).wp Tryz.prog Q a w:=OP oT ord is js H ho hQ k
theorem dwc{ops:Array Oper}{Q:Exit->Act->World->Prop}{w:World}{a:Act}{os:List Ob}{rs:List Rp}{id:Nat}(ord:List (Nat×Nat))(is js:List Nat)(H:Sep w os rs)(ho:Ja ops ord=true)(hQ:∀ c a w,Q (.panic c) a w->False)(k:∀ w W0,dG (pkl os is) (pkl rs js) W0->Sep w os rs->mW Tryz.prog (dG (pkl os is) (pkl rs js)) ops Q ord a w):(Code.region id ops true).wp Tryz.prog Q a w:=KD oT ord is js H ho hQ k
theorem pn{ops:Array Oper}{w:World}{n:Nat}(k:Nat){env env':List (Nat×Value)}{a:Act}(E:Env n a env){l:List Oper}{K:Act->World->Prop}{R:Exit->Act->World->Prop}(h:Bx tb [] ops n k env l=some (env',[]))(kont:∀ a',Env n a' env'->K a' w):wpList Tryz.prog ops (Exit.then K R) l a w:=pr k E h λ a E=>nt (kont a E)
theorem sp{id:Nat}{y:Code}{Q:Exit->Act->World->Prop}{w:World}{n:Nat}(k:Nat){env env':List (Nat×Value)}{a:Act}(E:Env n a env){l l':List Oper}(h:Bx tb [] l.toArray n k env l=some (env',l'))(kont:∀ a',Env n a' env'->wpList Tryz.prog l.toArray (Exit.then (y.wp Tryz.prog Q) Q) l' a' w):(Code.seq (.region id l.toArray false) y).wp Tryz.prog Q a w:=sq (pr k E h kont)
theorem xp{id:Nat}{y:Code}{R:Exit->Act->World->Prop}{ops:Array Oper}{Q:Exit->Act->World->Prop}{w:World}{n:Nat}(k:Nat){env env':List (Nat×Value)}{a:Act}(E:Env n a env){l l':List Oper}(h:Bx tb [] l.toArray n k env l=some (env',l'))(kont:∀ a',Env n a' env'->wpList Tryz.prog l.toArray (Exit.then (y.wp Tryz.prog Q) Q) l' a' w):wpList Tryz.prog ops (Exit.then ((Code.seq (.region id l.toArray false) y).wp Tryz.prog Q) R) [] a w:=nx (pr k E h kont)
theorem dz{ops:Array Oper}{Q:Exit->Act->World->Prop}{w:World}{a:Act}{os:List Ob}{rs:List Rp}{id:Nat}(cs:List Nat)(is:List Nat)(H:Sep w os rs)(k:∀ w W0,dG (pkl os is) (pkl rs []) W0->Sep w os rs->mW Tryz.prog (dG (pkl os is) (pkl rs [])) ops Q (DO 0 cs) a w)(ho:Gt ops (DO 0 cs)=true:=by kernel_rfl)(hQ:∀ c a w,Q (.panic c) a w->False:=by exact λ _ _ _ h=>False.elim h.2):(Code.region id ops true).wp Tryz.prog Q a w:=dw _ is [] H ho hQ k
abbrev Cf (f:Nat) (l:List Value) (w:World) (R:Value->World->Prop):Prop:=Calls Tryz.prog f l.toArray w (Ret R)
abbrev yM:Type:=Int×Bool
abbrev eY:Type:=List ByteArray
abbrev nB:Type:=List aV
abbrev dR:Type:=List aM
abbrev dZ:Type:=List aG
abbrev En:Type:=List bE
abbrev Jd:Type:=List zA
abbrev zM:Type:=List bP
abbrev fT:Type:=List aP
abbrev hZ:Type:=List aF
abbrev y6:Type:=List cR
abbrev Eo:Type:=ByteArray×Bool
abbrev Q1:Type:=List cN
abbrev Bs:Type:=List ((Int)×Int)
abbrev eA:Type:=List aE
abbrev wV:Type:=(Int)×fS
abbrev Ep:Type:=aT×Int
abbrev kV:Type:=(Int)×aX
abbrev Aa:Type:=Int×dR
abbrev Nv:Type:=eY×Bool
abbrev Sc:Type:=List ((Int×Int)×Int)
abbrev V3:Type:=hZ×Bool
abbrev Ab:Type:=List wV
abbrev Er:Type:=Bool×eA
abbrev sB:Type:=List kV
abbrev Sd:Type:=aX×hZ
abbrev Nw:Type:=dZ×eY
abbrev V4:Type:=nB×(List Int)×Bool
abbrev Sf:Type:=dR×dR
abbrev Sg:Type:=dZ×dZ
abbrev Q2:Type:=fT×eA
abbrev Yr:Type:=aX×sB
abbrev Nx:Type:=Int×ByteArray×ByteArray×Int×eY
abbrev Je:Type:=aX×fT×eA
abbrev Es:Type:=dZ×dR×hZ
abbrev Si:Type:=Int×Int×ByteArray×ByteArray×Int×eY
abbrev Ua:Type:=aX×nB×Ab
abbrev MT:Type:=dZ×Int×ByteArray×ByteArray×Int×eY
abbrev Pm:Type:=aX×dZ×dR×hZ
abbrev MU:Type:=dZ×dR×dZ×dR
abbrev N1:Type:=aX×fT×eA×sB
abbrev DT:Type:=dZ×dR×Int×ByteArray×ByteArray×Int×eY
abbrev Ys:Type:=aX×dZ×dR×fT×eA
abbrev Ub:Type:=aX×dZ×dR×fT×eA×sB
abbrev Pn:Type:=aX×dZ×dR×nB×fT×eA×Ab
abbrev Yt:Type:=aX×dZ×dR×hZ×nB×fT×eA×sB×Ab×sB
end Go.Cb
