/- The types of the program and the small facts that the walks use. -/
import Derived.Test.YteakhlfapjaodaaGreatDoorAsr2
import Derived.Test.YteakhlfapjaodaaGreatDoorProg
set_option linter.unusedVariables false
set_option linter.unusedSimpArgs false
namespace Go.Cb
open Go.Proofs Go.RowKit
structure aD where
  Path:ByteArray
  Data:ByteArray
  Version:Int
  Turn:Int
  Owner:Int
  deriving DecidableEq,Inhabited
def aB:Kd aD:=pD (kP kS (kP kS (kP (kI .i64) (kP (kI .i64) (kI .i64))))) fun x=>(x.Path,(x.Data,(x.Version,(x.Turn,x.Owner))))
theorem sD{w:World}{ok:Nat→Prop}{x:aD}{cs:List Value}(h:aB.R w ok x cs):cs= [.string x.Path,.string x.Data,.int .i64 x.Version,.int .i64 x.Turn,.int .i64 x.Owner]:=by
  obtain ⟨c0,d0,rfl,h0,c1,d1,rfl,h1,c2,d2,rfl,h2,c3,d3,rfl,h3,h4⟩:=h
  have e0:c0= [.string x.Path]:=h0
  subst e0
  have e1:c1= [.string x.Data]:=h1
  subst e1
  have e2:c2= [.int .i64 x.Version]:=h2
  subst e2
  have e3:c3= [.int .i64 x.Turn]:=h3
  subst e3
  have e4:d3= [.int .i64 x.Owner]:=h4
  subst e4
  rfl
theorem mE{w:World}{ok:Nat→Prop}{x:aD}:aB.R w ok x [.string x.Path,.string x.Data,.int .i64 x.Version,.int .i64 x.Turn,.int .i64 x.Owner]:=⟨[.string x.Path],_,rfl,rfl,⟨[.string x.Data],_,rfl,rfl,⟨[.int .i64 x.Version],_,rfl,rfl,⟨[.int .i64 x.Turn],_,rfl,rfl,rfl⟩⟩⟩⟩
abbrev dS (x:aD):List Value:=[.string x.Path,.string x.Data,.int .i64 x.Version,.int .i64 x.Turn,.int .i64 x.Owner]
abbrev Hk:List Value:=[.string ⟨#[]⟩,.string ⟨#[]⟩,.int .i64 0,.int .i64 0,.int .i64 0]
theorem E8{w:World}{ok:Nat→Prop}{q:Addr}{x:aD}(h:(rAt aB q x).p w ok):(rAt kS (q.add 0) x.Path).p w ok:=by
  have h0:(rAt (kP kS (kP kS (kP (kI .i64) (kP (kI .i64) (kI .i64))))) q ((x.Path,(x.Data,(x.Version,(x.Turn,x.Owner)))))).p w ok:=h
  have h1:=(T7 h0)
  simp only [show ∀ q:Addr,q.add 0=q from fun q=>by simp [Addr.add]]
  exact h1
theorem vZ{w:World}{ok:Nat→Prop}{q:Addr}{x:aD}{cs:List Value}(h:(rAw aB q x cs).p w ok):∃ c,(rAw kS (q.add 0) x.Path c).p w ok∧c=(cs.drop 0).take 1:=by
  have h0:(rAw (kP kS (kP kS (kP (kI .i64) (kP (kI .i64) (kI .i64))))) q ((x.Path,(x.Data,(x.Version,(x.Turn,x.Owner))))) cs).p w ok:=h
  have hl:cs.length=5:=aB.len h.2.1
  have h1:=(E7 h0)
  simp only [show ∀ q:Addr,q.add 0=q from fun q=>by simp [Addr.add]]
  refine ⟨_,h1,?_⟩
  (try simp only [kP,kI,kB,kS,kL,pD,Kd.scalar])
  all_goals (try (apply List.ext_getElem?;intro j;simp [List.getElem?_take,List.getElem?_drop]))
  all_goals (try (intros;(try split);(try omega);(try (rw [List.getElem?_eq_none (by omega)]))))
theorem Je{w:World}{ok:Nat→Prop}{q:Addr}{x:aD}{cs:List Value}(h:(rAw aB q x cs).p w ok):∃ c,(rAw kS (q.add 1) x.Data c).p w ok∧c=(cs.drop 1).take 1:=by
  have h0:(rAw (kP kS (kP kS (kP (kI .i64) (kP (kI .i64) (kI .i64))))) q ((x.Path,(x.Data,(x.Version,(x.Turn,x.Owner))))) cs).p w ok:=h
  have hl:cs.length=5:=aB.len h.2.1
  have h1:=(E7 (Iy h0))
  simp only [add_add,kP,kI,kB,kS,kL,pD,Kd.scalar] at h1
  refine ⟨_,h1,?_⟩
  (try simp only [kP,kI,kB,kS,kL,pD,Kd.scalar])
  all_goals (try (apply List.ext_getElem?;intro j;simp [List.getElem?_take,List.getElem?_drop]))
  all_goals (try (intros;(try split);(try omega);(try (rw [List.getElem?_eq_none (by omega)]))))
def bX:eZ aB:=⟨fun x=>[.string x.Path,.string x.Data,.int .i64 x.Version,.int .i64 x.Turn,.int .i64 x.Owner],sD,mE⟩
structure aJ where
  Dir:ByteArray
  Next:Int
  deriving DecidableEq,Inhabited
def aC:Kd aJ:=pD (kP kS (kI .i64)) fun x=>(x.Dir,x.Next)
theorem uQ{w:World}{ok:Nat→Prop}{x:aJ}{cs:List Value}(h:aC.R w ok x cs):cs= [.string x.Dir,.int .i64 x.Next]:=by
  obtain ⟨c0,d0,rfl,h0,h1⟩:=h
  have e0:c0= [.string x.Dir]:=h0
  subst e0
  have e1:d0= [.int .i64 x.Next]:=h1
  subst e1
  rfl
theorem oD{w:World}{ok:Nat→Prop}{x:aJ}:aC.R w ok x [.string x.Dir,.int .i64 x.Next]:=⟨[.string x.Dir],_,rfl,rfl,rfl⟩
theorem zZ{w:World}{ok:Nat→Prop}{q:Addr}{x:aJ}(h:(rAt aC q x).p w ok):(rAt kS (q.add 0) x.Dir).p w ok:=by
  have h0:(rAt (kP kS (kI .i64)) q ((x.Dir,x.Next))).p w ok:=h
  have h1:=(T7 h0)
  simp only [show ∀ q:Addr,q.add 0=q from fun q=>by simp [Addr.add]]
  exact h1
theorem Jf{w:World}{ok:Nat→Prop}{q:Addr}{x:aJ}{cs:List Value}(h:(rAw aC q x cs).p w ok):∃ c,(rAw kS (q.add 0) x.Dir c).p w ok∧c=(cs.drop 0).take 1:=by
  have h0:(rAw (kP kS (kI .i64)) q ((x.Dir,x.Next)) cs).p w ok:=h
  have hl:cs.length=2:=aC.len h.2.1
  have h1:=(E7 h0)
  simp only [show ∀ q:Addr,q.add 0=q from fun q=>by simp [Addr.add]]
  refine ⟨_,h1,?_⟩
  (try simp only [kP,kI,kB,kS,kL,pD,Kd.scalar])
  all_goals (try (apply List.ext_getElem?;intro j;simp [List.getElem?_take,List.getElem?_drop]))
  all_goals (try (intros;(try split);(try omega);(try (rw [List.getElem?_eq_none (by omega)]))))
theorem Jg{w:World}{ok:Nat→Prop}{q:Addr}{x:aJ}(h:(rAt aC q x).p w ok):(rAt (kI .i64) (q.add 1) x.Next).p w ok:=by
  have h0:(rAt (kP kS (kI .i64)) q ((x.Dir,x.Next))).p w ok:=h
  have h1:=(vY h0)
  simp only [add_add,kP,kI,kB,kS,kL,Kd.scalar] at h1
  exact h1
def dT:eZ aC:=⟨fun x=>[.string x.Dir,.int .i64 x.Next],uQ,oD⟩
structure aO where
  Dir:ByteArray
  Txn:Int
  Age:Int
  deriving DecidableEq,Inhabited
def aV:Kd aO:=pD (kP kS (kP (kI .i64) (kI .i64))) fun x=>(x.Dir,(x.Txn,x.Age))
theorem Hl{w:World}{ok:Nat→Prop}{x:aO}{cs:List Value}(h:aV.R w ok x cs):cs= [.string x.Dir,.int .i64 x.Txn,.int .i64 x.Age]:=by
  obtain ⟨c0,d0,rfl,h0,c1,d1,rfl,h1,h2⟩:=h
  have e0:c0= [.string x.Dir]:=h0
  subst e0
  have e1:c1= [.int .i64 x.Txn]:=h1
  subst e1
  have e2:d1= [.int .i64 x.Age]:=h2
  subst e2
  rfl
theorem Ar{w:World}{ok:Nat→Prop}{x:aO}:aV.R w ok x [.string x.Dir,.int .i64 x.Txn,.int .i64 x.Age]:=⟨[.string x.Dir],_,rfl,rfl,⟨[.int .i64 x.Txn],_,rfl,rfl,rfl⟩⟩
abbrev sT (x:aO):List Value:=[.string x.Dir,.int .i64 x.Txn,.int .i64 x.Age]
abbrev FX:List Value:=[.string ⟨#[]⟩,.int .i64 0,.int .i64 0]
theorem V2{w:World}{ok:Nat→Prop}{q:Addr}{x:aO}{cs:List Value}(h:(rAw aV q x cs).p w ok):∃ c,(rAw kS (q.add 0) x.Dir c).p w ok∧c=(cs.drop 0).take 1:=by
  have h0:(rAw (kP kS (kP (kI .i64) (kI .i64))) q ((x.Dir,(x.Txn,x.Age))) cs).p w ok:=h
  have hl:cs.length=3:=aV.len h.2.1
  have h1:=(E7 h0)
  simp only [show ∀ q:Addr,q.add 0=q from fun q=>by simp [Addr.add]]
  refine ⟨_,h1,?_⟩
  (try simp only [kP,kI,kB,kS,kL,pD,Kd.scalar])
  all_goals (try (apply List.ext_getElem?;intro j;simp [List.getElem?_take,List.getElem?_drop]))
  all_goals (try (intros;(try split);(try omega);(try (rw [List.getElem?_eq_none (by omega)]))))
theorem Jh{w:World}{ok:Nat→Prop}{q:Addr}{x:aO}(h:(rAt aV q x).p w ok):(rAt (kI .i64) (q.add 1) x.Txn).p w ok:=by
  have h0:(rAt (kP kS (kP (kI .i64) (kI .i64))) q ((x.Dir,(x.Txn,x.Age)))).p w ok:=h
  have h1:=(T7 (vY h0))
  simp only [add_add,kP,kI,kB,kS,kL,Kd.scalar] at h1
  exact h1
def fB:eZ aV:=⟨fun x=>[.string x.Dir,.int .i64 x.Txn,.int .i64 x.Age],Hl,Ar⟩
structure aI where
  Prefix:ByteArray
  Epoch:Int
  State:Int
  deriving DecidableEq,Inhabited
def aR:Kd aI:=pD (kP kS (kP (kI .i64) (kI .i64))) fun x=>(x.Prefix,(x.Epoch,x.State))
theorem M3{w:World}{ok:Nat→Prop}{x:aI}{cs:List Value}(h:aR.R w ok x cs):cs= [.string x.Prefix,.int .i64 x.Epoch,.int .i64 x.State]:=by
  obtain ⟨c0,d0,rfl,h0,c1,d1,rfl,h1,h2⟩:=h
  have e0:c0= [.string x.Prefix]:=h0
  subst e0
  have e1:c1= [.int .i64 x.Epoch]:=h1
  subst e1
  have e2:d1= [.int .i64 x.State]:=h2
  subst e2
  rfl
theorem wA{w:World}{ok:Nat→Prop}{x:aI}:aR.R w ok x [.string x.Prefix,.int .i64 x.Epoch,.int .i64 x.State]:=⟨[.string x.Prefix],_,rfl,rfl,⟨[.int .i64 x.Epoch],_,rfl,rfl,rfl⟩⟩
abbrev pI (x:aI):List Value:=[.string x.Prefix,.int .i64 x.Epoch,.int .i64 x.State]
abbrev Pm:List Value:=[.string ⟨#[]⟩,.int .i64 0,.int .i64 0]
theorem yT{w:World}{ok:Nat→Prop}{q:Addr}{x:aI}{cs:List Value}(h:(rAw aR q x cs).p w ok):∃ c,(rAw kS (q.add 0) x.Prefix c).p w ok∧c=(cs.drop 0).take 1:=by
  have h0:(rAw (kP kS (kP (kI .i64) (kI .i64))) q ((x.Prefix,(x.Epoch,x.State))) cs).p w ok:=h
  have hl:cs.length=3:=aR.len h.2.1
  have h1:=(E7 h0)
  simp only [show ∀ q:Addr,q.add 0=q from fun q=>by simp [Addr.add]]
  refine ⟨_,h1,?_⟩
  (try simp only [kP,kI,kB,kS,kL,pD,Kd.scalar])
  all_goals (try (apply List.ext_getElem?;intro j;simp [List.getElem?_take,List.getElem?_drop]))
  all_goals (try (intros;(try split);(try omega);(try (rw [List.getElem?_eq_none (by omega)]))))
theorem Hm{w:World}{ok:Nat→Prop}{q:Addr}{x:aI}(h:(rAt aR q x).p w ok):(rAt (kI .i64) (q.add 1) x.Epoch).p w ok:=by
  have h0:(rAt (kP kS (kP (kI .i64) (kI .i64))) q ((x.Prefix,(x.Epoch,x.State)))).p w ok:=h
  have h1:=(T7 (vY h0))
  simp only [add_add,kP,kI,kB,kS,kL,Kd.scalar] at h1
  exact h1
theorem Hn{w:World}{ok:Nat→Prop}{q:Addr}{x:aI}{cs:List Value}(h:(rAw aR q x cs).p w ok):∃ c,(rAw (kI .i64) (q.add 1) x.Epoch c).p w ok∧c=(cs.drop 1).take 1:=by
  have h0:(rAw (kP kS (kP (kI .i64) (kI .i64))) q ((x.Prefix,(x.Epoch,x.State))) cs).p w ok:=h
  have hl:cs.length=3:=aR.len h.2.1
  have h1:=(E7 (Iy h0))
  simp only [add_add,kP,kI,kB,kS,kL,pD,Kd.scalar] at h1
  refine ⟨_,h1,?_⟩
  (try simp only [kP,kI,kB,kS,kL,pD,Kd.scalar])
  all_goals (try (apply List.ext_getElem?;intro j;simp [List.getElem?_take,List.getElem?_drop]))
  all_goals (try (intros;(try split);(try omega);(try (rw [List.getElem?_eq_none (by omega)]))))
theorem O9{w:World}{ok:Nat→Prop}{q:Addr}{x:aI}(h:(rAt aR q x).p w ok):(rAt (kI .i64) (q.add 2) x.State).p w ok:=by
  have h0:(rAt (kP kS (kP (kI .i64) (kI .i64))) q ((x.Prefix,(x.Epoch,x.State)))).p w ok:=h
  have h1:=(vY (vY h0))
  simp only [add_add,kP,kI,kB,kS,kL,Kd.scalar] at h1
  exact h1
def oI:eZ aR:=⟨fun x=>[.string x.Prefix,.int .i64 x.Epoch,.int .i64 x.State],M3,wA⟩
structure cE where
  Num:Int
  Kind:Int
  Path:ByteArray
  Watch:Int
  deriving DecidableEq,Inhabited
def aT:Kd cE:=pD (kP (kI .i64) (kP (kI .i64) (kP kS (kI .i64)))) fun x=>(x.Num,(x.Kind,(x.Path,x.Watch)))
theorem Fq{w:World}{ok:Nat→Prop}{x:cE}{cs:List Value}(h:aT.R w ok x cs):cs= [.int .i64 x.Num,.int .i64 x.Kind,.string x.Path,.int .i64 x.Watch]:=by
  obtain ⟨c0,d0,rfl,h0,c1,d1,rfl,h1,c2,d2,rfl,h2,h3⟩:=h
  have e0:c0= [.int .i64 x.Num]:=h0
  subst e0
  have e1:c1= [.int .i64 x.Kind]:=h1
  subst e1
  have e2:c2= [.string x.Path]:=h2
  subst e2
  have e3:d2= [.int .i64 x.Watch]:=h3
  subst e3
  rfl
theorem a6{w:World}{ok:Nat→Prop}{x:cE}:aT.R w ok x [.int .i64 x.Num,.int .i64 x.Kind,.string x.Path,.int .i64 x.Watch]:=⟨[.int .i64 x.Num],_,rfl,rfl,⟨[.int .i64 x.Kind],_,rfl,rfl,⟨[.string x.Path],_,rfl,rfl,rfl⟩⟩⟩
abbrev FH:List Value:=[.int .i64 0,.int .i64 0,.string ⟨#[]⟩,.int .i64 0]
structure aH where
  Num:Int
  Count:Int
  Events:(List cE)
  deriving DecidableEq,Inhabited
def aN:Kd aH:=pD (kP (kI .i64) (kP (kI .i64) (kL aT))) fun x=>(x.Num,(x.Count,x.Events))
theorem dU{w:World}{ok:Nat→Prop}{x:aH}{cs:List Value}(h:aN.R w ok x cs):∃ v1:Value,cs= [.int .i64 x.Num,.int .i64 x.Count,v1]∧Sl aT w ok v1 x.Events:=by
  obtain ⟨c0,d0,rfl,h0,c1,d1,rfl,h1,h2⟩:=h
  have e0:c0= [.int .i64 x.Num]:=h0
  subst e0
  have e1:c1= [.int .i64 x.Count]:=h1
  subst e1
  obtain ⟨u0,rfl,g0⟩:=h2
  exact ⟨u0,rfl,g0⟩
theorem tH{w:World}{ok:Nat→Prop}{x:aH}{v1:Value}(g1:Sl aT w ok v1 x.Events):aN.R w ok x [.int .i64 x.Num,.int .i64 x.Count,v1]:=⟨[.int .i64 x.Num],_,rfl,rfl,⟨[.int .i64 x.Count],_,rfl,rfl,⟨_,rfl,g1⟩⟩⟩
theorem iX{w:World}{ok:Nat→Prop}{x:aH}{v1:Value}(h:aN.R w ok x [.int .i64 x.Num,.int .i64 x.Count,v1]):Sl aT w ok v1 x.Events:=by
  obtain ⟨u0,he,g0⟩:=dU h
  cases he
  exact g0
abbrev oE (x:aH) (v1:Value):List Value:=[.int .i64 x.Num,.int .i64 x.Count,v1]
theorem Lh{w:World}{os:List Ob}{rs:List Rp}{x:aH}{cs:List Value}(H:Sep w os (rCs aN cs x::rs)):∃ v1:Value,cs=(oE x v1)∧Sep w os (rSl aT v1 x.Events::rCs aN (oE x v1) x::rs):=by
  obtain ⟨_,hcs⟩:=H.rd (.head _)
  obtain ⟨u0,rfl,-⟩:=dU hcs
  refine ⟨_,rfl,?_⟩
  exact (H.derive1 (.head _) (rSl aT u0 x.Events) fun ok h=>iX h)
theorem J8{w:World}{ok:Nat→Prop}{q:Addr}{x:aH}{cs:List Value}(h:(rAw aN q x cs).p w ok):∃ c,(rAw (kI .i64) (q.add 0) x.Num c).p w ok∧c=(cs.drop 0).take 1:=by
  have h0:(rAw (kP (kI .i64) (kP (kI .i64) (kL aT))) q ((x.Num,(x.Count,x.Events))) cs).p w ok:=h
  have hl:cs.length=3:=aN.len h.2.1
  have h1:=(E7 h0)
  simp only [show ∀ q:Addr,q.add 0=q from fun q=>by simp [Addr.add]]
  refine ⟨_,h1,?_⟩
  (try simp only [kP,kI,kB,kS,kL,pD,Kd.scalar])
  all_goals (try (apply List.ext_getElem?;intro j;simp [List.getElem?_take,List.getElem?_drop]))
  all_goals (try (intros;(try split);(try omega);(try (rw [List.getElem?_eq_none (by omega)]))))
structure aP where
  Session:Int
  Num:Int
  Path:ByteArray
  Deep:Bool
  deriving DecidableEq,Inhabited
def bB:Kd aP:=pD (kP (kI .i64) (kP (kI .i64) (kP kS kB))) fun x=>(x.Session,(x.Num,(x.Path,x.Deep)))
theorem Fr{w:World}{ok:Nat→Prop}{x:aP}{cs:List Value}(h:bB.R w ok x cs):cs= [.int .i64 x.Session,.int .i64 x.Num,.string x.Path,.bool x.Deep]:=by
  obtain ⟨c0,d0,rfl,h0,c1,d1,rfl,h1,c2,d2,rfl,h2,h3⟩:=h
  have e0:c0= [.int .i64 x.Session]:=h0
  subst e0
  have e1:c1= [.int .i64 x.Num]:=h1
  subst e1
  have e2:c2= [.string x.Path]:=h2
  subst e2
  have e3:d2= [.bool x.Deep]:=h3
  subst e3
  rfl
theorem Ji{w:World}{ok:Nat→Prop}{x:aP}:bB.R w ok x [.int .i64 x.Session,.int .i64 x.Num,.string x.Path,.bool x.Deep]:=⟨[.int .i64 x.Session],_,rfl,rfl,⟨[.int .i64 x.Num],_,rfl,rfl,⟨[.string x.Path],_,rfl,rfl,rfl⟩⟩⟩
abbrev hP (x:aP):List Value:=[.int .i64 x.Session,.int .i64 x.Num,.string x.Path,.bool x.Deep]
abbrev FI:List Value:=[.int .i64 0,.int .i64 0,.string ⟨#[]⟩,.bool false]
def lQ:eZ bB:=⟨fun x=>[.int .i64 x.Session,.int .i64 x.Num,.string x.Path,.bool x.Deep],Fr,Ji⟩
structure aF where
  Nodes:(List aD)
  Turns:(List aJ)
  deriving DecidableEq,Inhabited
def Q5:Kd aF:=pD (kP (kL aB) (kL aC)) fun x=>(x.Nodes,x.Turns)
theorem M4{w:World}{ok:Nat→Prop}{x:aF}{cs:List Value}(h:Q5.R w ok x cs):∃ v1 v2:Value,cs= [v1,v2]∧Sl aB w ok v1 x.Nodes∧Sl aC w ok v2 x.Turns:=by
  obtain ⟨c0,d0,rfl,h0,h1⟩:=h
  obtain ⟨u0,rfl,g0⟩:=h0
  obtain ⟨u1,rfl,g1⟩:=h1
  exact ⟨u0,u1,rfl,g0,g1⟩
theorem Jj{w:World}{ok:Nat→Prop}{x:aF}{v1:Value}{v2:Value}(g1:Sl aB w ok v1 x.Nodes)(g2:Sl aC w ok v2 x.Turns):Q5.R w ok x [v1,v2]:=⟨[v1],_,rfl,⟨_,rfl,g1⟩,⟨_,rfl,g2⟩⟩
theorem bQ{w:World}{os:List Ob}{rs:List Rp}{v1:Value}{yv1:List aD}{v2:Value}{yv2:List aJ}(H:Sep w os rs)(hv1:rSl aB v1 yv1 ∈ rs)(hv2:rSl aC v2 yv2 ∈ rs):[v1,v2].all (·.oneCell')=true:=by
  obtain ⟨_,_,rfl⟩:=H.slform hv1
  obtain ⟨_,_,rfl⟩:=H.slform hv2
  rfl
structure aQ where
  Kind:Int
  Dir:ByteArray
  Path:ByteArray
  Data:ByteArray
  Version:Int
  Owner:Int
  Turns:Bool
  deriving DecidableEq,Inhabited
def cB:Kd aQ:=pD (kP (kI .i64) (kP kS (kP kS (kP kS (kP (kI .i64) (kP (kI .i64) kB)))))) fun x=>(x.Kind,(x.Dir,(x.Path,(x.Data,(x.Version,(x.Owner,x.Turns))))))
theorem C4{w:World}{ok:Nat→Prop}{x:aQ}{cs:List Value}(h:cB.R w ok x cs):cs= [.int .i64 x.Kind,.string x.Dir,.string x.Path,.string x.Data,.int .i64 x.Version,.int .i64 x.Owner,.bool x.Turns]:=by
  obtain ⟨c0,d0,rfl,h0,c1,d1,rfl,h1,c2,d2,rfl,h2,c3,d3,rfl,h3,c4,d4,rfl,h4,c5,d5,rfl,h5,h6⟩:=h
  have e0:c0= [.int .i64 x.Kind]:=h0
  subst e0
  have e1:c1= [.string x.Dir]:=h1
  subst e1
  have e2:c2= [.string x.Path]:=h2
  subst e2
  have e3:c3= [.string x.Data]:=h3
  subst e3
  have e4:c4= [.int .i64 x.Version]:=h4
  subst e4
  have e5:c5= [.int .i64 x.Owner]:=h5
  subst e5
  have e6:d5= [.bool x.Turns]:=h6
  subst e6
  rfl
theorem gO{w:World}{ok:Nat→Prop}{x:aQ}:cB.R w ok x [.int .i64 x.Kind,.string x.Dir,.string x.Path,.string x.Data,.int .i64 x.Version,.int .i64 x.Owner,.bool x.Turns]:=⟨[.int .i64 x.Kind],_,rfl,rfl,⟨[.string x.Dir],_,rfl,rfl,⟨[.string x.Path],_,rfl,rfl,⟨[.string x.Data],_,rfl,rfl,⟨[.int .i64 x.Version],_,rfl,rfl,⟨[.int .i64 x.Owner],_,rfl,rfl,rfl⟩⟩⟩⟩⟩⟩
abbrev bE (x:aQ):List Value:=[.int .i64 x.Kind,.string x.Dir,.string x.Path,.string x.Data,.int .i64 x.Version,.int .i64 x.Owner,.bool x.Turns]
abbrev FY:List Value:=[.int .i64 0,.string ⟨#[]⟩,.string ⟨#[]⟩,.string ⟨#[]⟩,.int .i64 0,.int .i64 0,.bool false]
structure bV where
  Op:Int
  Part:aQ
  deriving DecidableEq,Inhabited
def bN:Kd bV:=pD (kP (kI .i64) cB) fun x=>(x.Op,x.Part)
theorem Fs{w:World}{ok:Nat→Prop}{x:bV}{cs:List Value}(h:bN.R w ok x cs):cs= [.int .i64 x.Op,.int .i64 x.Part.Kind,.string x.Part.Dir,.string x.Part.Path,.string x.Part.Data,.int .i64 x.Part.Version,.int .i64 x.Part.Owner,.bool x.Part.Turns]:=by
  obtain ⟨c0,d0,rfl,h0,h1⟩:=h
  have e0:c0= [.int .i64 x.Op]:=h0
  subst e0
  obtain ⟨rfl⟩:=C4 h1
  rfl
theorem V3{w:World}{ok:Nat→Prop}{x:bV}:bN.R w ok x [.int .i64 x.Op,.int .i64 x.Part.Kind,.string x.Part.Dir,.string x.Part.Path,.string x.Part.Data,.int .i64 x.Part.Version,.int .i64 x.Part.Owner,.bool x.Part.Turns]:=⟨[.int .i64 x.Op],_,rfl,rfl,gO⟩
abbrev Es (x:bV):List Value:=[.int .i64 x.Op,.int .i64 x.Part.Kind,.string x.Part.Dir,.string x.Part.Path,.string x.Part.Data,.int .i64 x.Part.Version,.int .i64 x.Part.Owner,.bool x.Part.Turns]
abbrev FJ:List Value:=[.int .i64 0,.int .i64 0,.string ⟨#[]⟩,.string ⟨#[]⟩,.string ⟨#[]⟩,.int .i64 0,.int .i64 0,.bool false]
theorem Hp{w:World}{ok:Nat→Prop}{q:Addr}{x:bV}(h:(rAt bN q x).p w ok):(rAt cB (q.add 1) x.Part).p w ok:=by
  have h0:(rAt (kP (kI .i64) cB) q ((x.Op,x.Part))).p w ok:=h
  have h1:=(vY h0)
  simp only [add_add,kP,kI,kB,kS,kL,Kd.scalar,cB] at h1
  exact h1
theorem Hq{w:World}{ok:Nat→Prop}{q:Addr}{x:bV}{cs:List Value}(h:(rAw bN q x cs).p w ok):∃ c,(rAw cB (q.add 1) x.Part c).p w ok∧c=(cs.drop 1).take 7:=by
  have h0:(rAw (kP (kI .i64) cB) q ((x.Op,x.Part)) cs).p w ok:=h
  have hl:cs.length=8:=bN.len h.2.1
  have h1:=(Iy h0)
  simp only [add_add,kP,kI,kB,kS,kL,pD,Kd.scalar,cB] at h1
  refine ⟨_,h1,?_⟩
  (try simp only [kP,kI,kB,kS,kL,pD,Kd.scalar,cB])
  all_goals (try (apply List.ext_getElem?;intro j;simp [List.getElem?_take,List.getElem?_drop]))
  all_goals (try (intros;(try split);(try omega);(try (rw [List.getElem?_eq_none (by omega)]))))
structure bA where
  Err:Int
  Path:ByteArray
  Data:ByteArray
  Version:Int
  Names:(List ByteArray)
  deriving DecidableEq,Inhabited
def aU:Kd bA:=pD (kP (kI .i64) (kP kS (kP kS (kP (kI .i64) (kL kS))))) fun x=>(x.Err,(x.Path,(x.Data,(x.Version,x.Names))))
theorem s7{w:World}{ok:Nat→Prop}{x:bA}{cs:List Value}(h:aU.R w ok x cs):∃ v1:Value,cs= [.int .i64 x.Err,.string x.Path,.string x.Data,.int .i64 x.Version,v1]∧Sl kS w ok v1 x.Names:=by
  obtain ⟨c0,d0,rfl,h0,c1,d1,rfl,h1,c2,d2,rfl,h2,c3,d3,rfl,h3,h4⟩:=h
  have e0:c0= [.int .i64 x.Err]:=h0
  subst e0
  have e1:c1= [.string x.Path]:=h1
  subst e1
  have e2:c2= [.string x.Data]:=h2
  subst e2
  have e3:c3= [.int .i64 x.Version]:=h3
  subst e3
  obtain ⟨u0,rfl,g0⟩:=h4
  exact ⟨u0,rfl,g0⟩
theorem P1{w:World}{ok:Nat→Prop}{x:bA}{v1:Value}(g1:Sl kS w ok v1 x.Names):aU.R w ok x [.int .i64 x.Err,.string x.Path,.string x.Data,.int .i64 x.Version,v1]:=⟨[.int .i64 x.Err],_,rfl,rfl,⟨[.string x.Path],_,rfl,rfl,⟨[.string x.Data],_,rfl,rfl,⟨[.int .i64 x.Version],_,rfl,rfl,⟨_,rfl,g1⟩⟩⟩⟩⟩
theorem J9{w:World}{ok:Nat→Prop}{x:bA}{v1:Value}(h:aU.R w ok x [.int .i64 x.Err,.string x.Path,.string x.Data,.int .i64 x.Version,v1]):Sl kS w ok v1 x.Names:=by
  obtain ⟨u0,he,g0⟩:=s7 h
  cases he
  exact g0
abbrev pL (x:bA) (v1:Value):List Value:=[.int .i64 x.Err,.string x.Path,.string x.Data,.int .i64 x.Version,v1]
abbrev gV:List Value:=[.int .i64 0,.string ⟨#[]⟩,.string ⟨#[]⟩,.int .i64 0,.slice none 0 0]
theorem mG{w:World}{os:List Ob}{rs:List Rp}{z0:Int}{z1:ByteArray}{z2:ByteArray}{z3:Int}{v1:Value}{yv1:List ByteArray}(H:Sep w os rs)(hv1:rSl kS v1 yv1 ∈ rs):[.int .i64 z0,.string z1,.string z2,.int .i64 z3,v1].all (·.oneCell')=true:=by
  obtain ⟨_,_,rfl⟩:=H.slform hv1
  rfl
theorem Ft{w:World}{ok:Nat→Prop}{q:Addr}{x:bA}(h:(rAt aU q x).p w ok):(rAt kS (q.add 1) x.Path).p w ok:=by
  have h0:(rAt (kP (kI .i64) (kP kS (kP kS (kP (kI .i64) (kL kS))))) q ((x.Err,(x.Path,(x.Data,(x.Version,x.Names)))))).p w ok:=h
  have h1:=(T7 (vY h0))
  simp only [add_add,kP,kI,kB,kS,kL,Kd.scalar] at h1
  exact h1
theorem Fu{w:World}{ok:Nat→Prop}{q:Addr}{x:bA}(h:(rAt aU q x).p w ok):(rAt (kL kS) (q.add 4) x.Names).p w ok:=by
  have h0:(rAt (kP (kI .i64) (kP kS (kP kS (kP (kI .i64) (kL kS))))) q ((x.Err,(x.Path,(x.Data,(x.Version,x.Names)))))).p w ok:=h
  have h1:=(vY (vY (vY (vY h0))))
  simp only [add_add,kP,kI,kB,kS,kL,Kd.scalar] at h1
  exact h1
structure vD where
  Prefix:ByteArray
  Group:Int
  Epoch:Int
  To:Int
  deriving DecidableEq,Inhabited
def bU:Kd vD:=pD (kP kS (kP (kI .i64) (kP (kI .i64) (kI .i64)))) fun x=>(x.Prefix,(x.Group,(x.Epoch,x.To)))
structure aW where
  Err:Int
  At:Int
  Yes:Bool
  Epoch:Int
  Results:(List bA)
  Store:aF
  Events:(List cE)
  Mounts:(List vD)
  Wounded:(List Int)
  deriving DecidableEq,Inhabited
def bY:Kd aW:=pD (kP (kI .i64) (kP (kI .i64) (kP kB (kP (kI .i64) (kP (kL aU) (kP Q5 (kP (kL aT) (kP (kL bU) (kL (kI .i64)))))))))) fun x=>(x.Err,(x.At,(x.Yes,(x.Epoch,(x.Results,(x.Store,(x.Events,(x.Mounts,x.Wounded))))))))
theorem jY{w:World}{ok:Nat→Prop}{x:aW}{cs:List Value}(h:bY.R w ok x cs):∃ v1 v2 v3 v4 v5 v6:Value,cs= [.int .i64 x.Err,.int .i64 x.At,.bool x.Yes,.int .i64 x.Epoch,v1,v2,v3,v4,v5,v6]∧Sl aU w ok v1 x.Results∧Sl aB w ok v2 x.Store.Nodes∧Sl aC w ok v3 x.Store.Turns∧Sl aT w ok v4 x.Events∧Sl bU w ok v5 x.Mounts∧Sl (kI .i64) w ok v6 x.Wounded:=by
  obtain ⟨c0,d0,rfl,h0,c1,d1,rfl,h1,c2,d2,rfl,h2,c3,d3,rfl,h3,c4,d4,rfl,h4,c5,d5,rfl,h5,c6,d6,rfl,h6,c7,d7,rfl,h7,h8⟩:=h
  have e0:c0= [.int .i64 x.Err]:=h0
  subst e0
  have e1:c1= [.int .i64 x.At]:=h1
  subst e1
  have e2:c2= [.bool x.Yes]:=h2
  subst e2
  have e3:c3= [.int .i64 x.Epoch]:=h3
  subst e3
  obtain ⟨u0,rfl,g0⟩:=h4
  obtain ⟨u1,u2,rfl,g1,g2⟩:=M4 h5
  obtain ⟨u3,rfl,g3⟩:=h6
  obtain ⟨u4,rfl,g4⟩:=h7
  obtain ⟨u5,rfl,g5⟩:=h8
  exact ⟨u0,u1,u2,u3,u4,u5,rfl,g0,g1,g2,g3,g4,g5⟩
theorem yU{w:World}{ok:Nat→Prop}{x:aW}{v1:Value}{v2:Value}{v3:Value}{v4:Value}{v5:Value}{v6:Value}(g1:Sl aU w ok v1 x.Results)(g2:Sl aB w ok v2 x.Store.Nodes)(g3:Sl aC w ok v3 x.Store.Turns)(g4:Sl aT w ok v4 x.Events)(g5:Sl bU w ok v5 x.Mounts)(g6:Sl (kI .i64) w ok v6 x.Wounded):bY.R w ok x [.int .i64 x.Err,.int .i64 x.At,.bool x.Yes,.int .i64 x.Epoch,v1,v2,v3,v4,v5,v6]:=⟨[.int .i64 x.Err],_,rfl,rfl,⟨[.int .i64 x.At],_,rfl,rfl,⟨[.bool x.Yes],_,rfl,rfl,⟨[.int .i64 x.Epoch],_,rfl,rfl,⟨[v1],_,rfl,⟨_,rfl,g1⟩,⟨[v2,v3],_,rfl,(Jj g2 g3),⟨[v4],_,rfl,⟨_,rfl,g4⟩,⟨[v5],_,rfl,⟨_,rfl,g5⟩,⟨_,rfl,g6⟩⟩⟩⟩⟩⟩⟩⟩⟩
theorem Du{w:World}{ok:Nat→Prop}{x:aW}{v1 v2 v3 v4 v5 v6:Value}(h:bY.R w ok x [.int .i64 x.Err,.int .i64 x.At,.bool x.Yes,.int .i64 x.Epoch,v1,v2,v3,v4,v5,v6]):Sl aU w ok v1 x.Results:=by
  obtain ⟨u0,u1,u2,u3,u4,u5,he,g0,g1,g2,g3,g4,g5⟩:=jY h
  cases he
  exact g0
theorem Dv{w:World}{ok:Nat→Prop}{x:aW}{v1 v2 v3 v4 v5 v6:Value}(h:bY.R w ok x [.int .i64 x.Err,.int .i64 x.At,.bool x.Yes,.int .i64 x.Epoch,v1,v2,v3,v4,v5,v6]):Sl aB w ok v2 x.Store.Nodes:=by
  obtain ⟨u0,u1,u2,u3,u4,u5,he,g0,g1,g2,g3,g4,g5⟩:=jY h
  cases he
  exact g1
theorem Dw{w:World}{ok:Nat→Prop}{x:aW}{v1 v2 v3 v4 v5 v6:Value}(h:bY.R w ok x [.int .i64 x.Err,.int .i64 x.At,.bool x.Yes,.int .i64 x.Epoch,v1,v2,v3,v4,v5,v6]):Sl aC w ok v3 x.Store.Turns:=by
  obtain ⟨u0,u1,u2,u3,u4,u5,he,g0,g1,g2,g3,g4,g5⟩:=jY h
  cases he
  exact g2
theorem Dx{w:World}{ok:Nat→Prop}{x:aW}{v1 v2 v3 v4 v5 v6:Value}(h:bY.R w ok x [.int .i64 x.Err,.int .i64 x.At,.bool x.Yes,.int .i64 x.Epoch,v1,v2,v3,v4,v5,v6]):Sl aT w ok v4 x.Events:=by
  obtain ⟨u0,u1,u2,u3,u4,u5,he,g0,g1,g2,g3,g4,g5⟩:=jY h
  cases he
  exact g3
theorem Dy{w:World}{ok:Nat→Prop}{x:aW}{v1 v2 v3 v4 v5 v6:Value}(h:bY.R w ok x [.int .i64 x.Err,.int .i64 x.At,.bool x.Yes,.int .i64 x.Epoch,v1,v2,v3,v4,v5,v6]):Sl bU w ok v5 x.Mounts:=by
  obtain ⟨u0,u1,u2,u3,u4,u5,he,g0,g1,g2,g3,g4,g5⟩:=jY h
  cases he
  exact g4
theorem Dz{w:World}{ok:Nat→Prop}{x:aW}{v1 v2 v3 v4 v5 v6:Value}(h:bY.R w ok x [.int .i64 x.Err,.int .i64 x.At,.bool x.Yes,.int .i64 x.Epoch,v1,v2,v3,v4,v5,v6]):Sl (kI .i64) w ok v6 x.Wounded:=by
  obtain ⟨u0,u1,u2,u3,u4,u5,he,g0,g1,g2,g3,g4,g5⟩:=jY h
  cases he
  exact g5
abbrev bJ (x:aW) (v1:Value) (v2:Value) (v3:Value) (v4:Value) (v5:Value) (v6:Value):List Value:=[.int .i64 x.Err,.int .i64 x.At,.bool x.Yes,.int .i64 x.Epoch,v1,v2,v3,v4,v5,v6]
abbrev dC:List Value:=[.int .i64 0,.int .i64 0,.bool false,.int .i64 0,.slice none 0 0,.slice none 0 0,.slice none 0 0,.slice none 0 0,.slice none 0 0,.slice none 0 0]
theorem zI{w:World}{os:List Ob}{rs:List Rp}{x:aW}{cs:List Value}(H:Sep w os (rCs bY cs x::rs)):∃ v1 v2 v3 v4 v5 v6:Value,cs=(bJ x v1 v2 v3 v4 v5 v6)∧Sep w os (rSl (kI .i64) v6 x.Wounded::rSl bU v5 x.Mounts::rSl aT v4 x.Events::rSl aC v3 x.Store.Turns::rSl aB v2 x.Store.Nodes::rSl aU v1 x.Results::rCs bY (bJ x v1 v2 v3 v4 v5 v6) x::rs):=by
  obtain ⟨_,hcs⟩:=H.rd (.head _)
  obtain ⟨u0,u1,u2,u3,u4,u5,rfl,-,-,-,-,-,-⟩:=jY hcs
  refine ⟨_,_,_,_,_,_,rfl,?_⟩
  exact ((((((H.derive1 (.head _) (rSl aU u0 x.Results) fun ok h=>Du h).derive1 (.tail _ (.head _)) (rSl aB u1 x.Store.Nodes) fun ok h=>Dv h).derive1 (.tail _ (.tail _ (.head _))) (rSl aC u2 x.Store.Turns) fun ok h=>Dw h).derive1 (.tail _ (.tail _ (.tail _ (.head _)))) (rSl aT u3 x.Events) fun ok h=>Dx h).derive1 (.tail _ (.tail _ (.tail _ (.tail _ (.head _))))) (rSl bU u4 x.Mounts) fun ok h=>Dy h).derive1 (.tail _ (.tail _ (.tail _ (.tail _ (.tail _ (.head _)))))) (rSl (kI .i64) u5 x.Wounded) fun ok h=>Dz h)
theorem bR{w:World}{os:List Ob}{rs:List Rp}{z0:Int}{z1:Int}{z2:Bool}{z3:Int}{v1:Value}{yv1:List bA}{v2:Value}{yv2:List aD}{v3:Value}{yv3:List aJ}{v4:Value}{yv4:List cE}{v5:Value}{yv5:List vD}{v6:Value}{yv6:List Int}(H:Sep w os rs)(hv1:rSl aU v1 yv1 ∈ rs)(hv2:rSl aB v2 yv2 ∈ rs)(hv3:rSl aC v3 yv3 ∈ rs)(hv4:rSl aT v4 yv4 ∈ rs)(hv5:rSl bU v5 yv5 ∈ rs)(hv6:rSl (kI .i64) v6 yv6 ∈ rs):[.int .i64 z0,.int .i64 z1,.bool z2,.int .i64 z3,v1,v2,v3,v4,v5,v6].all (·.oneCell')=true:=by
  obtain ⟨_,_,rfl⟩:=H.slform hv1
  obtain ⟨_,_,rfl⟩:=H.slform hv2
  obtain ⟨_,_,rfl⟩:=H.slform hv3
  obtain ⟨_,_,rfl⟩:=H.slform hv4
  obtain ⟨_,_,rfl⟩:=H.slform hv5
  obtain ⟨_,_,rfl⟩:=H.slform hv6
  rfl
structure eR where
  over_:Bool
  pieces_:(List bV)
  a_:aW
  deriving DecidableEq,Inhabited
def cY:Kd eR:=pD (kP kB (kP (kL bN) bY)) fun x=>(x.over_,(x.pieces_,x.a_))
theorem lR{w:World}{ok:Nat→Prop}{x:eR}{cs:List Value}(h:cY.R w ok x cs):∃ v1 v2 v3 v4 v5 v6 v7:Value,cs= [.bool x.over_,v1,.int .i64 x.a_.Err,.int .i64 x.a_.At,.bool x.a_.Yes,.int .i64 x.a_.Epoch,v2,v3,v4,v5,v6,v7]∧Sl bN w ok v1 x.pieces_∧Sl aU w ok v2 x.a_.Results∧Sl aB w ok v3 x.a_.Store.Nodes∧Sl aC w ok v4 x.a_.Store.Turns∧Sl aT w ok v5 x.a_.Events∧Sl bU w ok v6 x.a_.Mounts∧Sl (kI .i64) w ok v7 x.a_.Wounded:=by
  obtain ⟨c0,d0,rfl,h0,c1,d1,rfl,h1,h2⟩:=h
  have e0:c0= [.bool x.over_]:=h0
  subst e0
  obtain ⟨u0,rfl,g0⟩:=h1
  obtain ⟨u1,u2,u3,u4,u5,u6,rfl,g1,g2,g3,g4,g5,g6⟩:=jY h2
  exact ⟨u0,u1,u2,u3,u4,u5,u6,rfl,g0,g1,g2,g3,g4,g5,g6⟩
theorem E9{w:World}{ok:Nat→Prop}{x:eR}{v1:Value}{v2:Value}{v3:Value}{v4:Value}{v5:Value}{v6:Value}{v7:Value}(g1:Sl bN w ok v1 x.pieces_)(g2:Sl aU w ok v2 x.a_.Results)(g3:Sl aB w ok v3 x.a_.Store.Nodes)(g4:Sl aC w ok v4 x.a_.Store.Turns)(g5:Sl aT w ok v5 x.a_.Events)(g6:Sl bU w ok v6 x.a_.Mounts)(g7:Sl (kI .i64) w ok v7 x.a_.Wounded):cY.R w ok x [.bool x.over_,v1,.int .i64 x.a_.Err,.int .i64 x.a_.At,.bool x.a_.Yes,.int .i64 x.a_.Epoch,v2,v3,v4,v5,v6,v7]:=⟨[.bool x.over_],_,rfl,rfl,⟨[v1],_,rfl,⟨_,rfl,g1⟩,(yU g2 g3 g4 g5 g6 g7)⟩⟩
theorem Fv{w:World}{ok:Nat→Prop}{x:eR}{v1 v2 v3 v4 v5 v6 v7:Value}(h:cY.R w ok x [.bool x.over_,v1,.int .i64 x.a_.Err,.int .i64 x.a_.At,.bool x.a_.Yes,.int .i64 x.a_.Epoch,v2,v3,v4,v5,v6,v7]):Sl bN w ok v1 x.pieces_:=by
  obtain ⟨u0,u1,u2,u3,u4,u5,u6,he,g0,g1,g2,g3,g4,g5,g6⟩:=lR h
  cases he
  exact g0
theorem Fw{w:World}{ok:Nat→Prop}{x:eR}{v1 v2 v3 v4 v5 v6 v7:Value}(h:cY.R w ok x [.bool x.over_,v1,.int .i64 x.a_.Err,.int .i64 x.a_.At,.bool x.a_.Yes,.int .i64 x.a_.Epoch,v2,v3,v4,v5,v6,v7]):Sl aU w ok v2 x.a_.Results:=by
  obtain ⟨u0,u1,u2,u3,u4,u5,u6,he,g0,g1,g2,g3,g4,g5,g6⟩:=lR h
  cases he
  exact g1
theorem Fx{w:World}{ok:Nat→Prop}{x:eR}{v1 v2 v3 v4 v5 v6 v7:Value}(h:cY.R w ok x [.bool x.over_,v1,.int .i64 x.a_.Err,.int .i64 x.a_.At,.bool x.a_.Yes,.int .i64 x.a_.Epoch,v2,v3,v4,v5,v6,v7]):Sl aB w ok v3 x.a_.Store.Nodes:=by
  obtain ⟨u0,u1,u2,u3,u4,u5,u6,he,g0,g1,g2,g3,g4,g5,g6⟩:=lR h
  cases he
  exact g2
theorem Fy{w:World}{ok:Nat→Prop}{x:eR}{v1 v2 v3 v4 v5 v6 v7:Value}(h:cY.R w ok x [.bool x.over_,v1,.int .i64 x.a_.Err,.int .i64 x.a_.At,.bool x.a_.Yes,.int .i64 x.a_.Epoch,v2,v3,v4,v5,v6,v7]):Sl aC w ok v4 x.a_.Store.Turns:=by
  obtain ⟨u0,u1,u2,u3,u4,u5,u6,he,g0,g1,g2,g3,g4,g5,g6⟩:=lR h
  cases he
  exact g3
theorem Fz{w:World}{ok:Nat→Prop}{x:eR}{v1 v2 v3 v4 v5 v6 v7:Value}(h:cY.R w ok x [.bool x.over_,v1,.int .i64 x.a_.Err,.int .i64 x.a_.At,.bool x.a_.Yes,.int .i64 x.a_.Epoch,v2,v3,v4,v5,v6,v7]):Sl aT w ok v5 x.a_.Events:=by
  obtain ⟨u0,u1,u2,u3,u4,u5,u6,he,g0,g1,g2,g3,g4,g5,g6⟩:=lR h
  cases he
  exact g4
theorem Ga{w:World}{ok:Nat→Prop}{x:eR}{v1 v2 v3 v4 v5 v6 v7:Value}(h:cY.R w ok x [.bool x.over_,v1,.int .i64 x.a_.Err,.int .i64 x.a_.At,.bool x.a_.Yes,.int .i64 x.a_.Epoch,v2,v3,v4,v5,v6,v7]):Sl bU w ok v6 x.a_.Mounts:=by
  obtain ⟨u0,u1,u2,u3,u4,u5,u6,he,g0,g1,g2,g3,g4,g5,g6⟩:=lR h
  cases he
  exact g5
theorem Gb{w:World}{ok:Nat→Prop}{x:eR}{v1 v2 v3 v4 v5 v6 v7:Value}(h:cY.R w ok x [.bool x.over_,v1,.int .i64 x.a_.Err,.int .i64 x.a_.At,.bool x.a_.Yes,.int .i64 x.a_.Epoch,v2,v3,v4,v5,v6,v7]):Sl (kI .i64) w ok v7 x.a_.Wounded:=by
  obtain ⟨u0,u1,u2,u3,u4,u5,u6,he,g0,g1,g2,g3,g4,g5,g6⟩:=lR h
  cases he
  exact g6
abbrev Et (x:eR) (v1:Value) (v2:Value) (v3:Value) (v4:Value) (v5:Value) (v6:Value) (v7:Value):List Value:=[.bool x.over_,v1,.int .i64 x.a_.Err,.int .i64 x.a_.At,.bool x.a_.Yes,.int .i64 x.a_.Epoch,v2,v3,v4,v5,v6,v7]
abbrev FK:List Value:=[.bool false,.slice none 0 0,.int .i64 0,.int .i64 0,.bool false,.int .i64 0,.slice none 0 0,.slice none 0 0,.slice none 0 0,.slice none 0 0,.slice none 0 0,.slice none 0 0]
theorem G1{w:World}{os:List Ob}{rs:List Rp}{x:eR}{cs:List Value}(H:Sep w os (rCs cY cs x::rs)):∃ v1 v2 v3 v4 v5 v6 v7:Value,cs=(Et x v1 v2 v3 v4 v5 v6 v7)∧Sep w os (rSl (kI .i64) v7 x.a_.Wounded::rSl bU v6 x.a_.Mounts::rSl aT v5 x.a_.Events::rSl aC v4 x.a_.Store.Turns::rSl aB v3 x.a_.Store.Nodes::rSl aU v2 x.a_.Results::rSl bN v1 x.pieces_::rCs cY (Et x v1 v2 v3 v4 v5 v6 v7) x::rs):=by
  obtain ⟨_,hcs⟩:=H.rd (.head _)
  obtain ⟨u0,u1,u2,u3,u4,u5,u6,rfl,-,-,-,-,-,-,-⟩:=lR hcs
  refine ⟨_,_,_,_,_,_,_,rfl,?_⟩
  exact (((((((H.derive1 (.head _) (rSl bN u0 x.pieces_) fun ok h=>Fv h).derive1 (.tail _ (.head _)) (rSl aU u1 x.a_.Results) fun ok h=>Fw h).derive1 (.tail _ (.tail _ (.head _))) (rSl aB u2 x.a_.Store.Nodes) fun ok h=>Fx h).derive1 (.tail _ (.tail _ (.tail _ (.head _)))) (rSl aC u3 x.a_.Store.Turns) fun ok h=>Fy h).derive1 (.tail _ (.tail _ (.tail _ (.tail _ (.head _))))) (rSl aT u4 x.a_.Events) fun ok h=>Fz h).derive1 (.tail _ (.tail _ (.tail _ (.tail _ (.tail _ (.head _)))))) (rSl bU u5 x.a_.Mounts) fun ok h=>Ga h).derive1 (.tail _ (.tail _ (.tail _ (.tail _ (.tail _ (.tail _ (.head _))))))) (rSl (kI .i64) u6 x.a_.Wounded) fun ok h=>Gb h)
theorem x4{w:World}{os:List Ob}{rs:List Rp}{z0:Bool}{z1:Int}{z2:Int}{z3:Bool}{z4:Int}{v1:Value}{yv1:List bV}{v2:Value}{yv2:List bA}{v3:Value}{yv3:List aD}{v4:Value}{yv4:List aJ}{v5:Value}{yv5:List cE}{v6:Value}{yv6:List vD}{v7:Value}{yv7:List Int}(H:Sep w os rs)(hv1:rSl bN v1 yv1 ∈ rs)(hv2:rSl aU v2 yv2 ∈ rs)(hv3:rSl aB v3 yv3 ∈ rs)(hv4:rSl aC v4 yv4 ∈ rs)(hv5:rSl aT v5 yv5 ∈ rs)(hv6:rSl bU v6 yv6 ∈ rs)(hv7:rSl (kI .i64) v7 yv7 ∈ rs):[.bool z0,v1,.int .i64 z1,.int .i64 z2,.bool z3,.int .i64 z4,v2,v3,v4,v5,v6,v7].all (·.oneCell')=true:=by
  obtain ⟨_,_,rfl⟩:=H.slform hv1
  obtain ⟨_,_,rfl⟩:=H.slform hv2
  obtain ⟨_,_,rfl⟩:=H.slform hv3
  obtain ⟨_,_,rfl⟩:=H.slform hv4
  obtain ⟨_,_,rfl⟩:=H.slform hv5
  obtain ⟨_,_,rfl⟩:=H.slform hv6
  obtain ⟨_,_,rfl⟩:=H.slform hv7
  rfl
structure dH where
  Kind:Int
  Path:ByteArray
  Data:ByteArray
  Version:Int
  Owner:Int
  Turns:Bool
  deriving DecidableEq,Inhabited
def y6:Kd dH:=pD (kP (kI .i64) (kP kS (kP kS (kP (kI .i64) (kP (kI .i64) kB))))) fun x=>(x.Kind,(x.Path,(x.Data,(x.Version,(x.Owner,x.Turns)))))
theorem Li{w:World}{ok:Nat→Prop}{x:dH}{cs:List Value}(h:y6.R w ok x cs):cs= [.int .i64 x.Kind,.string x.Path,.string x.Data,.int .i64 x.Version,.int .i64 x.Owner,.bool x.Turns]:=by
  obtain ⟨c0,d0,rfl,h0,c1,d1,rfl,h1,c2,d2,rfl,h2,c3,d3,rfl,h3,c4,d4,rfl,h4,h5⟩:=h
  have e0:c0= [.int .i64 x.Kind]:=h0
  subst e0
  have e1:c1= [.string x.Path]:=h1
  subst e1
  have e2:c2= [.string x.Data]:=h2
  subst e2
  have e3:c3= [.int .i64 x.Version]:=h3
  subst e3
  have e4:c4= [.int .i64 x.Owner]:=h4
  subst e4
  have e5:d4= [.bool x.Turns]:=h5
  subst e5
  rfl
theorem Eu{w:World}{ok:Nat→Prop}{x:dH}:y6.R w ok x [.int .i64 x.Kind,.string x.Path,.string x.Data,.int .i64 x.Version,.int .i64 x.Owner,.bool x.Turns]:=⟨[.int .i64 x.Kind],_,rfl,rfl,⟨[.string x.Path],_,rfl,rfl,⟨[.string x.Data],_,rfl,rfl,⟨[.int .i64 x.Version],_,rfl,rfl,⟨[.int .i64 x.Owner],_,rfl,rfl,rfl⟩⟩⟩⟩⟩
abbrev pM (x:dH):List Value:=[.int .i64 x.Kind,.string x.Path,.string x.Data,.int .i64 x.Version,.int .i64 x.Owner,.bool x.Turns]
abbrev HG:List Value:=[.int .i64 0,.string ⟨#[]⟩,.string ⟨#[]⟩,.int .i64 0,.int .i64 0,.bool false]
def As:eZ y6:=⟨fun x=>[.int .i64 x.Kind,.string x.Path,.string x.Data,.int .i64 x.Version,.int .i64 x.Owner,.bool x.Turns],Li,Eu⟩
def P2:eZ cB:=⟨fun x=>[.int .i64 x.Kind,.string x.Dir,.string x.Path,.string x.Data,.int .i64 x.Version,.int .i64 x.Owner,.bool x.Turns],C4,gO⟩
structure aS where
  Kind:Int
  Id:Int
  Txn:Int
  Age:Int
  Yes:Bool
  Pieces:(List bV)
  Prefix:ByteArray
  Epoch:Int
  To:Int
  Store:aF
  Gone:(List ByteArray)
  Watch:aP
  deriving DecidableEq,Inhabited
def BJ:Kd aS:=pD (kP (kI .i64) (kP (kI .i64) (kP (kI .i64) (kP (kI .i64) (kP kB (kP (kL bN) (kP kS (kP (kI .i64) (kP (kI .i64) (kP Q5 (kP (kL kS) bB))))))))))) fun x=>(x.Kind,(x.Id,(x.Txn,(x.Age,(x.Yes,(x.Pieces,(x.Prefix,(x.Epoch,(x.To,(x.Store,(x.Gone,x.Watch)))))))))))
abbrev aX (x:aS) (v1:Value) (v2:Value) (v3:Value) (v4:Value):List Value:=[.int .i64 x.Kind,.int .i64 x.Id,.int .i64 x.Txn,.int .i64 x.Age,.bool x.Yes,v1,.string x.Prefix,.int .i64 x.Epoch,.int .i64 x.To,v2,v3,v4,.int .i64 x.Watch.Session,.int .i64 x.Watch.Num,.string x.Watch.Path,.bool x.Watch.Deep]
abbrev BK:List Value:=[.int .i64 0,.int .i64 0,.int .i64 0,.int .i64 0,.bool false,.slice none 0 0,.string ⟨#[]⟩,.int .i64 0,.int .i64 0,.slice none 0 0,.slice none 0 0,.slice none 0 0,.int .i64 0,.int .i64 0,.string ⟨#[]⟩,.bool false]
def wZ:eZ bN:=⟨fun x=>[.int .i64 x.Op,.int .i64 x.Part.Kind,.string x.Part.Dir,.string x.Part.Path,.string x.Part.Data,.int .i64 x.Part.Version,.int .i64 x.Part.Owner,.bool x.Part.Turns],Fs,V3⟩
abbrev Pn:aF:=⟨[],[]⟩
abbrev zJ:aW:=⟨0,0,false,0,[],Pn,[],[],[]⟩
structure eE where
  Watches:(List aP)
  Sessions:(List aH)
  deriving DecidableEq,Inhabited
def BL:Kd eE:=pD (kP (kL bB) (kL aN)) fun x=>(x.Watches,x.Sessions)
theorem P3{w:World}{os:List Ob}{rs:List Rp}{v1:Value}{yv1:List aP}{v2:Value}{yv2:List aH}(H:Sep w os rs)(hv1:rSl bB v1 yv1 ∈ rs)(hv2:rSl aN v2 yv2 ∈ rs):[v1,v2].all (·.oneCell')=true:=by
  obtain ⟨_,_,rfl⟩:=H.slform hv1
  obtain ⟨_,_,rfl⟩:=H.slform hv2
  rfl
def Gc:eZ aT:=⟨fun x=>[.int .i64 x.Num,.int .i64 x.Kind,.string x.Path,.int .i64 x.Watch],Fq,a6⟩
def Qm:eZ kS:=⟨fun x=>[.string x],fun h=>h,rfl⟩
structure Po where
  Store:aF
  r_:bA
  deriving DecidableEq,Inhabited
def FL:Kd Po:=pD (kP Q5 aU) fun x=>(x.Store,x.r_)
abbrev Q6:eR:=⟨false,[],zJ⟩
def cfB(P:Program)(f:Nat):Bool:=match P.funcs[f]? with
  | some fn=>!(fn.body.isNone || fn.name == "runtime.NumGoroutine")
  | none=>false
theorem cfA{P:Program}{f:Nat}(h:cfB P f=true):CF P f:=by
  unfold cfB at h
  split at h
  · rename_i fn hf
    exact cfo hf (by simpa using h)
  · cases h
theorem cf_(f:Nat)(h:cfB Tryz.prog f=true:=by kernel_rfl):CF Tryz.prog f:=cfA h
abbrev U25:=Tryz.underlying25
theorem bK:(Tryz.prog.info? 25).map (·.size)=some 2:=by kernel_rfl
theorem CG:∀ (w:World) (q:Addr),(Instr.fieldAt 25 (.pointer (some q)) 0).run Tryz.prog w= .ok (.pointer (some (q.add 0))) w:=fun w q=>by kernel_rfl
abbrev U22:=Tryz.underlying22
theorem cJ:(Tryz.prog.info? 107).map (·.size)=some 5:=by kernel_rfl
abbrev pF:=Tryz.underlying107
theorem Yy:∀ (w:World) (q:Addr),(Instr.fieldAt 107 (.pointer (some q)) 3).run Tryz.prog w= .ok (.pointer (some (q.add 3))) w:=fun w q=>by kernel_rfl
abbrev U2:=Tryz.underlying2
theorem Yz:∀ (w:World) (q:Addr),(Instr.fieldAt 107 (.pointer (some q)) 0).run Tryz.prog w= .ok (.pointer (some (q.add 0))) w:=fun w q=>by kernel_rfl
abbrev U9:=Tryz.underlying9
theorem Za:∀ (w:World) (q:Addr),(Instr.fieldAt 107 (.pointer (some q)) 1).run Tryz.prog w= .ok (.pointer (some (q.add 1))) w:=fun w q=>by kernel_rfl
theorem Zb:∀ (w:World) (q:Addr),(Instr.fieldAt 107 (.pointer (some q)) 2).run Tryz.prog w= .ok (.pointer (some (q.add 2))) w:=fun w q=>by kernel_rfl
theorem Zc:∀ (w:World) (q:Addr),(Instr.fieldAt 107 (.pointer (some q)) 4).run Tryz.prog w= .ok (.pointer (some (q.add 4))) w:=fun w q=>by kernel_rfl
abbrev U33:=Tryz.underlying33
theorem CH:∀ (w:World) (s:ByteArray) (c:Int),(callFunc 326 #[.string s,.int .u8 c]).run Tryz.prog w= .ok (.value (.int .i64 (ixB s c))) w:=fun w s c=>Mv Tryz.func326 (by kernel_rfl) (by kernel_rfl) (by kernel_rfl) (e:=Extern.BytealgIndexByte.indexByte) (by kernel_rfl) (Yr s c w)
theorem Z5:(Tryz.prog.info? 9).map (fun i=>(i.zero,i.size,i.bytes))=some (some (.string ⟨#[]⟩),1,16):=by kernel_rfl
theorem CI:∀ (w:World) (q:Addr),(Instr.fieldAt 25 (.pointer (some q)) 1).run Tryz.prog w= .ok (.pointer (some (q.add 1))) w:=fun w q=>by kernel_rfl
abbrev U23:=Tryz.underlying23
theorem iS:(Tryz.prog.info? 89).map (·.size)=some 2:=by kernel_rfl
abbrev U89:=Tryz.underlying89
theorem CJ:∀ (w:World) (q:Addr),(Instr.fieldAt 89 (.pointer (some q)) 0).run Tryz.prog w= .ok (.pointer (some (q.add 0))) w:=fun w q=>by kernel_rfl
theorem CK:∀ (w:World) (q:Addr),(Instr.fieldAt 89 (.pointer (some q)) 1).run Tryz.prog w= .ok (.pointer (some (q.add 1))) w:=fun w q=>by kernel_rfl
abbrev U32:=Tryz.underlying32
theorem nO:(Tryz.prog.info? 31).map (·.size)=some 3:=by kernel_rfl
abbrev U31:=Tryz.underlying31
theorem Ni:(Tryz.prog.info? 31).bind (·.zero)=some (.agg Pm.toArray):=by kernel_rfl
theorem CL:∀ (w:World) (q:Addr),(Instr.fieldAt 31 (.pointer (some q)) 0).run Tryz.prog w= .ok (.pointer (some (q.add 0))) w:=fun w q=>by kernel_rfl
theorem CM:∀ (w:World) (q:Addr),(Instr.fieldAt 31 (.pointer (some q)) 1).run Tryz.prog w= .ok (.pointer (some (q.add 1))) w:=fun w q=>by kernel_rfl
theorem CN:∀ (w:World) (q:Addr),(Instr.fieldAt 31 (.pointer (some q)) 2).run Tryz.prog w= .ok (.pointer (some (q.add 2))) w:=fun w q=>by kernel_rfl
abbrev U3:=Tryz.underlying3
abbrev Jk:=Tryz.underlying135
theorem P4:(Tryz.prog.info? 134).map (·.size)=some 6:=by kernel_rfl
abbrev Nj:=Tryz.underlying134
theorem Zd:∀ (w:World) (q:Addr),(Instr.fieldAt 134 (.pointer (some q)) 0).run Tryz.prog w= .ok (.pointer (some (q.add 0))) w:=fun w q=>by kernel_rfl
theorem Ze:∀ (w:World) (q:Addr),(Instr.fieldAt 134 (.pointer (some q)) 1).run Tryz.prog w= .ok (.pointer (some (q.add 1))) w:=fun w q=>by kernel_rfl
theorem Zf:∀ (w:World) (q:Addr),(Instr.fieldAt 134 (.pointer (some q)) 2).run Tryz.prog w= .ok (.pointer (some (q.add 2))) w:=fun w q=>by kernel_rfl
theorem Zg:∀ (w:World) (q:Addr),(Instr.fieldAt 134 (.pointer (some q)) 4).run Tryz.prog w= .ok (.pointer (some (q.add 4))) w:=fun w q=>by kernel_rfl
theorem Zh:∀ (w:World) (q:Addr),(Instr.fieldAt 134 (.pointer (some q)) 3).run Tryz.prog w= .ok (.pointer (some (q.add 3))) w:=fun w q=>by kernel_rfl
theorem Zi:∀ (w:World) (q:Addr),(Instr.fieldAt 134 (.pointer (some q)) 5).run Tryz.prog w= .ok (.pointer (some (q.add 5))) w:=fun w q=>by kernel_rfl
abbrev U4:=Tryz.underlying4
theorem FZ:(Tryz.prog.info? 312).bind (·.zero)=some (.agg #[.int .i64 0,.int .i64 0,.int .i64 0,.int .i64 0,.int .i64 0,.int .i64 0,.int .i64 0,.int .i64 0]):=by kernel_rfl
theorem Ye:(Tryz.prog.info? 312).map (·.size)=some 8:=by kernel_rfl
abbrev CO:=Tryz.underlying312
theorem sz3:(Tryz.prog.info? 3).map (·.size)=some 1:=by kernel_rfl
theorem GA:(Tryz.prog.info? 134).bind (·.zero)=some (.agg HG.toArray):=by kernel_rfl
theorem GB:(Tryz.prog.info? 192).bind (·.zero)=some (.slice none 0 0):=by kernel_rfl
theorem zr9:(Tryz.prog.info? 9).bind (·.zero)=some (.string ⟨#[]⟩):=by kernel_rfl
theorem sz9:(Tryz.prog.info? 9).map (·.size)=some 1:=by kernel_rfl
theorem GC:(Tryz.prog.info? 258).bind (·.zero)=some (.nilFunc):=by kernel_rfl
theorem GD:(Tryz.prog.info? 258).map (·.size)=some 1:=by kernel_rfl
abbrev Nk:=Tryz.underlying258
theorem Gd:(Tryz.prog.info? 97).bind (·.zero)=some (.agg FY.toArray):=by kernel_rfl
theorem hU:(Tryz.prog.info? 97).map (·.size)=some 7:=by kernel_rfl
abbrev U97:=Tryz.underlying97
theorem CP:∀ (w:World) (q:Addr),(Instr.fieldAt 97 (.pointer (some q)) 3).run Tryz.prog w= .ok (.pointer (some (q.add 3))) w:=fun w q=>by kernel_rfl
theorem CQ:∀ (w:World) (q:Addr),(Instr.fieldAt 97 (.pointer (some q)) 5).run Tryz.prog w= .ok (.pointer (some (q.add 5))) w:=fun w q=>by kernel_rfl
theorem sz2:(Tryz.prog.info? 2).map (·.size)=some 1:=by kernel_rfl
theorem CR:∀ (w:World) (q:Addr),(Instr.fieldAt 97 (.pointer (some q)) 6).run Tryz.prog w= .ok (.pointer (some (q.add 6))) w:=fun w q=>by kernel_rfl
theorem sz4:(Tryz.prog.info? 4).map (·.size)=some 1:=by kernel_rfl
abbrev Nl:=Tryz.underlying192
theorem GE:(Tryz.prog.info? 97).map (fun i=>(i.zero,i.size,i.bytes))=some (some (.agg #[.int .i64 0,.string ⟨#[]⟩,.string ⟨#[]⟩,.string ⟨#[]⟩,.int .i64 0,.int .i64 0,.bool false]),7,80):=by kernel_rfl
theorem GF:(Tryz.prog.info? 192).map (·.size)=some 1:=by kernel_rfl
theorem CS:∀ (w:World) (q:Addr),(Instr.fieldAt 97 (.pointer (some q)) 4).run Tryz.prog w= .ok (.pointer (some (q.add 4))) w:=fun w q=>by kernel_rfl
abbrev U26:=Tryz.underlying26
theorem GG:(Tryz.prog.info? 99).map (fun i=>(i.zero,i.size,i.bytes))=some (some (.agg #[.int .i64 0,.int .i64 0,.string ⟨#[]⟩,.string ⟨#[]⟩,.string ⟨#[]⟩,.int .i64 0,.int .i64 0,.bool false]),8,88):=by kernel_rfl
theorem tI:(Tryz.prog.info? 48).bind (·.zero)=some (.agg dC.toArray):=by kernel_rfl
theorem GH:(Tryz.prog.info? 101).bind (·.zero)=some (.agg #[.nilFunc,.nilFunc,.nilFunc,.nilFunc,.nilFunc,.nilFunc,.nilFunc,.nilFunc,.nilFunc,.nilFunc,.nilFunc]):=by kernel_rfl
theorem GI:(Tryz.prog.info? 101).map (·.size)=some 11:=by kernel_rfl
abbrev U37:=Tryz.underlying37
theorem M5:(Tryz.prog.info? 37).map (·.size)=some 16:=by kernel_rfl
theorem Tx:∀ (w:World) (q:Addr),(Instr.fieldAt 37 (.pointer (some q)) 5).run Tryz.prog w= .ok (.pointer (some (q.add 5))) w:=fun w q=>by kernel_rfl
theorem C5:(Tryz.prog.info? 99).map (·.size)=some 8:=by kernel_rfl
abbrev U99:=Tryz.underlying99
theorem Rz:(Tryz.prog.info? 99).bind (·.zero)=some (.agg FJ.toArray):=by kernel_rfl
theorem CT:∀ (w:World) (q:Addr),(Instr.fieldAt 99 (.pointer (some q)) 0).run Tryz.prog w= .ok (.pointer (some (q.add 0))) w:=fun w q=>by kernel_rfl
theorem Ty:∀ (w:World) (q:Addr),(Instr.fieldAt 99 (.pointer (some q)) 1).run Tryz.prog w= .ok (.pointer (some (q.add 1))) w:=fun w q=>by kernel_rfl
theorem CU:∀ (w:World) (q:Addr),(Instr.fieldAt 97 (.pointer (some q)) 2).run Tryz.prog w= .ok (.pointer (some (q.add 2))) w:=fun w q=>by kernel_rfl
theorem CV:∀ (w:World) (q:Addr),(Instr.fieldAt 97 (.pointer (some q)) 0).run Tryz.prog w= .ok (.pointer (some (q.add 0))) w:=fun w q=>by kernel_rfl
theorem CW:∀ (w:World) (q:Addr),(Instr.fieldAt 97 (.pointer (some q)) 1).run Tryz.prog w= .ok (.pointer (some (q.add 1))) w:=fun w q=>by kernel_rfl
theorem Zj:∀ (w:World) (q:Addr),(Instr.fieldAt 37 (.pointer (some q)) 10).run Tryz.prog w= .ok (.pointer (some (q.add 11))) w:=fun w q=>by kernel_rfl
theorem Tz:∀ (w:World) (q:Addr),(Instr.fieldAt 37 (.pointer (some q)) 6).run Tryz.prog w= .ok (.pointer (some (q.add 6))) w:=fun w q=>by kernel_rfl
theorem CX:∀ (w:World) (q:Addr),(Instr.fieldAt 37 (.pointer (some q)) 0).run Tryz.prog w= .ok (.pointer (some (q.add 0))) w:=fun w q=>by kernel_rfl
theorem CY:∀ (w:World) (q:Addr),(Instr.fieldAt 37 (.pointer (some q)) 8).run Tryz.prog w= .ok (.pointer (some (q.add 8))) w:=fun w q=>by kernel_rfl
theorem Ua:∀ (w:World) (q:Addr),(Instr.fieldAt 37 (.pointer (some q)) 1).run Tryz.prog w= .ok (.pointer (some (q.add 1))) w:=fun w q=>by kernel_rfl
theorem Hr:∀ (w:World) (q:Addr),(Instr.fieldAt 37 (.pointer (some q)) 2).run Tryz.prog w= .ok (.pointer (some (q.add 2))) w:=fun w q=>by kernel_rfl
theorem CZ:∀ (w:World) (q:Addr),(Instr.fieldAt 37 (.pointer (some q)) 3).run Tryz.prog w= .ok (.pointer (some (q.add 3))) w:=fun w q=>by kernel_rfl
theorem DA:∀ (w:World) (q:Addr),(Instr.fieldAt 37 (.pointer (some q)) 7).run Tryz.prog w= .ok (.pointer (some (q.add 7))) w:=fun w q=>by kernel_rfl
theorem Zk:∀ (w:World) (q:Addr),(Instr.fieldAt 37 (.pointer (some q)) 11).run Tryz.prog w= .ok (.pointer (some (q.add 12))) w:=fun w q=>by kernel_rfl
theorem Ub:∀ (w:World) (q:Addr),(Instr.fieldAt 35 (.pointer (some q)) 0).run Tryz.prog w= .ok (.pointer (some (q.add 0))) w:=fun w q=>by kernel_rfl
theorem Uc:∀ (w:World) (q:Addr),(Instr.fieldAt 35 (.pointer (some q)) 1).run Tryz.prog w= .ok (.pointer (some (q.add 1))) w:=fun w q=>by kernel_rfl
abbrev U46:=Tryz.underlying46
theorem DB:∀ (w:World) (q:Addr),(Instr.fieldAt 35 (.pointer (some q)) 2).run Tryz.prog w= .ok (.pointer (some (q.add 2))) w:=fun w q=>by kernel_rfl
theorem DC:∀ (w:World) (q:Addr),(Instr.fieldAt 37 (.pointer (some q)) 9).run Tryz.prog w= .ok (.pointer (some (q.add 9))) w:=fun w q=>by kernel_rfl
theorem cV:(Tryz.prog.info? 48).map (·.size)=some 10:=by kernel_rfl
abbrev U48:=Tryz.underlying48
abbrev Nm:=Tryz.underlying101
theorem Hs:(Tryz.prog.info? 100).map (·.size)=some 1:=by kernel_rfl
abbrev Nn:=Tryz.underlying100
theorem Ud:∀ (w:World) (q:Addr),(Instr.fieldAt 87 (.pointer (some q)) 4).run Tryz.prog w= .ok (.pointer (some (q.add 6))) w:=fun w q=>by kernel_rfl
abbrev U84:=Tryz.underlying84
theorem Ht:(Tryz.prog.info? 48).bind (·.zero)=some (.agg [.int .i64 0,.int .i64 0,.bool false,.int .i64 0,.slice none 0 0,.slice none 0 0,.slice none 0 0,.slice none 0 0,.slice none 0 0,.slice none 0 0].toArray):=by kernel_rfl
theorem Np:∀ (w:World) (ok:Nat→Prop),bY.R w ok zJ [.int .i64 0,.int .i64 0,.bool false,.int .i64 0,.slice none 0 0,.slice none 0 0,.slice none 0 0,.slice none 0 0,.slice none 0 0,.slice none 0 0]:=fun w ok=>yU (Sl.nil _ _ _) (Sl.nil _ _ _) (Sl.nil _ _ _) (Sl.nil _ _ _) (Sl.nil _ _ _) (Sl.nil _ _ _)
theorem xZ:Tryz.prog.follows .mixedOrders=true:=by kernel_rfl
theorem DD:∀ (w:World) (q:Addr),(Instr.fieldAt 87 (.pointer (some q)) 3).run Tryz.prog w= .ok (.pointer (some (q.add 4))) w:=fun w q=>by kernel_rfl
abbrev U73:=Tryz.underlying73
theorem Q7:(Tryz.prog.info? 73).map (·.size)=some 2:=by kernel_rfl
theorem DE:(Tryz.prog.info? 73).bind (·.zero)=some (.agg #[.slice none 0 0,.slice none 0 0]):=by kernel_rfl
theorem DF:∀ (w:World) (q:Addr),(Instr.fieldAt 73 (.pointer (some q)) 0).run Tryz.prog w= .ok (.pointer (some (q.add 0))) w:=fun w q=>by kernel_rfl
abbrev U70:=Tryz.underlying70
theorem yD:(Tryz.prog.info? 35).map (·.size)=some 4:=by kernel_rfl
abbrev U35:=Tryz.underlying35
theorem DG:(Tryz.prog.info? 35).bind (·.zero)=some (.agg FI.toArray):=by kernel_rfl
theorem Nq:(Tryz.prog.info? 3).bind (·.zero)=some (.int .i64 0):=by kernel_rfl
abbrev HI:=Tryz.underlying294
theorem V4:vM Tryz.prog 294 y5:=Wl (Maps.Keyed.of_law (deep_law_laid (by kernel_rfl) (m:=3) (by omega) (of_decide_eq_true (by kernel_rfl)) (by kernel_rfl) (by kernel_rfl))) HI U2 U2 (by kernel_rfl) ⟨by kernel_rfl,by kernel_rfl,by kernel_rfl,rfl,rfl⟩ (by kernel_rfl) (by kernel_rfl)
abbrev Ge:=Tryz.underlying292
theorem DH:∀ (w:World) (q:Addr),(Instr.fieldAt 73 (.pointer (some q)) 1).run Tryz.prog w= .ok (.pointer (some (q.add 1))) w:=fun w q=>by kernel_rfl
abbrev U71:=Tryz.underlying71
theorem G2:(Tryz.prog.info? 126).map (·.size)=some 3:=by kernel_rfl
theorem Zl:∀ (w:World) (q:Addr),(Instr.fieldAt 126 (.pointer (some q)) 0).run Tryz.prog w= .ok (.pointer (some (q.add 0))) w:=fun w q=>by kernel_rfl
abbrev HJ:=Tryz.underlying236
abbrev Sa:=Tryz.underlying126
abbrev HK:=Tryz.underlying124
theorem Zm:∀ (w:World) (q:Addr),(Instr.fieldAt 126 (.pointer (some q)) 1).run Tryz.prog w= .ok (.pointer (some (q.add 1))) w:=fun w q=>by kernel_rfl
theorem Qn:∀ (w:World) (q:Addr),(Instr.fieldAt 126 (.pointer (some q)) 2).run Tryz.prog w= .ok (.pointer (some (q.add 2))) w:=fun w q=>by kernel_rfl
abbrev U44:=Tryz.underlying44
theorem Hu:(Tryz.prog.info? 131).map (·.size)=some 4:=by kernel_rfl
abbrev DI:=Tryz.underlying131
theorem Yf:(Tryz.prog.info? 131).bind (·.zero)=some (.agg FH.toArray):=by kernel_rfl
theorem Zn:∀ (w:World) (q:Addr),(Instr.fieldAt 131 (.pointer (some q)) 0).run Tryz.prog w= .ok (.pointer (some (q.add 0))) w:=fun w q=>by kernel_rfl
theorem Zo:∀ (w:World) (q:Addr),(Instr.fieldAt 131 (.pointer (some q)) 1).run Tryz.prog w= .ok (.pointer (some (q.add 1))) w:=fun w q=>by kernel_rfl
theorem Zp:∀ (w:World) (q:Addr),(Instr.fieldAt 131 (.pointer (some q)) 2).run Tryz.prog w= .ok (.pointer (some (q.add 2))) w:=fun w q=>by kernel_rfl
theorem Zq:∀ (w:World) (q:Addr),(Instr.fieldAt 131 (.pointer (some q)) 3).run Tryz.prog w= .ok (.pointer (some (q.add 3))) w:=fun w q=>by kernel_rfl
theorem DJ:(Tryz.prog.info? 126).map (fun i=>(i.zero,i.size,i.bytes))=some (some (.agg #[.int .i64 0,.int .i64 0,.slice none 0 0]),3,40):=by kernel_rfl
theorem vK{w:World}{os:List Ob}{rs:List Rp}{v:Value}{xs:List aH}(H:Sep w os rs)(hm:rSl aN v xs ∈ rs)(hl:xs.length ≤ LIM) :
    Calls Tryz.prog 75 [v].toArray w (Ret fun v' w'=>Sep w' (Row 126 aN v' xs::os) rs):=by
  obtain ⟨b,c,rfl⟩:=H.slform hm
  refine enter Tryz.func75 rfl Tryz.ntmps75 rfl fun a E=>?_
  simp only [y3,Nat.reduceAdd] at E
  refine wp_seq ?_
  refine wp_region_lit ?_
  refine bT E (wn rfl) rfl rfl (dB E rfl rfl) ?_
  clear E;clear a;intro a E
  refine wpList_nil ?_
  refine aA ?_
  refine wp_seq ?_
  refine wp_seq ?_
  refine wp_region_lit ?_
  refine bT E (wn rfl) rfl rfl (bS E rfl rfl) ?_
  clear E;clear a;intro a E
  refine bT E (wn rfl) rfl rfl (E6 E rfl rfl rfl Tryz.underlying71) ?_
  clear E;clear a;intro a E
  refine wpList_nil ?_
  refine aA ?_
  refine vL E rfl ?_ ?_
  · intro hb
    cases b with
    | some _=>cases hb
    | none=>
      obtain rfl:=H.sl_none hm
      refine wp_seq ?_
      refine wp_region_lit ?_
      refine bT E (wn rfl) rfl rfl (dB E rfl rfl) ?_
      clear E;clear a;intro a E
      refine wpList_nil ?_
      refine aA ?_
      refine wp_ret ?_
      refine aG ?_
      refine tF E rfl rfl ?_
      exact H.nilRow 126 aN
  · intro hb
    refine wp_skip ?_
    refine aA ?_
    refine wp_seq ?_
    refine wp_region_lit ?_
    refine gU (e:=126) (d:=aN) (cs:=[]) (xs:=[]) E H (wn rfl) rfl rfl (ps:=[]) (parts:=[]) rfl rfl (by kernel_rfl) rfl rfl (fun ok hr=>Rows.nil _ _ _) ?_
    clear E H;clear a;clear w;intro v2 w a H E
    refine bT E (wn rfl) rfl rfl (bS E rfl rfl) ?_
    clear E;clear a;intro a E
    refine cO (i:=0) E H (wn rfl) rfl rfl rfl rfl rfl rfl (fA hm) Tryz.underlying71 DJ rfl (by simpa using hl) rfl ?_
    clear E H;clear a;clear w;intro v3 w a H E
    refine bT E (wn rfl) rfl rfl (dB E rfl rfl) ?_
    clear E;clear a;intro a E
    refine wpList_nil ?_
    refine aA ?_
    refine wp_ret ?_
    refine tF E rfl rfl ?_
    exact H

theorem DK:(Tryz.prog.info? 71).map (·.size)=some 1:=by kernel_rfl
theorem Hv:(Tryz.prog.info? 131).map (fun i=>(i.zero,i.size,i.bytes))=some (some (.agg #[.int .i64 0,.int .i64 0,.string ⟨#[]⟩,.int .i64 0]),4,40):=by kernel_rfl
theorem jN{w:World}{os:List Ob}{rs:List Rp}{v:Value}{xs:List cE}(H:Sep w os rs)(hm:rSl aT v xs ∈ rs)(hl:xs.length ≤ LIM) :
    Calls Tryz.prog 76 [v].toArray w (Ret fun v' w'=>Sep w' (Row 131 aT v' xs::os) rs):=by
  obtain ⟨b,c,rfl⟩:=H.slform hm
  refine enter Tryz.func76 rfl Tryz.ntmps76 rfl fun a E=>?_
  simp only [y3,Nat.reduceAdd] at E
  refine wp_seq ?_
  refine wp_region_lit ?_
  refine bT E (wn rfl) rfl rfl (dB E rfl rfl) ?_
  clear E;clear a;intro a E
  refine wpList_nil ?_
  refine aA ?_
  refine wp_seq ?_
  refine wp_seq ?_
  refine wp_region_lit ?_
  refine bT E (wn rfl) rfl rfl (bS E rfl rfl) ?_
  clear E;clear a;intro a E
  refine bT E (wn rfl) rfl rfl (E6 E rfl rfl rfl Tryz.underlying44) ?_
  clear E;clear a;intro a E
  refine wpList_nil ?_
  refine aA ?_
  refine vL E rfl ?_ ?_
  · intro hb
    cases b with
    | some _=>cases hb
    | none=>
      obtain rfl:=H.sl_none hm
      refine wp_seq ?_
      refine wp_region_lit ?_
      refine bT E (wn rfl) rfl rfl (dB E rfl rfl) ?_
      clear E;clear a;intro a E
      refine wpList_nil ?_
      refine aA ?_
      refine wp_ret ?_
      refine aG ?_
      refine tF E rfl rfl ?_
      exact H.nilRow 131 aT
  · intro hb
    refine wp_skip ?_
    refine aA ?_
    refine wp_seq ?_
    refine wp_region_lit ?_
    refine gU (e:=131) (d:=aT) (cs:=[]) (xs:=[]) E H (wn rfl) rfl rfl (ps:=[]) (parts:=[]) rfl rfl (by kernel_rfl) rfl rfl (fun ok hr=>Rows.nil _ _ _) ?_
    clear E H;clear a;clear w;intro v2 w a H E
    refine bT E (wn rfl) rfl rfl (bS E rfl rfl) ?_
    clear E;clear a;intro a E
    refine cO (i:=0) E H (wn rfl) rfl rfl rfl rfl rfl rfl (fA hm) Tryz.underlying44 Hv rfl (by simpa using hl) rfl ?_
    clear E H;clear a;clear w;intro v3 w a H E
    refine bT E (wn rfl) rfl rfl (dB E rfl rfl) ?_
    clear E;clear a;intro a E
    refine wpList_nil ?_
    refine aA ?_
    refine wp_ret ?_
    refine tF E rfl rfl ?_
    exact H

theorem Wq:(Tryz.prog.info? 44).map (·.size)=some 1:=by kernel_rfl
theorem DL:∀ (w:World) (q:Addr),(Instr.fieldAt 48 (.pointer (some q)) 0).run Tryz.prog w= .ok (.pointer (some (q.add 0))) w:=fun w q=>by kernel_rfl
abbrev U41:=Tryz.underlying41
theorem GJ:(Tryz.prog.info? 35).map (fun i=>(i.zero,i.size,i.bytes))=some (some (.agg #[.int .i64 0,.int .i64 0,.string ⟨#[]⟩,.bool false]),4,40):=by kernel_rfl
theorem xO{w:World}{os:List Ob}{rs:List Rp}{v:Value}{xs:List aP}(H:Sep w os rs)(hm:rSl bB v xs ∈ rs)(hl:xs.length ≤ LIM) :
    Calls Tryz.prog 74 [v].toArray w (Ret fun v' w'=>Sep w' (Row 35 bB v' xs::os) rs):=by
  obtain ⟨b,c,rfl⟩:=H.slform hm
  refine enter Tryz.func74 rfl Tryz.ntmps74 rfl fun a E=>?_
  simp only [y3,Nat.reduceAdd] at E
  refine wp_seq ?_
  refine wp_region_lit ?_
  refine bT E (wn rfl) rfl rfl (dB E rfl rfl) ?_
  clear E;clear a;intro a E
  refine wpList_nil ?_
  refine aA ?_
  refine wp_seq ?_
  refine wp_seq ?_
  refine wp_region_lit ?_
  refine bT E (wn rfl) rfl rfl (bS E rfl rfl) ?_
  clear E;clear a;intro a E
  refine bT E (wn rfl) rfl rfl (E6 E rfl rfl rfl Tryz.underlying70) ?_
  clear E;clear a;intro a E
  refine wpList_nil ?_
  refine aA ?_
  refine vL E rfl ?_ ?_
  · intro hb
    cases b with
    | some _=>cases hb
    | none=>
      obtain rfl:=H.sl_none hm
      refine wp_seq ?_
      refine wp_region_lit ?_
      refine bT E (wn rfl) rfl rfl (dB E rfl rfl) ?_
      clear E;clear a;intro a E
      refine wpList_nil ?_
      refine aA ?_
      refine wp_ret ?_
      refine aG ?_
      refine tF E rfl rfl ?_
      exact H.nilRow 35 bB
  · intro hb
    refine wp_skip ?_
    refine aA ?_
    refine wp_seq ?_
    refine wp_region_lit ?_
    refine gU (e:=35) (d:=bB) (cs:=[]) (xs:=[]) E H (wn rfl) rfl rfl (ps:=[]) (parts:=[]) rfl rfl (by kernel_rfl) rfl rfl (fun ok hr=>Rows.nil _ _ _) ?_
    clear E H;clear a;clear w;intro v2 w a H E
    refine bT E (wn rfl) rfl rfl (bS E rfl rfl) ?_
    clear E;clear a;intro a E
    refine cO (i:=0) E H (wn rfl) rfl rfl rfl rfl rfl rfl (fA hm) Tryz.underlying70 GJ rfl (by simpa using hl) rfl ?_
    clear E H;clear a;clear w;intro v3 w a H E
    refine bT E (wn rfl) rfl rfl (dB E rfl rfl) ?_
    clear E;clear a;intro a E
    refine wpList_nil ?_
    refine aA ?_
    refine wp_ret ?_
    refine tF E rfl rfl ?_
    exact H

theorem HL:(Tryz.prog.info? 70).map (·.size)=some 1:=by kernel_rfl
abbrev U28:=Tryz.underlying28
theorem DM:∀ (w:World) (q:Addr),(Instr.fieldAt 87 (.pointer (some q)) 2).run Tryz.prog w= .ok (.pointer (some (q.add 3))) w:=fun w q=>by kernel_rfl
abbrev U58:=Tryz.underlying58
theorem pG:(Tryz.prog.info? 78).map (·.size)=some 3:=by kernel_rfl
abbrev U78:=Tryz.underlying78
theorem DN:∀ (w:World) (q:Addr),(Instr.fieldAt 78 (.pointer (some q)) 0).run Tryz.prog w= .ok (.pointer (some (q.add 0))) w:=fun w q=>by kernel_rfl
theorem DO:∀ (w:World) (q:Addr),(Instr.fieldAt 78 (.pointer (some q)) 1).run Tryz.prog w= .ok (.pointer (some (q.add 1))) w:=fun w q=>by kernel_rfl
theorem Ue:∀ (w:World) (q:Addr),(Instr.fieldAt 87 (.pointer (some q)) 1).run Tryz.prog w= .ok (.pointer (some (q.add 2))) w:=fun w q=>by kernel_rfl
theorem Nr:∀ (w:World) (q:Addr),(Instr.fieldAt 87 (.pointer (some q)) 0).run Tryz.prog w= .ok (.pointer (some (q.add 0))) w:=fun w q=>by kernel_rfl
theorem lT:(Tryz.prog.info? 25).bind (·.zero)=some (.agg #[.slice none 0 0,.slice none 0 0]):=by kernel_rfl
theorem Q8:(Tryz.prog.info? 93).bind (·.zero)=some (.agg gV.toArray):=by kernel_rfl
theorem GK:(Tryz.prog.info? 183).bind (·.zero)=some (.agg #[.nilFunc,.nilFunc,.nilFunc,.nilFunc,.nilFunc,.nilFunc,.nilFunc,.nilFunc,.nilFunc,.nilFunc,.nilFunc]):=by kernel_rfl
theorem GL:(Tryz.prog.info? 183).map (·.size)=some 11:=by kernel_rfl
theorem eH:(Tryz.prog.info? 93).map (·.size)=some 5:=by kernel_rfl
theorem I1:(Tryz.prog.info? 107).map (fun i=>(i.zero,i.size,i.bytes))=some (some (.agg #[.string ⟨#[]⟩,.string ⟨#[]⟩,.int .i64 0,.int .i64 0,.int .i64 0]),5,56):=by kernel_rfl
theorem rD{w:World}{os:List Ob}{rs:List Rp}{v:Value}{xs:List aD}(H:Sep w os rs)(hm:rSl aB v xs ∈ rs)(hl:xs.length ≤ LIM) :
    Calls Tryz.prog 56 [v].toArray w (Ret fun v' w'=>Sep w' (Row 107 aB v' xs::os) rs):=by
  obtain ⟨b,c,rfl⟩:=H.slform hm
  refine enter Tryz.func56 rfl Tryz.ntmps56 rfl fun a E=>?_
  simp only [y3,Nat.reduceAdd] at E
  refine wp_seq ?_
  refine wp_region_lit ?_
  refine bT E (wn rfl) rfl rfl (dB E rfl rfl) ?_
  clear E;clear a;intro a E
  refine wpList_nil ?_
  refine aA ?_
  refine wp_seq ?_
  refine wp_seq ?_
  refine wp_region_lit ?_
  refine bT E (wn rfl) rfl rfl (bS E rfl rfl) ?_
  clear E;clear a;intro a E
  refine bT E (wn rfl) rfl rfl (E6 E rfl rfl rfl Tryz.underlying22) ?_
  clear E;clear a;intro a E
  refine wpList_nil ?_
  refine aA ?_
  refine vL E rfl ?_ ?_
  · intro hb
    cases b with
    | some _=>cases hb
    | none=>
      obtain rfl:=H.sl_none hm
      refine wp_seq ?_
      refine wp_region_lit ?_
      refine bT E (wn rfl) rfl rfl (dB E rfl rfl) ?_
      clear E;clear a;intro a E
      refine wpList_nil ?_
      refine aA ?_
      refine wp_ret ?_
      refine aG ?_
      refine tF E rfl rfl ?_
      exact H.nilRow 107 aB
  · intro hb
    refine wp_skip ?_
    refine aA ?_
    refine wp_seq ?_
    refine wp_region_lit ?_
    refine gU (e:=107) (d:=aB) (cs:=[]) (xs:=[]) E H (wn rfl) rfl rfl (ps:=[]) (parts:=[]) rfl rfl (by kernel_rfl) rfl rfl (fun ok hr=>Rows.nil _ _ _) ?_
    clear E H;clear a;clear w;intro v2 w a H E
    refine bT E (wn rfl) rfl rfl (bS E rfl rfl) ?_
    clear E;clear a;intro a E
    refine cO (i:=0) E H (wn rfl) rfl rfl rfl rfl rfl rfl (fA hm) Tryz.underlying22 I1 rfl (by simpa using hl) rfl ?_
    clear E H;clear a;clear w;intro v3 w a H E
    refine bT E (wn rfl) rfl rfl (dB E rfl rfl) ?_
    clear E;clear a;intro a E
    refine wpList_nil ?_
    refine aA ?_
    refine wp_ret ?_
    refine tF E rfl rfl ?_
    exact H

theorem Dm:(Tryz.prog.info? 89).map (fun i=>(i.zero,i.size,i.bytes))=some (some (.agg #[.string ⟨#[]⟩,.int .i64 0]),2,24):=by kernel_rfl
theorem rE{w:World}{os:List Ob}{rs:List Rp}{v:Value}{xs:List aJ}(H:Sep w os rs)(hm:rSl aC v xs ∈ rs)(hl:xs.length ≤ LIM) :
    Calls Tryz.prog 57 [v].toArray w (Ret fun v' w'=>Sep w' (Row 89 aC v' xs::os) rs):=by
  obtain ⟨b,c,rfl⟩:=H.slform hm
  refine enter Tryz.func57 rfl Tryz.ntmps57 rfl fun a E=>?_
  simp only [y3,Nat.reduceAdd] at E
  refine wp_seq ?_
  refine wp_region_lit ?_
  refine bT E (wn rfl) rfl rfl (dB E rfl rfl) ?_
  clear E;clear a;intro a E
  refine wpList_nil ?_
  refine aA ?_
  refine wp_seq ?_
  refine wp_seq ?_
  refine wp_region_lit ?_
  refine bT E (wn rfl) rfl rfl (bS E rfl rfl) ?_
  clear E;clear a;intro a E
  refine bT E (wn rfl) rfl rfl (E6 E rfl rfl rfl Tryz.underlying23) ?_
  clear E;clear a;intro a E
  refine wpList_nil ?_
  refine aA ?_
  refine vL E rfl ?_ ?_
  · intro hb
    cases b with
    | some _=>cases hb
    | none=>
      obtain rfl:=H.sl_none hm
      refine wp_seq ?_
      refine wp_region_lit ?_
      refine bT E (wn rfl) rfl rfl (dB E rfl rfl) ?_
      clear E;clear a;intro a E
      refine wpList_nil ?_
      refine aA ?_
      refine wp_ret ?_
      refine aG ?_
      refine tF E rfl rfl ?_
      exact H.nilRow 89 aC
  · intro hb
    refine wp_skip ?_
    refine aA ?_
    refine wp_seq ?_
    refine wp_region_lit ?_
    refine gU (e:=89) (d:=aC) (cs:=[]) (xs:=[]) E H (wn rfl) rfl rfl (ps:=[]) (parts:=[]) rfl rfl (by kernel_rfl) rfl rfl (fun ok hr=>Rows.nil _ _ _) ?_
    clear E H;clear a;clear w;intro v2 w a H E
    refine bT E (wn rfl) rfl rfl (bS E rfl rfl) ?_
    clear E;clear a;intro a E
    refine cO (i:=0) E H (wn rfl) rfl rfl rfl rfl rfl rfl (fA hm) Tryz.underlying23 Dm rfl (by simpa using hl) rfl ?_
    clear E H;clear a;clear w;intro v3 w a H E
    refine bT E (wn rfl) rfl rfl (dB E rfl rfl) ?_
    clear E;clear a;intro a E
    refine wpList_nil ?_
    refine aA ?_
    refine wp_ret ?_
    refine tF E rfl rfl ?_
    exact H

abbrev Q9:=Tryz.underlying183
theorem G3:(Tryz.prog.info? 180).map (·.size)=some 1:=by kernel_rfl
abbrev R1:=Tryz.underlying180
theorem GM:(Tryz.prog.info? 121).bind (·.zero)=some (.nilFunc):=by kernel_rfl
theorem GN:(Tryz.prog.info? 121).map (·.size)=some 1:=by kernel_rfl
abbrev Sb:=Tryz.underlying182
theorem Zr:∀ (w:World) (q:Addr),(Instr.fieldAt 185 (.pointer (some q)) 0).run Tryz.prog w= .ok (.pointer (some (q.add 0))) w:=fun w q=>by kernel_rfl
abbrev HM:=Tryz.underlying121
theorem Zs:∀ (w:World) (q:Addr),(Instr.fieldAt 185 (.pointer (some q)) 1).run Tryz.prog w= .ok (.pointer (some (q.add 2))) w:=fun w q=>by kernel_rfl
theorem DP:∀ (w:World) (q:Addr),(Instr.fieldAt 93 (.pointer (some q)) 4).run Tryz.prog w= .ok (.pointer (some (q.add 4))) w:=fun w q=>by kernel_rfl
theorem DQ:(Tryz.prog.info? 33).map (·.size)=some 1:=by kernel_rfl
theorem Dn:(Tryz.prog.info? 107).bind (·.zero)=some (.agg Hk.toArray):=by kernel_rfl
theorem DS:(Tryz.prog.info? 107).bind (·.zero)=some (.agg #[.string ⟨#[]⟩,.string ⟨#[]⟩,.int .i64 0,.int .i64 0,.int .i64 0]):=by kernel_rfl
theorem Bz:(Tryz.prog.info? 22).map (·.size)=some 1:=by kernel_rfl
theorem DT:∀ (w:World) (s t:ByteArray),(callFunc 255 #[.string s,.string t]).run Tryz.prog w= .ok (.value (.int .i64 (Extern.BytealgCompare.cmp s t))) w:=fun w s t=>Mv Tryz.func255 (by kernel_rfl) (by kernel_rfl) (by kernel_rfl) (e:=Extern.BytealgCompare.compare) (by kernel_rfl) (Vz s t w)
theorem Hw:∀ (w:World) (q:Addr),(Op.equal 244 (.pointer (some q)) (.pointer none)).run Tryz.prog w= .ok false w:=fun w q=>by kernel_rfl
theorem Hx:∀ w:World,(Op.equal 244 (.pointer none) (.pointer none)).run Tryz.prog w= .ok true w:=fun w=>by kernel_rfl
theorem DU:∀ (w:World) (q:Addr),(Instr.fieldAt 93 (.pointer (some q)) 2).run Tryz.prog w= .ok (.pointer (some (q.add 2))) w:=fun w q=>by kernel_rfl
theorem DV:∀ (w:World) (q:Addr),(Instr.fieldAt 93 (.pointer (some q)) 3).run Tryz.prog w= .ok (.pointer (some (q.add 3))) w:=fun w q=>by kernel_rfl
theorem Z6:(Tryz.prog.info? 23).map (·.size)=some 1:=by kernel_rfl
theorem DW:∀ (w:World) (q:Addr),(Instr.fieldAt 93 (.pointer (some q)) 1).run Tryz.prog w= .ok (.pointer (some (q.add 1))) w:=fun w q=>by kernel_rfl
theorem DX:∀ (w:World) (q:Addr),(Instr.fieldAt 93 (.pointer (some q)) 0).run Tryz.prog w= .ok (.pointer (some (q.add 0))) w:=fun w q=>by kernel_rfl
abbrev U93:=Tryz.underlying93
abbrev U40:=Tryz.underlying40
theorem Yg:(Tryz.prog.info? 93).map (fun i=>(i.zero,i.size,i.bytes))=some (some (.agg #[.int .i64 0,.string ⟨#[]⟩,.string ⟨#[]⟩,.int .i64 0,.slice none 0 0]),5,72):=by kernel_rfl
theorem DY:∀ (w:World) (q:Addr),(Instr.fieldAt 35 (.pointer (some q)) 3).run Tryz.prog w= .ok (.pointer (some (q.add 3))) w:=fun w q=>by kernel_rfl
theorem GO:(Tryz.prog.info? 35).bind (·.zero)=some (.agg #[.int .i64 0,.int .i64 0,.string ⟨#[]⟩,.bool false]):=by kernel_rfl
theorem GP:(Tryz.prog.info? 31).map (fun i=>(i.zero,i.size,i.bytes))=some (some (.agg #[.string ⟨#[]⟩,.int .i64 0,.int .i64 0]),3,32):=by kernel_rfl
theorem qC{w:World}{os:List Ob}{rs:List Rp}{v:Value}{xs:List aI}(H:Sep w os rs)(hm:rSl aR v xs ∈ rs)(hl:xs.length ≤ LIM) :
    Calls Tryz.prog 66 [v].toArray w (Ret fun v' w'=>Sep w' (Row 31 aR v' xs::os) rs):=by
  obtain ⟨b,c,rfl⟩:=H.slform hm
  refine enter Tryz.func66 rfl Tryz.ntmps66 rfl fun a E=>?_
  simp only [y3,Nat.reduceAdd] at E
  refine wp_seq ?_
  refine wp_region_lit ?_
  refine bT E (wn rfl) rfl rfl (dB E rfl rfl) ?_
  clear E;clear a;intro a E
  refine wpList_nil ?_
  refine aA ?_
  refine wp_seq ?_
  refine wp_seq ?_
  refine wp_region_lit ?_
  refine bT E (wn rfl) rfl rfl (bS E rfl rfl) ?_
  clear E;clear a;intro a E
  refine bT E (wn rfl) rfl rfl (E6 E rfl rfl rfl Tryz.underlying32) ?_
  clear E;clear a;intro a E
  refine wpList_nil ?_
  refine aA ?_
  refine vL E rfl ?_ ?_
  · intro hb
    cases b with
    | some _=>cases hb
    | none=>
      obtain rfl:=H.sl_none hm
      refine wp_seq ?_
      refine wp_region_lit ?_
      refine bT E (wn rfl) rfl rfl (dB E rfl rfl) ?_
      clear E;clear a;intro a E
      refine wpList_nil ?_
      refine aA ?_
      refine wp_ret ?_
      refine aG ?_
      refine tF E rfl rfl ?_
      exact H.nilRow 31 aR
  · intro hb
    refine wp_skip ?_
    refine aA ?_
    refine wp_seq ?_
    refine wp_region_lit ?_
    refine gU (e:=31) (d:=aR) (cs:=[]) (xs:=[]) E H (wn rfl) rfl rfl (ps:=[]) (parts:=[]) rfl rfl (by kernel_rfl) rfl rfl (fun ok hr=>Rows.nil _ _ _) ?_
    clear E H;clear a;clear w;intro v2 w a H E
    refine bT E (wn rfl) rfl rfl (bS E rfl rfl) ?_
    clear E;clear a;intro a E
    refine cO (i:=0) E H (wn rfl) rfl rfl rfl rfl rfl rfl (fA hm) Tryz.underlying32 GP rfl (by simpa using hl) rfl ?_
    clear E H;clear a;clear w;intro v3 w a H E
    refine bT E (wn rfl) rfl rfl (dB E rfl rfl) ?_
    clear E;clear a;intro a E
    refine wpList_nil ?_
    refine aA ?_
    refine wp_ret ?_
    refine tF E rfl rfl ?_
    exact H

theorem GQ:(Tryz.prog.info? 122).bind (·.zero)=some (.nilFunc):=by kernel_rfl
theorem GR:(Tryz.prog.info? 122).map (·.size)=some 1:=by kernel_rfl
abbrev DZ:=Tryz.underlying122
theorem EA:(Tryz.prog.info? 89).bind (·.zero)=some (.agg #[.string (ByteArray.mk #[]),.int .i64 0]):=by kernel_rfl
theorem HN:(Tryz.prog.info? 32).map (·.size)=some 1:=by kernel_rfl
theorem Uf:∀ (w:World) (q:Addr),(Instr.fieldAt 87 (.pointer (some q)) 6).run Tryz.prog w= .ok (.pointer (some (q.add 8))) w:=fun w q=>by kernel_rfl
theorem EB:∀ (w:World) (q:Addr),(Instr.fieldAt 37 (.pointer (some q)) 4).run Tryz.prog w= .ok (.pointer (some (q.add 4))) w:=fun w q=>by kernel_rfl
theorem Ns:∀ (w:World) (q:Addr),(Instr.fieldAt 87 (.pointer (some q)) 5).run Tryz.prog w= .ok (.pointer (some (q.add 7))) w:=fun w q=>by kernel_rfl
abbrev U85:=Tryz.underlying85
theorem Hy:(Tryz.prog.info? 154).bind (·.zero)=some (.agg [.bool false,.slice none 0 0,.int .i64 0,.int .i64 0,.bool false,.int .i64 0,.slice none 0 0,.slice none 0 0,.slice none 0 0,.slice none 0 0,.slice none 0 0,.slice none 0 0].toArray):=by kernel_rfl
theorem Md:∀ (w:World) (ok:Nat→Prop),cY.R w ok Q6 [.bool false,.slice none 0 0,.int .i64 0,.int .i64 0,.bool false,.int .i64 0,.slice none 0 0,.slice none 0 0,.slice none 0 0,.slice none 0 0,.slice none 0 0,.slice none 0 0]:=fun w ok=>E9 (Sl.nil _ _ _) (Sl.nil _ _ _) (Sl.nil _ _ _) (Sl.nil _ _ _) (Sl.nil _ _ _) (Sl.nil _ _ _) (Sl.nil _ _ _)
theorem Me:(Tryz.prog.info? 154).bind (·.zero)=some (.agg FK.toArray):=by kernel_rfl
theorem Mf:(Tryz.prog.info? 154).map (·.size)=some 12:=by kernel_rfl
theorem Zt:∀ (w:World) (q:Addr),(Instr.fieldAt 154 (.pointer (some q)) 0).run Tryz.prog w= .ok (.pointer (some (q.add 0))) w:=fun w q=>by kernel_rfl
theorem GS:(Tryz.prog.info? 78).map (fun i=>(i.zero,i.size,i.bytes))=some (some (.agg #[.string ⟨#[]⟩,.int .i64 0,.int .i64 0]),3,32):=by kernel_rfl
theorem kZ{w:World}{os:List Ob}{rs:List Rp}{v:Value}{xs:List aO}(H:Sep w os rs)(hm:rSl aV v xs ∈ rs)(hl:xs.length ≤ LIM) :
    Calls Tryz.prog 60 [v].toArray w (Ret fun v' w'=>Sep w' (Row 78 aV v' xs::os) rs):=by
  obtain ⟨b,c,rfl⟩:=H.slform hm
  refine enter Tryz.func60 rfl Tryz.ntmps60 rfl fun a E=>?_
  simp only [y3,Nat.reduceAdd] at E
  refine wp_seq ?_
  refine wp_region_lit ?_
  refine bT E (wn rfl) rfl rfl (dB E rfl rfl) ?_
  clear E;clear a;intro a E
  refine wpList_nil ?_
  refine aA ?_
  refine wp_seq ?_
  refine wp_seq ?_
  refine wp_region_lit ?_
  refine bT E (wn rfl) rfl rfl (bS E rfl rfl) ?_
  clear E;clear a;intro a E
  refine bT E (wn rfl) rfl rfl (E6 E rfl rfl rfl Tryz.underlying58) ?_
  clear E;clear a;intro a E
  refine wpList_nil ?_
  refine aA ?_
  refine vL E rfl ?_ ?_
  · intro hb
    cases b with
    | some _=>cases hb
    | none=>
      obtain rfl:=H.sl_none hm
      refine wp_seq ?_
      refine wp_region_lit ?_
      refine bT E (wn rfl) rfl rfl (dB E rfl rfl) ?_
      clear E;clear a;intro a E
      refine wpList_nil ?_
      refine aA ?_
      refine wp_ret ?_
      refine aG ?_
      refine tF E rfl rfl ?_
      exact H.nilRow 78 aV
  · intro hb
    refine wp_skip ?_
    refine aA ?_
    refine wp_seq ?_
    refine wp_region_lit ?_
    refine gU (e:=78) (d:=aV) (cs:=[]) (xs:=[]) E H (wn rfl) rfl rfl (ps:=[]) (parts:=[]) rfl rfl (by kernel_rfl) rfl rfl (fun ok hr=>Rows.nil _ _ _) ?_
    clear E H;clear a;clear w;intro v2 w a H E
    refine bT E (wn rfl) rfl rfl (bS E rfl rfl) ?_
    clear E;clear a;intro a E
    refine cO (i:=0) E H (wn rfl) rfl rfl rfl rfl rfl rfl (fA hm) Tryz.underlying58 GS rfl (by simpa using hl) rfl ?_
    clear E H;clear a;clear w;intro v3 w a H E
    refine bT E (wn rfl) rfl rfl (dB E rfl rfl) ?_
    clear E;clear a;intro a E
    refine wpList_nil ?_
    refine aA ?_
    refine wp_ret ?_
    refine tF E rfl rfl ?_
    exact H

theorem Wr:(Tryz.prog.info? 78).bind (·.zero)=some (.agg FX.toArray):=by kernel_rfl
theorem GT:(Tryz.prog.info? 78).bind (·.zero)=some (.agg #[.string ⟨#[]⟩,.int .i64 0,.int .i64 0]):=by kernel_rfl
theorem EC:(Tryz.prog.info? 58).map (·.size)=some 1:=by kernel_rfl
theorem Zu:∀ (w:World) (q:Addr),(Instr.fieldAt 154 (.pointer (some q)) 2).run Tryz.prog w= .ok (.pointer (some (q.add 2))) w:=fun w q=>by kernel_rfl
theorem ED:∀ (w:World) (q:Addr),(Instr.fieldAt 48 (.pointer (some q)) 2).run Tryz.prog w= .ok (.pointer (some (q.add 2))) w:=fun w q=>by kernel_rfl
theorem Zv:∀ (w:World) (q:Addr),(Instr.fieldAt 154 (.pointer (some q)) 1).run Tryz.prog w= .ok (.pointer (some (q.add 1))) w:=fun w q=>by kernel_rfl
theorem EE:∀ (w:World) (q:Addr),(Instr.fieldAt 78 (.pointer (some q)) 2).run Tryz.prog w= .ok (.pointer (some (q.add 2))) w:=fun w q=>by kernel_rfl
theorem HO:(Tryz.prog.info? 2).bind (·.zero)=some (.int .i64 0):=by kernel_rfl
abbrev EF:=Tryz.underlying263
abbrev EG:=Tryz.underlying209
theorem EH:∀ (w:World) (q:Addr),(Instr.fieldAt 48 (.pointer (some q)) 4).run Tryz.prog w= .ok (.pointer (some (q.add 4))) w:=fun w q=>by kernel_rfl
theorem EI:∀ (w:World) (q:Addr),(Instr.fieldAt 48 (.pointer (some q)) 3).run Tryz.prog w= .ok (.pointer (some (q.add 3))) w:=fun w q=>by kernel_rfl
theorem EJ:∀ (w:World) (q:Addr),(Instr.fieldAt 48 (.pointer (some q)) 5).run Tryz.prog w= .ok (.pointer (some (q.add 5))) w:=fun w q=>by kernel_rfl
theorem EK:(Tryz.prog.info? 37).bind (·.zero)=some (.agg BK.toArray):=by kernel_rfl
abbrev HP:=Tryz.underlying317
abbrev U5:=Tryz.underlying5
theorem EM:Tryz.prog.stoodInHeld 107=false:=by kernel_rfl
theorem EN:Tryz.prog.eqGuardType Tryz.prog.depth 107=false:=by kernel_rfl
theorem GU:Tryz.prog.stoodInHeld 89=false:=by kernel_rfl
theorem GV:Tryz.prog.eqGuardType Tryz.prog.depth 89=false:=by kernel_rfl
theorem EO:∀ (w:World) (q:Addr),(Instr.fieldAt 48 (.pointer (some q)) 1).run Tryz.prog w= .ok (.pointer (some (q.add 1))) w:=fun w q=>by kernel_rfl
theorem EP:∀ (w:World) (q:Addr),(Instr.fieldAt 48 (.pointer (some q)) 7).run Tryz.prog w= .ok (.pointer (some (q.add 8))) w:=fun w q=>by kernel_rfl
theorem EQ:∀ (w:World) (q:Addr),(Instr.fieldAt 48 (.pointer (some q)) 6).run Tryz.prog w= .ok (.pointer (some (q.add 7))) w:=fun w q=>by kernel_rfl
theorem ER:∀ (w:World) (q:Addr),(Instr.fieldAt 48 (.pointer (some q)) 8).run Tryz.prog w= .ok (.pointer (some (q.add 9))) w:=fun w q=>by kernel_rfl
def tb:Tb:=⟨[(25,0,0),(25,1,1),(31,0,0),(31,1,1),(31,2,2),(35,0,0),(35,1,1),(35,2,2),(35,3,3),(37,0,0),(37,1,1),(37,2,2),(37,3,3),(37,4,4),(37,5,5),(37,6,6),(37,7,7),(37,8,8),(37,9,9),(37,10,11),(37,11,12),(48,0,0),(48,1,1),(48,2,2),(48,3,3),(48,4,4),(48,5,5),(48,6,7),(48,7,8),(48,8,9),(73,0,0),(73,1,1),(78,0,0),(78,1,1),(78,2,2),(87,0,0),(87,1,2),(87,2,3),(87,3,4),(87,4,6),(87,5,7),(87,6,8),(89,0,0),(89,1,1),(93,0,0),(93,1,1),(93,2,2),(93,3,3),(93,4,4),(97,0,0),(97,1,1),(97,2,2),(97,3,3),(97,4,4),(97,5,5),(97,6,6),(99,0,0),(99,1,1),(107,0,0),(107,1,1),(107,2,2),(107,3,3),(107,4,4),(126,0,0),(126,1,1),(126,2,2),(131,0,0),(131,1,1),(131,2,2),(131,3,3),(134,0,0),(134,1,1),(134,2,2),(134,3,3),(134,4,4),(134,5,5),(154,0,0),(154,1,1),(154,2,2),(185,0,0),(185,1,2)],[(3,5,.u8),(3,234,.u64),(21,5,.u8),(234,3,.i64)],[9]⟩
theorem Sc:Rt Tryz.prog tb:=⟨⟨CG,CI,CL,CM,CN,Ub,Uc,DB,DY,CX,Ua,Hr,CZ,EB,Tx,Tz,DA,CY,DC,Zj,Zk,DL,EO,ED,EI,EH,EJ,EQ,EP,ER,DF,DH,DN,DO,EE,Nr,Ue,DM,DD,Ud,Ns,Uf,CJ,CK,DX,DW,DU,DV,DP,CV,CW,CU,CP,CS,CQ,CR,CT,Ty,Yz,Za,Zb,Yy,Zc,Zl,Zm,Qn,Zn,Zo,Zp,Zq,Zd,Ze,Zf,Zh,Zg,Zi,Zt,Zv,Zu,Zr,Zs,trivial⟩,⟨fun _ _ _=>by kernel_rfl,fun _ _ _=>by kernel_rfl,fun _ _ _=>by kernel_rfl,fun _ _ _=>by kernel_rfl,trivial⟩,⟨U9,trivial⟩⟩
theorem pr{ops:Array Oper}{Q:Exit→Act→World→Prop}{w:World}{n:Nat}(k:Nat){env env':List (Nat×Value)}{l l':List Oper}{a:Act}(E:Env n a env)(h:Q3 tb [] ops n k env l=some (env',l'))(kont:∀ a',Env n a' env'→wpList Tryz.prog ops Q l' a' w):wpList Tryz.prog ops Q l a w:=Ha Sc k E (kn0 _) h kont
theorem pk{ops:Array Oper}{Q:Exit→Act→World→Prop}{w:World}{n:Nat}{kn:List (Nat×Bool)}(k:Nat){env env':List (Nat×Value)}{l l':List Oper}{a:Act}(E:Env n a env)(K:Kn env kn)(h:Q3 tb kn ops n k env l=some (env',l'))(kont:∀ a',Env n a' env'→wpList Tryz.prog ops Q l' a' w):wpList Tryz.prog ops Q l a w:=Ha Sc k E K h kont
theorem fn{ops:Array Oper}{Q:Exit→Act→World→Prop}{w:World}{n:Nat}{I:World→Prop}(k:Nat){env env':List (Nat×Value)}{l l':List (Nat×Nat)}{a:Act}(E:Env n a env)(h:Ja tb [] ops n k env l=some (env',l'))(kont:∀ a',Env n a' env'→kY Tryz.prog I ops Q l' a' w):kY Tryz.prog I ops Q l a w:=Ly Sc k E (kn0 _) h kont
theorem fk{ops:Array Oper}{Q:Exit→Act→World→Prop}{w:World}{n:Nat}{kn:List (Nat×Bool)}{I:World→Prop}(k:Nat){env env':List (Nat×Value)}{l l':List (Nat×Nat)}{a:Act}(E:Env n a env)(K:Kn env kn)(h:Ja tb kn ops n k env l=some (env',l'))(kont:∀ a',Env n a' env'→kY Tryz.prog I ops Q l' a' w):kY Tryz.prog I ops Q l a w:=Ly Sc k E K h kont
theorem dw{ops:Array Oper}{Q:Exit→Act→World→Prop}{w:World}{a:Act}{os:List Ob}{rs:List Rp}{id:Nat}(ord:List (Nat×Nat))(is js:List Nat)(H:Sep w os rs)(ho:Bm ops ord=true)(hQ:∀ c a w,Q (.panic c) a w→False)(k:∀ w W0,dZ (pkl os is) (pkl rs js) W0→Sep w os rs→kY Tryz.prog (dZ (pkl os is) (pkl rs js)) ops Q ord a w):(Code.region id ops true).wp Tryz.prog Q a w:=FV xZ ord is js H ho hQ k
theorem pn{ops:Array Oper}{w:World}{n:Nat}(k:Nat){env env':List (Nat×Value)}{a:Act}(E:Env n a env){l:List Oper}{K:Act→World→Prop}{R:Exit→Act→World→Prop}(h:Q3 tb [] ops n k env l=some (env',[]))(kont:∀ a',Env n a' env'→K a' w):wpList Tryz.prog ops (Exit.then K R) l a w:=pr k E h fun a E=>nt (kont a E)
theorem sp{id:Nat}{y:Code}{Q:Exit→Act→World→Prop}{w:World}{n:Nat}(k:Nat){env env':List (Nat×Value)}{a:Act}(E:Env n a env){l l':List Oper}(h:Q3 tb [] l.toArray n k env l=some (env',l'))(kont:∀ a',Env n a' env'→wpList Tryz.prog l.toArray (Exit.then (y.wp Tryz.prog Q) Q) l' a' w):(Code.seq (.region id l.toArray false) y).wp Tryz.prog Q a w:=sq (pr k E h kont)
theorem xp{id:Nat}{y:Code}{R:Exit→Act→World→Prop}{ops:Array Oper}{Q:Exit→Act→World→Prop}{w:World}{n:Nat}(k:Nat){env env':List (Nat×Value)}{a:Act}(E:Env n a env){l l':List Oper}(h:Q3 tb [] l.toArray n k env l=some (env',l'))(kont:∀ a',Env n a' env'→wpList Tryz.prog l.toArray (Exit.then (y.wp Tryz.prog Q) Q) l' a' w):wpList Tryz.prog ops (Exit.then ((Code.seq (.region id l.toArray false) y).wp Tryz.prog Q) R) [] a w:=nx (pr k E h kont)
theorem dz{ops:Array Oper}{Q:Exit→Act→World→Prop}{w:World}{a:Act}{os:List Ob}{rs:List Rp}{id:Nat}(cs:List Nat)(is:List Nat)(H:Sep w os rs)(k:∀ w W0,dZ (pkl os is) (pkl rs []) W0→Sep w os rs→kY Tryz.prog (dZ (pkl os is) (pkl rs [])) ops Q (Wp 0 cs) a w)(ho:Bm ops (Wp 0 cs)=true:=by kernel_rfl)(hQ:∀ c a w,Q (.panic c) a w→False:=by exact fun _ _ _ h=>False.elim h.2):(Code.region id ops true).wp Tryz.prog Q a w:=dw _ is [] H ho hQ k
abbrev Cf (f:Nat) (l:List Value) (w:World) (R:Value→World→Prop):Prop:=Calls Tryz.prog f l.toArray w (Ret R)
abbrev a7:Type:=Int×Bool
abbrev cR:Type:=List ByteArray
abbrev mH:Type:=List aO
abbrev cP:Type:=List aJ
abbrev cD:Type:=List aD
abbrev Z7:Type:=List aQ
abbrev oF:Type:=List aP
abbrev xA:Type:=List aI
abbrev xB:Type:=List bV
abbrev yV:Type:=ByteArray×Bool
abbrev x5:Type:=List bA
abbrev P5:Type:=List ((Int)×Int)
abbrev iA:Type:=List aH
abbrev sU:Type:=(Int)×eR
abbrev tU:Type:=(Int)×aW
abbrev K9:Type:=Int×cP
abbrev yW:Type:=cR×Bool
abbrev Mg:Type:=List ((Int×Int)×Int)
abbrev Hz:Type:=xA×Bool
abbrev Z8:Type:=List sU
abbrev vN:Type:=aF×bA
abbrev Z9:Type:=Bool×iA
abbrev x6:Type:=List tU
abbrev Mh:Type:=aW×xA
abbrev Ia:Type:=cD×cR
abbrev G4:Type:=mH×(List Int)×Bool
abbrev Mi:Type:=cP×cP
abbrev Mj:Type:=cD×cD
abbrev C6:Type:=oF×iA
abbrev Sd:Type:=aW×x6
abbrev Do:Type:=aF×x5×Int×Int
abbrev Ib:Type:=Int×ByteArray×ByteArray×Int×cR
abbrev Sf:Type:=Int×Int×ByteArray×ByteArray×Int×cR
abbrev Nt:Type:=cD×cP×xA
abbrev Nu:Type:=aW×mH×Z8
abbrev ES:Type:=cD×Int×ByteArray×ByteArray×Int×cR
abbrev ET:Type:=cD×cP×cD×cP
abbrev Ws:Type:=cD×cP×Int×ByteArray×ByteArray×Int×cR
abbrev Sg:Type:=aW×cD×cP×oF×iA
abbrev Nv:Type:=aW×cD×cP×oF×iA×x6
abbrev Jl:Type:=aW×cD×cP×mH×oF×iA×Z8
abbrev Sh:Type:=aW×cD×cP×xA×mH×oF×iA×x6×Z8×x6
end Go.Cb
