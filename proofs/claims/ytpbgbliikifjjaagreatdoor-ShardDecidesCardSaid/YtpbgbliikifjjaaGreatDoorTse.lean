/- The types of the program and the small facts that the walks use. -/
import Derived.Test.YtpbgbliikifjjaaGreatDoorAse2
import Derived.Test.YtpbgbliikifjjaaGreatDoorProg
set_option linter.unusedVariables false
set_option linter.unusedSimpArgs false
namespace Go.Cb
open Go.Proofs Go.RowKit
structure aE where
  Path:ByteArray
  Data:ByteArray
  Version:Int
  Turn:Int
  Owner:Int
  deriving DecidableEq,Inhabited
def aF:Kd aE:=pF (kP kS (kP kS (kP (kI .i64) (kP (kI .i64) (kI .i64))))) fun x=>(x.Path,(x.Data,(x.Version,(x.Turn,x.Owner))))
theorem yQ{w:World}{ok:Nat→Prop}{x:aE}{cs:List Value}(h:aF.R w ok x cs):cs= [.string x.Path,.string x.Data,.int .i64 x.Version,.int .i64 x.Turn,.int .i64 x.Owner]:=by
  obtain ⟨c0,d0,rfl,h0,c1,d1,rfl,h1,c2,d2,rfl,h2,c3,d3,rfl,h3,h4⟩:=h
  have e0:c0= [.string x.Path]:=h0
  subst e0
  have e1:c1= [.string x.Data]:=h1
  subst e1
  have e2:c2= [.int .i64 x.Version]:=h2
  subst e2
  have e3:c3= [.int .i64 x.Turn]:=h3
  subst e3
  have e4:d3= [.int .i64 x.Owner]:=h4
  subst e4
  rfl
theorem sZ{w:World}{ok:Nat→Prop}{x:aE}:aF.R w ok x [.string x.Path,.string x.Data,.int .i64 x.Version,.int .i64 x.Turn,.int .i64 x.Owner]:=⟨[.string x.Path],_,rfl,rfl,⟨[.string x.Data],_,rfl,rfl,⟨[.int .i64 x.Version],_,rfl,rfl,⟨[.int .i64 x.Turn],_,rfl,rfl,rfl⟩⟩⟩⟩
abbrev iQ (x:aE):List Value:=[.string x.Path,.string x.Data,.int .i64 x.Version,.int .i64 x.Turn,.int .i64 x.Owner]
abbrev Un:List Value:=[.string ⟨#[]⟩,.string ⟨#[]⟩,.int .i64 0,.int .i64 0,.int .i64 0]
def cK:eJ aF:=⟨fun x=>[.string x.Path,.string x.Data,.int .i64 x.Version,.int .i64 x.Turn,.int .i64 x.Owner],yQ,sZ⟩
structure aI where
  Dir:ByteArray
  Next:Int
  deriving DecidableEq,Inhabited
def aJ:Kd aI:=pF (kP kS (kI .i64)) fun x=>(x.Dir,x.Next)
theorem yR{w:World}{ok:Nat→Prop}{x:aI}{cs:List Value}(h:aJ.R w ok x cs):cs= [.string x.Dir,.int .i64 x.Next]:=by
  obtain ⟨c0,d0,rfl,h0,h1⟩:=h
  have e0:c0= [.string x.Dir]:=h0
  subst e0
  have e1:d0= [.int .i64 x.Next]:=h1
  subst e1
  rfl
theorem qL{w:World}{ok:Nat→Prop}{x:aI}:aJ.R w ok x [.string x.Dir,.int .i64 x.Next]:=⟨[.string x.Dir],_,rfl,rfl,rfl⟩
def dI:eJ aJ:=⟨fun x=>[.string x.Dir,.int .i64 x.Next],yR,qL⟩
structure aN where
  Dir:ByteArray
  Txn:Int
  Age:Int
  deriving DecidableEq,Inhabited
def bG:Kd aN:=pF (kP kS (kP (kI .i64) (kI .i64))) fun x=>(x.Dir,(x.Txn,x.Age))
theorem Az{w:World}{ok:Nat→Prop}{x:aN}{cs:List Value}(h:bG.R w ok x cs):cs= [.string x.Dir,.int .i64 x.Txn,.int .i64 x.Age]:=by
  obtain ⟨c0,d0,rfl,h0,c1,d1,rfl,h1,h2⟩:=h
  have e0:c0= [.string x.Dir]:=h0
  subst e0
  have e1:c1= [.int .i64 x.Txn]:=h1
  subst e1
  have e2:d1= [.int .i64 x.Age]:=h2
  subst e2
  rfl
theorem L6{w:World}{ok:Nat→Prop}{x:aN}:bG.R w ok x [.string x.Dir,.int .i64 x.Txn,.int .i64 x.Age]:=⟨[.string x.Dir],_,rfl,rfl,⟨[.int .i64 x.Txn],_,rfl,rfl,rfl⟩⟩
abbrev nG (x:aN):List Value:=[.string x.Dir,.int .i64 x.Txn,.int .i64 x.Age]
abbrev Uo:List Value:=[.string ⟨#[]⟩,.int .i64 0,.int .i64 0]
theorem G7{w:World}{ok:Nat→Prop}{q:Addr}{x:aN}{cs:List Value}(h:(rAw bG q x cs).p w ok):∃ c,(rAw kS (q.add 0) x.Dir c).p w ok∧c=(cs.drop 0).take 1:=by
  have h0:(rAw (kP kS (kP (kI .i64) (kI .i64))) q ((x.Dir,(x.Txn,x.Age))) cs).p w ok:=h
  have hl:cs.length=3:=bG.len h.2.1
  have h1:=(R3 h0)
  simp only [show ∀ q:Addr,q.add 0=q from fun q=>by simp [Addr.add]]
  refine ⟨_,h1,?_⟩
  (try simp only [kP,kI,kB,kS,kL,pF,Kd.scalar])
  all_goals (try (apply List.ext_getElem?;intro j;simp [List.getElem?_take,List.getElem?_drop]))
  all_goals (try (intros;(try split);(try omega);(try (rw [List.getElem?_eq_none (by omega)]))))
theorem Cd{w:World}{ok:Nat→Prop}{q:Addr}{x:aN}(h:(rAt bG q x).p w ok):(rAt (kI .i64) (q.add 1) x.Txn).p w ok:=by
  have h0:(rAt (kP kS (kP (kI .i64) (kI .i64))) q ((x.Dir,(x.Txn,x.Age)))).p w ok:=h
  have h1:=(Bx (vJ h0))
  simp only [add_add,kP,kI,kB,kS,kL,Kd.scalar] at h1
  exact h1
def eC:eJ bG:=⟨fun x=>[.string x.Dir,.int .i64 x.Txn,.int .i64 x.Age],Az,L6⟩
structure aH where
  Prefix:ByteArray
  Epoch:Int
  State:Int
  deriving DecidableEq,Inhabited
def aS:Kd aH:=pF (kP kS (kP (kI .i64) (kI .i64))) fun x=>(x.Prefix,(x.Epoch,x.State))
theorem A3{w:World}{ok:Nat→Prop}{x:aH}{cs:List Value}(h:aS.R w ok x cs):cs= [.string x.Prefix,.int .i64 x.Epoch,.int .i64 x.State]:=by
  obtain ⟨c0,d0,rfl,h0,c1,d1,rfl,h1,h2⟩:=h
  have e0:c0= [.string x.Prefix]:=h0
  subst e0
  have e1:c1= [.int .i64 x.Epoch]:=h1
  subst e1
  have e2:d1= [.int .i64 x.State]:=h2
  subst e2
  rfl
theorem rR{w:World}{ok:Nat→Prop}{x:aH}:aS.R w ok x [.string x.Prefix,.int .i64 x.Epoch,.int .i64 x.State]:=⟨[.string x.Prefix],_,rfl,rfl,⟨[.int .i64 x.Epoch],_,rfl,rfl,rfl⟩⟩
abbrev kN (x:aH):List Value:=[.string x.Prefix,.int .i64 x.Epoch,.int .i64 x.State]
abbrev Gn:List Value:=[.string ⟨#[]⟩,.int .i64 0,.int .i64 0]
theorem nV{w:World}{ok:Nat→Prop}{q:Addr}{x:aH}{cs:List Value}(h:(rAw aS q x cs).p w ok):∃ c,(rAw kS (q.add 0) x.Prefix c).p w ok∧c=(cs.drop 0).take 1:=by
  have h0:(rAw (kP kS (kP (kI .i64) (kI .i64))) q ((x.Prefix,(x.Epoch,x.State))) cs).p w ok:=h
  have hl:cs.length=3:=aS.len h.2.1
  have h1:=(R3 h0)
  simp only [show ∀ q:Addr,q.add 0=q from fun q=>by simp [Addr.add]]
  refine ⟨_,h1,?_⟩
  (try simp only [kP,kI,kB,kS,kL,pF,Kd.scalar])
  all_goals (try (apply List.ext_getElem?;intro j;simp [List.getElem?_take,List.getElem?_drop]))
  all_goals (try (intros;(try split);(try omega);(try (rw [List.getElem?_eq_none (by omega)]))))
theorem yS{w:World}{ok:Nat→Prop}{q:Addr}{x:aH}(h:(rAt aS q x).p w ok):(rAt (kI .i64) (q.add 1) x.Epoch).p w ok:=by
  have h0:(rAt (kP kS (kP (kI .i64) (kI .i64))) q ((x.Prefix,(x.Epoch,x.State)))).p w ok:=h
  have h1:=(Bx (vJ h0))
  simp only [add_add,kP,kI,kB,kS,kL,Kd.scalar] at h1
  exact h1
theorem Ba{w:World}{ok:Nat→Prop}{q:Addr}{x:aH}{cs:List Value}(h:(rAw aS q x cs).p w ok):∃ c,(rAw (kI .i64) (q.add 1) x.Epoch c).p w ok∧c=(cs.drop 1).take 1:=by
  have h0:(rAw (kP kS (kP (kI .i64) (kI .i64))) q ((x.Prefix,(x.Epoch,x.State))) cs).p w ok:=h
  have hl:cs.length=3:=aS.len h.2.1
  have h1:=(R3 (Nn h0))
  simp only [add_add,kP,kI,kB,kS,kL,pF,Kd.scalar] at h1
  refine ⟨_,h1,?_⟩
  (try simp only [kP,kI,kB,kS,kL,pF,Kd.scalar])
  all_goals (try (apply List.ext_getElem?;intro j;simp [List.getElem?_take,List.getElem?_drop]))
  all_goals (try (intros;(try split);(try omega);(try (rw [List.getElem?_eq_none (by omega)]))))
theorem yT{w:World}{ok:Nat→Prop}{q:Addr}{x:aH}(h:(rAt aS q x).p w ok):(rAt (kI .i64) (q.add 2) x.State).p w ok:=by
  have h0:(rAt (kP kS (kP (kI .i64) (kI .i64))) q ((x.Prefix,(x.Epoch,x.State)))).p w ok:=h
  have h1:=(vJ (vJ h0))
  simp only [add_add,kP,kI,kB,kS,kL,Kd.scalar] at h1
  exact h1
def gZ:eJ aS:=⟨fun x=>[.string x.Prefix,.int .i64 x.Epoch,.int .i64 x.State],A3,rR⟩
structure bK where
  Num:Int
  Kind:Int
  Path:ByteArray
  Watch:Int
  deriving DecidableEq,Inhabited
def aV:Kd bK:=pF (kP (kI .i64) (kP (kI .i64) (kP kS (kI .i64)))) fun x=>(x.Num,(x.Kind,(x.Path,x.Watch)))
theorem W7{w:World}{ok:Nat→Prop}{x:bK}{cs:List Value}(h:aV.R w ok x cs):cs= [.int .i64 x.Num,.int .i64 x.Kind,.string x.Path,.int .i64 x.Watch]:=by
  obtain ⟨c0,d0,rfl,h0,c1,d1,rfl,h1,c2,d2,rfl,h2,h3⟩:=h
  have e0:c0= [.int .i64 x.Num]:=h0
  subst e0
  have e1:c1= [.int .i64 x.Kind]:=h1
  subst e1
  have e2:c2= [.string x.Path]:=h2
  subst e2
  have e3:d2= [.int .i64 x.Watch]:=h3
  subst e3
  rfl
theorem vL{w:World}{ok:Nat→Prop}{x:bK}:aV.R w ok x [.int .i64 x.Num,.int .i64 x.Kind,.string x.Path,.int .i64 x.Watch]:=⟨[.int .i64 x.Num],_,rfl,rfl,⟨[.int .i64 x.Kind],_,rfl,rfl,⟨[.string x.Path],_,rfl,rfl,rfl⟩⟩⟩
abbrev D8 (x:bK):List Value:=[.int .i64 x.Num,.int .i64 x.Kind,.string x.Path,.int .i64 x.Watch]
abbrev Tz:List Value:=[.int .i64 0,.int .i64 0,.string ⟨#[]⟩,.int .i64 0]
structure aD where
  Num:Int
  Count:Int
  Events:(List bK)
  deriving DecidableEq,Inhabited
def aO:Kd aD:=pF (kP (kI .i64) (kP (kI .i64) (kL aV))) fun x=>(x.Num,(x.Count,x.Events))
theorem dF{w:World}{ok:Nat→Prop}{x:aD}{cs:List Value}(h:aO.R w ok x cs):∃ v1:Value,cs= [.int .i64 x.Num,.int .i64 x.Count,v1]∧Sl aV w ok v1 x.Events:=by
  obtain ⟨c0,d0,rfl,h0,c1,d1,rfl,h1,h2⟩:=h
  have e0:c0= [.int .i64 x.Num]:=h0
  subst e0
  have e1:c1= [.int .i64 x.Count]:=h1
  subst e1
  obtain ⟨u0,rfl,g0⟩:=h2
  exact ⟨u0,rfl,g0⟩
theorem jB{w:World}{ok:Nat→Prop}{x:aD}{v1:Value}(g1:Sl aV w ok v1 x.Events):aO.R w ok x [.int .i64 x.Num,.int .i64 x.Count,v1]:=⟨[.int .i64 x.Num],_,rfl,rfl,⟨[.int .i64 x.Count],_,rfl,rfl,⟨_,rfl,g1⟩⟩⟩
theorem gA{w:World}{ok:Nat→Prop}{x:aD}{v1:Value}(h:aO.R w ok x [.int .i64 x.Num,.int .i64 x.Count,v1]):Sl aV w ok v1 x.Events:=by
  obtain ⟨u0,he,g0⟩:=dF h
  cases he
  exact g0
abbrev kT (x:aD) (v1:Value):List Value:=[.int .i64 x.Num,.int .i64 x.Count,v1]
theorem s6{w:World}{os:List Ob}{rs:List Rp}{x:aD}{cs:List Value}(H:Sep w os (rCs aO cs x::rs)):∃ v1:Value,cs=(kT x v1)∧Sep w os (rSl aV v1 x.Events::rCs aO (kT x v1) x::rs):=by
  obtain ⟨_,hcs⟩:=H.rd (.head _)
  obtain ⟨u0,rfl,-⟩:=dF hcs
  refine ⟨_,rfl,?_⟩
  exact (H.derive1 (.head _) (rSl aV u0 x.Events) fun ok h=>gA h)
theorem x4{w:World}{ok:Nat→Prop}{q:Addr}{x:aD}{cs:List Value}(h:(rAw aO q x cs).p w ok):∃ c,(rAw (kI .i64) (q.add 0) x.Num c).p w ok∧c=(cs.drop 0).take 1:=by
  have h0:(rAw (kP (kI .i64) (kP (kI .i64) (kL aV))) q ((x.Num,(x.Count,x.Events))) cs).p w ok:=h
  have hl:cs.length=3:=aO.len h.2.1
  have h1:=(R3 h0)
  simp only [show ∀ q:Addr,q.add 0=q from fun q=>by simp [Addr.add]]
  refine ⟨_,h1,?_⟩
  (try simp only [kP,kI,kB,kS,kL,pF,Kd.scalar])
  all_goals (try (apply List.ext_getElem?;intro j;simp [List.getElem?_take,List.getElem?_drop]))
  all_goals (try (intros;(try split);(try omega);(try (rw [List.getElem?_eq_none (by omega)]))))
structure aK where
  Session:Int
  Num:Int
  Path:ByteArray
  Deep:Bool
  deriving DecidableEq,Inhabited
def aX:Kd aK:=pF (kP (kI .i64) (kP (kI .i64) (kP kS kB))) fun x=>(x.Session,(x.Num,(x.Path,x.Deep)))
theorem W8{w:World}{ok:Nat→Prop}{x:aK}{cs:List Value}(h:aX.R w ok x cs):cs= [.int .i64 x.Session,.int .i64 x.Num,.string x.Path,.bool x.Deep]:=by
  obtain ⟨c0,d0,rfl,h0,c1,d1,rfl,h1,c2,d2,rfl,h2,h3⟩:=h
  have e0:c0= [.int .i64 x.Session]:=h0
  subst e0
  have e1:c1= [.int .i64 x.Num]:=h1
  subst e1
  have e2:c2= [.string x.Path]:=h2
  subst e2
  have e3:d2= [.bool x.Deep]:=h3
  subst e3
  rfl
theorem zS{w:World}{ok:Nat→Prop}{x:aK}:aX.R w ok x [.int .i64 x.Session,.int .i64 x.Num,.string x.Path,.bool x.Deep]:=⟨[.int .i64 x.Session],_,rfl,rfl,⟨[.int .i64 x.Num],_,rfl,rfl,⟨[.string x.Path],_,rfl,rfl,rfl⟩⟩⟩
abbrev dL (x:aK):List Value:=[.int .i64 x.Session,.int .i64 x.Num,.string x.Path,.bool x.Deep]
abbrev Ua:List Value:=[.int .i64 0,.int .i64 0,.string ⟨#[]⟩,.bool false]
def hB:eJ aX:=⟨fun x=>[.int .i64 x.Session,.int .i64 x.Num,.string x.Path,.bool x.Deep],W8,zS⟩
structure bB where
  Nodes:(List aE)
  Turns:(List aI)
  deriving DecidableEq,Inhabited
def D9:Kd bB:=pF (kP (kL aF) (kL aJ)) fun x=>(x.Nodes,x.Turns)
theorem W9{w:World}{ok:Nat→Prop}{x:bB}{cs:List Value}(h:D9.R w ok x cs):∃ v1 v2:Value,cs= [v1,v2]∧Sl aF w ok v1 x.Nodes∧Sl aJ w ok v2 x.Turns:=by
  obtain ⟨c0,d0,rfl,h0,h1⟩:=h
  obtain ⟨u0,rfl,g0⟩:=h0
  obtain ⟨u1,rfl,g1⟩:=h1
  exact ⟨u0,u1,rfl,g0,g1⟩
theorem Ce{w:World}{ok:Nat→Prop}{x:bB}{v1:Value}{v2:Value}(g1:Sl aF w ok v1 x.Nodes)(g2:Sl aJ w ok v2 x.Turns):D9.R w ok x [v1,v2]:=⟨[v1],_,rfl,⟨_,rfl,g1⟩,⟨_,rfl,g2⟩⟩
theorem jK{w:World}{os:List Ob}{rs:List Rp}{v1:Value}{yv1:List aE}{v2:Value}{yv2:List aI}(H:Sep w os rs)(hv1:rSl aF v1 yv1 ∈ rs)(hv2:rSl aJ v2 yv2 ∈ rs):[v1,v2].all (·.oneCell')=true:=by
  obtain ⟨_,_,rfl⟩:=H.slform hv1
  obtain ⟨_,_,rfl⟩:=H.slform hv2
  rfl
structure cL where
  Err:Int
  Path:ByteArray
  Data:ByteArray
  Version:Int
  Names:(List ByteArray)
  deriving DecidableEq,Inhabited
def bE:Kd cL:=pF (kP (kI .i64) (kP kS (kP kS (kP (kI .i64) (kL kS))))) fun x=>(x.Err,(x.Path,(x.Data,(x.Version,x.Names))))
theorem Bb{w:World}{ok:Nat→Prop}{x:cL}{v1:Value}(g1:Sl kS w ok v1 x.Names):bE.R w ok x [.int .i64 x.Err,.string x.Path,.string x.Data,.int .i64 x.Version,v1]:=⟨[.int .i64 x.Err],_,rfl,rfl,⟨[.string x.Path],_,rfl,rfl,⟨[.string x.Data],_,rfl,rfl,⟨[.int .i64 x.Version],_,rfl,rfl,⟨_,rfl,g1⟩⟩⟩⟩⟩
abbrev O1 (x:cL) (v1:Value):List Value:=[.int .i64 x.Err,.string x.Path,.string x.Data,.int .i64 x.Version,v1]
abbrev O2:List Value:=[.int .i64 0,.string ⟨#[]⟩,.string ⟨#[]⟩,.int .i64 0,.slice none 0 0]
theorem Cf{w:World}{os:List Ob}{rs:List Rp}{z0:Int}{z1:ByteArray}{z2:ByteArray}{z3:Int}{v1:Value}{yv1:List ByteArray}(H:Sep w os rs)(hv1:rSl kS v1 yv1 ∈ rs):[.int .i64 z0,.string z1,.string z2,.int .i64 z3,v1].all (·.oneCell')=true:=by
  obtain ⟨_,_,rfl⟩:=H.slform hv1
  rfl
theorem X1{w:World}{ok:Nat→Prop}{q:Addr}{x:cL}(h:(rAt bE q x).p w ok):(rAt kS (q.add 1) x.Path).p w ok:=by
  have h0:(rAt (kP (kI .i64) (kP kS (kP kS (kP (kI .i64) (kL kS))))) q ((x.Err,(x.Path,(x.Data,(x.Version,x.Names)))))).p w ok:=h
  have h1:=(Bx (vJ h0))
  simp only [add_add,kP,kI,kB,kS,kL,Kd.scalar] at h1
  exact h1
theorem X2{w:World}{ok:Nat→Prop}{q:Addr}{x:cL}(h:(rAt bE q x).p w ok):(rAt (kL kS) (q.add 4) x.Names).p w ok:=by
  have h0:(rAt (kP (kI .i64) (kP kS (kP kS (kP (kI .i64) (kL kS))))) q ((x.Err,(x.Path,(x.Data,(x.Version,x.Names)))))).p w ok:=h
  have h1:=(vJ (vJ (vJ (vJ h0))))
  simp only [add_add,kP,kI,kB,kS,kL,Kd.scalar] at h1
  exact h1
structure lQ where
  Prefix:ByteArray
  Group:Int
  Epoch:Int
  To:Int
  deriving DecidableEq,Inhabited
def bL:Kd lQ:=pF (kP kS (kP (kI .i64) (kP (kI .i64) (kI .i64)))) fun x=>(x.Prefix,(x.Group,(x.Epoch,x.To)))
structure aG where
  Err:Int
  At:Int
  Yes:Bool
  Epoch:Int
  Results:(List cL)
  Store:bB
  Events:(List bK)
  Mounts:(List lQ)
  Wounded:(List Int)
  deriving DecidableEq,Inhabited
def bI:Kd aG:=pF (kP (kI .i64) (kP (kI .i64) (kP kB (kP (kI .i64) (kP (kL bE) (kP D9 (kP (kL aV) (kP (kL bL) (kL (kI .i64)))))))))) fun x=>(x.Err,(x.At,(x.Yes,(x.Epoch,(x.Results,(x.Store,(x.Events,(x.Mounts,x.Wounded))))))))
theorem iE{w:World}{ok:Nat→Prop}{x:aG}{cs:List Value}(h:bI.R w ok x cs):∃ v1 v2 v3 v4 v5 v6:Value,cs= [.int .i64 x.Err,.int .i64 x.At,.bool x.Yes,.int .i64 x.Epoch,v1,v2,v3,v4,v5,v6]∧Sl bE w ok v1 x.Results∧Sl aF w ok v2 x.Store.Nodes∧Sl aJ w ok v3 x.Store.Turns∧Sl aV w ok v4 x.Events∧Sl bL w ok v5 x.Mounts∧Sl (kI .i64) w ok v6 x.Wounded:=by
  obtain ⟨c0,d0,rfl,h0,c1,d1,rfl,h1,c2,d2,rfl,h2,c3,d3,rfl,h3,c4,d4,rfl,h4,c5,d5,rfl,h5,c6,d6,rfl,h6,c7,d7,rfl,h7,h8⟩:=h
  have e0:c0= [.int .i64 x.Err]:=h0
  subst e0
  have e1:c1= [.int .i64 x.At]:=h1
  subst e1
  have e2:c2= [.bool x.Yes]:=h2
  subst e2
  have e3:c3= [.int .i64 x.Epoch]:=h3
  subst e3
  obtain ⟨u0,rfl,g0⟩:=h4
  obtain ⟨u1,u2,rfl,g1,g2⟩:=W9 h5
  obtain ⟨u3,rfl,g3⟩:=h6
  obtain ⟨u4,rfl,g4⟩:=h7
  obtain ⟨u5,rfl,g5⟩:=h8
  exact ⟨u0,u1,u2,u3,u4,u5,rfl,g0,g1,g2,g3,g4,g5⟩
theorem lS{w:World}{ok:Nat→Prop}{x:aG}{v1:Value}{v2:Value}{v3:Value}{v4:Value}{v5:Value}{v6:Value}(g1:Sl bE w ok v1 x.Results)(g2:Sl aF w ok v2 x.Store.Nodes)(g3:Sl aJ w ok v3 x.Store.Turns)(g4:Sl aV w ok v4 x.Events)(g5:Sl bL w ok v5 x.Mounts)(g6:Sl (kI .i64) w ok v6 x.Wounded):bI.R w ok x [.int .i64 x.Err,.int .i64 x.At,.bool x.Yes,.int .i64 x.Epoch,v1,v2,v3,v4,v5,v6]:=⟨[.int .i64 x.Err],_,rfl,rfl,⟨[.int .i64 x.At],_,rfl,rfl,⟨[.bool x.Yes],_,rfl,rfl,⟨[.int .i64 x.Epoch],_,rfl,rfl,⟨[v1],_,rfl,⟨_,rfl,g1⟩,⟨[v2,v3],_,rfl,(Ce g2 g3),⟨[v4],_,rfl,⟨_,rfl,g4⟩,⟨[v5],_,rfl,⟨_,rfl,g5⟩,⟨_,rfl,g6⟩⟩⟩⟩⟩⟩⟩⟩⟩
theorem S4{w:World}{ok:Nat→Prop}{x:aG}{v1 v2 v3 v4 v5 v6:Value}(h:bI.R w ok x [.int .i64 x.Err,.int .i64 x.At,.bool x.Yes,.int .i64 x.Epoch,v1,v2,v3,v4,v5,v6]):Sl bE w ok v1 x.Results:=by
  obtain ⟨u0,u1,u2,u3,u4,u5,he,g0,g1,g2,g3,g4,g5⟩:=iE h
  cases he
  exact g0
theorem S5{w:World}{ok:Nat→Prop}{x:aG}{v1 v2 v3 v4 v5 v6:Value}(h:bI.R w ok x [.int .i64 x.Err,.int .i64 x.At,.bool x.Yes,.int .i64 x.Epoch,v1,v2,v3,v4,v5,v6]):Sl aF w ok v2 x.Store.Nodes:=by
  obtain ⟨u0,u1,u2,u3,u4,u5,he,g0,g1,g2,g3,g4,g5⟩:=iE h
  cases he
  exact g1
theorem S6{w:World}{ok:Nat→Prop}{x:aG}{v1 v2 v3 v4 v5 v6:Value}(h:bI.R w ok x [.int .i64 x.Err,.int .i64 x.At,.bool x.Yes,.int .i64 x.Epoch,v1,v2,v3,v4,v5,v6]):Sl aJ w ok v3 x.Store.Turns:=by
  obtain ⟨u0,u1,u2,u3,u4,u5,he,g0,g1,g2,g3,g4,g5⟩:=iE h
  cases he
  exact g2
theorem S7{w:World}{ok:Nat→Prop}{x:aG}{v1 v2 v3 v4 v5 v6:Value}(h:bI.R w ok x [.int .i64 x.Err,.int .i64 x.At,.bool x.Yes,.int .i64 x.Epoch,v1,v2,v3,v4,v5,v6]):Sl aV w ok v4 x.Events:=by
  obtain ⟨u0,u1,u2,u3,u4,u5,he,g0,g1,g2,g3,g4,g5⟩:=iE h
  cases he
  exact g3
theorem S8{w:World}{ok:Nat→Prop}{x:aG}{v1 v2 v3 v4 v5 v6:Value}(h:bI.R w ok x [.int .i64 x.Err,.int .i64 x.At,.bool x.Yes,.int .i64 x.Epoch,v1,v2,v3,v4,v5,v6]):Sl bL w ok v5 x.Mounts:=by
  obtain ⟨u0,u1,u2,u3,u4,u5,he,g0,g1,g2,g3,g4,g5⟩:=iE h
  cases he
  exact g4
theorem S9{w:World}{ok:Nat→Prop}{x:aG}{v1 v2 v3 v4 v5 v6:Value}(h:bI.R w ok x [.int .i64 x.Err,.int .i64 x.At,.bool x.Yes,.int .i64 x.Epoch,v1,v2,v3,v4,v5,v6]):Sl (kI .i64) w ok v6 x.Wounded:=by
  obtain ⟨u0,u1,u2,u3,u4,u5,he,g0,g1,g2,g3,g4,g5⟩:=iE h
  cases he
  exact g5
abbrev bC (x:aG) (v1:Value) (v2:Value) (v3:Value) (v4:Value) (v5:Value) (v6:Value):List Value:=[.int .i64 x.Err,.int .i64 x.At,.bool x.Yes,.int .i64 x.Epoch,v1,v2,v3,v4,v5,v6]
abbrev bN:List Value:=[.int .i64 0,.int .i64 0,.bool false,.int .i64 0,.slice none 0 0,.slice none 0 0,.slice none 0 0,.slice none 0 0,.slice none 0 0,.slice none 0 0]
theorem jC{w:World}{os:List Ob}{rs:List Rp}{x:aG}{cs:List Value}(H:Sep w os (rCs bI cs x::rs)):∃ v1 v2 v3 v4 v5 v6:Value,cs=(bC x v1 v2 v3 v4 v5 v6)∧Sep w os (rSl (kI .i64) v6 x.Wounded::rSl bL v5 x.Mounts::rSl aV v4 x.Events::rSl aJ v3 x.Store.Turns::rSl aF v2 x.Store.Nodes::rSl bE v1 x.Results::rCs bI (bC x v1 v2 v3 v4 v5 v6) x::rs):=by
  obtain ⟨_,hcs⟩:=H.rd (.head _)
  obtain ⟨u0,u1,u2,u3,u4,u5,rfl,-,-,-,-,-,-⟩:=iE hcs
  refine ⟨_,_,_,_,_,_,rfl,?_⟩
  exact ((((((H.derive1 (.head _) (rSl bE u0 x.Results) fun ok h=>S4 h).derive1 (.tail _ (.head _)) (rSl aF u1 x.Store.Nodes) fun ok h=>S5 h).derive1 (.tail _ (.tail _ (.head _))) (rSl aJ u2 x.Store.Turns) fun ok h=>S6 h).derive1 (.tail _ (.tail _ (.tail _ (.head _)))) (rSl aV u3 x.Events) fun ok h=>S7 h).derive1 (.tail _ (.tail _ (.tail _ (.tail _ (.head _))))) (rSl bL u4 x.Mounts) fun ok h=>S8 h).derive1 (.tail _ (.tail _ (.tail _ (.tail _ (.tail _ (.head _)))))) (rSl (kI .i64) u5 x.Wounded) fun ok h=>S9 h)
theorem bF{w:World}{os:List Ob}{rs:List Rp}{z0:Int}{z1:Int}{z2:Bool}{z3:Int}{v1:Value}{yv1:List cL}{v2:Value}{yv2:List aE}{v3:Value}{yv3:List aI}{v4:Value}{yv4:List bK}{v5:Value}{yv5:List lQ}{v6:Value}{yv6:List Int}(H:Sep w os rs)(hv1:rSl bE v1 yv1 ∈ rs)(hv2:rSl aF v2 yv2 ∈ rs)(hv3:rSl aJ v3 yv3 ∈ rs)(hv4:rSl aV v4 yv4 ∈ rs)(hv5:rSl bL v5 yv5 ∈ rs)(hv6:rSl (kI .i64) v6 yv6 ∈ rs):[.int .i64 z0,.int .i64 z1,.bool z2,.int .i64 z3,v1,v2,v3,v4,v5,v6].all (·.oneCell')=true:=by
  obtain ⟨_,_,rfl⟩:=H.slform hv1
  obtain ⟨_,_,rfl⟩:=H.slform hv2
  obtain ⟨_,_,rfl⟩:=H.slform hv3
  obtain ⟨_,_,rfl⟩:=H.slform hv4
  obtain ⟨_,_,rfl⟩:=H.slform hv5
  obtain ⟨_,_,rfl⟩:=H.slform hv6
  rfl
structure bJ where
  Kind:Int
  Dir:ByteArray
  Path:ByteArray
  Data:ByteArray
  Version:Int
  Owner:Int
  Turns:Bool
  deriving DecidableEq,Inhabited
def cO:Kd bJ:=pF (kP (kI .i64) (kP kS (kP kS (kP kS (kP (kI .i64) (kP (kI .i64) kB)))))) fun x=>(x.Kind,(x.Dir,(x.Path,(x.Data,(x.Version,(x.Owner,x.Turns))))))
theorem D5{w:World}{ok:Nat→Prop}{x:bJ}{cs:List Value}(h:cO.R w ok x cs):cs= [.int .i64 x.Kind,.string x.Dir,.string x.Path,.string x.Data,.int .i64 x.Version,.int .i64 x.Owner,.bool x.Turns]:=by
  obtain ⟨c0,d0,rfl,h0,c1,d1,rfl,h1,c2,d2,rfl,h2,c3,d3,rfl,h3,c4,d4,rfl,h4,c5,d5,rfl,h5,h6⟩:=h
  have e0:c0= [.int .i64 x.Kind]:=h0
  subst e0
  have e1:c1= [.string x.Dir]:=h1
  subst e1
  have e2:c2= [.string x.Path]:=h2
  subst e2
  have e3:c3= [.string x.Data]:=h3
  subst e3
  have e4:c4= [.int .i64 x.Version]:=h4
  subst e4
  have e5:c5= [.int .i64 x.Owner]:=h5
  subst e5
  have e6:d5= [.bool x.Turns]:=h6
  subst e6
  rfl
theorem fU{w:World}{ok:Nat→Prop}{x:bJ}:cO.R w ok x [.int .i64 x.Kind,.string x.Dir,.string x.Path,.string x.Data,.int .i64 x.Version,.int .i64 x.Owner,.bool x.Turns]:=⟨[.int .i64 x.Kind],_,rfl,rfl,⟨[.string x.Dir],_,rfl,rfl,⟨[.string x.Path],_,rfl,rfl,⟨[.string x.Data],_,rfl,rfl,⟨[.int .i64 x.Version],_,rfl,rfl,⟨[.int .i64 x.Owner],_,rfl,rfl,rfl⟩⟩⟩⟩⟩⟩
abbrev cH (x:bJ):List Value:=[.int .i64 x.Kind,.string x.Dir,.string x.Path,.string x.Data,.int .i64 x.Version,.int .i64 x.Owner,.bool x.Turns]
abbrev Up:List Value:=[.int .i64 0,.string ⟨#[]⟩,.string ⟨#[]⟩,.string ⟨#[]⟩,.int .i64 0,.int .i64 0,.bool false]
structure cF where
  Op:Int
  Part:bJ
  deriving DecidableEq,Inhabited
def cE:Kd cF:=pF (kP (kI .i64) cO) fun x=>(x.Op,x.Part)
theorem Y9{w:World}{ok:Nat→Prop}{x:cF}{cs:List Value}(h:cE.R w ok x cs):cs= [.int .i64 x.Op,.int .i64 x.Part.Kind,.string x.Part.Dir,.string x.Part.Path,.string x.Part.Data,.int .i64 x.Part.Version,.int .i64 x.Part.Owner,.bool x.Part.Turns]:=by
  obtain ⟨c0,d0,rfl,h0,h1⟩:=h
  have e0:c0= [.int .i64 x.Op]:=h0
  subst e0
  obtain ⟨rfl⟩:=D5 h1
  rfl
theorem G8{w:World}{ok:Nat→Prop}{x:cF}:cE.R w ok x [.int .i64 x.Op,.int .i64 x.Part.Kind,.string x.Part.Dir,.string x.Part.Path,.string x.Part.Data,.int .i64 x.Part.Version,.int .i64 x.Part.Owner,.bool x.Part.Turns]:=⟨[.int .i64 x.Op],_,rfl,rfl,fU⟩
abbrev U8 (x:cF):List Value:=[.int .i64 x.Op,.int .i64 x.Part.Kind,.string x.Part.Dir,.string x.Part.Path,.string x.Part.Data,.int .i64 x.Part.Version,.int .i64 x.Part.Owner,.bool x.Part.Turns]
abbrev Ub:List Value:=[.int .i64 0,.int .i64 0,.string ⟨#[]⟩,.string ⟨#[]⟩,.string ⟨#[]⟩,.int .i64 0,.int .i64 0,.bool false]
structure bO where
  over_:Bool
  pieces_:(List cF)
  a_:aG
  deriving DecidableEq,Inhabited
def cQ:Kd bO:=pF (kP kB (kP (kL cE) bI)) fun x=>(x.over_,(x.pieces_,x.a_))
theorem jD{w:World}{ok:Nat→Prop}{x:bO}{cs:List Value}(h:cQ.R w ok x cs):∃ v1 v2 v3 v4 v5 v6 v7:Value,cs= [.bool x.over_,v1,.int .i64 x.a_.Err,.int .i64 x.a_.At,.bool x.a_.Yes,.int .i64 x.a_.Epoch,v2,v3,v4,v5,v6,v7]∧Sl cE w ok v1 x.pieces_∧Sl bE w ok v2 x.a_.Results∧Sl aF w ok v3 x.a_.Store.Nodes∧Sl aJ w ok v4 x.a_.Store.Turns∧Sl aV w ok v5 x.a_.Events∧Sl bL w ok v6 x.a_.Mounts∧Sl (kI .i64) w ok v7 x.a_.Wounded:=by
  obtain ⟨c0,d0,rfl,h0,c1,d1,rfl,h1,h2⟩:=h
  have e0:c0= [.bool x.over_]:=h0
  subst e0
  obtain ⟨u0,rfl,g0⟩:=h1
  obtain ⟨u1,u2,u3,u4,u5,u6,rfl,g1,g2,g3,g4,g5,g6⟩:=iE h2
  exact ⟨u0,u1,u2,u3,u4,u5,u6,rfl,g0,g1,g2,g3,g4,g5,g6⟩
theorem zT{w:World}{ok:Nat→Prop}{x:bO}{v1:Value}{v2:Value}{v3:Value}{v4:Value}{v5:Value}{v6:Value}{v7:Value}(g1:Sl cE w ok v1 x.pieces_)(g2:Sl bE w ok v2 x.a_.Results)(g3:Sl aF w ok v3 x.a_.Store.Nodes)(g4:Sl aJ w ok v4 x.a_.Store.Turns)(g5:Sl aV w ok v5 x.a_.Events)(g6:Sl bL w ok v6 x.a_.Mounts)(g7:Sl (kI .i64) w ok v7 x.a_.Wounded):cQ.R w ok x [.bool x.over_,v1,.int .i64 x.a_.Err,.int .i64 x.a_.At,.bool x.a_.Yes,.int .i64 x.a_.Epoch,v2,v3,v4,v5,v6,v7]:=⟨[.bool x.over_],_,rfl,rfl,⟨[v1],_,rfl,⟨_,rfl,g1⟩,(lS g2 g3 g4 g5 g6 g7)⟩⟩
theorem Z1{w:World}{ok:Nat→Prop}{x:bO}{v1 v2 v3 v4 v5 v6 v7:Value}(h:cQ.R w ok x [.bool x.over_,v1,.int .i64 x.a_.Err,.int .i64 x.a_.At,.bool x.a_.Yes,.int .i64 x.a_.Epoch,v2,v3,v4,v5,v6,v7]):Sl cE w ok v1 x.pieces_:=by
  obtain ⟨u0,u1,u2,u3,u4,u5,u6,he,g0,g1,g2,g3,g4,g5,g6⟩:=jD h
  cases he
  exact g0
theorem Z2{w:World}{ok:Nat→Prop}{x:bO}{v1 v2 v3 v4 v5 v6 v7:Value}(h:cQ.R w ok x [.bool x.over_,v1,.int .i64 x.a_.Err,.int .i64 x.a_.At,.bool x.a_.Yes,.int .i64 x.a_.Epoch,v2,v3,v4,v5,v6,v7]):Sl bE w ok v2 x.a_.Results:=by
  obtain ⟨u0,u1,u2,u3,u4,u5,u6,he,g0,g1,g2,g3,g4,g5,g6⟩:=jD h
  cases he
  exact g1
theorem Z3{w:World}{ok:Nat→Prop}{x:bO}{v1 v2 v3 v4 v5 v6 v7:Value}(h:cQ.R w ok x [.bool x.over_,v1,.int .i64 x.a_.Err,.int .i64 x.a_.At,.bool x.a_.Yes,.int .i64 x.a_.Epoch,v2,v3,v4,v5,v6,v7]):Sl aF w ok v3 x.a_.Store.Nodes:=by
  obtain ⟨u0,u1,u2,u3,u4,u5,u6,he,g0,g1,g2,g3,g4,g5,g6⟩:=jD h
  cases he
  exact g2
theorem Z4{w:World}{ok:Nat→Prop}{x:bO}{v1 v2 v3 v4 v5 v6 v7:Value}(h:cQ.R w ok x [.bool x.over_,v1,.int .i64 x.a_.Err,.int .i64 x.a_.At,.bool x.a_.Yes,.int .i64 x.a_.Epoch,v2,v3,v4,v5,v6,v7]):Sl aJ w ok v4 x.a_.Store.Turns:=by
  obtain ⟨u0,u1,u2,u3,u4,u5,u6,he,g0,g1,g2,g3,g4,g5,g6⟩:=jD h
  cases he
  exact g3
theorem Z5{w:World}{ok:Nat→Prop}{x:bO}{v1 v2 v3 v4 v5 v6 v7:Value}(h:cQ.R w ok x [.bool x.over_,v1,.int .i64 x.a_.Err,.int .i64 x.a_.At,.bool x.a_.Yes,.int .i64 x.a_.Epoch,v2,v3,v4,v5,v6,v7]):Sl aV w ok v5 x.a_.Events:=by
  obtain ⟨u0,u1,u2,u3,u4,u5,u6,he,g0,g1,g2,g3,g4,g5,g6⟩:=jD h
  cases he
  exact g4
theorem Z6{w:World}{ok:Nat→Prop}{x:bO}{v1 v2 v3 v4 v5 v6 v7:Value}(h:cQ.R w ok x [.bool x.over_,v1,.int .i64 x.a_.Err,.int .i64 x.a_.At,.bool x.a_.Yes,.int .i64 x.a_.Epoch,v2,v3,v4,v5,v6,v7]):Sl bL w ok v6 x.a_.Mounts:=by
  obtain ⟨u0,u1,u2,u3,u4,u5,u6,he,g0,g1,g2,g3,g4,g5,g6⟩:=jD h
  cases he
  exact g5
theorem Z7{w:World}{ok:Nat→Prop}{x:bO}{v1 v2 v3 v4 v5 v6 v7:Value}(h:cQ.R w ok x [.bool x.over_,v1,.int .i64 x.a_.Err,.int .i64 x.a_.At,.bool x.a_.Yes,.int .i64 x.a_.Epoch,v2,v3,v4,v5,v6,v7]):Sl (kI .i64) w ok v7 x.a_.Wounded:=by
  obtain ⟨u0,u1,u2,u3,u4,u5,u6,he,g0,g1,g2,g3,g4,g5,g6⟩:=jD h
  cases he
  exact g6
abbrev V1 (x:bO) (v1:Value) (v2:Value) (v3:Value) (v4:Value) (v5:Value) (v6:Value) (v7:Value):List Value:=[.bool x.over_,v1,.int .i64 x.a_.Err,.int .i64 x.a_.At,.bool x.a_.Yes,.int .i64 x.a_.Epoch,v2,v3,v4,v5,v6,v7]
abbrev Uc:List Value:=[.bool false,.slice none 0 0,.int .i64 0,.int .i64 0,.bool false,.int .i64 0,.slice none 0 0,.slice none 0 0,.slice none 0 0,.slice none 0 0,.slice none 0 0,.slice none 0 0]
theorem q5{w:World}{os:List Ob}{rs:List Rp}{x:bO}{cs:List Value}(H:Sep w os (rCs cQ cs x::rs)):∃ v1 v2 v3 v4 v5 v6 v7:Value,cs=(V1 x v1 v2 v3 v4 v5 v6 v7)∧Sep w os (rSl (kI .i64) v7 x.a_.Wounded::rSl bL v6 x.a_.Mounts::rSl aV v5 x.a_.Events::rSl aJ v4 x.a_.Store.Turns::rSl aF v3 x.a_.Store.Nodes::rSl bE v2 x.a_.Results::rSl cE v1 x.pieces_::rCs cQ (V1 x v1 v2 v3 v4 v5 v6 v7) x::rs):=by
  obtain ⟨_,hcs⟩:=H.rd (.head _)
  obtain ⟨u0,u1,u2,u3,u4,u5,u6,rfl,-,-,-,-,-,-,-⟩:=jD hcs
  refine ⟨_,_,_,_,_,_,_,rfl,?_⟩
  exact (((((((H.derive1 (.head _) (rSl cE u0 x.pieces_) fun ok h=>Z1 h).derive1 (.tail _ (.head _)) (rSl bE u1 x.a_.Results) fun ok h=>Z2 h).derive1 (.tail _ (.tail _ (.head _))) (rSl aF u2 x.a_.Store.Nodes) fun ok h=>Z3 h).derive1 (.tail _ (.tail _ (.tail _ (.head _)))) (rSl aJ u3 x.a_.Store.Turns) fun ok h=>Z4 h).derive1 (.tail _ (.tail _ (.tail _ (.tail _ (.head _))))) (rSl aV u4 x.a_.Events) fun ok h=>Z5 h).derive1 (.tail _ (.tail _ (.tail _ (.tail _ (.tail _ (.head _)))))) (rSl bL u5 x.a_.Mounts) fun ok h=>Z6 h).derive1 (.tail _ (.tail _ (.tail _ (.tail _ (.tail _ (.tail _ (.head _))))))) (rSl (kI .i64) u6 x.a_.Wounded) fun ok h=>Z7 h)
theorem xH{w:World}{os:List Ob}{rs:List Rp}{z0:Bool}{z1:Int}{z2:Int}{z3:Bool}{z4:Int}{v1:Value}{yv1:List cF}{v2:Value}{yv2:List cL}{v3:Value}{yv3:List aE}{v4:Value}{yv4:List aI}{v5:Value}{yv5:List bK}{v6:Value}{yv6:List lQ}{v7:Value}{yv7:List Int}(H:Sep w os rs)(hv1:rSl cE v1 yv1 ∈ rs)(hv2:rSl bE v2 yv2 ∈ rs)(hv3:rSl aF v3 yv3 ∈ rs)(hv4:rSl aJ v4 yv4 ∈ rs)(hv5:rSl aV v5 yv5 ∈ rs)(hv6:rSl bL v6 yv6 ∈ rs)(hv7:rSl (kI .i64) v7 yv7 ∈ rs):[.bool z0,v1,.int .i64 z1,.int .i64 z2,.bool z3,.int .i64 z4,v2,v3,v4,v5,v6,v7].all (·.oneCell')=true:=by
  obtain ⟨_,_,rfl⟩:=H.slform hv1
  obtain ⟨_,_,rfl⟩:=H.slform hv2
  obtain ⟨_,_,rfl⟩:=H.slform hv3
  obtain ⟨_,_,rfl⟩:=H.slform hv4
  obtain ⟨_,_,rfl⟩:=H.slform hv5
  obtain ⟨_,_,rfl⟩:=H.slform hv6
  obtain ⟨_,_,rfl⟩:=H.slform hv7
  rfl
structure dU where
  Kind:Int
  Path:ByteArray
  Data:ByteArray
  Version:Int
  Owner:Int
  Turns:Bool
  deriving DecidableEq,Inhabited
def xT:Kd dU:=pF (kP (kI .i64) (kP kS (kP kS (kP (kI .i64) (kP (kI .i64) kB))))) fun x=>(x.Kind,(x.Path,(x.Data,(x.Version,(x.Owner,x.Turns)))))
theorem Dj{w:World}{ok:Nat→Prop}{x:dU}{cs:List Value}(h:xT.R w ok x cs):cs= [.int .i64 x.Kind,.string x.Path,.string x.Data,.int .i64 x.Version,.int .i64 x.Owner,.bool x.Turns]:=by
  obtain ⟨c0,d0,rfl,h0,c1,d1,rfl,h1,c2,d2,rfl,h2,c3,d3,rfl,h3,c4,d4,rfl,h4,h5⟩:=h
  have e0:c0= [.int .i64 x.Kind]:=h0
  subst e0
  have e1:c1= [.string x.Path]:=h1
  subst e1
  have e2:c2= [.string x.Data]:=h2
  subst e2
  have e3:c3= [.int .i64 x.Version]:=h3
  subst e3
  have e4:c4= [.int .i64 x.Owner]:=h4
  subst e4
  have e5:d4= [.bool x.Turns]:=h5
  subst e5
  rfl
theorem V2{w:World}{ok:Nat→Prop}{x:dU}:xT.R w ok x [.int .i64 x.Kind,.string x.Path,.string x.Data,.int .i64 x.Version,.int .i64 x.Owner,.bool x.Turns]:=⟨[.int .i64 x.Kind],_,rfl,rfl,⟨[.string x.Path],_,rfl,rfl,⟨[.string x.Data],_,rfl,rfl,⟨[.int .i64 x.Version],_,rfl,rfl,⟨[.int .i64 x.Owner],_,rfl,rfl,rfl⟩⟩⟩⟩⟩
abbrev mY (x:dU):List Value:=[.int .i64 x.Kind,.string x.Path,.string x.Data,.int .i64 x.Version,.int .i64 x.Owner,.bool x.Turns]
abbrev Yo:List Value:=[.int .i64 0,.string ⟨#[]⟩,.string ⟨#[]⟩,.int .i64 0,.int .i64 0,.bool false]
def L7:eJ xT:=⟨fun x=>[.int .i64 x.Kind,.string x.Path,.string x.Data,.int .i64 x.Version,.int .i64 x.Owner,.bool x.Turns],Dj,V2⟩
def Bc:eJ cO:=⟨fun x=>[.int .i64 x.Kind,.string x.Dir,.string x.Path,.string x.Data,.int .i64 x.Version,.int .i64 x.Owner,.bool x.Turns],D5,fU⟩
structure bA where
  Kind:Int
  Id:Int
  Txn:Int
  Age:Int
  Yes:Bool
  Pieces:(List cF)
  Prefix:ByteArray
  Epoch:Int
  To:Int
  Store:bB
  Gone:(List ByteArray)
  Watch:aK
  deriving DecidableEq,Inhabited
def Po:Kd bA:=pF (kP (kI .i64) (kP (kI .i64) (kP (kI .i64) (kP (kI .i64) (kP kB (kP (kL cE) (kP kS (kP (kI .i64) (kP (kI .i64) (kP D9 (kP (kL kS) aX))))))))))) fun x=>(x.Kind,(x.Id,(x.Txn,(x.Age,(x.Yes,(x.Pieces,(x.Prefix,(x.Epoch,(x.To,(x.Store,(x.Gone,x.Watch)))))))))))
abbrev aR (x:bA) (v1:Value) (v2:Value) (v3:Value) (v4:Value):List Value:=[.int .i64 x.Kind,.int .i64 x.Id,.int .i64 x.Txn,.int .i64 x.Age,.bool x.Yes,v1,.string x.Prefix,.int .i64 x.Epoch,.int .i64 x.To,v2,v3,v4,.int .i64 x.Watch.Session,.int .i64 x.Watch.Num,.string x.Watch.Path,.bool x.Watch.Deep]
def sJ:eJ cE:=⟨fun x=>[.int .i64 x.Op,.int .i64 x.Part.Kind,.string x.Part.Dir,.string x.Part.Path,.string x.Part.Data,.int .i64 x.Part.Version,.int .i64 x.Part.Owner,.bool x.Part.Turns],Y9,G8⟩
abbrev Gp:bB:=⟨[],[]⟩
abbrev nP:aG:=⟨0,0,false,0,[],Gp,[],[],[]⟩
structure bM where
  Watches:(List aK)
  Sessions:(List aD)
  deriving DecidableEq,Inhabited
def Pp:Kd bM:=pF (kP (kL aX) (kL aO)) fun x=>(x.Watches,x.Sessions)
theorem gB{w:World}{os:List Ob}{rs:List Rp}{v1:Value}{yv1:List aK}{v2:Value}{yv2:List aD}(H:Sep w os rs)(hv1:rSl aX v1 yv1 ∈ rs)(hv2:rSl aO v2 yv2 ∈ rs):[v1,v2].all (·.oneCell')=true:=by
  obtain ⟨_,_,rfl⟩:=H.slform hv1
  obtain ⟨_,_,rfl⟩:=H.slform hv2
  rfl
def mZ:eJ aV:=⟨fun x=>[.int .i64 x.Num,.int .i64 x.Kind,.string x.Path,.int .i64 x.Watch],W7,vL⟩
def Nz:eJ kS:=⟨fun x=>[.string x],fun h=>h,rfl⟩
structure Gq where
  Store:bB
  r_:cL
  deriving DecidableEq,Inhabited
def Ud:Kd Gq:=pF (kP D9 bE) fun x=>(x.Store,x.r_)
abbrev E1:bO:=⟨false,[],nP⟩
theorem cf6:CF Tryz.prog 6:=cfo Tryz.func6 (by kernel_rfl)
theorem Qc:CF Tryz.prog 15:=cfo Tryz.func15 (by kernel_rfl)
theorem cf7:CF Tryz.prog 7:=cfo Tryz.func7 (by kernel_rfl)
abbrev U25:=Tryz.underlying25
theorem dA:(Tryz.prog.info? 25).map (·.size)=some 2:=by kernel_rfl
theorem Hw:CF Tryz.prog 20:=cfo Tryz.func20 (by kernel_rfl)
theorem Qd:∀ (w:World) (q:Addr),(Instr.fieldAt 25 (.pointer (some q)) 0).run Tryz.prog w= .ok (.pointer (some (q.add 0))) w:=fun w q=>by kernel_rfl
abbrev U22:=Tryz.underlying22
theorem Qe:CF Tryz.prog 46:=cfo Tryz.func46 (by kernel_rfl)
theorem Hx:CF Tryz.prog 105:=cfo Tryz.func105 (by kernel_rfl)
theorem iR:(Tryz.prog.info? 95).map (·.size)=some 5:=by kernel_rfl
abbrev U95:=Tryz.underlying95
theorem Yp:CF Tryz.prog 47:=cfo Tryz.func47 (by kernel_rfl)
theorem Qf:∀ (w:World) (q:Addr),(Instr.fieldAt 95 (.pointer (some q)) 3).run Tryz.prog w= .ok (.pointer (some (q.add 3))) w:=fun w q=>by kernel_rfl
abbrev U2:=Tryz.underlying2
theorem Qg:∀ (w:World) (q:Addr),(Instr.fieldAt 95 (.pointer (some q)) 0).run Tryz.prog w= .ok (.pointer (some (q.add 0))) w:=fun w q=>by kernel_rfl
abbrev U9:=Tryz.underlying9
theorem Qh:∀ (w:World) (q:Addr),(Instr.fieldAt 95 (.pointer (some q)) 1).run Tryz.prog w= .ok (.pointer (some (q.add 1))) w:=fun w q=>by kernel_rfl
theorem Qi:∀ (w:World) (q:Addr),(Instr.fieldAt 95 (.pointer (some q)) 2).run Tryz.prog w= .ok (.pointer (some (q.add 2))) w:=fun w q=>by kernel_rfl
theorem Qj:∀ (w:World) (q:Addr),(Instr.fieldAt 95 (.pointer (some q)) 4).run Tryz.prog w= .ok (.pointer (some (q.add 4))) w:=fun w q=>by kernel_rfl
theorem Qk:CF Tryz.prog 48:=cfo Tryz.func48 (by kernel_rfl)
theorem yU:CF Tryz.prog 51:=cfo Tryz.func51 (by kernel_rfl)
theorem Mm:CF Tryz.prog 107:=cfo Tryz.func107 (by kernel_rfl)
theorem Mn:CF Tryz.prog 172:=cfo Tryz.func172 (by kernel_rfl)
theorem Uq:CF Tryz.prog 236:=cfo Tryz.func236 (by kernel_rfl)
theorem Ur:CF Tryz.prog 286:=cfo Tryz.func286 (by kernel_rfl)
abbrev U33:=Tryz.underlying33
theorem Hy:CF Tryz.prog 177:=cfo Tryz.func177 (by kernel_rfl)
theorem Us:CF Tryz.prog 238:=cfo Tryz.func238 (by kernel_rfl)
theorem Ql:∀ (w:World) (s:ByteArray) (c:Int),(callFunc 288 #[.string s,.int .u8 c]).run Tryz.prog w= .ok (.value (.int .i64 (ixB s c))) w:=fun w s c=>Fa Tryz.func288 (by kernel_rfl) (by kernel_rfl) (by kernel_rfl) (e:=Extern.BytealgIndexByte.indexByte) (by kernel_rfl) (Ns s c w)
theorem Hz:CF Tryz.prog 178:=cfo Tryz.func178 (by kernel_rfl)
theorem Ut:CF Tryz.prog 239:=cfo Tryz.func239 (by kernel_rfl)
theorem Uu:CF Tryz.prog 289:=cfo Tryz.func289 (by kernel_rfl)
theorem Uv:CF Tryz.prog 324:=cfo Tryz.func324 (by kernel_rfl)
theorem Uw:CF Tryz.prog 240:=cfo Tryz.func240 (by kernel_rfl)
theorem Ux:CF Tryz.prog 241:=cfo Tryz.func241 (by kernel_rfl)
theorem Uy:CF Tryz.prog 290:=cfo Tryz.func290 (by kernel_rfl)
theorem Uz:CF Tryz.prog 325:=cfo Tryz.func325 (by kernel_rfl)
theorem Ia:(Tryz.prog.info? 9).map (fun i=>(i.zero,i.size,i.bytes))=some (some (.string ⟨#[]⟩),1,16):=by kernel_rfl
theorem Lp:CF Tryz.prog 52:=cfo Tryz.func52 (by kernel_rfl)
theorem Qm:∀ (w:World) (q:Addr),(Instr.fieldAt 25 (.pointer (some q)) 1).run Tryz.prog w= .ok (.pointer (some (q.add 1))) w:=fun w q=>by kernel_rfl
abbrev U23:=Tryz.underlying23
theorem Yq:CF Tryz.prog 49:=cfo Tryz.func49 (by kernel_rfl)
theorem Va:CF Tryz.prog 106:=cfo Tryz.func106 (by kernel_rfl)
theorem oK:(Tryz.prog.info? 77).map (·.size)=some 2:=by kernel_rfl
abbrev U77:=Tryz.underlying77
theorem Yr:CF Tryz.prog 50:=cfo Tryz.func50 (by kernel_rfl)
theorem Qn:∀ (w:World) (q:Addr),(Instr.fieldAt 77 (.pointer (some q)) 0).run Tryz.prog w= .ok (.pointer (some (q.add 0))) w:=fun w q=>by kernel_rfl
theorem Qo:∀ (w:World) (q:Addr),(Instr.fieldAt 77 (.pointer (some q)) 1).run Tryz.prog w= .ok (.pointer (some (q.add 1))) w:=fun w q=>by kernel_rfl
theorem Ys:CF Tryz.prog 53:=cfo Tryz.func53 (by kernel_rfl)
theorem Qp:CF Tryz.prog 54:=cfo Tryz.func54 (by kernel_rfl)
theorem Yt:CF Tryz.prog 55:=cfo Tryz.func55 (by kernel_rfl)
theorem Qq:CF Tryz.prog 56:=cfo Tryz.func56 (by kernel_rfl)
theorem Fk:CF Tryz.prog 21:=cfo Tryz.func21 (by kernel_rfl)
abbrev U32:=Tryz.underlying32
theorem gL:(Tryz.prog.info? 31).map (·.size)=some 3:=by kernel_rfl
abbrev U31:=Tryz.underlying31
theorem Cg:(Tryz.prog.info? 31).bind (·.zero)=some (.agg Gn.toArray):=by kernel_rfl
theorem Qr:∀ (w:World) (q:Addr),(Instr.fieldAt 31 (.pointer (some q)) 0).run Tryz.prog w= .ok (.pointer (some (q.add 0))) w:=fun w q=>by kernel_rfl
theorem Qs:∀ (w:World) (q:Addr),(Instr.fieldAt 31 (.pointer (some q)) 1).run Tryz.prog w= .ok (.pointer (some (q.add 1))) w:=fun w q=>by kernel_rfl
theorem Qt:∀ (w:World) (q:Addr),(Instr.fieldAt 31 (.pointer (some q)) 2).run Tryz.prog w= .ok (.pointer (some (q.add 2))) w:=fun w q=>by kernel_rfl
abbrev U3:=Tryz.underlying3
theorem Fl:CF Tryz.prog 18:=cfo Tryz.func18 (by kernel_rfl)
theorem Yu:CF Tryz.prog 16:=cfo Tryz.func16 (by kernel_rfl)
theorem Yv:CF Tryz.prog 42:=cfo Tryz.func42 (by kernel_rfl)
theorem Yw:CF Tryz.prog 97:=cfo Tryz.func97 (by kernel_rfl)
theorem Vb:CF Tryz.prog 174:=cfo Tryz.func174 (by kernel_rfl)
abbrev U58:=Tryz.underlying58
theorem O3:(Tryz.prog.info? 60).map (·.size)=some 6:=by kernel_rfl
abbrev U60:=Tryz.underlying60
theorem Yx:CF Tryz.prog 98:=cfo Tryz.func98 (by kernel_rfl)
theorem Qu:CF Tryz.prog 99:=cfo Tryz.func99 (by kernel_rfl)
theorem Qv:∀ (w:World) (q:Addr),(Instr.fieldAt 60 (.pointer (some q)) 0).run Tryz.prog w= .ok (.pointer (some (q.add 0))) w:=fun w q=>by kernel_rfl
theorem Qw:∀ (w:World) (q:Addr),(Instr.fieldAt 60 (.pointer (some q)) 1).run Tryz.prog w= .ok (.pointer (some (q.add 1))) w:=fun w q=>by kernel_rfl
theorem Qx:∀ (w:World) (q:Addr),(Instr.fieldAt 60 (.pointer (some q)) 2).run Tryz.prog w= .ok (.pointer (some (q.add 2))) w:=fun w q=>by kernel_rfl
theorem Qy:∀ (w:World) (q:Addr),(Instr.fieldAt 60 (.pointer (some q)) 4).run Tryz.prog w= .ok (.pointer (some (q.add 4))) w:=fun w q=>by kernel_rfl
theorem Vc:CF Tryz.prog 175:=cfo Tryz.func175 (by kernel_rfl)
theorem Qz:∀ (w:World) (q:Addr),(Instr.fieldAt 60 (.pointer (some q)) 3).run Tryz.prog w= .ok (.pointer (some (q.add 3))) w:=fun w q=>by kernel_rfl
theorem Rb:∀ (w:World) (q:Addr),(Instr.fieldAt 60 (.pointer (some q)) 5).run Tryz.prog w= .ok (.pointer (some (q.add 5))) w:=fun w q=>by kernel_rfl
abbrev U4:=Tryz.underlying4
theorem Vd:CF Tryz.prog 176:=cfo Tryz.func176 (by kernel_rfl)
theorem Ve:(Tryz.prog.info? 230).bind (·.zero)=some (.agg #[.int .i64 0,.int .i64 0,.int .i64 0,.int .i64 0,.int .i64 0,.int .i64 0,.int .i64 0,.int .i64 0]):=by kernel_rfl
theorem Mo:(Tryz.prog.info? 230).map (·.size)=some 8:=by kernel_rfl
abbrev Rc:=Tryz.underlying230
theorem sz3:(Tryz.prog.info? 3).map (·.size)=some 1:=by kernel_rfl
theorem Yy:(Tryz.prog.info? 60).bind (·.zero)=some (.agg Yo.toArray):=by kernel_rfl
theorem Yz:CF Tryz.prog 43:=cfo Tryz.func43 (by kernel_rfl)
theorem Za:(Tryz.prog.info? 99).bind (·.zero)=some (.slice none 0 0):=by kernel_rfl
theorem Ib:CF Tryz.prog 101:=cfo Tryz.func101 (by kernel_rfl)
theorem Dw:CF Tryz.prog 148:=cfo Tryz.func148 (by kernel_rfl)
theorem Mp:CF Tryz.prog 203:=cfo Tryz.func203 (by kernel_rfl)
theorem Vf:CF Tryz.prog 270:=cfo Tryz.func270 (by kernel_rfl)
theorem Vg:CF Tryz.prog 318:=cfo Tryz.func318 (by kernel_rfl)
theorem zr9:(Tryz.prog.info? 9).bind (·.zero)=some (.string ⟨#[]⟩):=by kernel_rfl
theorem sz9:(Tryz.prog.info? 9).map (·.size)=some 1:=by kernel_rfl
theorem Vh:(Tryz.prog.info? 162).bind (·.zero)=some (.nilFunc):=by kernel_rfl
theorem Vi:(Tryz.prog.info? 162).map (·.size)=some 1:=by kernel_rfl
abbrev Fm:=Tryz.underlying162
theorem Bd:CF Tryz.prog 102:=cfo Tryz.func102 (by kernel_rfl)
theorem Z8:(Tryz.prog.info? 85).bind (·.zero)=some (.agg Up.toArray):=by kernel_rfl
theorem hP:(Tryz.prog.info? 85).map (·.size)=some 7:=by kernel_rfl
abbrev U85:=Tryz.underlying85
theorem Rd:∀ (w:World) (q:Addr),(Instr.fieldAt 85 (.pointer (some q)) 3).run Tryz.prog w= .ok (.pointer (some (q.add 3))) w:=fun w q=>by kernel_rfl
theorem Re:∀ (w:World) (q:Addr),(Instr.fieldAt 85 (.pointer (some q)) 5).run Tryz.prog w= .ok (.pointer (some (q.add 5))) w:=fun w q=>by kernel_rfl
theorem sz2:(Tryz.prog.info? 2).map (·.size)=some 1:=by kernel_rfl
theorem Rf:∀ (w:World) (q:Addr),(Instr.fieldAt 85 (.pointer (some q)) 6).run Tryz.prog w= .ok (.pointer (some (q.add 6))) w:=fun w q=>by kernel_rfl
theorem sz4:(Tryz.prog.info? 4).map (·.size)=some 1:=by kernel_rfl
theorem J7:CF Tryz.prog 100:=cfo Tryz.func100 (by kernel_rfl)
abbrev U99:=Tryz.underlying99
theorem Vj:(Tryz.prog.info? 85).map (fun i=>(i.zero,i.size,i.bytes))=some (some (.agg #[.int .i64 0,.string ⟨#[]⟩,.string ⟨#[]⟩,.string ⟨#[]⟩,.int .i64 0,.int .i64 0,.bool false]),7,80):=by kernel_rfl
theorem Zb:(Tryz.prog.info? 99).map (·.size)=some 1:=by kernel_rfl
theorem Ic:CF Tryz.prog 104:=cfo Tryz.func104 (by kernel_rfl)
theorem Rg:∀ (w:World) (q:Addr),(Instr.fieldAt 85 (.pointer (some q)) 4).run Tryz.prog w= .ok (.pointer (some (q.add 4))) w:=fun w q=>by kernel_rfl
theorem Ie:CF Tryz.prog 103:=cfo Tryz.func103 (by kernel_rfl)
abbrev U26:=Tryz.underlying26
theorem Vk:(Tryz.prog.info? 87).map (fun i=>(i.zero,i.size,i.bytes))=some (some (.agg #[.int .i64 0,.int .i64 0,.string ⟨#[]⟩,.string ⟨#[]⟩,.string ⟨#[]⟩,.int .i64 0,.int .i64 0,.bool false]),8,88):=by kernel_rfl
theorem O4:CF Tryz.prog 11:=cfo Tryz.func11 (by kernel_rfl)
theorem gN:(Tryz.prog.info? 48).bind (·.zero)=some (.agg bN.toArray):=by kernel_rfl
theorem Zc:(Tryz.prog.info? 89).bind (·.zero)=some (.agg #[.nilFunc,.nilFunc,.nilFunc,.nilFunc,.nilFunc,.nilFunc,.nilFunc,.nilFunc,.nilFunc,.nilFunc,.nilFunc]):=by kernel_rfl
theorem Zd:(Tryz.prog.info? 89).map (·.size)=some 11:=by kernel_rfl
abbrev U37:=Tryz.underlying37
theorem s7:(Tryz.prog.info? 37).map (·.size)=some 16:=by kernel_rfl
theorem Ze:CF Tryz.prog 35:=cfo Tryz.func35 (by kernel_rfl)
theorem Ka:∀ (w:World) (q:Addr),(Instr.fieldAt 37 (.pointer (some q)) 5).run Tryz.prog w= .ok (.pointer (some (q.add 5))) w:=fun w q=>by kernel_rfl
theorem s8:(Tryz.prog.info? 87).map (·.size)=some 8:=by kernel_rfl
abbrev U87:=Tryz.underlying87
theorem Ig:(Tryz.prog.info? 87).bind (·.zero)=some (.agg Ub.toArray):=by kernel_rfl
theorem Rh:∀ (w:World) (q:Addr),(Instr.fieldAt 87 (.pointer (some q)) 0).run Tryz.prog w= .ok (.pointer (some (q.add 0))) w:=fun w q=>by kernel_rfl
theorem Ri:∀ (w:World) (q:Addr),(Instr.fieldAt 87 (.pointer (some q)) 1).run Tryz.prog w= .ok (.pointer (some (q.add 1))) w:=fun w q=>by kernel_rfl
theorem Rj:CF Tryz.prog 92:=cfo Tryz.func92 (by kernel_rfl)
theorem Rk:∀ (w:World) (q:Addr),(Instr.fieldAt 85 (.pointer (some q)) 2).run Tryz.prog w= .ok (.pointer (some (q.add 2))) w:=fun w q=>by kernel_rfl
theorem Rl:∀ (w:World) (q:Addr),(Instr.fieldAt 85 (.pointer (some q)) 0).run Tryz.prog w= .ok (.pointer (some (q.add 0))) w:=fun w q=>by kernel_rfl
theorem Rm:∀ (w:World) (q:Addr),(Instr.fieldAt 85 (.pointer (some q)) 1).run Tryz.prog w= .ok (.pointer (some (q.add 1))) w:=fun w q=>by kernel_rfl
theorem Oa:∀ (w:World) (q:Addr),(Instr.fieldAt 37 (.pointer (some q)) 10).run Tryz.prog w= .ok (.pointer (some (q.add 11))) w:=fun w q=>by kernel_rfl
theorem Fp:∀ (w:World) (q:Addr),(Instr.fieldAt 37 (.pointer (some q)) 6).run Tryz.prog w= .ok (.pointer (some (q.add 6))) w:=fun w q=>by kernel_rfl
theorem Lq:CF Tryz.prog 93:=cfo Tryz.func93 (by kernel_rfl)
theorem Mq:CF Tryz.prog 173:=cfo Tryz.func173 (by kernel_rfl)
theorem Vl:CF Tryz.prog 237:=cfo Tryz.func237 (by kernel_rfl)
theorem Vm:CF Tryz.prog 287:=cfo Tryz.func287 (by kernel_rfl)
theorem Rn:∀ (w:World) (q:Addr),(Instr.fieldAt 37 (.pointer (some q)) 0).run Tryz.prog w= .ok (.pointer (some (q.add 0))) w:=fun w q=>by kernel_rfl
theorem Ro:∀ (w:World) (q:Addr),(Instr.fieldAt 37 (.pointer (some q)) 8).run Tryz.prog w= .ok (.pointer (some (q.add 8))) w:=fun w q=>by kernel_rfl
theorem O5:∀ (w:World) (q:Addr),(Instr.fieldAt 37 (.pointer (some q)) 1).run Tryz.prog w= .ok (.pointer (some (q.add 1))) w:=fun w q=>by kernel_rfl
theorem Be:∀ (w:World) (q:Addr),(Instr.fieldAt 37 (.pointer (some q)) 2).run Tryz.prog w= .ok (.pointer (some (q.add 2))) w:=fun w q=>by kernel_rfl
theorem Rq:∀ (w:World) (q:Addr),(Instr.fieldAt 37 (.pointer (some q)) 3).run Tryz.prog w= .ok (.pointer (some (q.add 3))) w:=fun w q=>by kernel_rfl
theorem Rr:∀ (w:World) (q:Addr),(Instr.fieldAt 37 (.pointer (some q)) 7).run Tryz.prog w= .ok (.pointer (some (q.add 7))) w:=fun w q=>by kernel_rfl
theorem R9:∀ (w:World) (q:Addr),(Instr.fieldAt 37 (.pointer (some q)) 11).run Tryz.prog w= .ok (.pointer (some (q.add 12))) w:=fun w q=>by kernel_rfl
theorem Bf:∀ (w:World) (q:Addr),(Instr.fieldAt 35 (.pointer (some q)) 0).run Tryz.prog w= .ok (.pointer (some (q.add 0))) w:=fun w q=>by kernel_rfl
theorem Fq:∀ (w:World) (q:Addr),(Instr.fieldAt 35 (.pointer (some q)) 1).run Tryz.prog w= .ok (.pointer (some (q.add 1))) w:=fun w q=>by kernel_rfl
theorem Zf:CF Tryz.prog 94:=cfo Tryz.func94 (by kernel_rfl)
abbrev U46:=Tryz.underlying46
theorem Rs:CF Tryz.prog 95:=cfo Tryz.func95 (by kernel_rfl)
theorem Rt:∀ (w:World) (q:Addr),(Instr.fieldAt 35 (.pointer (some q)) 2).run Tryz.prog w= .ok (.pointer (some (q.add 2))) w:=fun w q=>by kernel_rfl
theorem Ru:∀ (w:World) (q:Addr),(Instr.fieldAt 37 (.pointer (some q)) 9).run Tryz.prog w= .ok (.pointer (some (q.add 9))) w:=fun w q=>by kernel_rfl
theorem tM:CF Tryz.prog 36:=cfo Tryz.func36 (by kernel_rfl)
theorem bU:(Tryz.prog.info? 48).map (·.size)=some 10:=by kernel_rfl
abbrev U48:=Tryz.underlying48
abbrev U89:=Tryz.underlying89
theorem E2:(Tryz.prog.info? 88).map (·.size)=some 1:=by kernel_rfl
abbrev U88:=Tryz.underlying88
theorem Ih:CF Tryz.prog 37:=cfo Tryz.func37 (by kernel_rfl)
theorem O6:∀ (w:World) (q:Addr),(Instr.fieldAt 75 (.pointer (some q)) 4).run Tryz.prog w= .ok (.pointer (some (q.add 6))) w:=fun w q=>by kernel_rfl
abbrev U68:=Tryz.underlying68
theorem yV:(Tryz.prog.info? 48).bind (·.zero)=some (.agg [.int .i64 0,.int .i64 0,.bool false,.int .i64 0,.slice none 0 0,.slice none 0 0,.slice none 0 0,.slice none 0 0,.slice none 0 0,.slice none 0 0].toArray):=by kernel_rfl
theorem A4:∀ (w:World) (ok:Nat→Prop),bI.R w ok nP [.int .i64 0,.int .i64 0,.bool false,.int .i64 0,.slice none 0 0,.slice none 0 0,.slice none 0 0,.slice none 0 0,.slice none 0 0,.slice none 0 0]:=fun w ok=>lS (Sl.nil _ _ _) (Sl.nil _ _ _) (Sl.nil _ _ _) (Sl.nil _ _ _) (Sl.nil _ _ _) (Sl.nil _ _ _)
theorem kG:Tryz.prog.follows .mixedOrders=true:=by kernel_rfl
theorem Zg:CF Tryz.prog 34:=cfo Tryz.func34 (by kernel_rfl)
theorem Fr:∀ (w:World) (q:Addr),(Instr.fieldAt 75 (.pointer (some q)) 3).run Tryz.prog w= .ok (.pointer (some (q.add 4))) w:=fun w q=>by kernel_rfl
abbrev U73:=Tryz.underlying73
theorem eE:(Tryz.prog.info? 73).map (·.size)=some 2:=by kernel_rfl
theorem Zh:CF Tryz.prog 91:=cfo Tryz.func91 (by kernel_rfl)
theorem J8:(Tryz.prog.info? 73).bind (·.zero)=some (.agg #[.slice none 0 0,.slice none 0 0]):=by kernel_rfl
theorem Dx:CF Tryz.prog 160:=cfo Tryz.func160 (by kernel_rfl)
theorem Kb:∀ (w:World) (q:Addr),(Instr.fieldAt 73 (.pointer (some q)) 0).run Tryz.prog w= .ok (.pointer (some (q.add 0))) w:=fun w q=>by kernel_rfl
abbrev U70:=Tryz.underlying70
theorem pK:(Tryz.prog.info? 35).map (·.size)=some 4:=by kernel_rfl
abbrev U35:=Tryz.underlying35
theorem Rv:(Tryz.prog.info? 35).bind (·.zero)=some (.agg Ua.toArray):=by kernel_rfl
theorem Fs:(Tryz.prog.info? 3).bind (·.zero)=some (.int .i64 0):=by kernel_rfl
abbrev Zi:=Tryz.underlying274
theorem G9:rK Tryz.prog 274 xS:=Lo (Maps.Keyed.of_law (deep_law_laid (by kernel_rfl) (m:=3) (by omega) (of_decide_eq_true (by kernel_rfl)) (by kernel_rfl) (by kernel_rfl))) Zi U2 U2 (by kernel_rfl) ⟨by kernel_rfl,by kernel_rfl,by kernel_rfl,rfl,rfl⟩ (by kernel_rfl) (by kernel_rfl)
abbrev Z9:=Tryz.underlying272
theorem Kc:∀ (w:World) (q:Addr),(Instr.fieldAt 73 (.pointer (some q)) 1).run Tryz.prog w= .ok (.pointer (some (q.add 1))) w:=fun w q=>by kernel_rfl
abbrev U71:=Tryz.underlying71
theorem rL:(Tryz.prog.info? 215).map (·.size)=some 3:=by kernel_rfl
theorem Oc:∀ (w:World) (q:Addr),(Instr.fieldAt 215 (.pointer (some q)) 0).run Tryz.prog w= .ok (.pointer (some (q.add 0))) w:=fun w q=>by kernel_rfl
theorem Vn:CF Tryz.prog 226:=cfo Tryz.func226 (by kernel_rfl)
theorem Vo:CF Tryz.prog 280:=cfo Tryz.func280 (by kernel_rfl)
theorem Ii:CF Tryz.prog 230:=cfo Tryz.func230 (by kernel_rfl)
theorem Vp:CF Tryz.prog 281:=cfo Tryz.func281 (by kernel_rfl)
abbrev Zj:=Tryz.underlying211
theorem Mr:CF Tryz.prog 161:=cfo Tryz.func161 (by kernel_rfl)
theorem Dy:CF Tryz.prog 229:=cfo Tryz.func229 (by kernel_rfl)
theorem Vq:CF Tryz.prog 227:=cfo Tryz.func227 (by kernel_rfl)
theorem Vr:CF Tryz.prog 282:=cfo Tryz.func282 (by kernel_rfl)
theorem Vs:CF Tryz.prog 322:=cfo Tryz.func322 (by kernel_rfl)
abbrev Ch:=Tryz.underlying215
theorem Vt:CF Tryz.prog 283:=cfo Tryz.func283 (by kernel_rfl)
abbrev Zk:=Tryz.underlying277
theorem Vu:CF Tryz.prog 228:=cfo Tryz.func228 (by kernel_rfl)
theorem Od:∀ (w:World) (q:Addr),(Instr.fieldAt 215 (.pointer (some q)) 1).run Tryz.prog w= .ok (.pointer (some (q.add 1))) w:=fun w q=>by kernel_rfl
theorem Hg:∀ (w:World) (q:Addr),(Instr.fieldAt 215 (.pointer (some q)) 2).run Tryz.prog w= .ok (.pointer (some (q.add 2))) w:=fun w q=>by kernel_rfl
abbrev U44:=Tryz.underlying44
theorem rM:(Tryz.prog.info? 223).map (·.size)=some 4:=by kernel_rfl
abbrev Ci:=Tryz.underlying223
theorem Ij:(Tryz.prog.info? 223).bind (·.zero)=some (.agg Tz.toArray):=by kernel_rfl
theorem Oe:∀ (w:World) (q:Addr),(Instr.fieldAt 223 (.pointer (some q)) 0).run Tryz.prog w= .ok (.pointer (some (q.add 0))) w:=fun w q=>by kernel_rfl
theorem Of:∀ (w:World) (q:Addr),(Instr.fieldAt 223 (.pointer (some q)) 1).run Tryz.prog w= .ok (.pointer (some (q.add 1))) w:=fun w q=>by kernel_rfl
theorem Og:∀ (w:World) (q:Addr),(Instr.fieldAt 223 (.pointer (some q)) 2).run Tryz.prog w= .ok (.pointer (some (q.add 2))) w:=fun w q=>by kernel_rfl
theorem Oh:∀ (w:World) (q:Addr),(Instr.fieldAt 223 (.pointer (some q)) 3).run Tryz.prog w= .ok (.pointer (some (q.add 3))) w:=fun w q=>by kernel_rfl
theorem Ik:CF Tryz.prog 163:=cfo Tryz.func163 (by kernel_rfl)
theorem Dz:CF Tryz.prog 164:=cfo Tryz.func164 (by kernel_rfl)
theorem Vv:CF Tryz.prog 232:=cfo Tryz.func232 (by kernel_rfl)
theorem Ms:CF Tryz.prog 284:=cfo Tryz.func284 (by kernel_rfl)
theorem Ea:CF Tryz.prog 166:=cfo Tryz.func166 (by kernel_rfl)
theorem Rw:(Tryz.prog.info? 215).map (fun i=>(i.zero,i.size,i.bytes))=some (some (.agg #[.int .i64 0,.int .i64 0,.slice none 0 0]),3,40):=by kernel_rfl
theorem eG{w:World}{os:List Ob}{rs:List Rp}{v:Value}{xs:List aD}(H:Sep w os rs)(hm:rSl aO v xs ∈ rs)(hl:xs.length ≤ LIM) :
    Calls Tryz.prog 166 [v].toArray w (Ret fun v' w'=>Sep w' (Row 215 aO v' xs::os) rs):=by
  obtain ⟨b,c,rfl⟩:=H.slform hm
  refine enter Tryz.func166 rfl Tryz.ntmps166 rfl fun a E=>?_
  simp only [pG,Nat.reduceAdd] at E
  refine wp_seq ?_
  refine wp_region_lit ?_
  refine aQ E (wn rfl) rfl rfl (cM E rfl rfl) ?_
  clear E;clear a;intro a E
  refine wpList_nil ?_
  refine aC ?_
  refine wp_seq ?_
  refine wp_seq ?_
  refine wp_region_lit ?_
  refine aQ E (wn rfl) rfl rfl (bD E rfl rfl) ?_
  clear E;clear a;intro a E
  refine aQ E (wn rfl) rfl rfl (zQ E rfl rfl rfl Tryz.underlying71) ?_
  clear E;clear a;intro a E
  refine wpList_nil ?_
  refine aC ?_
  refine nS E rfl ?_ ?_
  · intro hb
    cases b with
    | some _=>cases hb
    | none=>
      obtain rfl:=H.sl_none hm
      refine wp_seq ?_
      refine wp_region_lit ?_
      refine aQ E (wn rfl) rfl rfl (cM E rfl rfl) ?_
      clear E;clear a;intro a E
      refine wpList_nil ?_
      refine aC ?_
      refine wp_ret ?_
      refine aP ?_
      refine aY E rfl rfl ?_
      exact H.nilRow 215 aO
  · intro hb
    refine wp_skip ?_
    refine aC ?_
    refine wp_seq ?_
    refine wp_region_lit ?_
    refine fY (e:=215) (d:=aO) (cs:=[]) (xs:=[]) E H (wn rfl) rfl rfl (ps:=[]) (parts:=[]) rfl rfl (by kernel_rfl) rfl rfl (fun ok hr=>Rows.nil _ _ _) ?_
    clear E H;clear a;clear w;intro v2 w a H E
    refine aQ E (wn rfl) rfl rfl (bD E rfl rfl) ?_
    clear E;clear a;intro a E
    refine dV (i:=0) E H (wn rfl) rfl rfl rfl rfl rfl rfl (jA hm) Tryz.underlying71 Rw rfl (by simpa using hl) rfl ?_
    clear E H;clear a;clear w;intro v3 w a H E
    refine aQ E (wn rfl) rfl rfl (cM E rfl rfl) ?_
    clear E;clear a;intro a E
    refine wpList_nil ?_
    refine aC ?_
    refine wp_ret ?_
    refine aY E rfl rfl ?_
    exact H

theorem Ft:(Tryz.prog.info? 71).map (·.size)=some 1:=by kernel_rfl
theorem Bg:CF Tryz.prog 170:=cfo Tryz.func170 (by kernel_rfl)
theorem Bh:(Tryz.prog.info? 223).map (fun i=>(i.zero,i.size,i.bytes))=some (some (.agg #[.int .i64 0,.int .i64 0,.string ⟨#[]⟩,.int .i64 0]),4,40):=by kernel_rfl
theorem dZ{w:World}{os:List Ob}{rs:List Rp}{v:Value}{xs:List bK}(H:Sep w os rs)(hm:rSl aV v xs ∈ rs)(hl:xs.length ≤ LIM) :
    Calls Tryz.prog 170 [v].toArray w (Ret fun v' w'=>Sep w' (Row 223 aV v' xs::os) rs):=by
  obtain ⟨b,c,rfl⟩:=H.slform hm
  refine enter Tryz.func170 rfl Tryz.ntmps170 rfl fun a E=>?_
  simp only [pG,Nat.reduceAdd] at E
  refine wp_seq ?_
  refine wp_region_lit ?_
  refine aQ E (wn rfl) rfl rfl (cM E rfl rfl) ?_
  clear E;clear a;intro a E
  refine wpList_nil ?_
  refine aC ?_
  refine wp_seq ?_
  refine wp_seq ?_
  refine wp_region_lit ?_
  refine aQ E (wn rfl) rfl rfl (bD E rfl rfl) ?_
  clear E;clear a;intro a E
  refine aQ E (wn rfl) rfl rfl (zQ E rfl rfl rfl Tryz.underlying44) ?_
  clear E;clear a;intro a E
  refine wpList_nil ?_
  refine aC ?_
  refine nS E rfl ?_ ?_
  · intro hb
    cases b with
    | some _=>cases hb
    | none=>
      obtain rfl:=H.sl_none hm
      refine wp_seq ?_
      refine wp_region_lit ?_
      refine aQ E (wn rfl) rfl rfl (cM E rfl rfl) ?_
      clear E;clear a;intro a E
      refine wpList_nil ?_
      refine aC ?_
      refine wp_ret ?_
      refine aP ?_
      refine aY E rfl rfl ?_
      exact H.nilRow 223 aV
  · intro hb
    refine wp_skip ?_
    refine aC ?_
    refine wp_seq ?_
    refine wp_region_lit ?_
    refine fY (e:=223) (d:=aV) (cs:=[]) (xs:=[]) E H (wn rfl) rfl rfl (ps:=[]) (parts:=[]) rfl rfl (by kernel_rfl) rfl rfl (fun ok hr=>Rows.nil _ _ _) ?_
    clear E H;clear a;clear w;intro v2 w a H E
    refine aQ E (wn rfl) rfl rfl (bD E rfl rfl) ?_
    clear E;clear a;intro a E
    refine dV (i:=0) E H (wn rfl) rfl rfl rfl rfl rfl rfl (jA hm) Tryz.underlying44 Bh rfl (by simpa using hl) rfl ?_
    clear E H;clear a;clear w;intro v3 w a H E
    refine aQ E (wn rfl) rfl rfl (cM E rfl rfl) ?_
    clear E;clear a;intro a E
    refine wpList_nil ?_
    refine aC ?_
    refine wp_ret ?_
    refine aY E rfl rfl ?_
    exact H

theorem Vw:CF Tryz.prog 169:=cfo Tryz.func169 (by kernel_rfl)
theorem Vx:CF Tryz.prog 235:=cfo Tryz.func235 (by kernel_rfl)
theorem Mt:CF Tryz.prog 171:=cfo Tryz.func171 (by kernel_rfl)
theorem Rx:(Tryz.prog.info? 223).bind (·.zero)=some (.agg #[.int .i64 0,.int .i64 0,.string ⟨#[]⟩,.int .i64 0]):=by kernel_rfl
theorem Il:(Tryz.prog.info? 44).map (·.size)=some 1:=by kernel_rfl
theorem Lr:CF Tryz.prog 89:=cfo Tryz.func89 (by kernel_rfl)
theorem Ry:∀ (w:World) (q:Addr),(Instr.fieldAt 48 (.pointer (some q)) 0).run Tryz.prog w= .ok (.pointer (some (q.add 0))) w:=fun w q=>by kernel_rfl
abbrev U41:=Tryz.underlying41
theorem Zl:CF Tryz.prog 33:=cfo Tryz.func33 (by kernel_rfl)
theorem Rz:CF Tryz.prog 90:=cfo Tryz.func90 (by kernel_rfl)
theorem Mu:CF Tryz.prog 162:=cfo Tryz.func162 (by kernel_rfl)
theorem Vy:CF Tryz.prog 231:=cfo Tryz.func231 (by kernel_rfl)
theorem Eb:CF Tryz.prog 167:=cfo Tryz.func167 (by kernel_rfl)
theorem Im:(Tryz.prog.info? 35).map (fun i=>(i.zero,i.size,i.bytes))=some (some (.agg #[.int .i64 0,.int .i64 0,.string ⟨#[]⟩,.bool false]),4,40):=by kernel_rfl
theorem fM{w:World}{os:List Ob}{rs:List Rp}{v:Value}{xs:List aK}(H:Sep w os rs)(hm:rSl aX v xs ∈ rs)(hl:xs.length ≤ LIM) :
    Calls Tryz.prog 167 [v].toArray w (Ret fun v' w'=>Sep w' (Row 35 aX v' xs::os) rs):=by
  obtain ⟨b,c,rfl⟩:=H.slform hm
  refine enter Tryz.func167 rfl Tryz.ntmps167 rfl fun a E=>?_
  simp only [pG,Nat.reduceAdd] at E
  refine wp_seq ?_
  refine wp_region_lit ?_
  refine aQ E (wn rfl) rfl rfl (cM E rfl rfl) ?_
  clear E;clear a;intro a E
  refine wpList_nil ?_
  refine aC ?_
  refine wp_seq ?_
  refine wp_seq ?_
  refine wp_region_lit ?_
  refine aQ E (wn rfl) rfl rfl (bD E rfl rfl) ?_
  clear E;clear a;intro a E
  refine aQ E (wn rfl) rfl rfl (zQ E rfl rfl rfl Tryz.underlying70) ?_
  clear E;clear a;intro a E
  refine wpList_nil ?_
  refine aC ?_
  refine nS E rfl ?_ ?_
  · intro hb
    cases b with
    | some _=>cases hb
    | none=>
      obtain rfl:=H.sl_none hm
      refine wp_seq ?_
      refine wp_region_lit ?_
      refine aQ E (wn rfl) rfl rfl (cM E rfl rfl) ?_
      clear E;clear a;intro a E
      refine wpList_nil ?_
      refine aC ?_
      refine wp_ret ?_
      refine aP ?_
      refine aY E rfl rfl ?_
      exact H.nilRow 35 aX
  · intro hb
    refine wp_skip ?_
    refine aC ?_
    refine wp_seq ?_
    refine wp_region_lit ?_
    refine fY (e:=35) (d:=aX) (cs:=[]) (xs:=[]) E H (wn rfl) rfl rfl (ps:=[]) (parts:=[]) rfl rfl (by kernel_rfl) rfl rfl (fun ok hr=>Rows.nil _ _ _) ?_
    clear E H;clear a;clear w;intro v2 w a H E
    refine aQ E (wn rfl) rfl rfl (bD E rfl rfl) ?_
    clear E;clear a;intro a E
    refine dV (i:=0) E H (wn rfl) rfl rfl rfl rfl rfl rfl (jA hm) Tryz.underlying70 Im rfl (by simpa using hl) rfl ?_
    clear E H;clear a;clear w;intro v3 w a H E
    refine aQ E (wn rfl) rfl rfl (cM E rfl rfl) ?_
    clear E;clear a;intro a E
    refine wpList_nil ?_
    refine aC ?_
    refine wp_ret ?_
    refine aY E rfl rfl ?_
    exact H

theorem Vz:CF Tryz.prog 168:=cfo Tryz.func168 (by kernel_rfl)
theorem Io:(Tryz.prog.info? 70).map (·.size)=some 1:=by kernel_rfl
theorem Zm:CF Tryz.prog 32:=cfo Tryz.func32 (by kernel_rfl)
theorem Sa:CF Tryz.prog 88:=cfo Tryz.func88 (by kernel_rfl)
theorem Ip:CF Tryz.prog 165:=cfo Tryz.func165 (by kernel_rfl)
theorem Zn:CF Tryz.prog 25:=cfo Tryz.func25 (by kernel_rfl)
theorem Sb:CF Tryz.prog 65:=cfo Tryz.func65 (by kernel_rfl)
theorem Wb:CF Tryz.prog 117:=cfo Tryz.func117 (by kernel_rfl)
theorem Wc:CF Tryz.prog 118:=cfo Tryz.func118 (by kernel_rfl)
theorem Ls:CF Tryz.prog 66:=cfo Tryz.func66 (by kernel_rfl)
theorem Iq:CF Tryz.prog 119:=cfo Tryz.func119 (by kernel_rfl)
theorem Zo:CF Tryz.prog 67:=cfo Tryz.func67 (by kernel_rfl)
abbrev U28:=Tryz.underlying28
theorem Sc:∀ (w:World) (q:Addr),(Instr.fieldAt 75 (.pointer (some q)) 2).run Tryz.prog w= .ok (.pointer (some (q.add 3))) w:=fun w q=>by kernel_rfl
abbrev U62:=Tryz.underlying62
theorem Zp:CF Tryz.prog 68:=cfo Tryz.func68 (by kernel_rfl)
theorem Bi:CF Tryz.prog 120:=cfo Tryz.func120 (by kernel_rfl)
theorem gQ:(Tryz.prog.info? 103).map (·.size)=some 3:=by kernel_rfl
abbrev s9:=Tryz.underlying103
theorem Wd:CF Tryz.prog 121:=cfo Tryz.func121 (by kernel_rfl)
theorem Oi:∀ (w:World) (q:Addr),(Instr.fieldAt 103 (.pointer (some q)) 0).run Tryz.prog w= .ok (.pointer (some (q.add 0))) w:=fun w q=>by kernel_rfl
theorem Oj:∀ (w:World) (q:Addr),(Instr.fieldAt 103 (.pointer (some q)) 1).run Tryz.prog w= .ok (.pointer (some (q.add 1))) w:=fun w q=>by kernel_rfl
theorem Sd:CF Tryz.prog 69:=cfo Tryz.func69 (by kernel_rfl)
theorem Mv:CF Tryz.prog 122:=cfo Tryz.func122 (by kernel_rfl)
theorem We:CF Tryz.prog 123:=cfo Tryz.func123 (by kernel_rfl)
theorem Ke:∀ (w:World) (q:Addr),(Instr.fieldAt 75 (.pointer (some q)) 1).run Tryz.prog w= .ok (.pointer (some (q.add 2))) w:=fun w q=>by kernel_rfl
theorem Wf:CF Tryz.prog 124:=cfo Tryz.func124 (by kernel_rfl)
theorem Aa:CF Tryz.prog 76:=cfo Tryz.func76 (by kernel_rfl)
theorem Sf:CF Tryz.prog 70:=cfo Tryz.func70 (by kernel_rfl)
theorem Bj:∀ (w:World) (q:Addr),(Instr.fieldAt 75 (.pointer (some q)) 0).run Tryz.prog w= .ok (.pointer (some (q.add 0))) w:=fun w q=>by kernel_rfl
theorem Lt:CF Tryz.prog 72:=cfo Tryz.func72 (by kernel_rfl)
theorem jN:(Tryz.prog.info? 25).bind (·.zero)=some (.agg #[.slice none 0 0,.slice none 0 0]):=by kernel_rfl
theorem Wg:CF Tryz.prog 138:=cfo Tryz.func138 (by kernel_rfl)
theorem Sg:(Tryz.prog.info? 81).bind (·.zero)=some (.agg O2.toArray):=by kernel_rfl
theorem Wh:(Tryz.prog.info? 249).bind (·.zero)=some (.agg #[.nilFunc,.nilFunc,.nilFunc,.nilFunc,.nilFunc,.nilFunc,.nilFunc,.nilFunc,.nilFunc,.nilFunc,.nilFunc]):=by kernel_rfl
theorem Wi:(Tryz.prog.info? 249).map (·.size)=some 11:=by kernel_rfl
theorem zU:(Tryz.prog.info? 81).map (·.size)=some 5:=by kernel_rfl
theorem Sh:CF Tryz.prog 39:=cfo Tryz.func39 (by kernel_rfl)
theorem Ec:(Tryz.prog.info? 95).map (fun i=>(i.zero,i.size,i.bytes))=some (some (.agg #[.string ⟨#[]⟩,.string ⟨#[]⟩,.int .i64 0,.int .i64 0,.int .i64 0]),5,56):=by kernel_rfl
theorem nE{w:World}{os:List Ob}{rs:List Rp}{v:Value}{xs:List aE}(H:Sep w os rs)(hm:rSl aF v xs ∈ rs)(hl:xs.length ≤ LIM) :
    Calls Tryz.prog 39 [v].toArray w (Ret fun v' w'=>Sep w' (Row 95 aF v' xs::os) rs):=by
  obtain ⟨b,c,rfl⟩:=H.slform hm
  refine enter Tryz.func39 rfl Tryz.ntmps39 rfl fun a E=>?_
  simp only [pG,Nat.reduceAdd] at E
  refine wp_seq ?_
  refine wp_region_lit ?_
  refine aQ E (wn rfl) rfl rfl (cM E rfl rfl) ?_
  clear E;clear a;intro a E
  refine wpList_nil ?_
  refine aC ?_
  refine wp_seq ?_
  refine wp_seq ?_
  refine wp_region_lit ?_
  refine aQ E (wn rfl) rfl rfl (bD E rfl rfl) ?_
  clear E;clear a;intro a E
  refine aQ E (wn rfl) rfl rfl (zQ E rfl rfl rfl Tryz.underlying22) ?_
  clear E;clear a;intro a E
  refine wpList_nil ?_
  refine aC ?_
  refine nS E rfl ?_ ?_
  · intro hb
    cases b with
    | some _=>cases hb
    | none=>
      obtain rfl:=H.sl_none hm
      refine wp_seq ?_
      refine wp_region_lit ?_
      refine aQ E (wn rfl) rfl rfl (cM E rfl rfl) ?_
      clear E;clear a;intro a E
      refine wpList_nil ?_
      refine aC ?_
      refine wp_ret ?_
      refine aP ?_
      refine aY E rfl rfl ?_
      exact H.nilRow 95 aF
  · intro hb
    refine wp_skip ?_
    refine aC ?_
    refine wp_seq ?_
    refine wp_region_lit ?_
    refine fY (e:=95) (d:=aF) (cs:=[]) (xs:=[]) E H (wn rfl) rfl rfl (ps:=[]) (parts:=[]) rfl rfl (by kernel_rfl) rfl rfl (fun ok hr=>Rows.nil _ _ _) ?_
    clear E H;clear a;clear w;intro v2 w a H E
    refine aQ E (wn rfl) rfl rfl (bD E rfl rfl) ?_
    clear E;clear a;intro a E
    refine dV (i:=0) E H (wn rfl) rfl rfl rfl rfl rfl rfl (jA hm) Tryz.underlying22 Ec rfl (by simpa using hl) rfl ?_
    clear E H;clear a;clear w;intro v3 w a H E
    refine aQ E (wn rfl) rfl rfl (cM E rfl rfl) ?_
    clear E;clear a;intro a E
    refine wpList_nil ?_
    refine aC ?_
    refine wp_ret ?_
    refine aY E rfl rfl ?_
    exact H

theorem Si:CF Tryz.prog 40:=cfo Tryz.func40 (by kernel_rfl)
theorem Ed:(Tryz.prog.info? 77).map (fun i=>(i.zero,i.size,i.bytes))=some (some (.agg #[.string ⟨#[]⟩,.int .i64 0]),2,24):=by kernel_rfl
theorem nF{w:World}{os:List Ob}{rs:List Rp}{v:Value}{xs:List aI}(H:Sep w os rs)(hm:rSl aJ v xs ∈ rs)(hl:xs.length ≤ LIM) :
    Calls Tryz.prog 40 [v].toArray w (Ret fun v' w'=>Sep w' (Row 77 aJ v' xs::os) rs):=by
  obtain ⟨b,c,rfl⟩:=H.slform hm
  refine enter Tryz.func40 rfl Tryz.ntmps40 rfl fun a E=>?_
  simp only [pG,Nat.reduceAdd] at E
  refine wp_seq ?_
  refine wp_region_lit ?_
  refine aQ E (wn rfl) rfl rfl (cM E rfl rfl) ?_
  clear E;clear a;intro a E
  refine wpList_nil ?_
  refine aC ?_
  refine wp_seq ?_
  refine wp_seq ?_
  refine wp_region_lit ?_
  refine aQ E (wn rfl) rfl rfl (bD E rfl rfl) ?_
  clear E;clear a;intro a E
  refine aQ E (wn rfl) rfl rfl (zQ E rfl rfl rfl Tryz.underlying23) ?_
  clear E;clear a;intro a E
  refine wpList_nil ?_
  refine aC ?_
  refine nS E rfl ?_ ?_
  · intro hb
    cases b with
    | some _=>cases hb
    | none=>
      obtain rfl:=H.sl_none hm
      refine wp_seq ?_
      refine wp_region_lit ?_
      refine aQ E (wn rfl) rfl rfl (cM E rfl rfl) ?_
      clear E;clear a;intro a E
      refine wpList_nil ?_
      refine aC ?_
      refine wp_ret ?_
      refine aP ?_
      refine aY E rfl rfl ?_
      exact H.nilRow 77 aJ
  · intro hb
    refine wp_skip ?_
    refine aC ?_
    refine wp_seq ?_
    refine wp_region_lit ?_
    refine fY (e:=77) (d:=aJ) (cs:=[]) (xs:=[]) E H (wn rfl) rfl rfl (ps:=[]) (parts:=[]) rfl rfl (by kernel_rfl) rfl rfl (fun ok hr=>Rows.nil _ _ _) ?_
    clear E H;clear a;clear w;intro v2 w a H E
    refine aQ E (wn rfl) rfl rfl (bD E rfl rfl) ?_
    clear E;clear a;intro a E
    refine dV (i:=0) E H (wn rfl) rfl rfl rfl rfl rfl rfl (jA hm) Tryz.underlying23 Ed rfl (by simpa using hl) rfl ?_
    clear E H;clear a;clear w;intro v3 w a H E
    refine aQ E (wn rfl) rfl rfl (cM E rfl rfl) ?_
    clear E;clear a;intro a E
    refine wpList_nil ?_
    refine aC ?_
    refine wp_ret ?_
    refine aY E rfl rfl ?_
    exact H

abbrev E3:=Tryz.underlying249
theorem q6:(Tryz.prog.info? 246).map (·.size)=some 1:=by kernel_rfl
abbrev E4:=Tryz.underlying246
theorem Wj:CF Tryz.prog 202:=cfo Tryz.func202 (by kernel_rfl)
theorem Ir:CF Tryz.prog 266:=cfo Tryz.func266 (by kernel_rfl)
theorem Wk:(Tryz.prog.info? 107).bind (·.zero)=some (.nilFunc):=by kernel_rfl
theorem Wl:(Tryz.prog.info? 107).map (·.size)=some 1:=by kernel_rfl
abbrev Is:=Tryz.underlying248
theorem Ok:∀ (w:World) (q:Addr),(Instr.fieldAt 251 (.pointer (some q)) 0).run Tryz.prog w= .ok (.pointer (some (q.add 0))) w:=fun w q=>by kernel_rfl
theorem Wm:CF Tryz.prog 268:=cfo Tryz.func268 (by kernel_rfl)
theorem Mw:CF Tryz.prog 269:=cfo Tryz.func269 (by kernel_rfl)
abbrev Zq:=Tryz.underlying107
theorem It:CF Tryz.prog 317:=cfo Tryz.func317 (by kernel_rfl)
theorem Ol:∀ (w:World) (q:Addr),(Instr.fieldAt 251 (.pointer (some q)) 1).run Tryz.prog w= .ok (.pointer (some (q.add 2))) w:=fun w q=>by kernel_rfl
theorem Sj:∀ (w:World) (q:Addr),(Instr.fieldAt 81 (.pointer (some q)) 4).run Tryz.prog w= .ok (.pointer (some (q.add 4))) w:=fun w q=>by kernel_rfl
theorem Iu:CF Tryz.prog 261:=cfo Tryz.func261 (by kernel_rfl)
theorem Sk:(Tryz.prog.info? 33).map (·.size)=some 1:=by kernel_rfl
theorem Lu:(Tryz.prog.info? 95).bind (·.zero)=some (.agg Un.toArray):=by kernel_rfl
theorem Wn:(Tryz.prog.info? 95).bind (·.zero)=some (.agg #[.string ⟨#[]⟩,.string ⟨#[]⟩,.int .i64 0,.int .i64 0,.int .i64 0]):=by kernel_rfl
theorem Cj:(Tryz.prog.info? 22).map (·.size)=some 1:=by kernel_rfl
theorem Wo:CF Tryz.prog 201:=cfo Tryz.func201 (by kernel_rfl)
theorem Wp:CF Tryz.prog 200:=cfo Tryz.func200 (by kernel_rfl)
theorem S1:CF Tryz.prog 256:=cfo Tryz.func256 (by kernel_rfl)
theorem Iv:CF Tryz.prog 262:=cfo Tryz.func262 (by kernel_rfl)
theorem Wq:CF Tryz.prog 313:=cfo Tryz.func313 (by kernel_rfl)
theorem Mx:CF Tryz.prog 314:=cfo Tryz.func314 (by kernel_rfl)
theorem Fu:CF Tryz.prog 84:=cfo Tryz.func84 (by kernel_rfl)
theorem Wr:CF Tryz.prog 158:=cfo Tryz.func158 (by kernel_rfl)
theorem Kf:∀ (w:World) (s t:ByteArray),(callFunc 217 #[.string s,.string t]).run Tryz.prog w= .ok (.value (.int .i64 (Extern.BytealgCompare.cmp s t))) w:=fun w s t=>Fa Tryz.func217 (by kernel_rfl) (by kernel_rfl) (by kernel_rfl) (e:=Extern.BytealgCompare.compare) (by kernel_rfl) (Ld s t w)
theorem J9:CF Tryz.prog 257:=cfo Tryz.func257 (by kernel_rfl)
theorem Ws:CF Tryz.prog 199:=cfo Tryz.func199 (by kernel_rfl)
theorem Bk:∀ (w:World) (q:Addr),(Op.equal 294 (.pointer (some q)) (.pointer none)).run Tryz.prog w= .ok false w:=fun w q=>by kernel_rfl
theorem Bl:∀ w:World,(Op.equal 294 (.pointer none) (.pointer none)).run Tryz.prog w= .ok true w:=fun w=>by kernel_rfl
theorem Sm:∀ (w:World) (q:Addr),(Instr.fieldAt 81 (.pointer (some q)) 2).run Tryz.prog w= .ok (.pointer (some (q.add 2))) w:=fun w q=>by kernel_rfl
theorem Sn:∀ (w:World) (q:Addr),(Instr.fieldAt 81 (.pointer (some q)) 3).run Tryz.prog w= .ok (.pointer (some (q.add 3))) w:=fun w q=>by kernel_rfl
theorem Wu:CF Tryz.prog 198:=cfo Tryz.func198 (by kernel_rfl)
theorem Wv:CF Tryz.prog 197:=cfo Tryz.func197 (by kernel_rfl)
theorem Ww:CF Tryz.prog 196:=cfo Tryz.func196 (by kernel_rfl)
theorem Iw:CF Tryz.prog 258:=cfo Tryz.func258 (by kernel_rfl)
theorem Ix:CF Tryz.prog 308:=cfo Tryz.func308 (by kernel_rfl)
theorem My:CF Tryz.prog 309:=cfo Tryz.func309 (by kernel_rfl)
theorem Iy:CF Tryz.prog 310:=cfo Tryz.func310 (by kernel_rfl)
theorem K1:(Tryz.prog.info? 23).map (·.size)=some 1:=by kernel_rfl
theorem Wx:CF Tryz.prog 267:=cfo Tryz.func267 (by kernel_rfl)
theorem Iz:CF Tryz.prog 311:=cfo Tryz.func311 (by kernel_rfl)
theorem Wy:CF Tryz.prog 195:=cfo Tryz.func195 (by kernel_rfl)
theorem Wz:CF Tryz.prog 265:=cfo Tryz.func265 (by kernel_rfl)
theorem Xa:CF Tryz.prog 194:=cfo Tryz.func194 (by kernel_rfl)
theorem Xb:CF Tryz.prog 259:=cfo Tryz.func259 (by kernel_rfl)
theorem Xc:CF Tryz.prog 260:=cfo Tryz.func260 (by kernel_rfl)
theorem Xd:CF Tryz.prog 312:=cfo Tryz.func312 (by kernel_rfl)
theorem Mz:CF Tryz.prog 185:=cfo Tryz.func185 (by kernel_rfl)
theorem Xe:CF Tryz.prog 263:=cfo Tryz.func263 (by kernel_rfl)
theorem Xf:CF Tryz.prog 264:=cfo Tryz.func264 (by kernel_rfl)
theorem So:∀ (w:World) (q:Addr),(Instr.fieldAt 81 (.pointer (some q)) 1).run Tryz.prog w= .ok (.pointer (some (q.add 1))) w:=fun w q=>by kernel_rfl
theorem Xg:CF Tryz.prog 193:=cfo Tryz.func193 (by kernel_rfl)
theorem Sp:∀ (w:World) (q:Addr),(Instr.fieldAt 81 (.pointer (some q)) 0).run Tryz.prog w= .ok (.pointer (some (q.add 0))) w:=fun w q=>by kernel_rfl
abbrev U81:=Tryz.underlying81
abbrev U40:=Tryz.underlying40
theorem Xh:(Tryz.prog.info? 81).map (fun i=>(i.zero,i.size,i.bytes))=some (some (.agg #[.int .i64 0,.string ⟨#[]⟩,.string ⟨#[]⟩,.int .i64 0,.slice none 0 0]),5,72):=by kernel_rfl
theorem Xi:CF Tryz.prog 125:=cfo Tryz.func125 (by kernel_rfl)
theorem Ee:CF Tryz.prog 184:=cfo Tryz.func184 (by kernel_rfl)
theorem Xj:CF Tryz.prog 252:=cfo Tryz.func252 (by kernel_rfl)
theorem Xk:CF Tryz.prog 295:=cfo Tryz.func295 (by kernel_rfl)
theorem Na:CF Tryz.prog 296:=cfo Tryz.func296 (by kernel_rfl)
theorem Sq:∀ (w:World) (q:Addr),(Instr.fieldAt 35 (.pointer (some q)) 3).run Tryz.prog w= .ok (.pointer (some (q.add 3))) w:=fun w q=>by kernel_rfl
theorem Xl:CF Tryz.prog 297:=cfo Tryz.func297 (by kernel_rfl)
theorem Xm:(Tryz.prog.info? 35).bind (·.zero)=some (.agg #[.int .i64 0,.int .i64 0,.string ⟨#[]⟩,.bool false]):=by kernel_rfl
theorem Zr:CF Tryz.prog 31:=cfo Tryz.func31 (by kernel_rfl)
theorem Zs:CF Tryz.prog 87:=cfo Tryz.func87 (by kernel_rfl)
theorem Ja:CF Tryz.prog 151:=cfo Tryz.func151 (by kernel_rfl)
theorem Nb:CF Tryz.prog 152:=cfo Tryz.func152 (by kernel_rfl)
theorem Nc:CF Tryz.prog 204:=cfo Tryz.func204 (by kernel_rfl)
theorem Jb:CF Tryz.prog 143:=cfo Tryz.func143 (by kernel_rfl)
theorem Sr:CF Tryz.prog 45:=cfo Tryz.func45 (by kernel_rfl)
theorem Xn:(Tryz.prog.info? 31).map (fun i=>(i.zero,i.size,i.bytes))=some (some (.agg #[.string ⟨#[]⟩,.int .i64 0,.int .i64 0]),3,32):=by kernel_rfl
theorem mC{w:World}{os:List Ob}{rs:List Rp}{v:Value}{xs:List aH}(H:Sep w os rs)(hm:rSl aS v xs ∈ rs)(hl:xs.length ≤ LIM) :
    Calls Tryz.prog 45 [v].toArray w (Ret fun v' w'=>Sep w' (Row 31 aS v' xs::os) rs):=by
  obtain ⟨b,c,rfl⟩:=H.slform hm
  refine enter Tryz.func45 rfl Tryz.ntmps45 rfl fun a E=>?_
  simp only [pG,Nat.reduceAdd] at E
  refine wp_seq ?_
  refine wp_region_lit ?_
  refine aQ E (wn rfl) rfl rfl (cM E rfl rfl) ?_
  clear E;clear a;intro a E
  refine wpList_nil ?_
  refine aC ?_
  refine wp_seq ?_
  refine wp_seq ?_
  refine wp_region_lit ?_
  refine aQ E (wn rfl) rfl rfl (bD E rfl rfl) ?_
  clear E;clear a;intro a E
  refine aQ E (wn rfl) rfl rfl (zQ E rfl rfl rfl Tryz.underlying32) ?_
  clear E;clear a;intro a E
  refine wpList_nil ?_
  refine aC ?_
  refine nS E rfl ?_ ?_
  · intro hb
    cases b with
    | some _=>cases hb
    | none=>
      obtain rfl:=H.sl_none hm
      refine wp_seq ?_
      refine wp_region_lit ?_
      refine aQ E (wn rfl) rfl rfl (cM E rfl rfl) ?_
      clear E;clear a;intro a E
      refine wpList_nil ?_
      refine aC ?_
      refine wp_ret ?_
      refine aP ?_
      refine aY E rfl rfl ?_
      exact H.nilRow 31 aS
  · intro hb
    refine wp_skip ?_
    refine aC ?_
    refine wp_seq ?_
    refine wp_region_lit ?_
    refine fY (e:=31) (d:=aS) (cs:=[]) (xs:=[]) E H (wn rfl) rfl rfl (ps:=[]) (parts:=[]) rfl rfl (by kernel_rfl) rfl rfl (fun ok hr=>Rows.nil _ _ _) ?_
    clear E H;clear a;clear w;intro v2 w a H E
    refine aQ E (wn rfl) rfl rfl (bD E rfl rfl) ?_
    clear E;clear a;intro a E
    refine dV (i:=0) E H (wn rfl) rfl rfl rfl rfl rfl rfl (jA hm) Tryz.underlying32 Xn rfl (by simpa using hl) rfl ?_
    clear E H;clear a;clear w;intro v3 w a H E
    refine aQ E (wn rfl) rfl rfl (cM E rfl rfl) ?_
    clear E;clear a;intro a E
    refine wpList_nil ?_
    refine aC ?_
    refine wp_ret ?_
    refine aY E rfl rfl ?_
    exact H

theorem Nd:CF Tryz.prog 154:=cfo Tryz.func154 (by kernel_rfl)
theorem u7:CF Tryz.prog 78:=cfo Tryz.func78 (by kernel_rfl)
theorem Xo:(Tryz.prog.info? 109).bind (·.zero)=some (.nilFunc):=by kernel_rfl
theorem Xp:(Tryz.prog.info? 109).map (·.size)=some 1:=by kernel_rfl
theorem Xq:CF Tryz.prog 146:=cfo Tryz.func146 (by kernel_rfl)
theorem Xr:CF Tryz.prog 147:=cfo Tryz.func147 (by kernel_rfl)
abbrev Ss:=Tryz.underlying109
theorem Nf:CF Tryz.prog 145:=cfo Tryz.func145 (by kernel_rfl)
theorem Xs:CF Tryz.prog 149:=cfo Tryz.func149 (by kernel_rfl)
theorem Zt:(Tryz.prog.info? 77).bind (·.zero)=some (.agg #[.string (ByteArray.mk #[]),.int .i64 0]):=by kernel_rfl
theorem Xt:CF Tryz.prog 150:=cfo Tryz.func150 (by kernel_rfl)
theorem Lv:(Tryz.prog.info? 32).map (·.size)=some 1:=by kernel_rfl
theorem Zu:CF Tryz.prog 30:=cfo Tryz.func30 (by kernel_rfl)
theorem Lw:CF Tryz.prog 74:=cfo Tryz.func74 (by kernel_rfl)
theorem Xu:CF Tryz.prog 141:=cfo Tryz.func141 (by kernel_rfl)
theorem Xv:CF Tryz.prog 142:=cfo Tryz.func142 (by kernel_rfl)
theorem Zv:CF Tryz.prog 79:=cfo Tryz.func79 (by kernel_rfl)
theorem Zw:CF Tryz.prog 80:=cfo Tryz.func80 (by kernel_rfl)
theorem Ng:CF Tryz.prog 153:=cfo Tryz.func153 (by kernel_rfl)
theorem St:CF Tryz.prog 77:=cfo Tryz.func77 (by kernel_rfl)
theorem Jc:CF Tryz.prog 127:=cfo Tryz.func127 (by kernel_rfl)
theorem Xw:CF Tryz.prog 144:=cfo Tryz.func144 (by kernel_rfl)
theorem Zx:CF Tryz.prog 81:=cfo Tryz.func81 (by kernel_rfl)
theorem Xx:CF Tryz.prog 155:=cfo Tryz.func155 (by kernel_rfl)
theorem Zy:CF Tryz.prog 82:=cfo Tryz.func82 (by kernel_rfl)
theorem Zz:CF Tryz.prog 85:=cfo Tryz.func85 (by kernel_rfl)
theorem AA:CF Tryz.prog 29:=cfo Tryz.func29 (by kernel_rfl)
theorem AB:CF Tryz.prog 75:=cfo Tryz.func75 (by kernel_rfl)
theorem AC:CF Tryz.prog 28:=cfo Tryz.func28 (by kernel_rfl)
theorem Kg:∀ (w:World) (q:Addr),(Instr.fieldAt 75 (.pointer (some q)) 6).run Tryz.prog w= .ok (.pointer (some (q.add 8))) w:=fun w q=>by kernel_rfl
theorem Su:∀ (w:World) (q:Addr),(Instr.fieldAt 37 (.pointer (some q)) 4).run Tryz.prog w= .ok (.pointer (some (q.add 4))) w:=fun w q=>by kernel_rfl
theorem AD:CF Tryz.prog 27:=cfo Tryz.func27 (by kernel_rfl)
theorem Fv:∀ (w:World) (q:Addr),(Instr.fieldAt 75 (.pointer (some q)) 5).run Tryz.prog w= .ok (.pointer (some (q.add 7))) w:=fun w q=>by kernel_rfl
abbrev U69:=Tryz.underlying69
theorem Bm:(Tryz.prog.info? 128).bind (·.zero)=some (.agg [.bool false,.slice none 0 0,.int .i64 0,.int .i64 0,.bool false,.int .i64 0,.slice none 0 0,.slice none 0 0,.slice none 0 0,.slice none 0 0,.slice none 0 0,.slice none 0 0].toArray):=by kernel_rfl
theorem Ef:∀ (w:World) (ok:Nat→Prop),cQ.R w ok E1 [.bool false,.slice none 0 0,.int .i64 0,.int .i64 0,.bool false,.int .i64 0,.slice none 0 0,.slice none 0 0,.slice none 0 0,.slice none 0 0,.slice none 0 0,.slice none 0 0]:=fun w ok=>zT (Sl.nil _ _ _) (Sl.nil _ _ _) (Sl.nil _ _ _) (Sl.nil _ _ _) (Sl.nil _ _ _) (Sl.nil _ _ _) (Sl.nil _ _ _)
theorem Eg:(Tryz.prog.info? 128).bind (·.zero)=some (.agg Uc.toArray):=by kernel_rfl
theorem Eh:(Tryz.prog.info? 128).map (·.size)=some 12:=by kernel_rfl
theorem Om:∀ (w:World) (q:Addr),(Instr.fieldAt 128 (.pointer (some q)) 0).run Tryz.prog w= .ok (.pointer (some (q.add 0))) w:=fun w q=>by kernel_rfl
theorem AE:CF Tryz.prog 73:=cfo Tryz.func73 (by kernel_rfl)
theorem Lx:CF Tryz.prog 44:=cfo Tryz.func44 (by kernel_rfl)
theorem Sv:(Tryz.prog.info? 103).map (fun i=>(i.zero,i.size,i.bytes))=some (some (.agg #[.string ⟨#[]⟩,.int .i64 0,.int .i64 0]),3,32):=by kernel_rfl
theorem iS{w:World}{os:List Ob}{rs:List Rp}{v:Value}{xs:List aN}(H:Sep w os rs)(hm:rSl bG v xs ∈ rs)(hl:xs.length ≤ LIM) :
    Calls Tryz.prog 44 [v].toArray w (Ret fun v' w'=>Sep w' (Row 103 bG v' xs::os) rs):=by
  obtain ⟨b,c,rfl⟩:=H.slform hm
  refine enter Tryz.func44 rfl Tryz.ntmps44 rfl fun a E=>?_
  simp only [pG,Nat.reduceAdd] at E
  refine wp_seq ?_
  refine wp_region_lit ?_
  refine aQ E (wn rfl) rfl rfl (cM E rfl rfl) ?_
  clear E;clear a;intro a E
  refine wpList_nil ?_
  refine aC ?_
  refine wp_seq ?_
  refine wp_seq ?_
  refine wp_region_lit ?_
  refine aQ E (wn rfl) rfl rfl (bD E rfl rfl) ?_
  clear E;clear a;intro a E
  refine aQ E (wn rfl) rfl rfl (zQ E rfl rfl rfl Tryz.underlying62) ?_
  clear E;clear a;intro a E
  refine wpList_nil ?_
  refine aC ?_
  refine nS E rfl ?_ ?_
  · intro hb
    cases b with
    | some _=>cases hb
    | none=>
      obtain rfl:=H.sl_none hm
      refine wp_seq ?_
      refine wp_region_lit ?_
      refine aQ E (wn rfl) rfl rfl (cM E rfl rfl) ?_
      clear E;clear a;intro a E
      refine wpList_nil ?_
      refine aC ?_
      refine wp_ret ?_
      refine aP ?_
      refine aY E rfl rfl ?_
      exact H.nilRow 103 bG
  · intro hb
    refine wp_skip ?_
    refine aC ?_
    refine wp_seq ?_
    refine wp_region_lit ?_
    refine fY (e:=103) (d:=bG) (cs:=[]) (xs:=[]) E H (wn rfl) rfl rfl (ps:=[]) (parts:=[]) rfl rfl (by kernel_rfl) rfl rfl (fun ok hr=>Rows.nil _ _ _) ?_
    clear E H;clear a;clear w;intro v2 w a H E
    refine aQ E (wn rfl) rfl rfl (bD E rfl rfl) ?_
    clear E;clear a;intro a E
    refine dV (i:=0) E H (wn rfl) rfl rfl rfl rfl rfl rfl (jA hm) Tryz.underlying62 Sv rfl (by simpa using hl) rfl ?_
    clear E H;clear a;clear w;intro v3 w a H E
    refine aQ E (wn rfl) rfl rfl (cM E rfl rfl) ?_
    clear E;clear a;intro a E
    refine wpList_nil ?_
    refine aC ?_
    refine wp_ret ?_
    refine aY E rfl rfl ?_
    exact H

theorem Xy:CF Tryz.prog 139:=cfo Tryz.func139 (by kernel_rfl)
theorem Nh:CF Tryz.prog 140:=cfo Tryz.func140 (by kernel_rfl)
theorem Jd:(Tryz.prog.info? 103).bind (·.zero)=some (.agg Uo.toArray):=by kernel_rfl
theorem Sw:(Tryz.prog.info? 103).bind (·.zero)=some (.agg #[.string ⟨#[]⟩,.int .i64 0,.int .i64 0]):=by kernel_rfl
theorem Sx:(Tryz.prog.info? 62).map (·.size)=some 1:=by kernel_rfl
theorem On:∀ (w:World) (q:Addr),(Instr.fieldAt 128 (.pointer (some q)) 2).run Tryz.prog w= .ok (.pointer (some (q.add 2))) w:=fun w q=>by kernel_rfl
theorem Sy:∀ (w:World) (q:Addr),(Instr.fieldAt 48 (.pointer (some q)) 2).run Tryz.prog w= .ok (.pointer (some (q.add 2))) w:=fun w q=>by kernel_rfl
theorem Oo:∀ (w:World) (q:Addr),(Instr.fieldAt 128 (.pointer (some q)) 1).run Tryz.prog w= .ok (.pointer (some (q.add 1))) w:=fun w q=>by kernel_rfl
theorem AF:CF Tryz.prog 26:=cfo Tryz.func26 (by kernel_rfl)
theorem AG:CF Tryz.prog 71:=cfo Tryz.func71 (by kernel_rfl)
theorem Xz:CF Tryz.prog 126:=cfo Tryz.func126 (by kernel_rfl)
theorem Ya:CF Tryz.prog 128:=cfo Tryz.func128 (by kernel_rfl)
theorem Oq:∀ (w:World) (q:Addr),(Instr.fieldAt 103 (.pointer (some q)) 2).run Tryz.prog w= .ok (.pointer (some (q.add 2))) w:=fun w q=>by kernel_rfl
theorem Yb:CF Tryz.prog 129:=cfo Tryz.func129 (by kernel_rfl)
theorem AH:(Tryz.prog.info? 2).bind (·.zero)=some (.int .i64 0):=by kernel_rfl
abbrev Sz:=Tryz.underlying237
theorem Ei:CF Tryz.prog 130:=cfo Tryz.func130 (by kernel_rfl)
theorem Yc:CF Tryz.prog 131:=cfo Tryz.func131 (by kernel_rfl)
theorem Yd:CF Tryz.prog 186:=cfo Tryz.func186 (by kernel_rfl)
theorem Ye:CF Tryz.prog 132:=cfo Tryz.func132 (by kernel_rfl)
abbrev Ta:=Tryz.underlying183
theorem Yf:CF Tryz.prog 134:=cfo Tryz.func134 (by kernel_rfl)
theorem Yg:CF Tryz.prog 133:=cfo Tryz.func133 (by kernel_rfl)
theorem Yh:CF Tryz.prog 135:=cfo Tryz.func135 (by kernel_rfl)
theorem Ni:CF Tryz.prog 136:=cfo Tryz.func136 (by kernel_rfl)
theorem Yi:CF Tryz.prog 137:=cfo Tryz.func137 (by kernel_rfl)
theorem Tc:∀ (w:World) (q:Addr),(Instr.fieldAt 48 (.pointer (some q)) 4).run Tryz.prog w= .ok (.pointer (some (q.add 4))) w:=fun w q=>by kernel_rfl
theorem Td:CF Tryz.prog 13:=cfo Tryz.func13 (by kernel_rfl)
theorem Te:∀ (w:World) (q:Addr),(Instr.fieldAt 48 (.pointer (some q)) 3).run Tryz.prog w= .ok (.pointer (some (q.add 3))) w:=fun w q=>by kernel_rfl
theorem Tf:∀ (w:World) (q:Addr),(Instr.fieldAt 48 (.pointer (some q)) 5).run Tryz.prog w= .ok (.pointer (some (q.add 5))) w:=fun w q=>by kernel_rfl
theorem AJ:CF Tryz.prog 19:=cfo Tryz.func19 (by kernel_rfl)
theorem AK:CF Tryz.prog 17:=cfo Tryz.func17 (by kernel_rfl)
abbrev U54:=Tryz.underlying54
abbrev U55:=Tryz.underlying55
theorem sz5:(Tryz.prog.info? 5).map (·.size)=some 1:=by kernel_rfl
abbrev U5:=Tryz.underlying5
theorem Tg:∀ (w:World) (q:Addr),(Instr.fieldAt 48 (.pointer (some q)) 1).run Tryz.prog w= .ok (.pointer (some (q.add 1))) w:=fun w q=>by kernel_rfl
def tb:Tb:=⟨[(25,0,0),(25,1,1),(31,0,0),(31,1,1),(31,2,2),(35,0,0),(35,1,1),(35,2,2),(35,3,3),(37,0,0),(37,1,1),(37,2,2),(37,3,3),(37,4,4),(37,5,5),(37,6,6),(37,7,7),(37,8,8),(37,9,9),(37,10,11),(37,11,12),(48,0,0),(48,1,1),(48,2,2),(48,3,3),(48,4,4),(48,5,5),(60,0,0),(60,1,1),(60,2,2),(60,3,3),(60,4,4),(60,5,5),(73,0,0),(73,1,1),(75,0,0),(75,1,2),(75,2,3),(75,3,4),(75,4,6),(75,5,7),(75,6,8),(77,0,0),(77,1,1),(81,0,0),(81,1,1),(81,2,2),(81,3,3),(81,4,4),(85,0,0),(85,1,1),(85,2,2),(85,3,3),(85,4,4),(85,5,5),(85,6,6),(87,0,0),(87,1,1),(95,0,0),(95,1,1),(95,2,2),(95,3,3),(95,4,4),(103,0,0),(103,1,1),(103,2,2),(128,0,0),(128,1,1),(128,2,2),(215,0,0),(215,1,1),(215,2,2),(223,0,0),(223,1,1),(223,2,2),(223,3,3),(251,0,0),(251,1,2)],[(3,5,.u8),(3,208,.u64),(5,2,.i64),(21,5,.u8),(208,3,.i64)],[9]⟩
theorem Je:Hu Tryz.prog tb:=⟨⟨Qd,Qm,Qr,Qs,Qt,Bf,Fq,Rt,Sq,Rn,O5,Be,Rq,Su,Ka,Fp,Rr,Ro,Ru,Oa,R9,Ry,Tg,Sy,Te,Tc,Tf,Qv,Qw,Qx,Qz,Qy,Rb,Kb,Kc,Bj,Ke,Sc,Fr,O6,Fv,Kg,Qn,Qo,Sp,So,Sm,Sn,Sj,Rl,Rm,Rk,Rd,Rg,Re,Rf,Rh,Ri,Qg,Qh,Qi,Qf,Qj,Oi,Oj,Oq,Om,Oo,On,Oc,Od,Hg,Oe,Of,Og,Oh,Ok,Ol,trivial⟩,⟨fun _ _ _=>by kernel_rfl,fun _ _ _=>by kernel_rfl,fun _ _ _=>by kernel_rfl,fun _ _ _=>by kernel_rfl,fun _ _ _=>by kernel_rfl,trivial⟩,⟨U9,trivial⟩⟩
theorem pr{ops:Array Oper}{Q:Exit→Act→World→Prop}{w:World}{n:Nat}(k:Nat){env env':List (Nat×Value)}{l l':List Oper}{a:Act}(E:Env n a env)(h:W2 tb [] ops n k env l=some (env',l'))(kont:∀ a',Env n a' env'→wpList Tryz.prog ops Q l' a' w):wpList Tryz.prog ops Q l a w:=Aq Je k E (kn0 _) h kont
theorem pk{ops:Array Oper}{Q:Exit→Act→World→Prop}{w:World}{n:Nat}{kn:List (Nat×Bool)}(k:Nat){env env':List (Nat×Value)}{l l':List Oper}{a:Act}(E:Env n a env)(K:Kn env kn)(h:W2 tb kn ops n k env l=some (env',l'))(kont:∀ a',Env n a' env'→wpList Tryz.prog ops Q l' a' w):wpList Tryz.prog ops Q l a w:=Aq Je k E K h kont
theorem fn{ops:Array Oper}{Q:Exit→Act→World→Prop}{w:World}{n:Nat}{I:World→Prop}(k:Nat){env env':List (Nat×Value)}{l l':List (Nat×Nat)}{a:Act}(E:Env n a env)(h:Ca tb [] ops n k env l=some (env',l'))(kont:∀ a',Env n a' env'→kK Tryz.prog I ops Q l' a' w):kK Tryz.prog I ops Q l a w:=Dv Je k E (kn0 _) h kont
theorem fk{ops:Array Oper}{Q:Exit→Act→World→Prop}{w:World}{n:Nat}{kn:List (Nat×Bool)}{I:World→Prop}(k:Nat){env env':List (Nat×Value)}{l l':List (Nat×Nat)}{a:Act}(E:Env n a env)(K:Kn env kn)(h:Ca tb kn ops n k env l=some (env',l'))(kont:∀ a',Env n a' env'→kK Tryz.prog I ops Q l' a' w):kK Tryz.prog I ops Q l a w:=Dv Je k E K h kont
theorem dw{ops:Array Oper}{Q:Exit→Act→World→Prop}{w:World}{a:Act}{os:List Ob}{rs:List Rp}{id:Nat}(ord:List (Nat×Nat))(is js:List Nat)(H:Sep w os rs)(ho:Al ops ord=true)(hQ:∀ c a w,Q (.panic c) a w→False)(k:∀ w W0,dP (pkl os is) (pkl rs js) W0→Sep w os rs→kK Tryz.prog (dP (pkl os is) (pkl rs js)) ops Q ord a w):(Code.region id ops true).wp Tryz.prog Q a w:=Um kG ord is js H ho hQ k
theorem dwc{ops:Array Oper}{Q:Exit→Act→World→Prop}{w:World}{a:Act}{os:List Ob}{rs:List Rp}{id:Nat}(ord:List (Nat×Nat))(is js:List Nat)(H:Sep w os rs)(ho:R8 ops ord=true)(hQ:∀ c a w,Q (.panic c) a w→False)(k:∀ w W0,dP (pkl os is) (pkl rs js) W0→Sep w os rs→kK Tryz.prog (dP (pkl os is) (pkl rs js)) ops Q ord a w):(Code.region id ops true).wp Tryz.prog Q a w:=Qb kG ord is js H ho hQ k
end Go.Cb
