/- The types of the program and the small facts that the walks use. -/
import Derived.Test.YtpbgbliikifjjaaGreatDoorAsl2
import Derived.Test.YtpbgbliikifjjaaGreatDoorProg
set_option linter.unusedVariables false
set_option linter.unusedSimpArgs false
namespace Go.Cb
open Go.Proofs Go.RowKit
structure aF where
  Path:ByteArray
  Data:ByteArray
  Version:Int
  Turn:Int
  Owner:Int
  deriving DecidableEq,Inhabited
def aE:Kd aF:=rQ (kP kS (kP kS (kP (kI .i64) (kP (kI .i64) (kI .i64))))) fun x=>(x.Path,(x.Data,(x.Version,(x.Turn,x.Owner))))
theorem tT{w:World}{ok:Nat→Prop}{x:aF}{cs:List Value}(h:aE.R w ok x cs):cs= [.string x.Path,.string x.Data,.int .i64 x.Version,.int .i64 x.Turn,.int .i64 x.Owner]:=by
  obtain ⟨c0,d0,rfl,h0,c1,d1,rfl,h1,c2,d2,rfl,h2,c3,d3,rfl,h3,h4⟩:=h
  have e0:c0= [.string x.Path]:=h0
  subst e0
  have e1:c1= [.string x.Data]:=h1
  subst e1
  have e2:c2= [.int .i64 x.Version]:=h2
  subst e2
  have e3:c3= [.int .i64 x.Turn]:=h3
  subst e3
  have e4:d3= [.int .i64 x.Owner]:=h4
  subst e4
  rfl
theorem wU{w:World}{ok:Nat→Prop}{x:aF}:aE.R w ok x [.string x.Path,.string x.Data,.int .i64 x.Version,.int .i64 x.Turn,.int .i64 x.Owner]:=⟨[.string x.Path],_,rfl,rfl,⟨[.string x.Data],_,rfl,rfl,⟨[.int .i64 x.Version],_,rfl,rfl,⟨[.int .i64 x.Turn],_,rfl,rfl,rfl⟩⟩⟩⟩
abbrev kM (x:aF):List Value:=[.string x.Path,.string x.Data,.int .i64 x.Version,.int .i64 x.Turn,.int .i64 x.Owner]
abbrev FW:List Value:=[.string ⟨#[]⟩,.string ⟨#[]⟩,.int .i64 0,.int .i64 0,.int .i64 0]
def cO:fK aE:=⟨fun x=>[.string x.Path,.string x.Data,.int .i64 x.Version,.int .i64 x.Turn,.int .i64 x.Owner],tT,wU⟩
structure aJ where
  Dir:ByteArray
  Next:Int
  deriving DecidableEq,Inhabited
def aI:Kd aJ:=rQ (kP kS (kI .i64)) fun x=>(x.Dir,x.Next)
theorem tU{w:World}{ok:Nat→Prop}{x:aJ}{cs:List Value}(h:aI.R w ok x cs):cs= [.string x.Dir,.int .i64 x.Next]:=by
  obtain ⟨c0,d0,rfl,h0,h1⟩:=h
  have e0:c0= [.string x.Dir]:=h0
  subst e0
  have e1:d0= [.int .i64 x.Next]:=h1
  subst e1
  rfl
theorem tN{w:World}{ok:Nat→Prop}{x:aJ}:aI.R w ok x [.string x.Dir,.int .i64 x.Next]:=⟨[.string x.Dir],_,rfl,rfl,rfl⟩
def dU:fK aI:=⟨fun x=>[.string x.Dir,.int .i64 x.Next],tU,tN⟩
structure aN where
  Dir:ByteArray
  Txn:Int
  Age:Int
  deriving DecidableEq,Inhabited
def bH:Kd aN:=rQ (kP kS (kP (kI .i64) (kI .i64))) fun x=>(x.Dir,(x.Txn,x.Age))
theorem Ey{w:World}{ok:Nat→Prop}{x:aN}{cs:List Value}(h:bH.R w ok x cs):cs= [.string x.Dir,.int .i64 x.Txn,.int .i64 x.Age]:=by
  obtain ⟨c0,d0,rfl,h0,c1,d1,rfl,h1,h2⟩:=h
  have e0:c0= [.string x.Dir]:=h0
  subst e0
  have e1:c1= [.int .i64 x.Txn]:=h1
  subst e1
  have e2:d1= [.int .i64 x.Age]:=h2
  subst e2
  rfl
theorem V4{w:World}{ok:Nat→Prop}{x:aN}:bH.R w ok x [.string x.Dir,.int .i64 x.Txn,.int .i64 x.Age]:=⟨[.string x.Dir],_,rfl,rfl,⟨[.int .i64 x.Txn],_,rfl,rfl,rfl⟩⟩
abbrev pX (x:aN):List Value:=[.string x.Dir,.int .i64 x.Txn,.int .i64 x.Age]
abbrev FX:List Value:=[.string ⟨#[]⟩,.int .i64 0,.int .i64 0]
theorem P9{w:World}{ok:Nat→Prop}{q:Addr}{x:aN}{cs:List Value}(h:(rAw bH q x cs).p w ok):∃ c,(rAw kS (q.add 0) x.Dir c).p w ok∧c=(cs.drop 0).take 1:=by
  have h0:(rAw (kP kS (kP (kI .i64) (kI .i64))) q ((x.Dir,(x.Txn,x.Age))) cs).p w ok:=h
  have hl:cs.length=3:=bH.len h.2.1
  have h1:=(Bb h0)
  simp only [show ∀ q:Addr,q.add 0=q from fun q=>by simp [Addr.add]]
  refine ⟨_,h1,?_⟩
  (try simp only [kP,kI,kB,kS,kL,rQ,Kd.scalar])
  all_goals (try (apply List.ext_getElem?;intro j;simp [List.getElem?_take,List.getElem?_drop]))
  all_goals (try (intros;(try split);(try omega);(try (rw [List.getElem?_eq_none (by omega)]))))
theorem Gi{w:World}{ok:Nat→Prop}{q:Addr}{x:aN}(h:(rAt bH q x).p w ok):(rAt (kI .i64) (q.add 1) x.Txn).p w ok:=by
  have h0:(rAt (kP kS (kP (kI .i64) (kI .i64))) q ((x.Dir,(x.Txn,x.Age)))).p w ok:=h
  have h1:=(I2 (pN h0))
  simp only [add_add,kP,kI,kB,kS,kL,Kd.scalar] at h1
  exact h1
def eX:fK bH:=⟨fun x=>[.string x.Dir,.int .i64 x.Txn,.int .i64 x.Age],Ey,V4⟩
structure aG where
  Prefix:ByteArray
  Epoch:Int
  State:Int
  deriving DecidableEq,Inhabited
def aT:Kd aG:=rQ (kP kS (kP (kI .i64) (kI .i64))) fun x=>(x.Prefix,(x.Epoch,x.State))
theorem J3{w:World}{ok:Nat→Prop}{x:aG}{cs:List Value}(h:aT.R w ok x cs):cs= [.string x.Prefix,.int .i64 x.Epoch,.int .i64 x.State]:=by
  obtain ⟨c0,d0,rfl,h0,c1,d1,rfl,h1,h2⟩:=h
  have e0:c0= [.string x.Prefix]:=h0
  subst e0
  have e1:c1= [.int .i64 x.Epoch]:=h1
  subst e1
  have e2:d1= [.int .i64 x.State]:=h2
  subst e2
  rfl
theorem uY{w:World}{ok:Nat→Prop}{x:aG}:aT.R w ok x [.string x.Prefix,.int .i64 x.Epoch,.int .i64 x.State]:=⟨[.string x.Prefix],_,rfl,rfl,⟨[.int .i64 x.Epoch],_,rfl,rfl,rfl⟩⟩
abbrev mV (x:aG):List Value:=[.string x.Prefix,.int .i64 x.Epoch,.int .i64 x.State]
abbrev Mm:List Value:=[.string ⟨#[]⟩,.int .i64 0,.int .i64 0]
theorem qV{w:World}{ok:Nat→Prop}{q:Addr}{x:aG}{cs:List Value}(h:(rAw aT q x cs).p w ok):∃ c,(rAw kS (q.add 0) x.Prefix c).p w ok∧c=(cs.drop 0).take 1:=by
  have h0:(rAw (kP kS (kP (kI .i64) (kI .i64))) q ((x.Prefix,(x.Epoch,x.State))) cs).p w ok:=h
  have hl:cs.length=3:=aT.len h.2.1
  have h1:=(Bb h0)
  simp only [show ∀ q:Addr,q.add 0=q from fun q=>by simp [Addr.add]]
  refine ⟨_,h1,?_⟩
  (try simp only [kP,kI,kB,kS,kL,rQ,Kd.scalar])
  all_goals (try (apply List.ext_getElem?;intro j;simp [List.getElem?_take,List.getElem?_drop]))
  all_goals (try (intros;(try split);(try omega);(try (rw [List.getElem?_eq_none (by omega)]))))
theorem y5{w:World}{ok:Nat→Prop}{q:Addr}{x:aG}(h:(rAt aT q x).p w ok):(rAt (kI .i64) (q.add 1) x.Epoch).p w ok:=by
  have h0:(rAt (kP kS (kP (kI .i64) (kI .i64))) q ((x.Prefix,(x.Epoch,x.State)))).p w ok:=h
  have h1:=(I2 (pN h0))
  simp only [add_add,kP,kI,kB,kS,kL,Kd.scalar] at h1
  exact h1
theorem Ez{w:World}{ok:Nat→Prop}{q:Addr}{x:aG}{cs:List Value}(h:(rAw aT q x cs).p w ok):∃ c,(rAw (kI .i64) (q.add 1) x.Epoch c).p w ok∧c=(cs.drop 1).take 1:=by
  have h0:(rAw (kP kS (kP (kI .i64) (kI .i64))) q ((x.Prefix,(x.Epoch,x.State))) cs).p w ok:=h
  have hl:cs.length=3:=aT.len h.2.1
  have h1:=(Bb (Xz h0))
  simp only [add_add,kP,kI,kB,kS,kL,rQ,Kd.scalar] at h1
  refine ⟨_,h1,?_⟩
  (try simp only [kP,kI,kB,kS,kL,rQ,Kd.scalar])
  all_goals (try (apply List.ext_getElem?;intro j;simp [List.getElem?_take,List.getElem?_drop]))
  all_goals (try (intros;(try split);(try omega);(try (rw [List.getElem?_eq_none (by omega)]))))
theorem y6{w:World}{ok:Nat→Prop}{q:Addr}{x:aG}(h:(rAt aT q x).p w ok):(rAt (kI .i64) (q.add 2) x.State).p w ok:=by
  have h0:(rAt (kP kS (kP (kI .i64) (kI .i64))) q ((x.Prefix,(x.Epoch,x.State)))).p w ok:=h
  have h1:=(pN (pN h0))
  simp only [add_add,kP,kI,kB,kS,kL,Kd.scalar] at h1
  exact h1
def jI:fK aT:=⟨fun x=>[.string x.Prefix,.int .i64 x.Epoch,.int .i64 x.State],J3,uY⟩
structure bL where
  Num:Int
  Kind:Int
  Path:ByteArray
  Watch:Int
  deriving DecidableEq,Inhabited
def aX:Kd bL:=rQ (kP (kI .i64) (kP (kI .i64) (kP kS (kI .i64)))) fun x=>(x.Num,(x.Kind,(x.Path,x.Watch)))
theorem Dd{w:World}{ok:Nat→Prop}{x:bL}{cs:List Value}(h:aX.R w ok x cs):cs= [.int .i64 x.Num,.int .i64 x.Kind,.string x.Path,.int .i64 x.Watch]:=by
  obtain ⟨c0,d0,rfl,h0,c1,d1,rfl,h1,c2,d2,rfl,h2,h3⟩:=h
  have e0:c0= [.int .i64 x.Num]:=h0
  subst e0
  have e1:c1= [.int .i64 x.Kind]:=h1
  subst e1
  have e2:c2= [.string x.Path]:=h2
  subst e2
  have e3:d2= [.int .i64 x.Watch]:=h3
  subst e3
  rfl
theorem zH{w:World}{ok:Nat→Prop}{x:bL}:aX.R w ok x [.int .i64 x.Num,.int .i64 x.Kind,.string x.Path,.int .i64 x.Watch]:=⟨[.int .i64 x.Num],_,rfl,rfl,⟨[.int .i64 x.Kind],_,rfl,rfl,⟨[.string x.Path],_,rfl,rfl,rfl⟩⟩⟩
abbrev M8 (x:bL):List Value:=[.int .i64 x.Num,.int .i64 x.Kind,.string x.Path,.int .i64 x.Watch]
abbrev FI:List Value:=[.int .i64 0,.int .i64 0,.string ⟨#[]⟩,.int .i64 0]
structure aD where
  Num:Int
  Count:Int
  Events:(List bL)
  deriving DecidableEq,Inhabited
def aO:Kd aD:=rQ (kP (kI .i64) (kP (kI .i64) (kL aX))) fun x=>(x.Num,(x.Count,x.Events))
theorem dS{w:World}{ok:Nat→Prop}{x:aD}{cs:List Value}(h:aO.R w ok x cs):∃ v1:Value,cs= [.int .i64 x.Num,.int .i64 x.Count,v1]∧Sl aX w ok v1 x.Events:=by
  obtain ⟨c0,d0,rfl,h0,c1,d1,rfl,h1,h2⟩:=h
  have e0:c0= [.int .i64 x.Num]:=h0
  subst e0
  have e1:c1= [.int .i64 x.Count]:=h1
  subst e1
  obtain ⟨u0,rfl,g0⟩:=h2
  exact ⟨u0,rfl,g0⟩
theorem lC{w:World}{ok:Nat→Prop}{x:aD}{v1:Value}(g1:Sl aX w ok v1 x.Events):aO.R w ok x [.int .i64 x.Num,.int .i64 x.Count,v1]:=⟨[.int .i64 x.Num],_,rfl,rfl,⟨[.int .i64 x.Count],_,rfl,rfl,⟨_,rfl,g1⟩⟩⟩
theorem hU{w:World}{ok:Nat→Prop}{x:aD}{v1:Value}(h:aO.R w ok x [.int .i64 x.Num,.int .i64 x.Count,v1]):Sl aX w ok v1 x.Events:=by
  obtain ⟨u0,he,g0⟩:=dS h
  cases he
  exact g0
abbrev nD (x:aD) (v1:Value):List Value:=[.int .i64 x.Num,.int .i64 x.Count,v1]
theorem F2{w:World}{os:List Ob}{rs:List Rp}{x:aD}{cs:List Value}(H:Sep w os (rCs aO cs x::rs)):∃ v1:Value,cs=(nD x v1)∧Sep w os (rSl aX v1 x.Events::rCs aO (nD x v1) x::rs):=by
  obtain ⟨_,hcs⟩:=H.rd (.head _)
  obtain ⟨u0,rfl,-⟩:=dS hcs
  refine ⟨_,rfl,?_⟩
  exact (H.derive1 (.head _) (rSl aX u0 x.Events) fun ok h=>hU h)
theorem G4{w:World}{ok:Nat→Prop}{q:Addr}{x:aD}{cs:List Value}(h:(rAw aO q x cs).p w ok):∃ c,(rAw (kI .i64) (q.add 0) x.Num c).p w ok∧c=(cs.drop 0).take 1:=by
  have h0:(rAw (kP (kI .i64) (kP (kI .i64) (kL aX))) q ((x.Num,(x.Count,x.Events))) cs).p w ok:=h
  have hl:cs.length=3:=aO.len h.2.1
  have h1:=(Bb h0)
  simp only [show ∀ q:Addr,q.add 0=q from fun q=>by simp [Addr.add]]
  refine ⟨_,h1,?_⟩
  (try simp only [kP,kI,kB,kS,kL,rQ,Kd.scalar])
  all_goals (try (apply List.ext_getElem?;intro j;simp [List.getElem?_take,List.getElem?_drop]))
  all_goals (try (intros;(try split);(try omega);(try (rw [List.getElem?_eq_none (by omega)]))))
structure aK where
  Session:Int
  Num:Int
  Path:ByteArray
  Deep:Bool
  deriving DecidableEq,Inhabited
def bB:Kd aK:=rQ (kP (kI .i64) (kP (kI .i64) (kP kS kB))) fun x=>(x.Session,(x.Num,(x.Path,x.Deep)))
theorem De{w:World}{ok:Nat→Prop}{x:aK}{cs:List Value}(h:bB.R w ok x cs):cs= [.int .i64 x.Session,.int .i64 x.Num,.string x.Path,.bool x.Deep]:=by
  obtain ⟨c0,d0,rfl,h0,c1,d1,rfl,h1,c2,d2,rfl,h2,h3⟩:=h
  have e0:c0= [.int .i64 x.Session]:=h0
  subst e0
  have e1:c1= [.int .i64 x.Num]:=h1
  subst e1
  have e2:c2= [.string x.Path]:=h2
  subst e2
  have e3:d2= [.bool x.Deep]:=h3
  subst e3
  rfl
theorem B7{w:World}{ok:Nat→Prop}{x:aK}:bB.R w ok x [.int .i64 x.Session,.int .i64 x.Num,.string x.Path,.bool x.Deep]:=⟨[.int .i64 x.Session],_,rfl,rfl,⟨[.int .i64 x.Num],_,rfl,rfl,⟨[.string x.Path],_,rfl,rfl,rfl⟩⟩⟩
abbrev dX (x:aK):List Value:=[.int .i64 x.Session,.int .i64 x.Num,.string x.Path,.bool x.Deep]
abbrev FJ:List Value:=[.int .i64 0,.int .i64 0,.string ⟨#[]⟩,.bool false]
def jJ:fK bB:=⟨fun x=>[.int .i64 x.Session,.int .i64 x.Num,.string x.Path,.bool x.Deep],De,B7⟩
structure aR where
  Nodes:(List aF)
  Turns:(List aJ)
  deriving DecidableEq,Inhabited
def M9:Kd aR:=rQ (kP (kL aE) (kL aI)) fun x=>(x.Nodes,x.Turns)
theorem Df{w:World}{ok:Nat→Prop}{x:aR}{cs:List Value}(h:M9.R w ok x cs):∃ v1 v2:Value,cs= [v1,v2]∧Sl aE w ok v1 x.Nodes∧Sl aI w ok v2 x.Turns:=by
  obtain ⟨c0,d0,rfl,h0,h1⟩:=h
  obtain ⟨u0,rfl,g0⟩:=h0
  obtain ⟨u1,rfl,g1⟩:=h1
  exact ⟨u0,u1,rfl,g0,g1⟩
theorem Gj{w:World}{ok:Nat→Prop}{x:aR}{v1:Value}{v2:Value}(g1:Sl aE w ok v1 x.Nodes)(g2:Sl aI w ok v2 x.Turns):M9.R w ok x [v1,v2]:=⟨[v1],_,rfl,⟨_,rfl,g1⟩,⟨_,rfl,g2⟩⟩
theorem jQ{w:World}{os:List Ob}{rs:List Rp}{v1:Value}{yv1:List aF}{v2:Value}{yv2:List aJ}(H:Sep w os rs)(hv1:rSl aE v1 yv1 ∈ rs)(hv2:rSl aI v2 yv2 ∈ rs):[v1,v2].all (·.oneCell')=true:=by
  obtain ⟨_,_,rfl⟩:=H.slform hv1
  obtain ⟨_,_,rfl⟩:=H.slform hv2
  rfl
structure cP where
  Err:Int
  Path:ByteArray
  Data:ByteArray
  Version:Int
  Names:(List ByteArray)
  deriving DecidableEq,Inhabited
def bF:Kd cP:=rQ (kP (kI .i64) (kP kS (kP kS (kP (kI .i64) (kL kS))))) fun x=>(x.Err,(x.Path,(x.Data,(x.Version,x.Names))))
theorem Fa{w:World}{ok:Nat→Prop}{x:cP}{v1:Value}(g1:Sl kS w ok v1 x.Names):bF.R w ok x [.int .i64 x.Err,.string x.Path,.string x.Data,.int .i64 x.Version,v1]:=⟨[.int .i64 x.Err],_,rfl,rfl,⟨[.string x.Path],_,rfl,rfl,⟨[.string x.Data],_,rfl,rfl,⟨[.int .i64 x.Version],_,rfl,rfl,⟨_,rfl,g1⟩⟩⟩⟩⟩
abbrev Z3 (x:cP) (v1:Value):List Value:=[.int .i64 x.Err,.string x.Path,.string x.Data,.int .i64 x.Version,v1]
abbrev Z4:List Value:=[.int .i64 0,.string ⟨#[]⟩,.string ⟨#[]⟩,.int .i64 0,.slice none 0 0]
theorem Gk{w:World}{os:List Ob}{rs:List Rp}{z0:Int}{z1:ByteArray}{z2:ByteArray}{z3:Int}{v1:Value}{yv1:List ByteArray}(H:Sep w os rs)(hv1:rSl kS v1 yv1 ∈ rs):[.int .i64 z0,.string z1,.string z2,.int .i64 z3,v1].all (·.oneCell')=true:=by
  obtain ⟨_,_,rfl⟩:=H.slform hv1
  rfl
theorem Dg{w:World}{ok:Nat→Prop}{q:Addr}{x:cP}(h:(rAt bF q x).p w ok):(rAt kS (q.add 1) x.Path).p w ok:=by
  have h0:(rAt (kP (kI .i64) (kP kS (kP kS (kP (kI .i64) (kL kS))))) q ((x.Err,(x.Path,(x.Data,(x.Version,x.Names)))))).p w ok:=h
  have h1:=(I2 (pN h0))
  simp only [add_add,kP,kI,kB,kS,kL,Kd.scalar] at h1
  exact h1
theorem Dh{w:World}{ok:Nat→Prop}{q:Addr}{x:cP}(h:(rAt bF q x).p w ok):(rAt (kL kS) (q.add 4) x.Names).p w ok:=by
  have h0:(rAt (kP (kI .i64) (kP kS (kP kS (kP (kI .i64) (kL kS))))) q ((x.Err,(x.Path,(x.Data,(x.Version,x.Names)))))).p w ok:=h
  have h1:=(pN (pN (pN (pN h0))))
  simp only [add_add,kP,kI,kB,kS,kL,Kd.scalar] at h1
  exact h1
structure oC where
  Prefix:ByteArray
  Group:Int
  Epoch:Int
  To:Int
  deriving DecidableEq,Inhabited
def bM:Kd oC:=rQ (kP kS (kP (kI .i64) (kP (kI .i64) (kI .i64)))) fun x=>(x.Prefix,(x.Group,(x.Epoch,x.To)))
structure aH where
  Err:Int
  At:Int
  Yes:Bool
  Epoch:Int
  Results:(List cP)
  Store:aR
  Events:(List bL)
  Mounts:(List oC)
  Wounded:(List Int)
  deriving DecidableEq,Inhabited
def bJ:Kd aH:=rQ (kP (kI .i64) (kP (kI .i64) (kP kB (kP (kI .i64) (kP (kL bF) (kP M9 (kP (kL aX) (kP (kL bM) (kL (kI .i64)))))))))) fun x=>(x.Err,(x.At,(x.Yes,(x.Epoch,(x.Results,(x.Store,(x.Events,(x.Mounts,x.Wounded))))))))
theorem jY{w:World}{ok:Nat→Prop}{x:aH}{cs:List Value}(h:bJ.R w ok x cs):∃ v1 v2 v3 v4 v5 v6:Value,cs= [.int .i64 x.Err,.int .i64 x.At,.bool x.Yes,.int .i64 x.Epoch,v1,v2,v3,v4,v5,v6]∧Sl bF w ok v1 x.Results∧Sl aE w ok v2 x.Store.Nodes∧Sl aI w ok v3 x.Store.Turns∧Sl aX w ok v4 x.Events∧Sl bM w ok v5 x.Mounts∧Sl (kI .i64) w ok v6 x.Wounded:=by
  obtain ⟨c0,d0,rfl,h0,c1,d1,rfl,h1,c2,d2,rfl,h2,c3,d3,rfl,h3,c4,d4,rfl,h4,c5,d5,rfl,h5,c6,d6,rfl,h6,c7,d7,rfl,h7,h8⟩:=h
  have e0:c0= [.int .i64 x.Err]:=h0
  subst e0
  have e1:c1= [.int .i64 x.At]:=h1
  subst e1
  have e2:c2= [.bool x.Yes]:=h2
  subst e2
  have e3:c3= [.int .i64 x.Epoch]:=h3
  subst e3
  obtain ⟨u0,rfl,g0⟩:=h4
  obtain ⟨u1,u2,rfl,g1,g2⟩:=Df h5
  obtain ⟨u3,rfl,g3⟩:=h6
  obtain ⟨u4,rfl,g4⟩:=h7
  obtain ⟨u5,rfl,g5⟩:=h8
  exact ⟨u0,u1,u2,u3,u4,u5,rfl,g0,g1,g2,g3,g4,g5⟩
theorem oF{w:World}{ok:Nat→Prop}{x:aH}{v1:Value}{v2:Value}{v3:Value}{v4:Value}{v5:Value}{v6:Value}(g1:Sl bF w ok v1 x.Results)(g2:Sl aE w ok v2 x.Store.Nodes)(g3:Sl aI w ok v3 x.Store.Turns)(g4:Sl aX w ok v4 x.Events)(g5:Sl bM w ok v5 x.Mounts)(g6:Sl (kI .i64) w ok v6 x.Wounded):bJ.R w ok x [.int .i64 x.Err,.int .i64 x.At,.bool x.Yes,.int .i64 x.Epoch,v1,v2,v3,v4,v5,v6]:=⟨[.int .i64 x.Err],_,rfl,rfl,⟨[.int .i64 x.At],_,rfl,rfl,⟨[.bool x.Yes],_,rfl,rfl,⟨[.int .i64 x.Epoch],_,rfl,rfl,⟨[v1],_,rfl,⟨_,rfl,g1⟩,⟨[v2,v3],_,rfl,(Gj g2 g3),⟨[v4],_,rfl,⟨_,rfl,g4⟩,⟨[v5],_,rfl,⟨_,rfl,g5⟩,⟨_,rfl,g6⟩⟩⟩⟩⟩⟩⟩⟩⟩
theorem Bq{w:World}{ok:Nat→Prop}{x:aH}{v1 v2 v3 v4 v5 v6:Value}(h:bJ.R w ok x [.int .i64 x.Err,.int .i64 x.At,.bool x.Yes,.int .i64 x.Epoch,v1,v2,v3,v4,v5,v6]):Sl bF w ok v1 x.Results:=by
  obtain ⟨u0,u1,u2,u3,u4,u5,he,g0,g1,g2,g3,g4,g5⟩:=jY h
  cases he
  exact g0
theorem Br{w:World}{ok:Nat→Prop}{x:aH}{v1 v2 v3 v4 v5 v6:Value}(h:bJ.R w ok x [.int .i64 x.Err,.int .i64 x.At,.bool x.Yes,.int .i64 x.Epoch,v1,v2,v3,v4,v5,v6]):Sl aE w ok v2 x.Store.Nodes:=by
  obtain ⟨u0,u1,u2,u3,u4,u5,he,g0,g1,g2,g3,g4,g5⟩:=jY h
  cases he
  exact g1
theorem Bs{w:World}{ok:Nat→Prop}{x:aH}{v1 v2 v3 v4 v5 v6:Value}(h:bJ.R w ok x [.int .i64 x.Err,.int .i64 x.At,.bool x.Yes,.int .i64 x.Epoch,v1,v2,v3,v4,v5,v6]):Sl aI w ok v3 x.Store.Turns:=by
  obtain ⟨u0,u1,u2,u3,u4,u5,he,g0,g1,g2,g3,g4,g5⟩:=jY h
  cases he
  exact g2
theorem Bt{w:World}{ok:Nat→Prop}{x:aH}{v1 v2 v3 v4 v5 v6:Value}(h:bJ.R w ok x [.int .i64 x.Err,.int .i64 x.At,.bool x.Yes,.int .i64 x.Epoch,v1,v2,v3,v4,v5,v6]):Sl aX w ok v4 x.Events:=by
  obtain ⟨u0,u1,u2,u3,u4,u5,he,g0,g1,g2,g3,g4,g5⟩:=jY h
  cases he
  exact g3
theorem Bu{w:World}{ok:Nat→Prop}{x:aH}{v1 v2 v3 v4 v5 v6:Value}(h:bJ.R w ok x [.int .i64 x.Err,.int .i64 x.At,.bool x.Yes,.int .i64 x.Epoch,v1,v2,v3,v4,v5,v6]):Sl bM w ok v5 x.Mounts:=by
  obtain ⟨u0,u1,u2,u3,u4,u5,he,g0,g1,g2,g3,g4,g5⟩:=jY h
  cases he
  exact g4
theorem Bv{w:World}{ok:Nat→Prop}{x:aH}{v1 v2 v3 v4 v5 v6:Value}(h:bJ.R w ok x [.int .i64 x.Err,.int .i64 x.At,.bool x.Yes,.int .i64 x.Epoch,v1,v2,v3,v4,v5,v6]):Sl (kI .i64) w ok v6 x.Wounded:=by
  obtain ⟨u0,u1,u2,u3,u4,u5,he,g0,g1,g2,g3,g4,g5⟩:=jY h
  cases he
  exact g5
abbrev bC (x:aH) (v1:Value) (v2:Value) (v3:Value) (v4:Value) (v5:Value) (v6:Value):List Value:=[.int .i64 x.Err,.int .i64 x.At,.bool x.Yes,.int .i64 x.Epoch,v1,v2,v3,v4,v5,v6]
abbrev bN:List Value:=[.int .i64 0,.int .i64 0,.bool false,.int .i64 0,.slice none 0 0,.slice none 0 0,.slice none 0 0,.slice none 0 0,.slice none 0 0,.slice none 0 0]
theorem lD{w:World}{os:List Ob}{rs:List Rp}{x:aH}{cs:List Value}(H:Sep w os (rCs bJ cs x::rs)):∃ v1 v2 v3 v4 v5 v6:Value,cs=(bC x v1 v2 v3 v4 v5 v6)∧Sep w os (rSl (kI .i64) v6 x.Wounded::rSl bM v5 x.Mounts::rSl aX v4 x.Events::rSl aI v3 x.Store.Turns::rSl aE v2 x.Store.Nodes::rSl bF v1 x.Results::rCs bJ (bC x v1 v2 v3 v4 v5 v6) x::rs):=by
  obtain ⟨_,hcs⟩:=H.rd (.head _)
  obtain ⟨u0,u1,u2,u3,u4,u5,rfl,-,-,-,-,-,-⟩:=jY hcs
  refine ⟨_,_,_,_,_,_,rfl,?_⟩
  exact ((((((H.derive1 (.head _) (rSl bF u0 x.Results) fun ok h=>Bq h).derive1 (.tail _ (.head _)) (rSl aE u1 x.Store.Nodes) fun ok h=>Br h).derive1 (.tail _ (.tail _ (.head _))) (rSl aI u2 x.Store.Turns) fun ok h=>Bs h).derive1 (.tail _ (.tail _ (.tail _ (.head _)))) (rSl aX u3 x.Events) fun ok h=>Bt h).derive1 (.tail _ (.tail _ (.tail _ (.tail _ (.head _))))) (rSl bM u4 x.Mounts) fun ok h=>Bu h).derive1 (.tail _ (.tail _ (.tail _ (.tail _ (.tail _ (.head _)))))) (rSl (kI .i64) u5 x.Wounded) fun ok h=>Bv h)
theorem bD{w:World}{os:List Ob}{rs:List Rp}{z0:Int}{z1:Int}{z2:Bool}{z3:Int}{v1:Value}{yv1:List cP}{v2:Value}{yv2:List aF}{v3:Value}{yv3:List aJ}{v4:Value}{yv4:List bL}{v5:Value}{yv5:List oC}{v6:Value}{yv6:List Int}(H:Sep w os rs)(hv1:rSl bF v1 yv1 ∈ rs)(hv2:rSl aE v2 yv2 ∈ rs)(hv3:rSl aI v3 yv3 ∈ rs)(hv4:rSl aX v4 yv4 ∈ rs)(hv5:rSl bM v5 yv5 ∈ rs)(hv6:rSl (kI .i64) v6 yv6 ∈ rs):[.int .i64 z0,.int .i64 z1,.bool z2,.int .i64 z3,v1,v2,v3,v4,v5,v6].all (·.oneCell')=true:=by
  obtain ⟨_,_,rfl⟩:=H.slform hv1
  obtain ⟨_,_,rfl⟩:=H.slform hv2
  obtain ⟨_,_,rfl⟩:=H.slform hv3
  obtain ⟨_,_,rfl⟩:=H.slform hv4
  obtain ⟨_,_,rfl⟩:=H.slform hv5
  obtain ⟨_,_,rfl⟩:=H.slform hv6
  rfl
structure bI where
  Kind:Int
  Dir:ByteArray
  Path:ByteArray
  Data:ByteArray
  Version:Int
  Owner:Int
  Turns:Bool
  deriving DecidableEq,Inhabited
def cW:Kd bI:=rQ (kP (kI .i64) (kP kS (kP kS (kP kS (kP (kI .i64) (kP (kI .i64) kB)))))) fun x=>(x.Kind,(x.Dir,(x.Path,(x.Data,(x.Version,(x.Owner,x.Turns))))))
theorem M1{w:World}{ok:Nat→Prop}{x:bI}{cs:List Value}(h:cW.R w ok x cs):cs= [.int .i64 x.Kind,.string x.Dir,.string x.Path,.string x.Data,.int .i64 x.Version,.int .i64 x.Owner,.bool x.Turns]:=by
  obtain ⟨c0,d0,rfl,h0,c1,d1,rfl,h1,c2,d2,rfl,h2,c3,d3,rfl,h3,c4,d4,rfl,h4,c5,d5,rfl,h5,h6⟩:=h
  have e0:c0= [.int .i64 x.Kind]:=h0
  subst e0
  have e1:c1= [.string x.Dir]:=h1
  subst e1
  have e2:c2= [.string x.Path]:=h2
  subst e2
  have e3:c3= [.string x.Data]:=h3
  subst e3
  have e4:c4= [.int .i64 x.Version]:=h4
  subst e4
  have e5:c5= [.int .i64 x.Owner]:=h5
  subst e5
  have e6:d5= [.bool x.Turns]:=h6
  subst e6
  rfl
theorem gX{w:World}{ok:Nat→Prop}{x:bI}:cW.R w ok x [.int .i64 x.Kind,.string x.Dir,.string x.Path,.string x.Data,.int .i64 x.Version,.int .i64 x.Owner,.bool x.Turns]:=⟨[.int .i64 x.Kind],_,rfl,rfl,⟨[.string x.Dir],_,rfl,rfl,⟨[.string x.Path],_,rfl,rfl,⟨[.string x.Data],_,rfl,rfl,⟨[.int .i64 x.Version],_,rfl,rfl,⟨[.int .i64 x.Owner],_,rfl,rfl,rfl⟩⟩⟩⟩⟩⟩
abbrev cK (x:bI):List Value:=[.int .i64 x.Kind,.string x.Dir,.string x.Path,.string x.Data,.int .i64 x.Version,.int .i64 x.Owner,.bool x.Turns]
abbrev FY:List Value:=[.int .i64 0,.string ⟨#[]⟩,.string ⟨#[]⟩,.string ⟨#[]⟩,.int .i64 0,.int .i64 0,.bool false]
structure cE where
  Op:Int
  Part:bI
  deriving DecidableEq,Inhabited
def cA:Kd cE:=rQ (kP (kI .i64) cW) fun x=>(x.Op,x.Part)
theorem Di{w:World}{ok:Nat→Prop}{x:cE}{cs:List Value}(h:cA.R w ok x cs):cs= [.int .i64 x.Op,.int .i64 x.Part.Kind,.string x.Part.Dir,.string x.Part.Path,.string x.Part.Data,.int .i64 x.Part.Version,.int .i64 x.Part.Owner,.bool x.Part.Turns]:=by
  obtain ⟨c0,d0,rfl,h0,h1⟩:=h
  have e0:c0= [.int .i64 x.Op]:=h0
  subst e0
  obtain ⟨rfl⟩:=M1 h1
  rfl
theorem Q1{w:World}{ok:Nat→Prop}{x:cE}:cA.R w ok x [.int .i64 x.Op,.int .i64 x.Part.Kind,.string x.Part.Dir,.string x.Part.Path,.string x.Part.Data,.int .i64 x.Part.Version,.int .i64 x.Part.Owner,.bool x.Part.Turns]:=⟨[.int .i64 x.Op],_,rfl,rfl,gX⟩
abbrev Cj (x:cE):List Value:=[.int .i64 x.Op,.int .i64 x.Part.Kind,.string x.Part.Dir,.string x.Part.Path,.string x.Part.Data,.int .i64 x.Part.Version,.int .i64 x.Part.Owner,.bool x.Part.Turns]
abbrev FK:List Value:=[.int .i64 0,.int .i64 0,.string ⟨#[]⟩,.string ⟨#[]⟩,.string ⟨#[]⟩,.int .i64 0,.int .i64 0,.bool false]
structure bQ where
  over_:Bool
  pieces_:(List cE)
  a_:aH
  deriving DecidableEq,Inhabited
def dB:Kd bQ:=rQ (kP kB (kP (kL cA) bJ)) fun x=>(x.over_,(x.pieces_,x.a_))
theorem lE{w:World}{ok:Nat→Prop}{x:bQ}{cs:List Value}(h:dB.R w ok x cs):∃ v1 v2 v3 v4 v5 v6 v7:Value,cs= [.bool x.over_,v1,.int .i64 x.a_.Err,.int .i64 x.a_.At,.bool x.a_.Yes,.int .i64 x.a_.Epoch,v2,v3,v4,v5,v6,v7]∧Sl cA w ok v1 x.pieces_∧Sl bF w ok v2 x.a_.Results∧Sl aE w ok v3 x.a_.Store.Nodes∧Sl aI w ok v4 x.a_.Store.Turns∧Sl aX w ok v5 x.a_.Events∧Sl bM w ok v6 x.a_.Mounts∧Sl (kI .i64) w ok v7 x.a_.Wounded:=by
  obtain ⟨c0,d0,rfl,h0,c1,d1,rfl,h1,h2⟩:=h
  have e0:c0= [.bool x.over_]:=h0
  subst e0
  obtain ⟨u0,rfl,g0⟩:=h1
  obtain ⟨u1,u2,u3,u4,u5,u6,rfl,g1,g2,g3,g4,g5,g6⟩:=jY h2
  exact ⟨u0,u1,u2,u3,u4,u5,u6,rfl,g0,g1,g2,g3,g4,g5,g6⟩
theorem B8{w:World}{ok:Nat→Prop}{x:bQ}{v1:Value}{v2:Value}{v3:Value}{v4:Value}{v5:Value}{v6:Value}{v7:Value}(g1:Sl cA w ok v1 x.pieces_)(g2:Sl bF w ok v2 x.a_.Results)(g3:Sl aE w ok v3 x.a_.Store.Nodes)(g4:Sl aI w ok v4 x.a_.Store.Turns)(g5:Sl aX w ok v5 x.a_.Events)(g6:Sl bM w ok v6 x.a_.Mounts)(g7:Sl (kI .i64) w ok v7 x.a_.Wounded):dB.R w ok x [.bool x.over_,v1,.int .i64 x.a_.Err,.int .i64 x.a_.At,.bool x.a_.Yes,.int .i64 x.a_.Epoch,v2,v3,v4,v5,v6,v7]:=⟨[.bool x.over_],_,rfl,rfl,⟨[v1],_,rfl,⟨_,rfl,g1⟩,(oF g2 g3 g4 g5 g6 g7)⟩⟩
theorem Dj{w:World}{ok:Nat→Prop}{x:bQ}{v1 v2 v3 v4 v5 v6 v7:Value}(h:dB.R w ok x [.bool x.over_,v1,.int .i64 x.a_.Err,.int .i64 x.a_.At,.bool x.a_.Yes,.int .i64 x.a_.Epoch,v2,v3,v4,v5,v6,v7]):Sl cA w ok v1 x.pieces_:=by
  obtain ⟨u0,u1,u2,u3,u4,u5,u6,he,g0,g1,g2,g3,g4,g5,g6⟩:=lE h
  cases he
  exact g0
theorem Dk{w:World}{ok:Nat→Prop}{x:bQ}{v1 v2 v3 v4 v5 v6 v7:Value}(h:dB.R w ok x [.bool x.over_,v1,.int .i64 x.a_.Err,.int .i64 x.a_.At,.bool x.a_.Yes,.int .i64 x.a_.Epoch,v2,v3,v4,v5,v6,v7]):Sl bF w ok v2 x.a_.Results:=by
  obtain ⟨u0,u1,u2,u3,u4,u5,u6,he,g0,g1,g2,g3,g4,g5,g6⟩:=lE h
  cases he
  exact g1
theorem Dl{w:World}{ok:Nat→Prop}{x:bQ}{v1 v2 v3 v4 v5 v6 v7:Value}(h:dB.R w ok x [.bool x.over_,v1,.int .i64 x.a_.Err,.int .i64 x.a_.At,.bool x.a_.Yes,.int .i64 x.a_.Epoch,v2,v3,v4,v5,v6,v7]):Sl aE w ok v3 x.a_.Store.Nodes:=by
  obtain ⟨u0,u1,u2,u3,u4,u5,u6,he,g0,g1,g2,g3,g4,g5,g6⟩:=lE h
  cases he
  exact g2
theorem Dm{w:World}{ok:Nat→Prop}{x:bQ}{v1 v2 v3 v4 v5 v6 v7:Value}(h:dB.R w ok x [.bool x.over_,v1,.int .i64 x.a_.Err,.int .i64 x.a_.At,.bool x.a_.Yes,.int .i64 x.a_.Epoch,v2,v3,v4,v5,v6,v7]):Sl aI w ok v4 x.a_.Store.Turns:=by
  obtain ⟨u0,u1,u2,u3,u4,u5,u6,he,g0,g1,g2,g3,g4,g5,g6⟩:=lE h
  cases he
  exact g3
theorem Dn{w:World}{ok:Nat→Prop}{x:bQ}{v1 v2 v3 v4 v5 v6 v7:Value}(h:dB.R w ok x [.bool x.over_,v1,.int .i64 x.a_.Err,.int .i64 x.a_.At,.bool x.a_.Yes,.int .i64 x.a_.Epoch,v2,v3,v4,v5,v6,v7]):Sl aX w ok v5 x.a_.Events:=by
  obtain ⟨u0,u1,u2,u3,u4,u5,u6,he,g0,g1,g2,g3,g4,g5,g6⟩:=lE h
  cases he
  exact g4
theorem Do{w:World}{ok:Nat→Prop}{x:bQ}{v1 v2 v3 v4 v5 v6 v7:Value}(h:dB.R w ok x [.bool x.over_,v1,.int .i64 x.a_.Err,.int .i64 x.a_.At,.bool x.a_.Yes,.int .i64 x.a_.Epoch,v2,v3,v4,v5,v6,v7]):Sl bM w ok v6 x.a_.Mounts:=by
  obtain ⟨u0,u1,u2,u3,u4,u5,u6,he,g0,g1,g2,g3,g4,g5,g6⟩:=lE h
  cases he
  exact g5
theorem Dp{w:World}{ok:Nat→Prop}{x:bQ}{v1 v2 v3 v4 v5 v6 v7:Value}(h:dB.R w ok x [.bool x.over_,v1,.int .i64 x.a_.Err,.int .i64 x.a_.At,.bool x.a_.Yes,.int .i64 x.a_.Epoch,v2,v3,v4,v5,v6,v7]):Sl (kI .i64) w ok v7 x.a_.Wounded:=by
  obtain ⟨u0,u1,u2,u3,u4,u5,u6,he,g0,g1,g2,g3,g4,g5,g6⟩:=lE h
  cases he
  exact g6
abbrev Ck (x:bQ) (v1:Value) (v2:Value) (v3:Value) (v4:Value) (v5:Value) (v6:Value) (v7:Value):List Value:=[.bool x.over_,v1,.int .i64 x.a_.Err,.int .i64 x.a_.At,.bool x.a_.Yes,.int .i64 x.a_.Epoch,v2,v3,v4,v5,v6,v7]
abbrev FL:List Value:=[.bool false,.slice none 0 0,.int .i64 0,.int .i64 0,.bool false,.int .i64 0,.slice none 0 0,.slice none 0 0,.slice none 0 0,.slice none 0 0,.slice none 0 0,.slice none 0 0]
theorem D5{w:World}{os:List Ob}{rs:List Rp}{x:bQ}{cs:List Value}(H:Sep w os (rCs dB cs x::rs)):∃ v1 v2 v3 v4 v5 v6 v7:Value,cs=(Ck x v1 v2 v3 v4 v5 v6 v7)∧Sep w os (rSl (kI .i64) v7 x.a_.Wounded::rSl bM v6 x.a_.Mounts::rSl aX v5 x.a_.Events::rSl aI v4 x.a_.Store.Turns::rSl aE v3 x.a_.Store.Nodes::rSl bF v2 x.a_.Results::rSl cA v1 x.pieces_::rCs dB (Ck x v1 v2 v3 v4 v5 v6 v7) x::rs):=by
  obtain ⟨_,hcs⟩:=H.rd (.head _)
  obtain ⟨u0,u1,u2,u3,u4,u5,u6,rfl,-,-,-,-,-,-,-⟩:=lE hcs
  refine ⟨_,_,_,_,_,_,_,rfl,?_⟩
  exact (((((((H.derive1 (.head _) (rSl cA u0 x.pieces_) fun ok h=>Dj h).derive1 (.tail _ (.head _)) (rSl bF u1 x.a_.Results) fun ok h=>Dk h).derive1 (.tail _ (.tail _ (.head _))) (rSl aE u2 x.a_.Store.Nodes) fun ok h=>Dl h).derive1 (.tail _ (.tail _ (.tail _ (.head _)))) (rSl aI u3 x.a_.Store.Turns) fun ok h=>Dm h).derive1 (.tail _ (.tail _ (.tail _ (.tail _ (.head _))))) (rSl aX u4 x.a_.Events) fun ok h=>Dn h).derive1 (.tail _ (.tail _ (.tail _ (.tail _ (.tail _ (.head _)))))) (rSl bM u5 x.a_.Mounts) fun ok h=>Do h).derive1 (.tail _ (.tail _ (.tail _ (.tail _ (.tail _ (.tail _ (.head _))))))) (rSl (kI .i64) u6 x.a_.Wounded) fun ok h=>Dp h)
theorem r7{w:World}{os:List Ob}{rs:List Rp}{z0:Bool}{z1:Int}{z2:Int}{z3:Bool}{z4:Int}{v1:Value}{yv1:List cE}{v2:Value}{yv2:List cP}{v3:Value}{yv3:List aF}{v4:Value}{yv4:List aJ}{v5:Value}{yv5:List bL}{v6:Value}{yv6:List oC}{v7:Value}{yv7:List Int}(H:Sep w os rs)(hv1:rSl cA v1 yv1 ∈ rs)(hv2:rSl bF v2 yv2 ∈ rs)(hv3:rSl aE v3 yv3 ∈ rs)(hv4:rSl aI v4 yv4 ∈ rs)(hv5:rSl aX v5 yv5 ∈ rs)(hv6:rSl bM v6 yv6 ∈ rs)(hv7:rSl (kI .i64) v7 yv7 ∈ rs):[.bool z0,v1,.int .i64 z1,.int .i64 z2,.bool z3,.int .i64 z4,v2,v3,v4,v5,v6,v7].all (·.oneCell')=true:=by
  obtain ⟨_,_,rfl⟩:=H.slform hv1
  obtain ⟨_,_,rfl⟩:=H.slform hv2
  obtain ⟨_,_,rfl⟩:=H.slform hv3
  obtain ⟨_,_,rfl⟩:=H.slform hv4
  obtain ⟨_,_,rfl⟩:=H.slform hv5
  obtain ⟨_,_,rfl⟩:=H.slform hv6
  obtain ⟨_,_,rfl⟩:=H.slform hv7
  rfl
structure dH where
  Kind:Int
  Path:ByteArray
  Data:ByteArray
  Version:Int
  Owner:Int
  Turns:Bool
  deriving DecidableEq,Inhabited
def rE:Kd dH:=rQ (kP (kI .i64) (kP kS (kP kS (kP (kI .i64) (kP (kI .i64) kB))))) fun x=>(x.Kind,(x.Path,(x.Data,(x.Version,(x.Owner,x.Turns)))))
theorem Ip{w:World}{ok:Nat→Prop}{x:dH}{cs:List Value}(h:rE.R w ok x cs):cs= [.int .i64 x.Kind,.string x.Path,.string x.Data,.int .i64 x.Version,.int .i64 x.Owner,.bool x.Turns]:=by
  obtain ⟨c0,d0,rfl,h0,c1,d1,rfl,h1,c2,d2,rfl,h2,c3,d3,rfl,h3,c4,d4,rfl,h4,h5⟩:=h
  have e0:c0= [.int .i64 x.Kind]:=h0
  subst e0
  have e1:c1= [.string x.Path]:=h1
  subst e1
  have e2:c2= [.string x.Data]:=h2
  subst e2
  have e3:c3= [.int .i64 x.Version]:=h3
  subst e3
  have e4:c4= [.int .i64 x.Owner]:=h4
  subst e4
  have e5:d4= [.bool x.Turns]:=h5
  subst e5
  rfl
theorem Cm{w:World}{ok:Nat→Prop}{x:dH}:rE.R w ok x [.int .i64 x.Kind,.string x.Path,.string x.Data,.int .i64 x.Version,.int .i64 x.Owner,.bool x.Turns]:=⟨[.int .i64 x.Kind],_,rfl,rfl,⟨[.string x.Path],_,rfl,rfl,⟨[.string x.Data],_,rfl,rfl,⟨[.int .i64 x.Version],_,rfl,rfl,⟨[.int .i64 x.Owner],_,rfl,rfl,rfl⟩⟩⟩⟩⟩
abbrev pP (x:dH):List Value:=[.int .i64 x.Kind,.string x.Path,.string x.Data,.int .i64 x.Version,.int .i64 x.Owner,.bool x.Turns]
abbrev KH:List Value:=[.int .i64 0,.string ⟨#[]⟩,.string ⟨#[]⟩,.int .i64 0,.int .i64 0,.bool false]
theorem Kr{w:World}{ok:Nat→Prop}{q:Addr}{x:dH}(h:(rAt rE q x).p w ok):(rAt kS (q.add 1) x.Path).p w ok:=by
  have h0:(rAt (kP (kI .i64) (kP kS (kP kS (kP (kI .i64) (kP (kI .i64) kB))))) q ((x.Kind,(x.Path,(x.Data,(x.Version,(x.Owner,x.Turns))))))).p w ok:=h
  have h1:=(I2 (pN h0))
  simp only [add_add,kP,kI,kB,kS,kL,Kd.scalar] at h1
  exact h1
theorem Ks{w:World}{ok:Nat→Prop}{q:Addr}{x:dH}(h:(rAt rE q x).p w ok):(rAt kS (q.add 2) x.Data).p w ok:=by
  have h0:(rAt (kP (kI .i64) (kP kS (kP kS (kP (kI .i64) (kP (kI .i64) kB))))) q ((x.Kind,(x.Path,(x.Data,(x.Version,(x.Owner,x.Turns))))))).p w ok:=h
  have h1:=(I2 (pN (pN h0)))
  simp only [add_add,kP,kI,kB,kS,kL,Kd.scalar] at h1
  exact h1
theorem Kt{w:World}{ok:Nat→Prop}{q:Addr}{x:dH}(h:(rAt rE q x).p w ok):(rAt (kI .i64) (q.add 3) x.Version).p w ok:=by
  have h0:(rAt (kP (kI .i64) (kP kS (kP kS (kP (kI .i64) (kP (kI .i64) kB))))) q ((x.Kind,(x.Path,(x.Data,(x.Version,(x.Owner,x.Turns))))))).p w ok:=h
  have h1:=(I2 (pN (pN (pN h0))))
  simp only [add_add,kP,kI,kB,kS,kL,Kd.scalar] at h1
  exact h1
def V5:fK rE:=⟨fun x=>[.int .i64 x.Kind,.string x.Path,.string x.Data,.int .i64 x.Version,.int .i64 x.Owner,.bool x.Turns],Ip,Cm⟩
def Fb:fK cW:=⟨fun x=>[.int .i64 x.Kind,.string x.Dir,.string x.Path,.string x.Data,.int .i64 x.Version,.int .i64 x.Owner,.bool x.Turns],M1,gX⟩
structure aU where
  Kind:Int
  Id:Int
  Txn:Int
  Age:Int
  Yes:Bool
  Pieces:(List cE)
  Prefix:ByteArray
  Epoch:Int
  To:Int
  Store:aR
  Gone:(List ByteArray)
  Watch:aK
  deriving DecidableEq,Inhabited
def AL:Kd aU:=rQ (kP (kI .i64) (kP (kI .i64) (kP (kI .i64) (kP (kI .i64) (kP kB (kP (kL cA) (kP kS (kP (kI .i64) (kP (kI .i64) (kP M9 (kP (kL kS) bB))))))))))) fun x=>(x.Kind,(x.Id,(x.Txn,(x.Age,(x.Yes,(x.Pieces,(x.Prefix,(x.Epoch,(x.To,(x.Store,(x.Gone,x.Watch)))))))))))
abbrev aS (x:aU) (v1:Value) (v2:Value) (v3:Value) (v4:Value):List Value:=[.int .i64 x.Kind,.int .i64 x.Id,.int .i64 x.Txn,.int .i64 x.Age,.bool x.Yes,v1,.string x.Prefix,.int .i64 x.Epoch,.int .i64 x.To,v2,v3,v4,.int .i64 x.Watch.Session,.int .i64 x.Watch.Num,.string x.Watch.Path,.bool x.Watch.Deep]
def wB:fK cA:=⟨fun x=>[.int .i64 x.Op,.int .i64 x.Part.Kind,.string x.Part.Dir,.string x.Part.Path,.string x.Part.Data,.int .i64 x.Part.Version,.int .i64 x.Part.Owner,.bool x.Part.Turns],Di,Q1⟩
abbrev Mn:aR:=⟨[],[]⟩
abbrev qG:aH:=⟨0,0,false,0,[],Mn,[],[],[]⟩
structure bK where
  Watches:(List aK)
  Sessions:(List aD)
  deriving DecidableEq,Inhabited
def AM:Kd bK:=rQ (kP (kL bB) (kL aO)) fun x=>(x.Watches,x.Sessions)
theorem hY{w:World}{os:List Ob}{rs:List Rp}{v1:Value}{yv1:List aK}{v2:Value}{yv2:List aD}(H:Sep w os rs)(hv1:rSl bB v1 yv1 ∈ rs)(hv2:rSl aO v2 yv2 ∈ rs):[v1,v2].all (·.oneCell')=true:=by
  obtain ⟨_,_,rfl⟩:=H.slform hv1
  obtain ⟨_,_,rfl⟩:=H.slform hv2
  rfl
def pQ:fK aX:=⟨fun x=>[.int .i64 x.Num,.int .i64 x.Kind,.string x.Path,.int .i64 x.Watch],Dd,zH⟩
def Yn:fK kS:=⟨fun x=>[.string x],fun h=>h,rfl⟩
structure Mo where
  Store:aR
  r_:cP
  deriving DecidableEq,Inhabited
def FM:Kd Mo:=rQ (kP M9 bF) fun x=>(x.Store,x.r_)
abbrev N1:bQ:=⟨false,[],qG⟩
theorem cf6:CF Tryz.prog 6:=cfo Tryz.func6 (by kernel_rfl)
theorem BB:CF Tryz.prog 15:=cfo Tryz.func15 (by kernel_rfl)
theorem cf7:CF Tryz.prog 7:=cfo Tryz.func7 (by kernel_rfl)
abbrev U25:=Tryz.underlying25
theorem dJ:(Tryz.prog.info? 25).map (·.size)=some 2:=by kernel_rfl
theorem Pb:CF Tryz.prog 20:=cfo Tryz.func20 (by kernel_rfl)
theorem BC:∀ (w:World) (q:Addr),(Instr.fieldAt 25 (.pointer (some q)) 0).run Tryz.prog w= .ok (.pointer (some (q.add 0))) w:=fun w q=>by kernel_rfl
abbrev U22:=Tryz.underlying22
theorem BD:CF Tryz.prog 46:=cfo Tryz.func46 (by kernel_rfl)
theorem Pc:CF Tryz.prog 105:=cfo Tryz.func105 (by kernel_rfl)
theorem iZ:(Tryz.prog.info? 95).map (·.size)=some 5:=by kernel_rfl
abbrev U95:=Tryz.underlying95
theorem KI:CF Tryz.prog 47:=cfo Tryz.func47 (by kernel_rfl)
theorem BE:∀ (w:World) (q:Addr),(Instr.fieldAt 95 (.pointer (some q)) 3).run Tryz.prog w= .ok (.pointer (some (q.add 3))) w:=fun w q=>by kernel_rfl
abbrev U2:=Tryz.underlying2
theorem BF:∀ (w:World) (q:Addr),(Instr.fieldAt 95 (.pointer (some q)) 0).run Tryz.prog w= .ok (.pointer (some (q.add 0))) w:=fun w q=>by kernel_rfl
abbrev U9:=Tryz.underlying9
theorem BG:∀ (w:World) (q:Addr),(Instr.fieldAt 95 (.pointer (some q)) 1).run Tryz.prog w= .ok (.pointer (some (q.add 1))) w:=fun w q=>by kernel_rfl
theorem BH:∀ (w:World) (q:Addr),(Instr.fieldAt 95 (.pointer (some q)) 2).run Tryz.prog w= .ok (.pointer (some (q.add 2))) w:=fun w q=>by kernel_rfl
theorem BI:∀ (w:World) (q:Addr),(Instr.fieldAt 95 (.pointer (some q)) 4).run Tryz.prog w= .ok (.pointer (some (q.add 4))) w:=fun w q=>by kernel_rfl
theorem BJ:CF Tryz.prog 48:=cfo Tryz.func48 (by kernel_rfl)
theorem y7:CF Tryz.prog 51:=cfo Tryz.func51 (by kernel_rfl)
theorem Ww:CF Tryz.prog 107:=cfo Tryz.func107 (by kernel_rfl)
theorem Wx:CF Tryz.prog 172:=cfo Tryz.func172 (by kernel_rfl)
theorem FZ:CF Tryz.prog 236:=cfo Tryz.func236 (by kernel_rfl)
theorem GA:CF Tryz.prog 286:=cfo Tryz.func286 (by kernel_rfl)
abbrev U33:=Tryz.underlying33
theorem Pd:CF Tryz.prog 177:=cfo Tryz.func177 (by kernel_rfl)
theorem GB:CF Tryz.prog 238:=cfo Tryz.func238 (by kernel_rfl)
theorem BK:∀ (w:World) (s:ByteArray) (c:Int),(callFunc 288 #[.string s,.int .u8 c]).run Tryz.prog w= .ok (.value (.int .i64 (ixB s c))) w:=fun w s c=>Kf Tryz.func288 (by kernel_rfl) (by kernel_rfl) (by kernel_rfl) (e:=Extern.BytealgIndexByte.indexByte) (by kernel_rfl) (Yf s c w)
theorem Pe:CF Tryz.prog 178:=cfo Tryz.func178 (by kernel_rfl)
theorem GC:CF Tryz.prog 239:=cfo Tryz.func239 (by kernel_rfl)
theorem GD:CF Tryz.prog 289:=cfo Tryz.func289 (by kernel_rfl)
theorem GE:CF Tryz.prog 324:=cfo Tryz.func324 (by kernel_rfl)
theorem GF:CF Tryz.prog 240:=cfo Tryz.func240 (by kernel_rfl)
theorem GG:CF Tryz.prog 241:=cfo Tryz.func241 (by kernel_rfl)
theorem GH:CF Tryz.prog 290:=cfo Tryz.func290 (by kernel_rfl)
theorem GI:CF Tryz.prog 325:=cfo Tryz.func325 (by kernel_rfl)
theorem Pf:(Tryz.prog.info? 9).map (fun i=>(i.zero,i.size,i.bytes))=some (some (.string ⟨#[]⟩),1,16):=by kernel_rfl
theorem Va:CF Tryz.prog 52:=cfo Tryz.func52 (by kernel_rfl)
theorem BL:∀ (w:World) (q:Addr),(Instr.fieldAt 25 (.pointer (some q)) 1).run Tryz.prog w= .ok (.pointer (some (q.add 1))) w:=fun w q=>by kernel_rfl
abbrev U23:=Tryz.underlying23
theorem KJ:CF Tryz.prog 49:=cfo Tryz.func49 (by kernel_rfl)
theorem GJ:CF Tryz.prog 106:=cfo Tryz.func106 (by kernel_rfl)
theorem oG:(Tryz.prog.info? 77).map (·.size)=some 2:=by kernel_rfl
abbrev U77:=Tryz.underlying77
theorem KK:CF Tryz.prog 50:=cfo Tryz.func50 (by kernel_rfl)
theorem BM:∀ (w:World) (q:Addr),(Instr.fieldAt 77 (.pointer (some q)) 0).run Tryz.prog w= .ok (.pointer (some (q.add 0))) w:=fun w q=>by kernel_rfl
theorem BN:∀ (w:World) (q:Addr),(Instr.fieldAt 77 (.pointer (some q)) 1).run Tryz.prog w= .ok (.pointer (some (q.add 1))) w:=fun w q=>by kernel_rfl
theorem KL:CF Tryz.prog 53:=cfo Tryz.func53 (by kernel_rfl)
theorem BO:CF Tryz.prog 54:=cfo Tryz.func54 (by kernel_rfl)
theorem KM:CF Tryz.prog 55:=cfo Tryz.func55 (by kernel_rfl)
theorem BP:CF Tryz.prog 56:=cfo Tryz.func56 (by kernel_rfl)
theorem Ku:CF Tryz.prog 21:=cfo Tryz.func21 (by kernel_rfl)
abbrev U32:=Tryz.underlying32
theorem iK:(Tryz.prog.info? 31).map (·.size)=some 3:=by kernel_rfl
abbrev U31:=Tryz.underlying31
theorem Gl:(Tryz.prog.info? 31).bind (·.zero)=some (.agg Mm.toArray):=by kernel_rfl
theorem BQ:∀ (w:World) (q:Addr),(Instr.fieldAt 31 (.pointer (some q)) 0).run Tryz.prog w= .ok (.pointer (some (q.add 0))) w:=fun w q=>by kernel_rfl
theorem BR:∀ (w:World) (q:Addr),(Instr.fieldAt 31 (.pointer (some q)) 1).run Tryz.prog w= .ok (.pointer (some (q.add 1))) w:=fun w q=>by kernel_rfl
theorem BS:∀ (w:World) (q:Addr),(Instr.fieldAt 31 (.pointer (some q)) 2).run Tryz.prog w= .ok (.pointer (some (q.add 2))) w:=fun w q=>by kernel_rfl
abbrev U3:=Tryz.underlying3
theorem Kv:CF Tryz.prog 18:=cfo Tryz.func18 (by kernel_rfl)
theorem BT:CF Tryz.prog 16:=cfo Tryz.func16 (by kernel_rfl)
theorem KN:CF Tryz.prog 42:=cfo Tryz.func42 (by kernel_rfl)
theorem KO:CF Tryz.prog 97:=cfo Tryz.func97 (by kernel_rfl)
theorem GK:CF Tryz.prog 174:=cfo Tryz.func174 (by kernel_rfl)
abbrev U58:=Tryz.underlying58
theorem J4:(Tryz.prog.info? 60).map (·.size)=some 6:=by kernel_rfl
abbrev U60:=Tryz.underlying60
theorem KP:CF Tryz.prog 98:=cfo Tryz.func98 (by kernel_rfl)
theorem BU:CF Tryz.prog 99:=cfo Tryz.func99 (by kernel_rfl)
theorem BV:∀ (w:World) (q:Addr),(Instr.fieldAt 60 (.pointer (some q)) 0).run Tryz.prog w= .ok (.pointer (some (q.add 0))) w:=fun w q=>by kernel_rfl
theorem BW:∀ (w:World) (q:Addr),(Instr.fieldAt 60 (.pointer (some q)) 1).run Tryz.prog w= .ok (.pointer (some (q.add 1))) w:=fun w q=>by kernel_rfl
theorem BX:∀ (w:World) (q:Addr),(Instr.fieldAt 60 (.pointer (some q)) 2).run Tryz.prog w= .ok (.pointer (some (q.add 2))) w:=fun w q=>by kernel_rfl
theorem BZ:∀ (w:World) (q:Addr),(Instr.fieldAt 60 (.pointer (some q)) 4).run Tryz.prog w= .ok (.pointer (some (q.add 4))) w:=fun w q=>by kernel_rfl
theorem GL:CF Tryz.prog 175:=cfo Tryz.func175 (by kernel_rfl)
theorem CA:∀ (w:World) (q:Addr),(Instr.fieldAt 60 (.pointer (some q)) 3).run Tryz.prog w= .ok (.pointer (some (q.add 3))) w:=fun w q=>by kernel_rfl
theorem CB:∀ (w:World) (q:Addr),(Instr.fieldAt 60 (.pointer (some q)) 5).run Tryz.prog w= .ok (.pointer (some (q.add 5))) w:=fun w q=>by kernel_rfl
abbrev U4:=Tryz.underlying4
theorem GM:CF Tryz.prog 176:=cfo Tryz.func176 (by kernel_rfl)
theorem GN:(Tryz.prog.info? 230).bind (·.zero)=some (.agg #[.int .i64 0,.int .i64 0,.int .i64 0,.int .i64 0,.int .i64 0,.int .i64 0,.int .i64 0,.int .i64 0]):=by kernel_rfl
theorem Wy:(Tryz.prog.info? 230).map (·.size)=some 8:=by kernel_rfl
abbrev CC:=Tryz.underlying230
theorem sz3:(Tryz.prog.info? 3).map (·.size)=some 1:=by kernel_rfl
theorem KQ:(Tryz.prog.info? 60).bind (·.zero)=some (.agg KH.toArray):=by kernel_rfl
theorem KR:CF Tryz.prog 43:=cfo Tryz.func43 (by kernel_rfl)
theorem KS:(Tryz.prog.info? 99).bind (·.zero)=some (.slice none 0 0):=by kernel_rfl
theorem Pg:CF Tryz.prog 101:=cfo Tryz.func101 (by kernel_rfl)
theorem Jc:CF Tryz.prog 148:=cfo Tryz.func148 (by kernel_rfl)
theorem Wz:CF Tryz.prog 203:=cfo Tryz.func203 (by kernel_rfl)
theorem GO:CF Tryz.prog 270:=cfo Tryz.func270 (by kernel_rfl)
theorem GP:CF Tryz.prog 318:=cfo Tryz.func318 (by kernel_rfl)
theorem zr9:(Tryz.prog.info? 9).bind (·.zero)=some (.string ⟨#[]⟩):=by kernel_rfl
theorem sz9:(Tryz.prog.info? 9).map (·.size)=some 1:=by kernel_rfl
theorem GQ:(Tryz.prog.info? 162).bind (·.zero)=some (.nilFunc):=by kernel_rfl
theorem GR:(Tryz.prog.info? 162).map (·.size)=some 1:=by kernel_rfl
abbrev Kw:=Tryz.underlying162
theorem Fc:CF Tryz.prog 102:=cfo Tryz.func102 (by kernel_rfl)
theorem Dq:(Tryz.prog.info? 85).bind (·.zero)=some (.agg FY.toArray):=by kernel_rfl
theorem jR:(Tryz.prog.info? 85).map (·.size)=some 7:=by kernel_rfl
abbrev U85:=Tryz.underlying85
theorem CD:∀ (w:World) (q:Addr),(Instr.fieldAt 85 (.pointer (some q)) 3).run Tryz.prog w= .ok (.pointer (some (q.add 3))) w:=fun w q=>by kernel_rfl
theorem CE:∀ (w:World) (q:Addr),(Instr.fieldAt 85 (.pointer (some q)) 5).run Tryz.prog w= .ok (.pointer (some (q.add 5))) w:=fun w q=>by kernel_rfl
theorem sz2:(Tryz.prog.info? 2).map (·.size)=some 1:=by kernel_rfl
theorem CG:∀ (w:World) (q:Addr),(Instr.fieldAt 85 (.pointer (some q)) 6).run Tryz.prog w= .ok (.pointer (some (q.add 6))) w:=fun w q=>by kernel_rfl
theorem sz4:(Tryz.prog.info? 4).map (·.size)=some 1:=by kernel_rfl
theorem S7:CF Tryz.prog 100:=cfo Tryz.func100 (by kernel_rfl)
abbrev U99:=Tryz.underlying99
theorem GS:(Tryz.prog.info? 85).map (fun i=>(i.zero,i.size,i.bytes))=some (some (.agg #[.int .i64 0,.string ⟨#[]⟩,.string ⟨#[]⟩,.string ⟨#[]⟩,.int .i64 0,.int .i64 0,.bool false]),7,80):=by kernel_rfl
theorem KT:(Tryz.prog.info? 99).map (·.size)=some 1:=by kernel_rfl
theorem Ph:CF Tryz.prog 104:=cfo Tryz.func104 (by kernel_rfl)
theorem CH:∀ (w:World) (q:Addr),(Instr.fieldAt 85 (.pointer (some q)) 4).run Tryz.prog w= .ok (.pointer (some (q.add 4))) w:=fun w q=>by kernel_rfl
theorem Pi:CF Tryz.prog 103:=cfo Tryz.func103 (by kernel_rfl)
abbrev U26:=Tryz.underlying26
theorem GT:(Tryz.prog.info? 87).map (fun i=>(i.zero,i.size,i.bytes))=some (some (.agg #[.int .i64 0,.int .i64 0,.string ⟨#[]⟩,.string ⟨#[]⟩,.string ⟨#[]⟩,.int .i64 0,.int .i64 0,.bool false]),8,88):=by kernel_rfl
theorem B9:CF Tryz.prog 11:=cfo Tryz.func11 (by kernel_rfl)
theorem gO:(Tryz.prog.info? 48).bind (·.zero)=some (.agg bN.toArray):=by kernel_rfl
theorem KU:(Tryz.prog.info? 89).bind (·.zero)=some (.agg #[.nilFunc,.nilFunc,.nilFunc,.nilFunc,.nilFunc,.nilFunc,.nilFunc,.nilFunc,.nilFunc,.nilFunc,.nilFunc]):=by kernel_rfl
theorem KV:(Tryz.prog.info? 89).map (·.size)=some 11:=by kernel_rfl
abbrev U37:=Tryz.underlying37
theorem F3:(Tryz.prog.info? 37).map (·.size)=some 16:=by kernel_rfl
theorem KW:CF Tryz.prog 35:=cfo Tryz.func35 (by kernel_rfl)
theorem Ry:∀ (w:World) (q:Addr),(Instr.fieldAt 37 (.pointer (some q)) 5).run Tryz.prog w= .ok (.pointer (some (q.add 5))) w:=fun w q=>by kernel_rfl
theorem F4:(Tryz.prog.info? 87).map (·.size)=some 8:=by kernel_rfl
abbrev U87:=Tryz.underlying87
theorem Pj:(Tryz.prog.info? 87).bind (·.zero)=some (.agg FK.toArray):=by kernel_rfl
theorem CI:∀ (w:World) (q:Addr),(Instr.fieldAt 87 (.pointer (some q)) 0).run Tryz.prog w= .ok (.pointer (some (q.add 0))) w:=fun w q=>by kernel_rfl
theorem CJ:∀ (w:World) (q:Addr),(Instr.fieldAt 87 (.pointer (some q)) 1).run Tryz.prog w= .ok (.pointer (some (q.add 1))) w:=fun w q=>by kernel_rfl
theorem CK:CF Tryz.prog 92:=cfo Tryz.func92 (by kernel_rfl)
theorem CL:∀ (w:World) (q:Addr),(Instr.fieldAt 85 (.pointer (some q)) 2).run Tryz.prog w= .ok (.pointer (some (q.add 2))) w:=fun w q=>by kernel_rfl
theorem CM:∀ (w:World) (q:Addr),(Instr.fieldAt 85 (.pointer (some q)) 0).run Tryz.prog w= .ok (.pointer (some (q.add 0))) w:=fun w q=>by kernel_rfl
theorem CN:∀ (w:World) (q:Addr),(Instr.fieldAt 85 (.pointer (some q)) 1).run Tryz.prog w= .ok (.pointer (some (q.add 1))) w:=fun w q=>by kernel_rfl
theorem Yo:∀ (w:World) (q:Addr),(Instr.fieldAt 37 (.pointer (some q)) 10).run Tryz.prog w= .ok (.pointer (some (q.add 11))) w:=fun w q=>by kernel_rfl
theorem Kx:∀ (w:World) (q:Addr),(Instr.fieldAt 37 (.pointer (some q)) 6).run Tryz.prog w= .ok (.pointer (some (q.add 6))) w:=fun w q=>by kernel_rfl
theorem Vb:CF Tryz.prog 93:=cfo Tryz.func93 (by kernel_rfl)
theorem Xa:CF Tryz.prog 173:=cfo Tryz.func173 (by kernel_rfl)
theorem GU:CF Tryz.prog 237:=cfo Tryz.func237 (by kernel_rfl)
theorem GV:CF Tryz.prog 287:=cfo Tryz.func287 (by kernel_rfl)
theorem CO:∀ (w:World) (q:Addr),(Instr.fieldAt 37 (.pointer (some q)) 0).run Tryz.prog w= .ok (.pointer (some (q.add 0))) w:=fun w q=>by kernel_rfl
theorem CP:∀ (w:World) (q:Addr),(Instr.fieldAt 37 (.pointer (some q)) 8).run Tryz.prog w= .ok (.pointer (some (q.add 8))) w:=fun w q=>by kernel_rfl
theorem Z5:∀ (w:World) (q:Addr),(Instr.fieldAt 37 (.pointer (some q)) 1).run Tryz.prog w= .ok (.pointer (some (q.add 1))) w:=fun w q=>by kernel_rfl
theorem Fd:∀ (w:World) (q:Addr),(Instr.fieldAt 37 (.pointer (some q)) 2).run Tryz.prog w= .ok (.pointer (some (q.add 2))) w:=fun w q=>by kernel_rfl
theorem CQ:∀ (w:World) (q:Addr),(Instr.fieldAt 37 (.pointer (some q)) 3).run Tryz.prog w= .ok (.pointer (some (q.add 3))) w:=fun w q=>by kernel_rfl
theorem CR:∀ (w:World) (q:Addr),(Instr.fieldAt 37 (.pointer (some q)) 7).run Tryz.prog w= .ok (.pointer (some (q.add 7))) w:=fun w q=>by kernel_rfl
theorem Bh:∀ (w:World) (q:Addr),(Instr.fieldAt 37 (.pointer (some q)) 11).run Tryz.prog w= .ok (.pointer (some (q.add 12))) w:=fun w q=>by kernel_rfl
theorem Fe:∀ (w:World) (q:Addr),(Instr.fieldAt 35 (.pointer (some q)) 0).run Tryz.prog w= .ok (.pointer (some (q.add 0))) w:=fun w q=>by kernel_rfl
theorem Kz:∀ (w:World) (q:Addr),(Instr.fieldAt 35 (.pointer (some q)) 1).run Tryz.prog w= .ok (.pointer (some (q.add 1))) w:=fun w q=>by kernel_rfl
theorem KX:CF Tryz.prog 94:=cfo Tryz.func94 (by kernel_rfl)
abbrev U46:=Tryz.underlying46
theorem CS:CF Tryz.prog 95:=cfo Tryz.func95 (by kernel_rfl)
theorem CT:∀ (w:World) (q:Addr),(Instr.fieldAt 35 (.pointer (some q)) 2).run Tryz.prog w= .ok (.pointer (some (q.add 2))) w:=fun w q=>by kernel_rfl
theorem CU:∀ (w:World) (q:Addr),(Instr.fieldAt 37 (.pointer (some q)) 9).run Tryz.prog w= .ok (.pointer (some (q.add 9))) w:=fun w q=>by kernel_rfl
theorem xN:CF Tryz.prog 36:=cfo Tryz.func36 (by kernel_rfl)
theorem bV:(Tryz.prog.info? 48).map (·.size)=some 10:=by kernel_rfl
abbrev U48:=Tryz.underlying48
abbrev U89:=Tryz.underlying89
theorem N2:(Tryz.prog.info? 88).map (·.size)=some 1:=by kernel_rfl
abbrev U88:=Tryz.underlying88
theorem Pk:CF Tryz.prog 37:=cfo Tryz.func37 (by kernel_rfl)
theorem Z6:∀ (w:World) (q:Addr),(Instr.fieldAt 75 (.pointer (some q)) 4).run Tryz.prog w= .ok (.pointer (some (q.add 6))) w:=fun w q=>by kernel_rfl
abbrev U68:=Tryz.underlying68
theorem y8:(Tryz.prog.info? 48).bind (·.zero)=some (.agg [.int .i64 0,.int .i64 0,.bool false,.int .i64 0,.slice none 0 0,.slice none 0 0,.slice none 0 0,.slice none 0 0,.slice none 0 0,.slice none 0 0].toArray):=by kernel_rfl
theorem J5:∀ (w:World) (ok:Nat→Prop),bJ.R w ok qG [.int .i64 0,.int .i64 0,.bool false,.int .i64 0,.slice none 0 0,.slice none 0 0,.slice none 0 0,.slice none 0 0,.slice none 0 0,.slice none 0 0]:=fun w ok=>oF (Sl.nil _ _ _) (Sl.nil _ _ _) (Sl.nil _ _ _) (Sl.nil _ _ _) (Sl.nil _ _ _) (Sl.nil _ _ _)
theorem mH:Tryz.prog.follows .mixedOrders=true:=by kernel_rfl
theorem KY:CF Tryz.prog 34:=cfo Tryz.func34 (by kernel_rfl)
theorem La:∀ (w:World) (q:Addr),(Instr.fieldAt 75 (.pointer (some q)) 3).run Tryz.prog w= .ok (.pointer (some (q.add 4))) w:=fun w q=>by kernel_rfl
abbrev U73:=Tryz.underlying73
theorem fE:(Tryz.prog.info? 73).map (·.size)=some 2:=by kernel_rfl
theorem KZ:CF Tryz.prog 91:=cfo Tryz.func91 (by kernel_rfl)
theorem S8:(Tryz.prog.info? 73).bind (·.zero)=some (.agg #[.slice none 0 0,.slice none 0 0]):=by kernel_rfl
theorem Jd:CF Tryz.prog 160:=cfo Tryz.func160 (by kernel_rfl)
theorem Rz:∀ (w:World) (q:Addr),(Instr.fieldAt 73 (.pointer (some q)) 0).run Tryz.prog w= .ok (.pointer (some (q.add 0))) w:=fun w q=>by kernel_rfl
abbrev U70:=Tryz.underlying70
theorem sO:(Tryz.prog.info? 35).map (·.size)=some 4:=by kernel_rfl
abbrev U35:=Tryz.underlying35
theorem CV:(Tryz.prog.info? 35).bind (·.zero)=some (.agg FJ.toArray):=by kernel_rfl
theorem Lb:(Tryz.prog.info? 3).bind (·.zero)=some (.int .i64 0):=by kernel_rfl
abbrev LA:=Tryz.underlying274
theorem Q2:uO Tryz.prog 274 s9:=Uz (Maps.Keyed.of_law (deep_law_laid (by kernel_rfl) (m:=3) (by omega) (of_decide_eq_true (by kernel_rfl)) (by kernel_rfl) (by kernel_rfl))) LA U2 U2 (by kernel_rfl) ⟨by kernel_rfl,by kernel_rfl,by kernel_rfl,rfl,rfl⟩ (by kernel_rfl) (by kernel_rfl)
abbrev Dr:=Tryz.underlying272
theorem Sa:∀ (w:World) (q:Addr),(Instr.fieldAt 73 (.pointer (some q)) 1).run Tryz.prog w= .ok (.pointer (some (q.add 1))) w:=fun w q=>by kernel_rfl
abbrev U71:=Tryz.underlying71
theorem uP:(Tryz.prog.info? 215).map (·.size)=some 3:=by kernel_rfl
theorem Yp:∀ (w:World) (q:Addr),(Instr.fieldAt 215 (.pointer (some q)) 0).run Tryz.prog w= .ok (.pointer (some (q.add 0))) w:=fun w q=>by kernel_rfl
theorem GW:CF Tryz.prog 226:=cfo Tryz.func226 (by kernel_rfl)
theorem GX:CF Tryz.prog 280:=cfo Tryz.func280 (by kernel_rfl)
theorem Pm:CF Tryz.prog 230:=cfo Tryz.func230 (by kernel_rfl)
theorem GY:CF Tryz.prog 281:=cfo Tryz.func281 (by kernel_rfl)
abbrev LB:=Tryz.underlying211
theorem Xb:CF Tryz.prog 161:=cfo Tryz.func161 (by kernel_rfl)
theorem Je:CF Tryz.prog 229:=cfo Tryz.func229 (by kernel_rfl)
theorem GZ:CF Tryz.prog 227:=cfo Tryz.func227 (by kernel_rfl)
theorem HA:CF Tryz.prog 282:=cfo Tryz.func282 (by kernel_rfl)
theorem HB:CF Tryz.prog 322:=cfo Tryz.func322 (by kernel_rfl)
abbrev Gm:=Tryz.underlying215
theorem HC:CF Tryz.prog 283:=cfo Tryz.func283 (by kernel_rfl)
abbrev LC:=Tryz.underlying277
theorem HD:CF Tryz.prog 228:=cfo Tryz.func228 (by kernel_rfl)
theorem Yq:∀ (w:World) (q:Addr),(Instr.fieldAt 215 (.pointer (some q)) 1).run Tryz.prog w= .ok (.pointer (some (q.add 1))) w:=fun w q=>by kernel_rfl
theorem Nn:∀ (w:World) (q:Addr),(Instr.fieldAt 215 (.pointer (some q)) 2).run Tryz.prog w= .ok (.pointer (some (q.add 2))) w:=fun w q=>by kernel_rfl
abbrev U44:=Tryz.underlying44
theorem uQ:(Tryz.prog.info? 223).map (·.size)=some 4:=by kernel_rfl
abbrev Gn:=Tryz.underlying223
theorem Pn:(Tryz.prog.info? 223).bind (·.zero)=some (.agg FI.toArray):=by kernel_rfl
theorem Yr:∀ (w:World) (q:Addr),(Instr.fieldAt 223 (.pointer (some q)) 0).run Tryz.prog w= .ok (.pointer (some (q.add 0))) w:=fun w q=>by kernel_rfl
theorem Ys:∀ (w:World) (q:Addr),(Instr.fieldAt 223 (.pointer (some q)) 1).run Tryz.prog w= .ok (.pointer (some (q.add 1))) w:=fun w q=>by kernel_rfl
theorem Yt:∀ (w:World) (q:Addr),(Instr.fieldAt 223 (.pointer (some q)) 2).run Tryz.prog w= .ok (.pointer (some (q.add 2))) w:=fun w q=>by kernel_rfl
theorem Yu:∀ (w:World) (q:Addr),(Instr.fieldAt 223 (.pointer (some q)) 3).run Tryz.prog w= .ok (.pointer (some (q.add 3))) w:=fun w q=>by kernel_rfl
theorem Po:CF Tryz.prog 163:=cfo Tryz.func163 (by kernel_rfl)
theorem Jf:CF Tryz.prog 164:=cfo Tryz.func164 (by kernel_rfl)
theorem HE:CF Tryz.prog 232:=cfo Tryz.func232 (by kernel_rfl)
theorem Xc:CF Tryz.prog 284:=cfo Tryz.func284 (by kernel_rfl)
theorem Jg:CF Tryz.prog 166:=cfo Tryz.func166 (by kernel_rfl)
theorem CW:(Tryz.prog.info? 215).map (fun i=>(i.zero,i.size,i.bytes))=some (some (.agg #[.int .i64 0,.int .i64 0,.slice none 0 0]),3,40):=by kernel_rfl
theorem fH{w:World}{os:List Ob}{rs:List Rp}{v:Value}{xs:List aD}(H:Sep w os rs)(hm:rSl aO v xs ∈ rs)(hl:xs.length ≤ LIM) :
    Calls Tryz.prog 166 [v].toArray w (Ret fun v' w'=>Sep w' (Row 215 aO v' xs::os) rs):=by
  obtain ⟨b,c,rfl⟩:=H.slform hm
  refine enter Tryz.func166 rfl Tryz.ntmps166 rfl fun a E=>?_
  simp only [sL,Nat.reduceAdd] at E
  refine wp_seq ?_
  refine wp_region_lit ?_
  refine aQ E (wn rfl) rfl rfl (cU E rfl rfl) ?_
  clear E;clear a;intro a E
  refine wpList_nil ?_
  refine aC ?_
  refine wp_seq ?_
  refine wp_seq ?_
  refine wp_region_lit ?_
  refine aQ E (wn rfl) rfl rfl (bE E rfl rfl) ?_
  clear E;clear a;intro a E
  refine aQ E (wn rfl) rfl rfl (B5 E rfl rfl rfl Tryz.underlying71) ?_
  clear E;clear a;intro a E
  refine wpList_nil ?_
  refine aC ?_
  refine qS E rfl ?_ ?_
  · intro hb
    cases b with
    | some _=>cases hb
    | none=>
      obtain rfl:=H.sl_none hm
      refine wp_seq ?_
      refine wp_region_lit ?_
      refine aQ E (wn rfl) rfl rfl (cU E rfl rfl) ?_
      clear E;clear a;intro a E
      refine wpList_nil ?_
      refine aC ?_
      refine wp_ret ?_
      refine aP ?_
      refine aY E rfl rfl ?_
      exact H.nilRow 215 aO
  · intro hb
    refine wp_skip ?_
    refine aC ?_
    refine wp_seq ?_
    refine wp_region_lit ?_
    refine hJ (e:=215) (d:=aO) (cs:=[]) (xs:=[]) E H (wn rfl) rfl rfl (ps:=[]) (parts:=[]) rfl rfl (by kernel_rfl) rfl rfl (fun ok hr=>Rows.nil _ _ _) ?_
    clear E H;clear a;clear w;intro v2 w a H E
    refine aQ E (wn rfl) rfl rfl (bE E rfl rfl) ?_
    clear E;clear a;intro a E
    refine eK (i:=0) E H (wn rfl) rfl rfl rfl rfl rfl rfl (lB hm) Tryz.underlying71 CW rfl (by simpa using hl) rfl ?_
    clear E H;clear a;clear w;intro v3 w a H E
    refine aQ E (wn rfl) rfl rfl (cU E rfl rfl) ?_
    clear E;clear a;intro a E
    refine wpList_nil ?_
    refine aC ?_
    refine wp_ret ?_
    refine aY E rfl rfl ?_
    exact H

theorem Lc:(Tryz.prog.info? 71).map (·.size)=some 1:=by kernel_rfl
theorem Ff:CF Tryz.prog 170:=cfo Tryz.func170 (by kernel_rfl)
theorem Fg:(Tryz.prog.info? 223).map (fun i=>(i.zero,i.size,i.bytes))=some (some (.agg #[.int .i64 0,.int .i64 0,.string ⟨#[]⟩,.int .i64 0]),4,40):=by kernel_rfl
theorem eV{w:World}{os:List Ob}{rs:List Rp}{v:Value}{xs:List bL}(H:Sep w os rs)(hm:rSl aX v xs ∈ rs)(hl:xs.length ≤ LIM) :
    Calls Tryz.prog 170 [v].toArray w (Ret fun v' w'=>Sep w' (Row 223 aX v' xs::os) rs):=by
  obtain ⟨b,c,rfl⟩:=H.slform hm
  refine enter Tryz.func170 rfl Tryz.ntmps170 rfl fun a E=>?_
  simp only [sL,Nat.reduceAdd] at E
  refine wp_seq ?_
  refine wp_region_lit ?_
  refine aQ E (wn rfl) rfl rfl (cU E rfl rfl) ?_
  clear E;clear a;intro a E
  refine wpList_nil ?_
  refine aC ?_
  refine wp_seq ?_
  refine wp_seq ?_
  refine wp_region_lit ?_
  refine aQ E (wn rfl) rfl rfl (bE E rfl rfl) ?_
  clear E;clear a;intro a E
  refine aQ E (wn rfl) rfl rfl (B5 E rfl rfl rfl Tryz.underlying44) ?_
  clear E;clear a;intro a E
  refine wpList_nil ?_
  refine aC ?_
  refine qS E rfl ?_ ?_
  · intro hb
    cases b with
    | some _=>cases hb
    | none=>
      obtain rfl:=H.sl_none hm
      refine wp_seq ?_
      refine wp_region_lit ?_
      refine aQ E (wn rfl) rfl rfl (cU E rfl rfl) ?_
      clear E;clear a;intro a E
      refine wpList_nil ?_
      refine aC ?_
      refine wp_ret ?_
      refine aP ?_
      refine aY E rfl rfl ?_
      exact H.nilRow 223 aX
  · intro hb
    refine wp_skip ?_
    refine aC ?_
    refine wp_seq ?_
    refine wp_region_lit ?_
    refine hJ (e:=223) (d:=aX) (cs:=[]) (xs:=[]) E H (wn rfl) rfl rfl (ps:=[]) (parts:=[]) rfl rfl (by kernel_rfl) rfl rfl (fun ok hr=>Rows.nil _ _ _) ?_
    clear E H;clear a;clear w;intro v2 w a H E
    refine aQ E (wn rfl) rfl rfl (bE E rfl rfl) ?_
    clear E;clear a;intro a E
    refine eK (i:=0) E H (wn rfl) rfl rfl rfl rfl rfl rfl (lB hm) Tryz.underlying44 Fg rfl (by simpa using hl) rfl ?_
    clear E H;clear a;clear w;intro v3 w a H E
    refine aQ E (wn rfl) rfl rfl (cU E rfl rfl) ?_
    clear E;clear a;intro a E
    refine wpList_nil ?_
    refine aC ?_
    refine wp_ret ?_
    refine aY E rfl rfl ?_
    exact H

theorem HF:CF Tryz.prog 169:=cfo Tryz.func169 (by kernel_rfl)
theorem HG:CF Tryz.prog 235:=cfo Tryz.func235 (by kernel_rfl)
theorem Xd:CF Tryz.prog 171:=cfo Tryz.func171 (by kernel_rfl)
theorem CX:(Tryz.prog.info? 223).bind (·.zero)=some (.agg #[.int .i64 0,.int .i64 0,.string ⟨#[]⟩,.int .i64 0]):=by kernel_rfl
theorem Pp:(Tryz.prog.info? 44).map (·.size)=some 1:=by kernel_rfl
theorem Vc:CF Tryz.prog 89:=cfo Tryz.func89 (by kernel_rfl)
theorem CY:∀ (w:World) (q:Addr),(Instr.fieldAt 48 (.pointer (some q)) 0).run Tryz.prog w= .ok (.pointer (some (q.add 0))) w:=fun w q=>by kernel_rfl
abbrev U41:=Tryz.underlying41
theorem LD:CF Tryz.prog 33:=cfo Tryz.func33 (by kernel_rfl)
theorem CZ:CF Tryz.prog 90:=cfo Tryz.func90 (by kernel_rfl)
theorem Xe:CF Tryz.prog 162:=cfo Tryz.func162 (by kernel_rfl)
theorem HI:CF Tryz.prog 231:=cfo Tryz.func231 (by kernel_rfl)
theorem Jh:CF Tryz.prog 167:=cfo Tryz.func167 (by kernel_rfl)
theorem Pq:(Tryz.prog.info? 35).map (fun i=>(i.zero,i.size,i.bytes))=some (some (.agg #[.int .i64 0,.int .i64 0,.string ⟨#[]⟩,.bool false]),4,40):=by kernel_rfl
theorem gD{w:World}{os:List Ob}{rs:List Rp}{v:Value}{xs:List aK}(H:Sep w os rs)(hm:rSl bB v xs ∈ rs)(hl:xs.length ≤ LIM) :
    Calls Tryz.prog 167 [v].toArray w (Ret fun v' w'=>Sep w' (Row 35 bB v' xs::os) rs):=by
  obtain ⟨b,c,rfl⟩:=H.slform hm
  refine enter Tryz.func167 rfl Tryz.ntmps167 rfl fun a E=>?_
  simp only [sL,Nat.reduceAdd] at E
  refine wp_seq ?_
  refine wp_region_lit ?_
  refine aQ E (wn rfl) rfl rfl (cU E rfl rfl) ?_
  clear E;clear a;intro a E
  refine wpList_nil ?_
  refine aC ?_
  refine wp_seq ?_
  refine wp_seq ?_
  refine wp_region_lit ?_
  refine aQ E (wn rfl) rfl rfl (bE E rfl rfl) ?_
  clear E;clear a;intro a E
  refine aQ E (wn rfl) rfl rfl (B5 E rfl rfl rfl Tryz.underlying70) ?_
  clear E;clear a;intro a E
  refine wpList_nil ?_
  refine aC ?_
  refine qS E rfl ?_ ?_
  · intro hb
    cases b with
    | some _=>cases hb
    | none=>
      obtain rfl:=H.sl_none hm
      refine wp_seq ?_
      refine wp_region_lit ?_
      refine aQ E (wn rfl) rfl rfl (cU E rfl rfl) ?_
      clear E;clear a;intro a E
      refine wpList_nil ?_
      refine aC ?_
      refine wp_ret ?_
      refine aP ?_
      refine aY E rfl rfl ?_
      exact H.nilRow 35 bB
  · intro hb
    refine wp_skip ?_
    refine aC ?_
    refine wp_seq ?_
    refine wp_region_lit ?_
    refine hJ (e:=35) (d:=bB) (cs:=[]) (xs:=[]) E H (wn rfl) rfl rfl (ps:=[]) (parts:=[]) rfl rfl (by kernel_rfl) rfl rfl (fun ok hr=>Rows.nil _ _ _) ?_
    clear E H;clear a;clear w;intro v2 w a H E
    refine aQ E (wn rfl) rfl rfl (bE E rfl rfl) ?_
    clear E;clear a;intro a E
    refine eK (i:=0) E H (wn rfl) rfl rfl rfl rfl rfl rfl (lB hm) Tryz.underlying70 Pq rfl (by simpa using hl) rfl ?_
    clear E H;clear a;clear w;intro v3 w a H E
    refine aQ E (wn rfl) rfl rfl (cU E rfl rfl) ?_
    clear E;clear a;intro a E
    refine wpList_nil ?_
    refine aC ?_
    refine wp_ret ?_
    refine aY E rfl rfl ?_
    exact H

theorem HJ:CF Tryz.prog 168:=cfo Tryz.func168 (by kernel_rfl)
theorem Pr:(Tryz.prog.info? 70).map (·.size)=some 1:=by kernel_rfl
theorem LE:CF Tryz.prog 32:=cfo Tryz.func32 (by kernel_rfl)
theorem DA:CF Tryz.prog 88:=cfo Tryz.func88 (by kernel_rfl)
theorem Ps:CF Tryz.prog 165:=cfo Tryz.func165 (by kernel_rfl)
theorem LF:CF Tryz.prog 25:=cfo Tryz.func25 (by kernel_rfl)
theorem DB:CF Tryz.prog 65:=cfo Tryz.func65 (by kernel_rfl)
theorem HK:CF Tryz.prog 117:=cfo Tryz.func117 (by kernel_rfl)
theorem HL:CF Tryz.prog 118:=cfo Tryz.func118 (by kernel_rfl)
theorem Vd:CF Tryz.prog 66:=cfo Tryz.func66 (by kernel_rfl)
theorem Pu:CF Tryz.prog 119:=cfo Tryz.func119 (by kernel_rfl)
theorem LG:CF Tryz.prog 67:=cfo Tryz.func67 (by kernel_rfl)
abbrev U28:=Tryz.underlying28
theorem DC:∀ (w:World) (q:Addr),(Instr.fieldAt 75 (.pointer (some q)) 2).run Tryz.prog w= .ok (.pointer (some (q.add 3))) w:=fun w q=>by kernel_rfl
abbrev U62:=Tryz.underlying62
theorem LH:CF Tryz.prog 68:=cfo Tryz.func68 (by kernel_rfl)
theorem Fh:CF Tryz.prog 120:=cfo Tryz.func120 (by kernel_rfl)
theorem iW:(Tryz.prog.info? 103).map (·.size)=some 3:=by kernel_rfl
abbrev F5:=Tryz.underlying103
theorem HM:CF Tryz.prog 121:=cfo Tryz.func121 (by kernel_rfl)
theorem Yv:∀ (w:World) (q:Addr),(Instr.fieldAt 103 (.pointer (some q)) 0).run Tryz.prog w= .ok (.pointer (some (q.add 0))) w:=fun w q=>by kernel_rfl
theorem Yw:∀ (w:World) (q:Addr),(Instr.fieldAt 103 (.pointer (some q)) 1).run Tryz.prog w= .ok (.pointer (some (q.add 1))) w:=fun w q=>by kernel_rfl
theorem DD:CF Tryz.prog 69:=cfo Tryz.func69 (by kernel_rfl)
theorem Xf:CF Tryz.prog 122:=cfo Tryz.func122 (by kernel_rfl)
theorem HN:CF Tryz.prog 123:=cfo Tryz.func123 (by kernel_rfl)
theorem Sb:∀ (w:World) (q:Addr),(Instr.fieldAt 75 (.pointer (some q)) 1).run Tryz.prog w= .ok (.pointer (some (q.add 2))) w:=fun w q=>by kernel_rfl
theorem HO:CF Tryz.prog 124:=cfo Tryz.func124 (by kernel_rfl)
theorem Ds:CF Tryz.prog 76:=cfo Tryz.func76 (by kernel_rfl)
theorem DE:CF Tryz.prog 70:=cfo Tryz.func70 (by kernel_rfl)
theorem Fi:∀ (w:World) (q:Addr),(Instr.fieldAt 75 (.pointer (some q)) 0).run Tryz.prog w= .ok (.pointer (some (q.add 0))) w:=fun w q=>by kernel_rfl
theorem Ve:CF Tryz.prog 72:=cfo Tryz.func72 (by kernel_rfl)
theorem lF:(Tryz.prog.info? 25).bind (·.zero)=some (.agg #[.slice none 0 0,.slice none 0 0]):=by kernel_rfl
theorem HP:CF Tryz.prog 138:=cfo Tryz.func138 (by kernel_rfl)
theorem DF:(Tryz.prog.info? 81).bind (·.zero)=some (.agg Z4.toArray):=by kernel_rfl
theorem HQ:(Tryz.prog.info? 249).bind (·.zero)=some (.agg #[.nilFunc,.nilFunc,.nilFunc,.nilFunc,.nilFunc,.nilFunc,.nilFunc,.nilFunc,.nilFunc,.nilFunc,.nilFunc]):=by kernel_rfl
theorem HR:(Tryz.prog.info? 249).map (·.size)=some 11:=by kernel_rfl
theorem C2:(Tryz.prog.info? 81).map (·.size)=some 5:=by kernel_rfl
theorem DG:CF Tryz.prog 39:=cfo Tryz.func39 (by kernel_rfl)
theorem Ji:(Tryz.prog.info? 95).map (fun i=>(i.zero,i.size,i.bytes))=some (some (.agg #[.string ⟨#[]⟩,.string ⟨#[]⟩,.int .i64 0,.int .i64 0,.int .i64 0]),5,56):=by kernel_rfl
theorem pV{w:World}{os:List Ob}{rs:List Rp}{v:Value}{xs:List aF}(H:Sep w os rs)(hm:rSl aE v xs ∈ rs)(hl:xs.length ≤ LIM) :
    Calls Tryz.prog 39 [v].toArray w (Ret fun v' w'=>Sep w' (Row 95 aE v' xs::os) rs):=by
  obtain ⟨b,c,rfl⟩:=H.slform hm
  refine enter Tryz.func39 rfl Tryz.ntmps39 rfl fun a E=>?_
  simp only [sL,Nat.reduceAdd] at E
  refine wp_seq ?_
  refine wp_region_lit ?_
  refine aQ E (wn rfl) rfl rfl (cU E rfl rfl) ?_
  clear E;clear a;intro a E
  refine wpList_nil ?_
  refine aC ?_
  refine wp_seq ?_
  refine wp_seq ?_
  refine wp_region_lit ?_
  refine aQ E (wn rfl) rfl rfl (bE E rfl rfl) ?_
  clear E;clear a;intro a E
  refine aQ E (wn rfl) rfl rfl (B5 E rfl rfl rfl Tryz.underlying22) ?_
  clear E;clear a;intro a E
  refine wpList_nil ?_
  refine aC ?_
  refine qS E rfl ?_ ?_
  · intro hb
    cases b with
    | some _=>cases hb
    | none=>
      obtain rfl:=H.sl_none hm
      refine wp_seq ?_
      refine wp_region_lit ?_
      refine aQ E (wn rfl) rfl rfl (cU E rfl rfl) ?_
      clear E;clear a;intro a E
      refine wpList_nil ?_
      refine aC ?_
      refine wp_ret ?_
      refine aP ?_
      refine aY E rfl rfl ?_
      exact H.nilRow 95 aE
  · intro hb
    refine wp_skip ?_
    refine aC ?_
    refine wp_seq ?_
    refine wp_region_lit ?_
    refine hJ (e:=95) (d:=aE) (cs:=[]) (xs:=[]) E H (wn rfl) rfl rfl (ps:=[]) (parts:=[]) rfl rfl (by kernel_rfl) rfl rfl (fun ok hr=>Rows.nil _ _ _) ?_
    clear E H;clear a;clear w;intro v2 w a H E
    refine aQ E (wn rfl) rfl rfl (bE E rfl rfl) ?_
    clear E;clear a;intro a E
    refine eK (i:=0) E H (wn rfl) rfl rfl rfl rfl rfl rfl (lB hm) Tryz.underlying22 Ji rfl (by simpa using hl) rfl ?_
    clear E H;clear a;clear w;intro v3 w a H E
    refine aQ E (wn rfl) rfl rfl (cU E rfl rfl) ?_
    clear E;clear a;intro a E
    refine wpList_nil ?_
    refine aC ?_
    refine wp_ret ?_
    refine aY E rfl rfl ?_
    exact H

theorem DH:CF Tryz.prog 40:=cfo Tryz.func40 (by kernel_rfl)
theorem Jj:(Tryz.prog.info? 77).map (fun i=>(i.zero,i.size,i.bytes))=some (some (.agg #[.string ⟨#[]⟩,.int .i64 0]),2,24):=by kernel_rfl
theorem pW{w:World}{os:List Ob}{rs:List Rp}{v:Value}{xs:List aJ}(H:Sep w os rs)(hm:rSl aI v xs ∈ rs)(hl:xs.length ≤ LIM) :
    Calls Tryz.prog 40 [v].toArray w (Ret fun v' w'=>Sep w' (Row 77 aI v' xs::os) rs):=by
  obtain ⟨b,c,rfl⟩:=H.slform hm
  refine enter Tryz.func40 rfl Tryz.ntmps40 rfl fun a E=>?_
  simp only [sL,Nat.reduceAdd] at E
  refine wp_seq ?_
  refine wp_region_lit ?_
  refine aQ E (wn rfl) rfl rfl (cU E rfl rfl) ?_
  clear E;clear a;intro a E
  refine wpList_nil ?_
  refine aC ?_
  refine wp_seq ?_
  refine wp_seq ?_
  refine wp_region_lit ?_
  refine aQ E (wn rfl) rfl rfl (bE E rfl rfl) ?_
  clear E;clear a;intro a E
  refine aQ E (wn rfl) rfl rfl (B5 E rfl rfl rfl Tryz.underlying23) ?_
  clear E;clear a;intro a E
  refine wpList_nil ?_
  refine aC ?_
  refine qS E rfl ?_ ?_
  · intro hb
    cases b with
    | some _=>cases hb
    | none=>
      obtain rfl:=H.sl_none hm
      refine wp_seq ?_
      refine wp_region_lit ?_
      refine aQ E (wn rfl) rfl rfl (cU E rfl rfl) ?_
      clear E;clear a;intro a E
      refine wpList_nil ?_
      refine aC ?_
      refine wp_ret ?_
      refine aP ?_
      refine aY E rfl rfl ?_
      exact H.nilRow 77 aI
  · intro hb
    refine wp_skip ?_
    refine aC ?_
    refine wp_seq ?_
    refine wp_region_lit ?_
    refine hJ (e:=77) (d:=aI) (cs:=[]) (xs:=[]) E H (wn rfl) rfl rfl (ps:=[]) (parts:=[]) rfl rfl (by kernel_rfl) rfl rfl (fun ok hr=>Rows.nil _ _ _) ?_
    clear E H;clear a;clear w;intro v2 w a H E
    refine aQ E (wn rfl) rfl rfl (bE E rfl rfl) ?_
    clear E;clear a;intro a E
    refine eK (i:=0) E H (wn rfl) rfl rfl rfl rfl rfl rfl (lB hm) Tryz.underlying23 Jj rfl (by simpa using hl) rfl ?_
    clear E H;clear a;clear w;intro v3 w a H E
    refine aQ E (wn rfl) rfl rfl (cU E rfl rfl) ?_
    clear E;clear a;intro a E
    refine wpList_nil ?_
    refine aC ?_
    refine wp_ret ?_
    refine aY E rfl rfl ?_
    exact H

abbrev N3:=Tryz.underlying249
theorem D6:(Tryz.prog.info? 246).map (·.size)=some 1:=by kernel_rfl
abbrev N4:=Tryz.underlying246
theorem HS:CF Tryz.prog 202:=cfo Tryz.func202 (by kernel_rfl)
theorem Pv:CF Tryz.prog 266:=cfo Tryz.func266 (by kernel_rfl)
theorem HT:(Tryz.prog.info? 107).bind (·.zero)=some (.nilFunc):=by kernel_rfl
theorem HU:(Tryz.prog.info? 107).map (·.size)=some 1:=by kernel_rfl
abbrev Pw:=Tryz.underlying248
theorem Yx:∀ (w:World) (q:Addr),(Instr.fieldAt 251 (.pointer (some q)) 0).run Tryz.prog w= .ok (.pointer (some (q.add 0))) w:=fun w q=>by kernel_rfl
theorem HV:CF Tryz.prog 268:=cfo Tryz.func268 (by kernel_rfl)
theorem Xg:CF Tryz.prog 269:=cfo Tryz.func269 (by kernel_rfl)
abbrev LI:=Tryz.underlying107
theorem Px:CF Tryz.prog 317:=cfo Tryz.func317 (by kernel_rfl)
theorem Yy:∀ (w:World) (q:Addr),(Instr.fieldAt 251 (.pointer (some q)) 1).run Tryz.prog w= .ok (.pointer (some (q.add 2))) w:=fun w q=>by kernel_rfl
theorem DI:∀ (w:World) (q:Addr),(Instr.fieldAt 81 (.pointer (some q)) 4).run Tryz.prog w= .ok (.pointer (some (q.add 4))) w:=fun w q=>by kernel_rfl
theorem Py:CF Tryz.prog 261:=cfo Tryz.func261 (by kernel_rfl)
theorem DJ:(Tryz.prog.info? 33).map (·.size)=some 1:=by kernel_rfl
theorem Vf:(Tryz.prog.info? 95).bind (·.zero)=some (.agg FW.toArray):=by kernel_rfl
theorem HW:(Tryz.prog.info? 95).bind (·.zero)=some (.agg #[.string ⟨#[]⟩,.string ⟨#[]⟩,.int .i64 0,.int .i64 0,.int .i64 0]):=by kernel_rfl
theorem Gp:(Tryz.prog.info? 22).map (·.size)=some 1:=by kernel_rfl
theorem HX:CF Tryz.prog 201:=cfo Tryz.func201 (by kernel_rfl)
theorem HY:CF Tryz.prog 200:=cfo Tryz.func200 (by kernel_rfl)
theorem Bi:CF Tryz.prog 256:=cfo Tryz.func256 (by kernel_rfl)
theorem Pz:CF Tryz.prog 262:=cfo Tryz.func262 (by kernel_rfl)
theorem HZ:CF Tryz.prog 313:=cfo Tryz.func313 (by kernel_rfl)
theorem Xh:CF Tryz.prog 314:=cfo Tryz.func314 (by kernel_rfl)
theorem Ld:CF Tryz.prog 84:=cfo Tryz.func84 (by kernel_rfl)
theorem IA:CF Tryz.prog 158:=cfo Tryz.func158 (by kernel_rfl)
theorem Sc:∀ (w:World) (s t:ByteArray),(callFunc 217 #[.string s,.string t]).run Tryz.prog w= .ok (.value (.int .i64 (Extern.BytealgCompare.cmp s t))) w:=fun w s t=>Kf Tryz.func217 (by kernel_rfl) (by kernel_rfl) (by kernel_rfl) (e:=Extern.BytealgCompare.compare) (by kernel_rfl) (Uo s t w)
theorem S9:CF Tryz.prog 257:=cfo Tryz.func257 (by kernel_rfl)
theorem IB:CF Tryz.prog 199:=cfo Tryz.func199 (by kernel_rfl)
theorem Fj:∀ (w:World) (q:Addr),(Op.equal 294 (.pointer (some q)) (.pointer none)).run Tryz.prog w= .ok false w:=fun w q=>by kernel_rfl
theorem Fk:∀ w:World,(Op.equal 294 (.pointer none) (.pointer none)).run Tryz.prog w= .ok true w:=fun w=>by kernel_rfl
theorem DK:∀ (w:World) (q:Addr),(Instr.fieldAt 81 (.pointer (some q)) 2).run Tryz.prog w= .ok (.pointer (some (q.add 2))) w:=fun w q=>by kernel_rfl
theorem DL:∀ (w:World) (q:Addr),(Instr.fieldAt 81 (.pointer (some q)) 3).run Tryz.prog w= .ok (.pointer (some (q.add 3))) w:=fun w q=>by kernel_rfl
theorem IC:CF Tryz.prog 198:=cfo Tryz.func198 (by kernel_rfl)
theorem ID:CF Tryz.prog 197:=cfo Tryz.func197 (by kernel_rfl)
theorem IE:CF Tryz.prog 196:=cfo Tryz.func196 (by kernel_rfl)
theorem Qa:CF Tryz.prog 258:=cfo Tryz.func258 (by kernel_rfl)
theorem Qb:CF Tryz.prog 308:=cfo Tryz.func308 (by kernel_rfl)
theorem Xi:CF Tryz.prog 309:=cfo Tryz.func309 (by kernel_rfl)
theorem Qc:CF Tryz.prog 310:=cfo Tryz.func310 (by kernel_rfl)
theorem T1:(Tryz.prog.info? 23).map (·.size)=some 1:=by kernel_rfl
theorem IF:CF Tryz.prog 267:=cfo Tryz.func267 (by kernel_rfl)
theorem Qd:CF Tryz.prog 311:=cfo Tryz.func311 (by kernel_rfl)
theorem IG:CF Tryz.prog 195:=cfo Tryz.func195 (by kernel_rfl)
theorem IH:CF Tryz.prog 265:=cfo Tryz.func265 (by kernel_rfl)
theorem II:CF Tryz.prog 194:=cfo Tryz.func194 (by kernel_rfl)
theorem IJ:CF Tryz.prog 259:=cfo Tryz.func259 (by kernel_rfl)
theorem IK:CF Tryz.prog 260:=cfo Tryz.func260 (by kernel_rfl)
theorem IL:CF Tryz.prog 312:=cfo Tryz.func312 (by kernel_rfl)
theorem Xj:CF Tryz.prog 185:=cfo Tryz.func185 (by kernel_rfl)
theorem IM:CF Tryz.prog 263:=cfo Tryz.func263 (by kernel_rfl)
theorem IP:CF Tryz.prog 264:=cfo Tryz.func264 (by kernel_rfl)
theorem DM:∀ (w:World) (q:Addr),(Instr.fieldAt 81 (.pointer (some q)) 1).run Tryz.prog w= .ok (.pointer (some (q.add 1))) w:=fun w q=>by kernel_rfl
theorem IQ:CF Tryz.prog 193:=cfo Tryz.func193 (by kernel_rfl)
theorem DN:∀ (w:World) (q:Addr),(Instr.fieldAt 81 (.pointer (some q)) 0).run Tryz.prog w= .ok (.pointer (some (q.add 0))) w:=fun w q=>by kernel_rfl
abbrev U81:=Tryz.underlying81
abbrev U40:=Tryz.underlying40
theorem IU:(Tryz.prog.info? 81).map (fun i=>(i.zero,i.size,i.bytes))=some (some (.agg #[.int .i64 0,.string ⟨#[]⟩,.string ⟨#[]⟩,.int .i64 0,.slice none 0 0]),5,72):=by kernel_rfl
theorem IV:CF Tryz.prog 125:=cfo Tryz.func125 (by kernel_rfl)
theorem Jk:CF Tryz.prog 184:=cfo Tryz.func184 (by kernel_rfl)
theorem IW:CF Tryz.prog 252:=cfo Tryz.func252 (by kernel_rfl)
theorem IX:CF Tryz.prog 295:=cfo Tryz.func295 (by kernel_rfl)
theorem Xk:CF Tryz.prog 296:=cfo Tryz.func296 (by kernel_rfl)
theorem DO:∀ (w:World) (q:Addr),(Instr.fieldAt 35 (.pointer (some q)) 3).run Tryz.prog w= .ok (.pointer (some (q.add 3))) w:=fun w q=>by kernel_rfl
theorem IY:CF Tryz.prog 297:=cfo Tryz.func297 (by kernel_rfl)
theorem IZ:(Tryz.prog.info? 35).bind (·.zero)=some (.agg #[.int .i64 0,.int .i64 0,.string ⟨#[]⟩,.bool false]):=by kernel_rfl
theorem LJ:CF Tryz.prog 31:=cfo Tryz.func31 (by kernel_rfl)
theorem LK:CF Tryz.prog 87:=cfo Tryz.func87 (by kernel_rfl)
theorem Qe:CF Tryz.prog 151:=cfo Tryz.func151 (by kernel_rfl)
theorem Xl:CF Tryz.prog 152:=cfo Tryz.func152 (by kernel_rfl)
theorem Xm:CF Tryz.prog 204:=cfo Tryz.func204 (by kernel_rfl)
theorem Qf:CF Tryz.prog 143:=cfo Tryz.func143 (by kernel_rfl)
theorem DP:CF Tryz.prog 45:=cfo Tryz.func45 (by kernel_rfl)
theorem JA:(Tryz.prog.info? 31).map (fun i=>(i.zero,i.size,i.bytes))=some (some (.agg #[.string ⟨#[]⟩,.int .i64 0,.int .i64 0]),3,32):=by kernel_rfl
theorem oT{w:World}{os:List Ob}{rs:List Rp}{v:Value}{xs:List aG}(H:Sep w os rs)(hm:rSl aT v xs ∈ rs)(hl:xs.length ≤ LIM) :
    Calls Tryz.prog 45 [v].toArray w (Ret fun v' w'=>Sep w' (Row 31 aT v' xs::os) rs):=by
  obtain ⟨b,c,rfl⟩:=H.slform hm
  refine enter Tryz.func45 rfl Tryz.ntmps45 rfl fun a E=>?_
  simp only [sL,Nat.reduceAdd] at E
  refine wp_seq ?_
  refine wp_region_lit ?_
  refine aQ E (wn rfl) rfl rfl (cU E rfl rfl) ?_
  clear E;clear a;intro a E
  refine wpList_nil ?_
  refine aC ?_
  refine wp_seq ?_
  refine wp_seq ?_
  refine wp_region_lit ?_
  refine aQ E (wn rfl) rfl rfl (bE E rfl rfl) ?_
  clear E;clear a;intro a E
  refine aQ E (wn rfl) rfl rfl (B5 E rfl rfl rfl Tryz.underlying32) ?_
  clear E;clear a;intro a E
  refine wpList_nil ?_
  refine aC ?_
  refine qS E rfl ?_ ?_
  · intro hb
    cases b with
    | some _=>cases hb
    | none=>
      obtain rfl:=H.sl_none hm
      refine wp_seq ?_
      refine wp_region_lit ?_
      refine aQ E (wn rfl) rfl rfl (cU E rfl rfl) ?_
      clear E;clear a;intro a E
      refine wpList_nil ?_
      refine aC ?_
      refine wp_ret ?_
      refine aP ?_
      refine aY E rfl rfl ?_
      exact H.nilRow 31 aT
  · intro hb
    refine wp_skip ?_
    refine aC ?_
    refine wp_seq ?_
    refine wp_region_lit ?_
    refine hJ (e:=31) (d:=aT) (cs:=[]) (xs:=[]) E H (wn rfl) rfl rfl (ps:=[]) (parts:=[]) rfl rfl (by kernel_rfl) rfl rfl (fun ok hr=>Rows.nil _ _ _) ?_
    clear E H;clear a;clear w;intro v2 w a H E
    refine aQ E (wn rfl) rfl rfl (bE E rfl rfl) ?_
    clear E;clear a;intro a E
    refine eK (i:=0) E H (wn rfl) rfl rfl rfl rfl rfl rfl (lB hm) Tryz.underlying32 JA rfl (by simpa using hl) rfl ?_
    clear E H;clear a;clear w;intro v3 w a H E
    refine aQ E (wn rfl) rfl rfl (cU E rfl rfl) ?_
    clear E;clear a;intro a E
    refine wpList_nil ?_
    refine aC ?_
    refine wp_ret ?_
    refine aY E rfl rfl ?_
    exact H

theorem Xn:CF Tryz.prog 154:=cfo Tryz.func154 (by kernel_rfl)
theorem F6:CF Tryz.prog 78:=cfo Tryz.func78 (by kernel_rfl)
theorem JB:(Tryz.prog.info? 109).bind (·.zero)=some (.nilFunc):=by kernel_rfl
theorem JC:(Tryz.prog.info? 109).map (·.size)=some 1:=by kernel_rfl
theorem JD:CF Tryz.prog 146:=cfo Tryz.func146 (by kernel_rfl)
theorem JE:CF Tryz.prog 147:=cfo Tryz.func147 (by kernel_rfl)
abbrev DQ:=Tryz.underlying109
theorem Xo:CF Tryz.prog 145:=cfo Tryz.func145 (by kernel_rfl)
theorem JF:CF Tryz.prog 149:=cfo Tryz.func149 (by kernel_rfl)
theorem LL:(Tryz.prog.info? 77).bind (·.zero)=some (.agg #[.string (ByteArray.mk #[]),.int .i64 0]):=by kernel_rfl
theorem JG:CF Tryz.prog 150:=cfo Tryz.func150 (by kernel_rfl)
theorem Vg:(Tryz.prog.info? 32).map (·.size)=some 1:=by kernel_rfl
theorem LM:CF Tryz.prog 30:=cfo Tryz.func30 (by kernel_rfl)
theorem Vh:CF Tryz.prog 74:=cfo Tryz.func74 (by kernel_rfl)
theorem JH:CF Tryz.prog 141:=cfo Tryz.func141 (by kernel_rfl)
theorem JI:CF Tryz.prog 142:=cfo Tryz.func142 (by kernel_rfl)
theorem LN:CF Tryz.prog 79:=cfo Tryz.func79 (by kernel_rfl)
theorem LO:CF Tryz.prog 80:=cfo Tryz.func80 (by kernel_rfl)
theorem Xp:CF Tryz.prog 153:=cfo Tryz.func153 (by kernel_rfl)
theorem DS:CF Tryz.prog 77:=cfo Tryz.func77 (by kernel_rfl)
theorem Qg:CF Tryz.prog 127:=cfo Tryz.func127 (by kernel_rfl)
theorem JJ:CF Tryz.prog 144:=cfo Tryz.func144 (by kernel_rfl)
theorem LP:CF Tryz.prog 81:=cfo Tryz.func81 (by kernel_rfl)
theorem JK:CF Tryz.prog 155:=cfo Tryz.func155 (by kernel_rfl)
theorem LQ:CF Tryz.prog 82:=cfo Tryz.func82 (by kernel_rfl)
theorem LR:CF Tryz.prog 85:=cfo Tryz.func85 (by kernel_rfl)
theorem LS:CF Tryz.prog 29:=cfo Tryz.func29 (by kernel_rfl)
theorem LT:CF Tryz.prog 75:=cfo Tryz.func75 (by kernel_rfl)
theorem LU:CF Tryz.prog 28:=cfo Tryz.func28 (by kernel_rfl)
theorem Sd:∀ (w:World) (q:Addr),(Instr.fieldAt 75 (.pointer (some q)) 6).run Tryz.prog w= .ok (.pointer (some (q.add 8))) w:=fun w q=>by kernel_rfl
theorem DT:∀ (w:World) (q:Addr),(Instr.fieldAt 37 (.pointer (some q)) 4).run Tryz.prog w= .ok (.pointer (some (q.add 4))) w:=fun w q=>by kernel_rfl
theorem LV:CF Tryz.prog 27:=cfo Tryz.func27 (by kernel_rfl)
theorem Le:∀ (w:World) (q:Addr),(Instr.fieldAt 75 (.pointer (some q)) 5).run Tryz.prog w= .ok (.pointer (some (q.add 7))) w:=fun w q=>by kernel_rfl
abbrev U69:=Tryz.underlying69
theorem Fl:(Tryz.prog.info? 128).bind (·.zero)=some (.agg [.bool false,.slice none 0 0,.int .i64 0,.int .i64 0,.bool false,.int .i64 0,.slice none 0 0,.slice none 0 0,.slice none 0 0,.slice none 0 0,.slice none 0 0,.slice none 0 0].toArray):=by kernel_rfl
theorem Jl:∀ (w:World) (ok:Nat→Prop),dB.R w ok N1 [.bool false,.slice none 0 0,.int .i64 0,.int .i64 0,.bool false,.int .i64 0,.slice none 0 0,.slice none 0 0,.slice none 0 0,.slice none 0 0,.slice none 0 0,.slice none 0 0]:=fun w ok=>B8 (Sl.nil _ _ _) (Sl.nil _ _ _) (Sl.nil _ _ _) (Sl.nil _ _ _) (Sl.nil _ _ _) (Sl.nil _ _ _) (Sl.nil _ _ _)
theorem Jm:(Tryz.prog.info? 128).bind (·.zero)=some (.agg FL.toArray):=by kernel_rfl
theorem Jn:(Tryz.prog.info? 128).map (·.size)=some 12:=by kernel_rfl
theorem Yz:∀ (w:World) (q:Addr),(Instr.fieldAt 128 (.pointer (some q)) 0).run Tryz.prog w= .ok (.pointer (some (q.add 0))) w:=fun w q=>by kernel_rfl
theorem LW:CF Tryz.prog 73:=cfo Tryz.func73 (by kernel_rfl)
theorem Vi:CF Tryz.prog 44:=cfo Tryz.func44 (by kernel_rfl)
theorem DU:(Tryz.prog.info? 103).map (fun i=>(i.zero,i.size,i.bytes))=some (some (.agg #[.string ⟨#[]⟩,.int .i64 0,.int .i64 0]),3,32):=by kernel_rfl
theorem kT{w:World}{os:List Ob}{rs:List Rp}{v:Value}{xs:List aN}(H:Sep w os rs)(hm:rSl bH v xs ∈ rs)(hl:xs.length ≤ LIM) :
    Calls Tryz.prog 44 [v].toArray w (Ret fun v' w'=>Sep w' (Row 103 bH v' xs::os) rs):=by
  obtain ⟨b,c,rfl⟩:=H.slform hm
  refine enter Tryz.func44 rfl Tryz.ntmps44 rfl fun a E=>?_
  simp only [sL,Nat.reduceAdd] at E
  refine wp_seq ?_
  refine wp_region_lit ?_
  refine aQ E (wn rfl) rfl rfl (cU E rfl rfl) ?_
  clear E;clear a;intro a E
  refine wpList_nil ?_
  refine aC ?_
  refine wp_seq ?_
  refine wp_seq ?_
  refine wp_region_lit ?_
  refine aQ E (wn rfl) rfl rfl (bE E rfl rfl) ?_
  clear E;clear a;intro a E
  refine aQ E (wn rfl) rfl rfl (B5 E rfl rfl rfl Tryz.underlying62) ?_
  clear E;clear a;intro a E
  refine wpList_nil ?_
  refine aC ?_
  refine qS E rfl ?_ ?_
  · intro hb
    cases b with
    | some _=>cases hb
    | none=>
      obtain rfl:=H.sl_none hm
      refine wp_seq ?_
      refine wp_region_lit ?_
      refine aQ E (wn rfl) rfl rfl (cU E rfl rfl) ?_
      clear E;clear a;intro a E
      refine wpList_nil ?_
      refine aC ?_
      refine wp_ret ?_
      refine aP ?_
      refine aY E rfl rfl ?_
      exact H.nilRow 103 bH
  · intro hb
    refine wp_skip ?_
    refine aC ?_
    refine wp_seq ?_
    refine wp_region_lit ?_
    refine hJ (e:=103) (d:=bH) (cs:=[]) (xs:=[]) E H (wn rfl) rfl rfl (ps:=[]) (parts:=[]) rfl rfl (by kernel_rfl) rfl rfl (fun ok hr=>Rows.nil _ _ _) ?_
    clear E H;clear a;clear w;intro v2 w a H E
    refine aQ E (wn rfl) rfl rfl (bE E rfl rfl) ?_
    clear E;clear a;intro a E
    refine eK (i:=0) E H (wn rfl) rfl rfl rfl rfl rfl rfl (lB hm) Tryz.underlying62 DU rfl (by simpa using hl) rfl ?_
    clear E H;clear a;clear w;intro v3 w a H E
    refine aQ E (wn rfl) rfl rfl (cU E rfl rfl) ?_
    clear E;clear a;intro a E
    refine wpList_nil ?_
    refine aC ?_
    refine wp_ret ?_
    refine aY E rfl rfl ?_
    exact H

theorem JL:CF Tryz.prog 139:=cfo Tryz.func139 (by kernel_rfl)
theorem Xq:CF Tryz.prog 140:=cfo Tryz.func140 (by kernel_rfl)
theorem Qh:(Tryz.prog.info? 103).bind (·.zero)=some (.agg FX.toArray):=by kernel_rfl
theorem DV:(Tryz.prog.info? 103).bind (·.zero)=some (.agg #[.string ⟨#[]⟩,.int .i64 0,.int .i64 0]):=by kernel_rfl
theorem DW:(Tryz.prog.info? 62).map (·.size)=some 1:=by kernel_rfl
theorem Za:∀ (w:World) (q:Addr),(Instr.fieldAt 128 (.pointer (some q)) 2).run Tryz.prog w= .ok (.pointer (some (q.add 2))) w:=fun w q=>by kernel_rfl
theorem DX:∀ (w:World) (q:Addr),(Instr.fieldAt 48 (.pointer (some q)) 2).run Tryz.prog w= .ok (.pointer (some (q.add 2))) w:=fun w q=>by kernel_rfl
theorem Zb:∀ (w:World) (q:Addr),(Instr.fieldAt 128 (.pointer (some q)) 1).run Tryz.prog w= .ok (.pointer (some (q.add 1))) w:=fun w q=>by kernel_rfl
theorem LX:CF Tryz.prog 26:=cfo Tryz.func26 (by kernel_rfl)
theorem LY:CF Tryz.prog 71:=cfo Tryz.func71 (by kernel_rfl)
theorem JM:CF Tryz.prog 126:=cfo Tryz.func126 (by kernel_rfl)
theorem JN:CF Tryz.prog 128:=cfo Tryz.func128 (by kernel_rfl)
theorem Zc:∀ (w:World) (q:Addr),(Instr.fieldAt 103 (.pointer (some q)) 2).run Tryz.prog w= .ok (.pointer (some (q.add 2))) w:=fun w q=>by kernel_rfl
theorem JO:CF Tryz.prog 129:=cfo Tryz.func129 (by kernel_rfl)
theorem LZ:(Tryz.prog.info? 2).bind (·.zero)=some (.int .i64 0):=by kernel_rfl
abbrev DY:=Tryz.underlying237
theorem Jo:CF Tryz.prog 130:=cfo Tryz.func130 (by kernel_rfl)
theorem JP:CF Tryz.prog 131:=cfo Tryz.func131 (by kernel_rfl)
theorem JQ:CF Tryz.prog 186:=cfo Tryz.func186 (by kernel_rfl)
theorem JR:CF Tryz.prog 132:=cfo Tryz.func132 (by kernel_rfl)
abbrev DZ:=Tryz.underlying183
theorem JS:CF Tryz.prog 134:=cfo Tryz.func134 (by kernel_rfl)
theorem JT:CF Tryz.prog 133:=cfo Tryz.func133 (by kernel_rfl)
theorem JU:CF Tryz.prog 135:=cfo Tryz.func135 (by kernel_rfl)
theorem Xr:CF Tryz.prog 136:=cfo Tryz.func136 (by kernel_rfl)
theorem JV:CF Tryz.prog 137:=cfo Tryz.func137 (by kernel_rfl)
theorem EA:∀ (w:World) (q:Addr),(Instr.fieldAt 48 (.pointer (some q)) 4).run Tryz.prog w= .ok (.pointer (some (q.add 4))) w:=fun w q=>by kernel_rfl
theorem Qi:CF Tryz.prog 13:=cfo Tryz.func13 (by kernel_rfl)
theorem EB:∀ (w:World) (q:Addr),(Instr.fieldAt 48 (.pointer (some q)) 3).run Tryz.prog w= .ok (.pointer (some (q.add 3))) w:=fun w q=>by kernel_rfl
theorem EC:∀ (w:World) (q:Addr),(Instr.fieldAt 48 (.pointer (some q)) 5).run Tryz.prog w= .ok (.pointer (some (q.add 5))) w:=fun w q=>by kernel_rfl
theorem MA:CF Tryz.prog 19:=cfo Tryz.func19 (by kernel_rfl)
theorem ED:CF Tryz.prog 17:=cfo Tryz.func17 (by kernel_rfl)
theorem MB:CF Tryz.prog 12:=cfo Tryz.func12 (by kernel_rfl)
theorem MC:CF Tryz.prog 38:=cfo Tryz.func38 (by kernel_rfl)
theorem JW:Tryz.prog.stoodInHeld 95=false:=by kernel_rfl
theorem JX:Tryz.prog.eqGuardType Tryz.prog.depth 95=false:=by kernel_rfl
theorem JY:Tryz.prog.stoodInHeld 77=false:=by kernel_rfl
theorem JZ:Tryz.prog.eqGuardType Tryz.prog.depth 77=false:=by kernel_rfl
theorem EE:∀ (w:World) (q:Addr),(Instr.fieldAt 48 (.pointer (some q)) 1).run Tryz.prog w= .ok (.pointer (some (q.add 1))) w:=fun w q=>by kernel_rfl
def tb:Tb:=⟨[(25,0,0),(25,1,1),(31,0,0),(31,1,1),(31,2,2),(35,0,0),(35,1,1),(35,2,2),(35,3,3),(37,0,0),(37,1,1),(37,2,2),(37,3,3),(37,4,4),(37,5,5),(37,6,6),(37,7,7),(37,8,8),(37,9,9),(37,10,11),(37,11,12),(48,0,0),(48,1,1),(48,2,2),(48,3,3),(48,4,4),(48,5,5),(60,0,0),(60,1,1),(60,2,2),(60,3,3),(60,4,4),(60,5,5),(73,0,0),(73,1,1),(75,0,0),(75,1,2),(75,2,3),(75,3,4),(75,4,6),(75,5,7),(75,6,8),(77,0,0),(77,1,1),(81,0,0),(81,1,1),(81,2,2),(81,3,3),(81,4,4),(85,0,0),(85,1,1),(85,2,2),(85,3,3),(85,4,4),(85,5,5),(85,6,6),(87,0,0),(87,1,1),(95,0,0),(95,1,1),(95,2,2),(95,3,3),(95,4,4),(103,0,0),(103,1,1),(103,2,2),(128,0,0),(128,1,1),(128,2,2),(215,0,0),(215,1,1),(215,2,2),(223,0,0),(223,1,1),(223,2,2),(223,3,3),(251,0,0),(251,1,2)],[(3,5,.u8),(3,208,.u64),(5,2,.i64),(21,5,.u8),(208,3,.i64)],[9]⟩
theorem Qj:Oy Tryz.prog tb:=⟨⟨BC,BL,BQ,BR,BS,Fe,Kz,CT,DO,CO,Z5,Fd,CQ,DT,Ry,Kx,CR,CP,CU,Yo,Bh,CY,EE,DX,EB,EA,EC,BV,BW,BX,CA,BZ,CB,Rz,Sa,Fi,Sb,DC,La,Z6,Le,Sd,BM,BN,DN,DM,DK,DL,DI,CM,CN,CL,CD,CH,CE,CG,CI,CJ,BF,BG,BH,BE,BI,Yv,Yw,Zc,Yz,Zb,Za,Yp,Yq,Nn,Yr,Ys,Yt,Yu,Yx,Yy,trivial⟩,⟨fun _ _ _=>by kernel_rfl,fun _ _ _=>by kernel_rfl,fun _ _ _=>by kernel_rfl,fun _ _ _=>by kernel_rfl,fun _ _ _=>by kernel_rfl,trivial⟩,⟨U9,trivial⟩⟩
theorem pr{ops:Array Oper}{Q:Exit→Act→World→Prop}{w:World}{n:Nat}(k:Nat){env env':List (Nat×Value)}{l l':List Oper}{a:Act}(E:Env n a env)(h:Cy tb [] ops n k env l=some (env',l'))(kont:∀ a',Env n a' env'→wpList Tryz.prog ops Q l' a' w):wpList Tryz.prog ops Q l a w:=Er Qj k E (kn0 _) h kont
theorem pk{ops:Array Oper}{Q:Exit→Act→World→Prop}{w:World}{n:Nat}{kn:List (Nat×Bool)}(k:Nat){env env':List (Nat×Value)}{l l':List Oper}{a:Act}(E:Env n a env)(K:Kn env kn)(h:Cy tb kn ops n k env l=some (env',l'))(kont:∀ a',Env n a' env'→wpList Tryz.prog ops Q l' a' w):wpList Tryz.prog ops Q l a w:=Er Qj k E K h kont
theorem fn{ops:Array Oper}{Q:Exit→Act→World→Prop}{w:World}{n:Nat}{I:World→Prop}(k:Nat){env env':List (Nat×Value)}{l l':List (Nat×Nat)}{a:Act}(E:Env n a env)(h:Gg tb [] ops n k env l=some (env',l'))(kont:∀ a',Env n a' env'→mS Tryz.prog I ops Q l' a' w):mS Tryz.prog I ops Q l a w:=Jb Qj k E (kn0 _) h kont
theorem fk{ops:Array Oper}{Q:Exit→Act→World→Prop}{w:World}{n:Nat}{kn:List (Nat×Bool)}{I:World→Prop}(k:Nat){env env':List (Nat×Value)}{l l':List (Nat×Nat)}{a:Act}(E:Env n a env)(K:Kn env kn)(h:Gg tb kn ops n k env l=some (env',l'))(kont:∀ a',Env n a' env'→mS Tryz.prog I ops Q l' a' w):mS Tryz.prog I ops Q l a w:=Jb Qj k E K h kont
theorem dw{ops:Array Oper}{Q:Exit→Act→World→Prop}{w:World}{a:Act}{os:List Ob}{rs:List Rp}{id:Nat}(ord:List (Nat×Nat))(is js:List Nat)(H:Sep w os rs)(ho:Em ops ord=true)(hQ:∀ c a w,Q (.panic c) a w→False)(k:∀ w W0,eD (pkl os is) (pkl rs js) W0→Sep w os rs→mS Tryz.prog (eD (pkl os is) (pkl rs js)) ops Q ord a w):(Code.region id ops true).wp Tryz.prog Q a w:=FV mH ord is js H ho hQ k
theorem dwc{ops:Array Oper}{Q:Exit→Act→World→Prop}{w:World}{a:Act}{os:List Ob}{rs:List Rp}{id:Nat}(ord:List (Nat×Nat))(is js:List Nat)(H:Sep w os rs)(ho:Bg ops ord=true)(hQ:∀ c a w,Q (.panic c) a w→False)(k:∀ w W0,eD (pkl os is) (pkl rs js) W0→Sep w os rs→mS Tryz.prog (eD (pkl os is) (pkl rs js)) ops Q ord a w):(Code.region id ops true).wp Tryz.prog Q a w:=BA mH ord is js H ho hQ k
end Go.Cb
