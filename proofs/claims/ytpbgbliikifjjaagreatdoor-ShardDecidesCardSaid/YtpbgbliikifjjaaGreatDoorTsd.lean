/- The types of the program and the small facts that the walks use. -/
import Derived.Test.YtpbgbliikifjjaaGreatDoorAsd2
import Derived.Test.YtpbgbliikifjjaaGreatDoorProg
set_option linter.unusedVariables false
set_option linter.unusedSimpArgs false
namespace Go.Cb
open Go.Proofs Go.RowKit
structure aE where
  Path:ByteArray
  Data:ByteArray
  Version:Int
  Turn:Int
  Owner:Int
  deriving DecidableEq,Inhabited
def aF:Kd aE:=pF (kP kS (kP kS (kP (kI .i64) (kP (kI .i64) (kI .i64))))) fun x=>(x.Path,(x.Data,(x.Version,(x.Turn,x.Owner))))
theorem yQ {w:World} {ok:Nat→Prop} {x:aE} {cs:List Value} (h:aF.R w ok x cs):cs= [.string x.Path,.string x.Data,.int .i64 x.Version,.int .i64 x.Turn,.int .i64 x.Owner]:=by
  obtain ⟨c0,d0,rfl,h0,c1,d1,rfl,h1,c2,d2,rfl,h2,c3,d3,rfl,h3,h4⟩:=h
  have e0:c0= [.string x.Path]:=h0
  subst e0
  have e1:c1= [.string x.Data]:=h1
  subst e1
  have e2:c2= [.int .i64 x.Version]:=h2
  subst e2
  have e3:c3= [.int .i64 x.Turn]:=h3
  subst e3
  have e4:d3= [.int .i64 x.Owner]:=h4
  subst e4
  rfl
theorem sZ {w:World} {ok:Nat→Prop} {x:aE}:aF.R w ok x [.string x.Path,.string x.Data,.int .i64 x.Version,.int .i64 x.Turn,.int .i64 x.Owner]:=⟨[.string x.Path],_,rfl,rfl,⟨[.string x.Data],_,rfl,rfl,⟨[.int .i64 x.Version],_,rfl,rfl,⟨[.int .i64 x.Turn],_,rfl,rfl,rfl⟩⟩⟩⟩
abbrev iQ (x:aE):List Value:=[.string x.Path,.string x.Data,.int .i64 x.Version,.int .i64 x.Turn,.int .i64 x.Owner]
abbrev Tk:List Value:=[.string ⟨#[]⟩,.string ⟨#[]⟩,.int .i64 0,.int .i64 0,.int .i64 0]
def cK:eJ aF:=⟨fun x=>[.string x.Path,.string x.Data,.int .i64 x.Version,.int .i64 x.Turn,.int .i64 x.Owner],yQ,sZ⟩
structure aI where
  Dir:ByteArray
  Next:Int
  deriving DecidableEq,Inhabited
def aJ:Kd aI:=pF (kP kS (kI .i64)) fun x=>(x.Dir,x.Next)
theorem yR {w:World} {ok:Nat→Prop} {x:aI} {cs:List Value} (h:aJ.R w ok x cs):cs= [.string x.Dir,.int .i64 x.Next]:=by
  obtain ⟨c0,d0,rfl,h0,h1⟩:=h
  have e0:c0= [.string x.Dir]:=h0
  subst e0
  have e1:d0= [.int .i64 x.Next]:=h1
  subst e1
  rfl
theorem qL {w:World} {ok:Nat→Prop} {x:aI}:aJ.R w ok x [.string x.Dir,.int .i64 x.Next]:=⟨[.string x.Dir],_,rfl,rfl,rfl⟩
def dI:eJ aJ:=⟨fun x=>[.string x.Dir,.int .i64 x.Next],yR,qL⟩
structure aN where
  Dir:ByteArray
  Txn:Int
  Age:Int
  deriving DecidableEq,Inhabited
def bG:Kd aN:=pF (kP kS (kP (kI .i64) (kI .i64))) fun x=>(x.Dir,(x.Txn,x.Age))
theorem Z7 {w:World} {ok:Nat→Prop} {x:aN} {cs:List Value} (h:bG.R w ok x cs):cs= [.string x.Dir,.int .i64 x.Txn,.int .i64 x.Age]:=by
  obtain ⟨c0,d0,rfl,h0,c1,d1,rfl,h1,h2⟩:=h
  have e0:c0= [.string x.Dir]:=h0
  subst e0
  have e1:c1= [.int .i64 x.Txn]:=h1
  subst e1
  have e2:d1= [.int .i64 x.Age]:=h2
  subst e2
  rfl
theorem I7 {w:World} {ok:Nat→Prop} {x:aN}:bG.R w ok x [.string x.Dir,.int .i64 x.Txn,.int .i64 x.Age]:=⟨[.string x.Dir],_,rfl,rfl,⟨[.int .i64 x.Txn],_,rfl,rfl,rfl⟩⟩
abbrev nG (x:aN):List Value:=[.string x.Dir,.int .i64 x.Txn,.int .i64 x.Age]
abbrev Tl:List Value:=[.string ⟨#[]⟩,.int .i64 0,.int .i64 0]
theorem D8 {w:World} {ok:Nat→Prop} {q:Addr} {x:aN} {cs:List Value} (h:(rAw bG q x cs).p w ok):∃ c,(rAw kS (q.add 0) x.Dir c).p w ok∧c=(cs.drop 0).take 1:=by
  have h0:(rAw (kP kS (kP (kI .i64) (kI .i64))) q ((x.Dir,(x.Txn,x.Age))) cs).p w ok:=h
  have hl:cs.length=3:=bG.len h.2.1
  have h1:=(O3 h0)
  simp only [show ∀ q:Addr,q.add 0=q from fun q=>by simp [Addr.add]]
  refine ⟨_,h1,?_⟩
  (try simp only [kP,kI,kB,kS,kL,pF,Kd.scalar])
  all_goals (try (apply List.ext_getElem?;intro j;simp [List.getElem?_take,List.getElem?_drop]))
  all_goals (try (intros;(try split);(try omega);(try (rw [List.getElem?_eq_none (by omega)]))))
theorem Ba {w:World} {ok:Nat→Prop} {q:Addr} {x:aN} (h:(rAt bG q x).p w ok):(rAt (kI .i64) (q.add 1) x.Txn).p w ok:=by
  have h0:(rAt (kP kS (kP (kI .i64) (kI .i64))) q ((x.Dir,(x.Txn,x.Age)))).p w ok:=h
  have h1:=(Aw (vJ h0))
  simp only [add_add,kP,kI,kB,kS,kL,Kd.scalar] at h1
  exact h1
def eC:eJ bG:=⟨fun x=>[.string x.Dir,.int .i64 x.Txn,.int .i64 x.Age],Z7,I7⟩
structure aH where
  Prefix:ByteArray
  Epoch:Int
  State:Int
  deriving DecidableEq,Inhabited
def aS:Kd aH:=pF (kP kS (kP (kI .i64) (kI .i64))) fun x=>(x.Prefix,(x.Epoch,x.State))
theorem o9 {w:World} {ok:Nat→Prop} {x:aH} {cs:List Value} (h:aS.R w ok x cs):cs= [.string x.Prefix,.int .i64 x.Epoch,.int .i64 x.State]:=by
  obtain ⟨c0,d0,rfl,h0,c1,d1,rfl,h1,h2⟩:=h
  have e0:c0= [.string x.Prefix]:=h0
  subst e0
  have e1:c1= [.int .i64 x.Epoch]:=h1
  subst e1
  have e2:d1= [.int .i64 x.State]:=h2
  subst e2
  rfl
theorem rR {w:World} {ok:Nat→Prop} {x:aH}:aS.R w ok x [.string x.Prefix,.int .i64 x.Epoch,.int .i64 x.State]:=⟨[.string x.Prefix],_,rfl,rfl,⟨[.int .i64 x.Epoch],_,rfl,rfl,rfl⟩⟩
abbrev kN (x:aH):List Value:=[.string x.Prefix,.int .i64 x.Epoch,.int .i64 x.State]
abbrev Fk:List Value:=[.string ⟨#[]⟩,.int .i64 0,.int .i64 0]
theorem nV {w:World} {ok:Nat→Prop} {q:Addr} {x:aH} {cs:List Value} (h:(rAw aS q x cs).p w ok):∃ c,(rAw kS (q.add 0) x.Prefix c).p w ok∧c=(cs.drop 0).take 1:=by
  have h0:(rAw (kP kS (kP (kI .i64) (kI .i64))) q ((x.Prefix,(x.Epoch,x.State))) cs).p w ok:=h
  have hl:cs.length=3:=aS.len h.2.1
  have h1:=(O3 h0)
  simp only [show ∀ q:Addr,q.add 0=q from fun q=>by simp [Addr.add]]
  refine ⟨_,h1,?_⟩
  (try simp only [kP,kI,kB,kS,kL,pF,Kd.scalar])
  all_goals (try (apply List.ext_getElem?;intro j;simp [List.getElem?_take,List.getElem?_drop]))
  all_goals (try (intros;(try split);(try omega);(try (rw [List.getElem?_eq_none (by omega)]))))
theorem yS {w:World} {ok:Nat→Prop} {q:Addr} {x:aH} (h:(rAt aS q x).p w ok):(rAt (kI .i64) (q.add 1) x.Epoch).p w ok:=by
  have h0:(rAt (kP kS (kP (kI .i64) (kI .i64))) q ((x.Prefix,(x.Epoch,x.State)))).p w ok:=h
  have h1:=(Aw (vJ h0))
  simp only [add_add,kP,kI,kB,kS,kL,Kd.scalar] at h1
  exact h1
theorem Z8 {w:World} {ok:Nat→Prop} {q:Addr} {x:aH} {cs:List Value} (h:(rAw aS q x cs).p w ok):∃ c,(rAw (kI .i64) (q.add 1) x.Epoch c).p w ok∧c=(cs.drop 1).take 1:=by
  have h0:(rAw (kP kS (kP (kI .i64) (kI .i64))) q ((x.Prefix,(x.Epoch,x.State))) cs).p w ok:=h
  have hl:cs.length=3:=aS.len h.2.1
  have h1:=(O3 (Ml h0))
  simp only [add_add,kP,kI,kB,kS,kL,pF,Kd.scalar] at h1
  refine ⟨_,h1,?_⟩
  (try simp only [kP,kI,kB,kS,kL,pF,Kd.scalar])
  all_goals (try (apply List.ext_getElem?;intro j;simp [List.getElem?_take,List.getElem?_drop]))
  all_goals (try (intros;(try split);(try omega);(try (rw [List.getElem?_eq_none (by omega)]))))
theorem yT {w:World} {ok:Nat→Prop} {q:Addr} {x:aH} (h:(rAt aS q x).p w ok):(rAt (kI .i64) (q.add 2) x.State).p w ok:=by
  have h0:(rAt (kP kS (kP (kI .i64) (kI .i64))) q ((x.Prefix,(x.Epoch,x.State)))).p w ok:=h
  have h1:=(vJ (vJ h0))
  simp only [add_add,kP,kI,kB,kS,kL,Kd.scalar] at h1
  exact h1
def gZ:eJ aS:=⟨fun x=>[.string x.Prefix,.int .i64 x.Epoch,.int .i64 x.State],o9,rR⟩
structure bK where
  Num:Int
  Kind:Int
  Path:ByteArray
  Watch:Int
  deriving DecidableEq,Inhabited
def aV:Kd bK:=pF (kP (kI .i64) (kP (kI .i64) (kP kS (kI .i64)))) fun x=>(x.Num,(x.Kind,(x.Path,x.Watch)))
theorem T2 {w:World} {ok:Nat→Prop} {x:bK} {cs:List Value} (h:aV.R w ok x cs):cs= [.int .i64 x.Num,.int .i64 x.Kind,.string x.Path,.int .i64 x.Watch]:=by
  obtain ⟨c0,d0,rfl,h0,c1,d1,rfl,h1,c2,d2,rfl,h2,h3⟩:=h
  have e0:c0= [.int .i64 x.Num]:=h0
  subst e0
  have e1:c1= [.int .i64 x.Kind]:=h1
  subst e1
  have e2:c2= [.string x.Path]:=h2
  subst e2
  have e3:d2= [.int .i64 x.Watch]:=h3
  subst e3
  rfl
theorem vL {w:World} {ok:Nat→Prop} {x:bK}:aV.R w ok x [.int .i64 x.Num,.int .i64 x.Kind,.string x.Path,.int .i64 x.Watch]:=⟨[.int .i64 x.Num],_,rfl,rfl,⟨[.int .i64 x.Kind],_,rfl,rfl,⟨[.string x.Path],_,rfl,rfl,rfl⟩⟩⟩
abbrev A6 (x:bK):List Value:=[.int .i64 x.Num,.int .i64 x.Kind,.string x.Path,.int .i64 x.Watch]
abbrev Sv:List Value:=[.int .i64 0,.int .i64 0,.string ⟨#[]⟩,.int .i64 0]
structure aD where
  Num:Int
  Count:Int
  Events:(List bK)
  deriving DecidableEq,Inhabited
def aO:Kd aD:=pF (kP (kI .i64) (kP (kI .i64) (kL aV))) fun x=>(x.Num,(x.Count,x.Events))
theorem dF {w:World} {ok:Nat→Prop} {x:aD} {cs:List Value} (h:aO.R w ok x cs):∃ v1:Value,cs= [.int .i64 x.Num,.int .i64 x.Count,v1]∧Sl aV w ok v1 x.Events:=by
  obtain ⟨c0,d0,rfl,h0,c1,d1,rfl,h1,h2⟩:=h
  have e0:c0= [.int .i64 x.Num]:=h0
  subst e0
  have e1:c1= [.int .i64 x.Count]:=h1
  subst e1
  obtain ⟨u0,rfl,g0⟩:=h2
  exact ⟨u0,rfl,g0⟩
theorem jB {w:World} {ok:Nat→Prop} {x:aD} {v1:Value} (g1:Sl aV w ok v1 x.Events):aO.R w ok x [.int .i64 x.Num,.int .i64 x.Count,v1]:=⟨[.int .i64 x.Num],_,rfl,rfl,⟨[.int .i64 x.Count],_,rfl,rfl,⟨_,rfl,g1⟩⟩⟩
theorem gA {w:World} {ok:Nat→Prop} {x:aD} {v1:Value} (h:aO.R w ok x [.int .i64 x.Num,.int .i64 x.Count,v1]):Sl aV w ok v1 x.Events:=by
  obtain ⟨u0,he,g0⟩:=dF h
  cases he
  exact g0
abbrev kT (x:aD) (v1:Value):List Value:=[.int .i64 x.Num,.int .i64 x.Count,v1]
theorem j5 {w:World} {os:List Ob} {rs:List Rp} {x:aD} {cs:List Value} (H:Sep w os (rCs aO cs x::rs)):∃ v1:Value,cs=(kT x v1)∧Sep w os (rSl aV v1 x.Events::rCs aO (kT x v1) x::rs):=by
  obtain ⟨_,hcs⟩:=H.rd (.head _)
  obtain ⟨u0,rfl,-⟩:=dF hcs
  refine ⟨_,rfl,?_⟩
  exact (H.derive1 (.head _) (rSl aV u0 x.Events) fun ok h=>gA h)
theorem m5 {w:World} {ok:Nat→Prop} {q:Addr} {x:aD} {cs:List Value} (h:(rAw aO q x cs).p w ok):∃ c,(rAw (kI .i64) (q.add 0) x.Num c).p w ok∧c=(cs.drop 0).take 1:=by
  have h0:(rAw (kP (kI .i64) (kP (kI .i64) (kL aV))) q ((x.Num,(x.Count,x.Events))) cs).p w ok:=h
  have hl:cs.length=3:=aO.len h.2.1
  have h1:=(O3 h0)
  simp only [show ∀ q:Addr,q.add 0=q from fun q=>by simp [Addr.add]]
  refine ⟨_,h1,?_⟩
  (try simp only [kP,kI,kB,kS,kL,pF,Kd.scalar])
  all_goals (try (apply List.ext_getElem?;intro j;simp [List.getElem?_take,List.getElem?_drop]))
  all_goals (try (intros;(try split);(try omega);(try (rw [List.getElem?_eq_none (by omega)]))))
structure aK where
  Session:Int
  Num:Int
  Path:ByteArray
  Deep:Bool
  deriving DecidableEq,Inhabited
def aX:Kd aK:=pF (kP (kI .i64) (kP (kI .i64) (kP kS kB))) fun x=>(x.Session,(x.Num,(x.Path,x.Deep)))
theorem T3 {w:World} {ok:Nat→Prop} {x:aK} {cs:List Value} (h:aX.R w ok x cs):cs= [.int .i64 x.Session,.int .i64 x.Num,.string x.Path,.bool x.Deep]:=by
  obtain ⟨c0,d0,rfl,h0,c1,d1,rfl,h1,c2,d2,rfl,h2,h3⟩:=h
  have e0:c0= [.int .i64 x.Session]:=h0
  subst e0
  have e1:c1= [.int .i64 x.Num]:=h1
  subst e1
  have e2:c2= [.string x.Path]:=h2
  subst e2
  have e3:d2= [.bool x.Deep]:=h3
  subst e3
  rfl
theorem zS {w:World} {ok:Nat→Prop} {x:aK}:aX.R w ok x [.int .i64 x.Session,.int .i64 x.Num,.string x.Path,.bool x.Deep]:=⟨[.int .i64 x.Session],_,rfl,rfl,⟨[.int .i64 x.Num],_,rfl,rfl,⟨[.string x.Path],_,rfl,rfl,rfl⟩⟩⟩
abbrev dL (x:aK):List Value:=[.int .i64 x.Session,.int .i64 x.Num,.string x.Path,.bool x.Deep]
abbrev Sw:List Value:=[.int .i64 0,.int .i64 0,.string ⟨#[]⟩,.bool false]
def hB:eJ aX:=⟨fun x=>[.int .i64 x.Session,.int .i64 x.Num,.string x.Path,.bool x.Deep],T3,zS⟩
structure bB where
  Nodes:(List aE)
  Turns:(List aI)
  deriving DecidableEq,Inhabited
def A7:Kd bB:=pF (kP (kL aF) (kL aJ)) fun x=>(x.Nodes,x.Turns)
theorem T4 {w:World} {ok:Nat→Prop} {x:bB} {cs:List Value} (h:A7.R w ok x cs):∃ v1 v2:Value,cs= [v1,v2]∧Sl aF w ok v1 x.Nodes∧Sl aJ w ok v2 x.Turns:=by
  obtain ⟨c0,d0,rfl,h0,h1⟩:=h
  obtain ⟨u0,rfl,g0⟩:=h0
  obtain ⟨u1,rfl,g1⟩:=h1
  exact ⟨u0,u1,rfl,g0,g1⟩
theorem Bb {w:World} {ok:Nat→Prop} {x:bB} {v1:Value} {v2:Value} (g1:Sl aF w ok v1 x.Nodes) (g2:Sl aJ w ok v2 x.Turns):A7.R w ok x [v1,v2]:=⟨[v1],_,rfl,⟨_,rfl,g1⟩,⟨_,rfl,g2⟩⟩
theorem jK {w:World} {os:List Ob} {rs:List Rp} {v1:Value} {yv1:List aE} {v2:Value} {yv2:List aI} (H:Sep w os rs) (hv1:rSl aF v1 yv1 ∈ rs) (hv2:rSl aJ v2 yv2 ∈ rs):[v1,v2].all (·.oneCell')=true:=by
  obtain ⟨_,_,rfl⟩:=H.slform hv1
  obtain ⟨_,_,rfl⟩:=H.slform hv2
  rfl
structure cL where
  Err:Int
  Path:ByteArray
  Data:ByteArray
  Version:Int
  Names:(List ByteArray)
  deriving DecidableEq,Inhabited
def bE:Kd cL:=pF (kP (kI .i64) (kP kS (kP kS (kP (kI .i64) (kL kS))))) fun x=>(x.Err,(x.Path,(x.Data,(x.Version,x.Names))))
theorem Z9 {w:World} {ok:Nat→Prop} {x:cL} {v1:Value} (g1:Sl kS w ok v1 x.Names):bE.R w ok x [.int .i64 x.Err,.string x.Path,.string x.Data,.int .i64 x.Version,v1]:=⟨[.int .i64 x.Err],_,rfl,rfl,⟨[.string x.Path],_,rfl,rfl,⟨[.string x.Data],_,rfl,rfl,⟨[.int .i64 x.Version],_,rfl,rfl,⟨_,rfl,g1⟩⟩⟩⟩⟩
abbrev L2 (x:cL) (v1:Value):List Value:=[.int .i64 x.Err,.string x.Path,.string x.Data,.int .i64 x.Version,v1]
abbrev L3:List Value:=[.int .i64 0,.string ⟨#[]⟩,.string ⟨#[]⟩,.int .i64 0,.slice none 0 0]
theorem Bc {w:World} {os:List Ob} {rs:List Rp} {z0:Int} {z1:ByteArray} {z2:ByteArray} {z3:Int} {v1:Value} {yv1:List ByteArray} (H:Sep w os rs) (hv1:rSl kS v1 yv1 ∈ rs):[.int .i64 z0,.string z1,.string z2,.int .i64 z3,v1].all (·.oneCell')=true:=by
  obtain ⟨_,_,rfl⟩:=H.slform hv1
  rfl
theorem T5 {w:World} {ok:Nat→Prop} {q:Addr} {x:cL} (h:(rAt bE q x).p w ok):(rAt kS (q.add 1) x.Path).p w ok:=by
  have h0:(rAt (kP (kI .i64) (kP kS (kP kS (kP (kI .i64) (kL kS))))) q ((x.Err,(x.Path,(x.Data,(x.Version,x.Names)))))).p w ok:=h
  have h1:=(Aw (vJ h0))
  simp only [add_add,kP,kI,kB,kS,kL,Kd.scalar] at h1
  exact h1
theorem T6 {w:World} {ok:Nat→Prop} {q:Addr} {x:cL} (h:(rAt bE q x).p w ok):(rAt (kL kS) (q.add 4) x.Names).p w ok:=by
  have h0:(rAt (kP (kI .i64) (kP kS (kP kS (kP (kI .i64) (kL kS))))) q ((x.Err,(x.Path,(x.Data,(x.Version,x.Names)))))).p w ok:=h
  have h1:=(vJ (vJ (vJ (vJ h0))))
  simp only [add_add,kP,kI,kB,kS,kL,Kd.scalar] at h1
  exact h1
structure lQ where
  Prefix:ByteArray
  Group:Int
  Epoch:Int
  To:Int
  deriving DecidableEq,Inhabited
def bL:Kd lQ:=pF (kP kS (kP (kI .i64) (kP (kI .i64) (kI .i64)))) fun x=>(x.Prefix,(x.Group,(x.Epoch,x.To)))
structure aG where
  Err:Int
  At:Int
  Yes:Bool
  Epoch:Int
  Results:(List cL)
  Store:bB
  Events:(List bK)
  Mounts:(List lQ)
  Wounded:(List Int)
  deriving DecidableEq,Inhabited
def bI:Kd aG:=pF (kP (kI .i64) (kP (kI .i64) (kP kB (kP (kI .i64) (kP (kL bE) (kP A7 (kP (kL aV) (kP (kL bL) (kL (kI .i64)))))))))) fun x=>(x.Err,(x.At,(x.Yes,(x.Epoch,(x.Results,(x.Store,(x.Events,(x.Mounts,x.Wounded))))))))
theorem iE {w:World} {ok:Nat→Prop} {x:aG} {cs:List Value} (h:bI.R w ok x cs):∃ v1 v2 v3 v4 v5 v6:Value,cs= [.int .i64 x.Err,.int .i64 x.At,.bool x.Yes,.int .i64 x.Epoch,v1,v2,v3,v4,v5,v6]∧Sl bE w ok v1 x.Results∧Sl aF w ok v2 x.Store.Nodes∧Sl aJ w ok v3 x.Store.Turns∧Sl aV w ok v4 x.Events∧Sl bL w ok v5 x.Mounts∧Sl (kI .i64) w ok v6 x.Wounded:=by
  obtain ⟨c0,d0,rfl,h0,c1,d1,rfl,h1,c2,d2,rfl,h2,c3,d3,rfl,h3,c4,d4,rfl,h4,c5,d5,rfl,h5,c6,d6,rfl,h6,c7,d7,rfl,h7,h8⟩:=h
  have e0:c0= [.int .i64 x.Err]:=h0
  subst e0
  have e1:c1= [.int .i64 x.At]:=h1
  subst e1
  have e2:c2= [.bool x.Yes]:=h2
  subst e2
  have e3:c3= [.int .i64 x.Epoch]:=h3
  subst e3
  obtain ⟨u0,rfl,g0⟩:=h4
  obtain ⟨u1,u2,rfl,g1,g2⟩:=T4 h5
  obtain ⟨u3,rfl,g3⟩:=h6
  obtain ⟨u4,rfl,g4⟩:=h7
  obtain ⟨u5,rfl,g5⟩:=h8
  exact ⟨u0,u1,u2,u3,u4,u5,rfl,g0,g1,g2,g3,g4,g5⟩
theorem lS {w:World} {ok:Nat→Prop} {x:aG} {v1:Value} {v2:Value} {v3:Value} {v4:Value} {v5:Value} {v6:Value} (g1:Sl bE w ok v1 x.Results) (g2:Sl aF w ok v2 x.Store.Nodes) (g3:Sl aJ w ok v3 x.Store.Turns) (g4:Sl aV w ok v4 x.Events) (g5:Sl bL w ok v5 x.Mounts) (g6:Sl (kI .i64) w ok v6 x.Wounded):bI.R w ok x [.int .i64 x.Err,.int .i64 x.At,.bool x.Yes,.int .i64 x.Epoch,v1,v2,v3,v4,v5,v6]:=⟨[.int .i64 x.Err],_,rfl,rfl,⟨[.int .i64 x.At],_,rfl,rfl,⟨[.bool x.Yes],_,rfl,rfl,⟨[.int .i64 x.Epoch],_,rfl,rfl,⟨[v1],_,rfl,⟨_,rfl,g1⟩,⟨[v2,v3],_,rfl,(Bb g2 g3),⟨[v4],_,rfl,⟨_,rfl,g4⟩,⟨[v5],_,rfl,⟨_,rfl,g5⟩,⟨_,rfl,g6⟩⟩⟩⟩⟩⟩⟩⟩⟩
theorem P4 {w:World} {ok:Nat→Prop} {x:aG} {v1 v2 v3 v4 v5 v6:Value} (h:bI.R w ok x [.int .i64 x.Err,.int .i64 x.At,.bool x.Yes,.int .i64 x.Epoch,v1,v2,v3,v4,v5,v6]):Sl bE w ok v1 x.Results:=by
  obtain ⟨u0,u1,u2,u3,u4,u5,he,g0,g1,g2,g3,g4,g5⟩:=iE h
  cases he
  exact g0
theorem P5 {w:World} {ok:Nat→Prop} {x:aG} {v1 v2 v3 v4 v5 v6:Value} (h:bI.R w ok x [.int .i64 x.Err,.int .i64 x.At,.bool x.Yes,.int .i64 x.Epoch,v1,v2,v3,v4,v5,v6]):Sl aF w ok v2 x.Store.Nodes:=by
  obtain ⟨u0,u1,u2,u3,u4,u5,he,g0,g1,g2,g3,g4,g5⟩:=iE h
  cases he
  exact g1
theorem P6 {w:World} {ok:Nat→Prop} {x:aG} {v1 v2 v3 v4 v5 v6:Value} (h:bI.R w ok x [.int .i64 x.Err,.int .i64 x.At,.bool x.Yes,.int .i64 x.Epoch,v1,v2,v3,v4,v5,v6]):Sl aJ w ok v3 x.Store.Turns:=by
  obtain ⟨u0,u1,u2,u3,u4,u5,he,g0,g1,g2,g3,g4,g5⟩:=iE h
  cases he
  exact g2
theorem P7 {w:World} {ok:Nat→Prop} {x:aG} {v1 v2 v3 v4 v5 v6:Value} (h:bI.R w ok x [.int .i64 x.Err,.int .i64 x.At,.bool x.Yes,.int .i64 x.Epoch,v1,v2,v3,v4,v5,v6]):Sl aV w ok v4 x.Events:=by
  obtain ⟨u0,u1,u2,u3,u4,u5,he,g0,g1,g2,g3,g4,g5⟩:=iE h
  cases he
  exact g3
theorem P8 {w:World} {ok:Nat→Prop} {x:aG} {v1 v2 v3 v4 v5 v6:Value} (h:bI.R w ok x [.int .i64 x.Err,.int .i64 x.At,.bool x.Yes,.int .i64 x.Epoch,v1,v2,v3,v4,v5,v6]):Sl bL w ok v5 x.Mounts:=by
  obtain ⟨u0,u1,u2,u3,u4,u5,he,g0,g1,g2,g3,g4,g5⟩:=iE h
  cases he
  exact g4
theorem P9 {w:World} {ok:Nat→Prop} {x:aG} {v1 v2 v3 v4 v5 v6:Value} (h:bI.R w ok x [.int .i64 x.Err,.int .i64 x.At,.bool x.Yes,.int .i64 x.Epoch,v1,v2,v3,v4,v5,v6]):Sl (kI .i64) w ok v6 x.Wounded:=by
  obtain ⟨u0,u1,u2,u3,u4,u5,he,g0,g1,g2,g3,g4,g5⟩:=iE h
  cases he
  exact g5
abbrev bC (x:aG) (v1:Value) (v2:Value) (v3:Value) (v4:Value) (v5:Value) (v6:Value):List Value:=[.int .i64 x.Err,.int .i64 x.At,.bool x.Yes,.int .i64 x.Epoch,v1,v2,v3,v4,v5,v6]
abbrev bN:List Value:=[.int .i64 0,.int .i64 0,.bool false,.int .i64 0,.slice none 0 0,.slice none 0 0,.slice none 0 0,.slice none 0 0,.slice none 0 0,.slice none 0 0]
theorem jC {w:World} {os:List Ob} {rs:List Rp} {x:aG} {cs:List Value} (H:Sep w os (rCs bI cs x::rs)):∃ v1 v2 v3 v4 v5 v6:Value,cs=(bC x v1 v2 v3 v4 v5 v6)∧Sep w os (rSl (kI .i64) v6 x.Wounded::rSl bL v5 x.Mounts::rSl aV v4 x.Events::rSl aJ v3 x.Store.Turns::rSl aF v2 x.Store.Nodes::rSl bE v1 x.Results::rCs bI (bC x v1 v2 v3 v4 v5 v6) x::rs):=by
  obtain ⟨_,hcs⟩:=H.rd (.head _)
  obtain ⟨u0,u1,u2,u3,u4,u5,rfl,-,-,-,-,-,-⟩:=iE hcs
  refine ⟨_,_,_,_,_,_,rfl,?_⟩
  exact ((((((H.derive1 (.head _) (rSl bE u0 x.Results) fun ok h=>P4 h).derive1 (.tail _ (.head _)) (rSl aF u1 x.Store.Nodes) fun ok h=>P5 h).derive1 (.tail _ (.tail _ (.head _))) (rSl aJ u2 x.Store.Turns) fun ok h=>P6 h).derive1 (.tail _ (.tail _ (.tail _ (.head _)))) (rSl aV u3 x.Events) fun ok h=>P7 h).derive1 (.tail _ (.tail _ (.tail _ (.tail _ (.head _))))) (rSl bL u4 x.Mounts) fun ok h=>P8 h).derive1 (.tail _ (.tail _ (.tail _ (.tail _ (.tail _ (.head _)))))) (rSl (kI .i64) u5 x.Wounded) fun ok h=>P9 h)
theorem bF {w:World} {os:List Ob} {rs:List Rp} {z0:Int} {z1:Int} {z2:Bool} {z3:Int} {v1:Value} {yv1:List cL} {v2:Value} {yv2:List aE} {v3:Value} {yv3:List aI} {v4:Value} {yv4:List bK} {v5:Value} {yv5:List lQ} {v6:Value} {yv6:List Int} (H:Sep w os rs) (hv1:rSl bE v1 yv1 ∈ rs) (hv2:rSl aF v2 yv2 ∈ rs) (hv3:rSl aJ v3 yv3 ∈ rs) (hv4:rSl aV v4 yv4 ∈ rs) (hv5:rSl bL v5 yv5 ∈ rs) (hv6:rSl (kI .i64) v6 yv6 ∈ rs):[.int .i64 z0,.int .i64 z1,.bool z2,.int .i64 z3,v1,v2,v3,v4,v5,v6].all (·.oneCell')=true:=by
  obtain ⟨_,_,rfl⟩:=H.slform hv1
  obtain ⟨_,_,rfl⟩:=H.slform hv2
  obtain ⟨_,_,rfl⟩:=H.slform hv3
  obtain ⟨_,_,rfl⟩:=H.slform hv4
  obtain ⟨_,_,rfl⟩:=H.slform hv5
  obtain ⟨_,_,rfl⟩:=H.slform hv6
  rfl
structure bJ where
  Kind:Int
  Dir:ByteArray
  Path:ByteArray
  Data:ByteArray
  Version:Int
  Owner:Int
  Turns:Bool
  deriving DecidableEq,Inhabited
def cO:Kd bJ:=pF (kP (kI .i64) (kP kS (kP kS (kP kS (kP (kI .i64) (kP (kI .i64) kB)))))) fun x=>(x.Kind,(x.Dir,(x.Path,(x.Data,(x.Version,(x.Owner,x.Turns))))))
theorem A3 {w:World} {ok:Nat→Prop} {x:bJ} {cs:List Value} (h:cO.R w ok x cs):cs= [.int .i64 x.Kind,.string x.Dir,.string x.Path,.string x.Data,.int .i64 x.Version,.int .i64 x.Owner,.bool x.Turns]:=by
  obtain ⟨c0,d0,rfl,h0,c1,d1,rfl,h1,c2,d2,rfl,h2,c3,d3,rfl,h3,c4,d4,rfl,h4,c5,d5,rfl,h5,h6⟩:=h
  have e0:c0= [.int .i64 x.Kind]:=h0
  subst e0
  have e1:c1= [.string x.Dir]:=h1
  subst e1
  have e2:c2= [.string x.Path]:=h2
  subst e2
  have e3:c3= [.string x.Data]:=h3
  subst e3
  have e4:c4= [.int .i64 x.Version]:=h4
  subst e4
  have e5:c5= [.int .i64 x.Owner]:=h5
  subst e5
  have e6:d5= [.bool x.Turns]:=h6
  subst e6
  rfl
theorem fU {w:World} {ok:Nat→Prop} {x:bJ}:cO.R w ok x [.int .i64 x.Kind,.string x.Dir,.string x.Path,.string x.Data,.int .i64 x.Version,.int .i64 x.Owner,.bool x.Turns]:=⟨[.int .i64 x.Kind],_,rfl,rfl,⟨[.string x.Dir],_,rfl,rfl,⟨[.string x.Path],_,rfl,rfl,⟨[.string x.Data],_,rfl,rfl,⟨[.int .i64 x.Version],_,rfl,rfl,⟨[.int .i64 x.Owner],_,rfl,rfl,rfl⟩⟩⟩⟩⟩⟩
abbrev cH (x:bJ):List Value:=[.int .i64 x.Kind,.string x.Dir,.string x.Path,.string x.Data,.int .i64 x.Version,.int .i64 x.Owner,.bool x.Turns]
abbrev Tm:List Value:=[.int .i64 0,.string ⟨#[]⟩,.string ⟨#[]⟩,.string ⟨#[]⟩,.int .i64 0,.int .i64 0,.bool false]
structure cF where
  Op:Int
  Part:bJ
  deriving DecidableEq,Inhabited
def cE:Kd cF:=pF (kP (kI .i64) cO) fun x=>(x.Op,x.Part)
theorem T7 {w:World} {ok:Nat→Prop} {x:cF} {cs:List Value} (h:cE.R w ok x cs):cs= [.int .i64 x.Op,.int .i64 x.Part.Kind,.string x.Part.Dir,.string x.Part.Path,.string x.Part.Data,.int .i64 x.Part.Version,.int .i64 x.Part.Owner,.bool x.Part.Turns]:=by
  obtain ⟨c0,d0,rfl,h0,h1⟩:=h
  have e0:c0= [.int .i64 x.Op]:=h0
  subst e0
  obtain ⟨rfl⟩:=A3 h1
  rfl
theorem D9 {w:World} {ok:Nat→Prop} {x:cF}:cE.R w ok x [.int .i64 x.Op,.int .i64 x.Part.Kind,.string x.Part.Dir,.string x.Part.Path,.string x.Part.Data,.int .i64 x.Part.Version,.int .i64 x.Part.Owner,.bool x.Part.Turns]:=⟨[.int .i64 x.Op],_,rfl,rfl,fU⟩
abbrev R4 (x:cF):List Value:=[.int .i64 x.Op,.int .i64 x.Part.Kind,.string x.Part.Dir,.string x.Part.Path,.string x.Part.Data,.int .i64 x.Part.Version,.int .i64 x.Part.Owner,.bool x.Part.Turns]
abbrev Sx:List Value:=[.int .i64 0,.int .i64 0,.string ⟨#[]⟩,.string ⟨#[]⟩,.string ⟨#[]⟩,.int .i64 0,.int .i64 0,.bool false]
structure bO where
  over_:Bool
  pieces_:(List cF)
  a_:aG
  deriving DecidableEq,Inhabited
def cQ:Kd bO:=pF (kP kB (kP (kL cE) bI)) fun x=>(x.over_,(x.pieces_,x.a_))
theorem jD {w:World} {ok:Nat→Prop} {x:bO} {cs:List Value} (h:cQ.R w ok x cs):∃ v1 v2 v3 v4 v5 v6 v7:Value,cs= [.bool x.over_,v1,.int .i64 x.a_.Err,.int .i64 x.a_.At,.bool x.a_.Yes,.int .i64 x.a_.Epoch,v2,v3,v4,v5,v6,v7]∧Sl cE w ok v1 x.pieces_∧Sl bE w ok v2 x.a_.Results∧Sl aF w ok v3 x.a_.Store.Nodes∧Sl aJ w ok v4 x.a_.Store.Turns∧Sl aV w ok v5 x.a_.Events∧Sl bL w ok v6 x.a_.Mounts∧Sl (kI .i64) w ok v7 x.a_.Wounded:=by
  obtain ⟨c0,d0,rfl,h0,c1,d1,rfl,h1,h2⟩:=h
  have e0:c0= [.bool x.over_]:=h0
  subst e0
  obtain ⟨u0,rfl,g0⟩:=h1
  obtain ⟨u1,u2,u3,u4,u5,u6,rfl,g1,g2,g3,g4,g5,g6⟩:=iE h2
  exact ⟨u0,u1,u2,u3,u4,u5,u6,rfl,g0,g1,g2,g3,g4,g5,g6⟩
theorem zT {w:World} {ok:Nat→Prop} {x:bO} {v1:Value} {v2:Value} {v3:Value} {v4:Value} {v5:Value} {v6:Value} {v7:Value} (g1:Sl cE w ok v1 x.pieces_) (g2:Sl bE w ok v2 x.a_.Results) (g3:Sl aF w ok v3 x.a_.Store.Nodes) (g4:Sl aJ w ok v4 x.a_.Store.Turns) (g5:Sl aV w ok v5 x.a_.Events) (g6:Sl bL w ok v6 x.a_.Mounts) (g7:Sl (kI .i64) w ok v7 x.a_.Wounded):cQ.R w ok x [.bool x.over_,v1,.int .i64 x.a_.Err,.int .i64 x.a_.At,.bool x.a_.Yes,.int .i64 x.a_.Epoch,v2,v3,v4,v5,v6,v7]:=⟨[.bool x.over_],_,rfl,rfl,⟨[v1],_,rfl,⟨_,rfl,g1⟩,(lS g2 g3 g4 g5 g6 g7)⟩⟩
theorem T8 {w:World} {ok:Nat→Prop} {x:bO} {v1 v2 v3 v4 v5 v6 v7:Value} (h:cQ.R w ok x [.bool x.over_,v1,.int .i64 x.a_.Err,.int .i64 x.a_.At,.bool x.a_.Yes,.int .i64 x.a_.Epoch,v2,v3,v4,v5,v6,v7]):Sl cE w ok v1 x.pieces_:=by
  obtain ⟨u0,u1,u2,u3,u4,u5,u6,he,g0,g1,g2,g3,g4,g5,g6⟩:=jD h
  cases he
  exact g0
theorem T9 {w:World} {ok:Nat→Prop} {x:bO} {v1 v2 v3 v4 v5 v6 v7:Value} (h:cQ.R w ok x [.bool x.over_,v1,.int .i64 x.a_.Err,.int .i64 x.a_.At,.bool x.a_.Yes,.int .i64 x.a_.Epoch,v2,v3,v4,v5,v6,v7]):Sl bE w ok v2 x.a_.Results:=by
  obtain ⟨u0,u1,u2,u3,u4,u5,u6,he,g0,g1,g2,g3,g4,g5,g6⟩:=jD h
  cases he
  exact g1
theorem U1 {w:World} {ok:Nat→Prop} {x:bO} {v1 v2 v3 v4 v5 v6 v7:Value} (h:cQ.R w ok x [.bool x.over_,v1,.int .i64 x.a_.Err,.int .i64 x.a_.At,.bool x.a_.Yes,.int .i64 x.a_.Epoch,v2,v3,v4,v5,v6,v7]):Sl aF w ok v3 x.a_.Store.Nodes:=by
  obtain ⟨u0,u1,u2,u3,u4,u5,u6,he,g0,g1,g2,g3,g4,g5,g6⟩:=jD h
  cases he
  exact g2
theorem U6 {w:World} {ok:Nat→Prop} {x:bO} {v1 v2 v3 v4 v5 v6 v7:Value} (h:cQ.R w ok x [.bool x.over_,v1,.int .i64 x.a_.Err,.int .i64 x.a_.At,.bool x.a_.Yes,.int .i64 x.a_.Epoch,v2,v3,v4,v5,v6,v7]):Sl aJ w ok v4 x.a_.Store.Turns:=by
  obtain ⟨u0,u1,u2,u3,u4,u5,u6,he,g0,g1,g2,g3,g4,g5,g6⟩:=jD h
  cases he
  exact g3
theorem U7 {w:World} {ok:Nat→Prop} {x:bO} {v1 v2 v3 v4 v5 v6 v7:Value} (h:cQ.R w ok x [.bool x.over_,v1,.int .i64 x.a_.Err,.int .i64 x.a_.At,.bool x.a_.Yes,.int .i64 x.a_.Epoch,v2,v3,v4,v5,v6,v7]):Sl aV w ok v5 x.a_.Events:=by
  obtain ⟨u0,u1,u2,u3,u4,u5,u6,he,g0,g1,g2,g3,g4,g5,g6⟩:=jD h
  cases he
  exact g4
theorem U8 {w:World} {ok:Nat→Prop} {x:bO} {v1 v2 v3 v4 v5 v6 v7:Value} (h:cQ.R w ok x [.bool x.over_,v1,.int .i64 x.a_.Err,.int .i64 x.a_.At,.bool x.a_.Yes,.int .i64 x.a_.Epoch,v2,v3,v4,v5,v6,v7]):Sl bL w ok v6 x.a_.Mounts:=by
  obtain ⟨u0,u1,u2,u3,u4,u5,u6,he,g0,g1,g2,g3,g4,g5,g6⟩:=jD h
  cases he
  exact g5
theorem V1 {w:World} {ok:Nat→Prop} {x:bO} {v1 v2 v3 v4 v5 v6 v7:Value} (h:cQ.R w ok x [.bool x.over_,v1,.int .i64 x.a_.Err,.int .i64 x.a_.At,.bool x.a_.Yes,.int .i64 x.a_.Epoch,v2,v3,v4,v5,v6,v7]):Sl (kI .i64) w ok v7 x.a_.Wounded:=by
  obtain ⟨u0,u1,u2,u3,u4,u5,u6,he,g0,g1,g2,g3,g4,g5,g6⟩:=jD h
  cases he
  exact g6
abbrev R5 (x:bO) (v1:Value) (v2:Value) (v3:Value) (v4:Value) (v5:Value) (v6:Value) (v7:Value):List Value:=[.bool x.over_,v1,.int .i64 x.a_.Err,.int .i64 x.a_.At,.bool x.a_.Yes,.int .i64 x.a_.Epoch,v2,v3,v4,v5,v6,v7]
abbrev Sy:List Value:=[.bool false,.slice none 0 0,.int .i64 0,.int .i64 0,.bool false,.int .i64 0,.slice none 0 0,.slice none 0 0,.slice none 0 0,.slice none 0 0,.slice none 0 0,.slice none 0 0]
theorem d8 {w:World} {os:List Ob} {rs:List Rp} {x:bO} {cs:List Value} (H:Sep w os (rCs cQ cs x::rs)):∃ v1 v2 v3 v4 v5 v6 v7:Value,cs=(R5 x v1 v2 v3 v4 v5 v6 v7)∧Sep w os (rSl (kI .i64) v7 x.a_.Wounded::rSl bL v6 x.a_.Mounts::rSl aV v5 x.a_.Events::rSl aJ v4 x.a_.Store.Turns::rSl aF v3 x.a_.Store.Nodes::rSl bE v2 x.a_.Results::rSl cE v1 x.pieces_::rCs cQ (R5 x v1 v2 v3 v4 v5 v6 v7) x::rs):=by
  obtain ⟨_,hcs⟩:=H.rd (.head _)
  obtain ⟨u0,u1,u2,u3,u4,u5,u6,rfl,-,-,-,-,-,-,-⟩:=jD hcs
  refine ⟨_,_,_,_,_,_,_,rfl,?_⟩
  exact (((((((H.derive1 (.head _) (rSl cE u0 x.pieces_) fun ok h=>T8 h).derive1 (.tail _ (.head _)) (rSl bE u1 x.a_.Results) fun ok h=>T9 h).derive1 (.tail _ (.tail _ (.head _))) (rSl aF u2 x.a_.Store.Nodes) fun ok h=>U1 h).derive1 (.tail _ (.tail _ (.tail _ (.head _)))) (rSl aJ u3 x.a_.Store.Turns) fun ok h=>U6 h).derive1 (.tail _ (.tail _ (.tail _ (.tail _ (.head _))))) (rSl aV u4 x.a_.Events) fun ok h=>U7 h).derive1 (.tail _ (.tail _ (.tail _ (.tail _ (.tail _ (.head _)))))) (rSl bL u5 x.a_.Mounts) fun ok h=>U8 h).derive1 (.tail _ (.tail _ (.tail _ (.tail _ (.tail _ (.tail _ (.head _))))))) (rSl (kI .i64) u6 x.a_.Wounded) fun ok h=>V1 h)
theorem xH {w:World} {os:List Ob} {rs:List Rp} {z0:Bool} {z1:Int} {z2:Int} {z3:Bool} {z4:Int} {v1:Value} {yv1:List cF} {v2:Value} {yv2:List cL} {v3:Value} {yv3:List aE} {v4:Value} {yv4:List aI} {v5:Value} {yv5:List bK} {v6:Value} {yv6:List lQ} {v7:Value} {yv7:List Int} (H:Sep w os rs) (hv1:rSl cE v1 yv1 ∈ rs) (hv2:rSl bE v2 yv2 ∈ rs) (hv3:rSl aF v3 yv3 ∈ rs) (hv4:rSl aJ v4 yv4 ∈ rs) (hv5:rSl aV v5 yv5 ∈ rs) (hv6:rSl bL v6 yv6 ∈ rs) (hv7:rSl (kI .i64) v7 yv7 ∈ rs):[.bool z0,v1,.int .i64 z1,.int .i64 z2,.bool z3,.int .i64 z4,v2,v3,v4,v5,v6,v7].all (·.oneCell')=true:=by
  obtain ⟨_,_,rfl⟩:=H.slform hv1
  obtain ⟨_,_,rfl⟩:=H.slform hv2
  obtain ⟨_,_,rfl⟩:=H.slform hv3
  obtain ⟨_,_,rfl⟩:=H.slform hv4
  obtain ⟨_,_,rfl⟩:=H.slform hv5
  obtain ⟨_,_,rfl⟩:=H.slform hv6
  obtain ⟨_,_,rfl⟩:=H.slform hv7
  rfl
structure dU where
  Kind:Int
  Path:ByteArray
  Data:ByteArray
  Version:Int
  Owner:Int
  Turns:Bool
  deriving DecidableEq,Inhabited
def xT:Kd dU:=pF (kP (kI .i64) (kP kS (kP kS (kP (kI .i64) (kP (kI .i64) kB))))) fun x=>(x.Kind,(x.Path,(x.Data,(x.Version,(x.Owner,x.Turns)))))
theorem Ch {w:World} {ok:Nat→Prop} {x:dU} {cs:List Value} (h:xT.R w ok x cs):cs= [.int .i64 x.Kind,.string x.Path,.string x.Data,.int .i64 x.Version,.int .i64 x.Owner,.bool x.Turns]:=by
  obtain ⟨c0,d0,rfl,h0,c1,d1,rfl,h1,c2,d2,rfl,h2,c3,d3,rfl,h3,c4,d4,rfl,h4,h5⟩:=h
  have e0:c0= [.int .i64 x.Kind]:=h0
  subst e0
  have e1:c1= [.string x.Path]:=h1
  subst e1
  have e2:c2= [.string x.Data]:=h2
  subst e2
  have e3:c3= [.int .i64 x.Version]:=h3
  subst e3
  have e4:c4= [.int .i64 x.Owner]:=h4
  subst e4
  have e5:d4= [.bool x.Turns]:=h5
  subst e5
  rfl
theorem R6 {w:World} {ok:Nat→Prop} {x:dU}:xT.R w ok x [.int .i64 x.Kind,.string x.Path,.string x.Data,.int .i64 x.Version,.int .i64 x.Owner,.bool x.Turns]:=⟨[.int .i64 x.Kind],_,rfl,rfl,⟨[.string x.Path],_,rfl,rfl,⟨[.string x.Data],_,rfl,rfl,⟨[.int .i64 x.Version],_,rfl,rfl,⟨[.int .i64 x.Owner],_,rfl,rfl,rfl⟩⟩⟩⟩⟩
abbrev mY (x:dU):List Value:=[.int .i64 x.Kind,.string x.Path,.string x.Data,.int .i64 x.Version,.int .i64 x.Owner,.bool x.Turns]
abbrev Xl:List Value:=[.int .i64 0,.string ⟨#[]⟩,.string ⟨#[]⟩,.int .i64 0,.int .i64 0,.bool false]
def I8:eJ xT:=⟨fun x=>[.int .i64 x.Kind,.string x.Path,.string x.Data,.int .i64 x.Version,.int .i64 x.Owner,.bool x.Turns],Ch,R6⟩
def Aa:eJ cO:=⟨fun x=>[.int .i64 x.Kind,.string x.Dir,.string x.Path,.string x.Data,.int .i64 x.Version,.int .i64 x.Owner,.bool x.Turns],A3,fU⟩
structure bA where
  Kind:Int
  Id:Int
  Txn:Int
  Age:Int
  Yes:Bool
  Pieces:(List cF)
  Prefix:ByteArray
  Epoch:Int
  To:Int
  Store:bB
  Gone:(List ByteArray)
  Watch:aK
  deriving DecidableEq,Inhabited
def Oj:Kd bA:=pF (kP (kI .i64) (kP (kI .i64) (kP (kI .i64) (kP (kI .i64) (kP kB (kP (kL cE) (kP kS (kP (kI .i64) (kP (kI .i64) (kP A7 (kP (kL kS) aX))))))))))) fun x=>(x.Kind,(x.Id,(x.Txn,(x.Age,(x.Yes,(x.Pieces,(x.Prefix,(x.Epoch,(x.To,(x.Store,(x.Gone,x.Watch)))))))))))
abbrev aR (x:bA) (v1:Value) (v2:Value) (v3:Value) (v4:Value):List Value:=[.int .i64 x.Kind,.int .i64 x.Id,.int .i64 x.Txn,.int .i64 x.Age,.bool x.Yes,v1,.string x.Prefix,.int .i64 x.Epoch,.int .i64 x.To,v2,v3,v4,.int .i64 x.Watch.Session,.int .i64 x.Watch.Num,.string x.Watch.Path,.bool x.Watch.Deep]
def sJ:eJ cE:=⟨fun x=>[.int .i64 x.Op,.int .i64 x.Part.Kind,.string x.Part.Dir,.string x.Part.Path,.string x.Part.Data,.int .i64 x.Part.Version,.int .i64 x.Part.Owner,.bool x.Part.Turns],T7,D9⟩
abbrev Fl:bB:=⟨[],[]⟩
abbrev nP:aG:=⟨0,0,false,0,[],Fl,[],[],[]⟩
structure bM where
  Watches:(List aK)
  Sessions:(List aD)
  deriving DecidableEq,Inhabited
def Ok:Kd bM:=pF (kP (kL aX) (kL aO)) fun x=>(x.Watches,x.Sessions)
theorem gB {w:World} {os:List Ob} {rs:List Rp} {v1:Value} {yv1:List aK} {v2:Value} {yv2:List aD} (H:Sep w os rs) (hv1:rSl aX v1 yv1 ∈ rs) (hv2:rSl aO v2 yv2 ∈ rs):[v1,v2].all (·.oneCell')=true:=by
  obtain ⟨_,_,rfl⟩:=H.slform hv1
  obtain ⟨_,_,rfl⟩:=H.slform hv2
  rfl
def mZ:eJ aV:=⟨fun x=>[.int .i64 x.Num,.int .i64 x.Kind,.string x.Path,.int .i64 x.Watch],T2,vL⟩
def Mw:eJ kS:=⟨fun x=>[.string x],fun h=>h,rfl⟩
structure Fm where
  Store:bB
  r_:cL
  deriving DecidableEq,Inhabited
def Sz:Kd Fm:=pF (kP A7 bE) fun x=>(x.Store,x.r_)
abbrev A8:bO:=⟨false,[],nP⟩
theorem cf6:CF Tryz.prog 6:=cfo Tryz.func6 (by kernel_rfl)
theorem Pa:CF Tryz.prog 15:=cfo Tryz.func15 (by kernel_rfl)
theorem cf7:CF Tryz.prog 7:=cfo Tryz.func7 (by kernel_rfl)
abbrev U25:=Tryz.underlying25
theorem dA:(Tryz.prog.info? 25).map (·.size)=some 2:=by kernel_rfl
theorem Gu:CF Tryz.prog 20:=cfo Tryz.func20 (by kernel_rfl)
theorem Pb:∀ (w:World) (q:Addr),(Instr.fieldAt 25 (.pointer (some q)) 0).run Tryz.prog w= .ok (.pointer (some (q.add 0))) w:=fun w q=>by kernel_rfl
abbrev U22:=Tryz.underlying22
theorem Pc:CF Tryz.prog 46:=cfo Tryz.func46 (by kernel_rfl)
theorem Gv:CF Tryz.prog 105:=cfo Tryz.func105 (by kernel_rfl)
theorem iR:(Tryz.prog.info? 95).map (·.size)=some 5:=by kernel_rfl
abbrev U95:=Tryz.underlying95
theorem Xm:CF Tryz.prog 47:=cfo Tryz.func47 (by kernel_rfl)
theorem Pd:∀ (w:World) (q:Addr),(Instr.fieldAt 95 (.pointer (some q)) 3).run Tryz.prog w= .ok (.pointer (some (q.add 3))) w:=fun w q=>by kernel_rfl
abbrev U2:=Tryz.underlying2
theorem Pe:∀ (w:World) (q:Addr),(Instr.fieldAt 95 (.pointer (some q)) 0).run Tryz.prog w= .ok (.pointer (some (q.add 0))) w:=fun w q=>by kernel_rfl
abbrev U9:=Tryz.underlying9
theorem Pf:∀ (w:World) (q:Addr),(Instr.fieldAt 95 (.pointer (some q)) 1).run Tryz.prog w= .ok (.pointer (some (q.add 1))) w:=fun w q=>by kernel_rfl
theorem Pg:∀ (w:World) (q:Addr),(Instr.fieldAt 95 (.pointer (some q)) 2).run Tryz.prog w= .ok (.pointer (some (q.add 2))) w:=fun w q=>by kernel_rfl
theorem Ph:∀ (w:World) (q:Addr),(Instr.fieldAt 95 (.pointer (some q)) 4).run Tryz.prog w= .ok (.pointer (some (q.add 4))) w:=fun w q=>by kernel_rfl
theorem Pi:CF Tryz.prog 48:=cfo Tryz.func48 (by kernel_rfl)
theorem yU:CF Tryz.prog 51:=cfo Tryz.func51 (by kernel_rfl)
theorem Ll:CF Tryz.prog 107:=cfo Tryz.func107 (by kernel_rfl)
theorem Lm:CF Tryz.prog 172:=cfo Tryz.func172 (by kernel_rfl)
theorem Tp:CF Tryz.prog 236:=cfo Tryz.func236 (by kernel_rfl)
theorem Tq:CF Tryz.prog 286:=cfo Tryz.func286 (by kernel_rfl)
abbrev U33:=Tryz.underlying33
theorem Gw:CF Tryz.prog 177:=cfo Tryz.func177 (by kernel_rfl)
theorem Tr:CF Tryz.prog 238:=cfo Tryz.func238 (by kernel_rfl)
theorem Pj:∀ (w:World) (s:ByteArray) (c:Int),(callFunc 288 #[.string s,.int .u8 c]).run Tryz.prog w= .ok (.value (.int .i64 (ixB s c))) w:=fun w s c=>Dx Tryz.func288 (by kernel_rfl) (by kernel_rfl) (by kernel_rfl) (e:=Extern.BytealgIndexByte.indexByte) (by kernel_rfl) (Mp s c w)
theorem Gx:CF Tryz.prog 178:=cfo Tryz.func178 (by kernel_rfl)
theorem Ts:CF Tryz.prog 239:=cfo Tryz.func239 (by kernel_rfl)
theorem Tt:CF Tryz.prog 289:=cfo Tryz.func289 (by kernel_rfl)
theorem Tu:CF Tryz.prog 324:=cfo Tryz.func324 (by kernel_rfl)
theorem Tv:CF Tryz.prog 240:=cfo Tryz.func240 (by kernel_rfl)
theorem Tw:CF Tryz.prog 241:=cfo Tryz.func241 (by kernel_rfl)
theorem Tx:CF Tryz.prog 290:=cfo Tryz.func290 (by kernel_rfl)
theorem Ty:CF Tryz.prog 325:=cfo Tryz.func325 (by kernel_rfl)
theorem Gy:(Tryz.prog.info? 9).map (fun i=>(i.zero,i.size,i.bytes))=some (some (.string ⟨#[]⟩),1,16):=by kernel_rfl
theorem Kl:CF Tryz.prog 52:=cfo Tryz.func52 (by kernel_rfl)
theorem Pk:∀ (w:World) (q:Addr),(Instr.fieldAt 25 (.pointer (some q)) 1).run Tryz.prog w= .ok (.pointer (some (q.add 1))) w:=fun w q=>by kernel_rfl
abbrev U23:=Tryz.underlying23
theorem Xn:CF Tryz.prog 49:=cfo Tryz.func49 (by kernel_rfl)
theorem Tz:CF Tryz.prog 106:=cfo Tryz.func106 (by kernel_rfl)
theorem oK:(Tryz.prog.info? 77).map (·.size)=some 2:=by kernel_rfl
abbrev U77:=Tryz.underlying77
theorem Xo:CF Tryz.prog 50:=cfo Tryz.func50 (by kernel_rfl)
theorem Pm:∀ (w:World) (q:Addr),(Instr.fieldAt 77 (.pointer (some q)) 0).run Tryz.prog w= .ok (.pointer (some (q.add 0))) w:=fun w q=>by kernel_rfl
theorem Pn:∀ (w:World) (q:Addr),(Instr.fieldAt 77 (.pointer (some q)) 1).run Tryz.prog w= .ok (.pointer (some (q.add 1))) w:=fun w q=>by kernel_rfl
theorem Xp:CF Tryz.prog 53:=cfo Tryz.func53 (by kernel_rfl)
theorem Po:CF Tryz.prog 54:=cfo Tryz.func54 (by kernel_rfl)
theorem Xq:CF Tryz.prog 55:=cfo Tryz.func55 (by kernel_rfl)
theorem Pp:CF Tryz.prog 56:=cfo Tryz.func56 (by kernel_rfl)
theorem Eh:CF Tryz.prog 21:=cfo Tryz.func21 (by kernel_rfl)
abbrev U32:=Tryz.underlying32
theorem gL:(Tryz.prog.info? 31).map (·.size)=some 3:=by kernel_rfl
abbrev U31:=Tryz.underlying31
theorem Bd:(Tryz.prog.info? 31).bind (·.zero)=some (.agg Fk.toArray):=by kernel_rfl
theorem Pq:∀ (w:World) (q:Addr),(Instr.fieldAt 31 (.pointer (some q)) 0).run Tryz.prog w= .ok (.pointer (some (q.add 0))) w:=fun w q=>by kernel_rfl
theorem Pr:∀ (w:World) (q:Addr),(Instr.fieldAt 31 (.pointer (some q)) 1).run Tryz.prog w= .ok (.pointer (some (q.add 1))) w:=fun w q=>by kernel_rfl
theorem Ps:∀ (w:World) (q:Addr),(Instr.fieldAt 31 (.pointer (some q)) 2).run Tryz.prog w= .ok (.pointer (some (q.add 2))) w:=fun w q=>by kernel_rfl
abbrev U3:=Tryz.underlying3
theorem Ei:CF Tryz.prog 18:=cfo Tryz.func18 (by kernel_rfl)
theorem Xr:CF Tryz.prog 16:=cfo Tryz.func16 (by kernel_rfl)
theorem Xs:CF Tryz.prog 42:=cfo Tryz.func42 (by kernel_rfl)
theorem Xt:CF Tryz.prog 97:=cfo Tryz.func97 (by kernel_rfl)
theorem Ua:CF Tryz.prog 174:=cfo Tryz.func174 (by kernel_rfl)
abbrev U58:=Tryz.underlying58
theorem L4:(Tryz.prog.info? 60).map (·.size)=some 6:=by kernel_rfl
abbrev U60:=Tryz.underlying60
theorem Xu:CF Tryz.prog 98:=cfo Tryz.func98 (by kernel_rfl)
theorem Pt:CF Tryz.prog 99:=cfo Tryz.func99 (by kernel_rfl)
theorem Pu:∀ (w:World) (q:Addr),(Instr.fieldAt 60 (.pointer (some q)) 0).run Tryz.prog w= .ok (.pointer (some (q.add 0))) w:=fun w q=>by kernel_rfl
theorem Pv:∀ (w:World) (q:Addr),(Instr.fieldAt 60 (.pointer (some q)) 1).run Tryz.prog w= .ok (.pointer (some (q.add 1))) w:=fun w q=>by kernel_rfl
theorem Pw:∀ (w:World) (q:Addr),(Instr.fieldAt 60 (.pointer (some q)) 2).run Tryz.prog w= .ok (.pointer (some (q.add 2))) w:=fun w q=>by kernel_rfl
theorem Px:∀ (w:World) (q:Addr),(Instr.fieldAt 60 (.pointer (some q)) 4).run Tryz.prog w= .ok (.pointer (some (q.add 4))) w:=fun w q=>by kernel_rfl
theorem Ub:CF Tryz.prog 175:=cfo Tryz.func175 (by kernel_rfl)
theorem Py:∀ (w:World) (q:Addr),(Instr.fieldAt 60 (.pointer (some q)) 3).run Tryz.prog w= .ok (.pointer (some (q.add 3))) w:=fun w q=>by kernel_rfl
theorem Pz:∀ (w:World) (q:Addr),(Instr.fieldAt 60 (.pointer (some q)) 5).run Tryz.prog w= .ok (.pointer (some (q.add 5))) w:=fun w q=>by kernel_rfl
abbrev U4:=Tryz.underlying4
theorem Uc:CF Tryz.prog 176:=cfo Tryz.func176 (by kernel_rfl)
theorem Ud:(Tryz.prog.info? 230).bind (·.zero)=some (.agg #[.int .i64 0,.int .i64 0,.int .i64 0,.int .i64 0,.int .i64 0,.int .i64 0,.int .i64 0,.int .i64 0]):=by kernel_rfl
theorem Ln:(Tryz.prog.info? 230).map (·.size)=some 8:=by kernel_rfl
abbrev Qa:=Tryz.underlying230
theorem sz3:(Tryz.prog.info? 3).map (·.size)=some 1:=by kernel_rfl
theorem Xv:(Tryz.prog.info? 60).bind (·.zero)=some (.agg Xl.toArray):=by kernel_rfl
theorem Xw:CF Tryz.prog 43:=cfo Tryz.func43 (by kernel_rfl)
theorem Xx:(Tryz.prog.info? 99).bind (·.zero)=some (.slice none 0 0):=by kernel_rfl
theorem Gz:CF Tryz.prog 101:=cfo Tryz.func101 (by kernel_rfl)
theorem Cv:CF Tryz.prog 148:=cfo Tryz.func148 (by kernel_rfl)
theorem Lo:CF Tryz.prog 203:=cfo Tryz.func203 (by kernel_rfl)
theorem Ue:CF Tryz.prog 270:=cfo Tryz.func270 (by kernel_rfl)
theorem Uf:CF Tryz.prog 318:=cfo Tryz.func318 (by kernel_rfl)
theorem zr9:(Tryz.prog.info? 9).bind (·.zero)=some (.string ⟨#[]⟩):=by kernel_rfl
theorem sz9:(Tryz.prog.info? 9).map (·.size)=some 1:=by kernel_rfl
theorem Ug:(Tryz.prog.info? 162).bind (·.zero)=some (.nilFunc):=by kernel_rfl
theorem Uh:(Tryz.prog.info? 162).map (·.size)=some 1:=by kernel_rfl
abbrev Ej:=Tryz.underlying162
theorem Ab:CF Tryz.prog 102:=cfo Tryz.func102 (by kernel_rfl)
theorem V2:(Tryz.prog.info? 85).bind (·.zero)=some (.agg Tm.toArray):=by kernel_rfl
theorem hP:(Tryz.prog.info? 85).map (·.size)=some 7:=by kernel_rfl
abbrev U85:=Tryz.underlying85
theorem Qb:∀ (w:World) (q:Addr),(Instr.fieldAt 85 (.pointer (some q)) 3).run Tryz.prog w= .ok (.pointer (some (q.add 3))) w:=fun w q=>by kernel_rfl
theorem Qc:∀ (w:World) (q:Addr),(Instr.fieldAt 85 (.pointer (some q)) 5).run Tryz.prog w= .ok (.pointer (some (q.add 5))) w:=fun w q=>by kernel_rfl
theorem sz2:(Tryz.prog.info? 2).map (·.size)=some 1:=by kernel_rfl
theorem Qd:∀ (w:World) (q:Addr),(Instr.fieldAt 85 (.pointer (some q)) 6).run Tryz.prog w= .ok (.pointer (some (q.add 6))) w:=fun w q=>by kernel_rfl
theorem sz4:(Tryz.prog.info? 4).map (·.size)=some 1:=by kernel_rfl
theorem G1:CF Tryz.prog 100:=cfo Tryz.func100 (by kernel_rfl)
abbrev U99:=Tryz.underlying99
theorem Ui:(Tryz.prog.info? 85).map (fun i=>(i.zero,i.size,i.bytes))=some (some (.agg #[.int .i64 0,.string ⟨#[]⟩,.string ⟨#[]⟩,.string ⟨#[]⟩,.int .i64 0,.int .i64 0,.bool false]),7,80):=by kernel_rfl
theorem Xy:(Tryz.prog.info? 99).map (·.size)=some 1:=by kernel_rfl
theorem Ha:CF Tryz.prog 104:=cfo Tryz.func104 (by kernel_rfl)
theorem Qe:∀ (w:World) (q:Addr),(Instr.fieldAt 85 (.pointer (some q)) 4).run Tryz.prog w= .ok (.pointer (some (q.add 4))) w:=fun w q=>by kernel_rfl
theorem Hb:CF Tryz.prog 103:=cfo Tryz.func103 (by kernel_rfl)
abbrev U26:=Tryz.underlying26
theorem Uj:(Tryz.prog.info? 87).map (fun i=>(i.zero,i.size,i.bytes))=some (some (.agg #[.int .i64 0,.int .i64 0,.string ⟨#[]⟩,.string ⟨#[]⟩,.string ⟨#[]⟩,.int .i64 0,.int .i64 0,.bool false]),8,88):=by kernel_rfl
theorem L5:CF Tryz.prog 11:=cfo Tryz.func11 (by kernel_rfl)
theorem gN:(Tryz.prog.info? 48).bind (·.zero)=some (.agg bN.toArray):=by kernel_rfl
theorem Xz:(Tryz.prog.info? 89).bind (·.zero)=some (.agg #[.nilFunc,.nilFunc,.nilFunc,.nilFunc,.nilFunc,.nilFunc,.nilFunc,.nilFunc,.nilFunc,.nilFunc,.nilFunc]):=by kernel_rfl
theorem Ya:(Tryz.prog.info? 89).map (·.size)=some 11:=by kernel_rfl
abbrev U37:=Tryz.underlying37
theorem j6:(Tryz.prog.info? 37).map (·.size)=some 16:=by kernel_rfl
theorem Yb:CF Tryz.prog 35:=cfo Tryz.func35 (by kernel_rfl)
theorem Iz:∀ (w:World) (q:Addr),(Instr.fieldAt 37 (.pointer (some q)) 5).run Tryz.prog w= .ok (.pointer (some (q.add 5))) w:=fun w q=>by kernel_rfl
theorem j7:(Tryz.prog.info? 87).map (·.size)=some 8:=by kernel_rfl
abbrev U87:=Tryz.underlying87
theorem Hc:(Tryz.prog.info? 87).bind (·.zero)=some (.agg Sx.toArray):=by kernel_rfl
theorem Qf:∀ (w:World) (q:Addr),(Instr.fieldAt 87 (.pointer (some q)) 0).run Tryz.prog w= .ok (.pointer (some (q.add 0))) w:=fun w q=>by kernel_rfl
theorem Qg:∀ (w:World) (q:Addr),(Instr.fieldAt 87 (.pointer (some q)) 1).run Tryz.prog w= .ok (.pointer (some (q.add 1))) w:=fun w q=>by kernel_rfl
theorem Qh:CF Tryz.prog 92:=cfo Tryz.func92 (by kernel_rfl)
theorem Qi:∀ (w:World) (q:Addr),(Instr.fieldAt 85 (.pointer (some q)) 2).run Tryz.prog w= .ok (.pointer (some (q.add 2))) w:=fun w q=>by kernel_rfl
theorem Qj:∀ (w:World) (q:Addr),(Instr.fieldAt 85 (.pointer (some q)) 0).run Tryz.prog w= .ok (.pointer (some (q.add 0))) w:=fun w q=>by kernel_rfl
theorem Qk:∀ (w:World) (q:Addr),(Instr.fieldAt 85 (.pointer (some q)) 1).run Tryz.prog w= .ok (.pointer (some (q.add 1))) w:=fun w q=>by kernel_rfl
theorem Mx:∀ (w:World) (q:Addr),(Instr.fieldAt 37 (.pointer (some q)) 10).run Tryz.prog w= .ok (.pointer (some (q.add 11))) w:=fun w q=>by kernel_rfl
theorem Ek:∀ (w:World) (q:Addr),(Instr.fieldAt 37 (.pointer (some q)) 6).run Tryz.prog w= .ok (.pointer (some (q.add 6))) w:=fun w q=>by kernel_rfl
theorem Km:CF Tryz.prog 93:=cfo Tryz.func93 (by kernel_rfl)
theorem Lp:CF Tryz.prog 173:=cfo Tryz.func173 (by kernel_rfl)
theorem Uk:CF Tryz.prog 237:=cfo Tryz.func237 (by kernel_rfl)
theorem Ul:CF Tryz.prog 287:=cfo Tryz.func287 (by kernel_rfl)
theorem Ql:∀ (w:World) (q:Addr),(Instr.fieldAt 37 (.pointer (some q)) 0).run Tryz.prog w= .ok (.pointer (some (q.add 0))) w:=fun w q=>by kernel_rfl
theorem Qm:∀ (w:World) (q:Addr),(Instr.fieldAt 37 (.pointer (some q)) 8).run Tryz.prog w= .ok (.pointer (some (q.add 8))) w:=fun w q=>by kernel_rfl
theorem L6:∀ (w:World) (q:Addr),(Instr.fieldAt 37 (.pointer (some q)) 1).run Tryz.prog w= .ok (.pointer (some (q.add 1))) w:=fun w q=>by kernel_rfl
theorem Ac:∀ (w:World) (q:Addr),(Instr.fieldAt 37 (.pointer (some q)) 2).run Tryz.prog w= .ok (.pointer (some (q.add 2))) w:=fun w q=>by kernel_rfl
theorem Qn:∀ (w:World) (q:Addr),(Instr.fieldAt 37 (.pointer (some q)) 3).run Tryz.prog w= .ok (.pointer (some (q.add 3))) w:=fun w q=>by kernel_rfl
theorem Qo:∀ (w:World) (q:Addr),(Instr.fieldAt 37 (.pointer (some q)) 7).run Tryz.prog w= .ok (.pointer (some (q.add 7))) w:=fun w q=>by kernel_rfl
theorem O9:∀ (w:World) (q:Addr),(Instr.fieldAt 37 (.pointer (some q)) 11).run Tryz.prog w= .ok (.pointer (some (q.add 12))) w:=fun w q=>by kernel_rfl
theorem Ad:∀ (w:World) (q:Addr),(Instr.fieldAt 35 (.pointer (some q)) 0).run Tryz.prog w= .ok (.pointer (some (q.add 0))) w:=fun w q=>by kernel_rfl
theorem Em:∀ (w:World) (q:Addr),(Instr.fieldAt 35 (.pointer (some q)) 1).run Tryz.prog w= .ok (.pointer (some (q.add 1))) w:=fun w q=>by kernel_rfl
theorem Yc:CF Tryz.prog 94:=cfo Tryz.func94 (by kernel_rfl)
abbrev U46:=Tryz.underlying46
theorem Qp:CF Tryz.prog 95:=cfo Tryz.func95 (by kernel_rfl)
theorem Qq:∀ (w:World) (q:Addr),(Instr.fieldAt 35 (.pointer (some q)) 2).run Tryz.prog w= .ok (.pointer (some (q.add 2))) w:=fun w q=>by kernel_rfl
theorem Qr:∀ (w:World) (q:Addr),(Instr.fieldAt 37 (.pointer (some q)) 9).run Tryz.prog w= .ok (.pointer (some (q.add 9))) w:=fun w q=>by kernel_rfl
theorem tM:CF Tryz.prog 36:=cfo Tryz.func36 (by kernel_rfl)
theorem bU:(Tryz.prog.info? 48).map (·.size)=some 10:=by kernel_rfl
abbrev U48:=Tryz.underlying48
abbrev U89:=Tryz.underlying89
theorem A9:(Tryz.prog.info? 88).map (·.size)=some 1:=by kernel_rfl
abbrev U88:=Tryz.underlying88
theorem Hd:CF Tryz.prog 37:=cfo Tryz.func37 (by kernel_rfl)
theorem L7:∀ (w:World) (q:Addr),(Instr.fieldAt 75 (.pointer (some q)) 4).run Tryz.prog w= .ok (.pointer (some (q.add 6))) w:=fun w q=>by kernel_rfl
abbrev U68:=Tryz.underlying68
theorem yV:(Tryz.prog.info? 48).bind (·.zero)=some (.agg [.int .i64 0,.int .i64 0,.bool false,.int .i64 0,.slice none 0 0,.slice none 0 0,.slice none 0 0,.slice none 0 0,.slice none 0 0,.slice none 0 0].toArray):=by kernel_rfl
theorem q3:∀ (w:World) (ok:Nat→Prop),bI.R w ok nP [.int .i64 0,.int .i64 0,.bool false,.int .i64 0,.slice none 0 0,.slice none 0 0,.slice none 0 0,.slice none 0 0,.slice none 0 0,.slice none 0 0]:=fun w ok=>lS (Sl.nil _ _ _) (Sl.nil _ _ _) (Sl.nil _ _ _) (Sl.nil _ _ _) (Sl.nil _ _ _) (Sl.nil _ _ _)
theorem kG:Tryz.prog.follows .mixedOrders=true:=by kernel_rfl
theorem Yd:CF Tryz.prog 34:=cfo Tryz.func34 (by kernel_rfl)
theorem En:∀ (w:World) (q:Addr),(Instr.fieldAt 75 (.pointer (some q)) 3).run Tryz.prog w= .ok (.pointer (some (q.add 4))) w:=fun w q=>by kernel_rfl
abbrev U73:=Tryz.underlying73
theorem eE:(Tryz.prog.info? 73).map (·.size)=some 2:=by kernel_rfl
theorem Ye:CF Tryz.prog 91:=cfo Tryz.func91 (by kernel_rfl)
theorem G2:(Tryz.prog.info? 73).bind (·.zero)=some (.agg #[.slice none 0 0,.slice none 0 0]):=by kernel_rfl
theorem Cw:CF Tryz.prog 160:=cfo Tryz.func160 (by kernel_rfl)
theorem Ja:∀ (w:World) (q:Addr),(Instr.fieldAt 73 (.pointer (some q)) 0).run Tryz.prog w= .ok (.pointer (some (q.add 0))) w:=fun w q=>by kernel_rfl
abbrev U70:=Tryz.underlying70
theorem pK:(Tryz.prog.info? 35).map (·.size)=some 4:=by kernel_rfl
abbrev U35:=Tryz.underlying35
theorem Qs:(Tryz.prog.info? 35).bind (·.zero)=some (.agg Sw.toArray):=by kernel_rfl
theorem Eo:(Tryz.prog.info? 3).bind (·.zero)=some (.int .i64 0):=by kernel_rfl
abbrev Yf:=Tryz.underlying274
theorem E1:rK Tryz.prog 274 xS:=Kk (Maps.Keyed.of_law (deep_law_laid (by kernel_rfl) (m:=3) (by omega) (of_decide_eq_true (by kernel_rfl)) (by kernel_rfl) (by kernel_rfl))) Yf U2 U2 (by kernel_rfl) ⟨by kernel_rfl,by kernel_rfl,by kernel_rfl,rfl,rfl⟩ (by kernel_rfl) (by kernel_rfl)
abbrev V3:=Tryz.underlying272
theorem Jb:∀ (w:World) (q:Addr),(Instr.fieldAt 73 (.pointer (some q)) 1).run Tryz.prog w= .ok (.pointer (some (q.add 1))) w:=fun w q=>by kernel_rfl
abbrev U71:=Tryz.underlying71
theorem rL:(Tryz.prog.info? 215).map (·.size)=some 3:=by kernel_rfl
theorem My:∀ (w:World) (q:Addr),(Instr.fieldAt 215 (.pointer (some q)) 0).run Tryz.prog w= .ok (.pointer (some (q.add 0))) w:=fun w q=>by kernel_rfl
theorem Um:CF Tryz.prog 226:=cfo Tryz.func226 (by kernel_rfl)
theorem Un:CF Tryz.prog 280:=cfo Tryz.func280 (by kernel_rfl)
theorem He:CF Tryz.prog 230:=cfo Tryz.func230 (by kernel_rfl)
theorem Uo:CF Tryz.prog 281:=cfo Tryz.func281 (by kernel_rfl)
abbrev Yg:=Tryz.underlying211
theorem Lq:CF Tryz.prog 161:=cfo Tryz.func161 (by kernel_rfl)
theorem Cx:CF Tryz.prog 229:=cfo Tryz.func229 (by kernel_rfl)
theorem Up:CF Tryz.prog 227:=cfo Tryz.func227 (by kernel_rfl)
theorem Uq:CF Tryz.prog 282:=cfo Tryz.func282 (by kernel_rfl)
theorem Ur:CF Tryz.prog 322:=cfo Tryz.func322 (by kernel_rfl)
abbrev Be:=Tryz.underlying215
theorem Us:CF Tryz.prog 283:=cfo Tryz.func283 (by kernel_rfl)
abbrev Yh:=Tryz.underlying277
theorem Ut:CF Tryz.prog 228:=cfo Tryz.func228 (by kernel_rfl)
theorem Mz:∀ (w:World) (q:Addr),(Instr.fieldAt 215 (.pointer (some q)) 1).run Tryz.prog w= .ok (.pointer (some (q.add 1))) w:=fun w q=>by kernel_rfl
theorem Ge:∀ (w:World) (q:Addr),(Instr.fieldAt 215 (.pointer (some q)) 2).run Tryz.prog w= .ok (.pointer (some (q.add 2))) w:=fun w q=>by kernel_rfl
abbrev U44:=Tryz.underlying44
theorem rM:(Tryz.prog.info? 223).map (·.size)=some 4:=by kernel_rfl
abbrev Bf:=Tryz.underlying223
theorem Hf:(Tryz.prog.info? 223).bind (·.zero)=some (.agg Sv.toArray):=by kernel_rfl
theorem Na:∀ (w:World) (q:Addr),(Instr.fieldAt 223 (.pointer (some q)) 0).run Tryz.prog w= .ok (.pointer (some (q.add 0))) w:=fun w q=>by kernel_rfl
theorem Nb:∀ (w:World) (q:Addr),(Instr.fieldAt 223 (.pointer (some q)) 1).run Tryz.prog w= .ok (.pointer (some (q.add 1))) w:=fun w q=>by kernel_rfl
theorem Nc:∀ (w:World) (q:Addr),(Instr.fieldAt 223 (.pointer (some q)) 2).run Tryz.prog w= .ok (.pointer (some (q.add 2))) w:=fun w q=>by kernel_rfl
theorem Nd:∀ (w:World) (q:Addr),(Instr.fieldAt 223 (.pointer (some q)) 3).run Tryz.prog w= .ok (.pointer (some (q.add 3))) w:=fun w q=>by kernel_rfl
theorem Hg:CF Tryz.prog 163:=cfo Tryz.func163 (by kernel_rfl)
theorem Cy:CF Tryz.prog 164:=cfo Tryz.func164 (by kernel_rfl)
theorem Uu:CF Tryz.prog 232:=cfo Tryz.func232 (by kernel_rfl)
theorem Lr:CF Tryz.prog 284:=cfo Tryz.func284 (by kernel_rfl)
theorem Cz:CF Tryz.prog 166:=cfo Tryz.func166 (by kernel_rfl)
theorem Qt:(Tryz.prog.info? 215).map (fun i=>(i.zero,i.size,i.bytes))=some (some (.agg #[.int .i64 0,.int .i64 0,.slice none 0 0]),3,40):=by kernel_rfl
theorem eG {w:World} {os:List Ob} {rs:List Rp} {v:Value} {xs:List aD} (H:Sep w os rs) (hm:rSl aO v xs ∈ rs) (hl:xs.length ≤ LIM) :
    Calls Tryz.prog 166 [v].toArray w (Ret fun v' w'=>Sep w' (Row 215 aO v' xs::os) rs):=by
  obtain ⟨b,c,rfl⟩:=H.slform hm
  refine enter Tryz.func166 rfl Tryz.ntmps166 rfl fun a E=>?_
  simp only [pG,Nat.reduceAdd] at E
  refine wp_seq ?_
  refine wp_region_lit ?_
  refine aQ E (wn rfl) rfl rfl (cM E rfl rfl) ?_
  clear E;clear a;intro a E
  refine wpList_nil ?_
  refine aC ?_
  refine wp_seq ?_
  refine wp_seq ?_
  refine wp_region_lit ?_
  refine aQ E (wn rfl) rfl rfl (bD E rfl rfl) ?_
  clear E;clear a;intro a E
  refine aQ E (wn rfl) rfl rfl (zQ E rfl rfl rfl Tryz.underlying71) ?_
  clear E;clear a;intro a E
  refine wpList_nil ?_
  refine aC ?_
  refine nS E rfl ?_ ?_
  · intro hb
    cases b with
    | some _=>cases hb
    | none=>
      obtain rfl:=H.sl_none hm
      refine wp_seq ?_
      refine wp_region_lit ?_
      refine aQ E (wn rfl) rfl rfl (cM E rfl rfl) ?_
      clear E;clear a;intro a E
      refine wpList_nil ?_
      refine aC ?_
      refine wp_ret ?_
      refine aP ?_
      refine aY E rfl rfl ?_
      exact H.nilRow 215 aO
  · intro hb
    refine wp_skip ?_
    refine aC ?_
    refine wp_seq ?_
    refine wp_region_lit ?_
    refine fY (e:=215) (d:=aO) (cs:=[]) (xs:=[]) E H (wn rfl) rfl rfl (ps:=[]) (parts:=[]) rfl rfl (by kernel_rfl) rfl rfl (fun ok hr=>Rows.nil _ _ _) ?_
    clear E H;clear a;clear w;intro v2 w a H E
    refine aQ E (wn rfl) rfl rfl (bD E rfl rfl) ?_
    clear E;clear a;intro a E
    refine dV (i:=0) E H (wn rfl) rfl rfl rfl rfl rfl rfl (jA hm) Tryz.underlying71 Qt rfl (by simpa using hl) rfl ?_
    clear E H;clear a;clear w;intro v3 w a H E
    refine aQ E (wn rfl) rfl rfl (cM E rfl rfl) ?_
    clear E;clear a;intro a E
    refine wpList_nil ?_
    refine aC ?_
    refine wp_ret ?_
    refine aY E rfl rfl ?_
    exact H

theorem Ep:(Tryz.prog.info? 71).map (·.size)=some 1:=by kernel_rfl
theorem Ae:CF Tryz.prog 170:=cfo Tryz.func170 (by kernel_rfl)
theorem Af:(Tryz.prog.info? 223).map (fun i=>(i.zero,i.size,i.bytes))=some (some (.agg #[.int .i64 0,.int .i64 0,.string ⟨#[]⟩,.int .i64 0]),4,40):=by kernel_rfl
theorem dZ {w:World} {os:List Ob} {rs:List Rp} {v:Value} {xs:List bK} (H:Sep w os rs) (hm:rSl aV v xs ∈ rs) (hl:xs.length ≤ LIM) :
    Calls Tryz.prog 170 [v].toArray w (Ret fun v' w'=>Sep w' (Row 223 aV v' xs::os) rs):=by
  obtain ⟨b,c,rfl⟩:=H.slform hm
  refine enter Tryz.func170 rfl Tryz.ntmps170 rfl fun a E=>?_
  simp only [pG,Nat.reduceAdd] at E
  refine wp_seq ?_
  refine wp_region_lit ?_
  refine aQ E (wn rfl) rfl rfl (cM E rfl rfl) ?_
  clear E;clear a;intro a E
  refine wpList_nil ?_
  refine aC ?_
  refine wp_seq ?_
  refine wp_seq ?_
  refine wp_region_lit ?_
  refine aQ E (wn rfl) rfl rfl (bD E rfl rfl) ?_
  clear E;clear a;intro a E
  refine aQ E (wn rfl) rfl rfl (zQ E rfl rfl rfl Tryz.underlying44) ?_
  clear E;clear a;intro a E
  refine wpList_nil ?_
  refine aC ?_
  refine nS E rfl ?_ ?_
  · intro hb
    cases b with
    | some _=>cases hb
    | none=>
      obtain rfl:=H.sl_none hm
      refine wp_seq ?_
      refine wp_region_lit ?_
      refine aQ E (wn rfl) rfl rfl (cM E rfl rfl) ?_
      clear E;clear a;intro a E
      refine wpList_nil ?_
      refine aC ?_
      refine wp_ret ?_
      refine aP ?_
      refine aY E rfl rfl ?_
      exact H.nilRow 223 aV
  · intro hb
    refine wp_skip ?_
    refine aC ?_
    refine wp_seq ?_
    refine wp_region_lit ?_
    refine fY (e:=223) (d:=aV) (cs:=[]) (xs:=[]) E H (wn rfl) rfl rfl (ps:=[]) (parts:=[]) rfl rfl (by kernel_rfl) rfl rfl (fun ok hr=>Rows.nil _ _ _) ?_
    clear E H;clear a;clear w;intro v2 w a H E
    refine aQ E (wn rfl) rfl rfl (bD E rfl rfl) ?_
    clear E;clear a;intro a E
    refine dV (i:=0) E H (wn rfl) rfl rfl rfl rfl rfl rfl (jA hm) Tryz.underlying44 Af rfl (by simpa using hl) rfl ?_
    clear E H;clear a;clear w;intro v3 w a H E
    refine aQ E (wn rfl) rfl rfl (cM E rfl rfl) ?_
    clear E;clear a;intro a E
    refine wpList_nil ?_
    refine aC ?_
    refine wp_ret ?_
    refine aY E rfl rfl ?_
    exact H

theorem Uv:CF Tryz.prog 169:=cfo Tryz.func169 (by kernel_rfl)
theorem Uw:CF Tryz.prog 235:=cfo Tryz.func235 (by kernel_rfl)
theorem Ls:CF Tryz.prog 171:=cfo Tryz.func171 (by kernel_rfl)
theorem Qu:(Tryz.prog.info? 223).bind (·.zero)=some (.agg #[.int .i64 0,.int .i64 0,.string ⟨#[]⟩,.int .i64 0]):=by kernel_rfl
theorem Hh:(Tryz.prog.info? 44).map (·.size)=some 1:=by kernel_rfl
theorem Ko:CF Tryz.prog 89:=cfo Tryz.func89 (by kernel_rfl)
theorem Qv:∀ (w:World) (q:Addr),(Instr.fieldAt 48 (.pointer (some q)) 0).run Tryz.prog w= .ok (.pointer (some (q.add 0))) w:=fun w q=>by kernel_rfl
abbrev U41:=Tryz.underlying41
theorem Yi:CF Tryz.prog 33:=cfo Tryz.func33 (by kernel_rfl)
theorem Qw:CF Tryz.prog 90:=cfo Tryz.func90 (by kernel_rfl)
theorem Lt:CF Tryz.prog 162:=cfo Tryz.func162 (by kernel_rfl)
theorem Ux:CF Tryz.prog 231:=cfo Tryz.func231 (by kernel_rfl)
theorem Da:CF Tryz.prog 167:=cfo Tryz.func167 (by kernel_rfl)
theorem Hi:(Tryz.prog.info? 35).map (fun i=>(i.zero,i.size,i.bytes))=some (some (.agg #[.int .i64 0,.int .i64 0,.string ⟨#[]⟩,.bool false]),4,40):=by kernel_rfl
theorem fM {w:World} {os:List Ob} {rs:List Rp} {v:Value} {xs:List aK} (H:Sep w os rs) (hm:rSl aX v xs ∈ rs) (hl:xs.length ≤ LIM) :
    Calls Tryz.prog 167 [v].toArray w (Ret fun v' w'=>Sep w' (Row 35 aX v' xs::os) rs):=by
  obtain ⟨b,c,rfl⟩:=H.slform hm
  refine enter Tryz.func167 rfl Tryz.ntmps167 rfl fun a E=>?_
  simp only [pG,Nat.reduceAdd] at E
  refine wp_seq ?_
  refine wp_region_lit ?_
  refine aQ E (wn rfl) rfl rfl (cM E rfl rfl) ?_
  clear E;clear a;intro a E
  refine wpList_nil ?_
  refine aC ?_
  refine wp_seq ?_
  refine wp_seq ?_
  refine wp_region_lit ?_
  refine aQ E (wn rfl) rfl rfl (bD E rfl rfl) ?_
  clear E;clear a;intro a E
  refine aQ E (wn rfl) rfl rfl (zQ E rfl rfl rfl Tryz.underlying70) ?_
  clear E;clear a;intro a E
  refine wpList_nil ?_
  refine aC ?_
  refine nS E rfl ?_ ?_
  · intro hb
    cases b with
    | some _=>cases hb
    | none=>
      obtain rfl:=H.sl_none hm
      refine wp_seq ?_
      refine wp_region_lit ?_
      refine aQ E (wn rfl) rfl rfl (cM E rfl rfl) ?_
      clear E;clear a;intro a E
      refine wpList_nil ?_
      refine aC ?_
      refine wp_ret ?_
      refine aP ?_
      refine aY E rfl rfl ?_
      exact H.nilRow 35 aX
  · intro hb
    refine wp_skip ?_
    refine aC ?_
    refine wp_seq ?_
    refine wp_region_lit ?_
    refine fY (e:=35) (d:=aX) (cs:=[]) (xs:=[]) E H (wn rfl) rfl rfl (ps:=[]) (parts:=[]) rfl rfl (by kernel_rfl) rfl rfl (fun ok hr=>Rows.nil _ _ _) ?_
    clear E H;clear a;clear w;intro v2 w a H E
    refine aQ E (wn rfl) rfl rfl (bD E rfl rfl) ?_
    clear E;clear a;intro a E
    refine dV (i:=0) E H (wn rfl) rfl rfl rfl rfl rfl rfl (jA hm) Tryz.underlying70 Hi rfl (by simpa using hl) rfl ?_
    clear E H;clear a;clear w;intro v3 w a H E
    refine aQ E (wn rfl) rfl rfl (cM E rfl rfl) ?_
    clear E;clear a;intro a E
    refine wpList_nil ?_
    refine aC ?_
    refine wp_ret ?_
    refine aY E rfl rfl ?_
    exact H

theorem Uy:CF Tryz.prog 168:=cfo Tryz.func168 (by kernel_rfl)
theorem Hj:(Tryz.prog.info? 70).map (·.size)=some 1:=by kernel_rfl
theorem Yj:CF Tryz.prog 32:=cfo Tryz.func32 (by kernel_rfl)
theorem Qx:CF Tryz.prog 88:=cfo Tryz.func88 (by kernel_rfl)
theorem Hk:CF Tryz.prog 165:=cfo Tryz.func165 (by kernel_rfl)
theorem Yk:CF Tryz.prog 25:=cfo Tryz.func25 (by kernel_rfl)
theorem Qy:CF Tryz.prog 65:=cfo Tryz.func65 (by kernel_rfl)
theorem Uz:CF Tryz.prog 117:=cfo Tryz.func117 (by kernel_rfl)
theorem Va:CF Tryz.prog 118:=cfo Tryz.func118 (by kernel_rfl)
theorem Kq:CF Tryz.prog 66:=cfo Tryz.func66 (by kernel_rfl)
theorem Hl:CF Tryz.prog 119:=cfo Tryz.func119 (by kernel_rfl)
theorem Ym:CF Tryz.prog 67:=cfo Tryz.func67 (by kernel_rfl)
abbrev U28:=Tryz.underlying28
theorem Qz:∀ (w:World) (q:Addr),(Instr.fieldAt 75 (.pointer (some q)) 2).run Tryz.prog w= .ok (.pointer (some (q.add 3))) w:=fun w q=>by kernel_rfl
abbrev U62:=Tryz.underlying62
theorem Yn:CF Tryz.prog 68:=cfo Tryz.func68 (by kernel_rfl)
theorem Ag:CF Tryz.prog 120:=cfo Tryz.func120 (by kernel_rfl)
theorem gQ:(Tryz.prog.info? 103).map (·.size)=some 3:=by kernel_rfl
abbrev j8:=Tryz.underlying103
theorem Vb:CF Tryz.prog 121:=cfo Tryz.func121 (by kernel_rfl)
theorem Nf:∀ (w:World) (q:Addr),(Instr.fieldAt 103 (.pointer (some q)) 0).run Tryz.prog w= .ok (.pointer (some (q.add 0))) w:=fun w q=>by kernel_rfl
theorem Ng:∀ (w:World) (q:Addr),(Instr.fieldAt 103 (.pointer (some q)) 1).run Tryz.prog w= .ok (.pointer (some (q.add 1))) w:=fun w q=>by kernel_rfl
theorem Rb:CF Tryz.prog 69:=cfo Tryz.func69 (by kernel_rfl)
theorem Lu:CF Tryz.prog 122:=cfo Tryz.func122 (by kernel_rfl)
theorem Vc:CF Tryz.prog 123:=cfo Tryz.func123 (by kernel_rfl)
theorem Jc:∀ (w:World) (q:Addr),(Instr.fieldAt 75 (.pointer (some q)) 1).run Tryz.prog w= .ok (.pointer (some (q.add 2))) w:=fun w q=>by kernel_rfl
theorem Vd:CF Tryz.prog 124:=cfo Tryz.func124 (by kernel_rfl)
theorem V4:CF Tryz.prog 76:=cfo Tryz.func76 (by kernel_rfl)
theorem Rc:CF Tryz.prog 70:=cfo Tryz.func70 (by kernel_rfl)
theorem Ah:∀ (w:World) (q:Addr),(Instr.fieldAt 75 (.pointer (some q)) 0).run Tryz.prog w= .ok (.pointer (some (q.add 0))) w:=fun w q=>by kernel_rfl
theorem Kr:CF Tryz.prog 72:=cfo Tryz.func72 (by kernel_rfl)
theorem jN:(Tryz.prog.info? 25).bind (·.zero)=some (.agg #[.slice none 0 0,.slice none 0 0]):=by kernel_rfl
theorem Ve:CF Tryz.prog 138:=cfo Tryz.func138 (by kernel_rfl)
theorem Rd:(Tryz.prog.info? 81).bind (·.zero)=some (.agg L3.toArray):=by kernel_rfl
theorem Vf:(Tryz.prog.info? 249).bind (·.zero)=some (.agg #[.nilFunc,.nilFunc,.nilFunc,.nilFunc,.nilFunc,.nilFunc,.nilFunc,.nilFunc,.nilFunc,.nilFunc,.nilFunc]):=by kernel_rfl
theorem Vg:(Tryz.prog.info? 249).map (·.size)=some 11:=by kernel_rfl
theorem zU:(Tryz.prog.info? 81).map (·.size)=some 5:=by kernel_rfl
theorem Re:CF Tryz.prog 39:=cfo Tryz.func39 (by kernel_rfl)
theorem Db:(Tryz.prog.info? 95).map (fun i=>(i.zero,i.size,i.bytes))=some (some (.agg #[.string ⟨#[]⟩,.string ⟨#[]⟩,.int .i64 0,.int .i64 0,.int .i64 0]),5,56):=by kernel_rfl
theorem nE {w:World} {os:List Ob} {rs:List Rp} {v:Value} {xs:List aE} (H:Sep w os rs) (hm:rSl aF v xs ∈ rs) (hl:xs.length ≤ LIM) :
    Calls Tryz.prog 39 [v].toArray w (Ret fun v' w'=>Sep w' (Row 95 aF v' xs::os) rs):=by
  obtain ⟨b,c,rfl⟩:=H.slform hm
  refine enter Tryz.func39 rfl Tryz.ntmps39 rfl fun a E=>?_
  simp only [pG,Nat.reduceAdd] at E
  refine wp_seq ?_
  refine wp_region_lit ?_
  refine aQ E (wn rfl) rfl rfl (cM E rfl rfl) ?_
  clear E;clear a;intro a E
  refine wpList_nil ?_
  refine aC ?_
  refine wp_seq ?_
  refine wp_seq ?_
  refine wp_region_lit ?_
  refine aQ E (wn rfl) rfl rfl (bD E rfl rfl) ?_
  clear E;clear a;intro a E
  refine aQ E (wn rfl) rfl rfl (zQ E rfl rfl rfl Tryz.underlying22) ?_
  clear E;clear a;intro a E
  refine wpList_nil ?_
  refine aC ?_
  refine nS E rfl ?_ ?_
  · intro hb
    cases b with
    | some _=>cases hb
    | none=>
      obtain rfl:=H.sl_none hm
      refine wp_seq ?_
      refine wp_region_lit ?_
      refine aQ E (wn rfl) rfl rfl (cM E rfl rfl) ?_
      clear E;clear a;intro a E
      refine wpList_nil ?_
      refine aC ?_
      refine wp_ret ?_
      refine aP ?_
      refine aY E rfl rfl ?_
      exact H.nilRow 95 aF
  · intro hb
    refine wp_skip ?_
    refine aC ?_
    refine wp_seq ?_
    refine wp_region_lit ?_
    refine fY (e:=95) (d:=aF) (cs:=[]) (xs:=[]) E H (wn rfl) rfl rfl (ps:=[]) (parts:=[]) rfl rfl (by kernel_rfl) rfl rfl (fun ok hr=>Rows.nil _ _ _) ?_
    clear E H;clear a;clear w;intro v2 w a H E
    refine aQ E (wn rfl) rfl rfl (bD E rfl rfl) ?_
    clear E;clear a;intro a E
    refine dV (i:=0) E H (wn rfl) rfl rfl rfl rfl rfl rfl (jA hm) Tryz.underlying22 Db rfl (by simpa using hl) rfl ?_
    clear E H;clear a;clear w;intro v3 w a H E
    refine aQ E (wn rfl) rfl rfl (cM E rfl rfl) ?_
    clear E;clear a;intro a E
    refine wpList_nil ?_
    refine aC ?_
    refine wp_ret ?_
    refine aY E rfl rfl ?_
    exact H

theorem Rf:CF Tryz.prog 40:=cfo Tryz.func40 (by kernel_rfl)
theorem Dc:(Tryz.prog.info? 77).map (fun i=>(i.zero,i.size,i.bytes))=some (some (.agg #[.string ⟨#[]⟩,.int .i64 0]),2,24):=by kernel_rfl
theorem nF {w:World} {os:List Ob} {rs:List Rp} {v:Value} {xs:List aI} (H:Sep w os rs) (hm:rSl aJ v xs ∈ rs) (hl:xs.length ≤ LIM) :
    Calls Tryz.prog 40 [v].toArray w (Ret fun v' w'=>Sep w' (Row 77 aJ v' xs::os) rs):=by
  obtain ⟨b,c,rfl⟩:=H.slform hm
  refine enter Tryz.func40 rfl Tryz.ntmps40 rfl fun a E=>?_
  simp only [pG,Nat.reduceAdd] at E
  refine wp_seq ?_
  refine wp_region_lit ?_
  refine aQ E (wn rfl) rfl rfl (cM E rfl rfl) ?_
  clear E;clear a;intro a E
  refine wpList_nil ?_
  refine aC ?_
  refine wp_seq ?_
  refine wp_seq ?_
  refine wp_region_lit ?_
  refine aQ E (wn rfl) rfl rfl (bD E rfl rfl) ?_
  clear E;clear a;intro a E
  refine aQ E (wn rfl) rfl rfl (zQ E rfl rfl rfl Tryz.underlying23) ?_
  clear E;clear a;intro a E
  refine wpList_nil ?_
  refine aC ?_
  refine nS E rfl ?_ ?_
  · intro hb
    cases b with
    | some _=>cases hb
    | none=>
      obtain rfl:=H.sl_none hm
      refine wp_seq ?_
      refine wp_region_lit ?_
      refine aQ E (wn rfl) rfl rfl (cM E rfl rfl) ?_
      clear E;clear a;intro a E
      refine wpList_nil ?_
      refine aC ?_
      refine wp_ret ?_
      refine aP ?_
      refine aY E rfl rfl ?_
      exact H.nilRow 77 aJ
  · intro hb
    refine wp_skip ?_
    refine aC ?_
    refine wp_seq ?_
    refine wp_region_lit ?_
    refine fY (e:=77) (d:=aJ) (cs:=[]) (xs:=[]) E H (wn rfl) rfl rfl (ps:=[]) (parts:=[]) rfl rfl (by kernel_rfl) rfl rfl (fun ok hr=>Rows.nil _ _ _) ?_
    clear E H;clear a;clear w;intro v2 w a H E
    refine aQ E (wn rfl) rfl rfl (bD E rfl rfl) ?_
    clear E;clear a;intro a E
    refine dV (i:=0) E H (wn rfl) rfl rfl rfl rfl rfl rfl (jA hm) Tryz.underlying23 Dc rfl (by simpa using hl) rfl ?_
    clear E H;clear a;clear w;intro v3 w a H E
    refine aQ E (wn rfl) rfl rfl (cM E rfl rfl) ?_
    clear E;clear a;intro a E
    refine wpList_nil ?_
    refine aC ?_
    refine wp_ret ?_
    refine aY E rfl rfl ?_
    exact H

abbrev B2:=Tryz.underlying249
theorem d9:(Tryz.prog.info? 246).map (·.size)=some 1:=by kernel_rfl
abbrev B3:=Tryz.underlying246
theorem Vh:CF Tryz.prog 202:=cfo Tryz.func202 (by kernel_rfl)
theorem Hm:CF Tryz.prog 266:=cfo Tryz.func266 (by kernel_rfl)
theorem Vi:(Tryz.prog.info? 107).bind (·.zero)=some (.nilFunc):=by kernel_rfl
theorem Vj:(Tryz.prog.info? 107).map (·.size)=some 1:=by kernel_rfl
abbrev Hn:=Tryz.underlying248
theorem Nh:∀ (w:World) (q:Addr),(Instr.fieldAt 251 (.pointer (some q)) 0).run Tryz.prog w= .ok (.pointer (some (q.add 0))) w:=fun w q=>by kernel_rfl
theorem Vk:CF Tryz.prog 268:=cfo Tryz.func268 (by kernel_rfl)
theorem Lv:CF Tryz.prog 269:=cfo Tryz.func269 (by kernel_rfl)
abbrev Yo:=Tryz.underlying107
theorem Hp:CF Tryz.prog 317:=cfo Tryz.func317 (by kernel_rfl)
theorem Ni:∀ (w:World) (q:Addr),(Instr.fieldAt 251 (.pointer (some q)) 1).run Tryz.prog w= .ok (.pointer (some (q.add 2))) w:=fun w q=>by kernel_rfl
theorem Rg:∀ (w:World) (q:Addr),(Instr.fieldAt 81 (.pointer (some q)) 4).run Tryz.prog w= .ok (.pointer (some (q.add 4))) w:=fun w q=>by kernel_rfl
theorem Hq:CF Tryz.prog 261:=cfo Tryz.func261 (by kernel_rfl)
theorem Rh:(Tryz.prog.info? 33).map (·.size)=some 1:=by kernel_rfl
theorem Ks:(Tryz.prog.info? 95).bind (·.zero)=some (.agg Tk.toArray):=by kernel_rfl
theorem Vl:(Tryz.prog.info? 95).bind (·.zero)=some (.agg #[.string ⟨#[]⟩,.string ⟨#[]⟩,.int .i64 0,.int .i64 0,.int .i64 0]):=by kernel_rfl
theorem Bg:(Tryz.prog.info? 22).map (·.size)=some 1:=by kernel_rfl
theorem Vm:CF Tryz.prog 201:=cfo Tryz.func201 (by kernel_rfl)
theorem Vn:CF Tryz.prog 200:=cfo Tryz.func200 (by kernel_rfl)
theorem P1:CF Tryz.prog 256:=cfo Tryz.func256 (by kernel_rfl)
theorem Hr:CF Tryz.prog 262:=cfo Tryz.func262 (by kernel_rfl)
theorem Vo:CF Tryz.prog 313:=cfo Tryz.func313 (by kernel_rfl)
theorem Lw:CF Tryz.prog 314:=cfo Tryz.func314 (by kernel_rfl)
theorem Er:CF Tryz.prog 84:=cfo Tryz.func84 (by kernel_rfl)
theorem Vp:CF Tryz.prog 158:=cfo Tryz.func158 (by kernel_rfl)
theorem Jd:∀ (w:World) (s t:ByteArray),(callFunc 217 #[.string s,.string t]).run Tryz.prog w= .ok (.value (.int .i64 (Extern.BytealgCompare.cmp s t))) w:=fun w s t=>Dx Tryz.func217 (by kernel_rfl) (by kernel_rfl) (by kernel_rfl) (e:=Extern.BytealgCompare.compare) (by kernel_rfl) (Jy s t w)
theorem G3:CF Tryz.prog 257:=cfo Tryz.func257 (by kernel_rfl)
theorem Vq:CF Tryz.prog 199:=cfo Tryz.func199 (by kernel_rfl)
theorem Ai:∀ (w:World) (q:Addr),(Op.equal 294 (.pointer (some q)) (.pointer none)).run Tryz.prog w= .ok false w:=fun w q=>by kernel_rfl
theorem Aj:∀ w:World,(Op.equal 294 (.pointer none) (.pointer none)).run Tryz.prog w= .ok true w:=fun w=>by kernel_rfl
theorem Ri:∀ (w:World) (q:Addr),(Instr.fieldAt 81 (.pointer (some q)) 2).run Tryz.prog w= .ok (.pointer (some (q.add 2))) w:=fun w q=>by kernel_rfl
theorem Rj:∀ (w:World) (q:Addr),(Instr.fieldAt 81 (.pointer (some q)) 3).run Tryz.prog w= .ok (.pointer (some (q.add 3))) w:=fun w q=>by kernel_rfl
theorem Vr:CF Tryz.prog 198:=cfo Tryz.func198 (by kernel_rfl)
theorem Vs:CF Tryz.prog 197:=cfo Tryz.func197 (by kernel_rfl)
theorem Vt:CF Tryz.prog 196:=cfo Tryz.func196 (by kernel_rfl)
theorem Hs:CF Tryz.prog 258:=cfo Tryz.func258 (by kernel_rfl)
theorem Ht:CF Tryz.prog 308:=cfo Tryz.func308 (by kernel_rfl)
theorem Lx:CF Tryz.prog 309:=cfo Tryz.func309 (by kernel_rfl)
theorem Hu:CF Tryz.prog 310:=cfo Tryz.func310 (by kernel_rfl)
theorem G4:(Tryz.prog.info? 23).map (·.size)=some 1:=by kernel_rfl
theorem Vu:CF Tryz.prog 267:=cfo Tryz.func267 (by kernel_rfl)
theorem Hv:CF Tryz.prog 311:=cfo Tryz.func311 (by kernel_rfl)
theorem Vv:CF Tryz.prog 195:=cfo Tryz.func195 (by kernel_rfl)
theorem Vw:CF Tryz.prog 265:=cfo Tryz.func265 (by kernel_rfl)
theorem Vx:CF Tryz.prog 194:=cfo Tryz.func194 (by kernel_rfl)
theorem Vy:CF Tryz.prog 259:=cfo Tryz.func259 (by kernel_rfl)
theorem Vz:CF Tryz.prog 260:=cfo Tryz.func260 (by kernel_rfl)
theorem Wb:CF Tryz.prog 312:=cfo Tryz.func312 (by kernel_rfl)
theorem Ly:CF Tryz.prog 185:=cfo Tryz.func185 (by kernel_rfl)
theorem Wc:CF Tryz.prog 263:=cfo Tryz.func263 (by kernel_rfl)
theorem Wd:CF Tryz.prog 264:=cfo Tryz.func264 (by kernel_rfl)
theorem Rk:∀ (w:World) (q:Addr),(Instr.fieldAt 81 (.pointer (some q)) 1).run Tryz.prog w= .ok (.pointer (some (q.add 1))) w:=fun w q=>by kernel_rfl
theorem We:CF Tryz.prog 193:=cfo Tryz.func193 (by kernel_rfl)
theorem Rl:∀ (w:World) (q:Addr),(Instr.fieldAt 81 (.pointer (some q)) 0).run Tryz.prog w= .ok (.pointer (some (q.add 0))) w:=fun w q=>by kernel_rfl
abbrev U81:=Tryz.underlying81
abbrev U40:=Tryz.underlying40
theorem Wf:(Tryz.prog.info? 81).map (fun i=>(i.zero,i.size,i.bytes))=some (some (.agg #[.int .i64 0,.string ⟨#[]⟩,.string ⟨#[]⟩,.int .i64 0,.slice none 0 0]),5,72):=by kernel_rfl
theorem Wg:CF Tryz.prog 125:=cfo Tryz.func125 (by kernel_rfl)
theorem Dd:CF Tryz.prog 184:=cfo Tryz.func184 (by kernel_rfl)
theorem Wh:CF Tryz.prog 252:=cfo Tryz.func252 (by kernel_rfl)
theorem Wi:CF Tryz.prog 295:=cfo Tryz.func295 (by kernel_rfl)
theorem Lz:CF Tryz.prog 296:=cfo Tryz.func296 (by kernel_rfl)
theorem Rm:∀ (w:World) (q:Addr),(Instr.fieldAt 35 (.pointer (some q)) 3).run Tryz.prog w= .ok (.pointer (some (q.add 3))) w:=fun w q=>by kernel_rfl
theorem Wj:CF Tryz.prog 297:=cfo Tryz.func297 (by kernel_rfl)
theorem Wk:(Tryz.prog.info? 35).bind (·.zero)=some (.agg #[.int .i64 0,.int .i64 0,.string ⟨#[]⟩,.bool false]):=by kernel_rfl
theorem Yp:CF Tryz.prog 31:=cfo Tryz.func31 (by kernel_rfl)
theorem Yq:CF Tryz.prog 87:=cfo Tryz.func87 (by kernel_rfl)
theorem Hw:CF Tryz.prog 151:=cfo Tryz.func151 (by kernel_rfl)
theorem Ma:CF Tryz.prog 152:=cfo Tryz.func152 (by kernel_rfl)
theorem Mb:CF Tryz.prog 204:=cfo Tryz.func204 (by kernel_rfl)
theorem Hx:CF Tryz.prog 143:=cfo Tryz.func143 (by kernel_rfl)
theorem Rn:CF Tryz.prog 45:=cfo Tryz.func45 (by kernel_rfl)
theorem Wl:(Tryz.prog.info? 31).map (fun i=>(i.zero,i.size,i.bytes))=some (some (.agg #[.string ⟨#[]⟩,.int .i64 0,.int .i64 0]),3,32):=by kernel_rfl
theorem mC {w:World} {os:List Ob} {rs:List Rp} {v:Value} {xs:List aH} (H:Sep w os rs) (hm:rSl aS v xs ∈ rs) (hl:xs.length ≤ LIM) :
    Calls Tryz.prog 45 [v].toArray w (Ret fun v' w'=>Sep w' (Row 31 aS v' xs::os) rs):=by
  obtain ⟨b,c,rfl⟩:=H.slform hm
  refine enter Tryz.func45 rfl Tryz.ntmps45 rfl fun a E=>?_
  simp only [pG,Nat.reduceAdd] at E
  refine wp_seq ?_
  refine wp_region_lit ?_
  refine aQ E (wn rfl) rfl rfl (cM E rfl rfl) ?_
  clear E;clear a;intro a E
  refine wpList_nil ?_
  refine aC ?_
  refine wp_seq ?_
  refine wp_seq ?_
  refine wp_region_lit ?_
  refine aQ E (wn rfl) rfl rfl (bD E rfl rfl) ?_
  clear E;clear a;intro a E
  refine aQ E (wn rfl) rfl rfl (zQ E rfl rfl rfl Tryz.underlying32) ?_
  clear E;clear a;intro a E
  refine wpList_nil ?_
  refine aC ?_
  refine nS E rfl ?_ ?_
  · intro hb
    cases b with
    | some _=>cases hb
    | none=>
      obtain rfl:=H.sl_none hm
      refine wp_seq ?_
      refine wp_region_lit ?_
      refine aQ E (wn rfl) rfl rfl (cM E rfl rfl) ?_
      clear E;clear a;intro a E
      refine wpList_nil ?_
      refine aC ?_
      refine wp_ret ?_
      refine aP ?_
      refine aY E rfl rfl ?_
      exact H.nilRow 31 aS
  · intro hb
    refine wp_skip ?_
    refine aC ?_
    refine wp_seq ?_
    refine wp_region_lit ?_
    refine fY (e:=31) (d:=aS) (cs:=[]) (xs:=[]) E H (wn rfl) rfl rfl (ps:=[]) (parts:=[]) rfl rfl (by kernel_rfl) rfl rfl (fun ok hr=>Rows.nil _ _ _) ?_
    clear E H;clear a;clear w;intro v2 w a H E
    refine aQ E (wn rfl) rfl rfl (bD E rfl rfl) ?_
    clear E;clear a;intro a E
    refine dV (i:=0) E H (wn rfl) rfl rfl rfl rfl rfl rfl (jA hm) Tryz.underlying32 Wl rfl (by simpa using hl) rfl ?_
    clear E H;clear a;clear w;intro v3 w a H E
    refine aQ E (wn rfl) rfl rfl (cM E rfl rfl) ?_
    clear E;clear a;intro a E
    refine wpList_nil ?_
    refine aC ?_
    refine wp_ret ?_
    refine aY E rfl rfl ?_
    exact H

theorem Mc:CF Tryz.prog 154:=cfo Tryz.func154 (by kernel_rfl)
theorem j9:CF Tryz.prog 78:=cfo Tryz.func78 (by kernel_rfl)
theorem Wm:(Tryz.prog.info? 109).bind (·.zero)=some (.nilFunc):=by kernel_rfl
theorem Wn:(Tryz.prog.info? 109).map (·.size)=some 1:=by kernel_rfl
theorem Wo:CF Tryz.prog 146:=cfo Tryz.func146 (by kernel_rfl)
theorem Wp:CF Tryz.prog 147:=cfo Tryz.func147 (by kernel_rfl)
abbrev Ro:=Tryz.underlying109
theorem Md:CF Tryz.prog 145:=cfo Tryz.func145 (by kernel_rfl)
theorem Wq:CF Tryz.prog 149:=cfo Tryz.func149 (by kernel_rfl)
theorem Yr:(Tryz.prog.info? 77).bind (·.zero)=some (.agg #[.string (ByteArray.mk #[]),.int .i64 0]):=by kernel_rfl
theorem Wr:CF Tryz.prog 150:=cfo Tryz.func150 (by kernel_rfl)
theorem Kt:(Tryz.prog.info? 32).map (·.size)=some 1:=by kernel_rfl
theorem Ys:CF Tryz.prog 30:=cfo Tryz.func30 (by kernel_rfl)
theorem Ku:CF Tryz.prog 74:=cfo Tryz.func74 (by kernel_rfl)
theorem Ws:CF Tryz.prog 141:=cfo Tryz.func141 (by kernel_rfl)
theorem Wu:CF Tryz.prog 142:=cfo Tryz.func142 (by kernel_rfl)
theorem Yt:CF Tryz.prog 79:=cfo Tryz.func79 (by kernel_rfl)
theorem Yu:CF Tryz.prog 80:=cfo Tryz.func80 (by kernel_rfl)
theorem Me:CF Tryz.prog 153:=cfo Tryz.func153 (by kernel_rfl)
theorem Rq:CF Tryz.prog 77:=cfo Tryz.func77 (by kernel_rfl)
theorem Hy:CF Tryz.prog 127:=cfo Tryz.func127 (by kernel_rfl)
theorem Wv:CF Tryz.prog 144:=cfo Tryz.func144 (by kernel_rfl)
theorem Yv:CF Tryz.prog 81:=cfo Tryz.func81 (by kernel_rfl)
theorem Ww:CF Tryz.prog 155:=cfo Tryz.func155 (by kernel_rfl)
theorem Yw:CF Tryz.prog 82:=cfo Tryz.func82 (by kernel_rfl)
theorem Yx:CF Tryz.prog 85:=cfo Tryz.func85 (by kernel_rfl)
theorem Yy:CF Tryz.prog 29:=cfo Tryz.func29 (by kernel_rfl)
theorem Yz:CF Tryz.prog 75:=cfo Tryz.func75 (by kernel_rfl)
theorem Za:CF Tryz.prog 28:=cfo Tryz.func28 (by kernel_rfl)
theorem Je:∀ (w:World) (q:Addr),(Instr.fieldAt 75 (.pointer (some q)) 6).run Tryz.prog w= .ok (.pointer (some (q.add 8))) w:=fun w q=>by kernel_rfl
theorem Rr:∀ (w:World) (q:Addr),(Instr.fieldAt 37 (.pointer (some q)) 4).run Tryz.prog w= .ok (.pointer (some (q.add 4))) w:=fun w q=>by kernel_rfl
theorem Zb:CF Tryz.prog 27:=cfo Tryz.func27 (by kernel_rfl)
theorem Es:∀ (w:World) (q:Addr),(Instr.fieldAt 75 (.pointer (some q)) 5).run Tryz.prog w= .ok (.pointer (some (q.add 7))) w:=fun w q=>by kernel_rfl
abbrev U69:=Tryz.underlying69
theorem Ak:(Tryz.prog.info? 128).bind (·.zero)=some (.agg [.bool false,.slice none 0 0,.int .i64 0,.int .i64 0,.bool false,.int .i64 0,.slice none 0 0,.slice none 0 0,.slice none 0 0,.slice none 0 0,.slice none 0 0,.slice none 0 0].toArray):=by kernel_rfl
theorem De:∀ (w:World) (ok:Nat→Prop),cQ.R w ok A8 [.bool false,.slice none 0 0,.int .i64 0,.int .i64 0,.bool false,.int .i64 0,.slice none 0 0,.slice none 0 0,.slice none 0 0,.slice none 0 0,.slice none 0 0,.slice none 0 0]:=fun w ok=>zT (Sl.nil _ _ _) (Sl.nil _ _ _) (Sl.nil _ _ _) (Sl.nil _ _ _) (Sl.nil _ _ _) (Sl.nil _ _ _) (Sl.nil _ _ _)
theorem Df:(Tryz.prog.info? 128).bind (·.zero)=some (.agg Sy.toArray):=by kernel_rfl
theorem Dg:(Tryz.prog.info? 128).map (·.size)=some 12:=by kernel_rfl
theorem Nj:∀ (w:World) (q:Addr),(Instr.fieldAt 128 (.pointer (some q)) 0).run Tryz.prog w= .ok (.pointer (some (q.add 0))) w:=fun w q=>by kernel_rfl
theorem Zc:CF Tryz.prog 73:=cfo Tryz.func73 (by kernel_rfl)
theorem Kv:CF Tryz.prog 44:=cfo Tryz.func44 (by kernel_rfl)
theorem Rs:(Tryz.prog.info? 103).map (fun i=>(i.zero,i.size,i.bytes))=some (some (.agg #[.string ⟨#[]⟩,.int .i64 0,.int .i64 0]),3,32):=by kernel_rfl
theorem iS {w:World} {os:List Ob} {rs:List Rp} {v:Value} {xs:List aN} (H:Sep w os rs) (hm:rSl bG v xs ∈ rs) (hl:xs.length ≤ LIM) :
    Calls Tryz.prog 44 [v].toArray w (Ret fun v' w'=>Sep w' (Row 103 bG v' xs::os) rs):=by
  obtain ⟨b,c,rfl⟩:=H.slform hm
  refine enter Tryz.func44 rfl Tryz.ntmps44 rfl fun a E=>?_
  simp only [pG,Nat.reduceAdd] at E
  refine wp_seq ?_
  refine wp_region_lit ?_
  refine aQ E (wn rfl) rfl rfl (cM E rfl rfl) ?_
  clear E;clear a;intro a E
  refine wpList_nil ?_
  refine aC ?_
  refine wp_seq ?_
  refine wp_seq ?_
  refine wp_region_lit ?_
  refine aQ E (wn rfl) rfl rfl (bD E rfl rfl) ?_
  clear E;clear a;intro a E
  refine aQ E (wn rfl) rfl rfl (zQ E rfl rfl rfl Tryz.underlying62) ?_
  clear E;clear a;intro a E
  refine wpList_nil ?_
  refine aC ?_
  refine nS E rfl ?_ ?_
  · intro hb
    cases b with
    | some _=>cases hb
    | none=>
      obtain rfl:=H.sl_none hm
      refine wp_seq ?_
      refine wp_region_lit ?_
      refine aQ E (wn rfl) rfl rfl (cM E rfl rfl) ?_
      clear E;clear a;intro a E
      refine wpList_nil ?_
      refine aC ?_
      refine wp_ret ?_
      refine aP ?_
      refine aY E rfl rfl ?_
      exact H.nilRow 103 bG
  · intro hb
    refine wp_skip ?_
    refine aC ?_
    refine wp_seq ?_
    refine wp_region_lit ?_
    refine fY (e:=103) (d:=bG) (cs:=[]) (xs:=[]) E H (wn rfl) rfl rfl (ps:=[]) (parts:=[]) rfl rfl (by kernel_rfl) rfl rfl (fun ok hr=>Rows.nil _ _ _) ?_
    clear E H;clear a;clear w;intro v2 w a H E
    refine aQ E (wn rfl) rfl rfl (bD E rfl rfl) ?_
    clear E;clear a;intro a E
    refine dV (i:=0) E H (wn rfl) rfl rfl rfl rfl rfl rfl (jA hm) Tryz.underlying62 Rs rfl (by simpa using hl) rfl ?_
    clear E H;clear a;clear w;intro v3 w a H E
    refine aQ E (wn rfl) rfl rfl (cM E rfl rfl) ?_
    clear E;clear a;intro a E
    refine wpList_nil ?_
    refine aC ?_
    refine wp_ret ?_
    refine aY E rfl rfl ?_
    exact H

theorem Wx:CF Tryz.prog 139:=cfo Tryz.func139 (by kernel_rfl)
theorem Mf:CF Tryz.prog 140:=cfo Tryz.func140 (by kernel_rfl)
theorem Hz:(Tryz.prog.info? 103).bind (·.zero)=some (.agg Tl.toArray):=by kernel_rfl
theorem Rt:(Tryz.prog.info? 103).bind (·.zero)=some (.agg #[.string ⟨#[]⟩,.int .i64 0,.int .i64 0]):=by kernel_rfl
theorem Ru:(Tryz.prog.info? 62).map (·.size)=some 1:=by kernel_rfl
theorem Nk:∀ (w:World) (q:Addr),(Instr.fieldAt 128 (.pointer (some q)) 2).run Tryz.prog w= .ok (.pointer (some (q.add 2))) w:=fun w q=>by kernel_rfl
theorem Rv:∀ (w:World) (q:Addr),(Instr.fieldAt 48 (.pointer (some q)) 2).run Tryz.prog w= .ok (.pointer (some (q.add 2))) w:=fun w q=>by kernel_rfl
theorem Nl:∀ (w:World) (q:Addr),(Instr.fieldAt 128 (.pointer (some q)) 1).run Tryz.prog w= .ok (.pointer (some (q.add 1))) w:=fun w q=>by kernel_rfl
theorem Zd:CF Tryz.prog 26:=cfo Tryz.func26 (by kernel_rfl)
theorem Ze:CF Tryz.prog 71:=cfo Tryz.func71 (by kernel_rfl)
theorem Wy:CF Tryz.prog 126:=cfo Tryz.func126 (by kernel_rfl)
theorem Wz:CF Tryz.prog 128:=cfo Tryz.func128 (by kernel_rfl)
theorem Nm:∀ (w:World) (q:Addr),(Instr.fieldAt 103 (.pointer (some q)) 2).run Tryz.prog w= .ok (.pointer (some (q.add 2))) w:=fun w q=>by kernel_rfl
theorem Xa:CF Tryz.prog 129:=cfo Tryz.func129 (by kernel_rfl)
theorem Zf:(Tryz.prog.info? 2).bind (·.zero)=some (.int .i64 0):=by kernel_rfl
abbrev Rw:=Tryz.underlying237
theorem Dh:CF Tryz.prog 130:=cfo Tryz.func130 (by kernel_rfl)
theorem Xb:CF Tryz.prog 131:=cfo Tryz.func131 (by kernel_rfl)
theorem Xc:CF Tryz.prog 186:=cfo Tryz.func186 (by kernel_rfl)
theorem Xd:CF Tryz.prog 132:=cfo Tryz.func132 (by kernel_rfl)
abbrev Rx:=Tryz.underlying183
theorem Xe:CF Tryz.prog 134:=cfo Tryz.func134 (by kernel_rfl)
theorem Xf:CF Tryz.prog 133:=cfo Tryz.func133 (by kernel_rfl)
theorem Xg:CF Tryz.prog 135:=cfo Tryz.func135 (by kernel_rfl)
theorem Mg:CF Tryz.prog 136:=cfo Tryz.func136 (by kernel_rfl)
theorem Xh:CF Tryz.prog 137:=cfo Tryz.func137 (by kernel_rfl)
theorem Ry:∀ (w:World) (q:Addr),(Instr.fieldAt 48 (.pointer (some q)) 4).run Tryz.prog w= .ok (.pointer (some (q.add 4))) w:=fun w q=>by kernel_rfl
theorem Rz:CF Tryz.prog 13:=cfo Tryz.func13 (by kernel_rfl)
theorem Sa:∀ (w:World) (q:Addr),(Instr.fieldAt 48 (.pointer (some q)) 3).run Tryz.prog w= .ok (.pointer (some (q.add 3))) w:=fun w q=>by kernel_rfl
theorem Sb:∀ (w:World) (q:Addr),(Instr.fieldAt 48 (.pointer (some q)) 5).run Tryz.prog w= .ok (.pointer (some (q.add 5))) w:=fun w q=>by kernel_rfl
theorem Zg:CF Tryz.prog 19:=cfo Tryz.func19 (by kernel_rfl)
theorem Zh:CF Tryz.prog 17:=cfo Tryz.func17 (by kernel_rfl)
abbrev U54:=Tryz.underlying54
abbrev U55:=Tryz.underlying55
theorem sz5:(Tryz.prog.info? 5).map (·.size)=some 1:=by kernel_rfl
abbrev U5:=Tryz.underlying5
theorem Sc:∀ (w:World) (q:Addr),(Instr.fieldAt 48 (.pointer (some q)) 1).run Tryz.prog w= .ok (.pointer (some (q.add 1))) w:=fun w q=>by kernel_rfl
def tb:Tb:=⟨[(25,0,0),(25,1,1),(31,0,0),(31,1,1),(31,2,2),(35,0,0),(35,1,1),(35,2,2),(35,3,3),(37,0,0),(37,1,1),(37,2,2),(37,3,3),(37,4,4),(37,5,5),(37,6,6),(37,7,7),(37,8,8),(37,9,9),(37,10,11),(37,11,12),(48,0,0),(48,1,1),(48,2,2),(48,3,3),(48,4,4),(48,5,5),(60,0,0),(60,1,1),(60,2,2),(60,3,3),(60,4,4),(60,5,5),(73,0,0),(73,1,1),(75,0,0),(75,1,2),(75,2,3),(75,3,4),(75,4,6),(75,5,7),(75,6,8),(77,0,0),(77,1,1),(81,0,0),(81,1,1),(81,2,2),(81,3,3),(81,4,4),(85,0,0),(85,1,1),(85,2,2),(85,3,3),(85,4,4),(85,5,5),(85,6,6),(87,0,0),(87,1,1),(95,0,0),(95,1,1),(95,2,2),(95,3,3),(95,4,4),(103,0,0),(103,1,1),(103,2,2),(128,0,0),(128,1,1),(128,2,2),(215,0,0),(215,1,1),(215,2,2),(223,0,0),(223,1,1),(223,2,2),(223,3,3),(251,0,0),(251,1,2)],[(3,5,.u8),(3,208,.u64),(5,2,.i64),(21,5,.u8),(208,3,.i64)],[9]⟩
theorem Ia:Gs Tryz.prog tb:=⟨⟨Pb,Pk,Pq,Pr,Ps,Ad,Em,Qq,Rm,Ql,L6,Ac,Qn,Rr,Iz,Ek,Qo,Qm,Qr,Mx,O9,Qv,Sc,Rv,Sa,Ry,Sb,Pu,Pv,Pw,Py,Px,Pz,Ja,Jb,Ah,Jc,Qz,En,L7,Es,Je,Pm,Pn,Rl,Rk,Ri,Rj,Rg,Qj,Qk,Qi,Qb,Qe,Qc,Qd,Qf,Qg,Pe,Pf,Pg,Pd,Ph,Nf,Ng,Nm,Nj,Nl,Nk,My,Mz,Ge,Na,Nb,Nc,Nd,Nh,Ni,trivial⟩,⟨fun _ _ _=>by kernel_rfl,fun _ _ _=>by kernel_rfl,fun _ _ _=>by kernel_rfl,fun _ _ _=>by kernel_rfl,fun _ _ _=>by kernel_rfl,trivial⟩,⟨U9,trivial⟩⟩
theorem pr {ops:Array Oper} {Q:Exit→Act→World→Prop} {w:World} {n:Nat} (k:Nat) {env env':List (Nat×Value)} {l l':List Oper} {a:Act} (E:Env n a env) (h:S6 tb [] ops n k env l=some (env',l')) (kont:∀ a',Env n a' env'→wpList Tryz.prog ops Q l' a' w):wpList Tryz.prog ops Q l a w:=X2 Ia k E (kn0 _) h kont
theorem pk {ops:Array Oper} {Q:Exit→Act→World→Prop} {w:World} {n:Nat} {kn:List (Nat×Bool)} (k:Nat) {env env':List (Nat×Value)} {l l':List Oper} {a:Act} (E:Env n a env) (K:Kn env kn) (h:S6 tb kn ops n k env l=some (env',l')) (kont:∀ a',Env n a' env'→wpList Tryz.prog ops Q l' a' w):wpList Tryz.prog ops Q l a w:=X2 Ia k E K h kont
theorem fn {ops:Array Oper} {Q:Exit→Act→World→Prop} {w:World} {n:Nat} {I:World→Prop} (k:Nat) {env env':List (Nat×Value)} {l l':List (Nat×Nat)} {a:Act} (E:Env n a env) (h:Ay tb [] ops n k env l=some (env',l')) (kont:∀ a',Env n a' env'→kK Tryz.prog I ops Q l' a' w):kK Tryz.prog I ops Q l a w:=Cu Ia k E (kn0 _) h kont
theorem fk {ops:Array Oper} {Q:Exit→Act→World→Prop} {w:World} {n:Nat} {kn:List (Nat×Bool)} {I:World→Prop} (k:Nat) {env env':List (Nat×Value)} {l l':List (Nat×Nat)} {a:Act} (E:Env n a env) (K:Kn env kn) (h:Ay tb kn ops n k env l=some (env',l')) (kont:∀ a',Env n a' env'→kK Tryz.prog I ops Q l' a' w):kK Tryz.prog I ops Q l a w:=Cu Ia k E K h kont
theorem dw {ops:Array Oper} {Q:Exit→Act→World→Prop} {w:World} {a:Act} {os:List Ob} {rs:List Rp} {id:Nat} (ord:List (Nat×Nat)) (is js:List Nat) (H:Sep w os rs) (ho:W6 ops ord=true) (hQ:∀ c a w,Q (.panic c) a w→False) (k:∀ w W0,dP (pkl os is) (pkl rs js) W0→Sep w os rs→kK Tryz.prog (dP (pkl os is) (pkl rs js)) ops Q ord a w):(Code.region id ops true).wp Tryz.prog Q a w:=Tj kG ord is js H ho hQ k
theorem dwc {ops:Array Oper} {Q:Exit→Act→World→Prop} {w:World} {a:Act} {os:List Ob} {rs:List Rp} {id:Nat} (ord:List (Nat×Nat)) (is js:List Nat) (H:Sep w os rs) (ho:O8 ops ord=true) (hQ:∀ c a w,Q (.panic c) a w→False) (k:∀ w W0,dP (pkl os is) (pkl rs js) W0→Sep w os rs→kK Tryz.prog (dP (pkl os is) (pkl rs js)) ops Q ord a w):(Code.region id ops true).wp Tryz.prog Q a w:=Oz kG ord is js H ho hQ k
end Go.Cb
