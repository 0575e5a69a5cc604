/- The types of the program and the small facts that the walks use. -/
import Derived.Test.YtlgajjcbnimjkaaGreatDoorAsw2
import Derived.Test.YtlgajjcbnimjkaaGreatDoorProg
set_option linter.unusedVariables false
set_option linter.unusedSimpArgs false
namespace Go.Cb
open Go.Proofs Go.RowKit
structure aF where
  Path:ByteArray
  Data:ByteArray
  Version:Int
  Turn:Int
  Owner:Int
  deriving DecidableEq,Inhabited
def aG:Kd aF:=rZ (kP kS (kP kS (kP (kI .i64) (kP (kI .i64) (kI .i64))))) fun x=>(x.Path,(x.Data,(x.Version,(x.Turn,x.Owner))))
theorem A3{w:World}{ok:Nat→Prop}{x:aF}{cs:List Value}(h:aG.R w ok x cs):cs= [.string x.Path,.string x.Data,.int .i64 x.Version,.int .i64 x.Turn,.int .i64 x.Owner]:=by
  obtain ⟨c0,d0,rfl,h0,c1,d1,rfl,h1,c2,d2,rfl,h2,c3,d3,rfl,h3,h4⟩:=h
  have e0:c0= [.string x.Path]:=h0
  subst e0
  have e1:c1= [.string x.Data]:=h1
  subst e1
  have e2:c2= [.int .i64 x.Version]:=h2
  subst e2
  have e3:c3= [.int .i64 x.Turn]:=h3
  subst e3
  have e4:d3= [.int .i64 x.Owner]:=h4
  subst e4
  rfl
theorem xB{w:World}{ok:Nat→Prop}{x:aF}:aG.R w ok x [.string x.Path,.string x.Data,.int .i64 x.Version,.int .i64 x.Turn,.int .i64 x.Owner]:=⟨[.string x.Path],_,rfl,rfl,⟨[.string x.Data],_,rfl,rfl,⟨[.int .i64 x.Version],_,rfl,rfl,⟨[.int .i64 x.Turn],_,rfl,rfl,rfl⟩⟩⟩⟩
abbrev kJ (x:aF):List Value:=[.string x.Path,.string x.Data,.int .i64 x.Version,.int .i64 x.Turn,.int .i64 x.Owner]
abbrev GA:List Value:=[.string ⟨#[]⟩,.string ⟨#[]⟩,.int .i64 0,.int .i64 0,.int .i64 0]
def cQ:fX aG:=⟨fun x=>[.string x.Path,.string x.Data,.int .i64 x.Version,.int .i64 x.Turn,.int .i64 x.Owner],A3,xB⟩
structure aI where
  Dir:ByteArray
  Next:Int
  deriving DecidableEq,Inhabited
def aK:Kd aI:=rZ (kP kS (kI .i64)) fun x=>(x.Dir,x.Next)
theorem A4{w:World}{ok:Nat→Prop}{x:aI}{cs:List Value}(h:aK.R w ok x cs):cs= [.string x.Dir,.int .i64 x.Next]:=by
  obtain ⟨c0,d0,rfl,h0,h1⟩:=h
  have e0:c0= [.string x.Dir]:=h0
  subst e0
  have e1:d0= [.int .i64 x.Next]:=h1
  subst e1
  rfl
theorem tV{w:World}{ok:Nat→Prop}{x:aI}:aK.R w ok x [.string x.Dir,.int .i64 x.Next]:=⟨[.string x.Dir],_,rfl,rfl,rfl⟩
def eD:fX aK:=⟨fun x=>[.string x.Dir,.int .i64 x.Next],A4,tV⟩
structure aM where
  Dir:ByteArray
  Txn:Int
  Age:Int
  deriving DecidableEq,Inhabited
def bG:Kd aM:=rZ (kP kS (kP (kI .i64) (kI .i64))) fun x=>(x.Dir,(x.Txn,x.Age))
theorem Fm{w:World}{ok:Nat→Prop}{x:aM}{cs:List Value}(h:bG.R w ok x cs):cs= [.string x.Dir,.int .i64 x.Txn,.int .i64 x.Age]:=by
  obtain ⟨c0,d0,rfl,h0,c1,d1,rfl,h1,h2⟩:=h
  have e0:c0= [.string x.Dir]:=h0
  subst e0
  have e1:c1= [.int .i64 x.Txn]:=h1
  subst e1
  have e2:d1= [.int .i64 x.Age]:=h2
  subst e2
  rfl
theorem W5{w:World}{ok:Nat→Prop}{x:aM}:bG.R w ok x [.string x.Dir,.int .i64 x.Txn,.int .i64 x.Age]:=⟨[.string x.Dir],_,rfl,rfl,⟨[.int .i64 x.Txn],_,rfl,rfl,rfl⟩⟩
abbrev qF (x:aM):List Value:=[.string x.Dir,.int .i64 x.Txn,.int .i64 x.Age]
abbrev GB:List Value:=[.string ⟨#[]⟩,.int .i64 0,.int .i64 0]
theorem R4{w:World}{ok:Nat→Prop}{q:Addr}{x:aM}{cs:List Value}(h:(rAw bG q x cs).p w ok):∃ c,(rAw kS (q.add 0) x.Dir c).p w ok∧c=(cs.drop 0).take 1:=by
  have h0:(rAw (kP kS (kP (kI .i64) (kI .i64))) q ((x.Dir,(x.Txn,x.Age))) cs).p w ok:=h
  have hl:cs.length=3:=bG.len h.2.1
  have h1:=(Bl h0)
  simp only [show ∀ q:Addr,q.add 0=q from fun q=>by simp [Addr.add]]
  refine ⟨_,h1,?_⟩
  (try simp only [kP,kI,kB,kS,kL,rZ,Kd.scalar])
  all_goals (try (apply List.ext_getElem?;intro j;simp [List.getElem?_take,List.getElem?_drop]))
  all_goals (try (intros;(try split);(try omega);(try (rw [List.getElem?_eq_none (by omega)]))))
theorem Gu{w:World}{ok:Nat→Prop}{q:Addr}{x:aM}(h:(rAt bG q x).p w ok):(rAt (kI .i64) (q.add 1) x.Txn).p w ok:=by
  have h0:(rAt (kP kS (kP (kI .i64) (kI .i64))) q ((x.Dir,(x.Txn,x.Age)))).p w ok:=h
  have h1:=(Q5 (xM h0))
  simp only [add_add,kP,kI,kB,kS,kL,Kd.scalar] at h1
  exact h1
def fN:fX bG:=⟨fun x=>[.string x.Dir,.int .i64 x.Txn,.int .i64 x.Age],Fm,W5⟩
structure aH where
  Prefix:ByteArray
  Epoch:Int
  State:Int
  deriving DecidableEq,Inhabited
def aR:Kd aH:=rZ (kP kS (kP (kI .i64) (kI .i64))) fun x=>(x.Prefix,(x.Epoch,x.State))
theorem K6{w:World}{ok:Nat→Prop}{x:aH}{cs:List Value}(h:aR.R w ok x cs):cs= [.string x.Prefix,.int .i64 x.Epoch,.int .i64 x.State]:=by
  obtain ⟨c0,d0,rfl,h0,c1,d1,rfl,h1,h2⟩:=h
  have e0:c0= [.string x.Prefix]:=h0
  subst e0
  have e1:c1= [.int .i64 x.Epoch]:=h1
  subst e1
  have e2:d1= [.int .i64 x.State]:=h2
  subst e2
  rfl
theorem vF{w:World}{ok:Nat→Prop}{x:aH}:aR.R w ok x [.string x.Prefix,.int .i64 x.Epoch,.int .i64 x.State]:=⟨[.string x.Prefix],_,rfl,rfl,⟨[.int .i64 x.Epoch],_,rfl,rfl,rfl⟩⟩
abbrev mT (x:aH):List Value:=[.string x.Prefix,.int .i64 x.Epoch,.int .i64 x.State]
abbrev Mt:List Value:=[.string ⟨#[]⟩,.int .i64 0,.int .i64 0]
theorem rB{w:World}{ok:Nat→Prop}{q:Addr}{x:aH}{cs:List Value}(h:(rAw aR q x cs).p w ok):∃ c,(rAw kS (q.add 0) x.Prefix c).p w ok∧c=(cs.drop 0).take 1:=by
  have h0:(rAw (kP kS (kP (kI .i64) (kI .i64))) q ((x.Prefix,(x.Epoch,x.State))) cs).p w ok:=h
  have hl:cs.length=3:=aR.len h.2.1
  have h1:=(Bl h0)
  simp only [show ∀ q:Addr,q.add 0=q from fun q=>by simp [Addr.add]]
  refine ⟨_,h1,?_⟩
  (try simp only [kP,kI,kB,kS,kL,rZ,Kd.scalar])
  all_goals (try (apply List.ext_getElem?;intro j;simp [List.getElem?_take,List.getElem?_drop]))
  all_goals (try (intros;(try split);(try omega);(try (rw [List.getElem?_eq_none (by omega)]))))
theorem A5{w:World}{ok:Nat→Prop}{q:Addr}{x:aH}(h:(rAt aR q x).p w ok):(rAt (kI .i64) (q.add 1) x.Epoch).p w ok:=by
  have h0:(rAt (kP kS (kP (kI .i64) (kI .i64))) q ((x.Prefix,(x.Epoch,x.State)))).p w ok:=h
  have h1:=(Q5 (xM h0))
  simp only [add_add,kP,kI,kB,kS,kL,Kd.scalar] at h1
  exact h1
theorem Fp{w:World}{ok:Nat→Prop}{q:Addr}{x:aH}{cs:List Value}(h:(rAw aR q x cs).p w ok):∃ c,(rAw (kI .i64) (q.add 1) x.Epoch c).p w ok∧c=(cs.drop 1).take 1:=by
  have h0:(rAw (kP kS (kP (kI .i64) (kI .i64))) q ((x.Prefix,(x.Epoch,x.State))) cs).p w ok:=h
  have hl:cs.length=3:=aR.len h.2.1
  have h1:=(Bl (Yg h0))
  simp only [add_add,kP,kI,kB,kS,kL,rZ,Kd.scalar] at h1
  refine ⟨_,h1,?_⟩
  (try simp only [kP,kI,kB,kS,kL,rZ,Kd.scalar])
  all_goals (try (apply List.ext_getElem?;intro j;simp [List.getElem?_take,List.getElem?_drop]))
  all_goals (try (intros;(try split);(try omega);(try (rw [List.getElem?_eq_none (by omega)]))))
theorem A6{w:World}{ok:Nat→Prop}{q:Addr}{x:aH}(h:(rAt aR q x).p w ok):(rAt (kI .i64) (q.add 2) x.State).p w ok:=by
  have h0:(rAt (kP kS (kP (kI .i64) (kI .i64))) q ((x.Prefix,(x.Epoch,x.State)))).p w ok:=h
  have h1:=(xM (xM h0))
  simp only [add_add,kP,kI,kB,kS,kL,Kd.scalar] at h1
  exact h1
def jL:fX aR:=⟨fun x=>[.string x.Prefix,.int .i64 x.Epoch,.int .i64 x.State],K6,vF⟩
structure bK where
  Num:Int
  Kind:Int
  Path:ByteArray
  Watch:Int
  deriving DecidableEq,Inhabited
def aU:Kd bK:=rZ (kP (kI .i64) (kP (kI .i64) (kP kS (kI .i64)))) fun x=>(x.Num,(x.Kind,(x.Path,x.Watch)))
theorem Dq{w:World}{ok:Nat→Prop}{x:bK}{cs:List Value}(h:aU.R w ok x cs):cs= [.int .i64 x.Num,.int .i64 x.Kind,.string x.Path,.int .i64 x.Watch]:=by
  obtain ⟨c0,d0,rfl,h0,c1,d1,rfl,h1,c2,d2,rfl,h2,h3⟩:=h
  have e0:c0= [.int .i64 x.Num]:=h0
  subst e0
  have e1:c1= [.int .i64 x.Kind]:=h1
  subst e1
  have e2:c2= [.string x.Path]:=h2
  subst e2
  have e3:d2= [.int .i64 x.Watch]:=h3
  subst e3
  rfl
theorem zO{w:World}{ok:Nat→Prop}{x:bK}:aU.R w ok x [.int .i64 x.Num,.int .i64 x.Kind,.string x.Path,.int .i64 x.Watch]:=⟨[.int .i64 x.Num],_,rfl,rfl,⟨[.int .i64 x.Kind],_,rfl,rfl,⟨[.string x.Path],_,rfl,rfl,rfl⟩⟩⟩
abbrev O1 (x:bK):List Value:=[.int .i64 x.Num,.int .i64 x.Kind,.string x.Path,.int .i64 x.Watch]
abbrev FN:List Value:=[.int .i64 0,.int .i64 0,.string ⟨#[]⟩,.int .i64 0]
theorem Fq{w:World}{ok:Nat→Prop}{q:Addr}{x:bK}(h:(rAt aU q x).p w ok):(rAt (kI .i64) (q.add 0) x.Num).p w ok:=by
  have h0:(rAt (kP (kI .i64) (kP (kI .i64) (kP kS (kI .i64)))) q ((x.Num,(x.Kind,(x.Path,x.Watch))))).p w ok:=h
  have h1:=(Q5 h0)
  simp only [show ∀ q:Addr,q.add 0=q from fun q=>by simp [Addr.add]]
  exact h1
theorem oE{w:World}{ok:Nat→Prop}{q:Addr}{x:bK}(h:(rAt aU q x).p w ok):(rAt (kI .i64) (q.add 1) x.Kind).p w ok:=by
  have h0:(rAt (kP (kI .i64) (kP (kI .i64) (kP kS (kI .i64)))) q ((x.Num,(x.Kind,(x.Path,x.Watch))))).p w ok:=h
  have h1:=(Q5 (xM h0))
  simp only [add_add,kP,kI,kB,kS,kL,Kd.scalar] at h1
  exact h1
structure aC where
  Num:Int
  Count:Int
  Events:(List bK)
  deriving DecidableEq,Inhabited
def aO:Kd aC:=rZ (kP (kI .i64) (kP (kI .i64) (kL aU))) fun x=>(x.Num,(x.Count,x.Events))
theorem dY{w:World}{ok:Nat→Prop}{x:aC}{cs:List Value}(h:aO.R w ok x cs):∃ v1:Value,cs= [.int .i64 x.Num,.int .i64 x.Count,v1]∧Sl aU w ok v1 x.Events:=by
  obtain ⟨c0,d0,rfl,h0,c1,d1,rfl,h1,h2⟩:=h
  have e0:c0= [.int .i64 x.Num]:=h0
  subst e0
  have e1:c1= [.int .i64 x.Count]:=h1
  subst e1
  obtain ⟨u0,rfl,g0⟩:=h2
  exact ⟨u0,rfl,g0⟩
theorem lE{w:World}{ok:Nat→Prop}{x:aC}{v1:Value}(g1:Sl aU w ok v1 x.Events):aO.R w ok x [.int .i64 x.Num,.int .i64 x.Count,v1]:=⟨[.int .i64 x.Num],_,rfl,rfl,⟨[.int .i64 x.Count],_,rfl,rfl,⟨_,rfl,g1⟩⟩⟩
theorem iG{w:World}{ok:Nat→Prop}{x:aC}{v1:Value}(h:aO.R w ok x [.int .i64 x.Num,.int .i64 x.Count,v1]):Sl aU w ok v1 x.Events:=by
  obtain ⟨u0,he,g0⟩:=dY h
  cases he
  exact g0
abbrev nC (x:aC) (v1:Value):List Value:=[.int .i64 x.Num,.int .i64 x.Count,v1]
theorem G1{w:World}{os:List Ob}{rs:List Rp}{x:aC}{cs:List Value}(H:Sep w os (rCs aO cs x::rs)):∃ v1:Value,cs=(nC x v1)∧Sep w os (rSl aU v1 x.Events::rCs aO (nC x v1) x::rs):=by
  obtain ⟨_,hcs⟩:=H.rd (.head _)
  obtain ⟨u0,rfl,-⟩:=dY hcs
  refine ⟨_,rfl,?_⟩
  exact (H.derive1 (.head _) (rSl aU u0 x.Events) fun ok h=>iG h)
theorem I5{w:World}{ok:Nat→Prop}{q:Addr}{x:aC}{cs:List Value}(h:(rAw aO q x cs).p w ok):∃ c,(rAw (kI .i64) (q.add 0) x.Num c).p w ok∧c=(cs.drop 0).take 1:=by
  have h0:(rAw (kP (kI .i64) (kP (kI .i64) (kL aU))) q ((x.Num,(x.Count,x.Events))) cs).p w ok:=h
  have hl:cs.length=3:=aO.len h.2.1
  have h1:=(Bl h0)
  simp only [show ∀ q:Addr,q.add 0=q from fun q=>by simp [Addr.add]]
  refine ⟨_,h1,?_⟩
  (try simp only [kP,kI,kB,kS,kL,rZ,Kd.scalar])
  all_goals (try (apply List.ext_getElem?;intro j;simp [List.getElem?_take,List.getElem?_drop]))
  all_goals (try (intros;(try split);(try omega);(try (rw [List.getElem?_eq_none (by omega)]))))
structure aJ where
  Session:Int
  Num:Int
  Path:ByteArray
  Deep:Bool
  deriving DecidableEq,Inhabited
def aY:Kd aJ:=rZ (kP (kI .i64) (kP (kI .i64) (kP kS kB))) fun x=>(x.Session,(x.Num,(x.Path,x.Deep)))
theorem Dr{w:World}{ok:Nat→Prop}{x:aJ}{cs:List Value}(h:aY.R w ok x cs):cs= [.int .i64 x.Session,.int .i64 x.Num,.string x.Path,.bool x.Deep]:=by
  obtain ⟨c0,d0,rfl,h0,c1,d1,rfl,h1,c2,d2,rfl,h2,h3⟩:=h
  have e0:c0= [.int .i64 x.Session]:=h0
  subst e0
  have e1:c1= [.int .i64 x.Num]:=h1
  subst e1
  have e2:c2= [.string x.Path]:=h2
  subst e2
  have e3:d2= [.bool x.Deep]:=h3
  subst e3
  rfl
theorem D2{w:World}{ok:Nat→Prop}{x:aJ}:aY.R w ok x [.int .i64 x.Session,.int .i64 x.Num,.string x.Path,.bool x.Deep]:=⟨[.int .i64 x.Session],_,rfl,rfl,⟨[.int .i64 x.Num],_,rfl,rfl,⟨[.string x.Path],_,rfl,rfl,rfl⟩⟩⟩
abbrev eG (x:aJ):List Value:=[.int .i64 x.Session,.int .i64 x.Num,.string x.Path,.bool x.Deep]
abbrev FO:List Value:=[.int .i64 0,.int .i64 0,.string ⟨#[]⟩,.bool false]
def jM:fX aY:=⟨fun x=>[.int .i64 x.Session,.int .i64 x.Num,.string x.Path,.bool x.Deep],Dr,D2⟩
structure dE where
  Kind:Int
  Path:ByteArray
  Data:ByteArray
  Version:Int
  Owner:Int
  Turns:Bool
  deriving DecidableEq,Inhabited
def sX:Kd dE:=rZ (kP (kI .i64) (kP kS (kP kS (kP (kI .i64) (kP (kI .i64) kB))))) fun x=>(x.Kind,(x.Path,(x.Data,(x.Version,(x.Owner,x.Turns)))))
theorem Iv{w:World}{ok:Nat→Prop}{x:dE}{cs:List Value}(h:sX.R w ok x cs):cs= [.int .i64 x.Kind,.string x.Path,.string x.Data,.int .i64 x.Version,.int .i64 x.Owner,.bool x.Turns]:=by
  obtain ⟨c0,d0,rfl,h0,c1,d1,rfl,h1,c2,d2,rfl,h2,c3,d3,rfl,h3,c4,d4,rfl,h4,h5⟩:=h
  have e0:c0= [.int .i64 x.Kind]:=h0
  subst e0
  have e1:c1= [.string x.Path]:=h1
  subst e1
  have e2:c2= [.string x.Data]:=h2
  subst e2
  have e3:c3= [.int .i64 x.Version]:=h3
  subst e3
  have e4:c4= [.int .i64 x.Owner]:=h4
  subst e4
  have e5:d4= [.bool x.Turns]:=h5
  subst e5
  rfl
theorem O2{w:World}{ok:Nat→Prop}{x:dE}:sX.R w ok x [.int .i64 x.Kind,.string x.Path,.string x.Data,.int .i64 x.Version,.int .i64 x.Owner,.bool x.Turns]:=⟨[.int .i64 x.Kind],_,rfl,rfl,⟨[.string x.Path],_,rfl,rfl,⟨[.string x.Data],_,rfl,rfl,⟨[.int .i64 x.Version],_,rfl,rfl,⟨[.int .i64 x.Owner],_,rfl,rfl,rfl⟩⟩⟩⟩⟩
abbrev jN (x:dE):List Value:=[.int .i64 x.Kind,.string x.Path,.string x.Data,.int .i64 x.Version,.int .i64 x.Owner,.bool x.Turns]
abbrev JZ:List Value:=[.int .i64 0,.string ⟨#[]⟩,.string ⟨#[]⟩,.int .i64 0,.int .i64 0,.bool false]
structure aW where
  Nodes:(List aF)
  Turns:(List aI)
  deriving DecidableEq,Inhabited
def O3:Kd aW:=rZ (kP (kL aG) (kL aK)) fun x=>(x.Nodes,x.Turns)
theorem Ds{w:World}{ok:Nat→Prop}{x:aW}{cs:List Value}(h:O3.R w ok x cs):∃ v1 v2:Value,cs= [v1,v2]∧Sl aG w ok v1 x.Nodes∧Sl aK w ok v2 x.Turns:=by
  obtain ⟨c0,d0,rfl,h0,h1⟩:=h
  obtain ⟨u0,rfl,g0⟩:=h0
  obtain ⟨u1,rfl,g1⟩:=h1
  exact ⟨u0,u1,rfl,g0,g1⟩
theorem Gv{w:World}{ok:Nat→Prop}{x:aW}{v1:Value}{v2:Value}(g1:Sl aG w ok v1 x.Nodes)(g2:Sl aK w ok v2 x.Turns):O3.R w ok x [v1,v2]:=⟨[v1],_,rfl,⟨_,rfl,g1⟩,⟨_,rfl,g2⟩⟩
theorem lN{w:World}{os:List Ob}{rs:List Rp}{v1:Value}{yv1:List aF}{v2:Value}{yv2:List aI}(H:Sep w os rs)(hv1:rSl aG v1 yv1 ∈ rs)(hv2:rSl aK v2 yv2 ∈ rs):[v1,v2].all (·.oneCell')=true:=by
  obtain ⟨_,_,rfl⟩:=H.slform hv1
  obtain ⟨_,_,rfl⟩:=H.slform hv2
  rfl
structure cR where
  Err:Int
  Path:ByteArray
  Data:ByteArray
  Version:Int
  Names:(List ByteArray)
  deriving DecidableEq,Inhabited
def bE:Kd cR:=rZ (kP (kI .i64) (kP kS (kP kS (kP (kI .i64) (kL kS))))) fun x=>(x.Err,(x.Path,(x.Data,(x.Version,x.Names))))
theorem Fr{w:World}{ok:Nat→Prop}{x:cR}{v1:Value}(g1:Sl kS w ok v1 x.Names):bE.R w ok x [.int .i64 x.Err,.string x.Path,.string x.Data,.int .i64 x.Version,v1]:=⟨[.int .i64 x.Err],_,rfl,rfl,⟨[.string x.Path],_,rfl,rfl,⟨[.string x.Data],_,rfl,rfl,⟨[.int .i64 x.Version],_,rfl,rfl,⟨_,rfl,g1⟩⟩⟩⟩⟩
abbrev Ae (x:cR) (v1:Value):List Value:=[.int .i64 x.Err,.string x.Path,.string x.Data,.int .i64 x.Version,v1]
abbrev Af:List Value:=[.int .i64 0,.string ⟨#[]⟩,.string ⟨#[]⟩,.int .i64 0,.slice none 0 0]
theorem Gw{w:World}{os:List Ob}{rs:List Rp}{z0:Int}{z1:ByteArray}{z2:ByteArray}{z3:Int}{v1:Value}{yv1:List ByteArray}(H:Sep w os rs)(hv1:rSl kS v1 yv1 ∈ rs):[.int .i64 z0,.string z1,.string z2,.int .i64 z3,v1].all (·.oneCell')=true:=by
  obtain ⟨_,_,rfl⟩:=H.slform hv1
  rfl
theorem Dt{w:World}{ok:Nat→Prop}{q:Addr}{x:cR}(h:(rAt bE q x).p w ok):(rAt kS (q.add 1) x.Path).p w ok:=by
  have h0:(rAt (kP (kI .i64) (kP kS (kP kS (kP (kI .i64) (kL kS))))) q ((x.Err,(x.Path,(x.Data,(x.Version,x.Names)))))).p w ok:=h
  have h1:=(Q5 (xM h0))
  simp only [add_add,kP,kI,kB,kS,kL,Kd.scalar] at h1
  exact h1
theorem K7{w:World}{ok:Nat→Prop}{q:Addr}{x:cR}(h:(rAt bE q x).p w ok):(rAt (kL kS) (q.add 4) x.Names).p w ok:=by
  have h0:(rAt (kP (kI .i64) (kP kS (kP kS (kP (kI .i64) (kL kS))))) q ((x.Err,(x.Path,(x.Data,(x.Version,x.Names)))))).p w ok:=h
  have h1:=(xM (xM (xM (xM h0))))
  simp only [add_add,kP,kI,kB,kS,kL,Kd.scalar] at h1
  exact h1
structure oB where
  Prefix:ByteArray
  Group:Int
  Epoch:Int
  To:Int
  deriving DecidableEq,Inhabited
def bN:Kd oB:=rZ (kP kS (kP (kI .i64) (kP (kI .i64) (kI .i64)))) fun x=>(x.Prefix,(x.Group,(x.Epoch,x.To)))
structure aE where
  Err:Int
  At:Int
  Yes:Bool
  Epoch:Int
  Results:(List cR)
  Store:aW
  Events:(List bK)
  Mounts:(List oB)
  Wounded:(List Int)
  deriving DecidableEq,Inhabited
def bI:Kd aE:=rZ (kP (kI .i64) (kP (kI .i64) (kP kB (kP (kI .i64) (kP (kL bE) (kP O3 (kP (kL aU) (kP (kL bN) (kL (kI .i64)))))))))) fun x=>(x.Err,(x.At,(x.Yes,(x.Epoch,(x.Results,(x.Store,(x.Events,(x.Mounts,x.Wounded))))))))
theorem jY{w:World}{ok:Nat→Prop}{x:aE}{cs:List Value}(h:bI.R w ok x cs):∃ v1 v2 v3 v4 v5 v6:Value,cs= [.int .i64 x.Err,.int .i64 x.At,.bool x.Yes,.int .i64 x.Epoch,v1,v2,v3,v4,v5,v6]∧Sl bE w ok v1 x.Results∧Sl aG w ok v2 x.Store.Nodes∧Sl aK w ok v3 x.Store.Turns∧Sl aU w ok v4 x.Events∧Sl bN w ok v5 x.Mounts∧Sl (kI .i64) w ok v6 x.Wounded:=by
  obtain ⟨c0,d0,rfl,h0,c1,d1,rfl,h1,c2,d2,rfl,h2,c3,d3,rfl,h3,c4,d4,rfl,h4,c5,d5,rfl,h5,c6,d6,rfl,h6,c7,d7,rfl,h7,h8⟩:=h
  have e0:c0= [.int .i64 x.Err]:=h0
  subst e0
  have e1:c1= [.int .i64 x.At]:=h1
  subst e1
  have e2:c2= [.bool x.Yes]:=h2
  subst e2
  have e3:c3= [.int .i64 x.Epoch]:=h3
  subst e3
  obtain ⟨u0,rfl,g0⟩:=h4
  obtain ⟨u1,u2,rfl,g1,g2⟩:=Ds h5
  obtain ⟨u3,rfl,g3⟩:=h6
  obtain ⟨u4,rfl,g4⟩:=h7
  obtain ⟨u5,rfl,g5⟩:=h8
  exact ⟨u0,u1,u2,u3,u4,u5,rfl,g0,g1,g2,g3,g4,g5⟩
theorem oF{w:World}{ok:Nat→Prop}{x:aE}{v1:Value}{v2:Value}{v3:Value}{v4:Value}{v5:Value}{v6:Value}(g1:Sl bE w ok v1 x.Results)(g2:Sl aG w ok v2 x.Store.Nodes)(g3:Sl aK w ok v3 x.Store.Turns)(g4:Sl aU w ok v4 x.Events)(g5:Sl bN w ok v5 x.Mounts)(g6:Sl (kI .i64) w ok v6 x.Wounded):bI.R w ok x [.int .i64 x.Err,.int .i64 x.At,.bool x.Yes,.int .i64 x.Epoch,v1,v2,v3,v4,v5,v6]:=⟨[.int .i64 x.Err],_,rfl,rfl,⟨[.int .i64 x.At],_,rfl,rfl,⟨[.bool x.Yes],_,rfl,rfl,⟨[.int .i64 x.Epoch],_,rfl,rfl,⟨[v1],_,rfl,⟨_,rfl,g1⟩,⟨[v2,v3],_,rfl,(Gv g2 g3),⟨[v4],_,rfl,⟨_,rfl,g4⟩,⟨[v5],_,rfl,⟨_,rfl,g5⟩,⟨_,rfl,g6⟩⟩⟩⟩⟩⟩⟩⟩⟩
theorem Cc{w:World}{ok:Nat→Prop}{x:aE}{v1 v2 v3 v4 v5 v6:Value}(h:bI.R w ok x [.int .i64 x.Err,.int .i64 x.At,.bool x.Yes,.int .i64 x.Epoch,v1,v2,v3,v4,v5,v6]):Sl bE w ok v1 x.Results:=by
  obtain ⟨u0,u1,u2,u3,u4,u5,he,g0,g1,g2,g3,g4,g5⟩:=jY h
  cases he
  exact g0
theorem Cd{w:World}{ok:Nat→Prop}{x:aE}{v1 v2 v3 v4 v5 v6:Value}(h:bI.R w ok x [.int .i64 x.Err,.int .i64 x.At,.bool x.Yes,.int .i64 x.Epoch,v1,v2,v3,v4,v5,v6]):Sl aG w ok v2 x.Store.Nodes:=by
  obtain ⟨u0,u1,u2,u3,u4,u5,he,g0,g1,g2,g3,g4,g5⟩:=jY h
  cases he
  exact g1
theorem Ce{w:World}{ok:Nat→Prop}{x:aE}{v1 v2 v3 v4 v5 v6:Value}(h:bI.R w ok x [.int .i64 x.Err,.int .i64 x.At,.bool x.Yes,.int .i64 x.Epoch,v1,v2,v3,v4,v5,v6]):Sl aK w ok v3 x.Store.Turns:=by
  obtain ⟨u0,u1,u2,u3,u4,u5,he,g0,g1,g2,g3,g4,g5⟩:=jY h
  cases he
  exact g2
theorem Cf{w:World}{ok:Nat→Prop}{x:aE}{v1 v2 v3 v4 v5 v6:Value}(h:bI.R w ok x [.int .i64 x.Err,.int .i64 x.At,.bool x.Yes,.int .i64 x.Epoch,v1,v2,v3,v4,v5,v6]):Sl aU w ok v4 x.Events:=by
  obtain ⟨u0,u1,u2,u3,u4,u5,he,g0,g1,g2,g3,g4,g5⟩:=jY h
  cases he
  exact g3
theorem Cg{w:World}{ok:Nat→Prop}{x:aE}{v1 v2 v3 v4 v5 v6:Value}(h:bI.R w ok x [.int .i64 x.Err,.int .i64 x.At,.bool x.Yes,.int .i64 x.Epoch,v1,v2,v3,v4,v5,v6]):Sl bN w ok v5 x.Mounts:=by
  obtain ⟨u0,u1,u2,u3,u4,u5,he,g0,g1,g2,g3,g4,g5⟩:=jY h
  cases he
  exact g4
theorem Ch{w:World}{ok:Nat→Prop}{x:aE}{v1 v2 v3 v4 v5 v6:Value}(h:bI.R w ok x [.int .i64 x.Err,.int .i64 x.At,.bool x.Yes,.int .i64 x.Epoch,v1,v2,v3,v4,v5,v6]):Sl (kI .i64) w ok v6 x.Wounded:=by
  obtain ⟨u0,u1,u2,u3,u4,u5,he,g0,g1,g2,g3,g4,g5⟩:=jY h
  cases he
  exact g5
abbrev bA (x:aE) (v1:Value) (v2:Value) (v3:Value) (v4:Value) (v5:Value) (v6:Value):List Value:=[.int .i64 x.Err,.int .i64 x.At,.bool x.Yes,.int .i64 x.Epoch,v1,v2,v3,v4,v5,v6]
abbrev bO:List Value:=[.int .i64 0,.int .i64 0,.bool false,.int .i64 0,.slice none 0 0,.slice none 0 0,.slice none 0 0,.slice none 0 0,.slice none 0 0,.slice none 0 0]
theorem lF{w:World}{os:List Ob}{rs:List Rp}{x:aE}{cs:List Value}(H:Sep w os (rCs bI cs x::rs)):∃ v1 v2 v3 v4 v5 v6:Value,cs=(bA x v1 v2 v3 v4 v5 v6)∧Sep w os (rSl (kI .i64) v6 x.Wounded::rSl bN v5 x.Mounts::rSl aU v4 x.Events::rSl aK v3 x.Store.Turns::rSl aG v2 x.Store.Nodes::rSl bE v1 x.Results::rCs bI (bA x v1 v2 v3 v4 v5 v6) x::rs):=by
  obtain ⟨_,hcs⟩:=H.rd (.head _)
  obtain ⟨u0,u1,u2,u3,u4,u5,rfl,-,-,-,-,-,-⟩:=jY hcs
  refine ⟨_,_,_,_,_,_,rfl,?_⟩
  exact ((((((H.derive1 (.head _) (rSl bE u0 x.Results) fun ok h=>Cc h).derive1 (.tail _ (.head _)) (rSl aG u1 x.Store.Nodes) fun ok h=>Cd h).derive1 (.tail _ (.tail _ (.head _))) (rSl aK u2 x.Store.Turns) fun ok h=>Ce h).derive1 (.tail _ (.tail _ (.tail _ (.head _)))) (rSl aU u3 x.Events) fun ok h=>Cf h).derive1 (.tail _ (.tail _ (.tail _ (.tail _ (.head _))))) (rSl bN u4 x.Mounts) fun ok h=>Cg h).derive1 (.tail _ (.tail _ (.tail _ (.tail _ (.tail _ (.head _)))))) (rSl (kI .i64) u5 x.Wounded) fun ok h=>Ch h)
theorem bF{w:World}{os:List Ob}{rs:List Rp}{z0:Int}{z1:Int}{z2:Bool}{z3:Int}{v1:Value}{yv1:List cR}{v2:Value}{yv2:List aF}{v3:Value}{yv3:List aI}{v4:Value}{yv4:List bK}{v5:Value}{yv5:List oB}{v6:Value}{yv6:List Int}(H:Sep w os rs)(hv1:rSl bE v1 yv1 ∈ rs)(hv2:rSl aG v2 yv2 ∈ rs)(hv3:rSl aK v3 yv3 ∈ rs)(hv4:rSl aU v4 yv4 ∈ rs)(hv5:rSl bN v5 yv5 ∈ rs)(hv6:rSl (kI .i64) v6 yv6 ∈ rs):[.int .i64 z0,.int .i64 z1,.bool z2,.int .i64 z3,v1,v2,v3,v4,v5,v6].all (·.oneCell')=true:=by
  obtain ⟨_,_,rfl⟩:=H.slform hv1
  obtain ⟨_,_,rfl⟩:=H.slform hv2
  obtain ⟨_,_,rfl⟩:=H.slform hv3
  obtain ⟨_,_,rfl⟩:=H.slform hv4
  obtain ⟨_,_,rfl⟩:=H.slform hv5
  obtain ⟨_,_,rfl⟩:=H.slform hv6
  rfl
structure bL where
  Kind:Int
  Dir:ByteArray
  Path:ByteArray
  Data:ByteArray
  Version:Int
  Owner:Int
  Turns:Bool
  deriving DecidableEq,Inhabited
def cZ:Kd bL:=rZ (kP (kI .i64) (kP kS (kP kS (kP kS (kP (kI .i64) (kP (kI .i64) kB)))))) fun x=>(x.Kind,(x.Dir,(x.Path,(x.Data,(x.Version,(x.Owner,x.Turns))))))
theorem N3{w:World}{ok:Nat→Prop}{x:bL}{cs:List Value}(h:cZ.R w ok x cs):cs= [.int .i64 x.Kind,.string x.Dir,.string x.Path,.string x.Data,.int .i64 x.Version,.int .i64 x.Owner,.bool x.Turns]:=by
  obtain ⟨c0,d0,rfl,h0,c1,d1,rfl,h1,c2,d2,rfl,h2,c3,d3,rfl,h3,c4,d4,rfl,h4,c5,d5,rfl,h5,h6⟩:=h
  have e0:c0= [.int .i64 x.Kind]:=h0
  subst e0
  have e1:c1= [.string x.Dir]:=h1
  subst e1
  have e2:c2= [.string x.Path]:=h2
  subst e2
  have e3:c3= [.string x.Data]:=h3
  subst e3
  have e4:c4= [.int .i64 x.Version]:=h4
  subst e4
  have e5:c5= [.int .i64 x.Owner]:=h5
  subst e5
  have e6:d5= [.bool x.Turns]:=h6
  subst e6
  rfl
theorem iA{w:World}{ok:Nat→Prop}{x:bL}:cZ.R w ok x [.int .i64 x.Kind,.string x.Dir,.string x.Path,.string x.Data,.int .i64 x.Version,.int .i64 x.Owner,.bool x.Turns]:=⟨[.int .i64 x.Kind],_,rfl,rfl,⟨[.string x.Dir],_,rfl,rfl,⟨[.string x.Path],_,rfl,rfl,⟨[.string x.Data],_,rfl,rfl,⟨[.int .i64 x.Version],_,rfl,rfl,⟨[.int .i64 x.Owner],_,rfl,rfl,rfl⟩⟩⟩⟩⟩⟩
abbrev cM (x:bL):List Value:=[.int .i64 x.Kind,.string x.Dir,.string x.Path,.string x.Data,.int .i64 x.Version,.int .i64 x.Owner,.bool x.Turns]
abbrev GC:List Value:=[.int .i64 0,.string ⟨#[]⟩,.string ⟨#[]⟩,.string ⟨#[]⟩,.int .i64 0,.int .i64 0,.bool false]
structure cH where
  Op:Int
  Part:bL
  deriving DecidableEq,Inhabited
def cF:Kd cH:=rZ (kP (kI .i64) cZ) fun x=>(x.Op,x.Part)
theorem Du{w:World}{ok:Nat→Prop}{x:cH}{cs:List Value}(h:cF.R w ok x cs):cs= [.int .i64 x.Op,.int .i64 x.Part.Kind,.string x.Part.Dir,.string x.Part.Path,.string x.Part.Data,.int .i64 x.Part.Version,.int .i64 x.Part.Owner,.bool x.Part.Turns]:=by
  obtain ⟨c0,d0,rfl,h0,h1⟩:=h
  have e0:c0= [.int .i64 x.Op]:=h0
  subst e0
  obtain ⟨rfl⟩:=N3 h1
  rfl
theorem R5{w:World}{ok:Nat→Prop}{x:cH}:cF.R w ok x [.int .i64 x.Op,.int .i64 x.Part.Kind,.string x.Part.Dir,.string x.Part.Path,.string x.Part.Data,.int .i64 x.Part.Version,.int .i64 x.Part.Owner,.bool x.Part.Turns]:=⟨[.int .i64 x.Op],_,rfl,rfl,iA⟩
abbrev Cw (x:cH):List Value:=[.int .i64 x.Op,.int .i64 x.Part.Kind,.string x.Part.Dir,.string x.Part.Path,.string x.Part.Data,.int .i64 x.Part.Version,.int .i64 x.Part.Owner,.bool x.Part.Turns]
abbrev FP:List Value:=[.int .i64 0,.int .i64 0,.string ⟨#[]⟩,.string ⟨#[]⟩,.string ⟨#[]⟩,.int .i64 0,.int .i64 0,.bool false]
structure bJ where
  over_:Bool
  pieces_:(List cH)
  a_:aE
  deriving DecidableEq,Inhabited
def cW:Kd bJ:=rZ (kP kB (kP (kL cF) bI)) fun x=>(x.over_,(x.pieces_,x.a_))
theorem lG{w:World}{ok:Nat→Prop}{x:bJ}{cs:List Value}(h:cW.R w ok x cs):∃ v1 v2 v3 v4 v5 v6 v7:Value,cs= [.bool x.over_,v1,.int .i64 x.a_.Err,.int .i64 x.a_.At,.bool x.a_.Yes,.int .i64 x.a_.Epoch,v2,v3,v4,v5,v6,v7]∧Sl cF w ok v1 x.pieces_∧Sl bE w ok v2 x.a_.Results∧Sl aG w ok v3 x.a_.Store.Nodes∧Sl aK w ok v4 x.a_.Store.Turns∧Sl aU w ok v5 x.a_.Events∧Sl bN w ok v6 x.a_.Mounts∧Sl (kI .i64) w ok v7 x.a_.Wounded:=by
  obtain ⟨c0,d0,rfl,h0,c1,d1,rfl,h1,h2⟩:=h
  have e0:c0= [.bool x.over_]:=h0
  subst e0
  obtain ⟨u0,rfl,g0⟩:=h1
  obtain ⟨u1,u2,u3,u4,u5,u6,rfl,g1,g2,g3,g4,g5,g6⟩:=jY h2
  exact ⟨u0,u1,u2,u3,u4,u5,u6,rfl,g0,g1,g2,g3,g4,g5,g6⟩
theorem D3{w:World}{ok:Nat→Prop}{x:bJ}{v1:Value}{v2:Value}{v3:Value}{v4:Value}{v5:Value}{v6:Value}{v7:Value}(g1:Sl cF w ok v1 x.pieces_)(g2:Sl bE w ok v2 x.a_.Results)(g3:Sl aG w ok v3 x.a_.Store.Nodes)(g4:Sl aK w ok v4 x.a_.Store.Turns)(g5:Sl aU w ok v5 x.a_.Events)(g6:Sl bN w ok v6 x.a_.Mounts)(g7:Sl (kI .i64) w ok v7 x.a_.Wounded):cW.R w ok x [.bool x.over_,v1,.int .i64 x.a_.Err,.int .i64 x.a_.At,.bool x.a_.Yes,.int .i64 x.a_.Epoch,v2,v3,v4,v5,v6,v7]:=⟨[.bool x.over_],_,rfl,rfl,⟨[v1],_,rfl,⟨_,rfl,g1⟩,(oF g2 g3 g4 g5 g6 g7)⟩⟩
theorem Dv{w:World}{ok:Nat→Prop}{x:bJ}{v1 v2 v3 v4 v5 v6 v7:Value}(h:cW.R w ok x [.bool x.over_,v1,.int .i64 x.a_.Err,.int .i64 x.a_.At,.bool x.a_.Yes,.int .i64 x.a_.Epoch,v2,v3,v4,v5,v6,v7]):Sl cF w ok v1 x.pieces_:=by
  obtain ⟨u0,u1,u2,u3,u4,u5,u6,he,g0,g1,g2,g3,g4,g5,g6⟩:=lG h
  cases he
  exact g0
theorem Dw{w:World}{ok:Nat→Prop}{x:bJ}{v1 v2 v3 v4 v5 v6 v7:Value}(h:cW.R w ok x [.bool x.over_,v1,.int .i64 x.a_.Err,.int .i64 x.a_.At,.bool x.a_.Yes,.int .i64 x.a_.Epoch,v2,v3,v4,v5,v6,v7]):Sl bE w ok v2 x.a_.Results:=by
  obtain ⟨u0,u1,u2,u3,u4,u5,u6,he,g0,g1,g2,g3,g4,g5,g6⟩:=lG h
  cases he
  exact g1
theorem Dx{w:World}{ok:Nat→Prop}{x:bJ}{v1 v2 v3 v4 v5 v6 v7:Value}(h:cW.R w ok x [.bool x.over_,v1,.int .i64 x.a_.Err,.int .i64 x.a_.At,.bool x.a_.Yes,.int .i64 x.a_.Epoch,v2,v3,v4,v5,v6,v7]):Sl aG w ok v3 x.a_.Store.Nodes:=by
  obtain ⟨u0,u1,u2,u3,u4,u5,u6,he,g0,g1,g2,g3,g4,g5,g6⟩:=lG h
  cases he
  exact g2
theorem Dy{w:World}{ok:Nat→Prop}{x:bJ}{v1 v2 v3 v4 v5 v6 v7:Value}(h:cW.R w ok x [.bool x.over_,v1,.int .i64 x.a_.Err,.int .i64 x.a_.At,.bool x.a_.Yes,.int .i64 x.a_.Epoch,v2,v3,v4,v5,v6,v7]):Sl aK w ok v4 x.a_.Store.Turns:=by
  obtain ⟨u0,u1,u2,u3,u4,u5,u6,he,g0,g1,g2,g3,g4,g5,g6⟩:=lG h
  cases he
  exact g3
theorem Dz{w:World}{ok:Nat→Prop}{x:bJ}{v1 v2 v3 v4 v5 v6 v7:Value}(h:cW.R w ok x [.bool x.over_,v1,.int .i64 x.a_.Err,.int .i64 x.a_.At,.bool x.a_.Yes,.int .i64 x.a_.Epoch,v2,v3,v4,v5,v6,v7]):Sl aU w ok v5 x.a_.Events:=by
  obtain ⟨u0,u1,u2,u3,u4,u5,u6,he,g0,g1,g2,g3,g4,g5,g6⟩:=lG h
  cases he
  exact g4
theorem Ea{w:World}{ok:Nat→Prop}{x:bJ}{v1 v2 v3 v4 v5 v6 v7:Value}(h:cW.R w ok x [.bool x.over_,v1,.int .i64 x.a_.Err,.int .i64 x.a_.At,.bool x.a_.Yes,.int .i64 x.a_.Epoch,v2,v3,v4,v5,v6,v7]):Sl bN w ok v6 x.a_.Mounts:=by
  obtain ⟨u0,u1,u2,u3,u4,u5,u6,he,g0,g1,g2,g3,g4,g5,g6⟩:=lG h
  cases he
  exact g5
theorem Eb{w:World}{ok:Nat→Prop}{x:bJ}{v1 v2 v3 v4 v5 v6 v7:Value}(h:cW.R w ok x [.bool x.over_,v1,.int .i64 x.a_.Err,.int .i64 x.a_.At,.bool x.a_.Yes,.int .i64 x.a_.Epoch,v2,v3,v4,v5,v6,v7]):Sl (kI .i64) w ok v7 x.a_.Wounded:=by
  obtain ⟨u0,u1,u2,u3,u4,u5,u6,he,g0,g1,g2,g3,g4,g5,g6⟩:=lG h
  cases he
  exact g6
abbrev Cx (x:bJ) (v1:Value) (v2:Value) (v3:Value) (v4:Value) (v5:Value) (v6:Value) (v7:Value):List Value:=[.bool x.over_,v1,.int .i64 x.a_.Err,.int .i64 x.a_.At,.bool x.a_.Yes,.int .i64 x.a_.Epoch,v2,v3,v4,v5,v6,v7]
abbrev FQ:List Value:=[.bool false,.slice none 0 0,.int .i64 0,.int .i64 0,.bool false,.int .i64 0,.slice none 0 0,.slice none 0 0,.slice none 0 0,.slice none 0 0,.slice none 0 0,.slice none 0 0]
theorem E5{w:World}{os:List Ob}{rs:List Rp}{x:bJ}{cs:List Value}(H:Sep w os (rCs cW cs x::rs)):∃ v1 v2 v3 v4 v5 v6 v7:Value,cs=(Cx x v1 v2 v3 v4 v5 v6 v7)∧Sep w os (rSl (kI .i64) v7 x.a_.Wounded::rSl bN v6 x.a_.Mounts::rSl aU v5 x.a_.Events::rSl aK v4 x.a_.Store.Turns::rSl aG v3 x.a_.Store.Nodes::rSl bE v2 x.a_.Results::rSl cF v1 x.pieces_::rCs cW (Cx x v1 v2 v3 v4 v5 v6 v7) x::rs):=by
  obtain ⟨_,hcs⟩:=H.rd (.head _)
  obtain ⟨u0,u1,u2,u3,u4,u5,u6,rfl,-,-,-,-,-,-,-⟩:=lG hcs
  refine ⟨_,_,_,_,_,_,_,rfl,?_⟩
  exact (((((((H.derive1 (.head _) (rSl cF u0 x.pieces_) fun ok h=>Dv h).derive1 (.tail _ (.head _)) (rSl bE u1 x.a_.Results) fun ok h=>Dw h).derive1 (.tail _ (.tail _ (.head _))) (rSl aG u2 x.a_.Store.Nodes) fun ok h=>Dx h).derive1 (.tail _ (.tail _ (.tail _ (.head _)))) (rSl aK u3 x.a_.Store.Turns) fun ok h=>Dy h).derive1 (.tail _ (.tail _ (.tail _ (.tail _ (.head _))))) (rSl aU u4 x.a_.Events) fun ok h=>Dz h).derive1 (.tail _ (.tail _ (.tail _ (.tail _ (.tail _ (.head _)))))) (rSl bN u5 x.a_.Mounts) fun ok h=>Ea h).derive1 (.tail _ (.tail _ (.tail _ (.tail _ (.tail _ (.tail _ (.head _))))))) (rSl (kI .i64) u6 x.a_.Wounded) fun ok h=>Eb h)
theorem u9{w:World}{os:List Ob}{rs:List Rp}{z0:Bool}{z1:Int}{z2:Int}{z3:Bool}{z4:Int}{v1:Value}{yv1:List cH}{v2:Value}{yv2:List cR}{v3:Value}{yv3:List aF}{v4:Value}{yv4:List aI}{v5:Value}{yv5:List bK}{v6:Value}{yv6:List oB}{v7:Value}{yv7:List Int}(H:Sep w os rs)(hv1:rSl cF v1 yv1 ∈ rs)(hv2:rSl bE v2 yv2 ∈ rs)(hv3:rSl aG v3 yv3 ∈ rs)(hv4:rSl aK v4 yv4 ∈ rs)(hv5:rSl aU v5 yv5 ∈ rs)(hv6:rSl bN v6 yv6 ∈ rs)(hv7:rSl (kI .i64) v7 yv7 ∈ rs):[.bool z0,v1,.int .i64 z1,.int .i64 z2,.bool z3,.int .i64 z4,v2,v3,v4,v5,v6,v7].all (·.oneCell')=true:=by
  obtain ⟨_,_,rfl⟩:=H.slform hv1
  obtain ⟨_,_,rfl⟩:=H.slform hv2
  obtain ⟨_,_,rfl⟩:=H.slform hv3
  obtain ⟨_,_,rfl⟩:=H.slform hv4
  obtain ⟨_,_,rfl⟩:=H.slform hv5
  obtain ⟨_,_,rfl⟩:=H.slform hv6
  obtain ⟨_,_,rfl⟩:=H.slform hv7
  rfl
def G2:fX sX:=⟨fun x=>[.int .i64 x.Kind,.string x.Path,.string x.Data,.int .i64 x.Version,.int .i64 x.Owner,.bool x.Turns],Iv,O2⟩
def Fs:fX cZ:=⟨fun x=>[.int .i64 x.Kind,.string x.Dir,.string x.Path,.string x.Data,.int .i64 x.Version,.int .i64 x.Owner,.bool x.Turns],N3,iA⟩
structure aV where
  Kind:Int
  Id:Int
  Txn:Int
  Age:Int
  Yes:Bool
  Pieces:(List cH)
  Prefix:ByteArray
  Epoch:Int
  To:Int
  Store:aW
  Gone:(List ByteArray)
  Watch:aJ
  deriving DecidableEq,Inhabited
def AO:Kd aV:=rZ (kP (kI .i64) (kP (kI .i64) (kP (kI .i64) (kP (kI .i64) (kP kB (kP (kL cF) (kP kS (kP (kI .i64) (kP (kI .i64) (kP O3 (kP (kL kS) aY))))))))))) fun x=>(x.Kind,(x.Id,(x.Txn,(x.Age,(x.Yes,(x.Pieces,(x.Prefix,(x.Epoch,(x.To,(x.Store,(x.Gone,x.Watch)))))))))))
abbrev aS (x:aV) (v1:Value) (v2:Value) (v3:Value) (v4:Value):List Value:=[.int .i64 x.Kind,.int .i64 x.Id,.int .i64 x.Txn,.int .i64 x.Age,.bool x.Yes,v1,.string x.Prefix,.int .i64 x.Epoch,.int .i64 x.To,v2,v3,v4,.int .i64 x.Watch.Session,.int .i64 x.Watch.Num,.string x.Watch.Path,.bool x.Watch.Deep]
def wJ:fX cF:=⟨fun x=>[.int .i64 x.Op,.int .i64 x.Part.Kind,.string x.Part.Dir,.string x.Part.Path,.string x.Part.Data,.int .i64 x.Part.Version,.int .i64 x.Part.Owner,.bool x.Part.Turns],Du,R5⟩
abbrev Mu:aW:=⟨[],[]⟩
abbrev qP:aE:=⟨0,0,false,0,[],Mu,[],[],[]⟩
structure bM where
  Watches:(List aJ)
  Sessions:(List aC)
  deriving DecidableEq,Inhabited
def AP:Kd bM:=rZ (kP (kL aY) (kL aO)) fun x=>(x.Watches,x.Sessions)
theorem iH{w:World}{os:List Ob}{rs:List Rp}{v1:Value}{yv1:List aJ}{v2:Value}{yv2:List aC}(H:Sep w os rs)(hv1:rSl aY v1 yv1 ∈ rs)(hv2:rSl aO v2 yv2 ∈ rs):[v1,v2].all (·.oneCell')=true:=by
  obtain ⟨_,_,rfl⟩:=H.slform hv1
  obtain ⟨_,_,rfl⟩:=H.slform hv2
  rfl
def pX:fX aU:=⟨fun x=>[.int .i64 x.Num,.int .i64 x.Kind,.string x.Path,.int .i64 x.Watch],Dq,zO⟩
def Yu:fX kS:=⟨fun x=>[.string x],fun h=>h,rfl⟩
structure Mv where
  Store:aW
  r_:cR
  deriving DecidableEq,Inhabited
def FR:Kd Mv:=rZ (kP O3 bE) fun x=>(x.Store,x.r_)
abbrev O4:bJ:=⟨false,[],qP⟩
theorem cf4:CF Tryz.prog 4:=cfo Tryz.func4 (by kernel_rfl)
theorem cf5:CF Tryz.prog 5:=cfo Tryz.func5 (by kernel_rfl)
theorem BD:CF Tryz.prog 12:=cfo Tryz.func12 (by kernel_rfl)
abbrev U31:=Tryz.underlying31
theorem dP:(Tryz.prog.info? 31).map (·.size)=some 2:=by kernel_rfl
theorem Pf:CF Tryz.prog 32:=cfo Tryz.func32 (by kernel_rfl)
theorem BE:∀ (w:World) (q:Addr),(Instr.fieldAt 31 (.pointer (some q)) 0).run Tryz.prog w= .ok (.pointer (some (q.add 0))) w:=fun w q=>by kernel_rfl
abbrev U28:=Tryz.underlying28
theorem BF:CF Tryz.prog 73:=cfo Tryz.func73 (by kernel_rfl)
theorem Pg:CF Tryz.prog 144:=cfo Tryz.func144 (by kernel_rfl)
theorem kN:(Tryz.prog.info? 62).map (·.size)=some 5:=by kernel_rfl
abbrev U62:=Tryz.underlying62
theorem KA:CF Tryz.prog 74:=cfo Tryz.func74 (by kernel_rfl)
theorem BG:∀ (w:World) (q:Addr),(Instr.fieldAt 62 (.pointer (some q)) 3).run Tryz.prog w= .ok (.pointer (some (q.add 3))) w:=fun w q=>by kernel_rfl
abbrev U2:=Tryz.underlying2
theorem BH:∀ (w:World) (q:Addr),(Instr.fieldAt 62 (.pointer (some q)) 0).run Tryz.prog w= .ok (.pointer (some (q.add 0))) w:=fun w q=>by kernel_rfl
abbrev U9:=Tryz.underlying9
theorem BI:∀ (w:World) (q:Addr),(Instr.fieldAt 62 (.pointer (some q)) 1).run Tryz.prog w= .ok (.pointer (some (q.add 1))) w:=fun w q=>by kernel_rfl
theorem BJ:∀ (w:World) (q:Addr),(Instr.fieldAt 62 (.pointer (some q)) 2).run Tryz.prog w= .ok (.pointer (some (q.add 2))) w:=fun w q=>by kernel_rfl
theorem BK:∀ (w:World) (q:Addr),(Instr.fieldAt 62 (.pointer (some q)) 4).run Tryz.prog w= .ok (.pointer (some (q.add 4))) w:=fun w q=>by kernel_rfl
theorem BL:CF Tryz.prog 75:=cfo Tryz.func75 (by kernel_rfl)
theorem A7:CF Tryz.prog 78:=cfo Tryz.func78 (by kernel_rfl)
theorem Xd:CF Tryz.prog 146:=cfo Tryz.func146 (by kernel_rfl)
theorem Xe:CF Tryz.prog 139:=cfo Tryz.func139 (by kernel_rfl)
theorem GD:CF Tryz.prog 200:=cfo Tryz.func200 (by kernel_rfl)
theorem GE:CF Tryz.prog 247:=cfo Tryz.func247 (by kernel_rfl)
abbrev U41:=Tryz.underlying41
theorem Ph:CF Tryz.prog 202:=cfo Tryz.func202 (by kernel_rfl)
theorem GF:CF Tryz.prog 249:=cfo Tryz.func249 (by kernel_rfl)
theorem BM:∀ (w:World) (s:ByteArray) (c:Int),(callFunc 286 #[.string s,.int .u8 c]).run Tryz.prog w= .ok (.value (.int .i64 (ixB s c))) w:=fun w s c=>Kk Tryz.func286 (by kernel_rfl) (by kernel_rfl) (by kernel_rfl) (e:=Extern.BytealgIndexByte.indexByte) (by kernel_rfl) (Yn s c w)
theorem Pi:CF Tryz.prog 203:=cfo Tryz.func203 (by kernel_rfl)
theorem GG:CF Tryz.prog 250:=cfo Tryz.func250 (by kernel_rfl)
theorem GH:CF Tryz.prog 287:=cfo Tryz.func287 (by kernel_rfl)
theorem GI:CF Tryz.prog 297:=cfo Tryz.func297 (by kernel_rfl)
theorem GJ:CF Tryz.prog 251:=cfo Tryz.func251 (by kernel_rfl)
theorem GK:CF Tryz.prog 252:=cfo Tryz.func252 (by kernel_rfl)
theorem GL:CF Tryz.prog 288:=cfo Tryz.func288 (by kernel_rfl)
theorem GM:CF Tryz.prog 298:=cfo Tryz.func298 (by kernel_rfl)
theorem Pj:(Tryz.prog.info? 9).map (fun i=>(i.zero,i.size,i.bytes))=some (some (.string ⟨#[]⟩),1,16):=by kernel_rfl
theorem Uw:CF Tryz.prog 79:=cfo Tryz.func79 (by kernel_rfl)
theorem BN:∀ (w:World) (q:Addr),(Instr.fieldAt 31 (.pointer (some q)) 1).run Tryz.prog w= .ok (.pointer (some (q.add 1))) w:=fun w q=>by kernel_rfl
abbrev U29:=Tryz.underlying29
theorem KB:CF Tryz.prog 76:=cfo Tryz.func76 (by kernel_rfl)
theorem GN:CF Tryz.prog 145:=cfo Tryz.func145 (by kernel_rfl)
theorem rN:(Tryz.prog.info? 85).map (·.size)=some 2:=by kernel_rfl
abbrev U85:=Tryz.underlying85
theorem KC:CF Tryz.prog 77:=cfo Tryz.func77 (by kernel_rfl)
theorem BO:∀ (w:World) (q:Addr),(Instr.fieldAt 85 (.pointer (some q)) 0).run Tryz.prog w= .ok (.pointer (some (q.add 0))) w:=fun w q=>by kernel_rfl
theorem BP:∀ (w:World) (q:Addr),(Instr.fieldAt 85 (.pointer (some q)) 1).run Tryz.prog w= .ok (.pointer (some (q.add 1))) w:=fun w q=>by kernel_rfl
theorem KD:CF Tryz.prog 80:=cfo Tryz.func80 (by kernel_rfl)
theorem BQ:CF Tryz.prog 81:=cfo Tryz.func81 (by kernel_rfl)
theorem KE:CF Tryz.prog 82:=cfo Tryz.func82 (by kernel_rfl)
theorem BR:CF Tryz.prog 83:=cfo Tryz.func83 (by kernel_rfl)
theorem Kw:CF Tryz.prog 33:=cfo Tryz.func33 (by kernel_rfl)
abbrev U54:=Tryz.underlying54
theorem iU:(Tryz.prog.info? 60).map (·.size)=some 3:=by kernel_rfl
abbrev U60:=Tryz.underlying60
theorem Gx:(Tryz.prog.info? 60).bind (·.zero)=some (.agg Mt.toArray):=by kernel_rfl
theorem BS:∀ (w:World) (q:Addr),(Instr.fieldAt 60 (.pointer (some q)) 0).run Tryz.prog w= .ok (.pointer (some (q.add 0))) w:=fun w q=>by kernel_rfl
theorem BT:∀ (w:World) (q:Addr),(Instr.fieldAt 60 (.pointer (some q)) 1).run Tryz.prog w= .ok (.pointer (some (q.add 1))) w:=fun w q=>by kernel_rfl
theorem BU:∀ (w:World) (q:Addr),(Instr.fieldAt 60 (.pointer (some q)) 2).run Tryz.prog w= .ok (.pointer (some (q.add 2))) w:=fun w q=>by kernel_rfl
abbrev U3:=Tryz.underlying3
theorem cf8:CF Tryz.prog 8:=cfo Tryz.func8 (by kernel_rfl)
theorem cf7:CF Tryz.prog 7:=cfo Tryz.func7 (by kernel_rfl)
theorem KF:CF Tryz.prog 26:=cfo Tryz.func26 (by kernel_rfl)
theorem KG:CF Tryz.prog 65:=cfo Tryz.func65 (by kernel_rfl)
theorem GO:CF Tryz.prog 141:=cfo Tryz.func141 (by kernel_rfl)
abbrev U22:=Tryz.underlying22
theorem G3:(Tryz.prog.info? 45).map (·.size)=some 6:=by kernel_rfl
abbrev U45:=Tryz.underlying45
theorem KH:CF Tryz.prog 66:=cfo Tryz.func66 (by kernel_rfl)
theorem BV:CF Tryz.prog 67:=cfo Tryz.func67 (by kernel_rfl)
theorem BW:∀ (w:World) (q:Addr),(Instr.fieldAt 45 (.pointer (some q)) 0).run Tryz.prog w= .ok (.pointer (some (q.add 0))) w:=fun w q=>by kernel_rfl
theorem BX:∀ (w:World) (q:Addr),(Instr.fieldAt 45 (.pointer (some q)) 1).run Tryz.prog w= .ok (.pointer (some (q.add 1))) w:=fun w q=>by kernel_rfl
theorem BZ:∀ (w:World) (q:Addr),(Instr.fieldAt 45 (.pointer (some q)) 2).run Tryz.prog w= .ok (.pointer (some (q.add 2))) w:=fun w q=>by kernel_rfl
theorem CA:∀ (w:World) (q:Addr),(Instr.fieldAt 45 (.pointer (some q)) 4).run Tryz.prog w= .ok (.pointer (some (q.add 4))) w:=fun w q=>by kernel_rfl
theorem GP:CF Tryz.prog 142:=cfo Tryz.func142 (by kernel_rfl)
theorem CB:∀ (w:World) (q:Addr),(Instr.fieldAt 45 (.pointer (some q)) 3).run Tryz.prog w= .ok (.pointer (some (q.add 3))) w:=fun w q=>by kernel_rfl
theorem CC:∀ (w:World) (q:Addr),(Instr.fieldAt 45 (.pointer (some q)) 5).run Tryz.prog w= .ok (.pointer (some (q.add 5))) w:=fun w q=>by kernel_rfl
abbrev U4:=Tryz.underlying4
theorem GQ:CF Tryz.prog 143:=cfo Tryz.func143 (by kernel_rfl)
theorem GR:(Tryz.prog.info? 206).bind (·.zero)=some (.agg #[.int .i64 0,.int .i64 0,.int .i64 0,.int .i64 0,.int .i64 0,.int .i64 0,.int .i64 0,.int .i64 0]):=by kernel_rfl
theorem Xf:(Tryz.prog.info? 206).map (·.size)=some 8:=by kernel_rfl
abbrev CD:=Tryz.underlying206
theorem sz3:(Tryz.prog.info? 3).map (·.size)=some 1:=by kernel_rfl
theorem CE:(Tryz.prog.info? 45).bind (·.zero)=some (.agg JZ.toArray):=by kernel_rfl
theorem KI:CF Tryz.prog 27:=cfo Tryz.func27 (by kernel_rfl)
theorem KJ:(Tryz.prog.info? 68).bind (·.zero)=some (.slice none 0 0):=by kernel_rfl
theorem Ux:CF Tryz.prog 69:=cfo Tryz.func69 (by kernel_rfl)
theorem Ji:CF Tryz.prog 115:=cfo Tryz.func115 (by kernel_rfl)
theorem Xg:CF Tryz.prog 167:=cfo Tryz.func167 (by kernel_rfl)
theorem GS:CF Tryz.prog 231:=cfo Tryz.func231 (by kernel_rfl)
theorem GT:CF Tryz.prog 280:=cfo Tryz.func280 (by kernel_rfl)
theorem zr9:(Tryz.prog.info? 9).bind (·.zero)=some (.string ⟨#[]⟩):=by kernel_rfl
theorem sz9:(Tryz.prog.info? 9).map (·.size)=some 1:=by kernel_rfl
theorem GU:(Tryz.prog.info? 136).bind (·.zero)=some (.nilFunc):=by kernel_rfl
theorem GV:(Tryz.prog.info? 136).map (·.size)=some 1:=by kernel_rfl
abbrev Kx:=Tryz.underlying136
theorem Kz:CF Tryz.prog 70:=cfo Tryz.func70 (by kernel_rfl)
theorem Ec:(Tryz.prog.info? 71).bind (·.zero)=some (.agg GC.toArray):=by kernel_rfl
theorem jT:(Tryz.prog.info? 71).map (·.size)=some 7:=by kernel_rfl
abbrev U71:=Tryz.underlying71
theorem CG:∀ (w:World) (q:Addr),(Instr.fieldAt 71 (.pointer (some q)) 3).run Tryz.prog w= .ok (.pointer (some (q.add 3))) w:=fun w q=>by kernel_rfl
theorem CH:∀ (w:World) (q:Addr),(Instr.fieldAt 71 (.pointer (some q)) 5).run Tryz.prog w= .ok (.pointer (some (q.add 5))) w:=fun w q=>by kernel_rfl
theorem sz2:(Tryz.prog.info? 2).map (·.size)=some 1:=by kernel_rfl
theorem CI:∀ (w:World) (q:Addr),(Instr.fieldAt 71 (.pointer (some q)) 6).run Tryz.prog w= .ok (.pointer (some (q.add 6))) w:=fun w q=>by kernel_rfl
theorem sz4:(Tryz.prog.info? 4).map (·.size)=some 1:=by kernel_rfl
theorem Ed:CF Tryz.prog 68:=cfo Tryz.func68 (by kernel_rfl)
abbrev U68:=Tryz.underlying68
theorem GW:(Tryz.prog.info? 71).map (fun i=>(i.zero,i.size,i.bytes))=some (some (.agg #[.int .i64 0,.string ⟨#[]⟩,.string ⟨#[]⟩,.string ⟨#[]⟩,.int .i64 0,.int .i64 0,.bool false]),7,80):=by kernel_rfl
theorem KK:(Tryz.prog.info? 68).map (·.size)=some 1:=by kernel_rfl
theorem Uy:CF Tryz.prog 72:=cfo Tryz.func72 (by kernel_rfl)
theorem CJ:∀ (w:World) (q:Addr),(Instr.fieldAt 71 (.pointer (some q)) 4).run Tryz.prog w= .ok (.pointer (some (q.add 4))) w:=fun w q=>by kernel_rfl
theorem Uz:CF Tryz.prog 71:=cfo Tryz.func71 (by kernel_rfl)
abbrev U40:=Tryz.underlying40
theorem GX:(Tryz.prog.info? 73).map (fun i=>(i.zero,i.size,i.bytes))=some (some (.agg #[.int .i64 0,.int .i64 0,.string ⟨#[]⟩,.string ⟨#[]⟩,.string ⟨#[]⟩,.int .i64 0,.int .i64 0,.bool false]),8,88):=by kernel_rfl
theorem cf6:CF Tryz.prog 6:=cfo Tryz.func6 (by kernel_rfl)
theorem iO:(Tryz.prog.info? 36).bind (·.zero)=some (.agg bO.toArray):=by kernel_rfl
theorem KL:(Tryz.prog.info? 64).bind (·.zero)=some (.agg #[.nilFunc,.nilFunc,.nilFunc,.nilFunc,.nilFunc,.nilFunc,.nilFunc,.nilFunc,.nilFunc,.nilFunc,.nilFunc]):=by kernel_rfl
theorem KM:(Tryz.prog.info? 64).map (·.size)=some 11:=by kernel_rfl
abbrev U43:=Tryz.underlying43
theorem G4:(Tryz.prog.info? 43).map (·.size)=some 16:=by kernel_rfl
theorem KN:CF Tryz.prog 23:=cfo Tryz.func23 (by kernel_rfl)
theorem Rw:∀ (w:World) (q:Addr),(Instr.fieldAt 43 (.pointer (some q)) 5).run Tryz.prog w= .ok (.pointer (some (q.add 5))) w:=fun w q=>by kernel_rfl
theorem G5:(Tryz.prog.info? 73).map (·.size)=some 8:=by kernel_rfl
abbrev U73:=Tryz.underlying73
theorem Pk:(Tryz.prog.info? 73).bind (·.zero)=some (.agg FP.toArray):=by kernel_rfl
theorem CK:∀ (w:World) (q:Addr),(Instr.fieldAt 73 (.pointer (some q)) 0).run Tryz.prog w= .ok (.pointer (some (q.add 0))) w:=fun w q=>by kernel_rfl
theorem CL:∀ (w:World) (q:Addr),(Instr.fieldAt 73 (.pointer (some q)) 1).run Tryz.prog w= .ok (.pointer (some (q.add 1))) w:=fun w q=>by kernel_rfl
theorem CM:CF Tryz.prog 61:=cfo Tryz.func61 (by kernel_rfl)
theorem CN:∀ (w:World) (q:Addr),(Instr.fieldAt 71 (.pointer (some q)) 2).run Tryz.prog w= .ok (.pointer (some (q.add 2))) w:=fun w q=>by kernel_rfl
theorem CO:∀ (w:World) (q:Addr),(Instr.fieldAt 71 (.pointer (some q)) 0).run Tryz.prog w= .ok (.pointer (some (q.add 0))) w:=fun w q=>by kernel_rfl
theorem CP:∀ (w:World) (q:Addr),(Instr.fieldAt 71 (.pointer (some q)) 1).run Tryz.prog w= .ok (.pointer (some (q.add 1))) w:=fun w q=>by kernel_rfl
theorem Yv:∀ (w:World) (q:Addr),(Instr.fieldAt 43 (.pointer (some q)) 10).run Tryz.prog w= .ok (.pointer (some (q.add 11))) w:=fun w q=>by kernel_rfl
theorem La:∀ (w:World) (q:Addr),(Instr.fieldAt 43 (.pointer (some q)) 6).run Tryz.prog w= .ok (.pointer (some (q.add 6))) w:=fun w q=>by kernel_rfl
theorem Va:CF Tryz.prog 62:=cfo Tryz.func62 (by kernel_rfl)
theorem Xh:CF Tryz.prog 140:=cfo Tryz.func140 (by kernel_rfl)
theorem GY:CF Tryz.prog 201:=cfo Tryz.func201 (by kernel_rfl)
theorem GZ:CF Tryz.prog 248:=cfo Tryz.func248 (by kernel_rfl)
theorem CQ:∀ (w:World) (q:Addr),(Instr.fieldAt 43 (.pointer (some q)) 0).run Tryz.prog w= .ok (.pointer (some (q.add 0))) w:=fun w q=>by kernel_rfl
theorem CR:∀ (w:World) (q:Addr),(Instr.fieldAt 43 (.pointer (some q)) 8).run Tryz.prog w= .ok (.pointer (some (q.add 8))) w:=fun w q=>by kernel_rfl
theorem Ag:∀ (w:World) (q:Addr),(Instr.fieldAt 43 (.pointer (some q)) 1).run Tryz.prog w= .ok (.pointer (some (q.add 1))) w:=fun w q=>by kernel_rfl
theorem Ft:∀ (w:World) (q:Addr),(Instr.fieldAt 43 (.pointer (some q)) 2).run Tryz.prog w= .ok (.pointer (some (q.add 2))) w:=fun w q=>by kernel_rfl
theorem CS:∀ (w:World) (q:Addr),(Instr.fieldAt 43 (.pointer (some q)) 3).run Tryz.prog w= .ok (.pointer (some (q.add 3))) w:=fun w q=>by kernel_rfl
theorem CT:∀ (w:World) (q:Addr),(Instr.fieldAt 43 (.pointer (some q)) 7).run Tryz.prog w= .ok (.pointer (some (q.add 7))) w:=fun w q=>by kernel_rfl
theorem Br:∀ (w:World) (q:Addr),(Instr.fieldAt 43 (.pointer (some q)) 11).run Tryz.prog w= .ok (.pointer (some (q.add 12))) w:=fun w q=>by kernel_rfl
theorem Fu:∀ (w:World) (q:Addr),(Instr.fieldAt 39 (.pointer (some q)) 0).run Tryz.prog w= .ok (.pointer (some (q.add 0))) w:=fun w q=>by kernel_rfl
theorem Lb:∀ (w:World) (q:Addr),(Instr.fieldAt 39 (.pointer (some q)) 1).run Tryz.prog w= .ok (.pointer (some (q.add 1))) w:=fun w q=>by kernel_rfl
theorem KO:CF Tryz.prog 63:=cfo Tryz.func63 (by kernel_rfl)
abbrev U34:=Tryz.underlying34
theorem CU:CF Tryz.prog 64:=cfo Tryz.func64 (by kernel_rfl)
theorem CV:∀ (w:World) (q:Addr),(Instr.fieldAt 39 (.pointer (some q)) 2).run Tryz.prog w= .ok (.pointer (some (q.add 2))) w:=fun w q=>by kernel_rfl
theorem CW:∀ (w:World) (q:Addr),(Instr.fieldAt 43 (.pointer (some q)) 9).run Tryz.prog w= .ok (.pointer (some (q.add 9))) w:=fun w q=>by kernel_rfl
theorem xU:CF Tryz.prog 24:=cfo Tryz.func24 (by kernel_rfl)
theorem bV:(Tryz.prog.info? 36).map (·.size)=some 10:=by kernel_rfl
abbrev U36:=Tryz.underlying36
abbrev U64:=Tryz.underlying64
theorem O5:(Tryz.prog.info? 63).map (·.size)=some 1:=by kernel_rfl
abbrev U63:=Tryz.underlying63
theorem Pm:CF Tryz.prog 25:=cfo Tryz.func25 (by kernel_rfl)
theorem Ah:∀ (w:World) (q:Addr),(Instr.fieldAt 82 (.pointer (some q)) 4).run Tryz.prog w= .ok (.pointer (some (q.add 6))) w:=fun w q=>by kernel_rfl
abbrev U79:=Tryz.underlying79
theorem A8:(Tryz.prog.info? 36).bind (·.zero)=some (.agg [.int .i64 0,.int .i64 0,.bool false,.int .i64 0,.slice none 0 0,.slice none 0 0,.slice none 0 0,.slice none 0 0,.slice none 0 0,.slice none 0 0].toArray):=by kernel_rfl
theorem K8:∀ (w:World) (ok:Nat→Prop),bI.R w ok qP [.int .i64 0,.int .i64 0,.bool false,.int .i64 0,.slice none 0 0,.slice none 0 0,.slice none 0 0,.slice none 0 0,.slice none 0 0,.slice none 0 0]:=fun w ok=>oF (Sl.nil _ _ _) (Sl.nil _ _ _) (Sl.nil _ _ _) (Sl.nil _ _ _) (Sl.nil _ _ _) (Sl.nil _ _ _)
theorem mI:Tryz.prog.follows .mixedOrders=true:=by kernel_rfl
theorem KP:CF Tryz.prog 22:=cfo Tryz.func22 (by kernel_rfl)
theorem Lc:∀ (w:World) (q:Addr),(Instr.fieldAt 82 (.pointer (some q)) 3).run Tryz.prog w= .ok (.pointer (some (q.add 4))) w:=fun w q=>by kernel_rfl
abbrev U78:=Tryz.underlying78
theorem fR:(Tryz.prog.info? 78).map (·.size)=some 2:=by kernel_rfl
theorem KQ:CF Tryz.prog 60:=cfo Tryz.func60 (by kernel_rfl)
theorem T8:(Tryz.prog.info? 78).bind (·.zero)=some (.agg #[.slice none 0 0,.slice none 0 0]):=by kernel_rfl
theorem Jj:CF Tryz.prog 127:=cfo Tryz.func127 (by kernel_rfl)
theorem Rx:∀ (w:World) (q:Addr),(Instr.fieldAt 78 (.pointer (some q)) 0).run Tryz.prog w= .ok (.pointer (some (q.add 0))) w:=fun w q=>by kernel_rfl
abbrev U75:=Tryz.underlying75
theorem sY:(Tryz.prog.info? 39).map (·.size)=some 4:=by kernel_rfl
abbrev U39:=Tryz.underlying39
theorem CX:(Tryz.prog.info? 39).bind (·.zero)=some (.agg FO.toArray):=by kernel_rfl
theorem Ld:(Tryz.prog.info? 3).bind (·.zero)=some (.int .i64 0):=by kernel_rfl
abbrev KR:=Tryz.underlying251
theorem R6:uY Tryz.prog 251 x2:=Uv (Maps.Keyed.of_law (deep_law_laid (by kernel_rfl) (m:=3) (by omega) (of_decide_eq_true (by kernel_rfl)) (by kernel_rfl) (by kernel_rfl))) KR U2 U2 (by kernel_rfl) ⟨by kernel_rfl,by kernel_rfl,by kernel_rfl,rfl,rfl⟩ (by kernel_rfl) (by kernel_rfl)
abbrev Ee:=Tryz.underlying249
theorem Ry:∀ (w:World) (q:Addr),(Instr.fieldAt 78 (.pointer (some q)) 1).run Tryz.prog w= .ok (.pointer (some (q.add 1))) w:=fun w q=>by kernel_rfl
abbrev U76:=Tryz.underlying76
theorem uZ:(Tryz.prog.info? 193).map (·.size)=some 3:=by kernel_rfl
theorem Yw:∀ (w:World) (q:Addr),(Instr.fieldAt 193 (.pointer (some q)) 0).run Tryz.prog w= .ok (.pointer (some (q.add 0))) w:=fun w q=>by kernel_rfl
theorem HA:CF Tryz.prog 190:=cfo Tryz.func190 (by kernel_rfl)
theorem HB:CF Tryz.prog 241:=cfo Tryz.func241 (by kernel_rfl)
theorem Pn:CF Tryz.prog 194:=cfo Tryz.func194 (by kernel_rfl)
theorem HC:CF Tryz.prog 242:=cfo Tryz.func242 (by kernel_rfl)
abbrev KS:=Tryz.underlying189
theorem Xi:CF Tryz.prog 128:=cfo Tryz.func128 (by kernel_rfl)
theorem Jk:CF Tryz.prog 193:=cfo Tryz.func193 (by kernel_rfl)
theorem HD:CF Tryz.prog 191:=cfo Tryz.func191 (by kernel_rfl)
theorem HE:CF Tryz.prog 243:=cfo Tryz.func243 (by kernel_rfl)
theorem HF:CF Tryz.prog 284:=cfo Tryz.func284 (by kernel_rfl)
abbrev Gy:=Tryz.underlying193
theorem HG:CF Tryz.prog 244:=cfo Tryz.func244 (by kernel_rfl)
abbrev KT:=Tryz.underlying254
theorem HI:CF Tryz.prog 192:=cfo Tryz.func192 (by kernel_rfl)
theorem Yx:∀ (w:World) (q:Addr),(Instr.fieldAt 193 (.pointer (some q)) 1).run Tryz.prog w= .ok (.pointer (some (q.add 1))) w:=fun w q=>by kernel_rfl
theorem Nt:∀ (w:World) (q:Addr),(Instr.fieldAt 193 (.pointer (some q)) 2).run Tryz.prog w= .ok (.pointer (some (q.add 2))) w:=fun w q=>by kernel_rfl
abbrev U32:=Tryz.underlying32
theorem sB:(Tryz.prog.info? 50).map (·.size)=some 4:=by kernel_rfl
abbrev U50:=Tryz.underlying50
theorem Vb:(Tryz.prog.info? 50).bind (·.zero)=some (.agg FN.toArray):=by kernel_rfl
theorem CY:∀ (w:World) (q:Addr),(Instr.fieldAt 50 (.pointer (some q)) 0).run Tryz.prog w= .ok (.pointer (some (q.add 0))) w:=fun w q=>by kernel_rfl
theorem CZ:∀ (w:World) (q:Addr),(Instr.fieldAt 50 (.pointer (some q)) 1).run Tryz.prog w= .ok (.pointer (some (q.add 1))) w:=fun w q=>by kernel_rfl
theorem DA:∀ (w:World) (q:Addr),(Instr.fieldAt 50 (.pointer (some q)) 2).run Tryz.prog w= .ok (.pointer (some (q.add 2))) w:=fun w q=>by kernel_rfl
theorem DB:∀ (w:World) (q:Addr),(Instr.fieldAt 50 (.pointer (some q)) 3).run Tryz.prog w= .ok (.pointer (some (q.add 3))) w:=fun w q=>by kernel_rfl
theorem Po:CF Tryz.prog 130:=cfo Tryz.func130 (by kernel_rfl)
theorem Jl:CF Tryz.prog 131:=cfo Tryz.func131 (by kernel_rfl)
theorem HJ:CF Tryz.prog 196:=cfo Tryz.func196 (by kernel_rfl)
theorem Xj:CF Tryz.prog 245:=cfo Tryz.func245 (by kernel_rfl)
theorem Jm:CF Tryz.prog 133:=cfo Tryz.func133 (by kernel_rfl)
theorem DC:(Tryz.prog.info? 193).map (fun i=>(i.zero,i.size,i.bytes))=some (some (.agg #[.int .i64 0,.int .i64 0,.slice none 0 0]),3,40):=by kernel_rfl
theorem fU{w:World}{os:List Ob}{rs:List Rp}{v:Value}{xs:List aC}(H:Sep w os rs)(hm:rSl aO v xs ∈ rs)(hl:xs.length ≤ LIM) :
    Calls Tryz.prog 133 [v].toArray w (Ret fun v' w'=>Sep w' (Row 193 aO v' xs::os) rs):=by
  obtain ⟨b,c,rfl⟩:=H.slform hm
  refine enter Tryz.func133 rfl Tryz.ntmps133 rfl fun a E=>?_
  simp only [sS,Nat.reduceAdd] at E
  refine wp_seq ?_
  refine wp_region_lit ?_
  refine aQ E (wn rfl) rfl rfl (cV E rfl rfl) ?_
  clear E;clear a;intro a E
  refine wpList_nil ?_
  refine aD ?_
  refine wp_seq ?_
  refine wp_seq ?_
  refine wp_region_lit ?_
  refine aQ E (wn rfl) rfl rfl (bD E rfl rfl) ?_
  clear E;clear a;intro a E
  refine aQ E (wn rfl) rfl rfl (C8 E rfl rfl rfl Tryz.underlying76) ?_
  clear E;clear a;intro a E
  refine wpList_nil ?_
  refine aD ?_
  refine qZ E rfl ?_ ?_
  · intro hb
    cases b with
    | some _=>cases hb
    | none=>
      obtain rfl:=H.sl_none hm
      refine wp_seq ?_
      refine wp_region_lit ?_
      refine aQ E (wn rfl) rfl rfl (cV E rfl rfl) ?_
      clear E;clear a;intro a E
      refine wpList_nil ?_
      refine aD ?_
      refine wp_ret ?_
      refine aP ?_
      refine bB E rfl rfl ?_
      exact H.nilRow 193 aO
  · intro hb
    refine wp_skip ?_
    refine aD ?_
    refine wp_seq ?_
    refine wp_region_lit ?_
    refine hG (e:=193) (d:=aO) (cs:=[]) (xs:=[]) E H (wn rfl) rfl rfl (ps:=[]) (parts:=[]) rfl rfl (by kernel_rfl) rfl rfl (fun ok hr=>Rows.nil _ _ _) ?_
    clear E H;clear a;clear w;intro v2 w a H E
    refine aQ E (wn rfl) rfl rfl (bD E rfl rfl) ?_
    clear E;clear a;intro a E
    refine eU (i:=0) E H (wn rfl) rfl rfl rfl rfl rfl rfl (lD hm) Tryz.underlying76 DC rfl (by simpa using hl) rfl ?_
    clear E H;clear a;clear w;intro v3 w a H E
    refine aQ E (wn rfl) rfl rfl (cV E rfl rfl) ?_
    clear E;clear a;intro a E
    refine wpList_nil ?_
    refine aD ?_
    refine wp_ret ?_
    refine bB E rfl rfl ?_
    exact H

theorem Le:(Tryz.prog.info? 76).map (·.size)=some 1:=by kernel_rfl
theorem Fv:CF Tryz.prog 137:=cfo Tryz.func137 (by kernel_rfl)
theorem Jn:(Tryz.prog.info? 50).map (fun i=>(i.zero,i.size,i.bytes))=some (some (.agg #[.int .i64 0,.int .i64 0,.string ⟨#[]⟩,.int .i64 0]),4,40):=by kernel_rfl
theorem fG{w:World}{os:List Ob}{rs:List Rp}{v:Value}{xs:List bK}(H:Sep w os rs)(hm:rSl aU v xs ∈ rs)(hl:xs.length ≤ LIM) :
    Calls Tryz.prog 137 [v].toArray w (Ret fun v' w'=>Sep w' (Row 50 aU v' xs::os) rs):=by
  obtain ⟨b,c,rfl⟩:=H.slform hm
  refine enter Tryz.func137 rfl Tryz.ntmps137 rfl fun a E=>?_
  simp only [sS,Nat.reduceAdd] at E
  refine wp_seq ?_
  refine wp_region_lit ?_
  refine aQ E (wn rfl) rfl rfl (cV E rfl rfl) ?_
  clear E;clear a;intro a E
  refine wpList_nil ?_
  refine aD ?_
  refine wp_seq ?_
  refine wp_seq ?_
  refine wp_region_lit ?_
  refine aQ E (wn rfl) rfl rfl (bD E rfl rfl) ?_
  clear E;clear a;intro a E
  refine aQ E (wn rfl) rfl rfl (C8 E rfl rfl rfl Tryz.underlying32) ?_
  clear E;clear a;intro a E
  refine wpList_nil ?_
  refine aD ?_
  refine qZ E rfl ?_ ?_
  · intro hb
    cases b with
    | some _=>cases hb
    | none=>
      obtain rfl:=H.sl_none hm
      refine wp_seq ?_
      refine wp_region_lit ?_
      refine aQ E (wn rfl) rfl rfl (cV E rfl rfl) ?_
      clear E;clear a;intro a E
      refine wpList_nil ?_
      refine aD ?_
      refine wp_ret ?_
      refine aP ?_
      refine bB E rfl rfl ?_
      exact H.nilRow 50 aU
  · intro hb
    refine wp_skip ?_
    refine aD ?_
    refine wp_seq ?_
    refine wp_region_lit ?_
    refine hG (e:=50) (d:=aU) (cs:=[]) (xs:=[]) E H (wn rfl) rfl rfl (ps:=[]) (parts:=[]) rfl rfl (by kernel_rfl) rfl rfl (fun ok hr=>Rows.nil _ _ _) ?_
    clear E H;clear a;clear w;intro v2 w a H E
    refine aQ E (wn rfl) rfl rfl (bD E rfl rfl) ?_
    clear E;clear a;intro a E
    refine eU (i:=0) E H (wn rfl) rfl rfl rfl rfl rfl rfl (lD hm) Tryz.underlying32 Jn rfl (by simpa using hl) rfl ?_
    clear E H;clear a;clear w;intro v3 w a H E
    refine aQ E (wn rfl) rfl rfl (cV E rfl rfl) ?_
    clear E;clear a;intro a E
    refine wpList_nil ?_
    refine aD ?_
    refine wp_ret ?_
    refine bB E rfl rfl ?_
    exact H

theorem HK:CF Tryz.prog 136:=cfo Tryz.func136 (by kernel_rfl)
theorem HL:CF Tryz.prog 199:=cfo Tryz.func199 (by kernel_rfl)
theorem Xk:CF Tryz.prog 138:=cfo Tryz.func138 (by kernel_rfl)
theorem HM:(Tryz.prog.info? 50).bind (·.zero)=some (.agg #[.int .i64 0,.int .i64 0,.string ⟨#[]⟩,.int .i64 0]):=by kernel_rfl
theorem Pp:(Tryz.prog.info? 32).map (·.size)=some 1:=by kernel_rfl
theorem Vc:CF Tryz.prog 58:=cfo Tryz.func58 (by kernel_rfl)
theorem DD:∀ (w:World) (q:Addr),(Instr.fieldAt 36 (.pointer (some q)) 0).run Tryz.prog w= .ok (.pointer (some (q.add 0))) w:=fun w q=>by kernel_rfl
abbrev U26:=Tryz.underlying26
theorem KU:CF Tryz.prog 21:=cfo Tryz.func21 (by kernel_rfl)
theorem DE:CF Tryz.prog 59:=cfo Tryz.func59 (by kernel_rfl)
theorem Xl:CF Tryz.prog 129:=cfo Tryz.func129 (by kernel_rfl)
theorem HN:CF Tryz.prog 195:=cfo Tryz.func195 (by kernel_rfl)
theorem Jo:CF Tryz.prog 134:=cfo Tryz.func134 (by kernel_rfl)
theorem Pq:(Tryz.prog.info? 39).map (fun i=>(i.zero,i.size,i.bytes))=some (some (.agg #[.int .i64 0,.int .i64 0,.string ⟨#[]⟩,.bool false]),4,40):=by kernel_rfl
theorem gR{w:World}{os:List Ob}{rs:List Rp}{v:Value}{xs:List aJ}(H:Sep w os rs)(hm:rSl aY v xs ∈ rs)(hl:xs.length ≤ LIM) :
    Calls Tryz.prog 134 [v].toArray w (Ret fun v' w'=>Sep w' (Row 39 aY v' xs::os) rs):=by
  obtain ⟨b,c,rfl⟩:=H.slform hm
  refine enter Tryz.func134 rfl Tryz.ntmps134 rfl fun a E=>?_
  simp only [sS,Nat.reduceAdd] at E
  refine wp_seq ?_
  refine wp_region_lit ?_
  refine aQ E (wn rfl) rfl rfl (cV E rfl rfl) ?_
  clear E;clear a;intro a E
  refine wpList_nil ?_
  refine aD ?_
  refine wp_seq ?_
  refine wp_seq ?_
  refine wp_region_lit ?_
  refine aQ E (wn rfl) rfl rfl (bD E rfl rfl) ?_
  clear E;clear a;intro a E
  refine aQ E (wn rfl) rfl rfl (C8 E rfl rfl rfl Tryz.underlying75) ?_
  clear E;clear a;intro a E
  refine wpList_nil ?_
  refine aD ?_
  refine qZ E rfl ?_ ?_
  · intro hb
    cases b with
    | some _=>cases hb
    | none=>
      obtain rfl:=H.sl_none hm
      refine wp_seq ?_
      refine wp_region_lit ?_
      refine aQ E (wn rfl) rfl rfl (cV E rfl rfl) ?_
      clear E;clear a;intro a E
      refine wpList_nil ?_
      refine aD ?_
      refine wp_ret ?_
      refine aP ?_
      refine bB E rfl rfl ?_
      exact H.nilRow 39 aY
  · intro hb
    refine wp_skip ?_
    refine aD ?_
    refine wp_seq ?_
    refine wp_region_lit ?_
    refine hG (e:=39) (d:=aY) (cs:=[]) (xs:=[]) E H (wn rfl) rfl rfl (ps:=[]) (parts:=[]) rfl rfl (by kernel_rfl) rfl rfl (fun ok hr=>Rows.nil _ _ _) ?_
    clear E H;clear a;clear w;intro v2 w a H E
    refine aQ E (wn rfl) rfl rfl (bD E rfl rfl) ?_
    clear E;clear a;intro a E
    refine eU (i:=0) E H (wn rfl) rfl rfl rfl rfl rfl rfl (lD hm) Tryz.underlying75 Pq rfl (by simpa using hl) rfl ?_
    clear E H;clear a;clear w;intro v3 w a H E
    refine aQ E (wn rfl) rfl rfl (cV E rfl rfl) ?_
    clear E;clear a;intro a E
    refine wpList_nil ?_
    refine aD ?_
    refine wp_ret ?_
    refine bB E rfl rfl ?_
    exact H

theorem HO:CF Tryz.prog 135:=cfo Tryz.func135 (by kernel_rfl)
theorem Pr:(Tryz.prog.info? 75).map (·.size)=some 1:=by kernel_rfl
theorem KV:CF Tryz.prog 20:=cfo Tryz.func20 (by kernel_rfl)
theorem DF:CF Tryz.prog 57:=cfo Tryz.func57 (by kernel_rfl)
theorem Ps:CF Tryz.prog 132:=cfo Tryz.func132 (by kernel_rfl)
theorem KW:CF Tryz.prog 13:=cfo Tryz.func13 (by kernel_rfl)
theorem DG:CF Tryz.prog 34:=cfo Tryz.func34 (by kernel_rfl)
theorem KX:CF Tryz.prog 84:=cfo Tryz.func84 (by kernel_rfl)
theorem KY:CF Tryz.prog 85:=cfo Tryz.func85 (by kernel_rfl)
theorem Vd:CF Tryz.prog 35:=cfo Tryz.func35 (by kernel_rfl)
theorem Ve:CF Tryz.prog 86:=cfo Tryz.func86 (by kernel_rfl)
theorem KZ:CF Tryz.prog 36:=cfo Tryz.func36 (by kernel_rfl)
abbrev U24:=Tryz.underlying24
theorem DH:∀ (w:World) (q:Addr),(Instr.fieldAt 82 (.pointer (some q)) 2).run Tryz.prog w= .ok (.pointer (some (q.add 3))) w:=fun w q=>by kernel_rfl
abbrev U56:=Tryz.underlying56
theorem LA:CF Tryz.prog 37:=cfo Tryz.func37 (by kernel_rfl)
theorem Lf:CF Tryz.prog 87:=cfo Tryz.func87 (by kernel_rfl)
theorem mU:(Tryz.prog.info? 89).map (·.size)=some 3:=by kernel_rfl
abbrev U89:=Tryz.underlying89
theorem LB:CF Tryz.prog 88:=cfo Tryz.func88 (by kernel_rfl)
theorem DI:∀ (w:World) (q:Addr),(Instr.fieldAt 89 (.pointer (some q)) 0).run Tryz.prog w= .ok (.pointer (some (q.add 0))) w:=fun w q=>by kernel_rfl
theorem DJ:∀ (w:World) (q:Addr),(Instr.fieldAt 89 (.pointer (some q)) 1).run Tryz.prog w= .ok (.pointer (some (q.add 1))) w:=fun w q=>by kernel_rfl
theorem DK:CF Tryz.prog 38:=cfo Tryz.func38 (by kernel_rfl)
theorem DL:CF Tryz.prog 89:=cfo Tryz.func89 (by kernel_rfl)
theorem LC:CF Tryz.prog 90:=cfo Tryz.func90 (by kernel_rfl)
theorem Rz:∀ (w:World) (q:Addr),(Instr.fieldAt 82 (.pointer (some q)) 1).run Tryz.prog w= .ok (.pointer (some (q.add 2))) w:=fun w q=>by kernel_rfl
theorem LD:CF Tryz.prog 91:=cfo Tryz.func91 (by kernel_rfl)
theorem Ef:CF Tryz.prog 45:=cfo Tryz.func45 (by kernel_rfl)
theorem DM:CF Tryz.prog 39:=cfo Tryz.func39 (by kernel_rfl)
theorem Fw:∀ (w:World) (q:Addr),(Instr.fieldAt 82 (.pointer (some q)) 0).run Tryz.prog w= .ok (.pointer (some (q.add 0))) w:=fun w q=>by kernel_rfl
theorem Vf:CF Tryz.prog 41:=cfo Tryz.func41 (by kernel_rfl)
theorem lR:(Tryz.prog.info? 31).bind (·.zero)=some (.agg #[.slice none 0 0,.slice none 0 0]):=by kernel_rfl
theorem HP:CF Tryz.prog 105:=cfo Tryz.func105 (by kernel_rfl)
theorem DN:(Tryz.prog.info? 48).bind (·.zero)=some (.agg Af.toArray):=by kernel_rfl
theorem HQ:(Tryz.prog.info? 226).bind (·.zero)=some (.agg #[.nilFunc,.nilFunc,.nilFunc,.nilFunc,.nilFunc,.nilFunc,.nilFunc,.nilFunc,.nilFunc,.nilFunc,.nilFunc]):=by kernel_rfl
theorem HR:(Tryz.prog.info? 226).map (·.size)=some 11:=by kernel_rfl
theorem A9:(Tryz.prog.info? 48).map (·.size)=some 5:=by kernel_rfl
theorem DO:CF Tryz.prog 28:=cfo Tryz.func28 (by kernel_rfl)
theorem Jp:(Tryz.prog.info? 62).map (fun i=>(i.zero,i.size,i.bytes))=some (some (.agg #[.string ⟨#[]⟩,.string ⟨#[]⟩,.int .i64 0,.int .i64 0,.int .i64 0]),5,56):=by kernel_rfl
theorem qD{w:World}{os:List Ob}{rs:List Rp}{v:Value}{xs:List aF}(H:Sep w os rs)(hm:rSl aG v xs ∈ rs)(hl:xs.length ≤ LIM) :
    Calls Tryz.prog 28 [v].toArray w (Ret fun v' w'=>Sep w' (Row 62 aG v' xs::os) rs):=by
  obtain ⟨b,c,rfl⟩:=H.slform hm
  refine enter Tryz.func28 rfl Tryz.ntmps28 rfl fun a E=>?_
  simp only [sS,Nat.reduceAdd] at E
  refine wp_seq ?_
  refine wp_region_lit ?_
  refine aQ E (wn rfl) rfl rfl (cV E rfl rfl) ?_
  clear E;clear a;intro a E
  refine wpList_nil ?_
  refine aD ?_
  refine wp_seq ?_
  refine wp_seq ?_
  refine wp_region_lit ?_
  refine aQ E (wn rfl) rfl rfl (bD E rfl rfl) ?_
  clear E;clear a;intro a E
  refine aQ E (wn rfl) rfl rfl (C8 E rfl rfl rfl Tryz.underlying28) ?_
  clear E;clear a;intro a E
  refine wpList_nil ?_
  refine aD ?_
  refine qZ E rfl ?_ ?_
  · intro hb
    cases b with
    | some _=>cases hb
    | none=>
      obtain rfl:=H.sl_none hm
      refine wp_seq ?_
      refine wp_region_lit ?_
      refine aQ E (wn rfl) rfl rfl (cV E rfl rfl) ?_
      clear E;clear a;intro a E
      refine wpList_nil ?_
      refine aD ?_
      refine wp_ret ?_
      refine aP ?_
      refine bB E rfl rfl ?_
      exact H.nilRow 62 aG
  · intro hb
    refine wp_skip ?_
    refine aD ?_
    refine wp_seq ?_
    refine wp_region_lit ?_
    refine hG (e:=62) (d:=aG) (cs:=[]) (xs:=[]) E H (wn rfl) rfl rfl (ps:=[]) (parts:=[]) rfl rfl (by kernel_rfl) rfl rfl (fun ok hr=>Rows.nil _ _ _) ?_
    clear E H;clear a;clear w;intro v2 w a H E
    refine aQ E (wn rfl) rfl rfl (bD E rfl rfl) ?_
    clear E;clear a;intro a E
    refine eU (i:=0) E H (wn rfl) rfl rfl rfl rfl rfl rfl (lD hm) Tryz.underlying28 Jp rfl (by simpa using hl) rfl ?_
    clear E H;clear a;clear w;intro v3 w a H E
    refine aQ E (wn rfl) rfl rfl (cV E rfl rfl) ?_
    clear E;clear a;intro a E
    refine wpList_nil ?_
    refine aD ?_
    refine wp_ret ?_
    refine bB E rfl rfl ?_
    exact H

theorem DP:CF Tryz.prog 29:=cfo Tryz.func29 (by kernel_rfl)
theorem Jq:(Tryz.prog.info? 85).map (fun i=>(i.zero,i.size,i.bytes))=some (some (.agg #[.string ⟨#[]⟩,.int .i64 0]),2,24):=by kernel_rfl
theorem qE{w:World}{os:List Ob}{rs:List Rp}{v:Value}{xs:List aI}(H:Sep w os rs)(hm:rSl aK v xs ∈ rs)(hl:xs.length ≤ LIM) :
    Calls Tryz.prog 29 [v].toArray w (Ret fun v' w'=>Sep w' (Row 85 aK v' xs::os) rs):=by
  obtain ⟨b,c,rfl⟩:=H.slform hm
  refine enter Tryz.func29 rfl Tryz.ntmps29 rfl fun a E=>?_
  simp only [sS,Nat.reduceAdd] at E
  refine wp_seq ?_
  refine wp_region_lit ?_
  refine aQ E (wn rfl) rfl rfl (cV E rfl rfl) ?_
  clear E;clear a;intro a E
  refine wpList_nil ?_
  refine aD ?_
  refine wp_seq ?_
  refine wp_seq ?_
  refine wp_region_lit ?_
  refine aQ E (wn rfl) rfl rfl (bD E rfl rfl) ?_
  clear E;clear a;intro a E
  refine aQ E (wn rfl) rfl rfl (C8 E rfl rfl rfl Tryz.underlying29) ?_
  clear E;clear a;intro a E
  refine wpList_nil ?_
  refine aD ?_
  refine qZ E rfl ?_ ?_
  · intro hb
    cases b with
    | some _=>cases hb
    | none=>
      obtain rfl:=H.sl_none hm
      refine wp_seq ?_
      refine wp_region_lit ?_
      refine aQ E (wn rfl) rfl rfl (cV E rfl rfl) ?_
      clear E;clear a;intro a E
      refine wpList_nil ?_
      refine aD ?_
      refine wp_ret ?_
      refine aP ?_
      refine bB E rfl rfl ?_
      exact H.nilRow 85 aK
  · intro hb
    refine wp_skip ?_
    refine aD ?_
    refine wp_seq ?_
    refine wp_region_lit ?_
    refine hG (e:=85) (d:=aK) (cs:=[]) (xs:=[]) E H (wn rfl) rfl rfl (ps:=[]) (parts:=[]) rfl rfl (by kernel_rfl) rfl rfl (fun ok hr=>Rows.nil _ _ _) ?_
    clear E H;clear a;clear w;intro v2 w a H E
    refine aQ E (wn rfl) rfl rfl (bD E rfl rfl) ?_
    clear E;clear a;intro a E
    refine eU (i:=0) E H (wn rfl) rfl rfl rfl rfl rfl rfl (lD hm) Tryz.underlying29 Jq rfl (by simpa using hl) rfl ?_
    clear E H;clear a;clear w;intro v3 w a H E
    refine aQ E (wn rfl) rfl rfl (cV E rfl rfl) ?_
    clear E;clear a;intro a E
    refine wpList_nil ?_
    refine aD ?_
    refine wp_ret ?_
    refine bB E rfl rfl ?_
    exact H

abbrev O6:=Tryz.underlying226
theorem E6:(Tryz.prog.info? 223).map (·.size)=some 1:=by kernel_rfl
abbrev O7:=Tryz.underlying223
theorem HS:CF Tryz.prog 166:=cfo Tryz.func166 (by kernel_rfl)
theorem Pu:CF Tryz.prog 227:=cfo Tryz.func227 (by kernel_rfl)
theorem HT:(Tryz.prog.info? 139).bind (·.zero)=some (.nilFunc):=by kernel_rfl
theorem HU:(Tryz.prog.info? 139).map (·.size)=some 1:=by kernel_rfl
abbrev Pv:=Tryz.underlying225
theorem Yy:∀ (w:World) (q:Addr),(Instr.fieldAt 228 (.pointer (some q)) 0).run Tryz.prog w= .ok (.pointer (some (q.add 0))) w:=fun w q=>by kernel_rfl
theorem HV:CF Tryz.prog 229:=cfo Tryz.func229 (by kernel_rfl)
theorem Xm:CF Tryz.prog 230:=cfo Tryz.func230 (by kernel_rfl)
abbrev LE:=Tryz.underlying139
theorem Pw:CF Tryz.prog 279:=cfo Tryz.func279 (by kernel_rfl)
theorem Yz:∀ (w:World) (q:Addr),(Instr.fieldAt 228 (.pointer (some q)) 1).run Tryz.prog w= .ok (.pointer (some (q.add 2))) w:=fun w q=>by kernel_rfl
theorem DQ:∀ (w:World) (q:Addr),(Instr.fieldAt 48 (.pointer (some q)) 4).run Tryz.prog w= .ok (.pointer (some (q.add 4))) w:=fun w q=>by kernel_rfl
theorem Px:CF Tryz.prog 222:=cfo Tryz.func222 (by kernel_rfl)
theorem DS:(Tryz.prog.info? 41).map (·.size)=some 1:=by kernel_rfl
theorem Vg:(Tryz.prog.info? 62).bind (·.zero)=some (.agg GA.toArray):=by kernel_rfl
theorem HW:(Tryz.prog.info? 62).bind (·.zero)=some (.agg #[.string ⟨#[]⟩,.string ⟨#[]⟩,.int .i64 0,.int .i64 0,.int .i64 0]):=by kernel_rfl
theorem Gz:(Tryz.prog.info? 28).map (·.size)=some 1:=by kernel_rfl
theorem HX:CF Tryz.prog 165:=cfo Tryz.func165 (by kernel_rfl)
theorem HY:CF Tryz.prog 164:=cfo Tryz.func164 (by kernel_rfl)
theorem Bs:CF Tryz.prog 217:=cfo Tryz.func217 (by kernel_rfl)
theorem Py:CF Tryz.prog 223:=cfo Tryz.func223 (by kernel_rfl)
theorem HZ:CF Tryz.prog 275:=cfo Tryz.func275 (by kernel_rfl)
theorem Xn:CF Tryz.prog 276:=cfo Tryz.func276 (by kernel_rfl)
theorem Lg:CF Tryz.prog 53:=cfo Tryz.func53 (by kernel_rfl)
theorem IA:CF Tryz.prog 125:=cfo Tryz.func125 (by kernel_rfl)
theorem Sa:∀ (w:World) (s t:ByteArray),(callFunc 181 #[.string s,.string t]).run Tryz.prog w= .ok (.value (.int .i64 (Extern.BytealgCompare.cmp s t))) w:=fun w s t=>Kk Tryz.func181 (by kernel_rfl) (by kernel_rfl) (by kernel_rfl) (e:=Extern.BytealgCompare.compare) (by kernel_rfl) (Uk s t w)
theorem T9:CF Tryz.prog 218:=cfo Tryz.func218 (by kernel_rfl)
theorem IB:CF Tryz.prog 163:=cfo Tryz.func163 (by kernel_rfl)
theorem Fx:∀ (w:World) (q:Addr),(Op.equal 269 (.pointer (some q)) (.pointer none)).run Tryz.prog w= .ok false w:=fun w q=>by kernel_rfl
theorem Fy:∀ w:World,(Op.equal 269 (.pointer none) (.pointer none)).run Tryz.prog w= .ok true w:=fun w=>by kernel_rfl
theorem DT:∀ (w:World) (q:Addr),(Instr.fieldAt 48 (.pointer (some q)) 2).run Tryz.prog w= .ok (.pointer (some (q.add 2))) w:=fun w q=>by kernel_rfl
theorem DU:∀ (w:World) (q:Addr),(Instr.fieldAt 48 (.pointer (some q)) 3).run Tryz.prog w= .ok (.pointer (some (q.add 3))) w:=fun w q=>by kernel_rfl
theorem IC:CF Tryz.prog 162:=cfo Tryz.func162 (by kernel_rfl)
theorem ID:CF Tryz.prog 161:=cfo Tryz.func161 (by kernel_rfl)
theorem IE:CF Tryz.prog 160:=cfo Tryz.func160 (by kernel_rfl)
theorem Pz:CF Tryz.prog 219:=cfo Tryz.func219 (by kernel_rfl)
theorem Qa:CF Tryz.prog 270:=cfo Tryz.func270 (by kernel_rfl)
theorem Xo:CF Tryz.prog 271:=cfo Tryz.func271 (by kernel_rfl)
theorem Qb:CF Tryz.prog 272:=cfo Tryz.func272 (by kernel_rfl)
theorem U1:(Tryz.prog.info? 29).map (·.size)=some 1:=by kernel_rfl
theorem IF:CF Tryz.prog 228:=cfo Tryz.func228 (by kernel_rfl)
theorem Qc:CF Tryz.prog 273:=cfo Tryz.func273 (by kernel_rfl)
theorem IG:CF Tryz.prog 159:=cfo Tryz.func159 (by kernel_rfl)
theorem IH:CF Tryz.prog 226:=cfo Tryz.func226 (by kernel_rfl)
theorem II:CF Tryz.prog 158:=cfo Tryz.func158 (by kernel_rfl)
theorem IJ:CF Tryz.prog 220:=cfo Tryz.func220 (by kernel_rfl)
theorem IK:CF Tryz.prog 221:=cfo Tryz.func221 (by kernel_rfl)
theorem IL:CF Tryz.prog 274:=cfo Tryz.func274 (by kernel_rfl)
theorem Xp:CF Tryz.prog 149:=cfo Tryz.func149 (by kernel_rfl)
theorem IM:CF Tryz.prog 224:=cfo Tryz.func224 (by kernel_rfl)
theorem IP:CF Tryz.prog 225:=cfo Tryz.func225 (by kernel_rfl)
theorem DV:∀ (w:World) (q:Addr),(Instr.fieldAt 48 (.pointer (some q)) 1).run Tryz.prog w= .ok (.pointer (some (q.add 1))) w:=fun w q=>by kernel_rfl
theorem IQ:CF Tryz.prog 157:=cfo Tryz.func157 (by kernel_rfl)
theorem DW:∀ (w:World) (q:Addr),(Instr.fieldAt 48 (.pointer (some q)) 0).run Tryz.prog w= .ok (.pointer (some (q.add 0))) w:=fun w q=>by kernel_rfl
abbrev U48:=Tryz.underlying48
abbrev U27:=Tryz.underlying27
theorem IU:(Tryz.prog.info? 48).map (fun i=>(i.zero,i.size,i.bytes))=some (some (.agg #[.int .i64 0,.string ⟨#[]⟩,.string ⟨#[]⟩,.int .i64 0,.slice none 0 0]),5,72):=by kernel_rfl
theorem LF:CF Tryz.prog 92:=cfo Tryz.func92 (by kernel_rfl)
theorem Jr:CF Tryz.prog 148:=cfo Tryz.func148 (by kernel_rfl)
theorem IV:CF Tryz.prog 213:=cfo Tryz.func213 (by kernel_rfl)
theorem IW:CF Tryz.prog 257:=cfo Tryz.func257 (by kernel_rfl)
theorem Xq:CF Tryz.prog 258:=cfo Tryz.func258 (by kernel_rfl)
theorem DX:∀ (w:World) (q:Addr),(Instr.fieldAt 39 (.pointer (some q)) 3).run Tryz.prog w= .ok (.pointer (some (q.add 3))) w:=fun w q=>by kernel_rfl
theorem IX:CF Tryz.prog 259:=cfo Tryz.func259 (by kernel_rfl)
theorem IY:(Tryz.prog.info? 39).bind (·.zero)=some (.agg #[.int .i64 0,.int .i64 0,.string ⟨#[]⟩,.bool false]):=by kernel_rfl
theorem LG:CF Tryz.prog 19:=cfo Tryz.func19 (by kernel_rfl)
theorem LH:CF Tryz.prog 56:=cfo Tryz.func56 (by kernel_rfl)
theorem Qd:CF Tryz.prog 118:=cfo Tryz.func118 (by kernel_rfl)
theorem Xr:CF Tryz.prog 119:=cfo Tryz.func119 (by kernel_rfl)
theorem Xs:CF Tryz.prog 168:=cfo Tryz.func168 (by kernel_rfl)
theorem Qe:CF Tryz.prog 110:=cfo Tryz.func110 (by kernel_rfl)
theorem DY:CF Tryz.prog 30:=cfo Tryz.func30 (by kernel_rfl)
theorem IZ:(Tryz.prog.info? 60).map (fun i=>(i.zero,i.size,i.bytes))=some (some (.agg #[.string ⟨#[]⟩,.int .i64 0,.int .i64 0]),3,32):=by kernel_rfl
theorem oZ{w:World}{os:List Ob}{rs:List Rp}{v:Value}{xs:List aH}(H:Sep w os rs)(hm:rSl aR v xs ∈ rs)(hl:xs.length ≤ LIM) :
    Calls Tryz.prog 30 [v].toArray w (Ret fun v' w'=>Sep w' (Row 60 aR v' xs::os) rs):=by
  obtain ⟨b,c,rfl⟩:=H.slform hm
  refine enter Tryz.func30 rfl Tryz.ntmps30 rfl fun a E=>?_
  simp only [sS,Nat.reduceAdd] at E
  refine wp_seq ?_
  refine wp_region_lit ?_
  refine aQ E (wn rfl) rfl rfl (cV E rfl rfl) ?_
  clear E;clear a;intro a E
  refine wpList_nil ?_
  refine aD ?_
  refine wp_seq ?_
  refine wp_seq ?_
  refine wp_region_lit ?_
  refine aQ E (wn rfl) rfl rfl (bD E rfl rfl) ?_
  clear E;clear a;intro a E
  refine aQ E (wn rfl) rfl rfl (C8 E rfl rfl rfl Tryz.underlying54) ?_
  clear E;clear a;intro a E
  refine wpList_nil ?_
  refine aD ?_
  refine qZ E rfl ?_ ?_
  · intro hb
    cases b with
    | some _=>cases hb
    | none=>
      obtain rfl:=H.sl_none hm
      refine wp_seq ?_
      refine wp_region_lit ?_
      refine aQ E (wn rfl) rfl rfl (cV E rfl rfl) ?_
      clear E;clear a;intro a E
      refine wpList_nil ?_
      refine aD ?_
      refine wp_ret ?_
      refine aP ?_
      refine bB E rfl rfl ?_
      exact H.nilRow 60 aR
  · intro hb
    refine wp_skip ?_
    refine aD ?_
    refine wp_seq ?_
    refine wp_region_lit ?_
    refine hG (e:=60) (d:=aR) (cs:=[]) (xs:=[]) E H (wn rfl) rfl rfl (ps:=[]) (parts:=[]) rfl rfl (by kernel_rfl) rfl rfl (fun ok hr=>Rows.nil _ _ _) ?_
    clear E H;clear a;clear w;intro v2 w a H E
    refine aQ E (wn rfl) rfl rfl (bD E rfl rfl) ?_
    clear E;clear a;intro a E
    refine eU (i:=0) E H (wn rfl) rfl rfl rfl rfl rfl rfl (lD hm) Tryz.underlying54 IZ rfl (by simpa using hl) rfl ?_
    clear E H;clear a;clear w;intro v3 w a H E
    refine aQ E (wn rfl) rfl rfl (cV E rfl rfl) ?_
    clear E;clear a;intro a E
    refine wpList_nil ?_
    refine aD ?_
    refine wp_ret ?_
    refine bB E rfl rfl ?_
    exact H

theorem Xt:CF Tryz.prog 121:=cfo Tryz.func121 (by kernel_rfl)
theorem G6:CF Tryz.prog 47:=cfo Tryz.func47 (by kernel_rfl)
theorem LI:(Tryz.prog.info? 96).bind (·.zero)=some (.nilFunc):=by kernel_rfl
theorem LJ:(Tryz.prog.info? 96).map (·.size)=some 1:=by kernel_rfl
theorem JA:CF Tryz.prog 113:=cfo Tryz.func113 (by kernel_rfl)
theorem JB:CF Tryz.prog 114:=cfo Tryz.func114 (by kernel_rfl)
abbrev U96:=Tryz.underlying96
theorem Xu:CF Tryz.prog 112:=cfo Tryz.func112 (by kernel_rfl)
theorem JC:CF Tryz.prog 116:=cfo Tryz.func116 (by kernel_rfl)
theorem LK:(Tryz.prog.info? 85).bind (·.zero)=some (.agg #[.string (ByteArray.mk #[]),.int .i64 0]):=by kernel_rfl
theorem JD:CF Tryz.prog 117:=cfo Tryz.func117 (by kernel_rfl)
theorem Vh:(Tryz.prog.info? 54).map (·.size)=some 1:=by kernel_rfl
theorem LL:CF Tryz.prog 18:=cfo Tryz.func18 (by kernel_rfl)
theorem Vi:CF Tryz.prog 43:=cfo Tryz.func43 (by kernel_rfl)
theorem JE:CF Tryz.prog 108:=cfo Tryz.func108 (by kernel_rfl)
theorem JF:CF Tryz.prog 109:=cfo Tryz.func109 (by kernel_rfl)
theorem LM:CF Tryz.prog 48:=cfo Tryz.func48 (by kernel_rfl)
theorem LN:CF Tryz.prog 49:=cfo Tryz.func49 (by kernel_rfl)
theorem Xv:CF Tryz.prog 120:=cfo Tryz.func120 (by kernel_rfl)
theorem DZ:CF Tryz.prog 46:=cfo Tryz.func46 (by kernel_rfl)
theorem Vj:CF Tryz.prog 94:=cfo Tryz.func94 (by kernel_rfl)
theorem JG:CF Tryz.prog 111:=cfo Tryz.func111 (by kernel_rfl)
theorem LO:CF Tryz.prog 50:=cfo Tryz.func50 (by kernel_rfl)
theorem JH:CF Tryz.prog 122:=cfo Tryz.func122 (by kernel_rfl)
theorem LP:CF Tryz.prog 51:=cfo Tryz.func51 (by kernel_rfl)
theorem LQ:CF Tryz.prog 54:=cfo Tryz.func54 (by kernel_rfl)
theorem LR:CF Tryz.prog 17:=cfo Tryz.func17 (by kernel_rfl)
theorem LS:CF Tryz.prog 44:=cfo Tryz.func44 (by kernel_rfl)
theorem LT:CF Tryz.prog 16:=cfo Tryz.func16 (by kernel_rfl)
theorem Sb:∀ (w:World) (q:Addr),(Instr.fieldAt 82 (.pointer (some q)) 6).run Tryz.prog w= .ok (.pointer (some (q.add 8))) w:=fun w q=>by kernel_rfl
theorem EA:∀ (w:World) (q:Addr),(Instr.fieldAt 43 (.pointer (some q)) 4).run Tryz.prog w= .ok (.pointer (some (q.add 4))) w:=fun w q=>by kernel_rfl
theorem LU:CF Tryz.prog 15:=cfo Tryz.func15 (by kernel_rfl)
theorem Lh:∀ (w:World) (q:Addr),(Instr.fieldAt 82 (.pointer (some q)) 5).run Tryz.prog w= .ok (.pointer (some (q.add 7))) w:=fun w q=>by kernel_rfl
abbrev U80:=Tryz.underlying80
theorem Fz:(Tryz.prog.info? 100).bind (·.zero)=some (.agg [.bool false,.slice none 0 0,.int .i64 0,.int .i64 0,.bool false,.int .i64 0,.slice none 0 0,.slice none 0 0,.slice none 0 0,.slice none 0 0,.slice none 0 0,.slice none 0 0].toArray):=by kernel_rfl
theorem Js:∀ (w:World) (ok:Nat→Prop),cW.R w ok O4 [.bool false,.slice none 0 0,.int .i64 0,.int .i64 0,.bool false,.int .i64 0,.slice none 0 0,.slice none 0 0,.slice none 0 0,.slice none 0 0,.slice none 0 0,.slice none 0 0]:=fun w ok=>D3 (Sl.nil _ _ _) (Sl.nil _ _ _) (Sl.nil _ _ _) (Sl.nil _ _ _) (Sl.nil _ _ _) (Sl.nil _ _ _) (Sl.nil _ _ _)
theorem Jt:(Tryz.prog.info? 100).bind (·.zero)=some (.agg FQ.toArray):=by kernel_rfl
theorem Ju:(Tryz.prog.info? 100).map (·.size)=some 12:=by kernel_rfl
theorem Za:∀ (w:World) (q:Addr),(Instr.fieldAt 100 (.pointer (some q)) 0).run Tryz.prog w= .ok (.pointer (some (q.add 0))) w:=fun w q=>by kernel_rfl
theorem LV:CF Tryz.prog 42:=cfo Tryz.func42 (by kernel_rfl)
theorem Vk:CF Tryz.prog 31:=cfo Tryz.func31 (by kernel_rfl)
theorem JI:(Tryz.prog.info? 89).map (fun i=>(i.zero,i.size,i.bytes))=some (some (.agg #[.string ⟨#[]⟩,.int .i64 0,.int .i64 0]),3,32):=by kernel_rfl
theorem kO{w:World}{os:List Ob}{rs:List Rp}{v:Value}{xs:List aM}(H:Sep w os rs)(hm:rSl bG v xs ∈ rs)(hl:xs.length ≤ LIM) :
    Calls Tryz.prog 31 [v].toArray w (Ret fun v' w'=>Sep w' (Row 89 bG v' xs::os) rs):=by
  obtain ⟨b,c,rfl⟩:=H.slform hm
  refine enter Tryz.func31 rfl Tryz.ntmps31 rfl fun a E=>?_
  simp only [sS,Nat.reduceAdd] at E
  refine wp_seq ?_
  refine wp_region_lit ?_
  refine aQ E (wn rfl) rfl rfl (cV E rfl rfl) ?_
  clear E;clear a;intro a E
  refine wpList_nil ?_
  refine aD ?_
  refine wp_seq ?_
  refine wp_seq ?_
  refine wp_region_lit ?_
  refine aQ E (wn rfl) rfl rfl (bD E rfl rfl) ?_
  clear E;clear a;intro a E
  refine aQ E (wn rfl) rfl rfl (C8 E rfl rfl rfl Tryz.underlying56) ?_
  clear E;clear a;intro a E
  refine wpList_nil ?_
  refine aD ?_
  refine qZ E rfl ?_ ?_
  · intro hb
    cases b with
    | some _=>cases hb
    | none=>
      obtain rfl:=H.sl_none hm
      refine wp_seq ?_
      refine wp_region_lit ?_
      refine aQ E (wn rfl) rfl rfl (cV E rfl rfl) ?_
      clear E;clear a;intro a E
      refine wpList_nil ?_
      refine aD ?_
      refine wp_ret ?_
      refine aP ?_
      refine bB E rfl rfl ?_
      exact H.nilRow 89 bG
  · intro hb
    refine wp_skip ?_
    refine aD ?_
    refine wp_seq ?_
    refine wp_region_lit ?_
    refine hG (e:=89) (d:=bG) (cs:=[]) (xs:=[]) E H (wn rfl) rfl rfl (ps:=[]) (parts:=[]) rfl rfl (by kernel_rfl) rfl rfl (fun ok hr=>Rows.nil _ _ _) ?_
    clear E H;clear a;clear w;intro v2 w a H E
    refine aQ E (wn rfl) rfl rfl (bD E rfl rfl) ?_
    clear E;clear a;intro a E
    refine eU (i:=0) E H (wn rfl) rfl rfl rfl rfl rfl rfl (lD hm) Tryz.underlying56 JI rfl (by simpa using hl) rfl ?_
    clear E H;clear a;clear w;intro v3 w a H E
    refine aQ E (wn rfl) rfl rfl (cV E rfl rfl) ?_
    clear E;clear a;intro a E
    refine wpList_nil ?_
    refine aD ?_
    refine wp_ret ?_
    refine bB E rfl rfl ?_
    exact H

theorem JJ:CF Tryz.prog 106:=cfo Tryz.func106 (by kernel_rfl)
theorem Xw:CF Tryz.prog 107:=cfo Tryz.func107 (by kernel_rfl)
theorem Vl:(Tryz.prog.info? 89).bind (·.zero)=some (.agg GB.toArray):=by kernel_rfl
theorem JK:(Tryz.prog.info? 89).bind (·.zero)=some (.agg #[.string ⟨#[]⟩,.int .i64 0,.int .i64 0]):=by kernel_rfl
theorem EB:(Tryz.prog.info? 56).map (·.size)=some 1:=by kernel_rfl
theorem Zb:∀ (w:World) (q:Addr),(Instr.fieldAt 100 (.pointer (some q)) 2).run Tryz.prog w= .ok (.pointer (some (q.add 2))) w:=fun w q=>by kernel_rfl
theorem EC:∀ (w:World) (q:Addr),(Instr.fieldAt 36 (.pointer (some q)) 2).run Tryz.prog w= .ok (.pointer (some (q.add 2))) w:=fun w q=>by kernel_rfl
theorem Zc:∀ (w:World) (q:Addr),(Instr.fieldAt 100 (.pointer (some q)) 1).run Tryz.prog w= .ok (.pointer (some (q.add 1))) w:=fun w q=>by kernel_rfl
theorem LW:CF Tryz.prog 14:=cfo Tryz.func14 (by kernel_rfl)
theorem LX:CF Tryz.prog 40:=cfo Tryz.func40 (by kernel_rfl)
theorem LY:CF Tryz.prog 93:=cfo Tryz.func93 (by kernel_rfl)
theorem LZ:CF Tryz.prog 95:=cfo Tryz.func95 (by kernel_rfl)
theorem ED:∀ (w:World) (q:Addr),(Instr.fieldAt 89 (.pointer (some q)) 2).run Tryz.prog w= .ok (.pointer (some (q.add 2))) w:=fun w q=>by kernel_rfl
theorem MA:CF Tryz.prog 96:=cfo Tryz.func96 (by kernel_rfl)
theorem MB:(Tryz.prog.info? 2).bind (·.zero)=some (.int .i64 0):=by kernel_rfl
abbrev EE:=Tryz.underlying214
theorem Qf:CF Tryz.prog 97:=cfo Tryz.func97 (by kernel_rfl)
theorem MC:CF Tryz.prog 98:=cfo Tryz.func98 (by kernel_rfl)
theorem JL:CF Tryz.prog 150:=cfo Tryz.func150 (by kernel_rfl)
theorem MD:CF Tryz.prog 99:=cfo Tryz.func99 (by kernel_rfl)
abbrev EF:=Tryz.underlying157
theorem JM:CF Tryz.prog 101:=cfo Tryz.func101 (by kernel_rfl)
theorem JN:CF Tryz.prog 100:=cfo Tryz.func100 (by kernel_rfl)
theorem JO:CF Tryz.prog 102:=cfo Tryz.func102 (by kernel_rfl)
theorem Xx:CF Tryz.prog 103:=cfo Tryz.func103 (by kernel_rfl)
theorem JP:CF Tryz.prog 104:=cfo Tryz.func104 (by kernel_rfl)
theorem EG:∀ (w:World) (q:Addr),(Instr.fieldAt 36 (.pointer (some q)) 4).run Tryz.prog w= .ok (.pointer (some (q.add 4))) w:=fun w q=>by kernel_rfl
theorem cf9:CF Tryz.prog 9:=cfo Tryz.func9 (by kernel_rfl)
theorem EH:∀ (w:World) (q:Addr),(Instr.fieldAt 36 (.pointer (some q)) 3).run Tryz.prog w= .ok (.pointer (some (q.add 3))) w:=fun w q=>by kernel_rfl
theorem EI:∀ (w:World) (q:Addr),(Instr.fieldAt 36 (.pointer (some q)) 5).run Tryz.prog w= .ok (.pointer (some (q.add 5))) w:=fun w q=>by kernel_rfl
theorem ME:CF Tryz.prog 10:=cfo Tryz.func10 (by kernel_rfl)
theorem MF:CF Tryz.prog 11:=cfo Tryz.func11 (by kernel_rfl)
theorem EJ:∀ (w:World) (q:Addr),(Instr.fieldAt 36 (.pointer (some q)) 6).run Tryz.prog w= .ok (.pointer (some (q.add 7))) w:=fun w q=>by kernel_rfl
def tb:Tb:=⟨[(31,0,0),(31,1,1),(36,0,0),(36,2,2),(36,3,3),(36,4,4),(36,5,5),(36,6,7),(39,0,0),(39,1,1),(39,2,2),(39,3,3),(43,0,0),(43,1,1),(43,2,2),(43,3,3),(43,4,4),(43,5,5),(43,6,6),(43,7,7),(43,8,8),(43,9,9),(43,10,11),(43,11,12),(45,0,0),(45,1,1),(45,2,2),(45,3,3),(45,4,4),(45,5,5),(48,0,0),(48,1,1),(48,2,2),(48,3,3),(48,4,4),(50,0,0),(50,1,1),(50,2,2),(50,3,3),(60,0,0),(60,1,1),(60,2,2),(62,0,0),(62,1,1),(62,2,2),(62,3,3),(62,4,4),(71,0,0),(71,1,1),(71,2,2),(71,3,3),(71,4,4),(71,5,5),(71,6,6),(73,0,0),(73,1,1),(78,0,0),(78,1,1),(82,0,0),(82,1,2),(82,2,3),(82,3,4),(82,4,6),(82,5,7),(82,6,8),(85,0,0),(85,1,1),(89,0,0),(89,1,1),(89,2,2),(100,0,0),(100,1,1),(100,2,2),(193,0,0),(193,1,1),(193,2,2),(228,0,0),(228,1,2)],[(3,186,.u64),(21,5,.u8),(186,3,.i64)],[9]⟩
theorem Qg:Pc Tryz.prog tb:=⟨⟨BE,BN,DD,EC,EH,EG,EI,EJ,Fu,Lb,CV,DX,CQ,Ag,Ft,CS,EA,Rw,La,CT,CR,CW,Yv,Br,BW,BX,BZ,CB,CA,CC,DW,DV,DT,DU,DQ,CY,CZ,DA,DB,BS,BT,BU,BH,BI,BJ,BG,BK,CO,CP,CN,CG,CJ,CH,CI,CK,CL,Rx,Ry,Fw,Rz,DH,Lc,Ah,Lh,Sb,BO,BP,DI,DJ,ED,Za,Zc,Zb,Yw,Yx,Nt,Yy,Yz,trivial⟩,⟨fun _ _ _=>by kernel_rfl,fun _ _ _=>by kernel_rfl,fun _ _ _=>by kernel_rfl,trivial⟩,⟨U9,trivial⟩⟩
theorem pr{ops:Array Oper}{Q:Exit→Act→World→Prop}{w:World}{n:Nat}(k:Nat){env env':List (Nat×Value)}{l l':List Oper}{a:Act}(E:Env n a env)(h:Dl tb [] ops n k env l=some (env',l'))(kont:∀ a',Env n a' env'→wpList Tryz.prog ops Q l' a' w):wpList Tryz.prog ops Q l a w:=Ff Qg k E (kn0 _) h kont
theorem pk{ops:Array Oper}{Q:Exit→Act→World→Prop}{w:World}{n:Nat}{kn:List (Nat×Bool)}(k:Nat){env env':List (Nat×Value)}{l l':List Oper}{a:Act}(E:Env n a env)(K:Kn env kn)(h:Dl tb kn ops n k env l=some (env',l'))(kont:∀ a',Env n a' env'→wpList Tryz.prog ops Q l' a' w):wpList Tryz.prog ops Q l a w:=Ff Qg k E K h kont
theorem fn{ops:Array Oper}{Q:Exit→Act→World→Prop}{w:World}{n:Nat}{I:World→Prop}(k:Nat){env env':List (Nat×Value)}{l l':List (Nat×Nat)}{a:Act}(E:Env n a env)(h:Gs tb [] ops n k env l=some (env',l'))(kont:∀ a',Env n a' env'→mR Tryz.prog I ops Q l' a' w):mR Tryz.prog I ops Q l a w:=Jh Qg k E (kn0 _) h kont
theorem fk{ops:Array Oper}{Q:Exit→Act→World→Prop}{w:World}{n:Nat}{kn:List (Nat×Bool)}{I:World→Prop}(k:Nat){env env':List (Nat×Value)}{l l':List (Nat×Nat)}{a:Act}(E:Env n a env)(K:Kn env kn)(h:Gs tb kn ops n k env l=some (env',l'))(kont:∀ a',Env n a' env'→mR Tryz.prog I ops Q l' a' w):mR Tryz.prog I ops Q l a w:=Jh Qg k E K h kont
theorem dw{ops:Array Oper}{Q:Exit→Act→World→Prop}{w:World}{a:Act}{os:List Ob}{rs:List Rp}{id:Nat}(ord:List (Nat×Nat))(is js:List Nat)(H:Sep w os rs)(ho:Fa ops ord=true)(hQ:∀ c a w,Q (.panic c) a w→False)(k:∀ w W0,eK (pkl os is) (pkl rs js) W0→Sep w os rs→mR Tryz.prog (eK (pkl os is) (pkl rs js)) ops Q ord a w):(Code.region id ops true).wp Tryz.prog Q a w:=FZ mI ord is js H ho hQ k
theorem dwc{ops:Array Oper}{Q:Exit→Act→World→Prop}{w:World}{a:Act}{os:List Ob}{rs:List Rp}{id:Nat}(ord:List (Nat×Nat))(is js:List Nat)(H:Sep w os rs)(ho:Bq ops ord=true)(hQ:∀ c a w,Q (.panic c) a w→False)(k:∀ w W0,eK (pkl os is) (pkl rs js) W0→Sep w os rs→mR Tryz.prog (eK (pkl os is) (pkl rs js)) ops Q ord a w):(Code.region id ops true).wp Tryz.prog Q a w:=BC mI ord is js H ho hQ k
end Go.Cb
