/- The types of the program and the small facts that the walks use. -/
import Derived.Test.YteakhlfapjaodaaGreatDoorAsg2
import Derived.Test.YteakhlfapjaodaaGreatDoorProg
set_option linter.unusedVariables false
set_option linter.unusedSimpArgs false
namespace Go.Cb
open Go.Proofs Go.RowKit Tryz
structure aH where
  Path:BY
  Data:BY
  Version:Int
  Turn:Int
  Owner:Int
  deriving DecidableEq,Inhabited
def aB:Kd aH:=lO (kP kS (kP kS (kP (kI .i64) (kP (kI .i64) (kI .i64))))) λ x=>(x.Path,(x.Data,(x.Version,(x.Turn,x.Owner))))
theorem F2{w:WD}{ok:Nat->Prop}{x:aH}{cs:List VL}(h:aB.R w ok x cs):cs= [.string x.Path,.string x.Data,.int .i64 x.Version,.int .i64 x.Turn,.int .i64 x.Owner]:=by
  obtain ⟨c0,d0,rfl,h0,c1,d1,rfl,h1,c2,d2,rfl,h2,c3,d3,rfl,h3,h4⟩:=h
  have e0:c0= [.string x.Path]:=h0
  subst e0
  have e1:c1= [.string x.Data]:=h1
  subst e1
  have e2:c2= [.int .i64 x.Version]:=h2
  subst e2
  have e3:c3= [.int .i64 x.Turn]:=h3
  subst e3
  have e4:d3= [.int .i64 x.Owner]:=h4
  subst e4
  rfl
theorem B2{w:WD}{ok:Nat->Prop}{x:aH}:aB.R w ok x [.string x.Path,.string x.Data,.int .i64 x.Version,.int .i64 x.Turn,.int .i64 x.Owner]:=⟨[.string x.Path],_,rfl,rfl,⟨[.string x.Data],_,rfl,rfl,⟨[.int .i64 x.Version],_,rfl,rfl,⟨[.int .i64 x.Turn],_,rfl,rfl,rfl⟩⟩⟩⟩
abbrev mN (x:aH):List VL:=[.string x.Path,.string x.Data,.int .i64 x.Version,.int .i64 x.Turn,.int .i64 x.Owner]
abbrev OR:List VL:=[.string ⟨#[]⟩,.string ⟨#[]⟩,.int .i64 0,.int .i64 0,.int .i64 0]
theorem T9{w:WD}{ok:Nat->Prop}{q:Addr}{x:aH}{cs:List VL}(h:(rAw aB q x cs).p w ok):∃ c,(rAw kS (q.add 0) x.Path c).p w ok/\c=(cs.drop 0).take 1:=by
  have h0:(rAw (kP kS (kP kS (kP (kI .i64) (kP (kI .i64) (kI .i64))))) q ((x.Path,(x.Data,(x.Version,(x.Turn,x.Owner))))) cs).p w ok:=h
  have hl:cs.length=5:=aB.len h.2.1
  have h1:=(wE h0)
  simp only [show ∀ q:Addr,q.add 0=q from λ q=>by simp [Addr.add]]
  refine ⟨_,h1,?_⟩
  (try simp only [kP,kI,kB,kS,kL,lO,Kd.scalar])
  all_goals (try (apply List.ext_getElem?;intro j;simp [List.getElem?_take,List.getElem?_drop]))
  all_goals (try (intros;(try split);(try omega);(try (rw [List.getElem?_eq_none (by omega)]))))
theorem Pt{w:WD}{ok:Nat->Prop}{q:Addr}{x:aH}{cs:List VL}(h:(rAw aB q x cs).p w ok):∃ c,(rAw kS (q.add 1) x.Data c).p w ok/\c=(cs.drop 1).take 1:=by
  have h0:(rAw (kP kS (kP kS (kP (kI .i64) (kP (kI .i64) (kI .i64))))) q ((x.Path,(x.Data,(x.Version,(x.Turn,x.Owner))))) cs).p w ok:=h
  have hl:cs.length=5:=aB.len h.2.1
  have h1:=(wE (oA h0))
  simp only [add_add,kP,kI,kB,kS,kL,lO,Kd.scalar] at h1
  refine ⟨_,h1,?_⟩
  (try simp only [kP,kI,kB,kS,kL,lO,Kd.scalar])
  all_goals (try (apply List.ext_getElem?;intro j;simp [List.getElem?_take,List.getElem?_drop]))
  all_goals (try (intros;(try split);(try omega);(try (rw [List.getElem?_eq_none (by omega)]))))
def cN:hU aB:=⟨λ x=>[.string x.Path,.string x.Data,.int .i64 x.Version,.int .i64 x.Turn,.int .i64 x.Owner],F2,B2⟩
structure aL where
  Dir:BY
  Next:Int
  deriving DecidableEq,Inhabited
def aC:Kd aL:=lO (kP kS (kI .i64)) λ x=>(x.Dir,x.Next)
theorem P9{w:WD}{ok:Nat->Prop}{x:aL}{cs:List VL}(h:aC.R w ok x cs):cs= [.string x.Dir,.int .i64 x.Next]:=by
  obtain ⟨c0,d0,rfl,h0,h1⟩:=h
  have e0:c0= [.string x.Dir]:=h0
  subst e0
  have e1:d0= [.int .i64 x.Next]:=h1
  subst e1
  rfl
theorem yS{w:WD}{ok:Nat->Prop}{x:aL}:aC.R w ok x [.string x.Dir,.int .i64 x.Next]:=⟨[.string x.Dir],_,rfl,rfl,rfl⟩
theorem Pu{w:WD}{ok:Nat->Prop}{q:Addr}{x:aL}(h:(rAt aC q x).p w ok):(rAt kS (q.add 0) x.Dir).p w ok:=by
  have h0:(rAt (kP kS (kI .i64)) q ((x.Dir,x.Next))).p w ok:=h
  have h1:=(Al h0)
  simp only [show ∀ q:Addr,q.add 0=q from λ q=>by simp [Addr.add]]
  exact h1
theorem Pv{w:WD}{ok:Nat->Prop}{q:Addr}{x:aL}{cs:List VL}(h:(rAw aC q x cs).p w ok):∃ c,(rAw kS (q.add 0) x.Dir c).p w ok/\c=(cs.drop 0).take 1:=by
  have h0:(rAw (kP kS (kI .i64)) q ((x.Dir,x.Next)) cs).p w ok:=h
  have hl:cs.length=2:=aC.len h.2.1
  have h1:=(wE h0)
  simp only [show ∀ q:Addr,q.add 0=q from λ q=>by simp [Addr.add]]
  refine ⟨_,h1,?_⟩
  (try simp only [kP,kI,kB,kS,kL,lO,Kd.scalar])
  all_goals (try (apply List.ext_getElem?;intro j;simp [List.getElem?_take,List.getElem?_drop]))
  all_goals (try (intros;(try split);(try omega);(try (rw [List.getElem?_eq_none (by omega)]))))
def dV:hU aC:=⟨λ x=>[.string x.Dir,.int .i64 x.Next],P9,yS⟩
structure aQ where
  Dir:BY
  Txn:Int
  Age:Int
  deriving DecidableEq,Inhabited
def aY:Kd aQ:=lO (kP kS (kP (kI .i64) (kI .i64))) λ x=>(x.Dir,(x.Txn,x.Age))
theorem Nu{w:WD}{ok:Nat->Prop}{x:aQ}{cs:List VL}(h:aY.R w ok x cs):cs= [.string x.Dir,.int .i64 x.Txn,.int .i64 x.Age]:=by
  obtain ⟨c0,d0,rfl,h0,c1,d1,rfl,h1,h2⟩:=h
  have e0:c0= [.string x.Dir]:=h0
  subst e0
  have e1:c1= [.int .i64 x.Txn]:=h1
  subst e1
  have e2:d1= [.int .i64 x.Age]:=h2
  subst e2
  rfl
theorem Fu{w:WD}{ok:Nat->Prop}{x:aQ}:aY.R w ok x [.string x.Dir,.int .i64 x.Txn,.int .i64 x.Age]:=⟨[.string x.Dir],_,rfl,rfl,⟨[.int .i64 x.Txn],_,rfl,rfl,rfl⟩⟩
abbrev uY (x:aQ):List VL:=[.string x.Dir,.int .i64 x.Txn,.int .i64 x.Age]
abbrev OS:List VL:=[.string ⟨#[]⟩,.int .i64 0,.int .i64 0]
theorem Di{w:WD}{ok:Nat->Prop}{q:Addr}{x:aQ}(h:(rAt aY q x).p w ok):(rAt kS (q.add 0) x.Dir).p w ok:=by
  have h0:(rAt (kP kS (kP (kI .i64) (kI .i64))) q ((x.Dir,(x.Txn,x.Age)))).p w ok:=h
  have h1:=(Al h0)
  simp only [show ∀ q:Addr,q.add 0=q from λ q=>by simp [Addr.add]]
  exact h1
theorem xT{w:WD}{ok:Nat->Prop}{q:Addr}{x:aQ}{cs:List VL}(h:(rAw aY q x cs).p w ok):∃ c,(rAw kS (q.add 0) x.Dir c).p w ok/\c=(cs.drop 0).take 1:=by
  have h0:(rAw (kP kS (kP (kI .i64) (kI .i64))) q ((x.Dir,(x.Txn,x.Age))) cs).p w ok:=h
  have hl:cs.length=3:=aY.len h.2.1
  have h1:=(wE h0)
  simp only [show ∀ q:Addr,q.add 0=q from λ q=>by simp [Addr.add]]
  refine ⟨_,h1,?_⟩
  (try simp only [kP,kI,kB,kS,kL,lO,Kd.scalar])
  all_goals (try (apply List.ext_getElem?;intro j;simp [List.getElem?_take,List.getElem?_drop]))
  all_goals (try (intros;(try split);(try omega);(try (rw [List.getElem?_eq_none (by omega)]))))
theorem Dj{w:WD}{ok:Nat->Prop}{q:Addr}{x:aQ}(h:(rAt aY q x).p w ok):(rAt (kI .i64) (q.add 1) x.Txn).p w ok:=by
  have h0:(rAt (kP kS (kP (kI .i64) (kI .i64))) q ((x.Dir,(x.Txn,x.Age)))).p w ok:=h
  have h1:=(Al (C8 h0))
  simp only [add_add,kP,kI,kB,kS,kL,Kd.scalar] at h1
  exact h1
theorem U1{w:WD}{ok:Nat->Prop}{q:Addr}{x:aQ}{cs:List VL}(h:(rAw aY q x cs).p w ok):∃ c,(rAw (kI .i64) (q.add 1) x.Txn c).p w ok/\c=(cs.drop 1).take 1:=by
  have h0:(rAw (kP kS (kP (kI .i64) (kI .i64))) q ((x.Dir,(x.Txn,x.Age))) cs).p w ok:=h
  have hl:cs.length=3:=aY.len h.2.1
  have h1:=(wE (oA h0))
  simp only [add_add,kP,kI,kB,kS,kL,lO,Kd.scalar] at h1
  refine ⟨_,h1,?_⟩
  (try simp only [kP,kI,kB,kS,kL,lO,Kd.scalar])
  all_goals (try (apply List.ext_getElem?;intro j;simp [List.getElem?_take,List.getElem?_drop]))
  all_goals (try (intros;(try split);(try omega);(try (rw [List.getElem?_eq_none (by omega)]))))
theorem U5{w:WD}{ok:Nat->Prop}{q:Addr}{x:aQ}{cs:List VL}(h:(rAw aY q x cs).p w ok):∃ c,(rAw (kI .i64) (q.add 2) x.Age c).p w ok/\c=(cs.drop 2).take 1:=by
  have h0:(rAw (kP kS (kP (kI .i64) (kI .i64))) q ((x.Dir,(x.Txn,x.Age))) cs).p w ok:=h
  have hl:cs.length=3:=aY.len h.2.1
  have h1:=(oA (oA h0))
  simp only [add_add,kP,kI,kB,kS,kL,lO,Kd.scalar] at h1
  refine ⟨_,h1,?_⟩
  (try simp only [kP,kI,kB,kS,kL,lO,Kd.scalar])
  all_goals (try (apply List.ext_getElem?;intro j;simp [List.getElem?_take,List.getElem?_drop]))
  all_goals (try (intros;(try split);(try omega);(try (rw [List.getElem?_eq_none (by omega)]))))
def gR:hU aY:=⟨λ x=>[.string x.Dir,.int .i64 x.Txn,.int .i64 x.Age],Nu,Fu⟩
structure aF where
  Prefix:BY
  Epoch:Int
  State:Int
  deriving DecidableEq,Inhabited
def aN:Kd aF:=lO (kP kS (kP (kI .i64) (kI .i64))) λ x=>(x.Prefix,(x.Epoch,x.State))
theorem Ax{w:WD}{ok:Nat->Prop}{x:aF}{cs:List VL}(h:aN.R w ok x cs):cs= [.string x.Prefix,.int .i64 x.Epoch,.int .i64 x.State]:=by
  obtain ⟨c0,d0,rfl,h0,c1,d1,rfl,h1,h2⟩:=h
  have e0:c0= [.string x.Prefix]:=h0
  subst e0
  have e1:c1= [.int .i64 x.Epoch]:=h1
  subst e1
  have e2:d1= [.int .i64 x.State]:=h2
  subst e2
  rfl
theorem q8{w:WD}{ok:Nat->Prop}{x:aF}:aN.R w ok x [.string x.Prefix,.int .i64 x.Epoch,.int .i64 x.State]:=⟨[.string x.Prefix],_,rfl,rfl,⟨[.int .i64 x.Epoch],_,rfl,rfl,rfl⟩⟩
abbrev qZ (x:aF):List VL:=[.string x.Prefix,.int .i64 x.Epoch,.int .i64 x.State]
abbrev Wg:List VL:=[.string ⟨#[]⟩,.int .i64 0,.int .i64 0]
theorem Nv{w:WD}{ok:Nat->Prop}{q:Addr}{x:aF}(h:(rAt aN q x).p w ok):(rAt kS (q.add 0) x.Prefix).p w ok:=by
  have h0:(rAt (kP kS (kP (kI .i64) (kI .i64))) q ((x.Prefix,(x.Epoch,x.State)))).p w ok:=h
  have h1:=(Al h0)
  simp only [show ∀ q:Addr,q.add 0=q from λ q=>by simp [Addr.add]]
  exact h1
theorem sN{w:WD}{ok:Nat->Prop}{q:Addr}{x:aF}{cs:List VL}(h:(rAw aN q x cs).p w ok):∃ c,(rAw kS (q.add 0) x.Prefix c).p w ok/\c=(cs.drop 0).take 1:=by
  have h0:(rAw (kP kS (kP (kI .i64) (kI .i64))) q ((x.Prefix,(x.Epoch,x.State))) cs).p w ok:=h
  have hl:cs.length=3:=aN.len h.2.1
  have h1:=(wE h0)
  simp only [show ∀ q:Addr,q.add 0=q from λ q=>by simp [Addr.add]]
  refine ⟨_,h1,?_⟩
  (try simp only [kP,kI,kB,kS,kL,lO,Kd.scalar])
  all_goals (try (apply List.ext_getElem?;intro j;simp [List.getElem?_take,List.getElem?_drop]))
  all_goals (try (intros;(try split);(try omega);(try (rw [List.getElem?_eq_none (by omega)]))))
theorem Q1{w:WD}{ok:Nat->Prop}{q:Addr}{x:aF}(h:(rAt aN q x).p w ok):(rAt (kI .i64) (q.add 1) x.Epoch).p w ok:=by
  have h0:(rAt (kP kS (kP (kI .i64) (kI .i64))) q ((x.Prefix,(x.Epoch,x.State)))).p w ok:=h
  have h1:=(Al (C8 h0))
  simp only [add_add,kP,kI,kB,kS,kL,Kd.scalar] at h1
  exact h1
theorem Nw{w:WD}{ok:Nat->Prop}{q:Addr}{x:aF}{cs:List VL}(h:(rAw aN q x cs).p w ok):∃ c,(rAw (kI .i64) (q.add 1) x.Epoch c).p w ok/\c=(cs.drop 1).take 1:=by
  have h0:(rAw (kP kS (kP (kI .i64) (kI .i64))) q ((x.Prefix,(x.Epoch,x.State))) cs).p w ok:=h
  have hl:cs.length=3:=aN.len h.2.1
  have h1:=(wE (oA h0))
  simp only [add_add,kP,kI,kB,kS,kL,lO,Kd.scalar] at h1
  refine ⟨_,h1,?_⟩
  (try simp only [kP,kI,kB,kS,kL,lO,Kd.scalar])
  all_goals (try (apply List.ext_getElem?;intro j;simp [List.getElem?_take,List.getElem?_drop]))
  all_goals (try (intros;(try split);(try omega);(try (rw [List.getElem?_eq_none (by omega)]))))
theorem Q2{w:WD}{ok:Nat->Prop}{q:Addr}{x:aF}(h:(rAt aN q x).p w ok):(rAt (kI .i64) (q.add 2) x.State).p w ok:=by
  have h0:(rAt (kP kS (kP (kI .i64) (kI .i64))) q ((x.Prefix,(x.Epoch,x.State)))).p w ok:=h
  have h1:=(C8 (C8 h0))
  simp only [add_add,kP,kI,kB,kS,kL,Kd.scalar] at h1
  exact h1
def kZ:hU aN:=⟨λ x=>[.string x.Prefix,.int .i64 x.Epoch,.int .i64 x.State],Ax,q8⟩
structure bU where
  Num:Int
  Kind:Int
  Path:BY
  Watch:Int
  deriving DecidableEq,Inhabited
def aS:Kd bU:=lO (kP (kI .i64) (kP (kI .i64) (kP kS (kI .i64)))) λ x=>(x.Num,(x.Kind,(x.Path,x.Watch)))
theorem Lu{w:WD}{ok:Nat->Prop}{x:bU}{cs:List VL}(h:aS.R w ok x cs):cs= [.int .i64 x.Num,.int .i64 x.Kind,.string x.Path,.int .i64 x.Watch]:=by
  obtain ⟨c0,d0,rfl,h0,c1,d1,rfl,h1,c2,d2,rfl,h2,h3⟩:=h
  have e0:c0= [.int .i64 x.Num]:=h0
  subst e0
  have e1:c1= [.int .i64 x.Kind]:=h1
  subst e1
  have e2:c2= [.string x.Path]:=h2
  subst e2
  have e3:d2= [.int .i64 x.Watch]:=h3
  subst e3
  rfl
theorem J1{w:WD}{ok:Nat->Prop}{x:bU}:aS.R w ok x [.int .i64 x.Num,.int .i64 x.Kind,.string x.Path,.int .i64 x.Watch]:=⟨[.int .i64 x.Num],_,rfl,rfl,⟨[.int .i64 x.Kind],_,rfl,rfl,⟨[.string x.Path],_,rfl,rfl,rfl⟩⟩⟩
abbrev Ch (x:bU):List VL:=[.int .i64 x.Num,.int .i64 x.Kind,.string x.Path,.int .i64 x.Watch]
abbrev OB:List VL:=[.int .i64 0,.int .i64 0,.string ⟨#[]⟩,.int .i64 0]
structure aE where
  Num:Int
  Count:Int
  Events:(List bU)
  deriving DecidableEq,Inhabited
def aI:Kd aE:=lO (kP (kI .i64) (kP (kI .i64) (kL aS))) λ x=>(x.Num,(x.Count,x.Events))
theorem dD{w:WD}{ok:Nat->Prop}{x:aE}{cs:List VL}(h:aI.R w ok x cs):∃ v1:VL,cs= [.int .i64 x.Num,.int .i64 x.Count,v1]/\Sl aS w ok v1 x.Events:=by
  obtain ⟨c0,d0,rfl,h0,c1,d1,rfl,h1,h2⟩:=h
  have e0:c0= [.int .i64 x.Num]:=h0
  subst e0
  have e1:c1= [.int .i64 x.Count]:=h1
  subst e1
  obtain ⟨u0,rfl,g0⟩:=h2
  exact ⟨u0,rfl,g0⟩
theorem mO{w:WD}{ok:Nat->Prop}{x:aE}{v1:VL}(g1:Sl aS w ok v1 x.Events):aI.R w ok x [.int .i64 x.Num,.int .i64 x.Count,v1]:=⟨[.int .i64 x.Num],_,rfl,rfl,⟨[.int .i64 x.Count],_,rfl,rfl,⟨_,rfl,g1⟩⟩⟩
theorem gZ{w:WD}{ok:Nat->Prop}{x:aE}{v1:VL}(h:aI.R w ok x [.int .i64 x.Num,.int .i64 x.Count,v1]):Sl aS w ok v1 x.Events:=by
  obtain ⟨u0,he,g0⟩:=dD h
  cases he
  exact g0
abbrev kE (x:aE) (v1:VL):List VL:=[.int .i64 x.Num,.int .i64 x.Count,v1]
theorem Z6{w:WD}{os:List Ob}{rs:List Rp}{x:aE}{cs:List VL}(H:Sep w os (rCs aI cs x::rs)):∃ v1:VL,cs=(kE x v1)/\Sep w os (rSl aS v1 x.Events::rCs aI (kE x v1) x::rs):=by
  obtain ⟨_,hcs⟩:=H.rd (.head _)
  obtain ⟨u0,rfl,-⟩:=dD hcs
  refine ⟨_,rfl,?_⟩
  exact (H.derive1 (.head _) (rSl aS u0 x.Events) λ ok h=>gZ h)
theorem zY{w:WD}{ok:Nat->Prop}{q:Addr}{x:aE}{cs:List VL}(h:(rAw aI q x cs).p w ok):∃ c,(rAw (kI .i64) (q.add 0) x.Num c).p w ok/\c=(cs.drop 0).take 1:=by
  have h0:(rAw (kP (kI .i64) (kP (kI .i64) (kL aS))) q ((x.Num,(x.Count,x.Events))) cs).p w ok:=h
  have hl:cs.length=3:=aI.len h.2.1
  have h1:=(wE h0)
  simp only [show ∀ q:Addr,q.add 0=q from λ q=>by simp [Addr.add]]
  refine ⟨_,h1,?_⟩
  (try simp only [kP,kI,kB,kS,kL,lO,Kd.scalar])
  all_goals (try (apply List.ext_getElem?;intro j;simp [List.getElem?_take,List.getElem?_drop]))
  all_goals (try (intros;(try split);(try omega);(try (rw [List.getElem?_eq_none (by omega)]))))
structure aO where
  Session:Int
  Num:Int
  Path:BY
  Deep:Bool
  deriving DecidableEq,Inhabited
def aP:Kd aO:=lO (kP (kI .i64) (kP (kI .i64) (kP kS kB))) λ x=>(x.Session,(x.Num,(x.Path,x.Deep)))
theorem Ay{w:WD}{ok:Nat->Prop}{x:aO}{cs:List VL}(h:aP.R w ok x cs):cs= [.int .i64 x.Session,.int .i64 x.Num,.string x.Path,.bool x.Deep]:=by
  obtain ⟨c0,d0,rfl,h0,c1,d1,rfl,h1,c2,d2,rfl,h2,h3⟩:=h
  have e0:c0= [.int .i64 x.Session]:=h0
  subst e0
  have e1:c1= [.int .i64 x.Num]:=h1
  subst e1
  have e2:c2= [.string x.Path]:=h2
  subst e2
  have e3:d2= [.bool x.Deep]:=h3
  subst e3
  rfl
theorem U6{w:WD}{ok:Nat->Prop}{x:aO}:aP.R w ok x [.int .i64 x.Session,.int .i64 x.Num,.string x.Path,.bool x.Deep]:=⟨[.int .i64 x.Session],_,rfl,rfl,⟨[.int .i64 x.Num],_,rfl,rfl,⟨[.string x.Path],_,rfl,rfl,rfl⟩⟩⟩
abbrev dP (x:aO):List VL:=[.int .i64 x.Session,.int .i64 x.Num,.string x.Path,.bool x.Deep]
abbrev OC:List VL:=[.int .i64 0,.int .i64 0,.string ⟨#[]⟩,.bool false]
theorem Nx{w:WD}{ok:Nat->Prop}{q:Addr}{x:aO}{cs:List VL}(h:(rAw aP q x cs).p w ok):∃ c,(rAw (kI .i64) (q.add 0) x.Session c).p w ok/\c=(cs.drop 0).take 1:=by
  have h0:(rAw (kP (kI .i64) (kP (kI .i64) (kP kS kB))) q ((x.Session,(x.Num,(x.Path,x.Deep)))) cs).p w ok:=h
  have hl:cs.length=4:=aP.len h.2.1
  have h1:=(wE h0)
  simp only [show ∀ q:Addr,q.add 0=q from λ q=>by simp [Addr.add]]
  refine ⟨_,h1,?_⟩
  (try simp only [kP,kI,kB,kS,kL,lO,Kd.scalar])
  all_goals (try (apply List.ext_getElem?;intro j;simp [List.getElem?_take,List.getElem?_drop]))
  all_goals (try (intros;(try split);(try omega);(try (rw [List.getElem?_eq_none (by omega)]))))
theorem Ny{w:WD}{ok:Nat->Prop}{q:Addr}{x:aO}{cs:List VL}(h:(rAw aP q x cs).p w ok):∃ c,(rAw (kI .i64) (q.add 1) x.Num c).p w ok/\c=(cs.drop 1).take 1:=by
  have h0:(rAw (kP (kI .i64) (kP (kI .i64) (kP kS kB))) q ((x.Session,(x.Num,(x.Path,x.Deep)))) cs).p w ok:=h
  have hl:cs.length=4:=aP.len h.2.1
  have h1:=(wE (oA h0))
  simp only [add_add,kP,kI,kB,kS,kL,lO,Kd.scalar] at h1
  refine ⟨_,h1,?_⟩
  (try simp only [kP,kI,kB,kS,kL,lO,Kd.scalar])
  all_goals (try (apply List.ext_getElem?;intro j;simp [List.getElem?_take,List.getElem?_drop]))
  all_goals (try (intros;(try split);(try omega);(try (rw [List.getElem?_eq_none (by omega)]))))
def lA:hU aP:=⟨λ x=>[.int .i64 x.Session,.int .i64 x.Num,.string x.Path,.bool x.Deep],Ay,U6⟩
structure aR where
  Nodes:(List aH)
  Turns:(List aL)
  deriving DecidableEq,Inhabited
def nA:Kd aR:=lO (kP (kL aB) (kL aC)) λ x=>(x.Nodes,x.Turns)
theorem N2{w:WD}{ok:Nat->Prop}{x:aR}{cs:List VL}(h:nA.R w ok x cs):∃ v1 v2:VL,cs= [v1,v2]/\Sl aB w ok v1 x.Nodes/\Sl aC w ok v2 x.Turns:=by
  obtain ⟨c0,d0,rfl,h0,h1⟩:=h
  obtain ⟨u0,rfl,g0⟩:=h0
  obtain ⟨u1,rfl,g1⟩:=h1
  exact ⟨u0,u1,rfl,g0,g1⟩
theorem Pw{w:WD}{ok:Nat->Prop}{x:aR}{v1:VL}{v2:VL}(g1:Sl aB w ok v1 x.Nodes)(g2:Sl aC w ok v2 x.Turns):nA.R w ok x [v1,v2]:=⟨[v1],_,rfl,⟨_,rfl,g1⟩,⟨_,rfl,g2⟩⟩
theorem pD{w:WD}{os:List Ob}{rs:List Rp}{v1:VL}{yv1:List aH}{v2:VL}{yv2:List aL}(H:Sep w os rs)(hv1:rSl aB v1 yv1 ∈ rs)(hv2:rSl aC v2 yv2 ∈ rs):[v1,v2].all (·.oneCell')=true:=by
  obtain ⟨_,_,rfl⟩:=H.slform hv1
  obtain ⟨_,_,rfl⟩:=H.slform hv2
  rfl
theorem Nz{w:WD}{ok:Nat->Prop}{q:Addr}{x:aR}{cs:List VL}(h:(rAw nA q x cs).p w ok):∃ c,(rAw (kL aB) (q.add 0) x.Nodes c).p w ok/\c=(cs.drop 0).take 1:=by
  have h0:(rAw (kP (kL aB) (kL aC)) q ((x.Nodes,x.Turns)) cs).p w ok:=h
  have hl:cs.length=2:=nA.len h.2.1
  have h1:=(wE h0)
  simp only [show ∀ q:Addr,q.add 0=q from λ q=>by simp [Addr.add]]
  refine ⟨_,h1,?_⟩
  (try simp only [kP,kI,kB,kS,kL,lO,Kd.scalar])
  all_goals (try (apply List.ext_getElem?;intro j;simp [List.getElem?_take,List.getElem?_drop]))
  all_goals (try (intros;(try split);(try omega);(try (rw [List.getElem?_eq_none (by omega)]))))
structure bF where
  Kind:Int
  Dir:BY
  Path:BY
  Data:BY
  Version:Int
  Owner:Int
  Turns:Bool
  deriving DecidableEq,Inhabited
def cP:Kd bF:=lO (kP (kI .i64) (kP kS (kP kS (kP kS (kP (kI .i64) (kP (kI .i64) kB)))))) λ x=>(x.Kind,(x.Dir,(x.Path,(x.Data,(x.Version,(x.Owner,x.Turns))))))
theorem Bt{w:WD}{ok:Nat->Prop}{x:bF}{cs:List VL}(h:cP.R w ok x cs):cs= [.int .i64 x.Kind,.string x.Dir,.string x.Path,.string x.Data,.int .i64 x.Version,.int .i64 x.Owner,.bool x.Turns]:=by
  obtain ⟨c0,d0,rfl,h0,c1,d1,rfl,h1,c2,d2,rfl,h2,c3,d3,rfl,h3,c4,d4,rfl,h4,c5,d5,rfl,h5,h6⟩:=h
  have e0:c0= [.int .i64 x.Kind]:=h0
  subst e0
  have e1:c1= [.string x.Dir]:=h1
  subst e1
  have e2:c2= [.string x.Path]:=h2
  subst e2
  have e3:c3= [.string x.Data]:=h3
  subst e3
  have e4:c4= [.int .i64 x.Version]:=h4
  subst e4
  have e5:c5= [.int .i64 x.Owner]:=h5
  subst e5
  have e6:d5= [.bool x.Turns]:=h6
  subst e6
  rfl
theorem kF{w:WD}{ok:Nat->Prop}{x:bF}:cP.R w ok x [.int .i64 x.Kind,.string x.Dir,.string x.Path,.string x.Data,.int .i64 x.Version,.int .i64 x.Owner,.bool x.Turns]:=⟨[.int .i64 x.Kind],_,rfl,rfl,⟨[.string x.Dir],_,rfl,rfl,⟨[.string x.Path],_,rfl,rfl,⟨[.string x.Data],_,rfl,rfl,⟨[.int .i64 x.Version],_,rfl,rfl,⟨[.int .i64 x.Owner],_,rfl,rfl,rfl⟩⟩⟩⟩⟩⟩
abbrev bZ (x:bF):List VL:=[.int .i64 x.Kind,.string x.Dir,.string x.Path,.string x.Data,.int .i64 x.Version,.int .i64 x.Owner,.bool x.Turns]
abbrev OU:List VL:=[.int .i64 0,.string ⟨#[]⟩,.string ⟨#[]⟩,.string ⟨#[]⟩,.int .i64 0,.int .i64 0,.bool false]
structure cR where
  Op:Int
  Part:bF
  deriving DecidableEq,Inhabited
def bR:Kd cR:=lO (kP (kI .i64) cP) λ x=>(x.Op,x.Part)
theorem Lv{w:WD}{ok:Nat->Prop}{x:cR}{cs:List VL}(h:bR.R w ok x cs):cs= [.int .i64 x.Op,.int .i64 x.Part.Kind,.string x.Part.Dir,.string x.Part.Path,.string x.Part.Data,.int .i64 x.Part.Version,.int .i64 x.Part.Owner,.bool x.Part.Turns]:=by
  obtain ⟨c0,d0,rfl,h0,h1⟩:=h
  have e0:c0= [.int .i64 x.Op]:=h0
  subst e0
  obtain ⟨rfl⟩:=Bt h1
  rfl
theorem Dk{w:WD}{ok:Nat->Prop}{x:cR}:bR.R w ok x [.int .i64 x.Op,.int .i64 x.Part.Kind,.string x.Part.Dir,.string x.Part.Path,.string x.Part.Data,.int .i64 x.Part.Version,.int .i64 x.Part.Owner,.bool x.Part.Turns]:=⟨[.int .i64 x.Op],_,rfl,rfl,kF⟩
abbrev Lb (x:cR):List VL:=[.int .i64 x.Op,.int .i64 x.Part.Kind,.string x.Part.Dir,.string x.Part.Path,.string x.Part.Data,.int .i64 x.Part.Version,.int .i64 x.Part.Owner,.bool x.Part.Turns]
abbrev OD:List VL:=[.int .i64 0,.int .i64 0,.string ⟨#[]⟩,.string ⟨#[]⟩,.string ⟨#[]⟩,.int .i64 0,.int .i64 0,.bool false]
theorem Oa{w:WD}{ok:Nat->Prop}{q:Addr}{x:cR}(h:(rAt bR q x).p w ok):(rAt cP (q.add 1) x.Part).p w ok:=by
  have h0:(rAt (kP (kI .i64) cP) q ((x.Op,x.Part))).p w ok:=h
  have h1:=(C8 h0)
  simp only [add_add,kP,kI,kB,kS,kL,Kd.scalar,cP] at h1
  exact h1
structure eG where
  Err:Int
  Path:BY
  Data:BY
  Version:Int
  Names:(List BY)
  deriving DecidableEq,Inhabited
def aZ:Kd eG:=lO (kP (kI .i64) (kP kS (kP kS (kP (kI .i64) (kL kS))))) λ x=>(x.Err,(x.Path,(x.Data,(x.Version,x.Names))))
theorem Oc{w:WD}{ok:Nat->Prop}{x:eG}{v1:VL}(g1:Sl kS w ok v1 x.Names):aZ.R w ok x [.int .i64 x.Err,.string x.Path,.string x.Data,.int .i64 x.Version,v1]:=⟨[.int .i64 x.Err],_,rfl,rfl,⟨[.string x.Path],_,rfl,rfl,⟨[.string x.Data],_,rfl,rfl,⟨[.int .i64 x.Version],_,rfl,rfl,⟨_,rfl,g1⟩⟩⟩⟩⟩
abbrev Hi (x:eG) (v1:VL):List VL:=[.int .i64 x.Err,.string x.Path,.string x.Data,.int .i64 x.Version,v1]
abbrev Hj:List VL:=[.int .i64 0,.string ⟨#[]⟩,.string ⟨#[]⟩,.int .i64 0,.slice none 0 0]
theorem Px{w:WD}{os:List Ob}{rs:List Rp}{z0:Int}{z1:BY}{z2:BY}{z3:Int}{v1:VL}{yv1:List BY}(H:Sep w os rs)(hv1:rSl kS v1 yv1 ∈ rs):[.int .i64 z0,.string z1,.string z2,.int .i64 z3,v1].all (·.oneCell')=true:=by
  obtain ⟨_,_,rfl⟩:=H.slform hv1
  rfl
theorem Lw{w:WD}{ok:Nat->Prop}{q:Addr}{x:eG}(h:(rAt aZ q x).p w ok):(rAt kS (q.add 1) x.Path).p w ok:=by
  have h0:(rAt (kP (kI .i64) (kP kS (kP kS (kP (kI .i64) (kL kS))))) q ((x.Err,(x.Path,(x.Data,(x.Version,x.Names)))))).p w ok:=h
  have h1:=(Al (C8 h0))
  simp only [add_add,kP,kI,kB,kS,kL,Kd.scalar] at h1
  exact h1
theorem Lx{w:WD}{ok:Nat->Prop}{q:Addr}{x:eG}(h:(rAt aZ q x).p w ok):(rAt (kL kS) (q.add 4) x.Names).p w ok:=by
  have h0:(rAt (kP (kI .i64) (kP kS (kP kS (kP (kI .i64) (kL kS))))) q ((x.Err,(x.Path,(x.Data,(x.Version,x.Names)))))).p w ok:=h
  have h1:=(C8 (C8 (C8 (C8 h0))))
  simp only [add_add,kP,kI,kB,kS,kL,Kd.scalar] at h1
  exact h1
structure L7 where
  Prefix:BY
  Group:Int
  Epoch:Int
  To:Int
  deriving DecidableEq,Inhabited
def bI:Kd L7:=lO (kP kS (kP (kI .i64) (kP (kI .i64) (kI .i64)))) λ x=>(x.Prefix,(x.Group,(x.Epoch,x.To)))
structure aX where
  Err:Int
  At:Int
  Yes:Bool
  Epoch:Int
  Results:(List eG)
  Store:aR
  Events:(List bU)
  Mounts:(List L7)
  Wounded:(List Int)
  deriving DecidableEq,Inhabited
def bC:Kd aX:=lO (kP (kI .i64) (kP (kI .i64) (kP kB (kP (kI .i64) (kP (kL aZ) (kP nA (kP (kL aS) (kP (kL bI) (kL (kI .i64)))))))))) λ x=>(x.Err,(x.At,(x.Yes,(x.Epoch,(x.Results,(x.Store,(x.Events,(x.Mounts,x.Wounded))))))))
theorem nN{w:WD}{ok:Nat->Prop}{x:aX}{cs:List VL}(h:bC.R w ok x cs):∃ v1 v2 v3 v4 v5 v6:VL,cs= [.int .i64 x.Err,.int .i64 x.At,.bool x.Yes,.int .i64 x.Epoch,v1,v2,v3,v4,v5,v6]/\Sl aZ w ok v1 x.Results/\Sl aB w ok v2 x.Store.Nodes/\Sl aC w ok v3 x.Store.Turns/\Sl aS w ok v4 x.Events/\Sl bI w ok v5 x.Mounts/\Sl (kI .i64) w ok v6 x.Wounded:=by
  obtain ⟨c0,d0,rfl,h0,c1,d1,rfl,h1,c2,d2,rfl,h2,c3,d3,rfl,h3,c4,d4,rfl,h4,c5,d5,rfl,h5,c6,d6,rfl,h6,c7,d7,rfl,h7,h8⟩:=h
  have e0:c0= [.int .i64 x.Err]:=h0
  subst e0
  have e1:c1= [.int .i64 x.At]:=h1
  subst e1
  have e2:c2= [.bool x.Yes]:=h2
  subst e2
  have e3:c3= [.int .i64 x.Epoch]:=h3
  subst e3
  obtain ⟨u0,rfl,g0⟩:=h4
  obtain ⟨u1,u2,rfl,g1,g2⟩:=N2 h5
  obtain ⟨u3,rfl,g3⟩:=h6
  obtain ⟨u4,rfl,g4⟩:=h7
  obtain ⟨u5,rfl,g5⟩:=h8
  exact ⟨u0,u1,u2,u3,u4,u5,rfl,g0,g1,g2,g3,g4,g5⟩
theorem sO{w:WD}{ok:Nat->Prop}{x:aX}{v1:VL}{v2:VL}{v3:VL}{v4:VL}{v5:VL}{v6:VL}(g1:Sl aZ w ok v1 x.Results)(g2:Sl aB w ok v2 x.Store.Nodes)(g3:Sl aC w ok v3 x.Store.Turns)(g4:Sl aS w ok v4 x.Events)(g5:Sl bI w ok v5 x.Mounts)(g6:Sl (kI .i64) w ok v6 x.Wounded):bC.R w ok x [.int .i64 x.Err,.int .i64 x.At,.bool x.Yes,.int .i64 x.Epoch,v1,v2,v3,v4,v5,v6]:=⟨[.int .i64 x.Err],_,rfl,rfl,⟨[.int .i64 x.At],_,rfl,rfl,⟨[.bool x.Yes],_,rfl,rfl,⟨[.int .i64 x.Epoch],_,rfl,rfl,⟨[v1],_,rfl,⟨_,rfl,g1⟩,⟨[v2,v3],_,rfl,(Pw g2 g3),⟨[v4],_,rfl,⟨_,rfl,g4⟩,⟨[v5],_,rfl,⟨_,rfl,g5⟩,⟨_,rfl,g6⟩⟩⟩⟩⟩⟩⟩⟩⟩
theorem Ka{w:WD}{ok:Nat->Prop}{x:aX}{v1 v2 v3 v4 v5 v6:VL}(h:bC.R w ok x [.int .i64 x.Err,.int .i64 x.At,.bool x.Yes,.int .i64 x.Epoch,v1,v2,v3,v4,v5,v6]):Sl aZ w ok v1 x.Results:=by
  obtain ⟨u0,u1,u2,u3,u4,u5,he,g0,g1,g2,g3,g4,g5⟩:=nN h
  cases he
  exact g0
theorem Kb{w:WD}{ok:Nat->Prop}{x:aX}{v1 v2 v3 v4 v5 v6:VL}(h:bC.R w ok x [.int .i64 x.Err,.int .i64 x.At,.bool x.Yes,.int .i64 x.Epoch,v1,v2,v3,v4,v5,v6]):Sl aB w ok v2 x.Store.Nodes:=by
  obtain ⟨u0,u1,u2,u3,u4,u5,he,g0,g1,g2,g3,g4,g5⟩:=nN h
  cases he
  exact g1
theorem Kc{w:WD}{ok:Nat->Prop}{x:aX}{v1 v2 v3 v4 v5 v6:VL}(h:bC.R w ok x [.int .i64 x.Err,.int .i64 x.At,.bool x.Yes,.int .i64 x.Epoch,v1,v2,v3,v4,v5,v6]):Sl aC w ok v3 x.Store.Turns:=by
  obtain ⟨u0,u1,u2,u3,u4,u5,he,g0,g1,g2,g3,g4,g5⟩:=nN h
  cases he
  exact g2
theorem Ke{w:WD}{ok:Nat->Prop}{x:aX}{v1 v2 v3 v4 v5 v6:VL}(h:bC.R w ok x [.int .i64 x.Err,.int .i64 x.At,.bool x.Yes,.int .i64 x.Epoch,v1,v2,v3,v4,v5,v6]):Sl aS w ok v4 x.Events:=by
  obtain ⟨u0,u1,u2,u3,u4,u5,he,g0,g1,g2,g3,g4,g5⟩:=nN h
  cases he
  exact g3
theorem Kf{w:WD}{ok:Nat->Prop}{x:aX}{v1 v2 v3 v4 v5 v6:VL}(h:bC.R w ok x [.int .i64 x.Err,.int .i64 x.At,.bool x.Yes,.int .i64 x.Epoch,v1,v2,v3,v4,v5,v6]):Sl bI w ok v5 x.Mounts:=by
  obtain ⟨u0,u1,u2,u3,u4,u5,he,g0,g1,g2,g3,g4,g5⟩:=nN h
  cases he
  exact g4
theorem Kg{w:WD}{ok:Nat->Prop}{x:aX}{v1 v2 v3 v4 v5 v6:VL}(h:bC.R w ok x [.int .i64 x.Err,.int .i64 x.At,.bool x.Yes,.int .i64 x.Epoch,v1,v2,v3,v4,v5,v6]):Sl (kI .i64) w ok v6 x.Wounded:=by
  obtain ⟨u0,u1,u2,u3,u4,u5,he,g0,g1,g2,g3,g4,g5⟩:=nN h
  cases he
  exact g5
abbrev aW (x:aX) (v1:VL) (v2:VL) (v3:VL) (v4:VL) (v5:VL) (v6:VL):List VL:=[.int .i64 x.Err,.int .i64 x.At,.bool x.Yes,.int .i64 x.Epoch,v1,v2,v3,v4,v5,v6]
abbrev bJ:List VL:=[.int .i64 0,.int .i64 0,.bool false,.int .i64 0,.slice none 0 0,.slice none 0 0,.slice none 0 0,.slice none 0 0,.slice none 0 0,.slice none 0 0]
theorem oP{w:WD}{os:List Ob}{rs:List Rp}{x:aX}{cs:List VL}(H:Sep w os (rCs bC cs x::rs)):∃ v1 v2 v3 v4 v5 v6:VL,cs=(aW x v1 v2 v3 v4 v5 v6)/\Sep w os (rSl (kI .i64) v6 x.Wounded::rSl bI v5 x.Mounts::rSl aS v4 x.Events::rSl aC v3 x.Store.Turns::rSl aB v2 x.Store.Nodes::rSl aZ v1 x.Results::rCs bC (aW x v1 v2 v3 v4 v5 v6) x::rs):=by
  obtain ⟨_,hcs⟩:=H.rd (.head _)
  obtain ⟨u0,u1,u2,u3,u4,u5,rfl,-,-,-,-,-,-⟩:=nN hcs
  refine ⟨_,_,_,_,_,_,rfl,?_⟩
  exact ((((((H.derive1 (.head _) (rSl aZ u0 x.Results) λ ok h=>Ka h).derive1 (.tail _ (.head _)) (rSl aB u1 x.Store.Nodes) λ ok h=>Kb h).derive1 (.tail _ (.tail _ (.head _))) (rSl aC u2 x.Store.Turns) λ ok h=>Kc h).derive1 (.tail _ (.tail _ (.tail _ (.head _)))) (rSl aS u3 x.Events) λ ok h=>Ke h).derive1 (.tail _ (.tail _ (.tail _ (.tail _ (.head _))))) (rSl bI u4 x.Mounts) λ ok h=>Kf h).derive1 (.tail _ (.tail _ (.tail _ (.tail _ (.tail _ (.head _)))))) (rSl (kI .i64) u5 x.Wounded) λ ok h=>Kg h)
theorem bA{w:WD}{os:List Ob}{rs:List Rp}{z0:Int}{z1:Int}{z2:Bool}{z3:Int}{v1:VL}{yv1:List eG}{v2:VL}{yv2:List aH}{v3:VL}{yv3:List aL}{v4:VL}{yv4:List bU}{v5:VL}{yv5:List L7}{v6:VL}{yv6:List Int}(H:Sep w os rs)(hv1:rSl aZ v1 yv1 ∈ rs)(hv2:rSl aB v2 yv2 ∈ rs)(hv3:rSl aC v3 yv3 ∈ rs)(hv4:rSl aS v4 yv4 ∈ rs)(hv5:rSl bI v5 yv5 ∈ rs)(hv6:rSl (kI .i64) v6 yv6 ∈ rs):[.int .i64 z0,.int .i64 z1,.bool z2,.int .i64 z3,v1,v2,v3,v4,v5,v6].all (·.oneCell')=true:=by
  obtain ⟨_,_,rfl⟩:=H.slform hv1
  obtain ⟨_,_,rfl⟩:=H.slform hv2
  obtain ⟨_,_,rfl⟩:=H.slform hv3
  obtain ⟨_,_,rfl⟩:=H.slform hv4
  obtain ⟨_,_,rfl⟩:=H.slform hv5
  obtain ⟨_,_,rfl⟩:=H.slform hv6
  rfl
structure gC where
  over_:Bool
  pieces_:(List cR)
  a_:aX
  deriving DecidableEq,Inhabited
def dC:Kd gC:=lO (kP kB (kP (kL bR) bC)) λ x=>(x.over_,(x.pieces_,x.a_))
theorem oQ{w:WD}{ok:Nat->Prop}{x:gC}{cs:List VL}(h:dC.R w ok x cs):∃ v1 v2 v3 v4 v5 v6 v7:VL,cs= [.bool x.over_,v1,.int .i64 x.a_.Err,.int .i64 x.a_.At,.bool x.a_.Yes,.int .i64 x.a_.Epoch,v2,v3,v4,v5,v6,v7]/\Sl bR w ok v1 x.pieces_/\Sl aZ w ok v2 x.a_.Results/\Sl aB w ok v3 x.a_.Store.Nodes/\Sl aC w ok v4 x.a_.Store.Turns/\Sl aS w ok v5 x.a_.Events/\Sl bI w ok v6 x.a_.Mounts/\Sl (kI .i64) w ok v7 x.a_.Wounded:=by
  obtain ⟨c0,d0,rfl,h0,c1,d1,rfl,h1,h2⟩:=h
  have e0:c0= [.bool x.over_]:=h0
  subst e0
  obtain ⟨u0,rfl,g0⟩:=h1
  obtain ⟨u1,u2,u3,u4,u5,u6,rfl,g1,g2,g3,g4,g5,g6⟩:=nN h2
  exact ⟨u0,u1,u2,u3,u4,u5,u6,rfl,g0,g1,g2,g3,g4,g5,g6⟩
theorem U7{w:WD}{ok:Nat->Prop}{x:gC}{v1:VL}{v2:VL}{v3:VL}{v4:VL}{v5:VL}{v6:VL}{v7:VL}(g1:Sl bR w ok v1 x.pieces_)(g2:Sl aZ w ok v2 x.a_.Results)(g3:Sl aB w ok v3 x.a_.Store.Nodes)(g4:Sl aC w ok v4 x.a_.Store.Turns)(g5:Sl aS w ok v5 x.a_.Events)(g6:Sl bI w ok v6 x.a_.Mounts)(g7:Sl (kI .i64) w ok v7 x.a_.Wounded):dC.R w ok x [.bool x.over_,v1,.int .i64 x.a_.Err,.int .i64 x.a_.At,.bool x.a_.Yes,.int .i64 x.a_.Epoch,v2,v3,v4,v5,v6,v7]:=⟨[.bool x.over_],_,rfl,rfl,⟨[v1],_,rfl,⟨_,rfl,g1⟩,(sO g2 g3 g4 g5 g6 g7)⟩⟩
theorem Ly{w:WD}{ok:Nat->Prop}{x:gC}{v1 v2 v3 v4 v5 v6 v7:VL}(h:dC.R w ok x [.bool x.over_,v1,.int .i64 x.a_.Err,.int .i64 x.a_.At,.bool x.a_.Yes,.int .i64 x.a_.Epoch,v2,v3,v4,v5,v6,v7]):Sl bR w ok v1 x.pieces_:=by
  obtain ⟨u0,u1,u2,u3,u4,u5,u6,he,g0,g1,g2,g3,g4,g5,g6⟩:=oQ h
  cases he
  exact g0
theorem Lz{w:WD}{ok:Nat->Prop}{x:gC}{v1 v2 v3 v4 v5 v6 v7:VL}(h:dC.R w ok x [.bool x.over_,v1,.int .i64 x.a_.Err,.int .i64 x.a_.At,.bool x.a_.Yes,.int .i64 x.a_.Epoch,v2,v3,v4,v5,v6,v7]):Sl aZ w ok v2 x.a_.Results:=by
  obtain ⟨u0,u1,u2,u3,u4,u5,u6,he,g0,g1,g2,g3,g4,g5,g6⟩:=oQ h
  cases he
  exact g1
theorem Ma{w:WD}{ok:Nat->Prop}{x:gC}{v1 v2 v3 v4 v5 v6 v7:VL}(h:dC.R w ok x [.bool x.over_,v1,.int .i64 x.a_.Err,.int .i64 x.a_.At,.bool x.a_.Yes,.int .i64 x.a_.Epoch,v2,v3,v4,v5,v6,v7]):Sl aB w ok v3 x.a_.Store.Nodes:=by
  obtain ⟨u0,u1,u2,u3,u4,u5,u6,he,g0,g1,g2,g3,g4,g5,g6⟩:=oQ h
  cases he
  exact g2
theorem Mb{w:WD}{ok:Nat->Prop}{x:gC}{v1 v2 v3 v4 v5 v6 v7:VL}(h:dC.R w ok x [.bool x.over_,v1,.int .i64 x.a_.Err,.int .i64 x.a_.At,.bool x.a_.Yes,.int .i64 x.a_.Epoch,v2,v3,v4,v5,v6,v7]):Sl aC w ok v4 x.a_.Store.Turns:=by
  obtain ⟨u0,u1,u2,u3,u4,u5,u6,he,g0,g1,g2,g3,g4,g5,g6⟩:=oQ h
  cases he
  exact g3
theorem Mc{w:WD}{ok:Nat->Prop}{x:gC}{v1 v2 v3 v4 v5 v6 v7:VL}(h:dC.R w ok x [.bool x.over_,v1,.int .i64 x.a_.Err,.int .i64 x.a_.At,.bool x.a_.Yes,.int .i64 x.a_.Epoch,v2,v3,v4,v5,v6,v7]):Sl aS w ok v5 x.a_.Events:=by
  obtain ⟨u0,u1,u2,u3,u4,u5,u6,he,g0,g1,g2,g3,g4,g5,g6⟩:=oQ h
  cases he
  exact g4
theorem Md{w:WD}{ok:Nat->Prop}{x:gC}{v1 v2 v3 v4 v5 v6 v7:VL}(h:dC.R w ok x [.bool x.over_,v1,.int .i64 x.a_.Err,.int .i64 x.a_.At,.bool x.a_.Yes,.int .i64 x.a_.Epoch,v2,v3,v4,v5,v6,v7]):Sl bI w ok v6 x.a_.Mounts:=by
  obtain ⟨u0,u1,u2,u3,u4,u5,u6,he,g0,g1,g2,g3,g4,g5,g6⟩:=oQ h
  cases he
  exact g5
theorem Me{w:WD}{ok:Nat->Prop}{x:gC}{v1 v2 v3 v4 v5 v6 v7:VL}(h:dC.R w ok x [.bool x.over_,v1,.int .i64 x.a_.Err,.int .i64 x.a_.At,.bool x.a_.Yes,.int .i64 x.a_.Epoch,v2,v3,v4,v5,v6,v7]):Sl (kI .i64) w ok v7 x.a_.Wounded:=by
  obtain ⟨u0,u1,u2,u3,u4,u5,u6,he,g0,g1,g2,g3,g4,g5,g6⟩:=oQ h
  cases he
  exact g6
abbrev Lc (x:gC) (v1:VL) (v2:VL) (v3:VL) (v4:VL) (v5:VL) (v6:VL) (v7:VL):List VL:=[.bool x.over_,v1,.int .i64 x.a_.Err,.int .i64 x.a_.At,.bool x.a_.Yes,.int .i64 x.a_.Epoch,v2,v3,v4,v5,v6,v7]
abbrev OE:List VL:=[.bool false,.slice none 0 0,.int .i64 0,.int .i64 0,.bool false,.int .i64 0,.slice none 0 0,.slice none 0 0,.slice none 0 0,.slice none 0 0,.slice none 0 0,.slice none 0 0]
theorem W1{w:WD}{os:List Ob}{rs:List Rp}{x:gC}{cs:List VL}(H:Sep w os (rCs dC cs x::rs)):∃ v1 v2 v3 v4 v5 v6 v7:VL,cs=(Lc x v1 v2 v3 v4 v5 v6 v7)/\Sep w os (rSl (kI .i64) v7 x.a_.Wounded::rSl bI v6 x.a_.Mounts::rSl aS v5 x.a_.Events::rSl aC v4 x.a_.Store.Turns::rSl aB v3 x.a_.Store.Nodes::rSl aZ v2 x.a_.Results::rSl bR v1 x.pieces_::rCs dC (Lc x v1 v2 v3 v4 v5 v6 v7) x::rs):=by
  obtain ⟨_,hcs⟩:=H.rd (.head _)
  obtain ⟨u0,u1,u2,u3,u4,u5,u6,rfl,-,-,-,-,-,-,-⟩:=oQ hcs
  refine ⟨_,_,_,_,_,_,_,rfl,?_⟩
  exact (((((((H.derive1 (.head _) (rSl bR u0 x.pieces_) λ ok h=>Ly h).derive1 (.tail _ (.head _)) (rSl aZ u1 x.a_.Results) λ ok h=>Lz h).derive1 (.tail _ (.tail _ (.head _))) (rSl aB u2 x.a_.Store.Nodes) λ ok h=>Ma h).derive1 (.tail _ (.tail _ (.tail _ (.head _)))) (rSl aC u3 x.a_.Store.Turns) λ ok h=>Mb h).derive1 (.tail _ (.tail _ (.tail _ (.tail _ (.head _))))) (rSl aS u4 x.a_.Events) λ ok h=>Mc h).derive1 (.tail _ (.tail _ (.tail _ (.tail _ (.tail _ (.head _)))))) (rSl bI u5 x.a_.Mounts) λ ok h=>Md h).derive1 (.tail _ (.tail _ (.tail _ (.tail _ (.tail _ (.tail _ (.head _))))))) (rSl (kI .i64) u6 x.a_.Wounded) λ ok h=>Me h)
theorem M3{w:WD}{os:List Ob}{rs:List Rp}{z0:Bool}{z1:Int}{z2:Int}{z3:Bool}{z4:Int}{v1:VL}{yv1:List cR}{v2:VL}{yv2:List eG}{v3:VL}{yv3:List aH}{v4:VL}{yv4:List aL}{v5:VL}{yv5:List bU}{v6:VL}{yv6:List L7}{v7:VL}{yv7:List Int}(H:Sep w os rs)(hv1:rSl bR v1 yv1 ∈ rs)(hv2:rSl aZ v2 yv2 ∈ rs)(hv3:rSl aB v3 yv3 ∈ rs)(hv4:rSl aC v4 yv4 ∈ rs)(hv5:rSl aS v5 yv5 ∈ rs)(hv6:rSl bI v6 yv6 ∈ rs)(hv7:rSl (kI .i64) v7 yv7 ∈ rs):[.bool z0,v1,.int .i64 z1,.int .i64 z2,.bool z3,.int .i64 z4,v2,v3,v4,v5,v6,v7].all (·.oneCell')=true:=by
  obtain ⟨_,_,rfl⟩:=H.slform hv1
  obtain ⟨_,_,rfl⟩:=H.slform hv2
  obtain ⟨_,_,rfl⟩:=H.slform hv3
  obtain ⟨_,_,rfl⟩:=H.slform hv4
  obtain ⟨_,_,rfl⟩:=H.slform hv5
  obtain ⟨_,_,rfl⟩:=H.slform hv6
  obtain ⟨_,_,rfl⟩:=H.slform hv7
  rfl
structure fC where
  Kind:Int
  Path:BY
  Data:BY
  Version:Int
  Owner:Int
  Turns:Bool
  deriving DecidableEq,Inhabited
def N3:Kd fC:=lO (kP (kI .i64) (kP kS (kP kS (kP (kI .i64) (kP (kI .i64) kB))))) λ x=>(x.Kind,(x.Path,(x.Data,(x.Version,(x.Owner,x.Turns)))))
theorem Ru{w:WD}{ok:Nat->Prop}{x:fC}{cs:List VL}(h:N3.R w ok x cs):cs= [.int .i64 x.Kind,.string x.Path,.string x.Data,.int .i64 x.Version,.int .i64 x.Owner,.bool x.Turns]:=by
  obtain ⟨c0,d0,rfl,h0,c1,d1,rfl,h1,c2,d2,rfl,h2,c3,d3,rfl,h3,c4,d4,rfl,h4,h5⟩:=h
  have e0:c0= [.int .i64 x.Kind]:=h0
  subst e0
  have e1:c1= [.string x.Path]:=h1
  subst e1
  have e2:c2= [.string x.Data]:=h2
  subst e2
  have e3:c3= [.int .i64 x.Version]:=h3
  subst e3
  have e4:c4= [.int .i64 x.Owner]:=h4
  subst e4
  have e5:d4= [.bool x.Turns]:=h5
  subst e5
  rfl
theorem Ld{w:WD}{ok:Nat->Prop}{x:fC}:N3.R w ok x [.int .i64 x.Kind,.string x.Path,.string x.Data,.int .i64 x.Version,.int .i64 x.Owner,.bool x.Turns]:=⟨[.int .i64 x.Kind],_,rfl,rfl,⟨[.string x.Path],_,rfl,rfl,⟨[.string x.Data],_,rfl,rfl,⟨[.int .i64 x.Version],_,rfl,rfl,⟨[.int .i64 x.Owner],_,rfl,rfl,rfl⟩⟩⟩⟩⟩
abbrev uN (x:fC):List VL:=[.int .i64 x.Kind,.string x.Path,.string x.Data,.int .i64 x.Version,.int .i64 x.Owner,.bool x.Turns]
abbrev PZ:List VL:=[.int .i64 0,.string ⟨#[]⟩,.string ⟨#[]⟩,.int .i64 0,.int .i64 0,.bool false]
def Fv:hU N3:=⟨λ x=>[.int .i64 x.Kind,.string x.Path,.string x.Data,.int .i64 x.Version,.int .i64 x.Owner,.bool x.Turns],Ru,Ld⟩
def Bu:hU cP:=⟨λ x=>[.int .i64 x.Kind,.string x.Dir,.string x.Path,.string x.Data,.int .i64 x.Version,.int .i64 x.Owner,.bool x.Turns],Bt,kF⟩
structure aK where
  Kind:Int
  Id:Int
  Txn:Int
  Age:Int
  Yes:Bool
  Pieces:(List cR)
  Prefix:BY
  Epoch:Int
  To:Int
  Store:aR
  Gone:(List BY)
  Watch:aO
  deriving DecidableEq,Inhabited
def tI:Kd aK:=lO (kP (kI .i64) (kP (kI .i64) (kP (kI .i64) (kP (kI .i64) (kP kB (kP (kL bR) (kP kS (kP (kI .i64) (kP (kI .i64) (kP nA (kP (kL kS) aP))))))))))) λ x=>(x.Kind,(x.Id,(x.Txn,(x.Age,(x.Yes,(x.Pieces,(x.Prefix,(x.Epoch,(x.To,(x.Store,(x.Gone,x.Watch)))))))))))
theorem vK{w:WD}{ok:Nat->Prop}{x:aK}{cs:List VL}(h:tI.R w ok x cs):∃ v1 v2 v3 v4:VL,cs= [.int .i64 x.Kind,.int .i64 x.Id,.int .i64 x.Txn,.int .i64 x.Age,.bool x.Yes,v1,.string x.Prefix,.int .i64 x.Epoch,.int .i64 x.To,v2,v3,v4,.int .i64 x.Watch.Session,.int .i64 x.Watch.Num,.string x.Watch.Path,.bool x.Watch.Deep]/\Sl bR w ok v1 x.Pieces/\Sl aB w ok v2 x.Store.Nodes/\Sl aC w ok v3 x.Store.Turns/\Sl kS w ok v4 x.Gone:=by
  obtain ⟨c0,d0,rfl,h0,c1,d1,rfl,h1,c2,d2,rfl,h2,c3,d3,rfl,h3,c4,d4,rfl,h4,c5,d5,rfl,h5,c6,d6,rfl,h6,c7,d7,rfl,h7,c8,d8,rfl,h8,c9,d9,rfl,h9,c10,d10,rfl,h10,h11⟩:=h
  have e0:c0= [.int .i64 x.Kind]:=h0
  subst e0
  have e1:c1= [.int .i64 x.Id]:=h1
  subst e1
  have e2:c2= [.int .i64 x.Txn]:=h2
  subst e2
  have e3:c3= [.int .i64 x.Age]:=h3
  subst e3
  have e4:c4= [.bool x.Yes]:=h4
  subst e4
  obtain ⟨u0,rfl,g0⟩:=h5
  have e6:c6= [.string x.Prefix]:=h6
  subst e6
  have e7:c7= [.int .i64 x.Epoch]:=h7
  subst e7
  have e8:c8= [.int .i64 x.To]:=h8
  subst e8
  obtain ⟨u1,u2,rfl,g1,g2⟩:=N2 h9
  obtain ⟨u3,rfl,g3⟩:=h10
  obtain ⟨rfl⟩:=Ay h11
  exact ⟨u0,u1,u2,u3,rfl,g0,g1,g2,g3⟩
theorem Hk{w:WD}{ok:Nat->Prop}{x:aK}{v1 v2 v3 v4:VL}(h:tI.R w ok x [.int .i64 x.Kind,.int .i64 x.Id,.int .i64 x.Txn,.int .i64 x.Age,.bool x.Yes,v1,.string x.Prefix,.int .i64 x.Epoch,.int .i64 x.To,v2,v3,v4,.int .i64 x.Watch.Session,.int .i64 x.Watch.Num,.string x.Watch.Path,.bool x.Watch.Deep]):Sl bR w ok v1 x.Pieces:=by
  obtain ⟨u0,u1,u2,u3,he,g0,g1,g2,g3⟩:=vK h
  cases he
  exact g0
theorem Hl{w:WD}{ok:Nat->Prop}{x:aK}{v1 v2 v3 v4:VL}(h:tI.R w ok x [.int .i64 x.Kind,.int .i64 x.Id,.int .i64 x.Txn,.int .i64 x.Age,.bool x.Yes,v1,.string x.Prefix,.int .i64 x.Epoch,.int .i64 x.To,v2,v3,v4,.int .i64 x.Watch.Session,.int .i64 x.Watch.Num,.string x.Watch.Path,.bool x.Watch.Deep]):Sl aB w ok v2 x.Store.Nodes:=by
  obtain ⟨u0,u1,u2,u3,he,g0,g1,g2,g3⟩:=vK h
  cases he
  exact g1
theorem Hm{w:WD}{ok:Nat->Prop}{x:aK}{v1 v2 v3 v4:VL}(h:tI.R w ok x [.int .i64 x.Kind,.int .i64 x.Id,.int .i64 x.Txn,.int .i64 x.Age,.bool x.Yes,v1,.string x.Prefix,.int .i64 x.Epoch,.int .i64 x.To,v2,v3,v4,.int .i64 x.Watch.Session,.int .i64 x.Watch.Num,.string x.Watch.Path,.bool x.Watch.Deep]):Sl aC w ok v3 x.Store.Turns:=by
  obtain ⟨u0,u1,u2,u3,he,g0,g1,g2,g3⟩:=vK h
  cases he
  exact g2
theorem Hn{w:WD}{ok:Nat->Prop}{x:aK}{v1 v2 v3 v4:VL}(h:tI.R w ok x [.int .i64 x.Kind,.int .i64 x.Id,.int .i64 x.Txn,.int .i64 x.Age,.bool x.Yes,v1,.string x.Prefix,.int .i64 x.Epoch,.int .i64 x.To,v2,v3,v4,.int .i64 x.Watch.Session,.int .i64 x.Watch.Num,.string x.Watch.Path,.bool x.Watch.Deep]):Sl kS w ok v4 x.Gone:=by
  obtain ⟨u0,u1,u2,u3,he,g0,g1,g2,g3⟩:=vK h
  cases he
  exact g3
abbrev aM (x:aK) (v1:VL) (v2:VL) (v3:VL) (v4:VL):List VL:=[.int .i64 x.Kind,.int .i64 x.Id,.int .i64 x.Txn,.int .i64 x.Age,.bool x.Yes,v1,.string x.Prefix,.int .i64 x.Epoch,.int .i64 x.To,v2,v3,v4,.int .i64 x.Watch.Session,.int .i64 x.Watch.Num,.string x.Watch.Path,.bool x.Watch.Deep]
theorem Fw{w:WD}{os:List Ob}{rs:List Rp}{x:aK}{cs:List VL}(H:Sep w os (rCs tI cs x::rs)):∃ v1 v2 v3 v4:VL,cs=(aM x v1 v2 v3 v4)/\Sep w os (rSl kS v4 x.Gone::rSl aC v3 x.Store.Turns::rSl aB v2 x.Store.Nodes::rSl bR v1 x.Pieces::rCs tI (aM x v1 v2 v3 v4) x::rs):=by
  obtain ⟨_,hcs⟩:=H.rd (.head _)
  obtain ⟨u0,u1,u2,u3,rfl,-,-,-,-⟩:=vK hcs
  refine ⟨_,_,_,_,rfl,?_⟩
  exact ((((H.derive1 (.head _) (rSl bR u0 x.Pieces) λ ok h=>Hk h).derive1 (.tail _ (.head _)) (rSl aB u1 x.Store.Nodes) λ ok h=>Hl h).derive1 (.tail _ (.tail _ (.head _))) (rSl aC u2 x.Store.Turns) λ ok h=>Hm h).derive1 (.tail _ (.tail _ (.tail _ (.head _)))) (rSl kS u3 x.Gone) λ ok h=>Hn h)
theorem Kh{w:WD}{ok:Nat->Prop}{q:Addr}{x:aK}{cs:List VL}(h:(rAw tI q x cs).p w ok):∃ c,(rAw (kI .i64) (q.add 0) x.Kind c).p w ok/\c=(cs.drop 0).take 1:=by
  have h0:(rAw (kP (kI .i64) (kP (kI .i64) (kP (kI .i64) (kP (kI .i64) (kP kB (kP (kL bR) (kP kS (kP (kI .i64) (kP (kI .i64) (kP nA (kP (kL kS) aP))))))))))) q ((x.Kind,(x.Id,(x.Txn,(x.Age,(x.Yes,(x.Pieces,(x.Prefix,(x.Epoch,(x.To,(x.Store,(x.Gone,x.Watch)))))))))))) cs).p w ok:=h
  have hl:cs.length=16:=tI.len h.2.1
  have h1:=(wE h0)
  simp only [show ∀ q:Addr,q.add 0=q from λ q=>by simp [Addr.add]]
  refine ⟨_,h1,?_⟩
  (try simp only [kP,kI,kB,kS,kL,lO,Kd.scalar,nA,aP])
  all_goals (try (apply List.ext_getElem?;intro j;simp [List.getElem?_take,List.getElem?_drop]))
  all_goals (try (intros;(try split);(try omega);(try (rw [List.getElem?_eq_none (by omega)]))))
theorem Ki{w:WD}{ok:Nat->Prop}{q:Addr}{x:aK}{cs:List VL}(h:(rAw tI q x cs).p w ok):∃ c,(rAw (kL bR) (q.add 5) x.Pieces c).p w ok/\c=(cs.drop 5).take 1:=by
  have h0:(rAw (kP (kI .i64) (kP (kI .i64) (kP (kI .i64) (kP (kI .i64) (kP kB (kP (kL bR) (kP kS (kP (kI .i64) (kP (kI .i64) (kP nA (kP (kL kS) aP))))))))))) q ((x.Kind,(x.Id,(x.Txn,(x.Age,(x.Yes,(x.Pieces,(x.Prefix,(x.Epoch,(x.To,(x.Store,(x.Gone,x.Watch)))))))))))) cs).p w ok:=h
  have hl:cs.length=16:=tI.len h.2.1
  have h1:=(wE (oA (oA (oA (oA (oA h0))))))
  simp only [add_add,kP,kI,kB,kS,kL,lO,Kd.scalar,nA,aP] at h1
  refine ⟨_,h1,?_⟩
  (try simp only [kP,kI,kB,kS,kL,lO,Kd.scalar,nA,aP])
  all_goals (try (apply List.ext_getElem?;intro j;simp [List.getElem?_take,List.getElem?_drop]))
  all_goals (try (intros;(try split);(try omega);(try (rw [List.getElem?_eq_none (by omega)]))))
theorem Kj{w:WD}{ok:Nat->Prop}{q:Addr}{x:aK}{cs:List VL}(h:(rAw tI q x cs).p w ok):∃ c,(rAw nA (q.add 9) x.Store c).p w ok/\c=(cs.drop 9).take 2:=by
  have h0:(rAw (kP (kI .i64) (kP (kI .i64) (kP (kI .i64) (kP (kI .i64) (kP kB (kP (kL bR) (kP kS (kP (kI .i64) (kP (kI .i64) (kP nA (kP (kL kS) aP))))))))))) q ((x.Kind,(x.Id,(x.Txn,(x.Age,(x.Yes,(x.Pieces,(x.Prefix,(x.Epoch,(x.To,(x.Store,(x.Gone,x.Watch)))))))))))) cs).p w ok:=h
  have hl:cs.length=16:=tI.len h.2.1
  have h1:=(wE (oA (oA (oA (oA (oA (oA (oA (oA (oA h0))))))))))
  simp only [add_add,kP,kI,kB,kS,kL,lO,Kd.scalar,nA,aP] at h1
  refine ⟨_,h1,?_⟩
  (try simp only [kP,kI,kB,kS,kL,lO,Kd.scalar,nA,aP])
  all_goals (try (apply List.ext_getElem?;intro j;simp [List.getElem?_take,List.getElem?_drop]))
  all_goals (try (intros;(try split);(try omega);(try (rw [List.getElem?_eq_none (by omega)]))))
def z6:hU bR:=⟨λ x=>[.int .i64 x.Op,.int .i64 x.Part.Kind,.string x.Part.Dir,.string x.Part.Path,.string x.Part.Data,.int .i64 x.Part.Version,.int .i64 x.Part.Owner,.bool x.Part.Turns],Lv,Dk⟩
abbrev Wh:aR:=⟨[],[]⟩
abbrev vL:aX:=⟨0,0,false,0,[],Wh,[],[],[]⟩
structure aV where
  Watches:(List aO)
  Sessions:(List aE)
  deriving DecidableEq,Inhabited
def JS:Kd aV:=lO (kP (kL aP) (kL aI)) λ x=>(x.Watches,x.Sessions)
theorem kJ{w:WD}{os:List Ob}{rs:List Rp}{v1:VL}{yv1:List aO}{v2:VL}{yv2:List aE}(H:Sep w os rs)(hv1:rSl aP v1 yv1 ∈ rs)(hv2:rSl aI v2 yv2 ∈ rs):[v1,v2].all (·.oneCell')=true:=by
  obtain ⟨_,_,rfl⟩:=H.slform hv1
  obtain ⟨_,_,rfl⟩:=H.slform hv2
  rfl
def rM:hU aS:=⟨λ x=>[.int .i64 x.Num,.int .i64 x.Kind,.string x.Path,.int .i64 x.Watch],Lu,J1⟩
def GP:hU kS:=⟨λ x=>[.string x],λ h=>h,rfl⟩
structure Wi where
  Store:aR
  r_:eG
  deriving DecidableEq,Inhabited
def OG:Kd Wi:=lO (kP nA aZ) λ x=>(x.Store,x.r_)
abbrev W2:gC:=⟨false,[],vL⟩
def cfB(P:Program)(f:Nat):Bool:=match P.funcs[f]? with
  | some fn=>!(fn.body.isNone || fn.name == "runtime.NumGoroutine")
  | none=>false
theorem cfA{P:Program}{f:Nat}(h:cfB P f=true):CF P f:=by
  unfold cfB at h
  split at h
  · rename_i fn hf
    exact cfo hf (by simpa using h)
  · cases h
theorem cf_(f:Nat)(h:cfB Tryz.prog f=true:=by kernel_rfl):CF Tryz.prog f:=cfA h
abbrev U25:=underlying25
theorem dN:(Tryz.prog.info? 25).map (·.size)=some 2:=by kernel_rfl
theorem KO:∀ (w:WD) (q:Addr),(Instr.fieldAt 25 (.pointer (some q)) 0).run Tryz.prog w= .ok (.pointer (some (q.add 0))) w:=λ w q=>by kernel_rfl
abbrev U22:=underlying22
theorem hP:(Tryz.prog.info? 107).map (·.size)=some 5:=by kernel_rfl
abbrev D5:=underlying107
theorem GQ:∀ (w:WD) (q:Addr),(Instr.fieldAt 107 (.pointer (some q)) 3).run Tryz.prog w= .ok (.pointer (some (q.add 3))) w:=λ w q=>by kernel_rfl
abbrev U2:=underlying2
theorem GR:∀ (w:WD) (q:Addr),(Instr.fieldAt 107 (.pointer (some q)) 0).run Tryz.prog w= .ok (.pointer (some (q.add 0))) w:=λ w q=>by kernel_rfl
abbrev U9:=underlying9
theorem GS:∀ (w:WD) (q:Addr),(Instr.fieldAt 107 (.pointer (some q)) 1).run Tryz.prog w= .ok (.pointer (some (q.add 1))) w:=λ w q=>by kernel_rfl
theorem GT:∀ (w:WD) (q:Addr),(Instr.fieldAt 107 (.pointer (some q)) 2).run Tryz.prog w= .ok (.pointer (some (q.add 2))) w:=λ w q=>by kernel_rfl
theorem GU:∀ (w:WD) (q:Addr),(Instr.fieldAt 107 (.pointer (some q)) 4).run Tryz.prog w= .ok (.pointer (some (q.add 4))) w:=λ w q=>by kernel_rfl
abbrev U33:=underlying33
theorem KP:∀ (w:WD) (s:BY) (c:Int),(callFunc 326 #[.string s,.int .u8 c]).run Tryz.prog w= .ok (.value (.int .i64 (ixB s c))) w:=λ w s c=>Tl func326 (by kernel_rfl) (by kernel_rfl) (by kernel_rfl) (e:=Extern.BytealgIndexByte.indexByte) (by kernel_rfl) (GH s c w)
theorem Ua:(Tryz.prog.info? 9).map (λ i=>(i.zero,i.size,i.bytes))=some (some (.string ⟨#[]⟩),1,16):=by kernel_rfl
theorem KQ:∀ (w:WD) (q:Addr),(Instr.fieldAt 25 (.pointer (some q)) 1).run Tryz.prog w= .ok (.pointer (some (q.add 1))) w:=λ w q=>by kernel_rfl
abbrev U23:=underlying23
theorem sJ:(Tryz.prog.info? 89).map (·.size)=some 2:=by kernel_rfl
abbrev U89:=underlying89
theorem KR:∀ (w:WD) (q:Addr),(Instr.fieldAt 89 (.pointer (some q)) 0).run Tryz.prog w= .ok (.pointer (some (q.add 0))) w:=λ w q=>by kernel_rfl
theorem KS:∀ (w:WD) (q:Addr),(Instr.fieldAt 89 (.pointer (some q)) 1).run Tryz.prog w= .ok (.pointer (some (q.add 1))) w:=λ w q=>by kernel_rfl
abbrev U32:=underlying32
theorem iY:(Tryz.prog.info? 31).map (·.size)=some 3:=by kernel_rfl
abbrev U31:=underlying31
theorem Mf:(Tryz.prog.info? 31).bind (·.zero)=some (.agg Wg.toArray):=by kernel_rfl
theorem KT:∀ (w:WD) (q:Addr),(Instr.fieldAt 31 (.pointer (some q)) 0).run Tryz.prog w= .ok (.pointer (some (q.add 0))) w:=λ w q=>by kernel_rfl
theorem KU:∀ (w:WD) (q:Addr),(Instr.fieldAt 31 (.pointer (some q)) 1).run Tryz.prog w= .ok (.pointer (some (q.add 1))) w:=λ w q=>by kernel_rfl
theorem KV:∀ (w:WD) (q:Addr),(Instr.fieldAt 31 (.pointer (some q)) 2).run Tryz.prog w= .ok (.pointer (some (q.add 2))) w:=λ w q=>by kernel_rfl
abbrev U3:=underlying3
abbrev Py:=underlying135
theorem Bv:(Tryz.prog.info? 134).map (·.size)=some 6:=by kernel_rfl
abbrev Ub:=underlying134
theorem GV:∀ (w:WD) (q:Addr),(Instr.fieldAt 134 (.pointer (some q)) 0).run Tryz.prog w= .ok (.pointer (some (q.add 0))) w:=λ w q=>by kernel_rfl
theorem GW:∀ (w:WD) (q:Addr),(Instr.fieldAt 134 (.pointer (some q)) 1).run Tryz.prog w= .ok (.pointer (some (q.add 1))) w:=λ w q=>by kernel_rfl
theorem GX:∀ (w:WD) (q:Addr),(Instr.fieldAt 134 (.pointer (some q)) 2).run Tryz.prog w= .ok (.pointer (some (q.add 2))) w:=λ w q=>by kernel_rfl
theorem GY:∀ (w:WD) (q:Addr),(Instr.fieldAt 134 (.pointer (some q)) 4).run Tryz.prog w= .ok (.pointer (some (q.add 4))) w:=λ w q=>by kernel_rfl
theorem GZ:∀ (w:WD) (q:Addr),(Instr.fieldAt 134 (.pointer (some q)) 3).run Tryz.prog w= .ok (.pointer (some (q.add 3))) w:=λ w q=>by kernel_rfl
theorem HA:∀ (w:WD) (q:Addr),(Instr.fieldAt 134 (.pointer (some q)) 5).run Tryz.prog w= .ok (.pointer (some (q.add 5))) w:=λ w q=>by kernel_rfl
abbrev U4:=underlying4
theorem OV:(Tryz.prog.info? 312).bind (·.zero)=some (.agg #[.int .i64 0,.int .i64 0,.int .i64 0,.int .i64 0,.int .i64 0,.int .i64 0,.int .i64 0,.int .i64 0]):=by kernel_rfl
theorem FV:(Tryz.prog.info? 312).map (·.size)=some 8:=by kernel_rfl
abbrev KW:=underlying312
theorem sz3:(Tryz.prog.info? 3).map (·.size)=some 1:=by kernel_rfl
theorem OW:(Tryz.prog.info? 134).bind (·.zero)=some (.agg PZ.toArray):=by kernel_rfl
theorem OX:(Tryz.prog.info? 192).bind (·.zero)=some (.slice none 0 0):=by kernel_rfl
theorem zr9:(Tryz.prog.info? 9).bind (·.zero)=some (.string ⟨#[]⟩):=by kernel_rfl
theorem sz9:(Tryz.prog.info? 9).map (·.size)=some 1:=by kernel_rfl
theorem OY:(Tryz.prog.info? 258).bind (·.zero)=some (.nilFunc):=by kernel_rfl
theorem OZ:(Tryz.prog.info? 258).map (·.size)=some 1:=by kernel_rfl
abbrev Uc:=underlying258
theorem Mg:(Tryz.prog.info? 97).bind (·.zero)=some (.agg OU.toArray):=by kernel_rfl
theorem mP:(Tryz.prog.info? 97).map (·.size)=some 7:=by kernel_rfl
abbrev U97:=underlying97
theorem KX:∀ (w:WD) (q:Addr),(Instr.fieldAt 97 (.pointer (some q)) 3).run Tryz.prog w= .ok (.pointer (some (q.add 3))) w:=λ w q=>by kernel_rfl
theorem KY:∀ (w:WD) (q:Addr),(Instr.fieldAt 97 (.pointer (some q)) 5).run Tryz.prog w= .ok (.pointer (some (q.add 5))) w:=λ w q=>by kernel_rfl
theorem sz2:(Tryz.prog.info? 2).map (·.size)=some 1:=by kernel_rfl
theorem KZ:∀ (w:WD) (q:Addr),(Instr.fieldAt 97 (.pointer (some q)) 6).run Tryz.prog w= .ok (.pointer (some (q.add 6))) w:=λ w q=>by kernel_rfl
theorem sz4:(Tryz.prog.info? 4).map (·.size)=some 1:=by kernel_rfl
abbrev Ud:=underlying192
theorem PA:(Tryz.prog.info? 97).map (λ i=>(i.zero,i.size,i.bytes))=some (some (.agg #[.int .i64 0,.string ⟨#[]⟩,.string ⟨#[]⟩,.string ⟨#[]⟩,.int .i64 0,.int .i64 0,.bool false]),7,80):=by kernel_rfl
theorem PB:(Tryz.prog.info? 192).map (·.size)=some 1:=by kernel_rfl
theorem LA:∀ (w:WD) (q:Addr),(Instr.fieldAt 97 (.pointer (some q)) 4).run Tryz.prog w= .ok (.pointer (some (q.add 4))) w:=λ w q=>by kernel_rfl
abbrev U26:=underlying26
theorem PC:(Tryz.prog.info? 99).map (λ i=>(i.zero,i.size,i.bytes))=some (some (.agg #[.int .i64 0,.int .i64 0,.string ⟨#[]⟩,.string ⟨#[]⟩,.string ⟨#[]⟩,.int .i64 0,.int .i64 0,.bool false]),8,88):=by kernel_rfl
theorem lQ:(Tryz.prog.info? 48).bind (·.zero)=some (.agg bJ.toArray):=by kernel_rfl
theorem PD:(Tryz.prog.info? 101).bind (·.zero)=some (.agg #[.nilFunc,.nilFunc,.nilFunc,.nilFunc,.nilFunc,.nilFunc,.nilFunc,.nilFunc,.nilFunc,.nilFunc,.nilFunc]):=by kernel_rfl
theorem PE:(Tryz.prog.info? 101).map (·.size)=some 11:=by kernel_rfl
abbrev U37:=underlying37
theorem z7:(Tryz.prog.info? 37).map (·.size)=some 16:=by kernel_rfl
theorem AW:∀ (w:WD) (q:Addr),(Instr.fieldAt 37 (.pointer (some q)) 5).run Tryz.prog w= .ok (.pointer (some (q.add 5))) w:=λ w q=>by kernel_rfl
theorem U8:(Tryz.prog.info? 99).map (·.size)=some 8:=by kernel_rfl
abbrev U99:=underlying99
theorem Yp:(Tryz.prog.info? 99).bind (·.zero)=some (.agg OD.toArray):=by kernel_rfl
theorem LB:∀ (w:WD) (q:Addr),(Instr.fieldAt 99 (.pointer (some q)) 0).run Tryz.prog w= .ok (.pointer (some (q.add 0))) w:=λ w q=>by kernel_rfl
theorem LC:∀ (w:WD) (q:Addr),(Instr.fieldAt 99 (.pointer (some q)) 1).run Tryz.prog w= .ok (.pointer (some (q.add 1))) w:=λ w q=>by kernel_rfl
theorem LD:∀ (w:WD) (q:Addr),(Instr.fieldAt 97 (.pointer (some q)) 2).run Tryz.prog w= .ok (.pointer (some (q.add 2))) w:=λ w q=>by kernel_rfl
theorem LE:∀ (w:WD) (q:Addr),(Instr.fieldAt 97 (.pointer (some q)) 0).run Tryz.prog w= .ok (.pointer (some (q.add 0))) w:=λ w q=>by kernel_rfl
theorem LF:∀ (w:WD) (q:Addr),(Instr.fieldAt 97 (.pointer (some q)) 1).run Tryz.prog w= .ok (.pointer (some (q.add 1))) w:=λ w q=>by kernel_rfl
theorem HB:∀ (w:WD) (q:Addr),(Instr.fieldAt 37 (.pointer (some q)) 10).run Tryz.prog w= .ok (.pointer (some (q.add 11))) w:=λ w q=>by kernel_rfl
theorem Ue:∀ (w:WD) (q:Addr),(Instr.fieldAt 37 (.pointer (some q)) 6).run Tryz.prog w= .ok (.pointer (some (q.add 6))) w:=λ w q=>by kernel_rfl
theorem LG:∀ (w:WD) (q:Addr),(Instr.fieldAt 37 (.pointer (some q)) 0).run Tryz.prog w= .ok (.pointer (some (q.add 0))) w:=λ w q=>by kernel_rfl
theorem LH:∀ (w:WD) (q:Addr),(Instr.fieldAt 37 (.pointer (some q)) 8).run Tryz.prog w= .ok (.pointer (some (q.add 8))) w:=λ w q=>by kernel_rfl
theorem Hp:∀ (w:WD) (q:Addr),(Instr.fieldAt 37 (.pointer (some q)) 1).run Tryz.prog w= .ok (.pointer (some (q.add 1))) w:=λ w q=>by kernel_rfl
theorem Od:∀ (w:WD) (q:Addr),(Instr.fieldAt 37 (.pointer (some q)) 2).run Tryz.prog w= .ok (.pointer (some (q.add 2))) w:=λ w q=>by kernel_rfl
theorem LI:∀ (w:WD) (q:Addr),(Instr.fieldAt 37 (.pointer (some q)) 3).run Tryz.prog w= .ok (.pointer (some (q.add 3))) w:=λ w q=>by kernel_rfl
theorem LJ:∀ (w:WD) (q:Addr),(Instr.fieldAt 37 (.pointer (some q)) 7).run Tryz.prog w= .ok (.pointer (some (q.add 7))) w:=λ w q=>by kernel_rfl
theorem Jj:∀ (w:WD) (q:Addr),(Instr.fieldAt 37 (.pointer (some q)) 11).run Tryz.prog w= .ok (.pointer (some (q.add 12))) w:=λ w q=>by kernel_rfl
theorem Oe:∀ (w:WD) (q:Addr),(Instr.fieldAt 35 (.pointer (some q)) 0).run Tryz.prog w= .ok (.pointer (some (q.add 0))) w:=λ w q=>by kernel_rfl
theorem Uf:∀ (w:WD) (q:Addr),(Instr.fieldAt 35 (.pointer (some q)) 1).run Tryz.prog w= .ok (.pointer (some (q.add 1))) w:=λ w q=>by kernel_rfl
abbrev U46:=underlying46
theorem LK:∀ (w:WD) (q:Addr),(Instr.fieldAt 35 (.pointer (some q)) 2).run Tryz.prog w= .ok (.pointer (some (q.add 2))) w:=λ w q=>by kernel_rfl
theorem LL:∀ (w:WD) (q:Addr),(Instr.fieldAt 37 (.pointer (some q)) 9).run Tryz.prog w= .ok (.pointer (some (q.add 9))) w:=λ w q=>by kernel_rfl
theorem bV:(Tryz.prog.info? 48).map (·.size)=some 10:=by kernel_rfl
abbrev U48:=underlying48
abbrev Ci:=underlying101
theorem W3:(Tryz.prog.info? 100).map (·.size)=some 1:=by kernel_rfl
abbrev Cj:=underlying100
theorem Hq:∀ (w:WD) (q:Addr),(Instr.fieldAt 87 (.pointer (some q)) 4).run Tryz.prog w= .ok (.pointer (some (q.add 6))) w:=λ w q=>by kernel_rfl
abbrev U84:=underlying84
theorem Q3:(Tryz.prog.info? 48).bind (·.zero)=some (.agg [.int .i64 0,.int .i64 0,.bool false,.int .i64 0,.slice none 0 0,.slice none 0 0,.slice none 0 0,.slice none 0 0,.slice none 0 0,.slice none 0 0].toArray):=by kernel_rfl
theorem Az:∀ (w:WD) (ok:Nat->Prop),bC.R w ok vL [.int .i64 0,.int .i64 0,.bool false,.int .i64 0,.slice none 0 0,.slice none 0 0,.slice none 0 0,.slice none 0 0,.slice none 0 0,.slice none 0 0]:=λ w ok=>sO (Sl.nil _ _ _) (Sl.nil _ _ _) (Sl.nil _ _ _) (Sl.nil _ _ _) (Sl.nil _ _ _) (Sl.nil _ _ _)
theorem pI:Tryz.prog.follows .mixedOrders=true:=by kernel_rfl
theorem Hr:∀ (w:WD) (q:Addr),(Instr.fieldAt 87 (.pointer (some q)) 3).run Tryz.prog w= .ok (.pointer (some (q.add 4))) w:=λ w q=>by kernel_rfl
abbrev U73:=underlying73
theorem gG:(Tryz.prog.info? 73).map (·.size)=some 2:=by kernel_rfl
theorem V1:(Tryz.prog.info? 73).bind (·.zero)=some (.agg #[.slice none 0 0,.slice none 0 0]):=by kernel_rfl
theorem Ug:∀ (w:WD) (q:Addr),(Instr.fieldAt 73 (.pointer (some q)) 0).run Tryz.prog w= .ok (.pointer (some (q.add 0))) w:=λ w q=>by kernel_rfl
abbrev U70:=underlying70
theorem tN:(Tryz.prog.info? 35).map (·.size)=some 4:=by kernel_rfl
abbrev U35:=underlying35
theorem DS:(Tryz.prog.info? 35).bind (·.zero)=some (.agg OC.toArray):=by kernel_rfl
theorem Uh:(Tryz.prog.info? 3).bind (·.zero)=some (.int .i64 0):=by kernel_rfl
abbrev QA:=underlying294
theorem Dl:zX Tryz.prog 294 L2:=DM (Maps.Keyed.of_law (deep_law_laid (by kernel_rfl) (m:=3) (by omega) (of_decide_eq_true (by kernel_rfl)) (by kernel_rfl) (by kernel_rfl))) QA U2 U2 (by kernel_rfl) ⟨by kernel_rfl,by kernel_rfl,by kernel_rfl,rfl,rfl⟩ (by kernel_rfl) (by kernel_rfl)
abbrev Mh:=underlying292
theorem Ui:∀ (w:WD) (q:Addr),(Instr.fieldAt 73 (.pointer (some q)) 1).run Tryz.prog w= .ok (.pointer (some (q.add 1))) w:=λ w q=>by kernel_rfl
abbrev U71:=underlying71
theorem tO:(Tryz.prog.info? 126).map (·.size)=some 3:=by kernel_rfl
theorem HC:∀ (w:WD) (q:Addr),(Instr.fieldAt 126 (.pointer (some q)) 0).run Tryz.prog w= .ok (.pointer (some (q.add 0))) w:=λ w q=>by kernel_rfl
abbrev QB:=underlying236
abbrev Mi:=underlying126
abbrev QC:=underlying124
theorem HD:∀ (w:WD) (q:Addr),(Instr.fieldAt 126 (.pointer (some q)) 1).run Tryz.prog w= .ok (.pointer (some (q.add 1))) w:=λ w q=>by kernel_rfl
theorem Xg:∀ (w:WD) (q:Addr),(Instr.fieldAt 126 (.pointer (some q)) 2).run Tryz.prog w= .ok (.pointer (some (q.add 2))) w:=λ w q=>by kernel_rfl
abbrev U44:=underlying44
theorem xL:(Tryz.prog.info? 131).map (·.size)=some 4:=by kernel_rfl
abbrev Mj:=underlying131
theorem Sk:(Tryz.prog.info? 131).bind (·.zero)=some (.agg OB.toArray):=by kernel_rfl
theorem HE:∀ (w:WD) (q:Addr),(Instr.fieldAt 131 (.pointer (some q)) 0).run Tryz.prog w= .ok (.pointer (some (q.add 0))) w:=λ w q=>by kernel_rfl
theorem HF:∀ (w:WD) (q:Addr),(Instr.fieldAt 131 (.pointer (some q)) 1).run Tryz.prog w= .ok (.pointer (some (q.add 1))) w:=λ w q=>by kernel_rfl
theorem HG:∀ (w:WD) (q:Addr),(Instr.fieldAt 131 (.pointer (some q)) 2).run Tryz.prog w= .ok (.pointer (some (q.add 2))) w:=λ w q=>by kernel_rfl
theorem HI:∀ (w:WD) (q:Addr),(Instr.fieldAt 131 (.pointer (some q)) 3).run Tryz.prog w= .ok (.pointer (some (q.add 3))) w:=λ w q=>by kernel_rfl
theorem LM:(Tryz.prog.info? 126).map (λ i=>(i.zero,i.size,i.bytes))=some (some (.agg #[.int .i64 0,.int .i64 0,.slice none 0 0]),3,40):=by kernel_rfl
theorem dL{w:WD}{os:List Ob}{rs:List Rp}{v:VL}{xs:List aE}(H:Sep w os rs)(hm:rSl aI v xs ∈ rs)(hl:xs.length <= LIM) :
    Calls Tryz.prog 75 [v].toArray w (Ret λ v' w'=>Sep w' (Row 126 aI v' xs::os) rs):=by
  obtain ⟨b,c,rfl⟩:=H.slform hm
  refine enter func75 rfl ntmps75 rfl λ a E=>?_
  simp only [yA,Nat.reduceAdd] at E
  refine wS ?_
  refine wG ?_
  refine bY E (wn rfl) rfl rfl (cT E rfl rfl) ?_
  clear E;clear a;intro a E
  refine wN ?_
  refine aA ?_
  refine wS ?_
  refine wS ?_
  refine wG ?_
  refine bY E (wn rfl) rfl rfl (bM E rfl rfl) ?_
  clear E;clear a;intro a E
  refine bY E (wn rfl) rfl rfl (T7 E rfl rfl rfl underlying71) ?_
  clear E;clear a;intro a E
  refine wN ?_
  refine aA ?_
  refine wD E rfl ?_ ?_
  · intro hb
    cases b with
    | some _=>cases hb
    | none=>
      obtain rfl:=H.sl_none hm
      refine wS ?_
      refine wG ?_
      refine bY E (wn rfl) rfl rfl (cT E rfl rfl) ?_
      clear E;clear a;intro a E
      refine wN ?_
      refine aA ?_
      refine wR ?_
      refine aG ?_
      refine wW E rfl rfl ?_
      exact H.nilRow 126 aI
  · intro hb
    refine wK ?_
    refine aA ?_
    refine wS ?_
    refine wG ?_
    refine kG (e:=126) (d:=aI) (cs:=[]) (xs:=[]) E H (wn rfl) rfl rfl (ps:=[]) (parts:=[]) rfl rfl (by kernel_rfl) rfl rfl (λ ok hr=>Rows.nil _ _ _) ?_
    clear E H;clear a;clear w;intro v2 w a H E
    refine bY E (wn rfl) rfl rfl (bM E rfl rfl) ?_
    clear E;clear a;intro a E
    refine fE (i:=0) E H (wn rfl) rfl rfl rfl rfl rfl rfl (nU hm) underlying71 LM rfl (by simpa using hl) rfl ?_
    clear E H;clear a;clear w;intro v3 w a H E
    refine bY E (wn rfl) rfl rfl (cT E rfl rfl) ?_
    clear E;clear a;intro a E
    refine wN ?_
    refine aA ?_
    refine wR ?_
    refine wW E rfl rfl ?_
    exact H

theorem Uj:(Tryz.prog.info? 71).map (·.size)=some 1:=by kernel_rfl
theorem Of:(Tryz.prog.info? 131).map (λ i=>(i.zero,i.size,i.bytes))=some (some (.agg #[.int .i64 0,.int .i64 0,.string ⟨#[]⟩,.int .i64 0]),4,40):=by kernel_rfl
theorem eW{w:WD}{os:List Ob}{rs:List Rp}{v:VL}{xs:List bU}(H:Sep w os rs)(hm:rSl aS v xs ∈ rs)(hl:xs.length <= LIM) :
    Calls Tryz.prog 76 [v].toArray w (Ret λ v' w'=>Sep w' (Row 131 aS v' xs::os) rs):=by
  obtain ⟨b,c,rfl⟩:=H.slform hm
  refine enter func76 rfl ntmps76 rfl λ a E=>?_
  simp only [yA,Nat.reduceAdd] at E
  refine wS ?_
  refine wG ?_
  refine bY E (wn rfl) rfl rfl (cT E rfl rfl) ?_
  clear E;clear a;intro a E
  refine wN ?_
  refine aA ?_
  refine wS ?_
  refine wS ?_
  refine wG ?_
  refine bY E (wn rfl) rfl rfl (bM E rfl rfl) ?_
  clear E;clear a;intro a E
  refine bY E (wn rfl) rfl rfl (T7 E rfl rfl rfl underlying44) ?_
  clear E;clear a;intro a E
  refine wN ?_
  refine aA ?_
  refine wD E rfl ?_ ?_
  · intro hb
    cases b with
    | some _=>cases hb
    | none=>
      obtain rfl:=H.sl_none hm
      refine wS ?_
      refine wG ?_
      refine bY E (wn rfl) rfl rfl (cT E rfl rfl) ?_
      clear E;clear a;intro a E
      refine wN ?_
      refine aA ?_
      refine wR ?_
      refine aG ?_
      refine wW E rfl rfl ?_
      exact H.nilRow 131 aS
  · intro hb
    refine wK ?_
    refine aA ?_
    refine wS ?_
    refine wG ?_
    refine kG (e:=131) (d:=aS) (cs:=[]) (xs:=[]) E H (wn rfl) rfl rfl (ps:=[]) (parts:=[]) rfl rfl (by kernel_rfl) rfl rfl (λ ok hr=>Rows.nil _ _ _) ?_
    clear E H;clear a;clear w;intro v2 w a H E
    refine bY E (wn rfl) rfl rfl (bM E rfl rfl) ?_
    clear E;clear a;intro a E
    refine fE (i:=0) E H (wn rfl) rfl rfl rfl rfl rfl rfl (nU hm) underlying44 Of rfl (by simpa using hl) rfl ?_
    clear E H;clear a;clear w;intro v3 w a H E
    refine bY E (wn rfl) rfl rfl (cT E rfl rfl) ?_
    clear E;clear a;intro a E
    refine wN ?_
    refine aA ?_
    refine wR ?_
    refine wW E rfl rfl ?_
    exact H

theorem LN:(Tryz.prog.info? 131).bind (·.zero)=some (.agg #[.int .i64 0,.int .i64 0,.string ⟨#[]⟩,.int .i64 0]):=by kernel_rfl
theorem Uk:(Tryz.prog.info? 44).map (·.size)=some 1:=by kernel_rfl
theorem LO:∀ (w:WD) (q:Addr),(Instr.fieldAt 48 (.pointer (some q)) 0).run Tryz.prog w= .ok (.pointer (some (q.add 0))) w:=λ w q=>by kernel_rfl
abbrev U41:=underlying41
theorem Yq:(Tryz.prog.info? 35).map (λ i=>(i.zero,i.size,i.bytes))=some (some (.agg #[.int .i64 0,.int .i64 0,.string ⟨#[]⟩,.bool false]),4,40):=by kernel_rfl
theorem eX{w:WD}{os:List Ob}{rs:List Rp}{v:VL}{xs:List aO}(H:Sep w os rs)(hm:rSl aP v xs ∈ rs)(hl:xs.length <= LIM) :
    Calls Tryz.prog 74 [v].toArray w (Ret λ v' w'=>Sep w' (Row 35 aP v' xs::os) rs):=by
  obtain ⟨b,c,rfl⟩:=H.slform hm
  refine enter func74 rfl ntmps74 rfl λ a E=>?_
  simp only [yA,Nat.reduceAdd] at E
  refine wS ?_
  refine wG ?_
  refine bY E (wn rfl) rfl rfl (cT E rfl rfl) ?_
  clear E;clear a;intro a E
  refine wN ?_
  refine aA ?_
  refine wS ?_
  refine wS ?_
  refine wG ?_
  refine bY E (wn rfl) rfl rfl (bM E rfl rfl) ?_
  clear E;clear a;intro a E
  refine bY E (wn rfl) rfl rfl (T7 E rfl rfl rfl underlying70) ?_
  clear E;clear a;intro a E
  refine wN ?_
  refine aA ?_
  refine wD E rfl ?_ ?_
  · intro hb
    cases b with
    | some _=>cases hb
    | none=>
      obtain rfl:=H.sl_none hm
      refine wS ?_
      refine wG ?_
      refine bY E (wn rfl) rfl rfl (cT E rfl rfl) ?_
      clear E;clear a;intro a E
      refine wN ?_
      refine aA ?_
      refine wR ?_
      refine aG ?_
      refine wW E rfl rfl ?_
      exact H.nilRow 35 aP
  · intro hb
    refine wK ?_
    refine aA ?_
    refine wS ?_
    refine wG ?_
    refine kG (e:=35) (d:=aP) (cs:=[]) (xs:=[]) E H (wn rfl) rfl rfl (ps:=[]) (parts:=[]) rfl rfl (by kernel_rfl) rfl rfl (λ ok hr=>Rows.nil _ _ _) ?_
    clear E H;clear a;clear w;intro v2 w a H E
    refine bY E (wn rfl) rfl rfl (bM E rfl rfl) ?_
    clear E;clear a;intro a E
    refine fE (i:=0) E H (wn rfl) rfl rfl rfl rfl rfl rfl (nU hm) underlying70 Yq rfl (by simpa using hl) rfl ?_
    clear E H;clear a;clear w;intro v3 w a H E
    refine bY E (wn rfl) rfl rfl (cT E rfl rfl) ?_
    clear E;clear a;intro a E
    refine wN ?_
    refine aA ?_
    refine wR ?_
    refine wW E rfl rfl ?_
    exact H

theorem Yr:(Tryz.prog.info? 70).map (·.size)=some 1:=by kernel_rfl
abbrev U28:=underlying28
theorem LP:∀ (w:WD) (q:Addr),(Instr.fieldAt 87 (.pointer (some q)) 2).run Tryz.prog w= .ok (.pointer (some (q.add 3))) w:=λ w q=>by kernel_rfl
abbrev U58:=underlying58
theorem jZ:(Tryz.prog.info? 78).map (·.size)=some 3:=by kernel_rfl
abbrev U78:=underlying78
theorem LQ:∀ (w:WD) (q:Addr),(Instr.fieldAt 78 (.pointer (some q)) 0).run Tryz.prog w= .ok (.pointer (some (q.add 0))) w:=λ w q=>by kernel_rfl
theorem LR:∀ (w:WD) (q:Addr),(Instr.fieldAt 78 (.pointer (some q)) 1).run Tryz.prog w= .ok (.pointer (some (q.add 1))) w:=λ w q=>by kernel_rfl
theorem AX:∀ (w:WD) (q:Addr),(Instr.fieldAt 87 (.pointer (some q)) 1).run Tryz.prog w= .ok (.pointer (some (q.add 2))) w:=λ w q=>by kernel_rfl
theorem Og:∀ (w:WD) (q:Addr),(Instr.fieldAt 87 (.pointer (some q)) 0).run Tryz.prog w= .ok (.pointer (some (q.add 0))) w:=λ w q=>by kernel_rfl
theorem pJ:(Tryz.prog.info? 25).bind (·.zero)=some (.agg #[.slice none 0 0,.slice none 0 0]):=by kernel_rfl
theorem LS:(Tryz.prog.info? 93).bind (·.zero)=some (.agg Hj.toArray):=by kernel_rfl
theorem PF:(Tryz.prog.info? 183).bind (·.zero)=some (.agg #[.nilFunc,.nilFunc,.nilFunc,.nilFunc,.nilFunc,.nilFunc,.nilFunc,.nilFunc,.nilFunc,.nilFunc,.nilFunc]):=by kernel_rfl
theorem PG:(Tryz.prog.info? 183).map (·.size)=some 11:=by kernel_rfl
theorem V2:(Tryz.prog.info? 93).map (·.size)=some 5:=by kernel_rfl
theorem Oh:(Tryz.prog.info? 107).map (λ i=>(i.zero,i.size,i.bytes))=some (some (.agg #[.string ⟨#[]⟩,.string ⟨#[]⟩,.int .i64 0,.int .i64 0,.int .i64 0]),5,56):=by kernel_rfl
theorem uW{w:WD}{os:List Ob}{rs:List Rp}{v:VL}{xs:List aH}(H:Sep w os rs)(hm:rSl aB v xs ∈ rs)(hl:xs.length <= LIM) :
    Calls Tryz.prog 56 [v].toArray w (Ret λ v' w'=>Sep w' (Row 107 aB v' xs::os) rs):=by
  obtain ⟨b,c,rfl⟩:=H.slform hm
  refine enter func56 rfl ntmps56 rfl λ a E=>?_
  simp only [yA,Nat.reduceAdd] at E
  refine wS ?_
  refine wG ?_
  refine bY E (wn rfl) rfl rfl (cT E rfl rfl) ?_
  clear E;clear a;intro a E
  refine wN ?_
  refine aA ?_
  refine wS ?_
  refine wS ?_
  refine wG ?_
  refine bY E (wn rfl) rfl rfl (bM E rfl rfl) ?_
  clear E;clear a;intro a E
  refine bY E (wn rfl) rfl rfl (T7 E rfl rfl rfl underlying22) ?_
  clear E;clear a;intro a E
  refine wN ?_
  refine aA ?_
  refine wD E rfl ?_ ?_
  · intro hb
    cases b with
    | some _=>cases hb
    | none=>
      obtain rfl:=H.sl_none hm
      refine wS ?_
      refine wG ?_
      refine bY E (wn rfl) rfl rfl (cT E rfl rfl) ?_
      clear E;clear a;intro a E
      refine wN ?_
      refine aA ?_
      refine wR ?_
      refine aG ?_
      refine wW E rfl rfl ?_
      exact H.nilRow 107 aB
  · intro hb
    refine wK ?_
    refine aA ?_
    refine wS ?_
    refine wG ?_
    refine kG (e:=107) (d:=aB) (cs:=[]) (xs:=[]) E H (wn rfl) rfl rfl (ps:=[]) (parts:=[]) rfl rfl (by kernel_rfl) rfl rfl (λ ok hr=>Rows.nil _ _ _) ?_
    clear E H;clear a;clear w;intro v2 w a H E
    refine bY E (wn rfl) rfl rfl (bM E rfl rfl) ?_
    clear E;clear a;intro a E
    refine fE (i:=0) E H (wn rfl) rfl rfl rfl rfl rfl rfl (nU hm) underlying22 Oh rfl (by simpa using hl) rfl ?_
    clear E H;clear a;clear w;intro v3 w a H E
    refine bY E (wn rfl) rfl rfl (cT E rfl rfl) ?_
    clear E;clear a;intro a E
    refine wN ?_
    refine aA ?_
    refine wR ?_
    refine wW E rfl rfl ?_
    exact H

theorem Sn:(Tryz.prog.info? 89).map (λ i=>(i.zero,i.size,i.bytes))=some (some (.agg #[.string ⟨#[]⟩,.int .i64 0]),2,24):=by kernel_rfl
theorem uX{w:WD}{os:List Ob}{rs:List Rp}{v:VL}{xs:List aL}(H:Sep w os rs)(hm:rSl aC v xs ∈ rs)(hl:xs.length <= LIM) :
    Calls Tryz.prog 57 [v].toArray w (Ret λ v' w'=>Sep w' (Row 89 aC v' xs::os) rs):=by
  obtain ⟨b,c,rfl⟩:=H.slform hm
  refine enter func57 rfl ntmps57 rfl λ a E=>?_
  simp only [yA,Nat.reduceAdd] at E
  refine wS ?_
  refine wG ?_
  refine bY E (wn rfl) rfl rfl (cT E rfl rfl) ?_
  clear E;clear a;intro a E
  refine wN ?_
  refine aA ?_
  refine wS ?_
  refine wS ?_
  refine wG ?_
  refine bY E (wn rfl) rfl rfl (bM E rfl rfl) ?_
  clear E;clear a;intro a E
  refine bY E (wn rfl) rfl rfl (T7 E rfl rfl rfl underlying23) ?_
  clear E;clear a;intro a E
  refine wN ?_
  refine aA ?_
  refine wD E rfl ?_ ?_
  · intro hb
    cases b with
    | some _=>cases hb
    | none=>
      obtain rfl:=H.sl_none hm
      refine wS ?_
      refine wG ?_
      refine bY E (wn rfl) rfl rfl (cT E rfl rfl) ?_
      clear E;clear a;intro a E
      refine wN ?_
      refine aA ?_
      refine wR ?_
      refine aG ?_
      refine wW E rfl rfl ?_
      exact H.nilRow 89 aC
  · intro hb
    refine wK ?_
    refine aA ?_
    refine wS ?_
    refine wG ?_
    refine kG (e:=89) (d:=aC) (cs:=[]) (xs:=[]) E H (wn rfl) rfl rfl (ps:=[]) (parts:=[]) rfl rfl (by kernel_rfl) rfl rfl (λ ok hr=>Rows.nil _ _ _) ?_
    clear E H;clear a;clear w;intro v2 w a H E
    refine bY E (wn rfl) rfl rfl (bM E rfl rfl) ?_
    clear E;clear a;intro a E
    refine fE (i:=0) E H (wn rfl) rfl rfl rfl rfl rfl rfl (nU hm) underlying23 Sn rfl (by simpa using hl) rfl ?_
    clear E H;clear a;clear w;intro v3 w a H E
    refine bY E (wn rfl) rfl rfl (cT E rfl rfl) ?_
    clear E;clear a;intro a E
    refine wN ?_
    refine aA ?_
    refine wR ?_
    refine wW E rfl rfl ?_
    exact H

abbrev Ck:=underlying183
theorem W4:(Tryz.prog.info? 180).map (·.size)=some 1:=by kernel_rfl
abbrev Cm:=underlying180
theorem PH:(Tryz.prog.info? 121).bind (·.zero)=some (.nilFunc):=by kernel_rfl
theorem PI:(Tryz.prog.info? 121).map (·.size)=some 1:=by kernel_rfl
abbrev Ys:=underlying182
theorem HJ:∀ (w:WD) (q:Addr),(Instr.fieldAt 185 (.pointer (some q)) 0).run Tryz.prog w= .ok (.pointer (some (q.add 0))) w:=λ w q=>by kernel_rfl
abbrev QD:=underlying121
theorem HK:∀ (w:WD) (q:Addr),(Instr.fieldAt 185 (.pointer (some q)) 1).run Tryz.prog w= .ok (.pointer (some (q.add 2))) w:=λ w q=>by kernel_rfl
theorem LT:∀ (w:WD) (q:Addr),(Instr.fieldAt 93 (.pointer (some q)) 4).run Tryz.prog w= .ok (.pointer (some (q.add 4))) w:=λ w q=>by kernel_rfl
theorem LU:(Tryz.prog.info? 33).map (·.size)=some 1:=by kernel_rfl
theorem Yt:(Tryz.prog.info? 107).bind (·.zero)=some (.agg OR.toArray):=by kernel_rfl
theorem LV:(Tryz.prog.info? 107).bind (·.zero)=some (.agg #[.string ⟨#[]⟩,.string ⟨#[]⟩,.int .i64 0,.int .i64 0,.int .i64 0]):=by kernel_rfl
theorem Pz:(Tryz.prog.info? 22).map (·.size)=some 1:=by kernel_rfl
theorem AY:∀ (w:WD) (s t:BY),(callFunc 255 #[.string s,.string t]).run Tryz.prog w= .ok (.value (.int .i64 (Extern.BytealgCompare.cmp s t))) w:=λ w s t=>Tl func255 (by kernel_rfl) (by kernel_rfl) (by kernel_rfl) (e:=Extern.BytealgCompare.compare) (by kernel_rfl) (DB s t w)
theorem Oi:∀ (w:WD) (q:Addr),(Op.equal 244 (.pointer (some q)) (.pointer none)).run Tryz.prog w= .ok false w:=λ w q=>by kernel_rfl
theorem Oj:∀ w:WD,(Op.equal 244 (.pointer none) (.pointer none)).run Tryz.prog w= .ok true w:=λ w=>by kernel_rfl
theorem LW:∀ (w:WD) (q:Addr),(Instr.fieldAt 93 (.pointer (some q)) 2).run Tryz.prog w= .ok (.pointer (some (q.add 2))) w:=λ w q=>by kernel_rfl
theorem LX:∀ (w:WD) (q:Addr),(Instr.fieldAt 93 (.pointer (some q)) 3).run Tryz.prog w= .ok (.pointer (some (q.add 3))) w:=λ w q=>by kernel_rfl
theorem En:(Tryz.prog.info? 23).map (·.size)=some 1:=by kernel_rfl
theorem LY:∀ (w:WD) (q:Addr),(Instr.fieldAt 93 (.pointer (some q)) 1).run Tryz.prog w= .ok (.pointer (some (q.add 1))) w:=λ w q=>by kernel_rfl
theorem LZ:∀ (w:WD) (q:Addr),(Instr.fieldAt 93 (.pointer (some q)) 0).run Tryz.prog w= .ok (.pointer (some (q.add 0))) w:=λ w q=>by kernel_rfl
abbrev U93:=underlying93
abbrev U40:=underlying40
theorem PJ:(Tryz.prog.info? 93).map (λ i=>(i.zero,i.size,i.bytes))=some (some (.agg #[.int .i64 0,.string ⟨#[]⟩,.string ⟨#[]⟩,.int .i64 0,.slice none 0 0]),5,72):=by kernel_rfl
theorem MA:∀ (w:WD) (q:Addr),(Instr.fieldAt 35 (.pointer (some q)) 3).run Tryz.prog w= .ok (.pointer (some (q.add 3))) w:=λ w q=>by kernel_rfl
theorem PK:(Tryz.prog.info? 35).bind (·.zero)=some (.agg #[.int .i64 0,.int .i64 0,.string ⟨#[]⟩,.bool false]):=by kernel_rfl
theorem PL:(Tryz.prog.info? 31).map (λ i=>(i.zero,i.size,i.bytes))=some (some (.agg #[.string ⟨#[]⟩,.int .i64 0,.int .i64 0]),3,32):=by kernel_rfl
theorem tJ{w:WD}{os:List Ob}{rs:List Rp}{v:VL}{xs:List aF}(H:Sep w os rs)(hm:rSl aN v xs ∈ rs)(hl:xs.length <= LIM) :
    Calls Tryz.prog 66 [v].toArray w (Ret λ v' w'=>Sep w' (Row 31 aN v' xs::os) rs):=by
  obtain ⟨b,c,rfl⟩:=H.slform hm
  refine enter func66 rfl ntmps66 rfl λ a E=>?_
  simp only [yA,Nat.reduceAdd] at E
  refine wS ?_
  refine wG ?_
  refine bY E (wn rfl) rfl rfl (cT E rfl rfl) ?_
  clear E;clear a;intro a E
  refine wN ?_
  refine aA ?_
  refine wS ?_
  refine wS ?_
  refine wG ?_
  refine bY E (wn rfl) rfl rfl (bM E rfl rfl) ?_
  clear E;clear a;intro a E
  refine bY E (wn rfl) rfl rfl (T7 E rfl rfl rfl underlying32) ?_
  clear E;clear a;intro a E
  refine wN ?_
  refine aA ?_
  refine wD E rfl ?_ ?_
  · intro hb
    cases b with
    | some _=>cases hb
    | none=>
      obtain rfl:=H.sl_none hm
      refine wS ?_
      refine wG ?_
      refine bY E (wn rfl) rfl rfl (cT E rfl rfl) ?_
      clear E;clear a;intro a E
      refine wN ?_
      refine aA ?_
      refine wR ?_
      refine aG ?_
      refine wW E rfl rfl ?_
      exact H.nilRow 31 aN
  · intro hb
    refine wK ?_
    refine aA ?_
    refine wS ?_
    refine wG ?_
    refine kG (e:=31) (d:=aN) (cs:=[]) (xs:=[]) E H (wn rfl) rfl rfl (ps:=[]) (parts:=[]) rfl rfl (by kernel_rfl) rfl rfl (λ ok hr=>Rows.nil _ _ _) ?_
    clear E H;clear a;clear w;intro v2 w a H E
    refine bY E (wn rfl) rfl rfl (bM E rfl rfl) ?_
    clear E;clear a;intro a E
    refine fE (i:=0) E H (wn rfl) rfl rfl rfl rfl rfl rfl (nU hm) underlying32 PL rfl (by simpa using hl) rfl ?_
    clear E H;clear a;clear w;intro v3 w a H E
    refine bY E (wn rfl) rfl rfl (cT E rfl rfl) ?_
    clear E;clear a;intro a E
    refine wN ?_
    refine aA ?_
    refine wR ?_
    refine wW E rfl rfl ?_
    exact H

theorem PM:(Tryz.prog.info? 122).bind (·.zero)=some (.nilFunc):=by kernel_rfl
theorem PN:(Tryz.prog.info? 122).map (·.size)=some 1:=by kernel_rfl
abbrev MB:=underlying122
theorem MC:(Tryz.prog.info? 89).bind (·.zero)=some (.agg #[.string (ByteArray.mk #[]),.int .i64 0]):=by kernel_rfl
theorem DT:(Tryz.prog.info? 32).map (·.size)=some 1:=by kernel_rfl
theorem AZ:∀ (w:WD) (q:Addr),(Instr.fieldAt 87 (.pointer (some q)) 6).run Tryz.prog w= .ok (.pointer (some (q.add 8))) w:=λ w q=>by kernel_rfl
theorem MD:∀ (w:WD) (q:Addr),(Instr.fieldAt 37 (.pointer (some q)) 4).run Tryz.prog w= .ok (.pointer (some (q.add 4))) w:=λ w q=>by kernel_rfl
theorem Ul:∀ (w:WD) (q:Addr),(Instr.fieldAt 87 (.pointer (some q)) 5).run Tryz.prog w= .ok (.pointer (some (q.add 7))) w:=λ w q=>by kernel_rfl
abbrev U85:=underlying85
theorem Ok:(Tryz.prog.info? 154).bind (·.zero)=some (.agg [.bool false,.slice none 0 0,.int .i64 0,.int .i64 0,.bool false,.int .i64 0,.slice none 0 0,.slice none 0 0,.slice none 0 0,.slice none 0 0,.slice none 0 0,.slice none 0 0].toArray):=by kernel_rfl
theorem So:∀ (w:WD) (ok:Nat->Prop),dC.R w ok W2 [.bool false,.slice none 0 0,.int .i64 0,.int .i64 0,.bool false,.int .i64 0,.slice none 0 0,.slice none 0 0,.slice none 0 0,.slice none 0 0,.slice none 0 0,.slice none 0 0]:=λ w ok=>U7 (Sl.nil _ _ _) (Sl.nil _ _ _) (Sl.nil _ _ _) (Sl.nil _ _ _) (Sl.nil _ _ _) (Sl.nil _ _ _) (Sl.nil _ _ _)
theorem Sp:(Tryz.prog.info? 154).bind (·.zero)=some (.agg OE.toArray):=by kernel_rfl
theorem Sq:(Tryz.prog.info? 154).map (·.size)=some 12:=by kernel_rfl
theorem HL:∀ (w:WD) (q:Addr),(Instr.fieldAt 154 (.pointer (some q)) 0).run Tryz.prog w= .ok (.pointer (some (q.add 0))) w:=λ w q=>by kernel_rfl
theorem PO:(Tryz.prog.info? 78).map (λ i=>(i.zero,i.size,i.bytes))=some (some (.agg #[.string ⟨#[]⟩,.int .i64 0,.int .i64 0]),3,32):=by kernel_rfl
theorem nZ{w:WD}{os:List Ob}{rs:List Rp}{v:VL}{xs:List aQ}(H:Sep w os rs)(hm:rSl aY v xs ∈ rs)(hl:xs.length <= LIM) :
    Calls Tryz.prog 60 [v].toArray w (Ret λ v' w'=>Sep w' (Row 78 aY v' xs::os) rs):=by
  obtain ⟨b,c,rfl⟩:=H.slform hm
  refine enter func60 rfl ntmps60 rfl λ a E=>?_
  simp only [yA,Nat.reduceAdd] at E
  refine wS ?_
  refine wG ?_
  refine bY E (wn rfl) rfl rfl (cT E rfl rfl) ?_
  clear E;clear a;intro a E
  refine wN ?_
  refine aA ?_
  refine wS ?_
  refine wS ?_
  refine wG ?_
  refine bY E (wn rfl) rfl rfl (bM E rfl rfl) ?_
  clear E;clear a;intro a E
  refine bY E (wn rfl) rfl rfl (T7 E rfl rfl rfl underlying58) ?_
  clear E;clear a;intro a E
  refine wN ?_
  refine aA ?_
  refine wD E rfl ?_ ?_
  · intro hb
    cases b with
    | some _=>cases hb
    | none=>
      obtain rfl:=H.sl_none hm
      refine wS ?_
      refine wG ?_
      refine bY E (wn rfl) rfl rfl (cT E rfl rfl) ?_
      clear E;clear a;intro a E
      refine wN ?_
      refine aA ?_
      refine wR ?_
      refine aG ?_
      refine wW E rfl rfl ?_
      exact H.nilRow 78 aY
  · intro hb
    refine wK ?_
    refine aA ?_
    refine wS ?_
    refine wG ?_
    refine kG (e:=78) (d:=aY) (cs:=[]) (xs:=[]) E H (wn rfl) rfl rfl (ps:=[]) (parts:=[]) rfl rfl (by kernel_rfl) rfl rfl (λ ok hr=>Rows.nil _ _ _) ?_
    clear E H;clear a;clear w;intro v2 w a H E
    refine bY E (wn rfl) rfl rfl (bM E rfl rfl) ?_
    clear E;clear a;intro a E
    refine fE (i:=0) E H (wn rfl) rfl rfl rfl rfl rfl rfl (nU hm) underlying58 PO rfl (by simpa using hl) rfl ?_
    clear E H;clear a;clear w;intro v3 w a H E
    refine bY E (wn rfl) rfl rfl (cT E rfl rfl) ?_
    clear E;clear a;intro a E
    refine wN ?_
    refine aA ?_
    refine wR ?_
    refine wW E rfl rfl ?_
    exact H

theorem DU:(Tryz.prog.info? 78).bind (·.zero)=some (.agg OS.toArray):=by kernel_rfl
theorem PP:(Tryz.prog.info? 78).bind (·.zero)=some (.agg #[.string ⟨#[]⟩,.int .i64 0,.int .i64 0]):=by kernel_rfl
theorem ME:(Tryz.prog.info? 58).map (·.size)=some 1:=by kernel_rfl
theorem HM:∀ (w:WD) (q:Addr),(Instr.fieldAt 154 (.pointer (some q)) 2).run Tryz.prog w= .ok (.pointer (some (q.add 2))) w:=λ w q=>by kernel_rfl
theorem MF:∀ (w:WD) (q:Addr),(Instr.fieldAt 48 (.pointer (some q)) 2).run Tryz.prog w= .ok (.pointer (some (q.add 2))) w:=λ w q=>by kernel_rfl
theorem HN:∀ (w:WD) (q:Addr),(Instr.fieldAt 154 (.pointer (some q)) 1).run Tryz.prog w= .ok (.pointer (some (q.add 1))) w:=λ w q=>by kernel_rfl
theorem MG:∀ (w:WD) (q:Addr),(Instr.fieldAt 78 (.pointer (some q)) 2).run Tryz.prog w= .ok (.pointer (some (q.add 2))) w:=λ w q=>by kernel_rfl
theorem QE:(Tryz.prog.info? 2).bind (·.zero)=some (.int .i64 0):=by kernel_rfl
abbrev MH:=underlying263
abbrev MI:=underlying209
theorem MJ:∀ (w:WD) (q:Addr),(Instr.fieldAt 48 (.pointer (some q)) 4).run Tryz.prog w= .ok (.pointer (some (q.add 4))) w:=λ w q=>by kernel_rfl
theorem MK:∀ (w:WD) (q:Addr),(Instr.fieldAt 48 (.pointer (some q)) 3).run Tryz.prog w= .ok (.pointer (some (q.add 3))) w:=λ w q=>by kernel_rfl
theorem ML:∀ (w:WD) (q:Addr),(Instr.fieldAt 48 (.pointer (some q)) 5).run Tryz.prog w= .ok (.pointer (some (q.add 5))) w:=λ w q=>by kernel_rfl
theorem MM:∀ (w:WD) (q:Addr),(Instr.fieldAt 48 (.pointer (some q)) 1).run Tryz.prog w= .ok (.pointer (some (q.add 1))) w:=λ w q=>by kernel_rfl
abbrev U54:=underlying54
theorem MN:∀ (w:WD) (q:Addr),(Instr.fieldAt 48 (.pointer (some q)) 7).run Tryz.prog w= .ok (.pointer (some (q.add 8))) w:=λ w q=>by kernel_rfl
theorem MO:∀ (w:WD) (q:Addr),(Instr.fieldAt 48 (.pointer (some q)) 6).run Tryz.prog w= .ok (.pointer (some (q.add 7))) w:=λ w q=>by kernel_rfl
theorem MP:∀ (w:WD) (q:Addr),(Instr.fieldAt 48 (.pointer (some q)) 8).run Tryz.prog w= .ok (.pointer (some (q.add 9))) w:=λ w q=>by kernel_rfl
def tb:Tb:=⟨[(25,0,0),(25,1,1),(31,0,0),(31,1,1),(31,2,2),(35,0,0),(35,1,1),(35,2,2),(35,3,3),(37,0,0),(37,1,1),(37,2,2),(37,3,3),(37,4,4),(37,5,5),(37,6,6),(37,7,7),(37,8,8),(37,9,9),(37,10,11),(37,11,12),(48,0,0),(48,1,1),(48,2,2),(48,3,3),(48,4,4),(48,5,5),(48,6,7),(48,7,8),(48,8,9),(73,0,0),(73,1,1),(78,0,0),(78,1,1),(78,2,2),(87,0,0),(87,1,2),(87,2,3),(87,3,4),(87,4,6),(87,5,7),(87,6,8),(89,0,0),(89,1,1),(93,0,0),(93,1,1),(93,2,2),(93,3,3),(93,4,4),(97,0,0),(97,1,1),(97,2,2),(97,3,3),(97,4,4),(97,5,5),(97,6,6),(99,0,0),(99,1,1),(107,0,0),(107,1,1),(107,2,2),(107,3,3),(107,4,4),(126,0,0),(126,1,1),(126,2,2),(131,0,0),(131,1,1),(131,2,2),(131,3,3),(134,0,0),(134,1,1),(134,2,2),(134,3,3),(134,4,4),(134,5,5),(154,0,0),(154,1,1),(154,2,2),(185,0,0),(185,1,2)],[(3,5,.u8),(3,234,.u64),(21,5,.u8),(234,3,.i64)],[9]⟩
theorem Yu:Yk Tryz.prog tb:=⟨⟨KO,KQ,KT,KU,KV,Oe,Uf,LK,MA,LG,Hp,Od,LI,MD,AW,Ue,LJ,LH,LL,HB,Jj,LO,MM,MF,MK,MJ,ML,MO,MN,MP,Ug,Ui,LQ,LR,MG,Og,AX,LP,Hr,Hq,Ul,AZ,KR,KS,LZ,LY,LW,LX,LT,LE,LF,LD,KX,LA,KY,KZ,LB,LC,GR,GS,GT,GQ,GU,HC,HD,Xg,HE,HF,HG,HI,GV,GW,GX,GZ,GY,HA,HL,HN,HM,HJ,HK,trivial⟩,⟨λ _ _ _=>by kernel_rfl,λ _ _ _=>by kernel_rfl,λ _ _ _=>by kernel_rfl,λ _ _ _=>by kernel_rfl,trivial⟩,⟨U9,trivial⟩⟩
theorem pr{ops:Array Oper}{Q:Exit->Act->WD->Prop}{w:WD}{n:Nat}(k:Nat){env env':List (Nat×VL)}{l l':List Oper}{a:Act}(E:Env n a env)(h:Ce tb [] ops n k env l=some (env',l'))(kont:∀ a',Env n a' env'->wpList Tryz.prog ops Q l' a' w):wpList Tryz.prog ops Q l a w:=Ni Yu k E (kn0 _) h kont
theorem pk{ops:Array Oper}{Q:Exit->Act->WD->Prop}{w:WD}{n:Nat}{kn:List (Nat×Bool)}(k:Nat){env env':List (Nat×VL)}{l l':List Oper}{a:Act}(E:Env n a env)(K:Kn env kn)(h:Ce tb kn ops n k env l=some (env',l'))(kont:∀ a',Env n a' env'->wpList Tryz.prog ops Q l' a' w):wpList Tryz.prog ops Q l a w:=Ni Yu k E K h kont
theorem fn{ops:Array Oper}{Q:Exit->Act->WD->Prop}{w:WD}{n:Nat}{I:WD->Prop}(k:Nat){env env':List (Nat×VL)}{l l':List (Nat×Nat)}{a:Act}(E:Env n a env)(h:Po tb [] ops n k env l=some (env',l'))(kont:∀ a',Env n a' env'->nP Tryz.prog I ops Q l' a' w):nP Tryz.prog I ops Q l a w:=Sf Yu k E (kn0 _) h kont
theorem fk{ops:Array Oper}{Q:Exit->Act->WD->Prop}{w:WD}{n:Nat}{kn:List (Nat×Bool)}{I:WD->Prop}(k:Nat){env env':List (Nat×VL)}{l l':List (Nat×Nat)}{a:Act}(E:Env n a env)(K:Kn env kn)(h:Po tb kn ops n k env l=some (env',l'))(kont:∀ a',Env n a' env'->nP Tryz.prog I ops Q l' a' w):nP Tryz.prog I ops Q l a w:=Sf Yu k E K h kont
theorem dw{ops:Array Oper}{Q:Exit->Act->WD->Prop}{w:WD}{a:Act}{os:List Ob}{rs:List Rp}{id:Nat}(ord:List (Nat×Nat))(is js:List Nat)(H:Sep w os rs)(ho:Gz ops ord=true)(hQ:∀ c a w,Q (.panic c) a w->False)(k:∀ w W0,dI (pkl os is) (pkl rs js) W0->Sep w os rs->nP Tryz.prog (dI (pkl os is) (pkl rs js)) ops Q ord a w):(Code.region id ops true).wp Tryz.prog Q a w:=OP pI ord is js H ho hQ k
theorem dwc{ops:Array Oper}{Q:Exit->Act->WD->Prop}{w:WD}{a:Act}{os:List Ob}{rs:List Rp}{id:Nat}(ord:List (Nat×Nat))(is js:List Nat)(H:Sep w os rs)(ho:Jh ops ord=true)(hQ:∀ c a w,Q (.panic c) a w->False)(k:∀ w W0,dI (pkl os is) (pkl rs js) W0->Sep w os rs->nP Tryz.prog (dI (pkl os is) (pkl rs js)) ops Q ord a w):(Code.region id ops true).wp Tryz.prog Q a w:=KG pI ord is js H ho hQ k
theorem pn{ops:Array Oper}{w:WD}{n:Nat}(k:Nat){env env':List (Nat×VL)}{a:Act}(E:Env n a env){l:List Oper}{K:Act->WD->Prop}{R:Exit->Act->WD->Prop}(h:Ce tb [] ops n k env l=some (env',[]))(kont:∀ a',Env n a' env'->K a' w):wpList Tryz.prog ops (Exit.then K R) l a w:=pr k E h λ a E=>nt (kont a E)
theorem sp{id:Nat}{y:Code}{Q:Exit->Act->WD->Prop}{w:WD}{n:Nat}(k:Nat){env env':List (Nat×VL)}{a:Act}(E:Env n a env){l l':List Oper}(h:Ce tb [] l.toArray n k env l=some (env',l'))(kont:∀ a',Env n a' env'->wpList Tryz.prog l.toArray (Exit.then (y.wp Tryz.prog Q) Q) l' a' w):(Code.seq (.region id l.toArray false) y).wp Tryz.prog Q a w:=sq (pr k E h kont)
theorem xp{id:Nat}{y:Code}{R:Exit->Act->WD->Prop}{ops:Array Oper}{Q:Exit->Act->WD->Prop}{w:WD}{n:Nat}(k:Nat){env env':List (Nat×VL)}{a:Act}(E:Env n a env){l l':List Oper}(h:Ce tb [] l.toArray n k env l=some (env',l'))(kont:∀ a',Env n a' env'->wpList Tryz.prog l.toArray (Exit.then (y.wp Tryz.prog Q) Q) l' a' w):wpList Tryz.prog ops (Exit.then ((Code.seq (.region id l.toArray false) y).wp Tryz.prog Q) R) [] a w:=nx (pr k E h kont)
theorem dz{ops:Array Oper}{Q:Exit->Act->WD->Prop}{w:WD}{a:Act}{os:List Ob}{rs:List Rp}{id:Nat}(cs:List Nat)(is:List Nat)(H:Sep w os rs)(k:∀ w W0,dI (pkl os is) (pkl rs []) W0->Sep w os rs->nP Tryz.prog (dI (pkl os is) (pkl rs [])) ops Q (DQ 0 cs) a w)(ho:Gz ops (DQ 0 cs)=true:=by kernel_rfl)(hQ:∀ c a w,Q (.panic c) a w->False:=by exact λ _ _ _ h=>False.elim h.2):(Code.region id ops true).wp Tryz.prog Q a w:=dw _ is [] H ho hQ k
abbrev Cf (f:Nat) (l:List VL) (w:WD) (R:VL->WD->Prop):Prop:=Calls Tryz.prog f l.toArray w (Ret R)
abbrev xM:Type:=Int×Bool
abbrev eH:Type:=List BY
abbrev jG:Type:=List aQ
abbrev dU:Type:=List aL
abbrev eI:Type:=List aH
abbrev Eo:Type:=List bF
abbrev Jk:Type:=List L7
abbrev zZ:Type:=List bU
abbrev fQ:Type:=List aO
abbrev iS:Type:=List aF
abbrev z8:Type:=List cR
abbrev Ep:Type:=BY×Bool
abbrev Q4:Type:=List eG
abbrev Bw:Type:=List ((Int)×Int)
abbrev eD:Type:=List aE
abbrev xN:Type:=(Int)×gC
abbrev Er:Type:=aV×Int
abbrev lL:Type:=(Int)×aX
abbrev Ae:Type:=Int×dU
abbrev F3:Type:=eH×Bool
abbrev Sr:Type:=List ((Int×Int)×Int)
abbrev W5:Type:=iS×Bool
abbrev Q5:Type:=List xN
abbrev Es:Type:=Bool×eD
abbrev pK:Type:=List lL
abbrev Ss:Type:=aX×iS
abbrev Ol:Type:=eI×eH
abbrev W6:Type:=jG×(List Int)×Bool
abbrev St:Type:=dU×dU
abbrev Su:Type:=eI×eI
abbrev Q6:Type:=fQ×eD
abbrev Yv:Type:=aX×pK
abbrev Om:Type:=Int×BY×BY×Int×eH
abbrev Jl:Type:=aX×fQ×eD
abbrev Et:Type:=eI×dU×iS
abbrev Sv:Type:=Int×Int×BY×BY×Int×eH
abbrev Um:Type:=aX×jG×Q5
abbrev MQ:Type:=eI×Int×BY×BY×Int×eH
abbrev Qa:Type:=aX×eI×dU×iS
abbrev MR:Type:=eI×dU×eI×dU
abbrev N4:Type:=aX×fQ×eD×pK
abbrev DV:Type:=eI×dU×Int×BY×BY×Int×eH
abbrev Yw:Type:=aX×eI×dU×fQ×eD
abbrev Un:Type:=aX×eI×dU×fQ×eD×pK
abbrev Qb:Type:=aX×eI×dU×jG×fQ×eD×Q5
abbrev Yx:Type:=aX×eI×dU×iS×jG×fQ×eD×pK×Q5×pK
end Go.Cb
