/- The types of the program and the small facts that the walks use. -/
import Derived.Test.YteakhlfapjaodaaGreatDoorAsh2
import Derived.Test.YteakhlfapjaodaaGreatDoorProg
set_option linter.unusedVariables false
set_option linter.unusedSimpArgs false
namespace Go.Cb
open Go.Proofs Go.RowKit Tryz
structure aG where
 Path:BY
 Data:BY
 Version:Int
 Turn:Int
 Owner:Int
 deriving DecidableEq,Inhabited
def aB:Kd aG:=oQ (kP kS (kP kS (kP (kI .i64) (kP (kI .i64) (kI .i64))))) λx=>(x.Path,(x.Data,(x.Version,(x.Turn,x.Owner))))
theorem zR{w:WD}{ok:Nat->Prop}{x:aG}{cs:List VL}(h:aB.R w ok x cs):cs= [.string x.Path,.string x.Data,.int .i64 x.Version,.int .i64 x.Turn,.int .i64 x.Owner]:=by
 obtain ⟨c0,d0,rfl,h0,c1,d1,rfl,h1,c2,d2,rfl,h2,c3,d3,rfl,h3,h4⟩:=h;have e0:c0= [.string x.Path]:=h0;subst e0;have e1:c1= [.string x.Data]:=h1;subst e1;have e2:c2= [.int .i64 x.Version]:=h2;subst e2;have e3:c3= [.int .i64 x.Turn]:=h3;subst e3;have e4:d3= [.int .i64 x.Owner]:=h4;subst e4;rfl
theorem zG{w:WD}{ok:Nat->Prop}{x:aG}:aB.R w ok x [.string x.Path,.string x.Data,.int .i64 x.Version,.int .i64 x.Turn,.int .i64 x.Owner]:=⟨[.string x.Path],_,rfl,rfl,⟨[.string x.Data],_,rfl,rfl,⟨[.int .i64 x.Version],_,rfl,rfl,⟨[.int .i64 x.Turn],_,rfl,rfl,rfl⟩⟩⟩⟩
abbrev nT (x:aG):List VL:=[.string x.Path,.string x.Data,.int .i64 x.Version,.int .i64 x.Turn,.int .i64 x.Owner]
abbrev SV:List VL:=[.string ⟨#[]⟩,.string ⟨#[]⟩,.int .i64 0,.int .i64 0,.int .i64 0]
theorem Su{w:WD}{ok:Nat->Prop}{q:Addr}{x:aG}(h:(rAt aB q x).p w ok):(rAt kS (q.add 0) x.Path).p w ok:=by
 have h0:(rAt (kP kS (kP kS (kP (kI .i64) (kP (kI .i64) (kI .i64))))) q ((x.Path,(x.Data,(x.Version,(x.Turn,x.Owner)))))).p w ok:=h;have h1:=(An h0)
 simp only [show ∀ q:Addr,q.add 0=q from λq=>by simp [Addr.add]];exact h1
theorem Sv{w:WD}{ok:Nat->Prop}{q:Addr}{x:aG}{cs:List VL}(h:(rAw aB q x cs).p w ok):∃ c,(rAw kS (q.add 0) x.Path c).p w ok/\c=(cs.drop 0).take 1:=by
 have h0:(rAw (kP kS (kP kS (kP (kI .i64) (kP (kI .i64) (kI .i64))))) q ((x.Path,(x.Data,(x.Version,(x.Turn,x.Owner))))) cs).p w ok:=h;have hl:cs.length=5:=aB.len h.2.1;have h1:=(B8 h0)
 simp only [show ∀ q:Addr,q.add 0=q from λq=>by simp [Addr.add]];refine ⟨_,h1,?_⟩
 (try simp only [kP,kI,kB,kS,kL,oQ,Kd.scalar])
 all_goals (try (apply List.ext_getElem?;intro j;simp [List.getElem?_take,List.getElem?_drop]))
 all_goals (try (intros;(try split);(try omega);(try (rw [List.getElem?_eq_none (by omega)]))))
theorem Sw{w:WD}{ok:Nat->Prop}{q:Addr}{x:aG}{cs:List VL}(h:(rAw aB q x cs).p w ok):∃ c,(rAw kS (q.add 1) x.Data c).p w ok/\c=(cs.drop 1).take 1:=by
 have h0:(rAw (kP kS (kP kS (kP (kI .i64) (kP (kI .i64) (kI .i64))))) q ((x.Path,(x.Data,(x.Version,(x.Turn,x.Owner))))) cs).p w ok:=h;have hl:cs.length=5:=aB.len h.2.1;have h1:=(B8 (qQ h0))
 simp only [add_add,kP,kI,kB,kS,kL,oQ,Kd.scalar] at h1;refine ⟨_,h1,?_⟩
 (try simp only [kP,kI,kB,kS,kL,oQ,Kd.scalar])
 all_goals (try (apply List.ext_getElem?;intro j;simp [List.getElem?_take,List.getElem?_drop]))
 all_goals (try (intros;(try split);(try omega);(try (rw [List.getElem?_eq_none (by omega)]))))
def cM:gZ aB:=⟨λx=>[.string x.Path,.string x.Data,.int .i64 x.Version,.int .i64 x.Turn,.int .i64 x.Owner],zR,zG⟩
structure aM where
 Dir:BY
 Next:Int
 deriving DecidableEq,Inhabited
def aC:Kd aM:=oQ (kP kS (kI .i64)) λx=>(x.Dir,x.Next)
theorem zS{w:WD}{ok:Nat->Prop}{x:aM}{cs:List VL}(h:aC.R w ok x cs):cs= [.string x.Dir,.int .i64 x.Next]:=by
 obtain ⟨c0,d0,rfl,h0,h1⟩:=h;have e0:c0= [.string x.Dir]:=h0;subst e0;have e1:d0= [.int .i64 x.Next]:=h1;subst e1;rfl
theorem zH{w:WD}{ok:Nat->Prop}{x:aM}:aC.R w ok x [.string x.Dir,.int .i64 x.Next]:=⟨[.string x.Dir],_,rfl,rfl,rfl⟩
theorem Gc{w:WD}{ok:Nat->Prop}{q:Addr}{x:aM}(h:(rAt aC q x).p w ok):(rAt kS (q.add 0) x.Dir).p w ok:=by
 have h0:(rAt (kP kS (kI .i64)) q ((x.Dir,x.Next))).p w ok:=h;have h1:=(An h0)
 simp only [show ∀ q:Addr,q.add 0=q from λq=>by simp [Addr.add]];exact h1
theorem Sx{w:WD}{ok:Nat->Prop}{q:Addr}{x:aM}(h:(rAt aC q x).p w ok):(rAt (kI .i64) (q.add 1) x.Next).p w ok:=by
 have h0:(rAt (kP kS (kI .i64)) q ((x.Dir,x.Next))).p w ok:=h;have h1:=(zF h0)
 simp only [add_add,kP,kI,kB,kS,kL,Kd.scalar] at h1;exact h1
def eD:gZ aC:=⟨λx=>[.string x.Dir,.int .i64 x.Next],zS,zH⟩
structure aU where
 Dir:BY
 Txn:Int
 Age:Int
 deriving DecidableEq,Inhabited
def bA:Kd aU:=oQ (kP kS (kP (kI .i64) (kI .i64))) λx=>(x.Dir,(x.Txn,x.Age))
theorem Qt{w:WD}{ok:Nat->Prop}{x:aU}{cs:List VL}(h:bA.R w ok x cs):cs= [.string x.Dir,.int .i64 x.Txn,.int .i64 x.Age]:=by
 obtain ⟨c0,d0,rfl,h0,c1,d1,rfl,h1,h2⟩:=h;have e0:c0= [.string x.Dir]:=h0;subst e0;have e1:c1= [.int .i64 x.Txn]:=h1;subst e1;have e2:d1= [.int .i64 x.Age]:=h2;subst e2;rfl
theorem Iu{w:WD}{ok:Nat->Prop}{x:aU}:bA.R w ok x [.string x.Dir,.int .i64 x.Txn,.int .i64 x.Age]:=⟨[.string x.Dir],_,rfl,rfl,⟨[.int .i64 x.Txn],_,rfl,rfl,rfl⟩⟩
abbrev vK (x:aU):List VL:=[.string x.Dir,.int .i64 x.Txn,.int .i64 x.Age]
abbrev SW:List VL:=[.string ⟨#[]⟩,.int .i64 0,.int .i64 0]
theorem Gd{w:WD}{ok:Nat->Prop}{q:Addr}{x:aU}{cs:List VL}(h:(rAw bA q x cs).p w ok):∃ c,(rAw kS (q.add 0) x.Dir c).p w ok/\c=(cs.drop 0).take 1:=by
 have h0:(rAw (kP kS (kP (kI .i64) (kI .i64))) q ((x.Dir,(x.Txn,x.Age))) cs).p w ok:=h;have hl:cs.length=3:=bA.len h.2.1;have h1:=(B8 h0)
 simp only [show ∀ q:Addr,q.add 0=q from λq=>by simp [Addr.add]];refine ⟨_,h1,?_⟩
 (try simp only [kP,kI,kB,kS,kL,oQ,Kd.scalar])
 all_goals (try (apply List.ext_getElem?;intro j;simp [List.getElem?_take,List.getElem?_drop]))
 all_goals (try (intros;(try split);(try omega);(try (rw [List.getElem?_eq_none (by omega)]))))
theorem Sy{w:WD}{ok:Nat->Prop}{q:Addr}{x:aU}(h:(rAt bA q x).p w ok):(rAt (kI .i64) (q.add 1) x.Txn).p w ok:=by
 have h0:(rAt (kP kS (kP (kI .i64) (kI .i64))) q ((x.Dir,(x.Txn,x.Age)))).p w ok:=h;have h1:=(An (zF h0))
 simp only [add_add,kP,kI,kB,kS,kL,Kd.scalar] at h1;exact h1
def gN:gZ bA:=⟨λx=>[.string x.Dir,.int .i64 x.Txn,.int .i64 x.Age],Qt,Iu⟩
structure aF where
 Prefix:BY
 Epoch:Int
 State:Int
 deriving DecidableEq,Inhabited
def aO:Kd aF:=oQ (kP kS (kP (kI .i64) (kI .i64))) λx=>(x.Prefix,(x.Epoch,x.State))
theorem Di{w:WD}{ok:Nat->Prop}{x:aF}{cs:List VL}(h:aO.R w ok x cs):cs= [.string x.Prefix,.int .i64 x.Epoch,.int .i64 x.State]:=by
 obtain ⟨c0,d0,rfl,h0,c1,d1,rfl,h1,h2⟩:=h;have e0:c0= [.string x.Prefix]:=h0;subst e0;have e1:c1= [.int .i64 x.Epoch]:=h1;subst e1;have e2:d1= [.int .i64 x.State]:=h2;subst e2;rfl
theorem B9{w:WD}{ok:Nat->Prop}{x:aF}:aO.R w ok x [.string x.Prefix,.int .i64 x.Epoch,.int .i64 x.State]:=⟨[.string x.Prefix],_,rfl,rfl,⟨[.int .i64 x.Epoch],_,rfl,rfl,rfl⟩⟩
abbrev rE (x:aF):List VL:=[.string x.Prefix,.int .i64 x.Epoch,.int .i64 x.State]
abbrev Zs:List VL:=[.string ⟨#[]⟩,.int .i64 0,.int .i64 0]
theorem Qu{w:WD}{ok:Nat->Prop}{q:Addr}{x:aF}(h:(rAt aO q x).p w ok):(rAt kS (q.add 0) x.Prefix).p w ok:=by
 have h0:(rAt (kP kS (kP (kI .i64) (kI .i64))) q ((x.Prefix,(x.Epoch,x.State)))).p w ok:=h;have h1:=(An h0)
 simp only [show ∀ q:Addr,q.add 0=q from λq=>by simp [Addr.add]];exact h1
theorem wZ{w:WD}{ok:Nat->Prop}{q:Addr}{x:aF}{cs:List VL}(h:(rAw aO q x cs).p w ok):∃ c,(rAw kS (q.add 0) x.Prefix c).p w ok/\c=(cs.drop 0).take 1:=by
 have h0:(rAw (kP kS (kP (kI .i64) (kI .i64))) q ((x.Prefix,(x.Epoch,x.State))) cs).p w ok:=h;have hl:cs.length=3:=aO.len h.2.1;have h1:=(B8 h0)
 simp only [show ∀ q:Addr,q.add 0=q from λq=>by simp [Addr.add]];refine ⟨_,h1,?_⟩
 (try simp only [kP,kI,kB,kS,kL,oQ,Kd.scalar])
 all_goals (try (apply List.ext_getElem?;intro j;simp [List.getElem?_take,List.getElem?_drop]))
 all_goals (try (intros;(try split);(try omega);(try (rw [List.getElem?_eq_none (by omega)]))))
theorem X2{w:WD}{ok:Nat->Prop}{q:Addr}{x:aF}(h:(rAt aO q x).p w ok):(rAt (kI .i64) (q.add 1) x.Epoch).p w ok:=by
 have h0:(rAt (kP kS (kP (kI .i64) (kI .i64))) q ((x.Prefix,(x.Epoch,x.State)))).p w ok:=h;have h1:=(An (zF h0))
 simp only [add_add,kP,kI,kB,kS,kL,Kd.scalar] at h1;exact h1
theorem Qv{w:WD}{ok:Nat->Prop}{q:Addr}{x:aF}{cs:List VL}(h:(rAw aO q x cs).p w ok):∃ c,(rAw (kI .i64) (q.add 1) x.Epoch c).p w ok/\c=(cs.drop 1).take 1:=by
 have h0:(rAw (kP kS (kP (kI .i64) (kI .i64))) q ((x.Prefix,(x.Epoch,x.State))) cs).p w ok:=h;have hl:cs.length=3:=aO.len h.2.1;have h1:=(B8 (qQ h0))
 simp only [add_add,kP,kI,kB,kS,kL,oQ,Kd.scalar] at h1;refine ⟨_,h1,?_⟩
 (try simp only [kP,kI,kB,kS,kL,oQ,Kd.scalar])
 all_goals (try (apply List.ext_getElem?;intro j;simp [List.getElem?_take,List.getElem?_drop]))
 all_goals (try (intros;(try split);(try omega);(try (rw [List.getElem?_eq_none (by omega)]))))
theorem Y9{w:WD}{ok:Nat->Prop}{q:Addr}{x:aF}(h:(rAt aO q x).p w ok):(rAt (kI .i64) (q.add 2) x.State).p w ok:=by
 have h0:(rAt (kP kS (kP (kI .i64) (kI .i64))) q ((x.Prefix,(x.Epoch,x.State)))).p w ok:=h;have h1:=(zF (zF h0))
 simp only [add_add,kP,kI,kB,kS,kL,Kd.scalar] at h1;exact h1
def mP:gZ aO:=⟨λx=>[.string x.Prefix,.int .i64 x.Epoch,.int .i64 x.State],Di,B9⟩
structure bP where
 Num:Int
 Kind:Int
 Path:BY
 Watch:Int
 deriving DecidableEq,Inhabited
def aQ:Kd bP:=oQ (kP (kI .i64) (kP (kI .i64) (kP kS (kI .i64)))) λx=>(x.Num,(x.Kind,(x.Path,x.Watch)))
theorem T7{w:WD}{ok:Nat->Prop}{x:bP}{cs:List VL}(h:aQ.R w ok x cs):cs= [.int .i64 x.Num,.int .i64 x.Kind,.string x.Path,.int .i64 x.Watch]:=by
 obtain ⟨c0,d0,rfl,h0,c1,d1,rfl,h1,c2,d2,rfl,h2,h3⟩:=h;have e0:c0= [.int .i64 x.Num]:=h0;subst e0;have e1:c1= [.int .i64 x.Kind]:=h1;subst e1;have e2:c2= [.string x.Path]:=h2;subst e2;have e3:d2= [.int .i64 x.Watch]:=h3;subst e3;rfl
theorem N9{w:WD}{ok:Nat->Prop}{x:bP}:aQ.R w ok x [.int .i64 x.Num,.int .i64 x.Kind,.string x.Path,.int .i64 x.Watch]:=⟨[.int .i64 x.Num],_,rfl,rfl,⟨[.int .i64 x.Kind],_,rfl,rfl,⟨[.string x.Path],_,rfl,rfl,rfl⟩⟩⟩
abbrev Fa (x:bP):List VL:=[.int .i64 x.Num,.int .i64 x.Kind,.string x.Path,.int .i64 x.Watch]
abbrev SE:List VL:=[.int .i64 0,.int .i64 0,.string ⟨#[]⟩,.int .i64 0]
structure aE where
 Num:Int
 Count:Int
 Events:(List bP)
 deriving DecidableEq,Inhabited
def aJ:Kd aE:=oQ (kP (kI .i64) (kP (kI .i64) (kL aQ))) λx=>(x.Num,(x.Count,x.Events))
theorem eA{w:WD}{ok:Nat->Prop}{x:aE}{cs:List VL}(h:aJ.R w ok x cs):∃ v1:VL,cs= [.int .i64 x.Num,.int .i64 x.Count,v1]/\Sl aQ w ok v1 x.Events:=by
 obtain ⟨c0,d0,rfl,h0,c1,d1,rfl,h1,h2⟩:=h;have e0:c0= [.int .i64 x.Num]:=h0;subst e0;have e1:c1= [.int .i64 x.Count]:=h1;subst e1;obtain ⟨u0,rfl,g0⟩:=h2;exact ⟨u0,rfl,g0⟩
theorem oT{w:WD}{ok:Nat->Prop}{x:aE}{v1:VL}(g1:Sl aQ w ok v1 x.Events):aJ.R w ok x [.int .i64 x.Num,.int .i64 x.Count,v1]:=⟨[.int .i64 x.Num],_,rfl,rfl,⟨[.int .i64 x.Count],_,rfl,rfl,⟨_,rfl,g1⟩⟩⟩
theorem kK{w:WD}{ok:Nat->Prop}{x:aE}{v1:VL}(h:aJ.R w ok x [.int .i64 x.Num,.int .i64 x.Count,v1]):Sl aQ w ok v1 x.Events:=by
 obtain ⟨u0,he,g0⟩:=eA h;cases he;exact g0
abbrev rT (x:aE) (v1:VL):List VL:=[.int .i64 x.Num,.int .i64 x.Count,v1]
theorem Cc{w:WD}{os:List Ob}{rs:List Rp}{x:aE}{cs:List VL}(H:Sep w os (rCs aJ cs x::rs)):∃ v1:VL,cs=(rT x v1)/\Sep w os (rSl aQ v1 x.Events::rCs aJ (rT x v1) x::rs):=by
 obtain ⟨_,hcs⟩:=H.rd (.head _);obtain ⟨u0,rfl,-⟩:=eA hcs;refine ⟨_,rfl,?_⟩;exact (H.derive1 (.head _) (rSl aQ u0 x.Events) λok h=>kK h)
theorem Cj{w:WD}{ok:Nat->Prop}{q:Addr}{x:aE}{cs:List VL}(h:(rAw aJ q x cs).p w ok):∃ c,(rAw (kI .i64) (q.add 0) x.Num c).p w ok/\c=(cs.drop 0).take 1:=by
 have h0:(rAw (kP (kI .i64) (kP (kI .i64) (kL aQ))) q ((x.Num,(x.Count,x.Events))) cs).p w ok:=h;have hl:cs.length=3:=aJ.len h.2.1;have h1:=(B8 h0)
 simp only [show ∀ q:Addr,q.add 0=q from λq=>by simp [Addr.add]];refine ⟨_,h1,?_⟩
 (try simp only [kP,kI,kB,kS,kL,oQ,Kd.scalar])
 all_goals (try (apply List.ext_getElem?;intro j;simp [List.getElem?_take,List.getElem?_drop]))
 all_goals (try (intros;(try split);(try omega);(try (rw [List.getElem?_eq_none (by omega)]))))
structure aP where
 Session:Int
 Num:Int
 Path:BY
 Deep:Bool
 deriving DecidableEq,Inhabited
def aR:Kd aP:=oQ (kP (kI .i64) (kP (kI .i64) (kP kS kB))) λx=>(x.Session,(x.Num,(x.Path,x.Deep)))
theorem Dj{w:WD}{ok:Nat->Prop}{x:aP}{cs:List VL}(h:aR.R w ok x cs):cs= [.int .i64 x.Session,.int .i64 x.Num,.string x.Path,.bool x.Deep]:=by
 obtain ⟨c0,d0,rfl,h0,c1,d1,rfl,h1,c2,d2,rfl,h2,h3⟩:=h;have e0:c0= [.int .i64 x.Session]:=h0;subst e0;have e1:c1= [.int .i64 x.Num]:=h1;subst e1;have e2:c2= [.string x.Path]:=h2;subst e2;have e3:d2= [.bool x.Deep]:=h3;subst e3;rfl
theorem As{w:WD}{ok:Nat->Prop}{x:aP}:aR.R w ok x [.int .i64 x.Session,.int .i64 x.Num,.string x.Path,.bool x.Deep]:=⟨[.int .i64 x.Session],_,rfl,rfl,⟨[.int .i64 x.Num],_,rfl,rfl,⟨[.string x.Path],_,rfl,rfl,rfl⟩⟩⟩
abbrev eG (x:aP):List VL:=[.int .i64 x.Session,.int .i64 x.Num,.string x.Path,.bool x.Deep]
abbrev SF:List VL:=[.int .i64 0,.int .i64 0,.string ⟨#[]⟩,.bool false]
def mQ:gZ aR:=⟨λx=>[.int .i64 x.Session,.int .i64 x.Num,.string x.Path,.bool x.Deep],Dj,As⟩
structure aK where
 Nodes:(List aG)
 Turns:(List aM)
 deriving DecidableEq,Inhabited
def jT:Kd aK:=oQ (kP (kL aB) (kL aC)) λx=>(x.Nodes,x.Turns)
theorem T8{w:WD}{ok:Nat->Prop}{x:aK}{cs:List VL}(h:jT.R w ok x cs):∃ v1 v2:VL,cs= [v1,v2]/\Sl aB w ok v1 x.Nodes/\Sl aC w ok v2 x.Turns:=by
 obtain ⟨c0,d0,rfl,h0,h1⟩:=h;obtain ⟨u0,rfl,g0⟩:=h0;obtain ⟨u1,rfl,g1⟩:=h1;exact ⟨u0,u1,rfl,g0,g1⟩
theorem Sz{w:WD}{ok:Nat->Prop}{x:aK}{v1:VL}{v2:VL}(g1:Sl aB w ok v1 x.Nodes)(g2:Sl aC w ok v2 x.Turns):jT.R w ok x [v1,v2]:=⟨[v1],_,rfl,⟨_,rfl,g1⟩,⟨_,rfl,g2⟩⟩
theorem iQ{w:WD}{os:List Ob}{rs:List Rp}{v1:VL}{yv1:List aG}{v2:VL}{yv2:List aM}(H:Sep w os rs)(hv1:rSl aB v1 yv1 ∈ rs)(hv2:rSl aC v2 yv2 ∈ rs):[v1,v2].all (·.oneCell')=true:=by
 obtain ⟨_,_,rfl⟩:=H.slform hv1;obtain ⟨_,_,rfl⟩:=H.slform hv2;rfl
theorem Qw{w:WD}{ok:Nat->Prop}{q:Addr}{x:aK}{cs:List VL}(h:(rAw jT q x cs).p w ok):∃ c,(rAw (kL aB) (q.add 0) x.Nodes c).p w ok/\c=(cs.drop 0).take 1:=by
 have h0:(rAw (kP (kL aB) (kL aC)) q ((x.Nodes,x.Turns)) cs).p w ok:=h;have hl:cs.length=2:=jT.len h.2.1;have h1:=(B8 h0)
 simp only [show ∀ q:Addr,q.add 0=q from λq=>by simp [Addr.add]];refine ⟨_,h1,?_⟩
 (try simp only [kP,kI,kB,kS,kL,oQ,Kd.scalar])
 all_goals (try (apply List.ext_getElem?;intro j;simp [List.getElem?_take,List.getElem?_drop]))
 all_goals (try (intros;(try split);(try omega);(try (rw [List.getElem?_eq_none (by omega)]))))
structure bE where
 Kind:Int
 Dir:BY
 Path:BY
 Data:BY
 Version:Int
 Owner:Int
 Turns:Bool
 deriving DecidableEq,Inhabited
def cP:Kd bE:=oQ (kP (kI .i64) (kP kS (kP kS (kP kS (kP (kI .i64) (kP (kI .i64) kB)))))) λx=>(x.Kind,(x.Dir,(x.Path,(x.Data,(x.Version,(x.Owner,x.Turns))))))
theorem Ei{w:WD}{ok:Nat->Prop}{x:bE}{cs:List VL}(h:cP.R w ok x cs):cs= [.int .i64 x.Kind,.string x.Dir,.string x.Path,.string x.Data,.int .i64 x.Version,.int .i64 x.Owner,.bool x.Turns]:=by
 obtain ⟨c0,d0,rfl,h0,c1,d1,rfl,h1,c2,d2,rfl,h2,c3,d3,rfl,h3,c4,d4,rfl,h4,c5,d5,rfl,h5,h6⟩:=h;have e0:c0= [.int .i64 x.Kind]:=h0;subst e0;have e1:c1= [.string x.Dir]:=h1;subst e1;have e2:c2= [.string x.Path]:=h2;subst e2;have e3:c3= [.string x.Data]:=h3;subst e3;have e4:c4= [.int .i64 x.Version]:=h4;subst e4;have e5:c5= [.int .i64 x.Owner]:=h5;subst e5;have e6:d5= [.bool x.Turns]:=h6;subst e6;rfl
theorem kF{w:WD}{ok:Nat->Prop}{x:bE}:cP.R w ok x [.int .i64 x.Kind,.string x.Dir,.string x.Path,.string x.Data,.int .i64 x.Version,.int .i64 x.Owner,.bool x.Turns]:=⟨[.int .i64 x.Kind],_,rfl,rfl,⟨[.string x.Dir],_,rfl,rfl,⟨[.string x.Path],_,rfl,rfl,⟨[.string x.Data],_,rfl,rfl,⟨[.int .i64 x.Version],_,rfl,rfl,⟨[.int .i64 x.Owner],_,rfl,rfl,rfl⟩⟩⟩⟩⟩⟩
abbrev cB (x:bE):List VL:=[.int .i64 x.Kind,.string x.Dir,.string x.Path,.string x.Data,.int .i64 x.Version,.int .i64 x.Owner,.bool x.Turns]
abbrev SX:List VL:=[.int .i64 0,.string ⟨#[]⟩,.string ⟨#[]⟩,.string ⟨#[]⟩,.int .i64 0,.int .i64 0,.bool false]
theorem Ta{w:WD}{ok:Nat->Prop}{q:Addr}{x:bE}(h:(rAt cP q x).p w ok):(rAt kS (q.add 1) x.Dir).p w ok:=by
 have h0:(rAt (kP (kI .i64) (kP kS (kP kS (kP kS (kP (kI .i64) (kP (kI .i64) kB)))))) q ((x.Kind,(x.Dir,(x.Path,(x.Data,(x.Version,(x.Owner,x.Turns)))))))).p w ok:=h;have h1:=(An (zF h0))
 simp only [add_add,kP,kI,kB,kS,kL,Kd.scalar] at h1;exact h1
structure cJ where
 Op:Int
 Part:bE
 deriving DecidableEq,Inhabited
def bN:Kd cJ:=oQ (kP (kI .i64) cP) λx=>(x.Op,x.Part)
theorem Ot{w:WD}{ok:Nat->Prop}{x:cJ}{cs:List VL}(h:bN.R w ok x cs):cs= [.int .i64 x.Op,.int .i64 x.Part.Kind,.string x.Part.Dir,.string x.Part.Path,.string x.Part.Data,.int .i64 x.Part.Version,.int .i64 x.Part.Owner,.bool x.Part.Turns]:=by
 obtain ⟨c0,d0,rfl,h0,h1⟩:=h;have e0:c0= [.int .i64 x.Op]:=h0;subst e0;obtain ⟨rfl⟩:=Ei h1;rfl
theorem Ge{w:WD}{ok:Nat->Prop}{x:cJ}:bN.R w ok x [.int .i64 x.Op,.int .i64 x.Part.Kind,.string x.Part.Dir,.string x.Part.Path,.string x.Part.Data,.int .i64 x.Part.Version,.int .i64 x.Part.Owner,.bool x.Part.Turns]:=⟨[.int .i64 x.Op],_,rfl,rfl,kF⟩
abbrev Nw (x:cJ):List VL:=[.int .i64 x.Op,.int .i64 x.Part.Kind,.string x.Part.Dir,.string x.Part.Path,.string x.Part.Data,.int .i64 x.Part.Version,.int .i64 x.Part.Owner,.bool x.Part.Turns]
abbrev SG:List VL:=[.int .i64 0,.int .i64 0,.string ⟨#[]⟩,.string ⟨#[]⟩,.string ⟨#[]⟩,.int .i64 0,.int .i64 0,.bool false]
theorem Ej{w:WD}{ok:Nat->Prop}{q:Addr}{x:cJ}(h:(rAt bN q x).p w ok):(rAt cP (q.add 1) x.Part).p w ok:=by
 have h0:(rAt (kP (kI .i64) cP) q ((x.Op,x.Part))).p w ok:=h;have h1:=(zF h0)
 simp only [add_add,kP,kI,kB,kS,kL,Kd.scalar,cP] at h1;exact h1
structure cT where
 Err:Int
 Path:BY
 Data:BY
 Version:Int
 Names:(List BY)
 deriving DecidableEq,Inhabited
def aX:Kd cT:=oQ (kP (kI .i64) (kP kS (kP kS (kP (kI .i64) (kL kS))))) λx=>(x.Err,(x.Path,(x.Data,(x.Version,x.Names))))
theorem Q6{w:WD}{ok:Nat->Prop}{x:cT}{cs:List VL}(h:aX.R w ok x cs):∃ v1:VL,cs= [.int .i64 x.Err,.string x.Path,.string x.Data,.int .i64 x.Version,v1]/\Sl kS w ok v1 x.Names:=by
 obtain ⟨c0,d0,rfl,h0,c1,d1,rfl,h1,c2,d2,rfl,h2,c3,d3,rfl,h3,h4⟩:=h;have e0:c0= [.int .i64 x.Err]:=h0;subst e0;have e1:c1= [.string x.Path]:=h1;subst e1;have e2:c2= [.string x.Data]:=h2;subst e2;have e3:c3= [.int .i64 x.Version]:=h3;subst e3;obtain ⟨u0,rfl,g0⟩:=h4;exact ⟨u0,rfl,g0⟩
theorem Qx{w:WD}{ok:Nat->Prop}{x:cT}{v1:VL}(g1:Sl kS w ok v1 x.Names):aX.R w ok x [.int .i64 x.Err,.string x.Path,.string x.Data,.int .i64 x.Version,v1]:=⟨[.int .i64 x.Err],_,rfl,rfl,⟨[.string x.Path],_,rfl,rfl,⟨[.string x.Data],_,rfl,rfl,⟨[.int .i64 x.Version],_,rfl,rfl,⟨_,rfl,g1⟩⟩⟩⟩⟩
theorem Ck{w:WD}{ok:Nat->Prop}{x:cT}{v1:VL}(h:aX.R w ok x [.int .i64 x.Err,.string x.Path,.string x.Data,.int .i64 x.Version,v1]):Sl kS w ok v1 x.Names:=by
 obtain ⟨u0,he,g0⟩:=Q6 h;cases he;exact g0
abbrev Z1 (x:cT) (v1:VL):List VL:=[.int .i64 x.Err,.string x.Path,.string x.Data,.int .i64 x.Version,v1]
abbrev Kb:List VL:=[.int .i64 0,.string ⟨#[]⟩,.string ⟨#[]⟩,.int .i64 0,.slice none 0 0]
theorem Tc{w:WD}{os:List Ob}{rs:List Rp}{z0:Int}{z1:BY}{z2:BY}{z3:Int}{v1:VL}{yv1:List BY}(H:Sep w os rs)(hv1:rSl kS v1 yv1 ∈ rs):[.int .i64 z0,.string z1,.string z2,.int .i64 z3,v1].all (·.oneCell')=true:=by
 obtain ⟨_,_,rfl⟩:=H.slform hv1;rfl
theorem Ou{w:WD}{ok:Nat->Prop}{q:Addr}{x:cT}(h:(rAt aX q x).p w ok):(rAt kS (q.add 1) x.Path).p w ok:=by
 have h0:(rAt (kP (kI .i64) (kP kS (kP kS (kP (kI .i64) (kL kS))))) q ((x.Err,(x.Path,(x.Data,(x.Version,x.Names)))))).p w ok:=h;have h1:=(An (zF h0))
 simp only [add_add,kP,kI,kB,kS,kL,Kd.scalar] at h1;exact h1
theorem Ov{w:WD}{ok:Nat->Prop}{q:Addr}{x:cT}(h:(rAt aX q x).p w ok):(rAt (kL kS) (q.add 4) x.Names).p w ok:=by
 have h0:(rAt (kP (kI .i64) (kP kS (kP kS (kP (kI .i64) (kL kS))))) q ((x.Err,(x.Path,(x.Data,(x.Version,x.Names)))))).p w ok:=h;have h1:=(zF (zF (zF (zF h0))))
 simp only [add_add,kP,kI,kB,kS,kL,Kd.scalar] at h1;exact h1
structure w7 where
 Prefix:BY
 Group:Int
 Epoch:Int
 To:Int
 deriving DecidableEq,Inhabited
def bB:Kd w7:=oQ (kP kS (kP (kI .i64) (kP (kI .i64) (kI .i64)))) λx=>(x.Prefix,(x.Group,(x.Epoch,x.To)))
theorem Dk{w:WD}{ok:Nat->Prop}{x:w7}{cs:List VL}(h:bB.R w ok x cs):cs= [.string x.Prefix,.int .i64 x.Group,.int .i64 x.Epoch,.int .i64 x.To]:=by
 obtain ⟨c0,d0,rfl,h0,c1,d1,rfl,h1,c2,d2,rfl,h2,h3⟩:=h;have e0:c0= [.string x.Prefix]:=h0;subst e0;have e1:c1= [.int .i64 x.Group]:=h1;subst e1;have e2:c2= [.int .i64 x.Epoch]:=h2;subst e2;have e3:d2= [.int .i64 x.To]:=h3;subst e3;rfl
structure aW where
 Err:Int
 At:Int
 Yes:Bool
 Epoch:Int
 Results:(List cT)
 Store:aK
 Events:(List bP)
 Mounts:(List w7)
 Wounded:(List Int)
 deriving DecidableEq,Inhabited
def bC:Kd aW:=oQ (kP (kI .i64) (kP (kI .i64) (kP kB (kP (kI .i64) (kP (kL aX) (kP jT (kP (kL aQ) (kP (kL bB) (kL (kI .i64)))))))))) λx=>(x.Err,(x.At,(x.Yes,(x.Epoch,(x.Results,(x.Store,(x.Events,(x.Mounts,x.Wounded))))))))
theorem nN{w:WD}{ok:Nat->Prop}{x:aW}{cs:List VL}(h:bC.R w ok x cs):∃ v1 v2 v3 v4 v5 v6:VL,cs= [.int .i64 x.Err,.int .i64 x.At,.bool x.Yes,.int .i64 x.Epoch,v1,v2,v3,v4,v5,v6]/\Sl aX w ok v1 x.Results/\Sl aB w ok v2 x.Store.Nodes/\Sl aC w ok v3 x.Store.Turns/\Sl aQ w ok v4 x.Events/\Sl bB w ok v5 x.Mounts/\Sl (kI .i64) w ok v6 x.Wounded:=by
 obtain ⟨c0,d0,rfl,h0,c1,d1,rfl,h1,c2,d2,rfl,h2,c3,d3,rfl,h3,c4,d4,rfl,h4,c5,d5,rfl,h5,c6,d6,rfl,h6,c7,d7,rfl,h7,h8⟩:=h;have e0:c0= [.int .i64 x.Err]:=h0;subst e0;have e1:c1= [.int .i64 x.At]:=h1;subst e1;have e2:c2= [.bool x.Yes]:=h2;subst e2;have e3:c3= [.int .i64 x.Epoch]:=h3;subst e3;obtain ⟨u0,rfl,g0⟩:=h4;obtain ⟨u1,u2,rfl,g1,g2⟩:=T8 h5;obtain ⟨u3,rfl,g3⟩:=h6;obtain ⟨u4,rfl,g4⟩:=h7;obtain ⟨u5,rfl,g5⟩:=h8;exact ⟨u0,u1,u2,u3,u4,u5,rfl,g0,g1,g2,g3,g4,g5⟩
theorem tE{w:WD}{ok:Nat->Prop}{x:aW}{v1:VL}{v2:VL}{v3:VL}{v4:VL}{v5:VL}{v6:VL}(g1:Sl aX w ok v1 x.Results)(g2:Sl aB w ok v2 x.Store.Nodes)(g3:Sl aC w ok v3 x.Store.Turns)(g4:Sl aQ w ok v4 x.Events)(g5:Sl bB w ok v5 x.Mounts)(g6:Sl (kI .i64) w ok v6 x.Wounded):bC.R w ok x [.int .i64 x.Err,.int .i64 x.At,.bool x.Yes,.int .i64 x.Epoch,v1,v2,v3,v4,v5,v6]:=⟨[.int .i64 x.Err],_,rfl,rfl,⟨[.int .i64 x.At],_,rfl,rfl,⟨[.bool x.Yes],_,rfl,rfl,⟨[.int .i64 x.Epoch],_,rfl,rfl,⟨[v1],_,rfl,⟨_,rfl,g1⟩,⟨[v2,v3],_,rfl,(Sz g2 g3),⟨[v4],_,rfl,⟨_,rfl,g4⟩,⟨[v5],_,rfl,⟨_,rfl,g5⟩,⟨_,rfl,g6⟩⟩⟩⟩⟩⟩⟩⟩⟩
theorem Mx{w:WD}{ok:Nat->Prop}{x:aW}{v1 v2 v3 v4 v5 v6:VL}(h:bC.R w ok x [.int .i64 x.Err,.int .i64 x.At,.bool x.Yes,.int .i64 x.Epoch,v1,v2,v3,v4,v5,v6]):Sl aX w ok v1 x.Results:=by
 obtain ⟨u0,u1,u2,u3,u4,u5,he,g0,g1,g2,g3,g4,g5⟩:=nN h;cases he;exact g0
theorem My{w:WD}{ok:Nat->Prop}{x:aW}{v1 v2 v3 v4 v5 v6:VL}(h:bC.R w ok x [.int .i64 x.Err,.int .i64 x.At,.bool x.Yes,.int .i64 x.Epoch,v1,v2,v3,v4,v5,v6]):Sl aB w ok v2 x.Store.Nodes:=by
 obtain ⟨u0,u1,u2,u3,u4,u5,he,g0,g1,g2,g3,g4,g5⟩:=nN h;cases he;exact g1
theorem Mz{w:WD}{ok:Nat->Prop}{x:aW}{v1 v2 v3 v4 v5 v6:VL}(h:bC.R w ok x [.int .i64 x.Err,.int .i64 x.At,.bool x.Yes,.int .i64 x.Epoch,v1,v2,v3,v4,v5,v6]):Sl aC w ok v3 x.Store.Turns:=by
 obtain ⟨u0,u1,u2,u3,u4,u5,he,g0,g1,g2,g3,g4,g5⟩:=nN h;cases he;exact g2
theorem Na{w:WD}{ok:Nat->Prop}{x:aW}{v1 v2 v3 v4 v5 v6:VL}(h:bC.R w ok x [.int .i64 x.Err,.int .i64 x.At,.bool x.Yes,.int .i64 x.Epoch,v1,v2,v3,v4,v5,v6]):Sl aQ w ok v4 x.Events:=by
 obtain ⟨u0,u1,u2,u3,u4,u5,he,g0,g1,g2,g3,g4,g5⟩:=nN h;cases he;exact g3
theorem Nb{w:WD}{ok:Nat->Prop}{x:aW}{v1 v2 v3 v4 v5 v6:VL}(h:bC.R w ok x [.int .i64 x.Err,.int .i64 x.At,.bool x.Yes,.int .i64 x.Epoch,v1,v2,v3,v4,v5,v6]):Sl bB w ok v5 x.Mounts:=by
 obtain ⟨u0,u1,u2,u3,u4,u5,he,g0,g1,g2,g3,g4,g5⟩:=nN h;cases he;exact g4
theorem Nc{w:WD}{ok:Nat->Prop}{x:aW}{v1 v2 v3 v4 v5 v6:VL}(h:bC.R w ok x [.int .i64 x.Err,.int .i64 x.At,.bool x.Yes,.int .i64 x.Epoch,v1,v2,v3,v4,v5,v6]):Sl (kI .i64) w ok v6 x.Wounded:=by
 obtain ⟨u0,u1,u2,u3,u4,u5,he,g0,g1,g2,g3,g4,g5⟩:=nN h;cases he;exact g5
abbrev aS (x:aW) (v1:VL) (v2:VL) (v3:VL) (v4:VL) (v5:VL) (v6:VL):List VL:=[.int .i64 x.Err,.int .i64 x.At,.bool x.Yes,.int .i64 x.Epoch,v1,v2,v3,v4,v5,v6]
abbrev bH:List VL:=[.int .i64 0,.int .i64 0,.bool false,.int .i64 0,.slice none 0 0,.slice none 0 0,.slice none 0 0,.slice none 0 0,.slice none 0 0,.slice none 0 0]
theorem oU{w:WD}{os:List Ob}{rs:List Rp}{x:aW}{cs:List VL}(H:Sep w os (rCs bC cs x::rs)):∃ v1 v2 v3 v4 v5 v6:VL,cs=(aS x v1 v2 v3 v4 v5 v6)/\Sep w os (rSl (kI .i64) v6 x.Wounded::rSl bB v5 x.Mounts::rSl aQ v4 x.Events::rSl aC v3 x.Store.Turns::rSl aB v2 x.Store.Nodes::rSl aX v1 x.Results::rCs bC (aS x v1 v2 v3 v4 v5 v6) x::rs):=by
 obtain ⟨_,hcs⟩:=H.rd (.head _);obtain ⟨u0,u1,u2,u3,u4,u5,rfl,-,-,-,-,-,-⟩:=nN hcs;refine ⟨_,_,_,_,_,_,rfl,?_⟩;exact ((((((H.derive1 (.head _) (rSl aX u0 x.Results) λok h=>Mx h).derive1 (.tail _ (.head _)) (rSl aB u1 x.Store.Nodes) λok h=>My h).derive1 (.tail _ (.tail _ (.head _))) (rSl aC u2 x.Store.Turns) λok h=>Mz h).derive1 (.tail _ (.tail _ (.tail _ (.head _)))) (rSl aQ u3 x.Events) λok h=>Na h).derive1 (.tail _ (.tail _ (.tail _ (.tail _ (.head _))))) (rSl bB u4 x.Mounts) λok h=>Nb h).derive1 (.tail _ (.tail _ (.tail _ (.tail _ (.tail _ (.head _)))))) (rSl (kI .i64) u5 x.Wounded) λok h=>Nc h)
theorem aZ{w:WD}{os:List Ob}{rs:List Rp}{z0:Int}{z1:Int}{z2:Bool}{z3:Int}{v1:VL}{yv1:List cT}{v2:VL}{yv2:List aG}{v3:VL}{yv3:List aM}{v4:VL}{yv4:List bP}{v5:VL}{yv5:List w7}{v6:VL}{yv6:List Int}(H:Sep w os rs)(hv1:rSl aX v1 yv1 ∈ rs)(hv2:rSl aB v2 yv2 ∈ rs)(hv3:rSl aC v3 yv3 ∈ rs)(hv4:rSl aQ v4 yv4 ∈ rs)(hv5:rSl bB v5 yv5 ∈ rs)(hv6:rSl (kI .i64) v6 yv6 ∈ rs):[.int .i64 z0,.int .i64 z1,.bool z2,.int .i64 z3,v1,v2,v3,v4,v5,v6].all (·.oneCell')=true:=by
 obtain ⟨_,_,rfl⟩:=H.slform hv1;obtain ⟨_,_,rfl⟩:=H.slform hv2;obtain ⟨_,_,rfl⟩:=H.slform hv3;obtain ⟨_,_,rfl⟩:=H.slform hv4;obtain ⟨_,_,rfl⟩:=H.slform hv5;obtain ⟨_,_,rfl⟩:=H.slform hv6;rfl
structure fJ where
 over_:Bool
 pieces_:(List cJ)
 a_:aW
 deriving DecidableEq,Inhabited
def dG:Kd fJ:=oQ (kP kB (kP (kL bN) bC)) λx=>(x.over_,(x.pieces_,x.a_))
theorem oV{w:WD}{ok:Nat->Prop}{x:fJ}{cs:List VL}(h:dG.R w ok x cs):∃ v1 v2 v3 v4 v5 v6 v7:VL,cs= [.bool x.over_,v1,.int .i64 x.a_.Err,.int .i64 x.a_.At,.bool x.a_.Yes,.int .i64 x.a_.Epoch,v2,v3,v4,v5,v6,v7]/\Sl bN w ok v1 x.pieces_/\Sl aX w ok v2 x.a_.Results/\Sl aB w ok v3 x.a_.Store.Nodes/\Sl aC w ok v4 x.a_.Store.Turns/\Sl aQ w ok v5 x.a_.Events/\Sl bB w ok v6 x.a_.Mounts/\Sl (kI .i64) w ok v7 x.a_.Wounded:=by
 obtain ⟨c0,d0,rfl,h0,c1,d1,rfl,h1,h2⟩:=h;have e0:c0= [.bool x.over_]:=h0;subst e0;obtain ⟨u0,rfl,g0⟩:=h1;obtain ⟨u1,u2,u3,u4,u5,u6,rfl,g1,g2,g3,g4,g5,g6⟩:=nN h2;exact ⟨u0,u1,u2,u3,u4,u5,u6,rfl,g0,g1,g2,g3,g4,g5,g6⟩
theorem Au{w:WD}{ok:Nat->Prop}{x:fJ}{v1:VL}{v2:VL}{v3:VL}{v4:VL}{v5:VL}{v6:VL}{v7:VL}(g1:Sl bN w ok v1 x.pieces_)(g2:Sl aX w ok v2 x.a_.Results)(g3:Sl aB w ok v3 x.a_.Store.Nodes)(g4:Sl aC w ok v4 x.a_.Store.Turns)(g5:Sl aQ w ok v5 x.a_.Events)(g6:Sl bB w ok v6 x.a_.Mounts)(g7:Sl (kI .i64) w ok v7 x.a_.Wounded):dG.R w ok x [.bool x.over_,v1,.int .i64 x.a_.Err,.int .i64 x.a_.At,.bool x.a_.Yes,.int .i64 x.a_.Epoch,v2,v3,v4,v5,v6,v7]:=⟨[.bool x.over_],_,rfl,rfl,⟨[v1],_,rfl,⟨_,rfl,g1⟩,(tE g2 g3 g4 g5 g6 g7)⟩⟩
theorem Ow{w:WD}{ok:Nat->Prop}{x:fJ}{v1 v2 v3 v4 v5 v6 v7:VL}(h:dG.R w ok x [.bool x.over_,v1,.int .i64 x.a_.Err,.int .i64 x.a_.At,.bool x.a_.Yes,.int .i64 x.a_.Epoch,v2,v3,v4,v5,v6,v7]):Sl bN w ok v1 x.pieces_:=by
 obtain ⟨u0,u1,u2,u3,u4,u5,u6,he,g0,g1,g2,g3,g4,g5,g6⟩:=oV h;cases he;exact g0
theorem Ox{w:WD}{ok:Nat->Prop}{x:fJ}{v1 v2 v3 v4 v5 v6 v7:VL}(h:dG.R w ok x [.bool x.over_,v1,.int .i64 x.a_.Err,.int .i64 x.a_.At,.bool x.a_.Yes,.int .i64 x.a_.Epoch,v2,v3,v4,v5,v6,v7]):Sl aX w ok v2 x.a_.Results:=by
 obtain ⟨u0,u1,u2,u3,u4,u5,u6,he,g0,g1,g2,g3,g4,g5,g6⟩:=oV h;cases he;exact g1
theorem Oy{w:WD}{ok:Nat->Prop}{x:fJ}{v1 v2 v3 v4 v5 v6 v7:VL}(h:dG.R w ok x [.bool x.over_,v1,.int .i64 x.a_.Err,.int .i64 x.a_.At,.bool x.a_.Yes,.int .i64 x.a_.Epoch,v2,v3,v4,v5,v6,v7]):Sl aB w ok v3 x.a_.Store.Nodes:=by
 obtain ⟨u0,u1,u2,u3,u4,u5,u6,he,g0,g1,g2,g3,g4,g5,g6⟩:=oV h;cases he;exact g2
theorem Oz{w:WD}{ok:Nat->Prop}{x:fJ}{v1 v2 v3 v4 v5 v6 v7:VL}(h:dG.R w ok x [.bool x.over_,v1,.int .i64 x.a_.Err,.int .i64 x.a_.At,.bool x.a_.Yes,.int .i64 x.a_.Epoch,v2,v3,v4,v5,v6,v7]):Sl aC w ok v4 x.a_.Store.Turns:=by
 obtain ⟨u0,u1,u2,u3,u4,u5,u6,he,g0,g1,g2,g3,g4,g5,g6⟩:=oV h;cases he;exact g3
theorem Pa{w:WD}{ok:Nat->Prop}{x:fJ}{v1 v2 v3 v4 v5 v6 v7:VL}(h:dG.R w ok x [.bool x.over_,v1,.int .i64 x.a_.Err,.int .i64 x.a_.At,.bool x.a_.Yes,.int .i64 x.a_.Epoch,v2,v3,v4,v5,v6,v7]):Sl aQ w ok v5 x.a_.Events:=by
 obtain ⟨u0,u1,u2,u3,u4,u5,u6,he,g0,g1,g2,g3,g4,g5,g6⟩:=oV h;cases he;exact g4
theorem Pb{w:WD}{ok:Nat->Prop}{x:fJ}{v1 v2 v3 v4 v5 v6 v7:VL}(h:dG.R w ok x [.bool x.over_,v1,.int .i64 x.a_.Err,.int .i64 x.a_.At,.bool x.a_.Yes,.int .i64 x.a_.Epoch,v2,v3,v4,v5,v6,v7]):Sl bB w ok v6 x.a_.Mounts:=by
 obtain ⟨u0,u1,u2,u3,u4,u5,u6,he,g0,g1,g2,g3,g4,g5,g6⟩:=oV h;cases he;exact g5
theorem Pc{w:WD}{ok:Nat->Prop}{x:fJ}{v1 v2 v3 v4 v5 v6 v7:VL}(h:dG.R w ok x [.bool x.over_,v1,.int .i64 x.a_.Err,.int .i64 x.a_.At,.bool x.a_.Yes,.int .i64 x.a_.Epoch,v2,v3,v4,v5,v6,v7]):Sl (kI .i64) w ok v7 x.a_.Wounded:=by
 obtain ⟨u0,u1,u2,u3,u4,u5,u6,he,g0,g1,g2,g3,g4,g5,g6⟩:=oV h;cases he;exact g6
abbrev Nx (x:fJ) (v1:VL) (v2:VL) (v3:VL) (v4:VL) (v5:VL) (v6:VL) (v7:VL):List VL:=[.bool x.over_,v1,.int .i64 x.a_.Err,.int .i64 x.a_.At,.bool x.a_.Yes,.int .i64 x.a_.Epoch,v2,v3,v4,v5,v6,v7]
abbrev SH:List VL:=[.bool false,.slice none 0 0,.int .i64 0,.int .i64 0,.bool false,.int .i64 0,.slice none 0 0,.slice none 0 0,.slice none 0 0,.slice none 0 0,.slice none 0 0,.slice none 0 0]
theorem Bc{w:WD}{os:List Ob}{rs:List Rp}{x:fJ}{cs:List VL}(H:Sep w os (rCs dG cs x::rs)):∃ v1 v2 v3 v4 v5 v6 v7:VL,cs=(Nx x v1 v2 v3 v4 v5 v6 v7)/\Sep w os (rSl (kI .i64) v7 x.a_.Wounded::rSl bB v6 x.a_.Mounts::rSl aQ v5 x.a_.Events::rSl aC v4 x.a_.Store.Turns::rSl aB v3 x.a_.Store.Nodes::rSl aX v2 x.a_.Results::rSl bN v1 x.pieces_::rCs dG (Nx x v1 v2 v3 v4 v5 v6 v7) x::rs):=by
 obtain ⟨_,hcs⟩:=H.rd (.head _);obtain ⟨u0,u1,u2,u3,u4,u5,u6,rfl,-,-,-,-,-,-,-⟩:=oV hcs;refine ⟨_,_,_,_,_,_,_,rfl,?_⟩;exact (((((((H.derive1 (.head _) (rSl bN u0 x.pieces_) λok h=>Ow h).derive1 (.tail _ (.head _)) (rSl aX u1 x.a_.Results) λok h=>Ox h).derive1 (.tail _ (.tail _ (.head _))) (rSl aB u2 x.a_.Store.Nodes) λok h=>Oy h).derive1 (.tail _ (.tail _ (.tail _ (.head _)))) (rSl aC u3 x.a_.Store.Turns) λok h=>Oz h).derive1 (.tail _ (.tail _ (.tail _ (.tail _ (.head _))))) (rSl aQ u4 x.a_.Events) λok h=>Pa h).derive1 (.tail _ (.tail _ (.tail _ (.tail _ (.tail _ (.head _)))))) (rSl bB u5 x.a_.Mounts) λok h=>Pb h).derive1 (.tail _ (.tail _ (.tail _ (.tail _ (.tail _ (.tail _ (.head _))))))) (rSl (kI .i64) u6 x.a_.Wounded) λok h=>Pc h)
theorem R8{w:WD}{os:List Ob}{rs:List Rp}{z0:Bool}{z1:Int}{z2:Int}{z3:Bool}{z4:Int}{v1:VL}{yv1:List cJ}{v2:VL}{yv2:List cT}{v3:VL}{yv3:List aG}{v4:VL}{yv4:List aM}{v5:VL}{yv5:List bP}{v6:VL}{yv6:List w7}{v7:VL}{yv7:List Int}(H:Sep w os rs)(hv1:rSl bN v1 yv1 ∈ rs)(hv2:rSl aX v2 yv2 ∈ rs)(hv3:rSl aB v3 yv3 ∈ rs)(hv4:rSl aC v4 yv4 ∈ rs)(hv5:rSl aQ v5 yv5 ∈ rs)(hv6:rSl bB v6 yv6 ∈ rs)(hv7:rSl (kI .i64) v7 yv7 ∈ rs):[.bool z0,v1,.int .i64 z1,.int .i64 z2,.bool z3,.int .i64 z4,v2,v3,v4,v5,v6,v7].all (·.oneCell')=true:=by
 obtain ⟨_,_,rfl⟩:=H.slform hv1;obtain ⟨_,_,rfl⟩:=H.slform hv2;obtain ⟨_,_,rfl⟩:=H.slform hv3;obtain ⟨_,_,rfl⟩:=H.slform hv4;obtain ⟨_,_,rfl⟩:=H.slform hv5;obtain ⟨_,_,rfl⟩:=H.slform hv6;obtain ⟨_,_,rfl⟩:=H.slform hv7;rfl
structure eY where
 Kind:Int
 Path:BY
 Data:BY
 Version:Int
 Owner:Int
 Turns:Bool
 deriving DecidableEq,Inhabited
def T9:Kd eY:=oQ (kP (kI .i64) (kP kS (kP kS (kP (kI .i64) (kP (kI .i64) kB))))) λx=>(x.Kind,(x.Path,(x.Data,(x.Version,(x.Owner,x.Turns)))))
theorem Vd{w:WD}{ok:Nat->Prop}{x:eY}{cs:List VL}(h:T9.R w ok x cs):cs= [.int .i64 x.Kind,.string x.Path,.string x.Data,.int .i64 x.Version,.int .i64 x.Owner,.bool x.Turns]:=by
 obtain ⟨c0,d0,rfl,h0,c1,d1,rfl,h1,c2,d2,rfl,h2,c3,d3,rfl,h3,c4,d4,rfl,h4,h5⟩:=h;have e0:c0= [.int .i64 x.Kind]:=h0;subst e0;have e1:c1= [.string x.Path]:=h1;subst e1;have e2:c2= [.string x.Data]:=h2;subst e2;have e3:c3= [.int .i64 x.Version]:=h3;subst e3;have e4:c4= [.int .i64 x.Owner]:=h4;subst e4;have e5:d4= [.bool x.Turns]:=h5;subst e5;rfl
theorem Ny{w:WD}{ok:Nat->Prop}{x:eY}:T9.R w ok x [.int .i64 x.Kind,.string x.Path,.string x.Data,.int .i64 x.Version,.int .i64 x.Owner,.bool x.Turns]:=⟨[.int .i64 x.Kind],_,rfl,rfl,⟨[.string x.Path],_,rfl,rfl,⟨[.string x.Data],_,rfl,rfl,⟨[.int .i64 x.Version],_,rfl,rfl,⟨[.int .i64 x.Owner],_,rfl,rfl,rfl⟩⟩⟩⟩⟩
abbrev uY (x:eY):List VL:=[.int .i64 x.Kind,.string x.Path,.string x.Data,.int .i64 x.Version,.int .i64 x.Owner,.bool x.Turns]
abbrev UE:List VL:=[.int .i64 0,.string ⟨#[]⟩,.string ⟨#[]⟩,.int .i64 0,.int .i64 0,.bool false]
def Iv:gZ T9:=⟨λx=>[.int .i64 x.Kind,.string x.Path,.string x.Data,.int .i64 x.Version,.int .i64 x.Owner,.bool x.Turns],Vd,Ny⟩
def Ek:gZ cP:=⟨λx=>[.int .i64 x.Kind,.string x.Dir,.string x.Path,.string x.Data,.int .i64 x.Version,.int .i64 x.Owner,.bool x.Turns],Ei,kF⟩
structure aI where
 Kind:Int
 Id:Int
 Txn:Int
 Age:Int
 Yes:Bool
 Pieces:(List cJ)
 Prefix:BY
 Epoch:Int
 To:Int
 Store:aK
 Gone:(List BY)
 Watch:aP
 deriving DecidableEq,Inhabited
def rU:Kd aI:=oQ (kP (kI .i64) (kP (kI .i64) (kP (kI .i64) (kP (kI .i64) (kP kB (kP (kL bN) (kP kS (kP (kI .i64) (kP (kI .i64) (kP jT (kP (kL kS) aR))))))))))) λx=>(x.Kind,(x.Id,(x.Txn,(x.Age,(x.Yes,(x.Pieces,(x.Prefix,(x.Epoch,(x.To,(x.Store,(x.Gone,x.Watch)))))))))))
theorem sE{w:WD}{ok:Nat->Prop}{x:aI}{cs:List VL}(h:rU.R w ok x cs):∃ v1 v2 v3 v4:VL,cs= [.int .i64 x.Kind,.int .i64 x.Id,.int .i64 x.Txn,.int .i64 x.Age,.bool x.Yes,v1,.string x.Prefix,.int .i64 x.Epoch,.int .i64 x.To,v2,v3,v4,.int .i64 x.Watch.Session,.int .i64 x.Watch.Num,.string x.Watch.Path,.bool x.Watch.Deep]/\Sl bN w ok v1 x.Pieces/\Sl aB w ok v2 x.Store.Nodes/\Sl aC w ok v3 x.Store.Turns/\Sl kS w ok v4 x.Gone:=by
 obtain ⟨c0,d0,rfl,h0,c1,d1,rfl,h1,c2,d2,rfl,h2,c3,d3,rfl,h3,c4,d4,rfl,h4,c5,d5,rfl,h5,c6,d6,rfl,h6,c7,d7,rfl,h7,c8,d8,rfl,h8,c9,d9,rfl,h9,c10,d10,rfl,h10,h11⟩:=h;have e0:c0= [.int .i64 x.Kind]:=h0;subst e0;have e1:c1= [.int .i64 x.Id]:=h1;subst e1;have e2:c2= [.int .i64 x.Txn]:=h2;subst e2;have e3:c3= [.int .i64 x.Age]:=h3;subst e3;have e4:c4= [.bool x.Yes]:=h4;subst e4;obtain ⟨u0,rfl,g0⟩:=h5;have e6:c6= [.string x.Prefix]:=h6;subst e6;have e7:c7= [.int .i64 x.Epoch]:=h7;subst e7;have e8:c8= [.int .i64 x.To]:=h8;subst e8;obtain ⟨u1,u2,rfl,g1,g2⟩:=T8 h9;obtain ⟨u3,rfl,g3⟩:=h10;obtain ⟨rfl⟩:=Dj h11;exact ⟨u0,u1,u2,u3,rfl,g0,g1,g2,g3⟩
theorem Kc{w:WD}{ok:Nat->Prop}{x:aI}{v1 v2 v3 v4:VL}(h:rU.R w ok x [.int .i64 x.Kind,.int .i64 x.Id,.int .i64 x.Txn,.int .i64 x.Age,.bool x.Yes,v1,.string x.Prefix,.int .i64 x.Epoch,.int .i64 x.To,v2,v3,v4,.int .i64 x.Watch.Session,.int .i64 x.Watch.Num,.string x.Watch.Path,.bool x.Watch.Deep]):Sl bN w ok v1 x.Pieces:=by
 obtain ⟨u0,u1,u2,u3,he,g0,g1,g2,g3⟩:=sE h;cases he;exact g0
theorem Ke{w:WD}{ok:Nat->Prop}{x:aI}{v1 v2 v3 v4:VL}(h:rU.R w ok x [.int .i64 x.Kind,.int .i64 x.Id,.int .i64 x.Txn,.int .i64 x.Age,.bool x.Yes,v1,.string x.Prefix,.int .i64 x.Epoch,.int .i64 x.To,v2,v3,v4,.int .i64 x.Watch.Session,.int .i64 x.Watch.Num,.string x.Watch.Path,.bool x.Watch.Deep]):Sl aB w ok v2 x.Store.Nodes:=by
 obtain ⟨u0,u1,u2,u3,he,g0,g1,g2,g3⟩:=sE h;cases he;exact g1
theorem Kf{w:WD}{ok:Nat->Prop}{x:aI}{v1 v2 v3 v4:VL}(h:rU.R w ok x [.int .i64 x.Kind,.int .i64 x.Id,.int .i64 x.Txn,.int .i64 x.Age,.bool x.Yes,v1,.string x.Prefix,.int .i64 x.Epoch,.int .i64 x.To,v2,v3,v4,.int .i64 x.Watch.Session,.int .i64 x.Watch.Num,.string x.Watch.Path,.bool x.Watch.Deep]):Sl aC w ok v3 x.Store.Turns:=by
 obtain ⟨u0,u1,u2,u3,he,g0,g1,g2,g3⟩:=sE h;cases he;exact g2
theorem Kg{w:WD}{ok:Nat->Prop}{x:aI}{v1 v2 v3 v4:VL}(h:rU.R w ok x [.int .i64 x.Kind,.int .i64 x.Id,.int .i64 x.Txn,.int .i64 x.Age,.bool x.Yes,v1,.string x.Prefix,.int .i64 x.Epoch,.int .i64 x.To,v2,v3,v4,.int .i64 x.Watch.Session,.int .i64 x.Watch.Num,.string x.Watch.Path,.bool x.Watch.Deep]):Sl kS w ok v4 x.Gone:=by
 obtain ⟨u0,u1,u2,u3,he,g0,g1,g2,g3⟩:=sE h;cases he;exact g3
abbrev aN (x:aI) (v1:VL) (v2:VL) (v3:VL) (v4:VL):List VL:=[.int .i64 x.Kind,.int .i64 x.Id,.int .i64 x.Txn,.int .i64 x.Age,.bool x.Yes,v1,.string x.Prefix,.int .i64 x.Epoch,.int .i64 x.To,v2,v3,v4,.int .i64 x.Watch.Session,.int .i64 x.Watch.Num,.string x.Watch.Path,.bool x.Watch.Deep]
theorem Iw{w:WD}{os:List Ob}{rs:List Rp}{x:aI}{cs:List VL}(H:Sep w os (rCs rU cs x::rs)):∃ v1 v2 v3 v4:VL,cs=(aN x v1 v2 v3 v4)/\Sep w os (rSl kS v4 x.Gone::rSl aC v3 x.Store.Turns::rSl aB v2 x.Store.Nodes::rSl bN v1 x.Pieces::rCs rU (aN x v1 v2 v3 v4) x::rs):=by
 obtain ⟨_,hcs⟩:=H.rd (.head _);obtain ⟨u0,u1,u2,u3,rfl,-,-,-,-⟩:=sE hcs;refine ⟨_,_,_,_,rfl,?_⟩;exact ((((H.derive1 (.head _) (rSl bN u0 x.Pieces) λok h=>Kc h).derive1 (.tail _ (.head _)) (rSl aB u1 x.Store.Nodes) λok h=>Ke h).derive1 (.tail _ (.tail _ (.head _))) (rSl aC u2 x.Store.Turns) λok h=>Kf h).derive1 (.tail _ (.tail _ (.tail _ (.head _)))) (rSl kS u3 x.Gone) λok h=>Kg h)
theorem Cm{w:WD}{ok:Nat->Prop}{q:Addr}{x:aI}{cs:List VL}(h:(rAw rU q x cs).p w ok):∃ c,(rAw (kI .i64) (q.add 0) x.Kind c).p w ok/\c=(cs.drop 0).take 1:=by
 have h0:(rAw (kP (kI .i64) (kP (kI .i64) (kP (kI .i64) (kP (kI .i64) (kP kB (kP (kL bN) (kP kS (kP (kI .i64) (kP (kI .i64) (kP jT (kP (kL kS) aR))))))))))) q ((x.Kind,(x.Id,(x.Txn,(x.Age,(x.Yes,(x.Pieces,(x.Prefix,(x.Epoch,(x.To,(x.Store,(x.Gone,x.Watch)))))))))))) cs).p w ok:=h;have hl:cs.length=16:=rU.len h.2.1;have h1:=(B8 h0)
 simp only [show ∀ q:Addr,q.add 0=q from λq=>by simp [Addr.add]];refine ⟨_,h1,?_⟩
 (try simp only [kP,kI,kB,kS,kL,oQ,Kd.scalar,jT,aR])
 all_goals (try (apply List.ext_getElem?;intro j;simp [List.getElem?_take,List.getElem?_drop]))
 all_goals (try (intros;(try split);(try omega);(try (rw [List.getElem?_eq_none (by omega)]))))
theorem Nf{w:WD}{ok:Nat->Prop}{q:Addr}{x:aI}{cs:List VL}(h:(rAw rU q x cs).p w ok):∃ c,(rAw (kI .i64) (q.add 2) x.Txn c).p w ok/\c=(cs.drop 2).take 1:=by
 have h0:(rAw (kP (kI .i64) (kP (kI .i64) (kP (kI .i64) (kP (kI .i64) (kP kB (kP (kL bN) (kP kS (kP (kI .i64) (kP (kI .i64) (kP jT (kP (kL kS) aR))))))))))) q ((x.Kind,(x.Id,(x.Txn,(x.Age,(x.Yes,(x.Pieces,(x.Prefix,(x.Epoch,(x.To,(x.Store,(x.Gone,x.Watch)))))))))))) cs).p w ok:=h;have hl:cs.length=16:=rU.len h.2.1;have h1:=(B8 (qQ (qQ h0)))
 simp only [add_add,kP,kI,kB,kS,kL,oQ,Kd.scalar,jT,aR] at h1;refine ⟨_,h1,?_⟩
 (try simp only [kP,kI,kB,kS,kL,oQ,Kd.scalar,jT,aR])
 all_goals (try (apply List.ext_getElem?;intro j;simp [List.getElem?_take,List.getElem?_drop]))
 all_goals (try (intros;(try split);(try omega);(try (rw [List.getElem?_eq_none (by omega)]))))
theorem Ng{w:WD}{ok:Nat->Prop}{q:Addr}{x:aI}{cs:List VL}(h:(rAw rU q x cs).p w ok):∃ c,(rAw (kL bN) (q.add 5) x.Pieces c).p w ok/\c=(cs.drop 5).take 1:=by
 have h0:(rAw (kP (kI .i64) (kP (kI .i64) (kP (kI .i64) (kP (kI .i64) (kP kB (kP (kL bN) (kP kS (kP (kI .i64) (kP (kI .i64) (kP jT (kP (kL kS) aR))))))))))) q ((x.Kind,(x.Id,(x.Txn,(x.Age,(x.Yes,(x.Pieces,(x.Prefix,(x.Epoch,(x.To,(x.Store,(x.Gone,x.Watch)))))))))))) cs).p w ok:=h;have hl:cs.length=16:=rU.len h.2.1;have h1:=(B8 (qQ (qQ (qQ (qQ (qQ h0))))))
 simp only [add_add,kP,kI,kB,kS,kL,oQ,Kd.scalar,jT,aR] at h1;refine ⟨_,h1,?_⟩
 (try simp only [kP,kI,kB,kS,kL,oQ,Kd.scalar,jT,aR])
 all_goals (try (apply List.ext_getElem?;intro j;simp [List.getElem?_take,List.getElem?_drop]))
 all_goals (try (intros;(try split);(try omega);(try (rw [List.getElem?_eq_none (by omega)]))))
theorem Nh{w:WD}{ok:Nat->Prop}{q:Addr}{x:aI}{cs:List VL}(h:(rAw rU q x cs).p w ok):∃ c,(rAw jT (q.add 9) x.Store c).p w ok/\c=(cs.drop 9).take 2:=by
 have h0:(rAw (kP (kI .i64) (kP (kI .i64) (kP (kI .i64) (kP (kI .i64) (kP kB (kP (kL bN) (kP kS (kP (kI .i64) (kP (kI .i64) (kP jT (kP (kL kS) aR))))))))))) q ((x.Kind,(x.Id,(x.Txn,(x.Age,(x.Yes,(x.Pieces,(x.Prefix,(x.Epoch,(x.To,(x.Store,(x.Gone,x.Watch)))))))))))) cs).p w ok:=h;have hl:cs.length=16:=rU.len h.2.1;have h1:=(B8 (qQ (qQ (qQ (qQ (qQ (qQ (qQ (qQ (qQ h0))))))))))
 simp only [add_add,kP,kI,kB,kS,kL,oQ,Kd.scalar,jT,aR] at h1;refine ⟨_,h1,?_⟩
 (try simp only [kP,kI,kB,kS,kL,oQ,Kd.scalar,jT,aR])
 all_goals (try (apply List.ext_getElem?;intro j;simp [List.getElem?_take,List.getElem?_drop]))
 all_goals (try (intros;(try split);(try omega);(try (rw [List.getElem?_eq_none (by omega)]))))
def F6:gZ bN:=⟨λx=>[.int .i64 x.Op,.int .i64 x.Part.Kind,.string x.Part.Dir,.string x.Part.Path,.string x.Part.Data,.int .i64 x.Part.Version,.int .i64 x.Part.Owner,.bool x.Part.Turns],Ot,Ge⟩
abbrev Zt:aK:=⟨[],[]⟩
abbrev vW:aW:=⟨0,0,false,0,[],Zt,[],[],[]⟩
structure aY where
 Watches:(List aP)
 Sessions:(List aE)
 deriving DecidableEq,Inhabited
def NS:Kd aY:=oQ (kP (kL aR) (kL aJ)) λx=>(x.Watches,x.Sessions)
theorem kM{w:WD}{os:List Ob}{rs:List Rp}{v1:VL}{yv1:List aP}{v2:VL}{yv2:List aE}(H:Sep w os rs)(hv1:rSl aR v1 yv1 ∈ rs)(hv2:rSl aJ v2 yv2 ∈ rs):[v1,v2].all (·.oneCell')=true:=by
 obtain ⟨_,_,rfl⟩:=H.slform hv1;obtain ⟨_,_,rfl⟩:=H.slform hv2;rfl
def uZ:gZ aQ:=⟨λx=>[.int .i64 x.Num,.int .i64 x.Kind,.string x.Path,.int .i64 x.Watch],T7,N9⟩
def KV:gZ kS:=⟨λx=>[.string x],λh=>h,rfl⟩
structure Zu where
 Store:aK
 r_:cT
 deriving DecidableEq,Inhabited
def SJ:Kd Zu:=oQ (kP jT aX) λx=>(x.Store,x.r_)
abbrev Bd:fJ:=⟨false,[],vW⟩
def cfB(P:Program)(f:Nat):Bool:=match P.funcs[f]? with
 | some fn=>!(fn.body.isNone || fn.name == "runtime.NumGoroutine")
 | none=>false
theorem cfA{P:Program}{f:Nat}(h:cfB P f=true):CF P f:=by
 unfold cfB at h;split at h
 ·rename_i fn hf;exact cfo hf (by simpa using h)
 cases h
theorem cf_(f:Nat)(h:cfB Tryz.prog f=true:=by kernel_rfl):CF Tryz.prog f:=cfA h
abbrev U25:=underlying25
theorem cY:(Tryz.prog.info? 25).map (·.size)=some 2:=by kernel_rfl
theorem ON:∀ (w:WD) (q:Addr),(Instr.fieldAt 25 (.pointer (some q)) 0).run Tryz.prog w= .ok (.pointer (some (q.add 0))) w:=λw q=>by kernel_rfl
abbrev U22:=underlying22
theorem gM:(Tryz.prog.info? 107).map (·.size)=some 5:=by kernel_rfl
abbrev w6:=underlying107
theorem KW:∀ (w:WD) (q:Addr),(Instr.fieldAt 107 (.pointer (some q)) 3).run Tryz.prog w= .ok (.pointer (some (q.add 3))) w:=λw q=>by kernel_rfl
abbrev U2:=underlying2
theorem KX:∀ (w:WD) (q:Addr),(Instr.fieldAt 107 (.pointer (some q)) 0).run Tryz.prog w= .ok (.pointer (some (q.add 0))) w:=λw q=>by kernel_rfl
abbrev U9:=underlying9
theorem KY:∀ (w:WD) (q:Addr),(Instr.fieldAt 107 (.pointer (some q)) 1).run Tryz.prog w= .ok (.pointer (some (q.add 1))) w:=λw q=>by kernel_rfl
theorem KZ:∀ (w:WD) (q:Addr),(Instr.fieldAt 107 (.pointer (some q)) 2).run Tryz.prog w= .ok (.pointer (some (q.add 2))) w:=λw q=>by kernel_rfl
theorem LA:∀ (w:WD) (q:Addr),(Instr.fieldAt 107 (.pointer (some q)) 4).run Tryz.prog w= .ok (.pointer (some (q.add 4))) w:=λw q=>by kernel_rfl
abbrev U33:=underlying33
theorem OO:∀ (w:WD) (s:BY) (c:Int),(callFunc 326 #[.string s,.int .u8 c]).run Tryz.prog w= .ok (.value (.int .i64 (ixB s c))) w:=λw s c=>Ws func326 (by kernel_rfl) (by kernel_rfl) (by kernel_rfl) (e:=Extern.BytealgIndexByte.indexByte) (by kernel_rfl) (KN s c w)
theorem Kh:(Tryz.prog.info? 9).map (λi=>(i.zero,i.size,i.bytes))=some (some (.string ⟨#[]⟩),1,16):=by kernel_rfl
theorem OP:∀ (w:WD) (q:Addr),(Instr.fieldAt 25 (.pointer (some q)) 1).run Tryz.prog w= .ok (.pointer (some (q.add 1))) w:=λw q=>by kernel_rfl
abbrev U23:=underlying23
theorem rF:(Tryz.prog.info? 89).map (·.size)=some 2:=by kernel_rfl
abbrev U89:=underlying89
theorem OQ:∀ (w:WD) (q:Addr),(Instr.fieldAt 89 (.pointer (some q)) 0).run Tryz.prog w= .ok (.pointer (some (q.add 0))) w:=λw q=>by kernel_rfl
theorem OR:∀ (w:WD) (q:Addr),(Instr.fieldAt 89 (.pointer (some q)) 1).run Tryz.prog w= .ok (.pointer (some (q.add 1))) w:=λw q=>by kernel_rfl
abbrev U32:=underlying32
theorem lA:(Tryz.prog.info? 31).map (·.size)=some 3:=by kernel_rfl
abbrev U31:=underlying31
theorem Td:(Tryz.prog.info? 31).bind (·.zero)=some (.agg Zs.toArray):=by kernel_rfl
theorem OS:∀ (w:WD) (q:Addr),(Instr.fieldAt 31 (.pointer (some q)) 0).run Tryz.prog w= .ok (.pointer (some (q.add 0))) w:=λw q=>by kernel_rfl
theorem OU:∀ (w:WD) (q:Addr),(Instr.fieldAt 31 (.pointer (some q)) 1).run Tryz.prog w= .ok (.pointer (some (q.add 1))) w:=λw q=>by kernel_rfl
theorem OV:∀ (w:WD) (q:Addr),(Instr.fieldAt 31 (.pointer (some q)) 2).run Tryz.prog w= .ok (.pointer (some (q.add 2))) w:=λw q=>by kernel_rfl
abbrev U3:=underlying3
abbrev Te:=underlying135
theorem Em:(Tryz.prog.info? 134).map (·.size)=some 6:=by kernel_rfl
abbrev Xg:=underlying134
theorem LB:∀ (w:WD) (q:Addr),(Instr.fieldAt 134 (.pointer (some q)) 0).run Tryz.prog w= .ok (.pointer (some (q.add 0))) w:=λw q=>by kernel_rfl
theorem LC:∀ (w:WD) (q:Addr),(Instr.fieldAt 134 (.pointer (some q)) 1).run Tryz.prog w= .ok (.pointer (some (q.add 1))) w:=λw q=>by kernel_rfl
theorem LD:∀ (w:WD) (q:Addr),(Instr.fieldAt 134 (.pointer (some q)) 2).run Tryz.prog w= .ok (.pointer (some (q.add 2))) w:=λw q=>by kernel_rfl
theorem LE:∀ (w:WD) (q:Addr),(Instr.fieldAt 134 (.pointer (some q)) 4).run Tryz.prog w= .ok (.pointer (some (q.add 4))) w:=λw q=>by kernel_rfl
theorem LF:∀ (w:WD) (q:Addr),(Instr.fieldAt 134 (.pointer (some q)) 3).run Tryz.prog w= .ok (.pointer (some (q.add 3))) w:=λw q=>by kernel_rfl
theorem LG:∀ (w:WD) (q:Addr),(Instr.fieldAt 134 (.pointer (some q)) 5).run Tryz.prog w= .ok (.pointer (some (q.add 5))) w:=λw q=>by kernel_rfl
abbrev U4:=underlying4
theorem SY:(Tryz.prog.info? 312).bind (·.zero)=some (.agg #[.int .i64 0,.int .i64 0,.int .i64 0,.int .i64 0,.int .i64 0,.int .i64 0,.int .i64 0,.int .i64 0]):=by kernel_rfl
theorem KA:(Tryz.prog.info? 312).map (·.size)=some 8:=by kernel_rfl
abbrev OW:=underlying312
theorem sz3:(Tryz.prog.info? 3).map (·.size)=some 1:=by kernel_rfl
theorem SZ:(Tryz.prog.info? 134).bind (·.zero)=some (.agg UE.toArray):=by kernel_rfl
theorem TA:(Tryz.prog.info? 192).bind (·.zero)=some (.slice none 0 0):=by kernel_rfl
theorem zr9:(Tryz.prog.info? 9).bind (·.zero)=some (.string ⟨#[]⟩):=by kernel_rfl
theorem sz9:(Tryz.prog.info? 9).map (·.size)=some 1:=by kernel_rfl
theorem TB:(Tryz.prog.info? 258).bind (·.zero)=some (.nilFunc):=by kernel_rfl
theorem TC:(Tryz.prog.info? 258).map (·.size)=some 1:=by kernel_rfl
abbrev Xh:=underlying258
theorem Pd:(Tryz.prog.info? 97).bind (·.zero)=some (.agg SX.toArray):=by kernel_rfl
theorem mR:(Tryz.prog.info? 97).map (·.size)=some 7:=by kernel_rfl
abbrev U97:=underlying97
theorem OX:∀ (w:WD) (q:Addr),(Instr.fieldAt 97 (.pointer (some q)) 3).run Tryz.prog w= .ok (.pointer (some (q.add 3))) w:=λw q=>by kernel_rfl
theorem OY:∀ (w:WD) (q:Addr),(Instr.fieldAt 97 (.pointer (some q)) 5).run Tryz.prog w= .ok (.pointer (some (q.add 5))) w:=λw q=>by kernel_rfl
theorem sz2:(Tryz.prog.info? 2).map (·.size)=some 1:=by kernel_rfl
theorem OZ:∀ (w:WD) (q:Addr),(Instr.fieldAt 97 (.pointer (some q)) 6).run Tryz.prog w= .ok (.pointer (some (q.add 6))) w:=λw q=>by kernel_rfl
theorem sz4:(Tryz.prog.info? 4).map (·.size)=some 1:=by kernel_rfl
abbrev Xi:=underlying192
theorem TD:(Tryz.prog.info? 97).map (λi=>(i.zero,i.size,i.bytes))=some (some (.agg #[.int .i64 0,.string ⟨#[]⟩,.string ⟨#[]⟩,.string ⟨#[]⟩,.int .i64 0,.int .i64 0,.bool false]),7,80):=by kernel_rfl
theorem TE:(Tryz.prog.info? 192).map (·.size)=some 1:=by kernel_rfl
theorem PA:∀ (w:WD) (q:Addr),(Instr.fieldAt 97 (.pointer (some q)) 4).run Tryz.prog w= .ok (.pointer (some (q.add 4))) w:=λw q=>by kernel_rfl
abbrev U26:=underlying26
theorem TF:(Tryz.prog.info? 99).map (λi=>(i.zero,i.size,i.bytes))=some (some (.agg #[.int .i64 0,.int .i64 0,.string ⟨#[]⟩,.string ⟨#[]⟩,.string ⟨#[]⟩,.int .i64 0,.int .i64 0,.bool false]),8,88):=by kernel_rfl
theorem lB:(Tryz.prog.info? 48).bind (·.zero)=some (.agg bH.toArray):=by kernel_rfl
theorem TG:(Tryz.prog.info? 101).bind (·.zero)=some (.agg #[.nilFunc,.nilFunc,.nilFunc,.nilFunc,.nilFunc,.nilFunc,.nilFunc,.nilFunc,.nilFunc,.nilFunc,.nilFunc]):=by kernel_rfl
theorem TH:(Tryz.prog.info? 101).map (·.size)=some 11:=by kernel_rfl
abbrev U37:=underlying37
theorem xZ:(Tryz.prog.info? 37).map (·.size)=some 16:=by kernel_rfl
theorem ET:∀ (w:WD) (q:Addr),(Instr.fieldAt 37 (.pointer (some q)) 5).run Tryz.prog w= .ok (.pointer (some (q.add 5))) w:=λw q=>by kernel_rfl
theorem Z2:(Tryz.prog.info? 99).map (·.size)=some 8:=by kernel_rfl
abbrev U99:=underlying99
theorem CG:(Tryz.prog.info? 99).bind (·.zero)=some (.agg SG.toArray):=by kernel_rfl
theorem PB:∀ (w:WD) (q:Addr),(Instr.fieldAt 99 (.pointer (some q)) 0).run Tryz.prog w= .ok (.pointer (some (q.add 0))) w:=λw q=>by kernel_rfl
theorem PC:∀ (w:WD) (q:Addr),(Instr.fieldAt 99 (.pointer (some q)) 1).run Tryz.prog w= .ok (.pointer (some (q.add 1))) w:=λw q=>by kernel_rfl
theorem PD:∀ (w:WD) (q:Addr),(Instr.fieldAt 97 (.pointer (some q)) 2).run Tryz.prog w= .ok (.pointer (some (q.add 2))) w:=λw q=>by kernel_rfl
theorem PE:∀ (w:WD) (q:Addr),(Instr.fieldAt 97 (.pointer (some q)) 0).run Tryz.prog w= .ok (.pointer (some (q.add 0))) w:=λw q=>by kernel_rfl
theorem PF:∀ (w:WD) (q:Addr),(Instr.fieldAt 97 (.pointer (some q)) 1).run Tryz.prog w= .ok (.pointer (some (q.add 1))) w:=λw q=>by kernel_rfl
theorem LH:∀ (w:WD) (q:Addr),(Instr.fieldAt 37 (.pointer (some q)) 10).run Tryz.prog w= .ok (.pointer (some (q.add 11))) w:=λw q=>by kernel_rfl
theorem Xj:∀ (w:WD) (q:Addr),(Instr.fieldAt 37 (.pointer (some q)) 6).run Tryz.prog w= .ok (.pointer (some (q.add 6))) w:=λw q=>by kernel_rfl
theorem PG:∀ (w:WD) (q:Addr),(Instr.fieldAt 37 (.pointer (some q)) 0).run Tryz.prog w= .ok (.pointer (some (q.add 0))) w:=λw q=>by kernel_rfl
theorem PH:∀ (w:WD) (q:Addr),(Instr.fieldAt 37 (.pointer (some q)) 8).run Tryz.prog w= .ok (.pointer (some (q.add 8))) w:=λw q=>by kernel_rfl
theorem Ki:∀ (w:WD) (q:Addr),(Instr.fieldAt 37 (.pointer (some q)) 1).run Tryz.prog w= .ok (.pointer (some (q.add 1))) w:=λw q=>by kernel_rfl
theorem Qy:∀ (w:WD) (q:Addr),(Instr.fieldAt 37 (.pointer (some q)) 2).run Tryz.prog w= .ok (.pointer (some (q.add 2))) w:=λw q=>by kernel_rfl
theorem PI:∀ (w:WD) (q:Addr),(Instr.fieldAt 37 (.pointer (some q)) 3).run Tryz.prog w= .ok (.pointer (some (q.add 3))) w:=λw q=>by kernel_rfl
theorem PJ:∀ (w:WD) (q:Addr),(Instr.fieldAt 37 (.pointer (some q)) 7).run Tryz.prog w= .ok (.pointer (some (q.add 7))) w:=λw q=>by kernel_rfl
theorem Ml:∀ (w:WD) (q:Addr),(Instr.fieldAt 37 (.pointer (some q)) 11).run Tryz.prog w= .ok (.pointer (some (q.add 12))) w:=λw q=>by kernel_rfl
theorem Qz:∀ (w:WD) (q:Addr),(Instr.fieldAt 35 (.pointer (some q)) 0).run Tryz.prog w= .ok (.pointer (some (q.add 0))) w:=λw q=>by kernel_rfl
theorem Xk:∀ (w:WD) (q:Addr),(Instr.fieldAt 35 (.pointer (some q)) 1).run Tryz.prog w= .ok (.pointer (some (q.add 1))) w:=λw q=>by kernel_rfl
abbrev U46:=underlying46
theorem PK:∀ (w:WD) (q:Addr),(Instr.fieldAt 35 (.pointer (some q)) 2).run Tryz.prog w= .ok (.pointer (some (q.add 2))) w:=λw q=>by kernel_rfl
theorem PL:∀ (w:WD) (q:Addr),(Instr.fieldAt 37 (.pointer (some q)) 9).run Tryz.prog w= .ok (.pointer (some (q.add 9))) w:=λw q=>by kernel_rfl
theorem bR:(Tryz.prog.info? 48).map (·.size)=some 10:=by kernel_rfl
abbrev U48:=underlying48
abbrev Fb:=underlying101
theorem Be:(Tryz.prog.info? 100).map (·.size)=some 1:=by kernel_rfl
abbrev Fc:=underlying100
theorem Kj:∀ (w:WD) (q:Addr),(Instr.fieldAt 87 (.pointer (some q)) 4).run Tryz.prog w= .ok (.pointer (some (q.add 6))) w:=λw q=>by kernel_rfl
abbrev U84:=underlying84
theorem Z3:(Tryz.prog.info? 48).bind (·.zero)=some (.agg [.int .i64 0,.int .i64 0,.bool false,.int .i64 0,.slice none 0 0,.slice none 0 0,.slice none 0 0,.slice none 0 0,.slice none 0 0,.slice none 0 0].toArray):=by kernel_rfl
theorem Dl:∀ (w:WD) (ok:Nat->Prop),bC.R w ok vW [.int .i64 0,.int .i64 0,.bool false,.int .i64 0,.slice none 0 0,.slice none 0 0,.slice none 0 0,.slice none 0 0,.slice none 0 0,.slice none 0 0]:=λw ok=>tE (Sl.nil _ _ _) (Sl.nil _ _ _) (Sl.nil _ _ _) (Sl.nil _ _ _) (Sl.nil _ _ _) (Sl.nil _ _ _)
theorem qS:Tryz.prog.follows .mixedOrders=true:=by kernel_rfl
theorem Xl:∀ (w:WD) (q:Addr),(Instr.fieldAt 87 (.pointer (some q)) 3).run Tryz.prog w= .ok (.pointer (some (q.add 4))) w:=λw q=>by kernel_rfl
abbrev U73:=underlying73
theorem gT:(Tryz.prog.info? 73).map (·.size)=some 2:=by kernel_rfl
theorem Hl:(Tryz.prog.info? 73).bind (·.zero)=some (.agg #[.slice none 0 0,.slice none 0 0]):=by kernel_rfl
theorem EU:∀ (w:WD) (q:Addr),(Instr.fieldAt 73 (.pointer (some q)) 0).run Tryz.prog w= .ok (.pointer (some (q.add 0))) w:=λw q=>by kernel_rfl
abbrev U70:=underlying70
theorem yQ:(Tryz.prog.info? 35).map (·.size)=some 4:=by kernel_rfl
abbrev U35:=underlying35
theorem PM:(Tryz.prog.info? 35).bind (·.zero)=some (.agg SF.toArray):=by kernel_rfl
theorem Xm:(Tryz.prog.info? 3).bind (·.zero)=some (.int .i64 0):=by kernel_rfl
abbrev UF:=underlying294
theorem Gf:B2 Tryz.prog 294 Q4:=HK (Maps.Keyed.of_law (deep_law_laid (by kernel_rfl) (m:=3) (by omega) (of_decide_eq_true (by kernel_rfl)) (by kernel_rfl) (by kernel_rfl))) UF U2 U2 (by kernel_rfl) ⟨by kernel_rfl,by kernel_rfl,by kernel_rfl,rfl,rfl⟩ (by kernel_rfl) (by kernel_rfl)
abbrev Pe:=underlying292
theorem EV:∀ (w:WD) (q:Addr),(Instr.fieldAt 73 (.pointer (some q)) 1).run Tryz.prog w= .ok (.pointer (some (q.add 1))) w:=λw q=>by kernel_rfl
abbrev U71:=underlying71
theorem B3:(Tryz.prog.info? 126).map (·.size)=some 3:=by kernel_rfl
theorem LI:∀ (w:WD) (q:Addr),(Instr.fieldAt 126 (.pointer (some q)) 0).run Tryz.prog w= .ok (.pointer (some (q.add 0))) w:=λw q=>by kernel_rfl
abbrev UG:=underlying236
abbrev Tf:=underlying126
abbrev UH:=underlying124
theorem LJ:∀ (w:WD) (q:Addr),(Instr.fieldAt 126 (.pointer (some q)) 1).run Tryz.prog w= .ok (.pointer (some (q.add 1))) w:=λw q=>by kernel_rfl
theorem AQ:∀ (w:WD) (q:Addr),(Instr.fieldAt 126 (.pointer (some q)) 2).run Tryz.prog w= .ok (.pointer (some (q.add 2))) w:=λw q=>by kernel_rfl
abbrev U44:=underlying44
theorem xA:(Tryz.prog.info? 131).map (·.size)=some 4:=by kernel_rfl
abbrev Hm:=underlying131
theorem CH:(Tryz.prog.info? 131).bind (·.zero)=some (.agg SE.toArray):=by kernel_rfl
theorem LK:∀ (w:WD) (q:Addr),(Instr.fieldAt 131 (.pointer (some q)) 0).run Tryz.prog w= .ok (.pointer (some (q.add 0))) w:=λw q=>by kernel_rfl
theorem LL:∀ (w:WD) (q:Addr),(Instr.fieldAt 131 (.pointer (some q)) 1).run Tryz.prog w= .ok (.pointer (some (q.add 1))) w:=λw q=>by kernel_rfl
theorem LM:∀ (w:WD) (q:Addr),(Instr.fieldAt 131 (.pointer (some q)) 2).run Tryz.prog w= .ok (.pointer (some (q.add 2))) w:=λw q=>by kernel_rfl
theorem LN:∀ (w:WD) (q:Addr),(Instr.fieldAt 131 (.pointer (some q)) 3).run Tryz.prog w= .ok (.pointer (some (q.add 3))) w:=λw q=>by kernel_rfl
theorem PN:(Tryz.prog.info? 126).map (λi=>(i.zero,i.size,i.bytes))=some (some (.agg #[.int .i64 0,.int .i64 0,.slice none 0 0]),3,40):=by kernel_rfl
theorem gX{w:WD}{os:List Ob}{rs:List Rp}{v:VL}{xs:List aE}(H:Sep w os rs)(hm:rSl aJ v xs ∈ rs)(hl:xs.length <= LIM) :
  Calls Tryz.prog 75 [v].toArray w (Ret λv' w'=>Sep w' (Row 126 aJ v' xs::os) rs):=by
 obtain ⟨b,c,rfl⟩:=H.slform hm;refine enter func75 rfl ntmps75 rfl λa E=>?_;simp only [yN,Nat.reduceAdd] at E;refine wS ?_;refine wG ?_;refine cA E (wn rfl) rfl rfl (cZ E rfl rfl) ?_;clear E;clear a;intro a E;refine wN ?_;refine aA ?_;refine wS ?_;refine wS ?_;refine wG ?_;refine cA E (wn rfl) rfl rfl (bL E rfl rfl) ?_;clear E;clear a;intro a E;refine cA E (wn rfl) rfl rfl (Aq E rfl rfl rfl underlying71) ?_;clear E;clear a;intro a E;refine wN ?_;refine aA ?_;refine wV E rfl ?_ ?_
 ·intro hb;cases b with
  | some _=>cases hb
  | none=>
   obtain rfl:=H.sl_none hm;refine wS ?_;refine wG ?_;refine cA E (wn rfl) rfl rfl (cZ E rfl rfl) ?_;clear E;clear a;intro a E;refine wN ?_;refine aA ?_;refine wR ?_;refine aH ?_;refine xJ E rfl rfl ?_;exact H.nilRow 126 aJ
 ·intro hb;refine wK ?_;refine aA ?_;refine wS ?_;refine wG ?_;refine kH (e:=126) (d:=aJ) (cs:=[]) (xs:=[]) E H (wn rfl) rfl rfl (ps:=[]) (parts:=[]) rfl rfl (by kernel_rfl) rfl rfl (λok hr=>Rows.nil _ _ _) ?_;clear E H;clear a;clear w;intro v2 w a H E;refine cA E (wn rfl) rfl rfl (bL E rfl rfl) ?_;clear E;clear a;intro a E;refine eF (i:=0) E H (wn rfl) rfl rfl rfl rfl rfl rfl (lH hm) underlying71 PN rfl (by simpa using hl) rfl ?_;clear E H;clear a;clear w;intro v3 w a H E;refine cA E (wn rfl) rfl rfl (cZ E rfl rfl) ?_;clear E;clear a;intro a E;refine wN ?_;refine aA ?_;refine wR ?_;refine xJ E rfl rfl ?_;exact H

theorem Xn:(Tryz.prog.info? 71).map (·.size)=some 1:=by kernel_rfl
theorem Rb:(Tryz.prog.info? 131).map (λi=>(i.zero,i.size,i.bytes))=some (some (.agg #[.int .i64 0,.int .i64 0,.string ⟨#[]⟩,.int .i64 0]),4,40):=by kernel_rfl
theorem gE{w:WD}{os:List Ob}{rs:List Rp}{v:VL}{xs:List bP}(H:Sep w os rs)(hm:rSl aQ v xs ∈ rs)(hl:xs.length <= LIM) :
  Calls Tryz.prog 76 [v].toArray w (Ret λv' w'=>Sep w' (Row 131 aQ v' xs::os) rs):=by
 obtain ⟨b,c,rfl⟩:=H.slform hm;refine enter func76 rfl ntmps76 rfl λa E=>?_;simp only [yN,Nat.reduceAdd] at E;refine wS ?_;refine wG ?_;refine cA E (wn rfl) rfl rfl (cZ E rfl rfl) ?_;clear E;clear a;intro a E;refine wN ?_;refine aA ?_;refine wS ?_;refine wS ?_;refine wG ?_;refine cA E (wn rfl) rfl rfl (bL E rfl rfl) ?_;clear E;clear a;intro a E;refine cA E (wn rfl) rfl rfl (Aq E rfl rfl rfl underlying44) ?_;clear E;clear a;intro a E;refine wN ?_;refine aA ?_;refine wV E rfl ?_ ?_
 ·intro hb;cases b with
  | some _=>cases hb
  | none=>
   obtain rfl:=H.sl_none hm;refine wS ?_;refine wG ?_;refine cA E (wn rfl) rfl rfl (cZ E rfl rfl) ?_;clear E;clear a;intro a E;refine wN ?_;refine aA ?_;refine wR ?_;refine aH ?_;refine xJ E rfl rfl ?_;exact H.nilRow 131 aQ
 ·intro hb;refine wK ?_;refine aA ?_;refine wS ?_;refine wG ?_;refine kH (e:=131) (d:=aQ) (cs:=[]) (xs:=[]) E H (wn rfl) rfl rfl (ps:=[]) (parts:=[]) rfl rfl (by kernel_rfl) rfl rfl (λok hr=>Rows.nil _ _ _) ?_;clear E H;clear a;clear w;intro v2 w a H E;refine cA E (wn rfl) rfl rfl (bL E rfl rfl) ?_;clear E;clear a;intro a E;refine eF (i:=0) E H (wn rfl) rfl rfl rfl rfl rfl rfl (lH hm) underlying44 Rb rfl (by simpa using hl) rfl ?_;clear E H;clear a;clear w;intro v3 w a H E;refine cA E (wn rfl) rfl rfl (cZ E rfl rfl) ?_;clear E;clear a;intro a E;refine wN ?_;refine aA ?_;refine wR ?_;refine xJ E rfl rfl ?_;exact H

theorem PO:(Tryz.prog.info? 131).bind (·.zero)=some (.agg #[.int .i64 0,.int .i64 0,.string ⟨#[]⟩,.int .i64 0]):=by kernel_rfl
theorem CI:(Tryz.prog.info? 44).map (·.size)=some 1:=by kernel_rfl
theorem PP:∀ (w:WD) (q:Addr),(Instr.fieldAt 48 (.pointer (some q)) 0).run Tryz.prog w= .ok (.pointer (some (q.add 0))) w:=λw q=>by kernel_rfl
abbrev U41:=underlying41
theorem CJ:(Tryz.prog.info? 35).map (λi=>(i.zero,i.size,i.bytes))=some (some (.agg #[.int .i64 0,.int .i64 0,.string ⟨#[]⟩,.bool false]),4,40):=by kernel_rfl
theorem iR{w:WD}{os:List Ob}{rs:List Rp}{v:VL}{xs:List aP}(H:Sep w os rs)(hm:rSl aR v xs ∈ rs)(hl:xs.length <= LIM) :
  Calls Tryz.prog 74 [v].toArray w (Ret λv' w'=>Sep w' (Row 35 aR v' xs::os) rs):=by
 obtain ⟨b,c,rfl⟩:=H.slform hm;refine enter func74 rfl ntmps74 rfl λa E=>?_;simp only [yN,Nat.reduceAdd] at E;refine wS ?_;refine wG ?_;refine cA E (wn rfl) rfl rfl (cZ E rfl rfl) ?_;clear E;clear a;intro a E;refine wN ?_;refine aA ?_;refine wS ?_;refine wS ?_;refine wG ?_;refine cA E (wn rfl) rfl rfl (bL E rfl rfl) ?_;clear E;clear a;intro a E;refine cA E (wn rfl) rfl rfl (Aq E rfl rfl rfl underlying70) ?_;clear E;clear a;intro a E;refine wN ?_;refine aA ?_;refine wV E rfl ?_ ?_
 ·intro hb;cases b with
  | some _=>cases hb
  | none=>
   obtain rfl:=H.sl_none hm;refine wS ?_;refine wG ?_;refine cA E (wn rfl) rfl rfl (cZ E rfl rfl) ?_;clear E;clear a;intro a E;refine wN ?_;refine aA ?_;refine wR ?_;refine aH ?_;refine xJ E rfl rfl ?_;exact H.nilRow 35 aR
 ·intro hb;refine wK ?_;refine aA ?_;refine wS ?_;refine wG ?_;refine kH (e:=35) (d:=aR) (cs:=[]) (xs:=[]) E H (wn rfl) rfl rfl (ps:=[]) (parts:=[]) rfl rfl (by kernel_rfl) rfl rfl (λok hr=>Rows.nil _ _ _) ?_;clear E H;clear a;clear w;intro v2 w a H E;refine cA E (wn rfl) rfl rfl (bL E rfl rfl) ?_;clear E;clear a;intro a E;refine eF (i:=0) E H (wn rfl) rfl rfl rfl rfl rfl rfl (lH hm) underlying70 CJ rfl (by simpa using hl) rfl ?_;clear E H;clear a;clear w;intro v3 w a H E;refine cA E (wn rfl) rfl rfl (cZ E rfl rfl) ?_;clear E;clear a;intro a E;refine wN ?_;refine aA ?_;refine wR ?_;refine xJ E rfl rfl ?_;exact H

theorem CK:(Tryz.prog.info? 70).map (·.size)=some 1:=by kernel_rfl
abbrev U28:=underlying28
theorem PQ:∀ (w:WD) (q:Addr),(Instr.fieldAt 87 (.pointer (some q)) 2).run Tryz.prog w= .ok (.pointer (some (q.add 3))) w:=λw q=>by kernel_rfl
abbrev U58:=underlying58
theorem rG:(Tryz.prog.info? 78).map (·.size)=some 3:=by kernel_rfl
abbrev U78:=underlying78
theorem PR:∀ (w:WD) (q:Addr),(Instr.fieldAt 78 (.pointer (some q)) 0).run Tryz.prog w= .ok (.pointer (some (q.add 0))) w:=λw q=>by kernel_rfl
theorem PS:∀ (w:WD) (q:Addr),(Instr.fieldAt 78 (.pointer (some q)) 1).run Tryz.prog w= .ok (.pointer (some (q.add 1))) w:=λw q=>by kernel_rfl
theorem EW:∀ (w:WD) (q:Addr),(Instr.fieldAt 87 (.pointer (some q)) 1).run Tryz.prog w= .ok (.pointer (some (q.add 2))) w:=λw q=>by kernel_rfl
theorem Rc:∀ (w:WD) (q:Addr),(Instr.fieldAt 87 (.pointer (some q)) 0).run Tryz.prog w= .ok (.pointer (some (q.add 0))) w:=λw q=>by kernel_rfl
theorem mX:(Tryz.prog.info? 25).bind (·.zero)=some (.agg #[.slice none 0 0,.slice none 0 0]):=by kernel_rfl
theorem PT:(Tryz.prog.info? 93).bind (·.zero)=some (.agg Kb.toArray):=by kernel_rfl
theorem TJ:(Tryz.prog.info? 183).bind (·.zero)=some (.agg #[.nilFunc,.nilFunc,.nilFunc,.nilFunc,.nilFunc,.nilFunc,.nilFunc,.nilFunc,.nilFunc,.nilFunc,.nilFunc]):=by kernel_rfl
theorem TK:(Tryz.prog.info? 183).map (·.size)=some 11:=by kernel_rfl
theorem L8:(Tryz.prog.info? 93).map (·.size)=some 5:=by kernel_rfl
theorem Kk:(Tryz.prog.info? 107).map (λi=>(i.zero,i.size,i.bytes))=some (some (.agg #[.string ⟨#[]⟩,.string ⟨#[]⟩,.int .i64 0,.int .i64 0,.int .i64 0]),5,56):=by kernel_rfl
theorem vI{w:WD}{os:List Ob}{rs:List Rp}{v:VL}{xs:List aG}(H:Sep w os rs)(hm:rSl aB v xs ∈ rs)(hl:xs.length <= LIM) :
  Calls Tryz.prog 56 [v].toArray w (Ret λv' w'=>Sep w' (Row 107 aB v' xs::os) rs):=by
 obtain ⟨b,c,rfl⟩:=H.slform hm;refine enter func56 rfl ntmps56 rfl λa E=>?_;simp only [yN,Nat.reduceAdd] at E;refine wS ?_;refine wG ?_;refine cA E (wn rfl) rfl rfl (cZ E rfl rfl) ?_;clear E;clear a;intro a E;refine wN ?_;refine aA ?_;refine wS ?_;refine wS ?_;refine wG ?_;refine cA E (wn rfl) rfl rfl (bL E rfl rfl) ?_;clear E;clear a;intro a E;refine cA E (wn rfl) rfl rfl (Aq E rfl rfl rfl underlying22) ?_;clear E;clear a;intro a E;refine wN ?_;refine aA ?_;refine wV E rfl ?_ ?_
 ·intro hb;cases b with
  | some _=>cases hb
  | none=>
   obtain rfl:=H.sl_none hm;refine wS ?_;refine wG ?_;refine cA E (wn rfl) rfl rfl (cZ E rfl rfl) ?_;clear E;clear a;intro a E;refine wN ?_;refine aA ?_;refine wR ?_;refine aH ?_;refine xJ E rfl rfl ?_;exact H.nilRow 107 aB
 ·intro hb;refine wK ?_;refine aA ?_;refine wS ?_;refine wG ?_;refine kH (e:=107) (d:=aB) (cs:=[]) (xs:=[]) E H (wn rfl) rfl rfl (ps:=[]) (parts:=[]) rfl rfl (by kernel_rfl) rfl rfl (λok hr=>Rows.nil _ _ _) ?_;clear E H;clear a;clear w;intro v2 w a H E;refine cA E (wn rfl) rfl rfl (bL E rfl rfl) ?_;clear E;clear a;intro a E;refine eF (i:=0) E H (wn rfl) rfl rfl rfl rfl rfl rfl (lH hm) underlying22 Kk rfl (by simpa using hl) rfl ?_;clear E H;clear a;clear w;intro v3 w a H E;refine cA E (wn rfl) rfl rfl (cZ E rfl rfl) ?_;clear E;clear a;intro a E;refine wN ?_;refine aA ?_;refine wR ?_;refine xJ E rfl rfl ?_;exact H

theorem Vt:(Tryz.prog.info? 89).map (λi=>(i.zero,i.size,i.bytes))=some (some (.agg #[.string ⟨#[]⟩,.int .i64 0]),2,24):=by kernel_rfl
theorem vJ{w:WD}{os:List Ob}{rs:List Rp}{v:VL}{xs:List aM}(H:Sep w os rs)(hm:rSl aC v xs ∈ rs)(hl:xs.length <= LIM) :
  Calls Tryz.prog 57 [v].toArray w (Ret λv' w'=>Sep w' (Row 89 aC v' xs::os) rs):=by
 obtain ⟨b,c,rfl⟩:=H.slform hm;refine enter func57 rfl ntmps57 rfl λa E=>?_;simp only [yN,Nat.reduceAdd] at E;refine wS ?_;refine wG ?_;refine cA E (wn rfl) rfl rfl (cZ E rfl rfl) ?_;clear E;clear a;intro a E;refine wN ?_;refine aA ?_;refine wS ?_;refine wS ?_;refine wG ?_;refine cA E (wn rfl) rfl rfl (bL E rfl rfl) ?_;clear E;clear a;intro a E;refine cA E (wn rfl) rfl rfl (Aq E rfl rfl rfl underlying23) ?_;clear E;clear a;intro a E;refine wN ?_;refine aA ?_;refine wV E rfl ?_ ?_
 ·intro hb;cases b with
  | some _=>cases hb
  | none=>
   obtain rfl:=H.sl_none hm;refine wS ?_;refine wG ?_;refine cA E (wn rfl) rfl rfl (cZ E rfl rfl) ?_;clear E;clear a;intro a E;refine wN ?_;refine aA ?_;refine wR ?_;refine aH ?_;refine xJ E rfl rfl ?_;exact H.nilRow 89 aC
 ·intro hb;refine wK ?_;refine aA ?_;refine wS ?_;refine wG ?_;refine kH (e:=89) (d:=aC) (cs:=[]) (xs:=[]) E H (wn rfl) rfl rfl (ps:=[]) (parts:=[]) rfl rfl (by kernel_rfl) rfl rfl (λok hr=>Rows.nil _ _ _) ?_;clear E H;clear a;clear w;intro v2 w a H E;refine cA E (wn rfl) rfl rfl (bL E rfl rfl) ?_;clear E;clear a;intro a E;refine eF (i:=0) E H (wn rfl) rfl rfl rfl rfl rfl rfl (lH hm) underlying23 Vt rfl (by simpa using hl) rfl ?_;clear E H;clear a;clear w;intro v3 w a H E;refine cA E (wn rfl) rfl rfl (cZ E rfl rfl) ?_;clear E;clear a;intro a E;refine wN ?_;refine aA ?_;refine wR ?_;refine xJ E rfl rfl ?_;exact H

abbrev Fd:=underlying183
theorem Bf:(Tryz.prog.info? 180).map (·.size)=some 1:=by kernel_rfl
abbrev Fe:=underlying180
theorem TL:(Tryz.prog.info? 121).bind (·.zero)=some (.nilFunc):=by kernel_rfl
theorem TM:(Tryz.prog.info? 121).map (·.size)=some 1:=by kernel_rfl
abbrev CL:=underlying182
theorem LO:∀ (w:WD) (q:Addr),(Instr.fieldAt 185 (.pointer (some q)) 0).run Tryz.prog w= .ok (.pointer (some (q.add 0))) w:=λw q=>by kernel_rfl
abbrev UI:=underlying121
theorem LP:∀ (w:WD) (q:Addr),(Instr.fieldAt 185 (.pointer (some q)) 1).run Tryz.prog w= .ok (.pointer (some (q.add 2))) w:=λw q=>by kernel_rfl
theorem PU:∀ (w:WD) (q:Addr),(Instr.fieldAt 93 (.pointer (some q)) 4).run Tryz.prog w= .ok (.pointer (some (q.add 4))) w:=λw q=>by kernel_rfl
theorem PV:(Tryz.prog.info? 33).map (·.size)=some 1:=by kernel_rfl
theorem CM:(Tryz.prog.info? 107).bind (·.zero)=some (.agg SV.toArray):=by kernel_rfl
theorem PW:(Tryz.prog.info? 107).bind (·.zero)=some (.agg #[.string ⟨#[]⟩,.string ⟨#[]⟩,.int .i64 0,.int .i64 0,.int .i64 0]):=by kernel_rfl
theorem Tg:(Tryz.prog.info? 22).map (·.size)=some 1:=by kernel_rfl
theorem EX:∀ (w:WD) (s t:BY),(callFunc 255 #[.string s,.string t]).run Tryz.prog w= .ok (.value (.int .i64 (Extern.BytealgCompare.cmp s t))) w:=λw s t=>Ws func255 (by kernel_rfl) (by kernel_rfl) (by kernel_rfl) (e:=Extern.BytealgCompare.compare) (by kernel_rfl) (GY s t w)
theorem Rd:∀ (w:WD) (q:Addr),(Op.equal 244 (.pointer (some q)) (.pointer none)).run Tryz.prog w= .ok false w:=λw q=>by kernel_rfl
theorem Re:∀ w:WD,(Op.equal 244 (.pointer none) (.pointer none)).run Tryz.prog w= .ok true w:=λw=>by kernel_rfl
theorem PX:∀ (w:WD) (q:Addr),(Instr.fieldAt 93 (.pointer (some q)) 2).run Tryz.prog w= .ok (.pointer (some (q.add 2))) w:=λw q=>by kernel_rfl
theorem PY:∀ (w:WD) (q:Addr),(Instr.fieldAt 93 (.pointer (some q)) 3).run Tryz.prog w= .ok (.pointer (some (q.add 3))) w:=λw q=>by kernel_rfl
theorem Hn:(Tryz.prog.info? 23).map (·.size)=some 1:=by kernel_rfl
theorem PZ:∀ (w:WD) (q:Addr),(Instr.fieldAt 93 (.pointer (some q)) 1).run Tryz.prog w= .ok (.pointer (some (q.add 1))) w:=λw q=>by kernel_rfl
theorem QA:∀ (w:WD) (q:Addr),(Instr.fieldAt 93 (.pointer (some q)) 0).run Tryz.prog w= .ok (.pointer (some (q.add 0))) w:=λw q=>by kernel_rfl
abbrev U93:=underlying93
abbrev U40:=underlying40
theorem TN:(Tryz.prog.info? 93).map (λi=>(i.zero,i.size,i.bytes))=some (some (.agg #[.int .i64 0,.string ⟨#[]⟩,.string ⟨#[]⟩,.int .i64 0,.slice none 0 0]),5,72):=by kernel_rfl
theorem QB:∀ (w:WD) (q:Addr),(Instr.fieldAt 35 (.pointer (some q)) 3).run Tryz.prog w= .ok (.pointer (some (q.add 3))) w:=λw q=>by kernel_rfl
theorem TO:(Tryz.prog.info? 35).bind (·.zero)=some (.agg #[.int .i64 0,.int .i64 0,.string ⟨#[]⟩,.bool false]):=by kernel_rfl
theorem TP:(Tryz.prog.info? 31).map (λi=>(i.zero,i.size,i.bytes))=some (some (.agg #[.string ⟨#[]⟩,.int .i64 0,.int .i64 0]),3,32):=by kernel_rfl
theorem tY{w:WD}{os:List Ob}{rs:List Rp}{v:VL}{xs:List aF}(H:Sep w os rs)(hm:rSl aO v xs ∈ rs)(hl:xs.length <= LIM) :
  Calls Tryz.prog 66 [v].toArray w (Ret λv' w'=>Sep w' (Row 31 aO v' xs::os) rs):=by
 obtain ⟨b,c,rfl⟩:=H.slform hm;refine enter func66 rfl ntmps66 rfl λa E=>?_;simp only [yN,Nat.reduceAdd] at E;refine wS ?_;refine wG ?_;refine cA E (wn rfl) rfl rfl (cZ E rfl rfl) ?_;clear E;clear a;intro a E;refine wN ?_;refine aA ?_;refine wS ?_;refine wS ?_;refine wG ?_;refine cA E (wn rfl) rfl rfl (bL E rfl rfl) ?_;clear E;clear a;intro a E;refine cA E (wn rfl) rfl rfl (Aq E rfl rfl rfl underlying32) ?_;clear E;clear a;intro a E;refine wN ?_;refine aA ?_;refine wV E rfl ?_ ?_
 ·intro hb;cases b with
  | some _=>cases hb
  | none=>
   obtain rfl:=H.sl_none hm;refine wS ?_;refine wG ?_;refine cA E (wn rfl) rfl rfl (cZ E rfl rfl) ?_;clear E;clear a;intro a E;refine wN ?_;refine aA ?_;refine wR ?_;refine aH ?_;refine xJ E rfl rfl ?_;exact H.nilRow 31 aO
 ·intro hb;refine wK ?_;refine aA ?_;refine wS ?_;refine wG ?_;refine kH (e:=31) (d:=aO) (cs:=[]) (xs:=[]) E H (wn rfl) rfl rfl (ps:=[]) (parts:=[]) rfl rfl (by kernel_rfl) rfl rfl (λok hr=>Rows.nil _ _ _) ?_;clear E H;clear a;clear w;intro v2 w a H E;refine cA E (wn rfl) rfl rfl (bL E rfl rfl) ?_;clear E;clear a;intro a E;refine eF (i:=0) E H (wn rfl) rfl rfl rfl rfl rfl rfl (lH hm) underlying32 TP rfl (by simpa using hl) rfl ?_;clear E H;clear a;clear w;intro v3 w a H E;refine cA E (wn rfl) rfl rfl (cZ E rfl rfl) ?_;clear E;clear a;intro a E;refine wN ?_;refine aA ?_;refine wR ?_;refine xJ E rfl rfl ?_;exact H

theorem TQ:(Tryz.prog.info? 122).bind (·.zero)=some (.nilFunc):=by kernel_rfl
theorem TR:(Tryz.prog.info? 122).map (·.size)=some 1:=by kernel_rfl
abbrev QC:=underlying122
theorem UJ:(Tryz.prog.info? 89).bind (·.zero)=some (.agg #[.string (ByteArray.mk #[]),.int .i64 0]):=by kernel_rfl
theorem HP:(Tryz.prog.info? 32).map (·.size)=some 1:=by kernel_rfl
theorem EY:∀ (w:WD) (q:Addr),(Instr.fieldAt 87 (.pointer (some q)) 6).run Tryz.prog w= .ok (.pointer (some (q.add 8))) w:=λw q=>by kernel_rfl
theorem QD:∀ (w:WD) (q:Addr),(Instr.fieldAt 37 (.pointer (some q)) 4).run Tryz.prog w= .ok (.pointer (some (q.add 4))) w:=λw q=>by kernel_rfl
theorem Xo:∀ (w:WD) (q:Addr),(Instr.fieldAt 87 (.pointer (some q)) 5).run Tryz.prog w= .ok (.pointer (some (q.add 7))) w:=λw q=>by kernel_rfl
abbrev U85:=underlying85
theorem Rf:(Tryz.prog.info? 154).bind (·.zero)=some (.agg [.bool false,.slice none 0 0,.int .i64 0,.int .i64 0,.bool false,.int .i64 0,.slice none 0 0,.slice none 0 0,.slice none 0 0,.slice none 0 0,.slice none 0 0,.slice none 0 0].toArray):=by kernel_rfl
theorem Vu:∀ (w:WD) (ok:Nat->Prop),dG.R w ok Bd [.bool false,.slice none 0 0,.int .i64 0,.int .i64 0,.bool false,.int .i64 0,.slice none 0 0,.slice none 0 0,.slice none 0 0,.slice none 0 0,.slice none 0 0,.slice none 0 0]:=λw ok=>Au (Sl.nil _ _ _) (Sl.nil _ _ _) (Sl.nil _ _ _) (Sl.nil _ _ _) (Sl.nil _ _ _) (Sl.nil _ _ _) (Sl.nil _ _ _)
theorem Vv:(Tryz.prog.info? 154).bind (·.zero)=some (.agg SH.toArray):=by kernel_rfl
theorem Vw:(Tryz.prog.info? 154).map (·.size)=some 12:=by kernel_rfl
theorem LQ:∀ (w:WD) (q:Addr),(Instr.fieldAt 154 (.pointer (some q)) 0).run Tryz.prog w= .ok (.pointer (some (q.add 0))) w:=λw q=>by kernel_rfl
theorem TS:(Tryz.prog.info? 78).map (λi=>(i.zero,i.size,i.bytes))=some (some (.agg #[.string ⟨#[]⟩,.int .i64 0,.int .i64 0]),3,32):=by kernel_rfl
theorem oA{w:WD}{os:List Ob}{rs:List Rp}{v:VL}{xs:List aU}(H:Sep w os rs)(hm:rSl bA v xs ∈ rs)(hl:xs.length <= LIM) :
  Calls Tryz.prog 60 [v].toArray w (Ret λv' w'=>Sep w' (Row 78 bA v' xs::os) rs):=by
 obtain ⟨b,c,rfl⟩:=H.slform hm;refine enter func60 rfl ntmps60 rfl λa E=>?_;simp only [yN,Nat.reduceAdd] at E;refine wS ?_;refine wG ?_;refine cA E (wn rfl) rfl rfl (cZ E rfl rfl) ?_;clear E;clear a;intro a E;refine wN ?_;refine aA ?_;refine wS ?_;refine wS ?_;refine wG ?_;refine cA E (wn rfl) rfl rfl (bL E rfl rfl) ?_;clear E;clear a;intro a E;refine cA E (wn rfl) rfl rfl (Aq E rfl rfl rfl underlying58) ?_;clear E;clear a;intro a E;refine wN ?_;refine aA ?_;refine wV E rfl ?_ ?_
 ·intro hb;cases b with
  | some _=>cases hb
  | none=>
   obtain rfl:=H.sl_none hm;refine wS ?_;refine wG ?_;refine cA E (wn rfl) rfl rfl (cZ E rfl rfl) ?_;clear E;clear a;intro a E;refine wN ?_;refine aA ?_;refine wR ?_;refine aH ?_;refine xJ E rfl rfl ?_;exact H.nilRow 78 bA
 ·intro hb;refine wK ?_;refine aA ?_;refine wS ?_;refine wG ?_;refine kH (e:=78) (d:=bA) (cs:=[]) (xs:=[]) E H (wn rfl) rfl rfl (ps:=[]) (parts:=[]) rfl rfl (by kernel_rfl) rfl rfl (λok hr=>Rows.nil _ _ _) ?_;clear E H;clear a;clear w;intro v2 w a H E;refine cA E (wn rfl) rfl rfl (bL E rfl rfl) ?_;clear E;clear a;intro a E;refine eF (i:=0) E H (wn rfl) rfl rfl rfl rfl rfl rfl (lH hm) underlying58 TS rfl (by simpa using hl) rfl ?_;clear E H;clear a;clear w;intro v3 w a H E;refine cA E (wn rfl) rfl rfl (cZ E rfl rfl) ?_;clear E;clear a;intro a E;refine wN ?_;refine aA ?_;refine wR ?_;refine xJ E rfl rfl ?_;exact H

theorem HQ:(Tryz.prog.info? 78).bind (·.zero)=some (.agg SW.toArray):=by kernel_rfl
theorem TT:(Tryz.prog.info? 78).bind (·.zero)=some (.agg #[.string ⟨#[]⟩,.int .i64 0,.int .i64 0]):=by kernel_rfl
theorem QE:(Tryz.prog.info? 58).map (·.size)=some 1:=by kernel_rfl
theorem LR:∀ (w:WD) (q:Addr),(Instr.fieldAt 154 (.pointer (some q)) 2).run Tryz.prog w= .ok (.pointer (some (q.add 2))) w:=λw q=>by kernel_rfl
theorem QF:∀ (w:WD) (q:Addr),(Instr.fieldAt 48 (.pointer (some q)) 2).run Tryz.prog w= .ok (.pointer (some (q.add 2))) w:=λw q=>by kernel_rfl
theorem LS:∀ (w:WD) (q:Addr),(Instr.fieldAt 154 (.pointer (some q)) 1).run Tryz.prog w= .ok (.pointer (some (q.add 1))) w:=λw q=>by kernel_rfl
theorem QG:∀ (w:WD) (q:Addr),(Instr.fieldAt 78 (.pointer (some q)) 2).run Tryz.prog w= .ok (.pointer (some (q.add 2))) w:=λw q=>by kernel_rfl
theorem UK:(Tryz.prog.info? 2).bind (·.zero)=some (.int .i64 0):=by kernel_rfl
abbrev QH:=underlying263
abbrev QI:=underlying209
theorem QJ:∀ (w:WD) (q:Addr),(Instr.fieldAt 48 (.pointer (some q)) 4).run Tryz.prog w= .ok (.pointer (some (q.add 4))) w:=λw q=>by kernel_rfl
theorem QK:∀ (w:WD) (q:Addr),(Instr.fieldAt 48 (.pointer (some q)) 3).run Tryz.prog w= .ok (.pointer (some (q.add 3))) w:=λw q=>by kernel_rfl
theorem QL:∀ (w:WD) (q:Addr),(Instr.fieldAt 48 (.pointer (some q)) 5).run Tryz.prog w= .ok (.pointer (some (q.add 5))) w:=λw q=>by kernel_rfl
theorem QM:Tryz.prog.stoodInHeld 107=false:=by kernel_rfl
theorem QN:Tryz.prog.eqGuardType Tryz.prog.depth 107=false:=by kernel_rfl
theorem TU:Tryz.prog.stoodInHeld 89=false:=by kernel_rfl
theorem TV:Tryz.prog.eqGuardType Tryz.prog.depth 89=false:=by kernel_rfl
theorem QO:∀ (w:WD) (q:Addr),(Instr.fieldAt 48 (.pointer (some q)) 1).run Tryz.prog w= .ok (.pointer (some (q.add 1))) w:=λw q=>by kernel_rfl
abbrev U54:=underlying54
theorem QP:∀ (w:WD) (q:Addr),(Instr.fieldAt 48 (.pointer (some q)) 7).run Tryz.prog w= .ok (.pointer (some (q.add 8))) w:=λw q=>by kernel_rfl
abbrev U45:=underlying45
theorem Vx:(Tryz.prog.info? 115).map (·.size)=some 4:=by kernel_rfl
abbrev HR:=underlying115
theorem QQ:Tryz.prog.stoodInHeld 115=false:=by kernel_rfl
theorem QR:Tryz.prog.eqGuardType Tryz.prog.depth 115=false:=by kernel_rfl
theorem QS:∀ (w:WD) (q:Addr),(Instr.fieldAt 48 (.pointer (some q)) 6).run Tryz.prog w= .ok (.pointer (some (q.add 7))) w:=λw q=>by kernel_rfl
theorem QT:Tryz.prog.stoodInHeld 131=false:=by kernel_rfl
theorem QU:Tryz.prog.eqGuardType Tryz.prog.depth 131=false:=by kernel_rfl
theorem QV:∀ (w:WD) (q:Addr),(Instr.fieldAt 48 (.pointer (some q)) 8).run Tryz.prog w= .ok (.pointer (some (q.add 9))) w:=λw q=>by kernel_rfl
def tb:Tb:=⟨[(25,0,0),(25,1,1),(31,0,0),(31,1,1),(31,2,2),(35,0,0),(35,1,1),(35,2,2),(35,3,3),(37,0,0),(37,1,1),(37,2,2),(37,3,3),(37,4,4),(37,5,5),(37,6,6),(37,7,7),(37,8,8),(37,9,9),(37,10,11),(37,11,12),(48,0,0),(48,1,1),(48,2,2),(48,3,3),(48,4,4),(48,5,5),(48,6,7),(48,7,8),(48,8,9),(73,0,0),(73,1,1),(78,0,0),(78,1,1),(78,2,2),(87,0,0),(87,1,2),(87,2,3),(87,3,4),(87,4,6),(87,5,7),(87,6,8),(89,0,0),(89,1,1),(93,0,0),(93,1,1),(93,2,2),(93,3,3),(93,4,4),(97,0,0),(97,1,1),(97,2,2),(97,3,3),(97,4,4),(97,5,5),(97,6,6),(99,0,0),(99,1,1),(107,0,0),(107,1,1),(107,2,2),(107,3,3),(107,4,4),(126,0,0),(126,1,1),(126,2,2),(131,0,0),(131,1,1),(131,2,2),(131,3,3),(134,0,0),(134,1,1),(134,2,2),(134,3,3),(134,4,4),(134,5,5),(154,0,0),(154,1,1),(154,2,2),(185,0,0),(185,1,2)],[(3,5,.u8),(3,234,.u64),(21,5,.u8),(234,3,.i64)],[9]⟩
theorem CN:BZ Tryz.prog tb:=⟨⟨ON,OP,OS,OU,OV,Qz,Xk,PK,QB,PG,Ki,Qy,PI,QD,ET,Xj,PJ,PH,PL,LH,Ml,PP,QO,QF,QK,QJ,QL,QS,QP,QV,EU,EV,PR,PS,QG,Rc,EW,PQ,Xl,Kj,Xo,EY,OQ,OR,QA,PZ,PX,PY,PU,PE,PF,PD,OX,PA,OY,OZ,PB,PC,KX,KY,KZ,KW,LA,LI,LJ,AQ,LK,LL,LM,LN,LB,LC,LD,LF,LE,LG,LQ,LS,LR,LO,LP,trivial⟩,⟨λ_ _ _=>by kernel_rfl,λ_ _ _=>by kernel_rfl,λ_ _ _=>by kernel_rfl,λ_ _ _=>by kernel_rfl,trivial⟩,⟨U9,trivial⟩⟩
theorem pr{ops:Array Oper}{Q:Exit->Act->WD->Prop}{w:WD}{n:Nat}(k:Nat){env env':List (Nat×VL)}{l l':List Oper}{a:Act}(E:Env n a env)(h:Ez tb [] ops n k env l=some (env',l'))(kont:∀ a',Env n a' env'->wpList Tryz.prog ops Q l' a' w):wpList Tryz.prog ops Q l a w:=Qi CN k E (kn0 _) h kont
theorem pk{ops:Array Oper}{Q:Exit->Act->WD->Prop}{w:WD}{n:Nat}{kn:List (Nat×Bool)}(k:Nat){env env':List (Nat×VL)}{l l':List Oper}{a:Act}(E:Env n a env)(K:Kn env kn)(h:Ez tb kn ops n k env l=some (env',l'))(kont:∀ a',Env n a' env'->wpList Tryz.prog ops Q l' a' w):wpList Tryz.prog ops Q l a w:=Qi CN k E K h kont
theorem fn{ops:Array Oper}{Q:Exit->Act->WD->Prop}{w:WD}{n:Nat}{I:WD->Prop}(k:Nat){env env':List (Nat×VL)}{l l':List (Nat×Nat)}{a:Act}(E:Env n a env)(h:Sp tb [] ops n k env l=some (env',l'))(kont:∀ a',Env n a' env'->nP Tryz.prog I ops Q l' a' w):nP Tryz.prog I ops Q l a w:=Vp CN k E (kn0 _) h kont
theorem fk{ops:Array Oper}{Q:Exit->Act->WD->Prop}{w:WD}{n:Nat}{kn:List (Nat×Bool)}{I:WD->Prop}(k:Nat){env env':List (Nat×VL)}{l l':List (Nat×Nat)}{a:Act}(E:Env n a env)(K:Kn env kn)(h:Sp tb kn ops n k env l=some (env',l'))(kont:∀ a',Env n a' env'->nP Tryz.prog I ops Q l' a' w):nP Tryz.prog I ops Q l a w:=Vp CN k E K h kont
theorem dw{ops:Array Oper}{Q:Exit->Act->WD->Prop}{w:WD}{a:Act}{os:List Ob}{rs:List Rp}{id:Nat}(ord:List (Nat×Nat))(is js:List Nat)(H:Sep w os rs)(ho:Ju ops ord=true)(hQ:∀ c a w,Q (.panic c) a w->False)(k:∀ w W0,dN (pkl os is) (pkl rs js) W0->Sep w os rs->nP Tryz.prog (dN (pkl os is) (pkl rs js)) ops Q ord a w):(Code.region id ops true).wp Tryz.prog Q a w:=SS qS ord is js H ho hQ k
theorem dwc{ops:Array Oper}{Q:Exit->Act->WD->Prop}{w:WD}{a:Act}{os:List Ob}{rs:List Rp}{id:Nat}(ord:List (Nat×Nat))(is js:List Nat)(H:Sep w os rs)(ho:Mj ops ord=true)(hQ:∀ c a w,Q (.panic c) a w->False)(k:∀ w W0,dN (pkl os is) (pkl rs js) W0->Sep w os rs->nP Tryz.prog (dN (pkl os is) (pkl rs js)) ops Q ord a w):(Code.region id ops true).wp Tryz.prog Q a w:=OE qS ord is js H ho hQ k
theorem pn{ops:Array Oper}{w:WD}{n:Nat}(k:Nat){env env':List (Nat×VL)}{a:Act}(E:Env n a env){l:List Oper}{K:Act->WD->Prop}{R:Exit->Act->WD->Prop}(h:Ez tb [] ops n k env l=some (env',[]))(kont:∀ a',Env n a' env'->K a' w):wpList Tryz.prog ops (Exit.then K R) l a w:=pr k E h λa E=>nt (kont a E)
theorem sp{id:Nat}{y:Code}{Q:Exit->Act->WD->Prop}{w:WD}{n:Nat}(k:Nat){env env':List (Nat×VL)}{a:Act}(E:Env n a env){l l':List Oper}(h:Ez tb [] l.toArray n k env l=some (env',l'))(kont:∀ a',Env n a' env'->wpList Tryz.prog l.toArray (Exit.then (y.wp Tryz.prog Q) Q) l' a' w):(Code.seq (.region id l.toArray false) y).wp Tryz.prog Q a w:=sq (pr k E h kont)
theorem xp{id:Nat}{y:Code}{R:Exit->Act->WD->Prop}{ops:Array Oper}{Q:Exit->Act->WD->Prop}{w:WD}{n:Nat}(k:Nat){env env':List (Nat×VL)}{a:Act}(E:Env n a env){l l':List Oper}(h:Ez tb [] l.toArray n k env l=some (env',l'))(kont:∀ a',Env n a' env'->wpList Tryz.prog l.toArray (Exit.then (y.wp Tryz.prog Q) Q) l' a' w):wpList Tryz.prog ops (Exit.then ((Code.seq (.region id l.toArray false) y).wp Tryz.prog Q) R) [] a w:=nx (pr k E h kont)
theorem dz{ops:Array Oper}{Q:Exit->Act->WD->Prop}{w:WD}{a:Act}{os:List Ob}{rs:List Rp}{id:Nat}(cs:List Nat)(is:List Nat)(H:Sep w os rs)(k:∀ w W0,dN (pkl os is) (pkl rs []) W0->Sep w os rs->nP Tryz.prog (dN (pkl os is) (pkl rs [])) ops Q (HO 0 cs) a w)(ho:Ju ops (HO 0 cs)=true:=by kernel_rfl)(hQ:∀ c a w,Q (.panic c) a w->False:=by exact λ_ _ _ h=>False.elim h.2):(Code.region id ops true).wp Tryz.prog Q a w:=dw _ is [] H ho hQ k
abbrev Cf (f:Nat) (l:List VL) (w:WD) (R:VL->WD->Prop):Prop:=Calls Tryz.prog f l.toArray w (Ret R)
abbrev zT:Type:=Int×Bool
abbrev cR:Type:=List BY
abbrev kN:Type:=List aU
abbrev dO:Type:=List aM
abbrev dL:Type:=List aG
abbrev Hp:Type:=List bE
abbrev Mm:Type:=List w7
abbrev B4:Type:=List bP
abbrev eZ:Type:=List aP
abbrev gY:Type:=List aF
abbrev F7:Type:=List cJ
abbrev Cq:Type:=BY×Bool
abbrev Z4:Type:=List cT
abbrev En:Type:=List ((Int)×Int)
abbrev dY:Type:=List aE
abbrev yA:Type:=(Int)×fJ
abbrev Hq:Type:=aY×Int
abbrev lN:Type:=(Int)×aW
abbrev Hr:Type:=dL×Int
abbrev Cr:Type:=Int×dO
abbrev L2:Type:=cR×Bool
abbrev Vy:Type:=List ((Int×Int)×Int)
abbrev Bg:Type:=gY×Bool
abbrev F8:Type:=List yA
abbrev Hs:Type:=Bool×dY
abbrev kO:Type:=List lN
abbrev Vz:Type:=aW×gY
abbrev Rh:Type:=dL×cR
abbrev Bh:Type:=kN×(List Int)×Bool
abbrev Wb:Type:=dO×dO
abbrev Wc:Type:=dL×dL
abbrev Z5:Type:=eZ×dY
abbrev CO:Type:=aW×kO
abbrev Ri:Type:=Int×BY×BY×Int×cR
abbrev Mn:Type:=aW×eZ×dY
abbrev Ht:Type:=dL×dO×gY
abbrev Wd:Type:=Int×Int×BY×BY×Int×cR
abbrev Xp:Type:=aW×kN×F8
abbrev QW:Type:=dL×Int×BY×BY×Int×cR
abbrev Th:Type:=aW×dL×dO×gY
abbrev QX:Type:=dL×dO×dL×dO
abbrev U1:Type:=aW×eZ×dY×kO
abbrev HS:Type:=dL×dO×Int×BY×BY×Int×cR
abbrev CP:Type:=aW×dL×dO×eZ×dY
abbrev Xq:Type:=aW×dL×dO×eZ×dY×kO
abbrev Ti:Type:=aW×dL×dO×kN×eZ×dY×F8
abbrev CQ:Type:=aW×dL×dO×gY×kN×eZ×dY×kO×F8×kO
end Go.Cb
