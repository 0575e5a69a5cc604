/- The types of the program and the small facts that the walks use. -/
import Derived.Test.YtppeaaolgckfcaaGreatDoorAsm2
import Derived.Test.YtppeaaolgckfcaaGreatDoorProg
set_option linter.unusedVariables false
set_option linter.unusedSimpArgs false
namespace Go.Cb
open Go.Proofs Go.RowKit Tryz
abbrev FAt(a b:Nat)(c:Nat):Prop:=∀ (w:World) (q:Addr),(Instr.fieldAt a (.pointer (some q)) b).run Tryz.prog w= .ok (.pointer (some (q.add c))) w
abbrev sZt(P:Program)(a:Nat):=(P.info? a).map (·.size)
abbrev iNt(P:Program)(a:Nat):=(P.info? a).map (λi=>(i.zero,i.size,i.bytes))
abbrev zRt(P:Program)(a:Nat):=(P.info? a).bind (·.zero)
structure aH where
 Path:BY
 Data:BY
 Version:Int
 Turn:Int
 Owner:Int
 deriving DecidableEq,Inhabited
def aB:Kd aH:=rD (kP kS (kP kS (kP (kI .i64) (kP (kI .i64) (kI .i64))))) λx=>(x.Path,(x.Data,(x.Version,(x.Turn,x.Owner))))
theorem rJ{w:WD}{ok:Nat->Prop}{x:aH}{cs:List VL}(h:aB.R w ok x cs):cs= [.string x.Path,.string x.Data,.int .i64 x.Version,.int .i64 x.Turn,.int .i64 x.Owner]:=by
 obtain ⟨c0,d0,rfl,h0,c1,d1,rfl,h1,c2,d2,rfl,h2,c3,d3,rfl,h3,h4⟩:=h;have e0:c0= [.string x.Path]:=h0;subst e0;have e1:c1= [.string x.Data]:=h1;subst e1;have e2:c2= [.int .i64 x.Version]:=h2;subst e2;have e3:c3= [.int .i64 x.Turn]:=h3;subst e3;have e4:d3= [.int .i64 x.Owner]:=h4;subst e4;rfl
theorem yK{w:WD}{ok:Nat->Prop}{x:aH}:aB.R w ok x [.string x.Path,.string x.Data,.int .i64 x.Version,.int .i64 x.Turn,.int .i64 x.Owner]:=⟨[.string x.Path],_,rfl,rfl,⟨[.string x.Data],_,rfl,rfl,⟨[.int .i64 x.Version],_,rfl,rfl,⟨[.int .i64 x.Turn],_,rfl,rfl,rfl⟩⟩⟩⟩
abbrev nR (x:aH):List VL:=[.string x.Path,.string x.Data,.int .i64 x.Version,.int .i64 x.Turn,.int .i64 x.Owner]
abbrev UO:List VL:=[.string ⟨#[]⟩,.string ⟨#[]⟩,.int .i64 0,.int .i64 0,.int .i64 0]
theorem Uc{w:WD}{ok:Nat->Prop}{q:Addr}{x:aH}(h:(rAt aB q x).p w ok):(rAt kS (q.add 0) x.Path).p w ok:=by
 have h0:(rAt (kP kS (kP kS (kP (kI .i64) (kP (kI .i64) (kI .i64))))) q ((x.Path,(x.Data,(x.Version,(x.Turn,x.Owner)))))).p w ok:=h;have h1:=(Bn h0)
 simp only [show ∀ q:Addr,q.add 0=q from λq=>by simp [Addr.add]];exact h1
theorem Bs{w:WD}{ok:Nat->Prop}{q:Addr}{x:aH}{cs:List VL}(h:(rAw aB q x cs).p w ok):∃ c,(rAw kS (q.add 0) x.Path c).p w ok/\c=(cs.drop 0).take 1:=by
 have h0:(rAw (kP kS (kP kS (kP (kI .i64) (kP (kI .i64) (kI .i64))))) q ((x.Path,(x.Data,(x.Version,(x.Turn,x.Owner))))) cs).p w ok:=h;have hl:cs.length=5:=aB.len h.2.1;have h1:=(L7 h0)
 simp only [show ∀ q:Addr,q.add 0=q from λq=>by simp [Addr.add]];refine ⟨_,h1,?_⟩
 (try simp only [kP,kI,kB,kS,kL,rD,Kd.scalar])
 all_goals (try (apply List.ext_getElem?;intro j;simp [List.getElem?_take,List.getElem?_drop]))
 all_goals (try (intros;(try split);(try omega);(try (rw [List.getElem?_eq_none (by omega)]))))
theorem Ud{w:WD}{ok:Nat->Prop}{q:Addr}{x:aH}{cs:List VL}(h:(rAw aB q x cs).p w ok):∃ c,(rAw kS (q.add 1) x.Data c).p w ok/\c=(cs.drop 1).take 1:=by
 have h0:(rAw (kP kS (kP kS (kP (kI .i64) (kP (kI .i64) (kI .i64))))) q ((x.Path,(x.Data,(x.Version,(x.Turn,x.Owner))))) cs).p w ok:=h;have hl:cs.length=5:=aB.len h.2.1;have h1:=(L7 (uU h0))
 simp only [add_add,kP,kI,kB,kS,kL,rD,Kd.scalar] at h1;refine ⟨_,h1,?_⟩
 (try simp only [kP,kI,kB,kS,kL,rD,Kd.scalar])
 all_goals (try (apply List.ext_getElem?;intro j;simp [List.getElem?_take,List.getElem?_drop]))
 all_goals (try (intros;(try split);(try omega);(try (rw [List.getElem?_eq_none (by omega)]))))
def cZ:iF aB:=⟨λx=>[.string x.Path,.string x.Data,.int .i64 x.Version,.int .i64 x.Turn,.int .i64 x.Owner],rJ,yK⟩
structure aQ where
 Dir:BY
 Next:Int
 deriving DecidableEq,Inhabited
def aC:Kd aQ:=rD (kP kS (kI .i64)) λx=>(x.Dir,x.Next)
theorem tX{w:WD}{ok:Nat->Prop}{x:aQ}{cs:List VL}(h:aC.R w ok x cs):cs= [.string x.Dir,.int .i64 x.Next]:=by
 obtain ⟨c0,d0,rfl,h0,h1⟩:=h;have e0:c0= [.string x.Dir]:=h0;subst e0;have e1:d0= [.int .i64 x.Next]:=h1;subst e1;rfl
theorem uX{w:WD}{ok:Nat->Prop}{x:aQ}:aC.R w ok x [.string x.Dir,.int .i64 x.Next]:=⟨[.string x.Dir],_,rfl,rfl,rfl⟩
theorem Hf{w:WD}{ok:Nat->Prop}{q:Addr}{x:aQ}(h:(rAt aC q x).p w ok):(rAt kS (q.add 0) x.Dir).p w ok:=by
 have h0:(rAt (kP kS (kI .i64)) q ((x.Dir,x.Next))).p w ok:=h;have h1:=(Bn h0)
 simp only [show ∀ q:Addr,q.add 0=q from λq=>by simp [Addr.add]];exact h1
theorem Ue{w:WD}{ok:Nat->Prop}{q:Addr}{x:aQ}{cs:List VL}(h:(rAw aC q x cs).p w ok):∃ c,(rAw kS (q.add 0) x.Dir c).p w ok/\c=(cs.drop 0).take 1:=by
 have h0:(rAw (kP kS (kI .i64)) q ((x.Dir,x.Next)) cs).p w ok:=h;have hl:cs.length=2:=aC.len h.2.1;have h1:=(L7 h0)
 simp only [show ∀ q:Addr,q.add 0=q from λq=>by simp [Addr.add]];refine ⟨_,h1,?_⟩
 (try simp only [kP,kI,kB,kS,kL,rD,Kd.scalar])
 all_goals (try (apply List.ext_getElem?;intro j;simp [List.getElem?_take,List.getElem?_drop]))
 all_goals (try (intros;(try split);(try omega);(try (rw [List.getElem?_eq_none (by omega)]))))
def eE:iF aC:=⟨λx=>[.string x.Dir,.int .i64 x.Next],tX,uX⟩
structure aY where
 Dir:BY
 Txn:Int
 Age:Int
 deriving DecidableEq,Inhabited
def bE:Kd aY:=rD (kP kS (kP (kI .i64) (kI .i64))) λx=>(x.Dir,(x.Txn,x.Age))
theorem Sf{w:WD}{ok:Nat->Prop}{x:aY}{cs:List VL}(h:bE.R w ok x cs):cs= [.string x.Dir,.int .i64 x.Txn,.int .i64 x.Age]:=by
 obtain ⟨c0,d0,rfl,h0,c1,d1,rfl,h1,h2⟩:=h;have e0:c0= [.string x.Dir]:=h0;subst e0;have e1:c1= [.int .i64 x.Txn]:=h1;subst e1;have e2:d1= [.int .i64 x.Age]:=h2;subst e2;rfl
theorem Jx{w:WD}{ok:Nat->Prop}{x:aY}:bE.R w ok x [.string x.Dir,.int .i64 x.Txn,.int .i64 x.Age]:=⟨[.string x.Dir],_,rfl,rfl,⟨[.int .i64 x.Txn],_,rfl,rfl,rfl⟩⟩
abbrev wM (x:aY):List VL:=[.string x.Dir,.int .i64 x.Txn,.int .i64 x.Age]
abbrev UP:List VL:=[.string ⟨#[]⟩,.int .i64 0,.int .i64 0]
theorem Hg{w:WD}{ok:Nat->Prop}{q:Addr}{x:aY}{cs:List VL}(h:(rAw bE q x cs).p w ok):∃ c,(rAw kS (q.add 0) x.Dir c).p w ok/\c=(cs.drop 0).take 1:=by
 have h0:(rAw (kP kS (kP (kI .i64) (kI .i64))) q ((x.Dir,(x.Txn,x.Age))) cs).p w ok:=h;have hl:cs.length=3:=bE.len h.2.1;have h1:=(L7 h0)
 simp only [show ∀ q:Addr,q.add 0=q from λq=>by simp [Addr.add]];refine ⟨_,h1,?_⟩
 (try simp only [kP,kI,kB,kS,kL,rD,Kd.scalar])
 all_goals (try (apply List.ext_getElem?;intro j;simp [List.getElem?_take,List.getElem?_drop]))
 all_goals (try (intros;(try split);(try omega);(try (rw [List.getElem?_eq_none (by omega)]))))
theorem Uf{w:WD}{ok:Nat->Prop}{q:Addr}{x:aY}(h:(rAt bE q x).p w ok):(rAt (kI .i64) (q.add 1) x.Txn).p w ok:=by
 have h0:(rAt (kP kS (kP (kI .i64) (kI .i64))) q ((x.Dir,(x.Txn,x.Age)))).p w ok:=h;have h1:=(Bn (L6 h0))
 simp only [add_add,kP,kI,kB,kS,kL,Kd.scalar] at h1;exact h1
def hF:iF bE:=⟨λx=>[.string x.Dir,.int .i64 x.Txn,.int .i64 x.Age],Sf,Jx⟩
structure aF where
 Prefix:BY
 Epoch:Int
 State:Int
 deriving DecidableEq,Inhabited
def aO:Kd aF:=rD (kP kS (kP (kI .i64) (kI .i64))) λx=>(x.Prefix,(x.Epoch,x.State))
theorem Ee{w:WD}{ok:Nat->Prop}{x:aF}{cs:List VL}(h:aO.R w ok x cs):cs= [.string x.Prefix,.int .i64 x.Epoch,.int .i64 x.State]:=by
 obtain ⟨c0,d0,rfl,h0,c1,d1,rfl,h1,h2⟩:=h;have e0:c0= [.string x.Prefix]:=h0;subst e0;have e1:c1= [.int .i64 x.Epoch]:=h1;subst e1;have e2:d1= [.int .i64 x.State]:=h2;subst e2;rfl
theorem F1{w:WD}{ok:Nat->Prop}{x:aF}:aO.R w ok x [.string x.Prefix,.int .i64 x.Epoch,.int .i64 x.State]:=⟨[.string x.Prefix],_,rfl,rfl,⟨[.int .i64 x.Epoch],_,rfl,rfl,rfl⟩⟩
abbrev sG (x:aF):List VL:=[.string x.Prefix,.int .i64 x.Epoch,.int .i64 x.State]
abbrev AR:List VL:=[.string ⟨#[]⟩,.int .i64 0,.int .i64 0]
theorem Ao{w:WD}{ok:Nat->Prop}{q:Addr}{x:aF}(h:(rAt aO q x).p w ok):(rAt kS (q.add 0) x.Prefix).p w ok:=by
 have h0:(rAt (kP kS (kP (kI .i64) (kI .i64))) q ((x.Prefix,(x.Epoch,x.State)))).p w ok:=h;have h1:=(Bn h0)
 simp only [show ∀ q:Addr,q.add 0=q from λq=>by simp [Addr.add]];exact h1
theorem mS{w:WD}{ok:Nat->Prop}{q:Addr}{x:aF}{cs:List VL}(h:(rAw aO q x cs).p w ok):∃ c,(rAw kS (q.add 0) x.Prefix c).p w ok/\c=(cs.drop 0).take 1:=by
 have h0:(rAw (kP kS (kP (kI .i64) (kI .i64))) q ((x.Prefix,(x.Epoch,x.State))) cs).p w ok:=h;have hl:cs.length=3:=aO.len h.2.1;have h1:=(L7 h0)
 simp only [show ∀ q:Addr,q.add 0=q from λq=>by simp [Addr.add]];refine ⟨_,h1,?_⟩
 (try simp only [kP,kI,kB,kS,kL,rD,Kd.scalar])
 all_goals (try (apply List.ext_getElem?;intro j;simp [List.getElem?_take,List.getElem?_drop]))
 all_goals (try (intros;(try split);(try omega);(try (rw [List.getElem?_eq_none (by omega)]))))
theorem Ap{w:WD}{ok:Nat->Prop}{q:Addr}{x:aF}(h:(rAt aO q x).p w ok):(rAt (kI .i64) (q.add 1) x.Epoch).p w ok:=by
 have h0:(rAt (kP kS (kP (kI .i64) (kI .i64))) q ((x.Prefix,(x.Epoch,x.State)))).p w ok:=h;have h1:=(Bn (L6 h0))
 simp only [add_add,kP,kI,kB,kS,kL,Kd.scalar] at h1;exact h1
theorem Sg{w:WD}{ok:Nat->Prop}{q:Addr}{x:aF}{cs:List VL}(h:(rAw aO q x cs).p w ok):∃ c,(rAw (kI .i64) (q.add 1) x.Epoch c).p w ok/\c=(cs.drop 1).take 1:=by
 have h0:(rAw (kP kS (kP (kI .i64) (kI .i64))) q ((x.Prefix,(x.Epoch,x.State))) cs).p w ok:=h;have hl:cs.length=3:=aO.len h.2.1;have h1:=(L7 (uU h0))
 simp only [add_add,kP,kI,kB,kS,kL,rD,Kd.scalar] at h1;refine ⟨_,h1,?_⟩
 (try simp only [kP,kI,kB,kS,kL,rD,Kd.scalar])
 all_goals (try (apply List.ext_getElem?;intro j;simp [List.getElem?_take,List.getElem?_drop]))
 all_goals (try (intros;(try split);(try omega);(try (rw [List.getElem?_eq_none (by omega)]))))
theorem Aq{w:WD}{ok:Nat->Prop}{q:Addr}{x:aF}(h:(rAt aO q x).p w ok):(rAt (kI .i64) (q.add 2) x.State).p w ok:=by
 have h0:(rAt (kP kS (kP (kI .i64) (kI .i64))) q ((x.Prefix,(x.Epoch,x.State)))).p w ok:=h;have h1:=(L6 (L6 h0))
 simp only [add_add,kP,kI,kB,kS,kL,Kd.scalar] at h1;exact h1
def jO:iF aO:=⟨λx=>[.string x.Prefix,.int .i64 x.Epoch,.int .i64 x.State],Ee,F1⟩
structure bV where
 Num:Int
 Kind:Int
 Path:BY
 Watch:Int
 deriving DecidableEq,Inhabited
def aV:Kd bV:=rD (kP (kI .i64) (kP (kI .i64) (kP kS (kI .i64)))) λx=>(x.Num,(x.Kind,(x.Path,x.Watch)))
theorem X1{w:WD}{ok:Nat->Prop}{x:bV}{cs:List VL}(h:aV.R w ok x cs):cs= [.int .i64 x.Num,.int .i64 x.Kind,.string x.Path,.int .i64 x.Watch]:=by
 obtain ⟨c0,d0,rfl,h0,c1,d1,rfl,h1,c2,d2,rfl,h2,h3⟩:=h;have e0:c0= [.int .i64 x.Num]:=h0;subst e0;have e1:c1= [.int .i64 x.Kind]:=h1;subst e1;have e2:c2= [.string x.Path]:=h2;subst e2;have e3:d2= [.int .i64 x.Watch]:=h3;subst e3;rfl
theorem R1{w:WD}{ok:Nat->Prop}{x:bV}:aV.R w ok x [.int .i64 x.Num,.int .i64 x.Kind,.string x.Path,.int .i64 x.Watch]:=⟨[.int .i64 x.Num],_,rfl,rfl,⟨[.int .i64 x.Kind],_,rfl,rfl,⟨[.string x.Path],_,rfl,rfl,rfl⟩⟩⟩
abbrev Gb (x:bV):List VL:=[.int .i64 x.Num,.int .i64 x.Kind,.string x.Path,.int .i64 x.Watch]
abbrev TZ:List VL:=[.int .i64 0,.int .i64 0,.string ⟨#[]⟩,.int .i64 0]
structure aI where
 Num:Int
 Count:Int
 Events:(List bV)
 deriving DecidableEq,Inhabited
def aL:Kd aI:=rD (kP (kI .i64) (kP (kI .i64) (kL aV))) λx=>(x.Num,(x.Count,x.Events))
theorem eK{w:WD}{ok:Nat->Prop}{x:aI}{cs:List VL}(h:aL.R w ok x cs):∃ v1:VL,cs= [.int .i64 x.Num,.int .i64 x.Count,v1]/\Sl aV w ok v1 x.Events:=by
 obtain ⟨c0,d0,rfl,h0,c1,d1,rfl,h1,h2⟩:=h;have e0:c0= [.int .i64 x.Num]:=h0;subst e0;have e1:c1= [.int .i64 x.Count]:=h1;subst e1;obtain ⟨u0,rfl,g0⟩:=h2;exact ⟨u0,rfl,g0⟩
theorem pN{w:WD}{ok:Nat->Prop}{x:aI}{v1:VL}(g1:Sl aV w ok v1 x.Events):aL.R w ok x [.int .i64 x.Num,.int .i64 x.Count,v1]:=⟨[.int .i64 x.Num],_,rfl,rfl,⟨[.int .i64 x.Count],_,rfl,rfl,⟨_,rfl,g1⟩⟩⟩
theorem lH{w:WD}{ok:Nat->Prop}{x:aI}{v1:VL}(h:aL.R w ok x [.int .i64 x.Num,.int .i64 x.Count,v1]):Sl aV w ok v1 x.Events:=by
 obtain ⟨u0,he,g0⟩:=eK h;cases he;exact g0
abbrev sV (x:aI) (v1:VL):List VL:=[.int .i64 x.Num,.int .i64 x.Count,v1]
theorem Dd{w:WD}{os:List Ob}{rs:List Rp}{x:aI}{cs:List VL}(H:Sep w os (rCs aL cs x::rs)):∃ v1:VL,cs=(sV x v1)/\Sep w os (rSl aV v1 x.Events::rCs aL (sV x v1) x::rs):=by
 obtain ⟨_,hcs⟩:=H.rd (.head _);obtain ⟨u0,rfl,-⟩:=eK hcs;refine ⟨_,rfl,?_⟩;exact (H.derive1 (.head _) (rSl aV u0 x.Events) λok h=>lH h)
theorem Dk{w:WD}{ok:Nat->Prop}{q:Addr}{x:aI}{cs:List VL}(h:(rAw aL q x cs).p w ok):∃ c,(rAw (kI .i64) (q.add 0) x.Num c).p w ok/\c=(cs.drop 0).take 1:=by
 have h0:(rAw (kP (kI .i64) (kP (kI .i64) (kL aV))) q ((x.Num,(x.Count,x.Events))) cs).p w ok:=h;have hl:cs.length=3:=aL.len h.2.1;have h1:=(L7 h0)
 simp only [show ∀ q:Addr,q.add 0=q from λq=>by simp [Addr.add]];refine ⟨_,h1,?_⟩
 (try simp only [kP,kI,kB,kS,kL,rD,Kd.scalar])
 all_goals (try (apply List.ext_getElem?;intro j;simp [List.getElem?_take,List.getElem?_drop]))
 all_goals (try (intros;(try split);(try omega);(try (rw [List.getElem?_eq_none (by omega)]))))
structure aR where
 Session:Int
 Num:Int
 Path:BY
 Deep:Bool
 deriving DecidableEq,Inhabited
def aT:Kd aR:=rD (kP (kI .i64) (kP (kI .i64) (kP kS kB))) λx=>(x.Session,(x.Num,(x.Path,x.Deep)))
theorem Ef{w:WD}{ok:Nat->Prop}{x:aR}{cs:List VL}(h:aT.R w ok x cs):cs= [.int .i64 x.Session,.int .i64 x.Num,.string x.Path,.bool x.Deep]:=by
 obtain ⟨c0,d0,rfl,h0,c1,d1,rfl,h1,c2,d2,rfl,h2,h3⟩:=h;have e0:c0= [.int .i64 x.Session]:=h0;subst e0;have e1:c1= [.int .i64 x.Num]:=h1;subst e1;have e2:c2= [.string x.Path]:=h2;subst e2;have e3:d2= [.bool x.Deep]:=h3;subst e3;rfl
theorem Bt{w:WD}{ok:Nat->Prop}{x:aR}:aT.R w ok x [.int .i64 x.Session,.int .i64 x.Num,.string x.Path,.bool x.Deep]:=⟨[.int .i64 x.Session],_,rfl,rfl,⟨[.int .i64 x.Num],_,rfl,rfl,⟨[.string x.Path],_,rfl,rfl,rfl⟩⟩⟩
abbrev eN (x:aR):List VL:=[.int .i64 x.Session,.int .i64 x.Num,.string x.Path,.bool x.Deep]
abbrev UA:List VL:=[.int .i64 0,.int .i64 0,.string ⟨#[]⟩,.bool false]
def nT:iF aT:=⟨λx=>[.int .i64 x.Session,.int .i64 x.Num,.string x.Path,.bool x.Deep],Ef,Bt⟩
structure aG where
 Nodes:(List aH)
 Turns:(List aQ)
 deriving DecidableEq,Inhabited
def qB:Kd aG:=rD (kP (kL aB) (kL aC)) λx=>(x.Nodes,x.Turns)
theorem X2{w:WD}{ok:Nat->Prop}{x:aG}{cs:List VL}(h:qB.R w ok x cs):∃ v1 v2:VL,cs= [v1,v2]/\Sl aB w ok v1 x.Nodes/\Sl aC w ok v2 x.Turns:=by
 obtain ⟨c0,d0,rfl,h0,h1⟩:=h;obtain ⟨u0,rfl,g0⟩:=h0;obtain ⟨u1,rfl,g1⟩:=h1;exact ⟨u0,u1,rfl,g0,g1⟩
theorem Ug{w:WD}{ok:Nat->Prop}{x:aG}{v1:VL}{v2:VL}(g1:Sl aB w ok v1 x.Nodes)(g2:Sl aC w ok v2 x.Turns):qB.R w ok x [v1,v2]:=⟨[v1],_,rfl,⟨_,rfl,g1⟩,⟨_,rfl,g2⟩⟩
theorem aZ{w:WD}{os:List Ob}{rs:List Rp}{v1:VL}{yv1:List aH}{v2:VL}{yv2:List aQ}(H:Sep w os rs)(hv1:rSl aB v1 yv1 ∈ rs)(hv2:rSl aC v2 yv2 ∈ rs):[v1,v2].all (·.oneCell')=true:=by
 obtain ⟨_,_,rfl⟩:=H.slform hv1;obtain ⟨_,_,rfl⟩:=H.slform hv2;rfl
theorem Si{w:WD}{ok:Nat->Prop}{q:Addr}{x:aG}{cs:List VL}(h:(rAw qB q x cs).p w ok):∃ c,(rAw (kL aB) (q.add 0) x.Nodes c).p w ok/\c=(cs.drop 0).take 1:=by
 have h0:(rAw (kP (kL aB) (kL aC)) q ((x.Nodes,x.Turns)) cs).p w ok:=h;have hl:cs.length=2:=qB.len h.2.1;have h1:=(L7 h0)
 simp only [show ∀ q:Addr,q.add 0=q from λq=>by simp [Addr.add]];refine ⟨_,h1,?_⟩
 (try simp only [kP,kI,kB,kS,kL,rD,Kd.scalar])
 all_goals (try (apply List.ext_getElem?;intro j;simp [List.getElem?_take,List.getElem?_drop]))
 all_goals (try (intros;(try split);(try omega);(try (rw [List.getElem?_eq_none (by omega)]))))
structure bL where
 Kind:Int
 Dir:BY
 Path:BY
 Data:BY
 Version:Int
 Owner:Int
 Turns:Bool
 deriving DecidableEq,Inhabited
def dC:Kd bL:=rD (kP (kI .i64) (kP kS (kP kS (kP kS (kP (kI .i64) (kP (kI .i64) kB)))))) λx=>(x.Kind,(x.Dir,(x.Path,(x.Data,(x.Version,(x.Owner,x.Turns))))))
theorem Fl{w:WD}{ok:Nat->Prop}{x:bL}{cs:List VL}(h:dC.R w ok x cs):cs= [.int .i64 x.Kind,.string x.Dir,.string x.Path,.string x.Data,.int .i64 x.Version,.int .i64 x.Owner,.bool x.Turns]:=by
 obtain ⟨c0,d0,rfl,h0,c1,d1,rfl,h1,c2,d2,rfl,h2,c3,d3,rfl,h3,c4,d4,rfl,h4,c5,d5,rfl,h5,h6⟩:=h;have e0:c0= [.int .i64 x.Kind]:=h0;subst e0;have e1:c1= [.string x.Dir]:=h1;subst e1;have e2:c2= [.string x.Path]:=h2;subst e2;have e3:c3= [.string x.Data]:=h3;subst e3;have e4:c4= [.int .i64 x.Version]:=h4;subst e4;have e5:c5= [.int .i64 x.Owner]:=h5;subst e5;have e6:d5= [.bool x.Turns]:=h6;subst e6;rfl
theorem lC{w:WD}{ok:Nat->Prop}{x:bL}:dC.R w ok x [.int .i64 x.Kind,.string x.Dir,.string x.Path,.string x.Data,.int .i64 x.Version,.int .i64 x.Owner,.bool x.Turns]:=⟨[.int .i64 x.Kind],_,rfl,rfl,⟨[.string x.Dir],_,rfl,rfl,⟨[.string x.Path],_,rfl,rfl,⟨[.string x.Data],_,rfl,rfl,⟨[.int .i64 x.Version],_,rfl,rfl,⟨[.int .i64 x.Owner],_,rfl,rfl,rfl⟩⟩⟩⟩⟩⟩
abbrev cI (x:bL):List VL:=[.int .i64 x.Kind,.string x.Dir,.string x.Path,.string x.Data,.int .i64 x.Version,.int .i64 x.Owner,.bool x.Turns]
abbrev UQ:List VL:=[.int .i64 0,.string ⟨#[]⟩,.string ⟨#[]⟩,.string ⟨#[]⟩,.int .i64 0,.int .i64 0,.bool false]
structure dE where
 Op:Int
 Part:bL
 deriving DecidableEq,Inhabited
def bU:Kd dE:=rD (kP (kI .i64) dC) λx=>(x.Op,x.Part)
theorem Qd{w:WD}{ok:Nat->Prop}{x:dE}{cs:List VL}(h:bU.R w ok x cs):cs= [.int .i64 x.Op,.int .i64 x.Part.Kind,.string x.Part.Dir,.string x.Part.Path,.string x.Part.Data,.int .i64 x.Part.Version,.int .i64 x.Part.Owner,.bool x.Part.Turns]:=by
 obtain ⟨c0,d0,rfl,h0,h1⟩:=h;have e0:c0= [.int .i64 x.Op]:=h0;subst e0;obtain ⟨rfl⟩:=Fl h1;rfl
theorem Hh{w:WD}{ok:Nat->Prop}{x:dE}:bU.R w ok x [.int .i64 x.Op,.int .i64 x.Part.Kind,.string x.Part.Dir,.string x.Part.Path,.string x.Part.Data,.int .i64 x.Part.Version,.int .i64 x.Part.Owner,.bool x.Part.Turns]:=⟨[.int .i64 x.Op],_,rfl,rfl,lC⟩
abbrev Pj (x:dE):List VL:=[.int .i64 x.Op,.int .i64 x.Part.Kind,.string x.Part.Dir,.string x.Part.Path,.string x.Part.Data,.int .i64 x.Part.Version,.int .i64 x.Part.Owner,.bool x.Part.Turns]
abbrev UB:List VL:=[.int .i64 0,.int .i64 0,.string ⟨#[]⟩,.string ⟨#[]⟩,.string ⟨#[]⟩,.int .i64 0,.int .i64 0,.bool false]
theorem Sj{w:WD}{ok:Nat->Prop}{q:Addr}{x:dE}(h:(rAt bU q x).p w ok):(rAt dC (q.add 1) x.Part).p w ok:=by
 have h0:(rAt (kP (kI .i64) dC) q ((x.Op,x.Part))).p w ok:=h;have h1:=(L6 h0)
 simp only [add_add,kP,kI,kB,kS,kL,Kd.scalar,dC] at h1;exact h1
structure aK where
 Kind:Int
 Id:Int
 Txn:Int
 Age:Int
 Yes:Bool
 Pieces:(List dE)
 Prefix:BY
 Epoch:Int
 To:Int
 Store:aG
 Gone:(List BY)
 Watch:aR
 deriving DecidableEq,Inhabited
def qC:Kd aK:=rD (kP (kI .i64) (kP (kI .i64) (kP (kI .i64) (kP (kI .i64) (kP kB (kP (kL bU) (kP kS (kP (kI .i64) (kP (kI .i64) (kP qB (kP (kL kS) aT))))))))))) λx=>(x.Kind,(x.Id,(x.Txn,(x.Age,(x.Yes,(x.Pieces,(x.Prefix,(x.Epoch,(x.To,(x.Store,(x.Gone,x.Watch)))))))))))
theorem xC{w:WD}{ok:Nat->Prop}{x:aK}{cs:List VL}(h:qC.R w ok x cs):∃ v1 v2 v3 v4:VL,cs= [.int .i64 x.Kind,.int .i64 x.Id,.int .i64 x.Txn,.int .i64 x.Age,.bool x.Yes,v1,.string x.Prefix,.int .i64 x.Epoch,.int .i64 x.To,v2,v3,v4,.int .i64 x.Watch.Session,.int .i64 x.Watch.Num,.string x.Watch.Path,.bool x.Watch.Deep]/\Sl bU w ok v1 x.Pieces/\Sl aB w ok v2 x.Store.Nodes/\Sl aC w ok v3 x.Store.Turns/\Sl kS w ok v4 x.Gone:=by
 obtain ⟨c0,d0,rfl,h0,c1,d1,rfl,h1,c2,d2,rfl,h2,c3,d3,rfl,h3,c4,d4,rfl,h4,c5,d5,rfl,h5,c6,d6,rfl,h6,c7,d7,rfl,h7,c8,d8,rfl,h8,c9,d9,rfl,h9,c10,d10,rfl,h10,h11⟩:=h;have e0:c0= [.int .i64 x.Kind]:=h0;subst e0;have e1:c1= [.int .i64 x.Id]:=h1;subst e1;have e2:c2= [.int .i64 x.Txn]:=h2;subst e2;have e3:c3= [.int .i64 x.Age]:=h3;subst e3;have e4:c4= [.bool x.Yes]:=h4;subst e4;obtain ⟨u0,rfl,g0⟩:=h5;have e6:c6= [.string x.Prefix]:=h6;subst e6;have e7:c7= [.int .i64 x.Epoch]:=h7;subst e7;have e8:c8= [.int .i64 x.To]:=h8;subst e8;obtain ⟨u1,u2,rfl,g1,g2⟩:=X2 h9;obtain ⟨u3,rfl,g3⟩:=h10;obtain ⟨rfl⟩:=Ef h11;exact ⟨u0,u1,u2,u3,rfl,g0,g1,g2,g3⟩
theorem Li{w:WD}{ok:Nat->Prop}{x:aK}{v1 v2 v3 v4:VL}(h:qC.R w ok x [.int .i64 x.Kind,.int .i64 x.Id,.int .i64 x.Txn,.int .i64 x.Age,.bool x.Yes,v1,.string x.Prefix,.int .i64 x.Epoch,.int .i64 x.To,v2,v3,v4,.int .i64 x.Watch.Session,.int .i64 x.Watch.Num,.string x.Watch.Path,.bool x.Watch.Deep]):Sl bU w ok v1 x.Pieces:=by
 obtain ⟨u0,u1,u2,u3,he,g0,g1,g2,g3⟩:=xC h;cases he;exact g0
theorem Lj{w:WD}{ok:Nat->Prop}{x:aK}{v1 v2 v3 v4:VL}(h:qC.R w ok x [.int .i64 x.Kind,.int .i64 x.Id,.int .i64 x.Txn,.int .i64 x.Age,.bool x.Yes,v1,.string x.Prefix,.int .i64 x.Epoch,.int .i64 x.To,v2,v3,v4,.int .i64 x.Watch.Session,.int .i64 x.Watch.Num,.string x.Watch.Path,.bool x.Watch.Deep]):Sl aB w ok v2 x.Store.Nodes:=by
 obtain ⟨u0,u1,u2,u3,he,g0,g1,g2,g3⟩:=xC h;cases he;exact g1
theorem Lk{w:WD}{ok:Nat->Prop}{x:aK}{v1 v2 v3 v4:VL}(h:qC.R w ok x [.int .i64 x.Kind,.int .i64 x.Id,.int .i64 x.Txn,.int .i64 x.Age,.bool x.Yes,v1,.string x.Prefix,.int .i64 x.Epoch,.int .i64 x.To,v2,v3,v4,.int .i64 x.Watch.Session,.int .i64 x.Watch.Num,.string x.Watch.Path,.bool x.Watch.Deep]):Sl aC w ok v3 x.Store.Turns:=by
 obtain ⟨u0,u1,u2,u3,he,g0,g1,g2,g3⟩:=xC h;cases he;exact g2
theorem Ll{w:WD}{ok:Nat->Prop}{x:aK}{v1 v2 v3 v4:VL}(h:qC.R w ok x [.int .i64 x.Kind,.int .i64 x.Id,.int .i64 x.Txn,.int .i64 x.Age,.bool x.Yes,v1,.string x.Prefix,.int .i64 x.Epoch,.int .i64 x.To,v2,v3,v4,.int .i64 x.Watch.Session,.int .i64 x.Watch.Num,.string x.Watch.Path,.bool x.Watch.Deep]):Sl kS w ok v4 x.Gone:=by
 obtain ⟨u0,u1,u2,u3,he,g0,g1,g2,g3⟩:=xC h;cases he;exact g3
abbrev aS (x:aK) (v1:VL) (v2:VL) (v3:VL) (v4:VL):List VL:=[.int .i64 x.Kind,.int .i64 x.Id,.int .i64 x.Txn,.int .i64 x.Age,.bool x.Yes,v1,.string x.Prefix,.int .i64 x.Epoch,.int .i64 x.To,v2,v3,v4,.int .i64 x.Watch.Session,.int .i64 x.Watch.Num,.string x.Watch.Path,.bool x.Watch.Deep]
theorem De{w:WD}{os:List Ob}{rs:List Rp}{x:aK}{cs:List VL}(H:Sep w os (rCs qC cs x::rs)):∃ v1 v2 v3 v4:VL,cs=(aS x v1 v2 v3 v4)/\Sep w os (rSl kS v4 x.Gone::rSl aC v3 x.Store.Turns::rSl aB v2 x.Store.Nodes::rSl bU v1 x.Pieces::rCs qC (aS x v1 v2 v3 v4) x::rs):=by
 obtain ⟨_,hcs⟩:=H.rd (.head _);obtain ⟨u0,u1,u2,u3,rfl,-,-,-,-⟩:=xC hcs;refine ⟨_,_,_,_,rfl,?_⟩;exact ((((H.derive1 (.head _) (rSl bU u0 x.Pieces) λok h=>Li h).derive1 (.tail _ (.head _)) (rSl aB u1 x.Store.Nodes) λok h=>Lj h).derive1 (.tail _ (.tail _ (.head _))) (rSl aC u2 x.Store.Turns) λok h=>Lk h).derive1 (.tail _ (.tail _ (.tail _ (.head _)))) (rSl kS u3 x.Gone) λok h=>Ll h)
theorem Oj{w:WD}{ok:Nat->Prop}{q:Addr}{x:aK}(h:(rAt qC q x).p w ok):(rAt (kI .i64) (q.add 0) x.Kind).p w ok:=by
 have h0:(rAt (kP (kI .i64) (kP (kI .i64) (kP (kI .i64) (kP (kI .i64) (kP kB (kP (kL bU) (kP kS (kP (kI .i64) (kP (kI .i64) (kP qB (kP (kL kS) aT))))))))))) q ((x.Kind,(x.Id,(x.Txn,(x.Age,(x.Yes,(x.Pieces,(x.Prefix,(x.Epoch,(x.To,(x.Store,(x.Gone,x.Watch))))))))))))).p w ok:=h;have h1:=(Bn h0)
 simp only [show ∀ q:Addr,q.add 0=q from λq=>by simp [Addr.add]];exact h1
theorem Ok{w:WD}{ok:Nat->Prop}{q:Addr}{x:aK}{cs:List VL}(h:(rAw qC q x cs).p w ok):∃ c,(rAw (kL bU) (q.add 5) x.Pieces c).p w ok/\c=(cs.drop 5).take 1:=by
 have h0:(rAw (kP (kI .i64) (kP (kI .i64) (kP (kI .i64) (kP (kI .i64) (kP kB (kP (kL bU) (kP kS (kP (kI .i64) (kP (kI .i64) (kP qB (kP (kL kS) aT))))))))))) q ((x.Kind,(x.Id,(x.Txn,(x.Age,(x.Yes,(x.Pieces,(x.Prefix,(x.Epoch,(x.To,(x.Store,(x.Gone,x.Watch)))))))))))) cs).p w ok:=h;have hl:cs.length=16:=qC.len h.2.1;have h1:=(L7 (uU (uU (uU (uU (uU h0))))))
 simp only [add_add,kP,kI,kB,kS,kL,rD,Kd.scalar,qB,aT] at h1;refine ⟨_,h1,?_⟩
 (try simp only [kP,kI,kB,kS,kL,rD,Kd.scalar,qB,aT])
 all_goals (try (apply List.ext_getElem?;intro j;simp [List.getElem?_take,List.getElem?_drop]))
 all_goals (try (intros;(try split);(try omega);(try (rw [List.getElem?_eq_none (by omega)]))))
theorem Ol{w:WD}{ok:Nat->Prop}{q:Addr}{x:aK}{cs:List VL}(h:(rAw qC q x cs).p w ok):∃ c,(rAw qB (q.add 9) x.Store c).p w ok/\c=(cs.drop 9).take 2:=by
 have h0:(rAw (kP (kI .i64) (kP (kI .i64) (kP (kI .i64) (kP (kI .i64) (kP kB (kP (kL bU) (kP kS (kP (kI .i64) (kP (kI .i64) (kP qB (kP (kL kS) aT))))))))))) q ((x.Kind,(x.Id,(x.Txn,(x.Age,(x.Yes,(x.Pieces,(x.Prefix,(x.Epoch,(x.To,(x.Store,(x.Gone,x.Watch)))))))))))) cs).p w ok:=h;have hl:cs.length=16:=qC.len h.2.1;have h1:=(L7 (uU (uU (uU (uU (uU (uU (uU (uU (uU h0))))))))))
 simp only [add_add,kP,kI,kB,kS,kL,rD,Kd.scalar,qB,aT] at h1;refine ⟨_,h1,?_⟩
 (try simp only [kP,kI,kB,kS,kL,rD,Kd.scalar,qB,aT])
 all_goals (try (apply List.ext_getElem?;intro j;simp [List.getElem?_take,List.getElem?_drop]))
 all_goals (try (intros;(try split);(try omega);(try (rw [List.getElem?_eq_none (by omega)]))))
structure dA where
 Err:Int
 Path:BY
 Data:BY
 Version:Int
 Names:(List BY)
 deriving DecidableEq,Inhabited
def bB:Kd dA:=rD (kP (kI .i64) (kP kS (kP kS (kP (kI .i64) (kL kS))))) λx=>(x.Err,(x.Path,(x.Data,(x.Version,x.Names))))
theorem U8{w:WD}{ok:Nat->Prop}{x:dA}{cs:List VL}(h:bB.R w ok x cs):∃ v1:VL,cs= [.int .i64 x.Err,.string x.Path,.string x.Data,.int .i64 x.Version,v1]/\Sl kS w ok v1 x.Names:=by
 obtain ⟨c0,d0,rfl,h0,c1,d1,rfl,h1,c2,d2,rfl,h2,c3,d3,rfl,h3,h4⟩:=h;have e0:c0= [.int .i64 x.Err]:=h0;subst e0;have e1:c1= [.string x.Path]:=h1;subst e1;have e2:c2= [.string x.Data]:=h2;subst e2;have e3:c3= [.int .i64 x.Version]:=h3;subst e3;obtain ⟨u0,rfl,g0⟩:=h4;exact ⟨u0,rfl,g0⟩
theorem Sk{w:WD}{ok:Nat->Prop}{x:dA}{v1:VL}(g1:Sl kS w ok v1 x.Names):bB.R w ok x [.int .i64 x.Err,.string x.Path,.string x.Data,.int .i64 x.Version,v1]:=⟨[.int .i64 x.Err],_,rfl,rfl,⟨[.string x.Path],_,rfl,rfl,⟨[.string x.Data],_,rfl,rfl,⟨[.int .i64 x.Version],_,rfl,rfl,⟨_,rfl,g1⟩⟩⟩⟩⟩
theorem Dl{w:WD}{ok:Nat->Prop}{x:dA}{v1:VL}(h:bB.R w ok x [.int .i64 x.Err,.string x.Path,.string x.Data,.int .i64 x.Version,v1]):Sl kS w ok v1 x.Names:=by
 obtain ⟨u0,he,g0⟩:=U8 h;cases he;exact g0
abbrev Ar (x:dA) (v1:VL):List VL:=[.int .i64 x.Err,.string x.Path,.string x.Data,.int .i64 x.Version,v1]
abbrev Lm:List VL:=[.int .i64 0,.string ⟨#[]⟩,.string ⟨#[]⟩,.int .i64 0,.slice none 0 0]
theorem Uh{w:WD}{os:List Ob}{rs:List Rp}{z0:Int}{z1:BY}{z2:BY}{z3:Int}{v1:VL}{yv1:List BY}(H:Sep w os rs)(hv1:rSl kS v1 yv1 ∈ rs):[.int .i64 z0,.string z1,.string z2,.int .i64 z3,v1].all (·.oneCell')=true:=by
 obtain ⟨_,_,rfl⟩:=H.slform hv1;rfl
theorem Qe{w:WD}{ok:Nat->Prop}{q:Addr}{x:dA}(h:(rAt bB q x).p w ok):(rAt kS (q.add 1) x.Path).p w ok:=by
 have h0:(rAt (kP (kI .i64) (kP kS (kP kS (kP (kI .i64) (kL kS))))) q ((x.Err,(x.Path,(x.Data,(x.Version,x.Names)))))).p w ok:=h;have h1:=(Bn (L6 h0))
 simp only [add_add,kP,kI,kB,kS,kL,Kd.scalar] at h1;exact h1
theorem Qf{w:WD}{ok:Nat->Prop}{q:Addr}{x:dA}(h:(rAt bB q x).p w ok):(rAt (kL kS) (q.add 4) x.Names).p w ok:=by
 have h0:(rAt (kP (kI .i64) (kP kS (kP kS (kP (kI .i64) (kL kS))))) q ((x.Err,(x.Path,(x.Data,(x.Version,x.Names)))))).p w ok:=h;have h1:=(L6 (L6 (L6 (L6 h0))))
 simp only [add_add,kP,kI,kB,kS,kL,Kd.scalar] at h1;exact h1
structure D4 where
 Prefix:BY
 Group:Int
 Epoch:Int
 To:Int
 deriving DecidableEq,Inhabited
def bI:Kd D4:=rD (kP kS (kP (kI .i64) (kP (kI .i64) (kI .i64)))) λx=>(x.Prefix,(x.Group,(x.Epoch,x.To)))
theorem Eg{w:WD}{ok:Nat->Prop}{x:D4}{cs:List VL}(h:bI.R w ok x cs):cs= [.string x.Prefix,.int .i64 x.Group,.int .i64 x.Epoch,.int .i64 x.To]:=by
 obtain ⟨c0,d0,rfl,h0,c1,d1,rfl,h1,c2,d2,rfl,h2,h3⟩:=h;have e0:c0= [.string x.Prefix]:=h0;subst e0;have e1:c1= [.int .i64 x.Group]:=h1;subst e1;have e2:c2= [.int .i64 x.Epoch]:=h2;subst e2;have e3:d2= [.int .i64 x.To]:=h3;subst e3;rfl
structure aX where
 Err:Int
 At:Int
 Yes:Bool
 Epoch:Int
 Results:(List dA)
 Store:aG
 Events:(List bV)
 Mounts:(List D4)
 Wounded:(List Int)
 deriving DecidableEq,Inhabited
def bA:Kd aX:=rD (kP (kI .i64) (kP (kI .i64) (kP kB (kP (kI .i64) (kP (kL bB) (kP qB (kP (kL aV) (kP (kL bI) (kL (kI .i64)))))))))) λx=>(x.Err,(x.At,(x.Yes,(x.Epoch,(x.Results,(x.Store,(x.Events,(x.Mounts,x.Wounded))))))))
theorem oL{w:WD}{ok:Nat->Prop}{x:aX}{cs:List VL}(h:bA.R w ok x cs):∃ v1 v2 v3 v4 v5 v6:VL,cs= [.int .i64 x.Err,.int .i64 x.At,.bool x.Yes,.int .i64 x.Epoch,v1,v2,v3,v4,v5,v6]/\Sl bB w ok v1 x.Results/\Sl aB w ok v2 x.Store.Nodes/\Sl aC w ok v3 x.Store.Turns/\Sl aV w ok v4 x.Events/\Sl bI w ok v5 x.Mounts/\Sl (kI .i64) w ok v6 x.Wounded:=by
 obtain ⟨c0,d0,rfl,h0,c1,d1,rfl,h1,c2,d2,rfl,h2,c3,d3,rfl,h3,c4,d4,rfl,h4,c5,d5,rfl,h5,c6,d6,rfl,h6,c7,d7,rfl,h7,h8⟩:=h;have e0:c0= [.int .i64 x.Err]:=h0;subst e0;have e1:c1= [.int .i64 x.At]:=h1;subst e1;have e2:c2= [.bool x.Yes]:=h2;subst e2;have e3:c3= [.int .i64 x.Epoch]:=h3;subst e3;obtain ⟨u0,rfl,g0⟩:=h4;obtain ⟨u1,u2,rfl,g1,g2⟩:=X2 h5;obtain ⟨u3,rfl,g3⟩:=h6;obtain ⟨u4,rfl,g4⟩:=h7;obtain ⟨u5,rfl,g5⟩:=h8;exact ⟨u0,u1,u2,u3,u4,u5,rfl,g0,g1,g2,g3,g4,g5⟩
theorem tY{w:WD}{ok:Nat->Prop}{x:aX}{v1:VL}{v2:VL}{v3:VL}{v4:VL}{v5:VL}{v6:VL}(g1:Sl bB w ok v1 x.Results)(g2:Sl aB w ok v2 x.Store.Nodes)(g3:Sl aC w ok v3 x.Store.Turns)(g4:Sl aV w ok v4 x.Events)(g5:Sl bI w ok v5 x.Mounts)(g6:Sl (kI .i64) w ok v6 x.Wounded):bA.R w ok x [.int .i64 x.Err,.int .i64 x.At,.bool x.Yes,.int .i64 x.Epoch,v1,v2,v3,v4,v5,v6]:=⟨[.int .i64 x.Err],_,rfl,rfl,⟨[.int .i64 x.At],_,rfl,rfl,⟨[.bool x.Yes],_,rfl,rfl,⟨[.int .i64 x.Epoch],_,rfl,rfl,⟨[v1],_,rfl,⟨_,rfl,g1⟩,⟨[v2,v3],_,rfl,(Ug g2 g3),⟨[v4],_,rfl,⟨_,rfl,g4⟩,⟨[v5],_,rfl,⟨_,rfl,g5⟩,⟨_,rfl,g6⟩⟩⟩⟩⟩⟩⟩⟩⟩
theorem Om{w:WD}{ok:Nat->Prop}{x:aX}{v1 v2 v3 v4 v5 v6:VL}(h:bA.R w ok x [.int .i64 x.Err,.int .i64 x.At,.bool x.Yes,.int .i64 x.Epoch,v1,v2,v3,v4,v5,v6]):Sl bB w ok v1 x.Results:=by
 obtain ⟨u0,u1,u2,u3,u4,u5,he,g0,g1,g2,g3,g4,g5⟩:=oL h;cases he;exact g0
theorem On{w:WD}{ok:Nat->Prop}{x:aX}{v1 v2 v3 v4 v5 v6:VL}(h:bA.R w ok x [.int .i64 x.Err,.int .i64 x.At,.bool x.Yes,.int .i64 x.Epoch,v1,v2,v3,v4,v5,v6]):Sl aB w ok v2 x.Store.Nodes:=by
 obtain ⟨u0,u1,u2,u3,u4,u5,he,g0,g1,g2,g3,g4,g5⟩:=oL h;cases he;exact g1
theorem Oo{w:WD}{ok:Nat->Prop}{x:aX}{v1 v2 v3 v4 v5 v6:VL}(h:bA.R w ok x [.int .i64 x.Err,.int .i64 x.At,.bool x.Yes,.int .i64 x.Epoch,v1,v2,v3,v4,v5,v6]):Sl aC w ok v3 x.Store.Turns:=by
 obtain ⟨u0,u1,u2,u3,u4,u5,he,g0,g1,g2,g3,g4,g5⟩:=oL h;cases he;exact g2
theorem Oq{w:WD}{ok:Nat->Prop}{x:aX}{v1 v2 v3 v4 v5 v6:VL}(h:bA.R w ok x [.int .i64 x.Err,.int .i64 x.At,.bool x.Yes,.int .i64 x.Epoch,v1,v2,v3,v4,v5,v6]):Sl aV w ok v4 x.Events:=by
 obtain ⟨u0,u1,u2,u3,u4,u5,he,g0,g1,g2,g3,g4,g5⟩:=oL h;cases he;exact g3
theorem Ot{w:WD}{ok:Nat->Prop}{x:aX}{v1 v2 v3 v4 v5 v6:VL}(h:bA.R w ok x [.int .i64 x.Err,.int .i64 x.At,.bool x.Yes,.int .i64 x.Epoch,v1,v2,v3,v4,v5,v6]):Sl bI w ok v5 x.Mounts:=by
 obtain ⟨u0,u1,u2,u3,u4,u5,he,g0,g1,g2,g3,g4,g5⟩:=oL h;cases he;exact g4
theorem Ou{w:WD}{ok:Nat->Prop}{x:aX}{v1 v2 v3 v4 v5 v6:VL}(h:bA.R w ok x [.int .i64 x.Err,.int .i64 x.At,.bool x.Yes,.int .i64 x.Epoch,v1,v2,v3,v4,v5,v6]):Sl (kI .i64) w ok v6 x.Wounded:=by
 obtain ⟨u0,u1,u2,u3,u4,u5,he,g0,g1,g2,g3,g4,g5⟩:=oL h;cases he;exact g5
abbrev aU (x:aX) (v1:VL) (v2:VL) (v3:VL) (v4:VL) (v5:VL) (v6:VL):List VL:=[.int .i64 x.Err,.int .i64 x.At,.bool x.Yes,.int .i64 x.Epoch,v1,v2,v3,v4,v5,v6]
abbrev bQ:List VL:=[.int .i64 0,.int .i64 0,.bool false,.int .i64 0,.slice none 0 0,.slice none 0 0,.slice none 0 0,.slice none 0 0,.slice none 0 0,.slice none 0 0]
theorem pO{w:WD}{os:List Ob}{rs:List Rp}{x:aX}{cs:List VL}(H:Sep w os (rCs bA cs x::rs)):∃ v1 v2 v3 v4 v5 v6:VL,cs=(aU x v1 v2 v3 v4 v5 v6)/\Sep w os (rSl (kI .i64) v6 x.Wounded::rSl bI v5 x.Mounts::rSl aV v4 x.Events::rSl aC v3 x.Store.Turns::rSl aB v2 x.Store.Nodes::rSl bB v1 x.Results::rCs bA (aU x v1 v2 v3 v4 v5 v6) x::rs):=by
 obtain ⟨_,hcs⟩:=H.rd (.head _);obtain ⟨u0,u1,u2,u3,u4,u5,rfl,-,-,-,-,-,-⟩:=oL hcs;refine ⟨_,_,_,_,_,_,rfl,?_⟩;exact ((((((H.derive1 (.head _) (rSl bB u0 x.Results) λok h=>Om h).derive1 (.tail _ (.head _)) (rSl aB u1 x.Store.Nodes) λok h=>On h).derive1 (.tail _ (.tail _ (.head _))) (rSl aC u2 x.Store.Turns) λok h=>Oo h).derive1 (.tail _ (.tail _ (.tail _ (.head _)))) (rSl aV u3 x.Events) λok h=>Oq h).derive1 (.tail _ (.tail _ (.tail _ (.tail _ (.head _))))) (rSl bI u4 x.Mounts) λok h=>Ot h).derive1 (.tail _ (.tail _ (.tail _ (.tail _ (.tail _ (.head _)))))) (rSl (kI .i64) u5 x.Wounded) λok h=>Ou h)
theorem bD{w:WD}{os:List Ob}{rs:List Rp}{z0:Int}{z1:Int}{z2:Bool}{z3:Int}{v1:VL}{yv1:List dA}{v2:VL}{yv2:List aH}{v3:VL}{yv3:List aQ}{v4:VL}{yv4:List bV}{v5:VL}{yv5:List D4}{v6:VL}{yv6:List Int}(H:Sep w os rs)(hv1:rSl bB v1 yv1 ∈ rs)(hv2:rSl aB v2 yv2 ∈ rs)(hv3:rSl aC v3 yv3 ∈ rs)(hv4:rSl aV v4 yv4 ∈ rs)(hv5:rSl bI v5 yv5 ∈ rs)(hv6:rSl (kI .i64) v6 yv6 ∈ rs):[.int .i64 z0,.int .i64 z1,.bool z2,.int .i64 z3,v1,v2,v3,v4,v5,v6].all (·.oneCell')=true:=by
 obtain ⟨_,_,rfl⟩:=H.slform hv1;obtain ⟨_,_,rfl⟩:=H.slform hv2;obtain ⟨_,_,rfl⟩:=H.slform hv3;obtain ⟨_,_,rfl⟩:=H.slform hv4;obtain ⟨_,_,rfl⟩:=H.slform hv5;obtain ⟨_,_,rfl⟩:=H.slform hv6;rfl
structure gI where
 over_:Bool
 pieces_:(List dE)
 a_:aX
 deriving DecidableEq,Inhabited
def cH:Kd gI:=rD (kP kB (kP (kL bU) bA)) λx=>(x.over_,(x.pieces_,x.a_))
theorem pP{w:WD}{ok:Nat->Prop}{x:gI}{cs:List VL}(h:cH.R w ok x cs):∃ v1 v2 v3 v4 v5 v6 v7:VL,cs= [.bool x.over_,v1,.int .i64 x.a_.Err,.int .i64 x.a_.At,.bool x.a_.Yes,.int .i64 x.a_.Epoch,v2,v3,v4,v5,v6,v7]/\Sl bU w ok v1 x.pieces_/\Sl bB w ok v2 x.a_.Results/\Sl aB w ok v3 x.a_.Store.Nodes/\Sl aC w ok v4 x.a_.Store.Turns/\Sl aV w ok v5 x.a_.Events/\Sl bI w ok v6 x.a_.Mounts/\Sl (kI .i64) w ok v7 x.a_.Wounded:=by
 obtain ⟨c0,d0,rfl,h0,c1,d1,rfl,h1,h2⟩:=h;have e0:c0= [.bool x.over_]:=h0;subst e0;obtain ⟨u0,rfl,g0⟩:=h1;obtain ⟨u1,u2,u3,u4,u5,u6,rfl,g1,g2,g3,g4,g5,g6⟩:=oL h2;exact ⟨u0,u1,u2,u3,u4,u5,u6,rfl,g0,g1,g2,g3,g4,g5,g6⟩
theorem Bu{w:WD}{ok:Nat->Prop}{x:gI}{v1:VL}{v2:VL}{v3:VL}{v4:VL}{v5:VL}{v6:VL}{v7:VL}(g1:Sl bU w ok v1 x.pieces_)(g2:Sl bB w ok v2 x.a_.Results)(g3:Sl aB w ok v3 x.a_.Store.Nodes)(g4:Sl aC w ok v4 x.a_.Store.Turns)(g5:Sl aV w ok v5 x.a_.Events)(g6:Sl bI w ok v6 x.a_.Mounts)(g7:Sl (kI .i64) w ok v7 x.a_.Wounded):cH.R w ok x [.bool x.over_,v1,.int .i64 x.a_.Err,.int .i64 x.a_.At,.bool x.a_.Yes,.int .i64 x.a_.Epoch,v2,v3,v4,v5,v6,v7]:=⟨[.bool x.over_],_,rfl,rfl,⟨[v1],_,rfl,⟨_,rfl,g1⟩,(tY g2 g3 g4 g5 g6 g7)⟩⟩
theorem Qg{w:WD}{ok:Nat->Prop}{x:gI}{v1 v2 v3 v4 v5 v6 v7:VL}(h:cH.R w ok x [.bool x.over_,v1,.int .i64 x.a_.Err,.int .i64 x.a_.At,.bool x.a_.Yes,.int .i64 x.a_.Epoch,v2,v3,v4,v5,v6,v7]):Sl bU w ok v1 x.pieces_:=by
 obtain ⟨u0,u1,u2,u3,u4,u5,u6,he,g0,g1,g2,g3,g4,g5,g6⟩:=pP h;cases he;exact g0
theorem Qh{w:WD}{ok:Nat->Prop}{x:gI}{v1 v2 v3 v4 v5 v6 v7:VL}(h:cH.R w ok x [.bool x.over_,v1,.int .i64 x.a_.Err,.int .i64 x.a_.At,.bool x.a_.Yes,.int .i64 x.a_.Epoch,v2,v3,v4,v5,v6,v7]):Sl bB w ok v2 x.a_.Results:=by
 obtain ⟨u0,u1,u2,u3,u4,u5,u6,he,g0,g1,g2,g3,g4,g5,g6⟩:=pP h;cases he;exact g1
theorem Qi{w:WD}{ok:Nat->Prop}{x:gI}{v1 v2 v3 v4 v5 v6 v7:VL}(h:cH.R w ok x [.bool x.over_,v1,.int .i64 x.a_.Err,.int .i64 x.a_.At,.bool x.a_.Yes,.int .i64 x.a_.Epoch,v2,v3,v4,v5,v6,v7]):Sl aB w ok v3 x.a_.Store.Nodes:=by
 obtain ⟨u0,u1,u2,u3,u4,u5,u6,he,g0,g1,g2,g3,g4,g5,g6⟩:=pP h;cases he;exact g2
theorem Qj{w:WD}{ok:Nat->Prop}{x:gI}{v1 v2 v3 v4 v5 v6 v7:VL}(h:cH.R w ok x [.bool x.over_,v1,.int .i64 x.a_.Err,.int .i64 x.a_.At,.bool x.a_.Yes,.int .i64 x.a_.Epoch,v2,v3,v4,v5,v6,v7]):Sl aC w ok v4 x.a_.Store.Turns:=by
 obtain ⟨u0,u1,u2,u3,u4,u5,u6,he,g0,g1,g2,g3,g4,g5,g6⟩:=pP h;cases he;exact g3
theorem Qk{w:WD}{ok:Nat->Prop}{x:gI}{v1 v2 v3 v4 v5 v6 v7:VL}(h:cH.R w ok x [.bool x.over_,v1,.int .i64 x.a_.Err,.int .i64 x.a_.At,.bool x.a_.Yes,.int .i64 x.a_.Epoch,v2,v3,v4,v5,v6,v7]):Sl aV w ok v5 x.a_.Events:=by
 obtain ⟨u0,u1,u2,u3,u4,u5,u6,he,g0,g1,g2,g3,g4,g5,g6⟩:=pP h;cases he;exact g4
theorem Ql{w:WD}{ok:Nat->Prop}{x:gI}{v1 v2 v3 v4 v5 v6 v7:VL}(h:cH.R w ok x [.bool x.over_,v1,.int .i64 x.a_.Err,.int .i64 x.a_.At,.bool x.a_.Yes,.int .i64 x.a_.Epoch,v2,v3,v4,v5,v6,v7]):Sl bI w ok v6 x.a_.Mounts:=by
 obtain ⟨u0,u1,u2,u3,u4,u5,u6,he,g0,g1,g2,g3,g4,g5,g6⟩:=pP h;cases he;exact g5
theorem Qm{w:WD}{ok:Nat->Prop}{x:gI}{v1 v2 v3 v4 v5 v6 v7:VL}(h:cH.R w ok x [.bool x.over_,v1,.int .i64 x.a_.Err,.int .i64 x.a_.At,.bool x.a_.Yes,.int .i64 x.a_.Epoch,v2,v3,v4,v5,v6,v7]):Sl (kI .i64) w ok v7 x.a_.Wounded:=by
 obtain ⟨u0,u1,u2,u3,u4,u5,u6,he,g0,g1,g2,g3,g4,g5,g6⟩:=pP h;cases he;exact g6
abbrev Pk (x:gI) (v1:VL) (v2:VL) (v3:VL) (v4:VL) (v5:VL) (v6:VL) (v7:VL):List VL:=[.bool x.over_,v1,.int .i64 x.a_.Err,.int .i64 x.a_.At,.bool x.a_.Yes,.int .i64 x.a_.Epoch,v2,v3,v4,v5,v6,v7]
abbrev UC:List VL:=[.bool false,.slice none 0 0,.int .i64 0,.int .i64 0,.bool false,.int .i64 0,.slice none 0 0,.slice none 0 0,.slice none 0 0,.slice none 0 0,.slice none 0 0,.slice none 0 0]
theorem Cj{w:WD}{os:List Ob}{rs:List Rp}{x:gI}{cs:List VL}(H:Sep w os (rCs cH cs x::rs)):∃ v1 v2 v3 v4 v5 v6 v7:VL,cs=(Pk x v1 v2 v3 v4 v5 v6 v7)/\Sep w os (rSl (kI .i64) v7 x.a_.Wounded::rSl bI v6 x.a_.Mounts::rSl aV v5 x.a_.Events::rSl aC v4 x.a_.Store.Turns::rSl aB v3 x.a_.Store.Nodes::rSl bB v2 x.a_.Results::rSl bU v1 x.pieces_::rCs cH (Pk x v1 v2 v3 v4 v5 v6 v7) x::rs):=by
 obtain ⟨_,hcs⟩:=H.rd (.head _);obtain ⟨u0,u1,u2,u3,u4,u5,u6,rfl,-,-,-,-,-,-,-⟩:=pP hcs;refine ⟨_,_,_,_,_,_,_,rfl,?_⟩;exact (((((((H.derive1 (.head _) (rSl bU u0 x.pieces_) λok h=>Qg h).derive1 (.tail _ (.head _)) (rSl bB u1 x.a_.Results) λok h=>Qh h).derive1 (.tail _ (.tail _ (.head _))) (rSl aB u2 x.a_.Store.Nodes) λok h=>Qi h).derive1 (.tail _ (.tail _ (.tail _ (.head _)))) (rSl aC u3 x.a_.Store.Turns) λok h=>Qj h).derive1 (.tail _ (.tail _ (.tail _ (.tail _ (.head _))))) (rSl aV u4 x.a_.Events) λok h=>Qk h).derive1 (.tail _ (.tail _ (.tail _ (.tail _ (.tail _ (.head _)))))) (rSl bI u5 x.a_.Mounts) λok h=>Ql h).derive1 (.tail _ (.tail _ (.tail _ (.tail _ (.tail _ (.tail _ (.head _))))))) (rSl (kI .i64) u6 x.a_.Wounded) λok h=>Qm h)
theorem W2{w:WD}{os:List Ob}{rs:List Rp}{z0:Bool}{z1:Int}{z2:Int}{z3:Bool}{z4:Int}{v1:VL}{yv1:List dE}{v2:VL}{yv2:List dA}{v3:VL}{yv3:List aH}{v4:VL}{yv4:List aQ}{v5:VL}{yv5:List bV}{v6:VL}{yv6:List D4}{v7:VL}{yv7:List Int}(H:Sep w os rs)(hv1:rSl bU v1 yv1 ∈ rs)(hv2:rSl bB v2 yv2 ∈ rs)(hv3:rSl aB v3 yv3 ∈ rs)(hv4:rSl aC v4 yv4 ∈ rs)(hv5:rSl aV v5 yv5 ∈ rs)(hv6:rSl bI v6 yv6 ∈ rs)(hv7:rSl (kI .i64) v7 yv7 ∈ rs):[.bool z0,v1,.int .i64 z1,.int .i64 z2,.bool z3,.int .i64 z4,v2,v3,v4,v5,v6,v7].all (·.oneCell')=true:=by
 obtain ⟨_,_,rfl⟩:=H.slform hv1;obtain ⟨_,_,rfl⟩:=H.slform hv2;obtain ⟨_,_,rfl⟩:=H.slform hv3;obtain ⟨_,_,rfl⟩:=H.slform hv4;obtain ⟨_,_,rfl⟩:=H.slform hv5;obtain ⟨_,_,rfl⟩:=H.slform hv6;obtain ⟨_,_,rfl⟩:=H.slform hv7;rfl
structure fO where
 Kind:Int
 Path:BY
 Data:BY
 Version:Int
 Owner:Int
 Turns:Bool
 deriving DecidableEq,Inhabited
def Y9:Kd fO:=rD (kP (kI .i64) (kP kS (kP kS (kP (kI .i64) (kP (kI .i64) kB))))) λx=>(x.Kind,(x.Path,(x.Data,(x.Version,(x.Owner,x.Turns)))))
theorem Wf{w:WD}{ok:Nat->Prop}{x:fO}{cs:List VL}(h:Y9.R w ok x cs):cs= [.int .i64 x.Kind,.string x.Path,.string x.Data,.int .i64 x.Version,.int .i64 x.Owner,.bool x.Turns]:=by
 obtain ⟨c0,d0,rfl,h0,c1,d1,rfl,h1,c2,d2,rfl,h2,c3,d3,rfl,h3,c4,d4,rfl,h4,h5⟩:=h;have e0:c0= [.int .i64 x.Kind]:=h0;subst e0;have e1:c1= [.string x.Path]:=h1;subst e1;have e2:c2= [.string x.Data]:=h2;subst e2;have e3:c3= [.int .i64 x.Version]:=h3;subst e3;have e4:c4= [.int .i64 x.Owner]:=h4;subst e4;have e5:d4= [.bool x.Turns]:=h5;subst e5;rfl
theorem Pm{w:WD}{ok:Nat->Prop}{x:fO}:Y9.R w ok x [.int .i64 x.Kind,.string x.Path,.string x.Data,.int .i64 x.Version,.int .i64 x.Owner,.bool x.Turns]:=⟨[.int .i64 x.Kind],_,rfl,rfl,⟨[.string x.Path],_,rfl,rfl,⟨[.string x.Data],_,rfl,rfl,⟨[.int .i64 x.Version],_,rfl,rfl,⟨[.int .i64 x.Owner],_,rfl,rfl,rfl⟩⟩⟩⟩⟩
abbrev vY (x:fO):List VL:=[.int .i64 x.Kind,.string x.Path,.string x.Data,.int .i64 x.Version,.int .i64 x.Owner,.bool x.Turns]
abbrev VZ:List VL:=[.int .i64 0,.string ⟨#[]⟩,.string ⟨#[]⟩,.int .i64 0,.int .i64 0,.bool false]
def Jy:iF Y9:=⟨λx=>[.int .i64 x.Kind,.string x.Path,.string x.Data,.int .i64 x.Version,.int .i64 x.Owner,.bool x.Turns],Wf,Pm⟩
def Fm:iF dC:=⟨λx=>[.int .i64 x.Kind,.string x.Dir,.string x.Path,.string x.Data,.int .i64 x.Version,.int .i64 x.Owner,.bool x.Turns],Fl,lC⟩
def J2:iF bU:=⟨λx=>[.int .i64 x.Op,.int .i64 x.Part.Kind,.string x.Part.Dir,.string x.Part.Path,.string x.Part.Data,.int .i64 x.Part.Version,.int .i64 x.Part.Owner,.bool x.Part.Turns],Qd,Hh⟩
abbrev AU:aG:=⟨[],[]⟩
abbrev xD:aX:=⟨0,0,false,0,[],AU,[],[],[]⟩
structure bC where
 Watches:(List aR)
 Sessions:(List aI)
 deriving DecidableEq,Inhabited
def PL:Kd bC:=rD (kP (kL aT) (kL aL)) λx=>(x.Watches,x.Sessions)
theorem lI{w:WD}{os:List Ob}{rs:List Rp}{v1:VL}{yv1:List aR}{v2:VL}{yv2:List aI}(H:Sep w os rs)(hv1:rSl aT v1 yv1 ∈ rs)(hv2:rSl aL v2 yv2 ∈ rs):[v1,v2].all (·.oneCell')=true:=by
 obtain ⟨_,_,rfl⟩:=H.slform hv1;obtain ⟨_,_,rfl⟩:=H.slform hv2;rfl
def vZ:iF aV:=⟨λx=>[.int .i64 x.Num,.int .i64 x.Kind,.string x.Path,.int .i64 x.Watch],X1,R1⟩
def MD:iF kS:=⟨λx=>[.string x],λh=>h,rfl⟩
structure AV where
 Store:aG
 r_:dA
 deriving DecidableEq,Inhabited
def UD:Kd AV:=rD (kP qB bB) λx=>(x.Store,x.r_)
abbrev Ck:gI:=⟨false,[],xD⟩
def cfB(P:Program)(f:Nat):Bool:=match P.funcs[f]? with
 | some fn=>!(fn.body.isNone || fn.name == "runtime.NumGoroutine")
 | none=>false
theorem cfA{P:Program}{f:Nat}(h:cfB P f=true):CF P f:=by
 unfold cfB at h;split at h
 ·rename_i fn hf;exact cfo hf (by simpa using h)
 cases h
theorem cf_(f:Nat)(h:cfB Tryz.prog f=true:=by kernel_rfl):CF Tryz.prog f:=cfA h
abbrev U25:=underlying25
theorem bN:sZt Tryz.prog 25=some 2:=by kernel_rfl
theorem QF:FAt 25 0 0:=λw q=>by kernel_rfl
abbrev U22:=underlying22
theorem iL:sZt Tryz.prog 80=some 5:=by kernel_rfl
abbrev U80:=underlying80
theorem QG:FAt 80 3 3:=λw q=>by kernel_rfl
abbrev U2:=underlying2
theorem QH:FAt 80 0 0:=λw q=>by kernel_rfl
abbrev U9:=underlying9
theorem QI:FAt 80 1 1:=λw q=>by kernel_rfl
theorem QJ:FAt 80 2 2:=λw q=>by kernel_rfl
theorem QK:FAt 80 4 4:=λw q=>by kernel_rfl
abbrev U43:=underlying43
theorem QL:∀ (w:WD) (s:BY) (c:Int),(callFunc 281 #[.string s,.int .u8 c]).run Tryz.prog w= .ok (.value (.int .i64 (ixB s c))) w:=λw s c=>Xq func281 (by kernel_rfl) (by kernel_rfl) (by kernel_rfl) (e:=Extern.BytealgIndexByte.indexByte) (by kernel_rfl) (LU s c w)
theorem Yd:iNt Tryz.prog 9=some (some (.string ⟨#[]⟩),1,16):=by kernel_rfl
theorem QM:FAt 25 1 1:=λw q=>by kernel_rfl
abbrev U23:=underlying23
theorem nU:sZt Tryz.prog 71=some 2:=by kernel_rfl
abbrev U71:=underlying71
theorem QN:FAt 71 0 0:=λw q=>by kernel_rfl
theorem QO:FAt 71 1 1:=λw q=>by kernel_rfl
abbrev U26:=underlying26
theorem iA:sZt Tryz.prog 52=some 3:=by kernel_rfl
abbrev U52:=underlying52
theorem Qn:zRt Tryz.prog 52=some (.agg AR.toArray):=by kernel_rfl
theorem QP:FAt 52 0 0:=λw q=>by kernel_rfl
theorem QQ:FAt 52 1 1:=λw q=>by kernel_rfl
theorem QR:FAt 52 2 2:=λw q=>by kernel_rfl
abbrev U3:=underlying3
abbrev U94:=underlying94
theorem Ln:sZt Tryz.prog 93=some 6:=by kernel_rfl
abbrev U93:=underlying93
theorem QS:FAt 93 0 0:=λw q=>by kernel_rfl
theorem QT:FAt 93 1 1:=λw q=>by kernel_rfl
theorem QU:FAt 93 2 2:=λw q=>by kernel_rfl
theorem QV:FAt 93 4 4:=λw q=>by kernel_rfl
theorem QW:FAt 93 3 3:=λw q=>by kernel_rfl
theorem QX:FAt 93 5 5:=λw q=>by kernel_rfl
abbrev U4:=underlying4
theorem UR:zRt Tryz.prog 275=some (.agg #[.int .i64 0,.int .i64 0,.int .i64 0,.int .i64 0,.int .i64 0,.int .i64 0,.int .i64 0,.int .i64 0]):=by kernel_rfl
theorem LE:sZt Tryz.prog 275=some 8:=by kernel_rfl
abbrev QY:=underlying275
theorem sz3:sZt Tryz.prog 3=some 1:=by kernel_rfl
theorem WA:zRt Tryz.prog 93=some (.agg VZ.toArray):=by kernel_rfl
theorem US:zRt Tryz.prog 158=some (.slice none 0 0):=by kernel_rfl
theorem zr9:zRt Tryz.prog 9=some (.string ⟨#[]⟩):=by kernel_rfl
theorem sz9:sZt Tryz.prog 9=some 1:=by kernel_rfl
theorem UT:zRt Tryz.prog 222=some (.nilFunc):=by kernel_rfl
theorem UU:sZt Tryz.prog 222=some 1:=by kernel_rfl
abbrev Ye:=underlying222
theorem Ir:zRt Tryz.prog 144=some (.agg UQ.toArray):=by kernel_rfl
theorem iX:sZt Tryz.prog 144=some 7:=by kernel_rfl
abbrev sX:=underlying144
theorem ME:FAt 144 3 3:=λw q=>by kernel_rfl
theorem MF:FAt 144 5 5:=λw q=>by kernel_rfl
theorem sz2:sZt Tryz.prog 2=some 1:=by kernel_rfl
theorem MG:FAt 144 6 6:=λw q=>by kernel_rfl
theorem sz4:sZt Tryz.prog 4=some 1:=by kernel_rfl
abbrev Yf:=underlying158
theorem QZ:iNt Tryz.prog 144=some (some (.agg #[.int .i64 0,.string ⟨#[]⟩,.string ⟨#[]⟩,.string ⟨#[]⟩,.int .i64 0,.int .i64 0,.bool false]),7,80):=by kernel_rfl
theorem UV:sZt Tryz.prog 158=some 1:=by kernel_rfl
theorem MH:FAt 144 4 4:=λw q=>by kernel_rfl
abbrev U42:=underlying42
theorem RA:iNt Tryz.prog 146=some (some (.agg #[.int .i64 0,.int .i64 0,.string ⟨#[]⟩,.string ⟨#[]⟩,.string ⟨#[]⟩,.int .i64 0,.int .i64 0,.bool false]),8,88):=by kernel_rfl
theorem lJ:zRt Tryz.prog 40=some (.agg bQ.toArray):=by kernel_rfl
theorem WB:zRt Tryz.prog 75=some (.agg #[.nilFunc,.nilFunc,.nilFunc,.nilFunc,.nilFunc,.nilFunc,.nilFunc,.nilFunc,.nilFunc,.nilFunc,.nilFunc]):=by kernel_rfl
theorem WC:sZt Tryz.prog 75=some 11:=by kernel_rfl
abbrev U47:=underlying47
theorem D3:sZt Tryz.prog 47=some 16:=by kernel_rfl
theorem FU:FAt 47 5 5:=λw q=>by kernel_rfl
theorem R2:sZt Tryz.prog 146=some 8:=by kernel_rfl
abbrev DH:=underlying146
theorem Wv:zRt Tryz.prog 146=some (.agg UB.toArray):=by kernel_rfl
theorem MI:FAt 146 0 0:=λw q=>by kernel_rfl
theorem MJ:FAt 146 1 1:=λw q=>by kernel_rfl
theorem MK:FAt 144 2 2:=λw q=>by kernel_rfl
theorem ML:FAt 144 0 0:=λw q=>by kernel_rfl
theorem MM:FAt 144 1 1:=λw q=>by kernel_rfl
theorem MN:FAt 47 10 11:=λw q=>by kernel_rfl
theorem Yg:FAt 47 6 6:=λw q=>by kernel_rfl
theorem RB:FAt 47 0 0:=λw q=>by kernel_rfl
theorem RC:FAt 47 8 8:=λw q=>by kernel_rfl
theorem Lo:FAt 47 1 1:=λw q=>by kernel_rfl
theorem Sn:FAt 47 2 2:=λw q=>by kernel_rfl
theorem RD:FAt 47 3 3:=λw q=>by kernel_rfl
theorem RE:FAt 47 7 7:=λw q=>by kernel_rfl
theorem Ns:FAt 47 11 12:=λw q=>by kernel_rfl
theorem So:FAt 45 0 0:=λw q=>by kernel_rfl
theorem Yh:FAt 45 1 1:=λw q=>by kernel_rfl
abbrev U38:=underlying38
theorem RF:FAt 45 2 2:=λw q=>by kernel_rfl
theorem RG:FAt 47 9 9:=λw q=>by kernel_rfl
theorem cA:sZt Tryz.prog 40=some 10:=by kernel_rfl
abbrev U40:=underlying40
abbrev U75:=underlying75
theorem Gc:sZt Tryz.prog 74=some 1:=by kernel_rfl
abbrev U74:=underlying74
theorem Lp:FAt 69 4 6:=λw q=>by kernel_rfl
abbrev U62:=underlying62
theorem As:zRt Tryz.prog 40=some (.agg [.int .i64 0,.int .i64 0,.bool false,.int .i64 0,.slice none 0 0,.slice none 0 0,.slice none 0 0,.slice none 0 0,.slice none 0 0,.slice none 0 0].toArray):=by kernel_rfl
theorem Eh:∀ (w:WD) (ok:Nat->Prop),bA.R w ok xD [.int .i64 0,.int .i64 0,.bool false,.int .i64 0,.slice none 0 0,.slice none 0 0,.slice none 0 0,.slice none 0 0,.slice none 0 0,.slice none 0 0]:=λw ok=>tY (Sl.nil _ _ _) (Sl.nil _ _ _) (Sl.nil _ _ _) (Sl.nil _ _ _) (Sl.nil _ _ _) (Sl.nil _ _ _)
theorem oA:Tryz.prog.follows .mixedOrders=true:=by kernel_rfl
theorem Yi:FAt 69 3 4:=λw q=>by kernel_rfl
abbrev U67:=underlying67
theorem iB:sZt Tryz.prog 67=some 2:=by kernel_rfl
theorem Is:zRt Tryz.prog 67=some (.agg #[.slice none 0 0,.slice none 0 0]):=by kernel_rfl
theorem FV:FAt 67 0 0:=λw q=>by kernel_rfl
abbrev U64:=underlying64
theorem zQ:sZt Tryz.prog 45=some 4:=by kernel_rfl
abbrev U45:=underlying45
theorem RH:zRt Tryz.prog 45=some (.agg UA.toArray):=by kernel_rfl
theorem Yj:zRt Tryz.prog 3=some (.int .i64 0):=by kernel_rfl
abbrev WE:=underlying263
theorem Hi:E4 Tryz.prog 263 U6:=IM (Maps.Keyed.of_law (deep_law_laid (by kernel_rfl) (m:=3) (by omega) (of_decide_eq_true (by kernel_rfl)) (by kernel_rfl) (by kernel_rfl))) WE U2 U2 (by kernel_rfl) ⟨by kernel_rfl,by kernel_rfl,by kernel_rfl,rfl,rfl⟩ (by kernel_rfl) (by kernel_rfl)
abbrev Qo:=underlying261
theorem FW:FAt 67 1 1:=λw q=>by kernel_rfl
abbrev U65:=underlying65
theorem E5:sZt Tryz.prog 209=some 3:=by kernel_rfl
theorem MO:FAt 209 0 0:=λw q=>by kernel_rfl
abbrev WG:=underlying205
abbrev Ui:=underlying209
abbrev WH:=underlying266
theorem MP:FAt 209 1 1:=λw q=>by kernel_rfl
theorem BR:FAt 209 2 2:=λw q=>by kernel_rfl
abbrev U36:=underlying36
theorem yA:sZt Tryz.prog 156=some 4:=by kernel_rfl
abbrev It:=underlying156
theorem DI:zRt Tryz.prog 156=some (.agg TZ.toArray):=by kernel_rfl
theorem MQ:FAt 156 0 0:=λw q=>by kernel_rfl
theorem MR:FAt 156 1 1:=λw q=>by kernel_rfl
theorem MS:FAt 156 2 2:=λw q=>by kernel_rfl
theorem MT:FAt 156 3 3:=λw q=>by kernel_rfl
theorem RI:iNt Tryz.prog 209=some (some (.agg #[.int .i64 0,.int .i64 0,.slice none 0 0]),3,40):=by kernel_rfl
theorem iE{w:WD}{os:List Ob}{rs:List Rp}{v:VL}{xs:List aI}(H:Sep w os rs)(hm:rSl aL v xs ∈ rs)(hl:xs.length <= LIM) :
  Calls Tryz.prog 153 [v].toArray w (Ret λv' w'=>Sep w' (Row 209 aL v' xs::os) rs):=
 W9 func153 rfl ntmps153 rfl underlying65 RI rfl rfl (λ_=>by kernel_rfl) H hm hl

theorem Yk:sZt Tryz.prog 65=some 1:=by kernel_rfl
theorem Sp:iNt Tryz.prog 156=some (some (.agg #[.int .i64 0,.int .i64 0,.string ⟨#[]⟩,.int .i64 0]),4,40):=by kernel_rfl
theorem gV{w:WD}{os:List Ob}{rs:List Rp}{v:VL}{xs:List bV}(H:Sep w os rs)(hm:rSl aV v xs ∈ rs)(hl:xs.length <= LIM) :
  Calls Tryz.prog 157 [v].toArray w (Ret λv' w'=>Sep w' (Row 156 aV v' xs::os) rs):=
 W9 func157 rfl ntmps157 rfl underlying36 Sp rfl rfl (λ_=>by kernel_rfl) H hm hl

theorem RJ:zRt Tryz.prog 156=some (.agg #[.int .i64 0,.int .i64 0,.string ⟨#[]⟩,.int .i64 0]):=by kernel_rfl
theorem DJ:sZt Tryz.prog 36=some 1:=by kernel_rfl
theorem RK:FAt 40 0 0:=λw q=>by kernel_rfl
abbrev U34:=underlying34
theorem DK:iNt Tryz.prog 45=some (some (.agg #[.int .i64 0,.int .i64 0,.string ⟨#[]⟩,.bool false]),4,40):=by kernel_rfl
theorem jJ{w:WD}{os:List Ob}{rs:List Rp}{v:VL}{xs:List aR}(H:Sep w os rs)(hm:rSl aT v xs ∈ rs)(hl:xs.length <= LIM) :
  Calls Tryz.prog 154 [v].toArray w (Ret λv' w'=>Sep w' (Row 45 aT v' xs::os) rs):=
 W9 func154 rfl ntmps154 rfl underlying64 DK rfl rfl (λ_=>by kernel_rfl) H hm hl

theorem DL:sZt Tryz.prog 64=some 1:=by kernel_rfl
abbrev U29:=underlying29
theorem RL:FAt 69 2 3:=λw q=>by kernel_rfl
abbrev U60:=underlying60
theorem sH:sZt Tryz.prog 97=some 3:=by kernel_rfl
abbrev U97:=underlying97
theorem RM:FAt 97 0 0:=λw q=>by kernel_rfl
theorem RN:FAt 97 1 1:=λw q=>by kernel_rfl
theorem FX:FAt 69 1 2:=λw q=>by kernel_rfl
theorem Sq:FAt 69 0 0:=λw q=>by kernel_rfl
theorem dG:zRt Tryz.prog 25=some (.agg #[.slice none 0 0,.slice none 0 0]):=by kernel_rfl
theorem LF:zRt Tryz.prog 154=some (.agg Lm.toArray):=by kernel_rfl
theorem UW:zRt Tryz.prog 238=some (.agg #[.nilFunc,.nilFunc,.nilFunc,.nilFunc,.nilFunc,.nilFunc,.nilFunc,.nilFunc,.nilFunc,.nilFunc,.nilFunc]):=by kernel_rfl
theorem UX:sZt Tryz.prog 238=some 11:=by kernel_rfl
theorem A9:sZt Tryz.prog 154=some 5:=by kernel_rfl
theorem Nt:iNt Tryz.prog 80=some (some (.agg #[.string ⟨#[]⟩,.string ⟨#[]⟩,.int .i64 0,.int .i64 0,.int .i64 0]),5,56):=by kernel_rfl
theorem wJ{w:WD}{os:List Ob}{rs:List Rp}{v:VL}{xs:List aH}(H:Sep w os rs)(hm:rSl aB v xs ∈ rs)(hl:xs.length <= LIM) :
  Calls Tryz.prog 37 [v].toArray w (Ret λv' w'=>Sep w' (Row 80 aB v' xs::os) rs):=
 W9 func37 rfl ntmps37 rfl underlying22 Nt rfl rfl (λ_=>by kernel_rfl) H hm hl

theorem Nu:iNt Tryz.prog 71=some (some (.agg #[.string ⟨#[]⟩,.int .i64 0]),2,24):=by kernel_rfl
theorem wL{w:WD}{os:List Ob}{rs:List Rp}{v:VL}{xs:List aQ}(H:Sep w os rs)(hm:rSl aC v xs ∈ rs)(hl:xs.length <= LIM) :
  Calls Tryz.prog 38 [v].toArray w (Ret λv' w'=>Sep w' (Row 71 aC v' xs::os) rs):=
 W9 func38 rfl ntmps38 rfl underlying23 Nu rfl rfl (λ_=>by kernel_rfl) H hm hl

abbrev Gd:=underlying238
theorem Cm:sZt Tryz.prog 235=some 1:=by kernel_rfl
abbrev Ge:=underlying235
theorem UY:zRt Tryz.prog 100=some (.nilFunc):=by kernel_rfl
theorem UZ:sZt Tryz.prog 100=some 1:=by kernel_rfl
abbrev DM:=underlying237
theorem MU:FAt 240 0 0:=λw q=>by kernel_rfl
abbrev WI:=underlying100
theorem MV:FAt 240 1 2:=λw q=>by kernel_rfl
theorem MW:FAt 154 4 4:=λw q=>by kernel_rfl
theorem RO:sZt Tryz.prog 43=some 1:=by kernel_rfl
theorem IW:zRt Tryz.prog 80=some (.agg UO.toArray):=by kernel_rfl
theorem VA:zRt Tryz.prog 80=some (.agg #[.string ⟨#[]⟩,.string ⟨#[]⟩,.int .i64 0,.int .i64 0,.int .i64 0]):=by kernel_rfl
theorem Lq:sZt Tryz.prog 22=some 1:=by kernel_rfl
theorem FY:∀ (w:WD) (s t:BY),(callFunc 208 #[.string s,.string t]).run Tryz.prog w= .ok (.value (.int .i64 (Extern.BytealgCompare.cmp s t))) w:=λw s t=>Xq func208 (by kernel_rfl) (by kernel_rfl) (by kernel_rfl) (e:=Extern.BytealgCompare.compare) (by kernel_rfl) (IA s t w)
theorem Sr:∀ (w:WD) (q:Addr),(Op.equal 288 (.pointer (some q)) (.pointer none)).run Tryz.prog w= .ok false w:=λw q=>by kernel_rfl
theorem Ss:∀ w:WD,(Op.equal 288 (.pointer none) (.pointer none)).run Tryz.prog w= .ok true w:=λw=>by kernel_rfl
theorem MX:FAt 154 2 2:=λw q=>by kernel_rfl
theorem MY:FAt 154 3 3:=λw q=>by kernel_rfl
theorem Ei:sZt Tryz.prog 23=some 1:=by kernel_rfl
theorem MZ:FAt 154 1 1:=λw q=>by kernel_rfl
theorem NA:FAt 154 0 0:=λw q=>by kernel_rfl
abbrev Lr:=underlying154
abbrev U35:=underlying35
theorem RP:iNt Tryz.prog 154=some (some (.agg #[.int .i64 0,.string ⟨#[]⟩,.string ⟨#[]⟩,.int .i64 0,.slice none 0 0]),5,72):=by kernel_rfl
theorem RQ:FAt 45 3 3:=λw q=>by kernel_rfl
theorem VB:zRt Tryz.prog 45=some (.agg #[.int .i64 0,.int .i64 0,.string ⟨#[]⟩,.bool false]):=by kernel_rfl
theorem VC:iNt Tryz.prog 52=some (some (.agg #[.string ⟨#[]⟩,.int .i64 0,.int .i64 0]),3,32):=by kernel_rfl
theorem uY{w:WD}{os:List Ob}{rs:List Rp}{v:VL}{xs:List aF}(H:Sep w os rs)(hm:rSl aO v xs ∈ rs)(hl:xs.length <= LIM) :
  Calls Tryz.prog 40 [v].toArray w (Ret λv' w'=>Sep w' (Row 52 aO v' xs::os) rs):=
 W9 func40 rfl ntmps40 rfl underlying26 VC rfl rfl (λ_=>by kernel_rfl) H hm hl

theorem VD:zRt Tryz.prog 102=some (.nilFunc):=by kernel_rfl
theorem VE:sZt Tryz.prog 102=some 1:=by kernel_rfl
abbrev RS:=underlying102
theorem RT:zRt Tryz.prog 71=some (.agg #[.string (ByteArray.mk #[]),.int .i64 0]):=by kernel_rfl
theorem IX:sZt Tryz.prog 26=some 1:=by kernel_rfl
theorem FZ:FAt 69 6 8:=λw q=>by kernel_rfl
theorem RU:FAt 47 4 4:=λw q=>by kernel_rfl
theorem Ym:FAt 69 5 7:=λw q=>by kernel_rfl
abbrev U63:=underlying63
theorem St:zRt Tryz.prog 117=some (.agg [.bool false,.slice none 0 0,.int .i64 0,.int .i64 0,.bool false,.int .i64 0,.slice none 0 0,.slice none 0 0,.slice none 0 0,.slice none 0 0,.slice none 0 0,.slice none 0 0].toArray):=by kernel_rfl
theorem Ww:∀ (w:WD) (ok:Nat->Prop),cH.R w ok Ck [.bool false,.slice none 0 0,.int .i64 0,.int .i64 0,.bool false,.int .i64 0,.slice none 0 0,.slice none 0 0,.slice none 0 0,.slice none 0 0,.slice none 0 0,.slice none 0 0]:=λw ok=>Bu (Sl.nil _ _ _) (Sl.nil _ _ _) (Sl.nil _ _ _) (Sl.nil _ _ _) (Sl.nil _ _ _) (Sl.nil _ _ _) (Sl.nil _ _ _)
theorem Wx:zRt Tryz.prog 117=some (.agg UC.toArray):=by kernel_rfl
theorem Wy:sZt Tryz.prog 117=some 12:=by kernel_rfl
theorem NB:FAt 117 0 0:=λw q=>by kernel_rfl
theorem VF:iNt Tryz.prog 97=some (some (.agg #[.string ⟨#[]⟩,.int .i64 0,.int .i64 0]),3,32):=by kernel_rfl
theorem oX{w:WD}{os:List Ob}{rs:List Rp}{v:VL}{xs:List aY}(H:Sep w os rs)(hm:rSl bE v xs ∈ rs)(hl:xs.length <= LIM) :
  Calls Tryz.prog 50 [v].toArray w (Ret λv' w'=>Sep w' (Row 97 bE v' xs::os) rs):=
 W9 func50 rfl ntmps50 rfl underlying60 VF rfl rfl (λ_=>by kernel_rfl) H hm hl

theorem IY:zRt Tryz.prog 97=some (.agg UP.toArray):=by kernel_rfl
theorem VG:zRt Tryz.prog 97=some (.agg #[.string ⟨#[]⟩,.int .i64 0,.int .i64 0]):=by kernel_rfl
theorem RW:sZt Tryz.prog 60=some 1:=by kernel_rfl
theorem NC:FAt 117 2 2:=λw q=>by kernel_rfl
theorem RX:FAt 40 2 2:=λw q=>by kernel_rfl
theorem ND:FAt 117 1 1:=λw q=>by kernel_rfl
theorem RY:FAt 97 2 2:=λw q=>by kernel_rfl
theorem WJ:zRt Tryz.prog 2=some (.int .i64 0):=by kernel_rfl
abbrev RZ:=underlying226
abbrev SC:=underlying174
theorem SD:FAt 40 4 4:=λw q=>by kernel_rfl
theorem SE:FAt 40 3 3:=λw q=>by kernel_rfl
theorem SF:FAt 40 5 5:=λw q=>by kernel_rfl
abbrev U27:=underlying27
theorem SG:FAt 40 1 1:=λw q=>by kernel_rfl
theorem SH:FAt 40 7 8:=λw q=>by kernel_rfl
abbrev U37:=underlying37
theorem DN:sZt Tryz.prog 85=some 4:=by kernel_rfl
abbrev U85:=underlying85
theorem VH:Tryz.prog.stoodInHeld 85=false:=by kernel_rfl
theorem VI:Tryz.prog.eqGuardType Tryz.prog.depth 85=false:=by kernel_rfl
theorem VJ:Tryz.prog.stoodInHeld 80=false:=by kernel_rfl
theorem VK:Tryz.prog.eqGuardType Tryz.prog.depth 80=false:=by kernel_rfl
theorem VM:Tryz.prog.stoodInHeld 71=false:=by kernel_rfl
theorem VN:Tryz.prog.eqGuardType Tryz.prog.depth 71=false:=by kernel_rfl
theorem SJ:FAt 40 6 7:=λw q=>by kernel_rfl
theorem SK:Tryz.prog.stoodInHeld 156=false:=by kernel_rfl
theorem SL:Tryz.prog.eqGuardType Tryz.prog.depth 156=false:=by kernel_rfl
theorem SM:FAt 40 8 9:=λw q=>by kernel_rfl
def tb:Tb:=⟨[(25,0,0),(25,1,1),(40,0,0),(40,1,1),(40,2,2),(40,3,3),(40,4,4),(40,5,5),(40,6,7),(40,7,8),(40,8,9),(45,0,0),(45,1,1),(45,2,2),(45,3,3),(47,0,0),(47,1,1),(47,2,2),(47,3,3),(47,4,4),(47,5,5),(47,6,6),(47,7,7),(47,8,8),(47,9,9),(47,10,11),(47,11,12),(52,0,0),(52,1,1),(52,2,2),(67,0,0),(67,1,1),(69,0,0),(69,1,2),(69,2,3),(69,3,4),(69,4,6),(69,5,7),(69,6,8),(71,0,0),(71,1,1),(80,0,0),(80,1,1),(80,2,2),(80,3,3),(80,4,4),(93,0,0),(93,1,1),(93,2,2),(93,3,3),(93,4,4),(93,5,5),(97,0,0),(97,1,1),(97,2,2),(117,0,0),(117,1,1),(117,2,2),(144,0,0),(144,1,1),(144,2,2),(144,3,3),(144,4,4),(144,5,5),(144,6,6),(146,0,0),(146,1,1),(154,0,0),(154,1,1),(154,2,2),(154,3,3),(154,4,4),(156,0,0),(156,1,1),(156,2,2),(156,3,3),(209,0,0),(209,1,1),(209,2,2),(240,0,0),(240,1,2)],[(3,202,.u64),(21,5,.u8),(202,3,.i64)],[9]⟩
theorem DO:DB Tryz.prog tb:=⟨⟨QF,QM,RK,SG,RX,SE,SD,SF,SJ,SH,SM,So,Yh,RF,RQ,RB,Lo,Sn,RD,RU,FU,Yg,RE,RC,RG,MN,Ns,QP,QQ,QR,FV,FW,Sq,FX,RL,Yi,Lp,Ym,FZ,QN,QO,QH,QI,QJ,QG,QK,QS,QT,QU,QW,QV,QX,RM,RN,RY,NB,ND,NC,ML,MM,MK,ME,MH,MF,MG,MI,MJ,NA,MZ,MX,MY,MW,MQ,MR,MS,MT,MO,MP,BR,MU,MV,trivial⟩,⟨λ_ _ _=>by kernel_rfl,λ_ _ _=>by kernel_rfl,λ_ _ _=>by kernel_rfl,trivial⟩,⟨U9,trivial⟩⟩
theorem pr{ops:Array Oper}{Q:Exit->Act->WD->Prop}{w:WD}{n:Nat}(k:Nat){env env':List (Nat×VL)}{l l':List Oper}{a:Act}(E:Env n a env)(h:Ga tb [] ops n k env l=some (env',l'))(kont:∀ a',Env n a' env'->wpList Tryz.prog ops Q l' a' w):wpList Tryz.prog ops Q l a w:=Rv DO k E (kn0 _) h kont
theorem pk{ops:Array Oper}{Q:Exit->Act->WD->Prop}{w:WD}{n:Nat}{kn:List (Nat×Bool)}(k:Nat){env env':List (Nat×VL)}{l l':List Oper}{a:Act}(E:Env n a env)(K:Kn env kn)(h:Ga tb kn ops n k env l=some (env',l'))(kont:∀ a',Env n a' env'->wpList Tryz.prog ops Q l' a' w):wpList Tryz.prog ops Q l a w:=Rv DO k E K h kont
theorem fn{ops:Array Oper}{Q:Exit->Act->WD->Prop}{w:WD}{n:Nat}{I:WD->Prop}(k:Nat){env env':List (Nat×VL)}{l l':List (Nat×Nat)}{a:Act}(E:Env n a env)(h:Tx tb [] ops n k env l=some (env',l'))(kont:∀ a',Env n a' env'->oN Tryz.prog I ops Q l' a' w):oN Tryz.prog I ops Q l a w:=Wq DO k E (kn0 _) h kont
theorem fk{ops:Array Oper}{Q:Exit->Act->WD->Prop}{w:WD}{n:Nat}{kn:List (Nat×Bool)}{I:WD->Prop}(k:Nat){env env':List (Nat×VL)}{l l':List (Nat×Nat)}{a:Act}(E:Env n a env)(K:Kn env kn)(h:Tx tb kn ops n k env l=some (env',l'))(kont:∀ a',Env n a' env'->oN Tryz.prog I ops Q l' a' w):oN Tryz.prog I ops Q l a w:=Wq DO k E K h kont
theorem dw{ops:Array Oper}{Q:Exit->Act->WD->Prop}{w:WD}{a:Act}{os:List Ob}{rs:List Rp}{id:Nat}(ord:List (Nat×Nat))(is js:List Nat)(H:Sep w os rs)(ho:Kz ops ord=true)(hQ:∀ c a w,Q (.panic c) a w->False)(k:∀ w W0,dL (pkl os is) (pkl rs js) W0->Sep w os rs->oN Tryz.prog (dL (pkl os is) (pkl rs js)) ops Q ord a w):(Code.region id ops true).wp Tryz.prog Q a w:=UM oA ord is js H ho hQ k
theorem dwc{ops:Array Oper}{Q:Exit->Act->WD->Prop}{w:WD}{a:Act}{os:List Ob}{rs:List Rp}{id:Nat}(ord:List (Nat×Nat))(is js:List Nat)(H:Sep w os rs)(ho:Nq ops ord=true)(hQ:∀ c a w,Q (.panic c) a w->False)(k:∀ w W0,dL (pkl os is) (pkl rs js) W0->Sep w os rs->oN Tryz.prog (dL (pkl os is) (pkl rs js)) ops Q ord a w):(Code.region id ops true).wp Tryz.prog Q a w:=PX oA ord is js H ho hQ k
theorem pn{ops:Array Oper}{w:WD}{n:Nat}(k:Nat){env env':List (Nat×VL)}{a:Act}(E:Env n a env){l:List Oper}{K:Act->WD->Prop}{R:Exit->Act->WD->Prop}(h:Ga tb [] ops n k env l=some (env',[]))(kont:∀ a',Env n a' env'->K a' w):wpList Tryz.prog ops (Exit.then K R) l a w:=pr k E h λa E=>nt (kont a E)
theorem sp{id:Nat}{y:Code}{Q:Exit->Act->WD->Prop}{w:WD}{n:Nat}(k:Nat){env env':List (Nat×VL)}{a:Act}(E:Env n a env){l l':List Oper}(h:Ga tb [] l.toArray n k env l=some (env',l'))(kont:∀ a',Env n a' env'->wpList Tryz.prog l.toArray (Exit.then (y.wp Tryz.prog Q) Q) l' a' w):(Code.seq (.region id l.toArray false) y).wp Tryz.prog Q a w:=sq (pr k E h kont)
theorem xp{id:Nat}{y:Code}{R:Exit->Act->WD->Prop}{ops:Array Oper}{Q:Exit->Act->WD->Prop}{w:WD}{n:Nat}(k:Nat){env env':List (Nat×VL)}{a:Act}(E:Env n a env){l l':List Oper}(h:Ga tb [] l.toArray n k env l=some (env',l'))(kont:∀ a',Env n a' env'->wpList Tryz.prog l.toArray (Exit.then (y.wp Tryz.prog Q) Q) l' a' w):wpList Tryz.prog ops (Exit.then ((Code.seq (.region id l.toArray false) y).wp Tryz.prog Q) R) [] a w:=nx (pr k E h kont)
theorem dz{ops:Array Oper}{Q:Exit->Act->WD->Prop}{w:WD}{a:Act}{os:List Ob}{rs:List Rp}{id:Nat}(cs:List Nat)(is:List Nat)(H:Sep w os rs)(k:∀ w W0,dL (pkl os is) (pkl rs []) W0->Sep w os rs->oN Tryz.prog (dL (pkl os is) (pkl rs [])) ops Q (IV 0 cs) a w)(ho:Kz ops (IV 0 cs)=true:=by kernel_rfl)(hQ:∀ c a w,Q (.panic c) a w->False:=by exact λ_ _ _ h=>False.elim h.2):(Code.region id ops true).wp Tryz.prog Q a w:=dw _ is [] H ho hQ k
abbrev Cf (f:Nat) (l:List VL) (w:WD) (R:VL->WD->Prop):Prop:=Calls Tryz.prog f l.toArray w (Ret R)
abbrev B2:Type:=Int×Bool
abbrev eC:Type:=List BY
abbrev gT:Type:=List aY
abbrev cN:Type:=List aQ
abbrev cT:Type:=List aH
abbrev Iu:Type:=List bL
abbrev Nv:Type:=List D4
abbrev E6:Type:=List bV
abbrev eF:Type:=List aR
abbrev fJ:Type:=List aF
abbrev J3:Type:=List dE
abbrev Dp:Type:=BY×Bool
abbrev Au:Type:=List dA
abbrev Fp:Type:=List ((Int)×Int)
abbrev dO:Type:=List aI
abbrev zB:Type:=(Int)×gI
abbrev Iv:Type:=bC×Int
abbrev mJ:Type:=(Int)×aX
abbrev Dq:Type:=Int×cN
abbrev O1:Type:=eC×Bool
abbrev Wz:Type:=List ((Int×Int)×Int)
abbrev W3:Type:=aG×aG
abbrev Cn:Type:=fJ×Bool
abbrev rK:Type:=List zB
abbrev Iw:Type:=Bool×dO
abbrev eR:Type:=List mJ
abbrev Xa:Type:=aX×fJ
abbrev Su:Type:=cT×eC
abbrev Co:Type:=gT×(List Int)×Bool
abbrev Xb:Type:=cN×cN
abbrev Xc:Type:=cT×cT
abbrev Av:Type:=eF×dO
abbrev DP:Type:=aX×eR
abbrev Sv:Type:=Int×BY×BY×Int×eC
abbrev Nw:Type:=aX×eF×dO
abbrev Ix:Type:=cT×cN×fJ
abbrev Xd:Type:=Int×Int×BY×BY×Int×eC
abbrev Yn:Type:=aX×gT×rK
abbrev SN:Type:=cT×Int×BY×BY×Int×eC
abbrev Uj:Type:=aX×cT×cN×fJ
abbrev SO:Type:=cT×cN×cT×cN
abbrev Z1:Type:=aX×eF×dO×eR
abbrev IZ:Type:=cT×cN×Int×BY×BY×Int×eC
abbrev DQ:Type:=aX×cT×cN×eF×dO
abbrev Yo:Type:=aX×cT×cN×eF×dO×eR
abbrev Uk:Type:=aX×cT×cN×gT×eF×dO×rK
abbrev DS:Type:=aX×cT×cN×fJ×gT×eF×dO×eR×rK×eR
abbrev mP0:=bW Tryz.prog 2 (kyI .i64) bA true
abbrev mP1:=bW Tryz.prog 2 (kyI .i64) cH true
abbrev i_:Int->Value:=.int .i64
theorem d_{α:Type}{x r:α}{f:α->Value}{v:Value}{S:Prop}(m:some x=some r)(h:f x=v)(s:S):f r=v/\S:=by cases m;exact ⟨h,s⟩
theorem op0{e:Value}{S:World->Prop}{G:Value->World->Prop}(k:∀ w,S w->G e w):∀ v w,(e=v/\S w)->G v w:=by rintro _ w ⟨rfl,h⟩;exact k w h
theorem op1.{u0}{t0:Sort u0}{e:t0->Value}{S:t0->World->Prop}{G:Value->World->Prop}(k:∀ x0 w,S x0 w->G (e x0) w):∀ v w,(∃ x0,e x0=v/\S x0 w)->G v w:=by rintro _ w ⟨x0,rfl,h⟩;exact k x0 w h
theorem op2.{u0,u1}{t0:Sort u0}{t1:Sort u1}{e:t0->t1->Value}{S:t0->t1->World->Prop}{G:Value->World->Prop}(k:∀ x0 x1 w,S x0 x1 w->G (e x0 x1) w):∀ v w,(∃ x0 x1,e x0 x1=v/\S x0 x1 w)->G v w:=by rintro _ w ⟨x0,x1,rfl,h⟩;exact k x0 x1 w h
theorem op3.{u0,u1,u2}{t0:Sort u0}{t1:Sort u1}{t2:Sort u2}{e:t0->t1->t2->Value}{S:t0->t1->t2->World->Prop}{G:Value->World->Prop}(k:∀ x0 x1 x2 w,S x0 x1 x2 w->G (e x0 x1 x2) w):∀ v w,(∃ x0 x1 x2,e x0 x1 x2=v/\S x0 x1 x2 w)->G v w:=by rintro _ w ⟨x0,x1,x2,rfl,h⟩;exact k x0 x1 x2 w h
theorem op4.{u0,u1,u2,u3}{t0:Sort u0}{t1:Sort u1}{t2:Sort u2}{t3:Sort u3}{e:t0->t1->t2->t3->Value}{S:t0->t1->t2->t3->World->Prop}{G:Value->World->Prop}(k:∀ x0 x1 x2 x3 w,S x0 x1 x2 x3 w->G (e x0 x1 x2 x3) w):∀ v w,(∃ x0 x1 x2 x3,e x0 x1 x2 x3=v/\S x0 x1 x2 x3 w)->G v w:=by rintro _ w ⟨x0,x1,x2,x3,rfl,h⟩;exact k x0 x1 x2 x3 w h
theorem op6.{u0,u1,u2,u3,u4,u5}{t0:Sort u0}{t1:Sort u1}{t2:Sort u2}{t3:Sort u3}{t4:Sort u4}{t5:Sort u5}{e:t0->t1->t2->t3->t4->t5->Value}{S:t0->t1->t2->t3->t4->t5->World->Prop}{G:Value->World->Prop}(k:∀ x0 x1 x2 x3 x4 x5 w,S x0 x1 x2 x3 x4 x5 w->G (e x0 x1 x2 x3 x4 x5) w):∀ v w,(∃ x0 x1 x2 x3 x4 x5,e x0 x1 x2 x3 x4 x5=v/\S x0 x1 x2 x3 x4 x5 w)->G v w:=by rintro _ w ⟨x0,x1,x2,x3,x4,x5,rfl,h⟩;exact k x0 x1 x2 x3 x4 x5 w h
theorem op8.{u0,u1,u2,u3,u4,u5,u6,u7}{t0:Sort u0}{t1:Sort u1}{t2:Sort u2}{t3:Sort u3}{t4:Sort u4}{t5:Sort u5}{t6:Sort u6}{t7:Sort u7}{e:t0->t1->t2->t3->t4->t5->t6->t7->Value}{S:t0->t1->t2->t3->t4->t5->t6->t7->World->Prop}{G:Value->World->Prop}(k:∀ x0 x1 x2 x3 x4 x5 x6 x7 w,S x0 x1 x2 x3 x4 x5 x6 x7 w->G (e x0 x1 x2 x3 x4 x5 x6 x7) w):∀ v w,(∃ x0 x1 x2 x3 x4 x5 x6 x7,e x0 x1 x2 x3 x4 x5 x6 x7=v/\S x0 x1 x2 x3 x4 x5 x6 x7 w)->G v w:=by rintro _ w ⟨x0,x1,x2,x3,x4,x5,x6,x7,rfl,h⟩;exact k x0 x1 x2 x3 x4 x5 x6 x7 w h
theorem op10.{u0,u1,u2,u3,u4,u5,u6,u7,u8,u9}{t0:Sort u0}{t1:Sort u1}{t2:Sort u2}{t3:Sort u3}{t4:Sort u4}{t5:Sort u5}{t6:Sort u6}{t7:Sort u7}{t8:Sort u8}{t9:Sort u9}{e:t0->t1->t2->t3->t4->t5->t6->t7->t8->t9->Value}{S:t0->t1->t2->t3->t4->t5->t6->t7->t8->t9->World->Prop}{G:Value->World->Prop}(k:∀ x0 x1 x2 x3 x4 x5 x6 x7 x8 x9 w,S x0 x1 x2 x3 x4 x5 x6 x7 x8 x9 w->G (e x0 x1 x2 x3 x4 x5 x6 x7 x8 x9) w):∀ v w,(∃ x0 x1 x2 x3 x4 x5 x6 x7 x8 x9,e x0 x1 x2 x3 x4 x5 x6 x7 x8 x9=v/\S x0 x1 x2 x3 x4 x5 x6 x7 x8 x9 w)->G v w:=by rintro _ w ⟨x0,x1,x2,x3,x4,x5,x6,x7,x8,x9,rfl,h⟩;exact k x0 x1 x2 x3 x4 x5 x6 x7 x8 x9 w h
theorem op12.{u0,u1,u2,u3,u4,u5,u6,u7,u8,u9,u10,u11}{t0:Sort u0}{t1:Sort u1}{t2:Sort u2}{t3:Sort u3}{t4:Sort u4}{t5:Sort u5}{t6:Sort u6}{t7:Sort u7}{t8:Sort u8}{t9:Sort u9}{t10:Sort u10}{t11:Sort u11}{e:t0->t1->t2->t3->t4->t5->t6->t7->t8->t9->t10->t11->Value}{S:t0->t1->t2->t3->t4->t5->t6->t7->t8->t9->t10->t11->World->Prop}{G:Value->World->Prop}(k:∀ x0 x1 x2 x3 x4 x5 x6 x7 x8 x9 x10 x11 w,S x0 x1 x2 x3 x4 x5 x6 x7 x8 x9 x10 x11 w->G (e x0 x1 x2 x3 x4 x5 x6 x7 x8 x9 x10 x11) w):∀ v w,(∃ x0 x1 x2 x3 x4 x5 x6 x7 x8 x9 x10 x11,e x0 x1 x2 x3 x4 x5 x6 x7 x8 x9 x10 x11=v/\S x0 x1 x2 x3 x4 x5 x6 x7 x8 x9 x10 x11 w)->G v w:=by rintro _ w ⟨x0,x1,x2,x3,x4,x5,x6,x7,x8,x9,x10,x11,rfl,h⟩;exact k x0 x1 x2 x3 x4 x5 x6 x7 x8 x9 x10 x11 w h
theorem opr{e:Value}{S:World->Prop}{G:Value->World->Prop}(k:∀ w,S w->G e w):∀ v w,(v=e/\S w)->G v w:=by rintro _ w ⟨rfl,h⟩;exact k w h
end Go.Cb
